/- The statements of octet: the examples hold. -/
import Derived.Test.YtppmjmginpkgaaaRef01b
import Derived.Stop.BytesEq
import Derived.Outline
namespace Go.Proofs.Ytppmjmginpkgaaa
open Go.RowKit

theorem Bs.lit {w : World} {cs : Array Value} {b : Nat} (l : List UInt8) (hb : w.heap.size = b) (hc : cs.toList = bCells l) (hn : l.length ≤ maxLen) : Bs (w.alloc (.cells cs 5)) (.slice (some ⟨b, 0, none⟩) l.length l.length) l := by
  have := Sl.lit (w := w) (cs := cs) (T := 5) (sz := 1) (n := l.length) hb (by rw [hc, bCells_length]; omega) (by rw [hc]; exact bCells_one _) hn
  rw [hc] at this
  exact this

theorem Bs.below {w w' : World} {v : Value} {l : List UInt8} (h : Bs w v l) (hk : Below w.heap.size w w') : Bs w' v l := Sl.below h hk
theorem Bs.alloc {w : World} {v : Value} {l : List UInt8} (h : Bs w v l) (o : Obj) : Bs (w.alloc o) v l := Sl.alloc h o
theorem OwnBs.bs {w : World} {B : Nat} {v : Value} {l : List UInt8} (h : OwnBs w B v l) : Bs w v l := Own.sl h
theorem below_self {w w' : World} {B : Nat} (h : Below B w w') (hs : w.heap.size ≤ B) : Below w.heap.size w w' := h.mono hs

/-- Keys are the same just if each byte is. -/
theorem run_eql_key (w : World) (a b : List UInt8) (ha : a.length = 16) (hb : b.length = 16) : (binOp .eql 48 (keyV a) (keyV b)).run Try.prog w = .ok (.bool (decide (a = b))) w := by
  have h := run_eql_bytes (P := Try.prog) w 48 5 16 Try.underlying48 Try.underlying5 (fun w => by kernel_rfl) a b ha hb
  have e : (a == b) = decide (a = b) := by rw [Bool.eq_iff_iff]; simp
  rw [← e]
  exact h

theorem run_eqIn_key (w : World) (a b : List UInt8) (ha : a.length = 16) (hb : b.length = 16) : (Op.equalIn 10000 48 (.agg (bCells a).toArray) (.agg (bCells b).toArray)).run Try.prog w = .ok (decide (a = b)) w := by
  have h := run_equalIn_bytes (P := Try.prog) w 9998 48 5 16 Try.underlying48 Try.underlying5 (fun w => by kernel_rfl) a b ha hb
  have e : (a == b) = decide (a = b) := by rw [Bool.eq_iff_iff]; simp
  rw [← e]
  exact h

theorem same_b (v u : Value) (a b : List UInt8) (w : World) (ha : Bs w v a) (hb : Bs w u b) :
    Calls Try.prog 26 #[v, u] w fun e w' => e = .returned (.bool (decide (a = b))) ∧ Below w.heap.size w w' :=
  (same_any v u a b w ha hb).mono (by rintro e w' ⟨rfl, n, rfl⟩; exact ⟨rfl, below_drewN (Below.refl _ _) n⟩)
theorem equal_b (v u : Value) (a b : List UInt8) (w : World) (ha : Bs w v a) (hb : Bs w u b) :
    Calls Try.prog 31 #[v, u] w fun e w' => e = .returned (.bool (decide (a = b))) ∧ Below w.heap.size w w' :=
  (equal_any v u a b w ha hb).mono (by rintro e w' ⟨rfl, rfl⟩; exact ⟨rfl, Below.refl _ _⟩)

/-- What alive keeps from call to call. -/
def Al01 (w : World) (kb : Nat) (W : World) : Prop := Below w.heap.size w W ∧ Blk W (w.heap.size + 1) [.int .u8 0, .int .u8 0] 5 ∧ Blk W kb zs16 48
theorem Al01.step {w W W' : World} {kb : Nat} (h : Al01 w kb W) (hb : Below W.heap.size W W') : Al01 w kb W' :=
  ⟨h.1.trans (hb.mono h.1.size), h.2.1.below hb h.2.1.lt, h.2.2.below hb h.2.2.lt⟩
theorem Al01.alloc {w W : World} {kb : Nat} (h : Al01 w kb W) (o : Obj) : Al01 w kb (W.alloc o) := h.step ((Below.refl _ _).alloc (Nat.le_refl _) _)
theorem Al01.drewN {w W : World} {kb : Nat} (h : Al01 w kb W) (n : Nat) : Al01 w kb (W.drewN n) := h.step (below_drewN (Below.refl _ _) n)

set_option maxHeartbeats 1000000 in
set_option maxRecDepth 100000 in
theorem alive01_any (w : World) : Calls Try.prog 23 #[] w fun e w' => e = .returned (.bool true) ∧ Below w.heap.size w w' := by
  have hmk := fun w => mkBytes w 16 16 rfl (by decide)
  simp only [List.replicate, List.toArray] at hmk
  have HMK := Lib.hid hmk
  clear hmk
  go_enter Try.func23, Try.ntmps23
  go_wp2_with fail
  refine (get_any _ [1, 2] _ (Bs.lit [1, 2] rfl rfl (by decide))).mono ?_
  rw [show getB [1, 2] = (258, true) from by decide]
  rintro e w1 ⟨rfl, rfl⟩
  go_wp2_with fail
  refine (zero_any _ 0 2 2 [bV 7, bV 8] _ _ (Blk.at_ (cs := #[bV 7, bV 8]) (by simp)) (by decide)).mono ?_
  rintro e w2 ⟨rfl, hz2, hk2⟩
  have hb2 : Below w.heap.size w w2 := (((Below.refl _ _).alloc (Nat.le_refl _) _).alloc (by simp) _).trans (hk2.below (by omega))
  have hz2' : Blk w2 (w.heap.size + 1) [.int .u8 0, .int .u8 0] 5 := hz2
  have HZ2 := Lib.hid hz2'
  clear hz2 hz2' hk2
  have hmk := HMK.out w2
  go_wp2_with fail
  refine (key_any _ (List.replicate 16 0) _ (Bs.lit (List.replicate 16 0) rfl rfl (by decide))).mono ?_
  rw [show keyB (List.replicate 16 0) = (List.replicate 16 0, true) from by decide]
  rintro e w3 ⟨rfl, hb3⟩
  have hb3' : Below w.heap.size w w3 := (hb2.alloc hb2.size _).trans (hb3.mono (by have := hb2.size; simp; omega))
  have hz3 : Blk w3 (w.heap.size + 1) [.int .u8 0, .int .u8 0] 5 := (HZ2.out.alloc _).below hb3 (by have := HZ2.out.lt; simp; omega)
  have HZ3 := Lib.hid hz3
  have HB3 := Lib.hid hb3'
  clear hb2 hb3 hb3' hz3 hmk
  go_wp2_with ((with_reducible show wpList _ _ _ (⟨none, .store _ (.tmp 4) (.tmp 17), _, _, _, _⟩ :: _) _ _); refine wpList_stAgg rfl (.tmp 4) (.tmp 17) aggKey rfl rfl (vs := bCells (List.replicate 16 0)) rfl rfl (Blk.at_ (cs := zs16.toArray) rfl) (Nat.le_refl _) (bCells_one _) ?_)
  intro w4 h4 k4
  have hal : Al01 w w3.heap.size w4 := by
    refine ⟨(HB3.out.alloc HB3.out.size _).trans (k4.below (by have := HB3.out.size; omega)), ?_, h4⟩
    exact (HZ3.out.alloc _).keep k4 (by have := HZ3.out.lt; omega)
  have HA4 := Lib.hid hal
  clear h4 k4 hal
  go_wp2_with fail
  refine (put_any 258 w4).mono ?_
  rintro e w5 ⟨rfl, ho5, hb5, _⟩
  have HA5 := Lib.hid (HA4.out.step hb5)
  have HO5 := Lib.hid ho5.bs
  clear hb5 ho5
  go_wp2_with fail
  refine (same_b _ _ (putB 258) [0, 0, 0, 0, 0, 0, 1, 2] _ (HO5.out.alloc _) (Bs.lit [0, 0, 0, 0, 0, 0, 1, 2] rfl rfl (by decide))).mono ?_
  rw [show decide (putB 258 = [0, 0, 0, 0, 0, 0, 1, 2]) = true from by decide]
  rintro e w6 ⟨rfl, hbw6⟩
  have HA6 := Lib.hid ((HA5.out.alloc _).step hbw6)
  clear hbw6
  go_wp2_with fail
  refine (short_any 258 w6).mono ?_
  rintro e w7 ⟨v7, rfl, hs7, hb7, _⟩
  obtain ⟨a7, c7, rfl, _⟩ := hs7.form
  have HA7 := Lib.hid (HA6.out.step hb7)
  have HS7 := Lib.hid hs7
  clear hb7 hs7
  go_wp2_with fail
  refine (same_b _ _ (shortB 258) [1, 2] _ (HS7.out.alloc _) (Bs.lit [1, 2] rfl rfl (by decide))).mono ?_
  rw [show decide (shortB 258 = [1, 2]) = true from by decide]
  rintro e w8 ⟨rfl, hbw8⟩
  have HA8 := Lib.hid ((HA7.out.alloc _).step hbw8)
  clear hbw8
  go_wp2_with fail
  refine (equal_b _ _ [1] [1] _ ((Bs.lit [1] rfl rfl (by decide)).alloc _) (Bs.lit [1] (by simp) rfl (by decide))).mono ?_
  rw [show decide (([1] : List UInt8) = [1]) = true from by decide]
  rintro e w9 ⟨rfl, hbw9⟩
  have HA9 := Lib.hid (((HA8.out.alloc _).alloc _).step hbw9)
  clear hbw9
  go_wp2_with fail
  refine (equal_b _ _ [1] [1, 0] _ ((Bs.lit [1] rfl rfl (by decide)).alloc _) (Bs.lit [1, 0] (by simp) rfl (by decide))).mono ?_
  rw [show decide (([1] : List UInt8) = [1, 0]) = false from by decide]
  rintro e w10 ⟨rfl, hbw10⟩
  have HA10 := Lib.hid (((HA9.out.alloc _).alloc _).step hbw10)
  clear hbw10
  have z0 := HA10.out.2.1.cell 0
  have z1 := HA10.out.2.1.cell 1
  have hke : ∀ w, (Op.equalIn 10000 48 (.agg (bCells [0, 0, 0, 0, 0, 0, 0, 0, 0, 0, 0, 0, 0, 0, 0, 0]).toArray) (.agg #[.int .u8 0, .int .u8 0, .int .u8 0, .int .u8 0, .int .u8 0, .int .u8 0, .int .u8 0, .int .u8 0, .int .u8 0, .int .u8 0, .int .u8 0, .int .u8 0, .int .u8 0, .int .u8 0, .int .u8 0, .int .u8 0])).run Try.prog w = .ok true w := fun w => run_eqIn_key w (List.replicate 16 0) (List.replicate 16 0) rfl rfl
  simp only [List.getElem?_cons_zero, List.getElem?_cons_succ] at z0 z1
  go_wp2_with ((with_reducible show wpList _ _ _ (⟨some 61, _, _, _, _, _⟩ :: _) _ _); refine wpList_ldAgg rfl (.tmp 4) aggKey rfl rfl (cs := bCells (List.replicate 16 0)) rfl HA10.out.2.2.cellsAll ?_)
  have hrs : Rs ((((w10.alloc (.cells #[.int .u8 1] 5)).alloc (.cells #[.int .u8 2, .int .u8 3] 5))).alloc (.cells #[.slice (some ⟨w10.heap.size, 0, none⟩) 1 1, .slice none 0 0, .slice (some ⟨w10.heap.size + 1, 0, none⟩) 2 2] 40)) (.slice (some ⟨w10.heap.size + 1 + 1, 0, none⟩) 3 3) [[1], [], [2, 3]] := by
    refine ⟨[.slice (some ⟨w10.heap.size, 0, none⟩) 1 1, .slice none 0 0, .slice (some ⟨w10.heap.size + 1, 0, none⟩) 2 2], rfl, Sl.lit (cs := #[.slice (some ⟨w10.heap.size, 0, none⟩) 1 1, .slice none 0 0, .slice (some ⟨w10.heap.size + 1, 0, none⟩) 2 2]) (by simp) rfl (by simp [Value.oneCell']) (by decide), ?_⟩
    intro j u r hu hr
    match j, hu, hr with
    | 0, hu, hr =>
      simp only [List.getElem?_cons_zero, Option.some.injEq] at hu hr
      subst hu hr
      exact ((Bs.lit [1] rfl rfl (by decide)).alloc _).alloc _
    | 1, hu, hr =>
      simp only [List.getElem?_cons_zero, List.getElem?_cons_succ, Option.some.injEq] at hu hr
      subst hu hr
      exact Sl.nil _ _ _
    | 2, hu, hr =>
      simp only [List.getElem?_cons_zero, List.getElem?_cons_succ, Option.some.injEq] at hu hr
      subst hu hr
      exact (Bs.lit [2, 3] (by simp) rfl (by decide)).alloc _
  refine (joined_any _ [[1], [], [2, 3]] _ hrs (by decide)).mono ?_
  rintro e w11 ⟨v11, rfl, ho11, hb11⟩
  obtain ⟨a11, c11, rfl, _⟩ := ho11.bs.form
  have HA11 := Lib.hid ((((HA10.out.alloc _).alloc _).alloc _).step hb11)
  have HO11 := Lib.hid ho11.bs
  clear ho11 hb11 hrs z0 z1
  go_wp2_with fail
  refine (same_b _ _ [1, 2, 3] [1, 2, 3] _ (HO11.out.alloc _) (Bs.lit [1, 2, 3] rfl rfl (by decide))).mono ?_
  rw [show decide (([1, 2, 3] : List UInt8) = [1, 2, 3]) = true from by decide]
  rintro e w12 ⟨rfl, hb12⟩
  have HA12 := Lib.hid ((HA11.out.alloc _).step hb12)
  clear hb12
  go_wp2_with fail
  go_ret
  exact ⟨rfl, HA12.out.1⟩
end Go.Proofs.Ytppmjmginpkgaaa
