/- Texts of this proof, one behind the other: Name, Name2, ConvS, MTk2, Conv, MMk, MRight, HReg, RegV. -/
import Derived.Test.YtpjkidcfidmfaaaMwB4
import Derived.Test.YtpjkidcfidmfaaaProg
import Derived.Lib.OthersKept
import Derived.Lib.RuneCount
import Derived.Lib.BufferRead
import Derived.Lib.ConvBytes
import Derived.ArgAppend
import Derived.OrdersHeld
namespace Go.Proofs.Ytpjkidcfidmfaaa
set_option linter.unusedSimpArgs false
set_option linter.unusedVariables false
open Go.RowKit
theorem flatten_at {α : Type} {n : Nat} (f : α → List Value) (hf : ∀ x, (f x).length = n) : ∀ (l : List α) (k j : Nat) (h : k < l.length), j < n → ((l.map f).flatten)[k * n + j]? = (f l[k])[j]?
  | [], k, j, h, _ => by simp at h
  | x :: l, 0, j, h, hj => by
    simp only [List.map_cons, List.flatten_cons, Nat.zero_mul, Nat.zero_add, List.getElem_cons_zero]
    rw [List.getElem?_append_left (by rw [hf]; exact hj)]
  | x :: l, k + 1, j, h, hj => by
    simp only [List.map_cons, List.flatten_cons, List.getElem_cons_succ]
    rw [List.getElem?_append_right (by rw [hf, Nat.add_mul]; omega), hf, show (k + 1) * n + j - n = k * n + j by rw [Nat.add_mul]; omega]
    exact flatten_at f hf l k j (by simpa using h) hj
abbrev Sp := Int × Int
def Sp.cells (x : Sp) : List Value := [.int .i32 x.1, .int .i32 x.2]
def spCells (l : List Sp) : List Value := (l.map Sp.cells).flatten
def Sp.has (r : Int) (x : Sp) : Bool := decide (x.1 ≤ r) && decide (r ≤ x.2)
def inB (r : Int) (l : List Sp) : Bool := l.any (Sp.has r)
set_option maxRecDepth 100000 in
theorem in_any (r : Int) (v : Value) (l : List Sp) (w : World) (h : Sl w 2 v l.length (spCells l)) :
    Calls Try.prog 67 #[.int .i32 r, v] w fun e w' => e = .returned (.bool (inB r l)) ∧ Below w.heap.size w w' := by
  obtain ⟨a, cap, rfl, hcap, hcm⟩ := h.form
  unfold maxLen at hcm
  have HS := hqZ h
  have hcl : (spCells l).length = l.length * 2 := h.1
  clear h
  go_enter Try.func67, Try.ntmps67
  go_wp2_with fail
  go_loopw [9] (fun i wr => ∃ k : Nat, k ≤ l.length ∧ i = .int .i64 k ∧ (l.take k).any (Sp.has r) = false ∧ Below w.heap.size w wr) (fun i _ => l.length - (intOf i).toNat)
  case atStart => exact ⟨0, Nat.zero_le _, rfl, rfl, Below.refl _ _⟩
  case round =>
    obtain ⟨k, hk, rfl, hno, hB⟩ := hrel
    have HNO := hqZ hno
    have HB := hqZ hB
    clear hno hB
    by_cases hlt : k < l.length
    · have hlt1 : (k : Int) < (l.length : Int) := by omega
      obtain ⟨b, off, rfl, hcell⟩ := HS.out.addr (by omega)
      have c0 : wr.cell? ⟨b, off + k * 2, none⟩ = some (.int .i32 l[k].1) := below_cell HB.out (hcell _ _ (flatten_at (n := 2) Sp.cells (fun _ => rfl) l k 0 hlt (by omega)))
      have c1 : wr.cell? ⟨b, off + k * 2 + 1, none⟩ = some (.int .i32 l[k].2) := below_cell HB.out (hcell _ _ (flatten_at (n := 2) Sp.cells (fun _ => rfl) l k 1 hlt (by omega)))
      clear hcell
      have HN : Hid (Sp.has r l[k] = false → (l.take (k + 1)).any (Sp.has r) = false) := hqZ (by
        intro h
        rw [List.take_succ_eq_append_getElem hlt, List.any_append, HNO.out]
        simp [h])
      have HY : Hid (Sp.has r l[k] = true → inB r l = true) := hqZ (by
        intro h
        exact List.any_eq_true.2 ⟨l[k], List.getElem_mem hlt, h⟩)
      have hB' : ∀ o, Below w.heap.size w (wr.alloc o) := fun o => HB.out.alloc HB.out.size o
      have HBA := hqZ hB'
      clear hB'
      have HE : Hid (Sp.has r l[k] = (decide (l[k].1 ≤ r) && decide (r ≤ l[k].2))) := hqZ rfl
      generalize l[k] = x at *
      obtain ⟨lo, hi⟩ := x
      by_cases h1 : lo ≤ r
      · by_cases h2 : r ≤ hi
        · go_wp2_with fail
          go_ret
          rw [HY.out (by rw [HE.out]; simp [h1, h2])]
          exact ⟨rfl, HBA.out _⟩
        · go_wp2_with fail
          go_roundw
          case rel => exact ⟨k + 1, by omega, by go_num, HN.out (by rw [HE.out]; simp [h2]), HBA.out _⟩
          case measure => simp [intOf]; omega
      · go_wp2_with fail
        go_roundw
        case rel => exact ⟨k + 1, by omega, by go_num, HN.out (by rw [HE.out]; simp [h1]), HBA.out _⟩
        case measure => simp [intOf]; omega
    · obtain rfl : k = l.length := by omega
      go_wp2_with fail
      go_ret
      have h := HNO.out
      rw [List.take_length] at h
      rw [show inB r l = false from h]
      exact ⟨rfl, HB.out⟩
def letL : List Sp := [(97, 122), (224, 246), (248, 254), (945, 961), (963, 969), (1072, 1103)]
def numL : List Sp := [(48, 57), (45, 45)]
def letB (r : Int) : Bool := inB r letL
def numB (r : Int) : Bool := inB r numL
theorem Sl.spans {w : World} {cs : Array Value} {T : TypeId} {b : Nat} (l : List Sp) (hb : w.heap.size = b) (hc : cs.toList = spCells l) (hl : (spCells l).length = l.length * 2) (h1 : ∀ u ∈ spCells l, u.oneCell' = true) (hn : l.length ≤ maxLen) :
    Sl (w.alloc (.cells cs T)) 2 (.slice (some ⟨b, 0, none⟩) l.length l.length) l.length (spCells l) := by
  have := Sl.lit (w := w) (cs := cs) (T := T) (sz := 2) (n := l.length) hb (by rw [hc]; exact hl) (by rw [hc]; exact h1) hn
  rw [hc] at this
  exact this
theorem letter_any (r : Int) (w : World) :
    Calls Try.prog 66 #[.int .i32 r] w fun e w' => e = .returned (.bool (letB r)) ∧ Below w.heap.size w w' := by
  go_enter Try.func66, Try.ntmps66
  go_wp2_with fail
  refine (in_any r _ letL _ (Sl.spans letL rfl rfl rfl (by decide) (by decide))).mono ?_
  rw [show inB r letL = letB r from rfl]
  rintro e w1 ⟨rfl, hb1⟩
  have HB := hqZ (((Below.refl w.heap.size w).alloc (Nat.le_refl _) _).trans (hb1.mono (by simp)))
  clear hb1
  go_wp2_with fail
  go_ret
  exact ⟨rfl, HB.out⟩
set_option maxHeartbeats 2000000 in
theorem refLetter_any (r s : Int) (w : World) (h0 : -2147483648 ≤ r) (h1 : r ≤ 2147483647) (h2 : 0 ≤ s) (h3 : s ≤ 32) :
    Calls Try.prog 61 #[.int .i64 r, .int .i64 s] w fun e w' => e = .returned (.bool (letB (r + s))) ∧ w = w' := by
  obtain ⟨x, hx⟩ : ∃ x, x = r + s := ⟨_, rfl⟩
  have hw : wrap64 (r + s) = x := by rw [wrap64]; omega
  have HX := hqZ hx
  rw [← hx]
  clear h0 h1 h2 h3 hx
  go_enter Try.func61, Try.ntmps61
  rcases (by omega : x < 97 ∨ (97 ≤ x ∧ x ≤ 122) ∨ (122 < x ∧ x < 224) ∨ (224 ≤ x ∧ x ≤ 246) ∨ (246 < x ∧ x < 248) ∨ (248 ≤ x ∧ x ≤ 254) ∨ (254 < x ∧ x < 945) ∨ (945 ≤ x ∧ x ≤ 961) ∨ (961 < x ∧ x < 963) ∨ (963 ≤ x ∧ x ≤ 969) ∨ (969 < x ∧ x < 1072) ∨ (1072 ≤ x ∧ x ≤ 1103) ∨ 1103 < x) with
    k | ⟨k, k'⟩ | ⟨k, k'⟩ | ⟨k, k'⟩ | ⟨k, k'⟩ | ⟨k, k'⟩ | ⟨k, k'⟩ | ⟨k, k'⟩ | ⟨k, k'⟩ | ⟨k, k'⟩ | ⟨k, k'⟩ | ⟨k, k'⟩ | k <;>
  · have hb : letB x = (decide (97 ≤ x ∧ x ≤ 122 ∨ 224 ≤ x ∧ x ≤ 246 ∨ 248 ≤ x ∧ x ≤ 254 ∨ 945 ≤ x ∧ x ≤ 961 ∨ 963 ≤ x ∧ x ≤ 969 ∨ 1072 ≤ x ∧ x ≤ 1103)) := by
      simp only [letB, inB, letL, List.any_cons, List.any_nil, Sp.has, Bool.or_false, Bool.decide_or, Bool.decide_and]
    first
    | have HL := hqZ (hb.trans (decide_eq_true (by omega)))
    | have HL := hqZ (hb.trans (decide_eq_false (by omega)))
    clear hb
    go_wp2_with fail
    go_ret
    rw [HL.out]
    refine ⟨congrArg (fun b => Ending.returned (Value.bool b)) ?_, rfl⟩
    first
    | rfl
    | (simp [decide_eq_false_iff_not]; omega)
def rsF (s : ByteArray) : Nat → Nat → List (Nat × Int)
  | 0, _ => []
  | f + 1, p => if p < s.size then (p, ((Utf8.decode s p).1 : Int)) :: rsF s f (p + (Utf8.decode s p).2) else []
def rs (s : ByteArray) (p : Nat) : List (Nat × Int) := rsF s (s.size - p) p
theorem rsF_more (s : ByteArray) : ∀ (f f' p : Nat), s.size ≤ p + f → s.size ≤ p + f' → rsF s f p = rsF s f' p
  | 0, 0, _, _, _ => rfl
  | 0, f' + 1, p, h, _ => by simp [rsF, show ¬ p < s.size from by omega]
  | f + 1, 0, p, _, h => by simp [rsF, show ¬ p < s.size from by omega]
  | f + 1, f' + 1, p, h, h' => by
    by_cases hp : p < s.size
    · have := Lib.decode_width_pos s p hp
      simp only [rsF, if_pos hp]
      rw [rsF_more s f f' _ (by omega) (by omega)]
    · simp [rsF, hp]
theorem rs_step (s : ByteArray) (p : Nat) (h : p < s.size) : rs s p = (p, ((Utf8.decode s p).1 : Int)) :: rs s (p + (Utf8.decode s p).2) := by
  have := Lib.decode_width_pos s p h
  unfold rs
  obtain ⟨f, hf⟩ : ∃ f, s.size - p = f + 1 := ⟨s.size - p - 1, by omega⟩
  rw [hf]
  simp only [rsF, if_pos h]
  rw [rsF_more s f (s.size - (p + (Utf8.decode s p).2)) _ (by omega) (by omega)]
theorem rs_end (s : ByteArray) (p : Nat) (h : ¬ p < s.size) : rs s p = [] := by
  unfold rs
  rw [show s.size - p = 0 from by omega]
  rfl
def It (w : World) (k : Nat) (s : ByteArray) (p : Nat) : Prop := w.heap[k]? = some (.stringIter s p)
theorem It.pos {w : World} {k : Nat} {s : ByteArray} {p : Nat} (h : It w k s p) : w.iterPos k = p := by simp [World.iterPos, show w.heap[k]? = _ from h]
theorem It.lt {w : World} {k : Nat} {s : ByteArray} {p : Nat} (h : It w k s p) : k < w.heap.size := block_lt h
theorem It.below {w w' : World} {k B : Nat} {s : ByteArray} {p : Nat} (h : It w k s p) (hb : Below B w w') (hk : k < B) : It w' k s p := (hb.block k hk).trans h
theorem It.keep {w w' : World} {k : Nat} {S : Nat → Prop} {s : ByteArray} {p : Nat} (h : It w k s p) (hb : Keeps S w w') (hk : ¬ S k) : It w' k s p := (hb.block k hk).trans h
theorem It.next {P : Program} {w0 wr : World} {k B : Nat} {s : ByteArray} {pos : Nat} (h : It wr k s pos) (hp : pos < s.size) (hB : Below B w0 wr) (hk : B ≤ k) :
    ∃ W, (∀ ty, (Instr.next (.pointer (some ⟨k, 0, none⟩)) true ty).run P wr = .ok (.tuple #[.bool true, .int .i64 pos, .int .i32 (Utf8.decode s pos).1]) W) ∧ It W k s (pos + (Utf8.decode s pos).2) ∧ Below B w0 W ∧ Keeps (fun j => j = k) wr W :=
  ⟨_, fun ty => Lib.run_next_any_at wr k s pos ty h hp, Lib.iterAt_heap wr k s pos _ h, Lib.below_iterAt hB hk s _,
    ⟨rfl, rfl, rfl, by rw [Lib.iterAt_size]; exact Nat.le_refl _, fun j hj => Lib.iterAt_other wr k j s _ hj⟩⟩
def rightF : List (Nat × Int) → Nat → Bool
  | [], n => decide (1 ≤ n) && decide (n ≤ 16)
  | (i, r) :: l, n => if letB r then rightF l (n + 1) else if i = 0 then false else if numB r then rightF l (n + 1) else false
def rightB (s : ByteArray) : Bool := rightF (rs s 0) 0
set_option maxHeartbeats 1000000 in
set_option maxRecDepth 100000 in
theorem right_any (s : ByteArray) (w : World) (hs : s.size ≤ maxLen) :
    Calls Try.prog 48 #[.string s] w fun e w' => e = .returned (.bool (rightB s)) ∧ Below w.heap.size w w' := by
  unfold maxLen at hs
  go_enter Try.func48, Try.ntmps48
  go_wp2_with fail
  go_loopw [3] (fun n wr => ∃ (pos q : Nat), n = .int .i64 q ∧ It wr w.heap.size s pos ∧ q ≤ pos ∧ Below w.heap.size w wr ∧ rightF (rs s pos) q = rightB s) (fun _ wr => s.size - wr.iterPos w.heap.size)
  case atStart => exact ⟨0, 0, rfl, World.iter_heap w s 0, Nat.le_refl _, (Below.refl _ _).alloc (Nat.le_refl _) _, rfl⟩
  case round =>
    obtain ⟨pos, q, rfl, hit, hq, hB, hR⟩ := hrel
    have HP0 := hqZ hit.pos
    have HR := hqZ hR
    clear hR
    by_cases hp : pos < s.size
    · obtain ⟨W, hnx, hit2, hB2, _⟩ := hit.next (P := Try.prog) hp hB (Nat.le_refl _)
      have hwd := Lib.decode_width_pos s pos hp
      have hstep := rs_step s pos hp
      obtain ⟨c, hc⟩ : ∃ c : Int, c = ((Utf8.decode s pos).1 : Int) := ⟨_, rfl⟩
      obtain ⟨wd, hw⟩ : ∃ wd, wd = (Utf8.decode s pos).2 := ⟨_, rfl⟩
      rw [← hc, ← hw] at hstep
      rw [← hc] at hnx
      rw [← hw] at hit2 hwd
      have HS := hqZ hstep
      have HI := hqZ hit2
      have HB := hqZ hB2
      clear hstep hit2 hB2 hB hit hc hw
      go_wp2_with fail
      refine (letter_any c W).mono ?_
      obtain ⟨L, hL⟩ : ∃ L, L = letB c := ⟨_, rfl⟩
      rw [← hL]
      have HL := hqZ hL
      clear hL
      rintro e w1 ⟨rfl, hb1⟩
      have HI1 := hqZ (HI.out.below hb1 HI.out.lt)
      have HB1 := hqZ (HB.out.trans (hb1.mono HB.out.size))
      clear hb1 HI HB hnx
      cases L with
      | true =>
        have HF : Hid (rightF (rs s (pos + wd)) (q + 1) = rightB s) := hqZ (by
          rw [← HR.out, HS.out, rightF, ← HL.out, if_pos rfl])
        go_wp2_with fail
        go_roundw
        case rel => exact ⟨pos + wd, q + 1, by go_num, HI1.out, by omega, HB1.out, HF.out⟩
        case measure => rw [HI1.out.pos, HP0.out]; omega
      | false =>
        by_cases hp0 : pos = 0
        · subst hp0
          have HF : Hid (rightB s = false) := hqZ (by
            rw [← HR.out, HS.out, rightF, ← HL.out]
            simp)
          go_wp2_with fail
          go_ret
          rw [HF.out]
          exact ⟨rfl, HB1.out⟩
        · have hp1 : ((pos : Int) == 0) = false := by simp; omega
          have HN0 := hqZ hp0
          clear hp0
          go_wp2_with fail
          refine (in_any c _ numL _ (Sl.spans numL rfl rfl rfl (by decide) (by decide))).mono ?_
          obtain ⟨M, hM⟩ : ∃ M, M = numB c := ⟨_, rfl⟩
          rw [show inB c numL = numB c from rfl, ← hM]
          have HM := hqZ hM
          clear hM
          rintro e w2 ⟨rfl, hb2⟩
          have HI2 := hqZ (It.below (It.below HI1.out ((Below.refl w1.heap.size w1).alloc (Nat.le_refl _) _) HI1.out.lt) hb2 (by have := HI1.out.lt; simp; omega))
          have HB2 := hqZ ((HB1.out.alloc HB1.out.size _).trans (hb2.mono (by have := HB1.out.size; simp; omega)))
          clear hb2 HI1 HB1
          cases M with
          | true =>
            have HF : Hid (rightF (rs s (pos + wd)) (q + 1) = rightB s) := hqZ (by
              rw [← HR.out, HS.out, rightF, ← HL.out, ← HM.out]
              simp [HN0.out])
            go_wp2_with fail
            go_roundw
            case rel => exact ⟨pos + wd, q + 1, by go_num, HI2.out, by omega, HB2.out, HF.out⟩
            case measure => rw [HI2.out.pos, HP0.out]; omega
          | false =>
            have HF : Hid (rightB s = false) := hqZ (by
              rw [← HR.out, HS.out, rightF, ← HL.out, ← HM.out]
              simp)
            go_wp2_with fail
            go_ret
            rw [HF.out]
            exact ⟨rfl, HB2.out⟩
    · have hnx : ∀ ty, (Instr.next (.pointer (some ⟨w.heap.size, 0, none⟩)) true ty).run Try.prog wr = .ok (.tuple #[.bool false]) wr := fun ty => Lib.run_next_end_at wr _ s pos ty hit hp
      have HF : Hid (rightB s = (decide (1 ≤ q) && decide (q ≤ 16))) := hqZ (by rw [← HR.out, rs_end s pos hp, rightF])
      have HB := hqZ hB
      clear hB hit
      rcases (by omega : q < 1 ∨ (1 ≤ q ∧ q ≤ 16) ∨ 16 < q) with h | ⟨h, h'⟩ | h
      · have h1 : ¬ (1 : Int) ≤ (q : Int) := by omega
        have HG := hqZ (HF.out.trans (show _ = false by rw [decide_eq_false (by omega : ¬ 1 ≤ q)]; rfl))
        clear h
        go_wp2_with fail
        go_ret
        rw [HG.out]
        exact ⟨rfl, HB.out⟩
      · have h1 : (1 : Int) ≤ (q : Int) := by omega
        have h2 : (q : Int) ≤ 16 := by omega
        have HG := hqZ (HF.out.trans (show _ = true by rw [decide_eq_true h, decide_eq_true h']; rfl))
        clear h h'
        go_wp2_with fail
        go_ret
        rw [HG.out]
        exact ⟨rfl, HB.out⟩
      · have h1 : (1 : Int) ≤ (q : Int) := by omega
        have h2 : ¬ (q : Int) ≤ 16 := by omega
        have HG := hqZ (HF.out.trans (show _ = false by rw [decide_eq_false (by omega : ¬ q ≤ 16)]; simp))
        clear h
        go_wp2_with fail
        go_ret
        rw [HG.out]
        exact ⟨rfl, HB.out⟩
def tx (l : List UInt8) : ByteArray := ⟨l.toArray⟩
theorem tx_size (l : List UInt8) : (tx l).size = l.length := by simp [tx, ByteArray.size]
theorem run_convS (w : World) (v : Value) (l : List UInt8) (h : Bs w v l) : (convert 22 9 v).run Try.prog w = .ok (.string (tx l)) w := by
  obtain ⟨a, cap, rfl, hcap, hm⟩ := h.form
  by_cases h0 : l.length = 0
  · obtain rfl : l = [] := List.eq_nil_of_length_eq_zero h0
    cases a with
    | none => exact Lib.run_convert_nil_bytes w _ _ _ cap Try.underlying22 Try.underlying5 Try.underlying9
    | some a => exact run_convert_bytes_back w _ _ _ a cap [] Try.underlying22 Try.underlying5 Try.underlying9 (fun j hj => by simp at hj)
  · obtain ⟨b, off, rfl, hc⟩ := h.addr (by rw [bCells_length]; omega)
    refine run_convert_bytes_back w _ _ _ ⟨b, off, none⟩ cap l Try.underlying22 Try.underlying5 Try.underlying9 (fun j hj => ?_)
    rw [Addr.add_lit]
    exact hc j _ (bCells_get l j hj)
theorem fld_n (a b c d e : Value) (w : World) : (Instr.field 38 (.agg #[a, b, c, d, e]) 2).run Try.prog w = .ok c w := by kernel_rfl
theorem fld_b (a b c d e : Value) (w : World) : (Instr.field 38 (.agg #[a, b, c, d, e]) 3).run Try.prog w = .ok d w := by kernel_rfl
theorem fld_l (a b c d e : Value) (w : World) : (Instr.field 38 (.agg #[a, b, c, d, e]) 4).run Try.prog w = .ok e w := by kernel_rfl
def maxT : Nat := 1099511627776
def numS (rem : List Tv) (bad : Bool) : Nat × List Tv × Bool :=
  if maxT < (nextS 0 rem bad).1.n then (0, (nextS 0 rem bad).2.1, true) else ((nextS 0 rem bad).1.n, (nextS 0 rem bad).2)
def nameS (rem : List Tv) (bad : Bool) : List UInt8 × List Tv × Bool :=
  ((nextS 1 rem bad).1.b, (nextS 1 rem bad).2.1, if rightB (tx (nextS 1 rem bad).1.b) = true then (nextS 1 rem bad).2.2 else true)
def keyS (rem : List Tv) (bad : Bool) : List UInt8 × List Tv × Bool :=
  ((keyB (nextS 1 rem bad).1.b).1, (nextS 1 rem bad).2.1, if (keyB (nextS 1 rem bad).1.b).2 = true then (nextS 1 rem bad).2.2 else true)
def truthS (rem : List Tv) (bad : Bool) : Bool × List Tv × Bool :=
  ((nextS 0 rem bad).1.n == 1, (nextS 0 rem bad).2.1, if 1 < (nextS 0 rem bad).1.n then true else (nextS 0 rem bad).2.2)
def bytesS (rem : List Tv) (bad : Bool) : List UInt8 × List Tv × Bool := ((nextS 1 rem bad).1.b, (nextS 1 rem bad).2)
def TkRes (w : World) (F : Nat → Prop) (p : Nat) (v : Value) (r : List Tv × Bool) (e : Ending) (w' : World) : Prop :=
  e = .returned v ∧ Tk w' F p r.1 r.2 ∧ Keeps (fun b => b = p ∨ w.heap.size ≤ b) w w'
theorem Tk.bad {w : World} {F : Nat → Prop} {p : Nat} {rem : List Tv} {bad : Bool} (h : Tk w F p rem bad) : Tk (w.setCell ⟨p, 1, none⟩ (.bool true)) F p rem true ∧ Keeps (fun b => b = p ∨ w.heap.size ≤ b) w (w.setCell ⟨p, 1, none⟩ (.bool true)) := by
  have hk : Keeps (fun b => b = p) w (w.setCell ⟨p, 1, none⟩ (.bool true)) := Keeps.one w p 1 _
  obtain ⟨lv, rows, h1, h2, h3, h4, h5⟩ := h
  have hs : ∀ b, F b → b < w.heap.size → ¬ (b = p) := fun b hb _ e => h5 (by rw [← e]; exact hb)
  exact ⟨⟨lv, rows, h1.set 1 (.bool true), h2.keepF hk h3 hs, h3, h4.keep hk hs, h5⟩, hk.mono (fun _ h => .inl h)⟩
theorem Tk.badCell {w : World} {F : Nat → Prop} {p : Nat} {rem : List Tv} {bad : Bool} (h : Tk w F p rem bad) : w.cell? ⟨p, 1, none⟩ = some (.bool bad) ∧ w.frozen? ⟨p, 1, none⟩ = false := by
  obtain ⟨lv, rows, h1, h2, h3, h4, h5⟩ := h
  exact ⟨h1.cell 1, h1.frozen 1⟩
theorem keeps2 {S : Nat → Prop} {p : Nat} {w w1 w2 : World} (hS : ∀ b, S b ↔ (b = p ∨ w.heap.size ≤ b)) (h : Keeps S w w1) (k : Keeps (fun b => b = p ∨ w1.heap.size ≤ b) w1 w2) : Keeps S w w2 :=
  h.trans (k.mono (fun b hb => (hS b).2 (by rcases hb with h' | h'; exact .inl h'; exact .inr (Nat.le_trans h.size h'))))
set_option maxHeartbeats 2000000 in
set_option maxRecDepth 100000 in
theorem num_any (rem : List Tv) (bad : Bool) (p : Nat) (F : Nat → Prop) (w : World) (h : Tk w F p rem bad) :
    Calls Try.prog 36 #[.pointer (some ⟨p, 0, none⟩)] w (TkRes w F p (.int .i64 (numS rem bad).1) (numS rem bad).2) := by
  go_enter Try.func36, Try.ntmps36
  go_wp2_with fail
  refine (next_any 0 rem bad p F w h).mono ?_
  rintro e w1 ⟨cs, rfl, hx, ht, hk⟩
  obtain ⟨bv, lv, rows, rfl, hb1, hb2, hb3, hb4, hb5⟩ := hx.open_
  obtain ⟨al, cl, rfl, hcl, hml⟩ := hb3.form
  obtain ⟨ab, cb0, rfl, hcb, hmb⟩ := hb1.form
  have HT := hqZ ht
  have HK := hqZ hk
  obtain ⟨cb, fb⟩ := ht.badCell
  have hf2 := fld_n
  have hf3 := fld_b
  have HS : Hid (numS rem bad = if maxT < (nextS 0 rem bad).1.n then (0, (nextS 0 rem bad).2.1, true) else ((nextS 0 rem bad).1.n, (nextS 0 rem bad).2)) := hqZ rfl
  generalize nextS 0 rem bad = r at *
  obtain ⟨x, r1, r2⟩ := r
  simp only at *
  clear hx ht hk hb1 hb2 hb3 hb4 hb5
  generalize x.n = n at *
  by_cases hn : maxT < n
  · have hn' : (1099511627776 : Int) < n := by unfold maxT at hn; omega
    have HS' : Hid (numS rem bad = (0, r1, true)) := hqZ (by rw [HS.out, if_pos hn])
    clear hn
    go_wp2_with fail
    go_ret
    rw [HS'.out]
    exact ⟨rfl, HT.out.bad.1, keeps2 (fun b => Iff.rfl) HK.out HT.out.bad.2⟩
  · have hn' : ¬ (1099511627776 : Int) < n := by unfold maxT at hn; omega
    have HS' : Hid (numS rem bad = (n, r1, r2)) := hqZ (by rw [HS.out, if_neg hn])
    have hw : IntKind.i64.wrap (n : Int) = n := by unfold maxT at hn; simp only [IntKind.wrap_i64]; omega
    clear hn
    go_wp2_with fail
    go_ret
    rw [HS'.out]
    exact ⟨rfl, HT.out, HK.out⟩
set_option maxHeartbeats 2000000 in
set_option maxRecDepth 100000 in
theorem truth_any (rem : List Tv) (bad : Bool) (p : Nat) (F : Nat → Prop) (w : World) (h : Tk w F p rem bad) :
    Calls Try.prog 39 #[.pointer (some ⟨p, 0, none⟩)] w (TkRes w F p (.bool (truthS rem bad).1) (truthS rem bad).2) := by
  go_enter Try.func39, Try.ntmps39
  go_wp2_with fail
  refine (next_any 0 rem bad p F w h).mono ?_
  rintro e w1 ⟨cs, rfl, hx, ht, hk⟩
  obtain ⟨bv, lv, rows, rfl, hb1, hb2, hb3, hb4, hb5⟩ := hx.open_
  obtain ⟨al, cl, rfl, hcl, hml⟩ := hb3.form
  obtain ⟨ab, cb0, rfl, hcb, hmb⟩ := hb1.form
  have HT := hqZ ht
  have HK := hqZ hk
  obtain ⟨cb, fb⟩ := ht.badCell
  have hf2 := fld_n
  have hf3 := fld_b
  have HS : Hid (truthS rem bad = ((nextS 0 rem bad).1.n == 1, (nextS 0 rem bad).2.1, if 1 < (nextS 0 rem bad).1.n then true else (nextS 0 rem bad).2.2)) := hqZ rfl
  generalize nextS 0 rem bad = r at *
  obtain ⟨x, r1, r2⟩ := r
  simp only at *
  clear hx ht hk hb1 hb2 hb3 hb4 hb5
  generalize x.n = n at *
  have hq : Hid (((n : Int) == 1) = (n == 1)) := hqZ (by rw [Bool.eq_iff_iff]; simp; omega)
  by_cases hn : 1 < n
  · have hn' : (1 : Int) < n := by omega
    have HS' : Hid (truthS rem bad = (n == 1, r1, true)) := hqZ (by rw [HS.out, if_pos hn])
    clear hn
    go_wp2_with fail
    go_ret
    rw [HS'.out, ← hq.out]
    exact ⟨rfl, HT.out.bad.1, keeps2 (fun b => Iff.rfl) HK.out HT.out.bad.2⟩
  · have hn' : ¬ (1 : Int) < n := by omega
    have HS' : Hid (truthS rem bad = (n == 1, r1, r2)) := hqZ (by rw [HS.out, if_neg hn])
    clear hn
    go_wp2_with fail
    go_ret
    rw [HS'.out, ← hq.out]
    exact ⟨rfl, HT.out, HK.out⟩
set_option maxHeartbeats 2000000 in
set_option maxRecDepth 100000 in
theorem name_any (rem : List Tv) (bad : Bool) (p : Nat) (F : Nat → Prop) (w : World) (h : Tk w F p rem bad) :
    Calls Try.prog 35 #[.pointer (some ⟨p, 0, none⟩)] w (TkRes w F p (.string (tx (nameS rem bad).1)) (nameS rem bad).2) := by
  go_enter Try.func35, Try.ntmps35
  go_wp2_with fail
  refine (next_any 1 rem bad p F w h).mono ?_
  rintro e w1 ⟨cs, rfl, hx, ht, hk⟩
  obtain ⟨bv, lv, rows, rfl, hb1, hb2, hb3, hb4, hb5⟩ := hx.open_
  obtain ⟨al, cl, rfl, hcl, hml⟩ := hb3.form
  obtain ⟨ab, cb0, rfl, hcb, hmb⟩ := hb1.form
  have HT := hqZ ht
  have HK := hqZ hk
  obtain ⟨cb, fb⟩ := ht.badCell
  have hf2 := fld_n
  have hf3 := fld_b
  have HS : Hid (nameS rem bad = ((nextS 1 rem bad).1.b, (nextS 1 rem bad).2.1, if rightB (tx (nextS 1 rem bad).1.b) = true then (nextS 1 rem bad).2.2 else true)) := hqZ rfl
  generalize nextS 1 rem bad = r at *
  obtain ⟨x, r1, r2⟩ := r
  simp only at *
  have HB := hqZ hb1
  have HR := hqZ (right_any (tx x.b) w1 (by rw [tx_size]; omega))
  clear hx ht hk hb1 hb2 hb3 hb4 hb5
  generalize x.b = l at *
  have hcv := run_convS w1 _ l HB.out
  go_wp2_with fail
  refine HR.out.mono ?_
  rintro e w2 ⟨rfl, hb2⟩
  have HT2 := hqZ (HT.out.below hb2)
  have HK2 : Hid (Keeps (fun b => b = p ∨ w.heap.size ≤ b) w w2) := hqZ (HK.out.trans ((Keeps.of_below hb2).mono (fun b hb => .inr (Nat.le_trans HK.out.size hb))))
  obtain ⟨cb, fb⟩ := HT2.out.badCell
  clear hb2 HB HR
  obtain ⟨d, hd⟩ : ∃ d, d = rightB (tx l) := ⟨_, rfl⟩
  rw [← hd] at HS ⊢
  clear hd
  cases d with
  | false =>
    go_wp2_with fail
    go_ret
    rw [HS.out]
    exact ⟨rfl, HT2.out.bad.1, keeps2 (fun b => Iff.rfl) HK2.out HT2.out.bad.2⟩
  | true =>
    go_wp2_with fail
    go_ret
    rw [HS.out]
    exact ⟨rfl, HT2.out, HK2.out⟩
set_option maxHeartbeats 2000000 in
set_option maxRecDepth 100000 in
theorem bytes_any (rem : List Tv) (bad : Bool) (p : Nat) (F : Nat → Prop) (w : World) (h : Tk w F p rem bad) :
    Calls Try.prog 37 #[.pointer (some ⟨p, 0, none⟩)] w fun e w' => ∃ v, TkRes w F p v (bytesS rem bad).2 e w' ∧ Bs w' v (bytesS rem bad).1 ∧ (0 < (bytesS rem bad).1.length → ∀ x, v.ownBlock = some x → F x) := by
  go_enter Try.func37, Try.ntmps37
  go_wp2_with fail
  refine (next_any 1 rem bad p F w h).mono ?_
  rintro e w1 ⟨cs, rfl, hx, ht, hk⟩
  obtain ⟨bv, lv, rows, rfl, hb1, hb2, hb3, hb4, hb5⟩ := hx.open_
  obtain ⟨al, cl, rfl, hcl, hml⟩ := hb3.form
  obtain ⟨ab, cb0, rfl, hcb, hmb⟩ := hb1.form
  have HT := hqZ ht
  have HK := hqZ hk
  obtain ⟨cb, fb⟩ := ht.badCell
  have hf2 := fld_n
  have hf3 := fld_b
  clear hb3 hb4 hb5
  have HB := hqZ hb1
  have HB2 := hqZ hb2
  clear hx ht hk hb1 hb2
  go_wp2_with fail
  go_ret
  exact ⟨_, ⟨rfl, HT.out, HK.out⟩, HB.out, HB2.out⟩
set_option maxRecDepth 100000 in
theorem done_any (rem : List Tv) (bad : Bool) (p : Nat) (F : Nat → Prop) (w : World) (h : Tk w F p rem bad) :
    Calls Try.prog 41 #[.pointer (some ⟨p, 0, none⟩)] w fun e w' => e = .returned (.bool (!bad && rem.isEmpty)) ∧ w = w' := by
  obtain ⟨lv, rows, h1, h2, h3, h4, h5⟩ := h
  obtain ⟨a, cap, rfl, hcap, hm⟩ := h2.form
  have c0 := h1.cell 0
  have c1 : w.cell? ⟨p, 1, none⟩ = some (.bool bad) := h1.cell 1
  simp only [List.getElem?_cons_zero] at c0
  have HR : Hid ((((rem.length : Nat) : Int) == 0) = rem.isEmpty) := hqZ (by cases rem <;> simp <;> omega)
  clear h1 h2 h3 h4 h5
  cases bad with
  | true =>
    go_enter Try.func41, Try.ntmps41
    go_wp2_with fail
    go_ret
    exact ⟨rfl, rfl⟩
  | false =>
    go_enter Try.func41, Try.ntmps41
    go_wp2_with fail
    go_ret
    rw [HR.out]
    exact ⟨rfl, rfl⟩
set_option maxHeartbeats 2000000 in
set_option maxRecDepth 100000 in
theorem key_tk' (rem : List Tv) (bad : Bool) (p : Nat) (F : Nat → Prop) (w : World) (h : Tk w F p rem bad) (hF : ¬ F w.heap.size) :
    Calls Try.prog 68 #[.pointer (some ⟨p, 0, none⟩)] w (TkRes w F p (keyV (keyS rem bad).1) (keyS rem bad).2) := by
  have hpl := h.lt
  have HQ0 := hqZ (Blk.new w zs16 119)
  have hB0 : Below w.heap.size w (w.alloc (.cells zs16.toArray 119)) := (Below.refl _ _).alloc (Nat.le_refl _) _
  have HB0 := hqZ hB0
  have HN := hqZ (next_any 1 rem bad p F _ (h.below hB0))
  have HF := hqZ hF
  clear hF
  have HPN : Hid (p ≠ w.heap.size) := hqZ (by omega)
  clear hB0 h
  go_enter Try.func68, Try.ntmps68
  go_wp2_with fail
  refine HN.out.mono ?_
  rintro e w1 ⟨cs, rfl, hx, ht, hk⟩
  obtain ⟨bv, lv, rows, rfl, hb1, hb2, hb3, hb4, hb5⟩ := hx.open_
  obtain ⟨al, cl, rfl, hcl, hml⟩ := hb3.form
  obtain ⟨ab, cb0, rfl, hcb, hmb⟩ := hb1.form
  have hf2 := fld_n
  have hf3 := fld_b
  have HT := hqZ ht
  have HK : Hid (Keeps (fun b => b = p ∨ w.heap.size ≤ b) w w1) := hqZ (((Keeps.of_below HB0.out).mono (fun b hb => .inr hb)).trans (hk.mono (fun b hb => by rcases hb with h | h; exact .inl h; exact .inr (by simp at h; omega))))
  have HQ1 := hqZ (HQ0.out.keep hk (fun h => by rcases h with h | h; exact HPN.out h.symm; simp at h; omega))
  have HZ : Hid (w.heap.size < w1.heap.size) := hqZ HQ1.out.lt
  have HS : Hid (keyS rem bad = ((keyB (nextS 1 rem bad).1.b).1, (nextS 1 rem bad).2.1, if (keyB (nextS 1 rem bad).1.b).2 = true then (nextS 1 rem bad).2.2 else true)) := hqZ rfl
  generalize nextS 1 rem bad = r at *
  obtain ⟨x, r1, r2⟩ := r
  simp only at *
  have HR := hqZ (key_any _ x.b w1 hb1)
  clear hx ht hk hb1 hb2 hb3 hb4 hb5 HQ0 HB0 HN
  generalize x.b = l at *
  go_wp2_with fail
  refine HR.out.mono ?_
  rintro e w2 ⟨rfl, hb2⟩
  have HL : Hid ((keyB l).1.length = 16) := hqZ (keyB_length l)
  generalize keyB l = kk at *
  obtain ⟨k, d⟩ := kk
  simp only at *
  obtain ⟨q1, hq1⟩ : ∃ q1, q1 = w2.heap.size := ⟨_, rfl⟩
  have HT2 := hqZ (HT.out.below hb2)
  have HG : Hid (Blk (w2.alloc (.cells zs16.toArray 119)) w2.heap.size zs16 119) := hqZ (Blk.new _ _ _)
  have HQ2 : Hid (Blk (w2.alloc (.cells zs16.toArray 119)) w.heap.size zs16 119) := hqZ ((HQ1.out.below hb2 HZ.out).alloc _)
  have HK2 : Hid (Keeps (fun b => b = p ∨ w.heap.size ≤ b) w (w2.alloc (.cells zs16.toArray 119))) := hqZ ((HK.out.trans ((Keeps.of_below hb2).mono (fun b hb => .inr (Nat.le_trans HK.out.size hb)))).alloc _ (.inr (Nat.le_trans HK.out.size hb2.size)))
  have HNE : Hid (p ≠ w2.heap.size ∧ w.heap.size ≠ w2.heap.size ∧ w.heap.size ≤ w2.heap.size) := hqZ (by have := HZ.out; have := hb2.size; exact ⟨by omega, by omega, by omega⟩)
  clear hb2 HR
  go_wp2_with ((with_reducible show wpList _ _ _ (⟨none, .store _ (.tmp 3) (.tmp 10), _, _, _, _⟩ :: _) _ _); refine wpList_stAgg rfl (.tmp 3) (.tmp 10) aggKey rfl rfl (vs := bCells k) rfl (by rw [bCells_length]; exact HL.out) HG.out (by simp [zs16]) (bCells_one k) ?_)
  intro w3 h3 k3
  have H3 : Hid (Blk w3 w2.heap.size (bCells k) 119) := hqZ (by simpa [zs16] using h3)
  have HT3 := hqZ (HT2.out.below (((Below.refl w2.heap.size w2).alloc (Nat.le_refl _) _).trans (k3.below (fun b hb => Nat.le_of_eq hb.symm))))
  have HQ3 := hqZ (HQ2.out.keep k3 HNE.out.2.1)
  have HK3 : Hid (Keeps (fun b => b = p ∨ w.heap.size ≤ b) w w3) := hqZ (HK2.out.trans (k3.mono (fun b hb => .inr (by rw [hb]; exact HNE.out.2.2))))
  obtain ⟨cb, fb⟩ := HT3.out.badCell
  clear h3 k3
  clear hq1
  generalize w2.heap.size = q1 at *
  have hend : ∀ W : World, Tk W F p r1 (if d = true then r2 else true) → Blk W w.heap.size zs16 119 → Blk W q1 (bCells k) 119 → Keeps (fun b => b = p ∨ w.heap.size ≤ b) w W → True := fun _ _ _ _ _ => trivial
  clear hend
  cases d with
  | false =>
    have HT4 := hqZ HT3.out.bad.1
    have HQ4 := hqZ (HQ3.out.set_other (p := ⟨p, 1, none⟩) (fun e => HPN.out e.symm) (.bool true))
    have H4 := hqZ (H3.out.set_other (p := ⟨p, 1, none⟩) (fun e => HNE.out.1 e.symm) (.bool true))
    have HK4 := hqZ (keeps2 (fun b => Iff.rfl) HK3.out HT3.out.bad.2)
    go_wp2_with (first | ((with_reducible show wpList _ _ _ (⟨some 17, _, _, _, _, _⟩ :: _) _ _); refine wpList_ldAgg rfl (.tmp 3) aggKey rfl rfl (cs := bCells k) (by rw [bCells_length]; exact HL.out) H4.out.cellsAll ?_) | ((with_reducible show wpList _ _ _ (⟨none, .store _ (.tmp 2) (.tmp 17), _, _, _, _⟩ :: _) _ _); refine wpList_stAgg rfl (.tmp 2) (.tmp 17) aggKey rfl rfl (vs := bCells k) rfl (by rw [bCells_length]; exact HL.out) HQ4.out (by simp [zs16]) (bCells_one k) ?_))
    intro w5 h5 k5
    have H5 : Hid (Blk w5 w.heap.size (bCells k) 119) := hqZ (by simpa [zs16] using h5)
    have HT5 := hqZ (HT4.out.keep k5 (fun b hb hl e => HF.out (by rw [← e]; exact hb)) HPN.out)
    have HK5 : Hid (Keeps (fun b => b = p ∨ w.heap.size ≤ b) w w5) := hqZ (HK4.out.trans (k5.mono (fun b hb => .inr (Nat.le_of_eq hb.symm))))
    clear h5 k5
    go_wp2_with fail
    exact bodyPost_ret (results_agg rfl aggKey rfl (cs := bCells k) (by rw [bCells_length]; exact HL.out) H5.out.cellsAll) rfl ⟨by rw [HS.out]; rfl, by rw [HS.out]; exact HT5.out, HK5.out⟩
  | true =>
    go_wp2_with (first | ((with_reducible show wpList _ _ _ (⟨some 17, _, _, _, _, _⟩ :: _) _ _); refine wpList_ldAgg rfl (.tmp 3) aggKey rfl rfl (cs := bCells k) (by rw [bCells_length]; exact HL.out) H3.out.cellsAll ?_) | ((with_reducible show wpList _ _ _ (⟨none, .store _ (.tmp 2) (.tmp 17), _, _, _, _⟩ :: _) _ _); refine wpList_stAgg rfl (.tmp 2) (.tmp 17) aggKey rfl rfl (vs := bCells k) rfl (by rw [bCells_length]; exact HL.out) HQ3.out (by simp [zs16]) (bCells_one k) ?_))
    intro w5 h5 k5
    have H5 : Hid (Blk w5 w.heap.size (bCells k) 119) := hqZ (by simpa [zs16] using h5)
    have HT5 := hqZ (HT3.out.keep k5 (fun b hb hl e => HF.out (by rw [← e]; exact hb)) HPN.out)
    have HK5 : Hid (Keeps (fun b => b = p ∨ w.heap.size ≤ b) w w5) := hqZ (HK3.out.trans (k5.mono (fun b hb => .inr (Nat.le_of_eq hb.symm))))
    clear h5 k5
    go_wp2_with fail
    exact bodyPost_ret (results_agg rfl aggKey rfl (cs := bCells k) (by rw [bCells_length]; exact HL.out) H5.out.cellsAll) rfl ⟨by rw [HS.out]; rfl, by rw [HS.out]; exact HT5.out, HK5.out⟩
theorem Tk.tight {w : World} {F : Nat → Prop} {p : Nat} {rem : List Tv} {bad : Bool} (h : Tk w F p rem bad) : Tk w (fun y => F y ∧ y < w.heap.size) p rem bad := by
  obtain ⟨lv, rows, h1, h2, h3, h4, h5⟩ := h
  exact ⟨lv, rows, h1, h2, fun hp x hx => ⟨h3 hp x hx, Sl.own_lt h2 (by decide) hp x hx⟩, h4.tight, fun h => h5 h.1⟩
theorem Tk.mono {w : World} {F G : Nat → Prop} {p : Nat} {rem : List Tv} {bad : Bool} (h : Tk w F p rem bad) (hg : ∀ b, F b → G b) (hp : ¬ G p) : Tk w G p rem bad := by
  obtain ⟨lv, rows, h1, h2, h3, h4, h5⟩ := h
  exact ⟨lv, rows, h1, h2, fun hp x hx => hg x (h3 hp x hx), h4.mono hg, hp⟩
theorem Tk.notF {w : World} {F : Nat → Prop} {p : Nat} {rem : List Tv} {bad : Bool} (h : Tk w F p rem bad) : ¬ F p := by
  obtain ⟨lv, rows, h1, h2, h3, h4, h5⟩ := h
  exact h5
theorem key_tk (rem : List Tv) (bad : Bool) (p : Nat) (F : Nat → Prop) (w : World) (h : Tk w F p rem bad) :
    Calls Try.prog 68 #[.pointer (some ⟨p, 0, none⟩)] w (TkRes w F p (keyV (keyS rem bad).1) (keyS rem bad).2) :=
  (key_tk' rem bad p _ w h.tight (fun h => Nat.lt_irrefl _ h.2)).mono fun _ _ ⟨h1, h2, h3⟩ => ⟨h1, h2.mono (fun _ h => h.1) h.notF, h3⟩
def Cv (w : World) (g n cap : Nat) (cs : List Value) : Prop :=
  cs.length = n ∧ (∀ u ∈ cs, u.oneCell' = true) ∧ n ≤ cap ∧ cap ≤ maxLen ∧ ∃ cur : Array Value, w.heap[g]? = some (.cells cur 5 (cur.size, cur.size + 1)) ∧ cur.size = cap ∧ cur.toList.take n = cs
theorem Cv.sl {w : World} {g n cap : Nat} {cs : List Value} (h : Cv w g n cap cs) : Sl w 1 (.slice (some ⟨g, 0, none⟩) n cap) n cs := by
  obtain ⟨h1, h2, h3, h4, cur, h5, h6, h7⟩ := h
  refine ⟨by omega, h2, _, cap, rfl, h3, h4, fun h => by simp at h, .inr ⟨g, 0, rfl, fun j u hj => ?_⟩⟩
  have hjl : j < n := by have := (List.getElem?_eq_some_iff.1 hj).1; omega
  rw [← h7, List.getElem?_take, if_pos hjl] at hj
  rw [Nat.zero_add, cell_of_row w g j cur _ _ h5, ← Array.getElem?_toList]
  exact hj
theorem Cv.below {w w' : World} {g n cap : Nat} {cs : List Value} (h : Cv w g n cap cs) (hk : Below w.heap.size w w') : Cv w' g n cap cs := by
  obtain ⟨h1, h2, h3, h4, cur, h5, h6, h7⟩ := h
  exact ⟨h1, h2, h3, h4, cur, (hk.block g (block_lt h5)).trans h5, h6, h7⟩
theorem Cv.alloc {w : World} {g n cap : Nat} {cs : List Value} (h : Cv w g n cap cs) (o : Obj) : Cv (w.alloc o) g n cap cs := h.below ((Below.refl _ _).alloc (Nat.le_refl _) _)
theorem run_conv (w : World) (s : ByteArray) (hs : s.size ≤ 281474976710656) : ∃ cap w', (convert 9 22 (.string s)).run Try.prog w = .ok (.slice (some ⟨w.heap.size, 0, none⟩) s.size cap) w' ∧
    Cv w' w.heap.size s.size cap (bCells s.data.toList) ∧ Below w.heap.size w w' ∧ w'.heap.size = w.heap.size + 1 := by
  have hge := grownCap_ge w s.size 0 5
  have hle := grownCap_le_maxLen w s.size 0 5 (by unfold maxLen; omega)
  have hl : s.data.toList.length = s.size := rfl
  refine ⟨_, _, Lib.run_convert_string_bytes w 9 22 5 s Try.underlying9 Try.underlying22 Try.underlying5, ⟨by rw [bCells_length, hl], bCells_one _, hge, hle, Lib.bytesCells w 5 s, Lib.bytesWorld_at_new w _ s, ?_, ?_⟩, ⟨?_, ?_, ?_, ?_, fun k hk => Lib.bytesWorld_at_old w _ s k hk⟩, Lib.bytesWorld_size w _ s⟩
  · simp only [Lib.bytesCells, Array.size_append, Array.size_map, Array.size_replicate]
    rw [show s.data.size = s.size from rfl]
    omega
  · simp only [Lib.bytesCells, Array.toList_append, Array.toList_map]
    rw [List.take_append_of_le_length (by simp), List.take_of_length_le (by simp)]
    rfl
  · rfl
  · rfl
  · rfl
  · rw [Lib.bytesWorld_size]; omega
theorem wpList_conv {ops : Array Oper} {rest : List Oper} {o : Oper} {a : Act} {w : World} {Q : Exit → Act → World → Prop} (hgd : Region.wanted o (yielded ops a.tmps) = true) (x : Operand)
    (ho : o.op = .convert 9 22 x) {s : ByteArray} (hx : a.eval x = .string s) (hs : s.size ≤ 281474976710656)
    (h : ∀ cap w', Cv w' w.heap.size s.size cap (bCells s.data.toList) → Below w.heap.size w w' → w'.heap.size = w.heap.size + 1 → wpList Try.prog ops Q rest (a.put o.dst (.slice (some ⟨w.heap.size, 0, none⟩) s.size cap)) w') : wpList Try.prog ops Q (o :: rest) a w := by
  obtain ⟨cap, w', hr, h2, h3, h4⟩ := run_conv w s hs
  refine wpList_want hgd fun K hK => ?_
  unfold Oper.wp execOp
  simp only [ho, hx, Sem.run_bind, Sem.run_pure, Result.andThen_ok, hr]
  exact hK _ _ (h cap w' h2 h3 h4)
def MkRes (w : World) (x : Tv) (e : Ending) (w' : World) : Prop :=
  ∃ cs, e = .returned (.agg cs.toArray) ∧ TvF w' (fun b => w.heap.size ≤ b) x cs ∧ Below w.heap.size w w'
theorem mk5 {w w' : World} {k t : Int} {n : Nat} {b : List UInt8} {bv : Value} (hb : Bs w' bv b) (ho : ∀ x, bv.ownBlock = some x → w.heap.size ≤ x) (hk : Below w.heap.size w w') :
    MkRes w (.mk k t n b []) (.returned (.agg #[.int .i64 k, .int .i64 t, .int .u64 (n : Int), bv, .slice none 0 0])) w' :=
  ⟨_, rfl, TvF.mk hb ho (Sl.nil _ _ _) (by simp [Value.ownBlock]) rfl, hk⟩
set_option maxRecDepth 100000 in
theorem rawNew_any (v : Value) (b : List UInt8) (w : World) (h : Bs w v b) (hl : b.length ≤ 140737488355328) :
    Calls Try.prog 28 #[v] w (MkRes w (.mk 1 0 0 b [])) := by
  obtain ⟨a, c, rfl, hc, hm⟩ := h.form
  have HA := hqZ (h.alloc (.cells zs5.toArray 38))
  have HN := hqZ (Blk.new w zs5 38)
  have HB0 : Hid (Below w.heap.size w (w.alloc (.cells zs5.toArray 38))) := hqZ ((Below.refl _ _).alloc (Nat.le_refl _) _)
  have HSZ : Hid (∀ o, (w.alloc o).heap.size = w.heap.size + 1) := hqZ (fun o => by simp)
  clear h
  go_enter Try.func28, Try.ntmps28
  go_wp2_with ((with_reducible show wpList _ _ _ (⟨some 4, _, _, _, _, _⟩ :: _) _ _); refine wpList_app2 rfl (.const (.slice none 0 0)) (.tmp 3) elBytes rfl w.heap.size (Own.nil _ _ _ _ _) (by simp [Act.eval, Value.ownBlock]) HA.out (by unfold maxLen; omega) (by omega) (by simp) ?_)
  intro v1 w1 ho1 hk1 hv1
  have hz1 := hk1.size
  simp at hz1
  have hb1 : Below w.heap.size w w1 := HB0.out.trans (hk1.below (by rintro x (h | h) <;> (try simp [Value.ownBlock] at h) <;> omega))
  have hr1 : Blk w1 w.heap.size zs5 38 := HN.out.keep hk1 (by rintro (h | h) <;> (try simp [Value.ownBlock] at h) <;> omega)
  have hvb : ∀ x, v1.ownBlock = some x → w.heap.size + 1 ≤ x := fun x hx => by
    rcases (hv1 x hx).1 with h | h
    · simp [Value.ownBlock] at h
    · try simp at h
      omega
  obtain ⟨a1, c1, rfl, _⟩ := ho1.sl.form
  have HR1 := hqZ hr1
  have HB1 := hqZ hb1
  have HS1 : Hid (Bs w1 (.slice a1 b.length c1) b) := hqZ ho1.sl
  have HVB := hqZ hvb
  clear ho1 hk1 hv1 hb1 hr1 hvb
  go_wp2_with ((with_reducible show wpList _ _ _ (⟨none, .store _ (.tmp 2) (.tmp 5), _, _, _, _⟩ :: _) _ _); refine wpList_stAgg rfl (.tmp 2) (.tmp 5) aggDer rfl rfl (vs := [.int .i64 1, .int .i64 0, .int .u64 0, .slice a1 b.length c1, .slice none 0 0]) rfl rfl HR1.out (Nat.le_refl _) (by intro u hu; simp at hu; rcases hu with rfl | rfl | rfl | rfl | rfl <;> rfl) ?_)
  intro w2 h2 k2
  have h2' : Blk w2 w.heap.size [.int .i64 1, .int .i64 0, .int .u64 0, .slice a1 b.length c1, .slice none 0 0] 38 := by simpa [zs5] using h2
  have H2 := hqZ h2'
  have HB2 : Hid (Below w.heap.size w w2) := hqZ (HB1.out.trans (k2.below (by omega)))
  have HS2 : Hid (Bs w2 (.slice a1 b.length c1) b) := hqZ (Sl.keep HS1.out k2 (fun x hx e => by have := HVB.out x hx; omega))
  clear h2 h2' k2
  go_wp2_with fail
  exact bodyPost_ret (results_agg rfl aggDer rfl (cs := [.int .i64 1, .int .i64 0, .int .u64 0, .slice a1 b.length c1, .slice none 0 0]) rfl H2.out.cellsAll) rfl (mk5 HS2.out (fun x hx => by have := HVB.out x hx; omega) HB2.out)
theorem numNew_any (n : Nat) (w : World) : Calls Try.prog 47 #[.int .u64 n] w (MkRes w (.mk 0 0 n [] [])) :=
  (derNum_any n w).mono fun _ _ ⟨h1, h2⟩ => by
    subst h1
    exact mk5 (Sl.nil _ _ _) (by simp [Value.ownBlock]) h2
set_option maxHeartbeats 1000000 in
set_option maxRecDepth 100000 in
theorem mtext_any (l : List UInt8) (w : World) (hl : l.length ≤ 140737488355328) : Calls Try.prog 26 #[.string (tx l)] w (MkRes w (.mk 1 0 0 l [])) := by
  have HN := hqZ (Blk.new w zs5 38)
  have HB0 : Hid (Below w.heap.size w (w.alloc (.cells zs5.toArray 38))) := hqZ ((Below.refl _ _).alloc (Nat.le_refl _) _)
  have HSZ : Hid (∀ o, (w.alloc o).heap.size = w.heap.size + 1) := hqZ (fun o => by simp)
  have hcv := run_conv (w.alloc (.cells zs5.toArray 38)) (tx l) (by rw [tx_size]; omega)
  have HCV := hqZ hcv
  clear hcv
  go_enter Try.func26, Try.ntmps26
  go_wp2_with ((with_reducible show wpList _ _ _ (⟨some 4, _, _, _, _, _⟩ :: _) _ _); refine wpList_conv rfl (.tmp 3) rfl (s := tx l) rfl (by rw [tx_size]; omega) ?_; intro cap w0 hcv hbv hsz)
  have hbs : Bs w0 (.slice (some ⟨w.heap.size + 1, 0, none⟩) (tx l).size cap) l := by
    have := hcv.sl
    rw [HSZ.out] at this
    exact Sl.bs this rfl (tx_size l).symm
  have hz0 := hbv.size
  simp at hz0
  have HBV := hqZ hbv
  have HRW := hqZ (rawNew_any _ l w0 hbs (by omega))
  clear hcv hbv hsz hbs HCV
  go_wp2_with fail
  refine HRW.out.mono ?_
  rintro e w1 ⟨cs, rfl, h1, h2⟩
  have HL := hqZ h1.length
  have HO := hqZ h1.one
  have h1' : TvF w1 (fun b => w.heap.size + 1 ≤ b) (.mk 1 0 0 l []) cs := h1.mono (fun b hb => by first | omega | (simp only [HSZ.out] at hb; omega) | (simp at hb; omega))
  have hbw : Below w.heap.size w w1 := (HB0.out.trans (HBV.out.mono (by simp))).trans (h2.mono (by first | omega | (simp; done) | (simp; omega)))
  have hr1 : Blk w1 w.heap.size zs5 38 := (HN.out.below HBV.out (by simp)).below h2 (by omega)
  have HT := hqZ h1'
  have HBW := hqZ hbw
  have HR := hqZ hr1
  clear h1 h1' h2 hbw hr1
  go_wp2_with ((with_reducible show wpList _ _ _ (⟨none, .store _ (.tmp 2) (.tmp 5), _, _, _, _⟩ :: _) _ _); refine wpList_stAgg rfl (.tmp 2) (.tmp 5) aggDer rfl rfl (vs := cs) rfl HL.out HR.out (Nat.le_refl _) HO.out ?_)
  intro w2 h2 k2
  have H2 : Hid (Blk w2 w.heap.size cs 38) := hqZ (by simpa [zs5] using h2)
  have HB2 : Hid (Below w.heap.size w w2) := hqZ (HBW.out.trans (k2.below (by omega)))
  have HT2 : Hid (TvF w2 (fun b => w.heap.size ≤ b) (.mk 1 0 0 l []) cs) := hqZ ((HT.out.keep k2 (fun b hb _ e => by omega)).mono (fun b hb => by omega))
  clear h2 k2
  go_wp2_with fail
  exact bodyPost_ret (results_agg rfl aggDer rfl (cs := cs) HL.out H2.out.cellsAll) rfl ⟨cs, rfl, HT2.out, HB2.out⟩
set_option maxHeartbeats 1000000 in
set_option maxRecDepth 100000 in
theorem mnum_any (n : Nat) (w : World) (hn : n ≤ 9223372036854775807) : Calls Try.prog 27 #[.int .i64 (n : Int)] w (MkRes w (.mk 0 0 n [] [])) := by
  have HN := hqZ (Blk.new w zs5 38)
  have HB0 : Hid (Below w.heap.size w (w.alloc (.cells zs5.toArray 38))) := hqZ ((Below.refl _ _).alloc (Nat.le_refl _) _)
  have HSZ : Hid (∀ o, (w.alloc o).heap.size = w.heap.size + 1) := hqZ (fun o => by simp)
  have HRW := hqZ (numNew_any n (w.alloc (.cells zs5.toArray 38)))
  go_enter Try.func27, Try.ntmps27
  go_wp2_with fail
  refine HRW.out.mono ?_
  rintro e w1 ⟨cs, rfl, h1, h2⟩
  have HL := hqZ h1.length
  have HO := hqZ h1.one
  have h1' : TvF w1 (fun b => w.heap.size + 1 ≤ b) (.mk 0 0 n [] []) cs := h1.mono (fun b hb => by first | omega | (simp only [HSZ.out] at hb; omega) | (simp at hb; omega))
  have hbw : Below w.heap.size w w1 := HB0.out.trans (h2.mono (by first | omega | (simp; done)))
  have hr1 : Blk w1 w.heap.size zs5 38 := HN.out.below h2 (by first | omega | (simp; done))
  have HT := hqZ h1'
  have HBW := hqZ hbw
  have HR := hqZ hr1
  clear h1 h1' h2 hbw hr1
  go_wp2_with ((with_reducible show wpList _ _ _ (⟨none, .store _ (.tmp 2) (.tmp 5), _, _, _, _⟩ :: _) _ _); refine wpList_stAgg rfl (.tmp 2) (.tmp 5) aggDer rfl rfl (vs := cs) rfl HL.out HR.out (Nat.le_refl _) HO.out ?_)
  intro w2 h2 k2
  have H2 : Hid (Blk w2 w.heap.size cs 38) := hqZ (by simpa [zs5] using h2)
  have HB2 : Hid (Below w.heap.size w w2) := hqZ (HBW.out.trans (k2.below (by omega)))
  have HT2 : Hid (TvF w2 (fun b => w.heap.size ≤ b) (.mk 0 0 n [] []) cs) := hqZ ((HT.out.keep k2 (fun b hb _ e => by omega)).mono (fun b hb => by omega))
  clear h2 k2
  go_wp2_with fail
  exact bodyPost_ret (results_agg rfl aggDer rfl (cs := cs) HL.out H2.out.cellsAll) rfl ⟨cs, rfl, HT2.out, HB2.out⟩
set_option maxHeartbeats 1000000 in
set_option maxRecDepth 100000 in
theorem mnum_neg (n : Int) (m : Nat) (w : World) (hn : n < 0) (hm : -9223372036854775808 ≤ n) (hnm : n + 18446744073709551616 = m) : Calls Try.prog 27 #[.int .i64 n] w (MkRes w (.mk 0 0 m [] [])) := by
  have HN := hqZ (Blk.new w zs5 38)
  have HB0 : Hid (Below w.heap.size w (w.alloc (.cells zs5.toArray 38))) := hqZ ((Below.refl _ _).alloc (Nat.le_refl _) _)
  have HSZ : Hid (∀ o, (w.alloc o).heap.size = w.heap.size + 1) := hqZ (fun o => by simp)
  have HRW := hqZ (numNew_any m (w.alloc (.cells zs5.toArray 38)))
  have hcvn : ∀ W, (convert 2 27 (.int .i64 n)).run Try.prog W = .ok (.int .u64 (m : Nat)) W := fun W => by
    have hw : IntKind.u64.wrap n = m := by
      have h64 : (2 : Int) ^ IntKind.u64.bits = 18446744073709551616 := by decide
      simp only [IntKind.wrap, IntKind.signed, h64]
      simp only [Bool.false_eq_true, false_and, if_false, Bool.false_and]
      omega
    simp [convert, Conv.intToInt, hw]
  clear hnm
  go_enter Try.func27, Try.ntmps27
  go_wp2_with fail
  refine HRW.out.mono ?_
  rintro e w1 ⟨cs, rfl, h1, h2⟩
  have HL := hqZ h1.length
  have HO := hqZ h1.one
  have h1' : TvF w1 (fun b => w.heap.size + 1 ≤ b) (.mk 0 0 m [] []) cs := h1.mono (fun b hb => by first | omega | (simp only [HSZ.out] at hb; omega) | (simp at hb; omega))
  have hbw : Below w.heap.size w w1 := HB0.out.trans (h2.mono (by first | omega | (simp; done)))
  have hr1 : Blk w1 w.heap.size zs5 38 := HN.out.below h2 (by first | omega | (simp; done))
  have HT := hqZ h1'
  have HBW := hqZ hbw
  have HR := hqZ hr1
  clear h1 h1' h2 hbw hr1
  go_wp2_with ((with_reducible show wpList _ _ _ (⟨none, .store _ (.tmp 2) (.tmp 5), _, _, _, _⟩ :: _) _ _); refine wpList_stAgg rfl (.tmp 2) (.tmp 5) aggDer rfl rfl (vs := cs) rfl HL.out HR.out (Nat.le_refl _) HO.out ?_)
  intro w2 h2 k2
  have H2 : Hid (Blk w2 w.heap.size cs 38) := hqZ (by simpa [zs5] using h2)
  have HB2 : Hid (Below w.heap.size w w2) := hqZ (HBW.out.trans (k2.below (by omega)))
  have HT2 : Hid (TvF w2 (fun b => w.heap.size ≤ b) (.mk 0 0 m [] []) cs) := hqZ ((HT.out.keep k2 (fun b hb _ e => by omega)).mono (fun b hb => by omega))
  clear h2 k2
  go_wp2_with fail
  exact bodyPost_ret (results_agg rfl aggDer rfl (cs := cs) HL.out H2.out.cellsAll) rfl ⟨cs, rfl, HT2.out, HB2.out⟩
set_option maxHeartbeats 1000000 in
set_option maxRecDepth 100000 in
theorem mtruth_any (t : Bool) (w : World) : Calls Try.prog 32 #[.bool t] w (MkRes w (.mk 0 0 (if t then 1 else 0) [] [])) := by
  have HN := hqZ (Blk.new w zs5 38)
  have HB0 : Hid (Below w.heap.size w (w.alloc (.cells zs5.toArray 38))) := hqZ ((Below.refl _ _).alloc (Nat.le_refl _) _)
  have HSZ : Hid (∀ o, (w.alloc o).heap.size = w.heap.size + 1) := hqZ (fun o => by simp)
  have HRW := hqZ (numNew_any (if t then 1 else 0) (w.alloc (.cells zs5.toArray 38)))
  go_enter Try.func32, Try.ntmps32
  cases t
  · go_wp2_with fail
    refine HRW.out.mono ?_
    rintro e w1 ⟨cs, rfl, h1, h2⟩
    have HL := hqZ h1.length
    have HO := hqZ h1.one
    have h1' : TvF w1 (fun b => w.heap.size + 1 ≤ b) (.mk 0 0 (if false then 1 else 0) [] []) cs := h1.mono (fun b hb => by first | omega | (simp only [HSZ.out] at hb; omega) | (simp at hb; omega))
    have hbw : Below w.heap.size w w1 := HB0.out.trans (h2.mono (by first | omega | (simp; done)))
    have hr1 : Blk w1 w.heap.size zs5 38 := HN.out.below h2 (by first | omega | (simp; done))
    have HT := hqZ h1'
    have HBW := hqZ hbw
    have HR := hqZ hr1
    clear h1 h1' h2 hbw hr1
    go_wp2_with ((with_reducible show wpList _ _ _ (⟨none, .store _ (.tmp 2) (.tmp 5), _, _, _, _⟩ :: _) _ _); refine wpList_stAgg rfl (.tmp 2) (.tmp 5) aggDer rfl rfl (vs := cs) rfl HL.out HR.out (Nat.le_refl _) HO.out ?_)
    intro w2 h2 k2
    have H2 : Hid (Blk w2 w.heap.size cs 38) := hqZ (by simpa [zs5] using h2)
    have HB2 : Hid (Below w.heap.size w w2) := hqZ (HBW.out.trans (k2.below (by omega)))
    have HT2 : Hid (TvF w2 (fun b => w.heap.size ≤ b) (.mk 0 0 (if false then 1 else 0) [] []) cs) := hqZ ((HT.out.keep k2 (fun b hb _ e => by omega)).mono (fun b hb => by omega))
    clear h2 k2
    go_wp2_with fail
    exact bodyPost_ret (results_agg rfl aggDer rfl (cs := cs) HL.out H2.out.cellsAll) rfl ⟨cs, rfl, HT2.out, HB2.out⟩
  · go_wp2_with fail
    refine HRW.out.mono ?_
    rintro e w1 ⟨cs, rfl, h1, h2⟩
    have HL := hqZ h1.length
    have HO := hqZ h1.one
    have h1' : TvF w1 (fun b => w.heap.size + 1 ≤ b) (.mk 0 0 (if true then 1 else 0) [] []) cs := h1.mono (fun b hb => by first | omega | (simp only [HSZ.out] at hb; omega) | (simp at hb; omega))
    have hbw : Below w.heap.size w w1 := HB0.out.trans (h2.mono (by first | omega | (simp; done)))
    have hr1 : Blk w1 w.heap.size zs5 38 := HN.out.below h2 (by first | omega | (simp; done))
    have HT := hqZ h1'
    have HBW := hqZ hbw
    have HR := hqZ hr1
    clear h1 h1' h2 hbw hr1
    go_wp2_with ((with_reducible show wpList _ _ _ (⟨none, .store _ (.tmp 2) (.tmp 4), _, _, _, _⟩ :: _) _ _); refine wpList_stAgg rfl (.tmp 2) (.tmp 4) aggDer rfl rfl (vs := cs) rfl HL.out HR.out (Nat.le_refl _) HO.out ?_)
    intro w2 h2 k2
    have H2 : Hid (Blk w2 w.heap.size cs 38) := hqZ (by simpa [zs5] using h2)
    have HB2 : Hid (Below w.heap.size w w2) := hqZ (HBW.out.trans (k2.below (by omega)))
    have HT2 : Hid (TvF w2 (fun b => w.heap.size ≤ b) (.mk 0 0 (if true then 1 else 0) [] []) cs) := hqZ ((HT.out.keep k2 (fun b hb _ e => by omega)).mono (fun b hb => by omega))
    clear h2 k2
    go_wp2_with fail
    exact bodyPost_ret (results_agg rfl aggDer rfl (cs := cs) HL.out H2.out.cellsAll) rfl ⟨cs, rfl, HT2.out, HB2.out⟩
set_option maxHeartbeats 1000000 in
set_option maxRecDepth 100000 in
theorem ttext_any (l : List UInt8) (w : World) (hl : l.length ≤ 140737488355328) : Calls Try.prog 49 #[.string (tx l)] w (MkRes w (.mk 1 0 0 l [])) := by
  have HN := hqZ (Blk.new w zs5 38)
  have HB0 : Hid (Below w.heap.size w (w.alloc (.cells zs5.toArray 38))) := hqZ ((Below.refl _ _).alloc (Nat.le_refl _) _)
  have HSZ : Hid (∀ o, (w.alloc o).heap.size = w.heap.size + 1) := hqZ (fun o => by simp)
  have hcv := run_conv (w.alloc (.cells zs5.toArray 38)) (tx l) (by rw [tx_size]; omega)
  have HCV := hqZ hcv
  clear hcv
  go_enter Try.func49, Try.ntmps49
  go_wp2_with ((with_reducible show wpList _ _ _ (⟨some 4, _, _, _, _, _⟩ :: _) _ _); refine wpList_conv rfl (.tmp 3) rfl (s := tx l) rfl (by rw [tx_size]; omega) ?_; intro cap w0 hcv hbv hsz)
  have hbs : Bs w0 (.slice (some ⟨w.heap.size + 1, 0, none⟩) (tx l).size cap) l := by
    have := hcv.sl
    rw [HSZ.out] at this
    exact Sl.bs this rfl (tx_size l).symm
  have hz0 := hbv.size
  simp at hz0
  have HBV := hqZ hbv
  have HRW := hqZ (rawNew_any _ l w0 hbs (by omega))
  clear hcv hbv hsz hbs HCV
  go_wp2_with fail
  refine HRW.out.mono ?_
  rintro e w1 ⟨cs, rfl, h1, h2⟩
  have HL := hqZ h1.length
  have HO := hqZ h1.one
  have h1' : TvF w1 (fun b => w.heap.size + 1 ≤ b) (.mk 1 0 0 l []) cs := h1.mono (fun b hb => by first | omega | (simp only [HSZ.out] at hb; omega) | (simp at hb; omega))
  have hbw : Below w.heap.size w w1 := (HB0.out.trans (HBV.out.mono (by simp))).trans (h2.mono (by first | omega | (simp; done) | (simp; omega)))
  have hr1 : Blk w1 w.heap.size zs5 38 := (HN.out.below HBV.out (by simp)).below h2 (by omega)
  have HT := hqZ h1'
  have HBW := hqZ hbw
  have HR := hqZ hr1
  clear h1 h1' h2 hbw hr1
  go_wp2_with ((with_reducible show wpList _ _ _ (⟨none, .store _ (.tmp 2) (.tmp 5), _, _, _, _⟩ :: _) _ _); refine wpList_stAgg rfl (.tmp 2) (.tmp 5) aggDer rfl rfl (vs := cs) rfl HL.out HR.out (Nat.le_refl _) HO.out ?_)
  intro w2 h2 k2
  have H2 : Hid (Blk w2 w.heap.size cs 38) := hqZ (by simpa [zs5] using h2)
  have HB2 : Hid (Below w.heap.size w w2) := hqZ (HBW.out.trans (k2.below (by omega)))
  have HT2 : Hid (TvF w2 (fun b => w.heap.size ≤ b) (.mk 1 0 0 l []) cs) := hqZ ((HT.out.keep k2 (fun b hb _ e => by omega)).mono (fun b hb => by omega))
  clear h2 k2
  go_wp2_with fail
  exact bodyPost_ret (results_agg rfl aggDer rfl (cs := cs) HL.out H2.out.cellsAll) rfl ⟨cs, rfl, HT2.out, HB2.out⟩
def timeB (x : Int) : Bool := decide (0 ≤ x) && decide (x ≤ 1099511627776)
theorem map_at {α β : Type} (f : α → β) (l : List α) (k : Nat) (h : k < l.length) : (l.map f)[k]? = some (f l[k]) := by simp [h]
set_option maxHeartbeats 2000000 in
set_option maxRecDepth 100000 in
theorem mright_any (ns : List ByteArray) (xs : List Int) (v1 v2 : Value) (w : World) (h1 : Sl w 1 v1 ns.length (ns.map Value.string)) (h2 : Sl w 1 v2 xs.length (xs.map (Value.int .i64))) (hs : ∀ s ∈ ns, s.size ≤ maxLen) :
    Calls Try.prog 29 #[v1, v2] w fun e w' => e = .returned (.bool (ns.all rightB && xs.all timeB)) ∧ Below w.heap.size w w' := by
  obtain ⟨a, cap, rfl, hcap, hcm⟩ := h1.form
  obtain ⟨a2, cap2, rfl, hcap2, hcm2⟩ := h2.form
  unfold maxLen at hcm hcm2
  have HS := hqZ h1
  have HS2 := hqZ h2
  have HSZ := hqZ hs
  clear h1 h2 hs
  go_enter Try.func29, Try.ntmps29
  go_wp2_with fail
  go_loopw [11] (fun i wr => ∃ k : Nat, k ≤ ns.length ∧ i = .int .i64 k ∧ (ns.take k).all rightB = true ∧ Below w.heap.size w wr) (fun i _ => ns.length - (intOf i).toNat)
  case atStart => exact ⟨0, Nat.zero_le _, rfl, rfl, Below.refl _ _⟩
  case round =>
    obtain ⟨k, hk, rfl, hno, hB⟩ := hrel
    have HNO := hqZ hno
    have HB := hqZ hB
    clear hno hB
    by_cases hlt : k < ns.length
    · have hlt1 : (k : Int) < (ns.length : Int) := by omega
      obtain ⟨b, off, rfl, hcell⟩ := HS.out.addr (by rw [HS.out.1]; omega)
      have c0 : wr.cell? ⟨b, off + k, none⟩ = some (.string ns[k]) := below_cell HB.out (hcell _ _ (map_at Value.string ns k hlt))
      clear hcell
      have HN : Hid (rightB ns[k] = true → (ns.take (k + 1)).all rightB = true) := hqZ (by
        intro h
        rw [List.take_succ_eq_append_getElem hlt, List.all_append, HNO.out]
        simp [h])
      have HY : Hid (rightB ns[k] = false → ns.all rightB = false) := hqZ (by
        intro h
        exact List.all_eq_false.2 ⟨ns[k], List.getElem_mem hlt, by rw [h]; simp⟩)
      have HRT := hqZ (right_any ns[k] wr (HSZ.out _ (List.getElem_mem hlt)))
      generalize ns[k] = s at *
      go_wp2_with fail
      refine HRT.out.mono ?_
      rintro e w1 ⟨rfl, hb⟩
      have HB1 : Hid (Below w.heap.size w w1) := hqZ (HB.out.trans (hb.mono HB.out.size))
      clear hb
      cases hr : rightB s with
      | true =>
        have HR := hqZ hr
        clear hr
        go_wp2_with fail
        go_roundw
        case rel => exact ⟨k + 1, by omega, by go_num, HN.out HR.out, HB1.out⟩
        case measure => simp [intOf]; omega
      | false =>
        have HR := hqZ hr
        clear hr
        go_wp2_with fail
        go_ret
        rw [HY.out HR.out]
        exact ⟨rfl, HB1.out⟩
    · obtain rfl : k = ns.length := by omega
      have HA1 : Hid (ns.all rightB = true) := hqZ (by have h := HNO.out; rwa [List.take_length] at h)
      clear HNO
      go_wp2_with fail
      have hsz : w.heap.size ≤ wr.heap.size := HB.out.size
      go_loopw [21] (fun i wr => ∃ k : Nat, k ≤ xs.length ∧ i = .int .i64 k ∧ (xs.take k).all timeB = true ∧ Below w.heap.size w wr) (fun i _ => xs.length - (intOf i).toNat)
      case atStart => exact ⟨0, Nat.zero_le _, rfl, rfl, HB.out⟩
      case round =>
        obtain ⟨k, hk, rfl, hno, hB⟩ := hrel
        have HNO := hqZ hno
        have HB := hqZ hB
        clear hno hB
        by_cases hlt : k < xs.length
        · have hlt1 : (k : Int) < (xs.length : Int) := by omega
          obtain ⟨b, off, rfl, hcell⟩ := HS2.out.addr (by rw [HS2.out.1]; omega)
          have c0 : wr.cell? ⟨b, off + k, none⟩ = some (.int .i64 xs[k]) := below_cell HB.out (hcell _ _ (map_at (Value.int .i64) xs k hlt))
          clear hcell
          have HN : Hid (timeB xs[k] = true → (xs.take (k + 1)).all timeB = true) := hqZ (by
            intro h
            rw [List.take_succ_eq_append_getElem hlt, List.all_append, HNO.out]
            simp [h])
          have HY : Hid (timeB xs[k] = false → xs.all timeB = false) := hqZ (by
            intro h
            exact List.all_eq_false.2 ⟨xs[k], List.getElem_mem hlt, by rw [h]; simp⟩)
          have HE : Hid (timeB xs[k] = (decide (0 ≤ xs[k]) && decide (xs[k] ≤ 1099511627776))) := hqZ rfl
          generalize xs[k] = x at *
          by_cases h1 : 0 ≤ x
          · by_cases h2 : x ≤ 1099511627776
            · have hx0 : ¬ x < 0 := by omega
              go_wp2_with fail
              go_roundw
              case rel => exact ⟨k + 1, by omega, by go_num, HN.out (by rw [HE.out]; simp [h1, h2]), HB.out⟩
              case measure => simp [intOf]; omega
            · have hx0 : ¬ x < 0 := by omega
              have hx1 : 1099511627776 < x := by omega
              clear h2
              have HF : Hid (xs.all timeB = false) := hqZ (HY.out (by rw [HE.out]; simp; omega))
              go_wp2_with fail
              go_ret
              rw [HA1.out, HF.out]
              exact ⟨rfl, HB.out⟩
          · have hx0 : x < 0 := by omega
            clear h1
            have HF : Hid (xs.all timeB = false) := hqZ (HY.out (by rw [HE.out]; simp; omega))
            go_wp2_with fail
            go_ret
            rw [HA1.out, HF.out]
            exact ⟨rfl, HB.out⟩
        · obtain rfl : k = xs.length := by omega
          have HA : Hid (xs.all timeB = true) := hqZ (by have h := HNO.out; rwa [List.take_length] at h)
          go_wp2_with fail
          go_ret
          rw [HA1.out, HA.out]
          exact ⟨rfl, HB.out⟩
set_option maxHeartbeats 2000000 in
set_option maxRecDepth 100000 in
theorem tright_any (s : ByteArray) (xs : List Int) (v2 : Value) (w : World) (h2 : Sl w 1 v2 xs.length (xs.map (Value.int .i64))) (hs : s.size ≤ maxLen) :
    Calls Try.prog 50 #[.string s, v2] w fun e w' => e = .returned (.bool (rightB s && xs.all timeB)) ∧ Below w.heap.size w w' := by
  obtain ⟨a2, cap2, rfl, hcap2, hcm2⟩ := h2.form
  unfold maxLen at hcm2
  have HS2 := hqZ h2
  have HSZ := hqZ hs
  clear h2 hs
  go_enter Try.func50, Try.ntmps50
  go_wp2_with fail
  go_loopw [9] (fun i wr => ∃ k : Nat, k ≤ xs.length ∧ i = .int .i64 k ∧ (xs.take k).all timeB = true ∧ Below w.heap.size w wr) (fun i _ => xs.length - (intOf i).toNat)
  case atStart => exact ⟨0, Nat.zero_le _, rfl, rfl, Below.refl _ _⟩
  case round =>
    obtain ⟨k, hk, rfl, hno, hB⟩ := hrel
    have HNO := hqZ hno
    have HB := hqZ hB
    clear hno hB
    by_cases hlt : k < xs.length
    · have hlt1 : (k : Int) < (xs.length : Int) := by omega
      obtain ⟨b, off, rfl, hcell⟩ := HS2.out.addr (by rw [HS2.out.1]; omega)
      have c0 : wr.cell? ⟨b, off + k, none⟩ = some (.int .i64 xs[k]) := below_cell HB.out (hcell _ _ (map_at (Value.int .i64) xs k hlt))
      clear hcell
      have HN : Hid (timeB xs[k] = true → (xs.take (k + 1)).all timeB = true) := hqZ (by
        intro h
        rw [List.take_succ_eq_append_getElem hlt, List.all_append, HNO.out]
        simp [h])
      have HY : Hid (timeB xs[k] = false → xs.all timeB = false) := hqZ (by
        intro h
        exact List.all_eq_false.2 ⟨xs[k], List.getElem_mem hlt, by rw [h]; simp⟩)
      have HE : Hid (timeB xs[k] = (decide (0 ≤ xs[k]) && decide (xs[k] ≤ 1099511627776))) := hqZ rfl
      generalize xs[k] = x at *
      by_cases h1 : 0 ≤ x
      · by_cases h2 : x ≤ 1099511627776
        · have hx0 : ¬ x < 0 := by omega
          go_wp2_with fail
          go_roundw
          case rel => exact ⟨k + 1, by omega, by go_num, HN.out (by rw [HE.out]; simp [h1, h2]), HB.out⟩
          case measure => simp [intOf]; omega
        · have hx0 : ¬ x < 0 := by omega
          have hx1 : 1099511627776 < x := by omega
          clear h2
          have HF : Hid (xs.all timeB = false) := hqZ (HY.out (by rw [HE.out]; simp; omega))
          go_wp2_with fail
          go_ret
          rw [HF.out, Bool.and_false]
          exact ⟨rfl, HB.out⟩
      · have hx0 : x < 0 := by omega
        clear h1
        have HF : Hid (xs.all timeB = false) := hqZ (HY.out (by rw [HE.out]; simp; omega))
        go_wp2_with fail
        go_ret
        rw [HF.out, Bool.and_false]
        exact ⟨rfl, HB.out⟩
    · obtain rfl : k = xs.length := by omega
      have HA : Hid (xs.all timeB = true) := hqZ (by have h := HNO.out; rwa [List.take_length] at h)
      have HRT := hqZ (right_any s wr HSZ.out)
      go_wp2_with fail
      refine HRT.out.mono ?_
      rintro e w1 ⟨rfl, hb⟩
      have HB1 : Hid (Below w.heap.size w w1) := hqZ (HB.out.trans (hb.mono HB.out.size))
      clear hb
      go_wp2_with fail
      go_ret
      rw [HA.out, Bool.and_true]
      exact ⟨rfl, HB1.out⟩
end Go.Proofs.Ytpjkidcfidmfaaa
namespace Go.Proofs.Ytpjkidcfidmfaaa
set_option linter.unusedSimpArgs false
set_option linter.unusedVariables false
section
section
variable {P : Program} {ops : Array Oper} {Q : Exit → Act → World → Prop} {md : Region.Mode} {S : World → Prop}
def AllReadyH (P : Program) (md : Region.Mode) (ops : Array Oper) (Q : Exit → Act → World → Prop) (S : World → Prop) (fuel : Nat) (listed : Array Bool) (a : Act) (w : World) (rs : List Nat) : Prop :=
  ∀ i ∈ rs, wpOp P ops Q i (fun a' w' => S w' ∧ wpAnyH P md ops Q S fuel (listed.setIfInBounds i true) a' w') a w
theorem AllReadyH.nil {fuel : Nat} {listed : Array Bool} {a : Act} {w : World} : AllReadyH P md ops Q S fuel listed a w [] := fun _ h => by cases h
theorem AllReadyH.cons {fuel : Nat} {listed : Array Bool} {a : Act} {w : World} {i : Nat} {o : Oper} {rs : List Nat} (ho : ops[i]? = some o)
    (h : ∀ K' : Act → World → Prop, (∀ a w, S w → wpAnyH P md ops Q S fuel (listed.setIfInBounds i true) a w → K' a w) → if Region.wanted o (yielded ops a.tmps) = true then Oper.wp P o a w K' Q else K' (a.put o.dst undef) w)
    (hs : AllReadyH P md ops Q S fuel listed a w rs) : AllReadyH P md ops Q S fuel listed a w (i :: rs) := fun j hj => by
  rcases List.mem_cons.1 hj with rfl | hj
  · exact wpOp_step ho (fun K' hK => h K' (fun a w h1 h2 => hK a w ⟨h1, h2⟩))
  · exact hs j hj
theorem anyH_ready {rs : List Nat} {fuel : Nat} {listed : Array Bool} {a : Act} {w : World} (hr : Region.ready md ops listed = rs) (hne : rs ≠ [])
    (h : AllReadyH P md ops Q S fuel listed a w rs) : wpAnyH P md ops Q S (fuel + 1) listed a w := wpAnyH_all hr hne h
theorem tkH (i d : Nat) (g : Option (Nat × Bool)) (v : Value) {op : Op} {ty : TypeId} {pos : String} {aft : Array Edge} {fuel : Nat} {listed : Array Bool} {a : Act} {w : World} (hi : ops[i]? = some ⟨some d, op, ty, pos, aft, g⟩)
    (hb : (Region.noSelect ops && Region.free md ops listed i && (Region.ready md ops listed).contains i) = true) (hQ : ∀ c a w, Q (.panic c) (a.put (some d) v) w → Q (.panic c) a w)
    (hw : Region.wanted ⟨some d, op, ty, pos, aft, g⟩ (yielded ops a.tmps) = true) (hr : ∀ w, S w → (execOp a.eval ⟨some d, op, ty, pos, aft, g⟩).run P w = .ok (.value v) w) (hS : S w)
    (h : wpAnyH P md ops Q S fuel (listed.setIfInBounds i true) (a.put (some d) v) w) : wpAnyH P md ops Q S (fuel + 1) listed a w := by
  simp only [Bool.and_eq_true] at hb
  exact wpAnyH_take hi hb.1.1 hb.1.2 hb.2 hQ (.inl ⟨hw, hr⟩) hS h
theorem skH (i d : Nat) (g : Option (Nat × Bool)) {op : Op} {ty : TypeId} {pos : String} {aft : Array Edge} {fuel : Nat} {listed : Array Bool} {a : Act} {w : World} (hi : ops[i]? = some ⟨some d, op, ty, pos, aft, g⟩)
    (hb : (Region.noSelect ops && Region.free md ops listed i && (Region.ready md ops listed).contains i) = true) (hQ : ∀ c a w, Q (.panic c) (a.put (some d) undef) w → Q (.panic c) a w)
    (hw : Region.wanted ⟨some d, op, ty, pos, aft, g⟩ (yielded ops a.tmps) = false) (hS : S w)
    (h : wpAnyH P md ops Q S fuel (listed.setIfInBounds i true) (a.put (some d) undef) w) : wpAnyH P md ops Q S (fuel + 1) listed a w := by
  simp only [Bool.and_eq_true] at hb
  exact wpAnyH_take hi hb.1.1 hb.1.2 hb.2 hQ (.inr ⟨hw, rfl⟩) hS h
end
theorem zq1 (l : List Value) (i : Nat) (v : Value) : l.toArray.setIfInBounds i v = (l.set i v).toArray := List.setIfInBounds_toArray ..
theorem zq2 (l : List Value) (x v : Value) : (x :: l).set 0 v = v :: l := rfl
theorem zq3 (l : List Value) (i : Nat) (x v : Value) : (x :: l).set (i + 1) v = x :: l.set i v := rfl
end
end Go.Proofs.Ytpjkidcfidmfaaa
namespace Go.Proofs.Ytpjkidcfidmfaaa
set_option linter.unusedSimpArgs false
set_option linter.unusedVariables false
open Go.RowKit
section
theorem Fr.lit {a0 a : Act} {ds : List Nat} (h : Fr a0 a ds) (s : Nat) (hs : ds.contains s = false) {v : Value} (hv : a0.eval (.tmp s) = v) : a.eval (.tmp s) = v := (h.eval s hs).trans hv
theorem PostAt.get {ops : Array Oper} {Post : Nat → Value → World → Prop} {i : Nat} {a : Act} {w : World} (h : PostAt ops Post i a w) {s : Nat} (hs : dstOf ops i = some s) : Post i (a.eval (.tmp s)) w := by
  obtain ⟨v, h1, h2⟩ := h
  rw [show a.eval (.tmp s) = v from h2 s hs]
  exact h1
theorem PostAt.fin {ops : Array Oper} {Post : Nat → Value → World → Prop} {i : Nat} {a : Act} {w : World} (h : PostAt ops Post i a w) : ∃ v, Post i v w := by
  obtain ⟨v, h1, h2⟩ := h
  exact ⟨v, h1⟩
section
variable (P : Program) (md : Region.Mode) (ops : Array Oper) (Q : Exit → Act → World → Prop) (S : World → Prop) (G : World → World → Prop) (Post : Nat → Value → World → Prop) (l0 : Array Bool) (ds : List Nat) (a0 : Act) (w0 : World)
def AllSteps (rs : List Nat) : Prop := ∀ i ∈ rs, StepAt P md ops Q S G Post l0 ds a0 w0 i
end
section
variable {P : Program} {md : Region.Mode} {ops : Array Oper} {Q : Exit → Act → World → Prop} {S : World → Prop} {G : World → World → Prop} {Post : Nat → Value → World → Prop} {l0 : Array Bool} {ds : List Nat} {a0 : Act} {w0 : World}
theorem AllSteps.nil : AllSteps P md ops Q S G Post l0 ds a0 w0 [] := fun _ h => by cases h
theorem AllSteps.cons {i : Nat} {o : Oper} {rs : List Nat} (ho : ops[i]? = some o)
    (h : ∀ a w, Fr a0 a ds → S w → (∀ d, depB md ops l0 i d = true → PostAt ops Post d a w) → ∀ K : Act → World → Prop, (∀ v w', G w w' → Post i v w' → K (a.put o.dst v) w') →
      if Region.wanted o (yielded ops a.tmps) = true then Oper.wp P o a w K Q else K (a.put o.dst undef) w)
    (hs : AllSteps P md ops Q S G Post l0 ds a0 w0 rs) : AllSteps P md ops Q S G Post l0 ds a0 w0 (i :: rs) := fun j hj => by
  rcases List.mem_cons.1 hj with rfl | hj
  · intro o' ho' a w hf _ hs hd K hK
    rw [ho] at ho'
    cases ho'
    exact h a w hf hs hd K hK
  · exact hs j hj
theorem anyH_steps (hr : ∀ w, G w w) (ht : ∀ a b c, G a b → G b c → G a c) (hS : ∀ w w', S w → G w w' → S w') (hst : ∀ i v w w', Post i v w → G w w' → Post i v w')
    (rs : List Nat) (n : Nat) (hn : a0.tmps.size = n) (hok : invOk md ops l0 ds n = true) (hrs : (List.range ops.size).filter (fun i => !l0.getD i true) = rs)
    (hstep : AllSteps P md ops Q S G Post l0 ds a0 w0 rs)
    (hfin : ∀ a w, Fr a0 a ds → S w → (∀ i, i ∈ rs → PostAt ops Post i a w) → Q .normal a w) (hS0 : S w0) {fuel : Nat} (hfuel : leftN ops.size l0 ≤ fuel) :
    wpAnyH P md ops Q S fuel l0 a0 w0 := by
  subst hn
  refine anyH_inv hr ht hS hst hok (fun i hi h0 => hstep i ?_) (fun a w hf hg hs hp => hfin a w hf hs fun i hi => ?_) hS0 hfuel
  · rw [← hrs]
    exact List.mem_filter.2 ⟨List.mem_range.2 hi, by rw [h0]; rfl⟩
  · rw [← hrs] at hi
    obtain ⟨h1, h2⟩ := List.mem_filter.1 hi
    exact hp i (List.mem_range.1 h1) (by simpa using h2)
def Enters (P : Program) (f : FuncId) : Prop := ∀ args w, (callFunc f args).run P w = .ok (.enter f args) w
theorem Enters.mk {f : FuncId} {fn : Func} (hf : P.funcs[f]? = some fn) (hname : (fn.name == "runtime.NumGoroutine") = false) (hb : fn.body.isNone = false) : Enters P f := by
  intro args w
  obtain ⟨c, hc⟩ : ∃ c, fn.body = some c := by
    cases h : fn.body with
    | none => rw [h] at hb; cases hb
    | some c => exact ⟨c, rfl⟩
  have h1 : fn.name ≠ "runtime.NumGoroutine" := by simpa using hname
  simp [callFunc, hf, h1, hc]
theorem wanted_none {o : Oper} {a : Act} (h : o.guard = none) : Region.wanted o (yielded ops a.tmps) = true := by simp [Region.wanted, h]
theorem wanted_some {o : Oper} {a : Act} {j s : Nat} {b : Bool} (h : o.guard = some (j, b)) (hs : (ops[j]?).bind (·.dst) = some s) (hv : a.eval (.tmp s) = .bool b) : Region.wanted o (yielded ops a.tmps) = true := by
  have h1 : a.tmps[s]? = some (.bool b) := by
    have : a.tmps.getD s undef = .bool b := hv
    rw [Array.getD_eq_getD_getElem?] at this
    cases hq : a.tmps[s]? with
    | none => rw [hq] at this; simp [undef] at this
    | some v => rw [hq] at this; simpa using this
  simp [Region.wanted, h, yielded, hs, h1]
theorem wanted_no {o : Oper} {a : Act} {j s : Nat} {b c : Bool} (h : o.guard = some (j, b)) (hs : (ops[j]?).bind (·.dst) = some s) (hv : a.eval (.tmp s) = .bool c) (hne : (c == b) = false) : Region.wanted o (yielded ops a.tmps) = false := by
  have h1 : a.tmps[s]? = some (.bool c) := by
    have : a.tmps.getD s undef = .bool c := hv
    rw [Array.getD_eq_getD_getElem?] at this
    cases hq : a.tmps[s]? with
    | none => rw [hq] at this; simp [undef] at this
    | some v => rw [hq] at this; simpa using this
  cases c <;> cases b <;> simp_all [Region.wanted, yielded]
theorem step_skip {R : Prop} {o : Oper} {a : Act} {w : World} {K : Act → World → Prop} (hw : Region.wanted o (yielded ops a.tmps) = false) (h : K (a.put o.dst undef) w) :
    if Region.wanted o (yielded ops a.tmps) = true then R else K (a.put o.dst undef) w := by
  rw [if_neg (by rw [hw]; decide)]
  exact h
theorem exec_move {o : Oper} {a : Act} {w : World} {x : Operand} (ho : o.op = .move x) {v : Value} (hx : a.eval x = v) : (execOp a.eval o).run P w = .ok (.value v) w := by simp [execOp, ho, hx]
theorem exec_field {o : Oper} {a : Act} {w : World} {t : TypeId} {x : Operand} {k : Nat} (ho : o.op = .fieldAddr t x k) {u v : Value} (hx : a.eval x = u) (hr : (Instr.fieldAt t u k).run P w = .ok v w) : (execOp a.eval o).run P w = .ok (.value v) w := by
  unfold execOp
  simp only [ho, hx, Sem.run_bind, hr, Result.andThen_ok, Sem.run_pure]
theorem exec_load {o : Oper} {a : Act} {w : World} {t : TypeId} {x : Operand} (ho : o.op = .load t x) {u v : Value} (hx : a.eval x = u) (hr : (Instr.loadAt t u).run P w = .ok v w) : (execOp a.eval o).run P w = .ok (.value v) w := by
  unfold execOp
  simp only [ho, hx, Sem.run_bind, hr, Result.andThen_ok, Sem.run_pure]
theorem step_call {E : Prop} {o : Oper} {a : Act} {w : World} {K : Act → World → Prop} (hw : Region.wanted o (yielded ops a.tmps) = true) {f : FuncId} {args : Array Operand} {tys : Array TypeId} (ho : o.op = .call { callee := .value (.func f), args := args, argTypes := tys })
    (hf : Enters P f) {vs : Array Value} (hv : args.map a.eval = vs) {C : Ending → World → Prop} (hc : Calls P f vs w C) (h : ∀ e w', C e w' → ∃ v, e = .returned v ∧ K (a.put o.dst v) w') :
    if Region.wanted o (yielded ops a.tmps) = true then Oper.wp P o a w K Q else E := by
  rw [if_pos hw]
  have he : (execOp a.eval o).run P w = .ok (.enter f vs) w := by
    unfold execOp
    simp only [ho, resolve, Deferred.ofValue, Act.eval, invoke, Sem.run_bind, Sem.run_pure, Result.andThen_ok, hv, Array.append_empty, Array.empty_append]
    exact hf vs w
  unfold Oper.wp
  rw [he]
  refine Calls.mono hc fun e w' hq => ?_
  obtain ⟨v, rfl, hk⟩ := h e w' hq
  exact hk
theorem step_val {E : Prop} {o : Oper} {a : Act} {w : World} {K : Act → World → Prop} (hw : Region.wanted o (yielded ops a.tmps) = true) {v : Value} {w' : World} (hr : (execOp a.eval o).run P w = .ok (.value v) w') (h : K (a.put o.dst v) w') :
    if Region.wanted o (yielded ops a.tmps) = true then Oper.wp P o a w K Q else E := by
  rw [if_pos hw]
  unfold Oper.wp
  rw [hr]
  exact h
theorem exec_assign {o : Oper} {a : Act} {w : World} {x : Operand} (ho : o.op = .assign x) : (execOp a.eval o).run P w = .ok (.value (a.eval x)) w := by simp [execOp, ho]
theorem exec_pickT {o : Oper} {a : Act} {w : World} {c x y : Operand} (ho : o.op = .pick c x y) (hb : a.eval c = .bool true) {v : Value} (hx : a.eval x = v) : (execOp a.eval o).run P w = .ok (.value v) w := by
  simp [execOp, ho, hb, asBool, hx]
theorem exec_pickF {o : Oper} {a : Act} {w : World} {c x y : Operand} (ho : o.op = .pick c x y) (hb : a.eval c = .bool false) {v : Value} (hy : a.eval y = v) : (execOp a.eval o).run P w = .ok (.value v) w := by
  simp [execOp, ho, hb, asBool, hy]
theorem exec_asg {o : Oper} {a : Act} {w : World} {x : Operand} (ho : o.op = .assign x) {v : Value} (hx : a.eval x = v) : (execOp a.eval o).run P w = .ok (.value v) w := by simp [execOp, ho, hx]
theorem step_st {E : Prop} {o : Oper} {a : Act} {w : World} {K : Act → World → Prop} (hw : Region.wanted o (yielded ops a.tmps) = true) (x y : Operand) {ty : TypeId} {m : Nat} (hT : AggTy P ty m) (ho : o.op = .store ty x y)
    {g off : Nat} (hx : a.eval x = .pointer (some ⟨g, off, none⟩)) {vs : List Value} (hy : a.eval y = .agg vs.toArray) (hm : vs.length = m) {cur : List Value} {T : TypeId} (hb : Blk w g cur T) (hfit : off + m ≤ cur.length) (h1 : ∀ v ∈ vs, v.oneCell' = true)
    (h : ∀ w', Blk w' g (cur.take off ++ vs ++ cur.drop (off + m)) T → Keeps (fun k => k = g) w w' → K (a.put o.dst undef) w') : if Region.wanted o (yielded ops a.tmps) = true then Oper.wp P o a w K Q else E := by
  rw [if_pos hw]
  obtain ⟨w', hr, h2, h3⟩ := run_stAgg hT hm hb hfit h1
  unfold Oper.wp execOp
  simp only [ho, hx, hy, Instr.storeAt, Instr.sureAddr, Sem.run_bind, Sem.run_pure, Result.andThen_ok, hr]
  exact h w' h2 h3
end
/-! ### A row of values, built -/
theorem foldl_set : ∀ (c : List Value) (j off : Nat) (pre mid post : List Value), pre.length = off + j → mid.length = c.length →
    (c.zipIdx j).foldl (fun (cs : Array Value) (x : Value × Nat) => cs.setIfInBounds (off + x.2) x.1) (pre ++ mid ++ post).toArray = (pre ++ c ++ post).toArray
  | [], j, off, pre, mid, post, h, hm => by
    have : mid = [] := List.eq_nil_of_length_eq_zero (by simpa using hm)
    simp [this]
  | x :: c, j, off, pre, mid, post, h, hm => by
    obtain ⟨y, mid, rfl⟩ : ∃ y l, mid = y :: l := by cases mid with
      | nil => simp at hm
      | cons y l => exact ⟨y, l, rfl⟩
    rw [List.zipIdx_cons, List.foldl_cons]
    have hs : ((pre ++ y :: mid ++ post).toArray).setIfInBounds (off + j) x = ((pre ++ [x]) ++ mid ++ post).toArray := by
      rw [List.setIfInBounds_toArray, ← h]
      simp
    simp only at hs ⊢
    rw [hs, foldl_set c (j + 1) off (pre ++ [x]) mid post (by simp; omega) (by simpa using hm)]
    simp
theorem fill_vals (sz : Nat) : ∀ (vs : List Value) (k : Nat) (pre post : List Value), (∀ v ∈ vs, v.cells.size = sz) → pre.length = k * sz → post.length = vs.length * sz →
    Instr.fill (fun i => some (i * sz, sz)) (pre ++ post).toArray ((vs.zipIdx k).map fun x => (x.2, x.1)) = some (pre ++ (vs.map (·.cells.toList)).flatten).toArray
  | [], k, pre, post, h, hp, hq => by
    have : post = [] := List.eq_nil_of_length_eq_zero (by simpa using hq)
    simp [this, Instr.fill]
  | v :: vs, k, pre, post, h, hp, hq => by
    have hv := h v List.mem_cons_self
    have hvl : v.cells.toList.length = sz := by rw [Array.length_toList]; exact hv
    rw [List.zipIdx_cons, List.map_cons]
    unfold Instr.fill
    simp only
    have hlen : post.length = sz + vs.length * sz := by rw [hq, List.length_cons, Nat.succ_mul]; omega
    rw [if_neg (by rw [hv]; simp [hlen, hp])]
    have hsplit : pre ++ post = pre ++ post.take sz ++ post.drop sz := by simp
    have hf := foldl_set v.cells.toList 0 (k * sz) pre (post.take sz) (post.drop sz) (by omega) (by show (post.take sz).length = v.cells.toList.length; rw [List.length_take, hvl]; omega)
    have he : v.cells.zipIdx.foldl (fun (cs : Array Value) (x : Value × Nat) => cs.setIfInBounds (k * sz + x.2) x.1) (pre ++ post).toArray = (pre ++ v.cells.toList ++ post.drop sz).toArray := by
      rw [hsplit, ← hf, ← Array.foldl_toList, Array.toList_zipIdx]
    rw [show (v.cells.zipIdx.foldl (fun cs (c, j) => cs.setIfInBounds (k * sz + j) c) (pre ++ post).toArray) = (pre ++ v.cells.toList ++ post.drop sz).toArray from he,
      fill_vals sz vs (k + 1) (pre ++ v.cells.toList) (post.drop sz) (fun u hu => h u (List.mem_cons_of_mem _ hu)) (by show (pre ++ v.cells.toList).length = _; rw [List.length_append, hvl, hp, Nat.succ_mul]) (by rw [List.length_drop, hlen]; omega)]
    simp
section
variable {P : Program} {ops : Array Oper} {Q : Exit → Act → World → Prop}
theorem exec_buildSlice {t e : TypeId} {size bytes : Nat} {z : Value} (hE : Elem P t e size bytes z) {o : Oper} {a : Act} {w : World} {len : Nat} {parts : Array (Nat × Operand)} (ho : o.op = .buildSlice t len parts)
    {vs : List Value} (hv : (parts.map fun p => (p.1, a.eval p.2)).toList = (vs.zipIdx 0).map fun x => (x.2, x.1)) (hlen : vs.length = len) (hsz : ∀ v ∈ vs, v.cells.size = size) (hpos : 0 < len * size) (hsmall : len * size ≤ 16777216) :
    (execOp a.eval o).run P w = .ok (.value (.slice (some ⟨w.heap.size, 0, none⟩) len len)) (w.alloc (.cells ((vs.map (·.cells.toList)).flatten).toArray e)) := by
  obtain ⟨ht, i, hi, hz, hsize, hby, hzs, hsz'⟩ := hE
  have hfl := fill_vals size vs 0 [] ((List.range (len * size)).map (z.cells[· % z.cells.size]!)) hsz (by simp) (by simp [hlen])
  simp only [List.nil_append] at hfl
  have hr : ((Array.range (len * i.size)).map (z.cells[· % z.cells.size]!)) = ((List.range (len * size)).map (z.cells[· % z.cells.size]!)).toArray := by rw [hsize]; apply Array.toList_inj.1; simp
  have h := run_buildSlice (P := P) w t e len (parts.map fun p => (p.1, a.eval p.2)) ((vs.map (·.cells.toList)).flatten).toArray i z ht hi hz (by rw [hsize]; omega) (by rw [hsize]; omega) (by rw [hr, hsize, hv]; exact hfl)
  unfold execOp
  simp only [ho, Sem.run_bind, Sem.run_pure, Result.andThen_ok]
  rw [show (parts.map fun (i, x) => (i, a.eval x)) = (parts.map fun p => (p.1, a.eval p.2)) from rfl, h]
  rfl
end
/-! ### What operations leave -/
inductive PK where
  | val (x : Tv)
  | vals (l : List Tv)
  | row (cs : List Value)
  | is (v : Value)
  | fin
  | any
def FinV (F : Nat → Prop) (q : Nat) (x : Tv) (w : World) : Prop := ∃ cs, Blk w q cs 38 ∧ TvF w F x cs
def PK.holds (F : Nat → Prop) (q : Nat) (x : Tv) : PK → Value → World → Prop
  | .val y, v, w => ∃ cs, v = .agg cs.toArray ∧ TvF w F y cs
  | .vals l, v, w => ∃ rows, Sl w 5 v l.length rows ∧ (∀ y, v.ownBlock = some y → F y) ∧ TvsF w F l rows
  | .row cs, v, w => Sl w 1 v cs.length cs ∧ ∀ y, v.ownBlock = some y → F y
  | .is u, v, _ => v = u
  | .fin, _, w => FinV F q x w
  | .any, _, _ => True
def LenV (q : Nat) (w : World) : Prop := ∃ cur, Blk w q cur 38 ∧ cur.length = 5
def GV (F : Nat → Prop) (q : Nat) (x : Tv) (w w' : World) : Prop := Keeps (fun b => b = q ∨ w.heap.size ≤ b) w w' ∧ (FinV F q x w → FinV F q x w') ∧ (LenV q w → LenV q w')
theorem GV.refl (F : Nat → Prop) (q : Nat) (x : Tv) (w : World) : GV F q x w w := ⟨Keeps.refl _ _, id, id⟩
theorem GV.trans {F : Nat → Prop} {q : Nat} {x : Tv} (a b c : World) (h : GV F q x a b) (k : GV F q x b c) : GV F q x a c :=
  ⟨keeps2 (fun b => Iff.rfl) h.1 k.1, fun h0 => k.2.1 (h.2.1 h0), fun h0 => k.2.2 (h.2.2 h0)⟩
theorem GV.not {F : Nat → Prop} {q : Nat} {w : World} (hq : ¬ F q) : ∀ b, F b → b < w.heap.size → ¬ (b = q ∨ w.heap.size ≤ b) := fun b hb hl h => by
  rcases h with rfl | h
  · exact hq hb
  · omega
theorem PK.stable {F : Nat → Prop} {q : Nat} {x : Tv} (hq : ¬ F q) : ∀ {k : PK} {v : Value} {w w' : World}, k.holds F q x v w → GV F q x w w' → k.holds F q x v w'
  | .val y, v, w, w', ⟨cs, e, h⟩, g => ⟨cs, e, h.keep g.1 (GV.not hq)⟩
  | .vals l, v, w, w', ⟨rows, h1, h2, h3⟩, g => ⟨rows, h1.keepF g.1 (fun _ => h2) (GV.not hq), h2, h3.keep g.1 (GV.not hq)⟩
  | .row cs, v, w, w', ⟨h1, h2⟩, g => ⟨h1.keepF g.1 (fun _ => h2) (GV.not hq), h2⟩
  | .is u, _, _, _, h, _ => h
  | .fin, _, w, w', h, g => g.2.1 h
  | .any, _, _, _, _, _ => trivial
theorem GV.of_below {F : Nat → Prop} {q : Nat} {x : Tv} {w w' : World} (hq : q < w.heap.size) (h : Below w.heap.size w w') : GV F q x w w' :=
  ⟨(Keeps.of_below h).mono fun b hb => .inr hb, fun ⟨cs, h1, h2⟩ => ⟨cs, h1.below h hq, h2.below h⟩, fun ⟨cs, h1, h2⟩ => ⟨cs, h1.below h hq, h2⟩⟩
theorem GV.of_fin {F : Nat → Prop} {q : Nat} {x : Tv} {w w' : World} (h : Keeps (fun b => b = q) w w') (hf : FinV F q x w') : GV F q x w w' := ⟨h.mono fun b hb => .inl hb, fun _ => hf, fun _ => by obtain ⟨cs, h1, h2⟩ := hf; exact ⟨cs, h1, h2.length⟩⟩
def HoldAll (F : Nat → Prop) (q : Nat) (x : Tv) (a : Act) (w : World) : List Tv → List Operand → Prop
  | [], [] => True
  | y :: l, p :: ps => PK.holds F q x (.val y) (a.eval p) w ∧ HoldAll F q x a w l ps
  | _, _ => False
def postV (F : Nat → Prop) (q : Nat) (x : Tv) (ks : List PK) : Nat → Value → World → Prop := fun i v w => (ks.getD i .any).holds F q x v w
section
variable {ops : Array Oper} {Q : Exit → Act → World → Prop} {F : Nat → Prop} {q : Nat} {x : Tv} {E : Prop} {o : Oper} {a : Act} {w : World} {K : Act → World → Prop}
theorem stepV_mk (hw : Region.wanted o (yielded ops a.tmps) = true) {f : FuncId} {args : Array Operand} {tys : Array TypeId} (ho : o.op = .call { callee := .value (.func f), args := args, argTypes := tys }) (hf : Enters Try.prog f) {vs : Array Value} (hv : args.map a.eval = vs)
    {y : Tv} (hc : Calls Try.prog f vs w (MkRes w y)) (hq : q < w.heap.size) (hF : ∀ b, w.heap.size ≤ b → F b) (h : ∀ v w', GV F q x w w' → PK.holds F q x (.val y) v w' → K (a.put o.dst v) w') :
    if Region.wanted o (yielded ops a.tmps) = true then Oper.wp Try.prog o a w K Q else E :=
  step_call hw ho hf hv hc fun e w' ⟨cs, h1, h2, h3⟩ => ⟨_, h1, h _ _ (GV.of_below hq h3) ⟨cs, rfl, h2.mono hF⟩⟩
theorem stepV_is (hw : Region.wanted o (yielded ops a.tmps) = true) {f : FuncId} {args : Array Operand} {tys : Array TypeId} (ho : o.op = .call { callee := .value (.func f), args := args, argTypes := tys }) (hf : Enters Try.prog f) {vs : Array Value} (hv : args.map a.eval = vs)
    {u : Value} (hc : Calls Try.prog f vs w fun e w' => e = .returned u ∧ Below w.heap.size w w') (hq : q < w.heap.size) (h : ∀ v w', GV F q x w w' → PK.holds F q x (.is u) v w' → K (a.put o.dst v) w') :
    if Region.wanted o (yielded ops a.tmps) = true then Oper.wp Try.prog o a w K Q else E :=
  step_call hw ho hf hv hc fun e w' ⟨h1, h2⟩ => ⟨_, h1, h _ _ (GV.of_below hq h2) rfl⟩
theorem stepV_seq (hw : Region.wanted o (yielded ops a.tmps) = true) {t : Int} {s : Tmp} {tys : Array TypeId} (ho : o.op = .call { callee := .value (.func 25), args := #[.const (.int .i64 t), .tmp s], argTypes := tys }) (hf : Enters Try.prog 25)
    {l : List Tv} (hl : PK.holds F q x (.vals l) (a.eval (.tmp s)) w) (hq : q < w.heap.size) (h : ∀ v w', GV F q x w w' → PK.holds F q x (.val (.mk 2 t 0 [] l)) v w' → K (a.put o.dst v) w') (hqF : ¬ F q) :
    if Region.wanted o (yielded ops a.tmps) = true then Oper.wp Try.prog o a w K Q else E := by
  obtain ⟨rows, h1, h2, h3⟩ := hl
  obtain ⟨ad, c, e, _⟩ := h1.form
  refine step_call hw ho hf (vs := #[.int .i64 t, a.eval (.tmp s)]) (by simp [Act.eval]) (derSeq_any t _ l.length c ad e w) fun e w' ⟨h4, h5⟩ => ⟨_, h4, h _ _ (GV.of_below hq h5) ⟨_, rfl, ?_⟩⟩
  exact TvF.mk (Sl.nil _ _ _) (by simp [Value.ownBlock]) (h1.below h5) h2 (h3.below h5)
theorem stepV_vals (hw : Region.wanted o (yielded ops a.tmps) = true) {t : TypeId} {parts : Array (Nat × Operand)} {len : Nat} (ho : o.op = .buildSlice t len parts) {bytes : Nat} {z : Value} (hE : Elem Try.prog t 38 5 bytes z) {ps : List Operand} (hps : parts.toList = (ps.zipIdx 0).map fun p => (p.2, p.1)) {l : List Tv}
    (hl : HoldAll F q x a w l ps) (hlen : l.length = len) (hpos : 0 < len) (hsmall : len ≤ 1000000) (hq : q < w.heap.size) (hF : ∀ b, w.heap.size ≤ b → F b) (h : ∀ v w', GV F q x w w' → PK.holds F q x (.vals l) v w' → K (a.put o.dst v) w') :
    if Region.wanted o (yielded ops a.tmps) = true then Oper.wp Try.prog o a w K Q else E := by
  obtain ⟨css, h1, h2⟩ : ∃ css : List (List Value), ps.map a.eval = css.map (fun c => Value.agg c.toArray) ∧ TvsF w F l css.flatten ∧ css.length = l.length ∧ (∀ c ∈ css, c.length = 5) ∧ (∀ c ∈ css, ∀ u ∈ c, u.oneCell' = true) := by
    clear ho hlen hpos hsmall h hps
    induction l generalizing ps with
    | nil =>
      cases ps with
      | nil => exact ⟨[], rfl, rfl, rfl, by simp, by simp⟩
      | cons p ps => exact hl.elim
    | cons y l ih =>
      cases ps with
      | nil => exact hl.elim
      | cons p ps =>
      obtain ⟨css, i1, i2, i3, i4, i5⟩ := ih hl.2
      obtain ⟨cs, e, ht⟩ := hl.1
      refine ⟨cs :: css, by simp [e, i1], ⟨cs, css.flatten, rfl, ht, i2⟩, by simp [i3], ?_, ?_⟩
      · intro c hc
        rcases List.mem_cons.1 hc with rfl | hc
        · exact ht.length
        · exact i4 c hc
      · intro c hc
        rcases List.mem_cons.1 hc with rfl | hc
        · exact ht.one
        · exact i5 c hc
  obtain ⟨h2, h3, h4, h5⟩ := h2
  have hfl : ((css.map fun c => Value.agg c.toArray).map (·.cells.toList)).flatten = css.flatten := by
    rw [List.map_map, show (fun v : Value => v.cells.toList) ∘ (fun c : List Value => Value.agg c.toArray) = id from rfl, List.map_id]
  have hex := exec_buildSlice hE (o := o) (a := a) (w := w) ho (vs := css.map fun c => Value.agg c.toArray) (by
    rw [Array.toList_map, hps, ← h1, List.zipIdx_map, List.map_map, List.map_map]; rfl) (by simp [h3, hlen]) (by
      intro v hv
      obtain ⟨c, hc, rfl⟩ := List.mem_map.1 hv
      exact h4 c hc) (by omega) (by omega)
  rw [hfl] at hex
  have hsl : Sl (w.alloc (.cells css.flatten.toArray 38)) 5 (.slice (some ⟨w.heap.size, 0, none⟩) len len) len css.flatten := Sl.lit rfl (by rw [TvsF.length h2, hlen]) (by
    intro u hu
    obtain ⟨c, hc, hu⟩ := List.mem_flatten.1 hu
    exact h5 c hc u hu) (by unfold maxLen; omega)
  have hb : Below w.heap.size w (w.alloc (.cells css.flatten.toArray 38)) := (Below.refl _ _).alloc (Nat.le_refl _) _
  subst hlen
  exact step_val hw hex (h _ _ (GV.of_below hq hb) ⟨_, hsl, fun y hy => hF y (by simp [Value.ownBlock] at hy; omega), h2.below hb⟩)
theorem stepV_row (hw : Region.wanted o (yielded ops a.tmps) = true) {t e : TypeId} {parts : Array (Nat × Operand)} {len : Nat} (ho : o.op = .buildSlice t len parts) {bytes : Nat} {z : Value} (hE : Elem Try.prog t e 1 bytes z) {ps : List Operand} (hps : parts.toList = (ps.zipIdx 0).map fun p => (p.2, p.1)) {cs : List Value}
    (hl : ps.map a.eval = cs) (h1 : ∀ u ∈ cs, u.oneCell' = true ∧ u.cells = #[u]) (hlen : cs.length = len) (hpos : 0 < len) (hsmall : len ≤ 1000000) (hq : q < w.heap.size) (hF : ∀ b, w.heap.size ≤ b → F b) (h : ∀ v w', GV F q x w w' → PK.holds F q x (.row cs) v w' → K (a.put o.dst v) w') :
    if Region.wanted o (yielded ops a.tmps) = true then Oper.wp Try.prog o a w K Q else E := by
  have hfl : (cs.map (·.cells.toList)).flatten = cs := by
    clear hl hlen h
    induction cs with
    | nil => rfl
    | cons u cs ih =>
      rw [List.map_cons, List.flatten_cons, ih (fun v hv => h1 v (List.mem_cons_of_mem _ hv)), (h1 u List.mem_cons_self).2]
      rfl
  have hex := exec_buildSlice hE (o := o) (a := a) (w := w) ho (vs := cs) (by
    rw [Array.toList_map, hps, ← hl, List.zipIdx_map, List.map_map, List.map_map]; rfl) hlen (by
      intro v hv
      rw [(h1 v hv).2]; rfl) (by omega) (by omega)
  rw [hfl] at hex
  have hsl : Sl (w.alloc (.cells cs.toArray e)) 1 (.slice (some ⟨w.heap.size, 0, none⟩) len len) len cs := Sl.lit rfl (by simp [hlen]) (fun u hu => (h1 u (by simpa using hu)).1) (by unfold maxLen; omega)
  have hb : Below w.heap.size w (w.alloc (.cells cs.toArray e)) := (Below.refl _ _).alloc (Nat.le_refl _) _
  subst hlen
  exact step_val hw hex (h _ _ (GV.of_below hq hb) ⟨hsl, fun y hy => hF y (by simp [Value.ownBlock] at hy; omega)⟩)
theorem stepV_fin (hw : Region.wanted o (yielded ops a.tmps) = true) {s t : Tmp} (ho : o.op = .store 38 (.tmp s) (.tmp t)) (hs : a.eval (.tmp s) = .pointer (some ⟨q, 0, none⟩)) (ht : PK.holds F q x (.val x) (a.eval (.tmp t)) w)
    {cur : List Value} (hb : Blk w q cur 38) (hcur : cur.length = 5) (hqF : ¬ F q) (h : ∀ v w', GV F q x w w' → PK.holds F q x .fin v w' → K (a.put o.dst v) w') :
    if Region.wanted o (yielded ops a.tmps) = true then Oper.wp Try.prog o a w K Q else E := by
  obtain ⟨cs, e, hx⟩ := ht
  refine step_st hw (.tmp s) (.tmp t) aggDer ho hs e hx.length hb (by omega) hx.one fun w' h1 h2 => ?_
  have hf : FinV F q x w' := ⟨_, h1, by
    have : cur.take 0 ++ cs ++ cur.drop (0 + 5) = cs := by rw [List.drop_of_length_le (by omega)]; simp
    rw [this]
    exact hx.keep h2 (fun b hb _ hq => hqF (hq ▸ hb))⟩
  exact h _ _ (GV.of_fin h2 hf) hf
end
end
end Go.Proofs.Ytpjkidcfidmfaaa
