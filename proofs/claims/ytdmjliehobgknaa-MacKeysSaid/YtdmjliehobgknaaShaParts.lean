/- The statement ShaParts, walked. -/
import Derived.Test.YtdmjliehobgknaaShaAlive
import Derived.Test.YtdmjliehobgknaaCut
import Derived.Deep.DeepCutAuto
namespace Go.Proofs.Ytdmjliehobgknaa
set_option linter.unusedSimpArgs false
set_option linter.unusedVariables false
open Go.RowKit

theorem belowStep {w W W' : World} (h : Below w.heap.size w W) (hb : Below W.heap.size W W') : Below w.heap.size w W' := h.trans (hb.mono h.size)
theorem belowAlloc {w W : World} (h : Below w.heap.size w W) (o : Obj) : Below w.heap.size w (W.alloc o) := h.alloc h.size o
theorem SumOf.alloc {w : World} {F : Nat → Prop} {p : Nat} {D : List UInt8} (h : SumOf w F p D) (o : Obj) : SumOf (w.alloc o) F p D := h.below ((Below.refl _ _).alloc (Nat.le_refl _) o)
theorem SumOf.drew {w : World} {F : Nat → Prop} {p : Nat} {D : List UInt8} (h : SumOf w F p D) : SumOf w.drew F p D := h
theorem Bs.drew {w : World} {v : Value} {l : List UInt8} (h : Bs w v l) : Bs w.drew v l := h
theorem belowDrew {w W : World} (h : Below w.heap.size w W) : Below w.heap.size w W.drew := ⟨h.os, h.tape, h.output, h.size, h.block⟩

theorem run_cut2i (a : Option Addr) (n cap i j : Nat) (zi zj : Int) (hzi : zi = i) (hzj : zj = j) (hi : i ≤ j) (hj : j ≤ cap) (W : World) :
    (Instr.sliceAt 22 (.slice a n cap) (some (.int .i64 zi)) (some (.int .i64 zj)) none).run Try.prog W = .ok (.slice (cutA a cap i) (j - i) (cap - i)) W := by
  subst hzi hzj
  exact run_cut2 a n cap i j hi hj W

theorem take_cut (b : List UInt8) (t n : Nat) (h : t ≤ n) : b.take t ++ (b.drop t).take (n - t) = b.take n := by
  rw [show n = t + (n - t) by omega, List.take_add, show t + (n - t) - t = n - t by omega]

theorem Rs.drew {w : World} {v : Value} {r : List (List UInt8)} (h : Rs w v r) : Rs w.drew v r := h

theorem Rs.alloc {w : World} {v : Value} {r : List (List UInt8)} (h : Rs w v r) (o : Obj) : Rs (w.alloc o) v r := h.below ((Below.refl _ _).alloc (Nat.le_refl _) o)
theorem Rs.one2 {w : World} {o : Obj} {T : TypeId} {u1 : Value} {r1 : List UInt8} (h1 : Bs (w.alloc o) u1 r1) : Rs ((w.alloc o).alloc (.cells #[u1] T)) (.slice (some ⟨w.heap.size + 1, 0, none⟩) 1 1) [r1] := by
  have := Rs.one (T := T) h1
  rwa [show (w.alloc o).heap.size = w.heap.size + 1 by simp] at this
theorem Rs.three2 {w : World} {o : Obj} {T : TypeId} {u1 u2 u3 : Value} {r1 r2 r3 : List UInt8} (h1 : Bs (w.alloc o) u1 r1) (h2 : Bs (w.alloc o) u2 r2) (h3 : Bs (w.alloc o) u3 r3) :
    Rs ((w.alloc o).alloc (.cells #[u1, u2, u3] T)) (.slice (some ⟨w.heap.size + 1, 0, none⟩) 3 3) [r1, r2, r3] := by
  have := Rs.three (T := T) h1 h2 h3
  rwa [show (w.alloc o).heap.size = w.heap.size + 1 by simp] at this

set_option maxHeartbeats 4000000 in
set_option maxRecDepth 100000 in
theorem shaParts_walk (u v : Value) (b cs : List UInt8) (w : World) (hb : Bs w u b) (hcs : Bs w v cs) :
    Calls Try.prog 4 #[u, v] w fun e w' => e = .returned (.bool true) ∧ Below w.heap.size w w' := by
  obtain ⟨aa, ca, rfl, hca, hma⟩ := hb.form
  obtain ⟨ac, cc, rfl, hcc, hmc⟩ := hcs.form
  have HB := Lib.hid hb
  have HC := Lib.hid hcs
  clear hb hcs
  unfold maxLen at hma hmc
  by_cases hla : 2000 < b.length
  · have hla' : (2000 : Int) < (b.length : Int) := by omega
    go_enter Try.func4, Try.ntmps4
    go_wp2_with fail
    refine (alive03_any w).mono ?_
    rintro e w1 ⟨rfl, hb1⟩
    go_wp2_with fail
    go_ret
    exact ⟨rfl, hb1⟩
  have hla' : ¬ (2000 : Int) < (b.length : Int) := by omega
  by_cases hlc : 40 < cs.length
  · have hlc' : (40 : Int) < (cs.length : Int) := by omega
    go_enter Try.func4, Try.ntmps4
    go_wp2_with fail
    refine (alive03_any w).mono ?_
    rintro e w1 ⟨rfl, hb1⟩
    go_wp2_with fail
    go_ret
    exact ⟨rfl, hb1⟩
  have hlc' : ¬ (40 : Int) < (cs.length : Int) := by omega
  go_enter Try.func4, Try.ntmps4
  go_wp2_with fail
  refine (alive03_any w).mono ?_
  rintro e w1 ⟨rfl, hb1⟩
  have HB1 := Lib.hid hb1
  have hz1 := hb1.size
  clear hb1
  go_wp2_with fail
  refine (shaNew_any w1).mono ?_
  rintro e w2 ⟨rfl, hs2, hb2⟩
  obtain ⟨p, hp⟩ : ∃ p, p = w1.heap.size := ⟨_, rfl⟩
  rw [← hp] at hs2 ⊢
  have HS2 := Lib.hid (hs2.mono (G := fun k => w.heap.size ≤ k) (fun k (hk : k = p) => by omega))
  have HB2 := Lib.hid (belowStep HB1.out hb2)
  have hpw : w.heap.size ≤ p := by omega
  clear hs2 hb2 hp
  go_wp2_with fail
  go_loopw [6, 23] (fun at_ i wr => ∃ (k t : Nat), k ≤ cs.length ∧ i = .int .i64 k ∧ at_ = .int .i64 t ∧ t ≤ b.length ∧ SumOf wr (fun j => w.heap.size ≤ j) p (b.take t) ∧ Below w.heap.size w wr) (fun _ i _ => cs.length - (intOf i).toNat)
  case atStart => exact ⟨0, 0, Nat.zero_le _, rfl, rfl, Nat.zero_le _, HS2.out, HB2.out⟩
  case round =>
    obtain ⟨k, t, hk, rfl, rfl, ht, hsum, hB⟩ := hrel
    have HSUM := Lib.hid hsum
    have HBr := Lib.hid hB
    have hzB := hB.size
    have HBb := Lib.hid (HB.out.below hB)
    by_cases hlt : k < cs.length
    · obtain ⟨bc, offc, rfl, hcell⟩ := HC.out.addr (by rw [bCells_length]; omega)
      have c0 : wr.cell? ⟨bc, offc + k, none⟩ = some (.int .u8 cs[k].toNat) := below_cell hB (hcell k _ (bCells_get cs k hlt))
      obtain ⟨c, hc⟩ : ∃ c, c = cs[k].toNat := ⟨_, rfl⟩
      rw [← hc] at c0
      have hc256 : c < 256 := by rw [hc]; exact cs[k].toNat_lt
      clear hcell hsum hB hc
      go_upto_region 9 with fail
      go_cut [9] (fun s9 wx => wx = wr ∧ ∃ n2 : Nat, s9 = .int .i64 n2 ∧ t ≤ n2 ∧ n2 ≤ b.length)
      case first =>
        by_cases hle : t + c ≤ b.length
        · have hle' : (t : Int) + (c : Int) ≤ (b.length : Int) := by omega
          go_wp2_with fail
          go_meet
          exact ⟨rfl, t + c, by go_num, by omega, hle⟩
        · have hle' : ¬ (t : Int) + (c : Int) ≤ (b.length : Int) := by omega
          go_wp2_with fail
          go_meet
          exact ⟨rfl, b.length, rfl, ht, Nat.le_refl _⟩
      case rest =>
      obtain ⟨rfl, n2, rfl, hn1, hn2⟩ := hcut
      have q1 := run_cut2 aa b.length ca t n2 hn1 (by omega)
      have q2 := run_cut2s aa b.length ca t n2 hn1 (by omega)
      have hcut1 := Bs.cut HBb.out t n2 hn1 hn2
      have HCUT := Lib.hid hcut1
      clear hcut1
      go_wp2_with fail
      refine (shaWrite_any _ p (b.take t) ((b.drop t).take (n2 - t)) _ wc HSUM.out (by
        have := HCUT.out
        exact this) (by simp; omega)).mono ?_
      rintro e w3 ⟨rfl, hs3, hk3⟩
      rw [take_cut b t n2 hn1] at hs3
      have hb3 : Below wc.heap.size wc w3 ∨ True := .inr trivial
      have HB3 : Hid (Below w.heap.size w w3) := Lib.hid (HBr.out.trans (hk3.below (by rintro j (h | h) <;> omega)))
      have HS3 := Lib.hid (hs3.mono (G := fun j => w.heap.size ≤ j) (fun j hj => by rcases hj with h | h <;> omega))
      have hz3 := hk3.size
      clear hs3 hk3 hb3 q1 q2
      have q0 := run_cut0 aa b.length ca n2 (by omega)
      have q0s := run_cut0s aa b.length ca n2 (by omega)
      have hC : Bs w3 (.slice (cutA aa ca 0) n2 ca) (b.take n2) := by
        have := Bs.cut (HB.out.below HB3.out) 0 n2 (Nat.zero_le _) hn2
        simpa only [Nat.sub_zero, List.drop_zero] using this
      obtain ⟨X, hX⟩ : ∃ X, X = digB (b.take n2) := ⟨_, rfl⟩
      have HX := Lib.hid hX
      clear hX
      go_upto_region 11 with fail
      go_cut [56] (fun s56 wx => s56 = .bool false ∧ Below w3.heap.size w3 wx)
      case first =>
        have hS := HS3.out
        have hW := Below.refl w3.heap.size w3
        have hTl : (b.take n2).length ≤ 2000 := by simp; omega
        go_region_held3 (fun _ : World => True) (trivial) (first | (go_at_call 20; refine (shaDigest_any (fun j => w.heap.size ≤ j) p (b.take n2) _ (by repeat (first | (with_reducible assumption) | (with_reducible refine SumOf.drew ?_) | (with_reducible refine SumOf.alloc ?_ _) | (apply SumOf.below; rotate_left; assumption))) (by omega)).mono ?_; rw [← HX.out]; rintro e w' ⟨vd, rfl, hod, hbd⟩; have hbsd := hod.bs; clear hod) | (go_at_call 15; refine (shaOf_any _ [b.take n2] _ (by repeat (first | (with_reducible assumption) | (with_reducible refine Rs.drew ?_) | (with_reducible refine Rs.one ?_) | (with_reducible refine Bs.drew ?_) | (with_reducible refine Bs.alloc ?_ _) | (apply Rs.below; rotate_left; assumption) | (apply Bs.below; rotate_left; assumption))) (by simp; omega)).mono ?_; rw [show [b.take n2].flatten = b.take n2 by simp, ← HX.out]; rintro e w' ⟨vo, rfl, hoo, hbo⟩; have hbso := hoo.bs; clear hoo) | (go_at_call 14; refine (same_b _ _ X X _ (by repeat (first | (with_reducible assumption) | (with_reducible refine Bs.drew ?_) | (with_reducible refine Bs.alloc ?_ _) | (apply Bs.below; rotate_left; assumption))) (by repeat (first | (with_reducible assumption) | (with_reducible refine Bs.drew ?_) | (with_reducible refine Bs.alloc ?_ _) | (apply Bs.below; rotate_left; assumption)))).mono ?_; rintro e w' ⟨rfl, hbs⟩))
        all_goals go_wp2_with fail
        all_goals go_meet
        all_goals exact ⟨rfl, by repeat (first | (with_reducible assumption) | (with_reducible refine belowDrew ?_) | (with_reducible refine belowAlloc ?_ _) | (with_reducible exact Below.refl _ _) | (apply belowStep; rotate_left; assumption))⟩
      case rest =>
      obtain ⟨rfl, hbW⟩ := hcut
      have HSW := Lib.hid (HS3.out.below hbW)
      have HBW : Hid (Below w.heap.size w wc) := Lib.hid (HB3.out.trans (hbW.mono (by omega)))
      clear hbW q0 q0s
      go_wp2_with fail
      go_roundw
      case rel =>
        exact ⟨k + 1, n2, by omega, by go_num, rfl, hn2, HSW.out, HBW.out⟩
      case measure => simp [intOf]; omega
    · have q1 := run_cut1 aa b.length ca t ht
      have q1s := run_cut1s aa b.length ca t ht
      have hcutT := Bs.cut HBb.out t b.length ht (Nat.le_refl _)
      have HCT := Lib.hid hcutT
      clear hcutT hsum hB
      go_wp2_with fail
      refine (shaWrite_any _ p (b.take t) ((b.drop t).take (b.length - t)) _ wr HSUM.out (by
        have := HCT.out
        exact this) (by simp; omega)).mono ?_
      rintro e w3 ⟨rfl, hs3, hk3⟩
      rw [take_cut b t b.length ht, List.take_length] at hs3
      have HB3 : Hid (Below w.heap.size w w3) := Lib.hid (HBr.out.trans (hk3.below (by rintro j (h | h) <;> omega)))
      have HS3 := Lib.hid (hs3.mono (G := fun j => w.heap.size ≤ j) (fun j hj => by rcases hj with h | h <;> omega))
      have hz3 := hk3.size
      clear hs3 hk3
      have q0 := run_cut0 aa b.length ca t (by omega)
      have q0s := run_cut0s aa b.length ca t (by omega)
      have hC0 : Bs w3 (.slice (cutA aa ca 0) t ca) (b.take t) := by
        have := Bs.cut (HB.out.below HB3.out) 0 t (Nat.zero_le _) ht
        simpa only [Nat.sub_zero, List.drop_zero] using this
      have hC1 : Bs w3 (.slice (cutA aa ca t) (b.length - t) (ca - t)) (b.drop t) := by
        have := Bs.cut (HB.out.below HB3.out) t b.length ht (Nat.le_refl _)
        rwa [List.take_of_length_le (by simp)] at this
      have hCb : Bs w3 (.slice aa b.length ca) b := HB.out.below HB3.out
      have hCn : Bs w3 (.slice none 0 0) [] := Bs.none _ _ _ (fun _ => rfl) (by unfold maxLen; decide)
      obtain ⟨X, hX⟩ : ∃ X, X = digB b := ⟨_, rfl⟩
      have HX := Lib.hid hX
      have HX32 : Hid (X.length = 32) := Lib.hid (by rw [hX]; exact digB_length b)
      have hfl : [b.take t, [], b.drop t].flatten = b := by simp
      have HFL := Lib.hid hfl
      clear hX hfl
      go_upto_region 16 with fail
      go_cut [4] (fun s4 wx => s4 = .bool true ∧ Below w3.heap.size w3 wx)
      case first =>
        have hS := HS3.out
        have hW := Below.refl w3.heap.size w3
        go_region_held3 (fun _ : World => True) (trivial) (first | (go_at_call 20; refine (shaDigest_any (fun j => w.heap.size ≤ j) p b _ (by repeat (first | (with_reducible assumption) | (with_reducible refine SumOf.drew ?_) | (with_reducible refine SumOf.alloc ?_ _) | (apply SumOf.below; rotate_left; assumption))) (by omega)).mono ?_; rw [← HX.out]; rintro e w' ⟨vd, rfl, hod, hbd⟩; have hbsd := hod.bs; obtain ⟨gd, capd, restd, rfl, _⟩ := hod.blk (by have := HX32.out; omega); rw [HX32.out] at hbsd ⊢; clear hod) | (go_at_call 15; (with_reducible show Calls _ _ #[Value.slice _ 1 1] _ _); refine (shaOf_any _ [b] _ (by repeat (first | (with_reducible assumption) | (with_reducible refine Rs.drew ?_) | (with_reducible refine Rs.one ?_) | (with_reducible refine Rs.three ?_ ?_ ?_) | (with_reducible refine Rs.one2 ?_) | (with_reducible refine Rs.three2 ?_ ?_ ?_) | (with_reducible refine Rs.alloc ?_ _) | (with_reducible refine Bs.drew ?_) | (with_reducible refine Bs.alloc ?_ _) | (apply Rs.below; rotate_left; assumption) | (apply Bs.below; rotate_left; assumption))) (by simp; omega)).mono ?_; rw [show [b].flatten = b by simp, ← HX.out]; rintro e w' ⟨vo, rfl, hoo, hbo⟩; have hbso := hoo.bs; clear hoo) | (go_at_call 15; (with_reducible show Calls _ _ #[Value.slice _ 3 3] _ _); refine (shaOf_any _ [b.take t, [], b.drop t] _ (by repeat (first | (with_reducible assumption) | (with_reducible refine Rs.drew ?_) | (with_reducible refine Rs.one ?_) | (with_reducible refine Rs.three ?_ ?_ ?_) | (with_reducible refine Rs.one2 ?_) | (with_reducible refine Rs.three2 ?_ ?_ ?_) | (with_reducible refine Rs.alloc ?_ _) | (with_reducible refine Bs.drew ?_) | (with_reducible refine Bs.alloc ?_ _) | (apply Rs.below; rotate_left; assumption) | (apply Bs.below; rotate_left; assumption))) (by rw [HFL.out]; omega)).mono ?_; rw [HFL.out, ← HX.out]; rintro e w' ⟨vo, rfl, hoo, hbo⟩; have hbso := hoo.bs; clear hoo) | (go_at_call 14; refine (same_b _ _ X X _ (by repeat (first | (with_reducible assumption) | (with_reducible refine Bs.drew ?_) | (with_reducible refine Bs.alloc ?_ _) | (apply Bs.below; rotate_left; assumption))) (by repeat (first | (with_reducible assumption) | (with_reducible refine Bs.drew ?_) | (with_reducible refine Bs.alloc ?_ _) | (apply Bs.below; rotate_left; assumption)))).mono ?_; rintro e w' ⟨rfl, hbs⟩))
        all_goals go_wp2_with fail
        all_goals go_meet
        all_goals exact ⟨rfl, by repeat (first | (with_reducible assumption) | (with_reducible refine belowDrew ?_) | (with_reducible refine belowAlloc ?_ _) | (with_reducible exact Below.refl _ _) | (apply belowStep; rotate_left; assumption))⟩
      case rest =>
      obtain ⟨rfl, hbW⟩ := hcut
      have HBW : Hid (Below w.heap.size w wc) := Lib.hid (HB3.out.trans (hbW.mono (by omega)))
      clear hbW
      go_wp2_with fail
      go_ret
      exact ⟨rfl, HBW.out⟩
end Go.Proofs.Ytdmjliehobgknaa
