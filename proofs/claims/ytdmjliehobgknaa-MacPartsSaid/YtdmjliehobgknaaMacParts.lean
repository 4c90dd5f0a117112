/- The statement MacParts: rows of bytes have the sum of all, one behind the other. -/
import Derived.Test.YtdmjliehobgknaaMacAlive
import Derived.Test.YtdmjliehobgknaaShaParts
namespace Go.Proofs.Ytdmjliehobgknaa
set_option linter.unusedSimpArgs false
set_option linter.unusedVariables false
open Go.RowKit

set_option maxHeartbeats 4000000 in
set_option maxRecDepth 100000 in
theorem macParts_walk (u v : Value) (key b : List UInt8) (cut : Int) (w : World) (hu : Bs w u key) (hv : Bs w v b) :
    Calls Try.prog 8 #[u, v, .int .i64 cut] w fun e w' => e = .returned (.bool true) ∧ Below w.heap.size w w' := by
  obtain ⟨au, cu, rfl, hcu, hmu⟩ := hu.form
  obtain ⟨ab, cb, rfl, hcb, hmb⟩ := hv.form
  have HU := Lib.hid hu
  have HV := Lib.hid hv
  unfold maxLen at hmb hmu
  clear hu hv
  go_enter Try.func8, Try.ntmps8
  go_wp2_with fail
  refine (alive04_any w).mono ?_
  rintro e w1 ⟨rfl, hb1⟩
  have hz1 := hb1.size
  have HB1 := Lib.hid hb1
  have HU1 := Lib.hid (HU.out.below hb1)
  have HV1 := Lib.hid (HV.out.below hb1)
  clear hb1
  by_cases hlk : key.length ≤ 300
  · have hlk' : ¬ (300 : Int) < key.length := by omega
    by_cases hl : b.length ≤ 300
    · have hl' : ¬ (300 : Int) < b.length := by omega
      obtain ⟨n, hn⟩ : ∃ n : Nat, cut % 1024 % ((b.length : Int) + 1) = (n : Int) := ⟨(cut % 1024 % ((b.length : Int) + 1)).toNat, by
        have := Int.emod_nonneg (cut % 1024) (b := (b.length : Int) + 1) (by omega)
        omega⟩
      have hnl : n ≤ b.length := by
        have := Int.emod_lt_of_pos (cut % 1024) (b := (b.length : Int) + 1) (by omega)
        omega
      have hand := i64_and1023 cut
      have hcp : 0 ≤ cut % 1024 := by omega
      have hcp2 : cut % 1024 < 1024 := by omega
      go_upto_region 6 with fail
      rw [hn]
      have hn0 : (0 : Int) ≤ n := by omega
      clear hn hand hcp hcp2
      have HE1 : Hid (Own (w1.alloc (.cells #[] 5)) w1.heap.size 5 1 (.slice (some ⟨w1.heap.size, 0, none⟩) 0 0) 0 []) := Lib.hid (Own.nil _ _ _ _ _)
      have HUe := Lib.hid (HU1.out.alloc (.cells #[] 5))
      go_wp2_with ((with_reducible show wpList _ _ _ (⟨some 28, _, _, _, _, _⟩ :: _) _ _); refine wpList_app rfl (.tmp 26) (.tmp 27) elBytes rfl w1.heap.size HE1.out HUe.out (by unfold maxLen; omega) (by omega) (by simp) ?_)
      intro v2 w2 ho2 hk2 hvb2
      have hb2 : Below w1.heap.size w1 w2 := ((Below.refl _ _).alloc (Nat.le_refl _) _).trans (hk2.below (by rintro j (⟨_, h⟩ | h); exact h; omega))
      have hk' : Bs w2 v2 key := by
        have := ho2.sl
        unfold Bs
        simpa using this
      have HKK := Lib.hid hk'
      have HB2 : Hid (Below w.heap.size w w2) := Lib.hid (HB1.out.trans (hb2.mono hz1))
      have hz2 := hb2.size
      have HVe := Lib.hid ((HV1.out.below hb2).alloc (.cells #[] 5))
      have HE2 : Hid (Own (w2.alloc (.cells #[] 5)) w2.heap.size 5 1 (.slice (some ⟨w2.heap.size, 0, none⟩) 0 0) 0 []) := Lib.hid (Own.nil _ _ _ _ _)
      clear ho2 hk2 hvb2 hb2 hk' HE1 HUe
      go_wp2_with ((with_reducible show wpList _ _ _ (⟨some 31, _, _, _, _, _⟩ :: _) _ _); refine wpList_app rfl (.tmp 29) (.tmp 30) elBytes rfl w2.heap.size HE2.out HVe.out (by unfold maxLen; omega) (by omega) (by simp) ?_)
      intro v3 w3 ho3 hk3 hvb3
      have hb3 : Below w2.heap.size w2 w3 := ((Below.refl _ _).alloc (Nat.le_refl _) _).trans (hk3.below (by rintro j (⟨_, h⟩ | h); exact h; omega))
      have hc' : Bs w3 v3 b := by
        have := ho3.sl
        unfold Bs
        simpa using this
      have HCC := Lib.hid hc'
      have HKK3 := Lib.hid (HKK.out.below hb3)
      have HB3 : Hid (Below w.heap.size w w3) := Lib.hid (HB2.out.trans (hb3.mono (by omega)))
      have hz3 := hb3.size
      clear ho3 hk3 hvb3 hb3 hc' HE2 HVe
      have HU3 := Lib.hid (HU.out.below HB3.out)
      have HV3 := Lib.hid (HV.out.below HB3.out)
      have HRS := Lib.hid (Rs.one (T := 22) HV3.out)
      have HU4 := Lib.hid (HU3.out.alloc (.cells #[.slice ab b.length cb] 22))
      go_wp2_with fail
      refine (macSum_any _ _ key [b] _ HU4.out HRS.out (by omega) (by simp; omega) (by simp)).mono ?_
      rintro e w4 ⟨x4, rfl, ho4, hb4⟩
      rw [show [b].flatten = b by simp] at ho4
      obtain ⟨D, hD⟩ : ∃ D, D = macB key b := ⟨_, rfl⟩
      rw [← hD] at ho4
      have hDl : D.length = 32 := by rw [hD]; exact macB_length _ _
      obtain ⟨g4, cap4, rest4, rfl, _⟩ := ho4.blk (by omega)
      have hs4 := ho4.bs
      rw [hDl] at hs4 ⊢
      have HD := Lib.hid hD
      have hz4 := hb4.size
      simp at hz4
      have HB4 : Hid (Below w.heap.size w w4) := Lib.hid ((HB3.out.alloc (by omega) _).trans (hb4.mono (by simp; omega)))
      have hK4 : Bs w4 v2 key := (HKK3.out.alloc _).below hb4
      have hC4 : Bs w4 v3 b := (HCC.out.alloc _).below hb4
      have hU4 : Bs w4 (.slice au key.length cu) key := HU.out.below HB4.out
      have hV4 : Bs w4 (.slice ab b.length cb) b := HV.out.below HB4.out
      have q0 := run_cut0 ab b.length cb n (by omega)
      have q0s := run_cut0s ab b.length cb n (by omega)
      have q1 := run_cut1 ab b.length cb n hnl
      have q1s := run_cut1s ab b.length cb n hnl
      have hC0 : Bs w4 (.slice (cutA ab cb 0) n cb) (b.take n) := by
        have := Bs.cut hV4 0 n (Nat.zero_le _) hnl
        simpa only [Nat.sub_zero, List.drop_zero] using this
      have hC1 : Bs w4 (.slice (cutA ab cb n) (b.length - n) (cb - n)) (b.drop n) := by
        have := Bs.cut hV4 n b.length hnl (Nat.le_refl _)
        rwa [List.take_of_length_le (by simp)] at this
      have hCn : Bs w4 (.slice none 0 0) [] := Bs.none _ _ _ (fun _ => rfl) (by unfold maxLen; decide)
      have hfl : [b.take n, [], b.drop n].flatten = b := by simp
      have HFL := Lib.hid hfl
      clear ho4 hb4 hD hDl hfl HU1 HV1 HKK HKK3 HCC HRS HU3 HU4 HV3
      go_upto_region 8 with fail
      go_cut [6] (fun s6 wx => s6 = .bool true ∧ Below w4.heap.size w4 wx)
      case first =>
        go_region_held3 (fun _ : World => True) (trivial) (first | (go_at_call 22; refine (macSum_any _ _ key [b.take n, [], b.drop n] _ (by repeat (first | (with_reducible assumption) | (with_reducible refine Bs.drew ?_) | (with_reducible refine Bs.alloc ?_ _) | (apply Bs.below; rotate_left; assumption))) (by repeat (first | (with_reducible assumption) | (with_reducible refine Rs.drew ?_) | (with_reducible refine Rs.three ?_ ?_ ?_) | (with_reducible refine Rs.three2 ?_ ?_ ?_) | (with_reducible refine Rs.alloc ?_ _) | (with_reducible refine Bs.drew ?_) | (with_reducible refine Bs.alloc ?_ _) | (apply Rs.below; rotate_left; assumption) | (apply Bs.below; rotate_left; assumption))) (by omega) (by rw [HFL.out]; omega) (by simp)).mono ?_; rw [HFL.out, ← HD.out]; rintro e w' ⟨vo, rfl, hoo, hbo⟩; have hbso := hoo.bs; clear hoo) | (go_at_call 14; (with_reducible show Calls _ _ #[Value.slice (some ⟨g4, 0, none⟩) 32 cap4, _] _ _); refine (same_b _ _ D D _ (by repeat (first | (with_reducible assumption) | (with_reducible refine Bs.drew ?_) | (with_reducible refine Bs.alloc ?_ _) | (apply Bs.below; rotate_left; assumption))) (by repeat (first | (with_reducible assumption) | (with_reducible refine Bs.drew ?_) | (with_reducible refine Bs.alloc ?_ _) | (apply Bs.below; rotate_left; assumption)))).mono ?_; rintro e w' ⟨rfl, hbs⟩) | (go_at_call 14; (with_reducible show Calls _ _ #[v2, _] _ _); refine (same_b _ _ key key _ (by repeat (first | (with_reducible assumption) | (with_reducible refine Bs.drew ?_) | (with_reducible refine Bs.alloc ?_ _) | (apply Bs.below; rotate_left; assumption))) (by repeat (first | (with_reducible assumption) | (with_reducible refine Bs.drew ?_) | (with_reducible refine Bs.alloc ?_ _) | (apply Bs.below; rotate_left; assumption)))).mono ?_; rintro e w' ⟨rfl, hbs⟩) | (go_at_call 14; (with_reducible show Calls _ _ #[v3, _] _ _); refine (same_b _ _ b b _ (by repeat (first | (with_reducible assumption) | (with_reducible refine Bs.drew ?_) | (with_reducible refine Bs.alloc ?_ _) | (apply Bs.below; rotate_left; assumption))) (by repeat (first | (with_reducible assumption) | (with_reducible refine Bs.drew ?_) | (with_reducible refine Bs.alloc ?_ _) | (apply Bs.below; rotate_left; assumption)))).mono ?_; rintro e w' ⟨rfl, hbs⟩))
        all_goals go_wp2_with fail
        all_goals go_meet
        all_goals exact ⟨rfl, by repeat (first | (with_reducible assumption) | (with_reducible refine belowDrew ?_) | (with_reducible refine belowAlloc ?_ _) | (with_reducible exact Below.refl _ _) | (apply belowStep; rotate_left; assumption))⟩
      case rest =>
      obtain ⟨rfl, hbW⟩ := hcut
      have HBW : Hid (Below w.heap.size w wc) := Lib.hid (HB4.out.trans (hbW.mono (by omega)))
      clear hbW
      go_wp2_with fail
      go_ret
      exact ⟨rfl, HBW.out⟩
    · have hl' : (300 : Int) < b.length := by omega
      go_wp2_with fail
      go_ret
      exact ⟨rfl, HB1.out⟩
  · have hlk' : (300 : Int) < key.length := by omega
    go_wp2_with fail
    go_ret
    exact ⟨rfl, HB1.out⟩
end Go.Proofs.Ytdmjliehobgknaa
