/- Contracts of the document's names (compeerref09): Right, Text. -/
import Derived.Test.YtclonbojpcgngaaRef09b
namespace Go.Proofs.Ytclonbojpcgngaa
set_option linter.unusedSimpArgs false
set_option linter.unusedVariables false
open Go.RowKit Go.Lib

theorem decode_from (s : ByteArray) (p : Nat) : Utf8.decode (s.extract p s.size) 0 = Utf8.decode s p := by
  rw [← decodeL_drop s p, ← decodeL_drop (s.extract p s.size) 0, List.drop_zero]
  congr 1
  rw [ByteArray.data_extract, Array.toList_extract, List.extract_eq_take_drop, List.take_of_length_le]
  rw [List.length_drop, size_toList]
  exact Nat.le_refl _

theorem refR_wd (s : ByteArray) (p : Nat) : (refR (Utf8.decode s p)).2 = (Utf8.decode s p).2 := by
  unfold refR
  split
  · next h => exact h.2.symm
  · rfl
theorem refR_r (s : ByteArray) (p : Nat) : ((refR (Utf8.decode s p)).1 = -1 ∧ (Utf8.decode s p).1 = 65533) ∨ (refR (Utf8.decode s p)).1 = ((Utf8.decode s p).1 : Int) := by
  unfold refR
  split
  · next h => exact .inl ⟨rfl, h.1⟩
  · exact .inr rfl

/-- The rune that the document reads at a place of a text. -/
theorem refRune_at (s : ByteArray) (p : Nat) (w : World) (hs : s.size ≤ maxLen) (hp : p < s.size) :
    ∃ (r : Int) (wd : Nat), wd = (Utf8.decode s p).2 ∧ 1 ≤ wd ∧ p + wd ≤ s.size ∧ ((r = -1 ∧ (Utf8.decode s p).1 = 65533) ∨ r = ((Utf8.decode s p).1 : Int)) ∧ -1 ≤ r ∧ r ≤ 1114111 ∧ refR (Utf8.decode s p) = (r, wd) ∧
    Calls Try.prog 28 #[.string (s.extract p s.size)] w fun e w' => e = .returned (.tuple #[.int .i64 r, .int .i64 wd]) ∧ w = w' := by
  have h := refRune_any (s.extract p s.size) w (by rw [ByteArray.size_extract]; omega) (by rw [ByteArray.size_extract]; omega)
  rw [decode_from] at h
  have h1 := refR_r s p
  have h2 := refR_wd s p
  have h3 := Lib.decode_width_pos s p hp
  have h4 : p + (Utf8.decode s p).2 ≤ s.size := by
    have hne : s.data.toList.drop p ≠ [] := by
      intro e
      have := congrArg List.length e
      rw [List.length_drop, size_toList] at this
      simp at this
      omega
    have := decodeL_le _ hne
    rw [decodeL_drop, List.length_drop, size_toList] at this
    omega
  have h5 : (Utf8.decode s p).1 ≤ 1114111 := by
    have hr : ((Utf8.decode s p).1 : Int) ∈ ru (s.data.toList.drop p) := by
      rw [← rs_ru s s.size p (by omega), rs_step s p hp]
      simp
    have := ru_ok _ _ hr
    unfold okR at this
    omega
  obtain ⟨⟨r, wd⟩, hd⟩ : ∃ d, refR (Utf8.decode s p) = d := ⟨_, rfl⟩
  rw [hd] at h h1 h2
  simp only at h h1 h2
  exact ⟨r, wd, h2, by omega, by omega, h1, by omega, by omega, hd, h⟩

theorem letB_bad : letB (-1) = false := by decide
theorem letB_bad' : letB 65533 = false := by decide +kernel
theorem numB_bad' : numB 65533 = false := by decide +kernel

set_option maxHeartbeats 2000000 in
set_option maxRecDepth 100000 in
theorem refRight_any (s : ByteArray) (w : World) (hs : s.size ≤ maxLen) :
    Calls Try.prog 22 #[.string s] w fun e w' => e = .returned (.bool (rightB s)) ∧ w = w' := by
  have hs' := hs
  unfold maxLen at hs
  go_enter Try.func22, Try.ntmps22
  go_wp2_with fail
  go_loopw [3, 4] (fun n i wr => ∃ (pos q : Nat), n = .int .i64 q ∧ i = .int .i64 pos ∧ q ≤ pos ∧ pos ≤ s.size ∧ wr = w ∧ rightF (rs s pos) q = rightB s) (fun _ i _ => s.size - (intOf i).toNat)
  case atStart => exact ⟨0, 0, rfl, rfl, Nat.le_refl _, Nat.zero_le _, rfl, rfl⟩
  case round =>
    obtain ⟨pos, q, rfl, rfl, hq, hps, rfl, hR⟩ := hrel
    have HR := Lib.hid hR
    clear hR
    by_cases hp : pos < s.size
    · have hp1 : (pos : Int) < (s.size : Int) := by omega
      obtain ⟨r, wd, hwd, h1, h2, hr, hr0, hr1, _, hc⟩ := refRune_at s pos wr hs' hp
      have hstep := rs_step s pos hp
      rw [← hwd] at hstep
      obtain ⟨c, hcc⟩ : ∃ c : Int, c = ((Utf8.decode s pos).1 : Int) := ⟨_, rfl⟩
      have hr' : letB r = letB c ∧ (letB c = false → numB c = (decide (48 ≤ r ∧ r ≤ 57) || decide (r = 45))) := by
        rcases hr with ⟨rfl, h⟩ | h
        · rw [hcc, h]
          exact ⟨by decide +kernel, fun _ => by decide +kernel⟩
        · have : r = c := by omega
          subst this
          refine ⟨rfl, fun _ => ?_⟩
          rw [Bool.eq_iff_iff, numB_iff]
          simp only [Bool.or_eq_true, decide_eq_true_eq]
          omega
      rw [← hcc] at hstep
      have HS := Lib.hid hstep
      have HC := Lib.hid hr'
      have hsl : ∀ W, (Instr.slice 9 (.string s) (some (.int .i64 pos)) none none).run Try.prog W = .ok (.string (s.extract pos s.size)) W := fun W => run_slice_string_l W _ s Try.underlying9 .i64 pos (by omega) (by omega)
      clear hwd hr hstep hcc hr'
      go_wp2_with fail
      refine hc.mono ?_
      rintro e w' ⟨rfl, rfl⟩
      clear hc
      go_wp2_with fail
      obtain ⟨L, hL⟩ : ∃ L, L = letB c := ⟨_, rfl⟩
      have hl := refLetter_any r 0 wr (by omega) (by omega) (by omega) (by omega)
      rw [Int.add_zero, HC.out.1, ← hL] at hl
      have HL := Lib.hid hL
      refine hl.mono ?_
      rintro e w' ⟨rfl, rfl⟩
      clear hl hL hsl
      cases L with
      | true =>
        have HF : Hid (rightF (rs s (pos + wd)) (q + 1) = rightB s) := Lib.hid (by
          rw [← HR.out, HS.out, rightF, ← HL.out, if_pos rfl])
        go_wp2_with fail
        go_roundw
        case rel => exact ⟨pos + wd, q + 1, by go_num, by go_num, by omega, by omega, by first | rfl | trivial, HF.out⟩
        case measure => simp [intOf]; omega
      | false =>
        have HN := Lib.hid (HC.out.2 HL.out.symm)
        by_cases hp0 : pos = 0
        · subst hp0
          have HF : Hid (rightB s = false) := Lib.hid (by
            rw [← HR.out, HS.out, rightF, ← HL.out]
            simp)
          go_wp2_with fail
          go_ret
          rw [HF.out]
          exact ⟨rfl, rfl⟩
        · have hp2 : ((pos : Int) == 0) = false := by simp; omega
          have HP0 := Lib.hid hp0
          clear hp0
          rcases (by omega : r = 45 ∨ (r ≠ 45 ∧ r < 48) ∨ (r ≠ 45 ∧ 48 ≤ r ∧ 57 < r) ∨ (r ≠ 45 ∧ 48 ≤ r ∧ r ≤ 57)) with g | ⟨g, g'⟩ | ⟨g, g', g''⟩ | ⟨g, g', g''⟩
          · subst g
            have HF : Hid (rightF (rs s (pos + wd)) (q + 1) = rightB s) := Lib.hid (by
              rw [← HR.out, HS.out, rightF, ← HL.out, HN.out]
              simp [HP0.out])
            go_wp2_with fail
            go_roundw
            case rel => exact ⟨pos + wd, q + 1, by go_num, by go_num, by omega, by omega, by first | rfl | trivial, HF.out⟩
            case measure => simp [intOf]; omega
          · have g1 : (r != 45) = true := by simpa using g
            have HF : Hid (rightB s = false) := Lib.hid (by
              rw [← HR.out, HS.out, rightF, ← HL.out, HN.out, decide_eq_false (by omega : ¬ (48 ≤ r ∧ r ≤ 57)), decide_eq_false g]
              simp)
            go_wp2_with fail
            go_ret
            rw [HF.out]
            exact ⟨rfl, rfl⟩
          · have g1 : (r != 45) = true := by simpa using g
            have g2 : ¬ r < 48 := by omega
            have HF : Hid (rightB s = false) := Lib.hid (by
              rw [← HR.out, HS.out, rightF, ← HL.out, HN.out, decide_eq_false (by omega : ¬ (48 ≤ r ∧ r ≤ 57)), decide_eq_false g]
              simp)
            go_wp2_with fail
            go_ret
            rw [HF.out]
            exact ⟨rfl, rfl⟩
          · have g1 : (r != 45) = true := by simpa using g
            have g2 : ¬ r < 48 := by omega
            have g3 : ¬ 57 < r := by omega
            have HF : Hid (rightF (rs s (pos + wd)) (q + 1) = rightB s) := Lib.hid (by
              rw [← HR.out, HS.out, rightF, ← HL.out, HN.out, decide_eq_true (And.intro g' g'')]
              simp [HP0.out])
            go_wp2_with fail
            go_roundw
            case rel => exact ⟨pos + wd, q + 1, by go_num, by go_num, by omega, by omega, by first | rfl | trivial, HF.out⟩
            case measure => simp [intOf]; omega
    · have hp1 : ¬ (pos : Int) < (s.size : Int) := by omega
      have HF : Hid (rightB s = (decide (1 ≤ q) && decide (q ≤ 16))) := Lib.hid (by rw [← HR.out, rs_end s pos hp, rightF])
      rcases (by omega : q < 1 ∨ (1 ≤ q ∧ q ≤ 16) ∨ 16 < q) with h | ⟨h, h'⟩ | h
      · have h1 : ¬ (1 : Int) ≤ (q : Int) := by omega
        have HG := Lib.hid (HF.out.trans (show _ = false by rw [decide_eq_false (by omega : ¬ 1 ≤ q)]; rfl))
        clear h
        go_wp2_with fail
        go_ret
        rw [HG.out]
        exact ⟨rfl, rfl⟩
      · have h1 : (1 : Int) ≤ (q : Int) := by omega
        have h2 : (q : Int) ≤ 16 := by omega
        have HG := Lib.hid (HF.out.trans (show _ = true by rw [decide_eq_true h, decide_eq_true h']; rfl))
        clear h h'
        go_wp2_with fail
        go_ret
        rw [HG.out]
        exact ⟨rfl, rfl⟩
      · have h1 : (1 : Int) ≤ (q : Int) := by omega
        have h2 : ¬ (q : Int) ≤ 16 := by omega
        have HG := Lib.hid (HF.out.trans (show _ = false by rw [decide_eq_false (by omega : ¬ q ≤ 16)]; simp))
        clear h
        go_wp2_with fail
        go_ret
        rw [HG.out]
        exact ⟨rfl, rfl⟩
end Go.Proofs.Ytclonbojpcgngaa
