/- Plain: a list of two values, written. -/
import Derived.Test.YtdmjliehobgknaaDerLaw2
namespace Go.Proofs.Ytdmjliehobgknaa
set_option linter.unusedSimpArgs false
set_option linter.unusedVariables false

theorem rightS_mono : ∀ (d : Nat) (x : Tv), rightS d x = true → rightS (d + 1) x = true
  | 0, x, h => by simp [rightS] at h
  | d + 1, .mk k t n b l, h => by
    rw [rightS] at h ⊢
    rw [Bool.and_eq_true] at h ⊢
    refine ⟨h.1, ?_⟩
    have h2 := h.2
    by_cases k0 : k = 0
    · rw [if_pos k0] at h2 ⊢; exact h2
    · rw [if_neg k0] at h2 ⊢
      by_cases k1 : k = 1
      · rw [if_pos k1] at h2 ⊢; exact h2
      · rw [if_neg k1] at h2 ⊢
        by_cases k2 : k = 2
        · rw [if_pos k2] at h2 ⊢
          simp only [Bool.and_eq_true, List.all_eq_true] at h2 ⊢
          exact ⟨⟨fun y hy => rightS_mono d y (h2.1.1 y hy), h2.1.2⟩, h2.2⟩
        · rw [if_neg k2] at h2
          simp at h2

/-- A list of two values. -/
def nestT (t : Int) (a b : Tv) : Tv := .mk 2 t 0 [] [a, b]

theorem nest_right (t : Int) (a b : Tv) (h0 : 0 ≤ t) (h1 : t ≤ 30) : rightS 8 (nestT t a b) = (rightS 7 a && rightS 7 b) := by
  unfold nestT
  rw [rightS, if_neg (by decide), if_neg (by decide), if_pos rfl]
  simp [h0, h1]

theorem nest_write (t : Int) (a b : Tv) : writeS (nestT t a b) = headS 2 t (writeS a ++ writeS b).length ++ (writeS a ++ writeS b) := by
  unfold nestT
  rw [writeS]
  have : bodyOf 2 0 [] (writesS [a, b]) = writeS a ++ writeS b := by
    show writesS [a, b] = _
    simp [writesS]
  rw [this]

theorem headS_tail (k k' t t' : Int) (m : Nat) : (headS k t m).drop 1 = (headS k' t' m).drop 1 ∧ (headS k t m).length = (headS k' t' m).length := by
  unfold headS
  split <;> exact ⟨rfl, rfl⟩

theorem nest_len (t t' : Int) (a b : Tv) : (writeS (nestT t a b)).length = (writeS (nestT t' a b)).length := by
  rw [nest_write, nest_write]
  generalize writeS a ++ writeS b = bd
  rw [List.length_append, List.length_append, (headS_tail 2 2 t t' _).2]

theorem nest_same (t : Int) (a b : Tv) (h0 : 0 ≤ t) (h1 : t ≤ 30) : (wrS (nestT t a b)).2 = (wrS (nestT 0 a b)).2 := by
  unfold wrS
  rw [nest_right t a b h0 h1, nest_right 0 a b (by decide) (by decide), nest_len t 0 a b]
  split
  · rfl
  · split <;> rfl

theorem wrS_is {x : Tv} (h : rightS 8 x = true) (hl : (writeS x).length ≤ 4096) : wrS x = (writeS x, 0) := by
  unfold wrS
  rw [h, if_neg (by decide), if_neg (by omega)]

theorem nest_ok (t : Int) (a b : Tv) (h0 : 0 ≤ t) (h1 : t ≤ 30) (h : (wrS (nestT t a b)).2 = 0) :
    wrS (nestT t a b) = (writeS (nestT t a b), 0) ∧ wrS a = (writeS a, 0) ∧ wrS b = (writeS b, 0) ∧ rightS 8 (nestT t a b) = true ∧ (writeS (nestT t a b)).length ≤ 4096 := by
  obtain ⟨r, e⟩ : ∃ r, wrS (nestT t a b) = (r, 0) := ⟨_, by rw [← h]⟩
  obtain ⟨hr, rfl, hl⟩ := wrS_ok e
  have hab := hr
  rw [nest_right t a b h0 h1, Bool.and_eq_true] at hab
  have hl2 := hl
  rw [nest_write, List.length_append, List.length_append] at hl2
  exact ⟨e, wrS_is (rightS_mono 7 a hab.1) (by omega), wrS_is (rightS_mono 7 b hab.2) (by omega), hr, hl⟩

/-- But for the first byte the tag does not show. -/
theorem nest_drop (t t' : Int) (a b : Tv) : (writeS (nestT t a b)).drop 1 = (writeS (nestT t' a b)).drop 1 := by
  have h := headS_pos 2 t (writeS a ++ writeS b).length
  have h' := headS_pos 2 t' (writeS a ++ writeS b).length
  rw [nest_write, nest_write, List.drop_append_of_le_length (by omega), List.drop_append_of_le_length (by omega), (headS_tail 2 2 t t' _).1]

/-- The parts' bytes stand at the end. -/
theorem nest_end (t : Int) (a b : Tv) : (writeS (nestT t a b)).drop ((writeS (nestT t a b)).length - (writeS a ++ writeS b).length) = writeS a ++ writeS b := by
  rw [nest_write]
  generalize writeS a ++ writeS b = bd
  exact List.drop_left' (by rw [List.length_append]; omega)
end Go.Proofs.Ytdmjliehobgknaa
