/- Contracts of the document's names (compeerref09): Rune. -/
import Derived.Test.YtclonbojpcgngaaRunes
namespace Go.Proofs.Ytclonbojpcgngaa
set_option linter.unusedSimpArgs false
set_option linter.unusedVariables false
open Go.RowKit Go.Lib

/-- The document's rune: -1, and one byte: none that is well formed. -/
def refR (d : Nat × Nat) : Int × Nat := if d.1 = 65533 ∧ d.2 = 1 then (-1, 1) else (d.1, d.2)

theorem refR_wide (x k : Nat) (h : k ≠ 1) : refR (x, k) = ((x : Int), k) := by
  unfold refR
  rw [if_neg (fun e => h e.2)]
theorem ref_one (n b0 b1 b2 b3 : Nat) (h : b0 < 128) : refR (decodeN n b0 b1 b2 b3) = ((b0 : Int), 1) := by
  unfold decodeN
  rw [if_pos h]
  unfold refR
  rw [if_neg (by simp only; omega)]
theorem ref_bad (n b0 b1 b2 b3 : Nat) (h : 128 ≤ b0) (h' : b0 < 194 ∨ 244 < b0) (h2 : b0 < 256) : refR (decodeN n b0 b1 b2 b3) = (-1, 1) := by
  have : decodeN n b0 b1 b2 b3 = (65533, 1) := by
    unfold decodeN
    repeat' split
    all_goals first | rfl | (exfalso; omega)
  rw [this]
  rfl
theorem ref_two_no (n b0 b1 b2 b3 : Nat) (h : 194 ≤ b0 ∧ b0 ≤ 223) (hb1 : b1 < 256) (hn : n < 2 ∨ b1 < 128 ∨ 191 < b1) : refR (decodeN n b0 b1 b2 b3) = (-1, 1) := by
  have : decodeN n b0 b1 b2 b3 = (65533, 1) := by
    unfold decodeN
    repeat' split
    all_goals first | rfl | (exfalso; omega)
  rw [this]
  rfl
theorem ref_two (n b0 b1 b2 b3 : Nat) (h : 194 ≤ b0 ∧ b0 ≤ 223) (hn : 2 ≤ n) (hb1 : 128 ≤ b1 ∧ b1 ≤ 191) : refR (decodeN n b0 b1 b2 b3) = ((((b0 - 192) * 64 + (b1 - 128) : Nat) : Int), 2) := by
  have : decodeN n b0 b1 b2 b3 = ((b0 - 192) * 64 + (b1 - 128), 2) := by
    unfold decodeN
    rw [if_neg (by omega), if_pos (by omega), if_pos (by omega)]
    exact congrArg (fun y => (y, 2)) (by omega)
  rw [this]
  exact refR_wide _ _ (by decide)
theorem ref_three_no (n b0 b1 b2 b3 : Nat) (h : 224 ≤ b0 ∧ b0 ≤ 239) (hb1 : b1 < 256) (hb2 : b2 < 256) (hn : n < 3 ∨ b1 < 128 ∨ 191 < b1 ∨ b2 < 128 ∨ 191 < b2) : refR (decodeN n b0 b1 b2 b3) = (-1, 1) := by
  have : decodeN n b0 b1 b2 b3 = (65533, 1) := by
    unfold decodeN
    repeat' split
    all_goals first | rfl | (exfalso; omega)
  rw [this]
  rfl
theorem ref_three (n b0 b1 b2 b3 : Nat) (h : 224 ≤ b0 ∧ b0 ≤ 239) (hn : 3 ≤ n) (hb1 : 128 ≤ b1 ∧ b1 ≤ 191) (hb2 : 128 ≤ b2 ∧ b2 ≤ 191) (x : Nat) (hx : x = ((b0 - 224) * 64 + (b1 - 128)) * 64 + (b2 - 128)) :
    refR (decodeN n b0 b1 b2 b3) = if x < 2048 ∨ 1114111 < x ∨ (55296 ≤ x ∧ x ≤ 57343) then (-1, 1) else ((x : Int), 3) := by
  have hv : b0 % 16 * 4096 + b1 % 64 * 64 + b2 % 64 = x := by omega
  unfold decodeN
  rw [if_neg (by omega), if_neg (by omega), if_pos (by omega), hv]
  by_cases hb : x < 2048 ∨ 1114111 < x ∨ (55296 ≤ x ∧ x ≤ 57343)
  · rw [if_pos hb, if_neg (by omega)]; rfl
  · rw [if_neg hb, if_pos (by omega)]; exact refR_wide _ _ (by decide)
theorem ref_four_no (n b0 b1 b2 b3 : Nat) (h : 240 ≤ b0 ∧ b0 ≤ 244) (hb1 : b1 < 256) (hb2 : b2 < 256) (hb3 : b3 < 256) (hn : n < 4 ∨ b1 < 128 ∨ 191 < b1 ∨ b2 < 128 ∨ 191 < b2 ∨ b3 < 128 ∨ 191 < b3) : refR (decodeN n b0 b1 b2 b3) = (-1, 1) := by
  have : decodeN n b0 b1 b2 b3 = (65533, 1) := by
    unfold decodeN
    repeat' split
    all_goals first | rfl | (exfalso; omega)
  rw [this]
  rfl
theorem ref_four (n b0 b1 b2 b3 : Nat) (h : 240 ≤ b0 ∧ b0 ≤ 244) (hn : 4 ≤ n) (hb1 : 128 ≤ b1 ∧ b1 ≤ 191) (hb2 : 128 ≤ b2 ∧ b2 ≤ 191) (hb3 : 128 ≤ b3 ∧ b3 ≤ 191) (x : Nat) (hx : x = (((b0 - 240) * 64 + (b1 - 128)) * 64 + (b2 - 128)) * 64 + (b3 - 128)) :
    refR (decodeN n b0 b1 b2 b3) = if x < 65536 ∨ 1114111 < x ∨ (55296 ≤ x ∧ x ≤ 57343) then (-1, 1) else ((x : Int), 4) := by
  have hv : b0 % 8 * 262144 + b1 % 64 * 4096 + b2 % 64 * 64 + b3 % 64 = x := by omega
  unfold decodeN
  rw [if_neg (by omega), if_neg (by omega), if_neg (by omega), if_pos (by omega), hv]
  by_cases hb : x < 65536 ∨ 1114111 < x ∨ (55296 ≤ x ∧ x ≤ 57343)
  · rw [if_pos hb, if_neg (by omega)]; rfl
  · rw [if_neg hb, if_pos (by omega)]; exact refR_wide _ _ (by decide)
end Go.Proofs.Ytclonbojpcgngaa
