/- Law 21, XferTakes: the plain part: what the program keeps of a file is what the document keeps. -/
import Derived.Test.YtogfkfoklnpfhaaAlive21
import Derived.Test.YtogfkfoklnpfhaaRef21b
namespace Go.Proofs.Ytogfkfoklnpfhaa
set_option linter.unusedSimpArgs false
set_option linter.unusedVariables false
open Go.RowKit

theorem putB_inj {a b : Nat} (ha : a < 18446744073709551616) (hb : b < 18446744073709551616) (h : putB a = putB b) : a = b := by
  have g : ∀ i, i < 8 → a / 2 ^ (56 - 8 * i) % 256 = b / 2 ^ (56 - 8 * i) % 256 := by
    intro i hi
    have h1 := putB_get a i hi
    have h2 := putB_get b i hi
    rw [h] at h1
    rw [h1] at h2
    simp only [Option.some.injEq] at h2
    have := congrArg UInt8.toNat h2
    simpa using this
  have g0 := g 0 (by decide)
  have g1 := g 1 (by decide)
  have g2 := g 2 (by decide)
  have g3 := g 3 (by decide)
  have g4 := g 4 (by decide)
  have g5 := g 5 (by decide)
  have g6 := g 6 (by decide)
  have g7 := g 7 (by decide)
  simp only [Nat.reduceMul, Nat.reduceSub, Nat.reducePow] at g0 g1 g2 g3 g4 g5 g6 g7
  omega

theorem markB_inj {k : UInt8} {a b : Nat} (ha : a < 18446744073709551616) (hb : b < 18446744073709551616) (h : markB k a = markB k b) : a = b := by
  unfold markB at h
  exact putB_inj ha hb (by simpa using h)

/-- What a row of bytes has for its mark tells it from the first one. -/
theorem digM_first {S : List (List UInt8)} {of d : List UInt8} (h0 : S[0]? = some of) (hS : S.length < 1099511627776) : digM S d = digM [] of ↔ d = of := by
  cases S with
  | nil => simp at h0
  | cons s T =>
    simp at h0
    subst h0
    have e0 : digM [] s = markB 100 1 := by simp [digM, digT]
    have hd : ∃ U, digT (s :: T) d = s :: U ∧ U.length ≤ T.length + 1 := by
      unfold digT
      by_cases h : d ∈ s :: T
      · exact ⟨T, by rw [if_pos h], by omega⟩
      · exact ⟨T ++ [d], by rw [if_neg h]; rfl, by simp⟩
    obtain ⟨U, hU, hUl⟩ := hd
    rw [e0, digM, hU]
    constructor
    · intro h
      have hle : (s :: U).idxOf d ≤ (s :: U).length := List.idxOf_le_length
      simp at hS hle
      have h1 := markB_inj (by omega) (by decide) h
      have h2 : (s :: U).idxOf d = 0 := by omega
      rw [List.idxOf_cons] at h2
      by_cases hsd : s = d
      · exact hsd.symm
      · have : (s == d) = false := by simpa using hsd
        rw [this] at h2
        simp at h2
    · rintro rfl
      rw [List.idxOf_cons_self]
theorem digT_first {S : List (List UInt8)} {of d : List UInt8} (h0 : S[0]? = some of) : (digT S d)[0]? = some of := by
  unfold digT
  split
  · exact h0
  · cases S with
    | nil => simp at h0
    | cons s T => simpa using h0
theorem digT_len (S : List (List UInt8)) (d : List UInt8) : (digT S d).length ≤ S.length + 1 := by
  unfold digT
  split
  · omega
  · simp

/-- What holds of a file's state behind k steps. -/
structure TkInv (size : Int) (of : List UInt8) (S : List (List UInt8)) (st : Int) (data : List UInt8) (k : Nat) : Prop where
  len : (data.length : Int) ≤ size
  lo : 0 ≤ st
  hi : st ≤ 4
  done : st = 2 → data = of
  first : S[0]? = some of
  cnt : S.length ≤ k + 1

/-- A step at both. -/
def TkStep (size : Int) (of : List UInt8) (k : Nat) (a : List (List UInt8) × InF × Int) (b : RefF × Int) : Prop :=
  ∃ S' st' data' g, a = (S', ⟨st', size, digM [] of, data'⟩, g) ∧ b = (⟨st', size, data', of⟩, g) ∧ TkInv size of S' st' data' k

variable {size : Int} {of : List UInt8} {S : List (List UInt8)} {st : Int} {data : List UInt8} {k : Nat}

theorem TkInv.next (h : TkInv size of S st data k) : TkInv size of S st data (k + 1) := ⟨h.len, h.lo, h.hi, h.done, h.first, by have := h.cnt; omega⟩

theorem tk_whole (hl : (data.length : Int) ≤ size) (hf : S[0]? = some of) (hc : S.length ≤ k + 1) (hk : k < 1000) : TkStep size of (k + 1) (inWhole S ⟨1, size, digM [] of, data⟩) (refWhole ⟨1, size, data, of⟩) := by
  unfold inWhole refWhole
  simp only
  by_cases h1 : (data.length : Int) < size
  · rw [if_pos h1, if_pos h1]
    exact ⟨S, 1, data, 0, rfl, rfl, hl, by decide, by decide, by simp, hf, by omega⟩
  · rw [if_neg h1, if_neg h1]
    have hd := digM_first (d := data) hf (by omega)
    have hl2 := digT_len S data
    by_cases h2 : data = of
    · rw [if_pos (hd.2 h2), if_pos h2]
      exact ⟨_, 2, data, 0, rfl, rfl, hl, by decide, by decide, fun _ => h2, digT_first hf, by omega⟩
    · rw [if_neg (fun h => h2 (hd.1 h)), if_neg h2]
      exact ⟨_, 4, data, 23, rfl, rfl, hl, by decide, by decide, by simp, digT_first hf, by omega⟩

theorem tk_accept (h : TkInv size of S st data k) (hk : k < 1000) : TkStep size of (k + 1) (inAccept S ⟨st, size, digM [] of, data⟩) (refAccept ⟨st, size, data, of⟩) := by
  unfold inAccept refAccept
  simp only
  by_cases h0 : st = 0
  · rw [if_neg (by simp [h0]), if_neg (by simp [h0])]
    exact tk_whole h.len h.first h.cnt hk
  · rw [if_pos h0, if_pos h0]
    exact ⟨S, st, data, 16, rfl, rfl, h.next⟩
theorem tk_refuse (h : TkInv size of S st data k) : TkStep size of (k + 1) (S, inRefuse ⟨st, size, digM [] of, data⟩) (refRefuse ⟨st, size, data, of⟩) := by
  unfold inRefuse refRefuse
  simp only
  by_cases h0 : st = 0
  · rw [if_neg (by simp [h0]), if_neg (by simp [h0])]
    exact ⟨S, 3, data, 0, rfl, rfl, h.len, by decide, by decide, by simp, h.first, by have := h.cnt; omega⟩
  · rw [if_pos h0, if_pos h0]
    exact ⟨S, st, data, 16, rfl, rfl, h.next⟩
theorem tk_break (h : TkInv size of S st data k) (hz : 0 ≤ size) : TkStep size of (k + 1) (S, inBreak ⟨st, size, digM [] of, data⟩) (refBreak ⟨st, size, data, of⟩) := by
  unfold inBreak refBreak
  simp only
  have hlo := h.lo
  by_cases h0 : 1 < st
  · rw [if_pos (by constructor <;> omega), if_pos h0]
    exact ⟨S, st, data, 16, rfl, rfl, h.next⟩
  · rw [if_neg (by omega), if_neg h0]
    exact ⟨S, 4, [], 0, rfl, rfl, by simpa using hz, by decide, by decide, by simp, h.first, by have := h.cnt; omega⟩
theorem tk_take (h : TkInv size of S st data k) (hk : k < 1000) (at' : Int) (b : List UInt8) : TkStep size of (k + 1) (inTake S ⟨st, size, digM [] of, data⟩ at' b) (refTake ⟨st, size, data, of⟩ at' b) := by
  unfold inTake refTake
  simp only
  by_cases h0 : st = 1
  · rw [if_neg (show ¬ (st ≠ 1) from fun x => x h0), if_neg (show ¬ (st ≠ 1) from fun x => x h0)]
    subst h0
    by_cases h1 : at' ≠ data.length ∨ b.length = 0
    · rw [if_pos h1, if_pos h1]
      exact ⟨S, 1, data, 18, rfl, rfl, h.next⟩
    · rw [if_neg h1, if_neg h1]
      have ha : at' = data.length := Classical.byContradiction fun x => h1 (.inl x)
      by_cases h2 : 64 < b.length ∨ size - at' < b.length
      · rw [if_pos h2, if_pos (by omega)]
        exact ⟨S, 1, data, 20, rfl, rfl, h.next⟩
      · rw [if_neg h2, if_neg (by omega)]
        exact tk_whole (by rw [List.length_append]; omega) h.first h.cnt hk
  · rw [if_pos h0, if_pos h0]
    exact ⟨S, st, data, 16, rfl, rfl, h.next⟩
theorem tk_none (h : TkInv size of S st data k) : TkStep size of (k + 1) (S, ⟨st, size, digM [] of, data⟩, 0) (⟨st, size, data, of⟩, 0) := ⟨S, st, data, 0, rfl, rfl, h.next⟩
end Go.Proofs.Ytogfkfoklnpfhaa
