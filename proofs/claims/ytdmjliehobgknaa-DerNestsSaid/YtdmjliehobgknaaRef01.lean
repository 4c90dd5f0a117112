/- Contracts of the document's octets (compeerref01). -/
import Derived.Test.YtdmjliehobgknaaSame
import Derived.Test.YtdmjliehobgknaaOctet
namespace Go.Proofs.Ytdmjliehobgknaa
set_option linter.unusedSimpArgs false
set_option linter.unusedVariables false
open Go.RowKit

theorem nat_256 (n : Nat) : ((n : Int) / 256) = ((n / 256 : Nat) : Int) := by simp

/-- The k lowest bytes of a number, the highest first. -/
def beB : Nat → Nat → List UInt8
  | 0, _ => []
  | k + 1, n => beB k (n / 256) ++ [UInt8.ofNat (n % 256)]

theorem beB_cons : ∀ (k n : Nat), UInt8.ofNat (n / 256 ^ k % 256) :: beB k n = beB (k + 1) n
  | 0, n => by simp [beB]
  | k + 1, n => by
    rw [beB, beB, ← beB_cons k (n / 256), Nat.div_div_eq_div_mul, ← Nat.pow_succ', List.cons_append]

theorem beB_length : ∀ (k n : Nat), (beB k n).length = k
  | 0, _ => rfl
  | k + 1, n => by simp [beB, beB_length k]

theorem putB_eq (n : Nat) : putB n = beB 8 n := by
  have h : ∀ k, k ≤ 8 → ((List.range' (8 - k) k).map fun i => UInt8.ofNat (n / 2 ^ (56 - 8 * i) % 256)) = beB k n := by
    intro k
    induction k with
    | zero => intro _; rfl
    | succ k ih =>
      intro hk
      rw [← beB_cons, ← ih (by omega), List.range'_succ, List.map_cons, show 8 - (k + 1) + 1 = 8 - k by omega]
      congr 4
      rw [show (256 : Nat) = 2 ^ 8 by rfl, ← Nat.pow_mul]
      congr 1
      omega
  have := h 8 (Nat.le_refl _)
  rw [← this, putB, List.range_eq_range']

set_option maxRecDepth 100000 in
theorem wrap_quot (q n : Nat) (h : q ≤ n) (hn : n < 18446744073709551616) : IntKind.u64.wrap ((q : Int) / 256) = ((q / 256 : Nat) : Int) := by
  rw [IntKind.wrap_u64]
  omega

/-- A number's bytes, as few as may be. -/
def shortR : Nat → Nat → List UInt8
  | 0, _ => []
  | f + 1, n => if n < 256 then [UInt8.ofNat n] else shortR f (n / 256) ++ [UInt8.ofNat (n % 256)]

theorem stripZ_snoc : ∀ (l : List UInt8) (x : UInt8), l ≠ [] → (∃ y ∈ l, y ≠ 0) → stripZ (l ++ [x]) = stripZ l ++ [x]
  | [], _, h, _ => absurd rfl h
  | [a], x, _, h => by
    obtain ⟨y, hy, h0⟩ := h
    rw [List.mem_singleton] at hy
    subst hy
    simp [stripZ, h0]
  | a :: b :: l, x, _, h => by
    by_cases h0 : a = 0
    · subst h0
      simp only [List.cons_append, stripZ, if_true]
      refine stripZ_snoc (b :: l) x (by simp) ?_
      obtain ⟨y, hy, h1⟩ := h
      rcases List.mem_cons.1 hy with rfl | hy
      · exact absurd rfl h1
      · exact ⟨y, hy, h1⟩
    · simp [stripZ, h0]

theorem stripZ_zeros : ∀ (l : List UInt8) (x : UInt8), (∀ y ∈ l, y = 0) → stripZ (l ++ [x]) = [x]
  | [], _, _ => rfl
  | [a], x, h => by
    have := h a (by simp)
    subst this
    simp [stripZ]
  | a :: b :: l, x, h => by
    have := h a (by simp)
    subst this
    simp only [List.cons_append, stripZ, if_true]
    exact stripZ_zeros (b :: l) x (fun y hy => h y (by simp [hy]))

theorem beB_zero : ∀ (k : Nat), ∀ y ∈ beB k 0, y = 0
  | 0, y, h => by simp [beB] at h
  | k + 1, y, h => by
    simp only [beB, List.mem_append, List.mem_singleton] at h
    rcases h with h | h
    · exact beB_zero k y (by simpa using h)
    · rw [h]; rfl

theorem beB_some : ∀ (k n : Nat), 0 < n → n < 256 ^ k → ∃ y ∈ beB k n, y ≠ 0
  | 0, n, h0, h => by simp at h; omega
  | k + 1, n, h0, h => by
    by_cases hn : n < 256
    · refine ⟨UInt8.ofNat (n % 256), by simp [beB], fun e => ?_⟩
      have := congrArg UInt8.toNat e
      simp at this
      omega
    · obtain ⟨y, hy, h1⟩ := beB_some k (n / 256) (by omega) (by rw [Nat.pow_succ] at h; omega)
      exact ⟨y, by simp [beB, hy], h1⟩

theorem shortR_eq : ∀ (k n : Nat), n < 256 ^ (k + 1) → stripZ (beB (k + 1) n) = shortR (k + 1) n
  | 0, n, h => by
    have : n < 256 := by simpa using h
    simp [beB, stripZ, shortR, this, Nat.mod_eq_of_lt this]
  | k + 1, n, h => by
    rw [beB, shortR]
    by_cases hn : n < 256
    · rw [if_pos hn, Nat.div_eq_of_lt hn, stripZ_zeros _ _ (beB_zero _), Nat.mod_eq_of_lt hn]
    · have h' : n / 256 < 256 ^ (k + 1) := by rw [Nat.pow_succ] at h; omega
      rw [if_neg hn, stripZ_snoc _ _ (by intro e; have := congrArg List.length e; simp [beB_length] at this) (beB_some _ _ (by omega) h'), shortR_eq k (n / 256) h']

theorem shortB_eq (n : Nat) (h : n < 256 ^ 8) : shortB n = shortR 8 n := by rw [shortB, putB_eq, shortR_eq 7 n h]
end Go.Proofs.Ytdmjliehobgknaa
