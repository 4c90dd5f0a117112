/- BaseBooks in plain Lean: the program's book and the document's tell the same. -/
import Derived.Test.YtclonbojpcgngaaBook
import Derived.Test.YtclonbojpcgngaaRef13b
namespace Go.Proofs.Ytclonbojpcgngaa
set_option linter.unusedSimpArgs false
set_option linter.unusedVariables false
open Go.RowKit

structure BkInv (M H : List En) (now : Int) (k : Nat) : Prop where
  pw : M.Pairwise fun x y => x.1 ≠ y.1
  eq : liveB M now = liveB H now
  ml : M.length ≤ k
  hl : H.length ≤ k
theorem live_later (M : List En) {now now' : Int} (h : now ≤ now') : liveB (liveB M now) now' = liveB M now' := by
  unfold liveB
  rw [List.filter_filter]
  apply List.filter_congr
  intro x _
  by_cases hx : now' < x.2
  · simp [hx]; omega
  · simp [hx]
theorem live_wipe (M : List En) (s : ByteArray) (now : Int) : liveB (wipeB M s) now = wipeB (liveB M now) s := by
  unfold liveB wipeB
  rw [List.filter_filter, List.filter_filter]
  apply List.filter_congr
  intro x _
  rw [Bool.and_comm]
variable {M H : List En} {now now' : Int} {k : Nat} {s : ByteArray} {t : Int}
theorem BkInv.later (h : BkInv M H now k) (hn : now ≤ now') : BkInv M H now' (k + 1) := ⟨h.pw, by rw [← live_later M hn, ← live_later H hn, h.eq], by have := h.ml; omega, by have := h.hl; omega⟩
theorem BkInv.more {k' : Nat} (h : BkInv M H now k) (hk : k ≤ k') : BkInv M H now k' := ⟨h.pw, h.eq, Nat.le_trans h.ml hk, Nat.le_trans h.hl hk⟩
theorem BkInv.set (h : BkInv M H now k) : (setB M now s t).2 = (setH H now s t).2 ∧ BkInv (setB M now s t).1 (setH H now s t).1 now (k + 1) := by
  have e := h.eq
  have h1 := h.ml
  have h2 := h.hl
  have l1 : (liveB M now).length ≤ M.length := List.length_filter_le _ _
  have l2 : (liveB H now).length ≤ H.length := List.length_filter_le _ _
  have w1 : ∀ L : List En, (wipeB L s).length ≤ L.length := fun L => List.length_filter_le _ _
  have w2 := w1 M
  have w3 := w1 (liveB M now)
  have w4 := w1 (liveB H now)
  have pl : (liveB M now).Pairwise fun x y => x.1 ≠ y.1 := h.pw.filter _
  have pw : ∀ {L : List En}, (L.Pairwise fun x y => x.1 ≠ y.1) → (wipeB L s).Pairwise fun x y => x.1 ≠ y.1 := fun hp => hp.filter _
  unfold setB setH
  rw [← e]
  by_cases c1 : rightB s = false
  · rw [if_pos c1, if_pos c1]
    exact ⟨rfl, h.pw, h.eq, Nat.le_succ_of_le h1, Nat.le_succ_of_le h2⟩
  · rw [if_neg c1, if_neg c1]
    by_cases c2 : t ≤ now
    · rw [if_pos c2, if_pos c2]
      exact ⟨rfl, pw h.pw, by rw [live_wipe, live_wipe, live_later M (Int.le_refl _)], by simp only; omega, by simp only; omega⟩
    · rw [if_neg c2, if_neg c2]
      by_cases c3 : hasB (liveB M now) s = false
      · rw [wipe_same c3]
        by_cases c4 : (liveB M now).length = 32
        · rw [if_pos ⟨c3, c4⟩]
          exact ⟨rfl, pl, rfl, by simp only; omega, by simp only; omega⟩
        · rw [if_neg (fun hh => c4 hh.2)]
          refine ⟨rfl, ?_, rfl, by simp only [List.length_append, List.length_singleton]; omega, by simp only [List.length_append, List.length_singleton]; omega⟩
          rw [List.pairwise_append]
          refine ⟨pl, by simp, fun x hx y hy => ?_⟩
          simp only [List.mem_singleton] at hy
          subst hy
          have := List.any_eq_false.1 c3 x hx
          simpa using this
      · rw [if_neg (fun hh => c3 hh.1), if_neg (fun hh => c3 hh.1)]
        refine ⟨rfl, ?_, rfl, by simp only [List.length_append, List.length_singleton]; omega, by simp only [List.length_append, List.length_singleton]; omega⟩
        rw [List.pairwise_append]
        refine ⟨pw pl, by simp, fun x hx y hy => ?_⟩
        simp only [List.mem_singleton] at hy
        subst hy
        simpa using (List.mem_filter.1 hx).2
theorem BkInv.find (h : BkInv M H now k) : findB M now s = untilH H now s := by
  have e1 : ∀ L : List En, (L.find? fun x => decide (x.1 = s) && decide (now < x.2)) = (liveB L now).find? fun x => decide (x.1 = s) := fun L => by
    unfold liveB
    rw [List.find?_filter]
    congr 1
    funext x
    by_cases k1 : now < x.2 <;> by_cases k2 : x.1 = s <;> simp [k1, k2]
  unfold untilH
  rw [e1 H, ← h.eq, ← e1 M]
  unfold findB
  by_cases c : hasB M s = false
  · rw [if_pos (.inl c), List.find?_eq_none.2 fun x hx => by
      have := List.any_eq_false.1 c x hx
      simp at this
      simp [this]]
  · have c' : hasB M s = true := by simpa using c
    have hm := tillB_mem c'
    by_cases c2 : tillB M s ≤ now
    · rw [if_pos (.inr c2), List.find?_eq_none.2 fun x hx => by
        by_cases hx1 : x.1 = s
        · have := pair_inj h.pw hx hm hx1
          subst this
          simp
          omega
        · simp [hx1]]
    · rw [if_neg (by simp [c']; omega)]
      cases hf : M.find? fun x => decide (x.1 = s) && decide (now < x.2) with
      | none =>
        have := List.find?_eq_none.1 hf _ hm
        simp at this
        omega
      | some x =>
        have h1 := List.find?_some hf
        have h2 := List.mem_of_find?_eq_some hf
        simp only [Bool.and_eq_true, decide_eq_true_eq] at h1
        rw [pair_inj h.pw h2 hm h1.1]

theorem i64_and63b (n : Int) : bits .and .i64 n 63 = n % 64 := by
  have h127 : (BitVec.ofInt 64 63).toNat = 2 ^ 6 - 1 := by decide
  have key : (BitVec.ofInt 64 n &&& BitVec.ofInt 64 63).toNat = (n % ((2 ^ 64 : Nat) : Int)).toNat % 2 ^ 6 := by
    rw [BitVec.toNat_and, BitVec.toNat_ofInt, h127, Nat.and_two_pow_sub_one_eq_mod]
  show IntKind.i64.wrap ((BitVec.ofInt 64 n &&& BitVec.ofInt 64 63).toNat : Nat) = n % 64
  rw [key, IntKind.wrap_i64]
  omega
theorem i64_and127b (n : Int) : bits .and .i64 n 127 = n % 128 := by
  have h127 : (BitVec.ofInt 64 127).toNat = 2 ^ 7 - 1 := by decide
  have key : (BitVec.ofInt 64 n &&& BitVec.ofInt 64 127).toNat = (n % ((2 ^ 64 : Nat) : Int)).toNat % 2 ^ 7 := by
    rw [BitVec.toNat_and, BitVec.toNat_ofInt, h127, Nat.and_two_pow_sub_one_eq_mod]
  show IntKind.i64.wrap ((BitVec.ofInt 64 n &&& BitVec.ofInt 64 127).toNat : Nat) = n % 128
  rw [key, IntKind.wrap_i64]
  omega
theorem i64_wf {n : Int} (h1 : -9223372036854775808 ≤ n) (h2 : n ≤ 9223372036854775807) : (Lit.int .i64 n).wf = true := by
  unfold Lit.wf
  rw [Bool.and_eq_true]
  exact ⟨decide_eq_true h1, decide_eq_true h2⟩

/-- An entry of the statement. -/
structure Ent where
  later : Int
  name : ByteArray
  till : Int
  ask : Bool
def Ent.cells (x : Ent) : List Value := [.int .i64 x.later, .string x.name, .int .i64 x.till, .bool x.ask]
end Go.Proofs.Ytclonbojpcgngaa
