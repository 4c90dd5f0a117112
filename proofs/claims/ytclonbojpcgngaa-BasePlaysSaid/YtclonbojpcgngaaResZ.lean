/- A slice of the call's own, as its whole block. No program. -/
import Derived.Test.YtclonbojpcgngaaRes
namespace Go.Proofs.Ytclonbojpcgngaa
set_option linter.unusedSimpArgs false
set_option linter.unusedVariables false
open Go.RowKit

theorem Hold.ownBlk {W : World} {l : List Res} {e : TypeId} {sz n : Nat} {v : Value} {cs : List Value} (h : Hold W (.own e sz v n cs :: l)) (hn : 0 < n) :
    ∃ (g cap : Nat) (cur : List Value), v = .slice (some ⟨g, 0, none⟩) n cap ∧ n ≤ cap ∧ cap ≤ maxLen ∧ cur.length = cap * sz ∧ cur.take (n * sz) = cs ∧ Hold W (.blk g cur e :: l) := by
  obtain ⟨⟨hl, h1, ⟨a, rfl, rfl⟩ | ⟨g, cap, cur, rfl, hB, hr, hnc, hcm, hsz, htk⟩⟩, hlt⟩ := h.ownOf (List.mem_cons_self)
  · omega
  · refine ⟨g, cap, cur.toList, rfl, hnc, hcm, by simpa using hsz, htk, ?_⟩
    refine h.weaken fun F hF => ⟨fun b => b = g, ⟨by simpa [Blk] using hr, fun b => Iff.rfl⟩, fun b hb => ?_⟩
    subst hb
    exact (hF.2.2 _).2 rfl
theorem Hold.blkOwn {W : World} {l : List Res} {e : TypeId} {g : Nat} {cur : List Value} (h : Hold W (.blk g cur e :: l)) (sz n cap : Nat) (hc : cur.length = cap * sz) (hn : n ≤ cap) (hm : cap ≤ maxLen) {cs : List Value} (ht : cur.take (n * sz) = cs) (h1 : ∀ u ∈ cs, u.oneCell' = true) :
    Hold W (.own e sz (.slice (some ⟨g, 0, none⟩) n cap) n cs :: l) := by
  have hmul : n * sz ≤ cap * sz := Nat.mul_le_mul_right _ hn
  refine h.weaken fun F hF => ⟨fun b => b = g, ⟨⟨by rw [← ht, List.length_take]; omega, h1, .inr ⟨g, cap, cur.toArray, rfl, Nat.zero_le _, hF.1, hn, hm, by simpa using hc, by simpa using ht⟩⟩, fun b hb => ?_, fun b => ?_⟩, fun b hb => (hF.2 b).2 hb⟩
  · simp [Value.ownBlock] at hb
    subst hb
    exact hF.1.lt
  · simp only [Value.ownBlock]
    exact ⟨fun h => by rw [h], fun h => by simpa using h.symm⟩
theorem Hold.blkTurn {W W' : World} {l : List Res} {g : Nat} {cur cur' : List Value} {T : TypeId} (h : Hold W (.blk g cur T :: l)) (hb : Blk W' g cur' T) (hk : Keeps (fun k => k = g) W W') : Hold W' (.blk g cur' T :: l) :=
  h.turn fun F hF => ⟨F, ⟨hb, hF.2⟩, fun b hb => .inl hb, hk.mono fun k hk => .inl ((hF.2 k).2 hk)⟩
end Go.Proofs.Ytclonbojpcgngaa
