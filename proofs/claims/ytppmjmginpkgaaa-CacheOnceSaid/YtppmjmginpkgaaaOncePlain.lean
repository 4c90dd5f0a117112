/- The cache, in plain Lean, no program in sight: what was taken is kept, or too old to be near; so it is not taken again. -/
import Derived.Test.YtppmjmginpkgaaaOnce
namespace Go.Proofs.Ytppmjmginpkgaaa
open Go.RowKit Go.Maps

/-- Taken before: it is kept yet, or it is too old. -/
def Was (L : List Sh) (now : Int) (x : Sh) : Prop := x.wf ∧ (x ∈ L ∨ x.2.1 + 30 < now)

theorem wf_top {a : Int} (h : (Lit.int .i64 a).wf = true) : a ≤ 9223372036854775807 := by
  exact (bounds_i64 h).2

theorem was_later {L : List Sh} {now now' : Int} {x : Sh} (h : Was L now x) (hn : now ≤ now') : Was L now' x :=
  ⟨h.1, h.2.imp id (fun h => by omega)⟩

theorem was_kept {L : List Sh} {now : Int} {x : Sh} (h : Was L now x) (h0 : 0 ≤ now) (h1 : now ≤ 20000) : Was (shKept now L) now x := by
  refine ⟨h.1, ?_⟩
  rcases h.2 with h2 | h2
  · by_cases hc : wrap64 (now - x.2.1) ≤ 30
    · exact .inl (List.mem_filter.2 ⟨h2, by simpa using hc⟩)
    · refine .inr ?_
      have ht := wf_top h.1.2.1
      by_cases hd : now - x.2.1 ≤ 30
      · exact absurd (by unfold wrap64; omega) hc
      · omega
  · exact .inr h2

theorem was_show {L : List Sh} {m now now' : Int} {x y : Sh} (h : Was L now y) (hn : now ≤ now') (h0 : 0 ≤ now') (h1 : now' ≤ 20000) : Was (shShow L m now' x).1 now' y := by
  have h' := was_later h hn
  have hk := was_kept h' h0 h1
  unfold shShow
  split
  · exact h'
  · split
    · exact h'
    · split
      · exact hk
      · exact ⟨hk.1, hk.2.imp (fun h => List.mem_append_left _ h) id⟩

theorem taken_near {L : List Sh} {m now : Int} {x : Sh} (h : (shShow L m now x).2 = 0) : nearB now x.2.1 = true := by
  unfold shShow at h
  split at h
  · simp at h
  · rename_i h1; simpa using h1

theorem taken_new {L : List Sh} {m now : Int} {x : Sh} (h : (shShow L m now x).2 = 0) : ¬ (x ∈ L ∨ x.2.1 + 30 < now) := by
  have hn := taken_near h
  unfold shShow at h
  split at h
  · simp at h
  · split at h
    · simp at h
    · rename_i h2
      rintro (h3 | h3)
      · exact h2 ((shHas_iff L x).2 h3)
      · unfold nearB at hn
        simp only [decide_eq_true_eq] at hn
        omega

theorem taken_was {L : List Sh} {m now : Int} {x : Sh} (h : (shShow L m now x).2 = 0) (hx : x.wf) : Was (shShow L m now x).1 now x := by
  refine ⟨hx, .inl ?_⟩
  unfold shShow at h ⊢
  split
  · rename_i h1; rw [if_pos h1] at h; simp at h
  · rename_i h1
    rw [if_neg h1] at h
    split
    · rename_i h2; rw [if_pos h2] at h; simp at h
    · rename_i h2
      rw [if_neg h2] at h
      split
      · rename_i h3; rw [if_pos h3] at h; simp at h
      · simp

theorem Sh.key_inj {x y : Sh} (hx : x.wf) (hy : y.wf) (h : x.key = y.key) : x = y := by
  have h1 := onceKey x hx
  have h2 := onceKey y hy
  rw [← h] at h2
  have := onceKeyed.inj h1 h2
  simp only [Sh.val, Value.agg.injEq, Array.mk.injEq, List.cons.injEq, Value.string.injEq, Value.int.injEq, true_and, and_true] at this
  obtain ⟨a, b, c⟩ := x
  obtain ⟨a', b', c'⟩ := y
  simp_all

/-- The map: of whatever it has, it has 1; and that was taken. -/
def Taken (D : DataW Unit) (L : List Sh) (now : Int) : Prop :=
  IsMap D ∧ ∀ kl, has D kl = true → (∀ zd, D.atKey kl zd = .lit (.int .i64 1)) ∧ ∃ x : Sh, x.key = kl ∧ Was L now x

theorem Taken.start (L : List Sh) (now : Int) : Taken (.map []) L now := ⟨isMap_empty, fun kl h => by cases h⟩

theorem Taken.show {D : DataW Unit} {L : List Sh} {m now now' : Int} {x : Sh} (h : Taken D L now) (hn : now ≤ now') (h0 : 0 ≤ now') (h1 : now' ≤ 20000) : Taken D (shShow L m now' x).1 now' :=
  ⟨h.1, fun kl hk => by obtain ⟨ha, y, hy, hw⟩ := h.2 kl hk; exact ⟨ha, y, hy, was_show hw hn h0 h1⟩⟩

theorem Taken.fresh {D : DataW Unit} {L : List Sh} {m now now' : Int} {x : Sh} (h : Taken D L now) (hn : now ≤ now') (hx : x.wf) (hs : (shShow L m now' x).2 = 0) (zd : DataW Unit) : D.atKey x.key zd = zd := by
  refine atKey_of_not_has ?_ zd
  cases hc : has D x.key with
  | false => rfl
  | true =>
    obtain ⟨_, y, hy, hw⟩ := h.2 _ hc
    obtain rfl := Sh.key_inj hw.1 hx hy
    exact absurd (was_later hw hn).2 (taken_new hs)

theorem Taken.put {D : DataW Unit} {L : List Sh} {m now now' : Int} {x : Sh} (h : Taken D L now) (hn : now ≤ now') (h0 : 0 ≤ now') (h1 : now' ≤ 20000) (hx : x.wf) (hs : (shShow L m now' x).2 = 0) :
    Taken (D.put x.key (.lit (.int .i64 1))) (shShow L m now' x).1 now' := by
  refine ⟨h.1.put _ _, fun kl hk => ?_⟩
  by_cases he : kl = x.key
  · subst he
    exact ⟨fun zd => atKey_put_same h.1 (onceKeyed.key (onceKey x hx)) _ _, x, rfl, taken_was hs hx⟩
  · rw [has_put_other he] at hk
    obtain ⟨ha, y, hy, hw⟩ := h.2 kl hk
    exact ⟨fun zd => by rw [atKey_put_other he]; exact ha zd, y, hy, was_show hw hn h0 h1⟩
end Go.Proofs.Ytppmjmginpkgaaa
