/- A book in plain Lean: who can be met, until when; how a map's datum bears it. -/
import Derived.Test.YtclonbojpcgngaaBase
import Derived.Maps.Range
import Derived.Maps.RangeWalk
import Derived.StringKeys
namespace Go.Proofs.Ytclonbojpcgngaa
set_option linter.unusedSimpArgs false
set_option linter.unusedVariables false
open Go.RowKit

abbrev En := ByteArray × Int
def nmL (s : ByteArray) : Lit := .string s.data.toList
def enD (x : En) : Lit × DataW Unit := (nmL x.1, .lit (.int .i64 x.2))
theorem arr_inj {a b : ByteArray} (h : a.data.toList = b.data.toList) : a = b := by
  obtain ⟨a⟩ := a
  obtain ⟨b⟩ := b
  exact congrArg ByteArray.mk (Array.toList_inj.1 h)
theorem nmL_same (a b : ByteArray) : (nmL a).sameKey (nmL b) = decide (a = b) := by
  unfold nmL Lit.sameKey
  by_cases h : a = b
  · subst h; simp
  · have : ¬ a.data.toList = b.data.toList := fun e => h (arr_inj e)
    simp [h]
    intro e
    exact this (by rw [e])

/-- A map's datum bears these entries. -/
def BookL (D : DataW Unit) (M : List En) : Prop := M.Pairwise (fun x y => x.1 ≠ y.1) ∧ ∃ es, D = .map es ∧ es.Perm (M.map enD)
theorem BookL.nil : BookL (.map []) [] := ⟨.nil, [], rfl, .refl _⟩

def hasB (M : List En) (s : ByteArray) : Bool := M.any fun x => decide (x.1 = s)
theorem BookL.has {D : DataW Unit} {M : List En} (h : BookL D M) (s : ByteArray) : Maps.has D (nmL s) = hasB M s := by
  obtain ⟨_, es, rfl, hp⟩ := h
  rw [Maps.has_eq]
  unfold hasB
  rw [Bool.eq_iff_iff, List.any_eq_true, List.any_eq_true]
  constructor
  · rintro ⟨p, hp1, hp2⟩
    obtain ⟨x, hx, rfl⟩ := List.mem_map.1 (hp.mem_iff.1 hp1)
    exact ⟨x, hx, by rw [← hp2]; exact (nmL_same _ _).symm⟩
  · rintro ⟨x, hx, h2⟩
    exact ⟨enD x, hp.mem_iff.2 (List.mem_map.2 ⟨x, hx, rfl⟩), by rw [← h2]; exact nmL_same _ _⟩
theorem BookL.size {D : DataW Unit} {M : List En} (h : BookL D M) : Maps.size D = M.length := by
  obtain ⟨_, es, rfl, hp⟩ := h
  rw [Maps.size_eq, hp.length_eq, List.length_map]
theorem pair_inj {M : List En} (h : M.Pairwise (fun x y => x.1 ≠ y.1)) : ∀ {x y : En}, x ∈ M → y ∈ M → x.1 = y.1 → x = y := by
  induction M with
  | nil => intro x y hx; cases hx
  | cons a M ih =>
    obtain ⟨h1, h2⟩ := List.pairwise_cons.1 h
    intro x y hx hy he
    rcases List.mem_cons.1 hx with e1 | hx2
    · rcases List.mem_cons.1 hy with e2 | hy2
      · rw [e1, e2]
      · exact (h1 y hy2 (by rw [← e1]; exact he)).elim
    · rcases List.mem_cons.1 hy with e2 | hy2
      · exact (h1 x hx2 (by rw [← e2]; exact he.symm)).elim
      · exact ih h2 hx2 hy2 he
theorem BookL.at {D : DataW Unit} {M : List En} (h : BookL D M) {x : En} (hx : x ∈ M) (z : DataW Unit) : D.atKey (nmL x.1) z = .lit (.int .i64 x.2) := by
  obtain ⟨hd, es, rfl, hp⟩ := h
  unfold DataW.atKey
  simp only
  cases hf : es.find? fun p => p.1.sameKey (nmL x.1) with
  | none =>
    have := List.find?_eq_none.1 hf (enD x) (hp.mem_iff.2 (List.mem_map.2 ⟨x, hx, rfl⟩))
    rw [show (enD x).1 = nmL x.1 from rfl, nmL_same] at this
    simp at this
  | some p =>
    have h1 := List.find?_some hf
    have h2 := List.mem_of_find?_eq_some hf
    obtain ⟨y, hy, rfl⟩ := List.mem_map.1 (hp.mem_iff.1 h2)
    rw [show (enD y).1 = nmL y.1 from rfl, nmL_same] at h1
    rw [pair_inj hd hx hy (by simpa using (of_decide_eq_true h1).symm)]
    rfl
theorem BookL.none {D : DataW Unit} {M : List En} (h : BookL D M) {s : ByteArray} (hs : hasB M s = false) (z : DataW Unit) : D.atKey (nmL s) z = z := by
  have hh := h.has s
  obtain ⟨hd, es, rfl, hp⟩ := h
  rw [hs, Maps.has_eq] at hh
  unfold DataW.atKey
  simp only
  rw [List.find?_eq_none.2 fun p hp2 => by
    have := List.any_eq_false.1 hh p hp2
    simpa using this]
theorem filter_del (M : List En) (s : ByteArray) : (M.map enD).filter (fun p => !p.1.sameKey (nmL s)) = (M.filter fun x => decide (x.1 ≠ s)).map enD := by
  rw [List.filter_map]
  congr 1
  apply List.filter_congr
  intro x _
  simp only [Function.comp, enD, nmL_same]
  by_cases h : x.1 = s <;> simp [h]
theorem BookL.del {D : DataW Unit} {M : List En} (h : BookL D M) (s : ByteArray) : BookL (D.del (nmL s)) (M.filter fun x => decide (x.1 ≠ s)) := by
  obtain ⟨hd, es, rfl, hp⟩ := h
  refine ⟨hd.filter _, _, rfl, ?_⟩
  rw [← filter_del]
  exact hp.filter _
theorem BookL.put {D : DataW Unit} {M : List En} (h : BookL D M) (s : ByteArray) (t : Int) : BookL (D.put (nmL s) (.lit (.int .i64 t))) ((M.filter fun x => decide (x.1 ≠ s)) ++ [(s, t)]) := by
  obtain ⟨hd, es, rfl, hp⟩ := h
  refine ⟨?_, _, rfl, (WideShapes.insert_perm _ _).trans ?_⟩
  · rw [List.pairwise_append]
    refine ⟨hd.filter _, by simp, fun x hx y hy => ?_⟩
    simp only [List.mem_singleton] at hy
    subst hy
    simpa using (List.mem_filter.1 hx).2
  · rw [List.map_append, ← filter_del]
    refine .trans ?_ List.perm_append_comm
    exact (hp.filter _).cons _
theorem BookL.filter_eq {D : DataW Unit} {M : List En} {s : ByteArray} (p q : En → Bool) (hpq : ∀ x ∈ M, q x = (p x && decide (x.1 ≠ s))) (h : BookL D (M.filter p)) : BookL (D.del (nmL s)) (M.filter q) := by
  have := h.del s
  rw [List.filter_filter] at this
  rw [show M.filter q = M.filter (fun x => decide (x.1 ≠ s) && p x) from List.filter_congr fun x hx => by rw [hpq x hx, Bool.and_comm]]
  exact this

def tillB (M : List En) (s : ByteArray) : Int := match M.find? fun x => decide (x.1 = s) with | some x => x.2 | none => 0
theorem tillB_mem {M : List En} {s : ByteArray} (h : hasB M s = true) : (s, tillB M s) ∈ M := by
  unfold hasB at h
  unfold tillB
  cases hf : M.find? fun x => decide (x.1 = s) with
  | none =>
    obtain ⟨x, hx, hs⟩ := List.any_eq_true.1 h
    exact (List.find?_eq_none.1 hf x hx hs).elim
  | some x =>
    have h1 := List.find?_some hf
    have h2 := List.mem_of_find?_eq_some hf
    have : x.1 = s := by simpa using h1
    subst this
    exact h2
theorem tillB_none {M : List En} {s : ByteArray} (h : hasB M s = false) : tillB M s = 0 := by
  unfold tillB
  rw [List.find?_eq_none.2 fun x hx => by
    have := List.any_eq_false.1 h x hx
    simpa using this]
/-- Until when somebody can be met. -/
def findB (M : List En) (now : Int) (s : ByteArray) : Int × Bool := if hasB M s = false ∨ tillB M s ≤ now then (0, false) else (tillB M s, true)
def liveB (M : List En) (now : Int) : List En := M.filter fun x => decide (now < x.2)
def wipeB (M : List En) (s : ByteArray) : List En := M.filter fun x => decide (x.1 ≠ s)
end Go.Proofs.Ytclonbojpcgngaa
