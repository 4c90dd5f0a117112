/- Arguments: a user, a row of users. -/
import Derived.Test.YtclonbojpcgngaaOpenY
import Derived.Test.YtclonbojpcgngaaBUs
namespace Go.Proofs.Ytclonbojpcgngaa
set_option linter.unusedSimpArgs false
set_option linter.unusedVariables false
open Go.ChangeShapes Go.WideShapes Go.RowKit Go.OpenShut
variable {H : Type} {enc : TypeId × Value → H} {w : World} {base : Nat} {spare : Nat → Bool} {held : Bool}

theorem leaves_split : ∀ {us ts : List TypeId} {cs : List Value}, Leaves enc Try.prog w base spare held (us ++ ts) cs → ∃ c1 c2, cs = c1 ++ c2 ∧ Leaves enc Try.prog w base spare held us c1 ∧ Leaves enc Try.prog w base spare held ts c2
  | [], ts, cs, h => ⟨[], cs, rfl, ⟨rfl, fun j t' c h => by simp at h⟩, h⟩
  | u :: us, ts, cs, h => by
    obtain ⟨c, cs', rfl, hc, h'⟩ := h.cons
    obtain ⟨c1, c2, rfl, h1, h2⟩ := leaves_split h'
    refine ⟨c :: c1, c2, rfl, ⟨by simp [h1.1], fun j t' x hj hx => ?_⟩, h2⟩
    cases j with
    | zero =>
      simp only [List.getElem?_cons_zero, Option.some.injEq] at hj hx
      subst hj hx
      exact hc
    | succ j => exact h1.2 j t' x (by simpa using hj) (by simpa using hx)

theorem flatUs : flatTy Try.prog 8 30 = some ([9] ++ (List.replicate 16 5 ++ [2, 2, 4])) := by kernel_rfl
theorem us_of_leaves {x : List Value} (h : Leaves enc Try.prog w base spare held ([9] ++ (List.replicate 16 5 ++ [2, 2, 4])) x) : ∃ u : Us, x = u.cells ∧ u.name.size ≤ maxLen := by
  obtain ⟨c0, x0, rfl, k0, hL⟩ := h.cons
  obtain ⟨c2, c3, rfl, hk, hL⟩ := leaves_split (us := List.replicate 16 5) (ts := [2, 2, 4]) hL
  obtain ⟨c4, x4, rfl, k4, hL⟩ := hL.cons
  obtain ⟨c5, x5, rfl, k5, hL⟩ := hL.cons
  obtain ⟨c6, x6, rfl, k6, hL⟩ := hL.cons
  obtain rfl := hL.nil
  obtain ⟨s, rfl, hs⟩ := k0.string Try.underlying9
  obtain ⟨key, rfl, hkl⟩ := leaves_bytes hk
  obtain ⟨f4, rfl, _⟩ := k4.int Try.underlying2
  obtain ⟨f5, rfl, _⟩ := k5.int Try.underlying2
  obtain ⟨f6, rfl⟩ := k6.bool Try.underlying4
  exact ⟨⟨s, key, hkl, f4, f5, f6⟩, rfl, hs⟩

set_option maxRecDepth 100000 in
theorem open_users {v : Value} {d : DataW H} {ps : List MemPlace} {r : Reach} {b0 : Nat} (hval : Value.okWide Try.prog w r b0 62 v)
    (h : DataW.Trod enc Try.prog w base spare held 62 v d ps) : ∃ l : List Us, Sl w 20 v l.length (usC l) ∧ ∀ u ∈ l, u.name.size ≤ maxLen := by
  obtain ⟨n, xs, hn, hx, hs⟩ := open_elems Try.underlying62 flatUs (by kernel_rfl) (by decide) (okWide_slice Try.underlying62 hval) h
  obtain ⟨l, rfl, hl⟩ := exists_map' (fun u : Us => u.name.size ≤ maxLen) Us.cells xs (fun x hxm => by
    obtain ⟨u, h1, h2⟩ := us_of_leaves (hx x hxm)
    exact ⟨u, h1, h2⟩)
  rw [List.length_map] at hn
  subst hn
  exact ⟨l, hs, hl⟩

set_option maxRecDepth 100000 in
theorem open_user {v : Value} {d : DataW H} {ps : List MemPlace} {r : Reach} {b0 : Nat} (hval : Value.okWide Try.prog w r b0 30 v)
    (h : DataW.Trod enc Try.prog w base spare held 30 v d ps) : ∃ u : Us, v = .agg u.cells.toArray ∧ u.name.size ≤ maxLen := by
  have hc : Try.prog.cellsOf 30 = 20 := by kernel_rfl
  obtain ⟨cs, rfl, hcs⟩ : ∃ cs, v = .agg cs ∧ cs.size = 20 := by
    unfold Value.okWide at hval
    rw [Try.underlying30] at hval
    obtain ⟨cs, h1, h2, _⟩ := hval
    exact ⟨cs, h1, by rw [h2, hc]⟩
  obtain ⟨m, hy⟩ := h
  have hL := trod_leaves 8 30 _ m cs.toList _ flatUs (by rw [hc]; rfl) (by rw [hc]; simpa using hcs) hy
  obtain ⟨u, h1, h2⟩ := us_of_leaves hL
  exact ⟨u, by rw [← h1], h2⟩
end Go.Proofs.Ytclonbojpcgngaa
