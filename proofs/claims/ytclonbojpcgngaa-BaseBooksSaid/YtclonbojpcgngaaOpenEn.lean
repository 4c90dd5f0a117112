/- Argument: a row of the statement's entries. -/
import Derived.Test.YtclonbojpcgngaaOpenY
import Derived.Test.YtclonbojpcgngaaBooksP
namespace Go.Proofs.Ytclonbojpcgngaa
set_option linter.unusedSimpArgs false
set_option linter.unusedVariables false
open Go.ChangeShapes Go.WideShapes Go.RowKit Go.OpenShut
variable {H : Type} {enc : TypeId × Value → H} {w : World} {base : Nat} {spare : Nat → Bool} {held : Bool}

set_option maxRecDepth 100000 in
theorem open_ents {v : Value} {d : DataW H} {ps : List MemPlace} {r : Reach} {b0 : Nat} (hval : Value.okWide Try.prog w r b0 49 v)
    (h : DataW.Trod enc Try.prog w base spare held 49 v d ps) : ∃ l : List Ent, Sl w 4 v l.length (l.map Ent.cells).flatten ∧ ∀ x ∈ l, x.name.size ≤ maxLen := by
  have hf : flatTy Try.prog 8 54 = some [3, 9, 3, 4] := by kernel_rfl
  obtain ⟨n, xs, hn, hx, hs⟩ := open_elems Try.underlying49 hf (by kernel_rfl) (by decide) (okWide_slice Try.underlying49 hval) h
  obtain ⟨l, rfl, hl⟩ := exists_map' (fun x : Ent => x.name.size ≤ maxLen) Ent.cells xs (fun x hxm => by
    obtain ⟨c0, x0, rfl, k0, hL⟩ := (hx x hxm).cons
    obtain ⟨c1, x1, rfl, k1, hL⟩ := hL.cons
    obtain ⟨c2, x2, rfl, k2, hL⟩ := hL.cons
    obtain ⟨c3, x3, rfl, k3, hL⟩ := hL.cons
    obtain rfl := hL.nil
    obtain ⟨f0, rfl, _⟩ := k0.int Try.underlying3
    obtain ⟨s, rfl, hs⟩ := k1.string Try.underlying9
    obtain ⟨f2, rfl, _⟩ := k2.int Try.underlying3
    obtain ⟨f3, rfl⟩ := k3.bool Try.underlying4
    exact ⟨⟨f0, s, f2, f3⟩, rfl, hs⟩)
  rw [List.length_map] at hn
  subst hn
  exact ⟨l, hs, hl⟩
end Go.Proofs.Ytclonbojpcgngaa
