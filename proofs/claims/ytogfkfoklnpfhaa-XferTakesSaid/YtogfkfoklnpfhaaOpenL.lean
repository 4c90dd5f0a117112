/- A slice of bytes within a struct of an argument: it reads. -/
import Derived.Test.YtogfkfoklnpfhaaOpenB
namespace Go.Proofs.Ytogfkfoklnpfhaa
set_option linter.unusedSimpArgs false
set_option linter.unusedVariables false
open Go.ChangeShapes Go.WideShapes Go.RowKit Go.OpenShut
variable {H : Type} {enc : TypeId × Value → H} {w : World} {base : Nat} {spare : Nat → Bool} {held : Bool}

set_option maxRecDepth 100000 in
theorem leaf_box {c : Value} (h : Leaf enc Try.prog w base spare held 22 c) : ∃ l : List UInt8, Bs w c l := by
  obtain ⟨_, fuel, y, hy⟩ := h
  have hf : flatTy Try.prog 4 5 = some [5] := by kernel_rfl
  rcases Deep.open_slice Try.underlying22 hy with ⟨h1, _⟩ | ⟨a', len, cap, m', n', D, Pl, h1, _, hl, hm, hm', hx, hel⟩
  · simp only [List.cons.injEq, and_true] at h1
    subst h1
    exact ⟨[], Sl.nil _ _ _⟩
  · simp only [List.cons.injEq, and_true] at h1
    subst h1
    obtain ⟨n, xs, hn, hxs, hs⟩ := open_elems (v := .slice (some a') len cap) (d := y.1) (ps := y.2) Try.underlying22 hf (by kernel_rfl) (by decide) ⟨_, _, _, rfl⟩ ⟨fuel, hy⟩
    obtain ⟨l, rfl⟩ := exists_map (fun x : UInt8 => [bV x]) xs (fun x hxm => by
      obtain ⟨c0, x, rfl, k0, hL⟩ := (hxs x hxm).cons
      obtain rfl := hL.nil
      obtain ⟨y0, rfl, hw⟩ := k0.int Try.underlying5
      obtain ⟨z, hz⟩ := byte_of_wf hw
      exact ⟨z, by rw [hz]⟩)
    rw [flat_bV] at hs
    rw [List.length_map] at hn
    subst hn
    exact ⟨l, hs⟩
end Go.Proofs.Ytogfkfoklnpfhaa
