/- BasePlays for all inputs; its argument of steps, opened. -/
import Derived.Test.YtclonbojpcgngaaBasePlays
import Derived.Test.YtclonbojpcgngaaOpenUs
namespace Go.Proofs.Ytclonbojpcgngaa
set_option linter.unusedSimpArgs false
set_option linter.unusedVariables false
open Go.ChangeShapes Go.WideShapes Go.RowKit Go.OpenShut
variable {H : Type} {enc : TypeId × Value → H} {w : World} {base : Nat} {spare : Nat → Bool} {held : Bool}

set_option maxRecDepth 100000 in
theorem open_stps {v : Value} {d : DataW H} {ps : List MemPlace} {r : Reach} {b0 : Nat} (hval : Value.okWide Try.prog w r b0 22 v)
    (h : DataW.Trod enc Try.prog w base spare held 22 v d ps) : ∃ l : List Stp, Sl w 21 v l.length (l.map Stp.cells).flatten ∧ ∀ x ∈ l, x.u.name.size ≤ maxLen := by
  have hf : flatTy Try.prog 8 32 = some (3 :: ([9] ++ (List.replicate 16 5 ++ [2, 2, 4]))) := by kernel_rfl
  obtain ⟨n, xs, hn, hx, hs⟩ := open_elems Try.underlying22 hf (by kernel_rfl) (by decide) (okWide_slice Try.underlying22 hval) h
  obtain ⟨l, rfl, hl⟩ := exists_map' (fun x : Stp => x.u.name.size ≤ maxLen) Stp.cells xs (fun x hxm => by
    obtain ⟨c0, x0, rfl, k0, hL⟩ := (hx x hxm).cons
    obtain ⟨f0, rfl, _⟩ := k0.int Try.underlying3
    obtain ⟨u, rfl, hu⟩ := us_of_leaves hL
    exact ⟨⟨f0, u⟩, rfl, hu⟩)
  rw [List.length_map] at hn
  subst hn
  exact ⟨l, hs, hl⟩

set_option maxRecDepth 100000 in
theorem plays_walk (v : Value) (l : List Stp) (w : World) (h : Sl w 21 v l.length (l.map Stp.cells).flatten) (hn : ∀ x ∈ l, x.u.name.size ≤ maxLen) :
    Calls Try.prog 3 #[v] w fun e w' => e = .returned (.bool true) ∧ Below w.heap.size w w' := by
  by_cases hl : l.length ≤ 200
  · exact plays_go v l w h hn hl
  · obtain ⟨al, cl, rfl, hcl, hml⟩ := h.form
    unfold maxLen at hml
    have hl' : (200 : Int) < l.length := by omega
    clear h hn
    go_enter Try.func3, Try.ntmps3
    go_wp2_with fail
    refine (alive13_any _).mono ?_
    rintro e w1 ⟨rfl, hb⟩
    have HB := Lib.hid hb
    clear hb
    go_wp2_with fail
    go_ret
    exact ⟨rfl, HB.out⟩
end Go.Proofs.Ytclonbojpcgngaa
