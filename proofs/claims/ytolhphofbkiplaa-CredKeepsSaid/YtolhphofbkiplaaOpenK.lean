/- An argument that is an array of sixteen bytes, from what the statement hands in. -/
import Derived.Test.YtolhphofbkiplaaOpenB
import Derived.Test.YtolhphofbkiplaaKeyT
namespace Go.Proofs.Ytolhphofbkiplaa
set_option linter.unusedSimpArgs false
set_option linter.unusedVariables false
open Go.ChangeShapes Go.WideShapes Go.RowKit Go.OpenShut
variable {H : Type} {enc : TypeId × Value → H} {w : World} {base : Nat} {spare : Nat → Bool} {held : Bool}

theorem leaves_bytes {n : Nat} : ∀ {cs : List Value}, Leaves enc Try.prog w base spare held (List.replicate n 5) cs → ∃ l : List UInt8, cs = bCells l ∧ l.length = n := by
  induction n with
  | zero =>
    intro cs h
    obtain rfl := h.nil
    exact ⟨[], rfl, rfl⟩
  | succ n ih =>
    intro cs h
    rw [List.replicate_succ] at h
    obtain ⟨c, cs', rfl, hc, h'⟩ := h.cons
    obtain ⟨l, rfl, hl⟩ := ih h'
    obtain ⟨y, rfl, hw⟩ := hc.int Try.underlying5
    obtain ⟨x, hx⟩ := byte_of_wf hw
    exact ⟨x :: l, by rw [hx]; rfl, by simp [hl]⟩

set_option maxRecDepth 100000 in
theorem open_arr16 {v : Value} {d : DataW H} {ps : List MemPlace} {r : Reach} {b0 : Nat} (hval : Value.okWide Try.prog w r b0 30 v)
    (h : DataW.Trod enc Try.prog w base spare held 30 v d ps) : ∃ l, v = keyV l ∧ l.length = 16 := by
  have hf : flatTy Try.prog 4 30 = some (List.replicate 16 5) := by kernel_rfl
  have hc : Try.prog.cellsOf 30 = 16 := by kernel_rfl
  obtain ⟨cs, rfl, hcs⟩ : ∃ cs, v = .agg cs ∧ cs.size = 16 := by
    unfold Value.okWide at hval
    rw [Try.underlying30] at hval
    obtain ⟨cs, h1, h2, _⟩ := hval
    exact ⟨cs, h1, by rw [h2, hc]⟩
  obtain ⟨m, hy⟩ := h
  have hL := trod_leaves 4 30 _ m cs.toList _ hf (by rw [hc]; rfl) (by rw [hc]; simpa using hcs) hy
  obtain ⟨l, hl, hll⟩ := leaves_bytes hL
  refine ⟨l, ?_, hll⟩
  unfold keyV
  rw [← hl]
end Go.Proofs.Ytolhphofbkiplaa
