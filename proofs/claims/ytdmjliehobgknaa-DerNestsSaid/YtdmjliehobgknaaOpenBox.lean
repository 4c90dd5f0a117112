/- A slice of bytes within a struct of an argument: it reads, and is not too long. -/
import Derived.Test.YtdmjliehobgknaaOpenW
namespace Go.Proofs.Ytdmjliehobgknaa
set_option linter.unusedSimpArgs false
set_option linter.unusedVariables false
open Go.ChangeShapes Go.WideShapes Go.RowKit Go.OpenShut
variable {H : Type} {enc : TypeId × Value → H} {w : World} {base : Nat} {spare : Nat → Bool} {held : Bool}

set_option maxRecDepth 100000 in
theorem open_box {c : Value} (h : LeafW (fun m => m ≤ reachBytes) enc Try.prog w base spare held 22 c) : ∃ l : List UInt8, Bs w c l ∧ l.length ≤ 140737488351232 := by
  obtain ⟨_, fuel, y, hy, hS⟩ := h
  have hb : Try.prog.bytesOf 5 = 1 := by kernel_rfl
  have hf : flatTy Try.prog 4 5 = some [5] := by kernel_rfl
  rcases Deep.open_slice Try.underlying22 hy with ⟨h1, _⟩ | ⟨a', len, cap, m', n', D, Pl, h1, _, hl, hm, hm', hx, hel⟩
  · simp only [List.cons.injEq, and_true] at h1
    subst h1
    exact ⟨[], Sl.nil _ _ _, by simp⟩
  · simp only [List.cons.injEq, and_true] at h1
    subst h1
    obtain ⟨n, xs, hn, hxs, hs⟩ := open_elems (v := .slice (some a') len cap) (d := y.1) (ps := y.2) Try.underlying22 hf (by kernel_rfl) (by decide) ⟨_, _, _, rfl⟩ ⟨fuel, hy⟩
    obtain ⟨l, rfl⟩ := exists_map (fun x : UInt8 => [bV x]) xs (fun x hxm => by
      obtain ⟨c0, x, rfl, k0, hL⟩ := (hxs x hxm).cons
      obtain rfl := hL.nil
      obtain ⟨y0, rfl, hw⟩ := k0.int Try.underlying5
      obtain ⟨z, hz⟩ := byte_of_wf hw
      exact ⟨z, by rw [hz]⟩)
    rw [flat_bV] at hs
    rw [List.length_map] at hn
    subst hn
    refine ⟨l, hs, ?_⟩
    obtain ⟨a2, c2, hf2, _⟩ := hs.form
    simp only [Value.slice.injEq] at hf2
    have hw := hS ((len + (m' - len)) * 1) (by
      rw [congrArg Prod.fst hx]
      simp only [DataW.weights, Try.underlying22, hb, List.length_map, List.length_range, List.mem_cons, true_or])
    have hr : reachBytes = 140737488351232 := rfl
    rw [hr] at hw
    omega
end Go.Proofs.Ytdmjliehobgknaa
