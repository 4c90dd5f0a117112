/- An argument that is a row of tickets. -/
import Derived.Test.YtolhphofbkiplaaOpenW
import Derived.Test.YtolhphofbkiplaaOpenK
import Derived.Test.YtolhphofbkiplaaCredZ
namespace Go.Proofs.Ytolhphofbkiplaa
set_option linter.unusedSimpArgs false
set_option linter.unusedVariables false
open Go.ChangeShapes Go.WideShapes Go.RowKit Go.OpenShut
variable {H : Type} {enc : TypeId × Value → H} {w : World} {base : Nat} {spare : Nat → Bool} {held : Bool}

set_option maxRecDepth 100000 in
theorem open_box {c : Value} (h : LeafW (fun m => m ≤ reachBytes) enc Try.prog w base spare held 27 c) : ∃ l : List UInt8, Bs w c l ∧ l.length ≤ 140737488351232 := by
  obtain ⟨_, fuel, y, hy, hS⟩ := h
  have hb : Try.prog.bytesOf 5 = 1 := by kernel_rfl
  have hf : flatTy Try.prog 4 5 = some [5] := by kernel_rfl
  rcases Deep.open_slice Try.underlying27 hy with ⟨h1, _⟩ | ⟨a', len, cap, m', n', D, Pl, h1, _, hl, hm, hm', hx, hel⟩
  · simp only [List.cons.injEq, and_true] at h1
    subst h1
    exact ⟨[], Sl.nil _ _ _, by simp⟩
  · simp only [List.cons.injEq, and_true] at h1
    subst h1
    obtain ⟨n, xs, hn, hxs, hs⟩ := open_elems (v := .slice (some a') len cap) (d := y.1) (ps := y.2) Try.underlying27 hf (by kernel_rfl) (by decide) ⟨_, _, _, rfl⟩ ⟨fuel, hy⟩
    obtain ⟨l, rfl⟩ := exists_map (fun x : UInt8 => [bV x]) xs (fun x hxm => by
      obtain ⟨c0, x, rfl, k0, hL⟩ := (hxs x hxm).cons
      obtain rfl := hL.nil
      obtain ⟨y0, rfl, hw⟩ := k0.int Try.underlying5
      obtain ⟨z, hz⟩ := byte_of_wf hw
      exact ⟨z, by rw [hz]⟩)
    rw [flat_bV] at hs
    rw [List.length_map] at hn
    subst hn
    refine ⟨l, hs, ?_⟩
    obtain ⟨a2, c2, hf2, _⟩ := hs.form
    simp only [Value.slice.injEq] at hf2
    have hw := hS ((len + (m' - len)) * 1) (by
      rw [congrArg Prod.fst hx]
      simp only [DataW.weights, Try.underlying27, hb, List.length_map, List.length_range, List.mem_cons, true_or])
    have hr : reachBytes = 140737488351232 := rfl
    rw [hr] at hw
    omega

theorem leavesW_split {S : Nat → Prop} : ∀ {us ts : List TypeId} {cs : List Value}, LeavesW S enc Try.prog w base spare held (us ++ ts) cs → ∃ c1 c2, cs = c1 ++ c2 ∧ LeavesW S enc Try.prog w base spare held us c1 ∧ LeavesW S enc Try.prog w base spare held ts c2
  | [], ts, cs, h => ⟨[], cs, rfl, ⟨rfl, fun j t' c h => by simp at h⟩, h⟩
  | u :: us, ts, cs, h => by
    obtain ⟨c, cs', rfl, hc, h'⟩ := h.cons
    obtain ⟨c1, c2, rfl, h1, h2⟩ := leavesW_split h'
    refine ⟨c :: c1, c2, rfl, ⟨by simp [h1.1], fun j t' x hj hx => ?_⟩, h2⟩
    cases j with
    | zero =>
      simp only [List.getElem?_cons_zero, Option.some.injEq] at hj hx
      subst hj hx
      exact hc
    | succ j => exact h1.2 j t' x (by simpa using hj) (by simpa using hx)

set_option maxRecDepth 100000 in
theorem open_creds {v : Value} {d : DataW H} {ps : List MemPlace} {r : Reach} {b0 : Nat} (hval : Value.okWide Try.prog w r b0 26 v)
    (h : DataW.Trod enc Try.prog w base spare held 26 v d ps) (hS : ∀ m ∈ d.weights Try.prog 26, m ≤ reachBytes) :
    ∃ l : List Cr, Sl w 21 v l.length (l.map Cr.cells).flatten ∧ ∀ c ∈ l, c.In w := by
  have hf : flatTy Try.prog 8 33 = some ([9, 27] ++ (List.replicate 16 5 ++ [3, 2, 2])) := by kernel_rfl
  obtain ⟨n, xs, hn, hx, hs⟩ := open_elemsW (S := fun m => m ≤ reachBytes) Try.underlying26 hf (by kernel_rfl) (by decide) (okWide_slice Try.underlying26 hval) h hS
  obtain ⟨l, rfl, hl⟩ := exists_map' (fun c : Cr => c.In w) Cr.cells xs (fun x hxm => by
    obtain ⟨c0, x0, rfl, k0, hL⟩ := (hx x hxm).cons
    obtain ⟨c1, x1, rfl, k1, hL⟩ := hL.cons
    obtain ⟨c2, c3, rfl, hk, hL⟩ := leavesW_split (us := List.replicate 16 5) (ts := [3, 2, 2]) hL
    obtain ⟨c4, x4, rfl, k4, hL⟩ := hL.cons
    obtain ⟨c5, x5, rfl, k5, hL⟩ := hL.cons
    obtain ⟨c6, x6, rfl, k6, hL⟩ := hL.cons
    obtain rfl := hL.leaves.nil
    obtain ⟨s, rfl, _⟩ := k0.1.string Try.underlying9
    obtain ⟨box, hb, hbl⟩ := open_box k1
    obtain ⟨key, rfl, hkl⟩ := leaves_bytes hk.leaves
    obtain ⟨f4, rfl, _⟩ := k4.1.int Try.underlying3
    obtain ⟨f5, rfl, w5⟩ := k5.1.int Try.underlying2
    obtain ⟨f6, rfl, _⟩ := k6.1.int Try.underlying2
    have hw5 := bounds_i64 w5
    exact ⟨⟨s, c1, box, key, f4, f5, f6⟩, rfl, hkl, hb, hbl, by show f5 ≤ _; omega, by show _ ≤ f5; omega⟩)
  rw [List.length_map] at hn
  subst hn
  exact ⟨l, hs, hl⟩
end Go.Proofs.Ytolhphofbkiplaa
