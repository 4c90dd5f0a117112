/- An argument that is a row of steps: a kind, a ticket, a time. -/
import Derived.Test.YtolhphofbkiplaaOpenCr
namespace Go.Proofs.Ytolhphofbkiplaa
set_option linter.unusedSimpArgs false
set_option linter.unusedVariables false
open Go.ChangeShapes Go.WideShapes Go.RowKit Go.OpenShut
variable {H : Type} {enc : TypeId × Value → H} {w : World} {base : Nat} {spare : Nat → Bool} {held : Bool}

/-- A step: 0 a ticket is kept, 1 forgotten, 2 all are. -/
structure St where
  kind : Int
  cr : Cr
  now : Int
def St.cells (x : St) : List Value := .int .i64 x.kind :: (x.cr.cells ++ [.int .i64 x.now])
theorem St.cells_length (x : St) (h : x.cr.key.length = 16) : x.cells.length = 23 := by simp [St.cells, Cr.cells_length x.cr h]

set_option maxRecDepth 100000 in
theorem cr_of_leaves {x : List Value} (h : LeavesW (fun m => m ≤ reachBytes) enc Try.prog w base spare held ([9, 27] ++ (List.replicate 16 5 ++ [3, 2, 2])) x) :
    ∃ c : Cr, x = c.cells ∧ c.In w := by
  obtain ⟨c0, x0, rfl, k0, hL⟩ := h.cons
  obtain ⟨c1, x1, rfl, k1, hL⟩ := hL.cons
  obtain ⟨c2, c3, rfl, hk, hL⟩ := leavesW_split (us := List.replicate 16 5) (ts := [3, 2, 2]) hL
  obtain ⟨c4, x4, rfl, k4, hL⟩ := hL.cons
  obtain ⟨c5, x5, rfl, k5, hL⟩ := hL.cons
  obtain ⟨c6, x6, rfl, k6, hL⟩ := hL.cons
  obtain rfl := hL.leaves.nil
  obtain ⟨s, rfl, _⟩ := k0.1.string Try.underlying9
  obtain ⟨box, hb, hbl⟩ := open_box k1
  obtain ⟨key, rfl, hkl⟩ := leaves_bytes hk.leaves
  obtain ⟨f4, rfl, _⟩ := k4.1.int Try.underlying3
  obtain ⟨f5, rfl, w5⟩ := k5.1.int Try.underlying2
  obtain ⟨f6, rfl, _⟩ := k6.1.int Try.underlying2
  have hw5 := bounds_i64 w5
  exact ⟨⟨s, c1, box, key, f4, f5, f6⟩, rfl, hkl, hb, hbl, by show f5 ≤ _; omega, by show _ ≤ f5; omega⟩

set_option maxRecDepth 100000 in
theorem open_steps {v : Value} {d : DataW H} {ps : List MemPlace} {r : Reach} {b0 : Nat} (hval : Value.okWide Try.prog w r b0 22 v)
    (h : DataW.Trod enc Try.prog w base spare held 22 v d ps) (hS : ∀ m ∈ d.weights Try.prog 22, m ≤ reachBytes) :
    ∃ l : List St, Sl w 23 v l.length (l.map St.cells).flatten ∧ ∀ x ∈ l, x.cr.In w := by
  have hf : flatTy Try.prog 8 35 = some (3 :: (([9, 27] ++ (List.replicate 16 5 ++ [3, 2, 2])) ++ [2])) := by kernel_rfl
  obtain ⟨n, xs, hn, hx, hs⟩ := open_elemsW (S := fun m => m ≤ reachBytes) Try.underlying22 hf (by kernel_rfl) (by decide) (okWide_slice Try.underlying22 hval) h hS
  obtain ⟨l, rfl, hl⟩ := exists_map' (fun x : St => x.cr.In w) St.cells xs (fun x hxm => by
    obtain ⟨c0, x0, rfl, k0, hL⟩ := (hx x hxm).cons
    obtain ⟨c2, c3, rfl, hc, hL⟩ := leavesW_split (us := [9, 27] ++ (List.replicate 16 5 ++ [3, 2, 2])) (ts := [2]) hL
    obtain ⟨c4, x4, rfl, k4, hL⟩ := hL.cons
    obtain rfl := hL.leaves.nil
    obtain ⟨f0, rfl, _⟩ := k0.1.int Try.underlying3
    obtain ⟨c, rfl, hin⟩ := cr_of_leaves hc
    obtain ⟨f4, rfl, _⟩ := k4.1.int Try.underlying2
    exact ⟨⟨f0, c, f4⟩, rfl, hin⟩)
  rw [List.length_map] at hn
  subst hn
  exact ⟨l, hs, hl⟩
end Go.Proofs.Ytolhphofbkiplaa
