/- A region that draws its order, all of whose operations keep one condition on the world: loads may be taken first, calls come one by one. -/
import Derived.Test.YtclonbojpcgngaaRes
import Derived.OrdersHeld
namespace Go.Proofs.Ytclonbojpcgngaa
set_option linter.unusedSimpArgs false
set_option linter.unusedVariables false

section
variable {P : Program} {ops : Array Oper} {Q : Exit → Act → World → Prop} {md : Region.Mode} {S : World → Prop}

/-- One operation that may come up, as the walk wants it. -/
def AllReadyH (P : Program) (md : Region.Mode) (ops : Array Oper) (Q : Exit → Act → World → Prop) (S : World → Prop) (fuel : Nat) (listed : Array Bool) (a : Act) (w : World) (rs : List Nat) : Prop :=
  ∀ i ∈ rs, wpOp P ops Q i (fun a' w' => S w' ∧ wpAnyH P md ops Q S fuel (listed.setIfInBounds i true) a' w') a w

theorem AllReadyH.nil {fuel : Nat} {listed : Array Bool} {a : Act} {w : World} : AllReadyH P md ops Q S fuel listed a w [] := fun _ h => by cases h

theorem AllReadyH.cons {fuel : Nat} {listed : Array Bool} {a : Act} {w : World} {i : Nat} {o : Oper} {rs : List Nat} (ho : ops[i]? = some o)
    (h : ∀ K' : Act → World → Prop, (∀ a w, S w → wpAnyH P md ops Q S fuel (listed.setIfInBounds i true) a w → K' a w) → if Region.wanted o (yielded ops a.tmps) = true then Oper.wp P o a w K' Q else K' (a.put o.dst undef) w)
    (hs : AllReadyH P md ops Q S fuel listed a w rs) : AllReadyH P md ops Q S fuel listed a w (i :: rs) := fun j hj => by
  rcases List.mem_cons.1 hj with rfl | hj
  · exact wpOp_step ho (fun K' hK => h K' (fun a w h1 h2 => hK a w ⟨h1, h2⟩))
  · exact hs j hj

theorem anyH_ready {rs : List Nat} {fuel : Nat} {listed : Array Bool} {a : Act} {w : World} (hr : Region.ready md ops listed = rs) (hne : rs ≠ [])
    (h : AllReadyH P md ops Q S fuel listed a w rs) : wpAnyH P md ops Q S (fuel + 1) listed a w := wpAnyH_all hr hne h

theorem anyH_listed {fuel : Nat} {l l' : Array Bool} {a : Act} {w : World} (e : l' = l) (h : wpAnyH P md ops Q S fuel l' a w) : wpAnyH P md ops Q S fuel l a w := e ▸ h

/-- A load of a struct, whose cells stand in every world of which S holds. -/
theorem yields_ldAgg {o : Oper} {a : Act} {ty : TypeId} {m b off : Nat} {x : Operand} {cs : List Value} (hw : Region.wanted o (yielded ops a.tmps) = true) (ho : o.op = .load ty x) (hT : AggTy P ty m) (hx : a.eval x = .pointer (some ⟨b, off, none⟩)) (hm : cs.length = m) (hc : ∀ w, S w → CellsAt w b off cs) :
    YieldsIf P ops S o (.agg cs.toArray) a := by
  refine .inl ⟨hw, fun w hS => ?_⟩
  have h := run_ldAgg hT hm (hc w hS)
  unfold execOp
  simp only [ho, hx, Instr.loadAt, Instr.sureAddr, Sem.run_bind, Sem.run_pure, Result.andThen_ok, h]
end
end Go.Proofs.Ytclonbojpcgngaa
