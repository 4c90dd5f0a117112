/- The law DerWrites returns true for all values: no conditions. -/
import Derived.Test.YtdmjliehobgknaaRowBase
import Derived.Test.YtdmjliehobgknaaDerWrites
import Derived.Test.YtdmjliehobgknaaOpenTv
import Derived.Test.YtdmjliehobgknaaOpenB
namespace Go.Proofs.Ytdmjliehobgknaa.derWrites
open Go.ChangeShapes Go.WideShapes Go.ChangeAt Go.RowKit
open Go.ChangeMaps (open_string shut_string)
set_option linter.unusedVariables false

set_option maxRecDepth 100000 in
theorem contract (H : Type) (enc : TypeId × Value → H) (W : World) (base : Nat) (args : Array Value) (ds gs : List (DataW H)) (before : List MemPlace)
    (hval0 : ∀ (j : Nat) t v, Try.f9.params[j]? = some t → args[j]? = some v → Value.okWide Try.prog W .any base t v)
    (hW : DataW.Whole enc Try.prog Try.f9.params.toList Rows.derWritesSpec.vars false W args.toList ds gs before)
    (hS : (DataW.weightsEach Try.prog (Try.f9.params.toList ++ Rows.derWritesSpec.plain.varTypes Try.prog) (ds ++ gs)).all (· ≤ reachBytes) = true) :
    Calls Try.prog 9 args W fun e W' => ∃ v, e = .returned v ∧ Rows.derWritesSpec.post enc Try.prog Try.f9 false true false false W args v W' := by
  have hval := hval0
  have hW' := hW
  obtain ⟨p, q, hA0, hV, rfl, hfz, hnd⟩ := hW
  have hA : DataW.TrodAll enc Try.prog W 0 (fun _ => true) true Try.f9.params.toList args.toList ds p := hA0
  rw [Try.params9] at hA hval
  obtain ⟨v0, vs0, d0, ds0, p0, q0, hargs, rfl, rfl, h0, r0⟩ := trodAll_cons hA
  obtain ⟨rfl, rfl, rfl⟩ := trodAll_nil r0
  obtain rfl : args = #[v0] := by cases args; simp_all
  obtain ⟨rfl, rfl⟩ := trodVars_none hV
  have hcall : Calls Try.prog 9 #[v0] W fun e W' => e = .returned (.bool true) ∧ Below W.heap.size W W' := by
    have hw0 : ∀ m ∈ d0.weights Try.prog 47, m ≤ reachBytes := fun m hm => by
      have := List.all_eq_true.1 hS m (DataW.weights_mem_each (j := 0) (t := 47) (d := d0) rfl rfl m hm)
      simpa using this
    obtain ⟨x, cs, rfl, hx, nx, lx, bx⟩ := open_tv (hval 0 _ v0 rfl rfl) h0 hw0
    exact derWrites_walk x cs W hx nx lx bx
  refine hcall.mono fun e W' ⟨he, bel⟩ => ?_
  subst he
  exact ⟨_, rfl, _, _, _, [], _, [], hW', trodAll_mk1 (shut_bool Try.underlying4 _), trodAll_below rowLaidOut bel (by kernel_rfl) hA0, rfl, bel.frame _, fun h => by cases h⟩

set_option maxRecDepth 100000 in
theorem lifted (os : Os) (started : os.Started) (H : Type) (enc : TypeId × Value → H) :
    ReturnsInHanded {} Try.checked os 9 .any (Rows.derWritesSpec.pre6 enc Try.prog Try.f9 Rows.derWritesRow.domain false) (Rows.derWritesSpec.post enc Try.prog Try.f9 false true false false) := by
  refine returnsInHanded_of_change_sized (C := Try.checked) rowOwn started (by kernel_rfl) Try.func9
    (ChangeSpec.witness6 (enc := enc) (C := Try.checked) false ⟨#[], #[.agg #[.int .i64 0, .int .i64 0, .int .u64 0, .slice none 0 0, .slice none 0 0]], []⟩ 8 (by kernel_rfl) (by kernel_rfl) (by kernel_rfl) (by kernel_rfl)) ?_
  intro W base args ds gs before hval hW _ hS _
  exact contract H enc W base args ds gs before hval hW hS

theorem over : Rows.derWritesRow.holds Try.pinned (OpenSpec.ofChange Rows.derWritesSpec) :=
  OpenClaim.holds_of_wide 9 Try.f9 rfl rfl rfl rfl rfl rfl rfl ⟨rfl, rfl, rfl, rfl, rfl⟩ rfl rfl rfl rfl rfl (by kernel_rfl) Try.func9 (by kernel_rfl)
    (of_decide_eq_true (by kernel_rfl)) (by unfold Func.isWrapper; first | (rw [if_pos (by decide +kernel)]; kernel_rfl) | (rw [if_neg (by decide +kernel)]; exact ⟨rfl, rfl⟩))
    (fun os started H enc _ => lifted os started H enc)

/-- THE STATEMENT. -/
theorem proved : Rows.DerWritesSaid := over
end Go.Proofs.Ytdmjliehobgknaa.derWrites
