/- The law DerNests returns true for all values: no conditions. -/
import Derived.Test.YtdmjliehobgknaaRowBase
import Derived.Test.YtdmjliehobgknaaDerNests
import Derived.Test.YtdmjliehobgknaaOpenTv
import Derived.Test.YtdmjliehobgknaaOpenB
namespace Go.Proofs.Ytdmjliehobgknaa.derNests
open Go.ChangeShapes Go.WideShapes Go.ChangeAt Go.RowKit
open Go.ChangeMaps (open_string shut_string)
set_option linter.unusedVariables false

set_option maxRecDepth 100000 in
theorem contract (H : Type) (enc : TypeId × Value → H) (W : World) (base : Nat) (args : Array Value) (ds gs : List (DataW H)) (before : List MemPlace)
    (hval0 : ∀ (j : Nat) t v, Try.f12.params[j]? = some t → args[j]? = some v → Value.okWide Try.prog W .any base t v)
    (hW : DataW.Whole enc Try.prog Try.f12.params.toList Rows.derNestsSpec.vars false W args.toList ds gs before)
    (hS : (DataW.weightsEach Try.prog (Try.f12.params.toList ++ Rows.derNestsSpec.plain.varTypes Try.prog) (ds ++ gs)).all (· ≤ reachBytes) = true) :
    Calls Try.prog 12 args W fun e W' => ∃ v, e = .returned v ∧ Rows.derNestsSpec.post enc Try.prog Try.f12 false true false false W args v W' := by
  have hval := hval0
  have hW' := hW
  obtain ⟨p, q, hA0, hV, rfl, hfz, hnd⟩ := hW
  have hA : DataW.TrodAll enc Try.prog W 0 (fun _ => true) true Try.f12.params.toList args.toList ds p := hA0
  rw [Try.params12] at hA hval
  obtain ⟨v0, vs0, d0, ds0, p0, q0, hargs, rfl, rfl, h0, r0⟩ := trodAll_cons hA
  obtain ⟨v1, vs1, d1, ds1, p1, q1, rfl, rfl, rfl, h1, r1⟩ := trodAll_cons r0
  obtain ⟨v2, vs2, d2, ds2, p2, q2, rfl, rfl, rfl, h2, r2⟩ := trodAll_cons r1
  obtain ⟨rfl, rfl, rfl⟩ := trodAll_nil r2
  obtain rfl : args = #[v0, v1, v2] := by cases args; simp_all
  obtain ⟨rfl, rfl⟩ := trodVars_none hV
  have hcall : Calls Try.prog 12 #[v0, v1, v2] W fun e W' => e = .returned (.bool true) ∧ Below W.heap.size W W' := by
    have hw0 : ∀ m ∈ d0.weights Try.prog 47, m ≤ reachBytes := fun m hm => by
      have := List.all_eq_true.1 hS m (DataW.weights_mem_each (j := 0) (t := 47) (d := d0) rfl rfl m hm)
      simpa using this
    have hw1 : ∀ m ∈ d1.weights Try.prog 47, m ≤ reachBytes := fun m hm => by
      have := List.all_eq_true.1 hS m (DataW.weights_mem_each (j := 1) (t := 47) (d := d1) rfl rfl m hm)
      simpa using this
    have hw2 : ∀ m ∈ d2.weights Try.prog 3, m ≤ reachBytes := fun m hm => by
      have := List.all_eq_true.1 hS m (DataW.weights_mem_each (j := 2) (t := 3) (d := d2) rfl rfl m hm)
      simpa using this
    obtain ⟨x, cs, rfl, hx, nx, lx, bx⟩ := open_tv (hval 0 _ v0 rfl rfl) h0 hw0
    obtain ⟨y, fs, rfl, hy, ny, ly, by_⟩ := open_tv (hval 1 _ v1 rfl rfl) h1 hw1
    obtain ⟨a2, rfl, rfl, rfl, w2⟩ := open_int Try.underlying3 (hval 2 _ v2 rfl rfl) h2
    exact derNests_walk x y cs fs a2 W hx hy nx ny lx ly bx by_
  refine hcall.mono fun e W' ⟨he, bel⟩ => ?_
  subst he
  exact ⟨_, rfl, _, _, _, [], _, [], hW', trodAll_mk1 (shut_bool Try.underlying4 _), trodAll_below rowLaidOut bel (by kernel_rfl) hA0, rfl, bel.frame _, fun h => by cases h⟩

set_option maxRecDepth 100000 in
theorem lifted (os : Os) (started : os.Started) (H : Type) (enc : TypeId × Value → H) :
    ReturnsInHanded {} Try.checked os 12 .any (Rows.derNestsSpec.pre6 enc Try.prog Try.f12 Rows.derNestsRow.domain false) (Rows.derNestsSpec.post enc Try.prog Try.f12 false true false false) := by
  refine returnsInHanded_of_change_sized (C := Try.checked) rowOwn started (by kernel_rfl) Try.func12
    (ChangeSpec.witness6 (enc := enc) (C := Try.checked) false ⟨#[], #[.agg #[.int .i64 0, .int .i64 0, .int .u64 0, .slice none 0 0, .slice none 0 0], .agg #[.int .i64 0, .int .i64 0, .int .u64 0, .slice none 0 0, .slice none 0 0], .int .i64 0], []⟩ 8 (by kernel_rfl) (by kernel_rfl) (by kernel_rfl) (by kernel_rfl)) ?_
  intro W base args ds gs before hval hW _ hS _
  exact contract H enc W base args ds gs before hval hW hS

theorem over : Rows.derNestsRow.holds Try.pinned (OpenSpec.ofChange Rows.derNestsSpec) :=
  OpenClaim.holds_of_wide 12 Try.f12 rfl rfl rfl rfl rfl rfl rfl ⟨rfl, rfl, rfl, rfl, rfl⟩ rfl rfl rfl rfl rfl (by kernel_rfl) Try.func12 (by kernel_rfl)
    (of_decide_eq_true (by kernel_rfl)) (by unfold Func.isWrapper; first | (rw [if_pos (by decide +kernel)]; kernel_rfl) | (rw [if_neg (by decide +kernel)]; exact ⟨rfl, rfl⟩))
    (fun os started H enc _ => lifted os started H enc)

/-- THE STATEMENT. -/
theorem proved : Rows.DerNestsSaid := over
end Go.Proofs.Ytdmjliehobgknaa.derNests
