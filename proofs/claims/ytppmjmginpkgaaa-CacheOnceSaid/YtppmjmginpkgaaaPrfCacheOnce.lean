/- The law CacheOnce returns true for every bound and every list of steps: no conditions. -/
import Derived.Test.YtppmjmginpkgaaaRowBase
import Derived.Test.YtppmjmginpkgaaaOnce2
import Derived.Test.YtppmjmginpkgaaaOpen
namespace Go.Proofs.Ytppmjmginpkgaaa.cacheOnce
open Go.ChangeShapes Go.WideShapes Go.ChangeAt Go.RowKit
open Go.ChangeMaps (open_string shut_string)
set_option linter.unusedVariables false

set_option maxRecDepth 100000 in
theorem contract (H : Type) (enc : TypeId × Value → H) (W : World) (base : Nat) (args : Array Value) (ds gs : List (DataW H)) (before : List MemPlace)
    (hval0 : ∀ (j : Nat) t v, Try.f3.params[j]? = some t → args[j]? = some v → Value.okWide Try.prog W .any base t v)
    (hW : DataW.Whole enc Try.prog Try.f3.params.toList Rows.cacheOnceSpec.vars false W args.toList ds gs before) :
    Calls Try.prog 3 args W fun e W' => ∃ v, e = .returned v ∧ Rows.cacheOnceSpec.post enc Try.prog Try.f3 false true false false W args v W' := by
  have hval := hval0
  have hW' := hW
  obtain ⟨p, q, hA0, hV, rfl, hfz, hnd⟩ := hW
  have hA : DataW.TrodAll enc Try.prog W 0 (fun _ => true) true Try.f3.params.toList args.toList ds p := hA0
  rw [Try.params3] at hA hval
  obtain ⟨v0, vs0, d0, ds0, p0, q0, hargs, rfl, rfl, h0, r0⟩ := trodAll_cons hA
  obtain ⟨v1, vs1, d1, ds1, p1, q1, rfl, rfl, rfl, h1, r1⟩ := trodAll_cons r0
  obtain ⟨rfl, rfl, rfl⟩ := trodAll_nil r1
  obtain rfl : args = #[v0, v1] := by cases args; simp_all
  obtain ⟨rfl, rfl⟩ := trodVars_none hV
  have hcall : Calls Try.prog 3 #[v0, v1] W fun e W' => e = .returned (.bool true) ∧ Below W.heap.size W W' := by
    obtain ⟨a0, rfl, rfl, rfl, w0⟩ := open_int Try.underlying3 (hval 0 _ v0 rfl rfl) h0
    have hf1 : flatTy Try.prog 4 28 = some [3, 9, 2, 2] := by kernel_rfl
    obtain ⟨n1, xs1, hn1, hx1, hs1⟩ := open_elems Try.underlying22 hf1 (by kernel_rfl) (by decide) (okWide_slice Try.underlying22 (hval 1 _ v1 rfl rfl)) h1
    obtain ⟨l1, rfl, hp1⟩ := exists_map' (fun x : St => Sh.wf x.2) St.cells xs1 (fun x hx => by
      obtain ⟨c0, x, rfl, k0, hL⟩ := (hx1 x hx).cons
      obtain ⟨c1, x, rfl, k1, hL⟩ := hL.cons
      obtain ⟨c2, x, rfl, k2, hL⟩ := hL.cons
      obtain ⟨c3, x, rfl, k3, hL⟩ := hL.cons
      obtain rfl := hL.nil
      obtain ⟨y0, rfl, _⟩ := k0.int Try.underlying3
      obtain ⟨y1, rfl, g1⟩ := k1.string Try.underlying9
      obtain ⟨y2, rfl, g2⟩ := k2.int Try.underlying2
      obtain ⟨y3, rfl, g3⟩ := k3.int Try.underlying2
      exact ⟨(y0, y1, y2, y3), rfl, g1, g2, g3⟩)
    subst hn1
    rw [List.length_map] at hs1
    exact cacheOnce_walk a0 v1 l1 W hs1 hp1
  refine hcall.mono fun e W' ⟨he, bel⟩ => ?_
  subst he
  exact ⟨_, rfl, _, _, _, [], _, [], hW', trodAll_mk1 (shut_bool Try.underlying4 _), trodAll_below rowLaidOut bel (by kernel_rfl) hA0, rfl, bel.frame _, fun h => by cases h⟩

set_option maxRecDepth 100000 in
theorem lifted (os : Os) (started : os.Started) (H : Type) (enc : TypeId × Value → H) :
    ReturnsInHanded {} Try.checked os 3 .any (Rows.cacheOnceSpec.pre6 enc Try.prog Try.f3 Rows.cacheOnceRow.domain false) (Rows.cacheOnceSpec.post enc Try.prog Try.f3 false true false false) := by
  refine returnsInHanded_of_change (C := Try.checked) rowOwn started (by kernel_rfl) Try.func3
    (ChangeSpec.witness6 (enc := enc) (C := Try.checked) false ⟨#[], #[.int .i64 0, .slice none 0 0], []⟩ 8 (by kernel_rfl) (by kernel_rfl) (by kernel_rfl) (by kernel_rfl)) ?_
  intro W base args ds gs before hval hW _ _
  exact contract H enc W base args ds gs before hval hW

theorem over : Rows.cacheOnceRow.holds Try.pinned (OpenSpec.ofChange Rows.cacheOnceSpec) :=
  OpenClaim.holds_of_wide 3 Try.f3 rfl rfl rfl rfl rfl rfl rfl ⟨rfl, rfl, rfl, rfl, rfl⟩ rfl rfl rfl rfl rfl (by kernel_rfl) Try.func3 (by kernel_rfl)
    (of_decide_eq_true (by kernel_rfl)) (by unfold Func.isWrapper; first | (rw [if_pos (by decide +kernel)]; kernel_rfl) | (rw [if_neg (by decide +kernel)]; exact ⟨rfl, rfl⟩))
    (fun os started H enc _ => lifted os started H enc)

/-- THE STATEMENT. -/
theorem proved : Rows.CacheOnceSaid := over
end Go.Proofs.Ytppmjmginpkgaaa.cacheOnce
