/- The law MsgReads returns true for all bytes: no conditions. -/
import Derived.Test.YtpjkidcfidmfaaaMgA17
import Derived.OpenShut
/- Bytes and numbers as cells, from what the statement hands in. -/
namespace Go.Proofs.Ytpjkidcfidmfaaa
set_option linter.unusedSimpArgs false
set_option linter.unusedVariables false
open Go.ChangeShapes Go.WideShapes Go.RowKit Go.OpenShut
variable {H : Type} {enc : TypeId × Value → H} {w : World} {base : Nat} {spare : Nat → Bool} {held : Bool}
theorem byte_of_wf {n : Int} (h : (Lit.int .u8 n).wf = true) : ∃ x : UInt8, (Value.int .u8 n) = bV x := by
  have h := bounds_u8 h
  refine ⟨UInt8.ofNat n.toNat, ?_⟩
  rw [bV, UInt8.toNat_ofNat']
  congr 1
  omega
theorem flat_bV : ∀ l : List UInt8, (l.map fun x => [bV x]).flatten = bCells l
  | [] => rfl
  | x :: l => by rw [List.map_cons, List.flatten_cons, flat_bV l]; rfl
end Go.Proofs.Ytpjkidcfidmfaaa
/- Arguments of bytes and of numbers, from what the statement hands in. -/
namespace Go.Proofs.Ytpjkidcfidmfaaa
set_option linter.unusedSimpArgs false
set_option linter.unusedVariables false
open Go.ChangeShapes Go.WideShapes Go.RowKit Go.OpenShut
variable {H : Type} {enc : TypeId × Value → H} {w : World} {base : Nat} {spare : Nat → Bool} {held : Bool}
set_option maxRecDepth 100000 in
theorem open_bytes {v : Value} {d : DataW H} {ps : List MemPlace} {r : Reach} {b0 : Nat} (hval : Value.okWide Try.prog w r b0 22 v)
    (h : DataW.Trod enc Try.prog w base spare held 22 v d ps) : ∃ l, Bs w v l := by
  have hf : flatTy Try.prog 4 5 = some [5] := by kernel_rfl
  obtain ⟨n, xs, hn, hx, hs⟩ := open_elems Try.underlying22 hf (by kernel_rfl) (by decide) (okWide_slice Try.underlying22 hval) h
  obtain ⟨l, rfl⟩ := exists_map (fun x : UInt8 => [bV x]) xs (fun x hxm => by
    obtain ⟨c0, x, rfl, k0, hL⟩ := (hx x hxm).cons
    obtain rfl := hL.nil
    obtain ⟨y0, rfl, hw⟩ := k0.int Try.underlying5
    obtain ⟨z, hz⟩ := byte_of_wf hw
    exact ⟨z, by rw [hz]⟩)
  refine ⟨l, ?_⟩
  rw [flat_bV] at hs
  rw [List.length_map] at hn
  subst hn
  exact hs
end Go.Proofs.Ytpjkidcfidmfaaa
/- The law MsgReads returns true for all bytes: no conditions. -/
namespace Go.Proofs.Ytpjkidcfidmfaaa.msgReads
set_option linter.unusedSimpArgs false
open Go.ChangeShapes Go.WideShapes Go.ChangeAt Go.RowKit
open Go.ChangeMaps (open_string shut_string)
set_option linter.unusedVariables false
set_option maxRecDepth 100000 in
theorem contract (H : Type) (enc : TypeId × Value → H) (W : World) (base : Nat) (args : Array Value) (ds gs : List (DataW H)) (before : List MemPlace)
    (hval0 : ∀ (j : Nat) t v, Try.f3.params[j]? = some t → args[j]? = some v → Value.okWide Try.prog W .any base t v)
    (hW : DataW.Whole enc Try.prog Try.f3.params.toList Rows.msgReadsSpec.vars false W args.toList ds gs before) :
    Calls Try.prog 3 args W fun e W' => ∃ v, e = .returned v ∧ Rows.msgReadsSpec.post enc Try.prog Try.f3 false true false false W args v W' := by
  have hval := hval0
  have hW' := hW
  obtain ⟨p, q, hA0, hV, rfl, hfz, hnd⟩ := hW
  have hA : DataW.TrodAll enc Try.prog W 0 (fun _ => true) true Try.f3.params.toList args.toList ds p := hA0
  rw [Try.params3] at hA hval
  obtain ⟨v0, vs0, d0, ds0, p0, q0, hargs, rfl, rfl, h0, r0⟩ := trodAll_cons hA
  obtain ⟨rfl, rfl, rfl⟩ := trodAll_nil r0
  obtain rfl : args = #[v0] := by cases args; simp_all
  obtain ⟨rfl, rfl⟩ := trodVars_none hV
  have hcall : Calls Try.prog 3 #[v0] W fun e W' => e = .returned (.bool true) ∧ Below W.heap.size W W' := by
    obtain ⟨la, ha⟩ := open_bytes (hval 0 _ v0 rfl rfl) h0
    exact msgReads_walk v0 la W ha
  refine hcall.mono fun e W' ⟨he, bel⟩ => ?_
  subst he
  exact ⟨_, rfl, _, _, _, [], _, [], hW', trodAll_mk1 (shut_bool Try.underlying4 _), trodAll_below rowLaidOut bel (by kernel_rfl) hA0, rfl, bel.frame _, fun h => by cases h⟩
set_option maxRecDepth 100000 in
theorem lifted (os : Os) (started : os.Started) (H : Type) (enc : TypeId × Value → H) :
    ReturnsInHanded {} Try.checked os 3 .any (Rows.msgReadsSpec.pre6 enc Try.prog Try.f3 Rows.msgReadsRow.domain false) (Rows.msgReadsSpec.post enc Try.prog Try.f3 false true false false) := by
  refine returnsInHanded_of_change (C := Try.checked) rowOwn started (by kernel_rfl) Try.func3
    (ChangeSpec.witness6 (enc := enc) (C := Try.checked) false ⟨#[], #[.slice none 0 0], []⟩ 8 (by kernel_rfl) (by kernel_rfl) (by kernel_rfl) (by kernel_rfl)) ?_
  intro W base args ds gs before hval hW _ _
  exact contract H enc W base args ds gs before hval hW
theorem over : Rows.msgReadsRow.holds Try.pinned (OpenSpec.ofChange Rows.msgReadsSpec) :=
  OpenClaim.holds_of_wide 3 Try.f3 rfl rfl rfl rfl rfl rfl rfl ⟨rfl, rfl, rfl, rfl, rfl⟩ rfl rfl rfl rfl rfl (by kernel_rfl) Try.func3 (by kernel_rfl)
    (of_decide_eq_true (by kernel_rfl)) (by unfold Func.isWrapper; first | (rw [if_pos (by decide +kernel)]; kernel_rfl) | (rw [if_neg (by decide +kernel)]; exact ⟨rfl, rfl⟩))
    (fun os started H enc _ => lifted os started H enc)
/-- THE STATEMENT. -/
theorem proved : Rows.MsgReadsSaid := over
end Go.Proofs.Ytpjkidcfidmfaaa.msgReads
