/- The law WholeSealed returns true for all sayings and all numbers: no conditions. -/
import Derived.Test.YtbmjjfhpllpiaaaGreatWsA2
import Derived.Test.YtbmjjfhpllpiaaaGreatWsA15
import Derived.Test.YtbmjjfhpllpiaaaGreatWsA20
import Derived.Test.YtbmjjfhpllpiaaaGreatWsA21
import Derived.OpenShut
set_option linter.unusedSimpArgs false
set_option linter.unusedVariables false
set_option maxRecDepth 100000
set_option maxHeartbeats 16000000
namespace Go.Proofs.YtbmjjfhpllpiaaaGreat.wholeSealed
open Go.ChangeShapes Go.WideShapes Go.ChangeAt Go.RowKit
open Go.ChangeMaps (open_string shut_string)
theorem contract (H:Type) (enc:TypeId×Value->H) (W:World) (base:Nat) (args:Array Value) (ds gs:List (DataW H)) (before:List MemPlace) (hval0:∀(j:Nat) t v,Tryz.f3.params[j]?=some t->args[j]?=some v->Value.okWide Tryz.prog W .any base t v) (hW:DataW.Whole enc Tryz.prog Tryz.f3.params.toList Rows.wholeSealedSpec.vars false W args.toList ds gs before): Calls Tryz.prog 3 args W λ e W'=>∃v,e=.returned v/\Rows.wholeSealedSpec.post enc Tryz.prog Tryz.f3 false true false false W args v W':=by
  have hval:=hval0;have hW':=hW;obtain ⟨p,q,hA0,hV,rfl,hfz,hnd⟩:=hW;have hA:DataW.TrodAll enc Tryz.prog W 0 (λ _=>true) true Tryz.f3.params.toList args.toList ds p:=hA0;rw [Tryz.params3] at hA hval;obtain ⟨v0,vs0,d0,ds0,p0,q0,hargs,rfl,rfl,h0,r0⟩:=trodAll_cons hA;obtain ⟨v1,vs1,d1,ds1,p1,q1,rfl,rfl,rfl,h1,r1⟩:=trodAll_cons r0;obtain ⟨rfl,rfl,rfl⟩:=trodAll_nil r1;obtain rfl:args=#[v0,v1]:=by cases args; simp_all
  obtain ⟨rfl,rfl⟩:=trodVars_none hV;have hcall:Calls Tryz.prog 3 #[v0,v1] W λ e W'=>e=.returned (.bool true)/\Below W.heap.size W W':=by
    obtain ⟨l,hl,hin⟩:=A1C (hval 0 _ v0 rfl rfl) h0;obtain ⟨k2,rfl,rfl,rfl,_⟩:=open_int Tryz.underlying3 (hval 1 _ v1 rfl rfl) h1;exact Sa v0 k2 l W hl hin
  refine hcall.mono λ e W' ⟨he,bel⟩=>?_
  subst he;exact ⟨_,rfl,_,_,_, [],_, [],hW',trodAll_mk1 (shut_bool Tryz.underlying4 _),Ly A0f bel (by kernel_rfl) hA0,rfl,bel.frame _,λ h=>by cases h⟩
theorem lifted (os:Os) (started:os.Started) (H:Type) (enc:TypeId×Value->H): ReturnsInHanded {} Tryz.checked os 3 .any (Rows.wholeSealedSpec.pre6 enc Tryz.prog Tryz.f3 Rows.wholeSealedRow.domain false) (Rows.wholeSealedSpec.post enc Tryz.prog Tryz.f3 false true false false):=by
  refine returnsInHanded_of_change (C:=Tryz.checked) A4Z started (by kernel_rfl) Tryz.func3
    (ChangeSpec.witness6 (enc:=enc) (C:=Tryz.checked) false ⟨#[],#[.slice none 0 0,.int .i64 0], []⟩ 8 (by kernel_rfl) (by kernel_rfl) (by kernel_rfl) (by kernel_rfl)) ?_
  intro W base args ds gs before hval hW _ _;exact contract H enc W base args ds gs before hval hW
theorem over:Rows.wholeSealedRow.holds Tryz.pinned (OpenSpec.ofChange Rows.wholeSealedSpec):=
  OpenClaim.holds_of_wide 3 Tryz.f3 rfl rfl rfl rfl rfl rfl rfl ⟨rfl,rfl,rfl,rfl,rfl⟩ rfl rfl rfl rfl rfl (by kernel_rfl) Tryz.func3 (by kernel_rfl)
    (of_decide_eq_true (by kernel_rfl)) (by unfold Func.isWrapper; first | (rw [if_pos (by decide+kernel)]; kernel_rfl) | (rw [if_neg (by decide+kernel)]; exact ⟨rfl,rfl⟩))
    (λ os started H enc _=>lifted os started H enc)
theorem proved:Rows.WholeSealedSaid:=over
end Go.Proofs.YtbmjjfhpllpiaaaGreat.wholeSealed
