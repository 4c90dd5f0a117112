/- Texts of this proof, one behind the other: Q0, RowBase, RegInv, Bytes, Tv, OctetPut, OctetEq, Octet, DerSpec, Cut, DerSize. -/
import Derived.Test.YtcnfaghcjlhoiaaGreatWeA1
import Derived.Maps.RangeWalk
import Derived.Test.YtcnfaghcjlhoiaaGreatRows
import Derived.WalkKit
import Derived.ProofKit
import Derived.OpenShut
import Derived.ShutString
import Derived.ChangeOld
import Derived.Below
import Derived.JoinedCond
import Derived.OrdersHeld
import Derived.Outline
set_option linter.unusedSimpArgs false
set_option linter.unusedVariables false
set_option maxRecDepth 100000
set_option maxHeartbeats 16000000
open Go.Proofs.Tryz renaming prog -> aA, func269 -> aB, ntmps269 -> aC, underlying27 -> aK, func120 -> aM, ntmps120 -> aN, func156 -> bA, ntmps156 -> bB
open Array renaming getD_eq_getD_getElem? -> aD, getElem?_setIfInBounds_ne -> aQ, getElem?_eq_getElem -> aR
open List renaming replicate -> aE, range -> aG, length_drop -> aH, length_take -> aI, drop_eq_getElem_cons -> aJ, getElem?_eq_getElem -> aL, take_zero -> aO, drop_zero -> aP, countP_eq_length_filter -> aS, countP_cons -> aT, all_eq_true -> aU, mem_range -> aV, take_of_length_le -> aX, getElem?_drop -> aY, take_succ_eq_append_getElem -> aZ
open Bool renaming and_eq_true -> aF, false_or -> aW
open Go renaming Value -> bC, World -> bD, TypeId -> bE, Calls -> bF, IntKind -> bG, Program -> bH, Oper -> bI
namespace Go.Proofs.YtcnfaghcjlhoiaaGreat
open Go.RowKit
section
theorem zV {P:bH} {ops:Array bI} {rest:List bI} {a a':Act} {w:bD} {Q:Exit->Act->bD->Prop} {d:Nat} {v:bC} {op:Op} {ty:bE} {pos:String} {aft:Array Edge} {g:Option (Nat×Bool)} (h:wpList P ops Q rest a' w) (hr:(execOp a.eval ⟨some d,op,ty,pos,aft,g⟩).run P w=.ok (.value v) w:=by (go_simp; try rfl)) (hw:Region.wanted ⟨some d,op,ty,pos,aft,g⟩ (yielded ops a.tmps)=true:=by rfl) (ha:a.put (some d) v=a':=by (go_frame; rfl)):wpList P ops Q (⟨some d,op,ty,pos,aft,g⟩::rest) a w:=by
 subst ha;exact Nt d v hw hr h
structure Zt (l:List Res) (p:Nat):Type where
structure Zo (l:List Res) (p:Nat) (cs:List bC) (T:bE):Type where
 m:Res.blk p cs T∈l
instance {l:List Res} {p:Nat} {cs:List bC} {T:bE} {r:Res} [h:HAdd (Zt l p) Unit (Zo l p cs T)]:HAdd (Zt (r::l) p) Unit (Zo (r::l) p cs T):=⟨λ _ _=>⟨.tail _ (h.hAdd ⟨⟩ ()).m⟩⟩
instance {l:List Res} {p:Nat} {cs:List bC} {T:bE} :HAdd (Zt (.blk p cs T::l) p) Unit (Zo (.blk p cs T::l) p cs T):=⟨λ _ _=>⟨.head _⟩⟩
theorem Ad.zB {W:bD} {l:List Res} (h:Ad W l) (p:Nat) {cs:List bC} {T:bE} [z:HAdd (Zt l p) Unit (Zo l p cs T)]:Blk W p cs T:=h.blkOf (z.hAdd ⟨⟩ ()).m
theorem Ad.zc {W:bD} {l:List Res} (h:Ad W l) {p k:Nat} {v:bC} {cs:List bC} {T:bE} [z:HAdd (Zt l p) Unit (Zo l p cs T)] (e:cs[k]?=some v:=by (first | rfl | exact Hq.o (by assumption))):W.cell? ⟨p,k,none⟩=some v:=((h.zB p).cell k).trans e
theorem Ad.zca {W:bD} {l:List Res} (h:Ad W l) {p:Nat} {cs:List bC} {T:bE} [z:HAdd (Zt l p) Unit (Zo l p cs T)]:Ao W p 0 cs:=(h.zB p).cellsAll
theorem Ad.zr {W:bD} {l:List Res} (h:Ad W l) {p o n:Nat} {vs cs:List bC} {T:bE} [z:HAdd (Zt l p) Unit (Zo l p cs T)] (e:(cs.drop o).take n=vs:=by exact Hq.o (by assumption)):Ao W p o vs:=e▸(h.zB p).cellsAt o n
theorem Ad.zrl {W:bD} {l:List Res} (h:Ad W l) {p o:Nat} {vs cs:List bC} {T:bE} [z:HAdd (Zt l p) Unit (Zo l p cs T)] (e:(cs.drop o).take vs.length=vs:=by rfl):Ao W p o vs:=by
 have:=(h.zB p).cellsAt o vs.length;rw [e] at this;exact this
section
variable {P:bH} {md:Region.Mode} {ops:Array bI} {Q:Exit->Act->bD->Prop} {ks0:List Nat} {T:List Bool->bD->Prop}
theorem zTk (i:Nat) (ks:List Nat) {d:Nat} {g:Option (Nat×Bool)} {v:bC} {op:Op} {ty:bE} {pos:String} {aft:Array Edge} {fuel:Nat} {listed:Array Bool} {a a':Act} {w:bD} (h:Dd P md ops Q ks0 T fuel (listed.setIfInBounds i true) a' w) (hi:ops[i]?=some ⟨some d,op,ty,pos,aft,g⟩:=by rfl) (hr:∀l w,(∀k∈ks,l.getD k true=false)->T (Er ks0 l) w->(execOp a.eval ⟨some d,op,ty,pos,aft,g⟩).run P w=.ok (.value v) w:=by (intro _ _ _ hW; first | (go_simp; try rfl; done) | ((try dsimp only at hW); go_simp; try rfl))) (hb:(Region.noSelect ops&&Region.free md ops listed i&&(Region.ready md ops listed).contains i&&(!ks0.contains i)&&ks.all λ k=>Region.waitsFor md ops k i&& !listed.getD k true)=true:=by kernel_rfl) (hQ:∀c a w,Q (.panic c) (a.put (some d) v) w->Q (.panic c) a w:=by exact λ _ _ _ h=>h) (hw:Region.wanted ⟨some d,op,ty,pos,aft,g⟩ (yielded ops a.tmps)=true:=by rfl) (ha:a.put (some d) v=a':=by (go_frame; rfl)) (hS:T (Er ks0 listed) w:=by (first | exact trivial | exact HS.o | ((try dsimp only); repeat' (first | exact trivial | exact Ad.zc HC.o | exact Ad.zpa HC.o | exact Ad.zca HC.o | exact Ad.zr HC.o | exact Ad.zrl HC.o | apply And.intro | (intro hb; exact absurd hb (by decide)) | intro _)))):Dd P md ops Q ks0 T (fuel+1) listed a w:=by
 subst ha;exact tkJ i d g v ks hi hb hQ hw hr hS h
theorem zT (i:Nat) {d:Nat} {g:Option (Nat×Bool)} {v:bC} {op:Op} {ty:bE} {pos:String} {aft:Array Edge} {fuel:Nat} {listed:Array Bool} {a a':Act} {w:bD} (h:Dd P md ops Q ks0 T fuel (listed.setIfInBounds i true) a' w) (hi:ops[i]?=some ⟨some d,op,ty,pos,aft,g⟩:=by rfl) (hr:∀l w,(∀k∈([]:List Nat),l.getD k true=false)->T (Er ks0 l) w->(execOp a.eval ⟨some d,op,ty,pos,aft,g⟩).run P w=.ok (.value v) w:=by (intro _ _ _ hW; first | (go_simp; try rfl; done) | ((try dsimp only at hW); go_simp; try rfl))) (hb:(Region.noSelect ops&&Region.free md ops listed i&&(Region.ready md ops listed).contains i&&(!ks0.contains i)&&([]:List Nat).all λ k=>Region.waitsFor md ops k i&& !listed.getD k true)=true:=by kernel_rfl) (hQ:∀c a w,Q (.panic c) (a.put (some d) v) w->Q (.panic c) a w:=by exact λ _ _ _ h=>h) (hw:Region.wanted ⟨some d,op,ty,pos,aft,g⟩ (yielded ops a.tmps)=true:=by rfl) (ha:a.put (some d) v=a':=by (go_frame; rfl)) (hS:T (Er ks0 listed) w:=by (first | exact trivial | exact HS.o | ((try dsimp only); repeat' (first | exact trivial | exact Ad.zc HC.o | exact Ad.zpa HC.o | exact Ad.zca HC.o | exact Ad.zr HC.o | exact Ad.zrl HC.o | apply And.intro | (intro hb; exact absurd hb (by decide)) | intro _)))):Dd P md ops Q ks0 T (fuel+1) listed a w:=by
 subst ha;exact tkJ i d g v [] hi hb hQ hw hr hS h
theorem zS (i:Nat) {d:Nat} {g:Option (Nat×Bool)} {op:Op} {ty:bE} {pos:String} {aft:Array Edge} {fuel:Nat} {listed:Array Bool} {a a':Act} {w:bD} (h:Dd P md ops Q ks0 T fuel (listed.setIfInBounds i true) a' w) (hi:ops[i]?=some ⟨some d,op,ty,pos,aft,g⟩:=by rfl) (hb:(Region.noSelect ops&&Region.free md ops listed i&&(Region.ready md ops listed).contains i&& !ks0.contains i)=true:=by kernel_rfl) (hQ:∀c a w,Q (.panic c) (a.put (some d) undef) w->Q (.panic c) a w:=by exact λ _ _ _ h=>h) (hw:Region.wanted ⟨some d,op,ty,pos,aft,g⟩ (yielded ops a.tmps)=false:=by rfl) (ha:a.put (some d) undef=a':=by (go_frame; rfl)) (hS:T (Er ks0 listed) w:=by (first | exact trivial | exact HS.o | ((try dsimp only); repeat' (first | exact trivial | exact Ad.zc HC.o | exact Ad.zpa HC.o | exact Ad.zca HC.o | exact Ad.zr HC.o | exact Ad.zrl HC.o | apply And.intro | (intro hb; exact absurd hb (by decide)) | intro _)))):Dd P md ops Q ks0 T (fuel+1) listed a w:=by
 subst ha;exact skJ i d g hi hb hQ hw hS h
theorem zC {fuel:Nat} {listed:Array Bool} {a:Act} {w:bD} {i:Nat} {rs:List Nat} {d:Option Tmp} {g:Option (Nat×Bool)} {op:Op} {ty:bE} {pos:String} {aft:Array Edge} (h:∀K':Act->bD->Prop,(∀a w,T (Er ks0 (listed.setIfInBounds i true)) w->Dd P md ops Q ks0 T fuel (listed.setIfInBounds i true) a w->K' a w)->if Region.wanted ⟨d,op,ty,pos,aft,g⟩ (yielded ops a.tmps)=true then bI.wp P ⟨d,op,ty,pos,aft,g⟩ a w K' Q else K' (a.put (bI.dst ⟨d,op,ty,pos,aft,g⟩) undef) w) (hs:H9 P md ops Q ks0 T fuel listed a w rs) (ho:ops[i]?=some ⟨d,op,ty,pos,aft,g⟩:=by rfl):H9 P md ops Q ks0 T fuel listed a w (i::rs):=A7f ho h hs
theorem zJ (i:Nat) {fuel:Nat} {listed:Array Bool} {a:Act} {w:bD} {d:Option Tmp} {g:Option (Nat×Bool)} {op:Op} {ty:bE} {pos:String} {aft:Array Edge} (h:∀K':Act->bD->Prop,(∀a w,T (Er ks0 (listed.setIfInBounds i true)) w->Dd P md ops Q ks0 T fuel (listed.setIfInBounds i true) a w->K' a w)->if Region.wanted ⟨d,op,ty,pos,aft,g⟩ (yielded ops a.tmps)=true then bI.wp P ⟨d,op,ty,pos,aft,g⟩ a w K' Q else K' (a.put (bI.dst ⟨d,op,ty,pos,aft,g⟩) undef) w) (ho:ops[i]?=some ⟨d,op,ty,pos,aft,g⟩:=by rfl) (hr:Region.ready md ops listed= [i]:=by decide+kernel):Dd P md ops Q ks0 T (fuel+1) listed a w:=Ca hr (by simp) (A7f ho h En)
end
section
variable {P:bH} {md:Region.Mode} {ops:Array bI} {Q:Exit->Act->bD->Prop} {S:bD->Prop}
theorem zH (i:Nat) {d:Nat} {g:Option (Nat×Bool)} {v:bC} {op:Op} {ty:bE} {pos:String} {aft:Array Edge} {fuel:Nat} {listed:Array Bool} {a a':Act} {w:bD} (h:wpAnyH P md ops Q S fuel (listed.setIfInBounds i true) a' w) (hi:ops[i]?=some ⟨some d,op,ty,pos,aft,g⟩:=by rfl) (hr:∀w,S w->(execOp a.eval ⟨some d,op,ty,pos,aft,g⟩).run P w=.ok (.value v) w:=by (intro _ hW; go_simp; try rfl)) (hb:(Region.noSelect ops&&Region.free md ops listed i&&(Region.ready md ops listed).contains i)=true:=by kernel_rfl) (hQ:∀c a w,Q (.panic c) (a.put (some d) v) w->Q (.panic c) a w:=by exact λ _ _ _ h=>h) (hw:Region.wanted ⟨some d,op,ty,pos,aft,g⟩ (yielded ops a.tmps)=true:=by rfl) (ha:a.put (some d) v=a':=by (go_frame; rfl)) (hS:S w:=by (first | exact trivial | exact GV.refl _ _ _ _ | assumption)):wpAnyH P md ops Q S (fuel+1) listed a w:=by
 subst ha;exact tkH i d g v hi hb hQ hw hr hS h
end
theorem zw (d:Nat) {P:bH} {ops:Array bI} {rest:List bI} {a:Act} {w:bD} {Q:Exit->Act->bD->Prop} {op:Op} {ty:bE} {pos:String} {aft:Array Edge} {g:Option (Nat×Bool)} (h:wpList P ops Q (⟨some d,op,ty,pos,aft,g⟩::rest) a w):wpList P ops Q (⟨some d,op,ty,pos,aft,g⟩::rest) a w:=h
theorem zws (x y:Nat) {P:bH} {ops:Array bI} {rest:List bI} {a:Act} {w:bD} {Q:Exit->Act->bD->Prop} {t ty:bE} {pos:String} {aft:Array Edge} {g:Option (Nat×Bool)} (h:wpList P ops Q (⟨none,.store t (.tmp x) (.tmp y),ty,pos,aft,g⟩::rest) a w):wpList P ops Q (⟨none,.store t (.tmp x) (.tmp y),ty,pos,aft,g⟩::rest) a w:=h
theorem zq {K:Act->bD->Prop} {R:Act->bD->Prop} {Tp:bD->Prop} {a a':Act} {w:bD} (hK:∀a w,Tp w->R a w->K a w) (h:R a' w) (ha:a=a':=by (first | (go_frame; rfl) | rfl)) (hS:Tp w:=by (first | exact trivial | exact HS.o | ((try dsimp only); repeat' (first | exact trivial | exact Ad.zc HC.o | exact Ad.zpa HC.o | exact Ad.zca HC.o | exact Ad.zr HC.o | exact Ad.zrl HC.o | apply And.intro | (intro hb; exact absurd hb (by decide)) | intro _)))):K a w:=by
 subst ha;exact hK _ _ hS h
theorem zqp {K:Act->bD->Prop} {R:Act->bD->Prop} {a a':Act} {w:bD} (hK:∀a w,R a w->K a w) (h:R a' w) (ha:a=a':=by (first | (go_frame; rfl) | rfl)):K a w:=by
 subst ha;exact hK _ _ h
theorem zD {P:bH} {md:Region.Mode} {ops:Array bI} {Q:Exit->Act->bD->Prop} {ks0:List Nat} {T:List Bool->bD->Prop} {fuel:Nat} {listed:Array Bool} {a:Act} {w:bD} (h:Q .normal a w) (hr:Region.ready md ops listed= []:=by decide+kernel):Dd P md ops Q ks0 T fuel listed a w:=A8u hr h fuel
theorem zL {P:bH} {ops:Array bI} {rest:List bI} {a a':Act} {w:bD} {Q:Exit->Act->bD->Prop} {d:Nat} {v:bC} {lt:bE} {x:Operand} {p k:Nat} {ty:bE} {pos:String} {aft:Array Edge} {g:Option (Nat×Bool)} (h:wpList P ops Q rest a' w) (hx:a.eval x=.pointer (some ⟨p,k,none⟩):=by rfl) (hc:w.cell? ⟨p,k,none⟩=some v:=by (first | exact Ad.zc HC.o | exact Ad.zpa HC.o)) (hr:w.cell? ⟨p,k,none⟩=some v->(execOp a.eval ⟨some d,.load lt x,ty,pos,aft,g⟩).run P w=.ok (.value v) w:=by (intro c; go_simp; try rfl)) (hw:Region.wanted ⟨some d,.load lt x,ty,pos,aft,g⟩ (yielded ops a.tmps)=true:=by rfl) (ha:a.put (some d) v=a':=by (go_frame; rfl)):wpList P ops Q (⟨some d,.load lt x,ty,pos,aft,g⟩::rest) a w:=by
 subst ha;exact Nt d v hw (hr hc) h
theorem zLa {P:bH} {ops:Array bI} {rest:List bI} {a a':Act} {w:bD} {Q:Exit->Act->bD->Prop} {d:Nat} {lt:bE} {m:Nat} (hT:A3 P lt m) {cs:List bC} {x:Operand} {p k:Nat} {ty:bE} {pos:String} {aft:Array Edge} {g:Option (Nat×Bool)} (h:wpList P ops Q rest a' w) (hx:a.eval x=.pointer (some ⟨p,k,none⟩):=by rfl) (hc:Ao w p k cs:=by (first | exact Ad.zca HC.o | exact Ad.zr HC.o | exact Ad.zrl HC.o)) (hm:cs.length=m:=by (first | rfl | exact Hq.o (by assumption))) (hw:Region.wanted ⟨some d,.load lt x,ty,pos,aft,g⟩ (yielded ops a.tmps)=true:=by rfl) (ha:a.put (some d) (.agg cs.toArray)=a':=by (go_frame; rfl)):wpList P ops Q (⟨some d,.load lt x,ty,pos,aft,g⟩::rest) a w:=by
 subst ha;exact Nt d _ hw (ldJ hT hx hm hc) h
theorem zG {P:bH} {ops:Array bI} {Q:Exit->Act->bD->Prop} (T:List Bool->bD->Prop) {id:Nat} {a:Act} {w:bD} {l:List Res} (hH:Ad w l) (h:∀W,Ad W l->Dd P .any ops Q [] T ops.size (Array.replicate ops.size false) a W) (hm:P.follows .mixedOrders=true:=by kernel_rfl):(Code.region id ops true).wp P Q a w:=
 B5 [] T hm (h _ hH.drew)
structure Zi (i:Nat) (l:List Res):Type where
structure Zj (i:Nat) (l:List Res) (x:Res) (r:List Res):Type where
 p:l.Perm (x::r)
instance {x:Res} {l:List Res} :HAdd (Zi 0 (x::l)) Unit (Zj 0 (x::l) x l):=⟨λ _ _=>⟨.refl _⟩⟩
instance {i:Nat} {x y:Res} {l r:List Res} [h:HAdd (Zi i l) Unit (Zj i l x r)]:HAdd (Zi (i+1) (y::l)) Unit (Zj (i+1) (y::l) x (y::r)):=⟨λ _ _=>⟨((h.hAdd ⟨⟩ ()).p.cons y).trans (.swap _ _ _)⟩⟩
structure Zp (is:List Nat) (l:List Res):Type where
structure Zq (is:List Nat) (l l':List Res):Type where
 p:l.Perm l'
instance {l:List Res} :HAdd (Zp [] l) Unit (Zq [] l l):=⟨λ _ _=>⟨.refl _⟩⟩
instance {i:Nat} {is:List Nat} {x:Res} {l r l':List Res} [h:HAdd (Zi i l) Unit (Zj i l x r)] [k:HAdd (Zp is r) Unit (Zq is r l')]:HAdd (Zp (i::is) l) Unit (Zq (i::is) l (x::l')):=⟨λ _ _=>⟨(h.hAdd ⟨⟩ ()).p.trans ((k.hAdd ⟨⟩ ()).p.cons x)⟩⟩
theorem Ad.zP {W:bD} {l l':List Res} (h:Ad W l) (is:List Nat) [z:HAdd (Zp is l) Unit (Zq is l l')]:Ad W l':=h.perm (z.hAdd ⟨⟩ ()).p
section
variable {P:bH} {ops:Array bI} {o:bI} {a:Act} {w:bD} {K:Act->bD->Prop} {Q:Exit->Act->bD->Prop} {E:Prop} {l:List Res}
theorem zN (f:Nat->bC) (cs:List bC) (T:bE) (hC:Ad w l) (h:∀b w',Hq (Ad w' (.blk b cs T::l))->K (a.put o.dst (f b)) w') (hgd:o.guard=none:=by rfl)
 (hr:(execOp a.eval o).run P w=.ok (.value (f w.heap.size)) (w.alloc (.cells cs.toArray T)):=by (go_simp; try rfl)):if Region.wanted o (yielded ops a.tmps)=true then bI.wp P o a w K Q else E:=
 A0C f cs T hgd hr hC λ b w' h2=>h b w' (Ab h2)
theorem zNp (cs:List bC) (T:bE) (hC:Ad w l) (h:∀b w',Hq (Ad w' (.blk b cs T::l))->K (a.put o.dst (.pointer (some ⟨b,0,none⟩))) w') (hgd:o.guard=none:=by rfl)
 (hr:(execOp a.eval o).run P w=.ok (.value (.pointer (some ⟨w.heap.size,0,none⟩))) (w.alloc (.cells cs.toArray T)):=by (go_simp; try rfl)):if Region.wanted o (yielded ops a.tmps)=true then bI.wp P o a w K Q else E:=
 A0C (λ b=>.pointer (some ⟨b,0,none⟩)) cs T hgd hr hC λ b w' h2=>h b w' (Ab h2)
theorem zWo {x y:Operand} {ty:bE} {m g:Nat} {vs cur:List bC} {T:bE} (hT:A3 P ty m) (h1:∀v∈vs,v.oneCell'=true) (hH:Ad w (.blk g cur T::l)) (h:∀w',Hq (Ad w' (.blk g vs T::l))->K (a.put o.dst undef) w') (hgd:o.guard=none:=by rfl) (ho:o.op=.store ty x y:=by rfl)
 (hx:a.eval x=.pointer (some ⟨g,0,none⟩):=by rfl) (hy:a.eval y=.agg vs.toArray:=by rfl) (hm:vs.length=m:=by rfl) (hl:cur.length=m:=by rfl):if Region.wanted o (yielded ops a.tmps)=true then bI.wp P o a w K Q else E:=
 Ea hgd x y hT ho hx hy hm hH.blk0 (by omega) h1 λ w' hd kd=>h w' (Ab (hH.stW hd kd hl))
theorem zW {x y:Operand} {ty:bE} {m g:Nat} {vs cur:List bC} {T:bE} (hT:A3 P ty m) (hH:Ad w (.blk g cur T::l)) (h:∀w',Hq (Ad w' (.blk g vs T::l))->K (a.put o.dst undef) w') (hgd:o.guard=none:=by rfl) (ho:o.op=.store ty x y:=by rfl)
 (hx:a.eval x=.pointer (some ⟨g,0,none⟩):=by rfl) (hy:a.eval y=.agg vs.toArray:=by rfl) (h1:(vs.all λ v=>v.oneCell')=true:=by rfl) (hm:vs.length=m:=by rfl) (hl:cur.length=m:=by rfl):if Region.wanted o (yielded ops a.tmps)=true then bI.wp P o a w K Q else E:=
 zWo hT (λ v hv=>List.all_eq_true.1 h1 v hv) hH h hgd ho hx hy hm hl
theorem zWp {x y:Operand} {ty:bE} {m g off:Nat} {vs cur cs:List bC} {T:bE} (hT:A3 P ty m) (hH:Ad w (.blk g cur T::l)) (h:∀w',Hq (Ad w' (.blk g cs T::l))->K (a.put o.dst undef) w') (hgd:o.guard=none:=by rfl) (ho:o.op=.store ty x y:=by rfl)
 (hx:a.eval x=.pointer (some ⟨g,off,none⟩):=by rfl) (hy:a.eval y=.agg vs.toArray:=by rfl) (h1:(vs.all λ v=>v.oneCell')=true:=by rfl) (hm:vs.length=m:=by rfl) (hf:off+m<=cur.length:=by (first | decide | simp))
 (hc:cur.take off++vs++cur.drop (off+m)=cs:=by (simp only [Nat.reduceAdd,List.take_succ_cons,aO,List.drop_succ_cons,aP,List.cons_append,List.nil_append,List.append_nil,List.drop_nil]; rfl)):if Region.wanted o (yielded ops a.tmps)=true then bI.wp P o a w K Q else E:=by
 subst hc;exact Ea hgd x y hT ho hx hy hm hH.blk0 hf (λ v hv=>List.all_eq_true.1 h1 v hv) λ w' hd kd=>h w' (Ab (hH.reblk hd kd))
theorem zS1 {x y:Operand} {ty:bE} {g off:Nat} {v:bC} {cur cs:List bC} {T:bE} (hH:Ad w (.blk g cur T::l)) (h:∀w',Hq (Ad w' (.blk g cs T::l))->K (a.put o.dst undef) w') (hgd:o.guard=none:=by rfl) (ho:o.op=.store ty x y:=by rfl)
 (hx:a.eval x=.pointer (some ⟨g,off,none⟩):=by rfl) (hy:a.eval y=v:=by rfl) (hf:off<cur.length:=by (first | decide | simp)) (h1:v.oneCell'=true:=by rfl) (hc:cur.set off v=cs:=by (simp only [List.set_cons_zero,List.set_cons_succ]; rfl)) (hT:Pe P ty:=by exact Pe.mk (by kernel_rfl)):if Region.wanted o (yielded ops a.tmps)=true then bI.wp P o a w K Q else E:=by
 subst hc;exact Tg hgd x y hT ho hx hy hH.blk0 hf h1 λ w' hd kd=>h w' (Ab (hH.st1 hd kd))
end
end
end Go.Proofs.YtcnfaghcjlhoiaaGreat
namespace Go.Proofs.YtcnfaghcjlhoiaaGreat
open Go.ChangeShapes Go.WideShapes Go.ChangeAt Go.RowKit
theorem A7T:ownKnob Tryz.prog.godebug=none:=by kernel_rfl
theorem S4:laidOutB aA=true:=by kernel_rfl
theorem Na {H:Type} {enc:bE×bC->H} {P:bH} (hl:laidOutB P=true) {W W':bD} (hb:Below W.heap.size W W'):∀ {ts:List bE} {vs:List bC} {ds:List (DataW H)} {ps:List MemPlace}, (ts.all λ t=>P.readableRec t&&decide (t<P.types.size))=true->DataW.TrodAll enc P W 0 (λ _=>true) true ts vs ds ps-> DataW.TrodAll enc P W' 0 (λ b=>decide (b<W.heap.size)) true ts vs ds ps
 | [], [], [],ps,_,h=>h
 | t::ts,v::vs,d::ds,ps,hr,h=>by
  obtain ⟨p,q,h1,h2,rfl⟩:=h;simp only [List.all_cons,aF,decide_eq_true_eq] at hr;exact ⟨p,q,Below.trod hl hr.1.1 hr.1.2 h1 hb (by obtain ⟨m,hm⟩:=h1; exact DataW.trod_lt m _ _ _ hm),Na hl hb hr.2 h2,rfl⟩
 | [],_::_,_,_,_,h=>h.elim
 | [], [],_::_,_,_,h=>h.elim
 | _::_, [],_,_,_,h=>h.elim
 | _::_,_::_, [],_,_,h=>h.elim
end Go.Proofs.YtcnfaghcjlhoiaaGreat
namespace Go.Proofs.YtcnfaghcjlhoiaaGreat
section
structure Fr (a0 a:Act) (ds:List Nat):Prop where
 defers:a.defers=a0.defers
 size:a.tmps.size=a0.tmps.size
 same:∀s,s∉ds->a.tmps[s]?=a0.tmps[s]?
theorem Fr.refl (a:Act) (ds:List Nat):Fr a a ds:=⟨rfl,rfl,λ _ _=>rfl⟩
theorem Fr.eval {a0 a:Act} {ds:List Nat} (h:Fr a0 a ds) (s:Nat) (hs:ds.contains s=false):a.eval (.tmp s)=a0.eval (.tmp s):=by
 have h1:=h.same s (by simpa using hs);simp only [Act.eval];rw [aD,aD,h1]
theorem Fr.put {a0 a:Act} {ds:List Nat} (h:Fr a0 a ds) (d:Option Tmp) (v:bC) (hd:∀s,d=some s->s∈ds):Fr a0 (a.put d v) ds:=by
 cases d with
 | none=>exact h
 | some s=>
  refine ⟨h.defers,by simp [Act.put,h.size],λ t ht=>?_⟩;have hne:s≠t:=λ e=>ht (e▸hd s rfl)
  simp only [Act.put];rw [aQ hne];exact h.same t ht
section
variable (P:bH) (md:Region.Mode) (ops:Array bI) (Q:Exit->Act->bD->Prop) (S:bD->Prop) (G:bD->bD->Prop) (Post:Nat->bC->bD->Prop)
def Pn (i:Nat):Option Tmp:=(ops[i]?).bind (·.dst)
def Jg (i:Nat) (a:Act) (w:bD):Prop:=∃v,Post i v w/\∀s,Pn ops i=some s->a.tmps.getD s undef=v
def A5Y (listed0:Array Bool) (i d:Nat):Bool:=((ops[i]?).map λ o=>o.after.toList.any λ e=>Region.binds md e&&e.on==d).getD false&& !listed0.getD d true
def A4N (listed0:Array Bool) (ds:List Nat) (n:Nat):Bool:=
 listed0.size==ops.size&&((aG ops.size).all λ i=>((ops[i]?).map λ o=>o.after.all λ e=> !Region.binds md e||decide (e.on<i)).getD true)&&
 ((aG ops.size).all λ i=>listed0.getD i true||(match Pn ops i with | none=>true | some s=>ds.contains s&&decide (s<n)&&(aG ops.size).all λ j=>i==j||listed0.getD j true||Pn ops j !=some s))
def A4k (listed0:Array Bool) (ds:List Nat) (a0:Act) (w0:bD) (i:Nat):Prop:=
 ∀o,ops[i]?=some o->∀a w,Fr a0 a ds->G w0 w->S w->(∀d,A5Y md ops listed0 i d=true->Jg ops Post d a w)->∀K:Act->bD->Prop,(∀v w',G w w'->Post i v w'->K (a.put o.dst v) w')->
  if Region.wanted o (yielded ops a.tmps)=true then bI.wp P o a w K Q else K (a.put o.dst undef) w
end
theorem Q2 {l:Array Bool} {i:Nat} (h:l.getD i true=false):i<l.size:=by
 rcases Nat.lt_or_ge i l.size with h' | h'
 . exact h'
 . rw [aD,Array.getElem?_eq_none h'] at h
   cases h
theorem A2T {l:Array Bool} {i:Nat} (h:i<l.size) (b c:Bool):l.getD i b=l.getD i c:=by
 rw [aD,aD,aR h]; rfl
theorem Jx {l:Array Bool} {i j:Nat} (b:Bool):(l.setIfInBounds i true).getD j b=if i=j/\i<l.size then true else l.getD j b:=by
 rw [aD,Array.getElem?_setIfInBounds,aD];by_cases h:i=j
 . subst h;by_cases h2:i<l.size
   . simp [h2]
   . simp [h2]
 . simp [h]
def Pv (n:Nat) (l:Array Bool):Nat:=((aG n).filter λ i=> !l.getD i true).length
theorem A3H {n:Nat} {l:Array Bool} {i:Nat} (hi:l.getD i true=false) (hn:i<n):Pv n (l.setIfInBounds i true)<Pv n l:=by
 have hil:=Q2 hi;unfold Pv;rw [<-aS,<-aS];have key:∀L:List Nat,i∈L->L.countP (λ j=> !(l.setIfInBounds i true).getD j true)<L.countP (λ j=> !l.getD j true):=by
  have le:∀L:List Nat,L.countP (λ j=> !(l.setIfInBounds i true).getD j true)<=L.countP (λ j=> !l.getD j true):=λ L=>List.countP_mono_left (λ j _ h=>by
   rw [Jx] at h;split at h
   . simp at h
   . exact h)
  intro L hL;induction L with
  | nil=>simp at hL
  | cons x L ih=>
   rw [aT,aT];by_cases hx:i=x
   . subst hx;have h1:(!(l.setIfInBounds i true).getD i true)=false:=by rw [Jx,if_pos ⟨rfl,hil⟩]; rfl
     have h2:(!l.getD i true)=true:=by rw [hi]; rfl
     rw [h1,h2]
     have:=le L;rw [if_neg Bool.false_ne_true,if_pos rfl];omega
   . have h1:=ih ((List.mem_cons.1 hL).resolve_left hx);have h2:(l.setIfInBounds i true).getD x true=l.getD x true:=by rw [Jx,if_neg (λ h=>hx h.1)]
     rw [h2];omega
 exact key _ (List.mem_range.2 hn)
section
variable {P:bH} {md:Region.Mode} {ops:Array bI} {Q:Exit->Act->bD->Prop} {S:bD->Prop} {G:bD->bD->Prop} {Post:Nat->bC->bD->Prop}
theorem A4o (hr:∀w,G w w) (ht:∀a b c,G a b->G b c->G a c) (hS:∀w w',S w->G w w'->S w') (hst:∀i v w w',Post i v w->G w w'->Post i v w') {listed0:Array Bool} {ds:List Nat} {a0:Act} {w0:bD} (hok:A4N md ops listed0 ds a0.tmps.size=true) (hstep:∀i,i<ops.size->listed0.getD i true=false->A4k P md ops Q S G Post listed0 ds a0 w0 i) (hfin:∀a w,Fr a0 a ds->G w0 w->S w->(∀i,i<ops.size->listed0.getD i true=false->Jg ops Post i a w)->Q .normal a w) (hS0:S w0) {fuel:Nat} (hfuel:Pv ops.size listed0<=fuel): wpAnyH P md ops Q S fuel listed0 a0 w0:=by
 unfold A4N at hok;simp only [aF,beq_iff_eq,aU,aV] at hok;obtain ⟨⟨hsz,hback⟩,hdst⟩:=hok;have hd1:∀i s,i<ops.size->listed0.getD i true=false->Pn ops i=some s->s∈ds/\s<a0.tmps.size/\∀j,j<ops.size->listed0.getD j true=false->i≠j->Pn ops j≠some s:=by
  intro i s hi hl hs;have h:=hdst i hi;rw [hl,hs] at h;simp only [aW,aF,List.contains_iff_mem,decide_eq_true_eq,aU,aV,Bool.or_eq_true,beq_iff_eq,bne_iff_ne] at h;refine ⟨h.1.1,h.1.2,λ j hj hjl hne hjs=>?_⟩;rcases h.2 j hj with (h' | h') | h'
  . exact hne h'
  . rw [hjl] at h'; cases h'
  . exact h' hjs
 suffices hh:∀(fuel:Nat) (listed:Array Bool) (a:Act) (w:bD),listed.size=ops.size->(∀i,listed0.getD i true=true->listed.getD i true=true)->Pv ops.size listed<=fuel->Fr a0 a ds->G w0 w->S w->
  (∀i,i<ops.size->listed0.getD i true=false->listed.getD i true=true->Jg ops Post i a w)->wpAnyH P md ops Q S fuel listed a w from
  hh fuel listed0 a0 w0 hsz (λ _ h=>h) hfuel (Fr.refl _ _) (hr _) hS0 (λ i _ h0 h1=>by rw [h0] at h1; cases h1)
 have allL:∀(listed:Array Bool),listed.size=ops.size->Region.ready md ops listed= []->∀j,j<ops.size->listed.getD j true=true:=by
  intro listed hl hr j;induction j using Nat.strongRecOn with
  | _ j ih=>
   intro hj
   cases hv:listed.getD j true with
   | true=>rfl
   | false=>
    exfalso
    have:j∈Region.ready md ops listed:=by
     refine mem_ready.2 ⟨hv,ops[j],by simp [hj],λ e he hbe=>?_⟩;have hb:=hback j hj;rw [aR hj] at hb;simp only [Option.map_some,Option.getD_some,Array.all_eq_true_iff_forall_mem] at hb;have hlt:=hb e he;rw [hbe] at hlt;simp only [Bool.not_true,aW,decide_eq_true_eq] at hlt;rw [A2T (by rw [hl]; omega) false true];exact ih e.on hlt (by omega)
    rw [hr] at this
    cases this
 intro fuel;induction fuel with
 | zero=>
  intro listed a w hl hsub hc hf hg hs hp;have hall:∀j,j<ops.size->listed.getD j true=true:=by
   intro j hj
   cases hv:listed.getD j true with
   | true=>rfl
   | false=>
    exfalso
    have:0<Pv ops.size listed:=by
     unfold Pv;exact List.length_pos_of_mem (a:=j) (List.mem_filter.2 ⟨List.mem_range.2 hj,by rw [hv]; rfl⟩)
    omega
  refine ⟨?_,hfin a w hf hg hs (λ i hi h0=>hp i hi h0 (hall i hi))⟩;rw [List.eq_nil_iff_forall_not_mem];intro j hj;have h1:=(mem_ready.1 hj).1;have h2:=hall j (by rw [<-hl]; exact Q2 h1);rw [h1] at h2
  cases h2
 | succ fuel ih=>
  intro listed a w hl hsub hc hf hg hs hp;refine ⟨λ hre=>hfin a w hf hg hs (λ i hi h0=>hp i hi h0 (allL listed hl hre i hi)),λ i hi=>?_⟩;obtain ⟨hiu,o,ho,hall⟩:=mem_ready.1 hi;have hin:i<ops.size:=by rw [<-hl]; exact Q2 hiu
  have hi0:listed0.getD i true=false:=by
   cases hv:listed0.getD i true with
   | false=>rfl
   | true=>rw [hsub i hv] at hiu; cases hiu
  have hdo:Pn ops i=o.dst:=by unfold Pn; rw [ho]; rfl
  have hK:∀v w',G w w'->Post i v w'->S w'/\wpAnyH P md ops Q S fuel (listed.setIfInBounds i true) (a.put o.dst v) w':=by
   intro v w' hgw hpv;have hs':=hS _ _ hs hgw;refine ⟨hs',ih _ _ _ (by simp [hl]) (λ j hj=>?_) (by have:=A3H hiu hin; omega) (hf.put _ _ (λ s hs=>(hd1 i s hin hi0 (hdo.trans hs)).1)) (ht _ _ _ hg hgw) hs' (λ j hj hj0 hjl=>?_)⟩
   . rw [Jx];split
     . rfl
     . exact hsub j hj
   . by_cases hij:i=j
     . subst hij;refine ⟨v,hpv,λ s hs=>?_⟩;have h1:=(hd1 i s hin hi0 hs).2.1;rw [hdo] at hs;rw [hs];simp only [Act.put];rw [aD,Array.getElem?_setIfInBounds_self_of_lt (by rw [hf.size]; exact h1)];rfl
     . rw [Jx,if_neg (λ h=>hij h.1)] at hjl;obtain ⟨u,hu,hus⟩:=hp j hj hj0 hjl;refine ⟨u,hst _ _ _ _ hu hgw,λ s hs=>?_⟩;have h1:=hus s hs
       cases hod:o.dst with
       | none=>exact h1
       | some t=>
        have hne:t≠s:=λ e=>(hd1 i t hin hi0 (hdo.trans hod)).2.2 j hj hj0 hij (by rw [hs,e])
        simp only [Act.put];rw [aD,aQ hne,<-aD];exact h1
  have hst1:=hstep i hin hi0 o ho a w hf hg hs (λ d hd=>by
   unfold A5Y at hd;rw [ho] at hd;simp only [Option.map_some,Option.getD_some,aF,List.any_eq_true,beq_iff_eq,Bool.not_eq_true'] at hd;obtain ⟨⟨e,he,hb,rfl⟩,hd0⟩:=hd;have he:e∈o.after:=by simpa using he
   have hlt:e.on<ops.size:=by rw [<-hsz]; exact Q2 hd0
   exact hp e.on hlt hd0 (by rw [<-A2T (by rw [hl]; exact hlt) false true]; exact hall e he hb)) (λ a' w'=>S w'/\wpAnyH P md ops Q S fuel (listed.setIfInBounds i true) a' w') hK
  unfold wpOp;simp only [ho];split
  . rename_i hw;rw [if_pos hw] at hst1;exact .inl hst1
  . rename_i hw;rw [if_neg hw] at hst1;exact hst1
end
end
end Go.Proofs.YtcnfaghcjlhoiaaGreat
namespace Go.Proofs.YtcnfaghcjlhoiaaGreat
open Go.RowKit
theorem D8:Cp aA 27 5 1 1 (.int .u8 0):=by
 refine Cp.mk aK ?_ rfl (by decide)
 kernel_rfl
theorem A6p (w:bD) (n:Nat) (C:Int) (hC:C=n) (hn:n<=281474976710656): (Instr.makeSlice 27 (.int .i64 C) (.int .i64 C)).run aA w=.ok (.slice (some ⟨w.heap.size,0,none⟩) n n) (w.alloc (.cells (aE n (.int .u8 0)).toArray 5)):=by
 obtain ⟨ht,i,hi,hz,hsize,hby,hzs,hsz⟩:=D8;subst hC;rw [run_make w _ _ i _ ht hi hz .i64 .i64 n n (by omega) (Int.le_refl _) (by rw [hby]; omega) (by omega),hsize];simp only [Int.toNat_natCast,Nat.mul_one];rw [<-toList_madeCells_one];rfl
inductive Tv where
 | mk (kind tag:Int) (n:Nat) (b:Aa) (l:List Tv)
def Tv.kind:Tv->Int | .mk k _ _ _ _=>k
def Tv.tag:Tv->Int | .mk _ t _ _ _=>t
def Tv.n:Tv->Nat | .mk _ _ n _ _=>n
def Tv.b:Tv->Aa | .mk _ _ _ b _=>b
def Tv.l:Tv->List Tv | .mk _ _ _ _ l=>l
def Tv.zero:Tv:=.mk 0 0 0 [] []
mutual
/--The five cells of a value; F:the blocks that its rows may lie in. -/
def TvF (w:bD) (F:Nat->Prop):Tv->List bC->Prop
 | .mk k t n b l,cs=>∃(bv lv:bC) (rows:List bC),cs= [.int .i64 k,.int .i64 t,.int .u64 (n:Int),bv,lv]/\Bs w bv b/\(0<b.length->∀x,bv.ownBlock=some x->F x)/\
  Sl w 5 lv l.length rows/\(0<l.length->∀x,lv.ownBlock=some x->F x)/\Db w F l rows
def Db (w:bD) (F:Nat->Prop):List Tv->List bC->Prop
 | [],cs=>cs= []
 | x::l,cs=>∃r rs,cs=r++rs/\TvF w F x r/\Db w F l rs
end
theorem TvF.length {w:bD} {F:Nat->Prop} :∀ {x:Tv} {cs:List bC},TvF w F x cs->cs.length=5
 | .mk _ _ _ _ _,cs,h=>by
  obtain ⟨bv,lv,rows,rfl,_⟩:=h;rfl
theorem TvF.one {w:bD} {F:Nat->Prop} :∀ {x:Tv} {cs:List bC},TvF w F x cs->∀u∈cs,u.oneCell'=true
 | .mk _ _ _ _ _,cs,h=>by
  obtain ⟨bv,lv,rows,rfl,hb,_,hl,_⟩:=h;obtain ⟨a,c,e,_⟩:=hb.form;obtain ⟨a2,c2,e2,_⟩:=hl.form;subst e e2;intro u hu;simp only [List.mem_cons,List.not_mem_nil,or_false] at hu;rcases hu with rfl | rfl | rfl | rfl | rfl <;> rfl
mutual
theorem TvF.keep' {w w':bD} {F G S:Nat->Prop} (hk:Ai S w w') (hs:∀b,F b->b<w.heap.size->¬S b) (hg:∀b,F b->G b):∀(x:Tv) (cs:List bC),TvF w F x cs->TvF w' G x cs
 | .mk k t n b l,cs,h=>by
  obtain ⟨bv,lv,rows,e,h1,h2,h3,h4,h5⟩:=h;exact ⟨bv,lv,rows,e,Sl.keepF h1 hk h2 hs,λ hp x hx=>hg x (h2 hp x hx),Sl.keepF h3 hk h4 hs,λ hp x hx=>hg x (h4 hp x hx),Db.keep' hk hs hg l rows h5⟩
theorem Db.keep' {w w':bD} {F G S:Nat->Prop} (hk:Ai S w w') (hs:∀b,F b->b<w.heap.size->¬S b) (hg:∀b,F b->G b):∀(l:List Tv) (cs:List bC),Db w F l cs->Db w' G l cs
 | [],cs,h=>h
 | x::l,cs,h=>by
  obtain ⟨r,rs,e,h1,h2⟩:=h;exact ⟨r,rs,e,TvF.keep' hk hs hg x r h1,Db.keep' hk hs hg l rs h2⟩
end
theorem TvF.below {w w':bD} {F:Nat->Prop} {x:Tv} {cs:List bC} (h:TvF w F x cs) (hb:Below w.heap.size w w'):TvF w' F x cs:=
 TvF.keep' (Ai.of_below hb) (λ _ _ hl hs=>by omega) (λ _ h=>h) x cs h
theorem Db.below {w w':bD} {F:Nat->Prop} {l:List Tv} {cs:List bC} (h:Db w F l cs) (hb:Below w.heap.size w w'):Db w' F l cs:=
 Db.keep' (Ai.of_below hb) (λ _ _ hl hs=>by omega) (λ _ h=>h) l cs h
theorem TvF.keep {w w':bD} {F S:Nat->Prop} {x:Tv} {cs:List bC} (h:TvF w F x cs) (hk:Ai S w w') (hs:∀b,F b->b<w.heap.size->¬S b):TvF w' F x cs:=
 TvF.keep' hk hs (λ _ h=>h) x cs h
theorem Db.keep {w w':bD} {F S:Nat->Prop} {l:List Tv} {cs:List bC} (h:Db w F l cs) (hk:Ai S w w') (hs:∀b,F b->b<w.heap.size->¬S b):Db w' F l cs:=
 Db.keep' hk hs (λ _ h=>h) l cs h
theorem TvF.mono {w:bD} {F G:Nat->Prop} {x:Tv} {cs:List bC} (h:TvF w F x cs) (hg:∀b,F b->G b):TvF w G x cs:=
 TvF.keep' (Ai.refl (λ _=>False) w) (λ _ _ _ h=>h) hg x cs h
theorem Db.mono {w:bD} {F G:Nat->Prop} {l:List Tv} {cs:List bC} (h:Db w F l cs) (hg:∀b,F b->G b):Db w G l cs:=
 Db.keep' (Ai.refl (λ _=>False) w) (λ _ _ _ h=>h) hg l cs h
theorem Db.length {w:bD} {F:Nat->Prop} :∀ {l:List Tv} {cs:List bC},Db w F l cs->cs.length=l.length*5
 | [],cs,h=>by rw [show cs= [] from h]; rfl
 | x::l,cs,h=>by
  obtain ⟨r,rs,rfl,h1,h2⟩:=h;rw [List.length_append,h1.length,Db.length h2,List.length_cons];omega
theorem Db.snoc {w:bD} {F:Nat->Prop} :∀ {l:List Tv} {cs:List bC} {x:Tv} {r:List bC},Db w F l cs->TvF w F x r->Db w F (l++ [x]) (cs++r)
 | [],cs,x,r,h,hx=>by
  rw [show cs= [] from h];exact ⟨r, [],by simp,hx,rfl⟩
 | y::l,cs,x,r,h,hx=>by
  obtain ⟨r1,rs,rfl,h1,h2⟩:=h;exact ⟨r1,rs++r,by simp,h1,Db.snoc h2 hx⟩
theorem Db.at_ {w:bD} {F:Nat->Prop} :∀ {l:List Tv} {cs:List bC},Db w F l cs->∀(k:Nat) (hk:k<l.length),TvF w F l[k] ((cs.drop (k*5)).take 5)
 | [],cs,h,k,hk=>by simp at hk
 | x::l,cs,h,0,hk=>by
  obtain ⟨r,rs,rfl,h1,h2⟩:=h;rw [Nat.zero_mul,aP,List.take_append_of_le_length (by rw [h1.length]; exact Nat.le_refl _),aX (by rw [h1.length]; exact Nat.le_refl _)];exact h1
 | x::l,cs,h,k+1,hk=>by
  obtain ⟨r,rs,rfl,h1,h2⟩:=h;rw [show (k+1)*5=r.length+k*5 by rw [h1.length]; omega,List.drop_length_add_append];exact Db.at_ h2 k (by simpa using hk)
theorem Db.cells {w:bD} {F:Nat->Prop} {l:List Tv} {cs:List bC} (h:Db w F l cs) {b o cap:Nat} (hs:Sl w 5 (.slice (some ⟨b,o,none⟩) l.length cap) l.length cs) (k:Nat) (hk:k<l.length): ∃r,TvF w F l[k] r/\Ao w b (o+k*5) r:=by
 refine ⟨_,h.at_ k hk,λ j u hj=>?_⟩;obtain ⟨b',o',e,hc⟩:=hs.addr (by rw [hs.1]; omega);simp only [Option.some.injEq,Addr.mk.injEq,and_true] at e;obtain ⟨rfl,rfl⟩:=e;rw [List.getElem?_take] at hj;split at hj
 . rw [aY] at hj;rw [Nat.add_assoc];exact hc _ u hj
 . simp at hj
theorem TvF.open_ {w:bD} {F:Nat->Prop} {x:Tv} {cs:List bC} (h:TvF w F x cs):∃(bv lv:bC) (rows:List bC),cs= [.int .i64 x.kind,.int .i64 x.tag,.int .u64 (x.n:Int),bv,lv]/\Bs w bv x.b/\(0<x.b.length->∀y,bv.ownBlock=some y->F y)/\ Sl w 5 lv x.l.length rows/\(0<x.l.length->∀y,lv.ownBlock=some y->F y)/\Db w F x.l rows:=by
 cases x
 exact h
theorem TvF.mk {w:bD} {F:Nat->Prop} {k t:Int} {n:Nat} {b:Aa} {l:List Tv} {bv lv:bC} {rows:List bC} (h1:Bs w bv b) (h2:∀y,bv.ownBlock=some y->F y) (h3:Sl w 5 lv l.length rows) (h4:∀y,lv.ownBlock=some y->F y) (h5:Db w F l rows): TvF w F (.mk k t n b l) [.int .i64 k,.int .i64 t,.int .u64 (n:Int),bv,lv]:=⟨bv,lv,rows,rfl,h1,λ _=>h2,h3,λ _=>h4,h5⟩
theorem TvF.zero (w:bD) (F:Nat->Prop):TvF w F Tv.zero [.int .i64 0,.int .i64 0,.int .u64 0,.slice none 0 0,.slice none 0 0]:=
 TvF.mk (Sl.nil _ _ _) (by simp [bC.ownBlock]) (Sl.nil _ _ _) (by simp [bC.ownBlock]) rfl
mutual
/--Only blocks that are there count. -/
theorem TvF.tight {w:bD} {F:Nat->Prop} :∀(x:Tv) (cs:List bC),TvF w F x cs->TvF w (λ y=>F y/\y<w.heap.size) x cs
 | .mk k t n b l,cs,h=>by
  obtain ⟨bv,lv,rows,e,h1,h2,h3,h4,h5⟩:=h;exact ⟨bv,lv,rows,e,h1,λ hp x hx=>⟨h2 hp x hx,Sl.own_lt h1 (by decide) hp x hx⟩,h3,λ hp x hx=>⟨h4 hp x hx,Sl.own_lt h3 (by decide) hp x hx⟩,Db.tight l rows h5⟩
theorem Db.tight {w:bD} {F:Nat->Prop} :∀(l:List Tv) (cs:List bC),Db w F l cs->Db w (λ y=>F y/\y<w.heap.size) l cs
 | [],cs,h=>h
 | x::l,cs,h=>by
  obtain ⟨r,rs,e,h1,h2⟩:=h;exact ⟨r,rs,e,TvF.tight x r h1,Db.tight l rs h2⟩
end
mutual
theorem A5J {P:Tv->Prop} (h:∀k t n b l,(∀x∈l,P x)->P (.mk k t n b l)):∀x:Tv,P x
 | .mk k t n b l=>h k t n b l (A3k h l)
theorem A3k {P:Tv->Prop} (h:∀k t n b l,(∀x∈l,P x)->P (.mk k t n b l)):∀l:List Tv,∀x∈l,P x
 | [],x,hx=>by simp at hx
 | y::l,x,hx=>by
  rcases List.mem_cons.1 hx with e | hx
  . rw [e]; exact A5J h y
  . exact A3k h l x hx
end
def Dw (n:Nat):Aa:=(aG 8).map λ i=>UInt8.ofNat (n / 2 ^ (56-8*i) % 256)
theorem Ci (n:Nat):(Dw n).length=8:=by simp [Dw]
theorem A5o (n k:Nat) (h:k<8):(Dw n)[k]?=some (UInt8.ofNat (n / 2 ^ (56-8*k) % 256)):=by simp [Dw,h]
theorem Xh (n:Nat) (w:bD): bF aA 148 #[.int .u64 n] w λ e w'=>e=.returned (.slice (some ⟨w.heap.size,0,none⟩) 8 8)/\Du w' w.heap.size (.slice (some ⟨w.heap.size,0,none⟩) 8 8) (Dw n)/\Below w.heap.size w w'/\Blk w' w.heap.size (Ae (Dw n)) 5:=by
 have hmk:=λ w=>A6p w 8 8 rfl (by decide)
 simp only [aE,List.toArray] at hmk;have hpl:=Ci n;go_enter Tryz.func148,Tryz.ntmps148;go_wp2;go_loopw [8] (λ i wr=>∃k:Nat,k<=8/\i=.int .i64 k/\Blk wr w.heap.size ((Ae (Dw n)).take k++aE (8-k) (.int .u8 0)) 5/\Below w.heap.size w wr) (λ i _=>8- (intOf i).toNat)
 case atStart=>exact ⟨0,by omega,rfl,Blk.new w (aE 8 (.int .u8 0)) _,(Below.refl _ _).alloc (Nat.le_refl _) _⟩
 case round=>
  obtain ⟨k,hk,rfl,hb,hbel⟩:=hrel;have HB:=Ab hb;by_cases hlt:k<8
  . have h1:(k:Int)<8:=by omega
    have hf:=hb.frozen k;have hc:wr.cell? ⟨w.heap.size,k,none⟩=some (.int .u8 0):=by
     rw [hb.cell,List.getElem?_append_right (by simp [Ac]; omega)];rw [aI,Ac,hpl,show k-min k 8=0 by omega,show 8-k=(7-k)+1 by omega];rfl
    have hst:Hq (Blk (wr.setCell ⟨w.heap.size,k,none⟩ (.int .u8 ((n:Int) / 2 ^ (56-8*k) % 256))) w.heap.size ((Ae (Dw n)).take (k+1)++aE (8- (k+1)) (.int .u8 0)) 5):=by
     have:=hb.set k (.int .u8 ((n:Int) / 2 ^ (56-8*k) % 256));refine Ab ?_;have e:((Ae (Dw n)).take k++aE (8-k) (bC.int .u8 0)).set k (.int .u8 ((n:Int) / 2 ^ (56-8*k) % 256))=(Ae (Dw n)).take (k+1)++aE (8- (k+1)) (.int .u8 0):=by
      have hkl:k< (Ae (Dw n)).length:=by rw [Ac]; omega
      rw [List.set_append_right _ _ (by simp [Ac]; omega),aZ hkl];have hg:(Ae (Dw n))[k]=.int .u8 ((n:Int) / 2 ^ (56-8*k) % 256):=by
       have h2:=Ex (Dw n) k (by omega);rw [aL hkl,Option.some.injEq] at h2;have h3:=A5o n k hlt;rw [aL (by omega),Option.some.injEq] at h3;rw [h2,h3,Lb _ (Nat.mod_lt _ (by decide))];simp
      rw [hg,List.append_assoc];congr 1;rw [show k- ((Ae (Dw n)).take k).length=0 by simp [Ac]; omega,show 8-k=(8- (k+1))+1 by omega];rfl
     rw [<-e];exact this
    clear hb;go_wp2;go_roundw
    case rel=>exact ⟨k+1,by omega,by go_num,hst.o,hbel.setCell (Nat.le_refl _) _⟩
    case measure=>simp [intOf]; omega
  . obtain rfl:k=8:=by omega
    have hb8:Blk wr w.heap.size (Ae (Dw n)) 5:=by
     have:=hb;rw [aX (by rw [Ac]; omega)] at this;simpa using this
    have HB8:=Ab hb8;clear hb hb8;go_wp2;go_ret;have ho:=HB8.o.own (B:=w.heap.size) (Nat.le_refl _) (Al _) (by rw [Ac,hpl]; decide);rw [Ac,hpl] at ho;refine ⟨rfl,?_,hbel,HB8.o⟩;unfold Du;rw [hpl];exact ho
theorem A0f (a:Option Addr) (len cap:Nat) (i:Int) (w:bD) (h:(len:Int)<=i): bF aA 156 #[.slice a len cap,.int .i64 i] w λ e w'=>e=.returned (.int .u8 0)/\w=w':=by
 go_enter bA,bB;go_wp2;go_ret;exact ⟨rfl,rfl⟩
theorem A1W (b off:Nat) (len cap:Nat) (i:Int) (x:Int) (w:bD) (h0:0<=i) (h:i<len) (hc:w.cell? ⟨b,off+i.toNat,none⟩=some (.int .u8 x)): bF aA 156 #[.slice (some ⟨b,off,none⟩) len cap,.int .i64 i] w λ e w'=>e=.returned (.int .u8 x)/\w=w':=by
 go_enter bA,bB;go_wp2;go_ret;exact ⟨rfl,rfl⟩
theorem P6 (v:bC) (l:Aa) (i:Nat) (w:bD) (h:Bs w v l): bF aA 156 #[v,.int .i64 i] w λ e w'=>e=.returned (bV (l.getD i 0))/\w=w':=by
 obtain ⟨a,cap,rfl,_⟩:=h.form;by_cases hi:i<l.length
 . obtain ⟨b,off,rfl,hc⟩:=h.addr (by simp [Ae]; omega);have hc':=hc i (bV (l.getD i 0)) (by simp [Ae,hi]);exact A1W b off _ _ i _ w (by omega) (by omega) (by simpa [bV] using hc')
 . have:l.getD i 0=0:=by simp [List.getD,List.getElem?_eq_none (Nat.le_of_not_lt hi)]
   rw [this];exact A0f _ _ _ _ _ (by omega)
theorem A2J (x:UInt8):(x.toNat:Int)=0↔x=0:=by
 constructor
 . intro h;exact UInt8.toNat_inj.1 (by simpa using h)
 . rintro rfl; rfl
theorem A6S (D x y:UInt8):bC.int .u8 (bits .or .u8 (D.toNat:Int) (bits .xor .u8 (x.toNat:Int) (y.toNat:Int)))=.int .u8 ((D||| (x ^^^ y)).toNat):=by
 rw [u8_xor_nat _ _ x.toNat_lt y.toNat_lt,<-UInt8.toNat_xor,u8_or_nat _ _ D.toNat_lt (UInt8.toNat_lt _),<-UInt8.toNat_or]
theorem A2x (a b:UInt8):a||| b=0↔a=0/\b=0:=by
 constructor
 . intro h;have h1:a.toNat||| b.toNat=0:=by rw [<-UInt8.toNat_or,h]; rfl
   have h2:=Nat.or_eq_zero_iff.1 h1;exact ⟨UInt8.toNat_inj.1 h2.1,UInt8.toNat_inj.1 h2.2⟩
 . rintro ⟨rfl,rfl⟩; rfl
theorem A0S (a b:UInt8):a ^^^ b=0↔a=b:=by
 constructor
 . intro h;have h1:(a ^^^ b) ^^^ b=0 ^^^ b:=by rw [h]
   simpa [UInt8.xor_assoc] using h1
 . rintro rfl; simp
theorem A4H {a b:Aa} (hl:a.length=b.length):(∀j,j<max a.length b.length->a.getD j 0=b.getD j 0)↔a=b:=by
 constructor
 . intro h;apply List.ext_getElem hl;intro i h1 h2
   have:=h i (by omega);simpa [h1,h2] using this
 . rintro rfl _ _; rfl
theorem O1 (v u:bC) (a b:Aa) (w:bD) (ha:Bs w v a) (hb:Bs w u b): bF aA 102 #[v,u] w λ e w'=>e=.returned (.bool (decide (a=b)))/\w=w':=by
 have HA:=Ab ha;have HB:=Ab hb;obtain ⟨ad,cap,rfl,hcap,hcm⟩:=ha.form;obtain ⟨bd,cap',rfl,hcap',hcm'⟩:=hb.form;clear ha hb;unfold maxLen at hcm hcm';go_enter Tryz.func102,Tryz.ntmps102;go_wp2_with fail
 all_goals
  go_loop [5,12] (λ d i=>∃(k:Nat) (D:UInt8),k<=max a.length b.length/\i=.int .i64 k/\d=.int .u8 D.toNat/\(D=0↔∀j,j<k->a.getD j 0=b.getD j 0)) (λ _ i=>max a.length b.length- (intOf i).toNat)
  case atStart=>exact ⟨0,0,Nat.zero_le _,rfl,rfl,by simp⟩
  case round=>
   obtain ⟨k,D,hk,rfl,rfl,hD⟩:=hrel;have HD:=Ab hD;clear hD;by_cases hlt:k<max a.length b.length
   . obtain ⟨X,hX⟩:∃X,a.getD k 0=X:=⟨_,rfl⟩
     obtain ⟨Y,hY⟩:∃Y,b.getD k 0=Y:=⟨_,rfl⟩
     have cA:=P6 _ a k w HA.o;have cB:=P6 _ b k w HB.o;rw [hX] at cA;rw [hY] at cB;have CA:=Ab cA;have CB:=Ab cB;have HX:=Ab hX;have HY:=Ab hY;have HS:=Ab (A6S D X Y);clear cA cB hX hY;go_wp2_with fail;refine CA.o.mono ?_;rintro e w' ⟨rfl,rfl⟩;go_wp2_with fail;refine CB.o.mono ?_;rintro e w' ⟨rfl,rfl⟩;unfold bV;go_wp2_with fail;go_round
     case rel=>
      refine ⟨k+1,D||| (X ^^^ Y),by omega,by go_num,HS.o,?_⟩
      . rw [A2x,A0S,HD.o,<-HX.o,<-HY.o];constructor
        . rintro ⟨h1,h2⟩ j hj;rcases Nat.lt_or_ge j k with h3 | h3
          . exact h1 j h3
          . obtain rfl:j=k:=by omega
            exact h2
        . intro h;exact ⟨λ j hj=>h j (by omega),h k (by omega)⟩
     case measure=>simp [intOf]; omega
   . obtain rfl:k=max a.length b.length:=by omega
     have hfin:(decide (a=b))=(decide (D=0)&&decide (a.length=b.length)):=by
      rw [Bool.eq_iff_iff,aF,decide_eq_true_eq,decide_eq_true_eq,decide_eq_true_eq];constructor
      . rintro rfl;exact ⟨HD.o.2 (λ _ _=>rfl),rfl⟩
      . rintro ⟨h1,h2⟩;exact (A4H h2).1 (HD.o.1 h1)
     have HF:=Ab hfin;clear hfin;by_cases h0:D=0
     . have h0':((D.toNat:Int)==0)=true:=by rw [h0]; rfl
       by_cases hl:a.length=b.length
       . have hl':((a.length:Int)==(b.length:Int))=true:=by simp [hl]
         have HR:Hq (decide (a=b)=true):=Ab (by rw [HF.o,h0,hl]; simp);clear h0 hl;go_wp2_with fail;go_ret;rw [HR.o];exact ⟨rfl,rfl⟩
       . have hl':((a.length:Int)==(b.length:Int))=false:=by rw [beq_eq_false_iff_ne]; omega
         have HR:Hq (decide (a=b)=false):=Ab (by rw [HF.o]; simp [hl]);clear h0 hl;go_wp2_with fail;go_ret;rw [HR.o];exact ⟨rfl,rfl⟩
     . have h0':((D.toNat:Int)==0)=false:=by
        rw [beq_eq_false_iff_ne];intro e;exact h0 ((A2J _).1 e)
       have HR:Hq (decide (a=b)=false):=Ab (by rw [HF.o]; simp [h0]);clear h0;go_wp2_with fail;go_ret;rw [HR.o];exact ⟨rfl,rfl⟩
def C5 (l:Aa):Nat:=l.foldl (λ n c=>n*256+c.toNat) 0
theorem Jy (l:Aa) (c:UInt8):C5 (l++ [c])=C5 l*256+c.toNat:=by simp [C5]
theorem I1 (l:Aa):C5 l<256 ^ l.length:=by
 suffices ∀(l:Aa) (n k:Nat),n<256 ^ k->l.foldl (λ n c=>n*256+c.toNat) n<256 ^ (k+l.length) from by simpa [C5] using this l 0 0 (by decide)
 intro l;induction l with
 | nil=>intro n k h; simpa using h
 | cons c l ih=>
  intro n k h
  have:=ih (n*256+c.toNat) (k+1) (by have:=c.toNat_lt; rw [Nat.pow_succ]; omega);simpa [Nat.add_assoc,Nat.add_comm 1] using this
theorem A3K (n c:Nat) (hc:c<256):(n*256)||| c=n*256+c:=by
 have:=Nat.shiftLeft_add_eq_or_of_lt (b:=c) (i:=8) (by simpa using hc) n;rw [Nat.shiftLeft_eq] at this;simpa using this.symm
theorem Yh (n c:Nat) (hc:c<256) (h:n*256+c<18446744073709551616):bits BinOp.or bG.u64 (bG.u64.wrap ((n:Int)*256)) (bG.u64.wrap (c:Int))=((n*256+c:Nat):Int):=by
 have e1:bG.u64.wrap ((n:Int)*256)=((n*256:Nat):Int):=by rw [bG.wrap_u64]; omega
 have e2:bG.u64.wrap (c:Int)=(c:Int):=by rw [bG.wrap_u64]; omega
 rw [e1,e2,u64_or_nat _ _ (by omega) (by omega),A3K n c hc]
def Fi (l:Aa):Nat×Bool:=if l.length=0\/8<l.length then (0,false) else (C5 l,true)
theorem Mf (v:bC) (l:Aa) (w:bD) (h:Bs w v l): bF aA 120 #[v] w λ e w'=>e=.returned (.tuple #[.int .u64 (Fi l).1,.bool (Fi l).2])/\w=w':=by
 obtain ⟨a,cap,rfl,hcap,hcm⟩:=h.form;unfold maxLen at hcm;by_cases h0:l.length=0
 . have h0':((l.length:Int)==0)=true:=by simp [h0]
   have HG:Hq (Fi l=(0,false)):=Ab (by simp [Fi,h0]);clear h0;go_enter aM,aN;go_wp2;go_ret2;rw [HG.o];exact ⟨rfl,rfl⟩
 . have h0':((l.length:Int)==0)=false:=by simp; intro e; exact h0 (by simp [e])
   by_cases h8:(8:Int)<l.length
   . have HG:Hq (Fi l=(0,false)):=Ab (by simp only [Fi]; rw [if_pos (by omega)]);go_enter aM,aN;go_wp2;go_ret2;rw [HG.o];exact ⟨rfl,rfl⟩
   . have HG:Hq (Fi l=(C5 l,true)):=Ab (by simp only [Fi]; rw [if_neg (by omega)]);obtain ⟨b,off,rfl,hc⟩:=h.addr (by rw [Ac]; omega);have HC:=Ab hc;clear hc h;go_enter aM,aN;go_wp2;go_loop [4,17] (λ n i=>∃k:Nat,k<=l.length/\i=.int .i64 k/\n=.int .u64 (C5 (l.take k))) (λ _ i=>l.length- (intOf i).toNat)
     case atStart=>exact ⟨0,Nat.zero_le _,rfl,rfl⟩
     case round=>
      obtain ⟨k,hk,rfl,rfl⟩:=hrel;by_cases hlt:k<l.length
      . have c0:w.cell? ⟨b,off+k,none⟩=some (.int .u8 l[k].toNat):=HC.o k _ (Ex l k hlt);have hL:l.length<=8:=by omega
        have hX:Hq (bC.int .u64 (bits .or .u64 (bG.u64.wrap ((C5 (l.take k):Int)*256)) (bG.u64.wrap (l[k].toNat:Int)))=.int .u64 (C5 (l.take (k+1)))):=by
         refine Ab ?_;rw [aZ hlt,Jy,Yh _ _ l[k].toNat_lt];have h1:=I1 (l.take k);have h2:(l.take k).length<=7:=by rw [aI]; omega
         have h3:(256:Nat) ^ (l.take k).length<=256 ^ 7:=Nat.pow_le_pow_right (by decide) h2
         have:=l[k].toNat_lt;omega
        clear hL;go_wp2;go_round
        case rel=>exact ⟨k+1,by omega,by go_num,hX.o⟩
        case measure=>simp [intOf]; omega
      . obtain rfl:k=l.length:=by omega
        go_wp2;go_ret2;rw [HG.o];exact ⟨by simp,rfl⟩
def Dl:Aa->Aa
 | []=> []
 | [x]=> [x]
 | x::y::l=>if x=0 then Dl (y::l) else x::y::l
def Cd (n:Nat):Aa:=Dl (Dw n)
theorem O9 (l:Aa) (j:Nat) (h:j+1<l.length) (h0:l[j]=0):Dl (l.drop j)=Dl (l.drop (j+1)):=by
 rw [aJ (by omega:j<l.length),aJ h,h0];simp [Dl]
theorem J7 (l:Aa) (j:Nat) (h:j<l.length) (h0:j+1=l.length\/l[j]≠0):Dl (l.drop j)=l.drop j:=by
 rw [aJ h];rcases Nat.lt_or_ge (j+1) l.length with h1 | h1
 . rw [aJ h1]
   have:l[j]≠0:=h0.resolve_left (by omega);simp [Dl,this]
 . rw [List.drop_eq_nil_of_le h1];rfl
theorem Vq (n:Nat) (w:bD): bF aA 288 #[.int .u64 n] w λ e w'=>∃v,e=.returned v/\Bs w' v (Cd n)/\Below w.heap.size w w'/\v.ownBlock=some w.heap.size:=by
 have hpl:=Ci n;go_enter Tryz.func288,Tryz.ntmps288;go_wp2_with fail;refine (Xh n w).mono ?_;rintro e w1 ⟨rfl,_,hb1,hblk⟩;have HB:=Ab hblk;clear hblk;go_wp2_with fail;go_loop [3] (λ v=>∃j:Nat,j<=7/\v=.slice (some ⟨w.heap.size,j,none⟩) (8-j) (8-j)/\Cd n=Dl ((Dw n).drop j)) (λ v=>match v with | .slice _ n _=>n | _=>0)
 case atStart=>exact ⟨0,by omega,rfl,rfl⟩
 case round=>
  obtain ⟨j,hj,rfl,hs⟩:=hrel;have HS:=Ab hs;clear hs;have hget:w1.cell? ⟨w.heap.size,j,none⟩=some (.int .u8 ((Dw n)[j]'(by omega)).toNat):=by rw [HB.o.cell]; exact Ex _ _ _
  have fin:Cd n=(Dw n).drop j->Bs w1 (.slice (some ⟨w.heap.size,j,none⟩) (8-j) (8-j)) (Cd n):=by
   intro e;rw [e];have hl:((Dw n).drop j).length=8-j:=by rw [aH,hpl]
   unfold Bs;rw [hl];refine ⟨by rw [Ac,hl]; omega,Al _,_,8-j,rfl,Nat.le_refl _,by unfold maxLen; omega,λ h=>by simp at h,.inr ⟨_,_,rfl,λ i u hi=>?_⟩⟩;rw [HB.o.cell];simp only [Ae,List.map_drop,aY] at hi ⊢;exact hi
  have FIN:=Ab fin;clear fin;by_cases hj7:j=7
  . subst hj7;have h1:Hq (Cd n=(Dw n).drop 7):=Ab (by rw [HS.o,J7 _ _ (by omega) (.inl (by omega))]);clear hget;go_wp2;go_ret;exact ⟨_,rfl,FIN.o h1.o,hb1,rfl⟩
  . have hj':1< ((8-j:Nat):Int):=by omega
    have hj0:(0:Int)< ((8-j:Nat):Int):=by omega
    have hj0':0<8-j:=by omega
    have hjn:¬8-j=1:=by omega
    by_cases hz:(Dw n)[j]'(by omega)=0
    . have hz':((((Dw n)[j]'(by omega)).toNat:Int)==0)=true:=by rw [hz]; rfl
      have h1:Hq (Cd n=Dl ((Dw n).drop (j+1))):=Ab (by rw [HS.o,O9 _ _ (by omega) hz]);clear hz;go_wp2;go_round
      case rel=>exact ⟨j+1,by omega,by rw [show 8- (j+1)=8-j-1 by omega],h1.o⟩
      case measure=>simp; omega
    . have hz':((((Dw n)[j]'(by omega)).toNat:Int)==0)=false:=by
       rw [beq_eq_false_iff_ne];intro e;exact hz ((A2J _).1 e)
      have h1:Hq (Cd n=(Dw n).drop j):=Ab (by rw [HS.o,J7 _ _ (by omega) (.inr hz)]);clear hz;go_wp2;go_ret;exact ⟨_,rfl,FIN.o h1.o,hb1,rfl⟩
end Go.Proofs.YtcnfaghcjlhoiaaGreat
namespace Go.Proofs.YtcnfaghcjlhoiaaGreat
def Gw (b:Aa):Nat×Nat×Int:=
 if b.length<2 then (0,0,1)
 else if (b.getD 1 0).toNat<128 then (if b.length-2< (b.getD 1 0).toNat then (0,0,1) else ((b.getD 1 0).toNat,2,0))
 else if (b.getD 1 0).toNat=128\/130< (b.getD 1 0).toNat then (0,0,3)
 else if b.length< (b.getD 1 0).toNat-126 then (0,0,1)
 else if C5 ((b.drop 2).take ((b.getD 1 0).toNat-128))<128\/((b.getD 1 0).toNat=130/\C5 ((b.drop 2).take ((b.getD 1 0).toNat-128))<256) then (0,0,3)
 else if b.length- ((b.getD 1 0).toNat-126)<C5 ((b.drop 2).take ((b.getD 1 0).toNat-128)) then (0,0,1)
 else (C5 ((b.drop 2).take ((b.getD 1 0).toNat-128)),(b.getD 1 0).toNat-126,0)
theorem Ol {b:Aa} {n at':Nat} (h:Gw b=(n,at',0)):2<=at'/\at'+n<=b.length/\at'<=4:=by
 unfold Gw at h;split at h
 . simp at h
 . split at h
   . split at h
     . simp at h
     . simp only [Prod.mk.injEq] at h; omega
   . split at h
     . simp at h
     . split at h
       . simp at h
       . split at h
         . simp at h
         . split at h
           . simp at h
           . simp only [Prod.mk.injEq] at h; omega
def Hj (rd:Aa->Tv×Nat×Int):Nat->Aa->List Tv×Int
 | _, []=>([],0)
 | 0,_=>([],0)
 | f+1,b=>match rd b with
  | (x,k,e)=>if e=0 then (match Hj rd f (b.drop k) with | (l,e')=>(x::l,e')) else ([],e)
def Dj:Nat->Aa->Tv×Nat×Int
 | 0,_=>(.zero,0,4)
 | d+1,b=>match Gw b with
  | (n,at',e)=>
   if e≠0 then (.zero,0,e)
   else if 2< (b.getD 0 0).toNat / 64\/30< (b.getD 0 0).toNat % 64 then (.zero,0,2)
   else if (b.getD 0 0).toNat / 64=0 then
    (if (Fi ((b.drop at').take n)).2=false\/(1<n/\(b.drop at').getD 0 0=0) then (.zero,0,4)
    else (.mk 0 ((b.getD 0 0).toNat % 64:Nat) (Fi ((b.drop at').take n)).1 [] [],at'+n,0))
   else if (b.getD 0 0).toNat / 64=1 then (.mk 1 ((b.getD 0 0).toNat % 64:Nat) 0 ((b.drop at').take n) [],at'+n,0)
   else match Hj (Dj d) n ((b.drop at').take n) with
    | (l,e)=>if e=0 then (.mk 2 ((b.getD 0 0).toNat % 64:Nat) 0 [] l,at'+n,0) else (.zero,0,e)
def A6Z (rd:Aa->Tv×Nat×Int):Prop:=∀b x k,rd b=(x,k,0)->2<=k/\k<=b.length
theorem I9 (d:Nat):A6Z (Dj d):=by
 intro b x k h
 cases d with
 | zero=>simp [Dj] at h
 | succ d=>
  rw [Dj] at h;obtain ⟨n,at',e,hs⟩:∃n at' e,Gw b=(n,at',e):=⟨_,_,_,rfl⟩
  rw [hs] at h;simp only at h;split at h
  . simp at h; omega
  . rename_i he;have he0:e=0:=by simpa using he
    subst he0;have hok:=Ol hs;split at h
    . simp at h
    . split at h
      . split at h
        . simp at h
        . simp at h; omega
      . split at h
        . simp at h; omega
        . split at h
          . simp at h; omega
          . simp at h; omega
theorem Mh (rd:Aa->Tv×Nat×Int) (f:Nat):Hj rd f []=([],0):=by cases f <;> rfl
theorem Lr {rd:Aa->Tv×Nat×Int} {f:Nat} {b:Aa} {x:Tv} {k:Nat} (hb:b≠ []) (h:rd b=(x,k,0)):Hj rd (f+1) b=(x::(Hj rd f (b.drop k)).1,(Hj rd f (b.drop k)).2):=by
 cases b with
 | nil=>exact absurd rfl hb
 | cons c b=>simp [Hj,h]
theorem Mg {rd:Aa->Tv×Nat×Int} {f:Nat} {b:Aa} {x:Tv} {k:Nat} {e:Int} (hb:b≠ []) (h:rd b=(x,k,e)) (he:e≠0):Hj rd (f+1) b=([],e):=by
 cases b with
 | nil=>exact absurd rfl hb
 | cons c b=>simp [Hj,h,he]
theorem Si {rd:Aa->Tv×Nat×Int} (ht:A6Z rd):∀(f g:Nat) (b:Aa),b.length<=f->b.length<=g->Hj rd f b=Hj rd g b
 | f,g, [],_,_=>by rw [Mh,Mh]
 | 0,g,c::b,h,_=>by simp at h
 | f+1,0,c::b,_,h=>by simp at h
 | f+1,g+1,c::b,hf,hg=>by
  obtain ⟨x,k,e,hr⟩:∃x k e,rd (c::b)=(x,k,e):=⟨_,_,_,rfl⟩
  by_cases he:e=0
  . subst he;have hk:=ht _ _ _ hr;rw [Lr (by simp) hr,Lr (by simp) hr,Si ht f g _ (by rw [aH]; simp at hf hk ⊢; omega) (by rw [aH]; simp at hg hk ⊢; omega)]
  . rw [Mg (by simp) hr he,Mg (by simp) hr he]
def Ff (b:Aa):Tv×Int:=
 if 4096<b.length then (.zero,20)
 else match Dj 8 b with
  | (v,n,e)=>if e≠0 then (.zero,e) else if n<b.length then (.zero,5) else (v,0)
end Go.Proofs.YtcnfaghcjlhoiaaGreat
namespace Go.Proofs.YtcnfaghcjlhoiaaGreat
open Go.RowKit
def Kf (a:Option Addr) (cap i:Nat):Option Addr:=if cap=i then a else a.map (·.add i)
theorem Vk (w:bD):(sizeOf 5).run aA w=.ok 1 w:=by kernel_rfl
theorem S6 (a:Option Addr) (n cap i j:Nat) (hi:i<=j) (hj:j<=cap) (W:bD): (Instr.sliceAt 27 (.slice a n cap) (some (.int .i64 i)) (some (.int .i64 j)) none).run aA W=.ok (.slice (Kf a cap i) (j-i) (cap-i)) W:=by
 have h1:¬((i:Int)<0):=by omega
 have h2:¬((j:Int)<0):=by omega
 have h3:¬(cap<j):=by omega
 have h4:¬(j<i):=by omega
 simp [Instr.sliceAt,Instr.slice,Instr.sliceBounds,Instr.sliceBound,run_underlying aK,asIntOf,Vk,Kf,h1,h2,h3,h4,hi,hj]
theorem A5u (a:Option Addr) (n cap i:Nat) (hi:i<=n) (W:bD): (Instr.sliceAt 27 (.slice a n cap) (some (.int .i64 i)) none none).run aA W=.ok (.slice (Kf a cap i) (n-i) (cap-i)) W:=by
 have h1:¬((i:Int)<0):=by omega
 have h4:¬(n<i):=by omega
 simp [Instr.sliceAt,Instr.slice,Instr.sliceBounds,Instr.sliceBound,run_underlying aK,asIntOf,Vk,Kf,h1,h4,hi]
theorem Bs.cut {w:bD} {a:Option Addr} {cap:Nat} {b:Aa} (h:Bs w (.slice a b.length cap) b) (i j:Nat) (hi:i<=j) (hj:j<=b.length):Bs w (.slice (Kf a cap i) (j-i) (cap-i)) ((b.drop i).take (j-i)):=by
 obtain ⟨a',cap',he,hc,hm⟩:=h.form;simp only [bC.slice.injEq,true_and] at he;obtain ⟨rfl,rfl⟩:=he;have hna:a=Option.none->cap=0:=by
  obtain ⟨_,_,a',c',he,_,_,h5,_⟩:=h;simp only [bC.slice.injEq,true_and] at he;obtain ⟨rfl,rfl⟩:=he;exact h5
 by_cases hz:j-i=0
 . rw [hz,aO];refine Bs.none _ _ _ (λ e=>?_) (by omega);unfold Kf at e;split at e
   . have:=hna e; omega
   . cases a with
     | none=>have:=hna rfl; omega
     | some x=>simp at e
 . obtain ⟨bb,off,rfl,_⟩:=h.addr (by rw [Ac]; omega);have h1:=Sl.mid h (off:=i) (n:=j-i) (cap:=cap-i) (by omega) (by omega) (by omega);have he:Kf (some ⟨bb,off,Option.none⟩) cap i=some ⟨bb,off+i,Option.none⟩:=by
    unfold Kf;rw [if_neg (by omega)];simp [Addr.add_lit]
   rw [he];exact h1.bs rfl (by simp; omega)
theorem Y6 (v:bC) (b:Aa) (w:bD) (h:Bs w v b): bF aA 269 #[v] w λ e w'=>e=.returned (.tuple #[.int .i64 (Gw b).1,.int .i64 (Gw b).2.1,.int .i64 (Gw b).2.2])/\w=w':=by
 obtain ⟨a,cap,rfl,hcap,hcm⟩:=h.form;have hmx:=hcm;unfold maxLen at hcm;by_cases h2:b.length<2
 . have HS:Hq (Gw b=(0,0,1)):=Ab (by unfold Gw; rw [if_pos h2]);have h2':(b.length:Int)<2:=by omega
   clear h2 h;go_enter aB,aC;go_wp2_with fail
   go_ret3;rw [HS.o];exact ⟨rfl,rfl⟩
 . obtain ⟨bb,off,rfl,hc⟩:=h.addr (by rw [Ac]; omega);have hb1:b[1]'(by omega)=b.getD 1 0:=by rw [List.getD_eq_getElem?_getD,aL (by omega)]; rfl
   have c1:w.cell? ⟨bb,off+1,none⟩=some (.int .u8 (b.getD 1 0).toNat):=by rw [<-hb1]; exact hc 1 _ (Ex b 1 (by omega))
   have hlt:=(b.getD 1 0).toNat_lt;have HB:=Ab h;have hcutr:=λ j hj hj2=>S6 (some ⟨bb,off,none⟩) b.length cap 2 j hj hj2
   have HCUT:=Ab hcutr;have h2':¬(b.length:Int)<2:=by omega
   clear hc hb1 h hcutr;have hS:Gw b=if (b.getD 1 0).toNat<128 then (if b.length-2< (b.getD 1 0).toNat then (0,0,1) else ((b.getD 1 0).toNat,2,0))
 else if (b.getD 1 0).toNat=128\/130< (b.getD 1 0).toNat then (0,0,3)
 else if b.length< (b.getD 1 0).toNat-126 then (0,0,1)
 else if C5 ((b.drop 2).take ((b.getD 1 0).toNat-128))<128\/((b.getD 1 0).toNat=130/\C5 ((b.drop 2).take ((b.getD 1 0).toNat-128))<256) then (0,0,3)
 else if b.length- ((b.getD 1 0).toNat-126)<C5 ((b.drop 2).take ((b.getD 1 0).toNat-128)) then (0,0,1)
 else (C5 ((b.drop 2).take ((b.getD 1 0).toNat-128)),(b.getD 1 0).toNat-126,0):=by unfold Gw; rw [if_neg h2]
   generalize (b.getD 1 0).toNat=c at c1 hlt hS;rcases (by omega:c<128\/c=128\/c=129\/c=130\/130<c) with k | rfl | rfl | rfl | k
   . rw [if_pos k] at hS;have k':¬(128:Int)<=(c:Int):=by omega
     by_cases hl:b.length-2<c
     . rw [if_pos hl] at hS;have HS:=Ab hS;have hl':(b.length:Int)-2< (c:Int):=by omega
       clear hS;go_enter aB,aC;go_wp2_with fail
       go_ret3;rw [HS.o];exact ⟨rfl,rfl⟩
     . rw [if_neg hl] at hS;have HS:=Ab hS;have hl':¬(b.length:Int)-2< (c:Int):=by omega
       clear hS;go_enter aB,aC;go_wp2_with fail
       go_ret3;rw [HS.o];exact ⟨rfl,rfl⟩
   . rw [if_neg (by omega),if_pos (.inl rfl)] at hS;have HS:=Ab hS;clear hS;go_enter aB,aC;go_wp2_with fail
     go_ret3;rw [HS.o];exact ⟨rfl,rfl⟩
   . rw [if_neg (by omega),if_neg (by omega)] at hS;by_cases hl:b.length<3
     . rw [if_pos (by omega)] at hS;have HS:=Ab hS;have hl':(b.length:Int)<3:=by omega
       clear hS;go_enter aB,aC;go_wp2_with fail
       go_ret3;rw [HS.o];exact ⟨rfl,rfl⟩
     . rw [if_neg (by omega)] at hS;have hl':¬(b.length:Int)<3:=by omega
       have hrun:∀W,(Instr.sliceAt 27 (.slice (some ⟨bb,off,none⟩) b.length cap) (some (.int .i64 2)) (some (.int .i64 3)) none).run aA W=.ok (.slice (Kf (some ⟨bb,off,none⟩) cap 2) 1 (cap-2)) W:=λ W=>HCUT.o 3 (by omega) (by omega) W
       have hbs:Bs w (.slice (Kf (some ⟨bb,off,none⟩) cap 2) 1 (cap-2)) ((b.drop 2).take 1):=HB.o.cut 2 3 (by omega) (by omega);rw [show 129-128=1 from rfl,show 129-126=3 from rfl] at hS;have hll:((b.drop 2).take 1).length=1:=by rw [aI,aH]; omega
       have hgl:=I1 ((b.drop 2).take 1);rw [hll] at hgl;have HG:=Ab (Mf _ _ w hbs);have hgb:Fi ((b.drop 2).take 1)=(C5 ((b.drop 2).take 1),true):=by unfold Fi; rw [if_neg (by omega)]
       rw [hgb] at HG;generalize C5 ((b.drop 2).take 1)=n at HG hS hgl;have hn:n<256:=by omega
       clear hll hgl hgb hbs;rcases (by omega:n<128\/(128<=n/\n<256)\/256<=n) with hq | ⟨hq,hq2⟩ | hq
       . rw [if_pos (.inl hq)] at hS;have HS:=Ab hS;have hq':(n:Int)<128:=by omega
         clear hS;go_enter aB,aC;go_wp2_with fail;refine HG.o.mono ?_;rintro e w' ⟨rfl,rfl⟩;go_wp2_with fail
         go_ret3;rw [HS.o];exact ⟨rfl,rfl⟩
       . have hq':¬(n:Int)<128:=by omega
         have hq2':(n:Int)<256:=by omega
         rw [if_neg (by omega)] at hS;by_cases hr:b.length-3<n
         . rw [if_pos hr] at hS;have HS:=Ab hS;have hr':(b.length:Int)-3< (n:Int):=by omega
           clear hS;go_enter aB,aC;go_wp2_with fail;refine HG.o.mono ?_;rintro e w' ⟨rfl,rfl⟩;go_wp2_with fail
           go_ret3;rw [HS.o];exact ⟨rfl,rfl⟩
         . rw [if_neg hr] at hS;have HS:=Ab hS;have hr':¬(b.length:Int)-3< (n:Int):=by omega
           clear hS;go_enter aB,aC;go_wp2_with fail;refine HG.o.mono ?_;rintro e w' ⟨rfl,rfl⟩;go_wp2_with fail
           go_ret3;rw [HS.o];exact ⟨rfl,rfl⟩
       . omega
   . rw [if_neg (by omega),if_neg (by omega)] at hS;by_cases hl:b.length<4
     . rw [if_pos (by omega)] at hS;have HS:=Ab hS;have hl':(b.length:Int)<4:=by omega
       clear hS;go_enter aB,aC;go_wp2_with fail
       go_ret3;rw [HS.o];exact ⟨rfl,rfl⟩
     . rw [if_neg (by omega)] at hS;have hl':¬(b.length:Int)<4:=by omega
       have hrun:∀W,(Instr.sliceAt 27 (.slice (some ⟨bb,off,none⟩) b.length cap) (some (.int .i64 2)) (some (.int .i64 4)) none).run aA W=.ok (.slice (Kf (some ⟨bb,off,none⟩) cap 2) 2 (cap-2)) W:=λ W=>HCUT.o 4 (by omega) (by omega) W
       have hbs:Bs w (.slice (Kf (some ⟨bb,off,none⟩) cap 2) 2 (cap-2)) ((b.drop 2).take 2):=HB.o.cut 2 4 (by omega) (by omega);rw [show 130-128=2 from rfl,show 130-126=4 from rfl] at hS;have hll:((b.drop 2).take 2).length=2:=by rw [aI,aH]; omega
       have hgl:=I1 ((b.drop 2).take 2);rw [hll] at hgl;have HG:=Ab (Mf _ _ w hbs);have hgb:Fi ((b.drop 2).take 2)=(C5 ((b.drop 2).take 2),true):=by unfold Fi; rw [if_neg (by omega)]
       rw [hgb] at HG;generalize C5 ((b.drop 2).take 2)=n at HG hS hgl;have hn:n<65536:=by omega
       clear hll hgl hgb hbs;rcases (by omega:n<128\/(128<=n/\n<256)\/256<=n) with hq | ⟨hq,hq2⟩ | hq
       . rw [if_pos (.inl hq)] at hS;have HS:=Ab hS;have hq':(n:Int)<128:=by omega
         clear hS;go_enter aB,aC;go_wp2_with fail;refine HG.o.mono ?_;rintro e w' ⟨rfl,rfl⟩;go_wp2_with fail
         go_ret3;rw [HS.o];exact ⟨rfl,rfl⟩
       . have hq':¬(n:Int)<128:=by omega
         have hq2':(n:Int)<256:=by omega
         rw [if_pos (.inr ⟨rfl,hq2⟩)] at hS;have HS:=Ab hS;clear hS;go_enter aB,aC;go_wp2_with fail;refine HG.o.mono ?_;rintro e w' ⟨rfl,rfl⟩;go_wp2_with fail
         go_ret3;rw [HS.o];exact ⟨rfl,rfl⟩
       . have hq':¬(n:Int)<128:=by omega
         have hq2':¬(n:Int)<256:=by omega
         rw [if_neg (by omega)] at hS;by_cases hr:b.length-4<n
         . rw [if_pos hr] at hS;have HS:=Ab hS;have hr':(b.length:Int)-4< (n:Int):=by omega
           clear hS;go_enter aB,aC;go_wp2_with fail;refine HG.o.mono ?_;rintro e w' ⟨rfl,rfl⟩;go_wp2_with fail
           go_ret3;rw [HS.o];exact ⟨rfl,rfl⟩
         . rw [if_neg hr] at hS;have HS:=Ab hS;have hr':¬(b.length:Int)-4< (n:Int):=by omega
           clear hS;go_enter aB,aC;go_wp2_with fail;refine HG.o.mono ?_;rintro e w' ⟨rfl,rfl⟩;go_wp2_with fail
           go_ret3;rw [HS.o];exact ⟨rfl,rfl⟩
   . rw [if_neg (by omega),if_pos (.inr k)] at hS;have HS:=Ab hS;have k':(128:Int)<=(c:Int):=by omega
     have k2:(2:Int)< (c:Int)-128:=by omega
     have k3:¬(c:Int)-128<1:=by omega
     clear hS;go_enter aB,aC;go_wp2_with fail
     go_ret3;rw [HS.o];exact ⟨rfl,rfl⟩
end Go.Proofs.YtcnfaghcjlhoiaaGreat
