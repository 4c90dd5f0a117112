/- Texts of this proof, one behind the other: Q0, RowBase, Bytes, Tv, OctetPut, OctetEq, Octet, DerSpec, Cut, DerSize. -/
import Derived.Test.YtbmjjfhpllpiaaaGreatWsA1
import Derived.Maps.RangeWalk
import Derived.Test.YtbmjjfhpllpiaaaGreatRows
import Derived.WalkKit
import Derived.ProofKit
import Derived.OpenShut
import Derived.ShutString
import Derived.ChangeOld
import Derived.Below
import Derived.JoinedCond
import Derived.Outline
set_option linter.unusedSimpArgs false
set_option linter.unusedVariables false
set_option maxRecDepth 100000
set_option maxHeartbeats 16000000
open Go.Proofs.Tryz renaming prog -> aA, func148 -> aB, ntmps148 -> aC, underlying29 -> aH, func78 -> aJ, ntmps78 -> aK, func105 -> aQ, ntmps105 -> aR
open List renaming replicate -> aD, length_drop -> aE, length_take -> aF, drop_eq_getElem_cons -> aG, getElem?_eq_getElem -> aI, take_zero -> aL, drop_zero -> aM, take_of_length_le -> aN, getElem?_drop -> aO, take_succ_eq_append_getElem -> aP
open Go renaming Value -> aS, World -> aT, TypeId -> aU, Calls -> aV, IntKind -> aW, Program -> aX, Oper -> aY
namespace Go.Proofs.YtbmjjfhpllpiaaaGreat
open Go.RowKit
section
theorem zV {P:aX} {ops:Array aY} {rest:List aY} {a a':Act} {w:aT} {Q:Exit->Act->aT->Prop} {d:Nat} {v:aS} {op:Op} {ty:aU} {pos:String} {aft:Array Edge} {g:Option (Nat×Bool)} (h:wpList P ops Q rest a' w) (hr:(execOp a.eval ⟨some d,op,ty,pos,aft,g⟩).run P w=.ok (.value v) w:=by (go_simp; try rfl)) (hw:Region.wanted ⟨some d,op,ty,pos,aft,g⟩ (yielded ops a.tmps)=true:=by rfl) (ha:a.put (some d) v=a':=by (go_frame; rfl)):wpList P ops Q (⟨some d,op,ty,pos,aft,g⟩::rest) a w:=by
  subst ha;exact Mh d v hw hr h
theorem zK {P:aX} {ops:Array aY} {rest:List aY} {a a':Act} {w:aT} {Q:Exit->Act->aT->Prop} {d:Nat} {op:Op} {ty:aU} {pos:String} {aft:Array Edge} {g:Option (Nat×Bool)} (h:wpList P ops Q rest a' w) (hw:Region.wanted ⟨some d,op,ty,pos,aft,g⟩ (yielded ops a.tmps)=false:=by rfl) (ha:a.put (some d) undef=a':=by (go_frame; rfl)):wpList P ops Q (⟨some d,op,ty,pos,aft,g⟩::rest) a w:=by
  subst ha;exact A0v d hw h
structure Zt (l:List Res) (p:Nat):Type where
structure Zo (l:List Res) (p:Nat) (cs:List aS) (T:aU):Type where
  m:Res.blk p cs T∈l
instance {l:List Res} {p:Nat} {cs:List aS} {T:aU} {r:Res} [h:HAdd (Zt l p) Unit (Zo l p cs T)]:HAdd (Zt (r::l) p) Unit (Zo (r::l) p cs T):=⟨λ _ _=>⟨.tail _ (h.hAdd ⟨⟩ ()).m⟩⟩
instance {l:List Res} {p:Nat} {cs:List aS} {T:aU} :HAdd (Zt (.blk p cs T::l) p) Unit (Zo (.blk p cs T::l) p cs T):=⟨λ _ _=>⟨.head _⟩⟩
theorem Ac.zB {W:aT} {l:List Res} (h:Ac W l) (p:Nat) {cs:List aS} {T:aU} [z:HAdd (Zt l p) Unit (Zo l p cs T)]:Blk W p cs T:=h.blkOf (z.hAdd ⟨⟩ ()).m
theorem Ac.zc {W:aT} {l:List Res} (h:Ac W l) {p k:Nat} {v:aS} {cs:List aS} {T:aU} [z:HAdd (Zt l p) Unit (Zo l p cs T)] (e:cs[k]?=some v:=by (first | rfl | exact Hq.o (by assumption))):W.cell? ⟨p,k,none⟩=some v:=((h.zB p).cell k).trans e
theorem Ac.zca {W:aT} {l:List Res} (h:Ac W l) {p:Nat} {cs:List aS} {T:aU} [z:HAdd (Zt l p) Unit (Zo l p cs T)]:Al W p 0 cs:=(h.zB p).cellsAll
theorem Ac.zr {W:aT} {l:List Res} (h:Ac W l) {p o n:Nat} {vs cs:List aS} {T:aU} [z:HAdd (Zt l p) Unit (Zo l p cs T)] (e:(cs.drop o).take n=vs:=by exact Hq.o (by assumption)):Al W p o vs:=e▸(h.zB p).cellsAt o n
theorem Ac.zrl {W:aT} {l:List Res} (h:Ac W l) {p o:Nat} {vs cs:List aS} {T:aU} [z:HAdd (Zt l p) Unit (Zo l p cs T)] (e:(cs.drop o).take vs.length=vs:=by rfl):Al W p o vs:=by
  have:=(h.zB p).cellsAt o vs.length;rw [e] at this;exact this
section
variable {P:aX} {md:Region.Mode} {ops:Array aY} {Q:Exit->Act->aT->Prop} {ks0:List Nat} {T:List Bool->aT->Prop}
theorem zTk (i:Nat) (ks:List Nat) {d:Nat} {g:Option (Nat×Bool)} {v:aS} {op:Op} {ty:aU} {pos:String} {aft:Array Edge} {fuel:Nat} {listed:Array Bool} {a a':Act} {w:aT} (h:C9 P md ops Q ks0 T fuel (listed.setIfInBounds i true) a' w) (hi:ops[i]?=some ⟨some d,op,ty,pos,aft,g⟩:=by rfl) (hr:∀l w,(∀k∈ks,l.getD k true=false)->T (El ks0 l) w->(execOp a.eval ⟨some d,op,ty,pos,aft,g⟩).run P w=.ok (.value v) w:=by (intro _ _ _ hW; first | (go_simp; try rfl; done) | ((try dsimp only at hW); go_simp; try rfl))) (hb:(Region.noSelect ops&&Region.free md ops listed i&&(Region.ready md ops listed).contains i&&(!ks0.contains i)&&ks.all λ k=>Region.waitsFor md ops k i&& !listed.getD k true)=true:=by kernel_rfl) (hQ:∀c a w,Q (.panic c) (a.put (some d) v) w->Q (.panic c) a w:=by exact λ _ _ _ h=>h) (hw:Region.wanted ⟨some d,op,ty,pos,aft,g⟩ (yielded ops a.tmps)=true:=by rfl) (ha:a.put (some d) v=a':=by (go_frame; rfl)) (hS:T (El ks0 listed) w:=by (first | exact trivial | exact HS.o | ((try dsimp only); repeat' (first | exact trivial | exact Ac.zc HC.o | exact Ac.zpa HC.o | exact Ac.zca HC.o | exact Ac.zr HC.o | exact Ac.zrl HC.o | apply And.intro | (intro hb; exact absurd hb (by decide)) | intro _)))):C9 P md ops Q ks0 T (fuel+1) listed a w:=by
  subst ha;exact tkJ i d g v ks hi hb hQ hw hr hS h
theorem zT (i:Nat) {d:Nat} {g:Option (Nat×Bool)} {v:aS} {op:Op} {ty:aU} {pos:String} {aft:Array Edge} {fuel:Nat} {listed:Array Bool} {a a':Act} {w:aT} (h:C9 P md ops Q ks0 T fuel (listed.setIfInBounds i true) a' w) (hi:ops[i]?=some ⟨some d,op,ty,pos,aft,g⟩:=by rfl) (hr:∀l w,(∀k∈([]:List Nat),l.getD k true=false)->T (El ks0 l) w->(execOp a.eval ⟨some d,op,ty,pos,aft,g⟩).run P w=.ok (.value v) w:=by (intro _ _ _ hW; first | (go_simp; try rfl; done) | ((try dsimp only at hW); go_simp; try rfl))) (hb:(Region.noSelect ops&&Region.free md ops listed i&&(Region.ready md ops listed).contains i&&(!ks0.contains i)&&([]:List Nat).all λ k=>Region.waitsFor md ops k i&& !listed.getD k true)=true:=by kernel_rfl) (hQ:∀c a w,Q (.panic c) (a.put (some d) v) w->Q (.panic c) a w:=by exact λ _ _ _ h=>h) (hw:Region.wanted ⟨some d,op,ty,pos,aft,g⟩ (yielded ops a.tmps)=true:=by rfl) (ha:a.put (some d) v=a':=by (go_frame; rfl)) (hS:T (El ks0 listed) w:=by (first | exact trivial | exact HS.o | ((try dsimp only); repeat' (first | exact trivial | exact Ac.zc HC.o | exact Ac.zpa HC.o | exact Ac.zca HC.o | exact Ac.zr HC.o | exact Ac.zrl HC.o | apply And.intro | (intro hb; exact absurd hb (by decide)) | intro _)))):C9 P md ops Q ks0 T (fuel+1) listed a w:=by
  subst ha;exact tkJ i d g v [] hi hb hQ hw hr hS h
theorem zS (i:Nat) {d:Nat} {g:Option (Nat×Bool)} {op:Op} {ty:aU} {pos:String} {aft:Array Edge} {fuel:Nat} {listed:Array Bool} {a a':Act} {w:aT} (h:C9 P md ops Q ks0 T fuel (listed.setIfInBounds i true) a' w) (hi:ops[i]?=some ⟨some d,op,ty,pos,aft,g⟩:=by rfl) (hb:(Region.noSelect ops&&Region.free md ops listed i&&(Region.ready md ops listed).contains i&& !ks0.contains i)=true:=by kernel_rfl) (hQ:∀c a w,Q (.panic c) (a.put (some d) undef) w->Q (.panic c) a w:=by exact λ _ _ _ h=>h) (hw:Region.wanted ⟨some d,op,ty,pos,aft,g⟩ (yielded ops a.tmps)=false:=by rfl) (ha:a.put (some d) undef=a':=by (go_frame; rfl)) (hS:T (El ks0 listed) w:=by (first | exact trivial | exact HS.o | ((try dsimp only); repeat' (first | exact trivial | exact Ac.zc HC.o | exact Ac.zpa HC.o | exact Ac.zca HC.o | exact Ac.zr HC.o | exact Ac.zrl HC.o | apply And.intro | (intro hb; exact absurd hb (by decide)) | intro _)))):C9 P md ops Q ks0 T (fuel+1) listed a w:=by
  subst ha;exact skJ i d g hi hb hQ hw hS h
theorem zC {fuel:Nat} {listed:Array Bool} {a:Act} {w:aT} {i:Nat} {rs:List Nat} {d:Option Tmp} {g:Option (Nat×Bool)} {op:Op} {ty:aU} {pos:String} {aft:Array Edge} (h:∀K':Act->aT->Prop,(∀a w,T (El ks0 (listed.setIfInBounds i true)) w->C9 P md ops Q ks0 T fuel (listed.setIfInBounds i true) a w->K' a w)->if Region.wanted ⟨d,op,ty,pos,aft,g⟩ (yielded ops a.tmps)=true then aY.wp P ⟨d,op,ty,pos,aft,g⟩ a w K' Q else K' (a.put (aY.dst ⟨d,op,ty,pos,aft,g⟩) undef) w) (hs:Hf P md ops Q ks0 T fuel listed a w rs) (ho:ops[i]?=some ⟨d,op,ty,pos,aft,g⟩:=by rfl):Hf P md ops Q ks0 T fuel listed a w (i::rs):=A4v ho h hs
theorem zJ (i:Nat) {fuel:Nat} {listed:Array Bool} {a:Act} {w:aT} {d:Option Tmp} {g:Option (Nat×Bool)} {op:Op} {ty:aU} {pos:String} {aft:Array Edge} (h:∀K':Act->aT->Prop,(∀a w,T (El ks0 (listed.setIfInBounds i true)) w->C9 P md ops Q ks0 T fuel (listed.setIfInBounds i true) a w->K' a w)->if Region.wanted ⟨d,op,ty,pos,aft,g⟩ (yielded ops a.tmps)=true then aY.wp P ⟨d,op,ty,pos,aft,g⟩ a w K' Q else K' (a.put (aY.dst ⟨d,op,ty,pos,aft,g⟩) undef) w) (ho:ops[i]?=some ⟨d,op,ty,pos,aft,g⟩:=by rfl) (hr:Region.ready md ops listed= [i]:=by decide+kernel):C9 P md ops Q ks0 T (fuel+1) listed a w:=Bb hr (by simp) (A4v ho h Cq)
end
section
variable {P:aX} {md:Region.Mode} {ops:Array aY} {Q:Exit->Act->aT->Prop} {S:aT->Prop}
theorem zH (i:Nat) {d:Nat} {g:Option (Nat×Bool)} {v:aS} {op:Op} {ty:aU} {pos:String} {aft:Array Edge} {fuel:Nat} {listed:Array Bool} {a a':Act} {w:aT} (h:wpAnyH P md ops Q S fuel (listed.setIfInBounds i true) a' w) (hi:ops[i]?=some ⟨some d,op,ty,pos,aft,g⟩:=by rfl) (hr:∀w,S w->(execOp a.eval ⟨some d,op,ty,pos,aft,g⟩).run P w=.ok (.value v) w:=by (intro _ hW; go_simp; try rfl)) (hb:(Region.noSelect ops&&Region.free md ops listed i&&(Region.ready md ops listed).contains i)=true:=by kernel_rfl) (hQ:∀c a w,Q (.panic c) (a.put (some d) v) w->Q (.panic c) a w:=by exact λ _ _ _ h=>h) (hw:Region.wanted ⟨some d,op,ty,pos,aft,g⟩ (yielded ops a.tmps)=true:=by rfl) (ha:a.put (some d) v=a':=by (go_frame; rfl)) (hS:S w:=by (first | exact trivial | exact GV.refl _ _ _ _ | assumption)):wpAnyH P md ops Q S (fuel+1) listed a w:=by
  subst ha;exact tkH i d g v hi hb hQ hw hr hS h
end
theorem zw (d:Nat) {P:aX} {ops:Array aY} {rest:List aY} {a:Act} {w:aT} {Q:Exit->Act->aT->Prop} {op:Op} {ty:aU} {pos:String} {aft:Array Edge} {g:Option (Nat×Bool)} (h:wpList P ops Q (⟨some d,op,ty,pos,aft,g⟩::rest) a w):wpList P ops Q (⟨some d,op,ty,pos,aft,g⟩::rest) a w:=h
theorem zws (x y:Nat) {P:aX} {ops:Array aY} {rest:List aY} {a:Act} {w:aT} {Q:Exit->Act->aT->Prop} {t ty:aU} {pos:String} {aft:Array Edge} {g:Option (Nat×Bool)} (h:wpList P ops Q (⟨none,.store t (.tmp x) (.tmp y),ty,pos,aft,g⟩::rest) a w):wpList P ops Q (⟨none,.store t (.tmp x) (.tmp y),ty,pos,aft,g⟩::rest) a w:=h
theorem zq {K:Act->aT->Prop} {R:Act->aT->Prop} {Tp:aT->Prop} {a a':Act} {w:aT} (hK:∀a w,Tp w->R a w->K a w) (h:R a' w) (ha:a=a':=by (first | (go_frame; rfl) | rfl)) (hS:Tp w:=by (first | exact trivial | exact HS.o | ((try dsimp only); repeat' (first | exact trivial | exact Ac.zc HC.o | exact Ac.zpa HC.o | exact Ac.zca HC.o | exact Ac.zr HC.o | exact Ac.zrl HC.o | apply And.intro | (intro hb; exact absurd hb (by decide)) | intro _)))):K a w:=by
  subst ha;exact hK _ _ hS h
theorem zqp {K:Act->aT->Prop} {R:Act->aT->Prop} {a a':Act} {w:aT} (hK:∀a w,R a w->K a w) (h:R a' w) (ha:a=a':=by (first | (go_frame; rfl) | rfl)):K a w:=by
  subst ha;exact hK _ _ h
theorem zD {P:aX} {md:Region.Mode} {ops:Array aY} {Q:Exit->Act->aT->Prop} {ks0:List Nat} {T:List Bool->aT->Prop} {fuel:Nat} {listed:Array Bool} {a:Act} {w:aT} (h:Q .normal a w) (hr:Region.ready md ops listed= []:=by decide+kernel):C9 P md ops Q ks0 T fuel listed a w:=A5w hr h fuel
theorem zL {P:aX} {ops:Array aY} {rest:List aY} {a a':Act} {w:aT} {Q:Exit->Act->aT->Prop} {d:Nat} {v:aS} {lt:aU} {x:Operand} {p k:Nat} {ty:aU} {pos:String} {aft:Array Edge} {g:Option (Nat×Bool)} (h:wpList P ops Q rest a' w) (hx:a.eval x=.pointer (some ⟨p,k,none⟩):=by rfl) (hc:w.cell? ⟨p,k,none⟩=some v:=by (first | exact Ac.zc HC.o | exact Ac.zpa HC.o)) (hr:w.cell? ⟨p,k,none⟩=some v->(execOp a.eval ⟨some d,.load lt x,ty,pos,aft,g⟩).run P w=.ok (.value v) w:=by (intro c; go_simp; try rfl)) (hw:Region.wanted ⟨some d,.load lt x,ty,pos,aft,g⟩ (yielded ops a.tmps)=true:=by rfl) (ha:a.put (some d) v=a':=by (go_frame; rfl)):wpList P ops Q (⟨some d,.load lt x,ty,pos,aft,g⟩::rest) a w:=by
  subst ha;exact Mh d v hw (hr hc) h
theorem zLa {P:aX} {ops:Array aY} {rest:List aY} {a a':Act} {w:aT} {Q:Exit->Act->aT->Prop} {d:Nat} {lt:aU} {m:Nat} (hT:A9 P lt m) {cs:List aS} {x:Operand} {p k:Nat} {ty:aU} {pos:String} {aft:Array Edge} {g:Option (Nat×Bool)} (h:wpList P ops Q rest a' w) (hx:a.eval x=.pointer (some ⟨p,k,none⟩):=by rfl) (hc:Al w p k cs:=by (first | exact Ac.zca HC.o | exact Ac.zr HC.o | exact Ac.zrl HC.o)) (hm:cs.length=m:=by (first | rfl | exact Hq.o (by assumption))) (hw:Region.wanted ⟨some d,.load lt x,ty,pos,aft,g⟩ (yielded ops a.tmps)=true:=by rfl) (ha:a.put (some d) (.agg cs.toArray)=a':=by (go_frame; rfl)):wpList P ops Q (⟨some d,.load lt x,ty,pos,aft,g⟩::rest) a w:=by
  subst ha;exact Mh d _ hw (ldJ hT hx hm hc) h
theorem zG {P:aX} {ops:Array aY} {Q:Exit->Act->aT->Prop} (T:List Bool->aT->Prop) {id:Nat} {a:Act} {w:aT} {l:List Res} (hH:Ac w l) (h:∀W,Ac W l->C9 P .any ops Q [] T ops.size (Array.replicate ops.size false) a W) (hm:P.follows .mixedOrders=true:=by kernel_rfl):(Code.region id ops true).wp P Q a w:=
  Cx [] T hm (h _ hH.drew)
structure Zi (i:Nat) (l:List Res):Type where
structure Zj (i:Nat) (l:List Res) (x:Res) (r:List Res):Type where
  p:l.Perm (x::r)
instance {x:Res} {l:List Res} :HAdd (Zi 0 (x::l)) Unit (Zj 0 (x::l) x l):=⟨λ _ _=>⟨.refl _⟩⟩
instance {i:Nat} {x y:Res} {l r:List Res} [h:HAdd (Zi i l) Unit (Zj i l x r)]:HAdd (Zi (i+1) (y::l)) Unit (Zj (i+1) (y::l) x (y::r)):=⟨λ _ _=>⟨((h.hAdd ⟨⟩ ()).p.cons y).trans (.swap _ _ _)⟩⟩
structure Zp (is:List Nat) (l:List Res):Type where
structure Zq (is:List Nat) (l l':List Res):Type where
  p:l.Perm l'
instance {l:List Res} :HAdd (Zp [] l) Unit (Zq [] l l):=⟨λ _ _=>⟨.refl _⟩⟩
instance {i:Nat} {is:List Nat} {x:Res} {l r l':List Res} [h:HAdd (Zi i l) Unit (Zj i l x r)] [k:HAdd (Zp is r) Unit (Zq is r l')]:HAdd (Zp (i::is) l) Unit (Zq (i::is) l (x::l')):=⟨λ _ _=>⟨(h.hAdd ⟨⟩ ()).p.trans ((k.hAdd ⟨⟩ ()).p.cons x)⟩⟩
theorem Ac.zP {W:aT} {l l':List Res} (h:Ac W l) (is:List Nat) [z:HAdd (Zp is l) Unit (Zq is l l')]:Ac W l':=h.perm (z.hAdd ⟨⟩ ()).p
section
variable {P:aX} {ops:Array aY} {o:aY} {a:Act} {w:aT} {K:Act->aT->Prop} {Q:Exit->Act->aT->Prop} {E:Prop} {l:List Res}
theorem zN (f:Nat->aS) (cs:List aS) (T:aU) (hC:Ac w l) (h:∀b w',Hq (Ac w' (.blk b cs T::l))->K (a.put o.dst (f b)) w') (hgd:o.guard=none:=by rfl)
    (hr:(execOp a.eval o).run P w=.ok (.value (f w.heap.size)) (w.alloc (.cells cs.toArray T)):=by (go_simp; try rfl)):if Region.wanted o (yielded ops a.tmps)=true then aY.wp P o a w K Q else E:=
  Yd f cs T hgd hr hC λ b w' h2=>h b w' (hqZ h2)
theorem zNp (cs:List aS) (T:aU) (hC:Ac w l) (h:∀b w',Hq (Ac w' (.blk b cs T::l))->K (a.put o.dst (.pointer (some ⟨b,0,none⟩))) w') (hgd:o.guard=none:=by rfl)
    (hr:(execOp a.eval o).run P w=.ok (.value (.pointer (some ⟨w.heap.size,0,none⟩))) (w.alloc (.cells cs.toArray T)):=by (go_simp; try rfl)):if Region.wanted o (yielded ops a.tmps)=true then aY.wp P o a w K Q else E:=
  Yd (λ b=>.pointer (some ⟨b,0,none⟩)) cs T hgd hr hC λ b w' h2=>h b w' (hqZ h2)
theorem zWo {x y:Operand} {ty:aU} {m g:Nat} {vs cur:List aS} {T:aU} (hT:A9 P ty m) (h1:∀v∈vs,v.oneCell'=true) (hH:Ac w (.blk g cur T::l)) (h:∀w',Hq (Ac w' (.blk g vs T::l))->K (a.put o.dst undef) w') (hgd:o.guard=none:=by rfl) (ho:o.op=.store ty x y:=by rfl)
    (hx:a.eval x=.pointer (some ⟨g,0,none⟩):=by rfl) (hy:a.eval y=.agg vs.toArray:=by rfl) (hm:vs.length=m:=by rfl) (hl:cur.length=m:=by rfl):if Region.wanted o (yielded ops a.tmps)=true then aY.wp P o a w K Q else E:=
  D7 hgd x y hT ho hx hy hm hH.blk0 (by omega) h1 λ w' hd kd=>h w' (hqZ (hH.stW hd kd hl))
theorem zW {x y:Operand} {ty:aU} {m g:Nat} {vs cur:List aS} {T:aU} (hT:A9 P ty m) (hH:Ac w (.blk g cur T::l)) (h:∀w',Hq (Ac w' (.blk g vs T::l))->K (a.put o.dst undef) w') (hgd:o.guard=none:=by rfl) (ho:o.op=.store ty x y:=by rfl)
    (hx:a.eval x=.pointer (some ⟨g,0,none⟩):=by rfl) (hy:a.eval y=.agg vs.toArray:=by rfl) (h1:(vs.all λ v=>v.oneCell')=true:=by rfl) (hm:vs.length=m:=by rfl) (hl:cur.length=m:=by rfl):if Region.wanted o (yielded ops a.tmps)=true then aY.wp P o a w K Q else E:=
  zWo hT (λ v hv=>List.all_eq_true.1 h1 v hv) hH h hgd ho hx hy hm hl
theorem zWp {x y:Operand} {ty:aU} {m g off:Nat} {vs cur cs:List aS} {T:aU} (hT:A9 P ty m) (hH:Ac w (.blk g cur T::l)) (h:∀w',Hq (Ac w' (.blk g cs T::l))->K (a.put o.dst undef) w') (hgd:o.guard=none:=by rfl) (ho:o.op=.store ty x y:=by rfl)
    (hx:a.eval x=.pointer (some ⟨g,off,none⟩):=by rfl) (hy:a.eval y=.agg vs.toArray:=by rfl) (h1:(vs.all λ v=>v.oneCell')=true:=by rfl) (hm:vs.length=m:=by rfl) (hf:off+m<=cur.length:=by (first | decide | simp))
    (hc:cur.take off++vs++cur.drop (off+m)=cs:=by (simp only [Nat.reduceAdd,List.take_succ_cons,aL,List.drop_succ_cons,aM,List.cons_append,List.nil_append,List.append_nil,List.drop_nil]; rfl)):if Region.wanted o (yielded ops a.tmps)=true then aY.wp P o a w K Q else E:=by
  subst hc;exact D7 hgd x y hT ho hx hy hm hH.blk0 hf (λ v hv=>List.all_eq_true.1 h1 v hv) λ w' hd kd=>h w' (hqZ (hH.reblk hd kd))
theorem zS1 {x y:Operand} {ty:aU} {g off:Nat} {v:aS} {cur cs:List aS} {T:aU} (hH:Ac w (.blk g cur T::l)) (h:∀w',Hq (Ac w' (.blk g cs T::l))->K (a.put o.dst undef) w') (hgd:o.guard=none:=by rfl) (ho:o.op=.store ty x y:=by rfl)
    (hx:a.eval x=.pointer (some ⟨g,off,none⟩):=by rfl) (hy:a.eval y=v:=by rfl) (hf:off<cur.length:=by (first | decide | simp)) (h1:v.oneCell'=true:=by rfl) (hc:cur.set off v=cs:=by (simp only [List.set_cons_zero,List.set_cons_succ]; rfl)) (hT:On P ty:=by exact On.mk (by kernel_rfl)):if Region.wanted o (yielded ops a.tmps)=true then aY.wp P o a w K Q else E:=by
  subst hc;exact R0 hgd x y hT ho hx hy hH.blk0 hf h1 λ w' hd kd=>h w' (hqZ (hH.st1 hd kd))
end
end
end Go.Proofs.YtbmjjfhpllpiaaaGreat
namespace Go.Proofs.YtbmjjfhpllpiaaaGreat
open Go.ChangeShapes Go.WideShapes Go.ChangeAt Go.RowKit
theorem A4Z:ownKnob Tryz.prog.godebug=none:=by kernel_rfl
theorem A0f:laidOutB aA=true:=by kernel_rfl
theorem Ly {H:Type} {enc:aU×aS->H} {P:aX} (hl:laidOutB P=true) {W W':aT} (hb:Below W.heap.size W W'):∀ {ts:List aU} {vs:List aS} {ds:List (DataW H)} {ps:List MemPlace}, (ts.all λ t=>P.readableRec t&&decide (t<P.types.size))=true->DataW.TrodAll enc P W 0 (λ _=>true) true ts vs ds ps-> DataW.TrodAll enc P W' 0 (λ b=>decide (b<W.heap.size)) true ts vs ds ps
  | [], [], [],ps,_,h=>h
  | t::ts,v::vs,d::ds,ps,hr,h=>by
    obtain ⟨p,q,h1,h2,rfl⟩:=h;simp only [List.all_cons,Bool.and_eq_true,decide_eq_true_eq] at hr;exact ⟨p,q,Below.trod hl hr.1.1 hr.1.2 h1 hb (by obtain ⟨m,hm⟩:=h1; exact DataW.trod_lt m _ _ _ hm),Ly hl hb hr.2 h2,rfl⟩
  | [],_::_,_,_,_,h=>h.elim
  | [], [],_::_,_,_,h=>h.elim
  | _::_, [],_,_,_,h=>h.elim
  | _::_,_::_, [],_,_,h=>h.elim
end Go.Proofs.YtbmjjfhpllpiaaaGreat
namespace Go.Proofs.YtbmjjfhpllpiaaaGreat
open Go.RowKit
theorem Dl:C5 aA 29 5 1 1 (.int .u8 0):=by
  refine C5.mk aH ?_ rfl (by decide)
  kernel_rfl
theorem A3M (w:aT) (n:Nat) (C:Int) (hC:C=n) (hn:n<=281474976710656): (Instr.makeSlice 29 (.int .i64 C) (.int .i64 C)).run aA w=.ok (.slice (some ⟨w.heap.size,0,none⟩) n n) (w.alloc (.cells (aD n (.int .u8 0)).toArray 5)):=by
  obtain ⟨ht,i,hi,hz,hsize,hby,hzs,hsz⟩:=Dl;subst hC;rw [run_make w _ _ i _ ht hi hz .i64 .i64 n n (by omega) (Int.le_refl _) (by rw [hby]; omega) (by omega),hsize];simp only [Int.toNat_natCast,Nat.mul_one];rw [<-toList_madeCells_one];rfl
inductive Tv where
  | mk (kind tag:Int) (n:Nat) (b:List UInt8) (l:List Tv)
def Tv.kind:Tv->Int | .mk k _ _ _ _=>k
def Tv.tag:Tv->Int | .mk _ t _ _ _=>t
def Tv.n:Tv->Nat | .mk _ _ n _ _=>n
def Tv.b:Tv->List UInt8 | .mk _ _ _ b _=>b
def Tv.l:Tv->List Tv | .mk _ _ _ _ l=>l
def Tv.zero:Tv:=.mk 0 0 0 [] []
mutual
/--The five cells of a value; F:the blocks that its rows may lie in. -/
def TvF (w:aT) (F:Nat->Prop):Tv->List aS->Prop
  | .mk k t n b l,cs=>∃(bv lv:aS) (rows:List aS),cs= [.int .i64 k,.int .i64 t,.int .u64 (n:Int),bv,lv]/\Bs w bv b/\(0<b.length->∀x,bv.ownBlock=some x->F x)/\
      Sl w 5 lv l.length rows/\(0<l.length->∀x,lv.ownBlock=some x->F x)/\C6 w F l rows
def C6 (w:aT) (F:Nat->Prop):List Tv->List aS->Prop
  | [],cs=>cs= []
  | x::l,cs=>∃r rs,cs=r++rs/\TvF w F x r/\C6 w F l rs
end
theorem TvF.length {w:aT} {F:Nat->Prop} :∀ {x:Tv} {cs:List aS},TvF w F x cs->cs.length=5
  | .mk _ _ _ _ _,cs,h=>by
    obtain ⟨bv,lv,rows,rfl,_⟩:=h;rfl
theorem TvF.one {w:aT} {F:Nat->Prop} :∀ {x:Tv} {cs:List aS},TvF w F x cs->∀u∈cs,u.oneCell'=true
  | .mk _ _ _ _ _,cs,h=>by
    obtain ⟨bv,lv,rows,rfl,hb,_,hl,_⟩:=h;obtain ⟨a,c,e,_⟩:=hb.form;obtain ⟨a2,c2,e2,_⟩:=hl.form;subst e e2;intro u hu;simp only [List.mem_cons,List.not_mem_nil,or_false] at hu;rcases hu with rfl | rfl | rfl | rfl | rfl <;> rfl
mutual
theorem TvF.keep' {w w':aT} {F G S:Nat->Prop} (hk:Ai S w w') (hs:∀b,F b->b<w.heap.size->¬S b) (hg:∀b,F b->G b):∀(x:Tv) (cs:List aS),TvF w F x cs->TvF w' G x cs
  | .mk k t n b l,cs,h=>by
    obtain ⟨bv,lv,rows,e,h1,h2,h3,h4,h5⟩:=h;exact ⟨bv,lv,rows,e,Sl.keepF h1 hk h2 hs,λ hp x hx=>hg x (h2 hp x hx),Sl.keepF h3 hk h4 hs,λ hp x hx=>hg x (h4 hp x hx),C6.keep' hk hs hg l rows h5⟩
theorem C6.keep' {w w':aT} {F G S:Nat->Prop} (hk:Ai S w w') (hs:∀b,F b->b<w.heap.size->¬S b) (hg:∀b,F b->G b):∀(l:List Tv) (cs:List aS),C6 w F l cs->C6 w' G l cs
  | [],cs,h=>h
  | x::l,cs,h=>by
    obtain ⟨r,rs,e,h1,h2⟩:=h;exact ⟨r,rs,e,TvF.keep' hk hs hg x r h1,C6.keep' hk hs hg l rs h2⟩
end
theorem TvF.below {w w':aT} {F:Nat->Prop} {x:Tv} {cs:List aS} (h:TvF w F x cs) (hb:Below w.heap.size w w'):TvF w' F x cs:=
  TvF.keep' (Ai.of_below hb) (λ _ _ hl hs=>by omega) (λ _ h=>h) x cs h
theorem C6.below {w w':aT} {F:Nat->Prop} {l:List Tv} {cs:List aS} (h:C6 w F l cs) (hb:Below w.heap.size w w'):C6 w' F l cs:=
  C6.keep' (Ai.of_below hb) (λ _ _ hl hs=>by omega) (λ _ h=>h) l cs h
theorem TvF.keep {w w':aT} {F S:Nat->Prop} {x:Tv} {cs:List aS} (h:TvF w F x cs) (hk:Ai S w w') (hs:∀b,F b->b<w.heap.size->¬S b):TvF w' F x cs:=
  TvF.keep' hk hs (λ _ h=>h) x cs h
theorem C6.keep {w w':aT} {F S:Nat->Prop} {l:List Tv} {cs:List aS} (h:C6 w F l cs) (hk:Ai S w w') (hs:∀b,F b->b<w.heap.size->¬S b):C6 w' F l cs:=
  C6.keep' hk hs (λ _ h=>h) l cs h
theorem TvF.mono {w:aT} {F G:Nat->Prop} {x:Tv} {cs:List aS} (h:TvF w F x cs) (hg:∀b,F b->G b):TvF w G x cs:=
  TvF.keep' (Ai.refl (λ _=>False) w) (λ _ _ _ h=>h) hg x cs h
theorem C6.mono {w:aT} {F G:Nat->Prop} {l:List Tv} {cs:List aS} (h:C6 w F l cs) (hg:∀b,F b->G b):C6 w G l cs:=
  C6.keep' (Ai.refl (λ _=>False) w) (λ _ _ _ h=>h) hg l cs h
theorem C6.length {w:aT} {F:Nat->Prop} :∀ {l:List Tv} {cs:List aS},C6 w F l cs->cs.length=l.length*5
  | [],cs,h=>by rw [show cs= [] from h]; rfl
  | x::l,cs,h=>by
    obtain ⟨r,rs,rfl,h1,h2⟩:=h;rw [List.length_append,h1.length,C6.length h2,List.length_cons];omega
theorem C6.snoc {w:aT} {F:Nat->Prop} :∀ {l:List Tv} {cs:List aS} {x:Tv} {r:List aS},C6 w F l cs->TvF w F x r->C6 w F (l++ [x]) (cs++r)
  | [],cs,x,r,h,hx=>by
    rw [show cs= [] from h];exact ⟨r, [],by simp,hx,rfl⟩
  | y::l,cs,x,r,h,hx=>by
    obtain ⟨r1,rs,rfl,h1,h2⟩:=h;exact ⟨r1,rs++r,by simp,h1,C6.snoc h2 hx⟩
theorem C6.at_ {w:aT} {F:Nat->Prop} :∀ {l:List Tv} {cs:List aS},C6 w F l cs->∀(k:Nat) (hk:k<l.length),TvF w F l[k] ((cs.drop (k*5)).take 5)
  | [],cs,h,k,hk=>by simp at hk
  | x::l,cs,h,0,hk=>by
    obtain ⟨r,rs,rfl,h1,h2⟩:=h;rw [Nat.zero_mul,aM,List.take_append_of_le_length (by rw [h1.length]; exact Nat.le_refl _),aN (by rw [h1.length]; exact Nat.le_refl _)];exact h1
  | x::l,cs,h,k+1,hk=>by
    obtain ⟨r,rs,rfl,h1,h2⟩:=h;rw [show (k+1)*5=r.length+k*5 by rw [h1.length]; omega,List.drop_length_add_append];exact C6.at_ h2 k (by simpa using hk)
theorem C6.cells {w:aT} {F:Nat->Prop} {l:List Tv} {cs:List aS} (h:C6 w F l cs) {b o cap:Nat} (hs:Sl w 5 (.slice (some ⟨b,o,none⟩) l.length cap) l.length cs) (k:Nat) (hk:k<l.length): ∃r,TvF w F l[k] r/\Al w b (o+k*5) r:=by
  refine ⟨_,h.at_ k hk,λ j u hj=>?_⟩;obtain ⟨b',o',e,hc⟩:=hs.addr (by rw [hs.1]; omega);simp only [Option.some.injEq,Addr.mk.injEq,and_true] at e;obtain ⟨rfl,rfl⟩:=e;rw [List.getElem?_take] at hj;split at hj
  · rw [aO] at hj;rw [Nat.add_assoc];exact hc _ u hj
  · simp at hj
theorem TvF.open_ {w:aT} {F:Nat->Prop} {x:Tv} {cs:List aS} (h:TvF w F x cs):∃(bv lv:aS) (rows:List aS),cs= [.int .i64 x.kind,.int .i64 x.tag,.int .u64 (x.n:Int),bv,lv]/\Bs w bv x.b/\(0<x.b.length->∀y,bv.ownBlock=some y->F y)/\ Sl w 5 lv x.l.length rows/\(0<x.l.length->∀y,lv.ownBlock=some y->F y)/\C6 w F x.l rows:=by
  cases x
  exact h
theorem TvF.mk {w:aT} {F:Nat->Prop} {k t:Int} {n:Nat} {b:List UInt8} {l:List Tv} {bv lv:aS} {rows:List aS} (h1:Bs w bv b) (h2:∀y,bv.ownBlock=some y->F y) (h3:Sl w 5 lv l.length rows) (h4:∀y,lv.ownBlock=some y->F y) (h5:C6 w F l rows): TvF w F (.mk k t n b l) [.int .i64 k,.int .i64 t,.int .u64 (n:Int),bv,lv]:=⟨bv,lv,rows,rfl,h1,λ _=>h2,h3,λ _=>h4,h5⟩
theorem TvF.zero (w:aT) (F:Nat->Prop):TvF w F Tv.zero [.int .i64 0,.int .i64 0,.int .u64 0,.slice none 0 0,.slice none 0 0]:=
  TvF.mk (Sl.nil _ _ _) (by simp [aS.ownBlock]) (Sl.nil _ _ _) (by simp [aS.ownBlock]) rfl
mutual
/--Only blocks that are there count. -/
theorem TvF.tight {w:aT} {F:Nat->Prop} :∀(x:Tv) (cs:List aS),TvF w F x cs->TvF w (λ y=>F y/\y<w.heap.size) x cs
  | .mk k t n b l,cs,h=>by
    obtain ⟨bv,lv,rows,e,h1,h2,h3,h4,h5⟩:=h;exact ⟨bv,lv,rows,e,h1,λ hp x hx=>⟨h2 hp x hx,Sl.own_lt h1 (by decide) hp x hx⟩,h3,λ hp x hx=>⟨h4 hp x hx,Sl.own_lt h3 (by decide) hp x hx⟩,C6.tight l rows h5⟩
theorem C6.tight {w:aT} {F:Nat->Prop} :∀(l:List Tv) (cs:List aS),C6 w F l cs->C6 w (λ y=>F y/\y<w.heap.size) l cs
  | [],cs,h=>h
  | x::l,cs,h=>by
    obtain ⟨r,rs,e,h1,h2⟩:=h;exact ⟨r,rs,e,TvF.tight x r h1,C6.tight l rs h2⟩
end
mutual
theorem A3l {P:Tv->Prop} (h:∀k t n b l,(∀x∈l,P x)->P (.mk k t n b l)):∀x:Tv,P x
  | .mk k t n b l=>h k t n b l (A1j h l)
theorem A1j {P:Tv->Prop} (h:∀k t n b l,(∀x∈l,P x)->P (.mk k t n b l)):∀l:List Tv,∀x∈l,P x
  | [],x,hx=>by simp at hx
  | y::l,x,hx=>by
    rcases List.mem_cons.1 hx with e | hx
    · rw [e]; exact A3l h y
    · exact A1j h l x hx
end
def Db (n:Nat):List UInt8:=(List.range 8).map λ i=>UInt8.ofNat (n / 2 ^ (56-8*i) % 256)
theorem Cc (n:Nat):(Db n).length=8:=by simp [Db]
theorem A2S (n k:Nat) (h:k<8):(Db n)[k]?=some (UInt8.ofNat (n / 2 ^ (56-8*k) % 256)):=by simp [Db,h]
theorem U9 (n:Nat) (w:aT): aV aA 48 #[.int .u64 n] w λ e w'=>e=.returned (.slice (some ⟨w.heap.size,0,none⟩) 8 8)/\Dr w' w.heap.size (.slice (some ⟨w.heap.size,0,none⟩) 8 8) (Db n)/\Below w.heap.size w w'/\Blk w' w.heap.size (Ab (Db n)) 5:=by
  have hmk:=λ w=>A3M w 8 8 rfl (by decide)
  simp only [aD,List.toArray] at hmk;have hpl:=Cc n;go_enter Tryz.func48,Tryz.ntmps48;go_wp2;go_loopw [8] (λ i wr=>∃k:Nat,k<=8/\i=.int .i64 k/\Blk wr w.heap.size ((Ab (Db n)).take k++aD (8-k) (.int .u8 0)) 5/\Below w.heap.size w wr) (λ i _=>8- (intOf i).toNat)
  case atStart=>exact ⟨0,by omega,rfl,Blk.new w (aD 8 (.int .u8 0)) _,(Below.refl _ _).alloc (Nat.le_refl _) _⟩
  case round=>
    obtain ⟨k,hk,rfl,hb,hbel⟩:=hrel;have HB:=hqZ hb;by_cases hlt:k<8
    · have h1:(k:Int)<8:=by omega
      have hf:=hb.frozen k;have hc:wr.cell? ⟨w.heap.size,k,none⟩=some (.int .u8 0):=by
        rw [hb.cell,List.getElem?_append_right (by simp [Aa]; omega)];rw [aF,Aa,hpl,show k-min k 8=0 by omega,show 8-k=(7-k)+1 by omega];rfl
      have hst:Hq (Blk (wr.setCell ⟨w.heap.size,k,none⟩ (.int .u8 ((n:Int) / 2 ^ (56-8*k) % 256))) w.heap.size ((Ab (Db n)).take (k+1)++aD (8- (k+1)) (.int .u8 0)) 5):=by
        have:=hb.set k (.int .u8 ((n:Int) / 2 ^ (56-8*k) % 256));refine hqZ ?_;have e:((Ab (Db n)).take k++aD (8-k) (aS.int .u8 0)).set k (.int .u8 ((n:Int) / 2 ^ (56-8*k) % 256))=(Ab (Db n)).take (k+1)++aD (8- (k+1)) (.int .u8 0):=by
          have hkl:k< (Ab (Db n)).length:=by rw [Aa]; omega
          rw [List.set_append_right _ _ (by simp [Aa]; omega),aP hkl];have hg:(Ab (Db n))[k]=.int .u8 ((n:Int) / 2 ^ (56-8*k) % 256):=by
            have h2:=Cu (Db n) k (by omega);rw [aI hkl,Option.some.injEq] at h2;have h3:=A2S n k hlt;rw [aI (by omega),Option.some.injEq] at h3;rw [h2,h3,I6 _ (Nat.mod_lt _ (by decide))];simp
          rw [hg,List.append_assoc];congr 1;rw [show k- ((Ab (Db n)).take k).length=0 by simp [Aa]; omega,show 8-k=(8- (k+1))+1 by omega];rfl
        rw [<-e];exact this
      clear hb;go_wp2;go_roundw
      case rel=>exact ⟨k+1,by omega,by go_num,hst.o,hbel.setCell (Nat.le_refl _) _⟩
      case measure=>simp [intOf]; omega
    · obtain rfl:k=8:=by omega
      have hb8:Blk wr w.heap.size (Ab (Db n)) 5:=by
        have:=hb;rw [aN (by rw [Aa]; omega)] at this;simpa using this
      have HB8:=hqZ hb8;clear hb hb8;go_wp2;go_ret;have ho:=HB8.o.own (B:=w.heap.size) (Nat.le_refl _) (Ak _) (by rw [Aa,hpl]; decide);rw [Aa,hpl] at ho;refine ⟨rfl,?_,hbel,HB8.o⟩;unfold Dr;rw [hpl];exact ho
theorem Xm (a:Option Addr) (len cap:Nat) (i:Int) (w:aT) (h:(len:Int)<=i): aV aA 105 #[.slice a len cap,.int .i64 i] w λ e w'=>e=.returned (.int .u8 0)/\w=w':=by
  go_enter aQ,aR;go_wp2;go_ret;exact ⟨rfl,rfl⟩
theorem A0b (b off:Nat) (len cap:Nat) (i:Int) (x:Int) (w:aT) (h0:0<=i) (h:i<len) (hc:w.cell? ⟨b,off+i.toNat,none⟩=some (.int .u8 x)): aV aA 105 #[.slice (some ⟨b,off,none⟩) len cap,.int .i64 i] w λ e w'=>e=.returned (.int .u8 x)/\w=w':=by
  go_enter aQ,aR;go_wp2;go_ret;exact ⟨rfl,rfl⟩
theorem O8 (v:aS) (l:List UInt8) (i:Nat) (w:aT) (h:Bs w v l): aV aA 105 #[v,.int .i64 i] w λ e w'=>e=.returned (bV (l.getD i 0))/\w=w':=by
  obtain ⟨a,cap,rfl,_⟩:=h.form;by_cases hi:i<l.length
  · obtain ⟨b,off,rfl,hc⟩:=h.addr (by simp [Ab]; omega);have hc':=hc i (bV (l.getD i 0)) (by simp [Ab,hi]);exact A0b b off _ _ i _ w (by omega) (by omega) (by simpa [bV] using hc')
  · have:l.getD i 0=0:=by simp [List.getD,List.getElem?_eq_none (Nat.le_of_not_lt hi)]
    rw [this];exact Xm _ _ _ _ _ (by omega)
theorem A0F (x:UInt8):(x.toNat:Int)=0↔x=0:=by
  constructor
  · intro h;exact UInt8.toNat_inj.1 (by simpa using h)
  · rintro rfl; rfl
theorem A4l (D x y:UInt8):aS.int .u8 (bits .or .u8 (D.toNat:Int) (bits .xor .u8 (x.toNat:Int) (y.toNat:Int)))=.int .u8 ((D||| (x ^^^ y)).toNat):=by
  rw [u8_xor_nat _ _ x.toNat_lt y.toNat_lt,<-UInt8.toNat_xor,u8_or_nat _ _ D.toNat_lt (UInt8.toNat_lt _),<-UInt8.toNat_or]
theorem A0u (a b:UInt8):a||| b=0↔a=0/\b=0:=by
  constructor
  · intro h;have h1:a.toNat||| b.toNat=0:=by rw [<-UInt8.toNat_or,h]; rfl
    have h2:=Nat.or_eq_zero_iff.1 h1;exact ⟨UInt8.toNat_inj.1 h2.1,UInt8.toNat_inj.1 h2.2⟩
  · rintro ⟨rfl,rfl⟩; rfl
theorem Yt (a b:UInt8):a ^^^ b=0↔a=b:=by
  constructor
  · intro h;have h1:(a ^^^ b) ^^^ b=0 ^^^ b:=by rw [h]
    simpa [UInt8.xor_assoc] using h1
  · rintro rfl; simp
theorem A2q {a b:List UInt8} (hl:a.length=b.length):(∀j,j<max a.length b.length->a.getD j 0=b.getD j 0)↔a=b:=by
  constructor
  · intro h;apply List.ext_getElem hl;intro i h1 h2
    have:=h i (by omega);simpa [h1,h2] using this
  · rintro rfl _ _; rfl
theorem N1 (v u:aS) (a b:List UInt8) (w:aT) (ha:Bs w v a) (hb:Bs w u b): aV aA 74 #[v,u] w λ e w'=>e=.returned (.bool (decide (a=b)))/\w=w':=by
  have HA:=hqZ ha;have HB:=hqZ hb;obtain ⟨ad,cap,rfl,hcap,hcm⟩:=ha.form;obtain ⟨bd,cap',rfl,hcap',hcm'⟩:=hb.form;clear ha hb;unfold maxLen at hcm hcm';go_enter Tryz.func74,Tryz.ntmps74;go_wp2_with fail
  all_goals
    go_loop [5,12] (λ d i=>∃(k:Nat) (D:UInt8),k<=max a.length b.length/\i=.int .i64 k/\d=.int .u8 D.toNat/\(D=0↔∀j,j<k->a.getD j 0=b.getD j 0)) (λ _ i=>max a.length b.length- (intOf i).toNat)
    case atStart=>exact ⟨0,0,Nat.zero_le _,rfl,rfl,by simp⟩
    case round=>
      obtain ⟨k,D,hk,rfl,rfl,hD⟩:=hrel;have HD:=hqZ hD;clear hD;by_cases hlt:k<max a.length b.length
      · obtain ⟨X,hX⟩:∃X,a.getD k 0=X:=⟨_,rfl⟩
        obtain ⟨Y,hY⟩:∃Y,b.getD k 0=Y:=⟨_,rfl⟩
        have cA:=O8 _ a k w HA.o;have cB:=O8 _ b k w HB.o;rw [hX] at cA;rw [hY] at cB;have CA:=hqZ cA;have CB:=hqZ cB;have HX:=hqZ hX;have HY:=hqZ hY;have HS:=hqZ (A4l D X Y);clear cA cB hX hY;go_wp2_with fail;refine CA.o.mono ?_;rintro e w' ⟨rfl,rfl⟩;go_wp2_with fail;refine CB.o.mono ?_;rintro e w' ⟨rfl,rfl⟩;unfold bV;go_wp2_with fail;go_round
        case rel=>
          refine ⟨k+1,D||| (X ^^^ Y),by omega,by go_num,HS.o,?_⟩
          · rw [A0u,Yt,HD.o,<-HX.o,<-HY.o];constructor
            · rintro ⟨h1,h2⟩ j hj;rcases Nat.lt_or_ge j k with h3 | h3
              · exact h1 j h3
              · obtain rfl:j=k:=by omega
                exact h2
            · intro h;exact ⟨λ j hj=>h j (by omega),h k (by omega)⟩
        case measure=>simp [intOf]; omega
      · obtain rfl:k=max a.length b.length:=by omega
        have hfin:(decide (a=b))=(decide (D=0)&&decide (a.length=b.length)):=by
          rw [Bool.eq_iff_iff,Bool.and_eq_true,decide_eq_true_eq,decide_eq_true_eq,decide_eq_true_eq];constructor
          · rintro rfl;exact ⟨HD.o.2 (λ _ _=>rfl),rfl⟩
          · rintro ⟨h1,h2⟩;exact (A2q h2).1 (HD.o.1 h1)
        have HF:=hqZ hfin;clear hfin;by_cases h0:D=0
        · have h0':((D.toNat:Int)==0)=true:=by rw [h0]; rfl
          by_cases hl:a.length=b.length
          · have hl':((a.length:Int)==(b.length:Int))=true:=by simp [hl]
            have HR:Hq (decide (a=b)=true):=hqZ (by rw [HF.o,h0,hl]; simp);clear h0 hl;go_wp2_with fail;go_ret;rw [HR.o];exact ⟨rfl,rfl⟩
          · have hl':((a.length:Int)==(b.length:Int))=false:=by rw [beq_eq_false_iff_ne]; omega
            have HR:Hq (decide (a=b)=false):=hqZ (by rw [HF.o]; simp [hl]);clear h0 hl;go_wp2_with fail;go_ret;rw [HR.o];exact ⟨rfl,rfl⟩
        · have h0':((D.toNat:Int)==0)=false:=by
            rw [beq_eq_false_iff_ne];intro e;exact h0 ((A0F _).1 e)
          have HR:Hq (decide (a=b)=false):=hqZ (by rw [HF.o]; simp [h0]);clear h0;go_wp2_with fail;go_ret;rw [HR.o];exact ⟨rfl,rfl⟩
def Ec (l:List UInt8):Nat:=l.foldl (λ n c=>n*256+c.toNat) 0
theorem Lf (l:List UInt8) (c:UInt8):Ec (l++ [c])=Ec l*256+c.toNat:=by simp [Ec]
theorem Ld (l:List UInt8):Ec l<256 ^ l.length:=by
  suffices ∀(l:List UInt8) (n k:Nat),n<256 ^ k->l.foldl (λ n c=>n*256+c.toNat) n<256 ^ (k+l.length) from by simpa [Ec] using this l 0 0 (by decide)
  intro l;induction l with
  | nil=>intro n k h; simpa using h
  | cons c l ih=>
    intro n k h
    have:=ih (n*256+c.toNat) (k+1) (by have:=c.toNat_lt; rw [Nat.pow_succ]; omega);simpa [Nat.add_assoc,Nat.add_comm 1] using this
theorem A1z (n c:Nat) (hc:c<256):(n*256)||| c=n*256+c:=by
  have:=Nat.shiftLeft_add_eq_or_of_lt (b:=c) (i:=8) (by simpa using hc) n;rw [Nat.shiftLeft_eq] at this;simpa using this.symm
theorem V1 (n c:Nat) (hc:c<256) (h:n*256+c<18446744073709551616):bits BinOp.or aW.u64 (aW.u64.wrap ((n:Int)*256)) (aW.u64.wrap (c:Int))=((n*256+c:Nat):Int):=by
  have e1:aW.u64.wrap ((n:Int)*256)=((n*256:Nat):Int):=by rw [aW.wrap_u64]; omega
  have e2:aW.u64.wrap (c:Int)=(c:Int):=by rw [aW.wrap_u64]; omega
  rw [e1,e2,u64_or_nat _ _ (by omega) (by omega),A1z n c hc]
def Fp (l:List UInt8):Nat×Bool:=if l.length=0\/8<l.length then (0,false) else (Ec l,true)
theorem Lg (v:aS) (l:List UInt8) (w:aT) (h:Bs w v l): aV aA 78 #[v] w λ e w'=>e=.returned (.tuple #[.int .u64 (Fp l).1,.bool (Fp l).2])/\w=w':=by
  obtain ⟨a,cap,rfl,hcap,hcm⟩:=h.form;unfold maxLen at hcm;by_cases h0:l.length=0
  · have h0':((l.length:Int)==0)=true:=by simp [h0]
    have HG:Hq (Fp l=(0,false)):=hqZ (by simp [Fp,h0]);clear h0;go_enter aJ,aK;go_wp2;go_ret2;rw [HG.o];exact ⟨rfl,rfl⟩
  · have h0':((l.length:Int)==0)=false:=by simp; intro e; exact h0 (by simp [e])
    by_cases h8:(8:Int)<l.length
    · have HG:Hq (Fp l=(0,false)):=hqZ (by simp only [Fp]; rw [if_pos (by omega)]);go_enter aJ,aK;go_wp2;go_ret2;rw [HG.o];exact ⟨rfl,rfl⟩
    · have HG:Hq (Fp l=(Ec l,true)):=hqZ (by simp only [Fp]; rw [if_neg (by omega)]);obtain ⟨b,off,rfl,hc⟩:=h.addr (by rw [Aa]; omega);have HC:=hqZ hc;clear hc h;go_enter aJ,aK;go_wp2;go_loop [4,17] (λ n i=>∃k:Nat,k<=l.length/\i=.int .i64 k/\n=.int .u64 (Ec (l.take k))) (λ _ i=>l.length- (intOf i).toNat)
      case atStart=>exact ⟨0,Nat.zero_le _,rfl,rfl⟩
      case round=>
        obtain ⟨k,hk,rfl,rfl⟩:=hrel;by_cases hlt:k<l.length
        · have c0:w.cell? ⟨b,off+k,none⟩=some (.int .u8 l[k].toNat):=HC.o k _ (Cu l k hlt);have hL:l.length<=8:=by omega
          have hX:Hq (aS.int .u64 (bits .or .u64 (aW.u64.wrap ((Ec (l.take k):Int)*256)) (aW.u64.wrap (l[k].toNat:Int)))=.int .u64 (Ec (l.take (k+1)))):=by
            refine hqZ ?_;rw [aP hlt,Lf,V1 _ _ l[k].toNat_lt];have h1:=Ld (l.take k);have h2:(l.take k).length<=7:=by rw [aF]; omega
            have h3:(256:Nat) ^ (l.take k).length<=256 ^ 7:=Nat.pow_le_pow_right (by decide) h2
            have:=l[k].toNat_lt;omega
          clear hL;go_wp2;go_round
          case rel=>exact ⟨k+1,by omega,by go_num,hX.o⟩
          case measure=>simp [intOf]; omega
        · obtain rfl:k=l.length:=by omega
          go_wp2;go_ret2;rw [HG.o];exact ⟨by simp,rfl⟩
def Df:List UInt8->List UInt8
  | []=> []
  | [x]=> [x]
  | x::y::l=>if x=0 then Df (y::l) else x::y::l
def Cb (n:Nat):List UInt8:=Df (Db n)
theorem Og (l:List UInt8) (j:Nat) (h:j+1<l.length) (h0:l[j]=0):Df (l.drop j)=Df (l.drop (j+1)):=by
  rw [aG (by omega:j<l.length),aG h,h0];simp [Df]
theorem Jl (l:List UInt8) (j:Nat) (h:j<l.length) (h0:j+1=l.length\/l[j]≠0):Df (l.drop j)=l.drop j:=by
  rw [aG h];rcases Nat.lt_or_ge (j+1) l.length with h1 | h1
  · rw [aG h1]
    have:l[j]≠0:=h0.resolve_left (by omega);simp [Df,this]
  · rw [List.drop_eq_nil_of_le h1];rfl
theorem Tz (n:Nat) (w:aT): aV aA 152 #[.int .u64 n] w λ e w'=>∃v,e=.returned v/\Bs w' v (Cb n)/\Below w.heap.size w w'/\v.ownBlock=some w.heap.size:=by
  have hpl:=Cc n;go_enter Tryz.func152,Tryz.ntmps152;go_wp2_with fail;refine (U9 n w).mono ?_;rintro e w1 ⟨rfl,_,hb1,hblk⟩;have HB:=hqZ hblk;clear hblk;go_wp2_with fail;go_loop [3] (λ v=>∃j:Nat,j<=7/\v=.slice (some ⟨w.heap.size,j,none⟩) (8-j) (8-j)/\Cb n=Df ((Db n).drop j)) (λ v=>match v with | .slice _ n _=>n | _=>0)
  case atStart=>exact ⟨0,by omega,rfl,rfl⟩
  case round=>
    obtain ⟨j,hj,rfl,hs⟩:=hrel;have HS:=hqZ hs;clear hs;have hget:w1.cell? ⟨w.heap.size,j,none⟩=some (.int .u8 ((Db n)[j]'(by omega)).toNat):=by rw [HB.o.cell]; exact Cu _ _ _
    have fin:Cb n=(Db n).drop j->Bs w1 (.slice (some ⟨w.heap.size,j,none⟩) (8-j) (8-j)) (Cb n):=by
      intro e;rw [e];have hl:((Db n).drop j).length=8-j:=by rw [aE,hpl]
      unfold Bs;rw [hl];refine ⟨by rw [Aa,hl]; omega,Ak _,_,8-j,rfl,Nat.le_refl _,by unfold maxLen; omega,λ h=>by simp at h,.inr ⟨_,_,rfl,λ i u hi=>?_⟩⟩;rw [HB.o.cell];simp only [Ab,List.map_drop,aO] at hi ⊢;exact hi
    have FIN:=hqZ fin;clear fin;by_cases hj7:j=7
    · subst hj7;have h1:Hq (Cb n=(Db n).drop 7):=hqZ (by rw [HS.o,Jl _ _ (by omega) (.inl (by omega))]);clear hget;go_wp2;go_ret;exact ⟨_,rfl,FIN.o h1.o,hb1,rfl⟩
    · have hj':1< ((8-j:Nat):Int):=by omega
      have hj0:(0:Int)< ((8-j:Nat):Int):=by omega
      have hj0':0<8-j:=by omega
      have hjn:¬8-j=1:=by omega
      by_cases hz:(Db n)[j]'(by omega)=0
      · have hz':((((Db n)[j]'(by omega)).toNat:Int)==0)=true:=by rw [hz]; rfl
        have h1:Hq (Cb n=Df ((Db n).drop (j+1))):=hqZ (by rw [HS.o,Og _ _ (by omega) hz]);clear hz;go_wp2;go_round
        case rel=>exact ⟨j+1,by omega,by rw [show 8- (j+1)=8-j-1 by omega],h1.o⟩
        case measure=>simp; omega
      · have hz':((((Db n)[j]'(by omega)).toNat:Int)==0)=false:=by
          rw [beq_eq_false_iff_ne];intro e;exact hz ((A0F _).1 e)
        have h1:Hq (Cb n=(Db n).drop j):=hqZ (by rw [HS.o,Jl _ _ (by omega) (.inr hz)]);clear hz;go_wp2;go_ret;exact ⟨_,rfl,FIN.o h1.o,hb1,rfl⟩
end Go.Proofs.YtbmjjfhpllpiaaaGreat
namespace Go.Proofs.YtbmjjfhpllpiaaaGreat
def H0 (b:List UInt8):Nat×Nat×Int:=
  if b.length<2 then (0,0,1)
  else if (b.getD 1 0).toNat<128 then (if b.length-2< (b.getD 1 0).toNat then (0,0,1) else ((b.getD 1 0).toNat,2,0))
  else if (b.getD 1 0).toNat=128\/130< (b.getD 1 0).toNat then (0,0,3)
  else if b.length< (b.getD 1 0).toNat-126 then (0,0,1)
  else if Ec ((b.drop 2).take ((b.getD 1 0).toNat-128))<128\/((b.getD 1 0).toNat=130/\Ec ((b.drop 2).take ((b.getD 1 0).toNat-128))<256) then (0,0,3)
  else if b.length- ((b.getD 1 0).toNat-126)<Ec ((b.drop 2).take ((b.getD 1 0).toNat-128)) then (0,0,1)
  else (Ec ((b.drop 2).take ((b.getD 1 0).toNat-128)),(b.getD 1 0).toNat-126,0)
theorem X3 {b:List UInt8} {n at':Nat} (h:H0 b=(n,at',0)):2<=at'/\at'+n<=b.length/\at'<=4:=by
  unfold H0 at h;split at h
  · simp at h
  · split at h
    · split at h
      · simp at h
      · simp only [Prod.mk.injEq] at h; omega
    · split at h
      · simp at h
      · split at h
        · simp at h
        · split at h
          · simp at h
          · split at h
            · simp at h
            · simp only [Prod.mk.injEq] at h; omega
def Io (rd:List UInt8->Tv×Nat×Int):Nat->List UInt8->List Tv×Int
  | _, []=>([],0)
  | 0,_=>([],0)
  | f+1,b=>match rd b with
    | (x,k,e)=>if e=0 then (match Io rd f (b.drop k) with | (l,e')=>(x::l,e')) else ([],e)
def Ew:Nat->List UInt8->Tv×Nat×Int
  | 0,_=>(.zero,0,4)
  | d+1,b=>match H0 b with
    | (n,at',e)=>
      if e≠0 then (.zero,0,e)
      else if 2< (b.getD 0 0).toNat / 64\/30< (b.getD 0 0).toNat % 64 then (.zero,0,2)
      else if (b.getD 0 0).toNat / 64=0 then
        (if (Fp ((b.drop at').take n)).2=false\/(1<n/\(b.drop at').getD 0 0=0) then (.zero,0,4)
         else (.mk 0 ((b.getD 0 0).toNat % 64:Nat) (Fp ((b.drop at').take n)).1 [] [],at'+n,0))
      else if (b.getD 0 0).toNat / 64=1 then (.mk 1 ((b.getD 0 0).toNat % 64:Nat) 0 ((b.drop at').take n) [],at'+n,0)
      else match Io (Ew d) n ((b.drop at').take n) with
        | (l,e)=>if e=0 then (.mk 2 ((b.getD 0 0).toNat % 64:Nat) 0 [] l,at'+n,0) else (.zero,0,e)
def A4p (rd:List UInt8->Tv×Nat×Int):Prop:=∀b x k,rd b=(x,k,0)->2<=k/\k<=b.length
theorem Kv (d:Nat):A4p (Ew d):=by
  intro b x k h
  cases d with
  | zero=>simp [Ew] at h
  | succ d=>
    rw [Ew] at h;obtain ⟨n,at',e,hs⟩:∃n at' e,H0 b=(n,at',e):=⟨_,_,_,rfl⟩
    rw [hs] at h;simp only at h;split at h
    · simp at h; omega
    · rename_i he;have he0:e=0:=by simpa using he
      subst he0;have hok:=X3 hs;split at h
      · simp at h
      · split at h
        · split at h
          · simp at h
          · simp at h; omega
        · split at h
          · simp at h; omega
          · split at h
            · simp at h; omega
            · simp at h; omega
theorem N4 (rd:List UInt8->Tv×Nat×Int) (f:Nat):Io rd f []=([],0):=by cases f <;> rfl
theorem Mz {rd:List UInt8->Tv×Nat×Int} {f:Nat} {b:List UInt8} {x:Tv} {k:Nat} (hb:b≠ []) (h:rd b=(x,k,0)):Io rd (f+1) b=(x::(Io rd f (b.drop k)).1,(Io rd f (b.drop k)).2):=by
  cases b with
  | nil=>exact absurd rfl hb
  | cons c b=>simp [Io,h]
theorem N3 {rd:List UInt8->Tv×Nat×Int} {f:Nat} {b:List UInt8} {x:Tv} {k:Nat} {e:Int} (hb:b≠ []) (h:rd b=(x,k,e)) (he:e≠0):Io rd (f+1) b=([],e):=by
  cases b with
  | nil=>exact absurd rfl hb
  | cons c b=>simp [Io,h,he]
theorem Q8 {rd:List UInt8->Tv×Nat×Int} (ht:A4p rd):∀(f g:Nat) (b:List UInt8),b.length<=f->b.length<=g->Io rd f b=Io rd g b
  | f,g, [],_,_=>by rw [N4,N4]
  | 0,g,c::b,h,_=>by simp at h
  | f+1,0,c::b,_,h=>by simp at h
  | f+1,g+1,c::b,hf,hg=>by
    obtain ⟨x,k,e,hr⟩:∃x k e,rd (c::b)=(x,k,e):=⟨_,_,_,rfl⟩
    by_cases he:e=0
    · subst he;have hk:=ht _ _ _ hr;rw [Mz (by simp) hr,Mz (by simp) hr,Q8 ht f g _ (by rw [aE]; simp at hf hk ⊢; omega) (by rw [aE]; simp at hg hk ⊢; omega)]
    · rw [N3 (by simp) hr he,N3 (by simp) hr he]
def Ic (b:List UInt8):Tv×Int:=
  if 4096<b.length then (.zero,20)
  else match Ew 8 b with
    | (v,n,e)=>if e≠0 then (.zero,e) else if n<b.length then (.zero,5) else (v,0)
end Go.Proofs.YtbmjjfhpllpiaaaGreat
namespace Go.Proofs.YtbmjjfhpllpiaaaGreat
open Go.RowKit
def I9 (a:Option Addr) (cap i:Nat):Option Addr:=if cap=i then a else a.map (·.add i)
theorem Tr (w:aT):(sizeOf 5).run aA w=.ok 1 w:=by kernel_rfl
theorem Ng (a:Option Addr) (n cap i j:Nat) (hi:i<=j) (hj:j<=cap) (W:aT): (Instr.sliceAt 29 (.slice a n cap) (some (.int .i64 i)) (some (.int .i64 j)) none).run aA W=.ok (.slice (I9 a cap i) (j-i) (cap-i)) W:=by
  have h1:¬((i:Int)<0):=by omega
  have h2:¬((j:Int)<0):=by omega
  have h3:¬(cap<j):=by omega
  have h4:¬(j<i):=by omega
  simp [Instr.sliceAt,Instr.slice,Instr.sliceBounds,Instr.sliceBound,run_underlying aH,asIntOf,Tr,I9,h1,h2,h3,h4,hi,hj]
theorem A2X (a:Option Addr) (n cap i:Nat) (hi:i<=n) (W:aT): (Instr.sliceAt 29 (.slice a n cap) (some (.int .i64 i)) none none).run aA W=.ok (.slice (I9 a cap i) (n-i) (cap-i)) W:=by
  have h1:¬((i:Int)<0):=by omega
  have h4:¬(n<i):=by omega
  simp [Instr.sliceAt,Instr.slice,Instr.sliceBounds,Instr.sliceBound,run_underlying aH,asIntOf,Tr,I9,h1,h4,hi]
theorem Bs.cut {w:aT} {a:Option Addr} {cap:Nat} {b:List UInt8} (h:Bs w (.slice a b.length cap) b) (i j:Nat) (hi:i<=j) (hj:j<=b.length):Bs w (.slice (I9 a cap i) (j-i) (cap-i)) ((b.drop i).take (j-i)):=by
  obtain ⟨a',cap',he,hc,hm⟩:=h.form;simp only [aS.slice.injEq,true_and] at he;obtain ⟨rfl,rfl⟩:=he;have hna:a=Option.none->cap=0:=by
    obtain ⟨_,_,a',c',he,_,_,h5,_⟩:=h;simp only [aS.slice.injEq,true_and] at he;obtain ⟨rfl,rfl⟩:=he;exact h5
  by_cases hz:j-i=0
  · rw [hz,aL];refine Bs.none _ _ _ (λ e=>?_) (by omega);unfold I9 at e;split at e
    · have:=hna e; omega
    · cases a with
      | none=>have:=hna rfl; omega
      | some x=>simp at e
  · obtain ⟨bb,off,rfl,_⟩:=h.addr (by rw [Aa]; omega);have h1:=Sl.mid h (off:=i) (n:=j-i) (cap:=cap-i) (by omega) (by omega) (by omega);have he:I9 (some ⟨bb,off,Option.none⟩) cap i=some ⟨bb,off+i,Option.none⟩:=by
      unfold I9;rw [if_neg (by omega)];simp [Addr.add_lit]
    rw [he];exact h1.bs rfl (by simp; omega)
theorem Wn (v:aS) (b:List UInt8) (w:aT) (h:Bs w v b): aV aA 148 #[v] w λ e w'=>e=.returned (.tuple #[.int .i64 (H0 b).1,.int .i64 (H0 b).2.1,.int .i64 (H0 b).2.2])/\w=w':=by
  obtain ⟨a,cap,rfl,hcap,hcm⟩:=h.form;have hmx:=hcm;unfold maxLen at hcm;by_cases h2:b.length<2
  · have HS:Hq (H0 b=(0,0,1)):=hqZ (by unfold H0; rw [if_pos h2]);have h2':(b.length:Int)<2:=by omega
    clear h2 h;go_enter aB,aC;go_wp2_with fail
    go_ret3;rw [HS.o];exact ⟨rfl,rfl⟩
  · obtain ⟨bb,off,rfl,hc⟩:=h.addr (by rw [Aa]; omega);have hb1:b[1]'(by omega)=b.getD 1 0:=by rw [List.getD_eq_getElem?_getD,aI (by omega)]; rfl
    have c1:w.cell? ⟨bb,off+1,none⟩=some (.int .u8 (b.getD 1 0).toNat):=by rw [<-hb1]; exact hc 1 _ (Cu b 1 (by omega))
    have hlt:=(b.getD 1 0).toNat_lt;have HB:=hqZ h;have hcutr:=λ j hj hj2=>Ng (some ⟨bb,off,none⟩) b.length cap 2 j hj hj2
    have HCUT:=hqZ hcutr;have h2':¬(b.length:Int)<2:=by omega
    clear hc hb1 h hcutr;have hS:H0 b=if (b.getD 1 0).toNat<128 then (if b.length-2< (b.getD 1 0).toNat then (0,0,1) else ((b.getD 1 0).toNat,2,0))
  else if (b.getD 1 0).toNat=128\/130< (b.getD 1 0).toNat then (0,0,3)
  else if b.length< (b.getD 1 0).toNat-126 then (0,0,1)
  else if Ec ((b.drop 2).take ((b.getD 1 0).toNat-128))<128\/((b.getD 1 0).toNat=130/\Ec ((b.drop 2).take ((b.getD 1 0).toNat-128))<256) then (0,0,3)
  else if b.length- ((b.getD 1 0).toNat-126)<Ec ((b.drop 2).take ((b.getD 1 0).toNat-128)) then (0,0,1)
  else (Ec ((b.drop 2).take ((b.getD 1 0).toNat-128)),(b.getD 1 0).toNat-126,0):=by unfold H0; rw [if_neg h2]
    generalize (b.getD 1 0).toNat=c at c1 hlt hS;rcases (by omega:c<128\/c=128\/c=129\/c=130\/130<c) with k | rfl | rfl | rfl | k
    · rw [if_pos k] at hS;have k':¬(128:Int)<=(c:Int):=by omega
      by_cases hl:b.length-2<c
      · rw [if_pos hl] at hS;have HS:=hqZ hS;have hl':(b.length:Int)-2< (c:Int):=by omega
        clear hS;go_enter aB,aC;go_wp2_with fail
        go_ret3;rw [HS.o];exact ⟨rfl,rfl⟩
      · rw [if_neg hl] at hS;have HS:=hqZ hS;have hl':¬(b.length:Int)-2< (c:Int):=by omega
        clear hS;go_enter aB,aC;go_wp2_with fail
        go_ret3;rw [HS.o];exact ⟨rfl,rfl⟩
    · rw [if_neg (by omega),if_pos (.inl rfl)] at hS;have HS:=hqZ hS;clear hS;go_enter aB,aC;go_wp2_with fail
      go_ret3;rw [HS.o];exact ⟨rfl,rfl⟩
    · rw [if_neg (by omega),if_neg (by omega)] at hS;by_cases hl:b.length<3
      · rw [if_pos (by omega)] at hS;have HS:=hqZ hS;have hl':(b.length:Int)<3:=by omega
        clear hS;go_enter aB,aC;go_wp2_with fail
        go_ret3;rw [HS.o];exact ⟨rfl,rfl⟩
      · rw [if_neg (by omega)] at hS;have hl':¬(b.length:Int)<3:=by omega
        have hrun:∀W,(Instr.sliceAt 29 (.slice (some ⟨bb,off,none⟩) b.length cap) (some (.int .i64 2)) (some (.int .i64 3)) none).run aA W=.ok (.slice (I9 (some ⟨bb,off,none⟩) cap 2) 1 (cap-2)) W:=λ W=>HCUT.o 3 (by omega) (by omega) W
        have hbs:Bs w (.slice (I9 (some ⟨bb,off,none⟩) cap 2) 1 (cap-2)) ((b.drop 2).take 1):=HB.o.cut 2 3 (by omega) (by omega);rw [show 129-128=1 from rfl,show 129-126=3 from rfl] at hS;have hll:((b.drop 2).take 1).length=1:=by rw [aF,aE]; omega
        have hgl:=Ld ((b.drop 2).take 1);rw [hll] at hgl;have HG:=hqZ (Lg _ _ w hbs);have hgb:Fp ((b.drop 2).take 1)=(Ec ((b.drop 2).take 1),true):=by unfold Fp; rw [if_neg (by omega)]
        rw [hgb] at HG;generalize Ec ((b.drop 2).take 1)=n at HG hS hgl;have hn:n<256:=by omega
        clear hll hgl hgb hbs;rcases (by omega:n<128\/(128<=n/\n<256)\/256<=n) with hq | ⟨hq,hq2⟩ | hq
        · rw [if_pos (.inl hq)] at hS;have HS:=hqZ hS;have hq':(n:Int)<128:=by omega
          clear hS;go_enter aB,aC;go_wp2_with fail;refine HG.o.mono ?_;rintro e w' ⟨rfl,rfl⟩;go_wp2_with fail
          go_ret3;rw [HS.o];exact ⟨rfl,rfl⟩
        · have hq':¬(n:Int)<128:=by omega
          have hq2':(n:Int)<256:=by omega
          rw [if_neg (by omega)] at hS;by_cases hr:b.length-3<n
          · rw [if_pos hr] at hS;have HS:=hqZ hS;have hr':(b.length:Int)-3< (n:Int):=by omega
            clear hS;go_enter aB,aC;go_wp2_with fail;refine HG.o.mono ?_;rintro e w' ⟨rfl,rfl⟩;go_wp2_with fail
            go_ret3;rw [HS.o];exact ⟨rfl,rfl⟩
          · rw [if_neg hr] at hS;have HS:=hqZ hS;have hr':¬(b.length:Int)-3< (n:Int):=by omega
            clear hS;go_enter aB,aC;go_wp2_with fail;refine HG.o.mono ?_;rintro e w' ⟨rfl,rfl⟩;go_wp2_with fail
            go_ret3;rw [HS.o];exact ⟨rfl,rfl⟩
        · omega
    · rw [if_neg (by omega),if_neg (by omega)] at hS;by_cases hl:b.length<4
      · rw [if_pos (by omega)] at hS;have HS:=hqZ hS;have hl':(b.length:Int)<4:=by omega
        clear hS;go_enter aB,aC;go_wp2_with fail
        go_ret3;rw [HS.o];exact ⟨rfl,rfl⟩
      · rw [if_neg (by omega)] at hS;have hl':¬(b.length:Int)<4:=by omega
        have hrun:∀W,(Instr.sliceAt 29 (.slice (some ⟨bb,off,none⟩) b.length cap) (some (.int .i64 2)) (some (.int .i64 4)) none).run aA W=.ok (.slice (I9 (some ⟨bb,off,none⟩) cap 2) 2 (cap-2)) W:=λ W=>HCUT.o 4 (by omega) (by omega) W
        have hbs:Bs w (.slice (I9 (some ⟨bb,off,none⟩) cap 2) 2 (cap-2)) ((b.drop 2).take 2):=HB.o.cut 2 4 (by omega) (by omega);rw [show 130-128=2 from rfl,show 130-126=4 from rfl] at hS;have hll:((b.drop 2).take 2).length=2:=by rw [aF,aE]; omega
        have hgl:=Ld ((b.drop 2).take 2);rw [hll] at hgl;have HG:=hqZ (Lg _ _ w hbs);have hgb:Fp ((b.drop 2).take 2)=(Ec ((b.drop 2).take 2),true):=by unfold Fp; rw [if_neg (by omega)]
        rw [hgb] at HG;generalize Ec ((b.drop 2).take 2)=n at HG hS hgl;have hn:n<65536:=by omega
        clear hll hgl hgb hbs;rcases (by omega:n<128\/(128<=n/\n<256)\/256<=n) with hq | ⟨hq,hq2⟩ | hq
        · rw [if_pos (.inl hq)] at hS;have HS:=hqZ hS;have hq':(n:Int)<128:=by omega
          clear hS;go_enter aB,aC;go_wp2_with fail;refine HG.o.mono ?_;rintro e w' ⟨rfl,rfl⟩;go_wp2_with fail
          go_ret3;rw [HS.o];exact ⟨rfl,rfl⟩
        · have hq':¬(n:Int)<128:=by omega
          have hq2':(n:Int)<256:=by omega
          rw [if_pos (.inr ⟨rfl,hq2⟩)] at hS;have HS:=hqZ hS;clear hS;go_enter aB,aC;go_wp2_with fail;refine HG.o.mono ?_;rintro e w' ⟨rfl,rfl⟩;go_wp2_with fail
          go_ret3;rw [HS.o];exact ⟨rfl,rfl⟩
        · have hq':¬(n:Int)<128:=by omega
          have hq2':¬(n:Int)<256:=by omega
          rw [if_neg (by omega)] at hS;by_cases hr:b.length-4<n
          · rw [if_pos hr] at hS;have HS:=hqZ hS;have hr':(b.length:Int)-4< (n:Int):=by omega
            clear hS;go_enter aB,aC;go_wp2_with fail;refine HG.o.mono ?_;rintro e w' ⟨rfl,rfl⟩;go_wp2_with fail
            go_ret3;rw [HS.o];exact ⟨rfl,rfl⟩
          · rw [if_neg hr] at hS;have HS:=hqZ hS;have hr':¬(b.length:Int)-4< (n:Int):=by omega
            clear hS;go_enter aB,aC;go_wp2_with fail;refine HG.o.mono ?_;rintro e w' ⟨rfl,rfl⟩;go_wp2_with fail
            go_ret3;rw [HS.o];exact ⟨rfl,rfl⟩
    · rw [if_neg (by omega),if_pos (.inr k)] at hS;have HS:=hqZ hS;have k':(128:Int)<=(c:Int):=by omega
      have k2:(2:Int)< (c:Int)-128:=by omega
      have k3:¬(c:Int)-128<1:=by omega
      clear hS;go_enter aB,aC;go_wp2_with fail
      go_ret3;rw [HS.o];exact ⟨rfl,rfl⟩
end Go.Proofs.YtbmjjfhpllpiaaaGreat
