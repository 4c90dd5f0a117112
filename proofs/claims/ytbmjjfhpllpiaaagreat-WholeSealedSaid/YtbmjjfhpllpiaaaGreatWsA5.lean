/- Texts of this proof, one behind the other: MRight, RegV, Q1, MTkOf, MTaken, MTick, MExtra, MTks, MMsg, MVCx, MVal, MValA. -/
import Derived.Test.YtbmjjfhpllpiaaaGreatWsA1
import Derived.Test.YtbmjjfhpllpiaaaGreatWsA2
import Derived.Test.YtbmjjfhpllpiaaaGreatWsA4
import Derived.Deep.DeepCutAuto
import Derived.Deep.CutBlock
set_option linter.unusedSimpArgs false
set_option linter.unusedVariables false
set_option maxRecDepth 100000
set_option maxHeartbeats 16000000
open Go.Proofs.Tryz renaming prog -> aA, func125 -> aQ, func134 -> aR
open Nat renaming le_refl -> aB, zero_le -> aJ, succ_mul -> aV, lt_of_lt_of_le -> bE, lt_irrefl -> bF
open Go.RowKit.Below renaming refl -> aC
open List renaming map_cons -> aD, getElem_mem -> aE, take_succ_eq_append_getElem -> aF, map_map -> aG, map_nil -> aH, mem_of_getElem? -> aI, all_append -> aK, take_length -> aL, mem_cons -> aM, not_mem_nil -> aN, range -> aO, map_toArray -> aP, eq_nil_of_length_eq_zero -> aS, zipIdx_cons -> aT, mem_cons_self -> aU, length_take -> aW, mem_cons_of_mem -> aX, zipIdx_map -> aY, drop_of_length_le -> aZ, takeWhile_cons -> bA, take_succ_cons -> bB, all_cons -> bC, drop_succ_cons -> bD
open Go renaming Value -> bG, World -> bH, TypeId -> bI, Calls -> bJ, Program -> bK, Oper -> bL
namespace Go.Proofs.YtbmjjfhpllpiaaaGreat
open Go.RowKit
def Be (x:Int):Bool:=decide (0<=x)&&decide (x<=1099511627776)
theorem Z7 {α β:Type} (f:α->β) (l:List α) (k:Nat) (h:k<l.length):(l.map f)[k]?=some (f l[k]):=by simp [h]
theorem Fb (ns:List ByteArray) (xs:List Int) (v1 v2:bG) (w:bH) (h1:Sl w 1 v1 ns.length (ns.map bG.string)) (h2:Sl w 1 v2 xs.length (xs.map (bG.int .i64))) (hs:∀s∈ns,s.size<=maxLen): bJ aA 125 #[v1,v2] w λ e w'=>e=.returned (.bool (ns.all As&&xs.all Be))/\Below w.heap.size w w':=by
  obtain ⟨a,cap,rfl,hcap,hcm⟩:=h1.form;obtain ⟨a2,cap2,rfl,hcap2,hcm2⟩:=h2.form;unfold maxLen at hcm hcm2;have HS:=hqZ h1;have HS2:=hqZ h2;have HSZ:=hqZ hs;clear h1 h2 hs;go_enter aQ,Tryz.ntmps125;go_wp2_with fail;go_loopw [11] (λ i wr=>∃k:Nat,k<=ns.length/\i=.int .i64 k/\(ns.take k).all As=true/\Below w.heap.size w wr) (λ i _=>ns.length- (intOf i).toNat)
  case atStart=>exact ⟨0,aJ _,rfl,rfl,aC _ _⟩
  case round=>
    obtain ⟨k,hk,rfl,hno,hB⟩:=hrel;have HNO:=hqZ hno;have HB:=hqZ hB;clear hno hB;by_cases hlt:k<ns.length
    · have hlt1:(k:Int)< (ns.length:Int):=by omega
      obtain ⟨b,off,rfl,hcell⟩:=HS.o.addr (by rw [HS.o.1]; omega);have c0:wr.cell? ⟨b,off+k,none⟩=some (.string ns[k]):=Bc HB.o (hcell _ _ (Z7 bG.string ns k hlt));clear hcell;have HN:Hq (As ns[k]=true->(ns.take (k+1)).all As=true):=hqZ (by
        intro h;rw [aF hlt,aK,HNO.o];simp [h])
      have HY:Hq (As ns[k]=false->ns.all As=false):=hqZ (by
        intro h;exact List.all_eq_false.2 ⟨ns[k],aE hlt,by rw [h]; simp⟩)
      have HRT:=hqZ (Li ns[k] wr (HSZ.o _ (aE hlt)));generalize ns[k]=s at*;go_wp2_with fail;refine HRT.o.mono ?_;rintro e w1 ⟨rfl,hb⟩;have HB1:Hq (Below w.heap.size w w1):=hqZ (HB.o.trans (hb.mono HB.o.size));clear hb
      cases hr:As s with
      | true=>
        have HR:=hqZ hr;clear hr;go_wp2_with fail;go_roundw
        case rel=>exact ⟨k+1,by omega,by go_num,HN.o HR.o,HB1.o⟩
        case measure=>simp [intOf]; omega
      | false=>
        have HR:=hqZ hr;clear hr;go_wp2_with fail;go_ret;rw [HY.o HR.o];exact ⟨rfl,HB1.o⟩
    · obtain rfl:k=ns.length:=by omega
      have HA1:Hq (ns.all As=true):=hqZ (by have h:=HNO.o; rwa [aL] at h);clear HNO;go_wp2_with fail;have hsz:w.heap.size<=wr.heap.size:=HB.o.size;go_loopw [21] (λ i wr=>∃k:Nat,k<=xs.length/\i=.int .i64 k/\(xs.take k).all Be=true/\Below w.heap.size w wr) (λ i _=>xs.length- (intOf i).toNat)
      case atStart=>exact ⟨0,aJ _,rfl,rfl,HB.o⟩
      case round=>
        obtain ⟨k,hk,rfl,hno,hB⟩:=hrel;have HNO:=hqZ hno;have HB:=hqZ hB;clear hno hB;by_cases hlt:k<xs.length
        · have hlt1:(k:Int)< (xs.length:Int):=by omega
          obtain ⟨b,off,rfl,hcell⟩:=HS2.o.addr (by rw [HS2.o.1]; omega);have c0:wr.cell? ⟨b,off+k,none⟩=some (.int .i64 xs[k]):=Bc HB.o (hcell _ _ (Z7 (bG.int .i64) xs k hlt));clear hcell;have HN:Hq (Be xs[k]=true->(xs.take (k+1)).all Be=true):=hqZ (by
            intro h;rw [aF hlt,aK,HNO.o];simp [h])
          have HY:Hq (Be xs[k]=false->xs.all Be=false):=hqZ (by
            intro h;exact List.all_eq_false.2 ⟨xs[k],aE hlt,by rw [h]; simp⟩)
          have HE:Hq (Be xs[k]=(decide (0<=xs[k])&&decide (xs[k]<=1099511627776))):=hqZ rfl;generalize xs[k]=x at*;by_cases h1:0<=x
          · by_cases h2:x<=1099511627776
            · have hx0:¬x<0:=by omega
              go_wp2_with fail;go_roundw
              case rel=>exact ⟨k+1,by omega,by go_num,HN.o (by rw [HE.o]; simp [h1,h2]),HB.o⟩
              case measure=>simp [intOf]; omega
            · have hx0:¬x<0:=by omega
              have hx1:1099511627776<x:=by omega
              clear h2;have HF:Hq (xs.all Be=false):=hqZ (HY.o (by rw [HE.o]; simp; omega));go_wp2_with fail;go_ret;rw [HA1.o,HF.o];exact ⟨rfl,HB.o⟩
          · have hx0:x<0:=by omega
            clear h1;have HF:Hq (xs.all Be=false):=hqZ (HY.o (by rw [HE.o]; simp; omega));go_wp2_with fail;go_ret;rw [HA1.o,HF.o];exact ⟨rfl,HB.o⟩
        · obtain rfl:k=xs.length:=by omega
          have HA:Hq (xs.all Be=true):=hqZ (by have h:=HNO.o; rwa [aL] at h);go_wp2_with fail;go_ret;rw [HA1.o,HA.o];exact ⟨rfl,HB.o⟩
theorem Ia (s:ByteArray) (xs:List Int) (v2:bG) (w:bH) (h2:Sl w 1 v2 xs.length (xs.map (bG.int .i64))) (hs:s.size<=maxLen): bJ aA 134 #[.string s,v2] w λ e w'=>e=.returned (.bool (As s&&xs.all Be))/\Below w.heap.size w w':=by
  obtain ⟨a2,cap2,rfl,hcap2,hcm2⟩:=h2.form;unfold maxLen at hcm2;have HS2:=hqZ h2;have HSZ:=hqZ hs;clear h2 hs;go_enter aR,Tryz.ntmps134;go_wp2_with fail;go_loopw [9] (λ i wr=>∃k:Nat,k<=xs.length/\i=.int .i64 k/\(xs.take k).all Be=true/\Below w.heap.size w wr) (λ i _=>xs.length- (intOf i).toNat)
  case atStart=>exact ⟨0,aJ _,rfl,rfl,aC _ _⟩
  case round=>
    obtain ⟨k,hk,rfl,hno,hB⟩:=hrel;have HNO:=hqZ hno;have HB:=hqZ hB;clear hno hB;by_cases hlt:k<xs.length
    · have hlt1:(k:Int)< (xs.length:Int):=by omega
      obtain ⟨b,off,rfl,hcell⟩:=HS2.o.addr (by rw [HS2.o.1]; omega);have c0:wr.cell? ⟨b,off+k,none⟩=some (.int .i64 xs[k]):=Bc HB.o (hcell _ _ (Z7 (bG.int .i64) xs k hlt));clear hcell;have HN:Hq (Be xs[k]=true->(xs.take (k+1)).all Be=true):=hqZ (by
        intro h;rw [aF hlt,aK,HNO.o];simp [h])
      have HY:Hq (Be xs[k]=false->xs.all Be=false):=hqZ (by
        intro h;exact List.all_eq_false.2 ⟨xs[k],aE hlt,by rw [h]; simp⟩)
      have HE:Hq (Be xs[k]=(decide (0<=xs[k])&&decide (xs[k]<=1099511627776))):=hqZ rfl;generalize xs[k]=x at*;by_cases h1:0<=x
      · by_cases h2:x<=1099511627776
        · have hx0:¬x<0:=by omega
          go_wp2_with fail;go_roundw
          case rel=>exact ⟨k+1,by omega,by go_num,HN.o (by rw [HE.o]; simp [h1,h2]),HB.o⟩
          case measure=>simp [intOf]; omega
        · have hx0:¬x<0:=by omega
          have hx1:1099511627776<x:=by omega
          clear h2;have HF:Hq (xs.all Be=false):=hqZ (HY.o (by rw [HE.o]; simp; omega));go_wp2_with fail;go_ret;rw [HF.o,Bool.and_false];exact ⟨rfl,HB.o⟩
      · have hx0:x<0:=by omega
        clear h1;have HF:Hq (xs.all Be=false):=hqZ (HY.o (by rw [HE.o]; simp; omega));go_wp2_with fail;go_ret;rw [HF.o,Bool.and_false];exact ⟨rfl,HB.o⟩
    · obtain rfl:k=xs.length:=by omega
      have HA:Hq (xs.all Be=true):=hqZ (by have h:=HNO.o; rwa [aL] at h);have HRT:=hqZ (Li s wr HSZ.o);go_wp2_with fail;refine HRT.o.mono ?_;rintro e w1 ⟨rfl,hb⟩;have HB1:Hq (Below w.heap.size w w1):=hqZ (HB.o.trans (hb.mono HB.o.size));clear hb;go_wp2_with fail;go_ret;rw [HA.o,Bool.and_true];exact ⟨rfl,HB1.o⟩
section
theorem Fr.lit {a0 a:Act} {ds:List Nat} (h:Fr a0 a ds) (s:Nat) (hs:ds.contains s=false) {v:bG} (hv:a0.eval (.tmp s)=v):a.eval (.tmp s)=v:=(h.eval s hs).trans hv
theorem Iu.get {ops:Array bL} {Post:Nat->bG->bH->Prop} {i:Nat} {a:Act} {w:bH} (h:Iu ops Post i a w) {s:Nat} (hs:Ox ops i=some s):Post i (a.eval (.tmp s)) w:=by
  obtain ⟨v,h1,h2⟩:=h;rw [show a.eval (.tmp s)=v from h2 s hs];exact h1
theorem Iu.fin {ops:Array bL} {Post:Nat->bG->bH->Prop} {i:Nat} {a:Act} {w:bH} (h:Iu ops Post i a w):∃v,Post i v w:=by
  obtain ⟨v,h1,h2⟩:=h;exact ⟨v,h1⟩
section
variable (P:bK) (md:Region.Mode) (ops:Array bL) (Q:Exit->Act->bH->Prop) (S:bH->Prop) (G:bH->bH->Prop) (Post:Nat->bG->bH->Prop) (l0:Array Bool) (ds:List Nat) (a0:Act) (w0:bH)
def Ce (rs:List Nat):Prop:=∀i∈rs,A1U P md ops Q S G Post l0 ds a0 w0 i
end
section
variable {P:bK} {md:Region.Mode} {ops:Array bL} {Q:Exit->Act->bH->Prop} {S:bH->Prop} {G:bH->bH->Prop} {Post:Nat->bG->bH->Prop} {l0:Array Bool} {ds:List Nat} {a0:Act} {w0:bH}
theorem Ce.nil:Ce P md ops Q S G Post l0 ds a0 w0 []:=λ _ h=>by cases h
theorem Ce.cons {i:Nat} {o:bL} {rs:List Nat} (ho:ops[i]?=some o) (h:∀a w,Fr a0 a ds->S w->(∀d,A3x md ops l0 i d=true->Iu ops Post d a w)->∀K:Act->bH->Prop,(∀v w',G w w'->Post i v w'->K (a.put o.dst v) w')-> if Region.wanted o (yielded ops a.tmps)=true then bL.wp P o a w K Q else K (a.put o.dst undef) w) (hs:Ce P md ops Q S G Post l0 ds a0 w0 rs):Ce P md ops Q S G Post l0 ds a0 w0 (i::rs):=λ j hj=>by
  rcases List.mem_cons.1 hj with rfl | hj
  · intro o' ho' a w hf _ hs hd K hK;rw [ho] at ho'
    cases ho'
    exact h a w hf hs hd K hK
  · exact hs j hj
theorem Ct (hr:∀w,G w w) (ht:∀a b c,G a b->G b c->G a c) (hS:∀w w',S w->G w w'->S w') (hst:∀i v w w',Post i v w->G w w'->Post i v w') (rs:List Nat) (n:Nat) (hn:a0.tmps.size=n) (hok:A2x md ops l0 ds n=true) (hrs:(aO ops.size).filter (λ i=> !l0.getD i true)=rs) (hstep:Ce P md ops Q S G Post l0 ds a0 w0 rs) (hfin:∀a w,Fr a0 a ds->S w->(∀i,i∈rs->Iu ops Post i a w)->Q .normal a w) (hS0:S w0) {fuel:Nat} (hfuel:O3 ops.size l0<=fuel): wpAnyH P md ops Q S fuel l0 a0 w0:=by
  subst hn;refine A1X hr ht hS hst hok (λ i hi h0=>hstep i ?_) (λ a w hf hg hs hp=>hfin a w hf hs λ i hi=>?_) hS0 hfuel
  · rw [<-hrs];exact List.mem_filter.2 ⟨List.mem_range.2 hi,by rw [h0]; rfl⟩
  · rw [<-hrs] at hi;obtain ⟨h1,h2⟩:=List.mem_filter.1 hi;exact hp i (List.mem_range.1 h1) (by simpa using h2)
def Bv (P:bK) (f:FuncId):Prop:=∀args w,(callFunc f args).run P w=.ok (.enter f args) w
theorem Bv.mk {f:FuncId} {fn:Func} (hf:P.funcs[f]?=some fn) (hname:(fn.name== "runtime.NumGoroutine")=false) (hb:fn.body.isNone=false):Bv P f:=by
  intro args w;obtain ⟨c,hc⟩:∃c,fn.body=some c:=by
    cases h:fn.body with
    | none=>rw [h] at hb; cases hb
    | some c=>exact ⟨c,rfl⟩
  have h1:fn.name≠ "runtime.NumGoroutine" :=by simpa using hname
  simp [callFunc,hf,h1,hc]
theorem Ae {o:bL} {a:Act} (h:o.guard=none):Region.wanted o (yielded ops a.tmps)=true:=by simp [Region.wanted,h]
theorem A4 {o:bL} {a:Act} {j s:Nat} {b:Bool} (h:o.guard=some (j,b)) (hs:(ops[j]?).bind (·.dst)=some s) (hv:a.eval (.tmp s)=.bool b):Region.wanted o (yielded ops a.tmps)=true:=by
  have h1:a.tmps[s]?=some (.bool b):=by
    have:a.tmps.getD s undef=.bool b:=hv;rw [Array.getD_eq_getD_getElem?] at this
    cases hq:a.tmps[s]? with
    | none=>rw [hq] at this; simp [undef] at this
    | some v=>rw [hq] at this; simpa using this
  simp [Region.wanted,h,yielded,hs,h1]
theorem Hi {o:bL} {a:Act} {w:bH} {x:Operand} (ho:o.op=.move x) {v:bG} (hx:a.eval x=v):(execOp a.eval o).run P w=.ok (.value v) w:=by simp [execOp,ho,hx]
theorem Es {o:bL} {a:Act} {w:bH} {t:bI} {x:Operand} {k:Nat} (ho:o.op=.fieldAddr t x k) {u v:bG} (hx:a.eval x=u) (hr:(Instr.fieldAt t u k).run P w=.ok v w):(execOp a.eval o).run P w=.ok (.value v) w:=by
  unfold execOp;simp only [ho,hx,Sem.run_bind,hr,Result.andThen_ok,Sem.run_pure]
theorem Fc {o:bL} {a:Act} {w:bH} {t:bI} {x:Operand} (ho:o.op=.load t x) {u v:bG} (hx:a.eval x=u) (hr:(Instr.loadAt t u).run P w=.ok v w):(execOp a.eval o).run P w=.ok (.value v) w:=by
  unfold execOp;simp only [ho,hx,Sem.run_bind,hr,Result.andThen_ok,Sem.run_pure]
theorem Of {E:Prop} {o:bL} {a:Act} {w:bH} {K:Act->bH->Prop} (hw:Region.wanted o (yielded ops a.tmps)=true) {f:FuncId} {args:Array Operand} {tys:Array bI} (ho:o.op=.call { callee:=.value (.func f),args:=args,argTypes:=tys })
    (hf:Bv P f) {vs:Array bG} (hv:args.map a.eval=vs) {C:Ending->bH->Prop} (hc:bJ P f vs w C) (h:∀e w',C e w'->∃v,e=.returned v/\K (a.put o.dst v) w'):
    if Region.wanted o (yielded ops a.tmps)=true then bL.wp P o a w K Q else E:=by
  rw [if_pos hw];have he:(execOp a.eval o).run P w=.ok (.enter f vs) w:=by
    unfold execOp;simp only [ho,resolve,Deferred.ofValue,Act.eval,invoke,Sem.run_bind,Sem.run_pure,Result.andThen_ok,hv,Array.append_empty,Array.empty_append];exact hf vs w
  unfold bL.wp;rw [he];refine bJ.mono hc λ e w' hq=>?_
  obtain ⟨v,rfl,hk⟩:=h e w' hq;exact hk
theorem A3 {E:Prop} {o:bL} {a:Act} {w:bH} {K:Act->bH->Prop} (hw:Region.wanted o (yielded ops a.tmps)=true) {v:bG} {w':bH} (hr:(execOp a.eval o).run P w=.ok (.value v) w') (h:K (a.put o.dst v) w'): if Region.wanted o (yielded ops a.tmps)=true then bL.wp P o a w K Q else E:=by
  rw [if_pos hw];unfold bL.wp;rw [hr];exact h
theorem Gj {o:bL} {a:Act} {w:bH} {x:Operand} (ho:o.op=.assign x):(execOp a.eval o).run P w=.ok (.value (a.eval x)) w:=by simp [execOp,ho]
theorem Ho {o:bL} {a:Act} {w:bH} {c x y:Operand} (ho:o.op=.pick c x y) (hb:a.eval c=.bool true) {v:bG} (hx:a.eval x=v):(execOp a.eval o).run P w=.ok (.value v) w:=by
  simp [execOp,ho,hb,asBool,hx]
theorem Hn {o:bL} {a:Act} {w:bH} {x:Operand} (ho:o.op=.assign x) {v:bG} (hx:a.eval x=v):(execOp a.eval o).run P w=.ok (.value v) w:=by simp [execOp,ho,hx]
theorem A4e {E:Prop} {o:bL} {a:Act} {w:bH} {K:Act->bH->Prop} (hw:Region.wanted o (yielded ops a.tmps)=true) (x y:Operand) {ty:bI} {m:Nat} (hT:A9 P ty m) (ho:o.op=.store ty x y) {g off:Nat} (hx:a.eval x=.pointer (some ⟨g,off,none⟩)) {vs:List bG} (hy:a.eval y=.agg vs.toArray) (hm:vs.length=m) {cur:List bG} {T:bI} (hb:Blk w g cur T) (hfit:off+m<=cur.length) (h1:∀v∈vs,v.oneCell'=true) (h:∀w',Blk w' g (cur.take off++vs++cur.drop (off+m)) T->Ai (λ k=>k=g) w w'->K (a.put o.dst undef) w'):if Region.wanted o (yielded ops a.tmps)=true then bL.wp P o a w K Q else E:=by
  rw [if_pos hw];obtain ⟨w',hr,h2,h3⟩:=Oc hT hm hb hfit h1;unfold bL.wp execOp;simp only [ho,hx,hy,Instr.storeAt,Instr.sureAddr,Sem.run_bind,Sem.run_pure,Result.andThen_ok,hr];exact h w' h2 h3
end
/-! ### A row of values,built -/
theorem Tf:∀(c:List bG) (j off:Nat) (pre mid post:List bG),pre.length=off+j->mid.length=c.length-> (c.zipIdx j).foldl (λ (cs:Array bG) (x:bG×Nat)=>cs.setIfInBounds (off+x.2) x.1) (pre++mid++post).toArray=(pre++c++post).toArray
  | [],j,off,pre,mid,post,h,hm=>by
    have:mid= []:=aS (by simpa using hm);simp [this]
  | x::c,j,off,pre,mid,post,h,hm=>by
    obtain ⟨y,mid,rfl⟩:∃y l,mid=y::l:=by cases mid with
      | nil=>simp at hm
      | cons y l=>exact ⟨y,l,rfl⟩
    rw [aT,List.foldl_cons];have hs:((pre++y::mid++post).toArray).setIfInBounds (off+j) x=((pre++ [x])++mid++post).toArray:=by
      rw [List.setIfInBounds_toArray,<-h];simp
    simp only at hs ⊢;rw [hs,Tf c (j+1) off (pre++ [x]) mid post (by simp; omega) (by simpa using hm)];simp
theorem S9 (sz:Nat):∀(vs:List bG) (k:Nat) (pre post:List bG),(∀v∈vs,v.cells.size=sz)->pre.length=k*sz->post.length=vs.length*sz-> Instr.fill (λ i=>some (i*sz,sz)) (pre++post).toArray ((vs.zipIdx k).map λ x=>(x.2,x.1))=some (pre++(vs.map (·.cells.toList)).flatten).toArray
  | [],k,pre,post,h,hp,hq=>by
    have:post= []:=aS (by simpa using hq);simp [this,Instr.fill]
  | v::vs,k,pre,post,h,hp,hq=>by
    have hv:=h v aU;have hvl:v.cells.toList.length=sz:=by rw [Array.length_toList]; exact hv
    rw [aT,aD];unfold Instr.fill;simp only;have hlen:post.length=sz+vs.length*sz:=by rw [hq,List.length_cons,aV]; omega
    rw [if_neg (by rw [hv]; simp [hlen,hp])];have hsplit:pre++post=pre++post.take sz++post.drop sz:=by simp
    have hf:=Tf v.cells.toList 0 (k*sz) pre (post.take sz) (post.drop sz) (by omega) (by show (post.take sz).length=v.cells.toList.length; rw [aW,hvl]; omega);have he:v.cells.zipIdx.foldl (λ (cs:Array bG) (x:bG×Nat)=>cs.setIfInBounds (k*sz+x.2) x.1) (pre++post).toArray=(pre++v.cells.toList++post.drop sz).toArray:=by
      rw [hsplit,<-hf,<-Array.foldl_toList,Array.toList_zipIdx]
    rw [show (v.cells.zipIdx.foldl (λ cs (c,j)=>cs.setIfInBounds (k*sz+j) c) (pre++post).toArray)=(pre++v.cells.toList++post.drop sz).toArray from he,
      S9 sz vs (k+1) (pre++v.cells.toList) (post.drop sz) (λ u hu=>h u (aX _ hu)) (by show (pre++v.cells.toList).length=_; rw [List.length_append,hvl,hp,aV]) (by rw [List.length_drop,hlen]; omega)]
    simp
section
variable {P:bK} {ops:Array bL} {Q:Exit->Act->bH->Prop}
theorem J0 {t e:bI} {size bytes:Nat} {z:bG} (hE:C5 P t e size bytes z) {o:bL} {a:Act} {w:bH} {len:Nat} {parts:Array (Nat×Operand)} (ho:o.op=.buildSlice t len parts) {vs:List bG} (hv:(parts.map λ p=>(p.1,a.eval p.2)).toList=(vs.zipIdx 0).map λ x=>(x.2,x.1)) (hlen:vs.length=len) (hsz:∀v∈vs,v.cells.size=size) (hpos:0<len*size) (hsmall:len*size<=16777216): (execOp a.eval o).run P w=.ok (.value (.slice (some ⟨w.heap.size,0,none⟩) len len)) (w.alloc (.cells ((vs.map (·.cells.toList)).flatten).toArray e)):=by
  obtain ⟨ht,i,hi,hz,hsize,hby,hzs,hsz'⟩:=hE;have hfl:=S9 size vs 0 [] ((aO (len*size)).map (z.cells[· % z.cells.size]!)) hsz (by simp) (by simp [hlen]);simp only [List.nil_append] at hfl;have hr:((Array.range (len*i.size)).map (z.cells[· % z.cells.size]!))=((aO (len*size)).map (z.cells[· % z.cells.size]!)).toArray:=by rw [hsize]; apply Array.toList_inj.1; simp
  have h:=run_buildSlice (P:=P) w t e len (parts.map λ p=>(p.1,a.eval p.2)) ((vs.map (·.cells.toList)).flatten).toArray i z ht hi hz (by rw [hsize]; omega) (by rw [hsize]; omega) (by rw [hr,hsize,hv]; exact hfl);unfold execOp;simp only [ho,Sem.run_bind,Sem.run_pure,Result.andThen_ok];rw [show (parts.map λ (i,x)=>(i,a.eval x))=(parts.map λ p=>(p.1,a.eval p.2)) from rfl,h];rfl
end
/-! ### What operations leave -/
inductive PK where
  | val (x:Tv)
  | vals (l:List Tv)
  | row (cs:List bG)
  | is (v:bG)
  | fin
  | any
def A1S (F:Nat->Prop) (q:Nat) (x:Tv) (w:bH):Prop:=∃cs,Blk w q cs 249/\TvF w F x cs
def PK.holds (F:Nat->Prop) (q:Nat) (x:Tv):PK->bG->bH->Prop
  | .val y,v,w=>∃cs,v=.agg cs.toArray/\TvF w F y cs
  | .vals l,v,w=>∃rows,Sl w 5 v l.length rows/\(∀y,v.ownBlock=some y->F y)/\C6 w F l rows
  | .row cs,v,w=>Sl w 1 v cs.length cs/\∀y,v.ownBlock=some y->F y
  | .is u,v,_=>v=u
  | .fin,_,w=>A1S F q x w
  | .any,_,_=>True
def A3n (q:Nat) (w:bH):Prop:=∃cur,Blk w q cur 249/\cur.length=5
def GV (F:Nat->Prop) (q:Nat) (x:Tv) (w w':bH):Prop:=Ai (λ b=>b=q\/w.heap.size<=b) w w'/\(A1S F q x w->A1S F q x w')/\(A3n q w->A3n q w')
theorem GV.refl (F:Nat->Prop) (q:Nat) (x:Tv) (w:bH):GV F q x w w:=⟨Ai.refl _ _,id,id⟩
theorem GV.trans {F:Nat->Prop} {q:Nat} {x:Tv} (a b c:bH) (h:GV F q x a b) (k:GV F q x b c):GV F q x a c:=
  ⟨C8 (λ b=>Iff.rfl) h.1 k.1,λ h0=>k.2.1 (h.2.1 h0),λ h0=>k.2.2 (h.2.2 h0)⟩
theorem GV.not {F:Nat->Prop} {q:Nat} {w:bH} (hq:¬F q):∀b,F b->b<w.heap.size->¬(b=q\/w.heap.size<=b):=λ b hb hl h=>by
  rcases h with rfl | h
  · exact hq hb
  · omega
theorem PK.stable {F:Nat->Prop} {q:Nat} {x:Tv} (hq:¬F q):∀ {k:PK} {v:bG} {w w':bH},k.holds F q x v w->GV F q x w w'->k.holds F q x v w'
  | .val y,v,w,w',⟨cs,e,h⟩,g=>⟨cs,e,h.keep g.1 (GV.not hq)⟩
  | .vals l,v,w,w',⟨rows,h1,h2,h3⟩,g=>⟨rows,h1.keepF g.1 (λ _=>h2) (GV.not hq),h2,h3.keep g.1 (GV.not hq)⟩
  | .row cs,v,w,w',⟨h1,h2⟩,g=>⟨h1.keepF g.1 (λ _=>h2) (GV.not hq),h2⟩
  | .is u,_,_,_,h,_=>h
  | .fin,_,w,w',h,g=>g.2.1 h
  | .any,_,_,_,_,_=>trivial
theorem GV.of_below {F:Nat->Prop} {q:Nat} {x:Tv} {w w':bH} (hq:q<w.heap.size) (h:Below w.heap.size w w'):GV F q x w w':=
  ⟨(Ai.of_below h).mono λ b hb=>.inr hb,λ ⟨cs,h1,h2⟩=>⟨cs,h1.below h hq,h2.below h⟩,λ ⟨cs,h1,h2⟩=>⟨cs,h1.below h hq,h2⟩⟩
theorem GV.of_fin {F:Nat->Prop} {q:Nat} {x:Tv} {w w':bH} (h:Ai (λ b=>b=q) w w') (hf:A1S F q x w'):GV F q x w w':=⟨h.mono λ b hb=>.inl hb,λ _=>hf,λ _=>by obtain ⟨cs,h1,h2⟩:=hf; exact ⟨cs,h1,h2.length⟩⟩
def A0C (F:Nat->Prop) (q:Nat) (x:Tv) (a:Act) (w:bH):List Tv->List Operand->Prop
  | [], []=>True
  | y::l,p::ps=>PK.holds F q x (.val y) (a.eval p) w/\A0C F q x a w l ps
  | _,_=>False
def J4 (F:Nat->Prop) (q:Nat) (x:Tv) (ks:List PK):Nat->bG->bH->Prop:=λ i v w=>(ks.getD i .any).holds F q x v w
section
variable {ops:Array bL} {Q:Exit->Act->bH->Prop} {F:Nat->Prop} {q:Nat} {x:Tv} {E:Prop} {o:bL} {a:Act} {w:bH} {K:Act->bH->Prop}
theorem Ax (hw:Region.wanted o (yielded ops a.tmps)=true) {f:FuncId} {args:Array Operand} {tys:Array bI} (ho:o.op=.call { callee:=.value (.func f),args:=args,argTypes:=tys }) (hf:Bv aA f) {vs:Array bG} (hv:args.map a.eval=vs)
    {y:Tv} (hc:bJ aA f vs w (Jz w y)) (hq:q<w.heap.size) (hF:∀b,w.heap.size<=b->F b) (h:∀v w',GV F q x w w'->PK.holds F q x (.val y) v w'->K (a.put o.dst v) w'):
    if Region.wanted o (yielded ops a.tmps)=true then bL.wp aA o a w K Q else E:=
  Of hw ho hf hv hc λ e w' ⟨cs,h1,h2,h3⟩=>⟨_,h1,h _ _ (GV.of_below hq h3) ⟨cs,rfl,h2.mono hF⟩⟩
theorem Ee (hw:Region.wanted o (yielded ops a.tmps)=true) {f:FuncId} {args:Array Operand} {tys:Array bI} (ho:o.op=.call { callee:=.value (.func f),args:=args,argTypes:=tys }) (hf:Bv aA f) {vs:Array bG} (hv:args.map a.eval=vs)
    {u:bG} (hc:bJ aA f vs w λ e w'=>e=.returned u/\Below w.heap.size w w') (hq:q<w.heap.size) (h:∀v w',GV F q x w w'->PK.holds F q x (.is u) v w'->K (a.put o.dst v) w'):
    if Region.wanted o (yielded ops a.tmps)=true then bL.wp aA o a w K Q else E:=
  Of hw ho hf hv hc λ e w' ⟨h1,h2⟩=>⟨_,h1,h _ _ (GV.of_below hq h2) rfl⟩
theorem Dj (hw:Region.wanted o (yielded ops a.tmps)=true) {t:Int} {s:Tmp} {tys:Array bI} (ho:o.op=.call { callee:=.value (.func 109),args:=#[.const (.int .i64 t),.tmp s],argTypes:=tys }) (hf:Bv aA 109)
    {l:List Tv} (hl:PK.holds F q x (.vals l) (a.eval (.tmp s)) w) (hq:q<w.heap.size) (h:∀v w',GV F q x w w'->PK.holds F q x (.val (.mk 2 t 0 [] l)) v w'->K (a.put o.dst v) w') (hqF:¬F q):
    if Region.wanted o (yielded ops a.tmps)=true then bL.wp aA o a w K Q else E:=by
  obtain ⟨rows,h1,h2,h3⟩:=hl;obtain ⟨ad,c,e,_⟩:=h1.form;refine Of hw ho hf (vs:=#[.int .i64 t,a.eval (.tmp s)]) (by simp [Act.eval]) (L6 t _ l.length c ad e w) λ e w' ⟨h4,h5⟩=>⟨_,h4,h _ _ (GV.of_below hq h5) ⟨_,rfl,?_⟩⟩
  exact TvF.mk (Sl.nil _ _ _) (by simp [bG.ownBlock]) (h1.below h5) h2 (h3.below h5)
theorem Cz (hw:Region.wanted o (yielded ops a.tmps)=true) {t:bI} {parts:Array (Nat×Operand)} {len:Nat} (ho:o.op=.buildSlice t len parts) {bytes:Nat} {z:bG} (hE:C5 aA t 249 5 bytes z) {ps:List Operand} (hps:parts.toList=(ps.zipIdx 0).map λ p=>(p.2,p.1)) {l:List Tv} (hl:A0C F q x a w l ps) (hlen:l.length=len) (hpos:0<len) (hsmall:len<=1000000) (hq:q<w.heap.size) (hF:∀b,w.heap.size<=b->F b) (h:∀v w',GV F q x w w'->PK.holds F q x (.vals l) v w'->K (a.put o.dst v) w'): if Region.wanted o (yielded ops a.tmps)=true then bL.wp aA o a w K Q else E:=by
  obtain ⟨css,h1,h2⟩:∃css:List (List bG),ps.map a.eval=css.map (λ c=>bG.agg c.toArray)/\C6 w F l css.flatten/\css.length=l.length/\(∀c∈css,c.length=5)/\(∀c∈css,∀u∈c,u.oneCell'=true):=by
    clear ho hlen hpos hsmall h hps;induction l generalizing ps with
    | nil=>
      cases ps with
      | nil=>exact ⟨[],rfl,rfl,rfl,by simp,by simp⟩
      | cons p ps=>exact hl.elim
    | cons y l ih=>
      cases ps with
      | nil=>exact hl.elim
      | cons p ps=>
      obtain ⟨css,i1,i2,i3,i4,i5⟩:=ih hl.2;obtain ⟨cs,e,ht⟩:=hl.1;refine ⟨cs::css,by simp [e,i1],⟨cs,css.flatten,rfl,ht,i2⟩,by simp [i3],?_,?_⟩
      · intro c hc;rcases List.mem_cons.1 hc with rfl | hc
        · exact ht.length
        · exact i4 c hc
      · intro c hc;rcases List.mem_cons.1 hc with rfl | hc
        · exact ht.one
        · exact i5 c hc
  obtain ⟨h2,h3,h4,h5⟩:=h2;have hfl:((css.map λ c=>bG.agg c.toArray).map (·.cells.toList)).flatten=css.flatten:=by
    rw [aG,show (λ v:bG=>v.cells.toList)∘(λ c:List bG=>bG.agg c.toArray)=id from rfl,List.map_id]
  have hex:=J0 hE (o:=o) (a:=a) (w:=w) ho (vs:=css.map λ c=>bG.agg c.toArray) (by
    rw [Array.toList_map,hps,<-h1,aY,aG,aG]; rfl) (by simp [h3,hlen]) (by
      intro v hv;obtain ⟨c,hc,rfl⟩:=List.mem_map.1 hv;exact h4 c hc) (by omega) (by omega)
  rw [hfl] at hex;have hsl:Sl (w.alloc (.cells css.flatten.toArray 249)) 5 (.slice (some ⟨w.heap.size,0,none⟩) len len) len css.flatten:=Sl.lit rfl (by rw [C6.length h2,hlen]) (by
    intro u hu;obtain ⟨c,hc,hu⟩:=List.mem_flatten.1 hu;exact h5 c hc u hu) (by unfold maxLen; omega)
  have hb:Below w.heap.size w (w.alloc (.cells css.flatten.toArray 249)):=(aC _ _).alloc (aB _) _;subst hlen;exact A3 hw hex (h _ _ (GV.of_below hq hb) ⟨_,hsl,λ y hy=>hF y (by simp [bG.ownBlock] at hy; omega),h2.below hb⟩)
theorem Cl (hw:Region.wanted o (yielded ops a.tmps)=true) {t e:bI} {parts:Array (Nat×Operand)} {len:Nat} (ho:o.op=.buildSlice t len parts) {bytes:Nat} {z:bG} (hE:C5 aA t e 1 bytes z) {ps:List Operand} (hps:parts.toList=(ps.zipIdx 0).map λ p=>(p.2,p.1)) {cs:List bG} (hl:ps.map a.eval=cs) (h1:∀u∈cs,u.oneCell'=true/\u.cells=#[u]) (hlen:cs.length=len) (hpos:0<len) (hsmall:len<=1000000) (hq:q<w.heap.size) (hF:∀b,w.heap.size<=b->F b) (h:∀v w',GV F q x w w'->PK.holds F q x (.row cs) v w'->K (a.put o.dst v) w'): if Region.wanted o (yielded ops a.tmps)=true then bL.wp aA o a w K Q else E:=by
  have hfl:(cs.map (·.cells.toList)).flatten=cs:=by
    clear hl hlen h;induction cs with
    | nil=>rfl
    | cons u cs ih=>
      rw [aD,List.flatten_cons,ih (λ v hv=>h1 v (aX _ hv)),(h1 u aU).2];rfl
  have hex:=J0 hE (o:=o) (a:=a) (w:=w) ho (vs:=cs) (by
    rw [Array.toList_map,hps,<-hl,aY,aG,aG]; rfl) hlen (by
      intro v hv;rw [(h1 v hv).2]; rfl) (by omega) (by omega)
  rw [hfl] at hex;have hsl:Sl (w.alloc (.cells cs.toArray e)) 1 (.slice (some ⟨w.heap.size,0,none⟩) len len) len cs:=Sl.lit rfl (by simp [hlen]) (λ u hu=>(h1 u (by simpa using hu)).1) (by unfold maxLen; omega);have hb:Below w.heap.size w (w.alloc (.cells cs.toArray e)):=(aC _ _).alloc (aB _) _;subst hlen;exact A3 hw hex (h _ _ (GV.of_below hq hb) ⟨hsl,λ y hy=>hF y (by simp [bG.ownBlock] at hy; omega)⟩)
theorem Di (hw:Region.wanted o (yielded ops a.tmps)=true) {s t:Tmp} (ho:o.op=.store 249 (.tmp s) (.tmp t)) (hs:a.eval (.tmp s)=.pointer (some ⟨q,0,none⟩)) (ht:PK.holds F q x (.val x) (a.eval (.tmp t)) w) {cur:List bG} (hb:Blk w q cur 249) (hcur:cur.length=5) (hqF:¬F q) (h:∀v w',GV F q x w w'->PK.holds F q x .fin v w'->K (a.put o.dst v) w'): if Region.wanted o (yielded ops a.tmps)=true then bL.wp aA o a w K Q else E:=by
  obtain ⟨cs,e,hx⟩:=ht;refine A4e hw (.tmp s) (.tmp t) Aq ho hs e hx.length hb (by omega) hx.one λ w' h1 h2=>?_
  have hf:A1S F q x w':=⟨_,h1,by
    have:cur.take 0++cs++cur.drop (0+5)=cs:=by rw [aZ (by omega)]; simp
    rw [this];exact hx.keep h2 (λ b hb _ hq=>hqF (hq▸hb))⟩
  exact h _ _ (GV.of_fin h2 hf) hf
end
end
theorem zA {P:bK} {md:Region.Mode} {ops:Array bL} {Q:Exit->Act->bH->Prop} {S:bH->Prop} {G:bH->bH->Prop} {Post:Nat->bG->bH->Prop} {l0:Array Bool} {ds:List Nat} {a0:Act} {w0:bH} {i:Nat} {rs:List Nat} {d:Option Tmp} {g:Option (Nat×Bool)} {op:Op} {ty:bI} {pos:String} {aft:Array Edge} (h:∀a w,Fr a0 a ds->S w->(∀d,A3x md ops l0 i d=true->Iu ops Post d a w)->∀K:Act->bH->Prop,(∀v w',G w w'->Post i v w'->K (a.put (bL.dst ⟨d,op,ty,pos,aft,g⟩) v) w')-> if Region.wanted ⟨d,op,ty,pos,aft,g⟩ (yielded ops a.tmps)=true then bL.wp P ⟨d,op,ty,pos,aft,g⟩ a w K Q else K (a.put (bL.dst ⟨d,op,ty,pos,aft,g⟩) undef) w) (hs:Ce P md ops Q S G Post l0 ds a0 w0 rs) (ho:ops[i]?=some ⟨d,op,ty,pos,aft,g⟩:=by rfl):Ce P md ops Q S G Post l0 ds a0 w0 (i::rs):=Ce.cons ho h hs
def A5R (T:bI) (r:bG):Prop:=r=.nilIface\/∃U x,r=.iface U x/\U≠T
theorem Bl:A9 aA 81 2:=A9.mk Tryz.underlying81 rfl (by kernel_rfl)
theorem Fg (T:bI) (v:bG) (X:bI) (hT:(match Tryz.prog.underlying T with | some (.interface _)=>false | some _=>true | none=>false)=true) (W:bH): (Instr.typeAssert (.iface T v) X T true).run aA W=.ok (.tuple #[v,.bool true]) W:=by
  cases hu:Tryz.prog.underlying T with
  | none=>rw [hu] at hT; simp at hT
  | some d=>
    rw [hu] at hT;unfold Instr.typeAssert;rw [Sem.run_bind,run_underlying hu W]
    cases d <;> first | (simp at hT; done) | simp [Result.andThen,Sem.run_pure]
theorem Bt (T:bI) (r:bG) (X:bI) (z:bG) (hT:(match Tryz.prog.underlying T with | some (.interface _)=>false | some _=>true | none=>false)=true) (hz:∀W,(zeroValue T).run aA W=.ok z W) (h:A5R T r) (W:bH):(Instr.typeAssert r X T true).run aA W=.ok (.tuple #[z,.bool false]) W:=by
  cases hu:Tryz.prog.underlying T with
  | none=>rw [hu] at hT; simp at hT
  | some d=>
    rw [hu] at hT;unfold Instr.typeAssert;rw [Sem.run_bind,run_underlying hu W];rcases h with rfl | ⟨U,x,rfl,hne⟩
    · cases d <;> first | (simp at hT; done) | simp [Result.andThen,Sem.run_pure,Sem.run_bind,hz]
    · cases d <;> first | (simp at hT; done) | simp [Result.andThen,Sem.run_pure,Sem.run_bind,hz,hne]
def zs2:List bG:= [.string ⟨#[]⟩,.slice none 0 0]
def Co (t:List UInt8×List UInt8):Tv:=.mk 2 1 0 [] [.mk 1 0 0 t.1 [],.mk 1 0 0 t.2 []]
def Fj (w:bH) (x:Tv) (b:Bool) (e:Ending) (w':bH):Prop:=
  ∃cs,e=.returned (.tuple #[.agg cs.toArray,.bool b])/\TvF w' (λ y=>w.heap.size<=y) x cs/\Below w.heap.size w w'
theorem G5:Bv aA 133:=Bv.mk Tryz.func133 (by kernel_rfl) (by kernel_rfl)
theorem D1:Bv aA 111:=Bv.mk Tryz.func111 (by kernel_rfl) (by kernel_rfl)
theorem Cw:Bv aA 109:=Bv.mk Tryz.func109 (by kernel_rfl) (by kernel_rfl)
theorem E4:Bv aA 134:=Bv.mk aR (by kernel_rfl) (by kernel_rfl)
theorem E5 (t:List UInt8×List UInt8) (bv:bG) (w:bH) (hb:Bs w bv t.2) (h1:t.1.length<=1099511627776) (h2:t.2.length<=1099511627776): bJ aA 120 #[.iface 81 (.agg #[.string (tx t.1),bv])] w (Fj w (Co t) (As (tx t.1))):=by
  obtain ⟨l1,l2⟩:=t;simp only at*;obtain ⟨ab,cb,rfl,hcb,hmb⟩:=hb.form;have hta:∀W,(Instr.typeAssert (.iface 81 (.agg #[.string (tx l1),.slice ab l2.length cb])) 20 81 true).run aA W=.ok (.tuple #[.agg #[.string (tx l1),.slice ab l2.length cb],.bool true]) W:=λ W=>Fg _ _ _ (by kernel_rfl) W
  have HZ:=hqZ h1;have HZ2:=hqZ h2;have HB:=hqZ hb;clear h1 h2 hb;go_enter Tryz.func120,Tryz.ntmps120;go_upto_region 4 with fail;clear hta;obtain ⟨w1,hw1⟩:∃w1,w1=w.alloc (.cells zs5.toArray 249):=⟨_,rfl⟩
  obtain ⟨w2,hw2⟩:∃w2,w2=w1.alloc (.cells #[.string (tx l1),.slice ab l2.length cb] 81):=⟨_,rfl⟩
  have hq0:Blk w1 w.heap.size zs5 249:=by rw [hw1]; exact Blk.new _ _ _
  have hz1:w1.heap.size=w.heap.size+1:=by rw [hw1]; simp
  have hm0:Blk w2 w1.heap.size [.string (tx l1),.slice ab l2.length cb] 81:=by rw [hw2]; exact Blk.new _ _ _
  have hz2:w2.heap.size=w.heap.size+2:=by rw [hw2]; simp [hz1]
  have hb1:Below w.heap.size w w1:=by rw [hw1]; exact (aC _ _).alloc (aB _) _
  have hb2:Below w.heap.size w w2:=by rw [hw2]; exact hb1.alloc (by omega) _
  have hq2:Blk w2 w.heap.size zs5 249:=by rw [hw2]; exact hq0.alloc _
  rw [hz1] at hm0;have hbb:Bs w2 (.slice ab l2.length cb) l2:=HB.o.below hb2;show Code.wp _ _ _ _ ((w.alloc (.cells zs5.toArray 249)).alloc (.cells #[.string (tx l1),.slice ab l2.length cb] 81))
  rw [<-hw1,<-hw2];obtain ⟨q,hq⟩:∃q,q=w.heap.size:=⟨_,rfl⟩
  obtain ⟨F,hF⟩:∃F:Nat->Prop,F=λ b=>q+2<=b:=⟨_,rfl⟩
  obtain ⟨wd,hwd⟩:∃wd,wd=w2.drew:=⟨_,rfl⟩
  obtain ⟨p,hp⟩:∃p,p=q+1:=⟨_,rfl⟩
  obtain ⟨X,hX⟩:∃X,X=Co (l1,l2):=⟨_,rfl⟩
  have HFq:Hq (¬F q):=hqZ (by rw [hF]; intro h; omega);have hzd:wd.heap.size=q+2:=by rw [hwd]; simp [hz2,hq]
  have HZD:Hq (∀W,GV F q X wd W->q<W.heap.size/\(∀b,W.heap.size<=b->F b)):=hqZ (λ W h=>by
    have:=h.1.size;exact ⟨by omega,λ b hb=>by rw [hF]; show q+2<=b; omega⟩)
  have HM:Hq (∀W,GV F q X wd W->Blk W p [.string (tx l1),.slice ab l2.length cb] 81):=hqZ (λ W h=>
    (show Blk wd p _ _ by rw [hwd,hp,hq]; exact hm0.drew).keep h.1 (by rintro (e | e) <;> omega))
  have HQB:Hq (∀W,GV F q X wd W->A3n q W):=hqZ (λ W h=>h.2.2 ⟨zs5,by rw [hwd,hq]; exact hq2.drew,rfl⟩);have HBW:Hq (∀W,GV F q X wd W->Bs W (.slice ab l2.length cb) l2):=hqZ (λ W h=>
    (show Bs wd _ _ by rw [hwd]; exact hbb.drew).keepF (F:=λ b=>b<q) h.1 (λ hn y hy=>by rw [hq]; exact Sl.own_lt HB.o (by decide) hn y hy) (λ b hb _ hs=>by have hb:b<q:=hb; rcases hs with e | e <;> omega))
  have HFX:Hq (∀b,F b->w.heap.size<=b):=hqZ (λ b hb=>by rw [hF] at hb; have:q+2<=b:=hb; omega);have HBD:Hq (∀W,GV F q X wd W->Below w.heap.size w W):=hqZ (λ W h=>
    (show Below w.heap.size w wd by rw [hwd]; exact hb2.drew).trans (h.1.below (by rintro b (e | e) <;> omega)))
  have HXE:Hq (X=.mk 2 1 0 [] [.mk 1 0 0 l1 [],.mk 1 0 0 l2 []]):=hqZ hX;have HXE2:Hq (X=Co (l1,l2)):=hqZ hX;rw [show w.heap.size=q from hq.symm];rw [<-hp];clear hq0 hm0 hz1 hz2 hb1 hb2 hq2 hbb hw1 hw2 hF hX hzd hp;refine wp_region_held (S:=λ W=>GV F q X wd W) (by kernel_rfl) ?_;change wpAnyH _ _ _ _ _ _ _ _ (bH.drew _);rw [<-hwd];clear hwd;refine zH 0 ?_;refine zH 1 ?_ (v:=.string (tx l1)) (hr:=λ W hW=>by have hc:W.cell? ⟨p,0,none⟩=some (.string (tx l1)):=(HM.o W hW).cell 0; go_simp);refine zH 3 ?_;refine zH 4 ?_ (v:=.slice ab l2.length cb) (hr:=λ W hW=>by have hc:W.cell? ⟨p,1,none⟩=some (.slice ab l2.length cb):=(HM.o W hW).cell 1; go_simp);refine zH 8 ?_;refine zH 9 ?_ (v:=.string (tx l1)) (hr:=λ W hW=>by have hc:W.cell? ⟨p,0,none⟩=some (.string (tx l1)):=(HM.o W hW).cell 0; go_simp);refine Ct (G:=GV F q X) (Post:=J4 F q X [.any,.any,.val (.mk 1 0 0 l1 []),.any,.any,.val (.mk 1 0 0 l2 []),.vals [.mk 1 0 0 l1 [],.mk 1 0 0 l2 []],.val (.mk 2 1 0 [] [.mk 1 0 0 l1 [],.mk 1 0 0 l2 []]),.any,.any,.is (.bool (As (tx l1))),.fin,.is (.bool (As (tx l1)))]) (ds:= [17,20,21,22,25,3]) (GV.refl _ _ _) GV.trans (λ W W' h g=>GV.trans _ _ _ h g) (λ i v W W' h g=>PK.stable HFq.o h g) [2,5,6,7,10,11,12] 180 rfl (by decide+kernel) (by decide+kernel) ?_ ?_ (GV.refl _ _ _ _) (by decide+kernel)
  · refine zA (λ a W hf hS hd K hK=>?_) ?_
    · have e16:a.eval (.tmp 16)=.string (tx l1):=hf.lit 16 (by decide) rfl;exact Ax (Ae rfl) rfl G5 (vs:=#[.string (tx l1)]) (by simp [e16]) (Ll l1 W HZ.o) (HZD.o W hS).1 (HZD.o W hS).2 hK
    refine zA (λ a W hf hS hd K hK=>?_) ?_
    · have e19:a.eval (.tmp 19)=.slice ab l2.length cb:=hf.lit 19 (by decide) rfl;exact Ax (Ae rfl) rfl D1 (vs:=#[.slice ab l2.length cb]) (by simp [e19]) (Cy _ l2 W (HBW.o W hS) HZ2.o) (HZD.o W hS).1 (HZD.o W hS).2 hK
    refine zA (λ a W hf hS hd K hK=>?_) ?_
    · have d17:=(hd 2 (by decide+kernel)).get (s:=17) rfl;have d20:=(hd 5 (by decide+kernel)).get (s:=20) rfl;exact Cz (Ae rfl) rfl Gi (ps:= [.tmp 17,.tmp 20]) rfl (l:= [.mk 1 0 0 l1 [],.mk 1 0 0 l2 []]) ⟨d17,d20,trivial⟩ rfl (by decide) (by decide) (HZD.o W hS).1 (HZD.o W hS).2 hK
    refine zA (λ a W hf hS hd K hK=>?_) ?_
    · have d21:=(hd 6 (by decide+kernel)).get (s:=21) rfl;exact Dj (Ae rfl) rfl Cw d21 (HZD.o W hS).1 (λ v w1 h1 h2=>hK v w1 h1 h2) HFq.o
    refine zA (λ a W hf hS hd K hK=>?_) ?_
    · have e24:a.eval (.tmp 24)=.string (tx l1):=hf.lit 24 (by decide) rfl;exact Ee (Ae rfl) rfl E4 (vs:=#[.string (tx l1),.slice none 0 0]) (by simp only [aP,aD,aH,e24]; rfl) (u:=.bool (As (tx l1))) ((Ia (tx l1) [] _ W (Sl.nil _ _ _) (by rw [E7]; have:=HZ.o; unfold maxLen; omega)).mono λ e w1 h=>⟨by rw [h.1]; simp,h.2⟩) (HZD.o W hS).1 hK
    refine zA (λ a W hf hS hd K hK=>?_) ?_
    · have e2:a.eval (.tmp 2)=.pointer (some ⟨q,0,none⟩):=hf.lit 2 (by decide) rfl;have d22:=(hd 7 (by decide+kernel)).get (s:=22) rfl;obtain ⟨cur,hc1,hc2⟩:=HQB.o W hS;rw [<-HXE.o] at d22;exact Di (Ae rfl) rfl e2 d22 hc1 hc2 HFq.o hK
    refine zA (λ a W hf hS hd K hK=>?_) ?_
    · have d25:=(hd 10 (by decide+kernel)).get (s:=25) rfl;exact A3 (Ae rfl) (Gj rfl) (hK _ _ (GV.refl _ _ _ _) d25)
    exact Ce.nil
  · intro a W hf hS hp;have h3:=(hp 12 (by decide)).get (s:=3) rfl;obtain ⟨v,cs,h5,h6⟩:=(hp 11 (by decide)).fin;have e2:a.eval (.tmp 2)=.pointer (some ⟨q,0,none⟩):=hf.lit 2 (by decide) rfl;go_wp2_with fail;refine bodyPost_ret (Aj rfl Aq (show a.tmps.getD 2 undef=_ from e2) h6.length h5.cellsAll) hf.defers ⟨cs,?_,?_,HBD.o W hS⟩
    · rw [show a.tmps.getD 3 undef=.bool (As (tx l1)) from h3]
    · exact HXE2.o▸h6.mono HFX.o
def F5 (w:bH) (F:Nat->Prop):List (List UInt8×List UInt8)->List bG->Prop
  | [],cs=>cs= []
  | t::l,cs=>∃bv rs,cs=.string (tx t.1)::bv::rs/\Bs w bv t.2/\(0<t.2.length->∀y,bv.ownBlock=some y->F y)/\F5 w F l rs
theorem F5.keep {w w':bH} {F S:Nat->Prop} (hk:Ai S w w') (hs:∀b,F b->b<w.heap.size->¬S b):∀ {l:List (List UInt8×List UInt8)} {cs:List bG},F5 w F l cs->F5 w' F l cs
  | [],cs,h=>h
  | t::l,cs,h=>by
    obtain ⟨bv,rs,e,h1,h2,h3⟩:=h;exact ⟨bv,rs,e,h1.keepF hk h2 hs,h2,F5.keep hk hs h3⟩
theorem F5.below {w w':bH} {F:Nat->Prop} {l:List (List UInt8×List UInt8)} {cs:List bG} (h:F5 w F l cs) (hb:Below w.heap.size w w'):F5 w' F l cs:=
  F5.keep (Ai.of_below hb) (λ _ _ hl hs=>by omega) h
def Uc (w:bH) (F:Nat->Prop) (l:List (List UInt8×List UInt8)) (v:bG):Prop:=
  ∃rows,Sl w 2 v l.length rows/\F5 w F l rows
def rT (t:List UInt8×List UInt8):Bool:=As (tx t.1)
def Fh (l:List (List UInt8×List UInt8)):Tv:=.mk 2 0 0 [] ((l.takeWhile rT).map Co)
def Vj (l:List (List UInt8×List UInt8)):Bool:=l.all rT&&decide (l.length<=1)
theorem K1 {α:Type} (p:α->Bool):∀(l:List α) (j:Nat),(l.take j).all p=true->(∀h:j<l.length,p l[j]=false)->l.takeWhile p=l.take j
  | [],j,_,_=>by simp
  | x::l,0,_,h=>by
    rw [bA,List.take_zero]
    have:=h (by simp);simp only [List.getElem_cons_zero] at this;rw [this];rfl
  | x::l,j+1,ha,h=>by
    rw [bB,bC,Bool.and_eq_true] at ha;rw [bA,if_pos ha.1,bB,K1 p l j ha.2 (λ hj=>by
      have:=h (by simpa using hj);simpa using this)]
theorem F5.at_ {w:bH} {F:Nat->Prop} :∀ {l:List (List UInt8×List UInt8)} {cs:List bG},F5 w F l cs->∀(k:Nat) (hk:k<l.length),∃bv,(cs.drop (k*2)).take 2= [.string (tx l[k].1),bv]/\Bs w bv l[k].2
  | [],cs,h,k,hk=>by simp at hk
  | t::l,cs,h,0,hk=>by
    obtain ⟨bv,rs,rfl,h1,h2,h3⟩:=h;exact ⟨bv,rfl,h1⟩
  | t::l,cs,h,k+1,hk=>by
    obtain ⟨bv,rs,rfl,h1,h2,h3⟩:=h;obtain ⟨b2,e,h4⟩:=F5.at_ h3 k (by simpa using hk);refine ⟨b2,?_,h4⟩;rw [show (k+1)*2=k*2+1+1 by omega,bD,bD];exact e
structure TkL (w:bH) (q z:Nat) (l:List (List UInt8×List UInt8)) (wr:bH) (j:Nat) (lv:bG) (rows:List bG) (G:Nat->Prop):Prop where
  hq:Blk wr q zs5 249
  hz:Blk wr z [.int .i64 2,.int .i64 0,.int .u64 0,.slice none 0 0,lv] 249
  qz:q<z
  own:Own wr (z+1) 249 5 lv j rows
  tvs:C6 wr G ((l.take j).map Co) rows
  g:∀x,G x->z+1<=x/\x<wr.heap.size/\lv.ownBlock≠some x
  v:∀x,lv.ownBlock=some x->z+1<=x/\x<wr.heap.size
  below:Below q w wr
  size:z+1<=wr.heap.size
  all:(l.take j).all rT=true
theorem TkL.tv {w wr:bH} {q z:Nat} {l:List (List UInt8×List UInt8)} {j:Nat} {lv:bG} {rows:List bG} {G:Nat->Prop} (h:TkL w q z l wr j lv rows G) (hs:∀h:j<l.length,rT l[j]=false) (hj:j<=l.length): TvF wr (λ b=>q<b) (Fh l) [.int .i64 2,.int .i64 0,.int .u64 0,.slice none 0 0,lv]:=by
  have hz:=h.qz;unfold Fh;rw [K1 rT l j h.all hs];refine TvF.mk (Sl.nil _ _ _) (by simp [bG.ownBlock]) ?_ (λ y hy=>by have:=h.v y hy; omega) (h.tvs.mono (λ b hb=>by have:=h.g b hb; omega))
  have:=h.own.sl;rw [show ((l.take j).map Co).length=j by rw [List.length_map,aW]; omega];exact this
theorem Yr (l:List (List UInt8×List UInt8)) (F0:Nat->Prop) (v:bG) (w:bH) (h:Uc w F0 l v) (hl:∀t∈l,t.1.length<=1099511627776/\t.2.length<=1099511627776) (hn:l.length<=1954687338211): bJ aA 126 #[v] w (Fj w (Fh l) (Vj l)):=by
  obtain ⟨rows0,hs,hr⟩:=h;obtain ⟨a0,c0,rfl,hc0,hm0⟩:=hs.form;unfold maxLen at hm0;have HS:=hqZ hs;have HR:=hqZ hr;have HL:=hqZ hl;obtain ⟨q,hq⟩:∃q,q=w.heap.size:=⟨_,rfl⟩
  have hqw:w.heap.size<=q:=by omega
  have hq0:Blk (w.alloc (.cells zs5.toArray 249)) q zs5 249:=by rw [hq]; exact Blk.new _ _ _
  have hb0:Below w.heap.size w (w.alloc (.cells zs5.toArray 249)):=(aC _ _).alloc (aB _) _;have hz0:(w.alloc (.cells zs5.toArray 249)).heap.size=q+1:=by rw [hq]; simp
  have HQ0:=hqZ hq0;have HB0:=hqZ hb0;have HZ0:=hqZ hz0;have HSEQ:=hqZ (L6 0 (.slice none 0 0) 0 0 none rfl (w.alloc (.cells zs5.toArray 249)));have HQQ:=hqZ hq;clear hs hr hl hq0 hb0 hz0;go_enter Tryz.func126,Tryz.ntmps126;clear hq;go_wp2_with fail;refine HSEQ.o.mono ?_;rintro e w1 ⟨rfl,hb⟩;obtain ⟨z,hz⟩:∃z,z=w1.heap.size:=⟨_,rfl⟩
  have hz1:=hb.size;rw [HZ0.o] at hz1;have hpl:TkL w q z l (w1.alloc (.cells #[.int .i64 2,.int .i64 0,.int .u64 0,.slice none 0 0,.slice none 0 0] 249)) 0 (.slice none 0 0) [] (λ _=>False):=by
    refine ⟨(HQ0.o.below hb (by rw [HZ0.o]; omega)).alloc _,by rw [hz]; exact Blk.at_ rfl,by omega,Own.nil _ _ _ _ _,rfl,λ _ h=>h.elim,by simp [bG.ownBlock],?_,by simp [hz],rfl⟩;rw [HQQ.o];exact (HB0.o.trans (hb.mono (by simp))).alloc (by omega) _
  have HPL:=hqZ hpl;clear hb HSEQ hpl hz1 HB0 HQ0 HZ0;go_upto_region 2 with fail;generalize hW0:w1.alloc (.cells #[.int .i64 2,.int .i64 0,.int .u64 0,.slice none 0 0,.slice none 0 0] 249)=W0 at*;rw [<-hz,<-HQQ.o];clear hW0 hz;go_wp2_with fail;go_loopw [12] (λ i wr=>∃(j:Nat) (lv:bG) (rows:List bG) (G:Nat->Prop),j<=l.length/\i=.int .i64 j/\TkL w q z l wr j lv rows G) (λ i _=>l.length- (intOf i).toNat)
  case atStart=>exact ⟨0,_,_,_,aJ _,rfl,HPL.o⟩
  case round=>
    obtain ⟨j,lv,rows,G,hj,rfl,hp⟩:=hrel;have HP:=hqZ hp;have hszr:=hp.size;have hqz:=hp.qz;clear HPL;have hlf:∃a c,lv=.slice a j c:=by obtain ⟨a,c,e,_⟩:=hp.own.sl.form; exact ⟨a,c,e⟩
    obtain ⟨la,lc,rfl⟩:=hlf;by_cases hlt:j<l.length
    · obtain ⟨bl,ol,rfl,hcell⟩:=HS.o.addr (by rw [HS.o.1]; omega);obtain ⟨bv,hbe,hbv⟩:=HR.o.at_ j hlt;have hbw:Below w.heap.size w wr:=HP.o.below.mono hqw;have hcr:Al wr bl (ol+j*2) [.string (tx l[j].1),bv]:=λ i u hi=>Bc hbw (by
        rw [<-hbe,List.getElem?_take] at hi;split at hi
        · rw [List.getElem?_drop] at hi;rw [Nat.add_assoc];exact hcell _ u hi
        · simp at hi)
      obtain ⟨ab,cb,rfl,hcb,hmb⟩:=hbv.form;have hji:(j:Int)<l.length:=by omega
      have HCR:=hqZ hcr;have HBV:=hqZ (hbv.below hbw);have HLJ:=hqZ (HL.o l[j] (aE hlt));have HSN:Hq (∀(w0:bH) (Gx:Nat->Prop) (rs:List bG) (cs2:List bG),C6 w0 Gx ((l.take j).map Co) rs->TvF w0 Gx (Co l[j]) cs2->C6 w0 Gx ((l.take (j+1)).map Co) (rs++cs2)):=hqZ (λ w0 Gx rs cs2 h1 h2=>by
        rw [aF hlt,List.map_append];exact h1.snoc h2)
      have HAL:Hq (rT l[j]=true->(l.take (j+1)).all rT=true):=hqZ (λ h=>by
        rw [aF hlt,aK,HP.o.all];simp [h])
      have HNO:Hq (rT l[j]=false->(∀h:j<l.length,rT l[j]=false)/\Vj l=false):=hqZ (λ h=>⟨λ _=>h,by
        unfold Vj;rw [show l.all rT=false from List.all_eq_false.2 ⟨l[j],aE hlt,by rw [h]; simp⟩]
        rfl⟩)
      clear hcell hbe hbv hbw hcr hp;generalize hgt:l[j]=t at*;obtain ⟨t1,t2⟩:=t;simp only at*;have HG6:=hqZ (Blk.new wr [.string (tx t1),.slice ab t2.length cb] 81);have HTV:=hqZ (E5 (t1,t2) (.slice ab t2.length cb) (wr.alloc (.cells [.string (tx t1),.slice ab t2.length cb].toArray 81)) (HBV.o.alloc _) HLJ.o.1 HLJ.o.2);clear hgt;go_wp2_with (first | ((with_reducible refine zw 15 ?_);refine Ag rfl (.tmp 14) Bl rfl rfl (cs:= [.string (tx t1),.slice ab t2.length cb]) rfl HCR.o ?_) | ((with_reducible refine zw 17 ?_);refine Ag rfl (.tmp 6) Bl rfl rfl (cs:= [.string (tx t1),.slice ab t2.length cb]) rfl HG6.o.cellsAll ?_));refine HTV.o.mono ?_;rintro e w2 ⟨cs2,rfl,htv,hb2⟩;have hz2:=hb2.size;simp at hz2;have hbr:Below wr.heap.size wr w2:=(((aC _ _).alloc (aB _) _).trans (hb2.mono (by simp)));have HBR:=hqZ hbr;have HCL:=hqZ htv.length;have HC1:=hqZ htv.one;have HTT:=hqZ htv;have HN7:=hqZ (Blk.new w2 zs5 249);have hrt:As (tx (t1,t2).1)=rT (t1,t2):=rfl;rw [hrt];clear hb2 htv hbr HTV hrt;go_upto_region 6 with ((with_reducible refine zws 7 20 ?_);refine Af rfl (.tmp 7) (.tmp 20) Aq rfl rfl (vs:=cs2) rfl HCL.o HN7.o (aB _) HC1.o ?_);intro w3 h3 k3;have h3':Blk w3 w2.heap.size cs2 249:=by
        rw [aZ (by decide),List.append_nil] at h3;exact h3
      have hz3:=k3.size;simp at hz3;have hb3:Below w2.heap.size w2 w3:=((aC _ _).alloc (aB _) _).trans (k3.below (by omega));have HB3:Hq (Below wr.heap.size wr w3):=hqZ (HBR.o.trans (hb3.mono (by omega)));have H3:=hqZ h3';have HTT3:=hqZ (HTT.o.keep (Ai.of_below hb3) (λ y _ hl h=>by omega));have hzq:=HP.o.hz.below HB3.o (by omega);have z4:w3.cell? ⟨z,4,none⟩=some (.slice la j lc):=by rw [hzq.cell]; rfl
      have HZ3:=hqZ hzq;clear h3 k3 h3' hb3 HTT hzq HN7 HBR
      cases hrt:rT (t1,t2) with
      | false=>
        have HRT:=hqZ hrt;clear hrt;have hq3:=HP.o.hq.below HB3.o (by omega);have HQ3:=hqZ hq3;clear hq3;go_wp2_with (first | ((with_reducible refine zw 24 ?_);refine Ag rfl (.tmp 4) Aq rfl rfl (cs:= [.int .i64 2,.int .i64 0,.int .u64 0,.slice none 0 0,.slice la j lc]) rfl HZ3.o.cellsAll ?_) | ((with_reducible refine zws 2 24 ?_);refine Af rfl (.tmp 2) (.tmp 24) Aq rfl rfl (vs:= [.int .i64 2,.int .i64 0,.int .u64 0,.slice none 0 0,.slice la j lc]) rfl rfl HQ3.o (aB _) (by intro u hu; simp at hu; rcases hu with rfl | rfl | rfl | rfl | rfl <;> rfl) ?_));intro w4 h4 k4;have H4:Hq (Blk w4 q [.int .i64 2,.int .i64 0,.int .u64 0,.slice none 0 0,.slice la j lc] 249):=hqZ (by simpa [zs5] using h4);have HK4:=hqZ k4;clear h4 k4;go_wp2_with fail;refine bodyPost_ret (Aj rfl Aq rfl (cs:= [.int .i64 2,.int .i64 0,.int .u64 0,.slice none 0 0,.slice la j lc]) rfl H4.o.cellsAll) rfl ⟨[.int .i64 2,.int .i64 0,.int .u64 0,.slice none 0 0,.slice la j lc],?_,?_,?_⟩
        · rw [(HNO.o HRT.o).2]; rfl
        · exact (((HP.o.tv (HNO.o HRT.o).1 hj).below HB3.o).keep HK4.o (λ b hb _ e=>by omega)).mono (λ b hb=>by omega)
        · exact (HP.o.below.trans (HB3.o.mono (by omega)) |>.trans (HK4.o.below (by omega))).mono hqw
      | true=>
        have HRT:=hqZ hrt;clear hrt;have HO3:=hqZ (HP.o.own.below HB3.o);go_wp2_with (first | ((with_reducible refine zw 27 ?_);refine Ag rfl (.tmp 7) Aq rfl rfl (cs:=cs2) HCL.o H3.o.cellsAll ?_) | ((with_reducible refine zw 28 ?_);refine Mf rfl (.tmp 27) Gi rfl rfl (by have:=HCL.o; simpa using this) (by decide) ?_) | ((with_reducible refine zw 29 ?_);refine Do rfl (.tmp 26) (.tmp 28) Gi rfl (z+1) (HO3.o.alloc _) (λ b hb=>by have:=(HP.o.v b hb).2; simp; omega) (Sl.lit (n:=1) rfl (by simpa using HCL.o) HC1.o (by unfold maxLen; decide)) (by unfold maxLen; omega) (by omega) (by simp; omega) ?_));intro v7 w7 ho7 hk7 hv7;have hz7:=hk7.size;simp at hz7;obtain ⟨a7,c7,hv7f,_⟩:=ho7.sl.form;subst hv7f;have k37:Ai (λ b=>(bG.slice la j lc).ownBlock=some b\/w3.heap.size<=b) w3 w7:=by
          refine ((Ai.refl _ _).alloc _ (.inr (aB _))).trans (hk7.mono (λ b hb=>?_));rcases hb with hb | hb
          · exact .inl hb.1
          · exact .inr (by omega)
        have ka:Ai (λ b=>(bG.slice la j lc).ownBlock=some b\/wr.heap.size<=b) wr w7:=((Ai.of_below HB3.o).mono (λ b hb=>.inr hb)).trans (k37.mono (λ b hb=>by
          rcases hb with hb | hb
          · exact .inl hb
          · exact .inr (by omega)))
        have hvr:∀b,b<z+1->¬((bG.slice la j lc).ownBlock=some b\/wr.heap.size<=b):=by
          rintro b hb (h | h)
          · have:=(HP.o.v b h).1; omega
          · omega
        have hq7:=HP.o.hq.keep ka (hvr _ (by omega));have hz7':=HP.o.hz.keep ka (hvr _ (by omega));have z7:w7.cell? ⟨z,4,none⟩=some (.slice la j lc):=by rw [hz7'.cell]; rfl
        have zf7:=hz7'.frozen 4;have hb7:Below q w w7:=HP.o.below.trans (ka.below (by
          rintro b (h | h)
          · have:=(HP.o.v b h).1; omega
          · omega))
        have htvs7:C6 w7 (λ y=>G y\/(wr.heap.size<=y/\y<w3.heap.size)) ((l.take (j+1)).map Co) (rows++cs2):=by
          refine HSN.o w7 _ _ _ ((HP.o.tvs.keep ka (λ y hy hl h=>?_)).mono (λ y hy=>.inl hy)) ?_
          · have hg:=HP.o.g y hy;rcases h with h | h
            · exact hg.2.2 h
            · omega
          · refine (((TvF.tight _ _ HTT3.o)).keep k37 (λ y hy hl h=>?_)).mono (λ y hy=>?_)
            · have hy1:=hy.1;simp at hy1;rcases h with h | h
              · have:=(HP.o.v y h).2; omega
              · omega
            · have hy1:=hy.1;simp at hy1;exact .inr ⟨by omega,hy.2⟩
        have hv8:∀b,(bG.slice a7 (j+1) c7).ownBlock=some b->z+1<=b/\b<w7.heap.size:=λ b hb=>by
          refine ⟨?_,(hv7 b hb).2⟩;rcases (hv7 b hb).1 with h | h
          · exact (HP.o.v b h).1
          · omega
        have HPn:Hq (TkL w q z l (w7.setCell ⟨z,4,none⟩ (.slice a7 (j+1) c7)) (j+1) (.slice a7 (j+1) c7) (rows++cs2) (λ y=>G y\/(wr.heap.size<=y/\y<w3.heap.size))):=hqZ (by
          have ks:Ai (λ b=>b=z) w7 (w7.setCell ⟨z,4,none⟩ (.slice a7 (j+1) c7)):=Ai.one _ _ _ _;have hsz:(w7.setCell ⟨z,4,none⟩ (.slice a7 (j+1) c7)).heap.size=w7.heap.size:=by simp [bH.setCell]
          refine ⟨hq7.keep ks (by omega),hz7'.set 4 _,hqz,ho7.keep ks (λ b hb e=>by have:=(hv8 b hb).1; omega),htvs7.keep ks (λ y hy _ e=>?_),λ y hy=>?_,by rw [hsz]; exact hv8,hb7.trans (ks.below (by omega)),by rw [hsz]; omega,HAL.o HRT.o⟩
          · rcases hy with hy | hy
            · have:=HP.o.g y hy; omega
            · omega
          · rw [hsz];rcases hy with hy | hy
            · have hg:=HP.o.g y hy;refine ⟨hg.1,by omega,λ e=>?_⟩;rcases (hv7 y e).1 with h | h
              · exact hg.2.2 h
              · omega
            · refine ⟨by omega,by omega,λ e=>?_⟩;rcases (hv7 y e).1 with h | h
              · have:=(HP.o.v y h).2; omega
              · omega)
        clear ho7 hk7 hv7 k37 ka hvr hq7 hz7' hb7 htvs7 hv8 HB3 HO3 HTT3 HCL HC1 z4 HSN HAL HNO;go_wp2_with fail;go_roundw
        case rel=>exact ⟨j+1,_,_,_,by omega,by go_num,HPn.o⟩
        case measure=>simp [intOf]; omega
    · obtain rfl:j=l.length:=by omega
      have HA:Hq (Vj l=decide (l.length<=1)):=hqZ (by
        have h:=HP.o.all;rw [aL] at h;unfold Vj;rw [h,Bool.true_and])
      have HQ3:=hqZ HP.o.hq;have HZ3:=hqZ HP.o.hz;have HTV:=hqZ (HP.o.tv (λ h=>by omega) (aB _));clear hp;obtain ⟨bb,hbb⟩:∃bb,bb=decide (l.length<=1):=⟨_,rfl⟩
      have hb2:decide ((l.length:Int)<=1)=bb:=by rw [hbb]; simp; omega
      have HBB:=hqZ hbb;clear hbb;go_wp2_with (first | ((with_reducible refine zw 32 ?_);refine Ag rfl (.tmp 4) Aq rfl rfl (cs:= [.int .i64 2,.int .i64 0,.int .u64 0,.slice none 0 0,.slice la l.length lc]) rfl HZ3.o.cellsAll ?_) | ((with_reducible refine zws 2 32 ?_);refine Af rfl (.tmp 2) (.tmp 32) Aq rfl rfl (vs:= [.int .i64 2,.int .i64 0,.int .u64 0,.slice none 0 0,.slice la l.length lc]) rfl rfl HQ3.o (aB _) (by intro u hu; simp at hu; rcases hu with rfl | rfl | rfl | rfl | rfl <;> rfl) ?_));intro w4 h4 k4;have H4:Hq (Blk w4 q [.int .i64 2,.int .i64 0,.int .u64 0,.slice none 0 0,.slice la l.length lc] 249):=hqZ (by simpa [zs5] using h4);have HK4:=hqZ k4;clear h4 k4;go_wp2_with fail;refine bodyPost_ret (Aj rfl Aq rfl (cs:= [.int .i64 2,.int .i64 0,.int .u64 0,.slice none 0 0,.slice la l.length lc]) rfl H4.o.cellsAll) rfl ⟨[.int .i64 2,.int .i64 0,.int .u64 0,.slice none 0 0,.slice la l.length lc],?_,?_,?_⟩
      · rw [HA.o,<-HBB.o]; rfl
      · exact (HTV.o.keep HK4.o (λ b hb _ e=>by omega)).mono (λ b hb=>by omega)
      · exact (HP.o.below.trans (HK4.o.below (by omega))).mono hqw
inductive Pt where
  | s (l:List UInt8)
  | n (x:Int)
  | b (l:List UInt8)
  | t (x:Bool)
  | i (t:List UInt8×List UInt8)
  | x (l:List (List UInt8×List UInt8))
section
def A2G:Nat:=18446744073709551615
def C4:Int->Nat
  | .ofNat n=>n
  | .negSucc n=>A2G-n
def Fy:Pt->Tv
  | .s l=>.mk 1 0 0 l []
  | .n x=>.mk 0 0 (C4 x) [] []
  | .b l=>.mk 1 0 0 l []
  | .t b=>.mk 0 0 (if b then 1 else 0) [] []
  | .i t=>Co t
  | .x l=>Fh l
def ptB:Pt->Bool
  | .s l=>As (tx l)
  | .n x=>Be x
  | .b _=>true
  | .t _=>true
  | .i t=>rT t
  | .x l=>Vj l
theorem A2O (n:Nat):C4 (n:Int)=n:=rfl
theorem A2N (x:Int) (m:Nat) (h:x<0) (hm:x+(A2G+1:Nat)=m):C4 x=m:=by
  cases x with
  | ofNat n=>exact absurd h (by simp)
  | negSucc n=>
    show A2G-n=m
    have:A2G=18446744073709551615:=rfl;omega
theorem Ez (x:Int) (w:bH) (h1: -9223372036854775808<=x) (h2:x<=9223372036854775807):bJ aA 124 #[.int .i64 x] w (Jz w (.mk 0 0 (C4 x) [] [])):=by
  rcases (by omega:x<0\/0<=x) with h | h
  · obtain ⟨m,hm⟩:∃m:Nat,x+18446744073709551616=m:=⟨_,(Int.toNat_of_nonneg (by omega)).symm⟩
    rw [A2N x m h (by unfold A2G; omega)];exact A2J x m w h h1 hm
  · obtain ⟨n,rfl⟩:=Int.eq_ofNat_of_zero_le h;rw [A2O];exact A2I n w (by omega)
theorem Et {P:bK} {o:bL} {a:Act} {W:bH} {ty:bI} {m b off:Nat} {x:Operand} {cs:List bG} (ho:o.op=.load ty x) (hT:A9 P ty m) (hx:a.eval x=.pointer (some ⟨b,off,none⟩)) (hm:cs.length=m) (hc:Al W b off cs): (execOp a.eval o).run P W=.ok (.value (.agg cs.toArray)) W:=by
  have h:=Eh hT hm hc;unfold execOp;simp only [ho,hx,Instr.loadAt,Instr.sureAddr,Sem.run_bind,Sem.run_pure,Result.andThen_ok,h]
structure VC (w:bH) (q:Nat) (blks:List (Nat×List bG×bI)) (trees:List (Tv×List bG)) (rows:List (bG×List UInt8)) (W:bH):Prop where
  below:Below w.heap.size w W
  hq:q=w.heap.size
  lt:q<W.heap.size
  zq:Blk W q zs5 249
  blk:∀b∈blks,Blk W b.1 b.2.1 b.2.2/\q<b.1
  tree:∀t∈trees,TvF W (λ b=>q<b) t.1 t.2
  row:∀r∈rows,Bs W r.1 r.2/\(0<r.2.length->∀y,r.1.ownBlock=some y->y<q)
section
variable {w:bH} {q:Nat} {blks:List (Nat×List bG×bI)} {trees:List (Tv×List bG)} {rows:List (bG×List UInt8)} {W W':bH}
theorem VC.step (h:VC w q blks trees rows W) (hb:Below W.heap.size W W'):VC w q blks trees rows W':=
  ⟨h.below.trans (hb.mono h.below.size),h.hq,bE h.lt hb.size,h.zq.below hb h.lt,λ b hm=>⟨(h.blk b hm).1.below hb (h.blk b hm).1.lt,(h.blk b hm).2⟩,λ t hm=>(h.tree t hm).below hb,λ r hm=>⟨(h.row r hm).1.below hb,(h.row r hm).2⟩⟩
theorem VC.drew (h:VC w q blks trees rows W):VC w q blks trees rows W.drew:=h.step ((aC _ _).drew)
theorem VC.blkAt (h:VC w q blks trees rows W) (i:Nat) {b:Nat} {cs:List bG} {T:bI} (hi:blks[i]?=some (b,cs,T)):Blk W b cs T:=(h.blk _ (aI hi)).1
theorem VC.rowAt (h:VC w q blks trees rows W) (i:Nat) {v:bG} {l:List UInt8} (hi:rows[i]?=some (v,l)):Bs W v l:=(h.row _ (aI hi)).1
theorem VC.addBlk (h:VC w q blks trees rows W) {b:Nat} {cs:List bG} {T:bI} (hb:Blk W b cs T) (hq:q<b):VC w q (blks++ [(b,cs,T)]) trees rows W:=
  ⟨h.below,h.hq,h.lt,h.zq,λ x hm=>by
    rcases List.mem_append.1 hm with hm | hm
    · exact h.blk x hm
    · rw [List.mem_singleton.1 hm]; exact ⟨hb,hq⟩,h.tree,h.row⟩
theorem VC.addTree (h:VC w q blks trees rows W) {x:Tv} {cs:List bG} (ht:TvF W (λ b=>q<b) x cs):VC w q blks (trees++ [(x,cs)]) rows W:=
  ⟨h.below,h.hq,h.lt,h.zq,h.blk,λ t hm=>by
    rcases List.mem_append.1 hm with hm | hm
    · exact h.tree t hm
    · rw [List.mem_singleton.1 hm]; exact ht,h.row⟩
theorem VC.start (hr:∀r∈rows,Bs w r.1 r.2) (cs:List bG) (T:bI):VC w w.heap.size [(w.heap.size+1,cs,T)] [] rows ((w.alloc (.cells zs5.toArray 249)).alloc (.cells cs.toArray T)):=by
  have h1:(w.alloc (.cells zs5.toArray 249)).heap.size=w.heap.size+1:=by simp
  have hb1:Below w.heap.size w (w.alloc (.cells zs5.toArray 249)):=(aC _ _).alloc (aB _) _;have hb2:Below w.heap.size w ((w.alloc (.cells zs5.toArray 249)).alloc (.cells cs.toArray T)):=hb1.alloc (by omega) _;refine ⟨hb2,rfl,by simp <;> omega,(Blk.new _ _ _).alloc _,λ b hm=>?_,λ t hm=>by simp at hm,λ r hm=>⟨(hr r hm).below hb2,λ hn y hy=>Sl.own_lt (hr r hm) (by decide) hn y hy⟩⟩;rw [List.mem_singleton.1 hm];exact ⟨by have:=Blk.new (w.alloc (.cells zs5.toArray 249)) cs T; rw [h1] at this; exact this,by omega⟩
structure VR (w:bH) (q:Nat) (blks:List (Nat×List bG×bI)) (trees:List (Tv×List bG)) (rows:List (bG×List UInt8)) (W:bH):Prop where
  below:Below w.heap.size w W
  lt:q<W.heap.size
  len:A3n q W
  blk:∀b∈blks,Blk W b.1 b.2.1 b.2.2
  tree:∀t∈trees,TvF W (λ b=>q<b) t.1 t.2
  row:∀r∈rows,Bs W r.1 r.2
theorem VC.gv (h:VC w q blks trees rows W) {X:Tv} (g:GV (λ b=>q<b) q X W W'):VR w q blks trees rows W':=by
  have hz:=g.1.size;have hlt:=h.lt;refine ⟨h.below.trans (g.1.below (by have:=h.hq; rintro b (e | e) <;> omega)),by omega,g.2.2 ⟨_,h.zq,rfl⟩,λ b hm=>?_,λ t hm=>?_,λ r hm=>?_⟩
  · have:=h.blk b hm;exact this.1.keep g.1 (by have:=this.1.lt; rintro (e | e) <;> omega)
  · exact (h.tree t hm).keep g.1 (GV.not (bF q))
  · have:=h.row r hm;exact this.1.keepF g.1 (F:=λ y=>y<q) this.2 (λ b hb hl e=>by
      have hb:b<q:=hb;rcases e with e | e <;> omega)
theorem VR.blkAt (h:VR w q blks trees rows W) (i:Nat) {b:Nat} {cs:List bG} {T:bI} (hi:blks[i]?=some (b,cs,T)):Blk W b cs T:=h.blk _ (aI hi)
theorem VR.treeAt (h:VR w q blks trees rows W) (i:Nat) {x:Tv} {cs:List bG} (hi:trees[i]?=some (x,cs)):TvF W (λ b=>q<b) x cs:=h.tree _ (aI hi)
theorem VR.rowAt (h:VR w q blks trees rows W) (i:Nat) {v:bG} {l:List UInt8} (hi:rows[i]?=some (v,l)):Bs W v l:=h.row _ (aI hi)
end
end
theorem Oh {l:List UInt8} (h:l.length<=1099511627776):(tx l).size<=maxLen:=by rw [E7]; unfold maxLen; omega
theorem Cm:Bv aA 123:=Bv.mk Tryz.func123 (by kernel_rfl) (by kernel_rfl)
theorem Dm:Bv aA 124:=Bv.mk Tryz.func124 (by kernel_rfl) (by kernel_rfl)
theorem Lu:Bv aA 127:=Bv.mk Tryz.func127 (by kernel_rfl) (by kernel_rfl)
theorem Dp:Bv aA 125:=Bv.mk aQ (by kernel_rfl) (by kernel_rfl)
theorem Qr:C5 aA 52 9 1 16 (.string ⟨#[]⟩):=by
  refine C5.mk Tryz.underlying52 ?_ rfl (by decide)
  kernel_rfl
theorem Mq:C5 aA 308 2 1 8 (.int .i64 0):=by
  refine C5.mk Tryz.underlying308 ?_ rfl (by decide)
  kernel_rfl
theorem Lm (W:bH):(zeroValue 77).run aA W=.ok (.agg #[.string ⟨#[]⟩,.int .i64 0,.int .i64 0,.slice none 0 0]) W:=by kernel_rfl
theorem Ln (W:bH):(zeroValue 83).run aA W=.ok (.agg #[.string ⟨#[]⟩,.string ⟨#[]⟩,.slice none 0 0,.slice none 0 0]) W:=by kernel_rfl
theorem Nt (W:bH):(zeroValue 94).run aA W=.ok (.agg #[.string ⟨#[]⟩,.int .i64 0,.int .i64 0,.bool false,.bool false,.string ⟨#[]⟩,.slice none 0 0,.slice none 0 0,.slice none 0 0]) W:=by kernel_rfl
theorem Vp (W:bH):(zeroValue 97).run aA W=.ok (.agg #[.string ⟨#[]⟩,.string ⟨#[]⟩,.slice none 0 0,.slice none 0 0]) W:=by kernel_rfl
theorem Vq (W:bH):(zeroValue 292).run aA W=.ok (.agg #[.string ⟨#[]⟩,.string ⟨#[]⟩,.int .i64 0]) W:=by kernel_rfl
theorem Vr (W:bH):(zeroValue 294).run aA W=.ok (.agg #[.string ⟨#[]⟩,.string ⟨#[]⟩,.int .i64 0,.string ⟨#[]⟩,.slice none 0 0]) W:=by kernel_rfl
theorem A1m (W:bH):(zeroValue 101).run aA W=.ok (.agg #[.string ⟨#[]⟩,.string ⟨#[]⟩,.int .i64 0,.string ⟨#[]⟩,.slice none 0 0,.slice none 0 0]) W:=by kernel_rfl
theorem A4m (W:bH):(zeroValue 111).run aA W=.ok (.agg #[.string ⟨#[]⟩,.string ⟨#[]⟩,.int .i64 0,.slice none 0 0]) W:=by kernel_rfl
theorem A4n (W:bH):(zeroValue 258).run aA W=.ok (.agg #[.string ⟨#[]⟩,.int .i64 0,.int .i64 0,.bool false,.string ⟨#[]⟩,.slice none 0 0,.slice none 0 0]) W:=by kernel_rfl
theorem Xj (F0:Nat->Prop) (l1:List UInt8) (x2:Int) (x3:Int) (l4:List UInt8) (v4:bG) (w:bH) (hz1:l1.length<=1099511627776) (hz2: -9223372036854775808<=x2/\x2<=9223372036854775807) (hz3: -9223372036854775808<=x3/\x3<=9223372036854775807) (hb4:Bs w v4 l4) (hz4:l4.length<=1099511627776): bJ aA 102 #[.iface 77 (.agg #[.string (tx l1),.int .i64 x2,.int .i64 x3,v4])] w (Fj w (.mk 2 11 0 [] ([.s l1,.n x2,.n x3,.b l4].map Fy)) ([.s l1,.n x2,.n x3,.b l4].all ptB)):=by
  obtain ⟨a4,c4,rfl,hc4,hm4⟩:=hb4.form;have HC:Hq (VC w w.heap.size [(w.heap.size+1, [.string (tx l1),.int .i64 x2,.int .i64 x3,.slice a4 l4.length c4],77)] [] [(.slice a4 l4.length c4,l4)] ((w.alloc (.cells zs5.toArray 249)).alloc (.cells [.string (tx l1),.int .i64 x2,.int .i64 x3,.slice a4 l4.length c4].toArray 77))):=hqZ (VC.start (by intro r hr; simp only [aM,aN,or_false] at hr; rcases hr with rfl; exact hb4) _ _);have HSZ:Hq (∀u∈ [tx l1],u.size<=maxLen):=hqZ (by intro u hu; simp only [aM,aN,or_false] at hu; rcases hu with rfl; exact Oh hz1);have HZ1:=hqZ hz1;clear hz1;have HZ2:=hqZ hz2;clear hz2;have HZ3:=hqZ hz3;clear hz3;have HZ4:=hqZ hz4;clear hz4;clear hb4;have hta:∀W,(Instr.typeAssert (.iface 77 (.agg #[.string (tx l1),.int .i64 x2,.int .i64 x3,.slice a4 l4.length c4])) 20 77 true).run aA W=.ok (.tuple #[.agg #[.string (tx l1),.int .i64 x2,.int .i64 x3,.slice a4 l4.length c4],.bool true]) W:=λ W=>Fg _ _ _ (by kernel_rfl) W
  obtain ⟨B,hB⟩:∃B,B= [.s l1,.n x2,.n x3,.b l4].all ptB:=⟨_,rfl⟩
  obtain ⟨X,hX⟩:∃X:Tv,X=.mk 2 11 0 [] ([.s l1,.n x2,.n x3,.b l4].map Fy):=⟨_,rfl⟩
  rw [<-hB,<-hX];have HB:=hqZ hB;have HX2:=hqZ hX;clear hB hX;go_enter Tryz.func102,Tryz.ntmps102;go_upto_region 4 with fail;clear hta;show Code.wp _ _ _ _ ((w.alloc (.cells zs5.toArray 249)).alloc (.cells [.string (tx l1),.int .i64 x2,.int .i64 x3,.slice a4 l4.length c4].toArray 77))
  obtain ⟨W0,hW0⟩:∃W0,W0=(w.alloc (.cells zs5.toArray 249)).alloc (.cells [.string (tx l1),.int .i64 x2,.int .i64 x3,.slice a4 l4.length c4].toArray 77):=⟨_,rfl⟩
  rw [<-hW0] at HC ⊢;clear hW0;obtain ⟨p,hp⟩:∃p,p=w.heap.size+1:=⟨_,rfl⟩
  obtain ⟨q,hq⟩:∃q,q=w.heap.size:=⟨_,rfl⟩
  rw [<-hp,<-hq] at HC ⊢;clear hp hq;have HBE:Hq (B=([tx l1].all As&& [x2,x3].all Be)):=hqZ (by rw [HB.o]; simp only [bC,List.all_nil,ptB,Bool.and_true,Bool.true_and,Bool.and_false,Bool.false_and,Bool.and_assoc]; first | done | ac_rfl);obtain ⟨wd,hwd⟩:∃wd,wd=bH.drew W0:=⟨_,rfl⟩
  have hvd:VC w q [(p, [.string (tx l1),.int .i64 x2,.int .i64 x3,.slice a4 l4.length c4],77)] [] [(.slice a4 l4.length c4,l4)] wd:=by rw [hwd]; exact HC.o.drew
  have HXE:Hq (X=.mk 2 11 0 [] [.mk 1 0 0 l1 [],.mk 0 0 (C4 x2) [] [],.mk 0 0 (C4 x3) [] [],.mk 1 0 0 l4 []]):=hqZ HX2.o;have HR:Hq (∀W,GV (λ b=>q<b) q X wd W->VR w q [(p, [.string (tx l1),.int .i64 x2,.int .i64 x3,.slice a4 l4.length c4],77)] [] [(.slice a4 l4.length c4,l4)] W):=hqZ (λ W h=>hvd.gv h);have HZD:Hq (∀W,GV (λ b=>q<b) q X wd W->q<W.heap.size/\∀b,W.heap.size<=b->q<b):=hqZ (λ W h=>⟨(HR.o W h).lt,λ b hb=>bE (HR.o W h).lt hb⟩);have HFq:Hq (¬(λ b=>q<b) q):=hqZ (bF q);have HQW:Hq (w.heap.size=q):=hqZ hvd.hq.symm;clear hvd HC;refine wp_region_held (S:=λ W=>GV (λ b=>q<b) q X wd W) (by kernel_rfl) ?_;change wpAnyH _ _ _ _ _ _ _ _ (bH.drew _);rw [<-hwd];clear hwd;refine zH 0 ?_;refine zH 1 ?_ (hr:=λ W hW=>by have hc:=((HR.o W hW).blkAt 0 rfl).cell 0; go_simp; try rfl);refine zH 3 ?_;refine zH 4 ?_ (hr:=λ W hW=>by have hc:=((HR.o W hW).blkAt 0 rfl).cell 1; go_simp; try rfl);refine zH 6 ?_;refine zH 7 ?_ (hr:=λ W hW=>by have hc:=((HR.o W hW).blkAt 0 rfl).cell 2; go_simp; try rfl);refine zH 9 ?_;refine zH 10 ?_ (hr:=λ W hW=>by have hc:=((HR.o W hW).blkAt 0 rfl).cell 3; go_simp; try rfl);refine zH 14 ?_;refine zH 15 ?_ (hr:=λ W hW=>by have hc:=((HR.o W hW).blkAt 0 rfl).cell 0; go_simp; try rfl);refine zH 17 ?_;refine zH 18 ?_ (hr:=λ W hW=>by have hc:=((HR.o W hW).blkAt 0 rfl).cell 1; go_simp; try rfl);refine zH 19 ?_;refine zH 20 ?_ (hr:=λ W hW=>by have hc:=((HR.o W hW).blkAt 0 rfl).cell 2; go_simp; try rfl);refine Ct (G:=GV (λ b=>q<b) q X) (Post:=J4 (λ b=>q<b) q X [.any,.any,.val (.mk 1 0 0 l1 []),.any,.any,.val (.mk 0 0 (C4 x2) [] []),.any,.any,.val (.mk 0 0 (C4 x3) [] []),.any,.any,.val (.mk 1 0 0 l4 []),.vals [.mk 1 0 0 l1 [],.mk 0 0 (C4 x2) [] [],.mk 0 0 (C4 x3) [] [],.mk 1 0 0 l4 []],.val (.mk 2 11 0 [] [.mk 1 0 0 l1 [],.mk 0 0 (C4 x2) [] [],.mk 0 0 (C4 x3) [] [],.mk 1 0 0 l4 []]),.any,.any,.row [.string (tx l1)],.any,.any,.any,.any,.row [.int .i64 x2,.int .i64 x3],.is (.bool ([tx l1].all As&& [x2,x3].all Be)),.fin,.is (.bool ([tx l1].all As&& [x2,x3].all Be))]) (ds:= [36,39,42,45,46,47,50,55,56,3]) (GV.refl _ _ _) GV.trans (λ W W' h g=>GV.trans _ _ _ h g) (λ i v W W' h g=>PK.stable HFq.o h g) [2,5,8,11,12,13,16,21,22,23,24] 397 rfl (by decide+kernel) (by decide+kernel) ?_ ?_ (GV.refl _ _ _ _) (by decide+kernel)
  · refine zA (λ a W hf hS hd K hK=>?_) ?_
    · have e35:a.eval (.tmp 35)=.string (tx l1):=hf.lit 35 (by decide) rfl;exact Ax (Ae rfl) rfl Cm (vs:=#[.string (tx l1)]) (by simp [e35]) (Eg l1 W HZ1.o) (HZD.o W hS).1 (HZD.o W hS).2 hK
    refine zA (λ a W hf hS hd K hK=>?_) ?_
    · have e38:a.eval (.tmp 38)=.int .i64 x2:=hf.lit 38 (by decide) rfl;exact Ax (Ae rfl) rfl Dm (vs:=#[.int .i64 x2]) (by simp [e38]) (Ez x2 W HZ2.o.1 HZ2.o.2) (HZD.o W hS).1 (HZD.o W hS).2 hK
    refine zA (λ a W hf hS hd K hK=>?_) ?_
    · have e41:a.eval (.tmp 41)=.int .i64 x3:=hf.lit 41 (by decide) rfl;exact Ax (Ae rfl) rfl Dm (vs:=#[.int .i64 x3]) (by simp [e41]) (Ez x3 W HZ3.o.1 HZ3.o.2) (HZD.o W hS).1 (HZD.o W hS).2 hK
    refine zA (λ a W hf hS hd K hK=>?_) ?_
    · have e44:a.eval (.tmp 44)=.slice a4 l4.length c4:=hf.lit 44 (by decide) rfl;exact Ax (Ae rfl) rfl D1 (vs:=#[.slice a4 l4.length c4]) (by simp [e44]) (Cy _ l4 W ((HR.o W hS).rowAt 0 rfl) HZ4.o) (HZD.o W hS).1 (HZD.o W hS).2 hK
    refine zA (λ a W hf hS hd K hK=>?_) ?_
    · have d36:=(hd 2 (by decide+kernel)).get (s:=36) rfl;have d39:=(hd 5 (by decide+kernel)).get (s:=39) rfl;have d42:=(hd 8 (by decide+kernel)).get (s:=42) rfl;have d45:=(hd 11 (by decide+kernel)).get (s:=45) rfl;exact Cz (Ae rfl) rfl Gi (ps:= [.tmp 36,.tmp 39,.tmp 42,.tmp 45]) rfl (l:= [.mk 1 0 0 l1 [],.mk 0 0 (C4 x2) [] [],.mk 0 0 (C4 x3) [] [],.mk 1 0 0 l4 []]) ⟨d36,d39,d42,d45,trivial⟩ rfl (by decide) (by decide) (HZD.o W hS).1 (HZD.o W hS).2 hK
    refine zA (λ a W hf hS hd K hK=>?_) ?_
    · have d46:=(hd 12 (by decide+kernel)).get (s:=46) rfl;exact Dj (Ae rfl) rfl Cw d46 (HZD.o W hS).1 (λ v w1 h1 h2=>hK v w1 h1 h2) HFq.o
    refine zA (λ a W hf hS hd K hK=>?_) ?_
    · have e49:a.eval (.tmp 49)=.string (tx l1):=hf.lit 49 (by decide) rfl;exact Cl (Ae rfl) rfl Qr (ps:= [.tmp 49]) rfl (cs:= [.string (tx l1)]) (by simp only [aD,aH,e49]) (by intro u hu; simp only [aM,aN,or_false] at hu; rcases hu with rfl <;> exact ⟨rfl,rfl⟩) rfl (by decide) (by decide) (HZD.o W hS).1 (HZD.o W hS).2 hK
    refine zA (λ a W hf hS hd K hK=>?_) ?_
    · have e52:a.eval (.tmp 52)=.int .i64 x2:=hf.lit 52 (by decide) rfl;have e54:a.eval (.tmp 54)=.int .i64 x3:=hf.lit 54 (by decide) rfl;exact Cl (Ae rfl) rfl Mq (ps:= [.tmp 52,.tmp 54]) rfl (cs:= [.int .i64 x2,.int .i64 x3]) (by simp only [aD,aH,e52,e54]) (by intro u hu; simp only [aM,aN,or_false] at hu; rcases hu with rfl | rfl <;> exact ⟨rfl,rfl⟩) rfl (by decide) (by decide) (HZD.o W hS).1 (HZD.o W hS).2 hK
    refine zA (λ a W hf hS hd K hK=>?_) ?_
    · have d50:=(hd 16 (by decide+kernel)).get (s:=50) rfl;have d55:=(hd 21 (by decide+kernel)).get (s:=55) rfl;exact Ee (Ae rfl) rfl Dp (vs:=#[a.eval (.tmp 50),a.eval (.tmp 55)]) (by first | (simp only [aP,aD,aH]; done) | (simp only [aP,aD,aH]; rfl)) (u:=(.bool ([tx l1].all As&& [x2,x3].all Be))) (Fb [tx l1] [x2,x3] _ _ W d50.1 d55.1 HSZ.o) (HZD.o W hS).1 hK
    refine zA (λ a W hf hS hd K hK=>?_) ?_
    · have e2:a.eval (.tmp 2)=.pointer (some ⟨q,0,none⟩):=hf.lit 2 (by decide) rfl;have d47:=(hd 13 (by decide+kernel)).get (s:=47) rfl;obtain ⟨cur,hc1,hc2⟩:=(HR.o W hS).len;rw [<-HXE.o] at d47;exact Di (Ae rfl) rfl e2 d47 hc1 hc2 HFq.o hK
    refine zA (λ a W hf hS hd K hK=>?_) ?_
    · have d56:=(hd 22 (by decide+kernel)).get (s:=56) rfl;exact A3 (Ae rfl) (Hn rfl rfl) (hK _ _ (GV.refl _ _ _ _) d56)
    exact Ce.nil
  · intro a W hf hS hp;have h3:=(hp 24 (by decide)).get (s:=3) rfl;obtain ⟨v,cs,h5,h6⟩:=(hp 23 (by decide)).fin;have e2:a.eval (.tmp 2)=.pointer (some ⟨q,0,none⟩):=hf.lit 2 (by decide) rfl;go_wp2_with fail;refine bodyPost_ret (Aj rfl Aq (show a.tmps.getD 2 undef=_ from e2) h6.length h5.cellsAll) hf.defers ⟨cs,?_,?_,(HR.o W hS).below⟩
    · rw [HBE.o,show a.tmps.getD 3 undef=.bool ([tx l1].all As&& [x2,x3].all Be) from h3]
    · exact h6.mono (λ b hb=>by have:=HQW.o; omega)
end Go.Proofs.YtbmjjfhpllpiaaaGreat
