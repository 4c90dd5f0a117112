/- The law WholeReal returns true for all seeds and all sayings: no conditions. -/
import Derived.Test.YtnihelcjmahmnaaGreatWrB1
import Derived.Test.YtnihelcjmahmnaaGreatWrB2
import Derived.Test.YtnihelcjmahmnaaGreatWrB3
import Derived.Test.YtnihelcjmahmnaaGreatWrB18
import Derived.Test.YtnihelcjmahmnaaGreatWrB20
import Derived.OpenShut
import Derived.Deep.Slices
import Derived.ChangeArms
import Derived.WideShapes
import Derived.Deep.DeepCutAuto
set_option linter.unusedSimpArgs false
set_option linter.unusedVariables false
set_option maxRecDepth 100000
set_option maxHeartbeats 16000000
open Go.Proofs.Tryz renaming prog -> aA, underlying22 -> aE, f3 -> aG, underlying5 -> aH, func3 -> aO, checked -> aP, underlying23 -> aZ, underlying4 -> bA
open List renaming range -> aC, getElem?_eq_getElem -> aD, range_succ -> aF, getElem?_append_left -> aI, getElem?_append_right -> aJ, append_nil -> aK, map_cons -> aL, flatten_cons -> aM, length_map -> aN, flatMap_append -> aQ, length_append -> aR, length_take -> aS, length_drop -> aT, getElem?_cons_zero -> aU, map_append -> aV, flatten_append -> aW, map_nil -> aX, flatten_nil -> aY
open Go renaming Value -> bB, World -> bC, TypeId -> bD, Calls -> bE, Program -> bF
namespace Go.Proofs.YtnihelcjmahmnaaGreat
open Go.RowKit Go.Maps
theorem A2a {P:bF} {ops:Array Oper} {o:Oper} {a:Act} {w:bC} {K:Act->bC->Prop} {Q:Exit->Act->bC->Prop} {E:Prop} (v:bB) (w':bC) (hw:Region.wanted o (yielded ops a.tmps)=true) (hr:(execOp a.eval o).run P w=.ok (.value v) w') (h:K (a.put o.dst v) w'):if Region.wanted o (yielded ops a.tmps)=true then Oper.wp P o a w K Q else E:=by
  rw [if_pos hw];unfold Oper.wp;rw [hr];exact h
def hiB:List UInt8:= [104,105]
theorem Wg (l:List Res) (w:bC) (h:Ac w l): bE aA 4 #[] w λ e w'=>e=.returned (.bool true)/\Ac w' l:=by
  obtain ⟨s,hs⟩:∃s,s=PS.sym .nil:=⟨_,rfl⟩
  obtain ⟨m,hm⟩:∃m,m=Ku s:=⟨_,rfl⟩
  have hz:s.sz<=900:=by rw [hs]; decide
  have hsub:=(Yu s).subl;have hkn:=(Yu s).k9;rw [<-hm] at hsub hkn;have HSY:Hq (∀(W:bC) (l:List Res),Ac W l->bE aA 9 #[] W λ e w'=>∃q,e=.returned (.pointer (some ⟨q,0,none⟩))/\Ac w' (pvR q s::l)):=hqZ (λ W l h=>by
    rw [hs];exact Zx l W h)
  have HME:Hq (∀(q:Nat) (W:bC) (l:List Res),Ac W (pvR q s::l)->bE aA 5 #[.iface 44 (.pointer (some ⟨q,0,none⟩))] W λ e w'=>∃pp,e=.returned (.pointer (some ⟨pp,0,none⟩))/\Ac w' (Hi pp q m.sub m.talk::l)):=hqZ (λ q W l h=>by
    have:=Qi q s l W h hz;rw [<-hm] at this;rw [show pvV s q=.iface 44 (.pointer (some ⟨q,0,none⟩)) by rw [hs]; rfl] at this;exact this)
  have HPU:=hqZ (λ (p q o ii:Nat) (qa:Option Addr) (qc:Nat) (v:bB) (W:bC) (l:List Res) (h:Ac W (.blk p (Bj m.talk.s.knd q Ay A2 5 o ii (.slice qa 0 qc) 0 0 (.pointer none)) 186::.ownZ 125 2 (.slice qa 0 qc) 0 []::l)) (hv:∀W,Ac W l->Bs W v hiB)=>N3 p q o ii m.talk.s Ay A2 5 0 0 qa qc (.pointer none) v hiB l W h hv (by decide));have HSUB:=hqZ hsub;have HC:=hqZ h;have HSN:Hq (m.talk.L.length=8):=hqZ rfl;clear h hs hm hz hsub hkn;go_enter Tryz.func4,Tryz.ntmps4;go_upto_region 0 with fail;refine Ak ?_;refine zV ?_;refine wpList_nil ?_;go_upto_region 1 with fail;refine Ak ?_;refine Ad (λ K' k'=>?_);go_simp;refine (HSY.o _ _ (HC.o)).mono ?_;rintro e w1 ⟨q,rfl,hc⟩;have HC:=hqZ hc;clear hc;refine zqp k' ?_;clear k' K';refine zV ?_;refine Ad (λ K' k'=>?_);go_simp;refine (HME.o _ _ _ (HC.o)).mono ?_;rintro e w2 ⟨pp,rfl,hc⟩;have HC:=hqZ hc;clear hc;refine zqp k' ?_;clear k' K';refine zV ?_;refine wpList_nil ?_;obtain ⟨⟨ps,c0,c1,p0,p1,o0,i0,o1,i1⟩,qa,ra,qc,rc,h5⟩:=Kg HC.o;simp only at h5;obtain ⟨sa,sc,vs,h5⟩:=Gn h5;rw [HSN.o] at h5;obtain ⟨PX,hPX⟩:∃x,x=Di ps c0 c1 (.pointer (some ⟨p0,0,none⟩)) (.pointer (some ⟨p1,0,none⟩)) m.sub (.slice sa 8 sc):=⟨_,rfl⟩
  rw [<-hPX] at h5;have HPXL:=hqZ (show PX.length=22 by rw [hPX]; exact Hm _ _ _ _ _ HSUB.o _);have HP3:Hq (PX[3]?=some (.pointer (some ⟨p0,0,none⟩))):=hqZ (by rw [hPX]; rfl);have HP21:Hq (PX[21]?=some (.slice sa 8 sc)):=hqZ (by rw [hPX]; exact Sb _ _ _ _ _ HSUB.o _);have HC:=hqZ h5;clear h5 hPX;go_upto_region 2 with fail;refine Ak ?_;(iterate 6 refine zV ?_);refine zL ?_;(iterate 8 refine zV ?_);refine zL ?_;refine Ad (λ K' k'=>?_);refine A2a (.slice (some ⟨w2.heap.size,0,none⟩) 2 2) (w2.alloc (.cells #[.int .u8 104,.int .u8 105] 5)) rfl (by go_simp; try rfl) ?_;refine zqp k' ?_;clear k' K';refine Ad (λ K' k'=>?_);refine A2a (.slice (some ⟨w2.heap.size,0,none⟩) 2 2) (w2.alloc (.cells #[.int .u8 104,.int .u8 105] 5 (2,3))) rfl (by have c:=Lib.run_convert_bytes_const (P:=aA) w2 22 5 #[.int .u8 104,.int .u8 105] 2 2 aE aH; unfold execOp; go_simp) ?_;have hbs:Bs (w2.alloc (.cells #[.int .u8 104,.int .u8 105] 5 (2,3))) (.slice (some ⟨w2.heap.size,0,none⟩) 2 2) hiB:=Bs.litM hiB rfl rfl (by simp [hiB,maxLen]);have HC:=hqZ (HC.o.addRow ((Below.refl w2.heap.size w2).alloc (Nat.le_refl _) _) hbs (λ k _ hk=>by simp [bB.ownBlock] at hk; omega));clear hbs;refine zqp k' ?_;clear k' K';refine Ad (λ K' k'=>?_);go_simp;refine (HPU.o _ _ _ _ _ _ _ _ _ (HC.o.zP [4,4]) (λ W hW=>hW.rowOf (by simp))).mono ?_;rintro e w3 ⟨qg,qo,qn,xa,xc,rfl,hc⟩;have HC:=hqZ hc;clear hc;refine zqp k' ?_;clear k' K';(iterate 3 refine zV ?_);refine wpList_nil ?_;go_wp2_with fail;go_ret;exact ⟨rfl,HC.o.tail.tail.tail.tail.tail.tail.tail.tail.tail.tail.tail.tail.tail.tail⟩
end Go.Proofs.YtnihelcjmahmnaaGreat
namespace Go.Proofs.YtnihelcjmahmnaaGreat
open Go.RowKit
section
def Rn (rec:bD->Option (List bD)) (cells:bD->Nat):List Field->Nat->Option (List bD×Nat)
  | [],o=>some ([],o)
  | f::fs,o=>
    match rec f.type with
    | some l=>if f.offset=o/\l.length=cells f.type then (Rn rec cells fs (o+l.length)).map λ x=>(l++x.1,x.2) else none
    | none=>none
def J3 (P:bF):Nat->bD->Option (List bD)
  | 0,_=>none
  | fuel+1,t=>
    match P.underlying t with
    | some (.struct fs)=>match Rn (J3 P fuel) P.cellsOf fs.toList 0 with
      | some (l,o)=>if o=P.cellsOf t then some l else none
      | none=>none
    | some (.array n e)=>match J3 P fuel e with
      | some l=>if l.length=P.cellsOf e/\n*l.length=P.cellsOf t then some ((aC n).flatMap λ _=>l) else none
      | none=>none
    | some _=>some [t]
    | none=>none
theorem Uf {rec:bD->Option (List bD)} {cells:bD->Nat} :∀ {fs:List Field} {o:Nat} {L:List bD} {o':Nat},Rn rec cells fs o=some (L,o')-> o'=o+L.length/\∀j t',L[j]?=some t'->∃f∈fs,∃l k,rec f.type=some l/\l[k]?=some t'/\f.offset+k=o+j/\l.length=cells f.type/\f.offset+l.length<=o'
  | [],o,L,o',h=>by
    simp only [Rn,Option.some.injEq,Prod.mk.injEq] at h;obtain ⟨rfl,rfl⟩:=h;exact ⟨rfl,λ j t' h=>by simp at h⟩
  | f::fs,o,L,o',h=>by
    simp only [Rn] at h;split at h
    · rename_i l hl;split at h
      · rename_i hc;obtain ⟨⟨L1,o1⟩,h1,h2⟩:=Option.map_eq_some_iff.1 h;simp only [Prod.mk.injEq] at h2;obtain ⟨rfl,rfl⟩:=h2;obtain ⟨e1,e2⟩:=Uf h1;refine ⟨by simp; omega,λ j t' hj=>?_⟩;by_cases hjl:j<l.length
        · rw [aI hjl] at hj;exact ⟨f,by simp,l,j,hl,hj,by omega,hc.2,by omega⟩
        · rw [aJ (by omega)] at hj;obtain ⟨f',hf',l',k,q1,q2,q3,q4,q5⟩:=e2 _ _ hj;exact ⟨f',by simp [hf'],l',k,q1,q2,by omega,q4,by omega⟩
      · simp at h
    · simp at h
section
variable {H:Type} {enc:bD×bB->H} {P:bF} {w:bC} {base:Nat} {spare:Nat->Bool} {held:Bool}
def U0 (enc:bD×bB->H) (P:bF) (w:bC) (base:Nat) (spare:Nat->Bool) (held:Bool) (t:bD) (c:bB):Prop:=
  (∃d,P.underlying t=some d/\(∀fs,d≠ .struct fs)/\∀n e,d≠ .array n e)/\∃n y,DataW.trod enc P w base spare held n t [c]=some y
def H9 (enc:bD×bB->H) (P:bF) (w:bC) (base:Nat) (spare:Nat->Bool) (held:Bool) (ts:List bD) (cs:List bB):Prop:=
  cs.length=ts.length/\∀(j:Nat) t' c,ts[j]?=some t'->cs[j]?=some c->U0 enc P w base spare held t' c
theorem getElem?_slice {α:Type} (l:List α) (o n k:Nat) (hk:k<n):((l.drop o).take n)[k]?=l[o+k]?:=by
  rw [List.getElem?_take,if_pos hk,List.getElem?_drop]
theorem Lh {α:Type} (l:List α):∀n:Nat,((aC n).flatMap λ _=>l).length=n*l.length:=by
  intro n;induction n with
  | zero=>simp
  | succ n ih=>
    rw [aF,aQ,aR,ih,Nat.add_mul];simp
theorem Nk {α:Type} (l:List α):∀(n j:Nat) (x:α),((aC n).flatMap λ _=>l)[j]?=some x->∃i k,i<n/\k<l.length/\j=i*l.length+k/\l[k]?=some x:=by
  intro n;induction n with
  | zero=>intro j x h; simp at h
  | succ n ih=>
    intro j x h;rw [aF,aQ] at h;simp only [List.flatMap_cons,List.flatMap_nil,aK] at h;have hlen:=Lh l n;by_cases hj:j<n*l.length
    · rw [aI (by omega)] at h;obtain ⟨i,k,h1,h2,h3,h4⟩:=ih j x h;exact ⟨i,k,by omega,h2,h3,h4⟩
    · rw [aJ (by omega),hlen] at h;exact ⟨n,j-n*l.length,by omega,(List.getElem?_eq_some_iff.1 h).1,by omega,h⟩
theorem Z8:∀(m:Nat) (t:bD) (ts:List bD) (n:Nat) (cs:List bB) (x:DataW H×List MemPlace),J3 P m t=some ts->P.cellsOf t=ts.length->cs.length=P.cellsOf t-> DataW.trod enc P w base spare held n t cs=some x->H9 enc P w base spare held ts cs:=by
  intro m;induction m with
  | zero=>intro t ts n cs x h; simp [J3] at h
  | succ m ih=>
    intro t ts n cs x hf hts hcs h;refine ⟨by omega,λ j t' c hj hc=>?_⟩;rw [J3] at hf;split at hf
    · rename_i fs hu;split at hf
      · rename_i l o hfl;split at hf
        · rename_i ho;obtain rfl:l=ts:=by simpa using hf
          obtain ⟨e1,e2⟩:=Uf hfl;obtain ⟨f,hfm,l',k,q1,q2,q3,q4,q5⟩:=e2 j t' hj;obtain ⟨xs,n',rfl,_,_,hxl,hfield⟩:=DataW.trod_struct hu h;obtain ⟨i,hi⟩:=List.mem_iff_getElem?.1 hfm;have hi':fs[i]?=some f:=by simpa using hi
          have hlt:i<xs.length:=by
            have:=(Array.getElem?_eq_some_iff.1 hi').1;omega
          have ht:=hfield i f hi';rw [aD hlt] at ht;have hk:k<l'.length:=(List.getElem?_eq_some_iff.1 q2).1;have hjl:j<cs.length:=(List.getElem?_eq_some_iff.1 hc).1;have hlen:((cs.drop f.offset).take (P.cellsOf f.type)).length=P.cellsOf f.type:=by
            rw [aS,aT];omega
          have r:=ih f.type l' n' _ _ q1 (by omega) hlen ht;exact r.2 k t' c q2 (by rw [getElem?_slice _ _ _ _ (by omega),q3]; simpa using hc)
        · simp at hf
      · simp at hf
    · rename_i nn e hu;split at hf
      · rename_i l hl;split at hf
        · rename_i ho;obtain rfl:((aC nn).flatMap λ _=>l)=ts:=by simpa using hf
          obtain ⟨i,k,q1,q2,q3,q4⟩:=Nk l nn j t' hj;obtain ⟨xs,n',rfl,_,_,hxl,hel⟩:=DataW.trod_array hu h;have hlt:i<xs.length:=by omega
          have ht:=hel i q1;rw [aD hlt] at ht;have hmul:i*P.cellsOf e+P.cellsOf e<=P.cellsOf t:=by
            rw [<-ho.2,<-ho.1,<-Nat.succ_mul];exact Nat.mul_le_mul_right _ q1
          have hlen:((cs.drop (i*P.cellsOf e)).take (P.cellsOf e)).length=P.cellsOf e:=by
            rw [aS,aT];omega
          have r:=ih e l n' _ _ hl (by omega) hlen ht;exact r.2 k t' c q4 (by rw [getElem?_slice _ _ _ _ (by omega),<-ho.1,<-q3]; exact hc)
        · simp at hf
      · simp at hf
    · rename_i d hd1 hd2 hu;obtain rfl: [t]=ts:=by simpa using hf
      have h1:cs.length=1:=by simpa [hts] using hcs
      match cs,h1 with
      | [c0],_=>
        cases j with
        | zero=>
          simp only [aU,Option.some.injEq] at hj hc;subst hj hc;exact ⟨⟨d,hu,λ fs e=>hd1 fs e,λ n e he=>hd2 n e he⟩,n,x,h⟩
        | succ j=>simp at hj
    · simp at hf
theorem U0.int {k:IntKind} {t:bD} {c:bB} (ht:P.underlying t=some (.int k)) (h:U0 enc P w base spare held t c):∃n,c=.int k n/\(Lit.int k n).wf=true:=by
  obtain ⟨_,n,y,hy⟩:=h;obtain ⟨m,e,_,hw⟩:=DataW.trod_int ht hy;exact ⟨m,by simpa using e,hw⟩
theorem U0.bool {t:bD} {c:bB} (ht:P.underlying t=some .bool) (h:U0 enc P w base spare held t c):∃b,c=.bool b:=by
  obtain ⟨_,n,y,hy⟩:=h;obtain ⟨m,e,_⟩:=DataW.trod_bool ht hy;exact ⟨m,by simpa using e⟩
theorem U0.one {t:bD} {c:bB} (h:U0 enc P w base spare held t c):c.oneCell'=true:=by
  obtain ⟨⟨d,hu,h1,h2⟩,n,y,hy⟩:=h
  cases n with
  | zero=>simp [DataW.trod] at hy
  | succ n=>
    cases c with
    | agg cs=>
      unfold DataW.trod at hy;rw [hu] at hy;split at hy <;> simp_all
    | tuple vs=>
      unfold DataW.trod at hy;rw [hu] at hy;split at hy <;> simp_all
    | _=>rfl
theorem H9.one {ts:List bD} {cs:List bB} (h:H9 enc P w base spare held ts cs):∀u∈cs,u.oneCell'=true:=by
  intro u hu;obtain ⟨j,hj⟩:=List.mem_iff_getElem?.1 hu;have hl:j<cs.length:=(List.getElem?_eq_some_iff.1 hj).1
  have:j<ts.length:=by have:=h.1; omega
  exact (h.2 j ts[j] u (aD this) hj).one
theorem H9.cons {t:bD} {ts:List bD} {cs:List bB} (h:H9 enc P w base spare held (t::ts) cs):∃c cs',cs=c::cs'/\U0 enc P w base spare held t c/\H9 enc P w base spare held ts cs':=by
  obtain ⟨h1,h2⟩:=h
  cases cs with
  | nil=>simp at h1
  | cons c cs'=>exact ⟨c,cs',rfl,h2 0 t c rfl rfl,by simpa using h1,λ j t' c' hj hc=>h2 (j+1) t' c' (by simpa using hj) (by simpa using hc)⟩
theorem H9.nil {cs:List bB} (h:H9 enc P w base spare held [] cs):cs= []:=by simpa using h.1
theorem U5 {a:Addr} {u:bB} (h:w.cell? a=some u):a=⟨a.block,a.off,none⟩:=by
  obtain ⟨b,o,s⟩:=a
  cases s with
  | none=>rfl
  | some n=>simp [bC.cell?] at h; split at h <;> simp at h
theorem M2 {t e:bD} {v:bB} {d:DataW H} {ps:List MemPlace} {m:Nat} {ts:List bD} (ht:P.underlying t=some (.slice e)) (hf:J3 P m e=some ts) (hc:P.cellsOf e=ts.length) (hpos:0<ts.length) (hv:∃a len cap,v=.slice a len cap) (h:DataW.Trod enc P w base spare held t v d ps): ∃(n:Nat) (xs:List (List bB)),xs.length=n/\(∀x∈xs,H9 enc P w base spare held ts x)/\Sl w ts.length v n xs.flatten:=by
  obtain ⟨a,len,cap,rfl⟩:=hv;obtain ⟨fuel,hy⟩:=h;rcases Deep.open_slice ht hy with ⟨h1,_⟩ | ⟨a',len',cap',m',n',D,Pl,h1,hb,hl,hm,hm',hx,hel⟩
  · simp only [bB.cells,List.cons.injEq,and_true,bB.slice.injEq] at h1;obtain ⟨rfl,rfl,rfl⟩:=h1;exact ⟨0, [],rfl,by simp,Sl.nil _ _ _⟩
  · simp only [bB.cells,List.cons.injEq,and_true,bB.slice.injEq] at h1;obtain ⟨rfl,rfl,rfl⟩:=h1;have hlm:len<=m':=by rw [hm']; split <;> omega
    have key:∀i,∃cs',i<len->cs'.length=ts.length/\H9 enc P w base spare held ts cs'/\∀j u,cs'[j]?=some u->w.cell? (a'.add (i*ts.length+j))=some u:=by
      intro i;by_cases hi:i<len
      · obtain ⟨cs',h2,h3⟩:=hel i (by omega);obtain ⟨_,h4,h5⟩:=bC.cells?_some h2;rw [hc] at h4;refine ⟨cs',λ _=>⟨h4,Z8 m e ts n' cs' _ hf hc (by omega) h3,λ j u hj=>?_⟩⟩;have hjl:=(List.getElem?_eq_some_iff.1 hj).1
        have:=h5 j (by omega);rw [Deep.add_add,hc] at this;rw [this,hj]
      · exact ⟨[],λ h=>absurd h hi⟩
    obtain ⟨f,hf'⟩:∃f:Nat->List bB,∀i,i<len->(f i).length=ts.length/\H9 enc P w base spare held ts (f i)/\∀j u,(f i)[j]?=some u->w.cell? (a'.add (i*ts.length+j))=some u:=
      ⟨λ i=>(key i).choose,λ i hi=>(key i).choose_spec hi⟩
    refine ⟨len,(aC len).map f,by simp,?_,?_⟩
    · intro x hx;obtain ⟨i,hi,rfl⟩:=List.mem_map.1 hx;exact (hf' i (List.mem_range.1 hi)).2.1
    · have hlen:∀k,k<=len->(((aC k).map f).flatten).length=k*ts.length:=by
        intro k;induction k with
        | zero=>simp
        | succ k ih=>
          intro hk;rw [aF,aV,aW,aR,ih (by omega)];simp only [aL,aX,aM,aY,aK,(hf' k (by omega)).1,Nat.add_mul,Nat.one_mul]
      have hget:∀k,k<=len->∀j u,(((aC k).map f).flatten)[j]?=some u->w.cell? (a'.add j)=some u:=by
        intro k;induction k with
        | zero=>intro _ j u h; simp at h
        | succ k ih=>
          intro hk j u h;rw [aF,aV,aW] at h;simp only [aL,aX,aM,aY,aK] at h;by_cases hj:j<k*ts.length
          · rw [aI (by rw [hlen k (by omega)]; exact hj)] at h;exact ih (by omega) j u h
          · rw [aJ (by rw [hlen k (by omega)]; omega),hlen k (by omega)] at h
            have:=(hf' k (by omega)).2.2 _ u h
            rwa [show k*ts.length+(j-k*ts.length)=j by omega] at this
      refine ⟨hlen len (Nat.le_refl _),?_,some a',cap,rfl,hl,hm,λ h=>by simp at h,?_⟩
      · intro u hu;obtain ⟨x,hx,hu⟩:=List.mem_flatten.1 hu;obtain ⟨i,hi,rfl⟩:=List.mem_map.1 hx;exact (hf' i (List.mem_range.1 hi)).2.1.one u hu
      · by_cases h0:len=0
        · subst h0; exact .inl rfl
        · have hpos':0< ((aC len).map f).flatten.length:=by rw [hlen len (Nat.le_refl _)]; exact Nat.mul_pos (by omega) hpos
          have hc0:=hget len (Nat.le_refl _) 0 _ (aD hpos');have ea:a'=⟨a'.block,a'.off,none⟩:=by
            have:=U5 hc0;simpa [Addr.add] using this
          refine .inr ⟨a'.block,a'.off,by rw [<-ea],λ j u hj=>?_⟩
          have:=hget len (Nat.le_refl _) j u hj;rw [ea,Addr.add_lit] at this;exact this
theorem M0 {α β:Type} (f:α->β):∀(xs:List β),(∀x∈xs,∃a,x=f a)->∃l:List α,xs=l.map f
  | [],_=>⟨[],rfl⟩
  | x::xs,h=>by
    obtain ⟨a,rfl⟩:=h x (by simp);obtain ⟨l,rfl⟩:=M0 f xs (λ y hy=>h y (by simp [hy]));exact ⟨a::l,rfl⟩
theorem Ps {α β:Type} (p:α->Prop) (f:α->β):∀(xs:List β),(∀x∈xs,∃a,x=f a/\p a)->∃l:List α,xs=l.map f/\∀a∈l,p a
  | [],_=>⟨[],rfl,by simp⟩
  | x::xs,h=>by
    obtain ⟨a,rfl,ha⟩:=h x (by simp);obtain ⟨l,rfl,hl⟩:=Ps p f xs (λ y hy=>h y (by simp [hy]));exact ⟨a::l,rfl,by simpa using ⟨ha,hl⟩⟩
end
end
end Go.Proofs.YtnihelcjmahmnaaGreat
namespace Go.Proofs.YtnihelcjmahmnaaGreat
open Go.ChangeShapes Go.WideShapes Go.RowKit Go.OpenShut
section
variable {H:Type} {enc:bD×bB->H} {w:bC} {base:Nat} {spare:Nat->Bool} {held:Bool}
theorem Rd {n:Int} (h:(Lit.int .u8 n).wf=true):∃x:UInt8,(bB.int .u8 n)=bV x:=by
  have h:=bounds_u8 h;refine ⟨UInt8.ofNat n.toNat,?_⟩;rw [bV,UInt8.toNat_ofNat'];congr 1;omega
theorem Vm:∀l:List UInt8,(l.map λ x=> [bV x]).flatten=Ab l
  | []=>rfl
  | x::l=>by rw [aL,aM,Vm l]; rfl
end
section
variable {H:Type} {enc:bD×bB->H} {w:bC} {base:Nat} {spare:Nat->Bool} {held:Bool}
theorem A0R {v:bB} {d:DataW H} {ps:List MemPlace} {r:Reach} {b0:Nat} (hval:bB.okWide aA w r b0 22 v) (h:DataW.Trod enc aA w base spare held 22 v d ps):∃l,Bs w v l:=by
  have hf:J3 aA 4 5=some [5]:=by kernel_rfl
  obtain ⟨n,xs,hn,hx,hs⟩:=M2 aE hf (by kernel_rfl) (by decide) (okWide_slice aE hval) h;obtain ⟨l,rfl⟩:=M0 (λ x:UInt8=> [bV x]) xs (λ x hxm=>by
    obtain ⟨c0,x,rfl,k0,hL⟩:=(hx x hxm).cons;obtain rfl:=hL.nil;obtain ⟨y0,rfl,hw⟩:=k0.int aH;obtain ⟨z,hz⟩:=Rd hw;exact ⟨z,by rw [hz]⟩)
  refine ⟨l,?_⟩;rw [Vm] at hs;rw [aN] at hn;subst hn;exact hs
end
section
variable {H:Type} {enc:bD×bB->H} {w:bC} {base:Nat} {spare:Nat->Bool} {held:Bool}
theorem A3C {c:bB} (h:U0 enc aA w base spare held 22 c):∃l:List UInt8,Bs w c l:=by
  obtain ⟨_,fuel,y,hy⟩:=h;have hf:J3 aA 4 5=some [5]:=by kernel_rfl
  rcases Deep.open_slice aE hy with ⟨h1,_⟩ | ⟨a',len,cap,m',n',D,Pl,h1,_,hl,hm,hm',hx,hel⟩
  · simp only [List.cons.injEq,and_true] at h1;subst h1;exact ⟨[],Sl.nil _ _ _⟩
  · simp only [List.cons.injEq,and_true] at h1;subst h1;obtain ⟨n,xs,hn,hxs,hs⟩:=M2 (v:=.slice (some a') len cap) (d:=y.1) (ps:=y.2) aE hf (by kernel_rfl) (by decide) ⟨_,_,_,rfl⟩ ⟨fuel,hy⟩;obtain ⟨l,rfl⟩:=M0 (λ x:UInt8=> [bV x]) xs (λ x hxm=>by
      obtain ⟨c0,x,rfl,k0,hL⟩:=(hxs x hxm).cons;obtain rfl:=hL.nil;obtain ⟨y0,rfl,hw⟩:=k0.int aH;obtain ⟨z,hz⟩:=Rd hw;exact ⟨z,by rw [hz]⟩)
    rw [Vm] at hs;rw [aN] at hn;subst hn;exact ⟨l,hs⟩
end
section
theorem A3s (n:Int):bits .and .i64 n 1=n % 2:=by
  have h1:(BitVec.ofInt 64 1).toNat=2 ^ 1-1:=by decide
  have key:(BitVec.ofInt 64 n&&& BitVec.ofInt 64 1).toNat=(n % ((2 ^ 64:Nat):Int)).toNat % 2 ^ 1:=by
    rw [BitVec.toNat_and,BitVec.toNat_ofInt,h1,Nat.and_two_pow_sub_one_eq_mod]
  show IntKind.i64.wrap ((BitVec.ofInt 64 n&&& BitVec.ofInt 64 1).toNat:Nat)=n % 2
  rw [key,IntKind.wrap_i64];omega
theorem A5R (n:Int):∃(i:Bool) (y:Int),bits .and .i64 n 1=y/\y=(if i=true then 1 else 0):=by
  rw [A3s];rcases Int.emod_two_eq n with h | h
  · exact ⟨false,0,h,rfl⟩
  · exact ⟨true,1,h,rfl⟩
structure Th where
  e:Int
  rk:Bool
  v:bB
  body:List UInt8
def Th.cells (x:Th):List bB:= [.int .i64 x.e,.bool x.rk,x.v]
section
variable {H:Type} {enc:bD×bB->H} {w:bC} {base:Nat} {spare:Nat->Bool} {held:Bool}
theorem A2s {v:bB} {d:DataW H} {ps:List MemPlace} {r:Reach} {b0:Nat} (hval:bB.okWide aA w r b0 23 v) (h:DataW.Trod enc aA w base spare held 23 v d ps):∃l:List Th,Sl w 3 v l.length (l.map Th.cells).flatten/\∀x∈l,Bs w x.v x.body:=by
  have hf:J3 aA 8 40=some [3,4,22]:=by kernel_rfl
  obtain ⟨n,xs,hn,hx,hs⟩:=M2 aZ hf (by kernel_rfl) (by decide) (okWide_slice aZ hval) h;obtain ⟨l,rfl,hl⟩:=Ps (λ x:Th=>Bs w x.v x.body) Th.cells xs (λ x hxm=>by
    obtain ⟨c0,x0,rfl,k0,hL⟩:=(hx x hxm).cons;obtain ⟨c1,x1,rfl,k1,hL⟩:=hL.cons;obtain ⟨c2,x2,rfl,k2,hL⟩:=hL.cons;obtain rfl:=hL.nil;obtain ⟨f0,rfl,_⟩:=k0.int Tryz.underlying3;obtain ⟨f1,rfl⟩:=k1.bool bA;obtain ⟨b,hb⟩:=A3C k2;exact ⟨⟨f0,f1,c2,b⟩,rfl,hb⟩)
  rw [aN] at hn;subst hn;exact ⟨l,hs,hl⟩
end
theorem Ac.talkKey {W:bC} {pp q:Nat} {key:List UInt8} {t:Jz} {l:List Res} (h:Ac W (Hi pp q key t::l)) (hk:key.length=16):Ao W pp 5 (Ab key):=by
  obtain ⟨z,qa,ra,qc,rc,h⟩:=Kg h;obtain ⟨sa,sc,vs,h⟩:=Gn h;have e:=A2u z.ps z.c0 z.c1 (.pointer (some ⟨z.p0,0,none⟩)) (.pointer (some ⟨z.p1,0,none⟩)) hk (.slice sa t.L.length sc);rw [<-e];exact h.blk0.cellsAt 5 16
def Oj (W:bC) (pp:Nat) (L:List (List UInt8)) (sa:Option Addr) (sc:Nat) (vs:List bB):Prop:=
  W.cell? ⟨pp,21,none⟩=some (.slice sa L.length sc)/\Sl W 1 (.slice sa L.length sc) L.length vs/\∀(j:Nat) (v:bB) (r:List UInt8),vs[j]?=some v->L[j]?=some r->Bs W v r
theorem Ac.talkSent {W:bC} {pp q:Nat} {key:List UInt8} {t:Jz} {l:List Res} (h:Ac W (Hi pp q key t::l)) (hk:key.length=16):∃sa sc vs,Oj W pp t.L sa sc vs:=by
  obtain ⟨z,qa,ra,qc,rc,h⟩:=Kg h;obtain ⟨sa,sc,vs,h⟩:=Gn h;refine ⟨sa,sc,vs,?_,(h.tail.ownZOf (e:=22) (sz:=1) (n:=t.L.length) (v:=.slice sa t.L.length sc) (cs:=vs) (by simp)).sl,λ j v r hv hr=>Oc h.tail.tail j hv hr⟩;rw [h.blk0.cell];exact Sb _ _ _ _ _ hk _
theorem Oj.below {W W':bC} {pp:Nat} {L:List (List UInt8)} {sa:Option Addr} {sc:Nat} {vs:List bB} (h:Oj W pp L sa sc vs) (hb:Below W.heap.size W W'):Oj W' pp L sa sc vs:=
  ⟨Bc hb h.1,h.2.1.below hb,λ j v r hv hr=>(h.2.2 j v r hv hr).below hb⟩
theorem Oj.at {W:bC} {pp:Nat} {L:List (List UInt8)} {sa:Option Addr} {sc:Nat} {vs:List bB} (h:Oj W pp L sa sc vs) (k:Nat) (hk:k<L.length): ∃b o v,sa=some ⟨b,o,none⟩/\W.cell? ⟨b,o+k,none⟩=some v/\Bs W v L[k]:=by
  have hl:vs.length=L.length:=by have:=h.2.1.1; omega
  obtain ⟨b,o,hb,hc⟩:=h.2.1.addr (by omega);have hv:vs[k]?=some vs[k]:=aD (by omega);exact ⟨b,o,vs[k],hb,hc k _ hv,h.2.2 k _ _ hv (aD hk)⟩
theorem Jz.Ok.mono {t:Jz} {a b:Nat} (h:t.Ok a) (hab:a<=b):t.Ok b:=
  ⟨by have:=h.sz; omega,h.ka,h.kb,by have:=h.ea; omega,by have:=h.eb; omega,by have:=h.na; omega,by have:=h.nb; omega,by have:=h.L; omega⟩
theorem Wk (v0 v1:bB) (seed:List UInt8) (l:List Th) (w:bC) (hs:Bs w v0 seed) (h:Sl w 3 v1 l.length (l.map Th.cells).flatten) (hn:∀x∈l,Bs w x.v x.body): bE aA 3 #[v0,v1] w λ e w'=>e=.returned (.bool true)/\Below w.heap.size w w':=by
  obtain ⟨va,vc,rfl,hvc,hmv⟩:=hs.form;obtain ⟨al,cl,rfl,hcl,hml⟩:=h.form;have HSD:=hqZ hs;have HSL:=hqZ h;have HN:=hqZ hn;obtain ⟨m,hm⟩:∃m,m=Ku (.real ⟨seed,0,0⟩):=⟨_,rfl⟩
  have HOK0:Hq (m.talk.Ok 0):=hqZ (by rw [hm]; exact A4Z (s:=.real ⟨seed,0,0⟩) trivial (Nat.zero_le _));have HKL:Hq (m.sub.length=16):=hqZ (by rw [hm]; exact (Yu (.real ⟨seed,0,0⟩)).subl);have HNEW:Hq (∀(v:bB) (W:bC) (l:List Res),Ac W l->Bs W v seed->seed.length<=40->bE aA 6 #[v] W λ e w'=>∃q,e=.returned (.pointer (some ⟨q,0,none⟩))/\Ac w' (pvR q (.real ⟨seed,0,0⟩)::l)):=hqZ (λ v W l h hv hl=>Zc v seed l W h hv (by omega));have HME:Hq (∀(q:Nat) (W:bC) (l:List Res),Ac W (pvR q (.real ⟨seed,0,0⟩)::l)->bE aA 5 #[.iface 27 (.pointer (some ⟨q,0,none⟩))] W λ e w'=>∃pp,e=.returned (.pointer (some ⟨pp,0,none⟩))/\Ac w' (Hi pp q m.sub m.talk::l)):=hqZ (λ q W l h=>by
    have:=Qi q (.real ⟨seed,0,0⟩) l W h (Nat.zero_le _);rw [<-hm] at this;exact this)
  have HSAY:=hqZ (λ (pp q:Nat) (t:Jz) (d:Nat) (i rk:Bool) (bv:bB) (body:List UInt8) (l:List Res) (w:bC) (h:Ac w (Hi pp q m.sub t::l)) (hok:t.Ok d) (hd:d<60) (hv:∀W,Ac W l->Bs W bv body) (hb:body.length<=2048)=>A1o pp q m.sub t d i rk bv body l w h hok hd HKL.o hv hb);obtain ⟨key,hkey⟩:∃key,key=m.sub:=⟨_,rfl⟩
  obtain ⟨t0,ht0⟩:∃t0,t0=m.talk:=⟨_,rfl⟩
  rw [<-ht0] at HOK0;rw [<-hkey] at HKL;simp only [<-hkey,<-ht0] at HME HSAY;clear hkey ht0 hm;unfold maxLen at hml hmv;have HC:=hqZ (Ac.start w);clear h hn hs;go_enter aO,Tryz.ntmps3;go_wp2_with fail;refine (Wg _ _ HC.o).mono ?_;rintro e w1 ⟨rfl,hc⟩;have HC:=hqZ hc;clear hc;by_cases hsd:(40:Int)<seed.length
  · go_wp2_with fail;go_ret;exact ⟨rfl,HC.o.baseOf (w0:=w) (by simp)⟩
  by_cases hll:(4:Int)<l.length
  · go_wp2_with fail;go_ret;exact ⟨rfl,HC.o.baseOf (w0:=w) (by simp)⟩
  go_wp2_with fail;refine (HNEW.o _ _ _ HC.o (HSD.o.below (HC.o.baseOf (w0:=w) (by simp))) (by omega)).mono ?_;rintro e w2 ⟨q1,rfl,hc⟩;have HC:=hqZ hc;clear hc;go_wp2_with fail;refine (HME.o _ _ _ HC.o).mono ?_;rintro e w3 ⟨p1,rfl,hc⟩;have HC:=hqZ (hc.alloc (.cells #[] 5));clear hc;have HS3:=hqZ (HSD.o.below (HC.o.baseOf (w0:=w) (by simp)));go_wp2_with ((with_reducible refine zw 27 ?_);refine Df rfl (.tmp 25) (.tmp 26) Cl rfl (w3.heap.size+1) (Own.nil _ _ _ _ _) (λ b hb=>by simp [Act.eval,bB.ownBlock] at hb; simp; omega) HS3.o (by unfold maxLen; omega) (by omega) (by simp) ?_);intro v1 w4 ho hk hv;have hb4:Below (w3.heap.size+1) _ w4:=hk.below (by
    rintro i (h | h)
    · exact h.2
    · simpa using h)
  have HS4:Hq (Bs w4 v1 seed):=hqZ (by
    show Sl w4 1 v1 seed.length (Ab seed)
    simpa using ho.sl)
  have HC:=hqZ (HC.o.step (by simpa using hb4));obtain ⟨a4,c4,rfl,_,_⟩:=HS4.o.form;clear ho hk hv hb4 HS3;go_wp2_with fail;refine (HNEW.o _ _ _ HC.o HS4.o (by omega)).mono ?_;rintro e w5 ⟨q2,rfl,hc⟩;have HC:=hqZ hc;clear hc HS4;go_wp2_with fail;refine (HME.o _ _ _ HC.o).mono ?_;rintro e w6 ⟨p2,rfl,hc⟩;have HC:=hqZ hc.swap;clear hc;have HKB:Hq ((Ab key).length=16):=hqZ (by rw [Aa,HKL.o]);go_upto_region 6 with fail;refine zG (λ b W=>Ao W (p1) 5 ((Ab key))/\Ao W (p2) 5 ((Ab key))) HC.o λ W hc=>?_
  have HC:=hqZ hc;clear hc;have HS:=hqZ (And.intro ((HC.o.talkKey HKL.o)) ((HC.o.swap.talkKey HKL.o)));refine zT 0 ?_;refine zT 1 ?_;refine zT 2 ?_;refine zT 3 ?_;refine zT 4 ?_;refine zT 5 ?_;refine zT 6 ?_;refine zT 7 ?_;refine zT 8 ?_;refine zT 9 ?_;refine zT 10 ?_ (hr:=λ _ _ _ hW=>ldJ Al rfl HKB.o hW.1);refine zT 11 ?_;refine zT 12 ?_;refine zT 13 ?_;refine zT 14 ?_ (hr:=λ _ _ _ hW=>ldJ Al rfl HKB.o hW.2);refine zT 15 ?_ (v:=.bool false) (hr:=λ l W hk hW=>A5X (.tmp 41) (.tmp 45) (k1:=key) (k2:=key) rfl rfl HKL.o HKL.o (by simp) W);refine zT 16 ?_;refine zD ?_;go_wp2_with fail;go_loopw [50] (λ i wr=>∃(k:Nat) (t:Jz),k<=l.length/\i=.int .i64 k/\t.Ok k/\Ac wr (Hi p1 q1 key t::Hi p2 q2 key t:: [.base w])) (λ i _=>l.length- (intOf i).toNat)
  case atStart=>exact ⟨0,t0,Nat.zero_le _,rfl,HOK0.o,HC.o⟩
  case round=>
    obtain ⟨k,t,hk,rfl,hok,hr⟩:=hrel;by_cases hlt:k<l.length
    · obtain ⟨e,he⟩:∃e,e=l[k]:=⟨_,rfl⟩
      have hem:e∈l:=by rw [he]; exact List.getElem_mem hlt
      have hin:=HN.o e hem;obtain ⟨ab,cb,hxv,hcb,hmb⟩:=hin.form;obtain ⟨bl,ol,hal,hcell⟩:=HSL.o.addr (by rw [HSL.o.1]; omega);subst hal;have hbw:=hr.baseOf (w0:=w) (by simp);have hel:∀(j:Nat) u,e.cells[j]?=some u->wr.cell? ⟨bl,ol+k*3+j,none⟩=some u:=by
        intro j u hj;have hj':j<3:=by have:=(List.getElem?_eq_some_iff.1 hj).1; simpa [Th.cells] using this
        have:=hcell (k*3+j) u (by rw [Nj (n:=3) Th.cells l (λ _ _=>rfl) k j hlt hj',<-he]; exact hj);rw [Nat.add_assoc];exact Bc hbw this
      obtain ⟨xe,xk,xv,xb⟩:=e;simp only at hxv hin hcb;subst hxv;have e0:=hel 0 (.int .i64 xe) rfl;have e1:=hel 1 (.bool xk) rfl;have e2:=hel 2 (.slice ab xb.length cb) rfl;rw [Nat.add_zero] at e0;have hki:(k:Int)<l.length:=by omega
      have HIN:=hqZ hin;have HOK:=hqZ hok;obtain ⟨ii,y,hy,hyi⟩:=A5R xe;have HYI:=hqZ hyi;have HB:Hq (Ac (wr.alloc (.cells #[.int .i64 xe,.bool xk,.slice ab xb.length cb] 40)) (.blk wr.heap.size [.int .i64 xe,.bool xk,.slice ab xb.length cb] 40::Hi p1 q1 key t::Hi p2 q2 key t:: [.base w])):=hqZ (hr.addBlk [.int .i64 xe,.bool xk,.slice ab xb.length cb] 40);obtain ⟨ba,hba⟩:∃ba,ba=wr.heap.size:=⟨_,rfl⟩
      have HBA:=hqZ hba;rw [<-hba] at HB;clear he hem hcell hel hbw hin hok hr HC hmb hyi hba;by_cases hbl:(40:Int)<xb.length
      · go_wp2_with fail;go_roundw
        case rel=>exact ⟨k+1,t,by omega,by go_num,HOK.o.mono (by omega),HB.o.tail⟩
        case measure=>simp [intOf]; omega
      · have hk4:k<4:=by omega
        go_wp2_with fail;have HS1:=hqZ (HSAY.o p1 q1 t k ii xk (.slice ab xb.length cb) xb _ _ HB.o.swap HOK.o (by omega) (λ W hW=>HIN.o.below (hW.baseOf (w0:=w) (by simp))) (by omega));rw [<-HYI.o] at HS1;refine HS1.o.mono ?_;rintro e w7 ⟨rfl,hc,ho1⟩;obtain ⟨t2,ht2⟩:∃t2,t2=t.say ii xk xb:=⟨_,rfl⟩
        rw [<-ht2] at hc ho1;have HO1:=hqZ ho1;have HC7:=hqZ hc;have HT2:=hqZ ht2;clear ho1 hc ht2 HS1 HB;have e3:=HC7.o.tail.blk0.cell 0;have e4:=HC7.o.tail.blk0.cell 1;have e5:=HC7.o.tail.blk0.cell 2;simp only [aU,List.getElem?_cons_succ] at e3 e4 e5;rw [HBA.o] at e3 e4 e5;have HS2:=hqZ (HSAY.o p2 q2 t k ii xk (.slice ab xb.length cb) xb _ _ (HC7.o.zP [2]) HOK.o (by omega) (λ W hW=>HIN.o.below (hW.baseOf (w0:=w) (by simp))) (by omega));rw [<-HYI.o,<-HT2.o] at HS2;go_wp2_with fail;refine HS2.o.mono ?_;rintro e w8 ⟨rfl,hc,_⟩;have HC8:Hq (Ac w8 (Hi p1 q1 key t2::Hi p2 q2 key t2:: [.base w])):=hqZ (Ac.tail (r:=.blk ba [.int .i64 xe,.bool xk,.slice ab xb.length cb] 40) (hc.zP [2,1]));clear hc HS2 e3 e4 e5 HC7;go_wp2_with fail;go_roundw
        case rel=>exact ⟨k+1,t2,by omega,by go_num,HO1.o,HC8.o⟩
        case measure=>simp [intOf]; omega
    · obtain rfl:k=l.length:=by omega
      obtain ⟨sa1,sc1,vs1,hs1⟩:=hr.talkSent HKL.o;obtain ⟨sa2,sc2,vs2,hs2⟩:=hr.swap.talkSent HKL.o;have HL:Hq (t.L.length<=16):=hqZ (by have:=hok.L; omega);obtain ⟨L,hL⟩:∃L,L=t.L:=⟨_,rfl⟩
      rw [<-hL] at hs1 hs2 HL;obtain ⟨n,hn⟩:∃n,n=L.length:=⟨_,rfl⟩
      have hn16:n<=16:=by rw [hn]; exact HL.o
      have hcn1:=hs1.1;have hcn2:=hs2.1;rw [<-hn] at hcn1 hcn2;have HHN:=hqZ hn;have HS1:=hqZ hs1;have HS2:=hqZ hs2;obtain ⟨w9,hw9⟩:∃w9,w9=wr:=⟨_,rfl⟩
      have HB0:=hqZ (hr.baseOf (w0:=w) (by simp));rw [<-hw9] at HS1 HS2 HB0;have HG1:Hq (∀W,Below w9.heap.size w9 W->W.cell? ⟨p1,21,none⟩=some (.slice sa1 n sc1)):=hqZ (λ W hb=>by rw [hn]; exact (HS1.o.below hb).1);have HG2:Hq (∀W,Below w9.heap.size w9 W->W.cell? ⟨p2,21,none⟩=some (.slice sa2 n sc2)):=hqZ (λ W hb=>by rw [hn]; exact (HS2.o.below hb).1);clear hs1 hs2 hr hok hL hn HL HC hcl hml;go_wp2_with fail;go_loopw [86] (λ i wr2=>∃(k:Nat),k<=n/\i=.int .i64 k/\Below w9.heap.size w9 wr2) (λ i _=>n- (intOf i).toNat)
      case atStart=>exact ⟨0,Nat.zero_le _,rfl,by rw [hw9]; exact Below.refl _ _⟩
      case round=>
        clear hcn1 hcn2;obtain ⟨k,hk,rfl,hb⟩:=hrel;have g1:=HS1.o.below hb;have g2:=HS2.o.below hb;have hcn1:=g1.1;have hcn2:=g2.1;rw [<-HHN.o] at hcn1 hcn2;have HB:=hqZ hb;clear hb;by_cases hlt:k<n
        · obtain ⟨b1,o1,u1,hb1,hc1,hu1⟩:=g1.at k (by rw [<-HHN.o]; exact hlt);obtain ⟨b2,o2,u2,hb2,hc2,hu2⟩:=g2.at k (by rw [<-HHN.o]; exact hlt);subst hb1 hb2;have hkn:(k:Int)<n:=by omega
          have HU1:=hqZ hu1;have HU2:=hqZ hu2;clear g1 g2 hu1 hu2;go_wp2_with fail;refine (A1c _ _ _ _ _ HU1.o HU2.o).mono ?_;rintro e w10 ⟨rfl,hb⟩;have HB2:=hqZ (HB.o.trans (hb.mono HB.o.size));rw [decide_eq_true rfl];clear hb HB hc1 hc2 hcn1 hcn2;go_wp2_with fail;go_roundw
          case rel=>exact ⟨k+1,by omega,by go_num,HB2.o⟩
          case measure=>simp [intOf]; omega
        · obtain rfl:k=n:=by omega
          have HC:=hqZ ((Ac.start w9).step HB.o);clear g1 g2 hcn1 hcn2 HB;go_upto_region 21 with fail;refine zG (λ b W=>W.cell? ⟨p1,21,none⟩=some (.slice sa1 k sc1)/\W.cell? ⟨p2,21,none⟩=some (.slice sa2 k sc2)) HC.o λ W hc=>?_
          have HC:=hqZ hc;clear hc;have HS:=hqZ (And.intro (HG1.o _ (HC.o.baseOf (w0:=w9) (by simp))) (HG2.o _ (HC.o.baseOf (w0:=w9) (by simp))));refine zT 0 ?_;refine zT 1 ?_;refine zT 2 ?_;refine zT 3 ?_;refine zT 4 ?_;refine zT 5 ?_;refine zT 6 ?_;refine zT 7 ?_;refine zT 8 ?_;refine zT 9 ?_;refine zT 10 ?_;refine zT 11 ?_;refine zD ?_;go_wp2_with fail;go_ret;exact ⟨rfl,HB0.o.trans ((HC.o.baseOf (w0:=w9) (by simp)).mono HB0.o.size)⟩
end
end Go.Proofs.YtnihelcjmahmnaaGreat
namespace Go.Proofs.YtnihelcjmahmnaaGreat.wholeReal
open Go.ChangeShapes Go.WideShapes Go.ChangeAt Go.RowKit
open Go.ChangeMaps (open_string shut_string)
theorem contract (H:Type) (enc:bD×bB->H) (W:bC) (base:Nat) (args:Array bB) (ds gs:List (DataW H)) (before:List MemPlace) (hval0:∀(j:Nat) t v,Tryz.f3.params[j]?=some t->args[j]?=some v->bB.okWide aA W .any base t v) (hW:DataW.Whole enc aA Tryz.f3.params.toList Rows.wholeRealSpec.vars false W args.toList ds gs before): bE aA 3 args W λ e W'=>∃v,e=.returned v/\Rows.wholeRealSpec.post enc aA aG false true false false W args v W':=by
  have hval:=hval0;have hW':=hW;obtain ⟨p,q,hA0,hV,rfl,hfz,hnd⟩:=hW;have hA:DataW.TrodAll enc aA W 0 (λ _=>true) true Tryz.f3.params.toList args.toList ds p:=hA0;rw [Tryz.params3] at hA hval;obtain ⟨v0,vs0,d0,ds0,p0,q0,hargs,rfl,rfl,h0,r0⟩:=trodAll_cons hA;obtain ⟨v1,vs1,d1,ds1,p1,q1,rfl,rfl,rfl,h1,r1⟩:=trodAll_cons r0;obtain ⟨rfl,rfl,rfl⟩:=trodAll_nil r1;obtain rfl:args=#[v0,v1]:=by cases args; simp_all
  obtain ⟨rfl,rfl⟩:=trodVars_none hV;have hcall:bE aA 3 #[v0,v1] W λ e W'=>e=.returned (.bool true)/\Below W.heap.size W W':=by
    obtain ⟨sd,hsd⟩:=A0R (hval 0 _ v0 rfl rfl) h0;obtain ⟨l,hl,hin⟩:=A2s (hval 1 _ v1 rfl rfl) h1;exact Wk v0 v1 sd l W hsd hl hin
  refine hcall.mono λ e W' ⟨he,bel⟩=>?_
  subst he;exact ⟨_,rfl,_,_,_, [],_, [],hW',trodAll_mk1 (shut_bool bA _),Ms A0Y bel (by kernel_rfl) hA0,rfl,bel.frame _,λ h=>by cases h⟩
theorem lifted (os:Os) (started:os.Started) (H:Type) (enc:bD×bB->H): ReturnsInHanded {} aP os 3 .any (Rows.wholeRealSpec.pre6 enc aA aG Rows.wholeRealRow.domain false) (Rows.wholeRealSpec.post enc aA aG false true false false):=by
  refine returnsInHanded_of_change (C:=aP) A6c started (by kernel_rfl) aO
    (ChangeSpec.witness6 (enc:=enc) (C:=aP) false ⟨#[],#[.slice none 0 0,.slice none 0 0], []⟩ 8 (by kernel_rfl) (by kernel_rfl) (by kernel_rfl) (by kernel_rfl)) ?_
  intro W base args ds gs before hval hW _ _;exact contract H enc W base args ds gs before hval hW
theorem over:Rows.wholeRealRow.holds Tryz.pinned (OpenSpec.ofChange Rows.wholeRealSpec):=
  OpenClaim.holds_of_wide 3 aG rfl rfl rfl rfl rfl rfl rfl ⟨rfl,rfl,rfl,rfl,rfl⟩ rfl rfl rfl rfl rfl (by kernel_rfl) aO (by kernel_rfl)
    (of_decide_eq_true (by kernel_rfl)) (by unfold Func.isWrapper; first | (rw [if_pos (by decide+kernel)]; kernel_rfl) | (rw [if_neg (by decide+kernel)]; exact ⟨rfl,rfl⟩))
    (λ os started H enc _=>lifted os started H enc)
theorem proved:Rows.WholeRealSaid:=over
end Go.Proofs.YtnihelcjmahmnaaGreat.wholeReal
