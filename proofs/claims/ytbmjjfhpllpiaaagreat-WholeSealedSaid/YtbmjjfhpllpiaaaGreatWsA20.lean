/- Texts of this proof, one behind the other: Open, OpenY, OpenL, SayX, KnG0. -/
import Derived.Test.YtbmjjfhpllpiaaaGreatWsA1
import Derived.Test.YtbmjjfhpllpiaaaGreatWsA2
import Derived.Test.YtbmjjfhpllpiaaaGreatWsA15
import Derived.Test.YtbmjjfhpllpiaaaGreatWsA16
import Derived.Test.YtbmjjfhpllpiaaaGreatWsA19
import Derived.OpenShut
import Derived.Deep.Slices
import Derived.ChangeArms
import Derived.WideShapes
set_option linter.unusedSimpArgs false
set_option linter.unusedVariables false
set_option maxRecDepth 100000
set_option maxHeartbeats 16000000
open List renaming range -> aA, getElem?_eq_getElem -> aB, range_succ -> aC, getElem?_append_left -> aD, getElem?_append_right -> aE, append_nil -> aF, map_cons -> aG, flatten_cons -> aH, flatMap_append -> aI, length_append -> aJ, length_take -> aK, length_drop -> aL, map_append -> aM, flatten_append -> aN, map_nil -> aO, flatten_nil -> aP, length_map -> aQ
open Go renaming Value -> aR, World -> aS, TypeId -> aT, Program -> aU
namespace Go.Proofs.YtbmjjfhpllpiaaaGreat
open Go.RowKit
section
def Qu (rec:aT->Option (List aT)) (cells:aT->Nat):List Field->Nat->Option (List aT×Nat)
  | [],o=>some ([],o)
  | f::fs,o=>
    match rec f.type with
    | some l=>if f.offset=o/\l.length=cells f.type then (Qu rec cells fs (o+l.length)).map λ x=>(l++x.1,x.2) else none
    | none=>none
def Kg (P:aU):Nat->aT->Option (List aT)
  | 0,_=>none
  | fuel+1,t=>
    match P.underlying t with
    | some (.struct fs)=>match Qu (Kg P fuel) P.cellsOf fs.toList 0 with
      | some (l,o)=>if o=P.cellsOf t then some l else none
      | none=>none
    | some (.array n e)=>match Kg P fuel e with
      | some l=>if l.length=P.cellsOf e/\n*l.length=P.cellsOf t then some ((aA n).flatMap λ _=>l) else none
      | none=>none
    | some _=>some [t]
    | none=>none
theorem Tc {rec:aT->Option (List aT)} {cells:aT->Nat} :∀ {fs:List Field} {o:Nat} {L:List aT} {o':Nat},Qu rec cells fs o=some (L,o')-> o'=o+L.length/\∀j t',L[j]?=some t'->∃f∈fs,∃l k,rec f.type=some l/\l[k]?=some t'/\f.offset+k=o+j/\l.length=cells f.type/\f.offset+l.length<=o'
  | [],o,L,o',h=>by
    simp only [Qu,Option.some.injEq,Prod.mk.injEq] at h;obtain ⟨rfl,rfl⟩:=h;exact ⟨rfl,λ j t' h=>by simp at h⟩
  | f::fs,o,L,o',h=>by
    simp only [Qu] at h;split at h
    · rename_i l hl;split at h
      · rename_i hc;obtain ⟨⟨L1,o1⟩,h1,h2⟩:=Option.map_eq_some_iff.1 h;simp only [Prod.mk.injEq] at h2;obtain ⟨rfl,rfl⟩:=h2;obtain ⟨e1,e2⟩:=Tc h1;refine ⟨by simp; omega,λ j t' hj=>?_⟩;by_cases hjl:j<l.length
        · rw [aD hjl] at hj;exact ⟨f,by simp,l,j,hl,hj,by omega,hc.2,by omega⟩
        · rw [aE (by omega)] at hj;obtain ⟨f',hf',l',k,q1,q2,q3,q4,q5⟩:=e2 _ _ hj;exact ⟨f',by simp [hf'],l',k,q1,q2,by omega,q4,by omega⟩
      · simp at h
    · simp at h
section
variable {H:Type} {enc:aT×aR->H} {P:aU} {w:aS} {base:Nat} {spare:Nat->Bool} {held:Bool}
def T7 (enc:aT×aR->H) (P:aU) (w:aS) (base:Nat) (spare:Nat->Bool) (held:Bool) (t:aT) (c:aR):Prop:=
  (∃d,P.underlying t=some d/\(∀fs,d≠ .struct fs)/\∀n e,d≠ .array n e)/\∃n y,DataW.trod enc P w base spare held n t [c]=some y
def Hl (enc:aT×aR->H) (P:aU) (w:aS) (base:Nat) (spare:Nat->Bool) (held:Bool) (ts:List aT) (cs:List aR):Prop:=
  cs.length=ts.length/\∀(j:Nat) t' c,ts[j]?=some t'->cs[j]?=some c->T7 enc P w base spare held t' c
theorem getElem?_slice {α:Type} (l:List α) (o n k:Nat) (hk:k<n):((l.drop o).take n)[k]?=l[o+k]?:=by
  rw [List.getElem?_take,if_pos hk,List.getElem?_drop]
theorem Km {α:Type} (l:List α):∀n:Nat,((aA n).flatMap λ _=>l).length=n*l.length:=by
  intro n;induction n with
  | zero=>simp
  | succ n ih=>
    rw [aC,aI,aJ,ih,Nat.add_mul];simp
theorem Mu {α:Type} (l:List α):∀(n j:Nat) (x:α),((aA n).flatMap λ _=>l)[j]?=some x->∃i k,i<n/\k<l.length/\j=i*l.length+k/\l[k]?=some x:=by
  intro n;induction n with
  | zero=>intro j x h; simp at h
  | succ n ih=>
    intro j x h;rw [aC,aI] at h;simp only [List.flatMap_cons,List.flatMap_nil,aF] at h;have hlen:=Km l n;by_cases hj:j<n*l.length
    · rw [aD (by omega)] at h;obtain ⟨i,k,h1,h2,h3,h4⟩:=ih j x h;exact ⟨i,k,by omega,h2,h3,h4⟩
    · rw [aE (by omega),hlen] at h;exact ⟨n,j-n*l.length,by omega,(List.getElem?_eq_some_iff.1 h).1,by omega,h⟩
theorem Ys:∀(m:Nat) (t:aT) (ts:List aT) (n:Nat) (cs:List aR) (x:DataW H×List MemPlace),Kg P m t=some ts->P.cellsOf t=ts.length->cs.length=P.cellsOf t-> DataW.trod enc P w base spare held n t cs=some x->Hl enc P w base spare held ts cs:=by
  intro m;induction m with
  | zero=>intro t ts n cs x h; simp [Kg] at h
  | succ m ih=>
    intro t ts n cs x hf hts hcs h;refine ⟨by omega,λ j t' c hj hc=>?_⟩;rw [Kg] at hf;split at hf
    · rename_i fs hu;split at hf
      · rename_i l o hfl;split at hf
        · rename_i ho;obtain rfl:l=ts:=by simpa using hf
          obtain ⟨e1,e2⟩:=Tc hfl;obtain ⟨f,hfm,l',k,q1,q2,q3,q4,q5⟩:=e2 j t' hj;obtain ⟨xs,n',rfl,_,_,hxl,hfield⟩:=DataW.trod_struct hu h;obtain ⟨i,hi⟩:=List.mem_iff_getElem?.1 hfm;have hi':fs[i]?=some f:=by simpa using hi
          have hlt:i<xs.length:=by
            have:=(Array.getElem?_eq_some_iff.1 hi').1;omega
          have ht:=hfield i f hi';rw [aB hlt] at ht;have hk:k<l'.length:=(List.getElem?_eq_some_iff.1 q2).1;have hjl:j<cs.length:=(List.getElem?_eq_some_iff.1 hc).1;have hlen:((cs.drop f.offset).take (P.cellsOf f.type)).length=P.cellsOf f.type:=by
            rw [aK,aL];omega
          have r:=ih f.type l' n' _ _ q1 (by omega) hlen ht;exact r.2 k t' c q2 (by rw [getElem?_slice _ _ _ _ (by omega),q3]; simpa using hc)
        · simp at hf
      · simp at hf
    · rename_i nn e hu;split at hf
      · rename_i l hl;split at hf
        · rename_i ho;obtain rfl:((aA nn).flatMap λ _=>l)=ts:=by simpa using hf
          obtain ⟨i,k,q1,q2,q3,q4⟩:=Mu l nn j t' hj;obtain ⟨xs,n',rfl,_,_,hxl,hel⟩:=DataW.trod_array hu h;have hlt:i<xs.length:=by omega
          have ht:=hel i q1;rw [aB hlt] at ht;have hmul:i*P.cellsOf e+P.cellsOf e<=P.cellsOf t:=by
            rw [<-ho.2,<-ho.1,<-Nat.succ_mul];exact Nat.mul_le_mul_right _ q1
          have hlen:((cs.drop (i*P.cellsOf e)).take (P.cellsOf e)).length=P.cellsOf e:=by
            rw [aK,aL];omega
          have r:=ih e l n' _ _ hl (by omega) hlen ht;exact r.2 k t' c q4 (by rw [getElem?_slice _ _ _ _ (by omega),<-ho.1,<-q3]; exact hc)
        · simp at hf
      · simp at hf
    · rename_i d hd1 hd2 hu;obtain rfl: [t]=ts:=by simpa using hf
      have h1:cs.length=1:=by simpa [hts] using hcs
      match cs,h1 with
      | [c0],_=>
        cases j with
        | zero=>
          simp only [List.getElem?_cons_zero,Option.some.injEq] at hj hc;subst hj hc;exact ⟨⟨d,hu,λ fs e=>hd1 fs e,λ n e he=>hd2 n e he⟩,n,x,h⟩
        | succ j=>simp at hj
    · simp at hf
theorem T7.int {k:IntKind} {t:aT} {c:aR} (ht:P.underlying t=some (.int k)) (h:T7 enc P w base spare held t c):∃n,c=.int k n/\(Lit.int k n).wf=true:=by
  obtain ⟨_,n,y,hy⟩:=h;obtain ⟨m,e,_,hw⟩:=DataW.trod_int ht hy;exact ⟨m,by simpa using e,hw⟩
theorem T7.bool {t:aT} {c:aR} (ht:P.underlying t=some .bool) (h:T7 enc P w base spare held t c):∃b,c=.bool b:=by
  obtain ⟨_,n,y,hy⟩:=h;obtain ⟨m,e,_⟩:=DataW.trod_bool ht hy;exact ⟨m,by simpa using e⟩
theorem T7.one {t:aT} {c:aR} (h:T7 enc P w base spare held t c):c.oneCell'=true:=by
  obtain ⟨⟨d,hu,h1,h2⟩,n,y,hy⟩:=h
  cases n with
  | zero=>simp [DataW.trod] at hy
  | succ n=>
    cases c with
    | agg cs=>
      unfold DataW.trod at hy;rw [hu] at hy;split at hy <;> simp_all
    | tuple vs=>
      unfold DataW.trod at hy;rw [hu] at hy;split at hy <;> simp_all
    | _=>rfl
theorem Hl.one {ts:List aT} {cs:List aR} (h:Hl enc P w base spare held ts cs):∀u∈cs,u.oneCell'=true:=by
  intro u hu;obtain ⟨j,hj⟩:=List.mem_iff_getElem?.1 hu;have hl:j<cs.length:=(List.getElem?_eq_some_iff.1 hj).1
  have:j<ts.length:=by have:=h.1; omega
  exact (h.2 j ts[j] u (aB this) hj).one
theorem Hl.cons {t:aT} {ts:List aT} {cs:List aR} (h:Hl enc P w base spare held (t::ts) cs):∃c cs',cs=c::cs'/\T7 enc P w base spare held t c/\Hl enc P w base spare held ts cs':=by
  obtain ⟨h1,h2⟩:=h
  cases cs with
  | nil=>simp at h1
  | cons c cs'=>exact ⟨c,cs',rfl,h2 0 t c rfl rfl,by simpa using h1,λ j t' c' hj hc=>h2 (j+1) t' c' (by simpa using hj) (by simpa using hc)⟩
theorem Hl.nil {cs:List aR} (h:Hl enc P w base spare held [] cs):cs= []:=by simpa using h.1
theorem Ud {a:Addr} {u:aR} (h:w.cell? a=some u):a=⟨a.block,a.off,none⟩:=by
  obtain ⟨b,o,s⟩:=a
  cases s with
  | none=>rfl
  | some n=>simp [aS.cell?] at h; split at h <;> simp at h
theorem Rj {t e:aT} {v:aR} {d:DataW H} {ps:List MemPlace} {m:Nat} {ts:List aT} (ht:P.underlying t=some (.slice e)) (hf:Kg P m e=some ts) (hc:P.cellsOf e=ts.length) (hpos:0<ts.length) (hv:∃a len cap,v=.slice a len cap) (h:DataW.Trod enc P w base spare held t v d ps): ∃(n:Nat) (xs:List (List aR)),xs.length=n/\(∀x∈xs,Hl enc P w base spare held ts x)/\Sl w ts.length v n xs.flatten:=by
  obtain ⟨a,len,cap,rfl⟩:=hv;obtain ⟨fuel,hy⟩:=h;rcases Deep.open_slice ht hy with ⟨h1,_⟩ | ⟨a',len',cap',m',n',D,Pl,h1,hb,hl,hm,hm',hx,hel⟩
  · simp only [aR.cells,List.cons.injEq,and_true,aR.slice.injEq] at h1;obtain ⟨rfl,rfl,rfl⟩:=h1;exact ⟨0, [],rfl,by simp,Sl.nil _ _ _⟩
  · simp only [aR.cells,List.cons.injEq,and_true,aR.slice.injEq] at h1;obtain ⟨rfl,rfl,rfl⟩:=h1;have hlm:len<=m':=by rw [hm']; split <;> omega
    have key:∀i,∃cs',i<len->cs'.length=ts.length/\Hl enc P w base spare held ts cs'/\∀j u,cs'[j]?=some u->w.cell? (a'.add (i*ts.length+j))=some u:=by
      intro i;by_cases hi:i<len
      · obtain ⟨cs',h2,h3⟩:=hel i (by omega);obtain ⟨_,h4,h5⟩:=aS.cells?_some h2;rw [hc] at h4;refine ⟨cs',λ _=>⟨h4,Ys m e ts n' cs' _ hf hc (by omega) h3,λ j u hj=>?_⟩⟩;have hjl:=(List.getElem?_eq_some_iff.1 hj).1
        have:=h5 j (by omega);rw [Deep.add_add,hc] at this;rw [this,hj]
      · exact ⟨[],λ h=>absurd h hi⟩
    obtain ⟨f,hf'⟩:∃f:Nat->List aR,∀i,i<len->(f i).length=ts.length/\Hl enc P w base spare held ts (f i)/\∀j u,(f i)[j]?=some u->w.cell? (a'.add (i*ts.length+j))=some u:=
      ⟨λ i=>(key i).choose,λ i hi=>(key i).choose_spec hi⟩
    refine ⟨len,(aA len).map f,by simp,?_,?_⟩
    · intro x hx;obtain ⟨i,hi,rfl⟩:=List.mem_map.1 hx;exact (hf' i (List.mem_range.1 hi)).2.1
    · have hlen:∀k,k<=len->(((aA k).map f).flatten).length=k*ts.length:=by
        intro k;induction k with
        | zero=>simp
        | succ k ih=>
          intro hk;rw [aC,aM,aN,aJ,ih (by omega)];simp only [aG,aO,aH,aP,aF,(hf' k (by omega)).1,Nat.add_mul,Nat.one_mul]
      have hget:∀k,k<=len->∀j u,(((aA k).map f).flatten)[j]?=some u->w.cell? (a'.add j)=some u:=by
        intro k;induction k with
        | zero=>intro _ j u h; simp at h
        | succ k ih=>
          intro hk j u h;rw [aC,aM,aN] at h;simp only [aG,aO,aH,aP,aF] at h;by_cases hj:j<k*ts.length
          · rw [aD (by rw [hlen k (by omega)]; exact hj)] at h;exact ih (by omega) j u h
          · rw [aE (by rw [hlen k (by omega)]; omega),hlen k (by omega)] at h
            have:=(hf' k (by omega)).2.2 _ u h
            rwa [show k*ts.length+(j-k*ts.length)=j by omega] at this
      refine ⟨hlen len (Nat.le_refl _),?_,some a',cap,rfl,hl,hm,λ h=>by simp at h,?_⟩
      · intro u hu;obtain ⟨x,hx,hu⟩:=List.mem_flatten.1 hu;obtain ⟨i,hi,rfl⟩:=List.mem_map.1 hx;exact (hf' i (List.mem_range.1 hi)).2.1.one u hu
      · by_cases h0:len=0
        · subst h0; exact .inl rfl
        · have hpos':0< ((aA len).map f).flatten.length:=by rw [hlen len (Nat.le_refl _)]; exact Nat.mul_pos (by omega) hpos
          have hc0:=hget len (Nat.le_refl _) 0 _ (aB hpos');have ea:a'=⟨a'.block,a'.off,none⟩:=by
            have:=Ud hc0;simpa [Addr.add] using this
          refine .inr ⟨a'.block,a'.off,by rw [<-ea],λ j u hj=>?_⟩
          have:=hget len (Nat.le_refl _) j u hj;rw [ea,Addr.add_lit] at this;exact this
theorem Qs {α β:Type} (f:α->β):∀(xs:List β),(∀x∈xs,∃a,x=f a)->∃l:List α,xs=l.map f
  | [],_=>⟨[],rfl⟩
  | x::xs,h=>by
    obtain ⟨a,rfl⟩:=h x (by simp);obtain ⟨l,rfl⟩:=Qs f xs (λ y hy=>h y (by simp [hy]));exact ⟨a::l,rfl⟩
theorem Oy {α β:Type} (p:α->Prop) (f:α->β):∀(xs:List β),(∀x∈xs,∃a,x=f a/\p a)->∃l:List α,xs=l.map f/\∀a∈l,p a
  | [],_=>⟨[],rfl,by simp⟩
  | x::xs,h=>by
    obtain ⟨a,rfl,ha⟩:=h x (by simp);obtain ⟨l,rfl,hl⟩:=Oy p f xs (λ y hy=>h y (by simp [hy]));exact ⟨a::l,rfl,by simpa using ⟨ha,hl⟩⟩
end
end
end Go.Proofs.YtbmjjfhpllpiaaaGreat
namespace Go.Proofs.YtbmjjfhpllpiaaaGreat
open Go.ChangeShapes Go.WideShapes Go.RowKit Go.OpenShut
section
variable {H:Type} {enc:aT×aR->H} {w:aS} {base:Nat} {spare:Nat->Bool} {held:Bool}
theorem Zg {n:Int} (h:(Lit.int .u8 n).wf=true):∃x:UInt8,(aR.int .u8 n)=bV x:=by
  have h:=bounds_u8 h;refine ⟨UInt8.ofNat n.toNat,?_⟩;rw [bV,UInt8.toNat_ofNat'];congr 1;omega
theorem A0M:∀l:List UInt8,(l.map λ x=> [bV x]).flatten=Ab l
  | []=>rfl
  | x::l=>by rw [aG,aH,A0M l]; rfl
end
section
variable {H:Type} {enc:aT×aR->H} {w:aS} {base:Nat} {spare:Nat->Bool} {held:Bool}
theorem A2D {c:aR} (h:T7 enc Tryz.prog w base spare held 29 c):∃l:List UInt8,Bs w c l:=by
  obtain ⟨_,fuel,y,hy⟩:=h;have hf:Kg Tryz.prog 4 5=some [5]:=by kernel_rfl
  rcases Deep.open_slice Tryz.underlying29 hy with ⟨h1,_⟩ | ⟨a',len,cap,m',n',D,Pl,h1,_,hl,hm,hm',hx,hel⟩
  · simp only [List.cons.injEq,and_true] at h1;subst h1;exact ⟨[],Sl.nil _ _ _⟩
  · simp only [List.cons.injEq,and_true] at h1;subst h1;obtain ⟨n,xs,hn,hxs,hs⟩:=Rj (v:=.slice (some a') len cap) (d:=y.1) (ps:=y.2) Tryz.underlying29 hf (by kernel_rfl) (by decide) ⟨_,_,_,rfl⟩ ⟨fuel,hy⟩;obtain ⟨l,rfl⟩:=Qs (λ x:UInt8=> [bV x]) xs (λ x hxm=>by
      obtain ⟨c0,x,rfl,k0,hL⟩:=(hxs x hxm).cons;obtain rfl:=hL.nil;obtain ⟨y0,rfl,hw⟩:=k0.int Tryz.underlying5;obtain ⟨z,hz⟩:=Zg hw;exact ⟨z,by rw [hz]⟩)
    rw [A0M] at hs;rw [aQ] at hn;subst hn;exact ⟨l,hs⟩
end
section
theorem A2t (n:Int):bits .and .i64 n 1=n % 2:=by
  have h1:(BitVec.ofInt 64 1).toNat=2 ^ 1-1:=by decide
  have key:(BitVec.ofInt 64 n&&& BitVec.ofInt 64 1).toNat=(n % ((2 ^ 64:Nat):Int)).toNat % 2 ^ 1:=by
    rw [BitVec.toNat_and,BitVec.toNat_ofInt,h1,Nat.and_two_pow_sub_one_eq_mod]
  show IntKind.i64.wrap ((BitVec.ofInt 64 n&&& BitVec.ofInt 64 1).toNat:Nat)=n % 2
  rw [key,IntKind.wrap_i64];omega
theorem A2j (n:Int):∃(i:Bool) (y:Int),bits .and .i64 n 1=y/\y=(if i=true then 1 else 0):=by
  rw [A2t];rcases Int.emod_two_eq n with h | h
  · exact ⟨false,0,h,rfl⟩
  · exact ⟨true,1,h,rfl⟩
structure Sg where
  e:Int
  rk:Bool
  v:aR
  body:List UInt8
def Sg.cells (x:Sg):List aR:= [.int .i64 x.e,.bool x.rk,x.v]
section
variable {H:Type} {enc:aT×aR->H} {w:aS} {base:Nat} {spare:Nat->Bool} {held:Bool}
theorem A1C {v:aR} {d:DataW H} {ps:List MemPlace} {r:Reach} {b0:Nat} (hval:aR.okWide Tryz.prog w r b0 22 v) (h:DataW.Trod enc Tryz.prog w base spare held 22 v d ps):∃l:List Sg,Sl w 3 v l.length (l.map Sg.cells).flatten/\∀x∈l,Bs w x.v x.body:=by
  have hf:Kg Tryz.prog 8 31=some [3,4,29]:=by kernel_rfl
  obtain ⟨n,xs,hn,hx,hs⟩:=Rj Tryz.underlying22 hf (by kernel_rfl) (by decide) (okWide_slice Tryz.underlying22 hval) h;obtain ⟨l,rfl,hl⟩:=Oy (λ x:Sg=>Bs w x.v x.body) Sg.cells xs (λ x hxm=>by
    obtain ⟨c0,x0,rfl,k0,hL⟩:=(hx x hxm).cons;obtain ⟨c1,x1,rfl,k1,hL⟩:=hL.cons;obtain ⟨c2,x2,rfl,k2,hL⟩:=hL.cons;obtain rfl:=hL.nil;obtain ⟨f0,rfl,_⟩:=k0.int Tryz.underlying3;obtain ⟨f1,rfl⟩:=k1.bool Tryz.underlying4;obtain ⟨b,hb⟩:=A2D k2;exact ⟨⟨f0,f1,c2,b⟩,rfl,hb⟩)
  rw [aQ] at hn;subst hn;exact ⟨l,hs,hl⟩
end
end
end Go.Proofs.YtbmjjfhpllpiaaaGreat
namespace Go.Proofs.YtbmjjfhpllpiaaaGreat
open Go.RowKit Go.Maps
theorem TkI.tabOk {t:Iw} {T:Sy} {d:Nat} {said:List (List UInt8)} (h:TkI t T d said) (hok:t.Ok d) (hd:d<=40):Qh T where
  nb:=by rw [h.i.nb]; omega
  nk:=by
    have h1:=hok.sz;rw [h.s] at h1
    have:=(PS.sz_keys (s:=T) (n:=100000) (by omega)).1;omega
  body:=h.i.none
theorem Pe:∀(L:List (List UInt8)) (M:Mi),M.Ok->(L.foldl Mi.take M).Ok
  | [],_,h=>h
  | x::L,M,h=>Pe L (M.take x) (h.take x)
theorem Mi.see_ok (L:List (List UInt8)):(Mi.see L).Ok:=Pe L .nil .nil
theorem Ac.addNilAt {W:aS} {l:List Res} (h:Ac W l) (e:aT) (sz:Nat) {b:Nat} (hb:W.heap.size=b):Ac (W.alloc (.cells #[] e)) (.ownZ e sz (.slice (some ⟨b,0,none⟩) 0 0) 0 []::l):=
  (h.addOwn ((Below.refl _ _).alloc (Nat.le_refl _) _) (Own.nil (W.alloc (.cells #[] e)) 0 e sz (some ⟨b,0,none⟩)) (λ k hk=>by
    simp only [aR.ownBlock,Option.map_some,Option.some.injEq] at hk;subst hk;simp [hb])).ownToZ
theorem A1H (i:UInt8) (x:List UInt8):(Ni i x).length=6+x.length:=by unfold Ni; simp; omega
theorem Xy (k:Nat) (hk:k<256) (x:List UInt8):(aR.int .u8 255::.int .u8 255::.int .u8 255::.int .u8 255::.int .u8 250::.int .u8 (k:Int)::Ab x:List aR)=Ab (Ni (UInt8.ofNat k) x):=by
  have:=I6 k hk;show _=bV 255::bV 255::bV 255::bV 255::bV 250::bV (UInt8.ofNat k)::Ab x
  rw [this];rfl
theorem TkI.text_any {t:Iw} {T:Sy} {d:Nat} {said:List (List UInt8)} (h:TkI t T d said) (hok:t.Ok d) (hd:d<=40) (q:Nat):(∀(W:aS) (l:List Res),Ac W (B2 q T::l)->Calls Tryz.prog 15 #[.pointer (some ⟨q,0,none⟩),.string ⟨#[112,97]⟩,.string ⟨#[97,110,110]⟩] W λ e w'=>e=.returned (Ay G8)/\Ac w' (B2 q T::l))/\ ∀(W:aS) (l:List Res),Ac W (B2 q T::l)->Calls Tryz.prog 15 #[.pointer (some ⟨q,0,none⟩),.string ⟨#[112,98]⟩,.string ⟨#[98,111,98]⟩] W λ e w'=>e=.returned (Ay Em)/\Ac w' (B2 q T::l):=by
  have hsz:=hok.sz;rw [h.s] at hsz;have hz:=PS.sz_keys (s:=T) (n:=100000) (by omega);have e1:T.made (PS.textF paB.data.toList Av)=(G8,T):=by
    obtain ⟨h1,h2⟩:=h.pa;simp [Sy.made,h1,h2]
  have e2:T.made (PS.textF pbB.data.toList Aw)=(Em,T):=by
    obtain ⟨h1,h2⟩:=h.pb;simp [Sy.made,h1,h2]
  constructor
  · intro W l hW
    have:=Kz q T ⟨#[112,97]⟩ ⟨#[97,110,110]⟩ l W hW (by decide) (by decide) (by omega) (by omega);rw [show (⟨#[112,97]⟩:ByteArray).data.toList=paB.data.toList from rfl,show (⟨#[97,110,110]⟩:ByteArray).data.toList=Av from rfl,e1] at this;exact this
  · intro W l hW
    have:=Kz q T ⟨#[112,98]⟩ ⟨#[98,111,98]⟩ l W hW (by decide) (by decide) (by omega) (by omega);rw [show (⟨#[112,98]⟩:ByteArray).data.toList=pbB.data.toList from rfl,show (⟨#[98,111,98]⟩:ByteArray).data.toList=Aw from rfl,e2] at this;exact this
theorem Vc {W:aS} {l:List Res} {sa:Option Addr} {n sc:Nat} {vs:List aR} {L:List (List UInt8)} (h:Ac W (.ownZ 29 1 (.slice sa n sc) n vs::Br vs L::l)) (hn:n=L.length) {k:Nat} (hk:k<n): ∃b o v,sa=some ⟨b,o,none⟩/\W.cell? ⟨b,o+k,none⟩=some v/\vs[k]?=some v/\Bs W v (L[k]'(by omega)):=by
  have hs:=(h.ownZOf (e:=29) (sz:=1) (n:=n) (v:=.slice sa n sc) (cs:=vs) List.mem_cons_self).sl;have hl:vs.length=n:=by have:=hs.1; omega
  obtain ⟨b,o,hb,hc⟩:=hs.addr (by omega);have hv:vs[k]?=some (vs[k]'(by omega)):=aB (by omega);exact ⟨b,o,_,hb,hc k _ hv,hv,Gs h.tail k hv (aB (by omega))⟩
end Go.Proofs.YtbmjjfhpllpiaaaGreat
