/- Texts of this proof, one behind the other: RegInv, DerMk, Base2, OwnZ, MTk, Name, Name2, ConvS, MTk2, Conv, MMk. -/
import Derived.Test.YtbmjjfhpllpiaaaGreatWsA1
import Derived.Test.YtbmjjfhpllpiaaaGreatWsA2
import Derived.Test.YtbmjjfhpllpiaaaGreatWsA3
import Derived.OrdersHeld
import Derived.StillTailTactics
import Derived.Test.YtbmjjfhpllpiaaaGreatProg
import Derived.Lib.OthersKept
import Derived.Lib.RuneCount
import Derived.Lib.BufferRead
import Derived.Lib.ConvBytes
import Derived.ArgAppend
set_option linter.unusedSimpArgs false
set_option linter.unusedVariables false
set_option maxRecDepth 100000
set_option maxHeartbeats 16000000
open Nat renaming le_refl -> aA, add_mul -> aE, sub_mul -> aF, mul_le_mul_right -> aI, le_trans -> aO, zero_add -> aP, zero_le -> aQ, le_of_eq -> aU, add_zero -> bB, zero_mul -> bC, mul_pos -> bD
open Go.Proofs.Tryz renaming prog -> aB, func151 -> aJ, ntmps151 -> aK, underlying29 -> aL, underlying5 -> aM, underlying9 -> aN, func144 -> bR, ntmps144 -> bS, func124 -> bT, ntmps124 -> bU
open Go.RowKit.Below renaming refl -> aC
open Array renaming getD_eq_getD_getElem? -> aD, getElem?_toList -> aS, getElem?_setIfInBounds_ne -> aV, getElem?_eq_getElem -> aW
open List renaming eq_nil_of_length_eq_zero -> aG, map_cons -> aH, getElem?_take -> aR, take_of_length_le -> aT, countP_eq_length_filter -> aX, countP_cons -> aY, all_eq_true -> aZ, mem_range -> bA, map_toArray -> bE, map_nil -> bF, getElem?_drop -> bG, mem_of_mem_drop -> bH, drop_take -> bI, length_drop -> bJ, append_assoc -> bK, drop_append_of_le_length -> bL, take_append_of_le_length -> bM, drop_of_length_le -> bN, getElem?_cons_zero -> bO, getElem?_append_left -> bP, flatten_cons -> bQ
open Go renaming Value -> bW, World -> bX, TypeId -> bY, Calls -> bZ, IntKind -> cD, Program -> cE, Oper -> cF
namespace Go.Proofs.YtbmjjfhpllpiaaaGreat
section
structure Fr (a0 a:Act) (ds:List Nat):Prop where
  defers:a.defers=a0.defers
  size:a.tmps.size=a0.tmps.size
  same:∀s,s∉ds->a.tmps[s]?=a0.tmps[s]?
theorem Fr.refl (a:Act) (ds:List Nat):Fr a a ds:=⟨rfl,rfl,λ _ _=>rfl⟩
theorem Fr.eval {a0 a:Act} {ds:List Nat} (h:Fr a0 a ds) (s:Nat) (hs:ds.contains s=false):a.eval (.tmp s)=a0.eval (.tmp s):=by
  have h1:=h.same s (by simpa using hs);simp only [Act.eval];rw [aD,aD,h1]
theorem Fr.put {a0 a:Act} {ds:List Nat} (h:Fr a0 a ds) (d:Option Tmp) (v:bW) (hd:∀s,d=some s->s∈ds):Fr a0 (a.put d v) ds:=by
  cases d with
  | none=>exact h
  | some s=>
    refine ⟨h.defers,by simp [Act.put,h.size],λ t ht=>?_⟩;have hne:s≠t:=λ e=>ht (e▸hd s rfl)
    simp only [Act.put];rw [aV hne];exact h.same t ht
section
variable (P:cE) (md:Region.Mode) (ops:Array cF) (Q:Exit->Act->bX->Prop) (S:bX->Prop) (G:bX->bX->Prop) (Post:Nat->bW->bX->Prop)
def Ox (i:Nat):Option Tmp:=(ops[i]?).bind (·.dst)
def Iu (i:Nat) (a:Act) (w:bX):Prop:=∃v,Post i v w/\∀s,Ox ops i=some s->a.tmps.getD s undef=v
def A3x (listed0:Array Bool) (i d:Nat):Bool:=((ops[i]?).map λ o=>o.after.toList.any λ e=>Region.binds md e&&e.on==d).getD false&& !listed0.getD d true
def A2x (listed0:Array Bool) (ds:List Nat) (n:Nat):Bool:=
  listed0.size==ops.size&&((List.range ops.size).all λ i=>((ops[i]?).map λ o=>o.after.all λ e=> !Region.binds md e||decide (e.on<i)).getD true)&&
  ((List.range ops.size).all λ i=>listed0.getD i true||(match Ox ops i with | none=>true | some s=>ds.contains s&&decide (s<n)&&(List.range ops.size).all λ j=>i==j||listed0.getD j true||Ox ops j !=some s))
def A1U (listed0:Array Bool) (ds:List Nat) (a0:Act) (w0:bX) (i:Nat):Prop:=
  ∀o,ops[i]?=some o->∀a w,Fr a0 a ds->G w0 w->S w->(∀d,A3x md ops listed0 i d=true->Iu ops Post d a w)->∀K:Act->bX->Prop,(∀v w',G w w'->Post i v w'->K (a.put o.dst v) w')->
    if Region.wanted o (yielded ops a.tmps)=true then cF.wp P o a w K Q else K (a.put o.dst undef) w
end
theorem P4 {l:Array Bool} {i:Nat} (h:l.getD i true=false):i<l.size:=by
  rcases Nat.lt_or_ge i l.size with h' | h'
  · exact h'
  · rw [aD,Array.getElem?_eq_none h'] at h
    cases h
theorem A0Q {l:Array Bool} {i:Nat} (h:i<l.size) (b c:Bool):l.getD i b=l.getD i c:=by
  rw [aD,aD,aW h]; rfl
theorem Jc {l:Array Bool} {i j:Nat} (b:Bool):(l.setIfInBounds i true).getD j b=if i=j/\i<l.size then true else l.getD j b:=by
  rw [aD,Array.getElem?_setIfInBounds,aD];by_cases h:i=j
  · subst h;by_cases h2:i<l.size
    · simp [h2]
    · simp [h2]
  · simp [h]
def O3 (n:Nat) (l:Array Bool):Nat:=((List.range n).filter λ i=> !l.getD i true).length
theorem A1y {n:Nat} {l:Array Bool} {i:Nat} (hi:l.getD i true=false) (hn:i<n):O3 n (l.setIfInBounds i true)<O3 n l:=by
  have hil:=P4 hi;unfold O3;rw [<-aX,<-aX];have key:∀L:List Nat,i∈L->L.countP (λ j=> !(l.setIfInBounds i true).getD j true)<L.countP (λ j=> !l.getD j true):=by
    have le:∀L:List Nat,L.countP (λ j=> !(l.setIfInBounds i true).getD j true)<=L.countP (λ j=> !l.getD j true):=λ L=>List.countP_mono_left (λ j _ h=>by
      rw [Jc] at h;split at h
      · simp at h
      · exact h)
    intro L hL;induction L with
    | nil=>simp at hL
    | cons x L ih=>
      rw [aY,aY];by_cases hx:i=x
      · subst hx;have h1:(!(l.setIfInBounds i true).getD i true)=false:=by rw [Jc,if_pos ⟨rfl,hil⟩]; rfl
        have h2:(!l.getD i true)=true:=by rw [hi]; rfl
        rw [h1,h2]
        have:=le L;rw [if_neg Bool.false_ne_true,if_pos rfl];omega
      · have h1:=ih ((List.mem_cons.1 hL).resolve_left hx);have h2:(l.setIfInBounds i true).getD x true=l.getD x true:=by rw [Jc,if_neg (λ h=>hx h.1)]
        rw [h2];omega
  exact key _ (List.mem_range.2 hn)
section
variable {P:cE} {md:Region.Mode} {ops:Array cF} {Q:Exit->Act->bX->Prop} {S:bX->Prop} {G:bX->bX->Prop} {Post:Nat->bW->bX->Prop}
theorem A1X (hr:∀w,G w w) (ht:∀a b c,G a b->G b c->G a c) (hS:∀w w',S w->G w w'->S w') (hst:∀i v w w',Post i v w->G w w'->Post i v w') {listed0:Array Bool} {ds:List Nat} {a0:Act} {w0:bX} (hok:A2x md ops listed0 ds a0.tmps.size=true) (hstep:∀i,i<ops.size->listed0.getD i true=false->A1U P md ops Q S G Post listed0 ds a0 w0 i) (hfin:∀a w,Fr a0 a ds->G w0 w->S w->(∀i,i<ops.size->listed0.getD i true=false->Iu ops Post i a w)->Q .normal a w) (hS0:S w0) {fuel:Nat} (hfuel:O3 ops.size listed0<=fuel): wpAnyH P md ops Q S fuel listed0 a0 w0:=by
  unfold A2x at hok;simp only [Bool.and_eq_true,beq_iff_eq,aZ,bA] at hok;obtain ⟨⟨hsz,hback⟩,hdst⟩:=hok;have hd1:∀i s,i<ops.size->listed0.getD i true=false->Ox ops i=some s->s∈ds/\s<a0.tmps.size/\∀j,j<ops.size->listed0.getD j true=false->i≠j->Ox ops j≠some s:=by
    intro i s hi hl hs;have h:=hdst i hi;rw [hl,hs] at h;simp only [Bool.false_or,Bool.and_eq_true,List.contains_iff_mem,decide_eq_true_eq,aZ,bA,Bool.or_eq_true,beq_iff_eq,bne_iff_ne] at h;refine ⟨h.1.1,h.1.2,λ j hj hjl hne hjs=>?_⟩;rcases h.2 j hj with (h' | h') | h'
    · exact hne h'
    · rw [hjl] at h'; cases h'
    · exact h' hjs
  suffices hh:∀(fuel:Nat) (listed:Array Bool) (a:Act) (w:bX),listed.size=ops.size->(∀i,listed0.getD i true=true->listed.getD i true=true)->O3 ops.size listed<=fuel->Fr a0 a ds->G w0 w->S w->
      (∀i,i<ops.size->listed0.getD i true=false->listed.getD i true=true->Iu ops Post i a w)->wpAnyH P md ops Q S fuel listed a w from
    hh fuel listed0 a0 w0 hsz (λ _ h=>h) hfuel (Fr.refl _ _) (hr _) hS0 (λ i _ h0 h1=>by rw [h0] at h1; cases h1)
  have allL:∀(listed:Array Bool),listed.size=ops.size->Region.ready md ops listed= []->∀j,j<ops.size->listed.getD j true=true:=by
    intro listed hl hr j;induction j using Nat.strongRecOn with
    | _ j ih=>
      intro hj
      cases hv:listed.getD j true with
      | true=>rfl
      | false=>
        exfalso
        have:j∈Region.ready md ops listed:=by
          refine mem_ready.2 ⟨hv,ops[j],by simp [hj],λ e he hbe=>?_⟩;have hb:=hback j hj;rw [aW hj] at hb;simp only [Option.map_some,Option.getD_some,Array.all_eq_true_iff_forall_mem] at hb;have hlt:=hb e he;rw [hbe] at hlt;simp only [Bool.not_true,Bool.false_or,decide_eq_true_eq] at hlt;rw [A0Q (by rw [hl]; omega) false true];exact ih e.on hlt (by omega)
        rw [hr] at this
        cases this
  intro fuel;induction fuel with
  | zero=>
    intro listed a w hl hsub hc hf hg hs hp;have hall:∀j,j<ops.size->listed.getD j true=true:=by
      intro j hj
      cases hv:listed.getD j true with
      | true=>rfl
      | false=>
        exfalso
        have:0<O3 ops.size listed:=by
          unfold O3;exact List.length_pos_of_mem (a:=j) (List.mem_filter.2 ⟨List.mem_range.2 hj,by rw [hv]; rfl⟩)
        omega
    refine ⟨?_,hfin a w hf hg hs (λ i hi h0=>hp i hi h0 (hall i hi))⟩;rw [List.eq_nil_iff_forall_not_mem];intro j hj;have h1:=(mem_ready.1 hj).1;have h2:=hall j (by rw [<-hl]; exact P4 h1);rw [h1] at h2
    cases h2
  | succ fuel ih=>
    intro listed a w hl hsub hc hf hg hs hp;refine ⟨λ hre=>hfin a w hf hg hs (λ i hi h0=>hp i hi h0 (allL listed hl hre i hi)),λ i hi=>?_⟩;obtain ⟨hiu,o,ho,hall⟩:=mem_ready.1 hi;have hin:i<ops.size:=by rw [<-hl]; exact P4 hiu
    have hi0:listed0.getD i true=false:=by
      cases hv:listed0.getD i true with
      | false=>rfl
      | true=>rw [hsub i hv] at hiu; cases hiu
    have hdo:Ox ops i=o.dst:=by unfold Ox; rw [ho]; rfl
    have hK:∀v w',G w w'->Post i v w'->S w'/\wpAnyH P md ops Q S fuel (listed.setIfInBounds i true) (a.put o.dst v) w':=by
      intro v w' hgw hpv;have hs':=hS _ _ hs hgw;refine ⟨hs',ih _ _ _ (by simp [hl]) (λ j hj=>?_) (by have:=A1y hiu hin; omega) (hf.put _ _ (λ s hs=>(hd1 i s hin hi0 (hdo.trans hs)).1)) (ht _ _ _ hg hgw) hs' (λ j hj hj0 hjl=>?_)⟩
      · rw [Jc];split
        · rfl
        · exact hsub j hj
      · by_cases hij:i=j
        · subst hij;refine ⟨v,hpv,λ s hs=>?_⟩;have h1:=(hd1 i s hin hi0 hs).2.1;rw [hdo] at hs;rw [hs];simp only [Act.put];rw [aD,Array.getElem?_setIfInBounds_self_of_lt (by rw [hf.size]; exact h1)];rfl
        · rw [Jc,if_neg (λ h=>hij h.1)] at hjl;obtain ⟨u,hu,hus⟩:=hp j hj hj0 hjl;refine ⟨u,hst _ _ _ _ hu hgw,λ s hs=>?_⟩;have h1:=hus s hs
          cases hod:o.dst with
          | none=>exact h1
          | some t=>
            have hne:t≠s:=λ e=>(hd1 i t hin hi0 (hdo.trans hod)).2.2 j hj hj0 hij (by rw [hs,e])
            simp only [Act.put];rw [aD,aV hne,<-aD];exact h1
    have hst1:=hstep i hin hi0 o ho a w hf hg hs (λ d hd=>by
      unfold A3x at hd;rw [ho] at hd;simp only [Option.map_some,Option.getD_some,Bool.and_eq_true,List.any_eq_true,beq_iff_eq,Bool.not_eq_true'] at hd;obtain ⟨⟨e,he,hb,rfl⟩,hd0⟩:=hd;have he:e∈o.after:=by simpa using he
      have hlt:e.on<ops.size:=by rw [<-hsz]; exact P4 hd0
      exact hp e.on hlt hd0 (by rw [<-A0Q (by rw [hl]; exact hlt) false true]; exact hall e he hb)) (λ a' w'=>S w'/\wpAnyH P md ops Q S fuel (listed.setIfInBounds i true) a' w') hK
    unfold wpOp;simp only [ho];split
    · rename_i hw;rw [if_pos hw] at hst1;exact .inl hst1
    · rename_i hw;rw [if_neg hw] at hst1;exact hst1
end
end
end Go.Proofs.YtbmjjfhpllpiaaaGreat
/-Contracts of der:Num,Raw,Seq; the law's alive. -/
namespace Go.Proofs.YtbmjjfhpllpiaaaGreat
open Go.RowKit
theorem L5 (n:Nat) (w:bX):bZ aB 110 #[.int .u64 n] w λ e w'=>e=.returned (.agg #[.int .i64 0,.int .i64 0,.int .u64 n,.slice none 0 0,.slice none 0 0])/\Below w.heap.size w w':=by
  go_enter Tryz.func110,Tryz.ntmps110;go_wp2_with fail;have hb:=Blk.new w [.int .i64 0,.int .i64 0,.int .u64 n,.slice none 0 0,.slice none 0 0] 249;exact bodyPost_ret (A2 rfl Aq rfl (cs:= [.int .i64 0,.int .i64 0,.int .u64 n,.slice none 0 0,.slice none 0 0]) rfl hb.cellsAll) rfl ⟨rfl,(aC _ _).alloc (aA _) _⟩
theorem L6 (t:Int) (lv:bW) (n c:Nat) (a:Option Addr) (hlv:lv=.slice a n c) (w:bX):bZ aB 109 #[.int .i64 t,lv] w λ e w'=>e=.returned (.agg #[.int .i64 2,.int .i64 t,.int .u64 0,.slice none 0 0,lv])/\Below w.heap.size w w':=by
  subst hlv;go_enter Tryz.func109,Tryz.ntmps109;go_wp2_with fail;have hb:=Blk.new w [.int .i64 2,.int .i64 t,.int .u64 0,.slice none 0 0,.slice a n c] 249;exact bodyPost_ret (A2 rfl Aq rfl (cs:= [.int .i64 2,.int .i64 t,.int .u64 0,.slice none 0 0,.slice a n c]) rfl hb.cellsAll) rfl ⟨rfl,(aC _ _).alloc (aA _) _⟩
end Go.Proofs.YtbmjjfhpllpiaaaGreat
namespace Go.Proofs.YtbmjjfhpllpiaaaGreat
open Go.RowKit
theorem Ob {P:cE} (w:bX) (t ty e:bY) (i:TypeInfo) (ht:P.underlying t=some (.slice e)) (hi:P.info? e=some i) (g o sLen sCap:Nat) (cur:Array bW) (hg:w.heap[g]?=some (.cells cur e (0,0))) (a:Addr) (m c:Nat) (news:List bW) (hl:news.length=m*i.size) (hnews:∀j u,news[j]?=some u->w.cell? (a.add j)=some u) (h1:∀u∈news,u.oneCell'=true) (hroom:sLen+m<=sCap) (hfit:o+sLen*i.size+news.length<=cur.size): (Builtin.append_ #[t,t] ty #[.slice (some ⟨g,o,none⟩) sLen sCap,.slice (some a) m c]).run P w= .ok (.slice (some ⟨g,o,none⟩) (sLen+m) sCap) (w.setRow g (cur.toList.take (o+sLen*i.size)++news++cur.toList.drop (o+sLen*i.size+news.length)).toArray):=by
  have hf:=run_firstCells_some (P:=P) w i.size m a m c news hl hnews;have hst:=run_storeCells_at P g (o+sLen*i.size) e news 0 cur w hg (by simpa using hfit) h1;simp only [bB] at hst;simp [Builtin.append_,run_underlying ht,sizeOf,typeInfo,hi,Builtin.lenOf,hroom,hf,Addr.add_lit,hst]
theorem Pd {P:cE} {w:bX} {t ty e:bY} {size bytes:Nat} {z:bW} (hE:C5 P t e size bytes z) {x:bW} {m:Nat} {ds:List bW} (hsl:Sl w size x m ds) (h63:m<=maxLen) (hbytes:m*bytes<=140737488355328): ∃v' w',(Builtin.append_ #[t,t] ty #[.slice none 0 0,x]).run P w=.ok v' w'/\Own w' w.heap.size e size v' m ds/\Ai (λ k=>w.heap.size<=k) w w'/\(∀b,v'.ownBlock=some b->w.heap.size<=b/\b<w'.heap.size):=by
  obtain ⟨ht,i,hi,hz,hsize,hby,hzs,hsz⟩:=hE;obtain ⟨hdl,hd1,a,c,rfl,hmc,hcm,hanone,hat⟩:=hsl;by_cases hm0:m=0
  · subst hm0;obtain rfl:ds= []:=aG (by rw [hdl,bC]);have hfc:(Builtin.firstCells size 0 (.slice a 0 c)).run P w=.ok #[] w:=by
      cases a <;> simp [Builtin.firstCells,loadCells,loadCellsFrom]
    refine ⟨.slice none 0 0,w,?_,Own.nil _ _ _ _ _,Ai.refl _ _,by simp [bW.ownBlock]⟩;simp [Builtin.append_,run_underlying ht,sizeOf,typeInfo,hi,Builtin.lenOf,hsize,hfc,storeCells]
  · have hdpos:0<ds.length:=by rw [hdl]; exact bD (by omega) hsz
    obtain ⟨b,off,rfl,hcell⟩:∃b off,a=some ⟨b,off,none⟩/\∀j u,ds[j]?=some u->w.cell? ⟨b,off+j,none⟩=some u:=by
      rcases hat with h | h
      · subst h; simp at hdpos
      · exact h
    have hnews:∀j u,ds[j]?=some u->w.cell? ((⟨b,off,none⟩:Addr).add j)=some u:=λ j u hj=>by rw [Addr.add_lit]; exact hcell j u hj
    obtain ⟨v',w',hr,h1,h2,_⟩:=run_append_own (P:=P) w w.heap.size t ty e i z size bytes ht hi hz hsize hby hzs hsz (.slice none 0 0) 0 [] (bX.ownsRow_nil w _ e size) ⟨b,off,none⟩ m c ds hdl hnews hd1 (by omega) (by rw [aP]; exact hbytes) (aA _);have h1':w'.ownsRow w.heap.size e size v' m ds:=by simpa using h1
    exact ⟨v',w',hr,Own.of_row h1' hd1,(Ai.refl _ _).grown h2 (λ k hk=>hk) (λ k hk=>by cases hk),λ b hb=>h1'.lt b hb⟩
theorem Vh {P:cE} {ops:Array cF} {o:cF} {a:Act} {w:bX} {K:Act->bX->Prop} {Q:Exit->Act->bX->Prop} {E:Prop} (hgd:o.guard=none) (s x:Operand) {t e:bY} {size bytes:Nat} {z:bW} (hE:C5 P t e size bytes z) (ho:o.op=.call { callee:=.builtin .append,args:=#[s,x],argTypes:=#[t,t] }) (hv:a.eval s=.slice none 0 0) {u:bW} (hu:a.eval x=u) {m:Nat} {ds:List bW} (hsl:Sl w size u m ds) (h63:m<=maxLen) (hbytes:m*bytes<=140737488355328) (h:∀v' w',Own w' w.heap.size e size v' m ds->Ai (λ k=>w.heap.size<=k) w w'->(∀b,v'.ownBlock=some b->w.heap.size<=b/\b<w'.heap.size)->K (a.put o.dst v') w'): if Region.wanted o (yielded ops a.tmps)=true then cF.wp P o a w K Q else E:=by
  have hw:Region.wanted o (yielded ops a.tmps)=true:=by simp [Region.wanted,hgd]
  rw [if_pos hw];obtain ⟨v',w',hr,h2,h3,h4⟩:=Pd (P:=P) (ty:=o.type) hE hsl h63 hbytes;unfold cF.wp execOp;simp only [ho,resolve,invoke,builtin,Sem.run_bind,Sem.run_pure,Result.andThen_ok,bE,aH,bF,hv,hu,hr];exact h v' w' h2 h3 h4
theorem A4d {P:cE} {ops:Array cF} {o:cF} {a:Act} {w:bX} {K:Act->bX->Prop} {Q:Exit->Act->bX->Prop} {E:Prop} (hgd:o.guard=none) (d s:Operand) {dT sT e:bY} {bytes:Nat} {z:bW} (hE:C5 P dT e 1 bytes z) (ho:o.op=.call { callee:=.builtin .copy,args:=#[d,s],argTypes:=#[dT,sT] }) {g off dLen dCap:Nat} {cur:List bW} {T:bY} (hb:Blk w g cur T) (hd:a.eval d=.slice (some ⟨g,off,none⟩) dLen dCap) {u:bW} (hu:a.eval s=u) {n:Nat} {cs:List bW} (hsl:Sl w 1 u n cs) (hfit:off+min n dLen<=cur.length) (h:∀w',Blk w' g (cur.take off++cs.take (min n dLen)++cur.drop (off+min n dLen)) T->Ai (λ k=>k=g) w w'->K (a.put o.dst (.int .i64 (min n dLen:Nat))) w'): if Region.wanted o (yielded ops a.tmps)=true then cF.wp P o a w K Q else E:=by
  have hw:Region.wanted o (yielded ops a.tmps)=true:=by simp [Region.wanted,hgd]
  rw [if_pos hw];obtain ⟨w',hr,h2,h3⟩:=A2W (P:=P) (sT:=sT) (ty:=o.type) hE hb (dLen:=dLen) (dCap:=dCap) hsl hfit;unfold cF.wp execOp;simp only [ho,resolve,invoke,builtin,Sem.run_bind,Sem.run_pure,Result.andThen_ok,bE,aH,bF,hd,hu,hr];exact h w' h2 h3
def Gv (w:bX) (B:Nat) (e:bY) (sz:Nat) (v:bW) (n:Nat) (cs:List bW):Prop:=
  cs.length=n*sz/\(∀u∈cs,u.oneCell'=true)/\
  ((∃a,v=.slice a 0 0/\n=0)\/
   ∃g o cap cur,v=.slice (some ⟨g,o,none⟩) n cap/\B<=g/\w.heap[g]?=some (.cells cur e (0,0))/\n<=cap/\cap<=maxLen/\cur.size=o+cap*sz/\(cur.toList.drop o).take (n*sz)=cs)
theorem Gv.of_own {w:bX} {B:Nat} {e:bY} {sz:Nat} {v:bW} {n:Nat} {cs:List bW} (h:Own w B e sz v n cs):Gv w B e sz v n cs:=by
  obtain ⟨h0,h1,h2 | ⟨g,cap,cur,hv,h2,h3,h4,h5,h6,h7⟩⟩:=h
  · exact ⟨h0,h1,.inl h2⟩
  · exact ⟨h0,h1,.inr ⟨g,0,cap,cur,hv,h2,h3,h4,h5,by omega,by simpa using h7⟩⟩
theorem Gv.sl {w:bX} {B:Nat} {e:bY} {sz:Nat} {v:bW} {n:Nat} {cs:List bW} (h:Gv w B e sz v n cs):Sl w sz v n cs:=by
  obtain ⟨h0,h1,⟨a,rfl,rfl⟩ | ⟨g,o,cap,cur,rfl,h2,h3,h4,h5,h6,h7⟩⟩:=h
  · exact ⟨h0,h1,a,0,rfl,aA _,aQ _,λ _=>rfl,.inl (aG (by simpa using h0))⟩
  · refine ⟨h0,h1,_,cap,rfl,h4,h5,λ h=>by simp at h,.inr ⟨g,o,rfl,λ j u hj=>?_⟩⟩;have hjl:j<n*sz:=by have:=(List.getElem?_eq_some_iff.1 hj).1; omega
    rw [<-h7,aR,if_pos hjl,bG] at hj;rw [cell_of_row w g (o+j) cur e (0,0) h3,<-aS];exact hj
theorem Gv.base {w:bX} {B B':Nat} {e:bY} {sz:Nat} {v:bW} {n:Nat} {cs:List bW} (h:Gv w B e sz v n cs) (hB:B'<=B):Gv w B' e sz v n cs:=by
  obtain ⟨h0,h1,h2 | ⟨g,o,cap,cur,hv,h2,hr⟩⟩:=h
  · exact ⟨h0,h1,.inl h2⟩
  · exact ⟨h0,h1,.inr ⟨g,o,cap,cur,hv,by omega,hr⟩⟩
theorem Gv.keep {w w':bX} {B:Nat} {e:bY} {sz:Nat} {v:bW} {n:Nat} {cs:List bW} {S:Nat->Prop} (h:Gv w B e sz v n cs) (hk:Ai S w w') (hb:∀b,v.ownBlock=some b->¬S b):Gv w' B e sz v n cs:=by
  obtain ⟨h0,h1,h2 | ⟨g,o,cap,cur,rfl,h2,h3,hr⟩⟩:=h
  · exact ⟨h0,h1,.inl h2⟩
  · exact ⟨h0,h1,.inr ⟨g,o,cap,cur,rfl,h2,(hk.block g (hb g rfl)).trans h3,hr⟩⟩
theorem Gv.form {w:bX} {B:Nat} {e:bY} {sz:Nat} {v:bW} {n:Nat} {cs:List bW} (h:Gv w B e sz v n cs) (hn:0<n):∃g o cap,v=.slice (some ⟨g,o,none⟩) n cap/\B<=g/\n<=cap/\cap<=maxLen/\g<w.heap.size:=by
  obtain ⟨h0,h1,⟨a,rfl,rfl⟩ | ⟨g,o,cap,cur,rfl,h2,h3,h4,h5,h6,h7⟩⟩:=h
  · omega
  · exact ⟨g,o,cap,rfl,h2,h4,h5,Gh h3⟩
def cutZ (g o cap i sz:Nat):Option Addr:=if cap=i then some ⟨g,o,none⟩ else some ⟨g,o+i*sz,none⟩
theorem Wi (g o cap i sz n c:Nat):(bW.slice (cutZ g o cap i sz) n c).ownBlock=some g:=by
  unfold cutZ;split <;> rfl
theorem Gv.cut {w:bX} {B:Nat} {e:bY} {sz g o n cap:Nat} {cs:List bW} (h:Gv w B e sz (.slice (some ⟨g,o,none⟩) n cap) n cs) (k:Nat) (hk:k<=n): Gv w B e sz (.slice (cutZ g o cap k sz) (n-k) (cap-k)) (n-k) (cs.drop (k*sz)):=by
  obtain ⟨h0,h1,⟨a,hv,rfl⟩ | ⟨g',o',cap',cur,hv,h2,h3,h4,h5,h6,h7⟩⟩:=h
  · simp only [bW.slice.injEq] at hv;obtain ⟨rfl,_,rfl⟩:=hv;exact ⟨by simp [h0,aF],λ u hu=>h1 u (bH hu),.inl ⟨_,by rw [Nat.zero_sub],by omega⟩⟩
  · simp only [bW.slice.injEq,Option.some.injEq,Addr.mk.injEq,and_true,true_and] at hv;obtain ⟨⟨rfl,rfl⟩,rfl⟩:=hv;refine ⟨by simp [h0,aF],λ u hu=>h1 u (bH hu),?_⟩;unfold cutZ;by_cases hc:cap=k
    · subst hc;exact .inl ⟨_,by rw [if_pos rfl,Nat.sub_self,show n-cap=0 by omega],by omega⟩
    · have hm:k*sz<=n*sz:=aI _ hk;have hm2:n*sz<=cap*sz:=aI _ h4;refine .inr ⟨g,o+k*sz,cap-k,cur,by rw [if_neg hc],h2,h3,by omega,by omega,by rw [aF]; omega,?_⟩;rw [<-h7,bI,List.drop_drop,aF]
theorem Rt {P:cE} {t e:bY} {sz:Nat} (ht:P.underlying t=some (.slice e)) (hs:∀w,(sizeOf e).run P w=.ok sz w) (g o n cap i:Nat) (hi:i<=n) (hc:n<=cap) (W:bX): (Instr.sliceAt t (.slice (some ⟨g,o,none⟩) n cap) (some (.int .i64 i)) none none).run P W=.ok (.slice (cutZ g o cap i sz) (n-i) (cap-i)) W:=by
  have h2:¬((i:Int)<0):=by omega
  have h3:¬(n<i):=by omega
  by_cases h:cap=i
  · subst h;simp [Instr.sliceAt,Instr.slice,Instr.sliceBounds,Instr.sliceBound,run_underlying ht,asIntOf,hs,h2,h3,hi,cutZ]
  · have h5:¬cap-i=0:=by omega
    have h6:¬cap<=i:=by omega
    simp [Instr.sliceAt,Instr.slice,Instr.sliceBounds,Instr.sliceBound,run_underlying ht,asIntOf,hs,h2,h3,hi,cutZ,h,h5,h6,Addr.add_lit]
theorem Xw {P:cE} {w:bX} {t ty e:bY} {size bytes:Nat} {z:bW} (hE:C5 P t e size bytes z) {B:Nat} {v:bW} {n:Nat} {cs:List bW} (hown:Gv w B e size v n cs) {x:bW} {m:Nat} {ds:List bW} (hsl:Sl w size x m ds) (hm0:0<m) (h63:n+m<=maxLen) (hbytes:(n+m)*bytes<=140737488355328) (hbase:B<=w.heap.size): ∃v' w',(Builtin.append_ #[t,t] ty #[v,x]).run P w=.ok v' w'/\Gv w' B e size v' (n+m) (cs++ds)/\Ai (λ k=>v.ownBlock=some k/\B<=k\/w.heap.size<=k) w w'/\(∀b,v'.ownBlock=some b->(v.ownBlock=some b\/w.heap.size<=b)/\b<w'.heap.size):=by
  suffices hh:∃v' w',(Builtin.append_ #[t,t] ty #[v,x]).run P w=.ok v' w'/\Gv w' B e size v' (n+m) (cs++ds)/\Ai (λ k=>v.ownBlock=some k/\B<=k\/w.heap.size<=k) w w'/\(∀b,v'.ownBlock=some b->v.ownBlock=some b\/w.heap.size<=b) by
    obtain ⟨v',w',h1,h2,h3,h4⟩:=hh;refine ⟨v',w',h1,h2,h3,λ b hb=>⟨h4 b hb,?_⟩⟩;obtain ⟨g,o,cap,rfl,_,_,_,hl⟩:=h2.form (by omega);simp [bW.ownBlock] at hb;omega
  have hE':=hE;obtain ⟨ht,i,hi,hz,hsize,hby,hzs,hsz⟩:=hE;obtain ⟨hcl,hc1,⟨a0,rfl,rfl⟩ | ⟨g,o,cap,cur,rfl,hbg,hg,hnc,hcm',hcs,htake⟩⟩:=hown
  · obtain rfl:cs= []:=aG (by simpa using hcl);obtain ⟨v',w',h1,h2,h3,h4⟩:=P9 (ty:=ty) hE' (Own.nil w B e size a0) hsl h63 hbytes hbase;exact ⟨v',w',h1,Gv.of_own h2,h3,h4⟩
  · obtain ⟨hdl,hd1,a,c,rfl,hmc,hcm,hanone,hat⟩:=hsl;have hall:∀u∈cs++ds,u.oneCell'=true:=by
      intro u hu;rcases List.mem_append.1 hu with h | h
      · exact hc1 u h
      · exact hd1 u h
    have hdp:0<ds.length:=by rw [hdl]; exact bD hm0 hsz
    obtain ⟨b,off,rfl,hcell⟩:∃b off,a=some ⟨b,off,none⟩/\∀j u,ds[j]?=some u->w.cell? ⟨b,off+j,none⟩=some u:=by
      rcases hat with h | h
      · subst h; simp at hdp
      · exact h
    have hnews:∀j u,ds[j]?=some u->w.cell? ((⟨b,off,none⟩:Addr).add j)=some u:=λ j u hj=>by rw [Addr.add_lit]; exact hcell j u hj
    by_cases hroom:n+m<=cap
    · have hmul:(n+m)*size<=cap*size:=aI _ hroom;rw [aE] at hmul;have hr:=Ob (P:=P) (ty:=ty) w t e i ht hi g o n cap cur hg ⟨b,off,none⟩ m c ds (by rw [hsize]; exact hdl) hnews hd1 hroom (by rw [hsize]; omega);rw [hsize] at hr;refine ⟨_,_,hr,⟨by simp [hcl,hdl,aE],hall,.inr ⟨g,o,cap,_,rfl,hbg,setRow_heap w g cur _ e _ hg,by omega,hcm',?_,?_⟩⟩,(Ai.refl _ _).setRow (.inl ⟨rfl,hbg⟩) _,λ b h=>.inl h⟩
      · simp only [List.size_toArray,List.length_append,List.length_take,bJ,Array.length_toList];omega
      · have e1:(cur.toList.take (o+n*size)).drop o=cs:=by
          rw [<-htake,bI,show o+n*size-o=n*size by omega]
        have e2:o<=(cur.toList.take (o+n*size)).length:=by simp; omega
        simp only [bK];rw [bL e2,e1,<-bK,bM (by simp [hcl,hdl,aE]),aT (by simp [hcl,hdl,aE])]
    · have holds:∀j u,cs[j]?=some u->w.cell? ((⟨g,o,none⟩:Addr).add j)=some u:=by
        intro j u hj;have hjl:j<n*size:=by have:=(List.getElem?_eq_some_iff.1 hj).1; omega
        rw [<-htake,aR,if_pos hjl,bG] at hj;rw [Addr.add_lit,cell_of_row w g (o+j) cur e (0,0) hg,<-aS];exact hj
      obtain ⟨v',w',hr,h1,h2⟩:=run_append_arg_grows (P:=P) w t ty e i z size bytes ht hi hz hsize hby hzs hsz ⟨g,o,none⟩ n cap cs hcl holds ⟨b,off,none⟩ m c ds hdl hnews (by omega) h63 hbytes;exact ⟨v',w',hr,Gv.of_own ((Own.of_row h1 hall).base hbase),(Ai.refl _ _).grown h2 (λ k hk=>Or.inr hk) (by simp),λ b hb=>.inr (h1.lt b hb).1⟩
def Res.ownZ (e:bY) (sz:Nat) (v:bW) (n:Nat) (cs:List bW):Res where
  holds W F:=Gv W 0 e sz v n cs/\(∀b,v.ownBlock=some b->b<W.heap.size)/\∀b,F b↔v.ownBlock=some b
  frame:=by
    rintro W W' F S ⟨h,hl,hf⟩ hk hs;exact ⟨h.keep hk (λ b hb=>hs b ((hf b).2 hb)),λ b hb=>Nat.lt_of_lt_of_le (hl b hb) hk.size,hf⟩
  lt:=by
    rintro W F b ⟨h,hl,hf⟩ hb;exact hl b ((hf b).1 hb)
theorem Ac.ownZOf {W:bX} {l:List Res} (h:Ac W l) {e:bY} {sz n:Nat} {v:bW} {cs:List bW} (hm:Res.ownZ e sz v n cs∈l):Gv W 0 e sz v n cs:=by
  obtain ⟨F,hr⟩:=h.get hm;exact hr.1
theorem Ac.ownToZ {W:bX} {e:bY} {sz n:Nat} {v:bW} {cs:List bW} {l:List Res} (h:Ac W (.own e sz v n cs::l)):Ac W (.ownZ e sz v n cs::l):=
  h.weaken λ F hF=>⟨F,⟨Gv.of_own hF.1,hF.2⟩,λ _ h=>h⟩
theorem Ac.appendZ {W W':bX} {l:List Res} {e:bY} {sz n:Nat} {v:bW} {cs:List bW} (h:Ac W (.ownZ e sz v n cs::l)) {v':bW} {n':Nat} {cs':List bW} {B:Nat} (hr:Gv W' B e sz v' n' cs') (hk:Ai (λ k=>v.ownBlock=some k/\B<=k\/W.heap.size<=k) W W') (hv:∀b,v'.ownBlock=some b->(v.ownBlock=some b\/W.heap.size<=b)/\b<W'.heap.size):Ac W' (.ownZ e sz v' n' cs'::l):=by
  refine h.turn λ F hF=>⟨λ k=>v'.ownBlock=some k,⟨hr.base (aQ _),λ b hb=>(hv b hb).2,λ _=>Iff.rfl⟩,λ b hb=>?_,hk.mono λ k hk=>?_⟩
  · rcases (hv b hb).1 with h | h
    · exact .inl ((hF.2.2 b).2 h)
    · exact .inr h
  · rcases hk with h | h
    · exact .inl ((hF.2.2 k).2 h.1)
    · exact .inr h
theorem Ac.cutZ {W:bX} {l:List Res} {e:bY} {sz g o n cap:Nat} {cs:List bW} (h:Ac W (.ownZ e sz (.slice (some ⟨g,o,none⟩) n cap) n cs::l)) (k:Nat) (hk:k<=n): Ac W (.ownZ e sz (.slice (cutZ g o cap k sz) (n-k) (cap-k)) (n-k) (cs.drop (k*sz))::l):=
  h.weaken λ F hF=>⟨F,⟨hF.1.cut k hk,λ b hb=>hF.2.1 b (by rw [Wi] at hb; simpa [bW.ownBlock] using hb),λ b=>by rw [Wi]; simpa [bW.ownBlock] using hF.2.2 b⟩,λ _ h=>h⟩
theorem Sl.tailZ {w:bX} {sz b o n cap:Nat} {cs:List bW} (h:Sl w sz (.slice (some ⟨b,o,none⟩) n cap) n cs) (i:Nat) (hi:i<=n): Sl w sz (.slice (cutZ b o cap i sz) (n-i) (cap-i)) (n-i) (cs.drop (i*sz)):=by
  obtain ⟨a,c,e,h3,h4⟩:=h.form;have hl:=h.1;simp only [bW.slice.injEq,true_and] at e;obtain ⟨rfl,rfl⟩:=e;unfold cutZ;split
  · rename_i hc;have hn:n-i=0:=by omega
    rw [hn,show cap-i=0 by omega,bN (by rw [hl]; exact aI _ (by omega))];exact Sl.nil _ _ _
  · have:=h.sub i (n-i) (cap-i) (by omega) (by omega) (by omega);rw [aT (by rw [bJ,hl,aF]; exact aA _)] at this;exact this
theorem A0w {P:cE} {ops:Array cF} {rest:List cF} {o:cF} {a:Act} {w:bX} {Q:Exit->Act->bX->Prop} (hgd:Region.wanted o (yielded ops a.tmps)=true) {v:bW} (hr:(execOp a.eval o).run P w=.ok (.value v) w) (h:wpList P ops Q rest (a.put o.dst v) w):wpList P ops Q (o::rest) a w:=by
  refine By hgd λ K hK=>?_
  unfold cF.wp;rw [hr];exact hK _ _ h
theorem Wt {P:cE} {o:cF} {a:Act} {W:bX} {t:bY} {x:Operand} {lo hi mx:Option Operand} (ho:o.op=.slice t x lo hi mx) {v:bW} (hr:(Instr.sliceAt t (a.eval x) (lo.map a.eval) (hi.map a.eval) (mx.map a.eval)).run P W=.ok v W): (execOp a.eval o).run P W=.ok (.value v) W:=by
  unfold execOp;simp only [ho,Sem.run_bind,Sem.run_pure,hr,Result.andThen_ok]
theorem A5J:∀w,(sizeOf 249).run aB w=.ok 5 w:=by
  intro w;obtain ⟨_,i,hi,_,hs,_⟩:=Gi;simp [sizeOf,typeInfo,hi,hs]
def Tk (w:bX) (F:Nat->Prop) (p:Nat) (rem:List Tv) (bad:Bool):Prop:=
  ∃lv rows,Blk w p [lv,.bool bad] 315/\Sl w 5 lv rem.length rows/\(0<rem.length->∀x,lv.ownBlock=some x->F x)/\C6 w F rem rows/\¬F p
theorem Tk.lt {w:bX} {F:Nat->Prop} {p:Nat} {rem:List Tv} {bad:Bool} (h:Tk w F p rem bad):p<w.heap.size:=by
  obtain ⟨lv,rows,h1,_⟩:=h;exact h1.lt
theorem Tk.below {w w':bX} {F:Nat->Prop} {p:Nat} {rem:List Tv} {bad:Bool} (h:Tk w F p rem bad) (hb:Below w.heap.size w w'):Tk w' F p rem bad:=by
  obtain ⟨lv,rows,h1,h2,h3,h4,h5⟩:=h;exact ⟨lv,rows,h1.below hb h1.lt,h2.below hb,h3,h4.below hb,h5⟩
theorem Tk.keep {w w':bX} {F S:Nat->Prop} {p:Nat} {rem:List Tv} {bad:Bool} (h:Tk w F p rem bad) (hk:Ai S w w') (hs:∀b,F b->b<w.heap.size->¬S b) (hp:¬S p):Tk w' F p rem bad:=by
  obtain ⟨lv,rows,h1,h2,h3,h4,h5⟩:=h;exact ⟨lv,rows,h1.keep hk hp,h2.keepF hk h3 hs,h3,h4.keep hk hs,h5⟩
def Ch (k:Int) (rem:List Tv) (bad:Bool):Tv×List Tv×Bool:=
  match rem with
  | []=>(.zero, [],true)
  | x::r=>if x.kind=k/\x.tag=0 then (x,r,bad) else (.zero, [],true)
def A5p (w:bX) (F:Nat->Prop) (p:Nat) (r:Tv×List Tv×Bool) (e:Ending) (w':bX):Prop:=
  ∃cs,e=.returned (.agg cs.toArray)/\TvF w' F r.1 cs/\Tk w' F p r.2.1 r.2.2/\Ai (λ b=>b=p\/w.heap.size<=b) w w'
theorem No (x:Tv) (F:Nat->Prop) (cs:List bW) (w:bX) (h:TvF w F x cs) (hF:∀b,F b->b<w.heap.size): bZ aB 138 #[.agg cs.toArray] w λ e w'=>∃p,e=.returned (.pointer (some ⟨p,0,none⟩))/\Tk w' F p x.l false/\Below w.heap.size w w'/\w.heap.size<=p:=by
  obtain ⟨bv,lv,rows,rfl,h1,h2,h3,h4,h5⟩:=h.open_;obtain ⟨a,c,rfl,hc,hm⟩:=h3.form;obtain ⟨a1,c1,rfl,hc1,hm1⟩:=h1.form;have H3:=hqZ h3;have H4:=hqZ h4;have H5:=hqZ h5;clear h h1 h2 h3 h4 h5;go_enter Tryz.func138,Tryz.ntmps138;go_wp2_with fail;go_ret;have hb:Below w.heap.size w ((w.alloc (.cells [.int .i64 x.kind,.int .i64 x.tag,.int .u64 (x.n:Int),.slice a1 x.b.length c1,.slice a x.l.length c].toArray 249)).alloc (.cells [.slice a x.l.length c,.bool false].toArray 315)):=
    ((aC _ _).alloc (aA _) _).alloc (by simp) _
  refine ⟨w.heap.size+1,rfl,⟨_,rows,Blk.at_ (by simp),H3.o.below hb,H4.o,H5.o.below hb,λ h=>?_⟩,hb,by omega⟩
  have:=hF _ h;omega
theorem M8 (k:Int) (rem:List Tv) (bad:Bool) (p:Nat) (F:Nat->Prop) (w:bX) (h:Tk w F p rem bad): bZ aB 151 #[.pointer (some ⟨p,0,none⟩),.int .i64 k] w (A5p w F p (Ch k rem bad)):=by
  obtain ⟨lv,rows,h1,h2,h3,h4,h5⟩:=h;obtain ⟨a,cap,rfl,hcap,hm⟩:=h2.form;unfold maxLen at hm;have hpl:=h1.lt;obtain ⟨W0,hW0⟩:∃W0,W0=w.alloc (.cells zs5.toArray 249):=⟨_,rfl⟩
  obtain ⟨q,hq⟩:∃q,q=w.heap.size:=⟨_,rfl⟩
  have hn0:Blk W0 q zs5 249:=by rw [hW0,hq]; exact Blk.new _ _ _
  have HQS:=hqZ hq;have hqp:q≠p:=by omega
  have HPQ:Hq (p≠q):=hqZ (by omega);have hend:∀W:bX,Ai (λ b=>b=p\/w.heap.size<=b) w W->Blk W p [.slice none 0 0,.bool true] 315->Tk W F p [] true:=
    λ W hk hb=>⟨_, [],hb,Sl.nil _ _ _,by simp,rfl,h5⟩
  have HEND:=hqZ hend;have HK0:Hq (Ai (λ b=>b=p\/w.heap.size<=b) w W0):=hqZ (by rw [hW0]; exact (Ai.refl _ _).alloc _ (.inr (aA _)));have hB0:Below w.heap.size w W0:=by rw [hW0]; exact (aC _ _).alloc (aA _) _
  replace h1:=h1.below hB0 hpl;have c0:=h1.cell 0;have f0:=h1.frozen 0;have f1:=h1.frozen 1;have c1:W0.cell? ⟨p,1,none⟩=some (.bool bad):=h1.cell 1;simp only [bO] at c0;have H2:=hqZ (h2.below hB0);have H3:=hqZ h3;have H4:=hqZ h4;have H2w:=hqZ h2;have H5:=hqZ h5;clear hend h3 h5 h4 h2
  cases rem with
  | nil=>
    have HR:Hq (Ch k [] bad=(.zero, [],true)):=hqZ rfl;simp only [List.length_nil] at*;obtain ⟨W2,hW2⟩:∃W2,W2=(W0.setCell ⟨p,1,none⟩ (.bool true)).setCell ⟨p,0,none⟩ (.slice none 0 0):=⟨_,rfl⟩
    have HP2:Hq (Blk W2 p [.slice none 0 0,.bool true] 315):=hqZ (by rw [hW2]; exact (h1.set 1 (.bool true)).set 0 (.slice none 0 0));have HQ2:Hq (Blk W2 q zs5 249):=hqZ (by rw [hW2]; exact (hn0.set_other (p:=⟨p,1,none⟩) hqp _).set_other (p:=⟨p,0,none⟩) hqp _);have HK2:Hq (Ai (λ b=>b=p\/w.heap.size<=b) w W2):=hqZ (by rw [hW2]; exact (HK0.o.setCell (p:=⟨p,1,none⟩) (.inl rfl) _).setCell (p:=⟨p,0,none⟩) (.inl rfl) _);clear h1 hn0;go_enter aJ,aK;go_upto_region 1 with fail;show Code.wp _ _ _ _ (w.alloc (.cells zs5.toArray 249))
    rw [<-hW0,<-hq];clear hW0 hq;go_upto_region 3 with fail;show Code.wp _ _ _ _ ((W0.setCell ⟨p,1,none⟩ (.bool true)).setCell ⟨p,0,none⟩ (.slice none 0 0))
    rw [<-hW2];clear hW2;go_wp2_with ((with_reducible refine zws 4 39 ?_);refine Af rfl (.tmp 4) (.tmp 39) Aq rfl rfl (vs:=zs5) rfl rfl HQ2.o (aA _) (by intro u hu; simp [zs5] at hu; rcases hu with rfl | rfl | rfl <;> rfl) ?_);intro w3 h3 k3;have H3':Hq (Blk w3 q zs5 249):=hqZ (by simpa [zs5] using h3);have HK3:Hq (Ai (λ b=>b=p\/w.heap.size<=b) w w3):=hqZ (HK2.o.trans (k3.mono (λ b hb=>.inr (by rw [hb,HQS.o]; exact aA _))));have HP3:=hqZ (HP2.o.keep k3 HPQ.o);clear h3 k3;go_wp2_with fail;rw [HR.o];exact bodyPost_ret (A2 rfl Aq rfl (cs:=zs5) rfl H3'.o.cellsAll) rfl ⟨_,rfl,TvF.zero _ _,HEND.o w3 HK3.o HP3.o,HK3.o⟩
  | cons x r=>
    obtain ⟨r0,rs,e,hx,hr⟩:=H4.o;subst e;have hlen:((x::r).length:Int)=(r.length:Int)+1:=by simp
    have hln:(x::r).length=r.length+1:=rfl;obtain ⟨bv,lv2,rows2,e,hb1,hb2,hb3,hb4,hb5⟩:=hx.open_;obtain ⟨b,off,rfl,hc⟩:=H2.o.addr (by rw [H2.o.1,hln]; omega);have cK:=hc 0 (.int .i64 x.kind) (by simp [e]);have cT:=hc 1 (.int .i64 x.tag) (by simp [e]);have hC5:Al W0 b off r0:=λ j u hj=>hc j u (by rw [bP (List.getElem?_eq_some_iff.1 hj).1]; exact hj)
    have HC5:=hqZ hC5;have HL5:=hqZ hx.length;have HX:=hqZ hx;have HRS:=hqZ hr;have HB3:=hqZ (H3.o (by simp) b rfl);simp only [bB] at cK;have hlz:((((x::r).length:Nat):Int)==0)=false:=by simp; omega
    have hlp:0< (x::r).length:=by simp
    clear hc hC5 hx hr e hb1 hb2 hb3 hb4 hb5;by_cases hk:x.kind=k
    · by_cases ht:x.tag=0
      · have HR:Hq (Ch k (x::r) bad=(x,r,bad)):=hqZ (by unfold Ch; exact if_pos ⟨hk,ht⟩);rw [hk] at cK;rw [ht] at cT;obtain ⟨q1,hq1⟩:∃q1,q1=W0.heap.size:=⟨_,rfl⟩
        have HG:Hq (Blk (W0.alloc (.cells zs5.toArray 249)) W0.heap.size zs5 249):=hqZ (Blk.new _ _ _);have HK1:Hq (Ai (λ b=>b=p\/w.heap.size<=b) w (W0.alloc (.cells zs5.toArray 249))):=hqZ (HK0.o.alloc _ (.inr hB0.size));have HP1:Hq (Blk (W0.alloc (.cells zs5.toArray 249)) p [.slice (some ⟨b,off,none⟩) (x::r).length cap,.bool bad] 315):=hqZ (h1.alloc _);have HQ1:Hq (Blk (W0.alloc (.cells zs5.toArray 249)) q zs5 249):=hqZ (hn0.alloc _);have hqlt:=hn0.lt;have HNE:Hq (p≠W0.heap.size/\q≠W0.heap.size/\w.heap.size<=W0.heap.size):=hqZ ⟨by have:=h1.lt; omega,by omega,hB0.size⟩;have HON:=hqZ HX.o.one;have HSL:Hq (∀W,(Instr.sliceAt 247 (.slice (some ⟨b,off,none⟩) (r.length+1) cap) (some (.int .i64 1)) none none).run aB W=.ok (.slice (cutZ b off cap 1 5) r.length (cap-1)) W):=hqZ (λ W=>Rt Tryz.underlying247 A5J b off (r.length+1) cap 1 (by omega) (by simpa using hcap) W);have HSR:Hq (Sl w 5 (.slice (cutZ b off cap 1 5) r.length (cap-1)) r.length rs):=hqZ (by
          have h:=H2w.o.tailZ 1 (by simp);rw [Nat.one_mul,bL (by rw [HL5.o]; exact aA _),bN (by rw [HL5.o]; exact aA _),List.nil_append] at h;exact h)
        have hFR:0<r.length->∀y,(bW.slice (cutZ b off cap 1 5) r.length (cap-1)).ownBlock=some y->F y:=λ _ y hy=>by
          have:b=y:=by
            unfold cutZ at hy;split at hy <;> simpa [bW.ownBlock] using hy
          rw [<-this]; exact HB3.o
        have HFR:=hqZ hFR;have hBF:F b:=HB3.o;have hbp:b≠p:=λ e=>H5.o (by rw [<-e]; exact hBF)
        rw [show (x::r).length=r.length+1 from rfl] at c0;clear hcap hn0 h1 hlz hlen hln hFR hlp hqlt;go_enter aJ,aK;go_upto_region 1 with fail;show Code.wp _ _ _ _ (w.alloc (.cells zs5.toArray 249))
        rw [<-hW0,<-hq];clear hW0 hq;go_wp2_with (first | ((with_reducible refine zw 45 ?_);refine Ag rfl (.tmp 44) Aq rfl rfl (cs:=r0) HL5.o HC5.o ?_) | ((with_reducible refine zws 5 45 ?_);refine Af rfl (.tmp 5) (.tmp 45) Aq rfl rfl (vs:=r0) rfl HL5.o HG.o (aA _) HON.o ?_));intro w4 h4 k4;have H4':Hq (Blk w4 W0.heap.size r0 249):=hqZ (by simpa [zs5] using h4);have HK4:Hq (Ai (λ b=>b=p\/w.heap.size<=b) w w4):=hqZ (HK1.o.trans (k4.mono (λ b hb=>.inr (by rw [hb]; exact HNE.o.2.2))));have hp4:=HP1.o.keep k4 HNE.o.1;have HQ4:=hqZ (HQ1.o.keep k4 HNE.o.2.1);have c40:w4.cell? ⟨p,0,none⟩=some (.slice (some ⟨b,off,none⟩) (r.length+1) cap):=hp4.cell 0;have f40:=hp4.frozen 0;obtain ⟨W5,hW5⟩:∃W5,W5=w4.setCell ⟨p,0,none⟩ (.slice (cutZ b off cap 1 5) r.length (cap-1)):=⟨_,rfl⟩
        have HP5:Hq (Blk W5 p [.slice (cutZ b off cap 1 5) r.length (cap-1),.bool bad] 315):=hqZ (by rw [hW5]; exact hp4.set 0 _);have HK5:Hq (Ai (λ b=>b=p\/w.heap.size<=b) w W5):=hqZ (by rw [hW5]; exact HK4.o.setCell (p:=⟨p,0,none⟩) (.inl rfl) _);have HQ5:Hq (Blk W5 q zs5 249):=hqZ (by rw [hW5]; exact HQ4.o.set_other (p:=⟨p,0,none⟩) hqp _);have HV5:Hq (Blk W5 W0.heap.size r0 249):=hqZ (by rw [hW5]; exact H4'.o.set_other (p:=⟨p,0,none⟩) (λ e=>HNE.o.1 e.symm) _);clear h4 k4 hp4;rw [<-hq1] at*;go_upto_region 6 with ((with_reducible refine zw 51 ?_);refine A0w rfl (Wt rfl (HSL.o _)) ?_);show Code.wp _ _ _ _ (w4.setCell ⟨p,0,none⟩ (.slice (cutZ b off cap 1 5) r.length (cap-1)))
        rw [<-hW5];clear hW5;go_wp2_with (first | ((with_reducible refine zw 54 ?_);refine Ag rfl (.tmp 5) Aq rfl rfl (cs:=r0) HL5.o HV5.o.cellsAll ?_) | ((with_reducible refine zws 4 54 ?_);refine Af rfl (.tmp 4) (.tmp 54) Aq rfl rfl (vs:=r0) rfl HL5.o HQ5.o (aA _) HON.o ?_));intro w6 h6 k6;have H6:Hq (Blk w6 q r0 249):=hqZ (by simpa [zs5] using h6);have HK6:Hq (Ai (λ b=>b=p\/w.heap.size<=b) w w6):=hqZ (HK5.o.trans (k6.mono (λ b hb=>.inr (by rw [hb,HQS.o]; exact aA _))));have HP6:=hqZ (HP5.o.keep k6 HPQ.o);clear h6 k6;go_wp2_with fail;rw [HR.o];have hs:∀y,F y->y<w.heap.size->¬(y=p\/w.heap.size<=y):=λ y hy hl h=>by
          rcases h with h | h
          · exact H5.o (by rw [<-h]; exact hy)
          · omega
        exact bodyPost_ret (A2 rfl Aq rfl (cs:=r0) HL5.o H6.o.cellsAll) rfl ⟨r0,rfl,HX.o.keep HK6.o hs,⟨_,rs,HP6.o,HSR.o.keepF HK6.o HFR.o hs,HFR.o,HRS.o.keep HK6.o hs,H5.o⟩,HK6.o⟩
      · have HR:Hq (Ch k (x::r) bad=(.zero, [],true)):=hqZ (by unfold Ch; exact if_neg (λ h=>ht h.2));have htb:(x.tag !=0)=true:=by simpa using ht
        rw [hk] at cK;generalize x.tag=xt at*;generalize (x::r).length=N at*;clear hlen hln ht;obtain ⟨W2,hW2⟩:∃W2,W2=(W0.setCell ⟨p,1,none⟩ (.bool true)).setCell ⟨p,0,none⟩ (.slice none 0 0):=⟨_,rfl⟩
        have HP2:Hq (Blk W2 p [.slice none 0 0,.bool true] 315):=hqZ (by rw [hW2]; exact (h1.set 1 (.bool true)).set 0 (.slice none 0 0));have HQ2:Hq (Blk W2 q zs5 249):=hqZ (by rw [hW2]; exact (hn0.set_other (p:=⟨p,1,none⟩) hqp _).set_other (p:=⟨p,0,none⟩) hqp _);have HK2:Hq (Ai (λ b=>b=p\/w.heap.size<=b) w W2):=hqZ (by rw [hW2]; exact (HK0.o.setCell (p:=⟨p,1,none⟩) (.inl rfl) _).setCell (p:=⟨p,0,none⟩) (.inl rfl) _);clear h1 hn0;go_enter aJ,aK;go_upto_region 1 with fail;show Code.wp _ _ _ _ (w.alloc (.cells zs5.toArray 249))
        rw [<-hW0,<-hq];clear hW0 hq;go_upto_region 3 with fail;show Code.wp _ _ _ _ ((W0.setCell ⟨p,1,none⟩ (.bool true)).setCell ⟨p,0,none⟩ (.slice none 0 0))
        rw [<-hW2];clear hW2;go_wp2_with ((with_reducible refine zws 4 39 ?_);refine Af rfl (.tmp 4) (.tmp 39) Aq rfl rfl (vs:=zs5) rfl rfl HQ2.o (aA _) (by intro u hu; simp [zs5] at hu; rcases hu with rfl | rfl | rfl <;> rfl) ?_);intro w3 h3 k3;have H3':Hq (Blk w3 q zs5 249):=hqZ (by simpa [zs5] using h3);have HK3:Hq (Ai (λ b=>b=p\/w.heap.size<=b) w w3):=hqZ (HK2.o.trans (k3.mono (λ b hb=>.inr (by rw [hb,HQS.o]; exact aA _))));have HP3:=hqZ (HP2.o.keep k3 HPQ.o);clear h3 k3;go_wp2_with fail;rw [HR.o];exact bodyPost_ret (A2 rfl Aq rfl (cs:=zs5) rfl H3'.o.cellsAll) rfl ⟨_,rfl,TvF.zero _ _,HEND.o w3 HK3.o HP3.o,HK3.o⟩
    · have HR:Hq (Ch k (x::r) bad=(.zero, [],true)):=hqZ (by unfold Ch; exact if_neg (λ h=>hk h.1));have hkb:(x.kind !=k)=true:=by simpa using hk
      generalize x.kind=xk at*;generalize (x::r).length=N at*;clear hlen hln hk;obtain ⟨W2,hW2⟩:∃W2,W2=(W0.setCell ⟨p,1,none⟩ (.bool true)).setCell ⟨p,0,none⟩ (.slice none 0 0):=⟨_,rfl⟩
      have HP2:Hq (Blk W2 p [.slice none 0 0,.bool true] 315):=hqZ (by rw [hW2]; exact (h1.set 1 (.bool true)).set 0 (.slice none 0 0));have HQ2:Hq (Blk W2 q zs5 249):=hqZ (by rw [hW2]; exact (hn0.set_other (p:=⟨p,1,none⟩) hqp _).set_other (p:=⟨p,0,none⟩) hqp _);have HK2:Hq (Ai (λ b=>b=p\/w.heap.size<=b) w W2):=hqZ (by rw [hW2]; exact (HK0.o.setCell (p:=⟨p,1,none⟩) (.inl rfl) _).setCell (p:=⟨p,0,none⟩) (.inl rfl) _);clear h1 hn0;go_enter aJ,aK;go_upto_region 1 with fail;show Code.wp _ _ _ _ (w.alloc (.cells zs5.toArray 249))
      rw [<-hW0,<-hq];clear hW0 hq;go_upto_region 3 with fail;show Code.wp _ _ _ _ ((W0.setCell ⟨p,1,none⟩ (.bool true)).setCell ⟨p,0,none⟩ (.slice none 0 0))
      rw [<-hW2];clear hW2;go_wp2_with ((with_reducible refine zws 4 39 ?_);refine Af rfl (.tmp 4) (.tmp 39) Aq rfl rfl (vs:=zs5) rfl rfl HQ2.o (aA _) (by intro u hu; simp [zs5] at hu; rcases hu with rfl | rfl | rfl <;> rfl) ?_);intro w3 h3 k3;have H3':Hq (Blk w3 q zs5 249):=hqZ (by simpa [zs5] using h3);have HK3:Hq (Ai (λ b=>b=p\/w.heap.size<=b) w w3):=hqZ (HK2.o.trans (k3.mono (λ b hb=>.inr (by rw [hb,HQS.o]; exact aA _))));have HP3:=hqZ (HP2.o.keep k3 HPQ.o);clear h3 k3;go_wp2_with fail;rw [HR.o];exact bodyPost_ret (A2 rfl Aq rfl (cs:=zs5) rfl H3'.o.cellsAll) rfl ⟨_,rfl,TvF.zero _ _,HEND.o w3 HK3.o HP3.o,HK3.o⟩
theorem L8 {α:Type} {n:Nat} (f:α->List bW) (hf:∀x,(f x).length=n):∀(l:List α) (k j:Nat) (h:k<l.length),j<n->((l.map f).flatten)[k*n+j]?=(f l[k])[j]?
  | [],k,j,h,_=>by simp at h
  | x::l,0,j,h,hj=>by
    simp only [aH,bQ,bC,aP,List.getElem_cons_zero];rw [bP (by rw [hf]; exact hj)]
  | x::l,k+1,j,h,hj=>by
    simp only [aH,bQ,List.getElem_cons_succ];rw [List.getElem?_append_right (by rw [hf,aE]; omega),hf,show (k+1)*n+j-n=k*n+j by rw [aE]; omega];exact L8 f hf l k j (by simpa using h) hj
abbrev Sp:=Int×Int
def Sp.cells (x:Sp):List bW:= [.int .i32 x.1,.int .i32 x.2]
def Lj (l:List Sp):List bW:=(l.map Sp.cells).flatten
def Sp.has (r:Int) (x:Sp):Bool:=decide (x.1<=r)&&decide (r<=x.2)
def inB (r:Int) (l:List Sp):Bool:=l.any (Sp.has r)
theorem A2w (r:Int) (v:bW) (l:List Sp) (w:bX) (h:Sl w 2 v l.length (Lj l)): bZ aB 117 #[.int .i32 r,v] w λ e w'=>e=.returned (.bool (inB r l))/\Below w.heap.size w w':=by
  obtain ⟨a,cap,rfl,hcap,hcm⟩:=h.form;unfold maxLen at hcm;have HS:=hqZ h;have hcl:(Lj l).length=l.length*2:=h.1;clear h;go_enter Tryz.func117,Tryz.ntmps117;go_wp2_with fail;go_loopw [9] (λ i wr=>∃k:Nat,k<=l.length/\i=.int .i64 k/\(l.take k).any (Sp.has r)=false/\Below w.heap.size w wr) (λ i _=>l.length- (intOf i).toNat)
  case atStart=>exact ⟨0,aQ _,rfl,rfl,aC _ _⟩
  case round=>
    obtain ⟨k,hk,rfl,hno,hB⟩:=hrel;have HNO:=hqZ hno;have HB:=hqZ hB;clear hno hB;by_cases hlt:k<l.length
    · have hlt1:(k:Int)< (l.length:Int):=by omega
      obtain ⟨b,off,rfl,hcell⟩:=HS.o.addr (by omega);have c0:wr.cell? ⟨b,off+k*2,none⟩=some (.int .i32 l[k].1):=Bc HB.o (hcell _ _ (L8 (n:=2) Sp.cells (λ _=>rfl) l k 0 hlt (by omega)));have c1:wr.cell? ⟨b,off+k*2+1,none⟩=some (.int .i32 l[k].2):=Bc HB.o (hcell _ _ (L8 (n:=2) Sp.cells (λ _=>rfl) l k 1 hlt (by omega)));clear hcell;have HN:Hq (Sp.has r l[k]=false->(l.take (k+1)).any (Sp.has r)=false):=hqZ (by
        intro h;rw [List.take_succ_eq_append_getElem hlt,List.any_append,HNO.o];simp [h])
      have HY:Hq (Sp.has r l[k]=true->inB r l=true):=hqZ (by
        intro h;exact List.any_eq_true.2 ⟨l[k],List.getElem_mem hlt,h⟩)
      have hB':∀o,Below w.heap.size w (wr.alloc o):=λ o=>HB.o.alloc HB.o.size o
      have HBA:=hqZ hB';clear hB';have HE:Hq (Sp.has r l[k]=(decide (l[k].1<=r)&&decide (r<=l[k].2))):=hqZ rfl;generalize l[k]=x at*;obtain ⟨lo,hi⟩:=x;by_cases h1:lo<=r
      · by_cases h2:r<=hi
        · go_wp2_with fail;go_ret;rw [HY.o (by rw [HE.o]; simp [h1,h2])];exact ⟨rfl,HBA.o _⟩
        · go_wp2_with fail;go_roundw
          case rel=>exact ⟨k+1,by omega,by go_num,HN.o (by rw [HE.o]; simp [h2]),HBA.o _⟩
          case measure=>simp [intOf]; omega
      · go_wp2_with fail;go_roundw
        case rel=>exact ⟨k+1,by omega,by go_num,HN.o (by rw [HE.o]; simp [h1]),HBA.o _⟩
        case measure=>simp [intOf]; omega
    · obtain rfl:k=l.length:=by omega
      go_wp2_with fail;go_ret;have h:=HNO.o;rw [List.take_length] at h;rw [show inB r l=false from h];exact ⟨rfl,HB.o⟩
def A3K:List Sp:= [(97,122),(224,246),(248,254),(945,961),(963,969),(1072,1103)]
def A3U:List Sp:= [(48,57),(45,45)]
def A3J (r:Int):Bool:=inB r A3K
def A4V (r:Int):Bool:=inB r A3U
theorem Sl.spans {w:bX} {cs:Array bW} {T:bY} {b:Nat} (l:List Sp) (hb:w.heap.size=b) (hc:cs.toList=Lj l) (hl:(Lj l).length=l.length*2) (h1:∀u∈Lj l,u.oneCell'=true) (hn:l.length<=maxLen): Sl (w.alloc (.cells cs T)) 2 (.slice (some ⟨b,0,none⟩) l.length l.length) l.length (Lj l):=by
  have:=Sl.lit (w:=w) (cs:=cs) (T:=T) (sz:=2) (n:=l.length) hb (by rw [hc]; exact hl) (by rw [hc]; exact h1) hn;rw [hc] at this;exact this
theorem Z6 (r:Int) (w:bX): bZ aB 116 #[.int .i32 r] w λ e w'=>e=.returned (.bool (A3J r))/\Below w.heap.size w w':=by
  go_enter Tryz.func116,Tryz.ntmps116;go_wp2_with fail;refine (A2w r _ A3K _ (Sl.spans A3K rfl rfl rfl (by decide) (by decide))).mono ?_;rw [show inB r A3K=A3J r from rfl];rintro e w1 ⟨rfl,hb1⟩;have HB:=hqZ (((aC w.heap.size w).alloc (aA _) _).trans (hb1.mono (by simp)));clear hb1;go_wp2_with fail;go_ret;exact ⟨rfl,HB.o⟩
def rsF (s:ByteArray):Nat->Nat->List (Nat×Int)
  | 0,_=> []
  | f+1,p=>if p<s.size then (p,((Utf8.decode s p).1:Int))::rsF s f (p+(Utf8.decode s p).2) else []
def rs (s:ByteArray) (p:Nat):List (Nat×Int):=rsF s (s.size-p) p
theorem Xu (s:ByteArray):∀(f f' p:Nat),s.size<=p+f->s.size<=p+f'->rsF s f p=rsF s f' p
  | 0,0,_,_,_=>rfl
  | 0,f'+1,p,h,_=>by simp [rsF,show ¬p<s.size from by omega]
  | f+1,0,p,_,h=>by simp [rsF,show ¬p<s.size from by omega]
  | f+1,f'+1,p,h,h'=>by
    by_cases hp:p<s.size
    · have:=Lib.decode_width_pos s p hp;simp only [rsF,if_pos hp];rw [Xu s f f' _ (by omega) (by omega)]
    · simp [rsF,hp]
theorem A3Y (s:ByteArray) (p:Nat) (h:p<s.size):rs s p=(p,((Utf8.decode s p).1:Int))::rs s (p+(Utf8.decode s p).2):=by
  have:=Lib.decode_width_pos s p h;unfold rs;obtain ⟨f,hf⟩:∃f,s.size-p=f+1:=⟨s.size-p-1,by omega⟩
  rw [hf];simp only [rsF,if_pos h];rw [Xu s f (s.size- (p+(Utf8.decode s p).2)) _ (by omega) (by omega)]
theorem A5a (s:ByteArray) (p:Nat) (h:¬p<s.size):rs s p= []:=by
  unfold rs;rw [show s.size-p=0 from by omega];rfl
def It (w:bX) (k:Nat) (s:ByteArray) (p:Nat):Prop:=w.heap[k]?=some (.stringIter s p)
theorem It.pos {w:bX} {k:Nat} {s:ByteArray} {p:Nat} (h:It w k s p):w.iterPos k=p:=by simp [bX.iterPos,show w.heap[k]?=_ from h]
theorem It.lt {w:bX} {k:Nat} {s:ByteArray} {p:Nat} (h:It w k s p):k<w.heap.size:=Gh h
theorem It.below {w w':bX} {k B:Nat} {s:ByteArray} {p:Nat} (h:It w k s p) (hb:Below B w w') (hk:k<B):It w' k s p:=(hb.block k hk).trans h
theorem It.next {P:cE} {w0 wr:bX} {k B:Nat} {s:ByteArray} {pos:Nat} (h:It wr k s pos) (hp:pos<s.size) (hB:Below B w0 wr) (hk:B<=k): ∃W,(∀ty,(Instr.next (.pointer (some ⟨k,0,none⟩)) true ty).run P wr=.ok (.tuple #[.bool true,.int .i64 pos,.int .i32 (Utf8.decode s pos).1]) W)/\It W k s (pos+(Utf8.decode s pos).2)/\Below B w0 W/\Ai (λ j=>j=k) wr W:=
  ⟨_,λ ty=>Lib.run_next_any_at wr k s pos ty h hp,Lib.iterAt_heap wr k s pos _ h,Lib.below_iterAt hB hk s _,
    ⟨rfl,rfl,rfl,by rw [Lib.iterAt_size]; exact aA _,λ j hj=>Lib.iterAt_other wr k j s _ hj⟩⟩
def Hy:List (Nat×Int)->Nat->Bool
  | [],n=>decide (1<=n)&&decide (n<=16)
  | (i,r)::l,n=>if A3J r then Hy l (n+1) else if i=0 then false else if A4V r then Hy l (n+1) else false
def As (s:ByteArray):Bool:=Hy (rs s 0) 0
theorem Li (s:ByteArray) (w:bX) (hs:s.size<=maxLen): bZ aB 96 #[.string s] w λ e w'=>e=.returned (.bool (As s))/\Below w.heap.size w w':=by
  unfold maxLen at hs;go_enter Tryz.func96,Tryz.ntmps96;go_wp2_with fail;go_loopw [3] (λ n wr=>∃(pos q:Nat),n=.int .i64 q/\It wr w.heap.size s pos/\q<=pos/\Below w.heap.size w wr/\Hy (rs s pos) q=As s) (λ _ wr=>s.size-wr.iterPos w.heap.size)
  case atStart=>exact ⟨0,0,rfl,bX.iter_heap w s 0,aA _,(aC _ _).alloc (aA _) _,rfl⟩
  case round=>
    obtain ⟨pos,q,rfl,hit,hq,hB,hR⟩:=hrel;have HP0:=hqZ hit.pos;have HR:=hqZ hR;clear hR;by_cases hp:pos<s.size
    · obtain ⟨W,hnx,hit2,hB2,_⟩:=hit.next (P:=aB) hp hB (aA _);have hwd:=Lib.decode_width_pos s pos hp;have hstep:=A3Y s pos hp;obtain ⟨c,hc⟩:∃c:Int,c=((Utf8.decode s pos).1:Int):=⟨_,rfl⟩
      obtain ⟨wd,hw⟩:∃wd,wd=(Utf8.decode s pos).2:=⟨_,rfl⟩
      rw [<-hc,<-hw] at hstep;rw [<-hc] at hnx;rw [<-hw] at hit2 hwd;have HS:=hqZ hstep;have HI:=hqZ hit2;have HB:=hqZ hB2;clear hstep hit2 hB2 hB hit hc hw;go_wp2_with fail;refine (Z6 c W).mono ?_;obtain ⟨L,hL⟩:∃L,L=A3J c:=⟨_,rfl⟩
      rw [<-hL];have HL:=hqZ hL;clear hL;rintro e w1 ⟨rfl,hb1⟩;have HI1:=hqZ (HI.o.below hb1 HI.o.lt);have HB1:=hqZ (HB.o.trans (hb1.mono HB.o.size));clear hb1 HI HB hnx
      cases L with
      | true=>
        have HF:Hq (Hy (rs s (pos+wd)) (q+1)=As s):=hqZ (by
          rw [<-HR.o,HS.o,Hy,<-HL.o,if_pos rfl])
        go_wp2_with fail;go_roundw
        case rel=>exact ⟨pos+wd,q+1,by go_num,HI1.o,by omega,HB1.o,HF.o⟩
        case measure=>rw [HI1.o.pos,HP0.o]; omega
      | false=>
        by_cases hp0:pos=0
        · subst hp0;have HF:Hq (As s=false):=hqZ (by
            rw [<-HR.o,HS.o,Hy,<-HL.o]
            simp)
          go_wp2_with fail;go_ret;rw [HF.o];exact ⟨rfl,HB1.o⟩
        · have hp1:((pos:Int)==0)=false:=by simp; omega
          have HN0:=hqZ hp0;clear hp0;go_wp2_with fail;refine (A2w c _ A3U _ (Sl.spans A3U rfl rfl rfl (by decide) (by decide))).mono ?_;obtain ⟨M,hM⟩:∃M,M=A4V c:=⟨_,rfl⟩
          rw [show inB c A3U=A4V c from rfl,<-hM];have HM:=hqZ hM;clear hM;rintro e w2 ⟨rfl,hb2⟩;have HI2:=hqZ (It.below (It.below HI1.o ((aC w1.heap.size w1).alloc (aA _) _) HI1.o.lt) hb2 (by have:=HI1.o.lt; simp; omega));have HB2:=hqZ ((HB1.o.alloc HB1.o.size _).trans (hb2.mono (by have:=HB1.o.size; simp; omega)));clear hb2 HI1 HB1
          cases M with
          | true=>
            have HF:Hq (Hy (rs s (pos+wd)) (q+1)=As s):=hqZ (by
              rw [<-HR.o,HS.o,Hy,<-HL.o,<-HM.o];simp [HN0.o])
            go_wp2_with fail;go_roundw
            case rel=>exact ⟨pos+wd,q+1,by go_num,HI2.o,by omega,HB2.o,HF.o⟩
            case measure=>rw [HI2.o.pos,HP0.o]; omega
          | false=>
            have HF:Hq (As s=false):=hqZ (by
              rw [<-HR.o,HS.o,Hy,<-HL.o,<-HM.o]
              simp)
            go_wp2_with fail;go_ret;rw [HF.o];exact ⟨rfl,HB2.o⟩
    · have hnx:∀ty,(Instr.next (.pointer (some ⟨w.heap.size,0,none⟩)) true ty).run aB wr=.ok (.tuple #[.bool false]) wr:=λ ty=>Lib.run_next_end_at wr _ s pos ty hit hp
      have HF:Hq (As s=(decide (1<=q)&&decide (q<=16))):=hqZ (by rw [<-HR.o,A5a s pos hp,Hy]);have HB:=hqZ hB;clear hB hit;rcases (by omega:q<1\/(1<=q/\q<=16)\/16<q) with h | ⟨h,h'⟩ | h
      · have h1:¬(1:Int)<=(q:Int):=by omega
        have HG:=hqZ (HF.o.trans (show _=false by rw [decide_eq_false (by omega:¬1<=q)]; rfl));clear h;go_wp2_with fail;go_ret;rw [HG.o];exact ⟨rfl,HB.o⟩
      · have h1:(1:Int)<=(q:Int):=by omega
        have h2:(q:Int)<=16:=by omega
        have HG:=hqZ (HF.o.trans (show _=true by rw [decide_eq_true h,decide_eq_true h']; rfl));clear h h';go_wp2_with fail;go_ret;rw [HG.o];exact ⟨rfl,HB.o⟩
      · have h1:(1:Int)<=(q:Int):=by omega
        have h2:¬(q:Int)<=16:=by omega
        have HG:=hqZ (HF.o.trans (show _=false by rw [decide_eq_false (by omega:¬q<=16)]; simp));clear h;go_wp2_with fail;go_ret;rw [HG.o];exact ⟨rfl,HB.o⟩
def textF (most:Int):List (Nat×Int)->Nat->Bool
  | [],n=>decide ((n:Int)<=most)
  | (_,r)::l,n=>if r<32 then false else if r=127 then false else if r=65533 then false else textF most l (n+1)
def tx (l:List UInt8):ByteArray:=⟨l.toArray⟩
theorem E7 (l:List UInt8):(tx l).size=l.length:=by simp [tx,ByteArray.size]
theorem Ts (w:bX) (v:bW) (l:List UInt8) (h:Bs w v l):(convert 29 9 v).run aB w=.ok (.string (tx l)) w:=by
  obtain ⟨a,cap,rfl,hcap,hm⟩:=h.form;by_cases h0:l.length=0
  · obtain rfl:l= []:=aG h0
    cases a with
    | none=>exact Lib.run_convert_nil_bytes w _ _ _ cap aL aM aN
    | some a=>exact run_convert_bytes_back w _ _ _ a cap [] aL aM aN (λ j hj=>by simp at hj)
  · obtain ⟨b,off,rfl,hc⟩:=h.addr (by rw [Aa]; omega);refine run_convert_bytes_back w _ _ _ ⟨b,off,none⟩ cap l aL aM aN (λ j hj=>?_);rw [Addr.add_lit];exact hc j _ (Cu l j hj)
theorem Zk {o:cF} {a:Act} {W:bX} {x:Operand} (ho:o.op=.convert 29 9 x) {v:bW} {l:List UInt8} (hx:a.eval x=v) (h:Bs W v l):(execOp a.eval o).run aB W=.ok (.value (.string (tx l))) W:=by
  unfold execOp;simp only [ho,hx,Sem.run_bind,Sem.run_pure,Ts W v l h,Result.andThen_ok]
theorem Vn {ops:Array cF} {rest:List cF} {o:cF} {a:Act} {w:bX} {Q:Exit->Act->bX->Prop} (hgd:Region.wanted o (yielded ops a.tmps)=true) (x:Operand) (ho:o.op=.convert 29 9 x) {v:bW} {l:List UInt8} (hx:a.eval x=v) (h:Bs w v l) (hk:wpList aB ops Q rest (a.put o.dst (.string (tx l))) w):wpList aB ops Q (o::rest) a w:=by
  refine By hgd λ K hK=>?_
  unfold cF.wp;rw [Zk ho hx h];exact hK _ _ hk
theorem A0O (a b c d e:bW) (w:bX):(Instr.field 249 (.agg #[a,b,c,d,e]) 2).run aB w=.ok c w:=by kernel_rfl
theorem A0N (a b c d e:bW) (w:bX):(Instr.field 249 (.agg #[a,b,c,d,e]) 3).run aB w=.ok d w:=by kernel_rfl
def Xi:Nat:=1099511627776
def Jh (rem:List Tv) (bad:Bool):Nat×List Tv×Bool:=
  if Xi< (Ch 0 rem bad).1.n then (0,(Ch 0 rem bad).2.1,true) else ((Ch 0 rem bad).1.n,(Ch 0 rem bad).2)
def O7 (rem:List Tv) (bad:Bool):List UInt8×List Tv×Bool:=
  ((Ch 1 rem bad).1.b,(Ch 1 rem bad).2.1,if As (tx (Ch 1 rem bad).1.b)=true then (Ch 1 rem bad).2.2 else true)
def Su (rem:List Tv) (bad:Bool):List UInt8×List Tv×Bool:=
  ((Ie (Ch 1 rem bad).1.b).1,(Ch 1 rem bad).2.1,if (Ie (Ch 1 rem bad).1.b).2=true then (Ch 1 rem bad).2.2 else true)
def Nz (rem:List Tv) (bad:Bool):List UInt8×List Tv×Bool:=((Ch 1 rem bad).1.b,(Ch 1 rem bad).2)
def Vu (w:bX) (F:Nat->Prop) (p:Nat) (v:bW) (r:List Tv×Bool) (e:Ending) (w':bX):Prop:=
  e=.returned v/\Tk w' F p r.1 r.2/\Ai (λ b=>b=p\/w.heap.size<=b) w w'
theorem Tk.bad {w:bX} {F:Nat->Prop} {p:Nat} {rem:List Tv} {bad:Bool} (h:Tk w F p rem bad):Tk (w.setCell ⟨p,1,none⟩ (.bool true)) F p rem true/\Ai (λ b=>b=p\/w.heap.size<=b) w (w.setCell ⟨p,1,none⟩ (.bool true)):=by
  have hk:Ai (λ b=>b=p) w (w.setCell ⟨p,1,none⟩ (.bool true)):=Ai.one w p 1 _;obtain ⟨lv,rows,h1,h2,h3,h4,h5⟩:=h;have hs:∀b,F b->b<w.heap.size->¬(b=p):=λ b hb _ e=>h5 (by rw [<-e]; exact hb)
  exact ⟨⟨lv,rows,h1.set 1 (.bool true),h2.keepF hk h3 hs,h3,h4.keep hk hs,h5⟩,hk.mono (λ _ h=>.inl h)⟩
theorem Tk.badCell {w:bX} {F:Nat->Prop} {p:Nat} {rem:List Tv} {bad:Bool} (h:Tk w F p rem bad):w.cell? ⟨p,1,none⟩=some (.bool bad)/\w.frozen? ⟨p,1,none⟩=false:=by
  obtain ⟨lv,rows,h1,h2,h3,h4,h5⟩:=h;exact ⟨h1.cell 1,h1.frozen 1⟩
theorem C8 {S:Nat->Prop} {p:Nat} {w w1 w2:bX} (hS:∀b,S b↔(b=p\/w.heap.size<=b)) (h:Ai S w w1) (k:Ai (λ b=>b=p\/w1.heap.size<=b) w1 w2):Ai S w w2:=
  h.trans (k.mono (λ b hb=>(hS b).2 (by rcases hb with h' | h'; exact .inl h'; exact .inr (aO h.size h'))))
theorem E0 (rem:List Tv) (bad:Bool) (p:Nat) (F:Nat->Prop) (w:bX) (h:Tk w F p rem bad): bZ aB 141 #[.pointer (some ⟨p,0,none⟩)] w (Vu w F p (.int .i64 (Jh rem bad).1) (Jh rem bad).2):=by
  go_enter Tryz.func141,Tryz.ntmps141;go_wp2_with fail;refine (M8 0 rem bad p F w h).mono ?_;rintro e w1 ⟨cs,rfl,hx,ht,hk⟩;obtain ⟨bv,lv,rows,rfl,hb1,hb2,hb3,hb4,hb5⟩:=hx.open_;obtain ⟨al,cl,rfl,hcl,hml⟩:=hb3.form;obtain ⟨ab,cb0,rfl,hcb,hmb⟩:=hb1.form;have HT:=hqZ ht;have HK:=hqZ hk;obtain ⟨cb,fb⟩:=ht.badCell;have hf2:=A0O;have hf3:=A0N;have HS:Hq (Jh rem bad=if Xi< (Ch 0 rem bad).1.n then (0,(Ch 0 rem bad).2.1,true) else ((Ch 0 rem bad).1.n,(Ch 0 rem bad).2)):=hqZ rfl;generalize Ch 0 rem bad=r at*;obtain ⟨x,r1,r2⟩:=r;simp only at*;clear hx ht hk hb1 hb2 hb3 hb4 hb5;generalize x.n=n at*;by_cases hn:Xi<n
  · have hn':(1099511627776:Int)<n:=by unfold Xi at hn; omega
    have HS':Hq (Jh rem bad=(0,r1,true)):=hqZ (by rw [HS.o,if_pos hn]);clear hn;go_wp2_with fail;go_ret;rw [HS'.o];exact ⟨rfl,HT.o.bad.1,C8 (λ b=>Iff.rfl) HK.o HT.o.bad.2⟩
  · have hn':¬(1099511627776:Int)<n:=by unfold Xi at hn; omega
    have HS':Hq (Jh rem bad=(n,r1,r2)):=hqZ (by rw [HS.o,if_neg hn]);have hw:cD.i64.wrap (n:Int)=n:=by unfold Xi at hn; simp only [cD.wrap_i64]; omega
    clear hn;go_wp2_with fail;go_ret;rw [HS'.o];exact ⟨rfl,HT.o,HK.o⟩
theorem Rf (rem:List Tv) (bad:Bool) (p:Nat) (F:Nat->Prop) (w:bX) (h:Tk w F p rem bad): bZ aB 139 #[.pointer (some ⟨p,0,none⟩)] w (Vu w F p (.string (tx (O7 rem bad).1)) (O7 rem bad).2):=by
  go_enter Tryz.func139,Tryz.ntmps139;go_wp2_with fail;refine (M8 1 rem bad p F w h).mono ?_;rintro e w1 ⟨cs,rfl,hx,ht,hk⟩;obtain ⟨bv,lv,rows,rfl,hb1,hb2,hb3,hb4,hb5⟩:=hx.open_;obtain ⟨al,cl,rfl,hcl,hml⟩:=hb3.form;obtain ⟨ab,cb0,rfl,hcb,hmb⟩:=hb1.form;have HT:=hqZ ht;have HK:=hqZ hk;obtain ⟨cb,fb⟩:=ht.badCell;have hf2:=A0O;have hf3:=A0N;have HS:Hq (O7 rem bad=((Ch 1 rem bad).1.b,(Ch 1 rem bad).2.1,if As (tx (Ch 1 rem bad).1.b)=true then (Ch 1 rem bad).2.2 else true)):=hqZ rfl;generalize Ch 1 rem bad=r at*;obtain ⟨x,r1,r2⟩:=r;simp only at*;have HB:=hqZ hb1;have HR:=hqZ (Li (tx x.b) w1 (by rw [E7]; omega));clear hx ht hk hb1 hb2 hb3 hb4 hb5;generalize x.b=l at*;have hcv:=Ts w1 _ l HB.o;go_wp2_with fail;refine HR.o.mono ?_;rintro e w2 ⟨rfl,hb2⟩;have HT2:=hqZ (HT.o.below hb2);have HK2:Hq (Ai (λ b=>b=p\/w.heap.size<=b) w w2):=hqZ (HK.o.trans ((Ai.of_below hb2).mono (λ b hb=>.inr (aO HK.o.size hb))));obtain ⟨cb,fb⟩:=HT2.o.badCell;clear hb2 HB HR;obtain ⟨d,hd⟩:∃d,d=As (tx l):=⟨_,rfl⟩
  rw [<-hd] at HS ⊢;clear hd
  cases d with
  | false=>
    go_wp2_with fail;go_ret;rw [HS.o];exact ⟨rfl,HT2.o.bad.1,C8 (λ b=>Iff.rfl) HK2.o HT2.o.bad.2⟩
  | true=>
    go_wp2_with fail;go_ret;rw [HS.o];exact ⟨rfl,HT2.o,HK2.o⟩
theorem A1q (rem:List Tv) (bad:Bool) (p:Nat) (F:Nat->Prop) (w:bX) (h:Tk w F p rem bad): bZ aB 140 #[.pointer (some ⟨p,0,none⟩)] w λ e w'=>∃v,Vu w F p v (Nz rem bad).2 e w'/\Bs w' v (Nz rem bad).1/\(0< (Nz rem bad).1.length->∀x,v.ownBlock=some x->F x):=by
  go_enter Tryz.func140,Tryz.ntmps140;go_wp2_with fail;refine (M8 1 rem bad p F w h).mono ?_;rintro e w1 ⟨cs,rfl,hx,ht,hk⟩;obtain ⟨bv,lv,rows,rfl,hb1,hb2,hb3,hb4,hb5⟩:=hx.open_;obtain ⟨al,cl,rfl,hcl,hml⟩:=hb3.form;obtain ⟨ab,cb0,rfl,hcb,hmb⟩:=hb1.form;have HT:=hqZ ht;have HK:=hqZ hk;obtain ⟨cb,fb⟩:=ht.badCell;have hf2:=A0O;have hf3:=A0N;clear hb3 hb4 hb5;have HB:=hqZ hb1;have HB2:=hqZ hb2;clear hx ht hk hb1 hb2;go_wp2_with fail;go_ret;exact ⟨_,⟨rfl,HT.o,HK.o⟩,HB.o,HB2.o⟩
theorem Mp (rem:List Tv) (bad:Bool) (p:Nat) (F:Nat->Prop) (w:bX) (h:Tk w F p rem bad): bZ aB 144 #[.pointer (some ⟨p,0,none⟩)] w λ e w'=>e=.returned (.bool (!bad&&rem.isEmpty))/\w=w':=by
  obtain ⟨lv,rows,h1,h2,h3,h4,h5⟩:=h;obtain ⟨a,cap,rfl,hcap,hm⟩:=h2.form;have c0:=h1.cell 0;have c1:w.cell? ⟨p,1,none⟩=some (.bool bad):=h1.cell 1;simp only [bO] at c0;have HR:Hq ((((rem.length:Nat):Int)==0)=rem.isEmpty):=hqZ (by cases rem <;> simp <;> omega);clear h1 h2 h3 h4 h5
  cases bad with
  | true=>
    go_enter bR,bS;go_wp2_with fail;go_ret;exact ⟨rfl,rfl⟩
  | false=>
    go_enter bR,bS;go_wp2_with fail;go_ret;rw [HR.o];exact ⟨rfl,rfl⟩
theorem A3B (rem:List Tv) (bad:Bool) (p:Nat) (F:Nat->Prop) (w:bX) (h:Tk w F p rem bad) (hF:¬F w.heap.size): bZ aB 142 #[.pointer (some ⟨p,0,none⟩)] w (Vu w F p (Ay (Su rem bad).1) (Su rem bad).2):=by
  have hpl:=h.lt;have HQ0:=hqZ (Blk.new w Bg 43);have hB0:Below w.heap.size w (w.alloc (.cells Bg.toArray 43)):=(aC _ _).alloc (aA _) _;have HB0:=hqZ hB0;have HN:=hqZ (M8 1 rem bad p F _ (h.below hB0));have HF:=hqZ hF;clear hF;have HPN:Hq (p≠w.heap.size):=hqZ (by omega);clear hB0 h;go_enter Tryz.func142,Tryz.ntmps142;go_wp2_with fail;refine HN.o.mono ?_;rintro e w1 ⟨cs,rfl,hx,ht,hk⟩;obtain ⟨bv,lv,rows,rfl,hb1,hb2,hb3,hb4,hb5⟩:=hx.open_;obtain ⟨al,cl,rfl,hcl,hml⟩:=hb3.form;obtain ⟨ab,cb0,rfl,hcb,hmb⟩:=hb1.form;have hf2:=A0O;have hf3:=A0N;have HT:=hqZ ht;have HK:Hq (Ai (λ b=>b=p\/w.heap.size<=b) w w1):=hqZ (((Ai.of_below HB0.o).mono (λ b hb=>.inr hb)).trans (hk.mono (λ b hb=>by rcases hb with h | h; exact .inl h; exact .inr (by simp at h; omega))));have HQ1:=hqZ (HQ0.o.keep hk (λ h=>by rcases h with h | h; exact HPN.o h.symm; simp at h; omega));have HZ:Hq (w.heap.size<w1.heap.size):=hqZ HQ1.o.lt;have HS:Hq (Su rem bad=((Ie (Ch 1 rem bad).1.b).1,(Ch 1 rem bad).2.1,if (Ie (Ch 1 rem bad).1.b).2=true then (Ch 1 rem bad).2.2 else true)):=hqZ rfl;generalize Ch 1 rem bad=r at*;obtain ⟨x,r1,r2⟩:=r;simp only at*;have HR:=hqZ (P5 _ x.b w1 hb1);clear hx ht hk hb1 hb2 hb3 hb4 hb5 HQ0 HB0 HN;generalize x.b=l at*;go_wp2_with fail;refine HR.o.mono ?_;rintro e w2 ⟨rfl,hb2⟩;have HL:Hq ((Ie l).1.length=16):=hqZ (W7 l);generalize Ie l=kk at*;obtain ⟨k,d⟩:=kk;simp only at*;obtain ⟨q1,hq1⟩:∃q1,q1=w2.heap.size:=⟨_,rfl⟩
  have HT2:=hqZ (HT.o.below hb2);have HG:Hq (Blk (w2.alloc (.cells Bg.toArray 43)) w2.heap.size Bg 43):=hqZ (Blk.new _ _ _);have HQ2:Hq (Blk (w2.alloc (.cells Bg.toArray 43)) w.heap.size Bg 43):=hqZ ((HQ1.o.below hb2 HZ.o).alloc _);have HK2:Hq (Ai (λ b=>b=p\/w.heap.size<=b) w (w2.alloc (.cells Bg.toArray 43))):=hqZ ((HK.o.trans ((Ai.of_below hb2).mono (λ b hb=>.inr (aO HK.o.size hb)))).alloc _ (.inr (aO HK.o.size hb2.size)));have HNE:Hq (p≠w2.heap.size/\w.heap.size≠w2.heap.size/\w.heap.size<=w2.heap.size):=hqZ (by have:=HZ.o; have:=hb2.size; exact ⟨by omega,by omega,by omega⟩);clear hb2 HR;go_wp2_with ((with_reducible refine zws 3 10 ?_);refine Af rfl (.tmp 3) (.tmp 10) Am rfl rfl (vs:=Ab k) rfl (by rw [Aa]; exact HL.o) HG.o (by simp [Bg]) (Ak k) ?_);intro w3 h3 k3;have H3:Hq (Blk w3 w2.heap.size (Ab k) 43):=hqZ (by simpa [Bg] using h3);have HT3:=hqZ (HT2.o.below (((aC w2.heap.size w2).alloc (aA _) _).trans (k3.below (λ b hb=>aU hb.symm))));have HQ3:=hqZ (HQ2.o.keep k3 HNE.o.2.1);have HK3:Hq (Ai (λ b=>b=p\/w.heap.size<=b) w w3):=hqZ (HK2.o.trans (k3.mono (λ b hb=>.inr (by rw [hb]; exact HNE.o.2.2))));obtain ⟨cb,fb⟩:=HT3.o.badCell;clear h3 k3;clear hq1;generalize w2.heap.size=q1 at*;have hend:∀W:bX,Tk W F p r1 (if d=true then r2 else true)->Blk W w.heap.size Bg 43->Blk W q1 (Ab k) 43->Ai (λ b=>b=p\/w.heap.size<=b) w W->True:=λ _ _ _ _ _=>trivial
  clear hend
  cases d with
  | false=>
    have HT4:=hqZ HT3.o.bad.1;have HQ4:=hqZ (HQ3.o.set_other (p:=⟨p,1,none⟩) (λ e=>HPN.o e.symm) (.bool true));have H4:=hqZ (H3.o.set_other (p:=⟨p,1,none⟩) (λ e=>HNE.o.1 e.symm) (.bool true));have HK4:=hqZ (C8 (λ b=>Iff.rfl) HK3.o HT3.o.bad.2);go_wp2_with (first | ((with_reducible refine zw 17 ?_);refine Ag rfl (.tmp 3) Am rfl rfl (cs:=Ab k) (by rw [Aa]; exact HL.o) H4.o.cellsAll ?_) | ((with_reducible refine zws 2 17 ?_);refine Af rfl (.tmp 2) (.tmp 17) Am rfl rfl (vs:=Ab k) rfl (by rw [Aa]; exact HL.o) HQ4.o (by simp [Bg]) (Ak k) ?_));intro w5 h5 k5;have H5:Hq (Blk w5 w.heap.size (Ab k) 43):=hqZ (by simpa [Bg] using h5);have HT5:=hqZ (HT4.o.keep k5 (λ b hb hl e=>HF.o (by rw [<-e]; exact hb)) HPN.o);have HK5:Hq (Ai (λ b=>b=p\/w.heap.size<=b) w w5):=hqZ (HK4.o.trans (k5.mono (λ b hb=>.inr (aU hb.symm))));clear h5 k5;go_wp2_with fail;exact bodyPost_ret (A2 rfl Am rfl (cs:=Ab k) (by rw [Aa]; exact HL.o) H5.o.cellsAll) rfl ⟨by rw [HS.o]; rfl,by rw [HS.o]; exact HT5.o,HK5.o⟩
  | true=>
    go_wp2_with (first | ((with_reducible refine zw 17 ?_);refine Ag rfl (.tmp 3) Am rfl rfl (cs:=Ab k) (by rw [Aa]; exact HL.o) H3.o.cellsAll ?_) | ((with_reducible refine zws 2 17 ?_);refine Af rfl (.tmp 2) (.tmp 17) Am rfl rfl (vs:=Ab k) rfl (by rw [Aa]; exact HL.o) HQ3.o (by simp [Bg]) (Ak k) ?_));intro w5 h5 k5;have H5:Hq (Blk w5 w.heap.size (Ab k) 43):=hqZ (by simpa [Bg] using h5);have HT5:=hqZ (HT3.o.keep k5 (λ b hb hl e=>HF.o (by rw [<-e]; exact hb)) HPN.o);have HK5:Hq (Ai (λ b=>b=p\/w.heap.size<=b) w w5):=hqZ (HK3.o.trans (k5.mono (λ b hb=>.inr (aU hb.symm))));clear h5 k5;go_wp2_with fail;exact bodyPost_ret (A2 rfl Am rfl (cs:=Ab k) (by rw [Aa]; exact HL.o) H5.o.cellsAll) rfl ⟨by rw [HS.o]; rfl,by rw [HS.o]; exact HT5.o,HK5.o⟩
theorem Tk.tight {w:bX} {F:Nat->Prop} {p:Nat} {rem:List Tv} {bad:Bool} (h:Tk w F p rem bad):Tk w (λ y=>F y/\y<w.heap.size) p rem bad:=by
  obtain ⟨lv,rows,h1,h2,h3,h4,h5⟩:=h;exact ⟨lv,rows,h1,h2,λ hp x hx=>⟨h3 hp x hx,Sl.own_lt h2 (by decide) hp x hx⟩,h4.tight,λ h=>h5 h.1⟩
theorem Tk.mono {w:bX} {F G:Nat->Prop} {p:Nat} {rem:List Tv} {bad:Bool} (h:Tk w F p rem bad) (hg:∀b,F b->G b) (hp:¬G p):Tk w G p rem bad:=by
  obtain ⟨lv,rows,h1,h2,h3,h4,h5⟩:=h;exact ⟨lv,rows,h1,h2,λ hp x hx=>hg x (h3 hp x hx),h4.mono hg,hp⟩
theorem Tk.notF {w:bX} {F:Nat->Prop} {p:Nat} {rem:List Tv} {bad:Bool} (h:Tk w F p rem bad):¬F p:=by
  obtain ⟨lv,rows,h1,h2,h3,h4,h5⟩:=h;exact h5
theorem Z4 (rem:List Tv) (bad:Bool) (p:Nat) (F:Nat->Prop) (w:bX) (h:Tk w F p rem bad): bZ aB 142 #[.pointer (some ⟨p,0,none⟩)] w (Vu w F p (Ay (Su rem bad).1) (Su rem bad).2):=
  (A3B rem bad p _ w h.tight (λ h=>Nat.lt_irrefl _ h.2)).mono λ _ _ ⟨h1,h2,h3⟩=>⟨h1,h2.mono (λ _ h=>h.1) h.notF,h3⟩
def Cv (w:bX) (g n cap:Nat) (cs:List bW):Prop:=
  cs.length=n/\(∀u∈cs,u.oneCell'=true)/\n<=cap/\cap<=maxLen/\∃cur:Array bW,w.heap[g]?=some (.cells cur 5 (cur.size,cur.size+1))/\cur.size=cap/\cur.toList.take n=cs
theorem Cv.sl {w:bX} {g n cap:Nat} {cs:List bW} (h:Cv w g n cap cs):Sl w 1 (.slice (some ⟨g,0,none⟩) n cap) n cs:=by
  obtain ⟨h1,h2,h3,h4,cur,h5,h6,h7⟩:=h;refine ⟨by omega,h2,_,cap,rfl,h3,h4,λ h=>by simp at h,.inr ⟨g,0,rfl,λ j u hj=>?_⟩⟩;have hjl:j<n:=by have:=(List.getElem?_eq_some_iff.1 hj).1; omega
  rw [<-h7,aR,if_pos hjl] at hj;rw [aP,cell_of_row w g j cur _ _ h5,<-aS];exact hj
theorem Rq (w:bX) (s:ByteArray) (hs:s.size<=281474976710656):∃cap w',(convert 9 29 (.string s)).run aB w=.ok (.slice (some ⟨w.heap.size,0,none⟩) s.size cap) w'/\ Cv w' w.heap.size s.size cap (Ab s.data.toList)/\Below w.heap.size w w'/\w'.heap.size=w.heap.size+1:=by
  have hge:=grownCap_ge w s.size 0 5;have hle:=grownCap_le_maxLen w s.size 0 5 (by unfold maxLen; omega);have hl:s.data.toList.length=s.size:=rfl;refine ⟨_,_,Lib.run_convert_string_bytes w 9 29 5 s aN aL aM,⟨by rw [Aa,hl],Ak _,hge,hle,Lib.bytesCells w 5 s,Lib.bytesWorld_at_new w _ s,?_,?_⟩,⟨?_,?_,?_,?_,λ k hk=>Lib.bytesWorld_at_old w _ s k hk⟩,Lib.bytesWorld_size w _ s⟩
  · simp only [Lib.bytesCells,Array.size_append,Array.size_map,Array.size_replicate];rw [show s.data.size=s.size from rfl];omega
  · simp only [Lib.bytesCells,Array.toList_append,Array.toList_map];rw [bM (by simp),aT (by simp)];rfl
  · rfl
  · rfl
  · rfl
  · rw [Lib.bytesWorld_size]; omega
theorem Is {ops:Array cF} {rest:List cF} {o:cF} {a:Act} {w:bX} {Q:Exit->Act->bX->Prop} (hgd:Region.wanted o (yielded ops a.tmps)=true) (x:Operand) (ho:o.op=.convert 9 29 x) {s:ByteArray} (hx:a.eval x=.string s) (hs:s.size<=281474976710656) (h:∀cap w',Cv w' w.heap.size s.size cap (Ab s.data.toList)->Below w.heap.size w w'->w'.heap.size=w.heap.size+1->wpList aB ops Q rest (a.put o.dst (.slice (some ⟨w.heap.size,0,none⟩) s.size cap)) w'):wpList aB ops Q (o::rest) a w:=by
  obtain ⟨cap,w',hr,h2,h3,h4⟩:=Rq w s hs;refine By hgd λ K hK=>?_
  unfold cF.wp execOp;simp only [ho,hx,Sem.run_bind,Sem.run_pure,Result.andThen_ok,hr];exact hK _ _ (h cap w' h2 h3 h4)
def Jz (w:bX) (x:Tv) (e:Ending) (w':bX):Prop:=
  ∃cs,e=.returned (.agg cs.toArray)/\TvF w' (λ b=>w.heap.size<=b) x cs/\Below w.heap.size w w'
theorem mk5 {w w':bX} {k t:Int} {n:Nat} {b:List UInt8} {bv:bW} (hb:Bs w' bv b) (ho:∀x,bv.ownBlock=some x->w.heap.size<=x) (hk:Below w.heap.size w w'): Jz w (.mk k t n b []) (.returned (.agg #[.int .i64 k,.int .i64 t,.int .u64 (n:Int),bv,.slice none 0 0])) w':=
  ⟨_,rfl,TvF.mk hb ho (Sl.nil _ _ _) (by simp [bW.ownBlock]) rfl,hk⟩
theorem Cy (v:bW) (b:List UInt8) (w:bX) (h:Bs w v b) (hl:b.length<=1099511627776): bZ aB 111 #[v] w (Jz w (.mk 1 0 0 b [])):=by
  obtain ⟨a,c,rfl,hc,hm⟩:=h.form;have HA:=hqZ (h.alloc (.cells zs5.toArray 249));have HN:=hqZ (Blk.new w zs5 249);have HB0:Hq (Below w.heap.size w (w.alloc (.cells zs5.toArray 249))):=hqZ ((aC _ _).alloc (aA _) _);have HSZ:Hq (∀o,(w.alloc o).heap.size=w.heap.size+1):=hqZ (λ o=>by simp);clear h;go_enter Tryz.func111,Tryz.ntmps111;go_wp2_with ((with_reducible refine zw 4 ?_);refine Do rfl (.const (.slice none 0 0)) (.tmp 3) Dl rfl w.heap.size (Own.nil _ _ _ _ _) (by simp [Act.eval,bW.ownBlock]) HA.o (by unfold maxLen; omega) (by omega) (by simp) ?_);intro v1 w1 ho1 hk1 hv1;have hz1:=hk1.size;simp at hz1;have hb1:Below w.heap.size w w1:=HB0.o.trans (hk1.below (by rintro x (h | h) <;> (try simp [bW.ownBlock] at h) <;> omega));have hr1:Blk w1 w.heap.size zs5 249:=HN.o.keep hk1 (by rintro (h | h) <;> (try simp [bW.ownBlock] at h) <;> omega);have hvb:∀x,v1.ownBlock=some x->w.heap.size+1<=x:=λ x hx=>by
    rcases (hv1 x hx).1 with h | h
    · simp [bW.ownBlock] at h
    · try simp at h
      omega
  obtain ⟨a1,c1,rfl,_⟩:=ho1.sl.form;have HR1:=hqZ hr1;have HB1:=hqZ hb1;have HS1:Hq (Bs w1 (.slice a1 b.length c1) b):=hqZ ho1.sl;have HVB:=hqZ hvb;clear ho1 hk1 hv1 hb1 hr1 hvb;go_wp2_with ((with_reducible refine zws 2 5 ?_);refine Af rfl (.tmp 2) (.tmp 5) Aq rfl rfl (vs:= [.int .i64 1,.int .i64 0,.int .u64 0,.slice a1 b.length c1,.slice none 0 0]) rfl rfl HR1.o (aA _) (by intro u hu; simp at hu; rcases hu with rfl | rfl | rfl | rfl | rfl <;> rfl) ?_);intro w2 h2 k2;have h2':Blk w2 w.heap.size [.int .i64 1,.int .i64 0,.int .u64 0,.slice a1 b.length c1,.slice none 0 0] 249:=by simpa [zs5] using h2
  have H2:=hqZ h2';have HB2:Hq (Below w.heap.size w w2):=hqZ (HB1.o.trans (k2.below (by omega)));have HS2:Hq (Bs w2 (.slice a1 b.length c1) b):=hqZ (Sl.keep HS1.o k2 (λ x hx e=>by have:=HVB.o x hx; omega));clear h2 h2' k2;go_wp2_with fail;exact bodyPost_ret (A2 rfl Aq rfl (cs:= [.int .i64 1,.int .i64 0,.int .u64 0,.slice a1 b.length c1,.slice none 0 0]) rfl H2.o.cellsAll) rfl (mk5 HS2.o (λ x hx=>by have:=HVB.o x hx; omega) HB2.o)
theorem Jt (n:Nat) (w:bX):bZ aB 110 #[.int .u64 n] w (Jz w (.mk 0 0 n [] [])):=
  (L5 n w).mono λ _ _ ⟨h1,h2⟩=>by
    subst h1;exact mk5 (Sl.nil _ _ _) (by simp [bW.ownBlock]) h2
theorem Eg (l:List UInt8) (w:bX) (hl:l.length<=1099511627776):bZ aB 123 #[.string (tx l)] w (Jz w (.mk 1 0 0 l [])):=by
  have HN:=hqZ (Blk.new w zs5 249);have HB0:Hq (Below w.heap.size w (w.alloc (.cells zs5.toArray 249))):=hqZ ((aC _ _).alloc (aA _) _);have HSZ:Hq (∀o,(w.alloc o).heap.size=w.heap.size+1):=hqZ (λ o=>by simp);have hcv:=Rq (w.alloc (.cells zs5.toArray 249)) (tx l) (by rw [E7]; omega);have HCV:=hqZ hcv;clear hcv;go_enter Tryz.func123,Tryz.ntmps123;go_wp2_with ((with_reducible refine zw 4 ?_);refine Is rfl (.tmp 3) rfl (s:=tx l) rfl (by rw [E7]; omega) ?_; intro cap w0 hcv hbv hsz);have hbs:Bs w0 (.slice (some ⟨w.heap.size+1,0,none⟩) (tx l).size cap) l:=by
    have:=hcv.sl;rw [HSZ.o] at this;exact Sl.bs this rfl (E7 l).symm
  have hz0:=hbv.size;simp at hz0;have HBV:=hqZ hbv;have HRW:=hqZ (Cy _ l w0 hbs (by omega));clear hcv hbv hsz hbs HCV;go_wp2_with fail;refine HRW.o.mono ?_;rintro e w1 ⟨cs,rfl,h1,h2⟩;have HL:=hqZ h1.length;have HO:=hqZ h1.one;have h1':TvF w1 (λ b=>w.heap.size+1<=b) (.mk 1 0 0 l []) cs:=h1.mono (λ b hb=>by first | omega | (simp only [HSZ.o] at hb; omega) | (simp at hb; omega));have hbw:Below w.heap.size w w1:=(HB0.o.trans (HBV.o.mono (by simp))).trans (h2.mono (by first | omega | (simp; done) | (simp; omega)));have hr1:Blk w1 w.heap.size zs5 249:=(HN.o.below HBV.o (by simp)).below h2 (by omega);have HT:=hqZ h1';have HBW:=hqZ hbw;have HR:=hqZ hr1;clear h1 h1' h2 hbw hr1;go_wp2_with ((with_reducible refine zws 2 5 ?_);refine Af rfl (.tmp 2) (.tmp 5) Aq rfl rfl (vs:=cs) rfl HL.o HR.o (aA _) HO.o ?_);intro w2 h2 k2;have H2:Hq (Blk w2 w.heap.size cs 249):=hqZ (by simpa [zs5] using h2);have HB2:Hq (Below w.heap.size w w2):=hqZ (HBW.o.trans (k2.below (by omega)));have HT2:Hq (TvF w2 (λ b=>w.heap.size<=b) (.mk 1 0 0 l []) cs):=hqZ ((HT.o.keep k2 (λ b hb _ e=>by omega)).mono (λ b hb=>by omega));clear h2 k2;go_wp2_with fail;exact bodyPost_ret (A2 rfl Aq rfl (cs:=cs) HL.o H2.o.cellsAll) rfl ⟨cs,rfl,HT2.o,HB2.o⟩
theorem A2I (n:Nat) (w:bX) (hn:n<=9223372036854775807):bZ aB 124 #[.int .i64 (n:Int)] w (Jz w (.mk 0 0 n [] [])):=by
  have HN:=hqZ (Blk.new w zs5 249);have HB0:Hq (Below w.heap.size w (w.alloc (.cells zs5.toArray 249))):=hqZ ((aC _ _).alloc (aA _) _);have HSZ:Hq (∀o,(w.alloc o).heap.size=w.heap.size+1):=hqZ (λ o=>by simp);have HRW:=hqZ (Jt n (w.alloc (.cells zs5.toArray 249)));go_enter bT,bU;go_wp2_with fail;refine HRW.o.mono ?_;rintro e w1 ⟨cs,rfl,h1,h2⟩;have HL:=hqZ h1.length;have HO:=hqZ h1.one;have h1':TvF w1 (λ b=>w.heap.size+1<=b) (.mk 0 0 n [] []) cs:=h1.mono (λ b hb=>by first | omega | (simp only [HSZ.o] at hb; omega) | (simp at hb; omega));have hbw:Below w.heap.size w w1:=HB0.o.trans (h2.mono (by first | omega | (simp; done)));have hr1:Blk w1 w.heap.size zs5 249:=HN.o.below h2 (by first | omega | (simp; done));have HT:=hqZ h1';have HBW:=hqZ hbw;have HR:=hqZ hr1;clear h1 h1' h2 hbw hr1;go_wp2_with ((with_reducible refine zws 2 5 ?_);refine Af rfl (.tmp 2) (.tmp 5) Aq rfl rfl (vs:=cs) rfl HL.o HR.o (aA _) HO.o ?_);intro w2 h2 k2;have H2:Hq (Blk w2 w.heap.size cs 249):=hqZ (by simpa [zs5] using h2);have HB2:Hq (Below w.heap.size w w2):=hqZ (HBW.o.trans (k2.below (by omega)));have HT2:Hq (TvF w2 (λ b=>w.heap.size<=b) (.mk 0 0 n [] []) cs):=hqZ ((HT.o.keep k2 (λ b hb _ e=>by omega)).mono (λ b hb=>by omega));clear h2 k2;go_wp2_with fail;exact bodyPost_ret (A2 rfl Aq rfl (cs:=cs) HL.o H2.o.cellsAll) rfl ⟨cs,rfl,HT2.o,HB2.o⟩
theorem A2J (n:Int) (m:Nat) (w:bX) (hn:n<0) (hm: -9223372036854775808<=n) (hnm:n+18446744073709551616=m):bZ aB 124 #[.int .i64 n] w (Jz w (.mk 0 0 m [] [])):=by
  have HN:=hqZ (Blk.new w zs5 249);have HB0:Hq (Below w.heap.size w (w.alloc (.cells zs5.toArray 249))):=hqZ ((aC _ _).alloc (aA _) _);have HSZ:Hq (∀o,(w.alloc o).heap.size=w.heap.size+1):=hqZ (λ o=>by simp);have HRW:=hqZ (Jt m (w.alloc (.cells zs5.toArray 249)));have hcvn:∀W,(convert 2 140 (.int .i64 n)).run aB W=.ok (.int .u64 (m:Nat)) W:=λ W=>by
    have hw:cD.u64.wrap n=m:=by
      have h64:(2:Int) ^ cD.u64.bits=18446744073709551616:=by decide
      simp only [cD.wrap,cD.signed,h64];simp only [Bool.false_eq_true,false_and,if_false,Bool.false_and];omega
    simp [convert,Conv.intToInt,hw]
  clear hnm;go_enter bT,bU;go_wp2_with fail;refine HRW.o.mono ?_;rintro e w1 ⟨cs,rfl,h1,h2⟩;have HL:=hqZ h1.length;have HO:=hqZ h1.one;have h1':TvF w1 (λ b=>w.heap.size+1<=b) (.mk 0 0 m [] []) cs:=h1.mono (λ b hb=>by first | omega | (simp only [HSZ.o] at hb; omega) | (simp at hb; omega));have hbw:Below w.heap.size w w1:=HB0.o.trans (h2.mono (by first | omega | (simp; done)));have hr1:Blk w1 w.heap.size zs5 249:=HN.o.below h2 (by first | omega | (simp; done));have HT:=hqZ h1';have HBW:=hqZ hbw;have HR:=hqZ hr1;clear h1 h1' h2 hbw hr1;go_wp2_with ((with_reducible refine zws 2 5 ?_);refine Af rfl (.tmp 2) (.tmp 5) Aq rfl rfl (vs:=cs) rfl HL.o HR.o (aA _) HO.o ?_);intro w2 h2 k2;have H2:Hq (Blk w2 w.heap.size cs 249):=hqZ (by simpa [zs5] using h2);have HB2:Hq (Below w.heap.size w w2):=hqZ (HBW.o.trans (k2.below (by omega)));have HT2:Hq (TvF w2 (λ b=>w.heap.size<=b) (.mk 0 0 m [] []) cs):=hqZ ((HT.o.keep k2 (λ b hb _ e=>by omega)).mono (λ b hb=>by omega));clear h2 k2;go_wp2_with fail;exact bodyPost_ret (A2 rfl Aq rfl (cs:=cs) HL.o H2.o.cellsAll) rfl ⟨cs,rfl,HT2.o,HB2.o⟩
theorem Re (t:Bool) (w:bX):bZ aB 127 #[.bool t] w (Jz w (.mk 0 0 (if t then 1 else 0) [] [])):=by
  have HN:=hqZ (Blk.new w zs5 249);have HB0:Hq (Below w.heap.size w (w.alloc (.cells zs5.toArray 249))):=hqZ ((aC _ _).alloc (aA _) _);have HSZ:Hq (∀o,(w.alloc o).heap.size=w.heap.size+1):=hqZ (λ o=>by simp);have HRW:=hqZ (Jt (if t then 1 else 0) (w.alloc (.cells zs5.toArray 249)));go_enter Tryz.func127,Tryz.ntmps127
  cases t
  · go_wp2_with fail;refine HRW.o.mono ?_;rintro e w1 ⟨cs,rfl,h1,h2⟩;have HL:=hqZ h1.length;have HO:=hqZ h1.one;have h1':TvF w1 (λ b=>w.heap.size+1<=b) (.mk 0 0 (if false then 1 else 0) [] []) cs:=h1.mono (λ b hb=>by first | omega | (simp only [HSZ.o] at hb; omega) | (simp at hb; omega));have hbw:Below w.heap.size w w1:=HB0.o.trans (h2.mono (by first | omega | (simp; done)));have hr1:Blk w1 w.heap.size zs5 249:=HN.o.below h2 (by first | omega | (simp; done));have HT:=hqZ h1';have HBW:=hqZ hbw;have HR:=hqZ hr1;clear h1 h1' h2 hbw hr1;go_wp2_with ((with_reducible refine zws 2 5 ?_);refine Af rfl (.tmp 2) (.tmp 5) Aq rfl rfl (vs:=cs) rfl HL.o HR.o (aA _) HO.o ?_);intro w2 h2 k2;have H2:Hq (Blk w2 w.heap.size cs 249):=hqZ (by simpa [zs5] using h2);have HB2:Hq (Below w.heap.size w w2):=hqZ (HBW.o.trans (k2.below (by omega)));have HT2:Hq (TvF w2 (λ b=>w.heap.size<=b) (.mk 0 0 (if false then 1 else 0) [] []) cs):=hqZ ((HT.o.keep k2 (λ b hb _ e=>by omega)).mono (λ b hb=>by omega));clear h2 k2;go_wp2_with fail;exact bodyPost_ret (A2 rfl Aq rfl (cs:=cs) HL.o H2.o.cellsAll) rfl ⟨cs,rfl,HT2.o,HB2.o⟩
  · go_wp2_with fail;refine HRW.o.mono ?_;rintro e w1 ⟨cs,rfl,h1,h2⟩;have HL:=hqZ h1.length;have HO:=hqZ h1.one;have h1':TvF w1 (λ b=>w.heap.size+1<=b) (.mk 0 0 (if true then 1 else 0) [] []) cs:=h1.mono (λ b hb=>by first | omega | (simp only [HSZ.o] at hb; omega) | (simp at hb; omega));have hbw:Below w.heap.size w w1:=HB0.o.trans (h2.mono (by first | omega | (simp; done)));have hr1:Blk w1 w.heap.size zs5 249:=HN.o.below h2 (by first | omega | (simp; done));have HT:=hqZ h1';have HBW:=hqZ hbw;have HR:=hqZ hr1;clear h1 h1' h2 hbw hr1;go_wp2_with ((with_reducible refine zws 2 4 ?_);refine Af rfl (.tmp 2) (.tmp 4) Aq rfl rfl (vs:=cs) rfl HL.o HR.o (aA _) HO.o ?_);intro w2 h2 k2;have H2:Hq (Blk w2 w.heap.size cs 249):=hqZ (by simpa [zs5] using h2);have HB2:Hq (Below w.heap.size w w2):=hqZ (HBW.o.trans (k2.below (by omega)));have HT2:Hq (TvF w2 (λ b=>w.heap.size<=b) (.mk 0 0 (if true then 1 else 0) [] []) cs):=hqZ ((HT.o.keep k2 (λ b hb _ e=>by omega)).mono (λ b hb=>by omega));clear h2 k2;go_wp2_with fail;exact bodyPost_ret (A2 rfl Aq rfl (cs:=cs) HL.o H2.o.cellsAll) rfl ⟨cs,rfl,HT2.o,HB2.o⟩
theorem Ll (l:List UInt8) (w:bX) (hl:l.length<=1099511627776):bZ aB 133 #[.string (tx l)] w (Jz w (.mk 1 0 0 l [])):=by
  have HN:=hqZ (Blk.new w zs5 249);have HB0:Hq (Below w.heap.size w (w.alloc (.cells zs5.toArray 249))):=hqZ ((aC _ _).alloc (aA _) _);have HSZ:Hq (∀o,(w.alloc o).heap.size=w.heap.size+1):=hqZ (λ o=>by simp);have hcv:=Rq (w.alloc (.cells zs5.toArray 249)) (tx l) (by rw [E7]; omega);have HCV:=hqZ hcv;clear hcv;go_enter Tryz.func133,Tryz.ntmps133;go_wp2_with ((with_reducible refine zw 4 ?_);refine Is rfl (.tmp 3) rfl (s:=tx l) rfl (by rw [E7]; omega) ?_; intro cap w0 hcv hbv hsz);have hbs:Bs w0 (.slice (some ⟨w.heap.size+1,0,none⟩) (tx l).size cap) l:=by
    have:=hcv.sl;rw [HSZ.o] at this;exact Sl.bs this rfl (E7 l).symm
  have hz0:=hbv.size;simp at hz0;have HBV:=hqZ hbv;have HRW:=hqZ (Cy _ l w0 hbs (by omega));clear hcv hbv hsz hbs HCV;go_wp2_with fail;refine HRW.o.mono ?_;rintro e w1 ⟨cs,rfl,h1,h2⟩;have HL:=hqZ h1.length;have HO:=hqZ h1.one;have h1':TvF w1 (λ b=>w.heap.size+1<=b) (.mk 1 0 0 l []) cs:=h1.mono (λ b hb=>by first | omega | (simp only [HSZ.o] at hb; omega) | (simp at hb; omega));have hbw:Below w.heap.size w w1:=(HB0.o.trans (HBV.o.mono (by simp))).trans (h2.mono (by first | omega | (simp; done) | (simp; omega)));have hr1:Blk w1 w.heap.size zs5 249:=(HN.o.below HBV.o (by simp)).below h2 (by omega);have HT:=hqZ h1';have HBW:=hqZ hbw;have HR:=hqZ hr1;clear h1 h1' h2 hbw hr1;go_wp2_with ((with_reducible refine zws 2 5 ?_);refine Af rfl (.tmp 2) (.tmp 5) Aq rfl rfl (vs:=cs) rfl HL.o HR.o (aA _) HO.o ?_);intro w2 h2 k2;have H2:Hq (Blk w2 w.heap.size cs 249):=hqZ (by simpa [zs5] using h2);have HB2:Hq (Below w.heap.size w w2):=hqZ (HBW.o.trans (k2.below (by omega)));have HT2:Hq (TvF w2 (λ b=>w.heap.size<=b) (.mk 1 0 0 l []) cs):=hqZ ((HT.o.keep k2 (λ b hb _ e=>by omega)).mono (λ b hb=>by omega));clear h2 k2;go_wp2_with fail;exact bodyPost_ret (A2 rfl Aq rfl (cs:=cs) HL.o H2.o.cellsAll) rfl ⟨cs,rfl,HT2.o,HB2.o⟩
end Go.Proofs.YtbmjjfhpllpiaaaGreat
