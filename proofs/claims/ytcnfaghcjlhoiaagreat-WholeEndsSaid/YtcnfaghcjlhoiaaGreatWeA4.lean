/- Texts of this proof, one behind the other: DerLaw, DerMk, Base2, OwnZ, MTk, Name, Name2, ConvS, MTk2, Conv. -/
import Derived.Test.YtcnfaghcjlhoiaaGreatWeA1
import Derived.Test.YtcnfaghcjlhoiaaGreatWeA2
import Derived.Test.YtcnfaghcjlhoiaaGreatWeA3
import Derived.Test.YtcnfaghcjlhoiaaGreatProg
import Derived.Lib.OthersKept
import Derived.Lib.RuneCount
import Derived.Lib.BufferRead
import Derived.Lib.ConvBytes
import Derived.ArgAppend
set_option linter.unusedSimpArgs false
set_option linter.unusedVariables false
set_option maxRecDepth 100000
set_option maxHeartbeats 16000000
open Nat renaming le_refl -> aA, add_mul -> aF, le_trans -> aG, zero_add -> aH, zero_mul -> aW, lt_of_lt_of_le -> aX, add_zero -> bA, zero_le -> bB, le_of_eq -> bF, pow_le_pow_right -> bH, mul_pos -> bJ, mul_le_mul_right -> bN, one_mul -> bR
open Go.Proofs.Tryz renaming prog -> aB, func270 -> aO, ntmps270 -> aP, func271 -> aQ, ntmps271 -> aR, underlying27 -> aS, underlying5 -> aT, underlying9 -> aU, underlying312 -> bQ, func231 -> bT, ntmps231 -> bU
open Go.Code renaming wp -> aC
open Go.RowKit.Below renaming refl -> aD
open List renaming length_drop -> aE, getD_eq_getElem?_getD -> aI, getElem?_append_left -> aJ, getElem?_take -> aK, take_of_length_le -> aL, eq_nil_of_length_eq_zero -> aM, map_cons -> aN, length_nil -> aV, length_take -> aY, nil_append -> aZ, drop_append_of_le_length -> bC, drop_of_length_le -> bD, getElem?_cons_zero -> bE, length_append -> bG, take_add -> bI, map_toArray -> bK, map_nil -> bL, getElem?_drop -> bM, append_assoc -> bO, take_append_of_le_length -> bP, flatten_cons -> bS
open Go renaming Value -> bW, World -> bX, TypeId -> bY, Calls -> bZ, Program -> cD, Oper -> cE, Code -> cF
namespace Go.Proofs.YtcnfaghcjlhoiaaGreat
theorem A2l:∀(n:Nat) (bs:Aa) (f:Nat),bs.length=n->0<n->n<=f->(n=1\/bs.getD 0 0≠0)->F5 f (C5 bs)=bs/\(bs.getD 0 0≠0->1<=C5 bs):=by
 intro n;induction n with
 | zero=>intro bs f _ h; omega
 | succ n ih=>
  intro bs f hl _ hf h0;obtain ⟨init,c,rfl⟩:∃init c,bs=init++ [c]:=by
   have hne:bs≠ []:=by intro e; subst e; simp at hl
   exact ⟨bs.dropLast,bs.getLast hne,(List.dropLast_concat_getLast hne).symm⟩
  simp only [bG,List.length_cons,aV] at hl;obtain ⟨f,rfl⟩:∃g,f=g+1:=⟨f-1,by omega⟩
  rw [Jy];have hc:=c.toNat_lt;by_cases hi:init= []
  . subst hi;have h0':C5 []=0:=rfl;rw [h0',aW,aH];refine ⟨?_,λ h=>?_⟩
    . rw [F5,if_pos hc];simp
    . simp at h
      have:c.toNat≠0:=λ e=>h (UInt8.toNat_inj.1 e)
      omega
  . have hip:0<init.length:=List.length_pos_iff.2 hi;have hg:(init++ [c]).getD 0 0=init.getD 0 0:=by
     rw [aI,aI,aJ hip]
    rw [hg] at h0 ⊢;have hne:init.getD 0 0≠0:=by rcases h0 with h | h; omega; exact h
    obtain ⟨h1,h2⟩:=ih init f (by omega) (by omega) (by omega) (.inr hne);have h3:=h2 hne;refine ⟨?_,λ _=>by omega⟩;rw [F5,if_neg (by omega),show (C5 init*256+c.toNat) / 256=C5 init by omega,show (C5 init*256+c.toNat) % 256=c.toNat by omega,h1];simp
theorem Vr (bs:Aa) (h0:0<bs.length) (h8:bs.length<=8) (h:bs.length=1\/bs.getD 0 0≠0):Cd (C5 bs)=bs:=by
 have hlt:=I1 bs;have h256:C5 bs<256 ^ 8:=aX hlt (bH (by decide) h8);rw [Mn _ h256];exact (A2l bs.length bs 8 rfl h0 h8 h).1
theorem A5B (b:Aa) (h:2<=b.length):b.take 2= [b.getD 0 0,b.getD 1 0]:=by
 match b,h with
 | x::y::l,_=>rfl
theorem A2K (c:UInt8):UInt8.ofNat ((((c.toNat / 64:Nat):Int)*64+((c.toNat % 64:Nat):Int)).toNat)=c:=by
 rw [show (((c.toNat / 64:Nat):Int)*64+((c.toNat % 64:Nat):Int)).toNat=c.toNat by omega];simp
theorem Wp {b:Aa} {n a:Nat} (h:Gw b=(n,a,0)):Ef ((b.getD 0 0).toNat / 64:Nat) ((b.getD 0 0).toNat % 64:Nat) n=b.take a:=by
 have hok:=Ol h;have hb2:2<=b.length:=by omega
 have ht2:=A5B b hb2;unfold Gw at h;rw [if_neg (by omega)] at h;have hc1:=(b.getD 1 0).toNat_lt;split at h
 . rename_i hlt;split at h
   . simp at h
   . simp only [Prod.mk.injEq] at h;obtain ⟨rfl,rfl,_⟩:=h;unfold Ef;rw [if_pos hlt,A2K,ht2];simp
 . rename_i hge;split at h
   . simp at h
   . rename_i hbad;split at h
     . simp at h
     . rename_i hlen;split at h
       . simp at h
       . rename_i hmin;split at h
         . simp at h
         . simp only [Prod.mk.injEq] at h;obtain ⟨rfl,rfl,_⟩:=h;generalize hc:(b.getD 1 0).toNat=c at*;have hll:((b.drop 2).take (c-128)).length=c-128:=by rw [aY,aE]; omega
           have hn128:¬C5 ((b.drop 2).take (c-128))<128:=λ hh=>hmin (.inl hh)
           have hsh:Cd (C5 ((b.drop 2).take (c-128)))=(b.drop 2).take (c-128):=by
            refine Vr _ (by omega) (by omega) ?_;rw [hll];rcases (by omega:c=129\/c=130) with rfl | rfl
            . exact .inl rfl
            . refine .inr λ e=>hmin (.inr ⟨rfl,?_⟩)
              match hm:(b.drop 2).take (130-128),hll with
              | [x,y],_=>
               rw [hm] at e;have hx:x=0:=by simpa using e
               subst hx;have hy:=y.toNat_lt;simp [C5];omega
           unfold Ef;have e1:UInt8.ofNat c=b.getD 1 0:=by rw [<-hc]; simp
           rw [if_neg hn128,A2K,hsh,hll,show 128+(c-128)=c by omega,e1,show c-126=2+(c-128) by omega,bI,ht2];simp only [List.cons_append,aZ]
theorem A2e (d T n:Nat) (h:T<=30):A4 (d+1) (.mk 0 (T:Nat) n [] [])=true:=by
 simp [A4];omega
theorem A2f (d T:Nat) (b:Aa) (h:T<=30):A4 (d+1) (.mk 1 (T:Nat) 0 b [])=true:=by
 simp [A4];omega
theorem A2g (d T:Nat) (l:List Tv) (h:T<=30) (hl:l.all (A4 d)=true):A4 (d+1) (.mk 2 (T:Nat) 0 [] l)=true:=by
 rw [A4,hl];simp;omega
def A8c (d:Nat) (b:Aa):Prop:=∀x n,Dj d b=(x,n,0)->Ba x=b.take n/\A4 d x=true/\Nw x/\Lw x
theorem Sg {d:Nat} (hd:∀b:Aa,b.length<=1048576->A8c d b):∀(f:Nat) (b:Aa) (l:List Tv),b.length<=f->b.length<=1048576->Hj (Dj d) f b=(l,0)-> A7 l=b/\(∀x∈l,A4 d x=true/\Nw x/\Lw x)/\l.length<=b.length
 | f, [],l,_,_,h=>by
  rw [Mh] at h;simp only [Prod.mk.injEq,and_true] at h;subst h;exact ⟨rfl,by simp,by simp⟩
 | 0,c::b,l,hf,_,_=>by simp at hf
 | f+1,c::b,l,hf,hb,h=>by
  obtain ⟨x,k,e,hr⟩:∃x k e,Dj d (c::b)=(x,k,e):=⟨_,_,_,rfl⟩
  by_cases he:e=0
  . subst he;have hk:=I9 d _ _ _ hr;rw [Lr (by simp) hr] at h;obtain ⟨l',e',hl'⟩:∃l' e',Hj (Dj d) f ((c::b).drop k)=(l',e'):=⟨_,_,rfl⟩
    rw [hl'] at h;simp only [Prod.mk.injEq] at h;obtain ⟨rfl,rfl⟩:=h;obtain ⟨h1,h2,h3⟩:=Sg hd f _ _ (by rw [aE]; simp at hf hk ⊢; omega) (by rw [aE]; omega) hl';obtain ⟨g1,g2⟩:=hd _ hb _ _ hr;refine ⟨by rw [A7,g1,h1,List.take_append_drop],λ y hy=>?_,by rw [aE] at h3; simp at hk h3 ⊢; omega⟩;rcases List.mem_cons.1 hy with e | hy
    . rw [e]; exact g2
    . exact h2 y hy
  . rw [Mg (by simp) hr he] at h;simp only [Prod.mk.injEq] at h;exact absurd h.2 he
theorem S3:∀(d:Nat) (b:Aa),b.length<=1048576->A8c d b
 | 0,b,_=>λ x n h=>by simp [Dj] at h
 | d+1,b,hb=>by
  intro x n h;obtain ⟨m,a,e,hs⟩:∃m a e,Gw b=(m,a,e):=⟨_,_,_,rfl⟩
  rw [Dj,hs] at h;simp only at h;split at h
  . rename_i he;simp only [Prod.mk.injEq] at h;exact absurd h.2.2 he
  . rename_i he;have he0:e=0:=by simpa using he
    subst he0;have hok:=Ol hs;have hhead:=Wp hs;have hml:((b.drop a).take m).length=m:=by rw [aY,aE]; omega
    have htake:b.take (a+m)=b.take a++(b.drop a).take m:=bI;have hlt:=(b.getD 0 0).toNat_lt;split at h
    . simp at h
    . rename_i hkt;split at h
      . rename_i hk0;split at h
        . simp at h
        . rename_i hgood;simp only [Prod.mk.injEq] at h;obtain ⟨rfl,rfl,_⟩:=h;rw [hk0] at hhead;have hgb:¬(((b.drop a).take m).length=0\/8< ((b.drop a).take m).length):=by
           intro hg;exact hgood (.inl (by unfold Fi; rw [if_pos hg]))
          have hg:Fi ((b.drop a).take m)=(C5 ((b.drop a).take m),true):=by unfold Fi; rw [if_neg hgb]
          have hsh:Cd (C5 ((b.drop a).take m))=(b.drop a).take m:=by
           refine Vr _ (by omega) (by omega) ?_;by_cases hm1:m=1
           . exact .inl (by omega)
           . refine .inr λ e=>hgood (.inr ⟨by omega,?_⟩)
             have e2:((b.drop a).take m).getD 0 0=(b.drop a).getD 0 0:=by rw [aI,aI,aK,if_pos (by omega)]
             rw [e2] at e;exact e
          have hlt8:C5 ((b.drop a).take m)<18446744073709551616:=aX (I1 _) (aG (bH (by decide) (show ((b.drop a).take m).length<=8 by omega)) (by decide));rw [hg];refine ⟨?_,?_,⟨hlt8,trivial⟩,⟨by simp,trivial⟩⟩
          . rw [Ba,Ey,if_pos rfl,hsh,hml,htake];simp only [Int.natCast_zero] at hhead;rw [hhead]
          . exact A2e d _ _ (by omega)
      . rename_i hk0;split at h
        . rename_i hk1;simp only [Prod.mk.injEq] at h;obtain ⟨rfl,rfl,_⟩:=h;rw [hk1] at hhead;refine ⟨?_,?_,⟨by decide,trivial⟩,⟨by simp,trivial⟩⟩
          . rw [Ba,Ey,if_neg (by decide),if_pos rfl,hml,htake];simp only [Int.natCast_one] at hhead;rw [hhead]
          . exact A2f d _ _ (by omega)
        . rename_i hk1;obtain ⟨l,e,hl⟩:∃l e,Hj (Dj d) m ((b.drop a).take m)=(l,e):=⟨_,_,rfl⟩
          rw [hl] at h;simp only at h;split at h
          . rename_i he2;subst he2;simp only [Prod.mk.injEq] at h;obtain ⟨rfl,rfl,_⟩:=h;have hk2:(b.getD 0 0).toNat / 64=2:=by omega
            rw [hk2] at hhead;obtain ⟨g1,g2,g3⟩:=Sg (λ b' hb'=>S3 d b' hb') m _ l (by omega) (by omega) hl;refine ⟨?_,?_,⟨by decide,NsW.of (λ x hx=>(g2 x hx).2.1)⟩,⟨by omega,LsW.of (λ x hx=>(g2 x hx).2.2)⟩⟩
            . rw [Ba,Ey,if_neg (by decide),if_neg (by decide),g1,hml,htake]
              have:((2:Nat):Int)=2:=rfl;rw [this] at hhead;rw [hhead]
            . exact A2g d _ _ (by omega) (List.all_eq_true.2 (λ x hx=>(g2 x hx).1))
          . rename_i he2;simp only [Prod.mk.injEq] at h;exact absurd h.2.2 he2
theorem A0V {b:Aa} {x:Tv} (h:Ff b=(x,0)):wrS x=(b,0)/\Nw x/\Lw x/\A4 8 x=true/\Ba x=b:=by
 unfold Ff at h;split at h
 . simp at h
 . rename_i hl;obtain ⟨v,n,e,hr⟩:∃v n e,Dj 8 b=(v,n,e):=⟨_,_,_,rfl⟩
   rw [hr] at h;simp only at h;split at h
   . rename_i he;simp only [Prod.mk.injEq] at h;exact absurd h.2 he
   . rename_i he;have he0:e=0:=by simpa using he
     subst he0;split at h
     . simp at h
     . rename_i hn;simp only [Prod.mk.injEq,and_true] at h;subst h;obtain ⟨h1,h2,h3,h4⟩:=S3 8 b (by omega) _ _ hr;have hw:Ba v=b:=by rw [h1,aL (by omega)]
       refine ⟨?_,h3,h4,h2,hw⟩;unfold wrS;rw [if_neg (by rw [h2]; decide),hw,if_neg (by omega)]
end Go.Proofs.YtcnfaghcjlhoiaaGreat
/-Contracts of der:Num,Raw,Seq; the law's alive. -/
namespace Go.Proofs.YtcnfaghcjlhoiaaGreat
open Go.RowKit
theorem A1A (n:Nat) (w:bX):bZ aB 186 #[.int .u64 n] w λ e w'=>e=.returned (.agg #[.int .i64 0,.int .i64 0,.int .u64 n,.slice none 0 0,.slice none 0 0])/\Below w.heap.size w w':=by
 go_enter Tryz.func186,Tryz.ntmps186;go_wp2_with fail;have hb:=Blk.new w [.int .i64 0,.int .i64 0,.int .u64 n,.slice none 0 0,.slice none 0 0] 314;exact bodyPost_ret (Az rfl Ak rfl (cs:= [.int .i64 0,.int .i64 0,.int .u64 n,.slice none 0 0,.slice none 0 0]) rfl hb.cellsAll) rfl ⟨rfl,(aD _ _).alloc (aA _) _⟩
theorem Rt (t:Int) (lv:bW) (n c:Nat) (a:Option Addr) (hlv:lv=.slice a n c) (w:bX):bZ aB 213 #[.int .i64 t,lv] w λ e w'=>e=.returned (.agg #[.int .i64 2,.int .i64 t,.int .u64 0,.slice none 0 0,lv])/\Below w.heap.size w w':=by
 subst hlv;go_enter Tryz.func213,Tryz.ntmps213;go_wp2_with fail;have hb:=Blk.new w [.int .i64 2,.int .i64 t,.int .u64 0,.slice none 0 0,.slice a n c] 314;exact bodyPost_ret (Az rfl Ak rfl (cs:= [.int .i64 2,.int .i64 t,.int .u64 0,.slice none 0 0,.slice a n c]) rfl hb.cellsAll) rfl ⟨rfl,(aD _ _).alloc (aA _) _⟩
end Go.Proofs.YtcnfaghcjlhoiaaGreat
namespace Go.Proofs.YtcnfaghcjlhoiaaGreat
open Go.RowKit
theorem J6 {P:cD} (w:bX) (t ty e:bY) (i:TypeInfo) (ht:P.underlying t=some (.slice e)) (hi:P.info? e=some i) (g o sLen sCap:Nat) (cur:Array bW) (hg:w.heap[g]?=some (.cells cur e (0,0))) (a:Addr) (m c:Nat) (news:List bW) (hl:news.length=m*i.size) (hnews:∀j u,news[j]?=some u->w.cell? (a.add j)=some u) (h1:∀u∈news,u.oneCell'=true) (hroom:sLen+m<=sCap) (hfit:o+sLen*i.size+news.length<=cur.size): (Builtin.append_ #[t,t] ty #[.slice (some ⟨g,o,none⟩) sLen sCap,.slice (some a) m c]).run P w= .ok (.slice (some ⟨g,o,none⟩) (sLen+m) sCap) (w.setRow g (cur.toList.take (o+sLen*i.size)++news++cur.toList.drop (o+sLen*i.size+news.length)).toArray):=by
 have hf:=run_firstCells_some (P:=P) w i.size m a m c news hl hnews;have hst:=run_storeCells_at P g (o+sLen*i.size) e news 0 cur w hg (by simpa using hfit) h1;simp only [bA] at hst;simp [Builtin.append_,run_underlying ht,sizeOf,typeInfo,hi,Builtin.lenOf,hroom,hf,Addr.add_lit,hst]
theorem Qa {P:cD} {w:bX} {t ty e:bY} {size bytes:Nat} {z:bW} (hE:Cp P t e size bytes z) {x:bW} {m:Nat} {ds:List bW} (hsl:Sl w size x m ds) (h63:m<=maxLen) (hbytes:m*bytes<=140737488355328): ∃v' w',(Builtin.append_ #[t,t] ty #[.slice none 0 0,x]).run P w=.ok v' w'/\Own w' w.heap.size e size v' m ds/\Ai (λ k=>w.heap.size<=k) w w'/\(∀b,v'.ownBlock=some b->w.heap.size<=b/\b<w'.heap.size):=by
 obtain ⟨ht,i,hi,hz,hsize,hby,hzs,hsz⟩:=hE;obtain ⟨hdl,hd1,a,c,rfl,hmc,hcm,hanone,hat⟩:=hsl;by_cases hm0:m=0
 . subst hm0;obtain rfl:ds= []:=aM (by rw [hdl,aW]);have hfc:(Builtin.firstCells size 0 (.slice a 0 c)).run P w=.ok #[] w:=by
    cases a <;> simp [Builtin.firstCells,loadCells,loadCellsFrom]
   refine ⟨.slice none 0 0,w,?_,Own.nil _ _ _ _ _,Ai.refl _ _,by simp [bW.ownBlock]⟩;simp [Builtin.append_,run_underlying ht,sizeOf,typeInfo,hi,Builtin.lenOf,hsize,hfc,storeCells]
 . have hdpos:0<ds.length:=by rw [hdl]; exact bJ (by omega) hsz
   obtain ⟨b,off,rfl,hcell⟩:∃b off,a=some ⟨b,off,none⟩/\∀j u,ds[j]?=some u->w.cell? ⟨b,off+j,none⟩=some u:=by
    rcases hat with h | h
    . subst h; simp at hdpos
    . exact h
   have hnews:∀j u,ds[j]?=some u->w.cell? ((⟨b,off,none⟩:Addr).add j)=some u:=λ j u hj=>by rw [Addr.add_lit]; exact hcell j u hj
   obtain ⟨v',w',hr,h1,h2,_⟩:=run_append_own (P:=P) w w.heap.size t ty e i z size bytes ht hi hz hsize hby hzs hsz (.slice none 0 0) 0 [] (bX.ownsRow_nil w _ e size) ⟨b,off,none⟩ m c ds hdl hnews hd1 (by omega) (by rw [aH]; exact hbytes) (aA _);have h1':w'.ownsRow w.heap.size e size v' m ds:=by simpa using h1
   exact ⟨v',w',hr,Own.of_row h1' hd1,(Ai.refl _ _).grown h2 (λ k hk=>hk) (λ k hk=>by cases hk),λ b hb=>h1'.lt b hb⟩
theorem Xp {P:cD} {ops:Array cE} {o:cE} {a:Act} {w:bX} {K:Act->bX->Prop} {Q:Exit->Act->bX->Prop} {E:Prop} (hgd:o.guard=none) (s x:Operand) {t e:bY} {size bytes:Nat} {z:bW} (hE:Cp P t e size bytes z) (ho:o.op=.call { callee:=.builtin .append,args:=#[s,x],argTypes:=#[t,t] }) (hv:a.eval s=.slice none 0 0) {u:bW} (hu:a.eval x=u) {m:Nat} {ds:List bW} (hsl:Sl w size u m ds) (h63:m<=maxLen) (hbytes:m*bytes<=140737488355328) (h:∀v' w',Own w' w.heap.size e size v' m ds->Ai (λ k=>w.heap.size<=k) w w'->(∀b,v'.ownBlock=some b->w.heap.size<=b/\b<w'.heap.size)->K (a.put o.dst v') w'): if Region.wanted o (yielded ops a.tmps)=true then cE.wp P o a w K Q else E:=by
 have hw:Region.wanted o (yielded ops a.tmps)=true:=by simp [Region.wanted,hgd]
 rw [if_pos hw];obtain ⟨v',w',hr,h2,h3,h4⟩:=Qa (P:=P) (ty:=o.type) hE hsl h63 hbytes;unfold cE.wp execOp;simp only [ho,resolve,invoke,builtin,Sem.run_bind,Sem.run_pure,Result.andThen_ok,bK,aN,bL,hv,hu,hr];exact h v' w' h2 h3 h4
theorem A6K {P:cD} {ops:Array cE} {o:cE} {a:Act} {w:bX} {K:Act->bX->Prop} {Q:Exit->Act->bX->Prop} {E:Prop} (hgd:o.guard=none) (d s:Operand) {dT sT e:bY} {bytes:Nat} {z:bW} (hE:Cp P dT e 1 bytes z) (ho:o.op=.call { callee:=.builtin .copy,args:=#[d,s],argTypes:=#[dT,sT] }) {g off dLen dCap:Nat} {cur:List bW} {T:bY} (hb:Blk w g cur T) (hd:a.eval d=.slice (some ⟨g,off,none⟩) dLen dCap) {u:bW} (hu:a.eval s=u) {n:Nat} {cs:List bW} (hsl:Sl w 1 u n cs) (hfit:off+min n dLen<=cur.length) (h:∀w',Blk w' g (cur.take off++cs.take (min n dLen)++cur.drop (off+min n dLen)) T->Ai (λ k=>k=g) w w'->K (a.put o.dst (.int .i64 (min n dLen:Nat))) w'): if Region.wanted o (yielded ops a.tmps)=true then cE.wp P o a w K Q else E:=by
 have hw:Region.wanted o (yielded ops a.tmps)=true:=by simp [Region.wanted,hgd]
 rw [if_pos hw];obtain ⟨w',hr,h2,h3⟩:=A5t (P:=P) (sT:=sT) (ty:=o.type) hE hb (dLen:=dLen) (dCap:=dCap) hsl hfit;unfold cE.wp execOp;simp only [ho,resolve,invoke,builtin,Sem.run_bind,Sem.run_pure,Result.andThen_ok,bK,aN,bL,hd,hu,hr];exact h w' h2 h3
def Jf (w:bX) (B:Nat) (e:bY) (sz:Nat) (v:bW) (n:Nat) (cs:List bW):Prop:=
 cs.length=n*sz/\(∀u∈cs,u.oneCell'=true)/\
 ((∃a,v=.slice a 0 0/\n=0)\/
  ∃g o cap cur,v=.slice (some ⟨g,o,none⟩) n cap/\B<=g/\w.heap[g]?=some (.cells cur e (0,0))/\n<=cap/\cap<=maxLen/\cur.size=o+cap*sz/\(cur.toList.drop o).take (n*sz)=cs)
theorem Jf.of_own {w:bX} {B:Nat} {e:bY} {sz:Nat} {v:bW} {n:Nat} {cs:List bW} (h:Own w B e sz v n cs):Jf w B e sz v n cs:=by
 obtain ⟨h0,h1,h2 | ⟨g,cap,cur,hv,h2,h3,h4,h5,h6,h7⟩⟩:=h
 . exact ⟨h0,h1,.inl h2⟩
 . exact ⟨h0,h1,.inr ⟨g,0,cap,cur,hv,h2,h3,h4,h5,by omega,by simpa using h7⟩⟩
theorem Jf.sl {w:bX} {B:Nat} {e:bY} {sz:Nat} {v:bW} {n:Nat} {cs:List bW} (h:Jf w B e sz v n cs):Sl w sz v n cs:=by
 obtain ⟨h0,h1,⟨a,rfl,rfl⟩ | ⟨g,o,cap,cur,rfl,h2,h3,h4,h5,h6,h7⟩⟩:=h
 . exact ⟨h0,h1,a,0,rfl,aA _,bB _,λ _=>rfl,.inl (aM (by simpa using h0))⟩
 . refine ⟨h0,h1,_,cap,rfl,h4,h5,λ h=>by simp at h,.inr ⟨g,o,rfl,λ j u hj=>?_⟩⟩;have hjl:j<n*sz:=by have:=(List.getElem?_eq_some_iff.1 hj).1; omega
   rw [<-h7,aK,if_pos hjl,bM] at hj;rw [cell_of_row w g (o+j) cur e (0,0) h3,<-Array.getElem?_toList];exact hj
theorem Jf.base {w:bX} {B B':Nat} {e:bY} {sz:Nat} {v:bW} {n:Nat} {cs:List bW} (h:Jf w B e sz v n cs) (hB:B'<=B):Jf w B' e sz v n cs:=by
 obtain ⟨h0,h1,h2 | ⟨g,o,cap,cur,hv,h2,hr⟩⟩:=h
 . exact ⟨h0,h1,.inl h2⟩
 . exact ⟨h0,h1,.inr ⟨g,o,cap,cur,hv,by omega,hr⟩⟩
theorem Jf.keep {w w':bX} {B:Nat} {e:bY} {sz:Nat} {v:bW} {n:Nat} {cs:List bW} {S:Nat->Prop} (h:Jf w B e sz v n cs) (hk:Ai S w w') (hb:∀b,v.ownBlock=some b->¬S b):Jf w' B e sz v n cs:=by
 obtain ⟨h0,h1,h2 | ⟨g,o,cap,cur,rfl,h2,h3,hr⟩⟩:=h
 . exact ⟨h0,h1,.inl h2⟩
 . exact ⟨h0,h1,.inr ⟨g,o,cap,cur,rfl,h2,(hk.block g (hb g rfl)).trans h3,hr⟩⟩
theorem Jf.form {w:bX} {B:Nat} {e:bY} {sz:Nat} {v:bW} {n:Nat} {cs:List bW} (h:Jf w B e sz v n cs) (hn:0<n):∃g o cap,v=.slice (some ⟨g,o,none⟩) n cap/\B<=g/\n<=cap/\cap<=maxLen/\g<w.heap.size:=by
 obtain ⟨h0,h1,⟨a,rfl,rfl⟩ | ⟨g,o,cap,cur,rfl,h2,h3,h4,h5,h6,h7⟩⟩:=h
 . omega
 . exact ⟨g,o,cap,rfl,h2,h4,h5,Hg h3⟩
def G6 (g o cap i sz:Nat):Option Addr:=if cap=i then some ⟨g,o,none⟩ else some ⟨g,o+i*sz,none⟩
theorem A4v (g o cap i sz n c:Nat):(bW.slice (G6 g o cap i sz) n c).ownBlock=some g:=by
 unfold G6;split <;> rfl
theorem Np {P:cD} {t e:bY} {sz:Nat} (ht:P.underlying t=some (.slice e)) (hs:∀w,(sizeOf e).run P w=.ok sz w) (g o n cap i:Nat) (hi:i<=n) (hc:n<=cap) (W:bX): (Instr.sliceAt t (.slice (some ⟨g,o,none⟩) n cap) (some (.int .i64 i)) none none).run P W=.ok (.slice (G6 g o cap i sz) (n-i) (cap-i)) W:=by
 have h2:¬((i:Int)<0):=by omega
 have h3:¬(n<i):=by omega
 by_cases h:cap=i
 . subst h;simp [Instr.sliceAt,Instr.slice,Instr.sliceBounds,Instr.sliceBound,run_underlying ht,asIntOf,hs,h2,h3,hi,G6]
 . have h5:¬cap-i=0:=by omega
   have h6:¬cap<=i:=by omega
   simp [Instr.sliceAt,Instr.slice,Instr.sliceBounds,Instr.sliceBound,run_underlying ht,asIntOf,hs,h2,h3,hi,G6,h,h5,h6,Addr.add_lit]
theorem A0s {P:cD} {w:bX} {t ty e:bY} {size bytes:Nat} {z:bW} (hE:Cp P t e size bytes z) {B:Nat} {v:bW} {n:Nat} {cs:List bW} (hown:Jf w B e size v n cs) {x:bW} {m:Nat} {ds:List bW} (hsl:Sl w size x m ds) (hm0:0<m) (h63:n+m<=maxLen) (hbytes:(n+m)*bytes<=140737488355328) (hbase:B<=w.heap.size): ∃v' w',(Builtin.append_ #[t,t] ty #[v,x]).run P w=.ok v' w'/\Jf w' B e size v' (n+m) (cs++ds)/\Ai (λ k=>v.ownBlock=some k/\B<=k\/w.heap.size<=k) w w'/\(∀b,v'.ownBlock=some b->(v.ownBlock=some b\/w.heap.size<=b)/\b<w'.heap.size):=by
 suffices hh:∃v' w',(Builtin.append_ #[t,t] ty #[v,x]).run P w=.ok v' w'/\Jf w' B e size v' (n+m) (cs++ds)/\Ai (λ k=>v.ownBlock=some k/\B<=k\/w.heap.size<=k) w w'/\(∀b,v'.ownBlock=some b->v.ownBlock=some b\/w.heap.size<=b) by
  obtain ⟨v',w',h1,h2,h3,h4⟩:=hh;refine ⟨v',w',h1,h2,h3,λ b hb=>⟨h4 b hb,?_⟩⟩;obtain ⟨g,o,cap,rfl,_,_,_,hl⟩:=h2.form (by omega);simp [bW.ownBlock] at hb;omega
 have hE':=hE;obtain ⟨ht,i,hi,hz,hsize,hby,hzs,hsz⟩:=hE;obtain ⟨hcl,hc1,⟨a0,rfl,rfl⟩ | ⟨g,o,cap,cur,rfl,hbg,hg,hnc,hcm',hcs,htake⟩⟩:=hown
 . obtain rfl:cs= []:=aM (by simpa using hcl);obtain ⟨v',w',h1,h2,h3,h4⟩:=Ra (ty:=ty) hE' (Own.nil w B e size a0) hsl h63 hbytes hbase;exact ⟨v',w',h1,Jf.of_own h2,h3,h4⟩
 . obtain ⟨hdl,hd1,a,c,rfl,hmc,hcm,hanone,hat⟩:=hsl;have hall:∀u∈cs++ds,u.oneCell'=true:=by
    intro u hu;rcases List.mem_append.1 hu with h | h
    . exact hc1 u h
    . exact hd1 u h
   have hdp:0<ds.length:=by rw [hdl]; exact bJ hm0 hsz
   obtain ⟨b,off,rfl,hcell⟩:∃b off,a=some ⟨b,off,none⟩/\∀j u,ds[j]?=some u->w.cell? ⟨b,off+j,none⟩=some u:=by
    rcases hat with h | h
    . subst h; simp at hdp
    . exact h
   have hnews:∀j u,ds[j]?=some u->w.cell? ((⟨b,off,none⟩:Addr).add j)=some u:=λ j u hj=>by rw [Addr.add_lit]; exact hcell j u hj
   by_cases hroom:n+m<=cap
   . have hmul:(n+m)*size<=cap*size:=bN _ hroom;rw [aF] at hmul;have hr:=J6 (P:=P) (ty:=ty) w t e i ht hi g o n cap cur hg ⟨b,off,none⟩ m c ds (by rw [hsize]; exact hdl) hnews hd1 hroom (by rw [hsize]; omega);rw [hsize] at hr;refine ⟨_,_,hr,⟨by simp [hcl,hdl,aF],hall,.inr ⟨g,o,cap,_,rfl,hbg,setRow_heap w g cur _ e _ hg,by omega,hcm',?_,?_⟩⟩,(Ai.refl _ _).setRow (.inl ⟨rfl,hbg⟩) _,λ b h=>.inl h⟩
     . simp only [List.size_toArray,bG,aY,aE,Array.length_toList];omega
     . have e1:(cur.toList.take (o+n*size)).drop o=cs:=by
        rw [<-htake,List.drop_take,show o+n*size-o=n*size by omega]
       have e2:o<=(cur.toList.take (o+n*size)).length:=by simp; omega
       simp only [bO];rw [bC e2,e1,<-bO,bP (by simp [hcl,hdl,aF]),aL (by simp [hcl,hdl,aF])]
   . have holds:∀j u,cs[j]?=some u->w.cell? ((⟨g,o,none⟩:Addr).add j)=some u:=by
      intro j u hj;have hjl:j<n*size:=by have:=(List.getElem?_eq_some_iff.1 hj).1; omega
      rw [<-htake,aK,if_pos hjl,bM] at hj;rw [Addr.add_lit,cell_of_row w g (o+j) cur e (0,0) hg,<-Array.getElem?_toList];exact hj
     obtain ⟨v',w',hr,h1,h2⟩:=run_append_arg_grows (P:=P) w t ty e i z size bytes ht hi hz hsize hby hzs hsz ⟨g,o,none⟩ n cap cs hcl holds ⟨b,off,none⟩ m c ds hdl hnews (by omega) h63 hbytes;exact ⟨v',w',hr,Jf.of_own ((Own.of_row h1 hall).base hbase),(Ai.refl _ _).grown h2 (λ k hk=>Or.inr hk) (by simp),λ b hb=>.inr (h1.lt b hb).1⟩
def Res.ownZ (e:bY) (sz:Nat) (v:bW) (n:Nat) (cs:List bW):Res where
 holds W F:=Jf W 0 e sz v n cs/\(∀b,v.ownBlock=some b->b<W.heap.size)/\∀b,F b↔v.ownBlock=some b
 frame:=by
  rintro W W' F S ⟨h,hl,hf⟩ hk hs;exact ⟨h.keep hk (λ b hb=>hs b ((hf b).2 hb)),λ b hb=>aX (hl b hb) hk.size,hf⟩
 lt:=by
  rintro W F b ⟨h,hl,hf⟩ hb;exact hl b ((hf b).1 hb)
theorem Ad.ownZOf {W:bX} {l:List Res} (h:Ad W l) {e:bY} {sz n:Nat} {v:bW} {cs:List bW} (hm:Res.ownZ e sz v n cs∈l):Jf W 0 e sz v n cs:=by
 obtain ⟨F,hr⟩:=h.get hm;exact hr.1
theorem Ad.ownToZ {W:bX} {e:bY} {sz n:Nat} {v:bW} {cs:List bW} {l:List Res} (h:Ad W (.own e sz v n cs::l)):Ad W (.ownZ e sz v n cs::l):=
 h.weaken λ F hF=>⟨F,⟨Jf.of_own hF.1,hF.2⟩,λ _ h=>h⟩
theorem Ad.appendZ {W W':bX} {l:List Res} {e:bY} {sz n:Nat} {v:bW} {cs:List bW} (h:Ad W (.ownZ e sz v n cs::l)) {v':bW} {n':Nat} {cs':List bW} {B:Nat} (hr:Jf W' B e sz v' n' cs') (hk:Ai (λ k=>v.ownBlock=some k/\B<=k\/W.heap.size<=k) W W') (hv:∀b,v'.ownBlock=some b->(v.ownBlock=some b\/W.heap.size<=b)/\b<W'.heap.size):Ad W' (.ownZ e sz v' n' cs'::l):=by
 refine h.turn λ F hF=>⟨λ k=>v'.ownBlock=some k,⟨hr.base (bB _),λ b hb=>(hv b hb).2,λ _=>Iff.rfl⟩,λ b hb=>?_,hk.mono λ k hk=>?_⟩
 . rcases (hv b hb).1 with h | h
   . exact .inl ((hF.2.2 b).2 h)
   . exact .inr h
 . rcases hk with h | h
   . exact .inl ((hF.2.2 k).2 h.1)
   . exact .inr h
theorem Sl.tailZ {w:bX} {sz b o n cap:Nat} {cs:List bW} (h:Sl w sz (.slice (some ⟨b,o,none⟩) n cap) n cs) (i:Nat) (hi:i<=n): Sl w sz (.slice (G6 b o cap i sz) (n-i) (cap-i)) (n-i) (cs.drop (i*sz)):=by
 obtain ⟨a,c,e,h3,h4⟩:=h.form;have hl:=h.1;simp only [bW.slice.injEq,true_and] at e;obtain ⟨rfl,rfl⟩:=e;unfold G6;split
 . rename_i hc;have hn:n-i=0:=by omega
   rw [hn,show cap-i=0 by omega,bD (by rw [hl]; exact bN _ (by omega))];exact Sl.nil _ _ _
 . have:=h.sub i (n-i) (cap-i) (by omega) (by omega) (by omega);rw [aL (by rw [aE,hl,Nat.sub_mul]; exact aA _)] at this;exact this
theorem T1 {P:cD} {ops:Array cE} {rest:List cE} {o:cE} {a:Act} {w:bX} {Q:Exit->Act->bX->Prop} (hgd:Region.wanted o (yielded ops a.tmps)=true) {v:bW} (hr:(execOp a.eval o).run P w=.ok (.value v) w) (h:wpList P ops Q rest (a.put o.dst v) w):wpList P ops Q (o::rest) a w:=by
 refine Bh hgd λ K hK=>?_
 unfold cE.wp;rw [hr];exact hK _ _ h
theorem Po {P:cD} {o:cE} {a:Act} {W:bX} {t:bY} {x:Operand} {lo hi mx:Option Operand} (ho:o.op=.slice t x lo hi mx) {v:bW} (hr:(Instr.sliceAt t (a.eval x) (lo.map a.eval) (hi.map a.eval) (mx.map a.eval)).run P W=.ok v W): (execOp a.eval o).run P W=.ok (.value v) W:=by
 unfold execOp;simp only [ho,Sem.run_bind,Sem.run_pure,hr,Result.andThen_ok]
theorem A7l:∀w,(sizeOf 314).run aB w=.ok 5 w:=by
 intro w;obtain ⟨_,i,hi,_,hs,_⟩:=Hs;simp [sizeOf,typeInfo,hi,hs]
def Tk (w:bX) (F:Nat->Prop) (p:Nat) (rem:List Tv) (bad:Bool):Prop:=
 ∃lv rows,Blk w p [lv,.bool bad] 449/\Sl w 5 lv rem.length rows/\(0<rem.length->∀x,lv.ownBlock=some x->F x)/\Db w F rem rows/\¬F p
theorem Tk.lt {w:bX} {F:Nat->Prop} {p:Nat} {rem:List Tv} {bad:Bool} (h:Tk w F p rem bad):p<w.heap.size:=by
 obtain ⟨lv,rows,h1,_⟩:=h;exact h1.lt
theorem Tk.below {w w':bX} {F:Nat->Prop} {p:Nat} {rem:List Tv} {bad:Bool} (h:Tk w F p rem bad) (hb:Below w.heap.size w w'):Tk w' F p rem bad:=by
 obtain ⟨lv,rows,h1,h2,h3,h4,h5⟩:=h;exact ⟨lv,rows,h1.below hb h1.lt,h2.below hb,h3,h4.below hb,h5⟩
theorem Tk.keep {w w':bX} {F S:Nat->Prop} {p:Nat} {rem:List Tv} {bad:Bool} (h:Tk w F p rem bad) (hk:Ai S w w') (hs:∀b,F b->b<w.heap.size->¬S b) (hp:¬S p):Tk w' F p rem bad:=by
 obtain ⟨lv,rows,h1,h2,h3,h4,h5⟩:=h;exact ⟨lv,rows,h1.keep hk hp,h2.keepF hk h3 hs,h3,h4.keep hk hs,h5⟩
def Bt (k:Int) (rem:List Tv) (bad:Bool):Tv×List Tv×Bool:=
 match rem with
 | []=>(.zero, [],true)
 | x::r=>if x.kind=k/\x.tag=0 then (x,r,bad) else (.zero, [],true)
def Es (t:Int) (rem:List Tv) (bad:Bool):Tv×List Tv×Bool:=
 match rem with
 | []=>(.zero, [],true)
 | x::r=>if x.kind=2/\x.tag=t then (x,r,bad) else (.zero, [],true)
def A6Y (w:bX) (F:Nat->Prop) (p:Nat) (r:Tv×List Tv×Bool) (e:Ending) (w':bX):Prop:=
 ∃cs,e=.returned (.agg cs.toArray)/\TvF w' F r.1 cs/\Tk w' F p r.2.1 r.2.2/\Ai (λ b=>b=p\/w.heap.size<=b) w w'
theorem Iu (x:Tv) (F:Nat->Prop) (cs:List bW) (w:bX) (h:TvF w F x cs) (hF:∀b,F b->b<w.heap.size): bZ aB 224 #[.agg cs.toArray] w λ e w'=>∃p,e=.returned (.pointer (some ⟨p,0,none⟩))/\Tk w' F p x.l false/\Below w.heap.size w w'/\w.heap.size<=p:=by
 obtain ⟨bv,lv,rows,rfl,h1,h2,h3,h4,h5⟩:=h.open_;obtain ⟨a,c,rfl,hc,hm⟩:=h3.form;obtain ⟨a1,c1,rfl,hc1,hm1⟩:=h1.form;have H3:=Ab h3;have H4:=Ab h4;have H5:=Ab h5;clear h h1 h2 h3 h4 h5;go_enter Tryz.func224,Tryz.ntmps224;go_wp2_with fail;go_ret;have hb:Below w.heap.size w ((w.alloc (.cells [.int .i64 x.kind,.int .i64 x.tag,.int .u64 (x.n:Int),.slice a1 x.b.length c1,.slice a x.l.length c].toArray 314)).alloc (.cells [.slice a x.l.length c,.bool false].toArray 449)):=
  ((aD _ _).alloc (aA _) _).alloc (by simp) _
 refine ⟨w.heap.size+1,rfl,⟨_,rows,Blk.at_ (by simp),H3.o.below hb,H4.o,H5.o.below hb,λ h=>?_⟩,hb,by omega⟩
 have:=hF _ h;omega
theorem Ly (k:Int) (rem:List Tv) (bad:Bool) (p:Nat) (F:Nat->Prop) (w:bX) (h:Tk w F p rem bad): bZ aB 270 #[.pointer (some ⟨p,0,none⟩),.int .i64 k] w (A6Y w F p (Bt k rem bad)):=by
 obtain ⟨lv,rows,h1,h2,h3,h4,h5⟩:=h;obtain ⟨a,cap,rfl,hcap,hm⟩:=h2.form;unfold maxLen at hm;have hpl:=h1.lt;obtain ⟨W0,hW0⟩:∃W0,W0=w.alloc (.cells zs5.toArray 314):=⟨_,rfl⟩
 obtain ⟨q,hq⟩:∃q,q=w.heap.size:=⟨_,rfl⟩
 have hn0:Blk W0 q zs5 314:=by rw [hW0,hq]; exact Blk.new _ _ _
 have HQS:=Ab hq;have hqp:q≠p:=by omega
 have HPQ:Hq (p≠q):=Ab (by omega);have hend:∀W:bX,Ai (λ b=>b=p\/w.heap.size<=b) w W->Blk W p [.slice none 0 0,.bool true] 449->Tk W F p [] true:=
  λ W hk hb=>⟨_, [],hb,Sl.nil _ _ _,by simp,rfl,h5⟩
 have HEND:=Ab hend;have HK0:Hq (Ai (λ b=>b=p\/w.heap.size<=b) w W0):=Ab (by rw [hW0]; exact (Ai.refl _ _).alloc _ (.inr (aA _)));have hB0:Below w.heap.size w W0:=by rw [hW0]; exact (aD _ _).alloc (aA _) _
 replace h1:=h1.below hB0 hpl;have c0:=h1.cell 0;have f0:=h1.frozen 0;have f1:=h1.frozen 1;have c1:W0.cell? ⟨p,1,none⟩=some (.bool bad):=h1.cell 1;simp only [bE] at c0;have H2:=Ab (h2.below hB0);have H3:=Ab h3;have H4:=Ab h4;have H2w:=Ab h2;have H5:=Ab h5;clear hend h3 h5 h4 h2
 cases rem with
 | nil=>
  have HR:Hq (Bt k [] bad=(.zero, [],true)):=Ab rfl;simp only [aV] at*;obtain ⟨W2,hW2⟩:∃W2,W2=(W0.setCell ⟨p,1,none⟩ (.bool true)).setCell ⟨p,0,none⟩ (.slice none 0 0):=⟨_,rfl⟩
  have HP2:Hq (Blk W2 p [.slice none 0 0,.bool true] 449):=Ab (by rw [hW2]; exact (h1.set 1 (.bool true)).set 0 (.slice none 0 0));have HQ2:Hq (Blk W2 q zs5 314):=Ab (by rw [hW2]; exact (hn0.set_other (p:=⟨p,1,none⟩) hqp _).set_other (p:=⟨p,0,none⟩) hqp _);have HK2:Hq (Ai (λ b=>b=p\/w.heap.size<=b) w W2):=Ab (by rw [hW2]; exact (HK0.o.setCell (p:=⟨p,1,none⟩) (.inl rfl) _).setCell (p:=⟨p,0,none⟩) (.inl rfl) _);clear h1 hn0;go_enter aO,aP;go_upto_region 1 with fail;show aC _ _ _ _ (w.alloc (.cells zs5.toArray 314))
  rw [<-hW0,<-hq];clear hW0 hq;go_upto_region 3 with fail;show aC _ _ _ _ ((W0.setCell ⟨p,1,none⟩ (.bool true)).setCell ⟨p,0,none⟩ (.slice none 0 0))
  rw [<-hW2];clear hW2;go_wp2_with ((with_reducible refine zws 4 39 ?_);refine Ag rfl (.tmp 4) (.tmp 39) Ak rfl rfl (vs:=zs5) rfl rfl HQ2.o (aA _) (by intro u hu; simp [zs5] at hu; rcases hu with rfl | rfl | rfl <;> rfl) ?_);intro w3 h3 k3;have H3':Hq (Blk w3 q zs5 314):=Ab (by simpa [zs5] using h3);have HK3:Hq (Ai (λ b=>b=p\/w.heap.size<=b) w w3):=Ab (HK2.o.trans (k3.mono (λ b hb=>.inr (by rw [hb,HQS.o]; exact aA _))));have HP3:=Ab (HP2.o.keep k3 HPQ.o);clear h3 k3;go_wp2_with fail;rw [HR.o];exact bodyPost_ret (Az rfl Ak rfl (cs:=zs5) rfl H3'.o.cellsAll) rfl ⟨_,rfl,TvF.zero _ _,HEND.o w3 HK3.o HP3.o,HK3.o⟩
 | cons x r=>
  obtain ⟨r0,rs,e,hx,hr⟩:=H4.o;subst e;have hlen:((x::r).length:Int)=(r.length:Int)+1:=by simp
  have hln:(x::r).length=r.length+1:=rfl;obtain ⟨bv,lv2,rows2,e,hb1,hb2,hb3,hb4,hb5⟩:=hx.open_;obtain ⟨b,off,rfl,hc⟩:=H2.o.addr (by rw [H2.o.1,hln]; omega);have cK:=hc 0 (.int .i64 x.kind) (by simp [e]);have cT:=hc 1 (.int .i64 x.tag) (by simp [e]);have hC5:Ao W0 b off r0:=λ j u hj=>hc j u (by rw [aJ (List.getElem?_eq_some_iff.1 hj).1]; exact hj)
  have HC5:=Ab hC5;have HL5:=Ab hx.length;have HX:=Ab hx;have HRS:=Ab hr;have HB3:=Ab (H3.o (by simp) b rfl);simp only [bA] at cK;have hlz:((((x::r).length:Nat):Int)==0)=false:=by simp; omega
  have hlp:0< (x::r).length:=by simp
  clear hc hC5 hx hr e hb1 hb2 hb3 hb4 hb5;by_cases hk:x.kind=k
  . by_cases ht:x.tag=0
    . have HR:Hq (Bt k (x::r) bad=(x,r,bad)):=Ab (by unfold Bt; exact if_pos ⟨hk,ht⟩);rw [hk] at cK;rw [ht] at cT;obtain ⟨q1,hq1⟩:∃q1,q1=W0.heap.size:=⟨_,rfl⟩
      have HG:Hq (Blk (W0.alloc (.cells zs5.toArray 314)) W0.heap.size zs5 314):=Ab (Blk.new _ _ _);have HK1:Hq (Ai (λ b=>b=p\/w.heap.size<=b) w (W0.alloc (.cells zs5.toArray 314))):=Ab (HK0.o.alloc _ (.inr hB0.size));have HP1:Hq (Blk (W0.alloc (.cells zs5.toArray 314)) p [.slice (some ⟨b,off,none⟩) (x::r).length cap,.bool bad] 449):=Ab (h1.alloc _);have HQ1:Hq (Blk (W0.alloc (.cells zs5.toArray 314)) q zs5 314):=Ab (hn0.alloc _);have hqlt:=hn0.lt;have HNE:Hq (p≠W0.heap.size/\q≠W0.heap.size/\w.heap.size<=W0.heap.size):=Ab ⟨by have:=h1.lt; omega,by omega,hB0.size⟩;have HON:=Ab HX.o.one;have HSL:Hq (∀W,(Instr.sliceAt 312 (.slice (some ⟨b,off,none⟩) (r.length+1) cap) (some (.int .i64 1)) none none).run aB W=.ok (.slice (G6 b off cap 1 5) r.length (cap-1)) W):=Ab (λ W=>Np bQ A7l b off (r.length+1) cap 1 (by omega) (by simpa using hcap) W);have HSR:Hq (Sl w 5 (.slice (G6 b off cap 1 5) r.length (cap-1)) r.length rs):=Ab (by
       have h:=H2w.o.tailZ 1 (by simp);rw [bR,bC (by rw [HL5.o]; exact aA _),bD (by rw [HL5.o]; exact aA _),aZ] at h;exact h)
      have hFR:0<r.length->∀y,(bW.slice (G6 b off cap 1 5) r.length (cap-1)).ownBlock=some y->F y:=λ _ y hy=>by
       have:b=y:=by
        unfold G6 at hy;split at hy <;> simpa [bW.ownBlock] using hy
       rw [<-this]; exact HB3.o
      have HFR:=Ab hFR;have hBF:F b:=HB3.o;have hbp:b≠p:=λ e=>H5.o (by rw [<-e]; exact hBF)
      rw [show (x::r).length=r.length+1 from rfl] at c0;clear hcap hn0 h1 hlz hlen hln hFR hlp hqlt;go_enter aO,aP;go_upto_region 1 with fail;show aC _ _ _ _ (w.alloc (.cells zs5.toArray 314))
      rw [<-hW0,<-hq];clear hW0 hq;go_wp2_with (first | ((with_reducible refine zw 45 ?_);refine Aj rfl (.tmp 44) Ak rfl rfl (cs:=r0) HL5.o HC5.o ?_) | ((with_reducible refine zws 5 45 ?_);refine Ag rfl (.tmp 5) (.tmp 45) Ak rfl rfl (vs:=r0) rfl HL5.o HG.o (aA _) HON.o ?_));intro w4 h4 k4;have H4':Hq (Blk w4 W0.heap.size r0 314):=Ab (by simpa [zs5] using h4);have HK4:Hq (Ai (λ b=>b=p\/w.heap.size<=b) w w4):=Ab (HK1.o.trans (k4.mono (λ b hb=>.inr (by rw [hb]; exact HNE.o.2.2))));have hp4:=HP1.o.keep k4 HNE.o.1;have HQ4:=Ab (HQ1.o.keep k4 HNE.o.2.1);have c40:w4.cell? ⟨p,0,none⟩=some (.slice (some ⟨b,off,none⟩) (r.length+1) cap):=hp4.cell 0;have f40:=hp4.frozen 0;obtain ⟨W5,hW5⟩:∃W5,W5=w4.setCell ⟨p,0,none⟩ (.slice (G6 b off cap 1 5) r.length (cap-1)):=⟨_,rfl⟩
      have HP5:Hq (Blk W5 p [.slice (G6 b off cap 1 5) r.length (cap-1),.bool bad] 449):=Ab (by rw [hW5]; exact hp4.set 0 _);have HK5:Hq (Ai (λ b=>b=p\/w.heap.size<=b) w W5):=Ab (by rw [hW5]; exact HK4.o.setCell (p:=⟨p,0,none⟩) (.inl rfl) _);have HQ5:Hq (Blk W5 q zs5 314):=Ab (by rw [hW5]; exact HQ4.o.set_other (p:=⟨p,0,none⟩) hqp _);have HV5:Hq (Blk W5 W0.heap.size r0 314):=Ab (by rw [hW5]; exact H4'.o.set_other (p:=⟨p,0,none⟩) (λ e=>HNE.o.1 e.symm) _);clear h4 k4 hp4;rw [<-hq1] at*;go_upto_region 6 with ((with_reducible refine zw 51 ?_);refine T1 rfl (Po rfl (HSL.o _)) ?_);show aC _ _ _ _ (w4.setCell ⟨p,0,none⟩ (.slice (G6 b off cap 1 5) r.length (cap-1)))
      rw [<-hW5];clear hW5;go_wp2_with (first | ((with_reducible refine zw 54 ?_);refine Aj rfl (.tmp 5) Ak rfl rfl (cs:=r0) HL5.o HV5.o.cellsAll ?_) | ((with_reducible refine zws 4 54 ?_);refine Ag rfl (.tmp 4) (.tmp 54) Ak rfl rfl (vs:=r0) rfl HL5.o HQ5.o (aA _) HON.o ?_));intro w6 h6 k6;have H6:Hq (Blk w6 q r0 314):=Ab (by simpa [zs5] using h6);have HK6:Hq (Ai (λ b=>b=p\/w.heap.size<=b) w w6):=Ab (HK5.o.trans (k6.mono (λ b hb=>.inr (by rw [hb,HQS.o]; exact aA _))));have HP6:=Ab (HP5.o.keep k6 HPQ.o);clear h6 k6;go_wp2_with fail;rw [HR.o];have hs:∀y,F y->y<w.heap.size->¬(y=p\/w.heap.size<=y):=λ y hy hl h=>by
       rcases h with h | h
       . exact H5.o (by rw [<-h]; exact hy)
       . omega
      exact bodyPost_ret (Az rfl Ak rfl (cs:=r0) HL5.o H6.o.cellsAll) rfl ⟨r0,rfl,HX.o.keep HK6.o hs,⟨_,rs,HP6.o,HSR.o.keepF HK6.o HFR.o hs,HFR.o,HRS.o.keep HK6.o hs,H5.o⟩,HK6.o⟩
    . have HR:Hq (Bt k (x::r) bad=(.zero, [],true)):=Ab (by unfold Bt; exact if_neg (λ h=>ht h.2));have htb:(x.tag !=0)=true:=by simpa using ht
      rw [hk] at cK;generalize x.tag=xt at*;generalize (x::r).length=N at*;clear hlen hln ht;obtain ⟨W2,hW2⟩:∃W2,W2=(W0.setCell ⟨p,1,none⟩ (.bool true)).setCell ⟨p,0,none⟩ (.slice none 0 0):=⟨_,rfl⟩
      have HP2:Hq (Blk W2 p [.slice none 0 0,.bool true] 449):=Ab (by rw [hW2]; exact (h1.set 1 (.bool true)).set 0 (.slice none 0 0));have HQ2:Hq (Blk W2 q zs5 314):=Ab (by rw [hW2]; exact (hn0.set_other (p:=⟨p,1,none⟩) hqp _).set_other (p:=⟨p,0,none⟩) hqp _);have HK2:Hq (Ai (λ b=>b=p\/w.heap.size<=b) w W2):=Ab (by rw [hW2]; exact (HK0.o.setCell (p:=⟨p,1,none⟩) (.inl rfl) _).setCell (p:=⟨p,0,none⟩) (.inl rfl) _);clear h1 hn0;go_enter aO,aP;go_upto_region 1 with fail;show aC _ _ _ _ (w.alloc (.cells zs5.toArray 314))
      rw [<-hW0,<-hq];clear hW0 hq;go_upto_region 3 with fail;show aC _ _ _ _ ((W0.setCell ⟨p,1,none⟩ (.bool true)).setCell ⟨p,0,none⟩ (.slice none 0 0))
      rw [<-hW2];clear hW2;go_wp2_with ((with_reducible refine zws 4 39 ?_);refine Ag rfl (.tmp 4) (.tmp 39) Ak rfl rfl (vs:=zs5) rfl rfl HQ2.o (aA _) (by intro u hu; simp [zs5] at hu; rcases hu with rfl | rfl | rfl <;> rfl) ?_);intro w3 h3 k3;have H3':Hq (Blk w3 q zs5 314):=Ab (by simpa [zs5] using h3);have HK3:Hq (Ai (λ b=>b=p\/w.heap.size<=b) w w3):=Ab (HK2.o.trans (k3.mono (λ b hb=>.inr (by rw [hb,HQS.o]; exact aA _))));have HP3:=Ab (HP2.o.keep k3 HPQ.o);clear h3 k3;go_wp2_with fail;rw [HR.o];exact bodyPost_ret (Az rfl Ak rfl (cs:=zs5) rfl H3'.o.cellsAll) rfl ⟨_,rfl,TvF.zero _ _,HEND.o w3 HK3.o HP3.o,HK3.o⟩
  . have HR:Hq (Bt k (x::r) bad=(.zero, [],true)):=Ab (by unfold Bt; exact if_neg (λ h=>hk h.1));have hkb:(x.kind !=k)=true:=by simpa using hk
    generalize x.kind=xk at*;generalize (x::r).length=N at*;clear hlen hln hk;obtain ⟨W2,hW2⟩:∃W2,W2=(W0.setCell ⟨p,1,none⟩ (.bool true)).setCell ⟨p,0,none⟩ (.slice none 0 0):=⟨_,rfl⟩
    have HP2:Hq (Blk W2 p [.slice none 0 0,.bool true] 449):=Ab (by rw [hW2]; exact (h1.set 1 (.bool true)).set 0 (.slice none 0 0));have HQ2:Hq (Blk W2 q zs5 314):=Ab (by rw [hW2]; exact (hn0.set_other (p:=⟨p,1,none⟩) hqp _).set_other (p:=⟨p,0,none⟩) hqp _);have HK2:Hq (Ai (λ b=>b=p\/w.heap.size<=b) w W2):=Ab (by rw [hW2]; exact (HK0.o.setCell (p:=⟨p,1,none⟩) (.inl rfl) _).setCell (p:=⟨p,0,none⟩) (.inl rfl) _);clear h1 hn0;go_enter aO,aP;go_upto_region 1 with fail;show aC _ _ _ _ (w.alloc (.cells zs5.toArray 314))
    rw [<-hW0,<-hq];clear hW0 hq;go_upto_region 3 with fail;show aC _ _ _ _ ((W0.setCell ⟨p,1,none⟩ (.bool true)).setCell ⟨p,0,none⟩ (.slice none 0 0))
    rw [<-hW2];clear hW2;go_wp2_with ((with_reducible refine zws 4 39 ?_);refine Ag rfl (.tmp 4) (.tmp 39) Ak rfl rfl (vs:=zs5) rfl rfl HQ2.o (aA _) (by intro u hu; simp [zs5] at hu; rcases hu with rfl | rfl | rfl <;> rfl) ?_);intro w3 h3 k3;have H3':Hq (Blk w3 q zs5 314):=Ab (by simpa [zs5] using h3);have HK3:Hq (Ai (λ b=>b=p\/w.heap.size<=b) w w3):=Ab (HK2.o.trans (k3.mono (λ b hb=>.inr (by rw [hb,HQS.o]; exact aA _))));have HP3:=Ab (HP2.o.keep k3 HPQ.o);clear h3 k3;go_wp2_with fail;rw [HR.o];exact bodyPost_ret (Az rfl Ak rfl (cs:=zs5) rfl H3'.o.cellsAll) rfl ⟨_,rfl,TvF.zero _ _,HEND.o w3 HK3.o HP3.o,HK3.o⟩
theorem A5k (k:Int) (rem:List Tv) (bad:Bool) (p:Nat) (F:Nat->Prop) (w:bX) (h:Tk w F p rem bad): bZ aB 271 #[.pointer (some ⟨p,0,none⟩),.int .i64 k] w (A6Y w F p (Es k rem bad)):=by
 obtain ⟨lv,rows,h1,h2,h3,h4,h5⟩:=h;obtain ⟨a,cap,rfl,hcap,hm⟩:=h2.form;unfold maxLen at hm;have hpl:=h1.lt;obtain ⟨W0,hW0⟩:∃W0,W0=w.alloc (.cells zs5.toArray 314):=⟨_,rfl⟩
 obtain ⟨q,hq⟩:∃q,q=w.heap.size:=⟨_,rfl⟩
 have hn0:Blk W0 q zs5 314:=by rw [hW0,hq]; exact Blk.new _ _ _
 have HQS:=Ab hq;have hqp:q≠p:=by omega
 have HPQ:Hq (p≠q):=Ab (by omega);have hend:∀W:bX,Ai (λ b=>b=p\/w.heap.size<=b) w W->Blk W p [.slice none 0 0,.bool true] 449->Tk W F p [] true:=
  λ W hk hb=>⟨_, [],hb,Sl.nil _ _ _,by simp,rfl,h5⟩
 have HEND:=Ab hend;have HK0:Hq (Ai (λ b=>b=p\/w.heap.size<=b) w W0):=Ab (by rw [hW0]; exact (Ai.refl _ _).alloc _ (.inr (aA _)));have hB0:Below w.heap.size w W0:=by rw [hW0]; exact (aD _ _).alloc (aA _) _
 replace h1:=h1.below hB0 hpl;have c0:=h1.cell 0;have f0:=h1.frozen 0;have f1:=h1.frozen 1;have c1:W0.cell? ⟨p,1,none⟩=some (.bool bad):=h1.cell 1;simp only [bE] at c0;have H2:=Ab (h2.below hB0);have H3:=Ab h3;have H4:=Ab h4;have H2w:=Ab h2;have H5:=Ab h5;clear hend h3 h5 h4 h2
 cases rem with
 | nil=>
  have HR:Hq (Es k [] bad=(.zero, [],true)):=Ab rfl;simp only [aV] at*;obtain ⟨W2,hW2⟩:∃W2,W2=(W0.setCell ⟨p,1,none⟩ (.bool true)).setCell ⟨p,0,none⟩ (.slice none 0 0):=⟨_,rfl⟩
  have HP2:Hq (Blk W2 p [.slice none 0 0,.bool true] 449):=Ab (by rw [hW2]; exact (h1.set 1 (.bool true)).set 0 (.slice none 0 0));have HQ2:Hq (Blk W2 q zs5 314):=Ab (by rw [hW2]; exact (hn0.set_other (p:=⟨p,1,none⟩) hqp _).set_other (p:=⟨p,0,none⟩) hqp _);have HK2:Hq (Ai (λ b=>b=p\/w.heap.size<=b) w W2):=Ab (by rw [hW2]; exact (HK0.o.setCell (p:=⟨p,1,none⟩) (.inl rfl) _).setCell (p:=⟨p,0,none⟩) (.inl rfl) _);clear h1 hn0;go_enter aQ,aR;go_upto_region 1 with fail;show aC _ _ _ _ (w.alloc (.cells zs5.toArray 314))
  rw [<-hW0,<-hq];clear hW0 hq;go_upto_region 3 with fail;show aC _ _ _ _ ((W0.setCell ⟨p,1,none⟩ (.bool true)).setCell ⟨p,0,none⟩ (.slice none 0 0))
  rw [<-hW2];clear hW2;go_wp2_with ((with_reducible refine zws 4 39 ?_);refine Ag rfl (.tmp 4) (.tmp 39) Ak rfl rfl (vs:=zs5) rfl rfl HQ2.o (aA _) (by intro u hu; simp [zs5] at hu; rcases hu with rfl | rfl | rfl <;> rfl) ?_);intro w3 h3 k3;have H3':Hq (Blk w3 q zs5 314):=Ab (by simpa [zs5] using h3);have HK3:Hq (Ai (λ b=>b=p\/w.heap.size<=b) w w3):=Ab (HK2.o.trans (k3.mono (λ b hb=>.inr (by rw [hb,HQS.o]; exact aA _))));have HP3:=Ab (HP2.o.keep k3 HPQ.o);clear h3 k3;go_wp2_with fail;rw [HR.o];exact bodyPost_ret (Az rfl Ak rfl (cs:=zs5) rfl H3'.o.cellsAll) rfl ⟨_,rfl,TvF.zero _ _,HEND.o w3 HK3.o HP3.o,HK3.o⟩
 | cons x r=>
  obtain ⟨r0,rs,e,hx,hr⟩:=H4.o;subst e;have hlen:((x::r).length:Int)=(r.length:Int)+1:=by simp
  have hln:(x::r).length=r.length+1:=rfl;obtain ⟨bv,lv2,rows2,e,hb1,hb2,hb3,hb4,hb5⟩:=hx.open_;obtain ⟨b,off,rfl,hc⟩:=H2.o.addr (by rw [H2.o.1,hln]; omega);have cK:=hc 0 (.int .i64 x.kind) (by simp [e]);have cT:=hc 1 (.int .i64 x.tag) (by simp [e]);have hC5:Ao W0 b off r0:=λ j u hj=>hc j u (by rw [aJ (List.getElem?_eq_some_iff.1 hj).1]; exact hj)
  have HC5:=Ab hC5;have HL5:=Ab hx.length;have HX:=Ab hx;have HRS:=Ab hr;have HB3:=Ab (H3.o (by simp) b rfl);simp only [bA] at cK;have hlz:((((x::r).length:Nat):Int)==0)=false:=by simp; omega
  have hlp:0< (x::r).length:=by simp
  clear hc hC5 hx hr e hb1 hb2 hb3 hb4 hb5;by_cases hk:x.kind=2
  . by_cases ht:x.tag=k
    . have HR:Hq (Es k (x::r) bad=(x,r,bad)):=Ab (by unfold Es; exact if_pos ⟨hk,ht⟩);rw [hk] at cK;rw [ht] at cT;obtain ⟨q1,hq1⟩:∃q1,q1=W0.heap.size:=⟨_,rfl⟩
      have HG:Hq (Blk (W0.alloc (.cells zs5.toArray 314)) W0.heap.size zs5 314):=Ab (Blk.new _ _ _);have HK1:Hq (Ai (λ b=>b=p\/w.heap.size<=b) w (W0.alloc (.cells zs5.toArray 314))):=Ab (HK0.o.alloc _ (.inr hB0.size));have HP1:Hq (Blk (W0.alloc (.cells zs5.toArray 314)) p [.slice (some ⟨b,off,none⟩) (x::r).length cap,.bool bad] 449):=Ab (h1.alloc _);have HQ1:Hq (Blk (W0.alloc (.cells zs5.toArray 314)) q zs5 314):=Ab (hn0.alloc _);have hqlt:=hn0.lt;have HNE:Hq (p≠W0.heap.size/\q≠W0.heap.size/\w.heap.size<=W0.heap.size):=Ab ⟨by have:=h1.lt; omega,by omega,hB0.size⟩;have HON:=Ab HX.o.one;have HSL:Hq (∀W,(Instr.sliceAt 312 (.slice (some ⟨b,off,none⟩) (r.length+1) cap) (some (.int .i64 1)) none none).run aB W=.ok (.slice (G6 b off cap 1 5) r.length (cap-1)) W):=Ab (λ W=>Np bQ A7l b off (r.length+1) cap 1 (by omega) (by simpa using hcap) W);have HSR:Hq (Sl w 5 (.slice (G6 b off cap 1 5) r.length (cap-1)) r.length rs):=Ab (by
       have h:=H2w.o.tailZ 1 (by simp);rw [bR,bC (by rw [HL5.o]; exact aA _),bD (by rw [HL5.o]; exact aA _),aZ] at h;exact h)
      have hFR:0<r.length->∀y,(bW.slice (G6 b off cap 1 5) r.length (cap-1)).ownBlock=some y->F y:=λ _ y hy=>by
       have:b=y:=by
        unfold G6 at hy;split at hy <;> simpa [bW.ownBlock] using hy
       rw [<-this]; exact HB3.o
      have HFR:=Ab hFR;have hBF:F b:=HB3.o;have hbp:b≠p:=λ e=>H5.o (by rw [<-e]; exact hBF)
      rw [show (x::r).length=r.length+1 from rfl] at c0;clear hcap hn0 h1 hlz hlen hln hFR hlp hqlt;go_enter aQ,aR;go_upto_region 1 with fail;show aC _ _ _ _ (w.alloc (.cells zs5.toArray 314))
      rw [<-hW0,<-hq];clear hW0 hq;go_wp2_with (first | ((with_reducible refine zw 45 ?_);refine Aj rfl (.tmp 44) Ak rfl rfl (cs:=r0) HL5.o HC5.o ?_) | ((with_reducible refine zws 5 45 ?_);refine Ag rfl (.tmp 5) (.tmp 45) Ak rfl rfl (vs:=r0) rfl HL5.o HG.o (aA _) HON.o ?_));intro w4 h4 k4;have H4':Hq (Blk w4 W0.heap.size r0 314):=Ab (by simpa [zs5] using h4);have HK4:Hq (Ai (λ b=>b=p\/w.heap.size<=b) w w4):=Ab (HK1.o.trans (k4.mono (λ b hb=>.inr (by rw [hb]; exact HNE.o.2.2))));have hp4:=HP1.o.keep k4 HNE.o.1;have HQ4:=Ab (HQ1.o.keep k4 HNE.o.2.1);have c40:w4.cell? ⟨p,0,none⟩=some (.slice (some ⟨b,off,none⟩) (r.length+1) cap):=hp4.cell 0;have f40:=hp4.frozen 0;obtain ⟨W5,hW5⟩:∃W5,W5=w4.setCell ⟨p,0,none⟩ (.slice (G6 b off cap 1 5) r.length (cap-1)):=⟨_,rfl⟩
      have HP5:Hq (Blk W5 p [.slice (G6 b off cap 1 5) r.length (cap-1),.bool bad] 449):=Ab (by rw [hW5]; exact hp4.set 0 _);have HK5:Hq (Ai (λ b=>b=p\/w.heap.size<=b) w W5):=Ab (by rw [hW5]; exact HK4.o.setCell (p:=⟨p,0,none⟩) (.inl rfl) _);have HQ5:Hq (Blk W5 q zs5 314):=Ab (by rw [hW5]; exact HQ4.o.set_other (p:=⟨p,0,none⟩) hqp _);have HV5:Hq (Blk W5 W0.heap.size r0 314):=Ab (by rw [hW5]; exact H4'.o.set_other (p:=⟨p,0,none⟩) (λ e=>HNE.o.1 e.symm) _);clear h4 k4 hp4;rw [<-hq1] at*;go_upto_region 6 with ((with_reducible refine zw 51 ?_);refine T1 rfl (Po rfl (HSL.o _)) ?_);show aC _ _ _ _ (w4.setCell ⟨p,0,none⟩ (.slice (G6 b off cap 1 5) r.length (cap-1)))
      rw [<-hW5];clear hW5;go_wp2_with (first | ((with_reducible refine zw 54 ?_);refine Aj rfl (.tmp 5) Ak rfl rfl (cs:=r0) HL5.o HV5.o.cellsAll ?_) | ((with_reducible refine zws 4 54 ?_);refine Ag rfl (.tmp 4) (.tmp 54) Ak rfl rfl (vs:=r0) rfl HL5.o HQ5.o (aA _) HON.o ?_));intro w6 h6 k6;have H6:Hq (Blk w6 q r0 314):=Ab (by simpa [zs5] using h6);have HK6:Hq (Ai (λ b=>b=p\/w.heap.size<=b) w w6):=Ab (HK5.o.trans (k6.mono (λ b hb=>.inr (by rw [hb,HQS.o]; exact aA _))));have HP6:=Ab (HP5.o.keep k6 HPQ.o);clear h6 k6;go_wp2_with fail;rw [HR.o];have hs:∀y,F y->y<w.heap.size->¬(y=p\/w.heap.size<=y):=λ y hy hl h=>by
       rcases h with h | h
       . exact H5.o (by rw [<-h]; exact hy)
       . omega
      exact bodyPost_ret (Az rfl Ak rfl (cs:=r0) HL5.o H6.o.cellsAll) rfl ⟨r0,rfl,HX.o.keep HK6.o hs,⟨_,rs,HP6.o,HSR.o.keepF HK6.o HFR.o hs,HFR.o,HRS.o.keep HK6.o hs,H5.o⟩,HK6.o⟩
    . have HR:Hq (Es k (x::r) bad=(.zero, [],true)):=Ab (by unfold Es; exact if_neg (λ h=>ht h.2));have htb:(x.tag !=k)=true:=by simpa using ht
      rw [hk] at cK;generalize x.tag=xt at*;generalize (x::r).length=N at*;clear hlen hln ht;obtain ⟨W2,hW2⟩:∃W2,W2=(W0.setCell ⟨p,1,none⟩ (.bool true)).setCell ⟨p,0,none⟩ (.slice none 0 0):=⟨_,rfl⟩
      have HP2:Hq (Blk W2 p [.slice none 0 0,.bool true] 449):=Ab (by rw [hW2]; exact (h1.set 1 (.bool true)).set 0 (.slice none 0 0));have HQ2:Hq (Blk W2 q zs5 314):=Ab (by rw [hW2]; exact (hn0.set_other (p:=⟨p,1,none⟩) hqp _).set_other (p:=⟨p,0,none⟩) hqp _);have HK2:Hq (Ai (λ b=>b=p\/w.heap.size<=b) w W2):=Ab (by rw [hW2]; exact (HK0.o.setCell (p:=⟨p,1,none⟩) (.inl rfl) _).setCell (p:=⟨p,0,none⟩) (.inl rfl) _);clear h1 hn0;go_enter aQ,aR;go_upto_region 1 with fail;show aC _ _ _ _ (w.alloc (.cells zs5.toArray 314))
      rw [<-hW0,<-hq];clear hW0 hq;go_upto_region 3 with fail;show aC _ _ _ _ ((W0.setCell ⟨p,1,none⟩ (.bool true)).setCell ⟨p,0,none⟩ (.slice none 0 0))
      rw [<-hW2];clear hW2;go_wp2_with ((with_reducible refine zws 4 39 ?_);refine Ag rfl (.tmp 4) (.tmp 39) Ak rfl rfl (vs:=zs5) rfl rfl HQ2.o (aA _) (by intro u hu; simp [zs5] at hu; rcases hu with rfl | rfl | rfl <;> rfl) ?_);intro w3 h3 k3;have H3':Hq (Blk w3 q zs5 314):=Ab (by simpa [zs5] using h3);have HK3:Hq (Ai (λ b=>b=p\/w.heap.size<=b) w w3):=Ab (HK2.o.trans (k3.mono (λ b hb=>.inr (by rw [hb,HQS.o]; exact aA _))));have HP3:=Ab (HP2.o.keep k3 HPQ.o);clear h3 k3;go_wp2_with fail;rw [HR.o];exact bodyPost_ret (Az rfl Ak rfl (cs:=zs5) rfl H3'.o.cellsAll) rfl ⟨_,rfl,TvF.zero _ _,HEND.o w3 HK3.o HP3.o,HK3.o⟩
  . have HR:Hq (Es k (x::r) bad=(.zero, [],true)):=Ab (by unfold Es; exact if_neg (λ h=>hk h.1));have hkb:(x.kind !=2)=true:=by simpa using hk
    generalize x.kind=xk at*;generalize (x::r).length=N at*;clear hlen hln hk;obtain ⟨W2,hW2⟩:∃W2,W2=(W0.setCell ⟨p,1,none⟩ (.bool true)).setCell ⟨p,0,none⟩ (.slice none 0 0):=⟨_,rfl⟩
    have HP2:Hq (Blk W2 p [.slice none 0 0,.bool true] 449):=Ab (by rw [hW2]; exact (h1.set 1 (.bool true)).set 0 (.slice none 0 0));have HQ2:Hq (Blk W2 q zs5 314):=Ab (by rw [hW2]; exact (hn0.set_other (p:=⟨p,1,none⟩) hqp _).set_other (p:=⟨p,0,none⟩) hqp _);have HK2:Hq (Ai (λ b=>b=p\/w.heap.size<=b) w W2):=Ab (by rw [hW2]; exact (HK0.o.setCell (p:=⟨p,1,none⟩) (.inl rfl) _).setCell (p:=⟨p,0,none⟩) (.inl rfl) _);clear h1 hn0;go_enter aQ,aR;go_upto_region 1 with fail;show aC _ _ _ _ (w.alloc (.cells zs5.toArray 314))
    rw [<-hW0,<-hq];clear hW0 hq;go_upto_region 3 with fail;show aC _ _ _ _ ((W0.setCell ⟨p,1,none⟩ (.bool true)).setCell ⟨p,0,none⟩ (.slice none 0 0))
    rw [<-hW2];clear hW2;go_wp2_with ((with_reducible refine zws 4 39 ?_);refine Ag rfl (.tmp 4) (.tmp 39) Ak rfl rfl (vs:=zs5) rfl rfl HQ2.o (aA _) (by intro u hu; simp [zs5] at hu; rcases hu with rfl | rfl | rfl <;> rfl) ?_);intro w3 h3 k3;have H3':Hq (Blk w3 q zs5 314):=Ab (by simpa [zs5] using h3);have HK3:Hq (Ai (λ b=>b=p\/w.heap.size<=b) w w3):=Ab (HK2.o.trans (k3.mono (λ b hb=>.inr (by rw [hb,HQS.o]; exact aA _))));have HP3:=Ab (HP2.o.keep k3 HPQ.o);clear h3 k3;go_wp2_with fail;rw [HR.o];exact bodyPost_ret (Az rfl Ak rfl (cs:=zs5) rfl H3'.o.cellsAll) rfl ⟨_,rfl,TvF.zero _ _,HEND.o w3 HK3.o HP3.o,HK3.o⟩
theorem Nd {α:Type} {n:Nat} (f:α->List bW) (hf:∀x,(f x).length=n):∀(l:List α) (k j:Nat) (h:k<l.length),j<n->((l.map f).flatten)[k*n+j]?=(f l[k])[j]?
 | [],k,j,h,_=>by simp at h
 | x::l,0,j,h,hj=>by
  simp only [aN,bS,aW,aH,List.getElem_cons_zero];rw [aJ (by rw [hf]; exact hj)]
 | x::l,k+1,j,h,hj=>by
  simp only [aN,bS,List.getElem_cons_succ];rw [List.getElem?_append_right (by rw [hf,aF]; omega),hf,show (k+1)*n+j-n=k*n+j by rw [aF]; omega];exact Nd f hf l k j (by simpa using h) hj
abbrev Sp:=Int×Int
def Sp.cells (x:Sp):List bW:= [.int .i32 x.1,.int .i32 x.2]
def Mp (l:List Sp):List bW:=(l.map Sp.cells).flatten
def Sp.has (r:Int) (x:Sp):Bool:=decide (x.1<=r)&&decide (r<=x.2)
def inB (r:Int) (l:List Sp):Bool:=l.any (Sp.has r)
theorem A4L (r:Int) (v:bW) (l:List Sp) (w:bX) (h:Sl w 2 v l.length (Mp l)): bZ aB 161 #[.int .i32 r,v] w λ e w'=>e=.returned (.bool (inB r l))/\Below w.heap.size w w':=by
 obtain ⟨a,cap,rfl,hcap,hcm⟩:=h.form;unfold maxLen at hcm;have HS:=Ab h;have hcl:(Mp l).length=l.length*2:=h.1;clear h;go_enter Tryz.func161,Tryz.ntmps161;go_wp2_with fail;go_loopw [9] (λ i wr=>∃k:Nat,k<=l.length/\i=.int .i64 k/\(l.take k).any (Sp.has r)=false/\Below w.heap.size w wr) (λ i _=>l.length- (intOf i).toNat)
 case atStart=>exact ⟨0,bB _,rfl,rfl,aD _ _⟩
 case round=>
  obtain ⟨k,hk,rfl,hno,hB⟩:=hrel;have HNO:=Ab hno;have HB:=Ab hB;clear hno hB;by_cases hlt:k<l.length
  . have hlt1:(k:Int)< (l.length:Int):=by omega
    obtain ⟨b,off,rfl,hcell⟩:=HS.o.addr (by omega);have c0:wr.cell? ⟨b,off+k*2,none⟩=some (.int .i32 l[k].1):=Bj HB.o (hcell _ _ (Nd (n:=2) Sp.cells (λ _=>rfl) l k 0 hlt (by omega)));have c1:wr.cell? ⟨b,off+k*2+1,none⟩=some (.int .i32 l[k].2):=Bj HB.o (hcell _ _ (Nd (n:=2) Sp.cells (λ _=>rfl) l k 1 hlt (by omega)));clear hcell;have HN:Hq (Sp.has r l[k]=false->(l.take (k+1)).any (Sp.has r)=false):=Ab (by
     intro h;rw [List.take_succ_eq_append_getElem hlt,List.any_append,HNO.o];simp [h])
    have HY:Hq (Sp.has r l[k]=true->inB r l=true):=Ab (by
     intro h;exact List.any_eq_true.2 ⟨l[k],List.getElem_mem hlt,h⟩)
    have hB':∀o,Below w.heap.size w (wr.alloc o):=λ o=>HB.o.alloc HB.o.size o
    have HBA:=Ab hB';clear hB';have HE:Hq (Sp.has r l[k]=(decide (l[k].1<=r)&&decide (r<=l[k].2))):=Ab rfl;generalize l[k]=x at*;obtain ⟨lo,hi⟩:=x;by_cases h1:lo<=r
    . by_cases h2:r<=hi
      . go_wp2_with fail;go_ret;rw [HY.o (by rw [HE.o]; simp [h1,h2])];exact ⟨rfl,HBA.o _⟩
      . go_wp2_with fail;go_roundw
        case rel=>exact ⟨k+1,by omega,by go_num,HN.o (by rw [HE.o]; simp [h2]),HBA.o _⟩
        case measure=>simp [intOf]; omega
    . go_wp2_with fail;go_roundw
      case rel=>exact ⟨k+1,by omega,by go_num,HN.o (by rw [HE.o]; simp [h1]),HBA.o _⟩
      case measure=>simp [intOf]; omega
  . obtain rfl:k=l.length:=by omega
    go_wp2_with fail;go_ret;have h:=HNO.o;rw [List.take_length] at h;rw [show inB r l=false from h];exact ⟨rfl,HB.o⟩
def A6n:List Sp:= [(97,122),(224,246),(248,254),(945,961),(963,969),(1072,1103)]
def A6x:List Sp:= [(48,57),(45,45)]
def A6m (r:Int):Bool:=inB r A6n
def A7M (r:Int):Bool:=inB r A6x
theorem Sl.spans {w:bX} {cs:Array bW} {T:bY} {b:Nat} (l:List Sp) (hb:w.heap.size=b) (hc:cs.toList=Mp l) (hl:(Mp l).length=l.length*2) (h1:∀u∈Mp l,u.oneCell'=true) (hn:l.length<=maxLen): Sl (w.alloc (.cells cs T)) 2 (.slice (some ⟨b,0,none⟩) l.length l.length) l.length (Mp l):=by
 have:=Sl.lit (w:=w) (cs:=cs) (T:=T) (sz:=2) (n:=l.length) hb (by rw [hc]; exact hl) (by rw [hc]; exact h1) hn;rw [hc] at this;exact this
theorem A1S (r:Int) (w:bX): bZ aB 160 #[.int .i32 r] w λ e w'=>e=.returned (.bool (A6m r))/\Below w.heap.size w w':=by
 go_enter Tryz.func160,Tryz.ntmps160;go_wp2_with fail;refine (A4L r _ A6n _ (Sl.spans A6n rfl rfl rfl (by decide) (by decide))).mono ?_;rw [show inB r A6n=A6m r from rfl];rintro e w1 ⟨rfl,hb1⟩;have HB:=Ab (((aD w.heap.size w).alloc (aA _) _).trans (hb1.mono (by simp)));clear hb1;go_wp2_with fail;go_ret;exact ⟨rfl,HB.o⟩
def rsF (s:ByteArray):Nat->Nat->List (Nat×Int)
 | 0,_=> []
 | f+1,p=>if p<s.size then (p,((Utf8.decode s p).1:Int))::rsF s f (p+(Utf8.decode s p).2) else []
def rs (s:ByteArray) (p:Nat):List (Nat×Int):=rsF s (s.size-p) p
theorem A0q (s:ByteArray):∀(f f' p:Nat),s.size<=p+f->s.size<=p+f'->rsF s f p=rsF s f' p
 | 0,0,_,_,_=>rfl
 | 0,f'+1,p,h,_=>by simp [rsF,show ¬p<s.size from by omega]
 | f+1,0,p,_,h=>by simp [rsF,show ¬p<s.size from by omega]
 | f+1,f'+1,p,h,h'=>by
  by_cases hp:p<s.size
  . have:=Lib.decode_width_pos s p hp;simp only [rsF,if_pos hp];rw [A0q s f f' _ (by omega) (by omega)]
  . simp [rsF,hp]
theorem A6F (s:ByteArray) (p:Nat) (h:p<s.size):rs s p=(p,((Utf8.decode s p).1:Int))::rs s (p+(Utf8.decode s p).2):=by
 have:=Lib.decode_width_pos s p h;unfold rs;obtain ⟨f,hf⟩:∃f,s.size-p=f+1:=⟨s.size-p-1,by omega⟩
 rw [hf];simp only [rsF,if_pos h];rw [A0q s f (s.size- (p+(Utf8.decode s p).2)) _ (by omega) (by omega)]
theorem A7U (s:ByteArray) (p:Nat) (h:¬p<s.size):rs s p= []:=by
 unfold rs;rw [show s.size-p=0 from by omega];rfl
def It (w:bX) (k:Nat) (s:ByteArray) (p:Nat):Prop:=w.heap[k]?=some (.stringIter s p)
theorem It.pos {w:bX} {k:Nat} {s:ByteArray} {p:Nat} (h:It w k s p):w.iterPos k=p:=by simp [bX.iterPos,show w.heap[k]?=_ from h]
theorem It.lt {w:bX} {k:Nat} {s:ByteArray} {p:Nat} (h:It w k s p):k<w.heap.size:=Hg h
theorem It.below {w w':bX} {k B:Nat} {s:ByteArray} {p:Nat} (h:It w k s p) (hb:Below B w w') (hk:k<B):It w' k s p:=(hb.block k hk).trans h
theorem It.next {P:cD} {w0 wr:bX} {k B:Nat} {s:ByteArray} {pos:Nat} (h:It wr k s pos) (hp:pos<s.size) (hB:Below B w0 wr) (hk:B<=k): ∃W,(∀ty,(Instr.next (.pointer (some ⟨k,0,none⟩)) true ty).run P wr=.ok (.tuple #[.bool true,.int .i64 pos,.int .i32 (Utf8.decode s pos).1]) W)/\It W k s (pos+(Utf8.decode s pos).2)/\Below B w0 W/\Ai (λ j=>j=k) wr W:=
 ⟨_,λ ty=>Lib.run_next_any_at wr k s pos ty h hp,Lib.iterAt_heap wr k s pos _ h,Lib.below_iterAt hB hk s _,
  ⟨rfl,rfl,rfl,by rw [Lib.iterAt_size]; exact aA _,λ j hj=>Lib.iterAt_other wr k j s _ hj⟩⟩
def Iq:List (Nat×Int)->Nat->Bool
 | [],n=>decide (1<=n)&&decide (n<=16)
 | (i,r)::l,n=>if A6m r then Iq l (n+1) else if i=0 then false else if A7M r then Iq l (n+1) else false
def Au (s:ByteArray):Bool:=Iq (rs s 0) 0
theorem Mm (s:ByteArray) (w:bX) (hs:s.size<=maxLen): bZ aB 108 #[.string s] w λ e w'=>e=.returned (.bool (Au s))/\Below w.heap.size w w':=by
 unfold maxLen at hs;go_enter Tryz.func108,Tryz.ntmps108;go_wp2_with fail;go_loopw [3] (λ n wr=>∃(pos q:Nat),n=.int .i64 q/\It wr w.heap.size s pos/\q<=pos/\Below w.heap.size w wr/\Iq (rs s pos) q=Au s) (λ _ wr=>s.size-wr.iterPos w.heap.size)
 case atStart=>exact ⟨0,0,rfl,bX.iter_heap w s 0,aA _,(aD _ _).alloc (aA _) _,rfl⟩
 case round=>
  obtain ⟨pos,q,rfl,hit,hq,hB,hR⟩:=hrel;have HP0:=Ab hit.pos;have HR:=Ab hR;clear hR;by_cases hp:pos<s.size
  . obtain ⟨W,hnx,hit2,hB2,_⟩:=hit.next (P:=aB) hp hB (aA _);have hwd:=Lib.decode_width_pos s pos hp;have hstep:=A6F s pos hp;obtain ⟨c,hc⟩:∃c:Int,c=((Utf8.decode s pos).1:Int):=⟨_,rfl⟩
    obtain ⟨wd,hw⟩:∃wd,wd=(Utf8.decode s pos).2:=⟨_,rfl⟩
    rw [<-hc,<-hw] at hstep;rw [<-hc] at hnx;rw [<-hw] at hit2 hwd;have HS:=Ab hstep;have HI:=Ab hit2;have HB:=Ab hB2;clear hstep hit2 hB2 hB hit hc hw;go_wp2_with fail;refine (A1S c W).mono ?_;obtain ⟨L,hL⟩:∃L,L=A6m c:=⟨_,rfl⟩
    rw [<-hL];have HL:=Ab hL;clear hL;rintro e w1 ⟨rfl,hb1⟩;have HI1:=Ab (HI.o.below hb1 HI.o.lt);have HB1:=Ab (HB.o.trans (hb1.mono HB.o.size));clear hb1 HI HB hnx
    cases L with
    | true=>
     have HF:Hq (Iq (rs s (pos+wd)) (q+1)=Au s):=Ab (by
      rw [<-HR.o,HS.o,Iq,<-HL.o,if_pos rfl])
     go_wp2_with fail;go_roundw
     case rel=>exact ⟨pos+wd,q+1,by go_num,HI1.o,by omega,HB1.o,HF.o⟩
     case measure=>rw [HI1.o.pos,HP0.o]; omega
    | false=>
     by_cases hp0:pos=0
     . subst hp0;have HF:Hq (Au s=false):=Ab (by
        rw [<-HR.o,HS.o,Iq,<-HL.o]
        simp)
       go_wp2_with fail;go_ret;rw [HF.o];exact ⟨rfl,HB1.o⟩
     . have hp1:((pos:Int)==0)=false:=by simp; omega
       have HN0:=Ab hp0;clear hp0;go_wp2_with fail;refine (A4L c _ A6x _ (Sl.spans A6x rfl rfl rfl (by decide) (by decide))).mono ?_;obtain ⟨M,hM⟩:∃M,M=A7M c:=⟨_,rfl⟩
       rw [show inB c A6x=A7M c from rfl,<-hM];have HM:=Ab hM;clear hM;rintro e w2 ⟨rfl,hb2⟩;have HI2:=Ab (It.below (It.below HI1.o ((aD w1.heap.size w1).alloc (aA _) _) HI1.o.lt) hb2 (by have:=HI1.o.lt; simp; omega));have HB2:=Ab ((HB1.o.alloc HB1.o.size _).trans (hb2.mono (by have:=HB1.o.size; simp; omega)));clear hb2 HI1 HB1
       cases M with
       | true=>
        have HF:Hq (Iq (rs s (pos+wd)) (q+1)=Au s):=Ab (by
         rw [<-HR.o,HS.o,Iq,<-HL.o,<-HM.o];simp [HN0.o])
        go_wp2_with fail;go_roundw
        case rel=>exact ⟨pos+wd,q+1,by go_num,HI2.o,by omega,HB2.o,HF.o⟩
        case measure=>rw [HI2.o.pos,HP0.o]; omega
       | false=>
        have HF:Hq (Au s=false):=Ab (by
         rw [<-HR.o,HS.o,Iq,<-HL.o,<-HM.o]
         simp)
        go_wp2_with fail;go_ret;rw [HF.o];exact ⟨rfl,HB2.o⟩
  . have hnx:∀ty,(Instr.next (.pointer (some ⟨w.heap.size,0,none⟩)) true ty).run aB wr=.ok (.tuple #[.bool false]) wr:=λ ty=>Lib.run_next_end_at wr _ s pos ty hit hp
    have HF:Hq (Au s=(decide (1<=q)&&decide (q<=16))):=Ab (by rw [<-HR.o,A7U s pos hp,Iq]);have HB:=Ab hB;clear hB hit;rcases (by omega:q<1\/(1<=q/\q<=16)\/16<q) with h | ⟨h,h'⟩ | h
    . have h1:¬(1:Int)<=(q:Int):=by omega
      have HG:=Ab (HF.o.trans (show _=false by rw [decide_eq_false (by omega:¬1<=q)]; rfl));clear h;go_wp2_with fail;go_ret;rw [HG.o];exact ⟨rfl,HB.o⟩
    . have h1:(1:Int)<=(q:Int):=by omega
      have h2:(q:Int)<=16:=by omega
      have HG:=Ab (HF.o.trans (show _=true by rw [decide_eq_true h,decide_eq_true h']; rfl));clear h h';go_wp2_with fail;go_ret;rw [HG.o];exact ⟨rfl,HB.o⟩
    . have h1:(1:Int)<=(q:Int):=by omega
      have h2:¬(q:Int)<=16:=by omega
      have HG:=Ab (HF.o.trans (show _=false by rw [decide_eq_false (by omega:¬q<=16)]; simp));clear h;go_wp2_with fail;go_ret;rw [HG.o];exact ⟨rfl,HB.o⟩
def textF (most:Int):List (Nat×Int)->Nat->Bool
 | [],n=>decide ((n:Int)<=most)
 | (_,r)::l,n=>if r<32 then false else if r=127 then false else if r=65533 then false else textF most l (n+1)
def tx (l:Aa):ByteArray:=⟨l.toArray⟩
theorem Dq (l:Aa):(tx l).size=l.length:=by simp [tx,ByteArray.size]
theorem Vl (w:bX) (v:bW) (l:Aa) (h:Bs w v l):(convert 27 9 v).run aB w=.ok (.string (tx l)) w:=by
 obtain ⟨a,cap,rfl,hcap,hm⟩:=h.form;by_cases h0:l.length=0
 . obtain rfl:l= []:=aM h0
   cases a with
   | none=>exact Lib.run_convert_nil_bytes w _ _ _ cap aS aT aU
   | some a=>exact run_convert_bytes_back w _ _ _ a cap [] aS aT aU (λ j hj=>by simp at hj)
 . obtain ⟨b,off,rfl,hc⟩:=h.addr (by rw [Ac]; omega);refine run_convert_bytes_back w _ _ _ ⟨b,off,none⟩ cap l aS aT aU (λ j hj=>?_);rw [Addr.add_lit];exact hc j _ (Ex l j hj)
theorem A1C {o:cE} {a:Act} {W:bX} {x:Operand} (ho:o.op=.convert 27 9 x) {v:bW} {l:Aa} (hx:a.eval x=v) (h:Bs W v l):(execOp a.eval o).run aB W=.ok (.value (.string (tx l))) W:=by
 unfold execOp;simp only [ho,hx,Sem.run_bind,Sem.run_pure,Vl W v l h,Result.andThen_ok]
theorem X3 {ops:Array cE} {rest:List cE} {o:cE} {a:Act} {w:bX} {Q:Exit->Act->bX->Prop} (hgd:Region.wanted o (yielded ops a.tmps)=true) (x:Operand) (ho:o.op=.convert 27 9 x) {v:bW} {l:Aa} (hx:a.eval x=v) (h:Bs w v l) (hk:wpList aB ops Q rest (a.put o.dst (.string (tx l))) w):wpList aB ops Q (o::rest) a w:=by
 refine Bh hgd λ K hK=>?_
 unfold cE.wp;rw [A1C ho hx h];exact hK _ _ hk
theorem Zg (a b c d e:bW) (w:bX):(Instr.field 314 (.agg #[a,b,c,d,e]) 2).run aB w=.ok c w:=by kernel_rfl
theorem Zf (a b c d e:bW) (w:bX):(Instr.field 314 (.agg #[a,b,c,d,e]) 3).run aB w=.ok d w:=by kernel_rfl
def A0a:Nat:=1099511627776
def Cs (rem:List Tv) (bad:Bool):Nat×List Tv×Bool:=
 if A0a< (Bt 0 rem bad).1.n then (0,(Bt 0 rem bad).2.1,true) else ((Bt 0 rem bad).1.n,(Bt 0 rem bad).2)
def Bq (rem:List Tv) (bad:Bool):Aa×List Tv×Bool:=
 ((Bt 1 rem bad).1.b,(Bt 1 rem bad).2.1,if Au (tx (Bt 1 rem bad).1.b)=true then (Bt 1 rem bad).2.2 else true)
def Mx (rem:List Tv) (bad:Bool):Aa×List Tv×Bool:=
 ((Hn (Bt 1 rem bad).1.b).1,(Bt 1 rem bad).2.1,if (Hn (Bt 1 rem bad).1.b).2=true then (Bt 1 rem bad).2.2 else true)
def Kw (rem:List Tv) (bad:Bool):Bool×List Tv×Bool:=
 ((Bt 0 rem bad).1.n==1,(Bt 0 rem bad).2.1,if 1< (Bt 0 rem bad).1.n then true else (Bt 0 rem bad).2.2)
def Bv (rem:List Tv) (bad:Bool):Aa×List Tv×Bool:=((Bt 1 rem bad).1.b,(Bt 1 rem bad).2)
def Ri (w:bX) (F:Nat->Prop) (p:Nat) (v:bW) (r:List Tv×Bool) (e:Ending) (w':bX):Prop:=
 e=.returned v/\Tk w' F p r.1 r.2/\Ai (λ b=>b=p\/w.heap.size<=b) w w'
theorem Tk.bad {w:bX} {F:Nat->Prop} {p:Nat} {rem:List Tv} {bad:Bool} (h:Tk w F p rem bad):Tk (w.setCell ⟨p,1,none⟩ (.bool true)) F p rem true/\Ai (λ b=>b=p\/w.heap.size<=b) w (w.setCell ⟨p,1,none⟩ (.bool true)):=by
 have hk:Ai (λ b=>b=p) w (w.setCell ⟨p,1,none⟩ (.bool true)):=Ai.one w p 1 _;obtain ⟨lv,rows,h1,h2,h3,h4,h5⟩:=h;have hs:∀b,F b->b<w.heap.size->¬(b=p):=λ b hb _ e=>h5 (by rw [<-e]; exact hb)
 exact ⟨⟨lv,rows,h1.set 1 (.bool true),h2.keepF hk h3 hs,h3,h4.keep hk hs,h5⟩,hk.mono (λ _ h=>.inl h)⟩
theorem Tk.badCell {w:bX} {F:Nat->Prop} {p:Nat} {rem:List Tv} {bad:Bool} (h:Tk w F p rem bad):w.cell? ⟨p,1,none⟩=some (.bool bad)/\w.frozen? ⟨p,1,none⟩=false:=by
 obtain ⟨lv,rows,h1,h2,h3,h4,h5⟩:=h;exact ⟨h1.cell 1,h1.frozen 1⟩
theorem Bm {S:Nat->Prop} {p:Nat} {w w1 w2:bX} (hS:∀b,S b↔(b=p\/w.heap.size<=b)) (h:Ai S w w1) (k:Ai (λ b=>b=p\/w1.heap.size<=b) w1 w2):Ai S w w2:=
 h.trans (k.mono (λ b hb=>(hS b).2 (by rcases hb with h' | h'; exact .inl h'; exact .inr (aG h.size h'))))
theorem Cb (rem:List Tv) (bad:Bool) (p:Nat) (F:Nat->Prop) (w:bX) (h:Tk w F p rem bad): bZ aB 226 #[.pointer (some ⟨p,0,none⟩)] w (Ri w F p (.int .i64 (Cs rem bad).1) (Cs rem bad).2):=by
 go_enter Tryz.func226,Tryz.ntmps226;go_wp2_with fail;refine (Ly 0 rem bad p F w h).mono ?_;rintro e w1 ⟨cs,rfl,hx,ht,hk⟩;obtain ⟨bv,lv,rows,rfl,hb1,hb2,hb3,hb4,hb5⟩:=hx.open_;obtain ⟨al,cl,rfl,hcl,hml⟩:=hb3.form;obtain ⟨ab,cb0,rfl,hcb,hmb⟩:=hb1.form;have HT:=Ab ht;have HK:=Ab hk;obtain ⟨cb,fb⟩:=ht.badCell;have hf2:=Zg;have hf3:=Zf;have HS:Hq (Cs rem bad=if A0a< (Bt 0 rem bad).1.n then (0,(Bt 0 rem bad).2.1,true) else ((Bt 0 rem bad).1.n,(Bt 0 rem bad).2)):=Ab rfl;generalize Bt 0 rem bad=r at*;obtain ⟨x,r1,r2⟩:=r;simp only at*;clear hx ht hk hb1 hb2 hb3 hb4 hb5;generalize x.n=n at*;by_cases hn:A0a<n
 . have hn':(1099511627776:Int)<n:=by unfold A0a at hn; omega
   have HS':Hq (Cs rem bad=(0,r1,true)):=Ab (by rw [HS.o,if_pos hn]);clear hn;go_wp2_with fail;go_ret;rw [HS'.o];exact ⟨rfl,HT.o.bad.1,Bm (λ b=>Iff.rfl) HK.o HT.o.bad.2⟩
 . have hn':¬(1099511627776:Int)<n:=by unfold A0a at hn; omega
   have HS':Hq (Cs rem bad=(n,r1,r2)):=Ab (by rw [HS.o,if_neg hn]);have hw:IntKind.i64.wrap (n:Int)=n:=by unfold A0a at hn; simp only [IntKind.wrap_i64]; omega
   clear hn;go_wp2_with fail;go_ret;rw [HS'.o];exact ⟨rfl,HT.o,HK.o⟩
theorem A3V (rem:List Tv) (bad:Bool) (p:Nat) (F:Nat->Prop) (w:bX) (h:Tk w F p rem bad): bZ aB 229 #[.pointer (some ⟨p,0,none⟩)] w (Ri w F p (.bool (Kw rem bad).1) (Kw rem bad).2):=by
 go_enter Tryz.func229,Tryz.ntmps229;go_wp2_with fail;refine (Ly 0 rem bad p F w h).mono ?_;rintro e w1 ⟨cs,rfl,hx,ht,hk⟩;obtain ⟨bv,lv,rows,rfl,hb1,hb2,hb3,hb4,hb5⟩:=hx.open_;obtain ⟨al,cl,rfl,hcl,hml⟩:=hb3.form;obtain ⟨ab,cb0,rfl,hcb,hmb⟩:=hb1.form;have HT:=Ab ht;have HK:=Ab hk;obtain ⟨cb,fb⟩:=ht.badCell;have hf2:=Zg;have hf3:=Zf;have HS:Hq (Kw rem bad=((Bt 0 rem bad).1.n==1,(Bt 0 rem bad).2.1,if 1< (Bt 0 rem bad).1.n then true else (Bt 0 rem bad).2.2)):=Ab rfl;generalize Bt 0 rem bad=r at*;obtain ⟨x,r1,r2⟩:=r;simp only at*;clear hx ht hk hb1 hb2 hb3 hb4 hb5;generalize x.n=n at*;have hq:Hq (((n:Int)==1)=(n==1)):=Ab (by rw [Bool.eq_iff_iff]; simp; omega);by_cases hn:1<n
 . have hn':(1:Int)<n:=by omega
   have HS':Hq (Kw rem bad=(n==1,r1,true)):=Ab (by rw [HS.o,if_pos hn]);clear hn;go_wp2_with fail;go_ret;rw [HS'.o,<-hq.o];exact ⟨rfl,HT.o.bad.1,Bm (λ b=>Iff.rfl) HK.o HT.o.bad.2⟩
 . have hn':¬(1:Int)<n:=by omega
   have HS':Hq (Kw rem bad=(n==1,r1,r2)):=Ab (by rw [HS.o,if_neg hn]);clear hn;go_wp2_with fail;go_ret;rw [HS'.o,<-hq.o];exact ⟨rfl,HT.o,HK.o⟩
theorem Gl (rem:List Tv) (bad:Bool) (p:Nat) (F:Nat->Prop) (w:bX) (h:Tk w F p rem bad): bZ aB 225 #[.pointer (some ⟨p,0,none⟩)] w (Ri w F p (.string (tx (Bq rem bad).1)) (Bq rem bad).2):=by
 go_enter Tryz.func225,Tryz.ntmps225;go_wp2_with fail;refine (Ly 1 rem bad p F w h).mono ?_;rintro e w1 ⟨cs,rfl,hx,ht,hk⟩;obtain ⟨bv,lv,rows,rfl,hb1,hb2,hb3,hb4,hb5⟩:=hx.open_;obtain ⟨al,cl,rfl,hcl,hml⟩:=hb3.form;obtain ⟨ab,cb0,rfl,hcb,hmb⟩:=hb1.form;have HT:=Ab ht;have HK:=Ab hk;obtain ⟨cb,fb⟩:=ht.badCell;have hf2:=Zg;have hf3:=Zf;have HS:Hq (Bq rem bad=((Bt 1 rem bad).1.b,(Bt 1 rem bad).2.1,if Au (tx (Bt 1 rem bad).1.b)=true then (Bt 1 rem bad).2.2 else true)):=Ab rfl;generalize Bt 1 rem bad=r at*;obtain ⟨x,r1,r2⟩:=r;simp only at*;have HB:=Ab hb1;have HR:=Ab (Mm (tx x.b) w1 (by rw [Dq]; omega));clear hx ht hk hb1 hb2 hb3 hb4 hb5;generalize x.b=l at*;have hcv:=Vl w1 _ l HB.o;go_wp2_with fail;refine HR.o.mono ?_;rintro e w2 ⟨rfl,hb2⟩;have HT2:=Ab (HT.o.below hb2);have HK2:Hq (Ai (λ b=>b=p\/w.heap.size<=b) w w2):=Ab (HK.o.trans ((Ai.of_below hb2).mono (λ b hb=>.inr (aG HK.o.size hb))));obtain ⟨cb,fb⟩:=HT2.o.badCell;clear hb2 HB HR;obtain ⟨d,hd⟩:∃d,d=Au (tx l):=⟨_,rfl⟩
 rw [<-hd] at HS ⊢;clear hd
 cases d with
 | false=>
  go_wp2_with fail;go_ret;rw [HS.o];exact ⟨rfl,HT2.o.bad.1,Bm (λ b=>Iff.rfl) HK2.o HT2.o.bad.2⟩
 | true=>
  go_wp2_with fail;go_ret;rw [HS.o];exact ⟨rfl,HT2.o,HK2.o⟩
theorem Jq (rem:List Tv) (bad:Bool) (p:Nat) (F:Nat->Prop) (w:bX) (h:Tk w F p rem bad): bZ aB 227 #[.pointer (some ⟨p,0,none⟩)] w λ e w'=>∃v,Ri w F p v (Bv rem bad).2 e w'/\Bs w' v (Bv rem bad).1/\(0< (Bv rem bad).1.length->∀x,v.ownBlock=some x->F x):=by
 go_enter Tryz.func227,Tryz.ntmps227;go_wp2_with fail;refine (Ly 1 rem bad p F w h).mono ?_;rintro e w1 ⟨cs,rfl,hx,ht,hk⟩;obtain ⟨bv,lv,rows,rfl,hb1,hb2,hb3,hb4,hb5⟩:=hx.open_;obtain ⟨al,cl,rfl,hcl,hml⟩:=hb3.form;obtain ⟨ab,cb0,rfl,hcb,hmb⟩:=hb1.form;have HT:=Ab ht;have HK:=Ab hk;obtain ⟨cb,fb⟩:=ht.badCell;have hf2:=Zg;have hf3:=Zf;clear hb3 hb4 hb5;have HB:=Ab hb1;have HB2:=Ab hb2;clear hx ht hk hb1 hb2;go_wp2_with fail;go_ret;exact ⟨_,⟨rfl,HT.o,HK.o⟩,HB.o,HB2.o⟩
theorem Ik (rem:List Tv) (bad:Bool) (p:Nat) (F:Nat->Prop) (w:bX) (h:Tk w F p rem bad): bZ aB 231 #[.pointer (some ⟨p,0,none⟩)] w λ e w'=>e=.returned (.bool (!bad&&rem.isEmpty))/\w=w':=by
 obtain ⟨lv,rows,h1,h2,h3,h4,h5⟩:=h;obtain ⟨a,cap,rfl,hcap,hm⟩:=h2.form;have c0:=h1.cell 0;have c1:w.cell? ⟨p,1,none⟩=some (.bool bad):=h1.cell 1;simp only [bE] at c0;have HR:Hq ((((rem.length:Nat):Int)==0)=rem.isEmpty):=Ab (by cases rem <;> simp <;> omega);clear h1 h2 h3 h4 h5
 cases bad with
 | true=>
  go_enter bT,bU;go_wp2_with fail;go_ret;exact ⟨rfl,rfl⟩
 | false=>
  go_enter bT,bU;go_wp2_with fail;go_ret;rw [HR.o];exact ⟨rfl,rfl⟩
theorem A6e (rem:List Tv) (bad:Bool) (p:Nat) (F:Nat->Prop) (w:bX) (h:Tk w F p rem bad) (hF:¬F w.heap.size): bZ aB 263 #[.pointer (some ⟨p,0,none⟩)] w (Ri w F p (A1 (Mx rem bad).1) (Mx rem bad).2):=by
 have hpl:=h.lt;have HQ0:=Ab (Blk.new w Bo 46);have hB0:Below w.heap.size w (w.alloc (.cells Bo.toArray 46)):=(aD _ _).alloc (aA _) _;have HB0:=Ab hB0;have HN:=Ab (Ly 1 rem bad p F _ (h.below hB0));have HF:=Ab hF;clear hF;have HPN:Hq (p≠w.heap.size):=Ab (by omega);clear hB0 h;go_enter Tryz.func263,Tryz.ntmps263;go_wp2_with fail;refine HN.o.mono ?_;rintro e w1 ⟨cs,rfl,hx,ht,hk⟩;obtain ⟨bv,lv,rows,rfl,hb1,hb2,hb3,hb4,hb5⟩:=hx.open_;obtain ⟨al,cl,rfl,hcl,hml⟩:=hb3.form;obtain ⟨ab,cb0,rfl,hcb,hmb⟩:=hb1.form;have hf2:=Zg;have hf3:=Zf;have HT:=Ab ht;have HK:Hq (Ai (λ b=>b=p\/w.heap.size<=b) w w1):=Ab (((Ai.of_below HB0.o).mono (λ b hb=>.inr hb)).trans (hk.mono (λ b hb=>by rcases hb with h | h; exact .inl h; exact .inr (by simp at h; omega))));have HQ1:=Ab (HQ0.o.keep hk (λ h=>by rcases h with h | h; exact HPN.o h.symm; simp at h; omega));have HZ:Hq (w.heap.size<w1.heap.size):=Ab HQ1.o.lt;have HS:Hq (Mx rem bad=((Hn (Bt 1 rem bad).1.b).1,(Bt 1 rem bad).2.1,if (Hn (Bt 1 rem bad).1.b).2=true then (Bt 1 rem bad).2.2 else true)):=Ab rfl;generalize Bt 1 rem bad=r at*;obtain ⟨x,r1,r2⟩:=r;simp only at*;have HR:=Ab (Q4 _ x.b w1 hb1);clear hx ht hk hb1 hb2 hb3 hb4 hb5 HQ0 HB0 HN;generalize x.b=l at*;go_wp2_with fail;refine HR.o.mono ?_;rintro e w2 ⟨rfl,hb2⟩;have HL:Hq ((Hn l).1.length=16):=Ab (I4 l);generalize Hn l=kk at*;obtain ⟨k,d⟩:=kk;simp only at*;obtain ⟨q1,hq1⟩:∃q1,q1=w2.heap.size:=⟨_,rfl⟩
 have HT2:=Ab (HT.o.below hb2);have HG:Hq (Blk (w2.alloc (.cells Bo.toArray 46)) w2.heap.size Bo 46):=Ab (Blk.new _ _ _);have HQ2:Hq (Blk (w2.alloc (.cells Bo.toArray 46)) w.heap.size Bo 46):=Ab ((HQ1.o.below hb2 HZ.o).alloc _);have HK2:Hq (Ai (λ b=>b=p\/w.heap.size<=b) w (w2.alloc (.cells Bo.toArray 46))):=Ab ((HK.o.trans ((Ai.of_below hb2).mono (λ b hb=>.inr (aG HK.o.size hb)))).alloc _ (.inr (aG HK.o.size hb2.size)));have HNE:Hq (p≠w2.heap.size/\w.heap.size≠w2.heap.size/\w.heap.size<=w2.heap.size):=Ab (by have:=HZ.o; have:=hb2.size; exact ⟨by omega,by omega,by omega⟩);clear hb2 HR;go_wp2_with ((with_reducible refine zws 3 10 ?_);refine Ag rfl (.tmp 3) (.tmp 10) Aq rfl rfl (vs:=Ae k) rfl (by rw [Ac]; exact HL.o) HG.o (by simp [Bo]) (Al k) ?_);intro w3 h3 k3;have H3:Hq (Blk w3 w2.heap.size (Ae k) 46):=Ab (by simpa [Bo] using h3);have HT3:=Ab (HT2.o.below (((aD w2.heap.size w2).alloc (aA _) _).trans (k3.below (λ b hb=>bF hb.symm))));have HQ3:=Ab (HQ2.o.keep k3 HNE.o.2.1);have HK3:Hq (Ai (λ b=>b=p\/w.heap.size<=b) w w3):=Ab (HK2.o.trans (k3.mono (λ b hb=>.inr (by rw [hb]; exact HNE.o.2.2))));obtain ⟨cb,fb⟩:=HT3.o.badCell;clear h3 k3;clear hq1;generalize w2.heap.size=q1 at*;have hend:∀W:bX,Tk W F p r1 (if d=true then r2 else true)->Blk W w.heap.size Bo 46->Blk W q1 (Ae k) 46->Ai (λ b=>b=p\/w.heap.size<=b) w W->True:=λ _ _ _ _ _=>trivial
 clear hend
 cases d with
 | false=>
  have HT4:=Ab HT3.o.bad.1;have HQ4:=Ab (HQ3.o.set_other (p:=⟨p,1,none⟩) (λ e=>HPN.o e.symm) (.bool true));have H4:=Ab (H3.o.set_other (p:=⟨p,1,none⟩) (λ e=>HNE.o.1 e.symm) (.bool true));have HK4:=Ab (Bm (λ b=>Iff.rfl) HK3.o HT3.o.bad.2);go_wp2_with (first | ((with_reducible refine zw 17 ?_);refine Aj rfl (.tmp 3) Aq rfl rfl (cs:=Ae k) (by rw [Ac]; exact HL.o) H4.o.cellsAll ?_) | ((with_reducible refine zws 2 17 ?_);refine Ag rfl (.tmp 2) (.tmp 17) Aq rfl rfl (vs:=Ae k) rfl (by rw [Ac]; exact HL.o) HQ4.o (by simp [Bo]) (Al k) ?_));intro w5 h5 k5;have H5:Hq (Blk w5 w.heap.size (Ae k) 46):=Ab (by simpa [Bo] using h5);have HT5:=Ab (HT4.o.keep k5 (λ b hb hl e=>HF.o (by rw [<-e]; exact hb)) HPN.o);have HK5:Hq (Ai (λ b=>b=p\/w.heap.size<=b) w w5):=Ab (HK4.o.trans (k5.mono (λ b hb=>.inr (bF hb.symm))));clear h5 k5;go_wp2_with fail;exact bodyPost_ret (Az rfl Aq rfl (cs:=Ae k) (by rw [Ac]; exact HL.o) H5.o.cellsAll) rfl ⟨by rw [HS.o]; rfl,by rw [HS.o]; exact HT5.o,HK5.o⟩
 | true=>
  go_wp2_with (first | ((with_reducible refine zw 17 ?_);refine Aj rfl (.tmp 3) Aq rfl rfl (cs:=Ae k) (by rw [Ac]; exact HL.o) H3.o.cellsAll ?_) | ((with_reducible refine zws 2 17 ?_);refine Ag rfl (.tmp 2) (.tmp 17) Aq rfl rfl (vs:=Ae k) rfl (by rw [Ac]; exact HL.o) HQ3.o (by simp [Bo]) (Al k) ?_));intro w5 h5 k5;have H5:Hq (Blk w5 w.heap.size (Ae k) 46):=Ab (by simpa [Bo] using h5);have HT5:=Ab (HT3.o.keep k5 (λ b hb hl e=>HF.o (by rw [<-e]; exact hb)) HPN.o);have HK5:Hq (Ai (λ b=>b=p\/w.heap.size<=b) w w5):=Ab (HK3.o.trans (k5.mono (λ b hb=>.inr (bF hb.symm))));clear h5 k5;go_wp2_with fail;exact bodyPost_ret (Az rfl Aq rfl (cs:=Ae k) (by rw [Ac]; exact HL.o) H5.o.cellsAll) rfl ⟨by rw [HS.o]; rfl,by rw [HS.o]; exact HT5.o,HK5.o⟩
theorem Tk.tight {w:bX} {F:Nat->Prop} {p:Nat} {rem:List Tv} {bad:Bool} (h:Tk w F p rem bad):Tk w (λ y=>F y/\y<w.heap.size) p rem bad:=by
 obtain ⟨lv,rows,h1,h2,h3,h4,h5⟩:=h;exact ⟨lv,rows,h1,h2,λ hp x hx=>⟨h3 hp x hx,Sl.own_lt h2 (by decide) hp x hx⟩,h4.tight,λ h=>h5 h.1⟩
theorem Tk.mono {w:bX} {F G:Nat->Prop} {p:Nat} {rem:List Tv} {bad:Bool} (h:Tk w F p rem bad) (hg:∀b,F b->G b) (hp:¬G p):Tk w G p rem bad:=by
 obtain ⟨lv,rows,h1,h2,h3,h4,h5⟩:=h;exact ⟨lv,rows,h1,h2,λ hp x hx=>hg x (h3 hp x hx),h4.mono hg,hp⟩
theorem Tk.notF {w:bX} {F:Nat->Prop} {p:Nat} {rem:List Tv} {bad:Bool} (h:Tk w F p rem bad):¬F p:=by
 obtain ⟨lv,rows,h1,h2,h3,h4,h5⟩:=h;exact h5
theorem O3 (rem:List Tv) (bad:Bool) (p:Nat) (F:Nat->Prop) (w:bX) (h:Tk w F p rem bad): bZ aB 263 #[.pointer (some ⟨p,0,none⟩)] w (Ri w F p (A1 (Mx rem bad).1) (Mx rem bad).2):=
 (A6e rem bad p _ w h.tight (λ h=>Nat.lt_irrefl _ h.2)).mono λ _ _ ⟨h1,h2,h3⟩=>⟨h1,h2.mono (λ _ h=>h.1) h.notF,h3⟩
def Cv (w:bX) (g n cap:Nat) (cs:List bW):Prop:=
 cs.length=n/\(∀u∈cs,u.oneCell'=true)/\n<=cap/\cap<=maxLen/\∃cur:Array bW,w.heap[g]?=some (.cells cur 5 (cur.size,cur.size+1))/\cur.size=cap/\cur.toList.take n=cs
theorem Cv.sl {w:bX} {g n cap:Nat} {cs:List bW} (h:Cv w g n cap cs):Sl w 1 (.slice (some ⟨g,0,none⟩) n cap) n cs:=by
 obtain ⟨h1,h2,h3,h4,cur,h5,h6,h7⟩:=h;refine ⟨by omega,h2,_,cap,rfl,h3,h4,λ h=>by simp at h,.inr ⟨g,0,rfl,λ j u hj=>?_⟩⟩;have hjl:j<n:=by have:=(List.getElem?_eq_some_iff.1 hj).1; omega
 rw [<-h7,aK,if_pos hjl] at hj;rw [aH,cell_of_row w g j cur _ _ h5,<-Array.getElem?_toList];exact hj
theorem S5 (w:bX) (s:ByteArray) (hs:s.size<=281474976710656):∃cap w',(convert 9 27 (.string s)).run aB w=.ok (.slice (some ⟨w.heap.size,0,none⟩) s.size cap) w'/\ Cv w' w.heap.size s.size cap (Ae s.data.toList)/\Below w.heap.size w w'/\w'.heap.size=w.heap.size+1:=by
 have hge:=grownCap_ge w s.size 0 5;have hle:=grownCap_le_maxLen w s.size 0 5 (by unfold maxLen; omega);have hl:s.data.toList.length=s.size:=rfl;refine ⟨_,_,Lib.run_convert_string_bytes w 9 27 5 s aU aS aT,⟨by rw [Ac,hl],Al _,hge,hle,Lib.bytesCells w 5 s,Lib.bytesWorld_at_new w _ s,?_,?_⟩,⟨?_,?_,?_,?_,λ k hk=>Lib.bytesWorld_at_old w _ s k hk⟩,Lib.bytesWorld_size w _ s⟩
 . simp only [Lib.bytesCells,Array.size_append,Array.size_map,Array.size_replicate];rw [show s.data.size=s.size from rfl];omega
 . simp only [Lib.bytesCells,Array.toList_append,Array.toList_map];rw [bP (by simp),aL (by simp)];rfl
 . rfl
 . rfl
 . rfl
 . rw [Lib.bytesWorld_size]; omega
theorem Jd {ops:Array cE} {rest:List cE} {o:cE} {a:Act} {w:bX} {Q:Exit->Act->bX->Prop} (hgd:Region.wanted o (yielded ops a.tmps)=true) (x:Operand) (ho:o.op=.convert 9 27 x) {s:ByteArray} (hx:a.eval x=.string s) (hs:s.size<=281474976710656) (h:∀cap w',Cv w' w.heap.size s.size cap (Ae s.data.toList)->Below w.heap.size w w'->w'.heap.size=w.heap.size+1->wpList aB ops Q rest (a.put o.dst (.slice (some ⟨w.heap.size,0,none⟩) s.size cap)) w'):wpList aB ops Q (o::rest) a w:=by
 obtain ⟨cap,w',hr,h2,h3,h4⟩:=S5 w s hs;refine Bh hgd λ K hK=>?_
 unfold cE.wp execOp;simp only [ho,hx,Sem.run_bind,Sem.run_pure,Result.andThen_ok,hr];exact hK _ _ (h cap w' h2 h3 h4)
end Go.Proofs.YtcnfaghcjlhoiaaGreat
