/- Texts of this proof, one behind the other: DerRead, Ref01, DerWhole, DerRight, Plain, KeyT, Octet2, DerHead, DerWrite, DerWr. -/
import Derived.Test.YtcnfaghcjlhoiaaGreatWeA1
import Derived.Test.YtcnfaghcjlhoiaaGreatWeA2
import Derived.Deep.DeepCutAuto
import Derived.Outline
import Derived.StillTailTactics
import Derived.Stop.BytesEq
set_option linter.unusedSimpArgs false
set_option linter.unusedVariables false
set_option maxRecDepth 100000
set_option maxHeartbeats 16000000
open Nat renaming le_refl -> aA, zero_le -> aQ, pow_succ -> aZ, mod_eq_of_lt -> bA
open Go.RowKit.Below renaming refl -> aB
open Go.Proofs.Tryz renaming prog -> aC, func264 -> aD, ntmps264 -> aE, func265 -> aS, ntmps265 -> aT, func223 -> aU, ntmps223 -> aV, func164 -> bB, ntmps164 -> bC, underlying46 -> bD, func119 -> bF, ntmps119 -> bG, func266 -> bK, ntmps266 -> bL
open List renaming length_append -> aF, append_nil -> aG, eq_nil_of_length_eq_zero -> aH, getElem?_eq_getElem -> aJ, drop_of_length_le -> aK, getD_eq_getElem?_getD -> aL, length_drop -> aM, cons_append -> aN, take_succ_eq_append_getElem -> aO, getElem_mem -> aP, take_length -> aR, take_of_length_le -> aW, map_cons -> aX, mem_singleton -> aY, replicate -> bE, flatten_append -> bH, take_append_drop -> bI, getElem?_cons_zero -> bJ
open Int renaming natCast_add -> aI
open Go renaming Value -> bM, World -> bN, Calls -> bO
namespace Go.Proofs.YtcnfaghcjlhoiaaGreat
open Go.RowKit
theorem Bi {P:Program} {fn:Func} {p u u':Tmp} {ty:TypeId} {m:Nat} (hr:fn.results=#[.cell p ty,.tmp u,.tmp u']) (hT:A3 P ty m) {tmps:Array bM} {w:bN} {b o:Nat} (hp:tmps.getD p undef=.pointer (some ⟨b,o,none⟩)) {cs:List bM} (hm:cs.length=m) (hc:Ao w b o cs): (results fn tmps).run P w=.ok (.tuple #[.agg cs.toArray,tmps.getD u undef,tmps.getD u' undef]) w:=by
 have hp':tmps[p]?.getD undef=.pointer (some ⟨b,o,none⟩):=by simpa using hp
 simp [results,hr,hp',asAddr,Ek hT hm hc]
theorem Ak:A3 aC 314 5:=A3.mk Tryz.underlying314 rfl (by kernel_rfl)
theorem Hs:Cp aC 312 314 5 72 (.agg #[.int .i64 0,.int .i64 0,.int .u64 0,.slice none 0 0,.slice none 0 0]):=by
 refine Cp.mk Tryz.underlying312 ?_ rfl (by decide)
 kernel_rfl
def zs5:List bM:= [.int .i64 0,.int .i64 0,.int .u64 0,.slice none 0 0,.slice none 0 0]
theorem Hf:∀u∈zs5,u.oneCell'=true:=by intro u hu; simp [zs5] at hu; rcases hu with rfl | rfl | rfl | rfl | rfl <;> rfl
theorem Rv:Tryz.prog.built 314 []=some zs5.toArray:=by kernel_rfl
def A8j (w:bN) (r:Tv×Nat×Int) (e:Ending) (w':bN):Prop:=
 ∃cs:List bM,e=.returned (.tuple #[.agg cs.toArray,.int .i64 r.2.1,.int .i64 r.2.2])/\TvF w' (λ x=>w.heap.size<=x/\x<w'.heap.size) r.1 cs/\Below w.heap.size w w'
def A0x:bM->Nat
 | .slice _ n _=>n
 | _=>0
def LS (d:Nat) (b:Aa):List Tv×Int:=Hj (Dj d) b.length b
theorem A7r (d:Nat):LS d []=([],0):=rfl
theorem A8f {d:Nat} {b:Aa} {x:Tv} {k:Nat} (hb:b≠ []) (h:Dj d b=(x,k,0)):LS d b=(x::(LS d (b.drop k)).1,(LS d (b.drop k)).2):=by
 have hk:=I9 d _ _ _ h;unfold LS;obtain ⟨n,hn⟩:∃n,b.length=n+1:=⟨b.length-1,by have:=List.length_pos_iff.2 hb; omega⟩
 rw [hn,Lr hb h,Si (I9 d) n (b.drop k).length _ (by rw [aM]; omega) (aA _)]
theorem A7q {d:Nat} {b:Aa} {x:Tv} {k:Nat} {e:Int} (hb:b≠ []) (h:Dj d b=(x,k,e)) (he:e≠0):LS d b=([],e):=by
 unfold LS;obtain ⟨n,hn⟩:∃n,b.length=n+1:=⟨b.length-1,by have:=List.length_pos_iff.2 hb; omega⟩
 rw [hn,Mg hb h he]
structure DL (w:bN) (r:Nat) (d:Nat) (T:Int) (body:Aa) (inv:bM) (wr:bN) (rest:Aa) (acc:List Tv) (lv:bM) (rows:List bM) (F:Nat->Prop):Prop where
 bs:Bs w inv rest
 ls:LS d body=(acc++(LS d rest).1,(LS d rest).2)
 few:acc.length+rest.length<=body.length
 q:Blk wr (r+1) [.int .i64 2,.int .i64 T,.int .u64 0,.slice none 0 0,lv] 314
 z:Blk wr r zs5 314
 own:Own wr (r+2) 314 5 lv acc.length rows
 tvs:Db wr F acc rows
 f:∀x,F x->r+2<=x/\x<wr.heap.size/\lv.ownBlock≠some x
 v:∀x,lv.ownBlock=some x->r+2<=x/\x<wr.heap.size
 below:Below r w wr
 size:r+2<=wr.heap.size
theorem Y5:∀(d:Nat) (D:Int) (v:bM) (b:Aa) (w:bN),D=9- (d:Int)->d<=8->Bs w v b->b.length<=1048576-> bO aC 223 #[v,.int .i64 D] w (A8j w (Dj d b)):=by
 intro d;induction d with
 | zero=>
  intro D v b w hD hd h hbl;have hD':(8:Int)<D:=by omega
  have HZ:=Ab Rv;have HN:=Ab (Blk.new w zs5 314);have HR:Hq (Dj 0 b=(.zero,0,4)):=Ab rfl;clear hD;go_enter aU,aV;go_wp2_with (first | ((with_reducible refine zw 19 ?_);refine Cl rfl rfl HZ.o ?_) | ((with_reducible refine zws 4 19 ?_);refine Ag rfl (.tmp 4) (.tmp 19) Ak rfl rfl (vs:=zs5) rfl rfl HN.o (aA _) Hf ?_));intro w2 h2 k2;have h2':Blk w2 w.heap.size zs5 314:=by simpa [zs5] using h2
  have H2:=Ab h2';have HB2:Hq (Below w.heap.size w w2):=Ab (((aB _ _).alloc (aA _) _).trans (k2.below (by omega)));clear h2 h2' k2;go_wp2_with fail;rw [HR.o];exact bodyPost_ret (Bi rfl Ak rfl (cs:=zs5) rfl H2.o.cellsAll) rfl ⟨zs5,rfl,TvF.zero _ _,HB2.o⟩
 | succ d ih=>
  intro D v b w hD hd h hbl;have hD':¬(8:Int)<D:=by omega
  have HD:=Ab hD;have HIH:=Ab ih;have HZ:=Ab Rv;have HN:=Ab (Blk.new w zs5 314);have HS:=Ab (Y6 v b (w.alloc (.cells zs5.toArray 314)) (h.alloc _));clear hD ih;obtain ⟨n,at',e0,hs⟩:∃n at' e,Gw b=(n,at',e):=⟨_,_,_,rfl⟩
  rw [hs] at HS;go_enter aU,aV;go_wp2_with fail;refine HS.o.mono ?_;rintro e w' ⟨rfl,hw'⟩;rw [<-hw'];clear hw';by_cases he:e0=0
  . have he':(e0 !=0)=false:=by simp [he]
    subst he;obtain ⟨hat2,hatn,hat4⟩:=Ol hs;obtain ⟨a,cap,rfl,hcap,hcm⟩:=h.form;have hmx:=hcm;unfold maxLen at hcm;obtain ⟨bb,off,rfl,hc⟩:=h.addr (by rw [Ac]; omega);have hb0:b[0]'(by omega)=b.getD 0 0:=by rw [aL,aJ (by omega)]; rfl
    have hlt:=(b.getD 0 0).toNat_lt;have hR:Dj (d+1) b=if 2< (b.getD 0 0).toNat / 64\/30< (b.getD 0 0).toNat % 64 then (.zero,0,2)
    else if (b.getD 0 0).toNat / 64=0 then
     (if (Fi ((b.drop at').take n)).2=false\/(1<n/\(b.drop at').getD 0 0=0) then (.zero,0,4)
     else (.mk 0 ((b.getD 0 0).toNat % 64:Nat) (Fi ((b.drop at').take n)).1 [] [],at'+n,0))
    else if (b.getD 0 0).toNat / 64=1 then (.mk 1 ((b.getD 0 0).toNat % 64:Nat) 0 ((b.drop at').take n) [],at'+n,0)
    else match Hj (Dj d) n ((b.drop at').take n) with
     | (l,e)=>if e=0 then (.mk 2 ((b.getD 0 0).toNat % 64:Nat) 0 [] l,at'+n,0) else (.zero,0,e):=by
     rw [Dj,hs];simp only;rw [if_neg (by decide)]
    have c0:(w.alloc (.cells zs5.toArray 314)).drew.cell? ⟨bb,off,none⟩=some (.int .u8 (b.getD 0 0).toNat):=by
     rw [<-hb0];exact Bj (((aB _ _).alloc (aA _) (.cells zs5.toArray 314)).drew) (hc 0 _ (Ex b 0 (by omega)))
    have c0':((w.alloc (.cells zs5.toArray 314)).alloc (.cells #[.int .i64 0,.int .i64 0,.int .u64 0,.slice none 0 0,.slice none 0 0] 314)).drew.cell? ⟨bb,off,none⟩=some (.int .u8 (b.getD 0 0).toNat):=by
     rw [<-hb0];exact Bj ((((aB _ _).alloc (aA _) (.cells zs5.toArray 314)).alloc (by simp) _).drew) (hc 0 _ (Ex b 0 (by omega)))
    have HR:=Ab hR;have HB:=Ab h;have hlen0:0<b.length:=by omega
    generalize (b.getD 0 0).toNat=c at c0 c0' hlt HR;clear hR hs hb0 hc h;go_wp2_with fail
    go_region;have e1:(c:Int) / 64=((c / 64:Nat):Int):=by omega
    have e2:(c:Int) % 64=((c % 64:Nat):Int):=by omega
    rw [e1,e2];clear c0 c0' e1 e2;have hK:c / 64<=3:=by omega
    have hT:c % 64<=63:=by omega
    generalize c / 64=K at HR hK ⊢;generalize c % 64=T at HR hT ⊢;generalize hW1:((w.alloc (.cells zs5.toArray 314)).alloc (.cells #[.int .i64 K,.int .i64 T,.int .u64 0,.slice none 0 0,.slice none 0 0] 314)).drew=W1;have hB1:Below w.heap.size w W1:=by rw [<-hW1]; exact (((aB _ _).alloc (aA _) _).alloc (by simp) _).drew
    have hz1:W1.heap.size=w.heap.size+2:=by rw [<-hW1]; simp [bN.drew]
    have hrb:Blk W1 w.heap.size zs5 314:=by rw [<-hW1]; exact ((Blk.new w zs5 _).alloc _).drew
    have hqb:Blk W1 (w.heap.size+1) [.int .i64 K,.int .i64 T,.int .u64 0,.slice none 0 0,.slice none 0 0] 314:=by rw [<-hW1]; exact (Blk.at_ (by simp)).drew
    have HB1:=Ab hB1;have HRB:=Ab hrb;have HQB:=Ab hqb;have q0:W1.cell? ⟨w.heap.size+1,0,none⟩=some (.int .i64 K):=by rw [hqb.cell]; rfl
    have q1:W1.cell? ⟨w.heap.size+1,1,none⟩=some (.int .i64 T):=by rw [hqb.cell]; rfl
    clear hB1 hrb hqb hW1 HN;by_cases hk2:2<K
    . have hR:=HR.o;rw [if_pos (.inl hk2)] at hR;have HR:=Ab hR;have hk2':(2:Int)<K:=by omega
      clear hR;go_wp2_with (first | ((with_reducible refine zw 49 ?_);refine Cl rfl rfl HZ.o ?_) | ((with_reducible refine zws 4 49 ?_);refine Ag rfl (.tmp 4) (.tmp 49) Ak rfl rfl (vs:=zs5) rfl rfl HRB.o (aA _) Hf ?_));intro w2 h2 k2;have h2':Blk w2 w.heap.size zs5 314:=by simpa [zs5] using h2
      have H2:=Ab h2';have HB2:Hq (Below w.heap.size w w2):=Ab (HB1.o.trans (k2.below (by omega)));clear h2 h2' k2;go_wp2_with fail;rw [HR.o];exact bodyPost_ret (Bi rfl Ak rfl (cs:=zs5) rfl H2.o.cellsAll) rfl ⟨zs5,rfl,TvF.zero _ _,HB2.o⟩
    . by_cases ht30:30<T
      . have hR:=HR.o;rw [if_pos (.inr ht30)] at hR;have HR:=Ab hR;have hk2':¬(2:Int)<K:=by omega
        have ht30':(30:Int)<T:=by omega
        clear hR;go_wp2_with (first | ((with_reducible refine zw 49 ?_);refine Cl rfl rfl HZ.o ?_) | ((with_reducible refine zws 4 49 ?_);refine Ag rfl (.tmp 4) (.tmp 49) Ak rfl rfl (vs:=zs5) rfl rfl HRB.o (aA _) Hf ?_));intro w2 h2 k2;have h2':Blk w2 w.heap.size zs5 314:=by simpa [zs5] using h2
        have H2:=Ab h2';have HB2:Hq (Below w.heap.size w w2):=Ab (HB1.o.trans (k2.below (by omega)));clear h2 h2' k2;go_wp2_with fail;rw [HR.o];exact bodyPost_ret (Bi rfl Ak rfl (cs:=zs5) rfl H2.o.cellsAll) rfl ⟨zs5,rfl,TvF.zero _ _,HB2.o⟩
      . have hR:=HR.o;rw [if_neg (by omega)] at hR;have hk2':¬(2:Int)<K:=by omega
        have ht30':¬(30:Int)<T:=by omega
        have hrun:∀W,(Instr.sliceAt 27 (.slice (some ⟨bb,off,none⟩) b.length cap) (some (.int .i64 at')) (some (.int .i64 ((at':Int)+n))) none).run aC W=.ok (.slice (Kf (some ⟨bb,off,none⟩) cap at') n (cap-at')) W:=by
         intro W
         have:=S6 (some ⟨bb,off,none⟩) b.length cap at' (at'+n) (by omega) (by omega) W;rw [show at'+n-at'=n by omega,aI] at this;exact this
        have hbs:Bs w (.slice (Kf (some ⟨bb,off,none⟩) cap at') n (cap-at')) ((b.drop at').take n):=by
         have:=HB.o.cut at' (at'+n) (by omega) (by omega);rw [show at'+n-at'=n by omega] at this;exact this
        have hbl2:((b.drop at').take n).length=n:=by rw [List.length_take,aM]; omega
        have hg0:0<n->(b.drop at').getD 0 0=((b.drop at').take n).getD 0 0:=by
         intro hn;rw [aL,aL,List.getElem?_take,if_pos hn]
        have hbs1:=hbs.below HB1.o;generalize (b.drop at').take n=body at hR hbs1 hbl2 hg0 hbs;obtain ⟨a2,hca⟩:∃a2,a2=Kf (some ⟨bb,off,none⟩) cap at':=⟨_,rfl⟩
        rw [<-hca] at hrun hbs1 hbs;subst hbl2;have HBS:=Ab hbs1;have HBSw:=Ab hbs;have hR0:=hR;clear HR hR hbs hca hbs1;rcases (by omega:K=0\/K=1\/K=2) with rfl | rfl | rfl
        . rw [if_pos rfl] at hR0;have HG:=Ab (Mf _ _ W1 HBS.o);by_cases hgb:body.length=0\/8<body.length
          . have hg:Fi body=(0,false):=by unfold Fi; rw [if_pos hgb]
            rw [hg] at hR0 HG;rw [if_pos (.inl rfl)] at hR0;have HR:=Ab hR0;clear hR0 hgb hg hg0;go_wp2_with fail;refine HG.o.mono ?_;rintro e w' ⟨rfl,rfl⟩;go_wp2_with (first | ((with_reducible refine zw 102 ?_);refine Cl rfl rfl HZ.o ?_) | ((with_reducible refine zws 4 102 ?_);refine Ag rfl (.tmp 4) (.tmp 102) Ak rfl rfl (vs:=zs5) rfl rfl HRB.o (aA _) Hf ?_));intro w2 h2 k2;have h2':Blk w2 w.heap.size zs5 314:=by simpa [zs5] using h2
            have H2:=Ab h2';have HB2:Hq (Below w.heap.size w w2):=Ab (HB1.o.trans (k2.below (by omega)));clear h2 h2' k2;go_wp2_with fail;rw [HR.o];exact bodyPost_ret (Bi rfl Ak rfl (cs:=zs5) rfl H2.o.cellsAll) rfl ⟨zs5,rfl,TvF.zero _ _,HB2.o⟩
          . have hg:Fi body=(C5 body,true):=by unfold Fi; rw [if_neg hgb]
            rw [hg] at hR0 HG;obtain ⟨b2,o2,rfl,hc2⟩:=Sl.addr HBS.o (by rw [Ac]; omega);have hb20:body[0]'(by omega)=body.getD 0 0:=by rw [aL,aJ (by omega)]; rfl
            have d0:W1.cell? ⟨b2,o2,none⟩=some (.int .u8 (body.getD 0 0).toNat):=by
             rw [<-hb20];exact hc2 0 _ (Ex body 0 (by omega))
            have hpos:0<body.length:=by omega
            rw [hg0 hpos] at hR0;have hNlt:=I1 body;have hN64:C5 body<18446744073709551616:=Nat.lt_of_lt_of_le hNlt (Nat.le_trans (Nat.pow_le_pow_right (by decide) (show body.length<=8 by omega)) (by decide));have q2:W1.cell? ⟨w.heap.size+1,2,none⟩=some (.int .u64 0):=by rw [HQB.o.cell]; rfl
            have qf2:=HQB.o.frozen 2;have hend:∀N:Nat,Blk (W1.setCell ⟨w.heap.size+1,2,none⟩ (.int .u64 N)) (w.heap.size+1) [.int .i64 0,.int .i64 T,.int .u64 N,.slice none 0 0,.slice none 0 0] 314/\Blk (W1.setCell ⟨w.heap.size+1,2,none⟩ (.int .u64 N)) w.heap.size zs5 314/\
             Below w.heap.size w (W1.setCell ⟨w.heap.size+1,2,none⟩ (.int .u64 N))/\(W1.setCell ⟨w.heap.size+1,2,none⟩ (.int .u64 N)).heap.size=W1.heap.size:=
             λ N=>⟨HQB.o.set 2 _,HRB.o.set_other (by simp) _,HB1.o.setCell (by simp) _,by simp [bN.setCell]⟩
            have HEND:=Ab hend;clear hgb hg hg0 hb20 hc2 hNlt hend HBS;generalize C5 body=N at*;generalize body.getD 0 0=y at*;by_cases hy:y=0
            . have hy':((y.toNat:Int)==0)=true:=by simp [hy]
              by_cases hl1:1<body.length
              . rw [if_pos (.inr ⟨hl1,hy⟩)] at hR0;have HR:=Ab hR0;have hl1':(1:Int)<body.length:=by omega
                clear hR0 hy hl1;go_wp2_with fail;refine HG.o.mono ?_;rintro e w' ⟨rfl,rfl⟩;go_wp2_with (first | ((with_reducible refine zw 102 ?_);refine Cl rfl rfl HZ.o ?_) | ((with_reducible refine zws 4 102 ?_);refine Ag rfl (.tmp 4) (.tmp 102) Ak rfl rfl (vs:=zs5) rfl rfl HRB.o (aA _) Hf ?_));intro w2 h2 k2;have h2':Blk w2 w.heap.size zs5 314:=by simpa [zs5] using h2
                have H2:=Ab h2';have HB2:Hq (Below w.heap.size w w2):=Ab (HB1.o.trans (k2.below (by omega)));clear h2 h2' k2;go_wp2_with fail;rw [HR.o];exact bodyPost_ret (Bi rfl Ak rfl (cs:=zs5) rfl H2.o.cellsAll) rfl ⟨zs5,rfl,TvF.zero _ _,HB2.o⟩
              . rw [if_neg (by simp; omega)] at hR0;have HR:=Ab hR0;have hl1':¬(1:Int)<body.length:=by omega
                clear hR0 hy hl1;go_wp2_with fail;refine HG.o.mono ?_;rintro e w' ⟨rfl,rfl⟩;go_upto_region 24 with fail;obtain ⟨hqe,hre,hbe,hze⟩:=HEND.o N;clear HEND q0 q1 q2 qf2 HQB HRB HB1;generalize W1.setCell ⟨w.heap.size+1,2,none⟩ (.int .u64 N)=WE at*;have HQE:=Ab hqe;have HRE:=Ab hre;have HBE:=Ab hbe;have hze':w.heap.size+2<=WE.heap.size:=by omega
                have HTV:Hq (TvF WE (λ x=>w.heap.size+2<=x/\x<WE.heap.size) (.mk 0 T N [] []) [.int .i64 0,.int .i64 T,.int .u64 N,.slice none 0 0,.slice none 0 0]):=Ab (TvF.mk (Sl.nil _ _ _) (by simp [bM.ownBlock]) (Sl.nil _ _ _) (by simp [bM.ownBlock]) rfl);clear hqe hre hbe hze;go_wp2_with (first | ((with_reducible refine zw 110 ?_);refine Aj rfl (.tmp 10) Ak rfl rfl (cs:= [.int .i64 0,.int .i64 T,.int .u64 N,.slice none 0 0,.slice none 0 0]) rfl HQE.o.cellsAll ?_) | ((with_reducible refine zws 4 110 ?_);refine Ag rfl (.tmp 4) (.tmp 110) Ak rfl rfl (vs:= [.int .i64 0,.int .i64 T,.int .u64 N,.slice none 0 0,.slice none 0 0]) rfl rfl HRE.o (aA _) HTV.o.one ?_));intro w2 h2 k2;have h2':Blk w2 w.heap.size ([.int .i64 0,.int .i64 T,.int .u64 N,.slice none 0 0,.slice none 0 0]) 314:=by simpa [zs5] using h2
                have H2:=Ab h2';have hz9:=k2.size;have HB2:Hq (Below w.heap.size w w2):=Ab (HBE.o.trans (k2.below (by omega)));have HT2:=Ab ((HTV.o.keep k2 (λ x hx _ e=>by have:=hx.1; omega)).mono (λ x hx=>(⟨by omega,by omega⟩:w.heap.size<=x/\x<w2.heap.size)));clear h2 h2' k2;go_wp2_with fail;rw [HR.o];exact bodyPost_ret (Bi rfl Ak rfl (cs:= [.int .i64 0,.int .i64 T,.int .u64 N,.slice none 0 0,.slice none 0 0]) rfl H2.o.cellsAll) rfl ⟨_,by simp only [aI]; rfl,HT2.o,HB2.o⟩
            . have hy':((y.toNat:Int)==0)=false:=by
               simp;intro e;exact hy (by exact UInt8.toNat_inj.1 e)
              rw [if_neg (by simp [hy])] at hR0;have HR:=Ab hR0;clear hR0 hy;by_cases hl1:1<body.length
              . have hl1':(1:Int)<body.length:=by omega
                clear hl1;go_wp2_with fail;refine HG.o.mono ?_;rintro e w' ⟨rfl,rfl⟩;go_upto_region 24 with fail;obtain ⟨hqe,hre,hbe,hze⟩:=HEND.o N;clear HEND q0 q1 q2 qf2 HQB HRB HB1;generalize W1.setCell ⟨w.heap.size+1,2,none⟩ (.int .u64 N)=WE at*;have HQE:=Ab hqe;have HRE:=Ab hre;have HBE:=Ab hbe;have hze':w.heap.size+2<=WE.heap.size:=by omega
                have HTV:Hq (TvF WE (λ x=>w.heap.size+2<=x/\x<WE.heap.size) (.mk 0 T N [] []) [.int .i64 0,.int .i64 T,.int .u64 N,.slice none 0 0,.slice none 0 0]):=Ab (TvF.mk (Sl.nil _ _ _) (by simp [bM.ownBlock]) (Sl.nil _ _ _) (by simp [bM.ownBlock]) rfl);clear hqe hre hbe hze;go_wp2_with (first | ((with_reducible refine zw 110 ?_);refine Aj rfl (.tmp 10) Ak rfl rfl (cs:= [.int .i64 0,.int .i64 T,.int .u64 N,.slice none 0 0,.slice none 0 0]) rfl HQE.o.cellsAll ?_) | ((with_reducible refine zws 4 110 ?_);refine Ag rfl (.tmp 4) (.tmp 110) Ak rfl rfl (vs:= [.int .i64 0,.int .i64 T,.int .u64 N,.slice none 0 0,.slice none 0 0]) rfl rfl HRE.o (aA _) HTV.o.one ?_));intro w2 h2 k2;have h2':Blk w2 w.heap.size ([.int .i64 0,.int .i64 T,.int .u64 N,.slice none 0 0,.slice none 0 0]) 314:=by simpa [zs5] using h2
                have H2:=Ab h2';have hz9:=k2.size;have HB2:Hq (Below w.heap.size w w2):=Ab (HBE.o.trans (k2.below (by omega)));have HT2:=Ab ((HTV.o.keep k2 (λ x hx _ e=>by have:=hx.1; omega)).mono (λ x hx=>(⟨by omega,by omega⟩:w.heap.size<=x/\x<w2.heap.size)));clear h2 h2' k2;go_wp2_with fail;rw [HR.o];exact bodyPost_ret (Bi rfl Ak rfl (cs:= [.int .i64 0,.int .i64 T,.int .u64 N,.slice none 0 0,.slice none 0 0]) rfl H2.o.cellsAll) rfl ⟨_,by simp only [aI]; rfl,HT2.o,HB2.o⟩
              . have hl1':¬(1:Int)<body.length:=by omega
                clear hl1;go_wp2_with fail;refine HG.o.mono ?_;rintro e w' ⟨rfl,rfl⟩;go_upto_region 24 with fail;obtain ⟨hqe,hre,hbe,hze⟩:=HEND.o N;clear HEND q0 q1 q2 qf2 HQB HRB HB1;generalize W1.setCell ⟨w.heap.size+1,2,none⟩ (.int .u64 N)=WE at*;have HQE:=Ab hqe;have HRE:=Ab hre;have HBE:=Ab hbe;have hze':w.heap.size+2<=WE.heap.size:=by omega
                have HTV:Hq (TvF WE (λ x=>w.heap.size+2<=x/\x<WE.heap.size) (.mk 0 T N [] []) [.int .i64 0,.int .i64 T,.int .u64 N,.slice none 0 0,.slice none 0 0]):=Ab (TvF.mk (Sl.nil _ _ _) (by simp [bM.ownBlock]) (Sl.nil _ _ _) (by simp [bM.ownBlock]) rfl);clear hqe hre hbe hze;go_wp2_with (first | ((with_reducible refine zw 110 ?_);refine Aj rfl (.tmp 10) Ak rfl rfl (cs:= [.int .i64 0,.int .i64 T,.int .u64 N,.slice none 0 0,.slice none 0 0]) rfl HQE.o.cellsAll ?_) | ((with_reducible refine zws 4 110 ?_);refine Ag rfl (.tmp 4) (.tmp 110) Ak rfl rfl (vs:= [.int .i64 0,.int .i64 T,.int .u64 N,.slice none 0 0,.slice none 0 0]) rfl rfl HRE.o (aA _) HTV.o.one ?_));intro w2 h2 k2;have h2':Blk w2 w.heap.size ([.int .i64 0,.int .i64 T,.int .u64 N,.slice none 0 0,.slice none 0 0]) 314:=by simpa [zs5] using h2
                have H2:=Ab h2';have hz9:=k2.size;have HB2:Hq (Below w.heap.size w w2):=Ab (HBE.o.trans (k2.below (by omega)));have HT2:=Ab ((HTV.o.keep k2 (λ x hx _ e=>by have:=hx.1; omega)).mono (λ x hx=>(⟨by omega,by omega⟩:w.heap.size<=x/\x<w2.heap.size)));clear h2 h2' k2;go_wp2_with fail;rw [HR.o];exact bodyPost_ret (Bi rfl Ak rfl (cs:= [.int .i64 0,.int .i64 T,.int .u64 N,.slice none 0 0,.slice none 0 0]) rfl H2.o.cellsAll) rfl ⟨_,by simp only [aI]; rfl,HT2.o,HB2.o⟩
        . rw [if_neg (by decide),if_pos rfl] at hR0;have HR:=Ab hR0;clear hR0 hg0;go_wp2_with ((with_reducible refine zw 108 ?_);refine Dr rfl (.const (.slice none 0 0)) (.tmp 107) D8 rfl W1.heap.size (Own.nil _ _ _ _ _) (by simp [Act.eval,bM.ownBlock]) HBS.o (by unfold maxLen; omega) (by omega) (aA _) ?_);intro v3 w3 ho3 hk3 hv3;have hz3:=hk3.size;have hb3:Below w.heap.size w w3:=HB1.o.trans (hk3.below (by rintro x (h | h); simp [bM.ownBlock] at h; omega));have hq3:Blk w3 (w.heap.size+1) [.int .i64 1,.int .i64 T,.int .u64 0,.slice none 0 0,.slice none 0 0] 314:=HQB.o.keep hk3 (by rintro (h | h); simp [bM.ownBlock] at h; omega);have hr3:Blk w3 w.heap.size zs5 314:=HRB.o.keep hk3 (by rintro (h | h); simp [bM.ownBlock] at h; omega);have hvb:∀x,v3.ownBlock=some x->w.heap.size+2<=x/\x<w3.heap.size:=λ x hx=>by
           refine ⟨?_,(hv3 x hx).2⟩;rcases (hv3 x hx).1 with h | h
           . simp [bM.ownBlock] at h
           . omega
          have q3:w3.cell? ⟨w.heap.size+1,3,none⟩=some (.slice none 0 0):=by rw [hq3.cell]; rfl
          have qf3:=hq3.frozen 3;have hbs3:Bs w3 v3 body:=ho3.sl;obtain ⟨a3,c3,hv3f,_⟩:=ho3.sl.form;subst hv3f;have hqe:=hq3.set 3 (.slice a3 body.length c3);have hre:Blk (w3.setCell ⟨w.heap.size+1,3,none⟩ (.slice a3 body.length c3)) w.heap.size zs5 314:=hr3.set_other (by simp) _;have hbe:Below w.heap.size w (w3.setCell ⟨w.heap.size+1,3,none⟩ (.slice a3 body.length c3)):=hb3.setCell (by simp) _;have hbse:Bs (w3.setCell ⟨w.heap.size+1,3,none⟩ (.slice a3 body.length c3)) (.slice a3 body.length c3) body:=Sl.setCell hbs3 (λ h=>by have:=(hvb _ h).1; simp at this) _;have hze:(w3.setCell ⟨w.heap.size+1,3,none⟩ (.slice a3 body.length c3)).heap.size=w3.heap.size:=by simp [bN.setCell]
          have HQE:=Ab hqe;have HRE:=Ab hre;have HBE:=Ab hbe;have HTV:Hq (TvF (w3.setCell ⟨w.heap.size+1,3,none⟩ (.slice a3 body.length c3)) (λ x=>w.heap.size+2<=x/\x< (w3.setCell ⟨w.heap.size+1,3,none⟩ (.slice a3 body.length c3)).heap.size) (.mk 1 T 0 body []) [.int .i64 1,.int .i64 T,.int .u64 0,.slice a3 body.length c3,.slice none 0 0]):=
           Ab (TvF.mk hbse (by rw [hze]; exact hvb) (Sl.nil _ _ _) (by simp [bM.ownBlock]) rfl)
          have hze':w.heap.size+2<=(w3.setCell ⟨w.heap.size+1,3,none⟩ (.slice a3 body.length c3)).heap.size:=by omega
          clear hqe hre hbe hbse hze ho3 hk3 hv3 hb3 hq3 hr3 hvb hbs3 q0 q1 HQB HRB HB1;go_upto_region 24 with fail;generalize w3.setCell ⟨w.heap.size+1,3,none⟩ (.slice a3 body.length c3)=WE at*;go_wp2_with (first | ((with_reducible refine zw 110 ?_);refine Aj rfl (.tmp 10) Ak rfl rfl (cs:= [.int .i64 1,.int .i64 T,.int .u64 0,.slice a3 body.length c3,.slice none 0 0]) rfl HQE.o.cellsAll ?_) | ((with_reducible refine zws 4 110 ?_);refine Ag rfl (.tmp 4) (.tmp 110) Ak rfl rfl (vs:= [.int .i64 1,.int .i64 T,.int .u64 0,.slice a3 body.length c3,.slice none 0 0]) rfl rfl HRE.o (aA _) HTV.o.one ?_));intro w2 h2 k2;have h2':Blk w2 w.heap.size ([.int .i64 1,.int .i64 T,.int .u64 0,.slice a3 body.length c3,.slice none 0 0]) 314:=by simpa [zs5] using h2
          have H2:=Ab h2';have hz9:=k2.size;have HB2:Hq (Below w.heap.size w w2):=Ab (HBE.o.trans (k2.below (by omega)));have HT2:=Ab ((HTV.o.keep k2 (λ x hx _ e=>by have:=hx.1; omega)).mono (λ x hx=>(⟨by omega,by omega⟩:w.heap.size<=x/\x<w2.heap.size)));clear h2 h2' k2;go_wp2_with fail;rw [HR.o];exact bodyPost_ret (Bi rfl Ak rfl (cs:= [.int .i64 1,.int .i64 T,.int .u64 0,.slice a3 body.length c3,.slice none 0 0]) rfl H2.o.cellsAll) rfl ⟨_,by simp only [aI]; rfl,HT2.o,HB2.o⟩
        . rw [if_neg (by decide),if_neg (by decide)] at hR0;have hR0':Dj (d+1) b=if (LS d body).2=0 then (.mk 2 T 0 [] (LS d body).1,at'+body.length,0) else (.zero,0,(LS d body).2):=hR0
          have HR0:=Ab hR0';obtain ⟨r,hr⟩:∃r,r=w.heap.size:=⟨_,rfl⟩
          have hz1':w.heap.size+2<=W1.heap.size:=by omega
          have HDL:Hq (DL w r d T body (.slice a2 body.length (cap-at')) W1 body [] (.slice none 0 0) [] (λ _=>False)):=Ab (by
           subst hr;exact ⟨HBSw.o,rfl,by simp,HQB.o,HRB.o,Own.nil _ _ _ _ _,rfl,λ _ h=>h.elim,by simp [bM.ownBlock],HB1.o,by omega⟩)
          have hD0:0<=D:=by have:=HD.o; omega
          have hrw:w.heap.size=r:=hr.symm;rw [hrw] at q0 q1 ⊢;have hdr:w.heap.size<=r:=by omega
          clear hR0 hR0' hg0 hz1 HQB HRB HB1 HBS hr hrw;go_wp2_with fail;go_loopw [11] (λ inv wr=>∃rest acc lv rows F,DL w r d T body inv wr rest acc lv rows F) (λ inv _=>A0x inv)
          case atStart=>exact ⟨body, [],_, [],_,HDL.o⟩
          case round=>
           obtain ⟨rest,acc,lv,rows,F,hdl⟩:=hrel;obtain ⟨ai,ci,rfl,hci,hmi⟩:=hdl.bs.form;have hmi':=hmi;unfold maxLen at hmi';have HDLr:=Ab hdl;have hszr:=hdl.size;have hfew:=hdl.few;have z0:wr.cell? ⟨r+1,0,none⟩=some (.int .i64 2):=by rw [hdl.q.cell]; rfl
           clear q0 q1 hdl;by_cases hre:rest= []
           . subst hre;have hls:=HDLr.o.ls;rw [A7r,aG] at hls;have hR:=HR0.o;rw [hls] at hR;have HR:Hq (Dj (d+1) b=(.mk 2 T 0 [] acc,at'+body.length,0)):=Ab (by rw [hR]; rfl);have HQE:=Ab HDLr.o.q;have HRE:=Ab HDLr.o.z;have HBE:Hq (Below w.heap.size w wr):=Ab (HDLr.o.below.mono hdr);have HTV:Hq (TvF wr (λ x=>r+2<=x/\x<wr.heap.size) (.mk 2 T 0 [] acc) [.int .i64 2,.int .i64 T,.int .u64 0,.slice none 0 0,lv]):=Ab (TvF.mk (Sl.nil _ _ _) (by simp [bM.ownBlock]) HDLr.o.own.sl (λ x hx=>by have:=HDLr.o.v x hx; omega) (HDLr.o.tvs.mono (λ x hx=>by have:=HDLr.o.f x hx; omega)));clear hls hR HR0;go_upto_region 24 with fail;go_wp2_with (first | ((with_reducible refine zw 110 ?_);refine Aj rfl (.tmp 10) Ak rfl rfl (cs:= [.int .i64 2,.int .i64 T,.int .u64 0,.slice none 0 0,lv]) rfl HQE.o.cellsAll ?_) | ((with_reducible refine zws 4 110 ?_);refine Ag rfl (.tmp 4) (.tmp 110) Ak rfl rfl (vs:= [.int .i64 2,.int .i64 T,.int .u64 0,.slice none 0 0,lv]) rfl rfl HRE.o (aA _) HTV.o.one ?_));intro w2 h2 k2;have h2':Blk w2 r ([.int .i64 2,.int .i64 T,.int .u64 0,.slice none 0 0,lv]) 314:=by simpa [zs5] using h2
             have H2:=Ab h2';have hz9:=k2.size;have HB2:Hq (Below w.heap.size w w2):=Ab (HBE.o.trans (k2.below (by omega)));have HT2:=Ab ((HTV.o.keep k2 (λ x hx _ e=>by have:=hx.1; omega)).mono (λ x hx=>(⟨by omega,by omega⟩:w.heap.size<=x/\x<w2.heap.size)));clear h2 h2' k2;go_wp2_with fail;rw [HR.o];exact bodyPost_ret (Bi rfl Ak rfl (cs:= [.int .i64 2,.int .i64 T,.int .u64 0,.slice none 0 0,lv]) rfl H2.o.cellsAll) rfl ⟨_,by simp only [aI]; rfl,HT2.o,HB2.o⟩
           . have hpos:0<rest.length:=List.length_pos_iff.2 hre;have hposI:(0:Int)<rest.length:=by omega
             obtain ⟨x,k,e5,hrd⟩:∃x k e,Dj d rest=(x,k,e):=⟨_,_,_,rfl⟩
             have HCALL:=Ab (HIH.o (D+1) _ rest wr (by have:=HD.o; omega) (by omega) (HDLr.o.bs.below (HDLr.o.below.mono hdr)) (by omega));rw [hrd] at HCALL;have HRD:=Ab hrd;have HRE:=Ab hre;clear hrd hre;go_wp2_with fail;refine HCALL.o.mono ?_;rintro e w5 hres;obtain ⟨cs,rfl,htv,hb5⟩:=hres;have hz5:=hb5.size;have hcl:cs.length=5:=htv.length;have HCL:=Ab hcl;have HC1:=Ab htv.one;have HN5:=Ab (Blk.new w5 zs5 314);have HTV:=Ab htv;have HB5:=Ab hb5;clear hcl htv hb5 HCALL;go_wp2_with ((with_reducible refine zws 14 66 ?_);refine Ag rfl (.tmp 14) (.tmp 66) Ak rfl rfl (vs:=cs) rfl HCL.o HN5.o (aA _) HC1.o ?_);intro w6 h6 k6;have h6':Blk w6 w5.heap.size cs 314:=by
              rw [aK (by decide),aG] at h6;exact h6
             have hz6:=k6.size;simp at hz6;have hb56:Below w5.heap.size w5 w6:=((aB _ _).alloc (aA _) _).trans (k6.below (by omega));have HB6:Hq (Below wr.heap.size wr w6):=Ab (HB5.o.trans (hb56.mono hz5));have HTV6:=Ab (HTV.o.below hb56);have H6:=Ab h6';obtain ⟨s6,hs6⟩:∃s6,s6=w5.heap.size:=⟨_,rfl⟩
             rw [<-hs6] at H6 hz6 hz5 HTV6 ⊢;clear h6 h6' k6 hb56 HN5 HB5 HTV hs6;by_cases he5:e5=0
             . have he5':(e5 !=0)=false:=by simp [he5]
               subst he5;have hkk:=I9 d _ _ _ HRD.o;have HLS:Hq (LS d body=((acc++ [x])++(LS d (rest.drop k)).1,(LS d (rest.drop k)).2)):=Ab (by
                rw [HDLr.o.ls,A8f HRE.o HRD.o]
                simp)
               have hq6:Blk w6 (r+1) [.int .i64 2,.int .i64 T,.int .u64 0,.slice none 0 0,lv] 314:=HDLr.o.q.below HB6.o (by omega);have q4:w6.cell? ⟨r+1,4,none⟩=some lv:=by rw [hq6.cell]; rfl
               have HO6:=Ab (HDLr.o.own.below HB6.o);have HO6':=Ab (HO6.o.alloc (.cells cs.toArray 314));have HVlt:Hq (∀b,lv.ownBlock=some b->b< (w6.alloc (.cells cs.toArray 314)).heap.size):=Ab (λ b hb=>by have:=(HDLr.o.v b hb).2; simp; omega);have hacc:acc.length<=1048576:=by omega
               have HQ6:=Ab hq6;clear hq6;go_wp2_with (first | ((with_reducible refine zw 75 ?_);refine Aj rfl (.tmp 14) Ak rfl rfl (cs:=cs) HCL.o H6.o.cellsAll ?_) | ((with_reducible refine zw 76 ?_);refine Ns rfl (.tmp 75) Hs rfl rfl (by have:=HCL.o; simpa using this) (by decide) ?_) | ((with_reducible refine zw 77 ?_);refine Dr rfl (.tmp 74) (.tmp 76) Hs rfl (r+2) HO6'.o HVlt.o (Sl.lit (n:=1) rfl (by simpa using HCL.o) HC1.o (by unfold maxLen; decide)) (by unfold maxLen; omega) (by omega) (by simp; omega) ?_));intro v7 w7 ho7 hk7 hv7;have hz7:=hk7.size;simp at hz7;obtain ⟨a7,c7,hv7f,_⟩:=ho7.sl.form;subst hv7f;have k67:Ai (λ b=>lv.ownBlock=some b\/w6.heap.size<=b) w6 w7:=by
                refine ((Ai.refl _ _).alloc _ (.inr (aA _))).trans (hk7.mono (λ b hb=>?_));rcases hb with hb | hb
                . exact .inl hb.1
                . exact .inr (by omega)
               have ka:Ai (λ b=>lv.ownBlock=some b\/wr.heap.size<=b) wr w7:=((Ai.of_below HB6.o).mono (λ b hb=>.inr hb)).trans (k67.mono (λ b hb=>by
                rcases hb with hb | hb
                . exact .inl hb
                . exact .inr (by omega)))
               have hvr:∀b,b<r+2->¬(lv.ownBlock=some b\/wr.heap.size<=b):=by
                rintro b hb (h | h)
                . have:=(HDLr.o.v b h).1; omega
                . omega
               have hq7:=HDLr.o.q.keep ka (hvr _ (by omega));have hr7:=HDLr.o.z.keep ka (hvr _ (by omega));have q7:w7.cell? ⟨r+1,4,none⟩=some lv:=by rw [hq7.cell]; rfl
               have qf7:=hq7.frozen 4;have hb7:Below r w w7:=HDLr.o.below.trans (ka.below (by
                rintro b (h | h)
                . have:=(HDLr.o.v b h).1; omega
                . omega))
               have htvs7:Db w7 (λ y=>F y\/(wr.heap.size<=y/\y<s6)) (acc++ [x]) (rows++cs):=by
                refine Db.snoc ((HDLr.o.tvs.keep ka (λ y hy hl h=>?_)).mono (λ y hy=>.inl hy)) ((HTV6.o.keep k67 (λ y hy hl h=>?_)).mono (λ y hy=>.inr hy))
                . obtain ⟨h1,h2,h3⟩:=HDLr.o.f y hy;rcases h with h | h
                  . exact h3 h
                  . omega
                . rcases h with h | h
                  . have:=(HDLr.o.v y h).2; omega
                  . omega
               have hv8:∀b,(bM.slice a7 (acc.length+1) c7).ownBlock=some b->r+2<=b/\b<w7.heap.size:=λ b hb=>by
                refine ⟨?_,(hv7 b hb).2⟩;rcases (hv7 b hb).1 with h | h
                . exact (HDLr.o.v b h).1
                . omega
               have hrun2:∀W,(Instr.sliceAt 27 (.slice ai rest.length ci) (some (.int .i64 k)) none none).run aC W=.ok (.slice (Kf ai ci k) (rest.length-k) (ci-k)) W:=λ W=>A5u ai rest.length ci k (by omega) W
               have hbs8:Bs w (.slice (Kf ai ci k) (rest.length-k) (ci-k)) (rest.drop k):=by
                have:=HDLr.o.bs.cut k rest.length (by omega) (aA _)
                rwa [aW (by rw [aM]; exact aA _)] at this
               have HDLn:Hq (DL w r d T body (.slice (Kf ai ci k) (rest.length-k) (ci-k)) (w7.setCell ⟨r+1,4,none⟩ (.slice a7 (acc.length+1) c7)) (rest.drop k) (acc++ [x]) (.slice a7 (acc.length+1) c7) (rows++cs) (λ y=>F y\/(wr.heap.size<=y/\y<s6))):=Ab (by
                have ks:Ai (λ b=>b=r+1) w7 (w7.setCell ⟨r+1,4,none⟩ (.slice a7 (acc.length+1) c7)):=Ai.one _ _ _ _;have hsz:(w7.setCell ⟨r+1,4,none⟩ (.slice a7 (acc.length+1) c7)).heap.size=w7.heap.size:=by simp [bN.setCell]
                refine ⟨hbs8,HLS.o,by simp; omega,hq7.set 4 _,hr7.keep ks (by omega),?_,htvs7.keep ks (λ y hy _ e=>?_),λ y hy=>?_,by rw [hsz]; exact hv8,hb7.trans (ks.below (by omega)),by rw [hsz]; omega⟩
                . rw [aF,List.length_singleton];exact ho7.keep ks (λ b hb e=>by have:=(hv8 b hb).1; omega)
                . rcases hy with hy | hy
                  . have:=(HDLr.o.f y hy).1; omega
                  . omega
                . rw [hsz];rcases hy with hy | hy
                  . obtain ⟨h1,h2,h3⟩:=HDLr.o.f y hy;refine ⟨h1,by omega,λ e=>?_⟩;rcases (hv7 y e).1 with h | h
                    . exact h3 h
                    . omega
                  . refine ⟨by omega,by omega,λ e=>?_⟩;rcases (hv7 y e).1 with h | h
                    . have:=(HDLr.o.v y h).2; omega
                    . omega)
               clear ho7 hk7 hv7 k67 ka hvr hq7 hr7 hb7 htvs7 hv8 hbs8 HTV6 HB6 HO6 HO6' HQ6 HVlt q4 z0 H6;go_wp2_with fail;go_roundw
               case rel=>exact ⟨_,_,_,_,_,HDLn.o⟩
               case measure=>simp [A0x]; omega
             . have he5':(e5 !=0)=true:=by simp [he5]
               have hls:=HDLr.o.ls;rw [A7q HRE.o HRD.o he5,aG] at hls;have hR:=HR0.o;rw [hls] at hR;simp only at hR;rw [if_neg he5] at hR;have HR:=Ab hR;have HRB:=Ab (HDLr.o.z.below HB6.o (by omega));have HB1:Hq (Below w.heap.size w w6):=Ab ((HDLr.o.below.mono hdr).trans (HB6.o.mono (by omega)));clear hls hR HR0 he5;go_wp2_with (first | ((with_reducible refine zw 71 ?_);refine Cl rfl rfl HZ.o ?_) | ((with_reducible refine zws 4 71 ?_);refine Ag rfl (.tmp 4) (.tmp 71) Ak rfl rfl (vs:=zs5) rfl rfl HRB.o (aA _) Hf ?_));intro w2 h2 k2;have h2':Blk w2 r zs5 314:=by simpa [zs5] using h2
               have H2:=Ab h2';have HB2:Hq (Below w.heap.size w w2):=Ab (HB1.o.trans (k2.below (by omega)));clear h2 h2' k2;go_wp2_with fail;rw [HR.o];exact bodyPost_ret (Bi rfl Ak rfl (cs:=zs5) rfl H2.o.cellsAll) rfl ⟨zs5,rfl,TvF.zero _ _,HB2.o⟩
  . have he':(e0 !=0)=true:=by simp [he]
    have HR:Hq (Dj (d+1) b=(.zero,0,e0)):=Ab (by rw [Dj,hs]; simp only; rw [if_pos he]);clear hs he;go_wp2_with (first | ((with_reducible refine zw 28 ?_);refine Cl rfl rfl HZ.o ?_) | ((with_reducible refine zws 4 28 ?_);refine Ag rfl (.tmp 4) (.tmp 28) Ak rfl rfl (vs:=zs5) rfl rfl HN.o (aA _) Hf ?_));intro w2 h2 k2;have h2':Blk w2 w.heap.size zs5 314:=by simpa [zs5] using h2
    have H2:=Ab h2';have HB2:Hq (Below w.heap.size w w2):=Ab (((aB _ _).alloc (aA _) _).trans (k2.below (by omega)));clear h2 h2' k2;go_wp2_with fail;rw [HR.o];exact bodyPost_ret (Bi rfl Ak rfl (cs:=zs5) rfl H2.o.cellsAll) rfl ⟨zs5,rfl,TvF.zero _ _,HB2.o⟩
def beB:Nat->Nat->Aa
 | 0,_=> []
 | k+1,n=>beB k (n / 256)++ [UInt8.ofNat (n % 256)]
theorem Yd:∀(k n:Nat),UInt8.ofNat (n / 256 ^ k % 256)::beB k n=beB (k+1) n
 | 0,n=>by simp [beB]
 | k+1,n=>by
  rw [beB,beB,<-Yd k (n / 256),Nat.div_div_eq_div_mul,<-Nat.pow_succ',aN]
theorem Ro:∀(k n:Nat),(beB k n).length=k
 | 0,_=>rfl
 | k+1,n=>by simp [beB,Ro k]
theorem A3b (n:Nat):Dw n=beB 8 n:=by
 have h:∀k,k<=8->((List.range' (8-k) k).map λ i=>UInt8.ofNat (n / 2 ^ (56-8*i) % 256))=beB k n:=by
  intro k;induction k with
  | zero=>intro _; rfl
  | succ k ih=>
   intro hk;rw [<-Yd,<-ih (by omega),List.range'_succ,aX,show 8- (k+1)+1=8-k by omega];congr 4;rw [show (256:Nat)=2 ^ 8 by rfl,<-Nat.pow_mul];congr 1;omega
 have:=h 8 (aA _);rw [<-this,Dw,List.range_eq_range']
def F5:Nat->Nat->Aa
 | 0,_=> []
 | f+1,n=>if n<256 then [UInt8.ofNat n] else F5 f (n / 256)++ [UInt8.ofNat (n % 256)]
theorem Qc:∀(l:Aa) (x:UInt8),l≠ []->(∃y∈l,y≠0)->Dl (l++ [x])=Dl l++ [x]
 | [],_,h,_=>absurd rfl h
 | [a],x,_,h=>by
  obtain ⟨y,hy,h0⟩:=h;rw [aY] at hy;subst hy;simp [Dl,h0]
 | a::b::l,x,_,h=>by
  by_cases h0:a=0
  . subst h0;simp only [aN,Dl,if_true];refine Qc (b::l) x (by simp) ?_;obtain ⟨y,hy,h1⟩:=h;rcases List.mem_cons.1 hy with rfl | hy
    . exact absurd rfl h1
    . exact ⟨y,hy,h1⟩
  . simp [Dl,h0]
theorem Oo:∀(l:Aa) (x:UInt8),(∀y∈l,y=0)->Dl (l++ [x])= [x]
 | [],_,_=>rfl
 | [a],x,h=>by
  have:=h a (by simp);subst this;simp [Dl]
 | a::b::l,x,h=>by
  have:=h a (by simp);subst this;simp only [aN,Dl,if_true];exact Oo (b::l) x (λ y hy=>h y (by simp [hy]))
theorem Yf:∀(k:Nat),∀y∈beB k 0,y=0
 | 0,y,h=>by simp [beB] at h
 | k+1,y,h=>by
  simp only [beB,List.mem_append,aY] at h;rcases h with h | h
  . exact Yf k y (by simpa using h)
  . rw [h]; rfl
theorem Ye:∀(k n:Nat),0<n->n<256 ^ k->∃y∈beB k n,y≠0
 | 0,n,h0,h=>by simp at h; omega
 | k+1,n,h0,h=>by
  by_cases hn:n<256
  . refine ⟨UInt8.ofNat (n % 256),by simp [beB],λ e=>?_⟩
    have:=congrArg UInt8.toNat e;simp at this;omega
  . obtain ⟨y,hy,h1⟩:=Ye k (n / 256) (by omega) (by rw [aZ] at h; omega);exact ⟨y,by simp [beB,hy],h1⟩
theorem Vp:∀(k n:Nat),n<256 ^ (k+1)->Dl (beB (k+1) n)=F5 (k+1) n
 | 0,n,h=>by
  have:n<256:=by simpa using h
  simp [beB,Dl,F5,this,bA this]
 | k+1,n,h=>by
  rw [beB,F5];by_cases hn:n<256
  . rw [if_pos hn,Nat.div_eq_of_lt hn,Oo _ _ (Yf _),bA hn]
  . have h':n / 256<256 ^ (k+1):=by rw [aZ] at h; omega
    rw [if_neg hn,Qc _ _ (by intro e; have:=congrArg List.length e; simp [Ro] at this) (Ye _ _ (by omega) h'),Vp k (n / 256) h']
theorem Mn (n:Nat) (h:n<256 ^ 8):Cd n=F5 8 n:=by rw [Cd,A3b,Vp 7 n h]
def A8l (w:bN) (r:Tv×Int) (e:Ending) (w':bN):Prop:=
 ∃cs:List bM,e=.returned (.tuple #[.agg cs.toArray,.int .i64 r.2])/\TvF w' (λ x=>w.heap.size<=x/\x<w'.heap.size) r.1 cs/\Below w.heap.size w w'
theorem N3 (v:bM) (b:Aa) (w:bN) (h:Bs w v b):bO aC 164 #[v] w (A8l w (Ff b)):=by
 obtain ⟨a,cap,rfl,hcap,hcm⟩:=h.form;unfold maxLen at hcm;have HZ:=Ab Rv;have HN:=Ab (Blk.new w zs5 314);by_cases hl:4096<b.length
 . have HR:Hq (Ff b=(.zero,20)):=Ab (by unfold Ff; rw [if_pos hl]);have hl':(4096:Int)<b.length:=by omega
   clear hl h;go_enter bB,bC;go_wp2_with (first | ((with_reducible refine zw 10 ?_);refine Cl rfl rfl HZ.o ?_) | ((with_reducible refine zws 2 10 ?_);refine Ag rfl (.tmp 2) (.tmp 10) Ak rfl rfl (vs:=zs5) rfl rfl HN.o (aA _) Hf ?_));intro w2 h2 k2;have h2':Blk w2 w.heap.size zs5 314:=by simpa [zs5] using h2
   have H2:=Ab h2';have HB2:Hq (Below w.heap.size w w2):=Ab (((aB _ _).alloc (aA _) _).trans (k2.below (by omega)));clear h2 h2' k2;go_wp2_with fail;rw [HR.o];exact bodyPost_ret (Ap rfl Ak rfl (cs:=zs5) rfl H2.o.cellsAll) rfl ⟨zs5,rfl,TvF.zero _ _,HB2.o⟩
 . have hl':¬(4096:Int)<b.length:=by omega
   obtain ⟨x,n,e,hrd⟩:∃x n e,Dj 8 b=(x,n,e):=⟨_,_,_,rfl⟩
   have hW:Ff b=if e≠0 then (.zero,e) else if n<b.length then (.zero,5) else (x,0):=by unfold Ff; rw [if_neg hl,hrd]
   have HW:=Ab hW;have HCALL:=Ab (Y5 8 1 _ b (w.alloc (.cells zs5.toArray 314)) (by decide) (aA _) (h.alloc _) (by omega));rw [hrd] at HCALL;clear hl h hW hrd;go_enter bB,bC;go_wp2_with fail;refine HCALL.o.mono ?_;rintro er w1 ⟨cs,rfl,htv,hb1⟩;have hz1:=hb1.size;simp at hz1;have hcl:cs.length=5:=htv.length;have HCL:=Ab hcl;have HC1:=Ab htv.one;have hr1:Blk w1 w.heap.size zs5 314:=HN.o.below hb1 (by simp);have HR1:=Ab hr1;have HB1:Hq (Below w.heap.size w w1):=Ab (((aB _ _).alloc (aA _) _).trans (hb1.mono (by simp)));have HTV:Hq (TvF w1 (λ y=>w.heap.size+1<=y/\y<w1.heap.size) x cs):=Ab (htv.mono (λ y hy=>by simp at hy; omega));have HN1:=Ab (Blk.new w1 zs5 314);clear hcl htv hb1 hr1 HCALL;go_wp2_with ((with_reducible refine zws 4 14 ?_);refine Ag rfl (.tmp 4) (.tmp 14) Ak rfl rfl (vs:=cs) rfl HCL.o HN1.o (aA _) HC1.o ?_);intro w3 h3 k3;have h3':Blk w3 w1.heap.size cs 314:=by
    rw [aK (by decide),aG] at h3;exact h3
   have hz3:=k3.size;simp at hz3;have hb3:Below w1.heap.size w1 w3:=((aB _ _).alloc (aA _) _).trans (k3.below (by omega));have H3:=Ab h3';have HR3:=Ab (HR1.o.below hb3 (by omega));have HB3:Hq (Below w.heap.size w w3):=Ab (HB1.o.trans (hb3.mono (by omega)));have HTV3:=Ab (HTV.o.below hb3);obtain ⟨q,hq⟩:∃q,q=w1.heap.size:=⟨_,rfl⟩
   rw [<-hq] at H3 hz3 HTV3 ⊢;have hqw:w.heap.size+1<=q:=by omega
   clear h3 h3' k3 hb3 HN1 HTV HB1 hq;by_cases he:e=0
   . subst he;by_cases hn:n<b.length
     . have HR:Hq (Ff b=(.zero,5)):=Ab (by rw [HW.o,if_neg (by decide),if_pos hn]);have hn':(n:Int)<b.length:=by omega
       clear hn;go_wp2_with (first | ((with_reducible refine zw 27 ?_);refine Cl rfl rfl HZ.o ?_) | ((with_reducible refine zws 2 27 ?_);refine Ag rfl (.tmp 2) (.tmp 27) Ak rfl rfl (vs:=zs5) rfl rfl HR3.o (aA _) Hf ?_));intro w2 h2 k2;have h2':Blk w2 w.heap.size zs5 314:=by simpa [zs5] using h2
       have H2:=Ab h2';have HB2:Hq (Below w.heap.size w w2):=Ab (HB3.o.trans (k2.below (by omega)));clear h2 h2' k2;go_wp2_with fail;rw [HR.o];exact bodyPost_ret (Ap rfl Ak rfl (cs:=zs5) rfl H2.o.cellsAll) rfl ⟨zs5,rfl,TvF.zero _ _,HB2.o⟩
     . have HR:Hq (Ff b=(x,0)):=Ab (by rw [HW.o,if_neg (by decide),if_neg hn]);have hn':¬(n:Int)<b.length:=by omega
       clear hn;go_wp2_with (first | ((with_reducible refine zw 28 ?_);refine Aj rfl (.tmp 4) Ak rfl rfl (cs:=cs) HCL.o H3.o.cellsAll ?_) | ((with_reducible refine zws 2 28 ?_);refine Ag rfl (.tmp 2) (.tmp 28) Ak rfl rfl (vs:=cs) rfl HCL.o HR3.o (aA _) HC1.o ?_));intro w2 h2 k2;have h2':Blk w2 w.heap.size cs 314:=by
        rw [aK (by decide),aG] at h2;exact h2
       have H2:=Ab h2';have hz2:=k2.size;have HB2:Hq (Below w.heap.size w w2):=Ab (HB3.o.trans (k2.below (by omega)));have HT2:Hq (TvF w2 (λ y=>w.heap.size<=y/\y<w2.heap.size) x cs):=Ab ((HTV3.o.keep k2 (λ y hy _ e=>by have:=hy.1; omega)).mono (λ y hy=>(⟨by omega,by omega⟩:w.heap.size<=y/\y<w2.heap.size)));clear h2 h2' k2;go_wp2_with fail;rw [HR.o];exact bodyPost_ret (Ap rfl Ak rfl (cs:=cs) HCL.o H2.o.cellsAll) rfl ⟨cs,rfl,HT2.o,HB2.o⟩
   . have HR:Hq (Ff b=(.zero,e)):=Ab (by rw [HW.o,if_pos he]);have he':(e !=0)=true:=by simp [he]
     clear he;go_wp2_with (first | ((with_reducible refine zw 20 ?_);refine Cl rfl rfl HZ.o ?_) | ((with_reducible refine zws 2 20 ?_);refine Ag rfl (.tmp 2) (.tmp 20) Ak rfl rfl (vs:=zs5) rfl rfl HR3.o (aA _) Hf ?_));intro w2 h2 k2;have h2':Blk w2 w.heap.size zs5 314:=by simpa [zs5] using h2
     have H2:=Ab h2';have HB2:Hq (Below w.heap.size w w2):=Ab (HB3.o.trans (k2.below (by omega)));clear h2 h2' k2;go_wp2_with fail;rw [HR.o];exact bodyPost_ret (Ap rfl Ak rfl (cs:=zs5) rfl H2.o.cellsAll) rfl ⟨zs5,rfl,TvF.zero _ _,HB2.o⟩
def A4:Nat->Tv->Bool
 | 0,_=>false
 | d+1,.mk k t n b l=>decide (0<=t)&&decide (t<=30)&&
  (if k=0 then decide (b= [])&&decide (l.length=0) else if k=1 then decide (n=0)&&decide (l.length=0) else if k=2 then l.all (A4 d)&&decide (n=0)&&decide (b= []) else false)
theorem Js {n:Nat} (h:n=0):((n:Int)==0)=true:=by subst h; rfl
theorem Ia {n:Nat} (h:¬n=0):((n:Int)==0)=false:=by simp; exact h
theorem A4n {α:Type} (p:α->Bool) (l:List α) (k:Nat) (h:k<l.length):(l.take (k+1)).all p=((l.take k).all p&&p l[k]):=by
 rw [aO h,List.all_append];simp
theorem A5W {α:Type} (p:α->Bool) (l:List α) (k:Nat) (h:k<l.length) (hp:p l[k]=false):l.all p=false:=by
 rw [List.all_eq_false];exact ⟨l[k],aP h,by simp [hp]⟩
def A2F (w:bN) (r:Bool) (e:Ending) (w':bN):Prop:=e=.returned (.bool r)/\Below w.heap.size w w'
theorem Wj:∀(d:Nat) (D:Int) (x:Tv) (F:Nat->Prop) (cs:List bM) (w:bN),D=9- (d:Int)->d<=8->TvF w F x cs-> bO aC 264 #[.agg cs.toArray,.int .i64 D] w (A2F w (A4 d x)):=by
 intro d;induction d with
 | zero=>
  intro D x F cs w hD hd h;obtain ⟨bv,lv,rows,rfl,hb,_,hl,_,hls⟩:=h.open_;have hD':(8:Int)<D:=by omega
  have HR:Hq (A4 0 x=false):=Ab rfl;clear hD h;generalize x.tag=t at*;rcases (by omega:t<0\/30<t\/(0<=t/\t<=30)) with ht | ht | ⟨ht,ht2⟩
  all_goals
   go_enter aD,aE;go_wp2_with fail;go_ret;rw [HR.o];exact ⟨rfl,(aB _ _).alloc (aA _) _⟩
 | succ d ih=>
  intro D x F cs w hD hd h;obtain ⟨bv,lv,rows,rfl,hb,_,hl,_,hls⟩:=h.open_;have hD':¬(8:Int)<D:=by omega
  have hD0:0<=D:=by omega
  have HD:=Ab hD;have HIH:=Ab ih;obtain ⟨k,t,n,b,l⟩:=x;simp only [Tv.kind,Tv.tag,Tv.n,Tv.b,Tv.l] at*;obtain ⟨ab,cb,rfl,hcb,hmb⟩:=hb.form;obtain ⟨al,cl,rfl,hcl,hml⟩:=hl.form;unfold maxLen at hmb hml;have hRS:A4 (d+1) (.mk k t n b l)=(decide (0<=t)&&decide (t<=30)&&
   (if k=0 then decide (b= [])&&decide (l.length=0) else if k=1 then decide (n=0)&&decide (l.length=0) else if k=2 then l.all (A4 d)&&decide (n=0)&&decide (b= []) else false)):=rfl
  have HRS:=Ab hRS;have HL:=Ab hl;have HLS:=Ab hls;clear hD ih h hb hl hls hRS;rcases (by omega:t<0\/30<t\/(0<=t/\t<=30)) with ht | ht | ⟨ht,ht2⟩
  . have HR:Hq (A4 (d+1) (.mk k t n b l)=false):=Ab (by rw [HRS.o]; simp; omega);clear HRS;go_enter aD,aE;go_wp2_with fail;go_ret;rw [HR.o];exact ⟨rfl,(aB _ _).alloc (aA _) _⟩
  . have HR:Hq (A4 (d+1) (.mk k t n b l)=false):=Ab (by rw [HRS.o]; simp; omega);clear HRS;go_enter aD,aE;go_wp2_with fail;go_ret;rw [HR.o];exact ⟨rfl,(aB _ _).alloc (aA _) _⟩
  . by_cases hk0:k=0
    . subst hk0;by_cases g1:b.length=0
      . have g1':((b.length:Int)==0)=true:=Js g1;by_cases g2:l.length=0
        . have g2':((l.length:Int)==0)=true:=Js g2;have HR:Hq (A4 (d+1) (.mk 0 t n b l)=true):=Ab (by rw [HRS.o]; simp [g1,g2,aH,ht,ht2]; try exact aH (by omega));clear g1 g2;clear HRS;go_enter aD,aE;go_wp2_with fail;go_ret;rw [HR.o];exact ⟨rfl,(aB _ _).alloc (aA _) _⟩
        . have g2':((l.length:Int)==0)=false:=Ia g2;have HR:Hq (A4 (d+1) (.mk 0 t n b l)=false):=Ab (by rw [HRS.o]; have:¬l= []:=λ e=>g2 (by rw [e]; rfl); simp [g2,this]);clear g1 g2;clear HRS;go_enter aD,aE;go_wp2_with fail;go_ret;rw [HR.o];exact ⟨rfl,(aB _ _).alloc (aA _) _⟩
      . have g1':((b.length:Int)==0)=false:=Ia g1;have HR:Hq (A4 (d+1) (.mk 0 t n b l)=false):=Ab (by rw [HRS.o]; have:¬b= []:=λ e=>g1 (by rw [e]; rfl); simp [g1,this]);clear g1;clear HRS;go_enter aD,aE;go_wp2_with fail;go_ret;rw [HR.o];exact ⟨rfl,(aB _ _).alloc (aA _) _⟩
    . by_cases hk1:k=1
      . subst hk1;by_cases g1:n=0
        . have g1':((n:Int)==0)=true:=Js g1;by_cases g2:l.length=0
          . have g2':((l.length:Int)==0)=true:=Js g2;have HR:Hq (A4 (d+1) (.mk 1 t n b l)=true):=Ab (by rw [HRS.o]; simp [g1,g2,aH,ht,ht2]; try exact aH (by omega));clear g1 g2;clear HRS;go_enter aD,aE;go_wp2_with fail;go_ret;rw [HR.o];exact ⟨rfl,(aB _ _).alloc (aA _) _⟩
          . have g2':((l.length:Int)==0)=false:=Ia g2;have HR:Hq (A4 (d+1) (.mk 1 t n b l)=false):=Ab (by rw [HRS.o]; have:¬l= []:=λ e=>g2 (by rw [e]; rfl); simp [g2,this]);clear g1 g2;clear HRS;go_enter aD,aE;go_wp2_with fail;go_ret;rw [HR.o];exact ⟨rfl,(aB _ _).alloc (aA _) _⟩
        . have g1':((n:Int)==0)=false:=Ia g1;have HR:Hq (A4 (d+1) (.mk 1 t n b l)=false):=Ab (by rw [HRS.o]; have:True:=trivial; simp [g1,this]);clear g1;clear HRS;go_enter aD,aE;go_wp2_with fail;go_ret;rw [HR.o];exact ⟨rfl,(aB _ _).alloc (aA _) _⟩
      . have hk0':(k==0)=false:=by simp [hk0]
        have hk1':(k==1)=false:=by simp [hk1]
        by_cases hk2:k=2
        . subst hk2;have hRS:=HRS.o;rw [if_neg (by decide),if_neg (by decide),if_pos rfl] at hRS;have HRS:=Ab hRS;have HBB:Hq (Below w.heap.size w (w.alloc (.cells #[.int .i64 2,.int .i64 t,.int .u64 n,.slice ab b.length cb,.slice al l.length cl] 314))):=Ab ((aB _ _).alloc (aA _) _);clear hk0 hk1 hk0' hk1' hRS;go_enter aD,aE;go_wp2_with fail;have hq0:Blk (w.alloc (.cells #[.int .i64 2,.int .i64 t,.int .u64 n,.slice ab b.length cb,.slice al l.length cl] 314)) w.heap.size [.int .i64 2,.int .i64 t,.int .u64 n,.slice ab b.length cb,.slice al l.length cl] 314:=Blk.new w _ _;have HQ0:=Ab hq0;clear hq0;go_loopw [49] (λ i wr=>∃k:Nat,k<=l.length/\i=.int .i64 k/\(l.take k).all (A4 d)=true/\Blk wr w.heap.size [.int .i64 2,.int .i64 t,.int .u64 n,.slice ab b.length cb,.slice al l.length cl] 314/\Below w.heap.size w wr) (λ i _=>l.length- (intOf i).toNat)
          case atStart=>exact ⟨0,aQ _,rfl,rfl,HQ0.o,HBB.o⟩
          case round=>
           obtain ⟨j,hj,rfl,hall,hq,hB⟩:=hrel;have HB:=Ab hB;have HQ:=Ab hq;have HALL:=Ab hall;have hzr:=hB.size;by_cases hlt:j<l.length
           . obtain ⟨bl,ol,rfl,_⟩:=HL.o.addr (by rw [HL.o.1]; omega);obtain ⟨r,hr,hrc⟩:=HLS.o.cells HL.o j hlt;have hcr:Ao wr bl (ol+j*5) r:=λ i u hi=>Bj hB (hrc i u hi)
             have hsn:=A4n (A4 d) l j hlt;have hno:=A5W (A4 d) l j hlt;have hji:(j:Int)<l.length:=by omega
             generalize l[j]=y at hr hsn hno;have hrl:=hr.length;have HR1:=Ab hr.one;have HRL:=Ab hrl;have HCR:=Ab hcr;have HRT:=Ab (hr.below hB);have HSN:=Ab hsn;have HNO:=Ab hno;have HN:=Ab (Blk.new wr zs5 314);clear hr hrc hcr hsn hno hrl hB hq hall;go_wp2_with (first | ((with_reducible refine zw 52 ?_);refine Aj rfl (.tmp 51) Ak rfl rfl (cs:=r) HRL.o HCR.o ?_) | ((with_reducible refine zws 6 52 ?_);refine Ag rfl (.tmp 6) (.tmp 52) Ak rfl rfl (vs:=r) rfl HRL.o HN.o (aA _) HR1.o ?_));intro w3 h3 k3;have h3':Blk w3 wr.heap.size r 314:=by
              rw [aK (by decide),aG] at h3;exact h3
             have hz3:=k3.size;simp at hz3;have hb3:Below wr.heap.size wr w3:=((aB _ _).alloc (aA _) _).trans (k3.below (by omega));have H3:=Ab h3';have hblk:w.heap.size<wr.heap.size:=HQ.o.lt;have HQ3:=Ab (HQ.o.below hb3 hblk);have HB3:Hq (Below w.heap.size w w3):=Ab (HB.o.trans (hb3.mono hzr));have HCALL:=Ab (HIH.o (D+1) y F r w3 (by have:=HD.o; omega) (by omega) (HRT.o.below hb3));clear h3 h3' k3 hb3 HN HRT HCR;go_wp2_with ((with_reducible refine zw 53 ?_);refine Aj rfl (.tmp 6) Ak rfl rfl (cs:=r) HRL.o H3.o.cellsAll ?_);refine HCALL.o.mono ?_;rintro e w4 ⟨rfl,hb4⟩;have hz4:=hb4.size;have HQ4:=Ab (HQ3.o.below hb4 (by omega));have HB4:Hq (Below w.heap.size w w4):=Ab (HB3.o.trans (hb4.mono (by omega)));clear hb4 HCALL HQ3 HB3 H3;obtain ⟨v,hv⟩:∃v,v=A4 d y:=⟨_,rfl⟩
             rw [<-hv] at HSN HNO ⊢;clear hv
             cases v with
             | true=>
              go_wp2_with fail;go_roundw
              case rel=>exact ⟨j+1,by omega,by go_num,by rw [HSN.o,HALL.o]; rfl,HQ4.o,HB4.o⟩
              case measure=>simp [intOf]; omega
             | false=>
              have HR:Hq (A4 (d+1) (.mk 2 t n b l)=false):=Ab (by rw [HRS.o,HNO.o rfl]; simp);go_wp2_with fail;go_ret;rw [HR.o];exact ⟨rfl,HB4.o⟩
           . obtain rfl:j=l.length:=by omega
             rw [aR] at hall;have hn0:wr.cell? ⟨w.heap.size,2,none⟩=some (.int .u64 n):=by rw [hq.cell]; rfl
             have hb0:wr.cell? ⟨w.heap.size,3,none⟩=some (.slice ab b.length cb):=by rw [hq.cell]; rfl
             by_cases g1:n=0
             . have g1':((n:Int)==0)=true:=Js g1;by_cases g2:b.length=0
               . have g2':((b.length:Int)==0)=true:=Js g2;have HR:Hq (A4 (d+1) (.mk 2 t n b l)=true):=Ab (by rw [HRS.o,hall]; simp [g1,ht,ht2]; exact aH g2);clear g1 g2 hall hq HQ0 HQ hB;go_wp2_with fail;go_ret;rw [HR.o];exact ⟨rfl,HB.o⟩
               . have g2':((b.length:Int)==0)=false:=Ia g2;have HR:Hq (A4 (d+1) (.mk 2 t n b l)=false):=Ab (by rw [HRS.o]; have:¬b= []:=λ e=>g2 (by rw [e]; rfl); simp [this]);clear g1 g2 hall hq HQ0 HQ hB;go_wp2_with fail;go_ret;rw [HR.o];exact ⟨rfl,HB.o⟩
             . have g1':((n:Int)==0)=false:=Ia g1;have HR:Hq (A4 (d+1) (.mk 2 t n b l)=false):=Ab (by rw [HRS.o]; simp [g1]);clear g1 hall hq HQ0 HQ hB;go_wp2_with fail;go_ret;rw [HR.o];exact ⟨rfl,HB.o⟩
        . have hk2':(k==2)=false:=by simp [hk2]
          have HR:Hq (A4 (d+1) (.mk k t n b l)=false):=Ab (by rw [HRS.o]; simp [hk0,hk1,hk2]);clear hk0 hk1 hk2;clear HRS;go_enter aD,aE;go_wp2_with fail;go_ret;rw [HR.o];exact ⟨rfl,(aB _ _).alloc (aA _) _⟩
theorem Lg (x:Tv) (F:Nat->Prop) (cs:List bM) (w:bN) (h:TvF w F x cs):bO aC 219 #[.agg cs.toArray] w (A2F w (A4 8 x)):=by
 have hl:=h.length;have HL:=Ab hl;have HC:=Ab (Wj 8 1 x F cs (w.alloc (.cells cs.toArray 314)) (by decide) (aA _) (h.below ((aB _ _).alloc (aA _) _)));have HN:=Ab (Blk.new w cs 314);clear h hl;go_enter Tryz.func219,Tryz.ntmps219;go_wp2_with ((with_reducible refine zw 3 ?_);refine Aj rfl (.tmp 1) Ak rfl rfl (cs:=cs) HL.o HN.o.cellsAll ?_);refine HC.o.mono ?_;rintro e w1 ⟨rfl,hb1⟩;have HB:Hq (Below w.heap.size w w1):=Ab (((aB _ _).alloc (aA _) _).trans (hb1.mono (by simp)));clear hb1;go_wp2_with fail;go_ret;exact ⟨rfl,HB.o⟩
mutual
/--No list is longer than memory has room for. -/
def Lw:Tv->Prop
 | .mk _ _ _ _ l=>l.length<=1954687338211/\LsW l
def LsW:List Tv->Prop
 | []=>True
 | x::l=>Lw x/\LsW l
end
theorem LsW.mem:∀ {l:List Tv},LsW l->∀x∈l,Lw x
 | [],_,x,hx=>by simp at hx
 | y::l,h,x,hx=>by
  rcases List.mem_cons.1 hx with e | hx
  . rw [e]; exact h.1
  . exact h.2.mem x hx
theorem LsW.of:∀ {l:List Tv},(∀x∈l,Lw x)->LsW l
 | [],_=>trivial
 | y::l,h=>⟨h y (by simp),LsW.of (λ x hx=>h x (by simp [hx]))⟩
def A1 (k:Aa):bM:=.agg (Ae k).toArray
theorem Aq:A3 aC 46 16:=A3.mk bD rfl (by kernel_rfl)
def Bo:List bM:= [.int .u8 0,.int .u8 0,.int .u8 0,.int .u8 0,.int .u8 0,.int .u8 0,.int .u8 0,.int .u8 0,.int .u8 0,.int .u8 0,.int .u8 0,.int .u8 0,.int .u8 0,.int .u8 0,.int .u8 0,.int .u8 0]
theorem Xl (w:bN) (a b:Aa) (ha:a.length=16) (hb:b.length=16):(Op.equalIn 10000 46 (.agg (Ae a).toArray) (.agg (Ae b).toArray)).run aC w=.ok (decide (a=b)) w:=by
 have h:=run_equalIn_bytes (P:=aC) w 9998 46 5 16 bD Tryz.underlying5 (λ w=>by kernel_rfl) a b ha hb;have e:(a==b)=decide (a=b):=by rw [Bool.eq_iff_iff]; simp
 rw [<-e];exact h
def Hn (l:Aa):Aa×Bool:=if l.length=16 then (l,true) else (bE 16 0,false)
theorem I4 (l:Aa):(Hn l).1.length=16:=by unfold Hn; split <;> simp [*]
theorem Q4 (v:bM) (l:Aa) (w:bN) (h:Bs w v l): bO aC 119 #[v] w λ e w'=>e=.returned (.tuple #[A1 (Hn l).1,.bool (Hn l).2])/\Below w.heap.size w w':=by
 obtain ⟨a,cap,rfl,hcap,hcm⟩:=h.form;have hbel:Below w.heap.size w ((w.alloc (.cells Bo.toArray 46)).alloc (.cells Bo.toArray 46)):=((aB _ _).alloc (aA _) _).alloc (by simp) _;have B0:=Ab (((Blk.new w Bo 46).alloc (.cells Bo.toArray 46)));have B1:Hq (Blk ((w.alloc (.cells Bo.toArray 46)).alloc (.cells Bo.toArray 46)) (w.heap.size+1) Bo 46):=Ab (Blk.at_ (cs:=Bo.toArray) (by simp));have HS:=Ab ((h.alloc (.cells Bo.toArray 46)).alloc (.cells Bo.toArray 46));have HB:=Ab hbel;clear h hbel;by_cases hl:l.length=16
 . have hn':((l.length:Int) !=16)=false:=by rw [hl]; rfl
   have HK:Hq (Hn l=(l,true)):=Ab (by rw [Hn,if_pos hl]);have HL:=Ab hl;clear hl;go_enter bF,bG;go_wp2_with ((with_reducible refine zw 11 ?_);refine Vz rfl (.tmp 9) (.tmp 10) D8 rfl rfl B1.o rfl HS.o (by rw [HL.o]; decide) ?_);intro w' h1 h2;have h1':Blk w' (w.heap.size+1) (Ae l) 46:=by
    have:=h1;rw [HL.o] at this;rw [show min 16 16=16 from rfl,aW (by rw [Ac,HL.o]; exact aA _)] at this;simpa [Bo] using this
   have B0':=Ab (B0.o.keep h2 (by omega));have HB':Hq (Below w.heap.size w w'):=Ab (HB.o.trans (h2.below (by omega)));have hsz:w.heap.size+1<w'.heap.size:=h1'.lt;have H1:=Ab h1';have HBL:(Ae l).length=16:=by rw [Ac,HL.o]
   have HBL':=Ab HBL;clear h1 h1' h2 HBL;go_wp2_with (first | ((with_reducible refine zw 12 ?_);refine Aj rfl (.tmp 4) Aq rfl rfl (cs:=Ae l) HBL'.o H1.o.cellsAll ?_) | ((with_reducible refine zws 2 12 ?_);refine Ag rfl (.tmp 2) (.tmp 12) Aq rfl rfl (vs:=Ae l) rfl HBL'.o B0'.o (aA _) (Al _) ?_));intro w2 h3 h4;have h3':Blk w2 w.heap.size (Ae l) 46:=by simpa [Bo] using h3
   have H3:=Ab h3';have HB2:Hq (Below w.heap.size w w2):=Ab (HB'.o.trans (h4.below (by omega)));clear h3 h3' h4;go_wp2_with fail;rw [HK.o];exact bodyPost_ret (Ap rfl Aq rfl (cs:=Ae l) HBL'.o H3.o.cellsAll) rfl ⟨rfl,HB2.o⟩
 . have hn':((l.length:Int) !=16)=true:=by rw [bne_iff_ne]; omega
   have HK:Hq (Hn l=(bE 16 0,false)):=Ab (by rw [Hn,if_neg hl]);clear hl;go_enter bF,bG;go_wp2_with (first | ((with_reducible refine zw 8 ?_);refine Aj rfl (.tmp 4) Aq rfl rfl (cs:=Bo) rfl B1.o.cellsAll ?_) | ((with_reducible refine zws 2 8 ?_);refine Ag rfl (.tmp 2) (.tmp 8) Aq rfl rfl (vs:=Bo) rfl rfl B0.o (aA _) (by decide) ?_));intro w2 h3 h4;have h3':Blk w2 w.heap.size Bo 46:=by simpa [Bo] using h3
   have H3:=Ab h3';have HB2:Hq (Below w.heap.size w w2):=Ab (HB.o.trans (h4.below (by omega)));clear h3 h3' h4;go_wp2_with fail;rw [HK.o];exact bodyPost_ret (Ap rfl Aq rfl (cs:=Bo) rfl H3.o.cellsAll) rfl ⟨rfl,HB2.o⟩
def Rs (w:bN) (v:bM) (rows:List Aa):Prop:=∃vs:List bM,vs.length=rows.length/\Sl w 1 v rows.length vs/\∀(j:Nat) u r,vs[j]?=some u->rows[j]?=some r->Bs w u r
theorem I0 (rows:List Aa) (k:Nat) (h:k<rows.length):(rows.take (k+1)).flatten=(rows.take k).flatten++rows[k]:=by
 rw [aO h,bH,List.flatten_cons,List.flatten_nil,aG]
theorem Ql (rows:List Aa) (k:Nat):(rows.take k).flatten.length<=rows.flatten.length:=by
 have h:=congrArg (λ l=>(List.flatten l).length) (bI k rows);simp only [bH,aF] at h;omega
theorem Nf (v:bM) (rows:List Aa) (w:bN) (h:Rs w v rows) (hlen:rows.flatten.length<=1099511627776): bO aC 147 #[v] w λ e w'=>∃v',e=.returned v'/\Du w' w.heap.size v' rows.flatten/\Below w.heap.size w w':=by
 obtain ⟨vs,hvl,hsl,hel⟩:=h;obtain ⟨a,cap,rfl,hcap,hcm⟩:=hsl.form;unfold maxLen at hcm;have HSL:=Ab hsl;have HEL:=Ab hel;have HVL:=Ab hvl;clear hsl hel hvl;go_enter Tryz.func147,Tryz.ntmps147;go_wp2;go_loopw [3,8] (λ o i wr=>∃k:Nat,k<=rows.length/\i=.int .i64 k/\Du wr w.heap.size o (rows.take k).flatten/\Below w.heap.size w wr) (λ _ i _=>rows.length- (intOf i).toNat)
 case atStart=>exact ⟨0,aQ _,rfl,Own.nil _ _ _ _ _,aB _ _⟩
 case round=>
  obtain ⟨k,hk,rfl,hown,hbel⟩:=hrel;have HO:=Ab hown;clear hown;have hsz:=hbel.size;have hfl:=Ql rows (k+1);by_cases hlt:k<rows.length
  . obtain ⟨b,off,rfl,hc⟩:=HSL.o.addr (by rw [HVL.o]; omega);have hk':k<vs.length:=by rw [HVL.o]; exact hlt
    have hrow:Bs wr vs[k] rows[k]:=(HEL.o k _ _ (aJ hk') (aJ hlt)).below hbel;have c0:wr.cell? ⟨b,off+k,none⟩=some vs[k]:=Bj hbel (hc k _ (aJ hk'));obtain ⟨L,hL⟩:∃L,(rows.take k).flatten=L:=⟨_,rfl⟩
    have HL:=Ab hL;rw [I0 rows k hlt,aF,hL] at hfl;have hown:=HO.o;rw [hL] at hown;have HOL:=Ab hown;clear hL hown;obtain ⟨ak,ck,hvk,_,_⟩:=hrow.form;rw [hvk] at c0 hrow;have HR:=Ab hrow;clear hc hrow hvk;go_wp2_with ((with_reducible refine zw 14 ?_);refine Nr rfl (.tmp 12) (.tmp 13) D8 rfl w.heap.size HOL.o HR.o (by unfold maxLen; omega) (by omega) hsz ?_);intro v' w' h1 h2 h3;have HO':Hq (Du w' w.heap.size v' (rows.take (k+1)).flatten):=by
     refine Ab ?_;unfold Du;rw [I0 rows k hlt,HL.o,aF,Jh];exact h1
    have hb2:Below w.heap.size w w':=hbel.trans (h2.below (by
     intro k' hk';rcases hk' with ⟨_,h⟩ | h <;> omega))
    clear h1 h2 h3;go_wp2_with fail;go_roundw
    case rel=>exact ⟨k+1,by omega,by go_num,HO'.o,hb2⟩
    case measure=>simp [intOf]; omega
  . obtain rfl:k=rows.length:=by omega
    have HO':=HO.o;rw [aR] at HO';have HO2:=Ab HO';clear HO';go_wp2_with fail;go_ret;exact ⟨_,rfl,HO2.o,hbel⟩
def Ef (k t:Int) (n:Nat):Aa:=
 if n<128 then [UInt8.ofNat (k*64+t).toNat,UInt8.ofNat n] else UInt8.ofNat (k*64+t).toNat::UInt8.ofNat (128+(Cd n).length)::Cd n
def Ey (k:Int) (n:Nat) (b ws:Aa):Aa:=if k=0 then Cd n else if k=1 then b else ws
mutual
/--A value's bytes. -/
def Ba:Tv->Aa
 | .mk k t n b l=>Ef k t (Ey k n b (A7 l)).length++Ey k n b (A7 l)
def A7:List Tv->Aa
 | []=> []
 | x::l=>Ba x++A7 l
end
def D6 (x:Tv):Aa:=Ey x.kind x.n x.b (A7 x.l)
theorem Pd (x:Tv):Ba x=Ef x.kind x.tag (D6 x).length++D6 x:=by cases x; rfl
theorem Ov:∀(l:List Tv) (x:Tv),A7 (l++ [x])=A7 l++Ba x
 | [],x=>by simp [A7]
 | y::l,x=>by simp [A7,Ov l x]
theorem Ow (l:List Tv) (k:Nat) (h:k<l.length):A7 (l.take (k+1))=A7 (l.take k)++Ba l[k]:=by
 rw [aO h,Ov]
theorem Mc:∀(a b:List Tv),A7 (a++b)=A7 a++A7 b
 | [],b=>rfl
 | x::a,b=>by simp [A7,Mc a b]
theorem Qv (l:List Tv) (k:Nat):(A7 (l.take k)).length<=(A7 l).length:=by
 conv=>rhs; rw [<-bI k l,Mc]
 rw [aF];omega
theorem Um (l:List Tv) (k:Nat) (h:k<l.length):(A7 (l.take k)).length+(Ba l[k]).length<=(A7 l).length:=by
 have:=Qv l (k+1);rw [Ow l k h,aF] at this;exact this
mutual
/--Values that may be written:of the three kinds,tags to 30,numbers of 64 bits. -/
def OkW:Tv->Prop
 | .mk k t n b l=>(k=0\/k=1\/k=2)/\0<=t/\t<=30/\n<18446744073709551616/\X8 l
def X8:List Tv->Prop
 | []=>True
 | x::l=>OkW x/\X8 l
end
theorem X8.mem:∀ {l:List Tv},X8 l->∀x∈l,OkW x
 | [],_,x,hx=>by simp at hx
 | y::l,h,x,hx=>by
  rcases List.mem_cons.1 hx with e | hx
  . rw [e]; exact h.1
  . exact h.2.mem x hx
theorem X8.of:∀ {l:List Tv},(∀x∈l,OkW x)->X8 l
 | [],_=>trivial
 | y::l,h=>⟨h y (by simp),X8.of (λ x hx=>h x (by simp [hx]))⟩
theorem A8W:∀(k:Fin 3) (t:Fin 31),bits BinOp.or IntKind.i64 ((k.val:Int)*64) (t.val:Int)=(k.val:Int)*64+t.val:=by decide+kernel
theorem A7O (k t:Int) (hk:k=0\/k=1\/k=2) (h0:0<=t) (h1:t<=30):bits BinOp.or IntKind.i64 (k*64) t=((k*64+t).toNat:Int):=by
 have h:=A8W ⟨k.toNat,by omega⟩ ⟨t.toNat,by omega⟩;simp only [show (k.toNat:Int)=k by omega,show (t.toNat:Int)=t by omega] at h;rw [h];omega
theorem Ir (n:Nat):(Cd n).length<=8/\0< (Cd n).length:=by
 have hs:∀l:Aa,0<l.length->(Dl l).length<=l.length/\0< (Dl l).length:=by
  intro l;induction l with
  | nil=>intro h; simp at h
  | cons x l ih=>
   intro _
   cases l with
   | nil=>simp [Dl]
   | cons y l=>
    unfold Dl;split
    . have:=ih (by simp);simp at this ⊢;omega
    . simp
 have:=hs (Dw n) (by rw [Ci]; decide);rw [Ci] at this;exact this
theorem Rs.twoG {W:bN} {v1 v2:bM} {r1 r2:Aa} {T:TypeId} {g:Nat} (hg:W.heap.size=g) (h1:Bs W v1 r1) (h2:Bs W v2 r2):Rs (W.alloc (.cells #[v1,v2] T)) (.slice (some ⟨g,0,none⟩) 2 2) [r1,r2]:=by
 subst hg;obtain ⟨a1,c1,rfl,_⟩:=h1.form;obtain ⟨a2,c2,rfl,_⟩:=h2.form;refine ⟨[.slice a1 r1.length c1,.slice a2 r2.length c2],rfl,Sl.lit (n:=2) rfl rfl (by intro u hu; simp at hu; rcases hu with rfl | rfl <;> rfl) (by unfold maxLen; decide),λ j u r hu hr=>?_⟩
 match j with
 | 0=>
  simp only [bJ,Option.some.injEq] at hu hr;subst hu hr;exact h1.alloc _
 | 1=>
  simp only [List.getElem?_cons_succ,bJ,Option.some.injEq] at hu hr;subst hu hr;exact h2.alloc _
 | j+2=>simp at hu
theorem Y4 (k t:Int) (n:Nat) (w:bN) (hk:k=0\/k=1\/k=2) (h0:0<=t) (h1:t<=30) (hn:n<=1099511627776): bO aC 266 #[.int .i64 k,.int .i64 t,.int .i64 n] w λ e w'=>∃v,e=.returned v/\Bs w' v (Ef k t n)/\Below w.heap.size w w':=by
 have hor:=A7O k t hk h0 h1;obtain ⟨f,hf⟩:∃f,f=(k*64+t).toNat:=⟨_,rfl⟩
 have hf3:f<256:=by omega
 rw [<-hf] at hor;have hk0:0<=k:=by omega
 have hk2:k<=2:=by omega
 by_cases hs:n<128
 . have hs':(n:Int)<128:=by omega
   have HR:Hq (Ef k t n= [UInt8.ofNat f,UInt8.ofNat n]):=Ab (by unfold Ef; rw [if_pos hs,<-hf]);have hbs:∀W:bN,Bs (W.alloc (.cells #[.int .u8 f,.int .u8 n] 5)) (.slice (some ⟨W.heap.size,0,none⟩) 2 2) [UInt8.ofNat f,UInt8.ofNat n]:=λ W=>
    Bs.lit [UInt8.ofNat f,UInt8.ofNat n] rfl (by simp [Ae,Lb _ hf3,Lb n (by omega)]) (by simp [maxLen])
   have HBS:=Ab hbs;clear hs hf hbs hk;go_enter bK,bL;go_wp2_with fail;go_ret;rw [HR.o];exact ⟨_,rfl,HBS.o _,(aB _ _).alloc (aA _) _⟩
 . have hs':¬(n:Int)<128:=by omega
   have hsf:=Ir n;have HR:Hq (Ef k t n= [UInt8.ofNat f,UInt8.ofNat (128+(Cd n).length)]++Cd n):=Ab (by unfold Ef; rw [if_neg hs,<-hf]; rfl);have hlen:(128:Int)+(Cd n).length=((128+(Cd n).length:Nat):Int):=by omega
   have hbs:∀W:bN,Bs (W.alloc (.cells #[.int .u8 f,.int .u8 (128+((Cd n).length:Int))] 5)) (.slice (some ⟨W.heap.size,0,none⟩) 2 2) [UInt8.ofNat f,UInt8.ofNat (128+(Cd n).length)]:=λ W=>
    Bs.lit [UInt8.ofNat f,UInt8.ofNat (128+(Cd n).length)] rfl (by rw [hlen]; simp only [Ae,aX,List.map_nil,Lb _ hf3,Lb (128+(Cd n).length) (by omega)]) (by simp [maxLen])
   have HBS:=Ab hbs;clear hs hf hbs hk hlen;go_enter bK,bL;go_wp2_with fail;refine (Vq n w).mono ?_;rintro e w1 ⟨v1,rfl,hb1,hB1,_⟩;obtain ⟨a1,c1,rfl,hc1,hm1⟩:=hb1.form;have HB1:=Ab hb1;have HBW:=Ab hB1;have hz1:=hB1.size;have HRS:=Ab (Rs.twoG (T:=27) (g:=w1.heap.size+1) (by simp) (HBS.o w1) (hb1.alloc (.cells #[.int .u8 f,.int .u8 (128+((Cd n).length:Int))] 5)));unfold maxLen at hm1;generalize hsb:Cd n=sb at*;clear hb1 hB1 hsb;go_wp2_with fail;refine (Nf _ _ _ HRS.o (by simp; omega)).mono ?_;rintro e w2 ⟨v2,rfl,ho2,hb2⟩;have HO:=Ab ho2;have HB2:Hq (Below w.heap.size w w2):=Ab (((HBW.o.alloc hz1 _).alloc (by simp; omega) _).trans (hb2.mono (by simp; omega)));clear ho2 hb2;go_wp2_with fail;go_ret;rw [HR.o];refine ⟨_,rfl,?_,HB2.o⟩
   have:=HO.o.bs;simpa using this
def A8m (w:bN) (bs:Aa) (e:Ending) (w':bN):Prop:=∃v,e=.returned v/\Du w' w.heap.size v bs/\Below w.heap.size w w'
def A8d (w:bN) (bs:Aa) (e:Ending) (w':bN):Prop:=∃v,e=.returned v/\Bs w' v bs/\Below w.heap.size w w'
def WrP (x:Tv):Prop:=∀(F:Nat->Prop) (cs:List bM) (w:bN),TvF w F x cs->OkW x->(Ba x).length<=1073741824->
 bO aC 220 #[.agg cs.toArray] w (A8m w (Ba x))
theorem Y3 (x:Tv) (ih:∀y∈x.l,WrP y) (F:Nat->Prop) (cs:List bM) (w:bN) (h:TvF w F x cs) (ok:OkW x) (hlen:(D6 x).length<=1073741824): bO aC 265 #[.agg cs.toArray] w (A8d w (D6 x)):=by
 obtain ⟨bv,lv,rows,rfl,hb,_,hl,_,hls⟩:=h.open_;obtain ⟨k,t,n,b,l⟩:=x;simp only [D6,Tv.kind,Tv.tag,Tv.n,Tv.b,Tv.l] at*;obtain ⟨hk,ht0,ht1,hn,hol⟩:=ok;obtain ⟨ab,cb,rfl,hcb,hmb⟩:=hb.form;obtain ⟨al,cl,rfl,hcl,hml⟩:=hl.form;unfold maxLen at hmb hml;have HL:=Ab hl;have HLS:=Ab hls;have HBS:=Ab hb;have HIH:=Ab ih;have HOL:=Ab hol;have HLEN:=Ab hlen;clear h hb hl hls ih hol hlen;rcases hk with rfl | rfl | rfl
 . have HR:Hq (Ey 0 n b (A7 l)=Cd n):=Ab rfl;go_enter aS,aT;go_wp2_with fail;refine (Vq n _).mono ?_;rintro e w1 ⟨v1,rfl,hb1,hB1,_⟩;have HB1:=Ab hb1;have HBW:Hq (Below w.heap.size w w1):=Ab (((aB _ _).alloc (aA _) _).trans (hB1.mono (by simp)));clear hb1 hB1;go_wp2_with fail;go_ret;rw [HR.o];exact ⟨_,rfl,HB1.o,HBW.o⟩
 . have HR:Hq (Ey 1 n b (A7 l)=b):=Ab rfl;go_enter aS,aT;go_wp2_with fail;go_ret;rw [HR.o];exact ⟨_,rfl,HBS.o.alloc _,(aB _ _).alloc (aA _) _⟩
 . have HR:Hq (Ey 2 n b (A7 l)=A7 l):=Ab rfl;have hlen:=HLEN.o;rw [HR.o] at hlen;have HLEN:=Ab hlen;have HBB:Hq (Below w.heap.size w (w.alloc (.cells #[.int .i64 2,.int .i64 t,.int .u64 n,.slice ab b.length cb,.slice al l.length cl] 314))):=Ab ((aB _ _).alloc (aA _) _);clear hlen;go_enter aS,aT;go_wp2_with fail;go_loopw [3,20] (λ o i wr=>∃k:Nat,k<=l.length/\i=.int .i64 k/\Du wr w.heap.size o (A7 (l.take k))/\Below w.heap.size w wr) (λ _ i _=>l.length- (intOf i).toNat)
   case atStart=>exact ⟨0,aQ _,rfl,Own.nil _ _ _ _ _,HBB.o⟩
   case round=>
    obtain ⟨j,hj,rfl,hown,hB⟩:=hrel;have HB:=Ab hB;have HO:=Ab hown;have hzr:=hB.size;by_cases hlt:j<l.length
    . obtain ⟨bl,ol,rfl,_⟩:=HL.o.addr (by rw [HL.o.1]; omega);obtain ⟨r,hr,hrc⟩:=HLS.o.cells HL.o j hlt;have hcr:Ao wr bl (ol+j*5) r:=λ i u hi=>Bj hB (hrc i u hi)
      have hst:=Ow l j hlt;have hle:=Um l j hlt;have hji:(j:Int)<l.length:=by omega
      have hih:=HIH.o l[j] (aP hlt);have hok:=HOL.o.mem l[j] (aP hlt);generalize l[j]=y at hr hst hle hih hok;have hrl:=hr.length;have HR1:=Ab hr.one;have HRL:=Ab hrl;have HCR:=Ab hcr;have HRT:=Ab (hr.below hB);have HST:=Ab hst;have HLE:=Ab hle;have HIHy:=Ab hih;have HOKy:=Ab hok;have HN:=Ab (Blk.new wr zs5 314);clear hr hrc hcr hst hle hrl hB hown hih hok;go_wp2_with (first | ((with_reducible refine zw 23 ?_);refine Aj rfl (.tmp 22) Ak rfl rfl (cs:=r) HRL.o HCR.o ?_) | ((with_reducible refine zws 5 23 ?_);refine Ag rfl (.tmp 5) (.tmp 23) Ak rfl rfl (vs:=r) rfl HRL.o HN.o (aA _) HR1.o ?_));intro w3 h3 k3;have h3':Blk w3 wr.heap.size r 314:=by
       rw [aK (by decide),aG] at h3;exact h3
      have hz3:=k3.size;simp at hz3;have hb3:Below wr.heap.size wr w3:=((aB _ _).alloc (aA _) _).trans (k3.below (by omega));have H3:=Ab h3';have HB3:Hq (Below w.heap.size w w3):=Ab (HB.o.trans (hb3.mono hzr));have HO3:=Ab (Own.below HO.o hb3);have HCALL:=Ab (HIHy.o F r w3 (HRT.o.below hb3) HOKy.o (by have:=HLEN.o; have:=HLE.o; omega));clear h3 h3' k3 hb3 HN HRT HCR HO HB;go_wp2_with ((with_reducible refine zw 25 ?_);refine Aj rfl (.tmp 5) Ak rfl rfl (cs:=r) HRL.o H3.o.cellsAll ?_);refine HCALL.o.mono ?_;rintro e w4 ⟨v4,rfl,ho4,hb4⟩;have hz4:=hb4.size;have HB4:Hq (Below w.heap.size w w4):=Ab (HB3.o.trans (hb4.mono (by omega)));have HO4:=Ab (Own.below HO3.o hb4);have HS4:=Ab ho4.sl;have hl1:=HLE.o;have hl2:=HLEN.o;have hle':(A7 (l.take j)).length+(Ba y).length<=1073741824:=by omega
      clear ho4 hb4 HCALL HO3 HB3 H3 hl1 hl2;go_wp2_with ((with_reducible refine zw 27 ?_);refine Nr rfl (.tmp 24) (.tmp 26) D8 rfl w.heap.size HO4.o HS4.o (by unfold maxLen; omega) (by omega) (by omega) ?_);intro v5 w5 ho5 hk5 hv5;have HB5:Hq (Below w.heap.size w w5):=Ab (HB4.o.trans (hk5.below (by rintro b (h | h); exact h.2; omega)));have HO5:Hq (Du w5 w.heap.size v5 (A7 (l.take (j+1)))):=Ab (by
       rw [HST.o];unfold Du;rw [Jh,aF];exact ho5)
      clear ho5 hk5 hv5 HO4 HS4 HB4;go_wp2_with fail;go_roundw
      case rel=>exact ⟨j+1,by omega,by go_num,HO5.o,HB5.o⟩
      case measure=>simp [intOf]; omega
    . obtain rfl:j=l.length:=by omega
      rw [aR] at hown;have HO:=Ab hown;clear hown;go_wp2_with fail;go_ret;rw [HR.o];exact ⟨_,rfl,HO.o.bs,HB.o⟩
theorem N4:∀x:Tv,WrP x:=by
 refine A5J (λ k t n b l ih=>?_);intro F cs w h ok hlen;have hw:=Pd (.mk k t n b l);have hbl:(D6 (.mk k t n b l)).length<=1073741824:=by rw [hw,aF] at hlen; omega
 have HBODY:=Ab (Y3 (.mk k t n b l) ih F cs (w.alloc (.cells cs.toArray 314)) (h.below ((aB _ _).alloc (aA _) _)) ok hbl);have hcl:=h.length;have HCL:=Ab hcl;have HN:=Ab (Blk.new w cs 314);obtain ⟨bv,lv,rows,hcs,_⟩:=h.open_;obtain ⟨hk,ht0,ht1,hn,hol⟩:=ok;have x0:∀W:bN,Blk W w.heap.size cs 314->W.cell? ⟨w.heap.size,0,none⟩=some (.int .i64 k)/\W.cell? ⟨w.heap.size,1,none⟩=some (.int .i64 t):=λ W hW=>by
  rw [hW.cell,hW.cell,hcs];exact ⟨rfl,rfl⟩
 have HX0:=Ab x0;have HW:=Ab hw;have HLEN:=Ab hlen;simp only [Tv.kind,Tv.tag] at HW;generalize D6 (.mk k t n b l)=bd at HBODY hbl HW;clear h hol x0 hw hlen ih hcl hcs;go_enter Tryz.func220,Tryz.ntmps220;go_wp2_with ((with_reducible refine zw 4 ?_);refine Aj rfl (.tmp 1) Ak rfl rfl (cs:=cs) HCL.o HN.o.cellsAll ?_);refine HBODY.o.mono ?_;rintro e w1 ⟨v1,rfl,hb1,hB1⟩;have hz1:=hB1.size;simp at hz1;obtain ⟨a1,c1,rfl,hc1,hm1⟩:=hb1.form;obtain ⟨y0,y1⟩:=HX0.o w1 (HN.o.below hB1 (by simp));have HB1:=Ab hb1;have HBW:Hq (Below w.heap.size w w1):=Ab (((aB _ _).alloc (aA _) _).trans (hB1.mono (by simp)));unfold maxLen at hm1;clear hb1 hB1 HBODY;go_wp2_with fail;refine (Y4 k t bd.length w1 hk ht0 ht1 (by omega)).mono ?_;rintro e w2 ⟨v2,rfl,hb2,hB2⟩;have hz2:=hB2.size;obtain ⟨a2,c2,rfl,hc2,hm2⟩:=hb2.form;have HRS:=Ab (Rs.twoG (T:=27) (g:=w2.heap.size) rfl hb2 (HB1.o.below hB2));have HBW2:Hq (Below w.heap.size w w2):=Ab (HBW.o.trans (hB2.mono (by omega)));have hlen:=HLEN.o;rw [HW.o,aF] at hlen;generalize Ef k t bd.length=hd at*;clear hb2 hB2 HB1 HBW y0 y1;go_wp2_with fail;refine (Nf _ _ _ HRS.o (by simp; omega)).mono ?_;rintro e w3 ⟨v3,rfl,ho3,hb3⟩;have HO:Hq (Du w3 w.heap.size v3 (hd++bd)):=Ab (by
  have:=ho3.base (B':=w.heap.size) (by simp; omega);simpa [Du] using this)
 have HB3:Hq (Below w.heap.size w w3):=Ab ((HBW2.o.alloc (by omega) _).trans (hb3.mono (by simp; omega)));clear ho3 hb3;go_wp2_with fail;go_ret;rw [HW.o];exact ⟨_,rfl,HO.o,HB3.o⟩
mutual
/--Every number has 64 bits. -/
def Nw:Tv->Prop
 | .mk _ _ n _ l=>n<18446744073709551616/\NsW l
def NsW:List Tv->Prop
 | []=>True
 | x::l=>Nw x/\NsW l
end
theorem NsW.mem:∀ {l:List Tv},NsW l->∀x∈l,Nw x
 | [],_,x,hx=>by simp at hx
 | y::l,h,x,hx=>by
  rcases List.mem_cons.1 hx with e | hx
  . rw [e]; exact h.1
  . exact h.2.mem x hx
theorem NsW.of:∀ {l:List Tv},(∀x∈l,Nw x)->NsW l
 | [],_=>trivial
 | y::l,h=>⟨h y (by simp),NsW.of (λ x hx=>h x (by simp [hx]))⟩
theorem O5:∀(d:Nat) (x:Tv),A4 d x=true->Nw x->OkW x
 | 0,x,h,_=>by simp [A4] at h
 | d+1,.mk k t n b l,h,hn=>by
  unfold A4 at h;simp only [Bool.and_eq_true,decide_eq_true_eq] at h;obtain ⟨⟨h1,h2⟩,h3⟩:=h;split at h3
  . rename_i hk;simp only [Bool.and_eq_true,decide_eq_true_eq] at h3;refine ⟨.inl hk,h1,h2,hn.1,?_⟩;rw [aH h3.2];trivial
  . split at h3
    . rename_i hk;simp only [Bool.and_eq_true,decide_eq_true_eq] at h3;refine ⟨.inr (.inl hk),h1,h2,hn.1,?_⟩;rw [aH h3.2];trivial
    . split at h3
      . rename_i hk;simp only [Bool.and_eq_true,decide_eq_true_eq] at h3;exact ⟨.inr (.inr hk),h1,h2,hn.1,X8.of (λ x hx=>O5 d x (List.all_eq_true.1 h3.1.1 x hx) (hn.2.mem x hx))⟩
      . simp at h3
def wrS (x:Tv):Aa×Int:=if A4 8 x=false then ([],7) else if 4096< (Ba x).length then ([],20) else (Ba x,0)
def A2I (w:bN) (r:Aa×Int) (e:Ending) (w':bN):Prop:=∃v,e=.returned (.tuple #[v,.int .i64 r.2])/\Bs w' v r.1/\Below w.heap.size w w'
theorem Ru (x:Tv) (F:Nat->Prop) (cs:List bM) (w:bN) (h:TvF w F x cs) (hn:Nw x) (hlen:A4 8 x=true->(Ba x).length<=1073741824): bO aC 154 #[.agg cs.toArray] w (A2I w (wrS x)):=by
 have hcl:=h.length;have HCL:=Ab hcl;have HN:=Ab (Blk.new w cs 314);have HT:=Ab h;have HR:=Ab (Lg x F cs (w.alloc (.cells cs.toArray 314)) (h.below ((aB _ _).alloc (aA _) _)));have HNW:=Ab hn;have HLEN:=Ab hlen;clear h hcl hn hlen;go_enter Tryz.func154,Tryz.ntmps154;go_wp2_with ((with_reducible refine zw 5 ?_);refine Aj rfl (.tmp 1) Ak rfl rfl (cs:=cs) HCL.o HN.o.cellsAll ?_);refine HR.o.mono ?_;rintro e w1 ⟨rfl,hb1⟩;have hz1:=hb1.size;simp at hz1;have hba:Below w.heap.size w w1:=((aB _ _).alloc (aA _) _).trans (hb1.mono (by simp));have HB1:=Ab hba;have HN1:=Ab (HN.o.below hb1 (by simp));have HT1:=Ab (HT.o.below hba);clear hb1 hba HR;obtain ⟨r,hr⟩:∃r,r=A4 8 x:=⟨_,rfl⟩
 rw [<-hr]
 cases r with
 | false=>
  have HS:Hq (wrS x=([],7)):=Ab (by unfold wrS; rw [if_pos hr.symm]);clear hr;go_wp2_with fail;go_ret2;rw [HS.o];exact ⟨_,rfl,Sl.nil _ _ _,HB1.o⟩
 | true=>
  have hlen:=HLEN.o hr.symm;have HC:=Ab (N4 x F cs w1 HT1.o (O5 8 x hr.symm HNW.o) hlen);have hS:wrS x=if 4096< (Ba x).length then ([],20) else (Ba x,0):=by unfold wrS; rw [if_neg (by rw [<-hr]; decide)]
  have HS0:=Ab hS;clear hr hS;generalize Ba x=bs at HC HS0 hlen;go_wp2_with ((with_reducible refine zw 8 ?_);refine Aj rfl (.tmp 1) Ak rfl rfl (cs:=cs) HCL.o HN1.o.cellsAll ?_);refine HC.o.mono ?_;rintro e w2 ⟨v2,rfl,ho2,hb2⟩;obtain ⟨a2,c2,rfl,hc2,hm2⟩:=ho2.sl.form;have HO:=Ab ho2.bs;have HB2:Hq (Below w.heap.size w w2):=Ab (HB1.o.trans (hb2.mono (by omega)));unfold maxLen at hm2;clear ho2 hb2 HC;by_cases hl:4096<bs.length
  . have hl':(4096:Int)<bs.length:=by omega
    have HS:Hq (wrS x=([],20)):=Ab (by rw [HS0.o,if_pos hl]);clear hl;go_wp2_with fail;go_ret2;rw [HS.o];exact ⟨_,rfl,Sl.nil _ _ _,HB2.o⟩
  . have hl':¬(4096:Int)<bs.length:=by omega
    have HS:Hq (wrS x=(bs,0)):=Ab (by rw [HS0.o,if_neg hl]);clear hl;go_wp2_with fail;go_ret2;rw [HS.o];exact ⟨_,rfl,HO.o,HB2.o⟩
end Go.Proofs.YtcnfaghcjlhoiaaGreat
