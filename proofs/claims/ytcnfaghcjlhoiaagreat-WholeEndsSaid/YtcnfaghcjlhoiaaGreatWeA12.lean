/- Texts of this proof, one behind the other: MVsC, Sum2, Log4, Log5, CrX, Log6, MWrO, MVsB, MsW. -/
import Derived.Test.YtcnfaghcjlhoiaaGreatWeA1
import Derived.Test.YtcnfaghcjlhoiaaGreatWeA5
import Derived.Test.YtcnfaghcjlhoiaaGreatWeA7
import Derived.Test.YtcnfaghcjlhoiaaGreatWeA8
import Derived.Test.YtcnfaghcjlhoiaaGreatWeA10
import Derived.Test.YtcnfaghcjlhoiaaGreatWeA11
import Derived.Deep.DeepCutAuto
import Derived.Deep.CutBlock
set_option linter.unusedSimpArgs false
set_option linter.unusedVariables false
set_option maxRecDepth 100000
set_option maxHeartbeats 16000000
open Go.Proofs.Tryz renaming prog -> aA, func153 -> aM, ntmps153 -> aN
open List renaming map_cons -> aB, map_nil -> aC, mem_cons -> aD, not_mem_nil -> aE, map_toArray -> aG, drop_of_length_le -> aI, append_nil -> aJ, getElem?_set_ne -> aK, getElem?_append -> aL, all_cons -> aO, all_nil -> aP, findIdx?_map -> aS, take_append_of_le_length -> aT, take_of_length_le -> aU
open Nat renaming le_refl -> aF, le_trans -> aH, lt_of_lt_of_le -> aQ, lt_irrefl -> aR
open Go renaming Value -> aV, World -> aW, Calls -> aX, IntKind -> aY
namespace Go.Proofs.YtcnfaghcjlhoiaaGreat
open Go.RowKit
theorem Od (F0:Nat->Prop) (l1:Aa) (x2:Int) (x3:Int) (t4:Bool) (t5:Bool) (l6 m6:Aa) (v6:aV) (l7:Aa) (v7:aV) (k8:List (Aa×Aa)) (v8:aV) (w:aW) (hz1:l1.length<=1099511627776) (hz2: -9223372036854775808<=x2/\x2<=9223372036854775807) (hz3: -9223372036854775808<=x3/\x3<=9223372036854775807) (hb6:Bs w v6 m6) (hz6:l6.length<=1099511627776/\m6.length<=1099511627776) (hb7:Bs w v7 l7) (hz7:l7.length<=1099511627776) (hb8:T5 w F0 k8 v8) (hz8:(∀t∈k8,t.1.length<=1099511627776/\t.2.length<=1099511627776)/\k8.length<=1954687338211) (hT10:rT (l6,m6)=true) (hT12:Xt k8=true): aX aA 153 #[.iface 121 (.agg #[.string (tx l1),.int .i64 x2,.int .i64 x3,.bool t4,.bool t5,.string (tx l6),v6,v7,v8])] w (Gu w (.mk 2 13 0 [] ([.s l1,.n x2,.n x3,.t t4,.t t5,.i (l6,m6),.b l7,.x k8].map Ho)) ([.s l1,.n x2,.n x3,.t t4,.t t5,.i (l6,m6),.b l7,.x k8].all ptB)):=by
 obtain ⟨a6,c6,rfl,hc6,hm6⟩:=hb6.form;obtain ⟨a7,c7,rfl,hc7,hm7⟩:=hb7.form;obtain ⟨rows8,hx8,hy8⟩:=hb8;obtain ⟨a8,c8,rfl,hc8,hm8⟩:=hx8.form;have HTKS:Hq (T5 w F0 k8 (.slice a8 k8.length c8)):=Ab ⟨rows8,hx8,hy8⟩;clear hx8 hy8;have HC:Hq (VC w w.heap.size [(w.heap.size+1, [.string (tx l1),.int .i64 x2,.int .i64 x3,.bool t4,.bool t5,.string (tx l6),.slice a6 m6.length c6,.slice a7 l7.length c7,.slice a8 k8.length c8],121)] [] [(.slice a6 m6.length c6,m6),(.slice a7 l7.length c7,l7)] ((w.alloc (.cells zs5.toArray 314)).alloc (.cells [.string (tx l1),.int .i64 x2,.int .i64 x3,.bool t4,.bool t5,.string (tx l6),.slice a6 m6.length c6,.slice a7 l7.length c7,.slice a8 k8.length c8].toArray 121))):=Ab (VC.start (by intro r hr; simp only [aD,aE,or_false] at hr; rcases hr with rfl | rfl; exact hb6; exact hb7) _ _);have HSZ:Hq (∀u∈ [tx l1],u.size<=maxLen):=Ab (by intro u hu; simp only [aD,aE,or_false] at hu; rcases hu with rfl; exact Tj hz1);have HZ1:=Ab hz1;clear hz1;have HZ2:=Ab hz2;clear hz2;have HZ3:=Ab hz3;clear hz3;have HZ6:=Ab hz6;clear hz6;have HZ7:=Ab hz7;clear hz7;have HZ8:=Ab hz8;clear hz8;clear hb6;clear hb7;obtain ⟨z11,hta11⟩:∃z,∀W,(Instr.typeAssert (.iface 121 (.agg #[.string (tx l1),.int .i64 x2,.int .i64 x3,.bool t4,.bool t5,.string (tx l6),.slice a6 m6.length c6,.slice a7 l7.length c7,.slice a8 k8.length c8])) 20 104 true).run aA W=.ok (.tuple #[z,.bool false]) W:=⟨_,λ W=>A9 _ _ _ _ (by kernel_rfl) Mr (.inr ⟨_,_,rfl,by decide⟩) W⟩
 obtain ⟨z12,hta12⟩:∃z,∀W,(Instr.typeAssert (.iface 121 (.agg #[.string (tx l1),.int .i64 x2,.int .i64 x3,.bool t4,.bool t5,.string (tx l6),.slice a6 m6.length c6,.slice a7 l7.length c7,.slice a8 k8.length c8])) 20 110 true).run aA W=.ok (.tuple #[z,.bool false]) W:=⟨_,λ W=>A9 _ _ _ _ (by kernel_rfl) Ms (.inr ⟨_,_,rfl,by decide⟩) W⟩
 have hta:∀W,(Instr.typeAssert (.iface 121 (.agg #[.string (tx l1),.int .i64 x2,.int .i64 x3,.bool t4,.bool t5,.string (tx l6),.slice a6 m6.length c6,.slice a7 l7.length c7,.slice a8 k8.length c8])) 20 121 true).run aA W=.ok (.tuple #[.agg #[.string (tx l1),.int .i64 x2,.int .i64 x3,.bool t4,.bool t5,.string (tx l6),.slice a6 m6.length c6,.slice a7 l7.length c7,.slice a8 k8.length c8],.bool true]) W:=λ W=>Et _ _ _ (by kernel_rfl) W
 obtain ⟨B,hB⟩:∃B,B= [.s l1,.n x2,.n x3,.t t4,.t t5,.i (l6,m6),.b l7,.x k8].all ptB:=⟨_,rfl⟩
 obtain ⟨X,hX⟩:∃X:Tv,X=.mk 2 13 0 [] ([.s l1,.n x2,.n x3,.t t4,.t t5,.i (l6,m6),.b l7,.x k8].map Ho):=⟨_,rfl⟩
 rw [<-hB,<-hX];have HB:=Ab hB;have HX2:=Ab hX;clear hB hX;go_enter aM,aN;go_upto_region 11 with fail;clear hta hta11 hta12;show Code.wp _ _ _ _ ((w.alloc (.cells zs5.toArray 314)).alloc (.cells [.string (tx l1),.int .i64 x2,.int .i64 x3,.bool t4,.bool t5,.string (tx l6),.slice a6 m6.length c6,.slice a7 l7.length c7,.slice a8 k8.length c8].toArray 121))
 obtain ⟨W0,hW0⟩:∃W0,W0=(w.alloc (.cells zs5.toArray 314)).alloc (.cells [.string (tx l1),.int .i64 x2,.int .i64 x3,.bool t4,.bool t5,.string (tx l6),.slice a6 m6.length c6,.slice a7 l7.length c7,.slice a8 k8.length c8].toArray 121):=⟨_,rfl⟩
 rw [<-hW0] at HC ⊢;clear hW0;obtain ⟨p,hp⟩:∃p,p=w.heap.size+1:=⟨_,rfl⟩
 obtain ⟨q,hq⟩:∃q,q=w.heap.size:=⟨_,rfl⟩
 rw [<-hp,<-hq] at HC ⊢;clear hp hq;have HTV1:=Ab (Fs (l6,m6) (.slice a6 m6.length c6) W0 (HC.o.rowAt 0 rfl) HZ6.o.1 HZ6.o.2);have HM1:=Ab (HC.o.blkAt 0 rfl);rw [show Au (tx (l6,m6).1)=rT (l6,m6) from rfl] at HTV1;go_wp2_with ((with_reducible refine zw 88 ?_);refine Aj rfl (.tmp 87) Bc rfl rfl (cs:= [.string (tx l6),.slice a6 m6.length c6]) rfl (HM1.o.cellsAt 5 2) ?_);refine HTV1.o.mono ?_;rintro e wa1 ⟨cs1,rfl,htv,hb⟩;have HCa1:=Ab (HC.o.step hb);have HTT1:Hq (TvF wa1 (λ b=>q<b) (C6 (l6,m6)) cs1):=Ab (htv.mono (λ b hb=>by have:=HC.o.lt; omega));have HCL1:=Ab htv.length;have HCO1:=Ab htv.one;have HN1:=Ab (Blk.new wa1 zs5 314);clear htv hb HTV1;go_upto_region 12 with ((with_reducible refine zws 9 91 ?_);refine Ag rfl (.tmp 9) (.tmp 91) Ak rfl rfl (vs:=cs1) rfl HCL1.o HN1.o (aF _) HCO1.o ?_);intro wb1 h2 k2;have h2':Blk wb1 wa1.heap.size cs1 314:=by
  rw [aI (by decide),aJ] at h2;exact h2
 have hb2:Below wa1.heap.size wa1 wb1:=((Below.refl _ _).alloc (aF _) _).trans (k2.below (by omega));have HCb1:=Ab (((HCa1.o.addTree HTT1.o).step hb2).addBlk h2' HCa1.o.lt);obtain ⟨p1,hp1⟩:∃p1,p1=wa1.heap.size:=⟨_,rfl⟩
 rw [<-hp1] at HCb1 ⊢;clear h2 k2 h2' hb2 hp1 HCa1 HTT1 HN1 HCO1;go_upto_region 12 with fail;have hcx:wb1.cell? ⟨p,8,none⟩=some (.slice a8 k8.length c8):=(HCb1.o.blkAt 0 rfl).cell 8;have HTV2:=Ab (A0P k8 F0 (.slice a8 k8.length c8) wb1 (by obtain ⟨rows,h1,h2⟩:=HTKS.o; exact ⟨rows,h1.below HCb1.o.below,h2.below HCb1.o.below⟩) HZ8.o.1 HZ8.o.2);go_wp2_with fail;refine HTV2.o.mono ?_;rintro e wa2 ⟨cs2,rfl,htv,hb⟩;have HCa2:=Ab (HCb1.o.step hb);have HTT2:Hq (TvF wa2 (λ b=>q<b) (Gt k8) cs2):=Ab (htv.mono (λ b hb=>by have:=HCb1.o.lt; omega));have HCL2:=Ab htv.length;have HCO2:=Ab htv.one;have HN2:=Ab (Blk.new wa2 zs5 314);clear htv hb HTV2 hcx;go_upto_region 13 with ((with_reducible refine zws 11 97 ?_);refine Ag rfl (.tmp 11) (.tmp 97) Ak rfl rfl (vs:=cs2) rfl HCL2.o HN2.o (aF _) HCO2.o ?_);intro wb2 h2 k2;have h2':Blk wb2 wa2.heap.size cs2 314:=by
  rw [aI (by decide),aJ] at h2;exact h2
 have hb2:Below wa2.heap.size wa2 wb2:=((Below.refl _ _).alloc (aF _) _).trans (k2.below (by omega));have HCb2:=Ab (((HCa2.o.addTree HTT2.o).step hb2).addBlk h2' HCa2.o.lt);obtain ⟨p2,hp2⟩:∃p2,p2=wa2.heap.size:=⟨_,rfl⟩
 rw [<-hp2] at HCb2 ⊢;clear h2 k2 h2' hb2 hp2 HCa2 HTT2 HN2 HCO2;go_upto_region 13 with fail
 cases hok10:rT (l6,m6) with
 | false=>exact absurd hok10 (by rw [hT10]; decide)
 | true=>
  have HOK10:=Ab hok10;clear hok10
  cases hok12:Xt k8 with
  | false=>exact absurd hok12 (by rw [hT12]; decide)
  | true=>
   have HOK12:=Ab hok12;clear hok12;have HBE:Hq (B=([tx l1].all Au&& [x2,x3].all Bp)):=Ab (by rw [HB.o]; simp only [aO,aP,ptB,HOK10.o,HOK12.o,Bool.and_true,Bool.true_and,Bool.and_false,Bool.false_and,Bool.and_assoc]; first | done | ac_rfl);obtain ⟨wd,hwd⟩:∃wd,wd=aW.drew wb2:=⟨_,rfl⟩
   have hvd:VC w q [(p, [.string (tx l1),.int .i64 x2,.int .i64 x3,.bool t4,.bool t5,.string (tx l6),.slice a6 m6.length c6,.slice a7 l7.length c7,.slice a8 k8.length c8],121),(p1,cs1,314),(p2,cs2,314)] [(C6 (l6,m6),cs1),(Gt k8,cs2)] [(.slice a6 m6.length c6,m6),(.slice a7 l7.length c7,l7)] wd:=by rw [hwd]; exact HCb2.o.drew
   have HXE:Hq (X=.mk 2 13 0 [] [.mk 1 0 0 l1 [],.mk 0 0 (E4 x2) [] [],.mk 0 0 (E4 x3) [] [],.mk 0 0 (if t4 then 1 else 0) [] [],.mk 0 0 (if t5 then 1 else 0) [] [],C6 (l6,m6),.mk 1 0 0 l7 [],Gt k8]):=Ab HX2.o;have HR:Hq (∀W,GV (λ b=>q<b) q X wd W->VR w q [(p, [.string (tx l1),.int .i64 x2,.int .i64 x3,.bool t4,.bool t5,.string (tx l6),.slice a6 m6.length c6,.slice a7 l7.length c7,.slice a8 k8.length c8],121),(p1,cs1,314),(p2,cs2,314)] [(C6 (l6,m6),cs1),(Gt k8,cs2)] [(.slice a6 m6.length c6,m6),(.slice a7 l7.length c7,l7)] W):=Ab (λ W h=>hvd.gv h);have HZD:Hq (∀W,GV (λ b=>q<b) q X wd W->q<W.heap.size/\∀b,W.heap.size<=b->q<b):=Ab (λ W h=>⟨(HR.o W h).lt,λ b hb=>aQ (HR.o W h).lt hb⟩);have HFq:Hq (¬(λ b=>q<b) q):=Ab (aR q);have HQW:Hq (w.heap.size=q):=Ab hvd.hq.symm;clear hvd HCb2;refine wp_region_held (S:=λ W=>GV (λ b=>q<b) q X wd W) (by kernel_rfl) ?_;change wpAnyH _ _ _ _ _ _ _ _ (aW.drew _);rw [<-hwd];clear hwd;refine zH 0 ?_;refine zH 1 ?_ (hr:=λ W hW=>by have hc:=((HR.o W hW).blkAt 0 rfl).cell 0; go_simp; try rfl);refine zH 3 ?_;refine zH 4 ?_ (hr:=λ W hW=>by have hc:=((HR.o W hW).blkAt 0 rfl).cell 1; go_simp; try rfl);refine zH 6 ?_;refine zH 7 ?_ (hr:=λ W hW=>by have hc:=((HR.o W hW).blkAt 0 rfl).cell 2; go_simp; try rfl);refine zH 9 ?_;refine zH 10 ?_ (hr:=λ W hW=>by have hc:=((HR.o W hW).blkAt 0 rfl).cell 3; go_simp; try rfl);refine zH 12 ?_;refine zH 13 ?_ (hr:=λ W hW=>by have hc:=((HR.o W hW).blkAt 0 rfl).cell 4; go_simp; try rfl);refine zH 15 ?_ (v:=.agg cs1.toArray) (hr:=λ W hW=>by exact E2 rfl Ak rfl HCL1.o ((HR.o W hW).blkAt 1 rfl).cellsAll);refine zH 16 ?_;refine zH 17 ?_ (hr:=λ W hW=>by have hc:=((HR.o W hW).blkAt 0 rfl).cell 7; go_simp; try rfl);refine zH 19 ?_ (v:=.agg cs2.toArray) (hr:=λ W hW=>by exact E2 rfl Ak rfl HCL2.o ((HR.o W hW).blkAt 2 rfl).cellsAll);refine zH 22 ?_;refine Df (G:=GV (λ b=>q<b) q X) (Post:=L5 (λ b=>q<b) q X [.any,.any,.val (.mk 1 0 0 l1 []),.any,.any,.val (.mk 0 0 (E4 x2) [] []),.any,.any,.val (.mk 0 0 (E4 x3) [] []),.any,.any,.val (.mk 0 0 (if t4 then 1 else 0) [] []),.any,.any,.val (.mk 0 0 (if t5 then 1 else 0) [] []),.any,.any,.any,.val (.mk 1 0 0 l7 []),.any,.vals [.mk 1 0 0 l1 [],.mk 0 0 (E4 x2) [] [],.mk 0 0 (E4 x3) [] [],.mk 0 0 (if t4 then 1 else 0) [] [],.mk 0 0 (if t5 then 1 else 0) [] [],C6 (l6,m6),.mk 1 0 0 l7 [],Gt k8],.val (.mk 2 13 0 [] [.mk 1 0 0 l1 [],.mk 0 0 (E4 x2) [] [],.mk 0 0 (E4 x3) [] [],.mk 0 0 (if t4 then 1 else 0) [] [],.mk 0 0 (if t5 then 1 else 0) [] [],C6 (l6,m6),.mk 1 0 0 l7 [],Gt k8]),.any,.is (.bool true),.is (.bool true),.is (.bool true),.is (.bool true),.is (.pointer (some ⟨p,0,none⟩)),.is (.string (tx l1)),.row [.string (tx l1)],.is (.pointer (some ⟨p,1,none⟩)),.is (.int .i64 x2),.is (.pointer (some ⟨p,2,none⟩)),.is (.int .i64 x3),.row [.int .i64 x2,.int .i64 x3],.is (.bool ([tx l1].all Au&& [x2,x3].all Bp)),.is (.bool ([tx l1].all Au&& [x2,x3].all Bp)),.fin,.is (.bool ([tx l1].all Au&& [x2,x3].all Bp))]) (ds:= [101,104,107,110,113,117,119,120,122,123,124,125,126,127,128,129,130,131,132,133,134,135,3]) (GV.refl _ _ _) GV.trans (λ W W' h g=>GV.trans _ _ _ h g) (λ i v W W' h g=>PK.stable HFq.o h g) [2,5,8,11,14,18,20,21,23,24,25,26,27,28,29,30,31,32,33,34,35,36,37,38] 397 rfl (by decide+kernel) (by decide+kernel) ?_ ?_ (GV.refl _ _ _ _) (by decide+kernel)
   . refine zA (λ a W hf hS hd K hK=>?_) ?_
     . have e100:a.eval (.tmp 100)=.string (tx l1):=hf.lit 100 (by decide) rfl;exact A2 (Ah rfl) rfl Dp (vs:=#[.string (tx l1)]) (by simp [e100]) (Gc l1 W HZ1.o) (HZD.o W hS).1 (HZD.o W hS).2 hK
     refine zA (λ a W hf hS hd K hK=>?_) ?_
     . have e103:a.eval (.tmp 103)=.int .i64 x2:=hf.lit 103 (by decide) rfl;exact A2 (Ah rfl) rfl F7 (vs:=#[.int .i64 x2]) (by simp [e103]) (Ie x2 W HZ2.o.1 HZ2.o.2) (HZD.o W hS).1 (HZD.o W hS).2 hK
     refine zA (λ a W hf hS hd K hK=>?_) ?_
     . have e106:a.eval (.tmp 106)=.int .i64 x3:=hf.lit 106 (by decide) rfl;exact A2 (Ah rfl) rfl F7 (vs:=#[.int .i64 x3]) (by simp [e106]) (Ie x3 W HZ3.o.1 HZ3.o.2) (HZD.o W hS).1 (HZD.o W hS).2 hK
     refine zA (λ a W hf hS hd K hK=>?_) ?_
     . have e109:a.eval (.tmp 109)=.bool t4:=hf.lit 109 (by decide) rfl;exact A2 (Ah rfl) rfl M5 (vs:=#[.bool t4]) (by simp [e109]) (Ss t4 W) (HZD.o W hS).1 (HZD.o W hS).2 hK
     refine zA (λ a W hf hS hd K hK=>?_) ?_
     . have e112:a.eval (.tmp 112)=.bool t5:=hf.lit 112 (by decide) rfl;exact A2 (Ah rfl) rfl M5 (vs:=#[.bool t5]) (by simp [e112]) (Ss t5 W) (HZD.o W hS).1 (HZD.o W hS).2 hK
     refine zA (λ a W hf hS hd K hK=>?_) ?_
     . have e116:a.eval (.tmp 116)=.slice a7 l7.length c7:=hf.lit 116 (by decide) rfl;exact A2 (Ah rfl) rfl Ez (vs:=#[.slice a7 l7.length c7]) (by simp [e116]) (Di _ l7 W ((HR.o W hS).rowAt 1 rfl) HZ7.o) (HZD.o W hS).1 (HZD.o W hS).2 hK
     refine zA (λ a W hf hS hd K hK=>?_) ?_
     . have d101:=(hd 2 (by decide+kernel)).get (s:=101) rfl;have d104:=(hd 5 (by decide+kernel)).get (s:=104) rfl;have d107:=(hd 8 (by decide+kernel)).get (s:=107) rfl;have d110:=(hd 11 (by decide+kernel)).get (s:=110) rfl;have d113:=(hd 14 (by decide+kernel)).get (s:=113) rfl;have e114:a.eval (.tmp 114)=.agg cs1.toArray:=hf.lit 114 (by decide) rfl;have d117:=(hd 18 (by decide+kernel)).get (s:=117) rfl;have e118:a.eval (.tmp 118)=.agg cs2.toArray:=hf.lit 118 (by decide) rfl;exact Dk (Ah rfl) rfl Hs (ps:= [.tmp 101,.tmp 104,.tmp 107,.tmp 110,.tmp 113,.tmp 114,.tmp 117,.tmp 118]) rfl (l:= [.mk 1 0 0 l1 [],.mk 0 0 (E4 x2) [] [],.mk 0 0 (E4 x3) [] [],.mk 0 0 (if t4 then 1 else 0) [] [],.mk 0 0 (if t5 then 1 else 0) [] [],C6 (l6,m6),.mk 1 0 0 l7 [],Gt k8]) ⟨d101,d104,d107,d110,d113,⟨_,e114,(HR.o W hS).treeAt 0 rfl⟩,d117,⟨_,e118,(HR.o W hS).treeAt 1 rfl⟩,trivial⟩ rfl (by decide) (by decide) (HZD.o W hS).1 (HZD.o W hS).2 hK
     refine zA (λ a W hf hS hd K hK=>?_) ?_
     . have d119:=(hd 20 (by decide+kernel)).get (s:=119) rfl;exact D2 (Ah rfl) rfl Dg d119 (HZD.o W hS).1 (λ v w1 h1 h2=>hK v w1 h1 h2) HFq.o
     refine zA (λ a W hf hS hd K hK=>A6 (v:=.bool true) (Ah rfl) (Ib rfl (show a.eval (.tmp 121)=.bool true from hf.lit 121 (by decide) rfl)) (hK _ _ (GV.refl _ _ _ _) rfl)) ?_;refine zA (λ a W hf hS hd K hK=>?_) ?_
     . have e122:a.eval (.tmp 122)=.bool true:=(hd 23 (by decide+kernel)).get (s:=122) rfl;have e12:a.eval (.tmp 12)=.bool true:=hf.lit 12 (by decide) rfl;exact A6 (v:=.bool true) (A5 rfl rfl e122) (Ib rfl e12) (hK _ _ (GV.refl _ _ _ _) rfl)
     refine zA (λ a W hf hS hd K hK=>?_) ?_
     . have e122:a.eval (.tmp 122)=.bool true:=(hd 23 (by decide+kernel)).get (s:=122) rfl;have e123:a.eval (.tmp 123)=.bool true:=(hd 24 (by decide+kernel)).get (s:=123) rfl;exact A6 (v:=.bool true) (Ah rfl) (Il rfl e122 e123) (hK _ _ (GV.refl _ _ _ _) rfl)
     refine zA (λ a W hf hS hd K hK=>A6 (v:=.bool true) (Ah rfl) (Ib rfl (show a.eval (.tmp 124)=.bool true from (hd 25 (by decide+kernel)).get (s:=124) rfl)) (hK _ _ (GV.refl _ _ _ _) rfl)) ?_;refine zA (λ a W hf hS hd K hK=>?_) ?_
     . have e125:a.eval (.tmp 125)=.bool true:=(hd 26 (by decide+kernel)).get (s:=125) rfl;have e8:a.eval (.tmp 8)=.pointer (some ⟨p,0,none⟩):=hf.lit 8 (by decide) rfl;exact A6 (v:=.pointer (some ⟨p,0,none⟩)) (A5 rfl rfl e125) (E0 rfl e8 (by go_simp)) (hK _ _ (GV.refl _ _ _ _) rfl)
     refine zA (λ a W hf hS hd K hK=>?_) ?_
     . have e125:a.eval (.tmp 125)=.bool true:=(hd 26 (by decide+kernel)).get (s:=125) rfl;have e126:a.eval (.tmp 126)=.pointer (some ⟨p,0,none⟩):=(hd 27 (by decide+kernel)).get (s:=126) rfl;have hc:W.cell? ⟨p,0,none⟩=some (.string (tx l1)):=((HR.o W hS).blkAt 0 rfl).cell 0;exact A6 (v:=.string (tx l1)) (A5 rfl rfl e125) (F8 rfl e126 (by go_simp)) (hK _ _ (GV.refl _ _ _ _) rfl)
     refine zA (λ a W hf hS hd K hK=>?_) ?_
     . have e125:a.eval (.tmp 125)=.bool true:=(hd 26 (by decide+kernel)).get (s:=125) rfl;have e127:a.eval (.tmp 127)=.string (tx l1):=(hd 28 (by decide+kernel)).get (s:=127) rfl;exact C8 (A5 rfl rfl e125) rfl Uw (ps:= [.tmp 127]) rfl (cs:= [.string (tx l1)]) (by simp only [aB,aC,e127]) (by intro u hu; simp only [aD,aE,or_false] at hu; rcases hu with rfl <;> exact ⟨rfl,rfl⟩) rfl (by decide) (by decide) (HZD.o W hS).1 (HZD.o W hS).2 hK
     refine zA (λ a W hf hS hd K hK=>?_) ?_
     . have e125:a.eval (.tmp 125)=.bool true:=(hd 26 (by decide+kernel)).get (s:=125) rfl;have e8:a.eval (.tmp 8)=.pointer (some ⟨p,0,none⟩):=hf.lit 8 (by decide) rfl;exact A6 (v:=.pointer (some ⟨p,1,none⟩)) (A5 rfl rfl e125) (E0 rfl e8 (by go_simp)) (hK _ _ (GV.refl _ _ _ _) rfl)
     refine zA (λ a W hf hS hd K hK=>?_) ?_
     . have e125:a.eval (.tmp 125)=.bool true:=(hd 26 (by decide+kernel)).get (s:=125) rfl;have e129:a.eval (.tmp 129)=.pointer (some ⟨p,1,none⟩):=(hd 30 (by decide+kernel)).get (s:=129) rfl;have hc:W.cell? ⟨p,1,none⟩=some (.int .i64 x2):=((HR.o W hS).blkAt 0 rfl).cell 1;exact A6 (v:=.int .i64 x2) (A5 rfl rfl e125) (F8 rfl e129 (by go_simp)) (hK _ _ (GV.refl _ _ _ _) rfl)
     refine zA (λ a W hf hS hd K hK=>?_) ?_
     . have e125:a.eval (.tmp 125)=.bool true:=(hd 26 (by decide+kernel)).get (s:=125) rfl;have e8:a.eval (.tmp 8)=.pointer (some ⟨p,0,none⟩):=hf.lit 8 (by decide) rfl;exact A6 (v:=.pointer (some ⟨p,2,none⟩)) (A5 rfl rfl e125) (E0 rfl e8 (by go_simp)) (hK _ _ (GV.refl _ _ _ _) rfl)
     refine zA (λ a W hf hS hd K hK=>?_) ?_
     . have e125:a.eval (.tmp 125)=.bool true:=(hd 26 (by decide+kernel)).get (s:=125) rfl;have e131:a.eval (.tmp 131)=.pointer (some ⟨p,2,none⟩):=(hd 32 (by decide+kernel)).get (s:=131) rfl;have hc:W.cell? ⟨p,2,none⟩=some (.int .i64 x3):=((HR.o W hS).blkAt 0 rfl).cell 2;exact A6 (v:=.int .i64 x3) (A5 rfl rfl e125) (F8 rfl e131 (by go_simp)) (hK _ _ (GV.refl _ _ _ _) rfl)
     refine zA (λ a W hf hS hd K hK=>?_) ?_
     . have e125:a.eval (.tmp 125)=.bool true:=(hd 26 (by decide+kernel)).get (s:=125) rfl;have e130:a.eval (.tmp 130)=.int .i64 x2:=(hd 31 (by decide+kernel)).get (s:=130) rfl;have e132:a.eval (.tmp 132)=.int .i64 x3:=(hd 33 (by decide+kernel)).get (s:=132) rfl;exact C8 (A5 rfl rfl e125) rfl N5 (ps:= [.tmp 130,.tmp 132]) rfl (cs:= [.int .i64 x2,.int .i64 x3]) (by simp only [aB,aC,e130,e132]) (by intro u hu; simp only [aD,aE,or_false] at hu; rcases hu with rfl | rfl <;> exact ⟨rfl,rfl⟩) rfl (by decide) (by decide) (HZD.o W hS).1 (HZD.o W hS).2 hK
     refine zA (λ a W hf hS hd K hK=>?_) ?_
     . have e125:a.eval (.tmp 125)=.bool true:=(hd 26 (by decide+kernel)).get (s:=125) rfl;have d128:=(hd 29 (by decide+kernel)).get (s:=128) rfl;have d133:=(hd 34 (by decide+kernel)).get (s:=133) rfl;exact E5 (A5 rfl rfl e125) rfl Ei (vs:=#[a.eval (.tmp 128),a.eval (.tmp 133)]) (by first | (simp only [aG,aB,aC]; done) | (simp only [aG,aB,aC]; rfl)) (u:=(.bool ([tx l1].all Au&& [x2,x3].all Bp))) (Ha [tx l1] [x2,x3] _ _ W d128.1 d133.1 HSZ.o) (HZD.o W hS).1 hK
     refine zA (λ a W hf hS hd K hK=>?_) ?_
     . have e125:a.eval (.tmp 125)=.bool true:=(hd 26 (by decide+kernel)).get (s:=125) rfl;have d134:=(hd 35 (by decide+kernel)).get (s:=134) rfl;exact A6 (Ah rfl) (Il rfl e125 rfl) (hK _ _ (GV.refl _ _ _ _) d134)
     refine zA (λ a W hf hS hd K hK=>?_) ?_
     . have e2:a.eval (.tmp 2)=.pointer (some ⟨q,0,none⟩):=hf.lit 2 (by decide) rfl;have d120:=(hd 21 (by decide+kernel)).get (s:=120) rfl;obtain ⟨cur,hc1,hc2⟩:=(HR.o W hS).len;rw [<-HXE.o] at d120;exact D1 (Ah rfl) rfl e2 d120 hc1 hc2 HFq.o hK
     refine zA (λ a W hf hS hd K hK=>?_) ?_
     . have d135:=(hd 36 (by decide+kernel)).get (s:=135) rfl;exact A6 (Ah rfl) (Jt rfl rfl) (hK _ _ (GV.refl _ _ _ _) d135)
     exact Cm.nil
   . intro a W hf hS hp;have h3:=(hp 38 (by decide)).get (s:=3) rfl;obtain ⟨v,cs,h5,h6⟩:=(hp 37 (by decide)).fin;have e2:a.eval (.tmp 2)=.pointer (some ⟨q,0,none⟩):=hf.lit 2 (by decide) rfl;go_wp2_with fail;refine bodyPost_ret (Ap rfl Ak (show a.tmps.getD 2 undef=_ from e2) h6.length h5.cellsAll) hf.defers ⟨cs,?_,?_,(HR.o W hS).below⟩
     . rw [HBE.o,show a.tmps.getD 3 undef=.bool ([tx l1].all Au&& [x2,x3].all Bp) from h3]
     . exact h6.mono (λ b hb=>by have:=HQW.o; omega)
end Go.Proofs.YtcnfaghcjlhoiaaGreat
namespace Go.Proofs.YtcnfaghcjlhoiaaGreat
open Go.RowKit Go.Maps
def Eu (l1:Aa) (x2 x3:Int) (t4 t5:Bool) (l6 m6 l7:Aa) (k8:List (Aa×Aa)):List Pt:= [.s l1,.n x2,.n x3,.t t4,.t t5,.i (l6,m6),.b l7,.x k8]
theorem Se (q:Nat) (s:PS) (l1:Aa) (x2 x3:Int) (t4 t5:Bool) (l4 m4:Aa) (v4:aV) (a5:Option Addr) (n5 c5:Nat) (k8:List (Aa×Aa)) (v8:aV) (l:List Res) (w:aW) (h:Ad w (pvR q s::l)) (hs:s.sz<1099511627776) (hall:(Eu l1 x2 x3 t4 t5 l4 m4 [] k8).all ptB=true) (hok:∀p∈Eu l1 x2 x3 t4 t5 l4 m4 [] k8,Ii p) (hlen:(A8 13 (Eu l1 x2 x3 t4 t5 l4 m4 [] k8)).length<=4096) (hv4:∀W,Ad W l->Bs W v4 m4) (hv8:∀W,Ad W l->T5 W (λ _=>True) k8 v8): aX aA 103 #[pvV s q,.iface 121 (.agg #[.string (tx l1),.int .i64 x2,.int .i64 x3,.bool t4,.bool t5,.string (tx l4),v4,.slice a5 n5 c5,v8])] w (Kb q (s.digest (A8 13 (Eu l1 x2 x3 t4 t5 l4 m4 [] k8))).2 (s.digest (A8 13 (Eu l1 x2 x3 t4 t5 l4 m4 [] k8))).1 l):=by
 obtain ⟨a4,c4,rfl,_,_⟩:=(hv4 _ h.tail).form;have HV4:=Ab hv4;obtain ⟨a8,c8,rfl,_,_⟩:=(hv8 _ h.tail).choose_spec.1.form;obtain ⟨B,hB⟩:∃B,B=A8 13 (Eu l1 x2 x3 t4 t5 l4 m4 [] k8):=⟨_,rfl⟩
 have HWR:Hq (∀W,Ad W l->aX aA 92 #[.iface 121 (.agg #[.string (tx l1),.int .i64 x2,.int .i64 x3,.bool t4,.bool t5,.string (tx l4),.slice a4 m4.length c4,.slice none 0 0,.slice a8 k8.length c8])] W (A2I W (B,0))):=Ab (λ W hW=>by
  have h1:=hok (.s l1) (by simp [Eu]);have h2:=hok (.n x2) (by simp [Eu]);have h3:=hok (.n x3) (by simp [Eu]);have h4:=hok (.i (l4,m4)) (by simp [Eu]);have h8:=hok (.x k8) (by simp [Eu]);have hval:=Od (λ _=>True) l1 x2 x3 t4 t5 l4 m4 (.slice a4 m4.length c4) [] (.slice none 0 0) k8 (.slice a8 k8.length c8) W h1 h2 h3 (hv4 W hW) h4 (Bs.none _ _ _ (by simp) (by decide)) (by decide) (hv8 W hW) h8 (by have:=List.all_eq_true.1 hall (.i (l4,m4)) (by simp [Eu]); simpa [ptB] using this) (by have:=List.all_eq_true.1 hall (.x k8) (by simp [Eu]); simpa [ptB] using this);have hw:=P5 _ _ _ W hval (λ _=>⟨Fm 13 _ hall,by unfold A8 at hlen; exact aH hlen (by decide)⟩);rw [show ([Pt.s l1,.n x2,.n x3,.t t4,.t t5,.i (l4,m4),.b [],.x k8].all ptB)=true from hall,if_pos rfl] at hw;have hr:wrS (Fl 13 (Eu l1 x2 x3 t4 t5 l4 m4 [] k8))=(B,0):=by
   rw [wrS,if_neg,if_neg (by unfold A8 at hlen; omega),hB]
   . rfl
   . simp [Fl,Eu,A4,Ho,C6,Gt]
  rw [<-hr];exact hw)
 have HDG:=Ab (λ (v:aV) (w:aW) (l:List Res) (h:Ad w (pvR q s::l)) (hv:Bs w v B)=>Oi q s v B l w h hv (by rw [hB]; omega) hs);rw [<-hB];have hta:∀W,(Instr.typeAssert (.iface 121 (.agg #[.string (tx l1),.int .i64 x2,.int .i64 x3,.bool t4,.bool t5,.string (tx l4),.slice a4 m4.length c4,.slice a5 n5 c5,.slice a8 k8.length c8])) 20 121 true).run aA W=.ok (.tuple #[.agg #[.string (tx l1),.int .i64 x2,.int .i64 x3,.bool t4,.bool t5,.string (tx l4),.slice a4 m4.length c4,.slice a5 n5 c5,.slice a8 k8.length c8],.bool true]) W:=λ W=>Et _ _ _ (by kernel_rfl) W
 have HC:=Ab h;have g1:=λ j a w=>Fy s j a "Digest" (by simp) w
 have g2:=λ j a w=>Vj s j a w
 have g3:∀(args:Array aV) (w:aW),(callFunc (Im s) args).run aA w=.ok (.enter (Im s) args) w:=Ux s
 clear h hs hall hok hlen hv4 hv8 hB;unfold pvV at*;go_enter Tryz.func103,Tryz.ntmps103;go_wp2_with fail;refine (HWR.o _ (HC.o.alloc _).tail).mono ?_;rintro e w1 ⟨v,rfl,hb,hw⟩;obtain ⟨va,vc,rfl,_,_⟩:=hb.form;have HC:=Ab ((HC.o.alloc _).step hw);have HB:=Ab hb;clear hb hw;go_wp2_with fail;refine (HDG.o _ _ _ HC.o HB.o).mono ?_;rintro e w2 ⟨x,rfl,hc⟩;go_wp2_with fail;go_ret;exact ⟨x,rfl,hc⟩
def auF (nm:Aa) (now seq:Nat) (sub d:Aa):List Fd:= [.s nm,.n now,.n seq,.k sub,.b d]
def auC (nm:Aa) (now seq:Nat) (sub:Aa) (v:aV):List aV:=(([.string (tx nm),.int .i64 (now:Int),.int .i64 (seq:Int)]:List aV)++(Ae sub++([v]:List aV)))
theorem T7 (nm:Aa) (now seq:Nat) (sub:Aa) (h:sub.length=16) (a:Option Addr) (n c:Nat):Tryz.prog.built 224 [(0,.string (tx nm)),(1,.int .i64 (now:Int)),(2,.int .i64 (seq:Int)),(3,.agg (Ae sub).toArray),(4,.slice a n c)]=some (auC nm now seq sub (.slice a n c)).toArray:=by
 obtain ⟨c0,c1,c2,c3,c4,c5,c6,c7,c8,c9,c10,c11,c12,c13,c14,c15,rfl⟩:=By sub h
 kernel_rfl
theorem Uu (nm:Aa) (now seq:Nat) (sub d:Aa) (h1:nm.length<=200) (h2:sub.length=16) (h3:d.length<=100):(As 4 (auF nm now seq sub d)).length<=1000:=by
 have:=L4 4 (auF nm now seq sub d);generalize As 4 (auF nm now seq sub d)=P at*;simp [auF,N6] at this;omega
def Cli.sent (c:Cli):Cli:= { c with seq:=c.seq+1 }
def Nx (cp q st:Nat) (s s1:PS) (c:Cli) (k:Aa) (u:Nat) (b:Aa) (l:List Res) (e:Ending) (w':aW):Prop:=
 ∃y,e=.returned (.tuple #[y,.int .i64 0])/\Ad w' (.row y (s1.shut k u b).1::pvR q (s1.shut k u b).2::Bd cp s.knd q st c.sent::l)
theorem Lv (cp q st:Nat) (s s1:PS) (c:Cli) (nm:Aa) (now:Nat) (k:Aa) (u:Nat) (sub d:Aa) (mv:aV) (l:List Res) (w:aW) (h:Ad w (Bd cp s.knd q st c::pvR q s::l)) (hs1:s1.sz<1099511627776) (hkn:s1.knd=s.knd) (hnm:c.nm=tx nm) (hnl:nm.length<=200) (hnr:Au (tx nm)=true) (hck:c.key.length=16) (hk:k.length=16) (hu:u<100) (hsub:sub.length=16) (hd:d.length<=100) (hnow:now<=1099511627776) (hseq:c.seq<1099511627776) (hsum:∀(W:aW) (l':List Res),Ad W (pvR q s::l')->(∀W',Ad W' l'->Ad W' l)->aX aA 103 #[pvV s q,mv] W (Kb q s1 d l')): aX aA 98 #[.pointer (some ⟨cp,0,none⟩),.int .i64 (now:Int),A1 k,.int .i64 u,A1 sub,mv] w (Nx cp q st s s1 c k u (As 4 (auF nm now (c.seq+1) sub d)) l):=by
 obtain ⟨sq,hsq⟩:∃x,x=c.seq+1:=⟨_,rfl⟩
 rw [<-hsq];have hpv:pvV s1 q=pvV s q:=by rw [<-Bf hkn,<-Bf rfl]
 have HSEAL:Hq (∀(v:aV) (W:aW) (l':List Res),Ad W (pvR q s1::l')->(∀W,Ad W l'->Bs W v d)->aX aA 83 #[pvV s q,A1 k,.int .i64 u,.iface 224 (.agg (auC nm now sq sub v).toArray)] W (V1 q s1 k u (As 4 (auF nm now sq sub d)) l')):=Ab (λ v W l' h hv=>by
  rw [<-hpv];exact Jc q s1 k u _ (Ev 4 (auF nm now sq sub d)) _ l' W h hk hu hs1 (λ W hW=>A0N nm now sq sub d v W (by omega) hnr hnow (by omega) hsub (hv W hW) (by omega)) (A3j (by
   intro f hf;simp only [auF,aD,aE,or_false] at hf;rcases hf with rfl | rfl | rfl | rfl | rfl
   . exact ⟨by omega,hnr⟩
   . exact hnow
   . show sq<=_; omega
   . exact hsub
   . show d.length<=_; omega)) (Xs (by decide) (by decide) (aH (Uu nm now sq sub d hnl hsub hd) (by decide))) (aH (Uu nm now sq sub d hnl hsub hd) (by decide)))
 have HSUM:=Ab hsum;have HKB:Hq ((Ae k).length=16):=Ab (by rw [Ac,hk]);have HSB:Hq ((Ae sub).length=16):=Ab (by rw [Ac,hsub]);have HBA:=Ab (T7 nm now sq sub hsub);have hcc:(c.cells s.knd q st)[0]?=some (.iface (pvT s) (.pointer (some ⟨q,0,none⟩))):=by show some (pvI s.knd q)=_; rw [Bf rfl]; rfl
 have h1c:(c.cells s.knd q st)[1]?=some (.string (tx nm)):=by rw [<-hnm]; rfl
 obtain ⟨CC,hCC⟩:∃x,x=c.cells s.knd q st:=⟨_,rfl⟩
 have c3:w.cell? ⟨cp,3,none⟩=some (.int .i64 (c.seq:Int)):=h.blk0.cell 3;have f3:w.frozen? ⟨cp,3,none⟩=false:=h.blk0.frozen 3;have l3:=h.blk0.lt;obtain ⟨C2,hC2⟩:∃x,x=CC.set 3 (.int .i64 (sq:Int)):=⟨_,rfl⟩
 have H20:Hq (C2[0]?=some (.iface (pvT s) (.pointer (some ⟨q,0,none⟩)))):=Ab (by rw [hC2,hCC,aK (by decide)]; exact hcc);have H21:Hq (C2[1]?=some (.string (tx nm))):=Ab (by rw [hC2,hCC,aK (by decide)]; exact h1c);have H23:Hq (C2[3]?=some (.int .i64 (sq:Int))):=Ab (by rw [hC2,hCC]; rfl);have HFIN:Hq (C2=c.sent.cells s.knd q st):=Ab (by rw [hC2,hCC,hsq]; rfl);have wx:aY.i64.wrap ((c.seq:Int)+1)=(sq:Int):=by rw [aY.wrap_i64,hsq]; omega
 have h2:Ad w (.blk cp CC 101::pvR q s::l):=by rw [hCC]; exact h
 have h3:=h2.set 3 (.int .i64 (sq:Int));rw [<-hC2] at h3;have HC:=Ab ((h3.addBlkAt (Ae k) 46 (b:=w.heap.size) (by simp)).addBlkAt (Ae sub) 46 (b:=w.heap.size+1) (by simp));unfold Nx Bd;rw [<-HFIN.o];clear h h2 h3 hs1 hkn hnm hnl hnr hck hk hu hsub hd hnow hseq hsum hsq hpv hcc h1c hCC hC2;unfold pvV A1 at*;unfold V1 at HSEAL;go_enter Tryz.func98,Tryz.ntmps98;go_upto_region 2 with fail;clear c3 f3 l3 wx;refine zG (λ b W=>W.cell? ⟨cp,0,none⟩=some (.iface (pvT s) (.pointer (some ⟨q,0,none⟩)))/\W.cell? ⟨cp,1,none⟩=some (.string (tx nm))/\W.cell? ⟨cp,3,none⟩=some (.int .i64 (sq:Int))/\Ao W w.heap.size 0 (Ae k)/\Ao W (w.heap.size+1) 0 (Ae sub)) HC.o λ W hc=>?_
 have HC:=Ab hc;clear hc;refine zT 0 ?_;refine zT 1 ?_;refine zT 2 ?_;refine zT 3 ?_;refine zT 4 ?_ (hr:=λ _ _ _ hW=>ldJ Aq rfl HKB.o hW.2.2.2.1);refine zT 5 ?_;refine zT 6 ?_;refine zT 7 ?_;refine zT 8 ?_;refine zT 9 ?_;refine zT 10 ?_;refine zT 11 ?_;refine zT 12 ?_;refine zT 13 ?_;refine zT 14 ?_;refine zT 15 ?_ (hr:=λ _ _ _ hW=>ldJ Aq rfl HSB.o hW.2.2.2.2);refine zT 16 ?_;refine zT 17 ?_;refine zT 18 ?_;refine zT 19 ?_;refine zT 20 ?_;refine zJ 21 λ K hK=>?_
 go_simp;refine (HSUM.o _ _ (HC.o.zP [3]) (λ W hW=>hW.tail.tail.tail)).mono ?_;rintro e w1 ⟨x,rfl,hc⟩;obtain ⟨xa,xc,rfl,_,_⟩:=(hc.rowOf (v:=x) (b:=d) (by simp)).form;have HC:=Ab hc;clear hc;refine zq hK ?_;clear hK K;refine zT 22 ?_ (v:=.agg (auC nm now sq sub (.slice xa d.length xc)).toArray) (hr:=λ l W hk hW=>Gh (by simp only [aG,aB,aC]; rfl) (HBA.o xa d.length xc) W);refine zT 23 ?_;refine zJ 24 λ K hK=>?_
 go_simp;refine (HSEAL.o _ _ _ HC.o.swap (λ W hW=>hW.rowOf (by simp))).mono ?_;rintro e w2 ⟨y,rfl,hc⟩;have HC:=Ab hc;clear hc;refine zq hK ?_;clear hK K;refine zT 25 ?_;refine zT 26 ?_;refine zT 27 ?_;refine zT 28 ?_;refine zD ?_;go_wp2_with fail;go_ret2;exact ⟨y,rfl,HC.o.zP [2,2,2] |>.tail.tail.tail⟩
 
def Dv (s:PS) (nm:Aa) (pw:ByteArray):Aa×PS:=s.text pw.data.toList nm
def Gk (s:PS) (nm:Aa) (pw:ByteArray) (now seq:Nat):Aa×PS:=(Dv s nm pw).2.shut (Dv s nm pw).1 1 (As 5 [.n now,.n seq])
def G9 (s:PS) (nm:Aa) (pw:ByteArray) (now seq:Nat):Aa×PS:=(Gk s nm pw now seq).2.fresh
theorem A0A (a b:Nat):(As 5 [.n a,.n b]).length<=100:=by
 have:=L4 5 [.n a,.n b];generalize As 5 [.n a,.n b]=P at*;simp [N6] at this;omega
theorem Te (q:Nat) (s:PS) (k:Aa) (u a b:Nat) (l:List Res) (w:aW) (h:Ad w (pvR q s::l)) (hk:k.length=16) (hu:u<100) (hs:s.sz<1099511627776) (ha:a<=1099511627776) (hb:b<=1099511627776): aX aA 83 #[pvV s q,A1 k,.int .i64 u,.iface 130 (.agg #[.int .i64 (a:Int),.int .i64 (b:Int)])] w (V1 q s k u (As 5 [.n a,.n b]) l):=
 Jc q s k u _ (Ev 5 [.n a,.n b]) _ l w h hk hu hs (λ W _=>A0O a b W ha hb) (A3j (by
  intro f hf;simp only [aD,aE,or_false] at hf;rcases hf with rfl | rfl
  . exact ha
  . exact hb)) (Xs (by decide) (by decide) (aH (A0A a b) (by decide))) (aH (A0A a b) (by decide))
def Cli.logged (c:Cli) (k:Aa) (no:Nat):Cli:=c.sent.begun 1 ⟨#[107,100,99]⟩ k (no:Int)
def Nv (cp q st:Nat) (s:PS) (c:Cli) (nm:Aa) (pw:ByteArray) (now un:Nat) (l:List Res) (e:Ending) (w':aW):Prop:=
 ∃y,e=.returned (.tuple #[.agg #[.string (tx nm),.int .i64 (Fo (G9 s nm pw now (c.seq+1)).1:Int),.int .i64 (un:Int),y],.int .i64 0])/\
  Ad w' (.row y (Gk s nm pw now (c.seq+1)).1::Bd cp s.knd q st (c.logged (Dv s nm pw).1 (Fo (G9 s nm pw now (c.seq+1)).1))::pvR q (G9 s nm pw now (c.seq+1)).2::l)
theorem PS.text_len {q:Nat} {s:PS} {a b:Aa} {l:List Res} {w:aW} (h:Ad w (pvR q s::l)):(s.text a b).1.length=16:=by
 cases s with
 | sym s=>
  simp only [PS.text,PS.lift];obtain ⟨x,hx⟩:=Cc.1 h;exact Ob hx.1.1 _
theorem Lc (a b:Nat):Tryz.prog.built 130 [(0,.int .i64 (a:Int)),(1,.int .i64 (b:Int))]=some #[.int .i64 (a:Int),.int .i64 (b:Int)]:=by kernel_rfl
theorem Ym (n:ByteArray) (x y:Int) (a:Option Addr) (m c:Nat):Tryz.prog.built 104 [(0,.string n),(1,.int .i64 x),(2,.int .i64 y),(3,.slice a m c)]=some #[.string n,.int .i64 x,.int .i64 y,.slice a m c]:=by kernel_rfl
def A8M:List aV:= [.string ⟨#[]⟩,.int .i64 0,.int .i64 0,.slice none 0 0]
theorem Lu (cp q st:Nat) (s:PS) (c:Cli) (nm:Aa) (pw:ByteArray) (now un:Nat) (l:List Res) (w:aW) (h:Ad w (Bd cp s.knd q st c::pvR q s::l)) (hs:s.sz<1099511627000) (hnm:c.nm=tx nm) (hnl:nm.length<=200) (hpw:pw.size<=1000) (hck:c.key.length=16) (hnow:now<=1099511627776) (hseq:c.seq<1099511627776): aX aA 35 #[.pointer (some ⟨cp,0,none⟩),.int .i64 (now:Int),.string pw,.int .i64 (un:Int)] w (Nv cp q st s c nm pw now un l):=by
 have hkl:(Dv s nm pw).1.length=16:=PS.text_len h.tail;have hkn1:(Dv s nm pw).2.knd=s.knd:=PS.knd_text _ _ _;have hs1:(Dv s nm pw).2.sz<1099511627500:=by have:=(PS.gr_text s pw.data.toList nm).sz; unfold Dv; omega
 have HTX:Hq (∀(W:aW) (l:List Res),Ad W (pvR q s::l)->aX aA (Io s) #[.pointer (some ⟨q,0,none⟩),.string pw,.string (tx nm)] W λ e w'=>e=.returned (A1 (Dv s nm pw).1)/\Ad w' (pvR q (Dv s nm pw).2::l)):=Ab (λ W l h=>Sz q s pw (tx nm) l W h (by omega) (by rw [Dq]; omega) (by omega));unfold Nv;have hs2:(Gk s nm pw now (c.seq+1)).2.sz<1099511627600:=by have:=(PS.gr_shut (Dv s nm pw).2 (Dv s nm pw).1 1 (As 5 [.n now,.n (c.seq+1)])).sz; unfold Gk; omega
 have hkn2:(Gk s nm pw now (c.seq+1)).2.knd=s.knd:=(PS.knd_shut _ _ _ _).trans hkn1;have hpv1:pvV (Dv s nm pw).2 q=pvV s q:=by rw [<-Bf hkn1,<-Bf rfl]
 have hpv2:pvV (Gk s nm pw now (c.seq+1)).2 q=pvV s q:=by rw [<-Bf hkn2,<-Bf rfl]
 have HSL:Hq (∀(W:aW) (l:List Res),Ad W (pvR q (Dv s nm pw).2::l)->aX aA 83 #[pvV s q,A1 (Dv s nm pw).1,.int .i64 1,.iface 130 (.agg #[.int .i64 (now:Int),.int .i64 ((c.seq+1:Nat):Int)])] W (V1 q (Dv s nm pw).2 (Dv s nm pw).1 1 (As 5 [.n now,.n (c.seq+1)]) l)):=Ab (λ W l h=>by rw [<-hpv1]; exact Te q _ _ 1 now (c.seq+1) l W h hkl (by decide) (by omega) hnow (by omega));have HNU:Hq (∀(W:aW) (l:List Res),Ad W (pvR q (Gk s nm pw now (c.seq+1)).2::l)->aX aA 85 #[pvV s q] W λ e w'=>e=.returned (.int .i64 (Fo (G9 s nm pw now (c.seq+1)).1:Int))/\Ad w' (pvR q (G9 s nm pw now (c.seq+1)).2::l)):=Ab (λ W l h=>by rw [<-hpv2]; exact K0 q _ l W h (by omega));unfold V1 at HSL;change Hq (∀(W:aW) (l:List Res),_->aX _ _ _ _ λ e w'=>∃y,_/\Ad w' (.row y (Gk s nm pw now (c.seq+1)).1::pvR q (Gk s nm pw now (c.seq+1)).2::l)) at HSL;generalize Dv s nm pw=x1 at*;generalize Gk s nm pw now (c.seq+1)=x2 at*;generalize G9 s nm pw now (c.seq+1)=x3 at*;obtain ⟨k1,s1⟩:=x1;obtain ⟨bx,s2⟩:=x2;obtain ⟨k3,s3⟩:=x3;simp only at*;obtain ⟨sq,hsq⟩:∃x,x=c.seq+1:=⟨_,rfl⟩
 have wxx:aY.i64.wrap ((c.seq:Int)+1)=(sq:Int):=by rw [aY.wrap_i64,hsq]; omega
 have WX:=Ab wxx;have HSQ:Hq ((c.cells s.knd q st).set 3 (.int .i64 (sq:Int))=c.sent.cells s.knd q st):=Ab (by rw [hsq]; rfl);clear wxx;have HK1:Hq ((Ae k1).length=16):=Ab (by rw [Ac,hkl]);have HBG:=Ab (λ (W:aW) (l:List Res) (c':Cli) (hc':c'.key.length=16) (h:Ad W (Bd cp s.knd q st c'::l))=>Lt cp s.knd q st c' 1 ⟨#[107,100,99]⟩ k1 (Fo k3:Int) l W h hc' hkl);have HCK:=Ab hck;have h0c:(c.cells s.knd q st)[0]?=some (.iface (pvT s) (.pointer (some ⟨q,0,none⟩))):=by show some (pvI s.knd q)=_; rw [Bf rfl]; rfl
 have h1c:(c.cells s.knd q st)[1]?=some (.string (tx nm)):=by rw [<-hnm]; rfl
 have HC0:=Ab h0c;have HS3:Hq ((c.sent.cells s.knd q st)[3]?=some (.int .i64 (sq:Int))):=Ab (by rw [hsq]; rfl);rw [<-hsq] at HSL;have HC1:=Ab h1c;have HC:=Ab h;have g1:=λ j a w=>Fy s j a "Text" (by simp) w
 have g2:=λ j a w=>A3e s j a w
 have g3:∀(args:Array aV) (w:aW),(callFunc (Io s) args).run aA w=.ok (.enter (Io s) args) w:=A2P s
 have HCL:Hq ((c.cells s.knd q st).length=27):=Ab (Cli.cells_length c _ _ _ hck);have HSL0:Hq ((c.sent.cells s.knd q st)[0]?=some (.iface (pvT s) (.pointer (some ⟨q,0,none⟩)))):=Ab h0c;have HG0:Hq (((c.sent.begun 1 ⟨#[107,100,99]⟩ k1 (Fo k3:Int)).cells s.knd q st)[0]?=some (.iface (pvT s) (.pointer (some ⟨q,0,none⟩)))):=Ab h0c;have HG1:Hq (((c.sent.begun 1 ⟨#[107,100,99]⟩ k1 (Fo k3:Int)).cells s.knd q st)[1]?=some (.string (tx nm))):=Ab (by rw [<-hnm]; rfl);have HG5:Hq (((c.sent.begun 1 ⟨#[107,100,99]⟩ k1 (Fo k3:Int)).cells s.knd q st)[5]?=some (.int .i64 (Fo k3:Int))):=Ab rfl;unfold Cli.logged;have HB:=Ab Lc;obtain ⟨CC,hCC⟩:∃x,x=c.cells s.knd q st:=⟨_,rfl⟩
 unfold Bd at HC;rw [<-hCC] at HC HC0 HC1 HCL HSQ;have HC3:Hq (CC[3]?=some (.int .i64 (c.seq:Int))):=Ab (by rw [hCC]; rfl);clear h hs hnm hnl hpw hck hnow hseq hkl hkn1 hs1 hs2 hkn2 hpv1 hpv2 h0c h1c hCC hsq;unfold Bd at*;unfold pvV A1 at*;go_enter Tryz.func35,Tryz.ntmps35;go_upto_region 0 with fail;refine An ?_;refine Af (λ K hK=>?_);refine zNp _ 104 HC.o ?_;intro b8 w1 HC;refine zqp hK ?_;clear hK K;refine zV ?_;refine wpList_nil ?_;go_upto_region 1 with fail;go_cut [10] from 13 to 25 (λ v10 wx=>∃b10,v10=.pointer (some ⟨b10,0,none⟩)/\Ad wx (.blk (b10) (Ae k1) 46::pvR q s1::.blk (b8) [.string ⟨#[]⟩,.int .i64 0,.int .i64 0,.slice none 0 0] 104::.blk (cp) CC 101::l))
 case first=>
  refine zG (λ b W=>W.cell? ⟨cp,0,none⟩=some (.iface (pvT s) (.pointer (some ⟨q,0,none⟩)))/\W.cell? ⟨cp,1,none⟩=some (.string (tx nm))) HC.o λ W hc=>?_
  have HC:=Ab hc;clear hc;refine zT 0 ?_;refine zT 1 ?_;refine zT 2 ?_;refine zT 3 ?_;refine zT 4 ?_;refine zT 5 ?_;refine zT 6 ?_;refine zT 7 ?_;refine zT 8 ?_;refine zT 9 ?_;refine zT 10 ?_;refine Ca (rs:= [11,12]) (by decide+kernel) (by simp) ?_;refine zC (λ K hK=>?_) (zC (λ K hK=>?_) En)
  . go_simp;refine (HTX.o _ _ (HC.o.zP [2])).mono ?_;rintro e w2 ⟨rfl,hc⟩;have HC:=Ab hc;clear hc;refine zq hK ?_;clear hK K;refine zJ 12 λ K hK=>?_
    refine zNp Bo 46 HC.o ?_;intro b10 w3 HC;refine zq hK ?_;clear hK K;refine zJ 13 λ K hK=>?_
    refine zWo Aq (Al _) HC.o ?_ (hm:=HK1.o);intro w4 HC;refine zq hK ?_;clear hK K;refine zD ?_;go_wp2_with fail;go_meet;exact ⟨_,rfl,HC.o⟩
  . refine zNp Bo 46 HC.o ?_;intro b10 w5 HC;refine zq hK ?_;clear hK K;refine zJ 11 λ K hK=>?_
    go_simp;refine (HTX.o _ _ (HC.o.zP [3])).mono ?_;rintro e w6 ⟨rfl,hc⟩;have HC:=Ab hc;clear hc;refine zq hK ?_;clear hK K;refine zJ 13 λ K hK=>?_
    refine zWo Aq (Al _) (HC.o.zP [1]) ?_ (hm:=HK1.o);intro w7 HC;refine zq hK ?_;clear hK K;refine zD ?_;go_wp2_with fail;go_meet;exact ⟨_,rfl,HC.o⟩
 case rest=>
  obtain ⟨b10,rfl,hc⟩:=hcut;have HC:=Ab hc;clear hc;go_upto_region 2 with fail;refine An ?_;(iterate 3 refine zV ?_);refine zL ?_;refine zV ?_ (v:=.int .i64 (sq:Int)) (hr:=by have:=WX.o; go_simp);(iterate 2 refine zV ?_);refine Af (λ K hK=>?_);refine Tg rfl (.tmp 31) (.tmp 29) (Pe.mk (by kernel_rfl)) rfl rfl (v:=.int .i64 (sq:Int)) rfl ((HC.o.zP [3]).blk0) (by rw [HCL.o]; decide) rfl ?_;intro w8 hd kd;have h5:=(HC.o.zP [3]).st1 hd kd;clear hd kd;obtain ⟨X9,hX9⟩:∃x,x=(CC:List aV).set 3 (.int .i64 (sq:Int)):=⟨_,rfl⟩
  rw [<-hX9] at h5;have HC:=Ab h5;clear h5;have HX9:=Ab hX9;have X9_0:Hq (X9[0]?=some (.iface (pvT s) (.pointer (some ⟨q,0,none⟩)))):=Ab (by rw [hX9,aK (by decide)]; exact HC0.o);have X9_1:Hq (X9[1]?=some (.string (tx nm))):=Ab (by rw [hX9,aK (by decide)]; exact HC1.o);have X9_3:Hq (X9[3]?=some (.int .i64 (sq:Int))):=Ab (by rw [hX9,List.getElem?_set_self (by rw [HCL.o]; decide)]);have X9_l:=Ab (show X9.length=27 by rw [hX9,List.length_set]; exact HCL.o);clear hX9;refine zqp hK ?_;clear hK K;refine wpList_nil ?_;have h5:=HC.o;rw [HX9.o,HSQ.o] at h5;have HC:=Ab h5;clear h5 HX9;go_upto_region 3 with fail;refine zG (λ b W=>W.cell? ⟨cp,0,none⟩=some (.iface (pvT s) (.pointer (some ⟨q,0,none⟩)))/\Ao W (b10) 0 (Ae k1)/\W.cell? ⟨cp,3,none⟩=some (.int .i64 (sq:Int))) HC.o λ W hc=>?_
  have HC:=Ab hc;clear hc;refine zT 0 ?_;refine zT 1 ?_;refine zT 2 ?_;refine zT 3 ?_;refine zT 4 ?_ (hr:=λ _ _ _ hW=>ldJ Aq rfl HK1.o hW.2.1);refine zT 5 ?_;refine zT 6 ?_;refine zT 7 ?_;refine zT 8 ?_;refine zT 9 ?_;refine zT 10 ?_ (v:=.agg #[.int .i64 (now:Int),.int .i64 (sq:Int)]) (hr:=λ l W hk hW=>Gh (by simp only [aG,aB,aC]; rfl) (HB.o now sq) W);refine zT 11 ?_;refine zJ 12 λ K hK=>?_
  go_simp;refine (HSL.o _ _ (HC.o.zP [2])).mono ?_;rintro e w10 ⟨y,rfl,hc⟩;obtain ⟨ya,yc,rfl,_,_⟩:=(hc.rowOf (v:=y) (b:=bx) (by simp)).form;have HC:=Ab hc;clear hc;refine zq hK ?_;clear hK K;refine zT 13 ?_;refine zT 14 ?_;refine zT 15 ?_;refine zT 16 ?_;refine zT 17 ?_;refine zD ?_;go_upto_region 6 with fail;refine zG (λ b W=>Ao W (b10) 0 (Ae k1)/\W.cell? ⟨cp,0,none⟩=some (.iface (pvT s) (.pointer (some ⟨q,0,none⟩)))) HC.o λ W hc=>?_
  have HC:=Ab hc;clear hc;refine zT 0 ?_;refine zT 1 ?_ (hr:=λ _ _ _ hW=>ldJ Aq rfl HK1.o hW.1);refine zT 2 ?_;refine zT 3 ?_;refine zT 4 ?_;refine zT 5 ?_;refine zJ 6 λ K hK=>?_
  go_simp;refine (HNU.o _ _ (HC.o.zP [1])).mono ?_;rintro e w11 ⟨rfl,hc⟩;have HC:=Ab hc;clear hc;refine zq hK ?_;clear hK K;refine zJ 7 λ K hK=>?_
  go_simp;refine (HBG.o _ _ c.sent HCK.o (HC.o.zP [2])).mono ?_;rintro e w12 ⟨rfl,hc⟩;have HC:=Ab hc;clear hc;refine zq hK ?_;clear hK K;refine zD ?_;go_upto_region 7 with fail;refine zG (λ b W=>W.cell? ⟨cp,1,none⟩=some (.string (tx nm))/\W.cell? ⟨cp,5,none⟩=some (.int .i64 (Fo k3:Int))) HC.o λ W hc=>?_
  have HC:=Ab hc;clear hc;refine zT 0 ?_;refine zT 1 ?_;refine zT 2 ?_;refine zT 3 ?_;refine zT 4 ?_;refine zT 5 ?_;refine zT 6 ?_;refine zT 7 ?_;refine zT 8 ?_;refine zT 9 ?_;refine zT 10 ?_ (v:=.agg #[.string (tx nm),.int .i64 (Fo k3:Int),.int .i64 (un:Int),.slice ya bx.length yc]) (hr:=λ l W hk hW=>Gh (by simp only [aG,aB,aC]; rfl) (Ym _ _ _ _ _ _) W);refine zJ 11 λ K hK=>?_
  refine zW Fg (HC.o.zP [4]) ?_;intro w13 HC;refine zq hK ?_;clear hK K;refine zT 12 ?_;refine zD ?_;go_wp2_with fail;have HC:=Ab (HC.o);exact bodyPost_ret (Ap rfl Fg rfl rfl HC.o.blk0.cellsAll) rfl ⟨_,rfl,(HC.o.zP [0,3,2]).tail.tail⟩
def N2 (d:CrD) (y:aV):Cr:=⟨d.1,y,d.2.1,d.2.2.1,d.2.2.2.1,d.2.2.2.2.1,d.2.2.2.2.2⟩
def crC (d:CrD) (y:aV):List aV:=(N2 d y).cells
def A2V (s:ByteArray) (o:Option CrD):Bool:=match o with
 | some c=>decide (c.1=s)
 | none=>false
def A7e (D:List (Option CrD)):Int:=match D.findIdx? (λ o=>o.isNone) with
 | some i=>i
 | none=> -1
def Nl (D:List (Option CrD)) (s:ByteArray):Int:=match D.findIdx? (A2V s) with
 | some i=>i
 | none=>A7e D
theorem Vg (L:List (Option Cr)) (s:ByteArray):Dy L s=Nl (L.map λ c=>c.map Cr.dat) s:=by
 unfold Dy Nl Gv A7e;rw [aS,aS];have h1:(A2V s∘λ c:Option Cr=>c.map Cr.dat)=G7 s:=by
  funext o
  cases o
  . rfl
  . rfl
 have h2:((λ o:Option CrD=>o.isNone)∘λ c:Option Cr=>c.map Cr.dat)=λ o=>o.isNone:=by
  funext o
  cases o <;> rfl
 rw [h1,h2];rfl
def Fp (D:List (Option CrD)) (d:CrD):List (Option CrD)×Int:=
 if Nl D d.1<0 then (D,8) else (D.set (Nl D d.1).toNat (some d),0)
def Ja (D:List (Option CrD)) (s:ByteArray):Option CrD:=if Nl D s<0 then none else D.getD (Nl D s).toNat none
theorem A5p (L:List (Option Cr)) (c:Cr):(Xg L c).1.map (λ c=>c.map Cr.dat)=(Fp (L.map λ c=>c.map Cr.dat) c.dat).1/\(Xg L c).2=(Fp (L.map λ c=>c.map Cr.dat) c.dat).2:=by
 unfold Xg Fp;rw [Vg];have hd:c.dat.1=c.srv:=rfl;rw [hd];split
 . rename_i h;exact ⟨rfl,rfl⟩
 . rename_i h;exact ⟨by simp [List.map_set],rfl⟩
theorem Tb (L:List (Option Cr)) (s:ByteArray):(Hp L s).map Cr.dat=Ja (L.map λ c=>c.map Cr.dat) s:=by
 unfold Hp Ja;rw [Vg];split
 . rfl
 . simp only [List.getD_eq_getElem?_getD,List.getElem?_map]
   cases L[(Nl (L.map λ c=>c.map Cr.dat) s).toNat]? <;> rfl
def Fv (D:List (Option CrD)):Prop:=∀x,some x∈D->x.2.1.length<=140737488351232
theorem Ad.turnAt {W W':aW} {r r':Res} {l:List Res} {F1 F2 F':Nat->Prop} (h1:r.holds W F1) (h2:(Res.all l).holds W F2) (h3:∀b,F1 b->F2 b->False) (g1:r'.holds W' F') (g2:∀b,F' b->F1 b\/W.heap.size<=b) (g3:Ai (λ b=>F1 b\/W.heap.size<=b) W W'):Ad W' (r'::l):=by
 refine Ad.cons.2 ⟨F',F2,g1,(Res.all l).frame h2 g3 ?_,?_⟩
 . rintro b hb (hc | hc)
   . exact h3 b hc hb
   . have:=(Res.all l).lt h2 hb;omega
 . intro b hb hc;rcases g2 b hb with h | h
   . exact h3 b h hc
   . have:=(Res.all l).lt h2 hc;omega
def Hd (X:Res) (y:aV) (b:Aa):Prop:=∀W F,X.holds W F->Bs W y b/\(0<b.length->∀k,y.ownBlock=some k->F k)
theorem P9 (y:aV) (b:Aa):Hd (.row y b) y b:=λ W F h=>⟨h.1,λ hp k hk=>(h.2.2 k).2 ⟨hp,hk⟩⟩
theorem Hd.bs {X:Res} {y:aV} {b:Aa} (hX:Hd X y b) {W:aW} {l:List Res} (h:Ad W (X::l)):Bs W y b:=by
 obtain ⟨F1,F2,h1,_,_⟩:=Ad.cons.1 h;exact (hX _ _ h1).1
theorem Wh (p:Nat) (D:List (Option CrD)) (d:CrD) (y:aV) (X:Res) (hX:Hd X y d.2.1) (l:List Res) (w:aW) (h:Ad w (Aw p D::X::l)) (hk:d.2.2.1.length=16) (hbl:d.2.1.length<=140737488351232): aX aA 152 #[.pointer (some ⟨p,0,none⟩),.agg (crC d y).toArray] w λ e w'=>e=.returned (.int .i64 (Fp D d).2)/\Ad w' (Aw p (Fp D d).1::X::l):=by
 obtain ⟨F1,F2,h1,h2,h3⟩:=Ad.cons.1 h;obtain ⟨G1,G2,g1,g2,g3,g4⟩:=h2;obtain ⟨⟨L,rfl,hst⟩,hlt⟩:=h1;have hFp:F1 p:=hst.1;have hx:=hX _ _ g1;refine (Y0 F1 p L (N2 d y) w hst hk hx.1 hbl ?_).mono ?_
 . by_cases e:d.2.1= []
   . exact .inl e
   . exact .inr λ e2=>h3 p hFp ((g4 p).2 (.inl (hx.2 (List.length_pos_iff.2 e) p e2)))
 . rintro e w' ⟨c',hc,rfl,hs,hkp⟩;obtain ⟨e1,e2⟩:=A5p L c';have hd:c'.dat=d:=hc;rw [hd] at e1 e2;rw [e2];have H1:(Aw p (L.map λ c=>c.map Cr.dat)).holds w F1:=⟨⟨L,rfl,hst⟩,hlt⟩;have H2:(Res.all (X::l)).holds w F2:=⟨G1,G2,g1,g2,g3,g4⟩;have H3:(Aw p (Fp (L.map λ c=>c.map Cr.dat) d).1).holds w' (λ j=>(F1 j\/w.heap.size<=j)/\j<w'.heap.size):=⟨⟨_,e1,hs.tight⟩,λ b hb=>hb.2⟩;have H4:Ai (λ b=>F1 b\/w.heap.size<=b) w w':=hkp.mono λ k hk=>by
    rcases hk with rfl | hk
    . exact .inl hFp
    . exact .inr hk
   exact ⟨rfl,Ad.turnAt H1 H2 h3 H3 (λ b hb=>hb.1) H4⟩
theorem Hw (p:Nat) (D:List (Option CrD)) (now:Int) (sv:ByteArray) (d:CrD) (l:List Res) (w:aW) (h:Ad w (Aw p D::l)) (hf:Fv D) (hs:Ja D sv=some d) (hn:now<d.2.2.2.2.1): aX aA 39 #[.pointer (some ⟨p,0,none⟩),.int .i64 now,.string sv] w λ e w'=>∃y,e=.returned (.tuple #[.agg (crC d y).toArray,.int .i64 0])/\Ad w' (.row y d.2.1::Aw p D::l)/\d.2.2.1.length=16:=by
 obtain ⟨F1,F2,h1,h2,h3⟩:=Ad.cons.1 h;obtain ⟨⟨L,rfl,hst⟩,hlt⟩:=h1;refine (Pm F1 p L now sv w hst λ c hc=>hf c.dat (List.mem_map.2 ⟨some c,hc,rfl⟩)).mono ?_;rintro e w' ⟨c',er,rfl,⟨hk,hb,ho,_,hm⟩,hbl⟩;rw [<-Tb] at hs
 cases hq:Hp L sv with
 | none=>rw [hq] at hs; cases hs
 | some c=>
  rw [hq] at hs hm;simp only [Option.map_some,Option.some.injEq] at hs;have hfin:¬c.fin<=now:=by
   have:d.2.2.2.2.1=c.fin:=by rw [<-hs]; rfl
   omega
  simp only [] at hm;rw [if_neg hfin] at hm;obtain ⟨hm,rfl⟩:=hm;rw [hs] at hm;obtain rfl:c'.dat=d:=hm;exact ⟨c'.bv,rfl,h.addRow hbl hb (λ k _ hk=>(ho k hk).1),hk⟩
theorem A1m (n:ByteArray) (a:Option Addr) (b:Aa) (cp:Nat) (k:Aa) (h:k.length=16) (x y z:Int):Tryz.prog.built 116 [(0,.agg #[.string n,.slice a b.length cp]),(1,.agg (Ae k).toArray),(2,.int .i64 x),(3,.int .i64 y),(4,.int .i64 z)]=some (crC (n,b,k,x,y,z) (.slice a b.length cp)).toArray:=by
 obtain ⟨c0,c1,c2,c3,c4,c5,c6,c7,c8,c9,c10,c11,c12,c13,c14,c15,rfl⟩:=By k h
 kernel_rfl
theorem Cli.cells_key (c:Cli) (b:Bool) (q st:Nat) (h:c.key.length=16):((c.cells b q st).drop 7).take 16=Ae c.key:=by
 simp [Cli.cells,aT,aU,Ac,h]
def Ins.cr (i:Ins) (sv tb:Aa):CrD:=(tx sv,tb,i.key,(i.fl:Int),(i.un:Int),(i.rn:Int))
theorem M8 (cp q st:Nat) (s:PS) (c:Cli) (D:List (Option CrD)) (i:Ins) (no u:Nat) (sv:Aa) (tv rv:aV) (tb rb:Aa) (X:Res) (hX:Hd X tv tb) (l:List Res) (w:aW) (h:Ad w (Bd cp s.knd q st c::Aw st D::pvR q s::X::l)) (hs:s.sz<1099511627776) (hck:c.key.length=16) (hi:i.Ok) (hu:u<100) (hno:no<=1099511627776) (hcn:c.no=(no:Int)) (hsv:sv.length<=200) (hsr:Au (tx sv)=true) (hpal:c.pal=tx sv) (hrv:∀W,Ad W (X::l)->Bs W rv rb) (ho:s.Opn c.key u rb (As 3 (i.rep no sv))) (htb:tb.length<=100000) (hput:(Fp D (i.cr sv tb)).2=0): aX aA 89 #[.pointer (some ⟨cp,0,none⟩),.agg #[.string (tx sv),tv],rv,.int .i64 u] w λ e w'=>e=.returned (.int .i64 0)/\Ad w' (Bd cp s.knd q st c.ended::Aw st (Fp D (i.cr sv tb)).1::pvR q s::X::l):=by
 have HOPN:Hq (∀(w:aW) (l:List Res) (h:Ad w (pvR q s::l)) (hv:∀W,Ad W l->Bs W rv rb),aX aA 151 #[pvV s q,A1 c.key,.int .i64 u,rv] w λ e w'=>e=.returned (.tuple #[.agg (i.repC no sv).toArray,.int .i64 0])/\Ad w' (pvR q s::l)):=
  Ab (λ w l h hv=>A2v q s c.key u rb rv i.fl i.key no sv i.fr i.un i.rn l w h hck hu hs ho hv hi.fl hi.key hno hsr hi.fr hi.un hi.rn (aH (hi.repLen no hsv) (by decide)))
 have HPUT:=Ab (λ (w:aW) (l:List Res) (h:Ad w (Aw st D::X::l))=>Wh st D (i.cr sv tb) tv X hX l w h hi.key (aH htb (by decide)));rw [hput] at HPUT;have HEND:=Ab (λ (w:aW) (l:List Res) (h:Ad w (Bd cp s.knd q st c::l))=>N9 cp s.knd q st c l w h hck);have HRV:=Ab hrv;obtain ⟨ta,tc,rfl,_,_⟩:=(hX.bs h.tail.tail.tail).form;obtain ⟨RC,hRC⟩:∃x,x=i.repC no sv:=⟨_,rfl⟩
 rw [<-hRC] at HOPN;have HRL:Hq (RC.length=22):=Ab (by rw [hRC]; exact Ins.repC_length hi no sv);have HRO:Hq (∀u∈RC,u.oneCell'=true):=Ab (by rw [hRC]; exact Ins.repC_one i no sv);have HR0:Hq (RC[0]?=some (.int .i64 (i.fl:Int))):=Ab (by rw [hRC]; rfl);have HRK:Hq ((RC.drop 1).take 16=Ae i.key):=Ab (by rw [hRC]; simp [Ins.repC,aT,aU,Ac,hi.key]);have HR17:Hq (RC[17]?=some (.int .i64 (no:Int))):=Ab (by rw [hRC]; simp [Ins.repC,aL,Ac,hi.key]);have HR18:Hq (RC[18]?=some (.string (tx sv))):=Ab (by rw [hRC]; simp [Ins.repC,aL,Ac,hi.key]);have HR20:Hq (RC[20]?=some (.int .i64 (i.un:Int))):=Ab (by rw [hRC]; simp [Ins.repC,aL,Ac,hi.key]);have HR21:Hq (RC[21]?=some (.int .i64 (i.rn:Int))):=Ab (by rw [hRC]; simp [Ins.repC,aL,Ac,hi.key]);have HIK:Hq ((Ae i.key).length=16):=Ab (by rw [Ac,hi.key]);have HCK:Hq ((Ae c.key).length=16):=Ab (by rw [Ac,hck]);have HBC:=Ab (λ (a:Option Addr) (cp:Nat)=>A1m (tx sv) a tb cp i.key hi.key (i.fl:Int) (i.un:Int) (i.rn:Int));have h0c:(c.cells s.knd q st)[0]?=some (.iface (pvT s) (.pointer (some ⟨q,0,none⟩))):=by show some (pvI s.knd q)=_; rw [Bf rfl]; rfl
 have HC0:=Ab h0c;have HC2:Hq ((c.cells s.knd q st)[2]?=some (.pointer (some ⟨st,0,none⟩))):=Ab rfl;have HC5:Hq ((c.cells s.knd q st)[5]?=some (.int .i64 (no:Int))):=Ab (by rw [<-hcn]; rfl);have HC6:Hq ((c.cells s.knd q st)[6]?=some (.string (tx sv))):=Ab (by rw [<-hpal]; rfl);have HC7:=Ab (Cli.cells_key c s.knd q st hck);have HCL:=Ab (Cli.cells_length c s.knd q st hck);have HC:=Ab h;clear h hs hck hi hu hno hcn hsv hsr hpal hrv ho htb hput hRC h0c hX;unfold Bd at*;unfold pvV A1 at*;unfold Ins.cr at*;obtain ⟨CC,hCC⟩:∃x,x=c.cells s.knd q st:=⟨_,rfl⟩
 rw [<-hCC] at HC HC0 HC2 HC5 HC6 HC7 HCL HEND;clear hCC;go_enter Tryz.func89,Tryz.ntmps89;go_upto_region 0 with fail;refine An ?_;refine Af (λ K hK=>?_);refine zNp _ 108 HC.o ?_;intro b5 w1 HC;refine zqp hK ?_;clear hK K;refine zV ?_;refine wpList_nil ?_;go_upto_region 1 with fail;go_cut [9,10] from 11 to 25 (λ v9 v10 wx=>∃b9,v9=.pointer (some ⟨b9,0,none⟩)/\v10=.int .i64 0/\Ad wx (.blk (b9) RC 307::pvR q s::.blk (b5) [.string (tx sv),.slice ta tb.length tc] 108::.blk (cp) CC 101::Aw st D::X::l))
 case first=>
  refine zG (λ b W=>W.cell? ⟨cp,0,none⟩=some (.iface (pvT s) (.pointer (some ⟨q,0,none⟩)))/\Ao W (cp) 7 (Ae c.key)) HC.o λ W hc=>?_
  have HC:=Ab hc;clear hc;refine zT 0 ?_;refine zT 1 ?_;refine zT 2 ?_;refine zT 3 ?_;refine zT 4 ?_;refine zT 5 ?_;refine zT 6 ?_;refine zT 7 ?_ (hr:=λ _ _ _ hW=>ldJ Aq rfl HCK.o hW.2);refine zT 8 ?_;refine zT 9 ?_;refine Ca (rs:= [10,14]) (by decide+kernel) (by simp) ?_;refine zC (λ K hK=>?_) (zC (λ K hK=>?_) En)
  . go_simp;refine (HOPN.o _ _ (HC.o.zP [3]) (λ W hW=>HRV.o W hW.tail.tail.tail)).mono ?_;rintro e w2 ⟨rfl,hc⟩;have HC:=Ab hc;clear hc;refine zq hK ?_;clear hK K;refine zT 11 ?_;refine zT 12 ?_;refine zT 13 ?_;refine zJ 14 λ K hK=>?_
    refine zNp A2C 307 HC.o ?_;intro b9 w3 HC;refine zq hK ?_;clear hK K;refine zJ 15 λ K hK=>?_
    refine zWo Hv HRO.o HC.o ?_ (hm:=HRL.o);intro w4 HC;refine zq hK ?_;clear hK K;refine zT 16 ?_;refine zD ?_;go_wp2_with fail;go_meet;exact ⟨_,rfl,rfl,HC.o⟩
  . refine zNp A2C 307 HC.o ?_;intro b9 w5 HC;refine zq hK ?_;clear hK K;refine zJ 10 λ K hK=>?_
    go_simp;refine (HOPN.o _ _ (HC.o.zP [4]) (λ W hW=>HRV.o W hW.tail.tail.tail.tail)).mono ?_;rintro e w6 ⟨rfl,hc⟩;have HC:=Ab hc;clear hc;refine zq hK ?_;clear hK K;refine zT 11 ?_;refine zT 12 ?_;refine zT 13 ?_;refine zJ 15 λ K hK=>?_
    refine zWo Hv HRO.o (HC.o.zP [1]) ?_ (hm:=HRL.o);intro w7 HC;refine zq hK ?_;clear hK K;refine zT 16 ?_;refine zD ?_;go_wp2_with fail;go_meet;exact ⟨_,rfl,rfl,HC.o⟩
 case rest=>
  obtain ⟨b9,rfl,rfl,hc⟩:=hcut;have HC:=Ab hc;clear hc;go_upto_region 4 with fail;refine zG (λ b W=>W.cell? ⟨b9,17,none⟩=some (.int .i64 (no:Int))/\W.cell? ⟨cp,5,none⟩=some (.int .i64 (no:Int))/\W.cell? ⟨b9,18,none⟩=some (.string (tx sv))/\W.cell? ⟨cp,6,none⟩=some (.string (tx sv))/\W.cell? ⟨b5,0,none⟩=some (.string (tx sv))) HC.o λ W hc=>?_
  have HC:=Ab hc;clear hc;refine zT 0 ?_;refine zT 1 ?_;refine zT 2 ?_;refine zT 3 ?_;refine zT 4 ?_;refine zT 5 ?_;refine zT 6 ?_;refine zT 7 ?_;refine zT 8 ?_;refine zT 9 ?_;refine zT 10 ?_;refine zT 11 ?_;refine zT 12 ?_;refine zT 13 ?_;refine zT 14 ?_;refine zT 15 ?_;refine zT 16 ?_;refine zT 17 ?_;refine zT 18 ?_;refine zT 19 ?_;refine zT 20 ?_;refine zT 21 ?_;refine zT 22 ?_;refine zT 23 ?_;refine zT 24 ?_;refine zT 25 ?_;refine zD ?_;go_upto_region 6 with fail;refine zG (λ b W=>W.cell? ⟨cp,2,none⟩=some (.pointer (some ⟨st,0,none⟩))/\Ao W (b5) 0 [.string (tx sv),.slice ta tb.length tc]/\Ao W (b9) 1 (Ae i.key)/\W.cell? ⟨b9,0,none⟩=some (.int .i64 (i.fl:Int))/\W.cell? ⟨b9,20,none⟩=some (.int .i64 (i.un:Int))/\W.cell? ⟨b9,21,none⟩=some (.int .i64 (i.rn:Int))) HC.o λ W hc=>?_
  have HC:=Ab hc;clear hc;refine zT 0 ?_;refine zT 1 ?_;refine zT 2 ?_;refine zT 3 ?_;refine zT 4 ?_ (hr:=λ _ _ _ hW=>ldJ Bc rfl rfl hW.2.1);refine zT 5 ?_;refine zT 6 ?_ (hr:=λ _ _ _ hW=>ldJ Aq rfl HIK.o hW.2.2.1);refine zT 7 ?_;refine zT 8 ?_;refine zT 9 ?_;refine zT 10 ?_;refine zT 11 ?_;refine zT 12 ?_;refine zT 13 ?_ (v:=.agg (crC (tx sv,tb,i.key,(i.fl:Int),(i.un:Int),(i.rn:Int)) (.slice ta tb.length tc):List aV).toArray) (hr:=λ l W hk hW=>Gh (by simp only [aG,aB,aC]; rfl) (HBC.o ta tc) W);refine zJ 14 λ K hK=>?_
  go_simp;refine (HPUT.o _ _ (HC.o.zP [4,4])).mono ?_;rintro e w8 ⟨rfl,hc⟩;have HC:=Ab hc;clear hc;refine zq hK ?_;clear hK K;refine zT 15 ?_;refine zD ?_;go_upto_region 8 with fail;refine An ?_;refine zV ?_;refine Af (λ K hK=>?_);go_simp;refine (HEND.o _ _ (HC.o.zP [5])).mono ?_;rintro e w9 ⟨rfl,hc⟩;have HC:=Ab hc;clear hc;refine zqp hK ?_;clear hK K;refine wpList_nil ?_;go_wp2_with fail;go_ret;exact ⟨rfl,(HC.o.zP [3,4,0,0,1]).tail.tail⟩
end Go.Proofs.YtcnfaghcjlhoiaaGreat
namespace Go.Proofs.YtcnfaghcjlhoiaaGreat
open Go.RowKit
theorem E8 (v:aV) (x:Tv) (b:Bool) (w:aW) (hval:aX aA 153 #[v] w (Gu w x b)) (hn:b=true->Nw x/\(Ba x).length<=1073741824): aX aA 92 #[v] w (Cx w (if b=true then wrS x else ([],7))):=by
 have HV:=Ab hval;have HN:=Ab hn;obtain ⟨r,hr⟩:∃r,r=(if b=true then wrS x else ([],7)):=⟨_,rfl⟩
 rw [<-hr];have HR:=Ab hr;clear hval hn hr;go_enter Tryz.func92,Tryz.ntmps92;go_wp2_with fail;refine HV.o.mono ?_;rintro e w1 ⟨cs,rfl,ht,hb⟩;have HT:=Ab ht;have HB:=Ab hb;have HL:=Ab ht.length;have HO:=Ab ht.one;have HN4:=Ab (Blk.new w1 zs5 314);clear ht hb HV;go_upto_region 2 with ((with_reducible refine zws 4 9 ?_);refine Ag rfl (.tmp 4) (.tmp 9) Ak rfl rfl (vs:=cs) rfl HL.o HN4.o (aF _) HO.o ?_);intro w2 h2 k2;have h2':Blk w2 w1.heap.size cs 314:=by
  rw [aI (by decide),aJ] at h2;exact h2
 have hb2:Below w1.heap.size w1 w2:=((Below.refl _ _).alloc (aF _) _).trans (k2.below (by omega));have H2:=Ab h2';have HT2:=Ab (HT.o.below hb2);have HB2:Hq (Below w.heap.size w w2):=Ab (HB.o.trans (hb2.mono HB.o.size));clear h2 k2 h2' hb2
 cases b with
 | false=>
  go_wp2_with fail;go_ret2;rw [show r=([],7) from HR.o];exact ⟨_,rfl,Own.nil _ _ _ _ _,HB2.o⟩
 | true=>
  have HWR:=Ab (M4 x _ cs w2 HT2.o (HN.o rfl).1 (λ _=>(HN.o rfl).2));go_wp2_with ((with_reducible refine zw 13 ?_);refine Aj rfl (.tmp 4) Ak rfl rfl (cs:=cs) HL.o H2.o.cellsAll ?_);refine HWR.o.mono ?_;rintro e w3 ⟨v3,rfl,hbs,hb3⟩;obtain ⟨a3,c3,rfl,_⟩:=hbs.sl.form;have HBS:Hq (Du w3 w.heap.size (.slice a3 (wrS x).1.length c3) (wrS x).1):=Ab (hbs.base HB2.o.size);have HB3:Hq (Below w.heap.size w w3):=Ab (HB2.o.trans (hb3.mono HB2.o.size));clear hbs hb3;go_wp2_with fail;go_ret2;rw [show r=wrS x from HR.o];exact ⟨_,rfl,HBS.o,HB3.o⟩
theorem Xa (F0:Nat->Prop) (l1:Aa) (l2 m2:Aa) (v2:aV) (l3:Aa) (v3:aV) (w:aW) (hz1:l1.length<=1099511627776) (hb2:Bs w v2 m2) (hz2:l2.length<=1099511627776/\m2.length<=1099511627776) (hb3:Bs w v3 l3) (hz3:l3.length<=1099511627776) (hT7:rT (l2,m2)=true): aX aA 153 #[.iface 110 (.agg #[.string (tx l1),.string (tx l2),v2,v3])] w (Gu w (.mk 2 12 0 [] ([.s l1,.i (l2,m2),.b l3].map Ho)) ([.s l1,.i (l2,m2),.b l3].all ptB)):=by
 obtain ⟨a2,c2,rfl,hc2,hm2⟩:=hb2.form;obtain ⟨a3,c3,rfl,hc3,hm3⟩:=hb3.form;have HC:Hq (VC w w.heap.size [(w.heap.size+1, [.string (tx l1),.string (tx l2),.slice a2 m2.length c2,.slice a3 l3.length c3],110)] [] [(.slice a2 m2.length c2,m2),(.slice a3 l3.length c3,l3)] ((w.alloc (.cells zs5.toArray 314)).alloc (.cells [.string (tx l1),.string (tx l2),.slice a2 m2.length c2,.slice a3 l3.length c3].toArray 110))):=Ab (VC.start (by intro r hr; simp only [aD,aE,or_false] at hr; rcases hr with rfl | rfl; exact hb2; exact hb3) _ _);have HSZ:Hq (∀u∈ [tx l1],u.size<=maxLen):=Ab (by intro u hu; simp only [aD,aE,or_false] at hu; rcases hu with rfl; exact Tj hz1);have HZ1:=Ab hz1;clear hz1;have HZ2:=Ab hz2;clear hz2;have HZ3:=Ab hz3;clear hz3;clear hb2;clear hb3;obtain ⟨z11,hta11⟩:∃z,∀W,(Instr.typeAssert (.iface 110 (.agg #[.string (tx l1),.string (tx l2),.slice a2 m2.length c2,.slice a3 l3.length c3])) 20 104 true).run aA W=.ok (.tuple #[z,.bool false]) W:=⟨_,λ W=>A9 _ _ _ _ (by kernel_rfl) Mr (.inr ⟨_,_,rfl,by decide⟩) W⟩
 have hta:∀W,(Instr.typeAssert (.iface 110 (.agg #[.string (tx l1),.string (tx l2),.slice a2 m2.length c2,.slice a3 l3.length c3])) 20 110 true).run aA W=.ok (.tuple #[.agg #[.string (tx l1),.string (tx l2),.slice a2 m2.length c2,.slice a3 l3.length c3],.bool true]) W:=λ W=>Et _ _ _ (by kernel_rfl) W
 obtain ⟨B,hB⟩:∃B,B= [.s l1,.i (l2,m2),.b l3].all ptB:=⟨_,rfl⟩
 obtain ⟨X,hX⟩:∃X:Tv,X=.mk 2 12 0 [] ([.s l1,.i (l2,m2),.b l3].map Ho):=⟨_,rfl⟩
 rw [<-hB,<-hX];have HB:=Ab hB;have HX2:=Ab hX;clear hB hX;go_enter aM,aN;go_upto_region 7 with fail;clear hta hta11;show Code.wp _ _ _ _ ((w.alloc (.cells zs5.toArray 314)).alloc (.cells [.string (tx l1),.string (tx l2),.slice a2 m2.length c2,.slice a3 l3.length c3].toArray 110))
 obtain ⟨W0,hW0⟩:∃W0,W0=(w.alloc (.cells zs5.toArray 314)).alloc (.cells [.string (tx l1),.string (tx l2),.slice a2 m2.length c2,.slice a3 l3.length c3].toArray 110):=⟨_,rfl⟩
 rw [<-hW0] at HC ⊢;clear hW0;obtain ⟨p,hp⟩:∃p,p=w.heap.size+1:=⟨_,rfl⟩
 obtain ⟨q,hq⟩:∃q,q=w.heap.size:=⟨_,rfl⟩
 rw [<-hp,<-hq] at HC ⊢;clear hp hq;have HTV1:=Ab (Fs (l2,m2) (.slice a2 m2.length c2) W0 (HC.o.rowAt 0 rfl) HZ2.o.1 HZ2.o.2);have HM1:=Ab (HC.o.blkAt 0 rfl);rw [show Au (tx (l2,m2).1)=rT (l2,m2) from rfl] at HTV1;go_wp2_with ((with_reducible refine zw 62 ?_);refine Aj rfl (.tmp 61) Bc rfl rfl (cs:= [.string (tx l2),.slice a2 m2.length c2]) rfl (HM1.o.cellsAt 1 2) ?_);refine HTV1.o.mono ?_;rintro e wa1 ⟨cs1,rfl,htv,hb⟩;have HCa1:=Ab (HC.o.step hb);have HTT1:Hq (TvF wa1 (λ b=>q<b) (C6 (l2,m2)) cs1):=Ab (htv.mono (λ b hb=>by have:=HC.o.lt; omega));have HCL1:=Ab htv.length;have HCO1:=Ab htv.one;have HN1:=Ab (Blk.new wa1 zs5 314);clear htv hb HTV1;go_upto_region 8 with ((with_reducible refine zws 6 65 ?_);refine Ag rfl (.tmp 6) (.tmp 65) Ak rfl rfl (vs:=cs1) rfl HCL1.o HN1.o (aF _) HCO1.o ?_);intro wb1 h2 k2;have h2':Blk wb1 wa1.heap.size cs1 314:=by
  rw [aI (by decide),aJ] at h2;exact h2
 have hb2:Below wa1.heap.size wa1 wb1:=((Below.refl _ _).alloc (aF _) _).trans (k2.below (by omega));have HCb1:=Ab (((HCa1.o.addTree HTT1.o).step hb2).addBlk h2' HCa1.o.lt);obtain ⟨p1,hp1⟩:∃p1,p1=wa1.heap.size:=⟨_,rfl⟩
 rw [<-hp1] at HCb1 ⊢;clear h2 k2 h2' hb2 hp1 HCa1 HTT1 HN1 HCO1;go_upto_region 8 with fail
 cases hok7:rT (l2,m2) with
 | false=>exact absurd hok7 (by rw [hT7]; decide)
 | true=>
  have HOK7:=Ab hok7;clear hok7;have HBE:Hq (B=([tx l1].all Au&& [].all Bp)):=Ab (by rw [HB.o]; simp only [aO,aP,ptB,HOK7.o,Bool.and_true,Bool.true_and,Bool.and_false,Bool.false_and,Bool.and_assoc]; first | done | ac_rfl);obtain ⟨wd,hwd⟩:∃wd,wd=aW.drew wb1:=⟨_,rfl⟩
  have hvd:VC w q [(p, [.string (tx l1),.string (tx l2),.slice a2 m2.length c2,.slice a3 l3.length c3],110),(p1,cs1,314)] [(C6 (l2,m2),cs1)] [(.slice a2 m2.length c2,m2),(.slice a3 l3.length c3,l3)] wd:=by rw [hwd]; exact HCb1.o.drew
  have HXE:Hq (X=.mk 2 12 0 [] [.mk 1 0 0 l1 [],C6 (l2,m2),.mk 1 0 0 l3 []]):=Ab HX2.o;have HR:Hq (∀W,GV (λ b=>q<b) q X wd W->VR w q [(p, [.string (tx l1),.string (tx l2),.slice a2 m2.length c2,.slice a3 l3.length c3],110),(p1,cs1,314)] [(C6 (l2,m2),cs1)] [(.slice a2 m2.length c2,m2),(.slice a3 l3.length c3,l3)] W):=Ab (λ W h=>hvd.gv h);have HZD:Hq (∀W,GV (λ b=>q<b) q X wd W->q<W.heap.size/\∀b,W.heap.size<=b->q<b):=Ab (λ W h=>⟨(HR.o W h).lt,λ b hb=>aQ (HR.o W h).lt hb⟩);have HFq:Hq (¬(λ b=>q<b) q):=Ab (aR q);have HQW:Hq (w.heap.size=q):=Ab hvd.hq.symm;clear hvd HCb1;refine wp_region_held (S:=λ W=>GV (λ b=>q<b) q X wd W) (by kernel_rfl) ?_;change wpAnyH _ _ _ _ _ _ _ _ (aW.drew _);rw [<-hwd];clear hwd;refine zH 0 ?_;refine zH 1 ?_ (hr:=λ W hW=>by have hc:=((HR.o W hW).blkAt 0 rfl).cell 0; go_simp; try rfl);refine zH 3 ?_ (v:=.agg cs1.toArray) (hr:=λ W hW=>by exact E2 rfl Ak rfl HCL1.o ((HR.o W hW).blkAt 1 rfl).cellsAll);refine zH 4 ?_;refine zH 5 ?_ (hr:=λ W hW=>by have hc:=((HR.o W hW).blkAt 0 rfl).cell 3; go_simp; try rfl);refine zH 9 ?_;refine Df (G:=GV (λ b=>q<b) q X) (Post:=L5 (λ b=>q<b) q X [.any,.any,.val (.mk 1 0 0 l1 []),.any,.any,.any,.val (.mk 1 0 0 l3 []),.vals [.mk 1 0 0 l1 [],C6 (l2,m2),.mk 1 0 0 l3 []],.val (.mk 2 12 0 [] [.mk 1 0 0 l1 [],C6 (l2,m2),.mk 1 0 0 l3 []]),.any,.is (.bool true),.is (.pointer (some ⟨p,0,none⟩)),.is (.string (tx l1)),.row [.string (tx l1)],.is (.bool ([tx l1].all Au&& [].all Bp)),.is (.bool ([tx l1].all Au&& [].all Bp)),.fin,.is (.bool ([tx l1].all Au&& [].all Bp))]) (ds:= [69,73,74,75,77,78,79,80,81,82,3]) (GV.refl _ _ _) GV.trans (λ W W' h g=>GV.trans _ _ _ h g) (λ i v W W' h g=>PK.stable HFq.o h g) [2,6,7,8,10,11,12,13,14,15,16,17] 397 rfl (by decide+kernel) (by decide+kernel) ?_ ?_ (GV.refl _ _ _ _) (by decide+kernel)
  . refine zA (λ a W hf hS hd K hK=>?_) ?_
    . have e68:a.eval (.tmp 68)=.string (tx l1):=hf.lit 68 (by decide) rfl;exact A2 (Ah rfl) rfl Dp (vs:=#[.string (tx l1)]) (by simp [e68]) (Gc l1 W HZ1.o) (HZD.o W hS).1 (HZD.o W hS).2 hK
    refine zA (λ a W hf hS hd K hK=>?_) ?_
    . have e72:a.eval (.tmp 72)=.slice a3 l3.length c3:=hf.lit 72 (by decide) rfl;exact A2 (Ah rfl) rfl Ez (vs:=#[.slice a3 l3.length c3]) (by simp [e72]) (Di _ l3 W ((HR.o W hS).rowAt 1 rfl) HZ3.o) (HZD.o W hS).1 (HZD.o W hS).2 hK
    refine zA (λ a W hf hS hd K hK=>?_) ?_
    . have d69:=(hd 2 (by decide+kernel)).get (s:=69) rfl;have e70:a.eval (.tmp 70)=.agg cs1.toArray:=hf.lit 70 (by decide) rfl;have d73:=(hd 6 (by decide+kernel)).get (s:=73) rfl;exact Dk (Ah rfl) rfl Hs (ps:= [.tmp 69,.tmp 70,.tmp 73]) rfl (l:= [.mk 1 0 0 l1 [],C6 (l2,m2),.mk 1 0 0 l3 []]) ⟨d69,⟨_,e70,(HR.o W hS).treeAt 0 rfl⟩,d73,trivial⟩ rfl (by decide) (by decide) (HZD.o W hS).1 (HZD.o W hS).2 hK
    refine zA (λ a W hf hS hd K hK=>?_) ?_
    . have d74:=(hd 7 (by decide+kernel)).get (s:=74) rfl;exact D2 (Ah rfl) rfl Dg d74 (HZD.o W hS).1 (λ v w1 h1 h2=>hK v w1 h1 h2) HFq.o
    refine zA (λ a W hf hS hd K hK=>A6 (v:=.bool true) (Ah rfl) (Ib rfl (show a.eval (.tmp 76)=.bool true from hf.lit 76 (by decide) rfl)) (hK _ _ (GV.refl _ _ _ _) rfl)) ?_;refine zA (λ a W hf hS hd K hK=>?_) ?_
    . have e77:a.eval (.tmp 77)=.bool true:=(hd 10 (by decide+kernel)).get (s:=77) rfl;have e5:a.eval (.tmp 5)=.pointer (some ⟨p,0,none⟩):=hf.lit 5 (by decide) rfl;exact A6 (v:=.pointer (some ⟨p,0,none⟩)) (A5 rfl rfl e77) (E0 rfl e5 (by go_simp)) (hK _ _ (GV.refl _ _ _ _) rfl)
    refine zA (λ a W hf hS hd K hK=>?_) ?_
    . have e77:a.eval (.tmp 77)=.bool true:=(hd 10 (by decide+kernel)).get (s:=77) rfl;have e78:a.eval (.tmp 78)=.pointer (some ⟨p,0,none⟩):=(hd 11 (by decide+kernel)).get (s:=78) rfl;have hc:W.cell? ⟨p,0,none⟩=some (.string (tx l1)):=((HR.o W hS).blkAt 0 rfl).cell 0;exact A6 (v:=.string (tx l1)) (A5 rfl rfl e77) (F8 rfl e78 (by go_simp)) (hK _ _ (GV.refl _ _ _ _) rfl)
    refine zA (λ a W hf hS hd K hK=>?_) ?_
    . have e77:a.eval (.tmp 77)=.bool true:=(hd 10 (by decide+kernel)).get (s:=77) rfl;have e79:a.eval (.tmp 79)=.string (tx l1):=(hd 12 (by decide+kernel)).get (s:=79) rfl;exact C8 (A5 rfl rfl e77) rfl Uw (ps:= [.tmp 79]) rfl (cs:= [.string (tx l1)]) (by simp only [aB,aC,e79]) (by intro u hu; simp only [aD,aE,or_false] at hu; rcases hu with rfl <;> exact ⟨rfl,rfl⟩) rfl (by decide) (by decide) (HZD.o W hS).1 (HZD.o W hS).2 hK
    refine zA (λ a W hf hS hd K hK=>?_) ?_
    . have e77:a.eval (.tmp 77)=.bool true:=(hd 10 (by decide+kernel)).get (s:=77) rfl;have d80:=(hd 13 (by decide+kernel)).get (s:=80) rfl;exact E5 (A5 rfl rfl e77) rfl Ei (vs:=#[a.eval (.tmp 80),.slice none 0 0]) (by first | (simp only [aG,aB,aC]; done) | (simp only [aG,aB,aC]; rfl)) (u:=(.bool ([tx l1].all Au&& [].all Bp))) (Ha [tx l1] [] _ _ W d80.1 (Sl.nil _ _ _) HSZ.o) (HZD.o W hS).1 hK
    refine zA (λ a W hf hS hd K hK=>?_) ?_
    . have e77:a.eval (.tmp 77)=.bool true:=(hd 10 (by decide+kernel)).get (s:=77) rfl;have d81:=(hd 14 (by decide+kernel)).get (s:=81) rfl;exact A6 (Ah rfl) (Il rfl e77 rfl) (hK _ _ (GV.refl _ _ _ _) d81)
    refine zA (λ a W hf hS hd K hK=>?_) ?_
    . have e2:a.eval (.tmp 2)=.pointer (some ⟨q,0,none⟩):=hf.lit 2 (by decide) rfl;have d75:=(hd 8 (by decide+kernel)).get (s:=75) rfl;obtain ⟨cur,hc1,hc2⟩:=(HR.o W hS).len;rw [<-HXE.o] at d75;exact D1 (Ah rfl) rfl e2 d75 hc1 hc2 HFq.o hK
    refine zA (λ a W hf hS hd K hK=>?_) ?_
    . have d82:=(hd 15 (by decide+kernel)).get (s:=82) rfl;exact A6 (Ah rfl) (Jt rfl rfl) (hK _ _ (GV.refl _ _ _ _) d82)
    exact Cm.nil
  . intro a W hf hS hp;have h3:=(hp 17 (by decide)).get (s:=3) rfl;obtain ⟨v,cs,h5,h6⟩:=(hp 16 (by decide)).fin;have e2:a.eval (.tmp 2)=.pointer (some ⟨q,0,none⟩):=hf.lit 2 (by decide) rfl;go_wp2_with fail;refine bodyPost_ret (Ap rfl Ak (show a.tmps.getD 2 undef=_ from e2) h6.length h5.cellsAll) hf.defers ⟨cs,?_,?_,(HR.o W hS).below⟩
    . rw [HBE.o,show a.tmps.getD 3 undef=.bool ([tx l1].all Au&& [].all Bp) from h3]
    . exact h6.mono (λ b hb=>by have:=HQW.o; omega)
theorem Xb (F0:Nat->Prop) (l1:Aa) (l2 m2:Aa) (v2:aV) (l3:Aa) (v3:aV) (w:aW) (hz1:l1.length<=1099511627776) (hb2:Bs w v2 m2) (hz2:l2.length<=1099511627776/\m2.length<=1099511627776) (hb3:Bs w v3 l3) (hz3:l3.length<=1099511627776) (hT15:rT (l2,m2)=true): aX aA 153 #[.iface 124 (.agg #[.string (tx l1),.string (tx l2),v2,v3])] w (Gu w (.mk 2 14 0 [] ([.s l1,.i (l2,m2),.b l3].map Ho)) ([.s l1,.i (l2,m2),.b l3].all ptB)):=by
 obtain ⟨a2,c2,rfl,hc2,hm2⟩:=hb2.form;obtain ⟨a3,c3,rfl,hc3,hm3⟩:=hb3.form;have HC:Hq (VC w w.heap.size [(w.heap.size+1, [.string (tx l1),.string (tx l2),.slice a2 m2.length c2,.slice a3 l3.length c3],124)] [] [(.slice a2 m2.length c2,m2),(.slice a3 l3.length c3,l3)] ((w.alloc (.cells zs5.toArray 314)).alloc (.cells [.string (tx l1),.string (tx l2),.slice a2 m2.length c2,.slice a3 l3.length c3].toArray 124))):=Ab (VC.start (by intro r hr; simp only [aD,aE,or_false] at hr; rcases hr with rfl | rfl; exact hb2; exact hb3) _ _);have HSZ:Hq (∀u∈ [tx l1],u.size<=maxLen):=Ab (by intro u hu; simp only [aD,aE,or_false] at hu; rcases hu with rfl; exact Tj hz1);have HZ1:=Ab hz1;clear hz1;have HZ2:=Ab hz2;clear hz2;have HZ3:=Ab hz3;clear hz3;clear hb2;clear hb3;obtain ⟨z11,hta11⟩:∃z,∀W,(Instr.typeAssert (.iface 124 (.agg #[.string (tx l1),.string (tx l2),.slice a2 m2.length c2,.slice a3 l3.length c3])) 20 104 true).run aA W=.ok (.tuple #[z,.bool false]) W:=⟨_,λ W=>A9 _ _ _ _ (by kernel_rfl) Mr (.inr ⟨_,_,rfl,by decide⟩) W⟩
 obtain ⟨z12,hta12⟩:∃z,∀W,(Instr.typeAssert (.iface 124 (.agg #[.string (tx l1),.string (tx l2),.slice a2 m2.length c2,.slice a3 l3.length c3])) 20 110 true).run aA W=.ok (.tuple #[z,.bool false]) W:=⟨_,λ W=>A9 _ _ _ _ (by kernel_rfl) Ms (.inr ⟨_,_,rfl,by decide⟩) W⟩
 obtain ⟨z13,hta13⟩:∃z,∀W,(Instr.typeAssert (.iface 124 (.agg #[.string (tx l1),.string (tx l2),.slice a2 m2.length c2,.slice a3 l3.length c3])) 20 121 true).run aA W=.ok (.tuple #[z,.bool false]) W:=⟨_,λ W=>A9 _ _ _ _ (by kernel_rfl) Mu (.inr ⟨_,_,rfl,by decide⟩) W⟩
 have hta:∀W,(Instr.typeAssert (.iface 124 (.agg #[.string (tx l1),.string (tx l2),.slice a2 m2.length c2,.slice a3 l3.length c3])) 20 124 true).run aA W=.ok (.tuple #[.agg #[.string (tx l1),.string (tx l2),.slice a2 m2.length c2,.slice a3 l3.length c3],.bool true]) W:=λ W=>Et _ _ _ (by kernel_rfl) W
 obtain ⟨B,hB⟩:∃B,B= [.s l1,.i (l2,m2),.b l3].all ptB:=⟨_,rfl⟩
 obtain ⟨X,hX⟩:∃X:Tv,X=.mk 2 14 0 [] ([.s l1,.i (l2,m2),.b l3].map Ho):=⟨_,rfl⟩
 rw [<-hB,<-hX];have HB:=Ab hB;have HX2:=Ab hX;clear hB hX;go_enter aM,aN;go_upto_region 16 with fail;clear hta hta11 hta12 hta13;show Code.wp _ _ _ _ ((w.alloc (.cells zs5.toArray 314)).alloc (.cells [.string (tx l1),.string (tx l2),.slice a2 m2.length c2,.slice a3 l3.length c3].toArray 124))
 obtain ⟨W0,hW0⟩:∃W0,W0=(w.alloc (.cells zs5.toArray 314)).alloc (.cells [.string (tx l1),.string (tx l2),.slice a2 m2.length c2,.slice a3 l3.length c3].toArray 124):=⟨_,rfl⟩
 rw [<-hW0] at HC ⊢;clear hW0;obtain ⟨p,hp⟩:∃p,p=w.heap.size+1:=⟨_,rfl⟩
 obtain ⟨q,hq⟩:∃q,q=w.heap.size:=⟨_,rfl⟩
 rw [<-hp,<-hq] at HC ⊢;clear hp hq;have HTV1:=Ab (Fs (l2,m2) (.slice a2 m2.length c2) W0 (HC.o.rowAt 0 rfl) HZ2.o.1 HZ2.o.2);have HM1:=Ab (HC.o.blkAt 0 rfl);rw [show Au (tx (l2,m2).1)=rT (l2,m2) from rfl] at HTV1;go_wp2_with ((with_reducible refine zw 141 ?_);refine Aj rfl (.tmp 140) Bc rfl rfl (cs:= [.string (tx l2),.slice a2 m2.length c2]) rfl (HM1.o.cellsAt 1 2) ?_);refine HTV1.o.mono ?_;rintro e wa1 ⟨cs1,rfl,htv,hb⟩;have HCa1:=Ab (HC.o.step hb);have HTT1:Hq (TvF wa1 (λ b=>q<b) (C6 (l2,m2)) cs1):=Ab (htv.mono (λ b hb=>by have:=HC.o.lt; omega));have HCL1:=Ab htv.length;have HCO1:=Ab htv.one;have HN1:=Ab (Blk.new wa1 zs5 314);clear htv hb HTV1;go_upto_region 17 with ((with_reducible refine zws 14 144 ?_);refine Ag rfl (.tmp 14) (.tmp 144) Ak rfl rfl (vs:=cs1) rfl HCL1.o HN1.o (aF _) HCO1.o ?_);intro wb1 h2 k2;have h2':Blk wb1 wa1.heap.size cs1 314:=by
  rw [aI (by decide),aJ] at h2;exact h2
 have hb2:Below wa1.heap.size wa1 wb1:=((Below.refl _ _).alloc (aF _) _).trans (k2.below (by omega));have HCb1:=Ab (((HCa1.o.addTree HTT1.o).step hb2).addBlk h2' HCa1.o.lt);obtain ⟨p1,hp1⟩:∃p1,p1=wa1.heap.size:=⟨_,rfl⟩
 rw [<-hp1] at HCb1 ⊢;clear h2 k2 h2' hb2 hp1 HCa1 HTT1 HN1 HCO1;go_upto_region 17 with fail
 cases hok15:rT (l2,m2) with
 | false=>exact absurd hok15 (by rw [hT15]; decide)
 | true=>
  have HOK15:=Ab hok15;clear hok15;have HBE:Hq (B=([tx l1].all Au&& [].all Bp)):=Ab (by rw [HB.o]; simp only [aO,aP,ptB,HOK15.o,Bool.and_true,Bool.true_and,Bool.and_false,Bool.false_and,Bool.and_assoc]; first | done | ac_rfl);obtain ⟨wd,hwd⟩:∃wd,wd=aW.drew wb1:=⟨_,rfl⟩
  have hvd:VC w q [(p, [.string (tx l1),.string (tx l2),.slice a2 m2.length c2,.slice a3 l3.length c3],124),(p1,cs1,314)] [(C6 (l2,m2),cs1)] [(.slice a2 m2.length c2,m2),(.slice a3 l3.length c3,l3)] wd:=by rw [hwd]; exact HCb1.o.drew
  have HXE:Hq (X=.mk 2 14 0 [] [.mk 1 0 0 l1 [],C6 (l2,m2),.mk 1 0 0 l3 []]):=Ab HX2.o;have HR:Hq (∀W,GV (λ b=>q<b) q X wd W->VR w q [(p, [.string (tx l1),.string (tx l2),.slice a2 m2.length c2,.slice a3 l3.length c3],124),(p1,cs1,314)] [(C6 (l2,m2),cs1)] [(.slice a2 m2.length c2,m2),(.slice a3 l3.length c3,l3)] W):=Ab (λ W h=>hvd.gv h);have HZD:Hq (∀W,GV (λ b=>q<b) q X wd W->q<W.heap.size/\∀b,W.heap.size<=b->q<b):=Ab (λ W h=>⟨(HR.o W h).lt,λ b hb=>aQ (HR.o W h).lt hb⟩);have HFq:Hq (¬(λ b=>q<b) q):=Ab (aR q);have HQW:Hq (w.heap.size=q):=Ab hvd.hq.symm;clear hvd HCb1;refine wp_region_held (S:=λ W=>GV (λ b=>q<b) q X wd W) (by kernel_rfl) ?_;change wpAnyH _ _ _ _ _ _ _ _ (aW.drew _);rw [<-hwd];clear hwd;refine zH 0 ?_;refine zH 1 ?_ (hr:=λ W hW=>by have hc:=((HR.o W hW).blkAt 0 rfl).cell 0; go_simp; try rfl);refine zH 3 ?_ (v:=.agg cs1.toArray) (hr:=λ W hW=>by exact E2 rfl Ak rfl HCL1.o ((HR.o W hW).blkAt 1 rfl).cellsAll);refine zH 4 ?_;refine zH 5 ?_ (hr:=λ W hW=>by have hc:=((HR.o W hW).blkAt 0 rfl).cell 3; go_simp; try rfl);refine zH 9 ?_;refine Df (G:=GV (λ b=>q<b) q X) (Post:=L5 (λ b=>q<b) q X [.any,.any,.val (.mk 1 0 0 l1 []),.any,.any,.any,.val (.mk 1 0 0 l3 []),.vals [.mk 1 0 0 l1 [],C6 (l2,m2),.mk 1 0 0 l3 []],.val (.mk 2 14 0 [] [.mk 1 0 0 l1 [],C6 (l2,m2),.mk 1 0 0 l3 []]),.any,.is (.bool true),.is (.pointer (some ⟨p,0,none⟩)),.is (.string (tx l1)),.row [.string (tx l1)],.is (.bool ([tx l1].all Au&& [].all Bp)),.is (.bool ([tx l1].all Au&& [].all Bp)),.fin,.is (.bool ([tx l1].all Au&& [].all Bp))]) (ds:= [148,152,153,154,156,157,158,159,160,161,3]) (GV.refl _ _ _) GV.trans (λ W W' h g=>GV.trans _ _ _ h g) (λ i v W W' h g=>PK.stable HFq.o h g) [2,6,7,8,10,11,12,13,14,15,16,17] 397 rfl (by decide+kernel) (by decide+kernel) ?_ ?_ (GV.refl _ _ _ _) (by decide+kernel)
  . refine zA (λ a W hf hS hd K hK=>?_) ?_
    . have e147:a.eval (.tmp 147)=.string (tx l1):=hf.lit 147 (by decide) rfl;exact A2 (Ah rfl) rfl Dp (vs:=#[.string (tx l1)]) (by simp [e147]) (Gc l1 W HZ1.o) (HZD.o W hS).1 (HZD.o W hS).2 hK
    refine zA (λ a W hf hS hd K hK=>?_) ?_
    . have e151:a.eval (.tmp 151)=.slice a3 l3.length c3:=hf.lit 151 (by decide) rfl;exact A2 (Ah rfl) rfl Ez (vs:=#[.slice a3 l3.length c3]) (by simp [e151]) (Di _ l3 W ((HR.o W hS).rowAt 1 rfl) HZ3.o) (HZD.o W hS).1 (HZD.o W hS).2 hK
    refine zA (λ a W hf hS hd K hK=>?_) ?_
    . have d148:=(hd 2 (by decide+kernel)).get (s:=148) rfl;have e149:a.eval (.tmp 149)=.agg cs1.toArray:=hf.lit 149 (by decide) rfl;have d152:=(hd 6 (by decide+kernel)).get (s:=152) rfl;exact Dk (Ah rfl) rfl Hs (ps:= [.tmp 148,.tmp 149,.tmp 152]) rfl (l:= [.mk 1 0 0 l1 [],C6 (l2,m2),.mk 1 0 0 l3 []]) ⟨d148,⟨_,e149,(HR.o W hS).treeAt 0 rfl⟩,d152,trivial⟩ rfl (by decide) (by decide) (HZD.o W hS).1 (HZD.o W hS).2 hK
    refine zA (λ a W hf hS hd K hK=>?_) ?_
    . have d153:=(hd 7 (by decide+kernel)).get (s:=153) rfl;exact D2 (Ah rfl) rfl Dg d153 (HZD.o W hS).1 (λ v w1 h1 h2=>hK v w1 h1 h2) HFq.o
    refine zA (λ a W hf hS hd K hK=>A6 (v:=.bool true) (Ah rfl) (Ib rfl (show a.eval (.tmp 155)=.bool true from hf.lit 155 (by decide) rfl)) (hK _ _ (GV.refl _ _ _ _) rfl)) ?_;refine zA (λ a W hf hS hd K hK=>?_) ?_
    . have e156:a.eval (.tmp 156)=.bool true:=(hd 10 (by decide+kernel)).get (s:=156) rfl;have e13:a.eval (.tmp 13)=.pointer (some ⟨p,0,none⟩):=hf.lit 13 (by decide) rfl;exact A6 (v:=.pointer (some ⟨p,0,none⟩)) (A5 rfl rfl e156) (E0 rfl e13 (by go_simp)) (hK _ _ (GV.refl _ _ _ _) rfl)
    refine zA (λ a W hf hS hd K hK=>?_) ?_
    . have e156:a.eval (.tmp 156)=.bool true:=(hd 10 (by decide+kernel)).get (s:=156) rfl;have e157:a.eval (.tmp 157)=.pointer (some ⟨p,0,none⟩):=(hd 11 (by decide+kernel)).get (s:=157) rfl;have hc:W.cell? ⟨p,0,none⟩=some (.string (tx l1)):=((HR.o W hS).blkAt 0 rfl).cell 0;exact A6 (v:=.string (tx l1)) (A5 rfl rfl e156) (F8 rfl e157 (by go_simp)) (hK _ _ (GV.refl _ _ _ _) rfl)
    refine zA (λ a W hf hS hd K hK=>?_) ?_
    . have e156:a.eval (.tmp 156)=.bool true:=(hd 10 (by decide+kernel)).get (s:=156) rfl;have e158:a.eval (.tmp 158)=.string (tx l1):=(hd 12 (by decide+kernel)).get (s:=158) rfl;exact C8 (A5 rfl rfl e156) rfl Uw (ps:= [.tmp 158]) rfl (cs:= [.string (tx l1)]) (by simp only [aB,aC,e158]) (by intro u hu; simp only [aD,aE,or_false] at hu; rcases hu with rfl <;> exact ⟨rfl,rfl⟩) rfl (by decide) (by decide) (HZD.o W hS).1 (HZD.o W hS).2 hK
    refine zA (λ a W hf hS hd K hK=>?_) ?_
    . have e156:a.eval (.tmp 156)=.bool true:=(hd 10 (by decide+kernel)).get (s:=156) rfl;have d159:=(hd 13 (by decide+kernel)).get (s:=159) rfl;exact E5 (A5 rfl rfl e156) rfl Ei (vs:=#[a.eval (.tmp 159),.slice none 0 0]) (by first | (simp only [aG,aB,aC]; done) | (simp only [aG,aB,aC]; rfl)) (u:=(.bool ([tx l1].all Au&& [].all Bp))) (Ha [tx l1] [] _ _ W d159.1 (Sl.nil _ _ _) HSZ.o) (HZD.o W hS).1 hK
    refine zA (λ a W hf hS hd K hK=>?_) ?_
    . have e156:a.eval (.tmp 156)=.bool true:=(hd 10 (by decide+kernel)).get (s:=156) rfl;have d160:=(hd 14 (by decide+kernel)).get (s:=160) rfl;exact A6 (Ah rfl) (Il rfl e156 rfl) (hK _ _ (GV.refl _ _ _ _) d160)
    refine zA (λ a W hf hS hd K hK=>?_) ?_
    . have e2:a.eval (.tmp 2)=.pointer (some ⟨q,0,none⟩):=hf.lit 2 (by decide) rfl;have d154:=(hd 8 (by decide+kernel)).get (s:=154) rfl;obtain ⟨cur,hc1,hc2⟩:=(HR.o W hS).len;rw [<-HXE.o] at d154;exact D1 (Ah rfl) rfl e2 d154 hc1 hc2 HFq.o hK
    refine zA (λ a W hf hS hd K hK=>?_) ?_
    . have d161:=(hd 15 (by decide+kernel)).get (s:=161) rfl;exact A6 (Ah rfl) (Jt rfl rfl) (hK _ _ (GV.refl _ _ _ _) d161)
    exact Cm.nil
  . intro a W hf hS hp;have h3:=(hp 17 (by decide)).get (s:=3) rfl;obtain ⟨v,cs,h5,h6⟩:=(hp 16 (by decide)).fin;have e2:a.eval (.tmp 2)=.pointer (some ⟨q,0,none⟩):=hf.lit 2 (by decide) rfl;go_wp2_with fail;refine bodyPost_ret (Ap rfl Ak (show a.tmps.getD 2 undef=_ from e2) h6.length h5.cellsAll) hf.defers ⟨cs,?_,?_,(HR.o W hS).below⟩
    . rw [HBE.o,show a.tmps.getD 3 undef=.bool ([tx l1].all Au&& [].all Bp) from h3]
    . exact h6.mono (λ b hb=>by have:=HQW.o; omega)
end Go.Proofs.YtcnfaghcjlhoiaaGreat
namespace Go.Proofs.YtcnfaghcjlhoiaaGreat
open Go.RowKit Go.Maps
theorem J3 {t:Int} {pts:List Pt} (hr:A4 8 (Fl t pts)=true) (hl:(A8 t pts).length<=4096):wrS (Fl t pts)=(A8 t pts,0):=by
 rw [wrS,if_neg (by rw [hr]; decide),if_neg (by unfold A8 at hl; omega)];rfl
theorem Xc (l1:Aa) (x2:Int) (x3:Int) (l4:Aa) (v4:aV) (w:aW) (hb4:Bs w v4 l4) (hok:∀p∈([.s l1,.n x2,.n x3,.b l4]:List Pt),Ii p) (hall:([.s l1,.n x2,.n x3,.b l4]:List Pt).all ptB=true) (hlen:(A8 11 [.s l1,.n x2,.n x3,.b l4]).length<=4096): aX aA 92 #[.iface 104 (.agg #[.string (tx l1),.int .i64 x2,.int .i64 x3,v4])] w (Cx w (A8 11 [.s l1,.n x2,.n x3,.b l4],0)):=by
 have hw:=E8 _ _ _ w (A0b (λ _=>True) l1 x2 x3 l4 v4 w (hok (.s l1) (by simp)) (hok (.n x2) (by simp)) (hok (.n x3) (by simp)) hb4 (hok (.b l4) (by simp))) (λ _=>⟨Fm 11 _ hall,by unfold A8 at hlen; exact aH hlen (by decide)⟩);rw [hall,if_pos rfl] at hw;rw [<-J3 (t:=11) (pts:= [.s l1,.n x2,.n x3,.b l4]) (by simp [Fl,A4,Ho,C6,Gt]) hlen];exact hw
theorem Xd (l1:Aa) (l2 m2:Aa) (v2:aV) (l3:Aa) (v3:aV) (w:aW) (hb2:Bs w v2 m2) (hb3:Bs w v3 l3) (hok:∀p∈([.s l1,.i (l2,m2),.b l3]:List Pt),Ii p) (hall:([.s l1,.i (l2,m2),.b l3]:List Pt).all ptB=true) (hlen:(A8 12 [.s l1,.i (l2,m2),.b l3]).length<=4096): aX aA 92 #[.iface 110 (.agg #[.string (tx l1),.string (tx l2),v2,v3])] w (Cx w (A8 12 [.s l1,.i (l2,m2),.b l3],0)):=by
 have hw:=E8 _ _ _ w (Xa (λ _=>True) l1 l2 m2 v2 l3 v3 w (hok (.s l1) (by simp)) hb2 (hok (.i (l2,m2)) (by simp)) hb3 (hok (.b l3) (by simp)) (by have:=List.all_eq_true.1 hall (.i (l2,m2)) (by simp); simpa [ptB] using this)) (λ _=>⟨Fm 12 _ hall,by unfold A8 at hlen; exact aH hlen (by decide)⟩);rw [hall,if_pos rfl] at hw;rw [<-J3 (t:=12) (pts:= [.s l1,.i (l2,m2),.b l3]) (by simp [Fl,A4,Ho,C6,Gt]) hlen];exact hw
end Go.Proofs.YtcnfaghcjlhoiaaGreat
