/- Texts of this proof, one behind the other: MVsD, MapT, MapV, FrKey, Mark, TabR, AesS, Arr, Sha, ShaBlock, ShaSpec. -/
import Derived.Test.YtnihelcjmahmnaaGreatWrB1
import Derived.Test.YtnihelcjmahmnaaGreatWrB2
import Derived.Test.YtnihelcjmahmnaaGreatWrB3
import Derived.Test.YtnihelcjmahmnaaGreatWrB4
import Derived.Test.YtnihelcjmahmnaaGreatWrB5
import Derived.Deep.DeepCutAuto
import Derived.Maps.RangeWalk
import Derived.DeepKeys4
import Derived.WideKeyEntry
import Derived.StringKeys
import Derived.Sort.MapsRangeIn
import Derived.WalkSpells
import Derived.Deep.RegionHeld3
set_option linter.unusedSimpArgs false
set_option linter.unusedVariables false
set_option maxRecDepth 100000
set_option maxHeartbeats 16000000
open Go.Proofs.Tryz renaming prog -> aA, underlying351 -> aN, func193 -> bF, ntmps193 -> bG, underlying329 -> bK, underlying323 -> bL
open Nat renaming le_refl -> aC, lt_of_lt_of_le -> aV, sub_self -> bM, zero_add -> bO
open List renaming drop_of_length_le -> aD, zipWith -> aF, map_cons -> aG, map_nil -> aH, replicate -> aI, mem_cons -> aJ, not_mem_nil -> aK, append_nil -> aL, find?_cons -> aM, take_of_length_le -> aO, set_append_right -> aP, getD -> aQ, getElem?_append_left -> aR, any_eq_true -> aS, range -> aT, getElem?_append_right -> aU, map_toArray -> aW, find?_some -> aX, mem_of_find?_eq_some -> aY, filter_map -> aZ, mem_singleton -> bA, map_append -> bB, length_append -> bC, mapM_cons -> bD, append_inj -> bE, length_set -> bH, take_append_of_le_length -> bI, drop_append_of_le_length -> bJ, set_cons_zero -> bN, getElem?_cons_zero -> bP, getElem?_cons_succ -> bQ
open Go.RowKit.Below renaming refl -> aE
open Go renaming Value -> bR, World -> bS, TypeId -> bT, Calls -> bU, IntKind -> bW, Program -> bX
namespace Go.Proofs.YtnihelcjmahmnaaGreat
open Go.RowKit
theorem Nu (F0:Nat->Prop) (l1:List UInt8) (l2:List UInt8) (x3:Int) (l4 m4:List UInt8) (v4:bR) (l5:List UInt8) (v5:bR) (w:bS) (hz1:l1.length<=1099511627776) (hz2:l2.length<=1099511627776) (hz3: -9223372036854775808<=x3/\x3<=9223372036854775807) (hb4:Bs w v4 m4) (hz4:l4.length<=1099511627776/\m4.length<=1099511627776) (hb5:Bs w v5 l5) (hz5:l5.length<=1099511627776) (hT22:rT (l4,m4)=true): bU aA 75 #[.iface 89 (.agg #[.string (tx l1),.string (tx l2),.int .i64 x3,.string (tx l4),v4,v5])] w (Fy w (.mk 2 17 0 [] ([.s l1,.s l2,.n x3,.i (l4,m4),.b l5].map Gg)) ([.s l1,.s l2,.n x3,.i (l4,m4),.b l5].all ptB)):=by
  obtain ⟨a4,c4,rfl,hc4,hm4⟩:=hb4.form;obtain ⟨a5,c5,rfl,hc5,hm5⟩:=hb5.form;have HC:Hq (VC w w.heap.size [(w.heap.size+1, [.string (tx l1),.string (tx l2),.int .i64 x3,.string (tx l4),.slice a4 m4.length c4,.slice a5 l5.length c5],89)] [] [(.slice a4 m4.length c4,m4),(.slice a5 l5.length c5,l5)] ((w.alloc (.cells zs5.toArray 220)).alloc (.cells [.string (tx l1),.string (tx l2),.int .i64 x3,.string (tx l4),.slice a4 m4.length c4,.slice a5 l5.length c5].toArray 89))):=hqZ (VC.start (by intro r hr; simp only [aJ,aK,or_false] at hr; rcases hr with rfl | rfl; exact hb4; exact hb5) _ _);have HSZ:Hq (∀u∈ [tx l1,tx l2],u.size<=maxLen):=hqZ (by intro u hu; simp only [aJ,aK,or_false] at hu; rcases hu with rfl | rfl; exact Pa hz1; exact Pa hz2);have HZ1:=hqZ hz1;clear hz1;have HZ2:=hqZ hz2;clear hz2;have HZ3:=hqZ hz3;clear hz3;have HZ4:=hqZ hz4;clear hz4;have HZ5:=hqZ hz5;clear hz5;clear hb4;clear hb5;obtain ⟨z11,hta11⟩:∃z,∀W,(Instr.typeAssert (.iface 89 (.agg #[.string (tx l1),.string (tx l2),.int .i64 x3,.string (tx l4),.slice a4 m4.length c4,.slice a5 l5.length c5])) 20 65 true).run aA W=.ok (.tuple #[z,.bool false]) W:=⟨_,λ W=>Bw _ _ _ _ (by kernel_rfl) Mf (.inr ⟨_,_,rfl,by decide⟩) W⟩
  obtain ⟨z12,hta12⟩:∃z,∀W,(Instr.typeAssert (.iface 89 (.agg #[.string (tx l1),.string (tx l2),.int .i64 x3,.string (tx l4),.slice a4 m4.length c4,.slice a5 l5.length c5])) 20 71 true).run aA W=.ok (.tuple #[z,.bool false]) W:=⟨_,λ W=>Bw _ _ _ _ (by kernel_rfl) Mg (.inr ⟨_,_,rfl,by decide⟩) W⟩
  obtain ⟨z13,hta13⟩:∃z,∀W,(Instr.typeAssert (.iface 89 (.agg #[.string (tx l1),.string (tx l2),.int .i64 x3,.string (tx l4),.slice a4 m4.length c4,.slice a5 l5.length c5])) 20 82 true).run aA W=.ok (.tuple #[z,.bool false]) W:=⟨_,λ W=>Bw _ _ _ _ (by kernel_rfl) Oi (.inr ⟨_,_,rfl,by decide⟩) W⟩
  obtain ⟨z14,hta14⟩:∃z,∀W,(Instr.typeAssert (.iface 89 (.agg #[.string (tx l1),.string (tx l2),.int .i64 x3,.string (tx l4),.slice a4 m4.length c4,.slice a5 l5.length c5])) 20 85 true).run aA W=.ok (.tuple #[z,.bool false]) W:=⟨_,λ W=>Bw _ _ _ _ (by kernel_rfl) Wm (.inr ⟨_,_,rfl,by decide⟩) W⟩
  obtain ⟨z15,hta15⟩:∃z,∀W,(Instr.typeAssert (.iface 89 (.agg #[.string (tx l1),.string (tx l2),.int .i64 x3,.string (tx l4),.slice a4 m4.length c4,.slice a5 l5.length c5])) 20 263 true).run aA W=.ok (.tuple #[z,.bool false]) W:=⟨_,λ W=>Bw _ _ _ _ (by kernel_rfl) Wn (.inr ⟨_,_,rfl,by decide⟩) W⟩
  obtain ⟨z16,hta16⟩:∃z,∀W,(Instr.typeAssert (.iface 89 (.agg #[.string (tx l1),.string (tx l2),.int .i64 x3,.string (tx l4),.slice a4 m4.length c4,.slice a5 l5.length c5])) 20 265 true).run aA W=.ok (.tuple #[z,.bool false]) W:=⟨_,λ W=>Bw _ _ _ _ (by kernel_rfl) Wo (.inr ⟨_,_,rfl,by decide⟩) W⟩
  have hta:∀W,(Instr.typeAssert (.iface 89 (.agg #[.string (tx l1),.string (tx l2),.int .i64 x3,.string (tx l4),.slice a4 m4.length c4,.slice a5 l5.length c5])) 20 89 true).run aA W=.ok (.tuple #[.agg #[.string (tx l1),.string (tx l2),.int .i64 x3,.string (tx l4),.slice a4 m4.length c4,.slice a5 l5.length c5],.bool true]) W:=λ W=>Fv _ _ _ (by kernel_rfl) W
  obtain ⟨B,hB⟩:∃B,B= [.s l1,.s l2,.n x3,.i (l4,m4),.b l5].all ptB:=⟨_,rfl⟩
  obtain ⟨X,hX⟩:∃X:Tv,X=.mk 2 17 0 [] ([.s l1,.s l2,.n x3,.i (l4,m4),.b l5].map Gg):=⟨_,rfl⟩
  rw [<-hB,<-hX];have HB:=hqZ hB;have HX2:=hqZ hX;clear hB hX;go_enter Tryz.func75,Tryz.ntmps75;go_upto_region 27 with fail;clear hta hta11 hta12 hta13 hta14 hta15 hta16;show Code.wp _ _ _ _ ((w.alloc (.cells zs5.toArray 220)).alloc (.cells [.string (tx l1),.string (tx l2),.int .i64 x3,.string (tx l4),.slice a4 m4.length c4,.slice a5 l5.length c5].toArray 89))
  obtain ⟨W0,hW0⟩:∃W0,W0=(w.alloc (.cells zs5.toArray 220)).alloc (.cells [.string (tx l1),.string (tx l2),.int .i64 x3,.string (tx l4),.slice a4 m4.length c4,.slice a5 l5.length c5].toArray 89):=⟨_,rfl⟩
  rw [<-hW0] at HC ⊢;clear hW0;obtain ⟨p,hp⟩:∃p,p=w.heap.size+1:=⟨_,rfl⟩
  obtain ⟨q,hq⟩:∃q,q=w.heap.size:=⟨_,rfl⟩
  rw [<-hp,<-hq] at HC ⊢;clear hp hq;have HTV1:=hqZ (Fh (l4,m4) (.slice a4 m4.length c4) W0 (HC.o.rowAt 0 rfl) HZ4.o.1 HZ4.o.2);have HM1:=hqZ (HC.o.blkAt 0 rfl);rw [show As (tx (l4,m4).1)=rT (l4,m4) from rfl] at HTV1;go_wp2_with ((with_reducible refine zw 224 ?_);refine Ah rfl (.tmp 223) Bo rfl rfl (cs:= [.string (tx l4),.slice a4 m4.length c4]) rfl (HM1.o.cellsAt 3 2) ?_);refine HTV1.o.mono ?_;rintro e wa1 ⟨cs1,rfl,htv,hb⟩;have HCa1:=hqZ (HC.o.step hb);have HTT1:Hq (TvF wa1 (λ b=>q<b) (Cy (l4,m4)) cs1):=hqZ (htv.mono (λ b hb=>by have:=HC.o.lt; omega));have HCL1:=hqZ htv.length;have HCO1:=hqZ htv.one;have HN1:=hqZ (Blk.new wa1 zs5 220);clear htv hb HTV1;go_upto_region 28 with ((with_reducible refine zws 21 227 ?_);refine Af rfl (.tmp 21) (.tmp 227) Aq rfl rfl (vs:=cs1) rfl HCL1.o HN1.o (aC _) HCO1.o ?_);intro wb1 h2 k2;have h2':Blk wb1 wa1.heap.size cs1 220:=by
    rw [aD (by decide),aL] at h2;exact h2
  have hb2:Below wa1.heap.size wa1 wb1:=((aE _ _).alloc (aC _) _).trans (k2.below (by omega));have HCb1:=hqZ (((HCa1.o.addTree HTT1.o).step hb2).addBlk h2' HCa1.o.lt);obtain ⟨p1,hp1⟩:∃p1,p1=wa1.heap.size:=⟨_,rfl⟩
  rw [<-hp1] at HCb1 ⊢;clear h2 k2 h2' hb2 hp1 HCa1 HTT1 HN1 HCO1;go_upto_region 28 with fail
  cases hok22:rT (l4,m4) with
  | false=>exact absurd hok22 (by rw [hT22]; decide)
  | true=>
    have HOK22:=hqZ hok22;clear hok22;have HBE:Hq (B=([tx l1,tx l2].all As&& [x3].all Bi)):=hqZ (by rw [HB.o]; simp only [List.all_cons,List.all_nil,ptB,HOK22.o,Bool.and_true,Bool.true_and,Bool.and_false,Bool.false_and,Bool.and_assoc]; first | done | ac_rfl);obtain ⟨wd,hwd⟩:∃wd,wd=bS.drew wb1:=⟨_,rfl⟩
    have hvd:VC w q [(p, [.string (tx l1),.string (tx l2),.int .i64 x3,.string (tx l4),.slice a4 m4.length c4,.slice a5 l5.length c5],89),(p1,cs1,220)] [(Cy (l4,m4),cs1)] [(.slice a4 m4.length c4,m4),(.slice a5 l5.length c5,l5)] wd:=by rw [hwd]; exact HCb1.o.drew
    have HXE:Hq (X=.mk 2 17 0 [] [.mk 1 0 0 l1 [],.mk 1 0 0 l2 [],.mk 0 0 (Da x3) [] [],Cy (l4,m4),.mk 1 0 0 l5 []]):=hqZ HX2.o;have HR:Hq (∀W,GV (λ b=>q<b) q X wd W->VR w q [(p, [.string (tx l1),.string (tx l2),.int .i64 x3,.string (tx l4),.slice a4 m4.length c4,.slice a5 l5.length c5],89),(p1,cs1,220)] [(Cy (l4,m4),cs1)] [(.slice a4 m4.length c4,m4),(.slice a5 l5.length c5,l5)] W):=hqZ (λ W h=>hvd.gv h);have HZD:Hq (∀W,GV (λ b=>q<b) q X wd W->q<W.heap.size/\∀b,W.heap.size<=b->q<b):=hqZ (λ W h=>⟨(HR.o W h).lt,λ b hb=>aV (HR.o W h).lt hb⟩);have HFq:Hq (¬(λ b=>q<b) q):=hqZ (Nat.lt_irrefl q);have HQW:Hq (w.heap.size=q):=hqZ hvd.hq.symm;clear hvd HCb1;refine wp_region_held (S:=λ W=>GV (λ b=>q<b) q X wd W) (by kernel_rfl) ?_;change wpAnyH _ _ _ _ _ _ _ _ (bS.drew _);rw [<-hwd];clear hwd;refine zH 0 ?_;refine zH 1 ?_ (hr:=λ W hW=>by have hc:=((HR.o W hW).blkAt 0 rfl).cell 0; go_simp; try rfl);refine zH 3 ?_;refine zH 4 ?_ (hr:=λ W hW=>by have hc:=((HR.o W hW).blkAt 0 rfl).cell 1; go_simp; try rfl);refine zH 6 ?_;refine zH 7 ?_ (hr:=λ W hW=>by have hc:=((HR.o W hW).blkAt 0 rfl).cell 2; go_simp; try rfl);refine zH 9 ?_ (v:=.agg cs1.toArray) (hr:=λ W hW=>by exact Es rfl Aq rfl HCL1.o ((HR.o W hW).blkAt 1 rfl).cellsAll);refine zH 10 ?_;refine zH 11 ?_ (hr:=λ W hW=>by have hc:=((HR.o W hW).blkAt 0 rfl).cell 5; go_simp; try rfl);refine zH 15 ?_;refine C1 (G:=GV (λ b=>q<b) q X) (Post:=Ko (λ b=>q<b) q X [.any,.any,.val (.mk 1 0 0 l1 []),.any,.any,.val (.mk 1 0 0 l2 []),.any,.any,.val (.mk 0 0 (Da x3) [] []),.any,.any,.any,.val (.mk 1 0 0 l5 []),.vals [.mk 1 0 0 l1 [],.mk 1 0 0 l2 [],.mk 0 0 (Da x3) [] [],Cy (l4,m4),.mk 1 0 0 l5 []],.val (.mk 2 17 0 [] [.mk 1 0 0 l1 [],.mk 1 0 0 l2 [],.mk 0 0 (Da x3) [] [],Cy (l4,m4),.mk 1 0 0 l5 []]),.any,.is (.bool true),.is (.pointer (some ⟨p,0,none⟩)),.is (.string (tx l1)),.is (.pointer (some ⟨p,1,none⟩)),.is (.string (tx l2)),.row [.string (tx l1),.string (tx l2)],.is (.pointer (some ⟨p,2,none⟩)),.is (.int .i64 x3),.row [.int .i64 x3],.is (.bool ([tx l1,tx l2].all As&& [x3].all Bi)),.is (.bool ([tx l1,tx l2].all As&& [x3].all Bi)),.fin,.is (.bool ([tx l1,tx l2].all As&& [x3].all Bi))]) (ds:= [231,234,237,241,242,243,245,246,247,248,249,250,251,252,253,254,255,3]) (GV.refl _ _ _) GV.trans (λ W W' h g=>GV.trans _ _ _ h g) (λ i v W W' h g=>PK.stable HFq.o h g) [2,5,8,12,13,14,16,17,18,19,20,21,22,23,24,25,26,27,28] 397 rfl (by decide+kernel) (by decide+kernel) ?_ ?_ (GV.refl _ _ _ _) (by decide+kernel)
    · refine zA (λ a W hf hS hd K hK=>?_) ?_
      · have e230:a.eval (.tmp 230)=.string (tx l1):=hf.lit 230 (by decide) rfl;exact Az (Ag rfl) rfl Cw (vs:=#[.string (tx l1)]) (by simp [e230]) (Eh l1 W HZ1.o) (HZD.o W hS).1 (HZD.o W hS).2 hK
      refine zA (λ a W hf hS hd K hK=>?_) ?_
      · have e233:a.eval (.tmp 233)=.string (tx l2):=hf.lit 233 (by decide) rfl;exact Az (Ag rfl) rfl Cw (vs:=#[.string (tx l2)]) (by simp [e233]) (Eh l2 W HZ2.o) (HZD.o W hS).1 (HZD.o W hS).2 hK
      refine zA (λ a W hf hS hd K hK=>?_) ?_
      · have e236:a.eval (.tmp 236)=.int .i64 x3:=hf.lit 236 (by decide) rfl;exact Az (Ag rfl) rfl Dp (vs:=#[.int .i64 x3]) (by simp [e236]) (E0 x3 W HZ3.o.1 HZ3.o.2) (HZD.o W hS).1 (HZD.o W hS).2 hK
      refine zA (λ a W hf hS hd K hK=>?_) ?_
      · have e240:a.eval (.tmp 240)=.slice a5 l5.length c5:=hf.lit 240 (by decide) rfl;exact Az (Ag rfl) rfl D8 (vs:=#[.slice a5 l5.length c5]) (by simp [e240]) (C5 _ l5 W ((HR.o W hS).rowAt 1 rfl) HZ5.o) (HZD.o W hS).1 (HZD.o W hS).2 hK
      refine zA (λ a W hf hS hd K hK=>?_) ?_
      · have d231:=(hd 2 (by decide+kernel)).get (s:=231) rfl;have d234:=(hd 5 (by decide+kernel)).get (s:=234) rfl;have d237:=(hd 8 (by decide+kernel)).get (s:=237) rfl;have e238:a.eval (.tmp 238)=.agg cs1.toArray:=hf.lit 238 (by decide) rfl;have d241:=(hd 12 (by decide+kernel)).get (s:=241) rfl;exact C7 (Ag rfl) rfl G0 (ps:= [.tmp 231,.tmp 234,.tmp 237,.tmp 238,.tmp 241]) rfl (l:= [.mk 1 0 0 l1 [],.mk 1 0 0 l2 [],.mk 0 0 (Da x3) [] [],Cy (l4,m4),.mk 1 0 0 l5 []]) ⟨d231,d234,d237,⟨_,e238,(HR.o W hS).treeAt 0 rfl⟩,d241,trivial⟩ rfl (by decide) (by decide) (HZD.o W hS).1 (HZD.o W hS).2 hK
      refine zA (λ a W hf hS hd K hK=>?_) ?_
      · have d242:=(hd 13 (by decide+kernel)).get (s:=242) rfl;exact Dm (Ag rfl) rfl C4 d242 (HZD.o W hS).1 (λ v w1 h1 h2=>hK v w1 h1 h2) HFq.o
      refine zA (λ a W hf hS hd K hK=>A5 (v:=.bool true) (Ag rfl) (Hy rfl (show a.eval (.tmp 244)=.bool true from hf.lit 244 (by decide) rfl)) (hK _ _ (GV.refl _ _ _ _) rfl)) ?_;refine zA (λ a W hf hS hd K hK=>?_) ?_
      · have e245:a.eval (.tmp 245)=.bool true:=(hd 16 (by decide+kernel)).get (s:=245) rfl;have e20:a.eval (.tmp 20)=.pointer (some ⟨p,0,none⟩):=hf.lit 20 (by decide) rfl;exact A5 (v:=.pointer (some ⟨p,0,none⟩)) (A6 rfl rfl e245) (Er rfl e20 (by go_simp)) (hK _ _ (GV.refl _ _ _ _) rfl)
      refine zA (λ a W hf hS hd K hK=>?_) ?_
      · have e245:a.eval (.tmp 245)=.bool true:=(hd 16 (by decide+kernel)).get (s:=245) rfl;have e246:a.eval (.tmp 246)=.pointer (some ⟨p,0,none⟩):=(hd 17 (by decide+kernel)).get (s:=246) rfl;have hc:W.cell? ⟨p,0,none⟩=some (.string (tx l1)):=((HR.o W hS).blkAt 0 rfl).cell 0;exact A5 (v:=.string (tx l1)) (A6 rfl rfl e245) (Ft rfl e246 (by go_simp)) (hK _ _ (GV.refl _ _ _ _) rfl)
      refine zA (λ a W hf hS hd K hK=>?_) ?_
      · have e245:a.eval (.tmp 245)=.bool true:=(hd 16 (by decide+kernel)).get (s:=245) rfl;have e20:a.eval (.tmp 20)=.pointer (some ⟨p,0,none⟩):=hf.lit 20 (by decide) rfl;exact A5 (v:=.pointer (some ⟨p,1,none⟩)) (A6 rfl rfl e245) (Er rfl e20 (by go_simp)) (hK _ _ (GV.refl _ _ _ _) rfl)
      refine zA (λ a W hf hS hd K hK=>?_) ?_
      · have e245:a.eval (.tmp 245)=.bool true:=(hd 16 (by decide+kernel)).get (s:=245) rfl;have e248:a.eval (.tmp 248)=.pointer (some ⟨p,1,none⟩):=(hd 19 (by decide+kernel)).get (s:=248) rfl;have hc:W.cell? ⟨p,1,none⟩=some (.string (tx l2)):=((HR.o W hS).blkAt 0 rfl).cell 1;exact A5 (v:=.string (tx l2)) (A6 rfl rfl e245) (Ft rfl e248 (by go_simp)) (hK _ _ (GV.refl _ _ _ _) rfl)
      refine zA (λ a W hf hS hd K hK=>?_) ?_
      · have e245:a.eval (.tmp 245)=.bool true:=(hd 16 (by decide+kernel)).get (s:=245) rfl;have e247:a.eval (.tmp 247)=.string (tx l1):=(hd 18 (by decide+kernel)).get (s:=247) rfl;have e249:a.eval (.tmp 249)=.string (tx l2):=(hd 20 (by decide+kernel)).get (s:=249) rfl;exact Cq (A6 rfl rfl e245) rfl Rm (ps:= [.tmp 247,.tmp 249]) rfl (cs:= [.string (tx l1),.string (tx l2)]) (by simp only [aG,aH,e247,e249]) (by intro u hu; simp only [aJ,aK,or_false] at hu; rcases hu with rfl | rfl <;> exact ⟨rfl,rfl⟩) rfl (by decide) (by decide) (HZD.o W hS).1 (HZD.o W hS).2 hK
      refine zA (λ a W hf hS hd K hK=>?_) ?_
      · have e245:a.eval (.tmp 245)=.bool true:=(hd 16 (by decide+kernel)).get (s:=245) rfl;have e20:a.eval (.tmp 20)=.pointer (some ⟨p,0,none⟩):=hf.lit 20 (by decide) rfl;exact A5 (v:=.pointer (some ⟨p,2,none⟩)) (A6 rfl rfl e245) (Er rfl e20 (by go_simp)) (hK _ _ (GV.refl _ _ _ _) rfl)
      refine zA (λ a W hf hS hd K hK=>?_) ?_
      · have e245:a.eval (.tmp 245)=.bool true:=(hd 16 (by decide+kernel)).get (s:=245) rfl;have e251:a.eval (.tmp 251)=.pointer (some ⟨p,2,none⟩):=(hd 22 (by decide+kernel)).get (s:=251) rfl;have hc:W.cell? ⟨p,2,none⟩=some (.int .i64 x3):=((HR.o W hS).blkAt 0 rfl).cell 2;exact A5 (v:=.int .i64 x3) (A6 rfl rfl e245) (Ft rfl e251 (by go_simp)) (hK _ _ (GV.refl _ _ _ _) rfl)
      refine zA (λ a W hf hS hd K hK=>?_) ?_
      · have e245:a.eval (.tmp 245)=.bool true:=(hd 16 (by decide+kernel)).get (s:=245) rfl;have e252:a.eval (.tmp 252)=.int .i64 x3:=(hd 23 (by decide+kernel)).get (s:=252) rfl;exact Cq (A6 rfl rfl e245) rfl Nh (ps:= [.tmp 252]) rfl (cs:= [.int .i64 x3]) (by simp only [aG,aH,e252]) (by intro u hu; simp only [aJ,aK,or_false] at hu; rcases hu with rfl <;> exact ⟨rfl,rfl⟩) rfl (by decide) (by decide) (HZD.o W hS).1 (HZD.o W hS).2 hK
      refine zA (λ a W hf hS hd K hK=>?_) ?_
      · have e245:a.eval (.tmp 245)=.bool true:=(hd 16 (by decide+kernel)).get (s:=245) rfl;have d250:=(hd 21 (by decide+kernel)).get (s:=250) rfl;have d253:=(hd 24 (by decide+kernel)).get (s:=253) rfl;exact Eg (A6 rfl rfl e245) rfl Ds (vs:=#[a.eval (.tmp 250),a.eval (.tmp 253)]) (by first | (simp only [aW,aG,aH]; done) | (simp only [aW,aG,aH]; rfl)) (u:=(.bool ([tx l1,tx l2].all As&& [x3].all Bi))) (Fo [tx l1,tx l2] [x3] _ _ W d250.1 d253.1 HSZ.o) (HZD.o W hS).1 hK
      refine zA (λ a W hf hS hd K hK=>?_) ?_
      · have e245:a.eval (.tmp 245)=.bool true:=(hd 16 (by decide+kernel)).get (s:=245) rfl;have d254:=(hd 25 (by decide+kernel)).get (s:=254) rfl;exact A5 (Ag rfl) (Ic rfl e245 rfl) (hK _ _ (GV.refl _ _ _ _) d254)
      refine zA (λ a W hf hS hd K hK=>?_) ?_
      · have e2:a.eval (.tmp 2)=.pointer (some ⟨q,0,none⟩):=hf.lit 2 (by decide) rfl;have d243:=(hd 14 (by decide+kernel)).get (s:=243) rfl;obtain ⟨cur,hc1,hc2⟩:=(HR.o W hS).len;rw [<-HXE.o] at d243;exact Dl (Ag rfl) rfl e2 d243 hc1 hc2 HFq.o hK
      refine zA (λ a W hf hS hd K hK=>?_) ?_
      · have d255:=(hd 26 (by decide+kernel)).get (s:=255) rfl;exact A5 (Ag rfl) (Ib rfl rfl) (hK _ _ (GV.refl _ _ _ _) d255)
      exact Ce.nil
    · intro a W hf hS hp;have h3:=(hp 28 (by decide)).get (s:=3) rfl;obtain ⟨v,cs,h5,h6⟩:=(hp 27 (by decide)).fin;have e2:a.eval (.tmp 2)=.pointer (some ⟨q,0,none⟩):=hf.lit 2 (by decide) rfl;go_wp2_with fail;refine bodyPost_ret (An rfl Aq (show a.tmps.getD 2 undef=_ from e2) h6.length h5.cellsAll) hf.defers ⟨cs,?_,?_,(HR.o W hS).below⟩
      · rw [HBE.o,show a.tmps.getD 3 undef=.bool ([tx l1,tx l2].all As&& [x3].all Bi) from h3]
      · exact h6.mono (λ b hb=>by have:=HQW.o; omega)
end Go.Proofs.YtnihelcjmahmnaaGreat
namespace Go.Proofs.YtnihelcjmahmnaaGreat
open Go.RowKit Go.Maps
section
section
open Go.WideElems Go.MapKept Go.ChangeMaps Go.ChangeShapes Go.WideShapes
variable {P:bX} {w:bS} {t k e:bT}
end
open Go.MapKept
theorem V1 {H:Type} {P:bX} {k:bT} {R:bR->Option (DataW H×List MemPlace)} {w w':bS} {b n:Nat} {D:DataW H} {S:Nat->Prop} (h:w.ownsMap P k R b n D) (hk:Ai S w w') (hb:¬S b):w'.ownsMap P k R b n D:=by
  obtain ⟨es,clock,h1,hr⟩:=h;exact ⟨es,clock,(hk.block b hb).trans h1,hr⟩
theorem Yd {w w':bS} {b:Nat} (hg:w.grownBy w' (some b)):Ai (λ k=>k=b\/w.heap.size<=k) w w':=
  (Ai.refl _ _).grown hg (λ k hk=>.inr hk) (λ k hk=>by simp only [Option.some.injEq] at hk; exact .inl hk.symm)
end
end Go.Proofs.YtnihelcjmahmnaaGreat
namespace Go.Proofs.YtnihelcjmahmnaaGreat
open Go.RowKit Go.Maps Go.MapKept Go.WideMaps
section
def A2x (v:bR):Option (DataW bR×List MemPlace):=some (.held v, [])
section
variable {α:Type} {kL:α->Lit}
def Xv (kL:α->Lit) (x:α×bR):Lit×DataW bR:=(kL x.1,.held x.2)
def Uz [DecidableEq α] (kL:α->Lit):Prop:=∀a b,(kL a).sameKey (kL b)=decide (a=b)
def Ks (kL:α->Lit) (D:DataW bR) (M:List (α×bR)):Prop:=M.Pairwise (λ x y=>x.1≠y.1)/\∃es,D=.map es/\es.Perm (M.map (Xv kL))
theorem Ks.nil:Ks kL (.map []) []:=⟨.nil, [],rfl,.refl _⟩
def Iz [DecidableEq α] {β:Type} (M:List (α×β)) (s:α):Bool:=M.any λ x=>decide (x.1=s)
def Kr [DecidableEq α] {β:Type} (M:List (α×β)) (s:α):List (α×β):=M.filter λ x=>decide (x.1≠s)
def J8 [DecidableEq α] {β:Type} (M:List (α×β)) (s:α) (v:β):List (α×β):=Kr M s++ [(s,v)]
def J4 [DecidableEq α] {β:Type} (M:List (α×β)) (s:α) (z:β):β:=match M.find? λ x=>decide (x.1=s) with | some x=>x.2 | none=>z
theorem Ks.has [DecidableEq α] {D:DataW bR} {M:List (α×bR)} (h:Ks kL D M) (hk:Uz kL) (s:α):Maps.has D (kL s)=Iz M s:=by
  obtain ⟨_,es,rfl,hp⟩:=h;rw [Maps.has_eq];unfold Iz;rw [Bool.eq_iff_iff,aS,aS];constructor
  · rintro ⟨p,hp1,hp2⟩;obtain ⟨x,hx,rfl⟩:=List.mem_map.1 (hp.mem_iff.1 hp1);exact ⟨x,hx,by rw [<-hp2]; exact (hk _ _).symm⟩
  · rintro ⟨x,hx,h2⟩;exact ⟨Xv kL x,hp.mem_iff.2 (List.mem_map.2 ⟨x,hx,rfl⟩),by rw [<-h2]; exact hk _ _⟩
theorem Ks.size {D:DataW bR} {M:List (α×bR)} (h:Ks kL D M):Maps.size D=M.length:=by
  obtain ⟨_,es,rfl,hp⟩:=h;rw [Maps.size_eq,hp.length_eq,List.length_map]
theorem A3y {β:Type} {M:List (α×β)} (h:M.Pairwise (λ x y=>x.1≠y.1)):∀ {x y:α×β},x∈M->y∈M->x.1=y.1->x=y:=by
  induction M with
  | nil=>intro x y hx; cases hx
  | cons a M ih=>
    obtain ⟨h1,h2⟩:=List.pairwise_cons.1 h;intro x y hx hy he;rcases List.mem_cons.1 hx with e1 | hx2
    · rcases List.mem_cons.1 hy with e2 | hy2
      · rw [e1,e2]
      · exact (h1 y hy2 (by rw [<-e1]; exact he)).elim
    · rcases List.mem_cons.1 hy with e2 | hy2
      · exact (h1 x hx2 (by rw [<-e2]; exact he.symm)).elim
      · exact ih h2 hx2 hy2 he
theorem Ks.at_mem [DecidableEq α] {D:DataW bR} {M:List (α×bR)} (h:Ks kL D M) (hk:Uz kL) {x:α×bR} (hx:x∈M) (z:DataW bR):D.atKey (kL x.1) z=.held x.2:=by
  obtain ⟨hd,es,rfl,hp⟩:=h;unfold DataW.atKey;simp only
  cases hf:es.find? λ p=>p.1.sameKey (kL x.1) with
  | none=>
    have:=List.find?_eq_none.1 hf (Xv kL x) (hp.mem_iff.2 (List.mem_map.2 ⟨x,hx,rfl⟩));rw [show (Xv kL x).1=kL x.1 from rfl,hk] at this;simp at this
  | some p=>
    have h1:=aX hf;have h2:=aY hf;obtain ⟨y,hy,rfl⟩:=List.mem_map.1 (hp.mem_iff.1 h2);rw [show (Xv kL y).1=kL y.1 from rfl,hk] at h1;rw [A3y hd hx hy (by simpa using (of_decide_eq_true h1).symm)];rfl
theorem Ks.at_no [DecidableEq α] {D:DataW bR} {M:List (α×bR)} (h:Ks kL D M) (hk:Uz kL) {s:α} (hs:Iz M s=false) (z:DataW bR):D.atKey (kL s) z=z:=by
  have hh:=h.has hk s;obtain ⟨hd,es,rfl,hp⟩:=h;rw [hs,Maps.has_eq] at hh;unfold DataW.atKey;simp only;rw [List.find?_eq_none.2 λ p hp2=>by
    have:=List.any_eq_false.1 hh p hp2;simpa using this]
theorem Nm [DecidableEq α] {β:Type} {M:List (α×β)} {s:α} (h:Iz M s=true) (z:β):(s,J4 M s z)∈M:=by
  unfold Iz at h;unfold J4
  cases hf:M.find? λ x=>decide (x.1=s) with
  | none=>
    obtain ⟨x,hx,hs⟩:=List.any_eq_true.1 h;exact (List.find?_eq_none.1 hf x hx hs).elim
  | some x=>
    have h1:=aX hf;have h2:=aY hf
    have:x.1=s:=by simpa using h1
    subst this;exact h2
theorem Qx [DecidableEq α] {β:Type} {M:List (α×β)} {s:α} (h:Iz M s=false) (z:β):J4 M s z=z:=by
  unfold J4;rw [List.find?_eq_none.2 λ x hx=>by
    have:=List.any_eq_false.1 h x hx;simpa using this]
theorem Ks.at [DecidableEq α] {D:DataW bR} {M:List (α×bR)} (h:Ks kL D M) (hk:Uz kL) (s:α) (z:bR):D.atKey (kL s) (.held z)=.held (J4 M s z):=by
  cases hs:Iz M s with
  | false=>rw [h.at_no hk hs,Qx hs]
  | true=>exact h.at_mem hk (Nm hs z) _
theorem Xz [DecidableEq α] (hk:Uz kL) (M:List (α×bR)) (s:α):(M.map (Xv kL)).filter (λ p=> !p.1.sameKey (kL s))=(Kr M s).map (Xv kL):=by
  unfold Kr;rw [aZ];congr 1;apply List.filter_congr;intro x _;simp only [Function.comp,Xv,hk _ _];by_cases h:x.1=s <;> simp [h]
theorem Ks.put [DecidableEq α] {D:DataW bR} {M:List (α×bR)} (h:Ks kL D M) (hk:Uz kL) (s:α) (v:bR):Ks kL (D.put (kL s) (.held v)) (J8 M s v):=by
  obtain ⟨hd,es,rfl,hp⟩:=h;refine ⟨?_,_,rfl,(WideShapes.insert_perm _ _).trans ?_⟩
  · unfold J8;rw [List.pairwise_append];refine ⟨hd.filter _,by simp,λ x hx y hy=>?_⟩;simp only [bA] at hy;subst hy;simpa using (List.mem_filter.1 hx).2
  · unfold J8;rw [bB,<-Xz hk];refine .trans ?_ List.perm_append_comm;exact (hp.filter _).cons _
theorem Y2 [DecidableEq α] {β:Type} (M:List (α×β)) (s:α) (v:β):(J8 M s v).length<=M.length+1:=by
  unfold J8 Kr
  have:=List.length_filter_le (λ x:α×β=>decide (x.1≠s)) M;rw [bC,List.length_singleton];omega
theorem A2G [DecidableEq α] {β γ:Type} (f:β->γ) (M:List (α×β)) (s:α):Kr (M.map λ x=>(x.1,f x.2)) s=(Kr M s).map λ x=>(x.1,f x.2):=by
  unfold Kr;rw [aZ];rfl
theorem A3T [DecidableEq α] {β γ:Type} (f:β->γ) (M:List (α×β)) (s:α) (v:β):J8 (M.map λ x=>(x.1,f x.2)) s (f v)=(J8 M s v).map λ x=>(x.1,f x.2):=by
  unfold J8;rw [A2G,bB];rfl
theorem X3 [DecidableEq α] {β γ:Type} (f:β->γ) (M:List (α×β)) (s:α):Iz (M.map λ x=>(x.1,f x.2)) s=Iz M s:=by
  unfold Iz;rw [List.any_map];rfl
theorem A3r [DecidableEq α] {β γ:Type} (f:β->γ) (M:List (α×β)) (s:α) (z:β):J4 (M.map λ x=>(x.1,f x.2)) s (f z)=f (J4 M s z):=by
  cases h:Iz M s with
  | false=>rw [Qx h,Qx (by rw [X3]; exact h)]
  | true=>
    unfold J4;rw [List.find?_map];have h1:∃x,(M.find? λ x=>decide (x.1=s))=some x:=by
      cases hf:M.find? λ x=>decide (x.1=s) with
      | none=>
        obtain ⟨x,hx,hs⟩:=List.any_eq_true.1 h;exact (List.find?_eq_none.1 hf x hx hs).elim
      | some x=>exact ⟨x,rfl⟩
    obtain ⟨x,hx⟩:=h1
    have:(M.find? ((λ x:α×γ=>decide (x.1=s))∘λ x:α×β=>(x.1,f x.2)))=some x:=hx;rw [this,hx];rfl
theorem X4 [DecidableEq α] {β:Type} (M:List (α×β)) (s t:α) (v:β):Iz (J8 M s v) t=(decide (s=t)||Iz M t):=by
  unfold J8 Iz Kr;rw [List.any_append,Bool.eq_iff_iff];simp only [Bool.or_eq_true,aS,List.mem_filter,bA,decide_eq_true_eq];constructor
  · rintro (⟨x,⟨h1,h2⟩,h3⟩ | ⟨x,rfl,h⟩)
    · exact .inr ⟨x,h1,h3⟩
    · exact .inl h
  · rintro (h | ⟨x,h1,h2⟩)
    · exact .inr ⟨_,rfl,h⟩
    · by_cases e:x.1=s
      · exact .inr ⟨_,rfl,e.symm.trans h2⟩
      · exact .inl ⟨x,⟨h1,e⟩,h2⟩
theorem Ue [DecidableEq α] {β:Type} {s t:α} (h:¬s=t):∀M:List (α×β),((Kr M s).find? λ x=>decide (x.1=t))=M.find? λ x=>decide (x.1=t)
  | []=>rfl
  | x::M=>by
    unfold Kr;rw [List.filter_cons];have ih:=Ue h M;unfold Kr at ih;by_cases e:x.1=s
    · have e3:decide (x.1=t)=false:=by simp; exact λ e2=>h (e.symm.trans e2)
      rw [if_neg (by simp [e]),ih,aM,e3]
    · simp only [ne_eq,e,not_false_eq_true,decide_true,if_true,aM];rw [ih]
theorem X2 [DecidableEq α] {β:Type} (M:List (α×β)) (s t:α) (v z:β):J4 (J8 M s v) t z=if s=t then v else J4 M t z:=by
  unfold J4 J8;rw [List.find?_append];by_cases h:s=t
  · subst h
    have:((Kr M s).find? λ x=>decide (x.1=s))=none:=by
      rw [List.find?_eq_none];intro x hx
      have:=(List.mem_filter.1 hx).2;simpa using this
    simp [this,aM]
  · rw [Ue h,if_neg h]
    cases M.find? λ x=>decide (x.1=t) with
    | some x=>rfl
    | none=>simp [aM,h]
theorem Yp [DecidableEq α] {β:Type} {M:List (α×β)} {s:α} {v:β} {x:α×β} (h:x∈J8 M s v):x=(s,v)\/x∈M/\x.1≠s:=by
  rcases List.mem_append.1 h with h | h
  · exact .inr ⟨(List.mem_filter.1 h).1,by simpa using (List.mem_filter.1 h).2⟩
  · exact .inl (List.mem_singleton.1 h)
def Yn (P:bX) (k:bT) (kL:α->Lit) (b:Nat) (M:List (α×bR)):Res where
  holds W F:=(∃D,Ks kL D M/\W.ownsMap P k A2x b (Maps.size D) D)/\∀x,F x↔x=b
  frame:=by
    rintro W W' F S ⟨⟨D,h1,h2⟩,hf⟩ hk hs;exact ⟨⟨D,h1,V1 h2 hk (hs b ((hf b).2 rfl))⟩,hf⟩
  lt:=by
    rintro W F x ⟨⟨D,_,⟨es,clock,h1,_⟩⟩,hf⟩ hx;rw [(hf x).1 hx];exact F7 h1
theorem R9 {P:bX} {k:bT} {w:bS} {b n:Nat} {D:DataW bR} (h:w.ownsMap P k A2x b n D):w.ownsMap P k A2x b (Maps.size D) D:=by
  obtain ⟨es,clock,h1,h2,h3,rfl⟩:=h;exact ⟨es,clock,h1,h2,by rw [Maps.size_eq,length_read]; exact aC _,rfl⟩
def Q7 (P:bX) (k:bT) (kL:α->Lit) (W:bS) (b:Nat) (M:List (α×bR)):Prop:=∃D,Ks kL D M/\W.ownsMap P k A2x b (Maps.size D) D
theorem Ac.mapVOf {W:bS} {l:List Res} (h:Ac W l) {P:bX} {k:bT} {b:Nat} {M:List (α×bR)} (hm:Yn P k kL b M∈l):Q7 P k kL W b M:=by
  obtain ⟨F,hr⟩:=h.get hm;exact hr.1
theorem Ac.mapVTurn {W W':bS} {l:List Res} {P:bX} {k:bT} {b:Nat} {M M':List (α×bR)} (h:Ac W (Yn P k kL b M::l)) (ho:Q7 P k kL W' b M') (ht:Ai (λ k=>k=b\/W.heap.size<=k) W W'):Ac W' (Yn P k kL b M'::l):=
  h.turn λ F hF=>⟨F,⟨ho,hF.2⟩,λ b hb=>.inl hb,ht.mono λ k hk=>hk.elim (λ e=>.inl ((hF.2 k).2 e)) .inr⟩
theorem Ac.mapVMade {W:bS} {l:List Res} (h:Ac W l) (P:bX) (k:bT) (kL:α->Lit):Ac (W.alloc (.map #[] 0)) (Yn P k kL W.heap.size []::l):=
  h.new ((aE _ _).alloc (aC _) _) (F:=λ x=>x=W.heap.size) ⟨⟨.map [],Ks.nil,bS.ownsMap_made W P k A2x⟩,λ _=>Iff.rfl⟩ (λ b hb=>by omega)
section
variable {P:bX} (w:bS) {ops:Array Oper} {rest:List Oper} {o:Oper} {a:Act} {Q:Exit->Act->bS->Prop}
end
section
variable {P:bX} (w:bS) {ops:Array Oper} {rest:List Oper} {o:Oper} {a:Act} {Q:Exit->Act->bS->Prop}
end
end
end
end Go.Proofs.YtnihelcjmahmnaaGreat
namespace Go.Proofs.YtnihelcjmahmnaaGreat
open Go.RowKit Go.Maps
theorem A6s:WideMaps.KeyLaw aA 351:=deep_law (m:=3) (by omega) (by kernel_rfl) (by kernel_rfl) (by rw [aN])
theorem A1H:Keyed aA 351:=Keyed.of_law A6s
structure Fk where
  of_:List UInt8
  label:ByteArray
  text:Bool
  hof:of_.length=16
  hlab:label.size<=maxLen
def Fk.cells (f:Fk):List bR:=Ab f.of_++ [.string f.label,.bool f.text]
def Fk.lits (f:Fk):List Lit:=f.of_.map (λ b=>Lit.int .u8 (b.toNat:Int))++ [.string f.label.data.toList,.bool f.text]
def frL (f:Fk):Lit:=.string (keyBytes f.lits)
instance:DecidableEq Fk:=λ a b=>decidable_of_iff (a.of_=b.of_/\a.label=b.label/\a.text=b.text) ⟨λ h=>by cases a; cases b; simp_all,λ h=>by subst h; simp⟩
theorem A6u:351<Tryz.prog.types.size:=of_decide_eq_true (by kernel_rfl)
theorem Yf (m:Nat) (k:List UInt8) (hk:k.length=16):Tryz.prog.keyLits (m+2) 35 (Ab k)=some (k.map λ b=>Lit.int .u8 (b.toNat:Int)):=by
  have hsz:Tryz.prog.cellsOf 35=16:=by kernel_rfl
  have c1:Tryz.prog.cellsOf 5=1:=by kernel_rfl
  have hl:(Ab k).length=16:=by rw [Aa,hk]
  have one:∀b:UInt8,Tryz.prog.keyLits (m+1) 5 [.int .u8 (b.toNat:Int)]=some [.int .u8 (b.toNat:Int)]:=by
    intro b;unfold bX.keyLits;simp only [Tryz.underlying5];have hlt:=b.toNat_lt;have hwf:(Lit.int .u8 (b.toNat:Int)).wf=true:=by
      simp only [Lit.wf,Bool.and_eq_true,decide_eq_true_eq];rw [show bW.u8.min=0 from rfl,show bW.u8.max=255 by decide];omega
    simp only [hwf,and_self,if_true]
  unfold bX.keyLits;simp only [Tryz.underlying35];rw [if_pos (by rw [hsz]; exact hl)];simp only [c1]
  match k,hk with
  | [a0,a1,a2,a3,a4,a5,a6,a7,a8,a9,a10,a11,a12,a13,a14,a15],_=>
    simp [aT,List.range.loop,Ab,bV,one,bD]
theorem A0D (m:Nat) (f:Fk):Tryz.prog.keyLits (m+3) 351 f.cells=some f.lits:=by
  have hsz:Tryz.prog.cellsOf 351=18:=by kernel_rfl
  have s1:Tryz.prog.cellsOf 35=16:=by kernel_rfl
  have s2:Tryz.prog.cellsOf 9=1:=by kernel_rfl
  have s3:Tryz.prog.cellsOf 4=1:=by kernel_rfl
  have hl:(Ab f.of_).length=16:=by rw [Aa,f.hof]
  have hlc:f.cells.length=18:=by simp [Fk.cells,hl]
  have h2:Tryz.prog.keyLits (m+2) 9 [.string f.label]=some [.string f.label.data.toList]:=by
    unfold bX.keyLits;simp only [Tryz.underlying9,if_pos f.hlab]
  have h3:Tryz.prog.keyLits (m+2) 4 [.bool f.text]=some [.bool f.text]:=by
    unfold bX.keyLits;simp only [Tryz.underlying4]
  have e1:f.cells.take 16=Ab f.of_:=by simp [Fk.cells,<-hl]
  have e2:(f.cells.drop 16).take 1= [.string f.label]:=by simp [Fk.cells,<-hl]
  have e3:(f.cells.drop 17).take 1= [.bool f.text]:=by
    rw [Fk.cells,List.drop_append,aD (by omega),hl];rfl
  unfold bX.keyLits;simp only [aN];rw [if_pos ⟨by rw [hsz]; exact hlc,by decide+kernel⟩];simp [bD,s1,s2,s3,e1,e2,e3,h2,h3,Yf m f.of_ f.hof,Fk.lits]
theorem A5B (f:Fk):keyOf aA 351 (.agg f.cells.toArray)=some (frL f):=by
  have hkt:Tryz.prog.keyType 351=true:=by kernel_rfl
  have hsz:Tryz.prog.cellsOf 351=18:=by kernel_rfl
  obtain ⟨m,hm⟩:∃m,Tryz.prog.types.size=m+2:=⟨Tryz.prog.types.size-2,by have:=A6u; omega⟩
  have hlc:f.cells.length=18:=by simp [Fk.cells,Aa,f.hof]
  unfold keyOf;simp only [aN];rw [if_pos (by simp [hkt,bR.formed,aN,hsz,hlc]),hm];simp only [bR.cells];rw [A0D m f];rfl
theorem Fk.eq {a b:Fk} (h1:a.of_=b.of_) (h2:a.label=b.label) (h3:a.text=b.text):a=b:=by
  cases a
  cases b
  simp_all
theorem A4F {a b:Fk} (e:frL a=frL b):a=b:=by
  have e2:=keyLits_inj (A0D 0 a) (A0D 0 b) (by unfold frL at e; injection e);have hs:(a.of_.map (λ b=>Lit.int .u8 (b.toNat:Int))).length=(b.of_.map (λ b=>Lit.int .u8 (b.toNat:Int))).length:=by simp [a.hof,b.hof]
  have hm:=(bE e2 hs).1;have ht:=(bE e2 hs).2;simp only [List.cons.injEq,Lit.string.injEq,Lit.bool.injEq,and_true] at ht;have ho:a.of_=b.of_:=by
    refine (List.map_inj_right (λ x y hxy=>?_)).1 hm;simp only [Lit.int.injEq,true_and] at hxy;exact UInt8.toNat_inj.1 (by omega)
  refine Fk.eq ho ?_ ht.2;have hl:=ht.1
  cases ha:a.label
  cases hb:b.label
  rw [ha,hb] at hl;exact congrArg ByteArray.mk (Array.toList_inj.1 hl)
theorem A5A:Uz frL:=by
  intro a b;by_cases h:a=b
  · subst h;simp [Lit.sameKey,frL]
  · have:¬frL a=frL b:=λ e=>h (A4F e)
    simp only [h,decide_false];unfold frL at this ⊢;simp only [Lit.string.injEq] at this;simp [Lit.sameKey,this]
end Go.Proofs.YtnihelcjmahmnaaGreat
namespace Go.Proofs.YtnihelcjmahmnaaGreat
open Go.RowKit
def B2 (k:UInt8) (n:Nat):List UInt8:= [255,254,k,0,0,0,0,0]++B7 n
theorem Av (k:UInt8) (n:Nat):(B2 k n).length=16:=by simp [B2,Bd]
theorem A3g (n:Nat) (hn:n<9223372036854775808) (w:bS):bW.u64.wrap (n:Int)=n:=by
  rw [bW.wrap_u64];omega
def Qs (w:bS) (k:UInt8) (n:Nat) (e:Ending) (w':bS):Prop:=e=.returned (Ax (B2 k n))/\Below w.heap.size w w'
theorem Ns (k:UInt8) (n:Nat) (hn:n<9223372036854775808) (w:bS): bU aA 194 #[.int .u8 k.toNat,.int .i64 n] w (Qs w k n):=by
  have B0:=hqZ (((Blk.new w A3 35).alloc (.cells A3.toArray 35)).alloc (.cells #[.int .u8 255,.int .u8 254,.int .u8 k.toNat] 5));have B1:Hq (Blk (((w.alloc (.cells A3.toArray 35)).alloc (.cells A3.toArray 35)).alloc (.cells #[.int .u8 255,.int .u8 254,.int .u8 k.toNat] 5)) (w.heap.size+1) A3 35):=hqZ ((Blk.at_ (cs:=A3.toArray) (by simp)).alloc _);have HS:Hq (Bs (((w.alloc (.cells A3.toArray 35)).alloc (.cells A3.toArray 35)).alloc (.cells #[.int .u8 255,.int .u8 254,.int .u8 k.toNat] 5)) (.slice (some ⟨w.heap.size+1+1,0,none⟩) 3 3) [255,254,k]):=hqZ (Bs.lit [255,254,k] (by simp) rfl (by simp [maxLen]));have HB:Hq (Below w.heap.size w (((w.alloc (.cells A3.toArray 35)).alloc (.cells A3.toArray 35)).alloc (.cells #[.int .u8 255,.int .u8 254,.int .u8 k.toNat] 5))):=hqZ ((((aE _ _).alloc (aC _) _).alloc (by simp) _).alloc (by simp; omega) _);have HN:=hqZ hn;have HW:=hqZ (A3g n hn w);clear hn;go_enter Tryz.func194,Tryz.ntmps194;go_wp2_with ((with_reducible refine zw 9 ?_);refine Pf rfl (.tmp 6) (.tmp 8) Cl rfl rfl B1.o rfl HS.o (by simp [A3]) ?_);intro w1 h1 k1;have h1':Blk w1 (w.heap.size+1) (Ab [255,254,k,0,0,0,0,0,0,0,0,0,0,0,0,0]) 35:=by simpa [A3,Ab,bV] using h1
  have B0':=hqZ ((B0.o.keep k1 (by omega)).drew);have H1:=hqZ h1'.drew;have hsz:w.heap.size+1<w1.heap.size:=h1'.lt;have HB1:Hq (Below w.heap.size w w1.drew):=hqZ ((HB.o.trans (k1.below (by omega))).drew);clear h1 h1' k1 B0 B1 HS HB;go_wp2_with fail;refine wp_region_any (by kernel_rfl) ?_;change wpAny _ _ _ _ _ _ _ (bS.drew _);refine wpAny_take (i:=0) (oi:=⟨some 10,_,_,_,_,none⟩) (v:=.slice (some ⟨w.heap.size+1,8,none⟩) 8 8) rfl (by kernel_rfl) (by kernel_rfl) (by kernel_rfl) (λ _ _ _ h=>h) (Or.inl ⟨by rfl,by intro w; go_simp⟩) ?_;try go_frame
  refine wpAny_take (i:=1) (oi:=⟨some 11,_,_,_,_,none⟩) (v:=.int .i64 n) rfl (by kernel_rfl) (by kernel_rfl) (by kernel_rfl) (λ _ _ _ h=>h) (Or.inl ⟨by rfl,by intro w; go_simp⟩) ?_;try go_frame
  refine wpAny_take (i:=2) (oi:=⟨some 12,_,_,_,_,none⟩) (v:=.int .u64 n) rfl (by kernel_rfl) (by kernel_rfl) (by kernel_rfl) (λ _ _ _ h=>h) (Or.inl ⟨by rfl,by intro w; go_simp; exact HW.o⟩) ?_;try go_frame
  refine wpAny_ready (rs:= [3]) (by decide+kernel) (by simp) ?_;refine AllReady.cons (o:=⟨some 13,.call { callee:=.value (.func 127),args:=#[.tmp 12],argTypes:=#[105] },_,_,_,none⟩) rfl (λ K hK=>?_) AllReady.nil;go_simp;refine (L8 n _).mono ?_;rintro e w2 ⟨rfl,ho,hb,_⟩;have hz2:=hb.size;try simp at hz2
  have B0':=hqZ (B0'.o.below hb (by simp; omega));have H1:=hqZ (H1.o.below hb (by simp; omega));have HB1:Hq (Below w.heap.size w w2):=hqZ (HB1.o.trans (hb.mono (by simp; omega)));have HP:=hqZ ho.bs;clear ho hb;refine zqp hK ?_;clear hK K;refine wpAny_ready (rs:= [4]) (by decide+kernel) (by simp) ?_;refine AllReady.cons (o:=⟨some 14,.call { callee:=.builtin .copy,args:=#[.tmp 10,.tmp 13],argTypes:=#[22,22] },_,_,_,none⟩) rfl (λ K hK=>?_) AllReady.nil;refine A5l rfl (.tmp 10) (.tmp 13) Cl rfl H1.o rfl rfl HP.o (by rw [Bd]; simp [Ab]) ?_;intro w3 h3 k3;have h3':Blk w3 (w.heap.size+1) (Ab (B2 k n)) 35:=by
    have e:(Ab (B7 n)).take (min (B7 n).length 8)=Ab (B7 n):=aO (by rw [Aa,Bd]; decide);rw [e,Bd] at h3;rw [B2,Dr];simpa [Ab] using h3
  have B0':=hqZ (B0'.o.keep k3 (by omega));have H1:=hqZ h3';have HB1:Hq (Below w.heap.size w w3):=hqZ (HB1.o.trans (k3.below (by omega)));have hz3:=k3.size;clear h3 h3' k3;refine zqp hK ?_;clear hK K;refine wpAny_done (by decide+kernel) ?_ _;have HBL:Hq ((Ab (B2 k n)).length=16):=hqZ (by rw [Aa,Av]);go_wp2_with (first | ((with_reducible refine zw 15 ?_);refine Ah rfl (.tmp 5) Al rfl rfl (cs:=Ab (B2 k n)) HBL.o H1.o.cellsAll ?_) | ((with_reducible refine zws 4 15 ?_);refine Af rfl (.tmp 4) (.tmp 15) Al rfl rfl (vs:=Ab (B2 k n)) rfl HBL.o B0'.o (aC _) (Aj _) ?_));intro w5 h5 k5;have h5':Blk w5 w.heap.size (Ab (B2 k n)) 35:=by simpa [A3] using h5
  have H5:=hqZ h5';have HB5:Hq (Below w.heap.size w w5):=hqZ (HB1.o.trans (k5.below (by omega)));clear h5 h5' k5;go_wp2_with fail;exact bodyPost_ret (Aw rfl Al rfl (cs:=Ab (B2 k n)) HBL.o H5.o.cellsAll) rfl ⟨rfl,HB5.o⟩
def A2Q (w:bS) (b:List UInt8) (e:Ending) (w':bS):Prop:=
  ∃v,e=.returned v/\B6 w' w.heap.size v b/\(∀i,v.ownBlock=some i->w.heap.size<=i/\i<w'.heap.size)/\Below w.heap.size w w'
theorem Jm (v:bR) (b:List UInt8) (w:bS) (h:Bs w v b) (hl:b.length<=1099511627776): bU aA 193 #[v] w (A2Q w b):=by
  obtain ⟨a,c,rfl,hc,hm⟩:=h.form;have q22:∀(w:bS) (a:Option Addr) (n c n' c':Nat),(binOp .eql 22 (.slice a n c) (.slice none n' c')).run aA w=.ok (.bool a.isNone) w:=λ w a n c n' c'=>Lib.run_eql_slice_nil w _ _ a n c n' c' Tryz.underlying22
  have HS:Hq (Bs (w.alloc (.cells #[] 5)) (.slice a b.length c) b):=hqZ (h.alloc _);have HLIT:Hq (∀i,(bR.slice (some ⟨w.heap.size,0,none⟩) 0 0).ownBlock=some i->i< (w.alloc (.cells #[] 5)).heap.size):=hqZ (λ i hi=>by simp [bR.ownBlock] at hi; simp; omega);by_cases ha:a=none
  · subst ha;obtain rfl:b= []:=by
      obtain ⟨_,_,a',c',e,h3,_,h5,_⟩:=h;simp only [bR.slice.injEq,true_and] at e;obtain ⟨rfl,rfl⟩:=e
      have:=h5 rfl;exact List.eq_nil_of_length_eq_zero (by omega)
    clear h;go_enter bF,bG;go_wp2_with fail;go_ret;exact ⟨_,rfl,Own.nil _ _ _ _ _,λ i hi=>by simp [bR.ownBlock] at hi,aE _ _⟩
  · obtain ⟨⟨p,o,sp⟩,rfl⟩:=Option.ne_none_iff_exists'.1 ha;clear h ha;go_enter bF,bG;go_wp2_with ((with_reducible refine zw 7 ?_);refine Df rfl (.tmp 5) (.tmp 6) Cl rfl w.heap.size (Own.nil _ _ _ _ _) HLIT.o HS.o (by unfold maxLen; omega) (by omega) (by simp) ?_);intro v1 w1 ho hk hv;have hb1:Below w.heap.size w w1:=((aE _ _).alloc (aC _) _).trans (hk.below (by
      rintro i (h | h)
      · exact h.2
      · try simp at h
        omega))
    have HO:Hq (B6 w1 w.heap.size v1 b):=hqZ (by unfold B6; simpa using ho);have HV:Hq (∀i,v1.ownBlock=some i->w.heap.size<=i/\i<w1.heap.size):=hqZ (λ i hi=>⟨by
      rcases (hv i hi).1 with h | h
      · simp [bR.ownBlock] at h; omega
      · try simp at h
        omega,(hv i hi).2⟩)
    have HB:=hqZ hb1;obtain ⟨a1,c1,rfl,_,_⟩:=ho.sl.form;clear ho hk hv hb1;go_wp2_with fail;go_ret;exact ⟨_,rfl,HO.o,HV.o,HB.o⟩
theorem Rl:Cz aA 36 22 1 24 (.slice none 0 0):=by
  refine Cz.mk Tryz.underlying36 ?_ rfl (by decide)
  kernel_rfl
def Em:List bR->List (List UInt8)->Res
  | [], []=>.emp
  | v::vs,r::rs=>(Res.row v r).star (Em vs rs)
  | _,_=>.pure False
theorem Oc {W:bS} :∀ {vs:List bR} {rs:List (List UInt8)} {l:List Res},Ac W (Em vs rs::l)->∀(j:Nat) {v:bR} {r:List UInt8},vs[j]?=some v->rs[j]?=some r->Bs W v r
  | [],_,_,_,j,_,_,hv,_=>by simp at hv
  | _::_, [],_,_,j,_,_,_,hr=>by simp at hr
  | u::vs,s::rs,l,h,0,v,r,hv,hr=>by
    have h:=Ac.star.1 h;simp at hv hr;subst hv hr;exact h.rowOf (by simp)
  | u::vs,s::rs,l,h,j+1,v,r,hv,hr=>by
    have h:=Ac.star.1 h;exact Oc h.tail j (by simpa using hv) (by simpa using hr)
theorem Fq {W:bS} :∀ {vs:List bR} {rs:List (List UInt8)} {v:bR} {r:List UInt8} {l:List Res},Ac W (Em vs rs::.row v r::l)->Ac W (Em (vs++ [v]) (rs++ [r])::l)
  | [], [],v,r,l,h=>Ac.star.2 (h.perm (.swap _ _ _))
  | [],_::_,_,_,_,h=>(Ac.pure.1 h).1.elim
  | _::_, [],_,_,_,h=>(Ac.pure.1 h).1.elim
  | u::vs,s::rs,v,r,l,h=>by
    have h:=(Ac.star.1 h).push3;exact Ac.star.2 (Fq h).swap
def A5o (p:Nat) (kv bv mp:bR) (sums:List (List UInt8)):Res:=
  .ex λ sv=>.ex λ vs=>.all [.blk p [kv,bv,sv,mp] 122,.own 22 1 sv sums.length vs,Em vs sums]
theorem Ux {W:bS} {p:Nat} {kv bv mp:bR} {sums:List (List UInt8)} {l:List Res} (h:Ac W (A5o p kv bv mp sums::l)): ∃sv vs,Ac W (.blk p [kv,bv,sv,mp] 122::.own 22 1 sv sums.length vs::Em vs sums::l):=by
  obtain ⟨sv,h⟩:=Ac.ex.1 h;obtain ⟨vs,h⟩:=Ac.ex.1 h;exact ⟨sv,vs,Ac.app.1 h⟩
theorem H8 {W:bS} {p:Nat} {kv bv sv mp:bR} {vs:List bR} {sums:List (List UInt8)} {l:List Res} (h:Ac W (.blk p [kv,bv,sv,mp] 122::.own 22 1 sv sums.length vs::Em vs sums::l)): Ac W (A5o p kv bv mp sums::l):=
  Ac.ex.2 ⟨sv,Ac.ex.2 ⟨vs,Ac.app.2 h⟩⟩
def Rk (sums:List (List UInt8)) (b:List UInt8):List (List UInt8):=if b∈sums then sums else sums++ [b]
def Vl (sums:List (List UInt8)) (b:List UInt8):List UInt8:=B2 100 ((Rk sums b).idxOf b+1)
def He (b:UInt8):UInt8:=if 128<=b then (b <<<1) ^^^ 27 else b <<<1
def M5:Nat->UInt8->UInt8->UInt8->UInt8
  | 0,p,_,_=>p
  | n+1,p,a,b=>if b=0 then p else M5 n (if b&&& 1=1 then p ^^^ a else p) (He a) (b >>>1)
def Cs (a b:UInt8):UInt8:=M5 8 0 a b
def Io (q:UInt8):UInt8:=
  let q:=q ^^^ (q <<<1)
  let q:=q ^^^ (q <<<2)
  let q:=q ^^^ (q <<<4)
  if 128<=q then q ^^^ 9 else q
def Qd (q:UInt8):UInt8:=((((q ^^^ ((q <<<1)||| (q >>>7))) ^^^ ((q <<<2)||| (q >>>6))) ^^^ ((q <<<3)||| (q >>>5))) ^^^ ((q <<<4)||| (q >>>4))) ^^^ 99
def C6:Nat->List UInt8×UInt8×UInt8
  | 0=>(aI 256 0,1,1)
  | n+1=>((C6 n).1.set ((C6 n).2.1 ^^^ He (C6 n).2.1).toNat (Qd (Io (C6 n).2.2)),(C6 n).2.1 ^^^ He (C6 n).2.1,Io (C6 n).2.2)
def Ey:List UInt8:=(C6 255).1.set 0 99
theorem Gu (n:Nat):(C6 n).1.length=256:=by
  induction n with
  | zero=>exact List.length_replicate
  | succ n ih=>rw [C6,bH,ih]
theorem N7:Ey.length=256:=by rw [Ey,bH,Gu]
def Kc (was:List UInt8) (r:UInt8):Nat->List UInt8
  | 0=> []
  | i+1=>
    let x:=was.getD i 0 ^^^ (if 4<=i then (Kc was r i).getD (i-4) 0 else Ey.getD (was.getD (12+(i+1) % 4) 0).toNat 0)
    Kc was r i++ [if i=0 then x ^^^ r else x]
theorem Fu (was:List UInt8) (r:UInt8) (n:Nat):(Kc was r n).length=n:=by
  induction n with
  | zero=>rfl
  | succ n ih=>simp [Kc,ih]
def Cm (k:List UInt8):Nat->List (List UInt8)×UInt8
  | 0=>([k],1)
  | n+1=>((Cm k n).1++ [Kc ((Cm k n).1.getD n []) (Cm k n).2 16],He (Cm k n).2)
def M6 (k:List UInt8):List (List UInt8):=(Cm k 10).1
def Vu (s:List UInt8) (t:Nat):List UInt8:=
  let a:=s.getD t 0
  let b:=s.getD (t+1) 0
  let c:=s.getD (t+2) 0
  let d:=s.getD (t+3) 0
  (((s.set t (((Cs a 2 ^^^ Cs b 3) ^^^ c) ^^^ d)).set (t+1) (((a ^^^ Cs b 2) ^^^ Cs c 3) ^^^ d)).set (t+2) (((a ^^^ b) ^^^ Cs c 2) ^^^ Cs d 3)).set (t+3) (((Cs a 3 ^^^ b) ^^^ c) ^^^ Cs d 2)
def T4 (s:List UInt8):List UInt8:=(aT 16).map λ i=>Ey.getD (s.getD ((i+4*(i % 4)) % 16) 0).toNat 0
def A4n (s k:List UInt8):List UInt8:=(aT 16).map λ i=>s.getD i 0 ^^^ k.getD i 0
def Sm (ks:List (List UInt8)) (n:Nat) (s:List UInt8):List UInt8:=
  A4n (if n<10 then Vu (Vu (Vu (Vu (T4 s) 0) 4) 8) 12 else T4 s) (ks.getD n [])
def Gd (ks:List (List UInt8)) (s:List UInt8):Nat->List UInt8
  | 0=>A4n s (ks.getD 0 [])
  | n+1=>Sm ks (n+1) (Gd ks s n)
def Kz (k s:List UInt8):List UInt8:=Gd (M6 k) s 10
theorem Qj (s k:List UInt8):(A4n s k).length=16:=by simp [A4n]
theorem Fc (k s:List UInt8):(Kz k s).length=16:=by simp [Kz,Gd,Sm,Qj]
def Ik (from_:List UInt8):Nat->List UInt8
  | 0=>from_
  | i+1=>if from_.getD i 0+1=0 then Ik (from_.set i 0) i else from_.set i (from_.getD i 0+1)
def Cf (k:List UInt8):Nat->List UInt8->List UInt8->List UInt8
  | 0,_,_=> []
  | n+1,from_,b=>if b.isEmpty=true then [] else aF (λ x y=>x ^^^ y) (b.take 16) (Kz k from_)++Cf k n (Ik from_ 16) (b.drop 16)
def E4 (k from_ b:List UInt8):List UInt8:=Cf k b.length from_ b
theorem Fl (k:List UInt8):∀(n:Nat) (f b:List UInt8),b.length<=n->(Cf k n f b).length=b.length
  | 0,_,b,h=>by simp [Cf]; omega
  | n+1,f,b,h=>by
    unfold Cf;by_cases hb:b.isEmpty=true
    · rw [if_pos hb];simp at hb;simp [hb]
    · rw [if_neg hb,bC,Fl k n _ _ (by simp at hb ⊢; have:=List.length_pos_iff.2 hb; omega)];simp [Fc];omega
theorem Is (k f b:List UInt8):(E4 k f b).length=b.length:=Fl _ _ _ _ (aC _)
theorem A2J (x y:UInt8):x ^^^ y ^^^ y=x:=by
  rw [UInt8.xor_assoc,UInt8.xor_self,UInt8.xor_zero]
theorem Pi:∀(a p:List UInt8),a.length<=p.length->aF (λ x y=>x ^^^ y) (aF (λ x y=>x ^^^ y) a p) p=a
  | [],_,_=>by simp
  | _::_, [],h=>by simp at h
  | a::l,p::ps,h=>by
    simp only [List.zipWith_cons_cons,A2J];rw [Pi l ps (by simpa using h)]
theorem Ls (k:List UInt8):∀(n:Nat) (f b:List UInt8),b.length<=n->Cf k n f (Cf k n f b)=b
  | 0,_,b,h=>by
    have:b= []:=List.length_eq_zero_iff.1 (by omega);simp [Cf,this]
  | n+1,f,b,h=>by
    by_cases hb:b.isEmpty=true
    · simp at hb;subst hb;simp [Cf]
    · have hl:=Fl k (n+1) f b h;have hne:(Cf k (n+1) f b).isEmpty=false:=by
        simp at hb ⊢;intro e;rw [e] at hl;exact hb (List.length_eq_zero_iff.1 hl.symm)
      rw [Cf,if_neg (by simp [hne])];have e:Cf k (n+1) f b=aF (λ x y=>x ^^^ y) (b.take 16) (Kz k f)++Cf k n (Ik f 16) (b.drop 16):=by
        rw [Cf,if_neg hb]
      have hz:(aF (λ x y=>x ^^^ y) (b.take 16) (Kz k f)).length=(b.take 16).length:=by simp [Fc]
      rw [e];by_cases h16:16<=b.length
      · rw [bI (by rw [hz]; simp; omega),aO (by rw [hz]; simp; omega),bJ (by rw [hz]; simp; omega),aD (by rw [hz]; simp; omega),List.nil_append];rw [Pi _ _ (by simp [Fc]; omega),Ls k n _ _ (by simp; omega),List.take_append_drop]
      · have hd:b.drop 16= []:=aD (by omega);have hs:∀g,Cf k n g []= []:=λ g=>by cases n <;> simp [Cf]
        rw [hd,hs,aL,aO (by rw [hz]; simp; omega),aD (by rw [hz]; simp; omega),hs,aL];rw [Pi _ _ (by simp [Fc]; omega),aO (by omega)]
theorem T3 (k f b:List UInt8):E4 k f (E4 k f b)=b:=by
  unfold E4;rw [show (Cf k b.length f b).length=b.length from Fl _ _ _ _ (aC _)];exact Ls k _ f b (aC _)
theorem A1Y {P:bX} {t e:bT} {n:Nat} {i:TypeInfo} (ht:P.underlying t=some (.array n e)) (hi:P.info? e=some i) (hs:i.size=1) (b o:Nat) (k:Int) (w:bS) (h0:0<=k) (h1:k<n): (Instr.indexAt t (.pointer (some ⟨b,o,none⟩)) (.int .i64 k)).run P w=.ok (.pointer (some ⟨b,o+k.toNat,none⟩)) w:=by
  simp [Instr.indexAt,run_underlying ht,asIntOf,Instr.sureAddr,sizeOf,typeInfo,hi,hs,h0,h1,Addr.add_lit]
def wV (x:Int):bR:=.int .u32 x
def A1 (l:List Int):List bR:=l.map wV
theorem Bk (l:List Int):(A1 l).length=l.length:=by simp [A1]
theorem Gt (l:List Int) (k:Nat) (h:k<l.length):(A1 l)[k]?=some (.int .u32 l[k]):=by simp [A1,h,wV]
theorem Kh (l:List Int):∀u∈A1 l,u.oneCell'=true:=by
  intro u hu;obtain ⟨x,_,rfl⟩:=List.mem_map.1 hu;rfl
theorem M7 (l:List Int) (k:Nat) (x:Int):(A1 l).set k (.int .u32 x)=A1 (l.set k x):=by simp [A1,List.map_set,wV]
def tI (x n:Int):Int:=bits .or .u32 (x / 2 ^ n.toNat) (x*2 ^ (32-n).toNat % 4294967296)
theorem Z9 (x n:Int) (w:bS) (hn:0<n) (hn2:n<32): bU aA 167 #[.int .u32 x,.int .i64 n] w λ e w'=>e=.returned (.int .u32 (tI x n))/\w'=w.drew:=by
  go_enter Tryz.func167,Tryz.ntmps167;go_wp2_with fail
  go_region
  all_goals go_wp2_with fail
  all_goals go_ret
  all_goals exact ⟨rfl,rfl⟩
theorem S7 (x n:Int) (w:bS) (j:Nat) (hn:0<n) (hn2:n<32): bU aA 167 #[.int .u32 x,.int .i64 n] (w.drewN j) λ e w'=>e=.returned (.int .u32 (tI x n))/\∃m,w'=w.drewN m:=
  (Z9 x n (w.drewN j) hn hn2).mono (by rintro e w' ⟨rfl,rfl⟩; exact ⟨rfl,j+1,rfl⟩)
theorem A4I (b k:Nat) (hk:k<64) (w:bS):(Instr.indexAt 329 (.pointer (some ⟨b,0,none⟩)) (.int .i64 k)).run aA w=.ok (.pointer (some ⟨b,k,none⟩)) w:=by
  have:=A1Y (P:=aA) (t:=329) (e:=297) (n:=64) bK (i:=(Tryz.prog.info? 297).get (by kernel_rfl)) (by kernel_rfl) (by kernel_rfl) b 0 k w (by omega) (by omega);simpa using this
theorem Ya (b:Nat) (z:Int) (k:Nat) (hz:z=k) (hk:k<64) (w:bS):(Instr.indexAt 329 (.pointer (some ⟨b,0,none⟩)) (.int .i64 z)).run aA w=.ok (.pointer (some ⟨b,k,none⟩)) w:=by
  subst hz;exact A4I b k hk w
theorem ix8 (b o k:Nat) (hk:k<8) (w:bS):(Instr.indexAt 323 (.pointer (some ⟨b,o,none⟩)) (.int .i64 k)).run aA w=.ok (.pointer (some ⟨b,o+k,none⟩)) w:=by
  have:=A1Y (P:=aA) (t:=323) (e:=297) (n:=8) bL (i:=(Tryz.prog.info? 297).get (by kernel_rfl)) (by kernel_rfl) (by kernel_rfl) b o k w (by omega) (by omega);simpa using this
def A4m (b:List UInt8) (k:Nat):Int:=(Et ((b.drop (4*k)).take 4):Int)
theorem Yc {w:bS} {q k j:Nat} {x v:bR} (h:w.cell? ⟨q,j,none⟩=some x) (hne:k≠j):(w.setCell ⟨q,k,none⟩ v).cell? ⟨q,j,none⟩=some x:=by
  exact (bS.cell?_setCell_other (w:=w) (a:=⟨q,k,none⟩) (b:=⟨q,j,none⟩) (v:=v) (by simp [hne])).trans h
def sI (x16 x15 x7 x2:Int):Int:=
  (x16+bits BinOp.xor bW.u32 (bits BinOp.xor bW.u32 (tI x15 7) (tI x15 18)) (x15 / 8)+x7+bits BinOp.xor bW.u32 (bits BinOp.xor bW.u32 (tI x2 17) (tI x2 19)) (x2 / 1024)) % 4294967296
theorem A6G (x16 x15 x7 x2:Int):(((x16+bits BinOp.xor bW.u32 (bits BinOp.xor bW.u32 (tI x15 7) (tI x15 18)) (x15 / 8)) % 4294967296+x7) % 4294967296+bits BinOp.xor bW.u32 (bits BinOp.xor bW.u32 (tI x2 17) (tI x2 19)) (x2 / 1024)) % 4294967296=sI x16 x15 x7 x2:=by
  unfold sI;generalize bits BinOp.xor bW.u32 (bits BinOp.xor bW.u32 (tI x15 7) (tI x15 18)) (x15 / 8)=A;generalize bits BinOp.xor bW.u32 (bits BinOp.xor bW.u32 (tI x2 17) (tI x2 19)) (x2 / 1024)=B;omega
def A5c (e f g i k w:Int):Int:=
  (i+bits BinOp.xor bW.u32 (bits BinOp.xor bW.u32 (tI e 6) (tI e 11)) (tI e 25)+bits BinOp.xor bW.u32 (bits BinOp.and bW.u32 e f) (bits BinOp.and bW.u32 (bits BinOp.xor bW.u32 bW.u32.max e) g)+k+w) % 4294967296
def A6i (a b c:Int):Int:=
  (bits BinOp.xor bW.u32 (bits BinOp.xor bW.u32 (tI a 2) (tI a 13)) (tI a 22)+bits BinOp.xor bW.u32 (bits BinOp.xor bW.u32 (bits BinOp.and bW.u32 a b) (bits BinOp.and bW.u32 a c)) (bits BinOp.and bW.u32 b c)) % 4294967296
def Qk (h v:List Int) (k:Nat):List Int:=(aF (λ a b=>(a+b) % 4294967296) h v).take k++h.drop k
theorem Kw (h v:List Int) (k:Nat) (hv:h.length=v.length) (hk:k<=h.length):(Qk h v k).length=h.length:=by
  simp [Qk]; omega
theorem A2V (h v:List Int) (k:Nat) (hv:h.length=v.length) (hk:k<h.length):(Qk h v k)[k]?=some h[k]:=by
  unfold Qk;rw [aU (by simp; omega)];simp [show min k (min h.length v.length)=k by omega,hk]
theorem A2W (h v:List Int) (k:Nat) (hv:h.length=v.length) (hk:k<h.length):(Qk h v k).set k ((h[k]+v[k]'(by omega)) % 4294967296)=Qk h v (k+1):=by
  have hz:(aF (λ a b=>(a+b) % 4294967296) h v).length=h.length:=by simp; omega
  unfold Qk;rw [aP _ _ (by simp; omega),List.take_succ_eq_append_getElem (by omega)];simp only [List.length_take,hz,Nat.min_eq_left (Nat.le_of_lt hk),bM,List.append_assoc];rw [List.drop_eq_getElem_cons hk,bN];simp
def A1N (b:List UInt8) (k:Nat) (L:List Int):List Int:=
  L++ [if k<16 then A4m b k else sI (L.getD (k-16) 0) (L.getD (k-15) 0) (L.getD (k-7) 0) (L.getD (k-2) 0)]
def Fp (b:List UInt8):Nat->List Int
  | 0=> []
  | k+1=>A1N b k (Fp b k)
theorem Fg (b:List UInt8):∀k,(Fp b k).length=k
  | 0=>rfl
  | k+1=>by simp [Fp,A1N,Fg b k]
def Cb (b:List UInt8) (k:Nat):List Int:=Fp b k++aI (64-k) 0
theorem Gv (b:List UInt8) (k:Nat) (h:k<=64):(Cb b k).length=64:=by simp [Cb,Fg]; omega
theorem St (b:List UInt8) (k:Nat) (h:k<64) (x:Int) (hx:Fp b (k+1)=Fp b k++ [x]):(Cb b k).set k x=Cb b (k+1):=by
  unfold Cb;rw [hx,aP _ _ (by rw [Fg]; exact aC _),Fg,bM,show 64-k=(64- (k+1))+1 by omega,List.replicate_succ,bN];simp
theorem A1d (b:List UInt8) (k:Nat) (h:k<16):Fp b (k+1)=Fp b k++ [A4m b k]:=by simp [Fp,A1N,h]
theorem I7 (b:List UInt8) (k j:Nat) (h:j<k):(Cb b k).getD j 0=(Fp b k).getD j 0:=by
  unfold Cb;simp [aQ,aR,Fg,h]
theorem Zb (b:List UInt8) (k:Nat) (h:16<=k):Fp b (k+1)=Fp b k++ [sI ((Cb b k).getD (k-16) 0) ((Cb b k).getD (k-15) 0) ((Cb b k).getD (k-7) 0) ((Cb b k).getD (k-2) 0)]:=by
  rw [I7 _ _ _ (by omega),I7 _ _ _ (by omega),I7 _ _ _ (by omega),I7 _ _ _ (by omega)];simp [Fp,A1N,show ¬k<16 by omega]
def kL:List Int:= [1116352408,1899447441,3049323471,3921009573,961987163,1508970993,2453635748,2870763221,3624381080,310598401,607225278,1426881987,1925078388,2162078206,2614888103,3248222580,3835390401,4022224774,264347078,604807628,770255983,1249150122,1555081692,1996064986,2554220882,2821834349,2952996808,3210313671,3336571891,3584528711,113926993,338241895,666307205,773529912,1294757372,1396182291,1695183700,1986661051,2177026350,2456956037,2730485921,2820302411,3259730800,3345764771,3516065817,3600352804,4094571909,275423344,430227734,506948616,659060556,883997877,958139571,1322822218,1537002063,1747873779,1955562222,2024104815,2227730452,2361852424,2428436474,2756734187,3204031479,3329325298]
theorem A2n:kL.length=64:=rfl
theorem A2Y:A7 aA 329 64:=A7.mk bK rfl (by kernel_rfl)
theorem A5P:A7 aA 323 8:=A7.mk bL rfl (by kernel_rfl)
theorem A4D:Cz aA 332 297 1 4 (.int .u32 0):=by
  refine Cz.mk Tryz.underlying332 ?_ rfl (by decide)
  kernel_rfl
def z8:List Int:=aI 8 0
theorem A2L:z8.length=8:=by simp [z8]
def z64:List Int:=aI 64 0
theorem Te:z64.length=64:=by simp [z64]
theorem A0X (w:bS):bU aA 168 #[] w λ e w'=>e=.returned (.agg (A1 kL).toArray)/\Below w.heap.size w w':=by
  have hblk:Blk (w.alloc (.cells (A1 z64).toArray 329)) w.heap.size (A1 z64) 329:=Blk.new w _ _;have hB0:Below w.heap.size w (w.alloc (.cells (A1 z64).toArray 329)):=(aE _ _).alloc (aC _) _;have hb:=hqZ hblk;have HB0:=hqZ hB0;clear hblk hB0;go_enter Tryz.func168,Tryz.ntmps168;go_wp2_with ((with_reducible refine zws 0 1 ?_);refine Af rfl (.tmp 0) (.tmp 1) A2Y rfl rfl (vs:=A1 kL) rfl rfl hb.o (aC _) (Kh _) ?_);intro w2 h3 h4;have h3':Blk w2 w.heap.size (A1 kL) 329:=by
    have e1:(A1 z64).drop 64= []:=aD (by rw [Bk,Te]; exact aC _);simpa [e1] using h3
  have H3:=hqZ h3';have HB2:Hq (Below w.heap.size w w2):=hqZ (HB0.o.trans (h4.below (by omega)));clear h3 h3' h4;go_wp2_with fail;exact bodyPost_ret (Aw rfl A2Y rfl (cs:=A1 kL) rfl H3.o.cellsAll) rfl ⟨rfl,HB2.o⟩
theorem A3E (l:List Int) (h:l.length=8):∃a b c d e f g i,l= [a,b,c,d,e,f,g,i]:=by
  match l,h with
  | [a,b,c,d,e,f,g,i],_=>exact ⟨a,b,c,d,e,f,g,i,rfl⟩
def rI (k w:Int):List Int->List Int
  | [a,b,c,d,e,f,g,i]=> [(A5c e f g i k w+A6i a b c) % 4294967296,a,b,c,(d+A5c e f g i k w) % 4294967296,e,f,g]
  | l=>l
def Ke (K W:List Int):Nat->List Int->List Int
  | 0,s=>s
  | k+1,s=>rI (K.getD k 0) (W.getD k 0) (Ke K W k s)
theorem Lq (K W:List Int):∀(k:Nat) (s:List Int),s.length=8->(Ke K W k s).length=8
  | 0,s,h=>h
  | k+1,s,h=>by
    obtain ⟨a,b,c,d,e,f,g,i,he⟩:=A3E _ (Lq K W k s h);rw [Ke,he];rfl
def K0 (h:List Int) (b:List UInt8):List Int:=Qk h (Ke kL (Fp b 64) 64 h) 8
theorem A2A (b:List UInt8):Cb b 64=Fp b 64:=by simp [Cb]
theorem V9 (p:Nat) (rest:List bR) (h:List Int) (v:bR) (b:List UInt8) (w:bS) (hb:Bs w v b) (hbl:b.length=64) (hp:Blk w p (A1 h++rest) 325) (hhl:h.length=8): bU aA 164 #[.pointer (some ⟨p,0,none⟩),v] w λ e w'=>e=.returned (.tuple #[])/\Blk w' p (A1 (K0 h b)++rest) 325/\Ai (λ k=>k=p\/w.heap.size<=k) w w':=by
  obtain ⟨a,cap,rfl,hcap,hcm⟩:=hb.form;obtain ⟨bb,off,rfl,_⟩:=hb.addr (by rw [Aa]; omega);have HB:=hqZ hb;have HP:=hqZ hp;have hpl:=hp.lt;obtain ⟨q,hq⟩:∃q,q=w.heap.size:=⟨_,rfl⟩
  rw [hbl] at hcap;have hcm':=hcm;unfold maxLen at hcm;have hq0:=hqZ (Blk.at_ (w:=w) (cs:=(A1 (Cb b 0)).toArray) (T:=329) hq.symm);clear hb hp;go_enter Tryz.func164,Tryz.ntmps164;go_wp2_with fail;rw [<-hq];have hB0:Below w.heap.size w (w.alloc (.cells (A1 (Cb b 0)).toArray 329)):=(aE _ _).alloc (aC _) _;have hqw:w.heap.size<=q:=by omega
  clear hq;go_loopw [19] (λ i wr=>∃k:Nat,k<=16/\i=.int .i64 k/\Blk wr q (A1 (Cb b k)) 329/\Below w.heap.size w wr) (λ i _=>16- (intOf i).toNat)
  case atStart=>exact ⟨0,by omega,rfl,hq0.o,hB0⟩
  case round=>
    obtain ⟨k,hk,rfl,hblk,hB⟩:=hrel;have hzl:=Gv b k (by omega);by_cases hlt:k<16
    · have c0:∃u,wr.cell? ⟨q,k,none⟩=some u:=⟨_,by rw [hblk.cell]; exact Gt _ k (by omega)⟩
      obtain ⟨u,c0⟩:=c0;have f0:=hblk.frozen k;have hix:=A4I q k (by omega);have hchunk:Bs wr (.slice (some ⟨bb,off+4*k,none⟩) 4 (cap-4*k)) ((b.drop (4*k)).take 4):=
        ((HB.o.below hB).mid (off:=4*k) (n:=4) (cap:=cap-4*k) (by omega) (by omega) (by omega)).bs rfl (by simp; omega)
      have HBLK:=hqZ hblk;clear hblk;go_wp2_with fail;refine (L6 _ _ _ hchunk).mono ?_;have hg:Gf ((b.drop (4*k)).take 4)=(Et ((b.drop (4*k)).take 4),true):=by rw [Gf,if_neg]; simp; omega
      have hx:(Et ((b.drop (4*k)).take 4):Int)<4294967296:=by
        have:=L4 ((b.drop (4*k)).take 4);rw [show ((b.drop (4*k)).take 4).length=4 by simp; omega] at this;omega
      rw [hg];rintro e w1 ⟨rfl,rfl⟩;go_wp2_with fail;go_roundw
      case rel=>exact ⟨k+1,by omega,by go_num,by
        have:=HBLK.o.set k (.int .u32 (A4m b k));rw [M7,St b k (by omega) _ (A1d b k hlt)] at this;exact this,hB.trans (Ai.below (Ai.setCell (Ai.refl (λ j=>j=q) wr) (p:=⟨q,k,none⟩) rfl _) (by intro j hj; omega))⟩
      case measure=>simp [intOf]; omega
    · obtain rfl:k=16:=by omega
      go_wp2_with fail;go_loopw [8] (λ i wr=>∃k:Nat,16<=k/\k<=64/\i=.int .i64 k/\Blk wr q (A1 (Cb b k)) 329/\Below w.heap.size w wr) (λ i _=>64- (intOf i).toNat)
      case atStart=>exact ⟨16,by omega,by omega,rfl,hblk,hB⟩
      case round=>
        clear hblk hB hzl;obtain ⟨k,hk1,hk,rfl,hblk,hB⟩:=hrel;have hzl:=Gv b k hk;by_cases hlt:k<64
        · have i15:=Ya q ((k:Int)-15) (k-15) (by omega) (by omega);have i2:=Ya q ((k:Int)-2) (k-2) (by omega) (by omega);have i16:=Ya q ((k:Int)-16) (k-16) (by omega) (by omega);have i7:=Ya q ((k:Int)-7) (k-7) (by omega) (by omega);have ik:=Ya q (k:Int) k (by omega) (by omega);have hc:∀j:Nat,j<64->wr.cell? ⟨q,j,none⟩=some (.int .u32 ((Cb b k).getD j 0)):=λ j hj=>by
            rw [hblk.cell,Gt _ j (by omega)];simp [aQ,show j< (Cb b k).length by omega]
          have c15:=hc (k-15) (by omega);have c2:=hc (k-2) (by omega);have hstep:=Zb b k hk1;generalize (Cb b k).getD (k-15) 0=x15 at c15 hstep;generalize (Cb b k).getD (k-2) 0=x2 at c2 hstep;have HS:=hqZ hstep;clear hstep;have HBLK:=hqZ hblk;have HCC:=hqZ hc;clear hblk hc;go_wp2_with fail;go_quiet (fail);obtain ⟨w2,hw2⟩:∃w2,w2=wr.drewN nq:=⟨_,rfl⟩
          rw [<-hw2];have hB2:Below w.heap.size w w2:=by rw [hw2]; exact below_drewN hB nq
          have HBLK2:Hq (Blk w2 q (A1 (Cb b k)) 329):=hqZ (by rw [hw2]; exact HBLK.o.drewN nq);have HC2:Hq (∀j:Nat,j<64->w2.cell? ⟨q,j,none⟩=some (.int .u32 ((Cb b k).getD j 0))):=hqZ (by rw [hw2]; exact HCC.o);have c16:w2.drew.cell? ⟨q,k-16,none⟩=_:=HC2.o (k-16) (by omega);have c7:w2.drew.cell? ⟨q,k-7,none⟩=_:=HC2.o (k-7) (by omega);have ck:w2.drew.drew.drew.drew.drew.cell? ⟨q,k,none⟩=_:=HC2.o k (by omega);have fk:w2.drew.drew.drew.drew.drew.frozen? ⟨q,k,none⟩=false:=HBLK2.o.frozen k;have hstep:=HS.o;generalize (Cb b k).getD (k-16) 0=x16 at c16 hstep;generalize (Cb b k).getD (k-7) 0=x7 at c7 hstep;have HS1:=hqZ hstep;clear hstep HS;generalize (Cb b k).getD k 0=xk at ck;clear hw2 c15 c2 HBLK HCC HC2 hB;have hk16:∀v,(w2.setCell ⟨q,k,none⟩ v).drew.drew.drew.drew.drew.cell? ⟨q,k-16,none⟩=some (.int .u32 x16):=λ v=>Yc c16 (by omega)
          have hk7:∀v,(w2.setCell ⟨q,k,none⟩ v).drew.drew.drew.drew.drew.cell? ⟨q,k-7,none⟩=some (.int .u32 x7):=λ v=>Yc c7 (by omega)
          have e16:bW.i64.wrap ((k:Int)-16)=(k:Int)-16:=by rw [bW.wrap_i64]; omega
          have e7:bW.i64.wrap ((k:Int)-7)=(k:Int)-7:=by rw [bW.wrap_i64]; omega
          go_wp2_with fail
          go_region_held3 (λ W:bS=>W.cell? ⟨q,k-16,none⟩=some (.int .u32 x16)/\W.cell? ⟨q,k-7,none⟩=some (.int .u32 x7)) (first | exact ⟨by assumption,by assumption⟩ | exact ⟨hk16 _,hk7 _⟩) (first | (go_at_call 167; refine (Z9 _ _ _ (by decide) (by decide)).mono ?_; rintro e w' ⟨rfl,rfl⟩));go_wp2_with fail;refine ⟨?_,?measure⟩
          · (repeat apply Exists.intro)
            refine ⟨?rel,rfl⟩
            case rel=>exact ⟨k+1,by omega,by omega,by go_num,by
              rw [A6G]
              have:=(HBLK2.o.set k (.int .u32 (sI x16 x15 x7 x2)));rw [M7,St b k (by omega) _ HS1.o] at this;exact this,hB2.trans ((Ai.setCell (Ai.refl (λ j=>j=q) w2) (p:=⟨q,k,none⟩) rfl _).drew.drew.drew.drew.drew.below (by intro j hj; omega))⟩
          case measure=>simp [intOf]; omega
        · obtain rfl:k=64:=by omega
          go_wp2_with fail;refine (A0X wr).mono ?_;have hkl:=A2n;obtain ⟨K,hK⟩:∃K,K=kL:=⟨_,rfl⟩
          rw [<-hK] at hkl ⊢;have HKd:=hqZ hK;clear hK;rintro e w2 ⟨rfl,hb2⟩;have hq2:q<w2.heap.size:=aV hblk.lt hb2.size;have HQ2:=hqZ (hblk.below hb2 hblk.lt);have HB2:Hq (Below w.heap.size w w2):=hqZ (hB.trans (hb2.mono hB.size));have HN2:=hqZ (Blk.new w2 (A1 z64) 329);have hws:=hB.size;have hws2:=hb2.size;clear hblk hB hb2 hzl;go_wp2_with ((with_reducible refine zws 11 79 ?_);refine Af rfl (.tmp 11) (.tmp 79) A2Y rfl rfl (vs:=A1 K) rfl (by rw [Bk,hkl]) HN2.o (aC _) (Kh _) ?_);intro w3 h3 h4;have h3':Blk w3 w2.heap.size (A1 K) 329:=by
            have e1:(A1 z64).drop 64= []:=aD (by rw [Bk,Te]; exact aC _);simpa [e1] using h3
          have H3:=hqZ h3';have hs3:=h4.size;simp at hs3;have HQ3:Hq (Blk w3 q (A1 (Cb b 64)) 329):=hqZ ((HQ2.o.alloc _).keep h4 (by omega));have HB3:Hq (Below w.heap.size w w3):=hqZ ((HB2.o.alloc (by omega) _).trans (h4.below (by omega)));obtain ⟨q2,hq2d⟩:∃q2,q2=w2.heap.size:=⟨_,rfl⟩
          rw [<-hq2d] at H3;have HP3:Hq (Blk w3 p (A1 h++rest) 325):=hqZ (HP.o.below HB3.o hpl);rw [<-hq2d];have hne:q≠q2/\p≠q/\p≠q2/\p<w3.heap.size/\q2<w3.heap.size/\q<w3.heap.size/\w.heap.size<=q2/\w.heap.size<=w3.heap.size:=by omega
          have HNE:=hqZ hne;clear h3 h3' h4 hq2d hne hq2 hs3 hws hws2;have hc8:Ao w3 p 0 (A1 h):=λ j u hj=>by
            rw [HP3.o.cell,bO,aR (List.getElem?_eq_some_iff.1 hj).1];exact hj
          have HC8:=hqZ hc8;have HN3:=hqZ (Blk.new w3 (A1 z8) 323);have h8:(A1 h).length=8:=by rw [Bk,hhl]
          have HH8:=hqZ h8;clear hc8 h8;go_wp2_with (first | ((with_reducible refine zw 83 ?_);refine Ah rfl (.tmp 82) A5P rfl rfl (cs:=A1 h) HH8.o HC8.o ?_) | ((with_reducible refine zws 12 83 ?_);refine Af rfl (.tmp 12) (.tmp 83) A5P rfl rfl (vs:=A1 h) rfl HH8.o HN3.o (aC _) (Kh _) ?_));intro w4 h5 h6;have h5':Blk w4 w3.heap.size (A1 h) 323:=by
            have e1:(A1 z8).drop 8= []:=aD (by rw [Bk,A2L]; exact aC _);simpa [e1] using h5
          have hs4:=h6.size;simp at hs4;obtain ⟨hqq2,hpq,hpq2,hp3,hq23,hq3,hwq2,hw3⟩:=HNE.o;obtain ⟨q3,hq3d⟩:∃q3,q3=w3.heap.size:=⟨_,rfl⟩
          rw [<-hq3d] at h5';have H5:=hqZ h5';have HQ4:Hq (Blk w4 q (A1 (Cb b 64)) 329):=hqZ ((HQ3.o.alloc _).keep h6 (by omega));have HK4:Hq (Blk w4 q2 (A1 K) 329):=hqZ ((H3.o.alloc _).keep h6 (by omega));have HP4:Hq (Blk w4 p (A1 h++rest) 325):=hqZ ((HP3.o.alloc _).keep h6 (by omega));have HB4:Hq (Below w.heap.size w w4):=hqZ ((HB3.o.alloc (by omega) _).trans (h6.below (by omega)));have hne:p≠q3/\q≠q3/\q2≠q3/\q<w4.heap.size/\q2<w4.heap.size/\p<w4.heap.size/\q3<w4.heap.size/\w.heap.size<=q3/\w.heap.size<=w4.heap.size:=by omega
          have HNE4:=hqZ hne;rw [<-hq3d];clear h5 h5' h6 hs4 hqq2 hpq hpq2 hp3 hq23 hq3 hwq2 hw3 hq3d hne HNE HC8 HN3 HN2;obtain ⟨a0,b0,c0,d0,e0,f0,g0,i0,rfl⟩:=A3E h hhl;go_wp2_with fail;go_loopw [84] (λ i ws=>∃(k:Nat) (a1 b1 c1 d1 e1 f1 g1 i1:Int),k<=64/\i=.int .i64 k/\Blk ws q3 (A1 [a1,b1,c1,d1,e1,f1,g1,i1]) 323/\Ke K (Cb b 64) k [a0,b0,c0,d0,e0,f0,g0,i0]= [a1,b1,c1,d1,e1,f1,g1,i1]/\Ai (λ j=>j=q3\/w4.heap.size<=j) w4 ws) (λ i _=>64- (intOf i).toNat)
          case atStart=>exact ⟨0,a0,b0,c0,d0,e0,f0,g0,i0,by omega,rfl,H5.o,rfl,Ai.refl _ _⟩
          case round=>
            obtain ⟨k,a1,b1,c1,d1,e1,f1,g1,i1,hk,rfl,hst,hrs,hkp⟩:=hrel;obtain ⟨hpq3,hqq3,hq2q3,hq4,hq24,hp4,hq34,hwq3,hww4⟩:=HNE4.o;have HST:=hqZ hst;have HRS:=hqZ hrs;have HKP:=hqZ hkp;by_cases hlt:k<64
            · have v0:=hst.cell 0;have v1:=hst.cell 1;have v2:=hst.cell 2;have v3:=hst.cell 3;have v4:=hst.cell 4;have v5:=hst.cell 5;have v6:=hst.cell 6;have v7:=hst.cell 7;simp only [A1,wV,aG,aH,bP,bQ] at v0 v1 v2 v3 v4 v5 v6 v7;have kk:wr.cell? ⟨q2,k,none⟩=some (.int .u32 (K.getD k 0)):=by
                rw [(HK4.o.keep hkp (by omega)).cell,Gt _ k (by omega)];simp [aQ,show k<K.length by omega]
              have ww:wr.cell? ⟨q,k,none⟩=some (.int .u32 ((Cb b 64).getD k 0)):=by
                rw [(HQ4.o.keep hkp (by omega)).cell,Gt _ k (by rw [Gv b 64 (by omega)]; omega)];simp [aQ,show k< (Cb b 64).length by rw [Gv b 64 (by omega)]; omega]
              have ik:=A4I q k hlt;have ik2:=A4I q2 k hlt;obtain ⟨kv,hkv⟩:∃x,x=K.getD k 0:=⟨_,rfl⟩
              obtain ⟨wv,hwv⟩:∃x,x=(Cb b 64).getD k 0:=⟨_,rfl⟩
              rw [<-hkv] at kk;rw [<-hwv] at ww;have HKV:=hqZ hkv;have HWV:=hqZ hwv;clear hkv hwv;have HKK:=hqZ kk;have HWW:=hqZ ww;clear hst hrs hkp kk ww;go_wp2_with fail;go_quiet (fail);go_wp2_with fail;obtain ⟨wA,hwA⟩:∃wA,wA=wr.drewN nq:=⟨_,rfl⟩
              rw [<-hwA];have kk:wA.cell? ⟨q2,k,none⟩=some (.int .u32 kv):=by rw [hwA]; exact HKK.o
              have ww:wA.cell? ⟨q,k,none⟩=some (.int .u32 wv):=by rw [hwA]; exact HWW.o
              replace v0:wA.cell? ⟨q3,0,none⟩=some (.int .u32 a1):=by rw [hwA]; exact v0
              replace v1:wA.cell? ⟨q3,1,none⟩=some (.int .u32 b1):=by rw [hwA]; exact v1
              replace v2:wA.cell? ⟨q3,2,none⟩=some (.int .u32 c1):=by rw [hwA]; exact v2
              replace v3:wA.cell? ⟨q3,3,none⟩=some (.int .u32 d1):=by rw [hwA]; exact v3
              replace v5:wA.cell? ⟨q3,5,none⟩=some (.int .u32 f1):=by rw [hwA]; exact v5
              replace v6:wA.cell? ⟨q3,6,none⟩=some (.int .u32 g1):=by rw [hwA]; exact v6
              replace v7:wA.cell? ⟨q3,7,none⟩=some (.int .u32 i1):=by rw [hwA]; exact v7
              have HST5:Hq (Blk wA q3 (A1 [a1,b1,c1,d1,e1,f1,g1,i1]) 323):=hqZ (by rw [hwA]; exact HST.o.drewN _);have HK5:Hq (Ai (λ j=>j=q3\/w4.heap.size<=j) w4 wA):=hqZ (by rw [hwA]; exact HKP.o.drewN _);clear hwA v4 HKK HWW HST HKP;go_quiet ((go_at_call 167; exact S7 _ _ _ _ (by decide) (by decide)));clear kk ww;have hone:(i1+bits BinOp.xor bW.u32 (bits BinOp.xor bW.u32 (tI e1 6) (tI e1 11)) (tI e1 25)+bits BinOp.xor bW.u32 (bits BinOp.and bW.u32 e1 f1) (bits BinOp.and bW.u32 (bits BinOp.xor bW.u32 bW.u32.max e1) g1)+kv+wv) % 4294967296=A5c e1 f1 g1 i1 kv wv:=rfl;go_wp2_with fail;clear hone;obtain ⟨one,hone⟩:∃x,x=A5c e1 f1 g1 i1 kv wv:=⟨_,rfl⟩
              rw [<-hone];have HONE:=hqZ hone;clear hone;obtain ⟨wB,hwB⟩:∃wB,wB=wA.drewN nq:=⟨_,rfl⟩
              rw [<-hwB];replace v1:wB.cell? ⟨q3,1,none⟩=some (.int .u32 b1):=by rw [hwB]; exact v1
              replace v2:wB.cell? ⟨q3,2,none⟩=some (.int .u32 c1):=by rw [hwB]; exact v2
              have HST6:Hq (Blk wB q3 (A1 [a1,b1,c1,d1,e1,f1,g1,i1]) 323):=hqZ (by rw [hwB]; exact HST5.o.drewN _);have HK6:Hq (Ai (λ j=>j=q3\/w4.heap.size<=j) w4 wB):=hqZ (by rw [hwB]; exact HK5.o.drewN _);clear hwB v0 v3 v5 v6 v7 HST5 HK5;go_quiet ((go_at_call 167; exact S7 _ _ _ _ (by decide) (by decide)));have htwo:(bits BinOp.xor bW.u32 (bits BinOp.xor bW.u32 (tI a1 2) (tI a1 13)) (tI a1 22)+bits BinOp.xor bW.u32 (bits BinOp.xor bW.u32 (bits BinOp.and bW.u32 a1 b1) (bits BinOp.and bW.u32 a1 c1)) (bits BinOp.and bW.u32 b1 c1)) % 4294967296=A6i a1 b1 c1:=rfl;rw [htwo];clear htwo;go_wp2_with fail;obtain ⟨two,htwo⟩:∃x,x=A6i a1 b1 c1:=⟨_,rfl⟩
              rw [<-htwo];have HTWO:=hqZ htwo;clear htwo;obtain ⟨w5,hw5⟩:∃w5,w5=wB.drewN nq:=⟨_,rfl⟩
              rw [<-hw5];have HST5:Hq (Blk w5 q3 (A1 [a1,b1,c1,d1,e1,f1,g1,i1]) 323):=hqZ (by rw [hw5]; exact HST6.o.drewN _);have HK5:Hq (Ai (λ j=>j=q3\/w4.heap.size<=j) w4 w5):=hqZ (by rw [hw5]; exact HK6.o.drewN _);clear hw5 v1 v2 HST6 HK6;have hsrc:Sl w5.drew 1 (.slice (some ⟨q3,0,none⟩) 7 8) 7 (A1 [a1,b1,c1,d1,e1,f1,g1]):=by
                refine ⟨rfl,Kh _,some ⟨q3,0,none⟩,8,rfl,by decide,by unfold maxLen; decide,by simp,.inr ⟨q3,0,rfl,λ j u hj=>?_⟩⟩;rw [show w5.drew.cell? ⟨q3,0+j,none⟩=_ from HST5.o.cell (0+j),bO];have hj7:j<7:=by have:=(List.getElem?_eq_some_iff.1 hj).1; simpa [A1] using this
                rw [show A1 [a1,b1,c1,d1,e1,f1,g1,i1]=A1 [a1,b1,c1,d1,e1,f1,g1]++ [wV i1] from rfl,aR (by simpa [A1] using hj7)];exact hj
              have HSRC:=hqZ hsrc;clear hsrc;obtain ⟨w6,hr,h7,h8⟩:=A1a (sT:=332) (ty:=3) (dCap:=7) (dLen:=7) (o:=1) A4D HST5.o.drew HSRC.o (by simp [A1]);have hr':(Builtin.copy_ #[332,332] 3 #[.slice (some ⟨q3,1,none⟩) 7 7,.slice (some ⟨q3,0,none⟩) 7 8]).run aA w5.drew=.ok (.int .i64 7) w6:=hr;clear hr;have H7a:=hqZ h7;have H8a:=hqZ h8;clear h7 h8
              go_region;have h7:=H7a.o;have h8:=H8a.o;have h7':Blk w6 q3 (A1 [a1,a1,b1,c1,d1,e1,f1,g1]) 323:=h7;have H7:=hqZ h7';have HK7:Hq (Ai (λ j=>j=q3\/w4.heap.size<=j) w4 w6):=hqZ (HK5.o.drew.trans (h8.mono (λ j hj=>.inl hj)));have y0:=h7'.cell 0;have y4:=h7'.cell 4;have z0:=h7'.frozen 0;have z4:=h7'.frozen 4;simp only [A1,wV,aG,aH,bP,bQ] at y0 y4;clear h7 h7' h8 HST5 HK5 HSRC;go_wp2_with fail;go_roundw
              case rel=>exact ⟨k+1,(one+two) % 4294967296,a1,b1,c1,(d1+one) % 4294967296,e1,f1,g1,by omega,by go_num,(H7.o.set 4 (.int .u32 ((d1+one) % 4294967296))).set 0 (.int .u32 ((one+two) % 4294967296)),by
                rw [Ke,HRS.o,<-HKV.o,<-HWV.o,HONE.o,HTWO.o]
                rfl,(HK7.o.setCell (p:=⟨q3,4,none⟩) (.inl rfl) _).setCell (p:=⟨q3,0,none⟩) (.inl rfl) _⟩
              case measure=>simp [intOf]; omega
            · obtain rfl:k=64:=by omega
              have hP:=HP4.o.keep hkp (by omega);have hKw:Ai (λ j=>j=p\/w.heap.size<=j) w wr:=(Ai.of_below HB4.o).mono (λ j hj=>.inr hj) |>.trans (hkp.mono (λ j hj=>.inr (by omega)));have HP5:=hqZ hP;have HKW:=hqZ hKw;obtain ⟨st,hstd⟩:∃st,st= [a1,b1,c1,d1,e1,f1,g1,i1]:=⟨_,rfl⟩
              have hsl:st.length=8:=by rw [hstd]; rfl
              obtain ⟨h,hhd⟩:∃h,h= [a0,b0,c0,d0,e0,f0,g0,i0]:=⟨_,rfl⟩
              have HR2:Hq (Ke K (Cb b 64) 64 h=st):=hqZ (by rw [hhd,hstd]; exact HRS.o);have HST2:Hq (Blk wr q3 (A1 st) 323):=hqZ (by rw [hstd]; exact HST.o);rw [<-hhd];rw [<-hhd] at HP5 hhl;have HHD:=hqZ hhd;clear hst hrs hkp hstd hhd hP hKw HST HRS HKP HP HP3 HP4 HH8 H5;go_wp2_with fail;go_loopw [158] (λ i ws=>∃k:Nat,k<=8/\i=.int .i64 k/\Blk ws p (A1 (Qk h st k)++rest) 325/\Blk ws q3 (A1 st) 323/\Ai (λ j=>j=p\/w.heap.size<=j) w ws) (λ i _=>8- (intOf i).toNat)
              case atStart=>exact ⟨0,by omega,rfl,by simpa [Qk] using HP5.o,HST2.o,HKW.o⟩
              case round=>
                obtain ⟨k,hk,rfl,hbp,hbq,hkp⟩:=hrel;by_cases hlt:k<8
                · have x0:wr.drew.cell? ⟨p,k,none⟩=some (.int .u32 (h[k]'(by omega))):=by
                    rw [show wr.drew.cell? ⟨p,k,none⟩=_ from hbp.cell k,aR (by rw [Bk,Kw _ _ _ (by omega) (by omega)]; omega)];simp [A1,wV,A2V h st k (by omega) (by omega)]
                  have x1:wr.drew.cell? ⟨q3,k,none⟩=some (.int .u32 (st[k]'(by omega))):=by
                    rw [show wr.drew.cell? ⟨q3,k,none⟩=_ from hbq.cell k,Gt _ k (by omega)]
                  have x2:wr.drew.frozen? ⟨p,k,none⟩=false:=hbp.frozen k;have ip:∀w,(Instr.indexAt 323 (.pointer (some ⟨p,0,none⟩)) (.int .i64 k)).run aA w=.ok (.pointer (some ⟨p,k,none⟩)) w:=λ w=>by simpa using ix8 p 0 k hlt w
                  have iq:∀w,(Instr.indexAt 323 (.pointer (some ⟨q3,0,none⟩)) (.int .i64 k)).run aA w=.ok (.pointer (some ⟨q3,k,none⟩)) w:=λ w=>by simpa using ix8 q3 0 k hlt w
                  have hset:=A2W h st k (by omega) (by omega);generalize h[k]'(by omega)=hk0 at x0 hset;generalize st[k]'(by omega)=sk0 at x1 hset;have HSET:=hqZ hset;have HBP:=hqZ hbp;have HBQ:=hqZ hbq;have HKP:=hqZ hkp;clear hset hbp hbq hkp;go_wp2_with fail
                  go_region;go_wp2_with fail;go_roundw
                  case rel=>exact ⟨k+1,by omega,by go_num,by
                    have:=(HBP.o.set k (.int .u32 ((hk0+sk0) % 4294967296)));rw [List.set_append_left _ _ (by rw [Bk,Kw _ _ _ (by omega) (by omega)]; omega),M7,HSET.o] at this;exact this,HBQ.o.set_other (by simp; omega) _,(HKP.o.setCell (p:=⟨p,k,none⟩) (.inl rfl) _).drew⟩
                  case measure=>simp [intOf]; omega
                · obtain rfl:k=8:=by omega
                  have HBP:=hqZ hbp;have HKP:=hqZ hkp;have hfin:Qk h st 8=K0 h b:=by rw [K0,<-A2A,<-HKd.o,HR2.o]
                  have HFIN:=hqZ hfin;clear hbp hbq hkp hfin;go_wp2_with fail;go_end0;exact ⟨rfl,by rw [<-HHD.o,<-HFIN.o]; exact HBP.o,HKP.o⟩
def h0I:List Int:= [1779033703,3144134277,1013904242,2773480762,1359893119,2600822924,528734635,1541459225]
def El (h:List Int) (l:List UInt8):Nat->List Int
  | 0=>h
  | k+1=>K0 (El h l k) ((l.drop (64*k)).take 64)
def Sa (n:Nat):List UInt8:=128::aI ((119-n % 64) % 64) 0
def A1q (D:List UInt8):List UInt8:=D++(Sa D.length++B7 (8*D.length))
def Tz (h:List Int):List UInt8:=h.flatMap λ x=>(B7 x.toNat).drop 4
def K9 (D:List UInt8):List UInt8:=Tz (El h0I (A1q D) ((A1q D).length / 64))
theorem Mk (h:List Int) (b:List UInt8) (hh:h.length=8):(K0 h b).length=8:=by
  unfold K0;rw [Kw _ _ _ (by rw [Lq _ _ _ _ hh,hh]) (by omega),hh]
theorem Cx (h:List Int) (l:List UInt8) (hh:h.length=8):∀k,(El h l k).length=8
  | 0=>hh
  | k+1=>Mk _ _ (Cx h l hh k)
theorem Pp (h:List Int) (D b:List UInt8):∀k,64*k<=D.length->El h (D++b) k=El h D k
  | 0,_=>rfl
  | k+1,hk=>by
    rw [El,El,Pp h D b k (by omega),bJ (by omega),bI (by simp; omega)]
theorem A0l (h:List Int) (b:List UInt8) (hh:h.length=8):∀x∈K0 h b,0<=x/\x<4294967296:=by
  intro x hx;unfold K0 Qk at hx;rw [aD (by omega),aL] at hx;have hx:=List.mem_of_mem_take hx;rw [List.mem_iff_getElem] at hx;obtain ⟨i,hi,rfl⟩:=hx;rw [List.getElem_zipWith];omega
theorem W6 (h:List Int) (l:List UInt8) (hh:h.length=8) (hw:∀x∈h,0<=x/\x<4294967296):∀k,∀x∈El h l k,0<=x/\x<4294967296
  | 0=>hw
  | k+1=>A0l _ _ (Cx h l hh k)
theorem A4G:∀x∈h0I,0<=x/\x<4294967296:=by decide
def Fs (w:bS) (F:Nat->Prop) (p:Nat) (D:List UInt8):Prop:=
  F p/\∃va,Blk w p (A1 (El h0I D (D.length / 64))++ [va,.int .u64 D.length]) 325/\Ej w 0 5 va (D.length-64*(D.length / 64)) (Ab (D.drop (64*(D.length / 64))))/\
    va.ownBlock≠some p/\∀b,va.ownBlock=some b->F b
theorem Fs.keep {w w':bS} {F S:Nat->Prop} {p:Nat} {D:List UInt8} (h:Fs w F p D) (hk:Ai S w w') (hs:∀k,F k->k<w.heap.size->¬S k):Fs w' F p D:=by
  obtain ⟨h1,va,h2,h3,h4,h5⟩:=h;refine ⟨h1,va,h2.keep hk (hs p h1 h2.lt),?_,h4,h5⟩;obtain ⟨g1,g2,g3 | ⟨g,o,cap,cur,rfl,g4,g5,gr⟩⟩:=h3
  · exact ⟨g1,g2,.inl g3⟩
  · exact ⟨g1,g2,.inr ⟨g,o,cap,cur,rfl,g4,(hk.block g (hs g (h5 g rfl) (F7 g5))).trans g5,gr⟩⟩
theorem Fs.below {w w':bS} {F:Nat->Prop} {p:Nat} {D:List UInt8} (h:Fs w F p D) (hb:Below w.heap.size w w'):Fs w' F p D:=
  h.keep (Ai.of_below hb) (λ k _ hl hs=>by omega)
theorem Fs.lt {w:bS} {F:Nat->Prop} {p:Nat} {D:List UInt8} (h:Fs w F p D):p<w.heap.size:=by
  obtain ⟨_,_,h2,_⟩:=h;exact h2.lt
theorem Fs.mono {w:bS} {F G:Nat->Prop} {p:Nat} {D:List UInt8} (h:Fs w F p D) (hs:∀k,F k->G k):Fs w G p D:=by
  obtain ⟨h1,va,h2,h3,h4,h5⟩:=h;exact ⟨hs _ h1,va,h2,h3,h4,λ b hb=>hs _ (h5 b hb)⟩
theorem A2C (H:List Int) (x y:bR) (hH:H.length=8):(A1 H++ [x,y])[8]?=some x:=by
  rw [aU (by rw [Bk]; omega),Bk,hH]; rfl
theorem A6R (H:List Int) (x y:bR) (hH:H.length=8):(A1 H++ [x,y])[9]?=some y:=by
  rw [aU (by rw [Bk]; omega),Bk,hH]; rfl
theorem A2b (H:List Int) (x y z:bR) (hH:H.length=8):(A1 H++ [x,y]).set 8 z=A1 H++ [z,y]:=by
  rw [aP _ _ (by rw [Bk]; omega),Bk,hH]; rfl
theorem A5n (H:List Int) (x y z:bR) (hH:H.length=8):(A1 H++ [x,y]).set 9 z=A1 H++ [x,z]:=by
  rw [aP _ _ (by rw [Bk]; omega),Bk,hH]; rfl
theorem A1f (w:bS):bU aA 157 #[] w λ e w'=>e=.returned (.pointer (some ⟨w.heap.size,0,none⟩))/\Fs w' (λ k=>k=w.heap.size) w.heap.size []/\Below w.heap.size w w':=by
  have fin:Fs (w.alloc (.cells (A1 h0I++ [bR.slice none 0 0,bR.int .u64 0]).toArray 325)) (λ k=>k=w.heap.size) w.heap.size []:=
    ⟨rfl,.slice none 0 0,Blk.new w _ _,Ej.nil _ _ _ _,by simp [bR.ownBlock],by simp [bR.ownBlock]⟩
  have FIN:=hqZ fin;clear fin;go_enter Tryz.func157,Tryz.ntmps157;go_wp2_with fail;go_ret;exact ⟨rfl,FIN.o,(aE _ _).alloc (aC _) _⟩
def Mc (w:bS) (p:Nat):Nat:=match w.cell? ⟨p,8,none⟩ with
  | some (.slice _ n _)=>n
  | _=>0
end Go.Proofs.YtnihelcjmahmnaaGreat
