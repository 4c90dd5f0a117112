/- Texts of this proof, one behind the other: MValE, DerLaw2, MPure2, MValue, MWr, MWrO, MVsB, MVsC. -/
import Derived.Test.YtbmjjfhpllpiaaaGreatWsA1
import Derived.Test.YtbmjjfhpllpiaaaGreatWsA2
import Derived.Test.YtbmjjfhpllpiaaaGreatWsA3
import Derived.Test.YtbmjjfhpllpiaaaGreatWsA5
import Derived.Deep.DeepCutAuto
import Derived.StillTailTactics
set_option linter.unusedSimpArgs false
set_option linter.unusedVariables false
set_option maxRecDepth 100000
set_option maxHeartbeats 16000000
open Go.Proofs.Tryz renaming prog -> aA, func102 -> aK, ntmps102 -> aL, func64 -> aX, ntmps64 -> aY
open List renaming mem_cons -> aB, not_mem_nil -> aC, map_cons -> aD, map_nil -> aE, map_toArray -> aG, append_nil -> aH, length_append -> aI, drop_of_length_le -> aJ, all_cons -> aM, all_nil -> aN, getD_eq_getElem?_getD -> aQ, take_left -> aR, drop_left -> aS, getElem?_append_left -> aT, cons_append -> aU, length_cons -> aV, eq_nil_of_length_eq_zero -> aW
open Nat renaming le_refl -> aF, lt_of_lt_of_le -> aO, lt_irrefl -> aP
open Go renaming Value -> aZ, World -> bA, Calls -> bB
namespace Go.Proofs.YtbmjjfhpllpiaaaGreat
open Go.RowKit
theorem Xk (F0:Nat->Prop) (l1:List UInt8) (l2:List UInt8) (x3:Int) (l4:List UInt8) (v4:aZ) (w:bA) (hz1:l1.length<=1099511627776) (hz2:l2.length<=1099511627776) (hz3: -9223372036854775808<=x3/\x3<=9223372036854775807) (hb4:Bs w v4 l4) (hz4:l4.length<=1099511627776): bB aA 102 #[.iface 111 (.agg #[.string (tx l1),.string (tx l2),.int .i64 x3,v4])] w (Fj w (.mk 2 18 0 [] ([.s l1,.s l2,.n x3,.b l4].map Fy)) ([.s l1,.s l2,.n x3,.b l4].all ptB)):=by
  obtain ⟨a4,c4,rfl,hc4,hm4⟩:=hb4.form;have HC:Hq (VC w w.heap.size [(w.heap.size+1, [.string (tx l1),.string (tx l2),.int .i64 x3,.slice a4 l4.length c4],111)] [] [(.slice a4 l4.length c4,l4)] ((w.alloc (.cells zs5.toArray 249)).alloc (.cells [.string (tx l1),.string (tx l2),.int .i64 x3,.slice a4 l4.length c4].toArray 111))):=hqZ (VC.start (by intro r hr; simp only [aB,aC,or_false] at hr; rcases hr with rfl; exact hb4) _ _);have HSZ:Hq (∀u∈ [tx l1,tx l2],u.size<=maxLen):=hqZ (by intro u hu; simp only [aB,aC,or_false] at hu; rcases hu with rfl | rfl; exact Oh hz1; exact Oh hz2);have HZ1:=hqZ hz1;clear hz1;have HZ2:=hqZ hz2;clear hz2;have HZ3:=hqZ hz3;clear hz3;have HZ4:=hqZ hz4;clear hz4;clear hb4;obtain ⟨z11,hta11⟩:∃z,∀W,(Instr.typeAssert (.iface 111 (.agg #[.string (tx l1),.string (tx l2),.int .i64 x3,.slice a4 l4.length c4])) 20 77 true).run aA W=.ok (.tuple #[z,.bool false]) W:=⟨_,λ W=>Bt _ _ _ _ (by kernel_rfl) Lm (.inr ⟨_,_,rfl,by decide⟩) W⟩
  obtain ⟨z12,hta12⟩:∃z,∀W,(Instr.typeAssert (.iface 111 (.agg #[.string (tx l1),.string (tx l2),.int .i64 x3,.slice a4 l4.length c4])) 20 83 true).run aA W=.ok (.tuple #[z,.bool false]) W:=⟨_,λ W=>Bt _ _ _ _ (by kernel_rfl) Ln (.inr ⟨_,_,rfl,by decide⟩) W⟩
  obtain ⟨z13,hta13⟩:∃z,∀W,(Instr.typeAssert (.iface 111 (.agg #[.string (tx l1),.string (tx l2),.int .i64 x3,.slice a4 l4.length c4])) 20 94 true).run aA W=.ok (.tuple #[z,.bool false]) W:=⟨_,λ W=>Bt _ _ _ _ (by kernel_rfl) Nt (.inr ⟨_,_,rfl,by decide⟩) W⟩
  obtain ⟨z14,hta14⟩:∃z,∀W,(Instr.typeAssert (.iface 111 (.agg #[.string (tx l1),.string (tx l2),.int .i64 x3,.slice a4 l4.length c4])) 20 97 true).run aA W=.ok (.tuple #[z,.bool false]) W:=⟨_,λ W=>Bt _ _ _ _ (by kernel_rfl) Vp (.inr ⟨_,_,rfl,by decide⟩) W⟩
  obtain ⟨z15,hta15⟩:∃z,∀W,(Instr.typeAssert (.iface 111 (.agg #[.string (tx l1),.string (tx l2),.int .i64 x3,.slice a4 l4.length c4])) 20 292 true).run aA W=.ok (.tuple #[z,.bool false]) W:=⟨_,λ W=>Bt _ _ _ _ (by kernel_rfl) Vq (.inr ⟨_,_,rfl,by decide⟩) W⟩
  obtain ⟨z16,hta16⟩:∃z,∀W,(Instr.typeAssert (.iface 111 (.agg #[.string (tx l1),.string (tx l2),.int .i64 x3,.slice a4 l4.length c4])) 20 294 true).run aA W=.ok (.tuple #[z,.bool false]) W:=⟨_,λ W=>Bt _ _ _ _ (by kernel_rfl) Vr (.inr ⟨_,_,rfl,by decide⟩) W⟩
  obtain ⟨z17,hta17⟩:∃z,∀W,(Instr.typeAssert (.iface 111 (.agg #[.string (tx l1),.string (tx l2),.int .i64 x3,.slice a4 l4.length c4])) 20 101 true).run aA W=.ok (.tuple #[z,.bool false]) W:=⟨_,λ W=>Bt _ _ _ _ (by kernel_rfl) A1m (.inr ⟨_,_,rfl,by decide⟩) W⟩
  have hta:∀W,(Instr.typeAssert (.iface 111 (.agg #[.string (tx l1),.string (tx l2),.int .i64 x3,.slice a4 l4.length c4])) 20 111 true).run aA W=.ok (.tuple #[.agg #[.string (tx l1),.string (tx l2),.int .i64 x3,.slice a4 l4.length c4],.bool true]) W:=λ W=>Fg _ _ _ (by kernel_rfl) W
  obtain ⟨B,hB⟩:∃B,B= [.s l1,.s l2,.n x3,.b l4].all ptB:=⟨_,rfl⟩
  obtain ⟨X,hX⟩:∃X:Tv,X=.mk 2 18 0 [] ([.s l1,.s l2,.n x3,.b l4].map Fy):=⟨_,rfl⟩
  rw [<-hB,<-hX];have HB:=hqZ hB;have HX2:=hqZ hX;clear hB hX;go_enter aK,aL;go_upto_region 31 with fail;clear hta hta11 hta12 hta13 hta14 hta15 hta16 hta17;show Code.wp _ _ _ _ ((w.alloc (.cells zs5.toArray 249)).alloc (.cells [.string (tx l1),.string (tx l2),.int .i64 x3,.slice a4 l4.length c4].toArray 111))
  obtain ⟨W0,hW0⟩:∃W0,W0=(w.alloc (.cells zs5.toArray 249)).alloc (.cells [.string (tx l1),.string (tx l2),.int .i64 x3,.slice a4 l4.length c4].toArray 111):=⟨_,rfl⟩
  rw [<-hW0] at HC ⊢;clear hW0;obtain ⟨p,hp⟩:∃p,p=w.heap.size+1:=⟨_,rfl⟩
  obtain ⟨q,hq⟩:∃q,q=w.heap.size:=⟨_,rfl⟩
  rw [<-hp,<-hq] at HC ⊢;clear hp hq;have HBE:Hq (B=([tx l1,tx l2].all As&& [x3].all Be)):=hqZ (by rw [HB.o]; simp only [aM,aN,ptB,Bool.and_true,Bool.true_and,Bool.and_false,Bool.false_and,Bool.and_assoc]; first | done | ac_rfl);obtain ⟨wd,hwd⟩:∃wd,wd=bA.drew W0:=⟨_,rfl⟩
  have hvd:VC w q [(p, [.string (tx l1),.string (tx l2),.int .i64 x3,.slice a4 l4.length c4],111)] [] [(.slice a4 l4.length c4,l4)] wd:=by rw [hwd]; exact HC.o.drew
  have HXE:Hq (X=.mk 2 18 0 [] [.mk 1 0 0 l1 [],.mk 1 0 0 l2 [],.mk 0 0 (C4 x3) [] [],.mk 1 0 0 l4 []]):=hqZ HX2.o;have HR:Hq (∀W,GV (λ b=>q<b) q X wd W->VR w q [(p, [.string (tx l1),.string (tx l2),.int .i64 x3,.slice a4 l4.length c4],111)] [] [(.slice a4 l4.length c4,l4)] W):=hqZ (λ W h=>hvd.gv h);have HZD:Hq (∀W,GV (λ b=>q<b) q X wd W->q<W.heap.size/\∀b,W.heap.size<=b->q<b):=hqZ (λ W h=>⟨(HR.o W h).lt,λ b hb=>aO (HR.o W h).lt hb⟩);have HFq:Hq (¬(λ b=>q<b) q):=hqZ (aP q);have HQW:Hq (w.heap.size=q):=hqZ hvd.hq.symm;clear hvd HC;refine wp_region_held (S:=λ W=>GV (λ b=>q<b) q X wd W) (by kernel_rfl) ?_;change wpAnyH _ _ _ _ _ _ _ _ (bA.drew _);rw [<-hwd];clear hwd;refine zH 0 ?_;refine zH 1 ?_ (hr:=λ W hW=>by have hc:=((HR.o W hW).blkAt 0 rfl).cell 0; go_simp; try rfl);refine zH 3 ?_;refine zH 4 ?_ (hr:=λ W hW=>by have hc:=((HR.o W hW).blkAt 0 rfl).cell 1; go_simp; try rfl);refine zH 6 ?_;refine zH 7 ?_ (hr:=λ W hW=>by have hc:=((HR.o W hW).blkAt 0 rfl).cell 2; go_simp; try rfl);refine zH 9 ?_;refine zH 10 ?_ (hr:=λ W hW=>by have hc:=((HR.o W hW).blkAt 0 rfl).cell 3; go_simp; try rfl);refine zH 14 ?_;refine zH 15 ?_ (hr:=λ W hW=>by have hc:=((HR.o W hW).blkAt 0 rfl).cell 0; go_simp; try rfl);refine zH 16 ?_;refine zH 17 ?_ (hr:=λ W hW=>by have hc:=((HR.o W hW).blkAt 0 rfl).cell 1; go_simp; try rfl);refine zH 19 ?_;refine zH 20 ?_ (hr:=λ W hW=>by have hc:=((HR.o W hW).blkAt 0 rfl).cell 2; go_simp; try rfl);refine Ct (G:=GV (λ b=>q<b) q X) (Post:=J4 (λ b=>q<b) q X [.any,.any,.val (.mk 1 0 0 l1 []),.any,.any,.val (.mk 1 0 0 l2 []),.any,.any,.val (.mk 0 0 (C4 x3) [] []),.any,.any,.val (.mk 1 0 0 l4 []),.vals [.mk 1 0 0 l1 [],.mk 1 0 0 l2 [],.mk 0 0 (C4 x3) [] [],.mk 1 0 0 l4 []],.val (.mk 2 18 0 [] [.mk 1 0 0 l1 [],.mk 1 0 0 l2 [],.mk 0 0 (C4 x3) [] [],.mk 1 0 0 l4 []]),.any,.any,.any,.any,.row [.string (tx l1),.string (tx l2)],.any,.any,.row [.int .i64 x3],.is (.bool ([tx l1,tx l2].all As&& [x3].all Be)),.fin,.is (.bool ([tx l1,tx l2].all As&& [x3].all Be))]) (ds:= [261,264,267,270,271,272,277,280,281,3]) (GV.refl _ _ _) GV.trans (λ W W' h g=>GV.trans _ _ _ h g) (λ i v W W' h g=>PK.stable HFq.o h g) [2,5,8,11,12,13,18,21,22,23,24] 397 rfl (by decide+kernel) (by decide+kernel) ?_ ?_ (GV.refl _ _ _ _) (by decide+kernel)
  · refine zA (λ a W hf hS hd K hK=>?_) ?_
    · have e260:a.eval (.tmp 260)=.string (tx l1):=hf.lit 260 (by decide) rfl;exact Ax (Ae rfl) rfl Cm (vs:=#[.string (tx l1)]) (by simp [e260]) (Eg l1 W HZ1.o) (HZD.o W hS).1 (HZD.o W hS).2 hK
    refine zA (λ a W hf hS hd K hK=>?_) ?_
    · have e263:a.eval (.tmp 263)=.string (tx l2):=hf.lit 263 (by decide) rfl;exact Ax (Ae rfl) rfl Cm (vs:=#[.string (tx l2)]) (by simp [e263]) (Eg l2 W HZ2.o) (HZD.o W hS).1 (HZD.o W hS).2 hK
    refine zA (λ a W hf hS hd K hK=>?_) ?_
    · have e266:a.eval (.tmp 266)=.int .i64 x3:=hf.lit 266 (by decide) rfl;exact Ax (Ae rfl) rfl Dm (vs:=#[.int .i64 x3]) (by simp [e266]) (Ez x3 W HZ3.o.1 HZ3.o.2) (HZD.o W hS).1 (HZD.o W hS).2 hK
    refine zA (λ a W hf hS hd K hK=>?_) ?_
    · have e269:a.eval (.tmp 269)=.slice a4 l4.length c4:=hf.lit 269 (by decide) rfl;exact Ax (Ae rfl) rfl D1 (vs:=#[.slice a4 l4.length c4]) (by simp [e269]) (Cy _ l4 W ((HR.o W hS).rowAt 0 rfl) HZ4.o) (HZD.o W hS).1 (HZD.o W hS).2 hK
    refine zA (λ a W hf hS hd K hK=>?_) ?_
    · have d261:=(hd 2 (by decide+kernel)).get (s:=261) rfl;have d264:=(hd 5 (by decide+kernel)).get (s:=264) rfl;have d267:=(hd 8 (by decide+kernel)).get (s:=267) rfl;have d270:=(hd 11 (by decide+kernel)).get (s:=270) rfl;exact Cz (Ae rfl) rfl Gi (ps:= [.tmp 261,.tmp 264,.tmp 267,.tmp 270]) rfl (l:= [.mk 1 0 0 l1 [],.mk 1 0 0 l2 [],.mk 0 0 (C4 x3) [] [],.mk 1 0 0 l4 []]) ⟨d261,d264,d267,d270,trivial⟩ rfl (by decide) (by decide) (HZD.o W hS).1 (HZD.o W hS).2 hK
    refine zA (λ a W hf hS hd K hK=>?_) ?_
    · have d271:=(hd 12 (by decide+kernel)).get (s:=271) rfl;exact Dj (Ae rfl) rfl Cw d271 (HZD.o W hS).1 (λ v w1 h1 h2=>hK v w1 h1 h2) HFq.o
    refine zA (λ a W hf hS hd K hK=>?_) ?_
    · have e274:a.eval (.tmp 274)=.string (tx l1):=hf.lit 274 (by decide) rfl;have e276:a.eval (.tmp 276)=.string (tx l2):=hf.lit 276 (by decide) rfl;exact Cl (Ae rfl) rfl Qr (ps:= [.tmp 274,.tmp 276]) rfl (cs:= [.string (tx l1),.string (tx l2)]) (by simp only [aD,aE,e274,e276]) (by intro u hu; simp only [aB,aC,or_false] at hu; rcases hu with rfl | rfl <;> exact ⟨rfl,rfl⟩) rfl (by decide) (by decide) (HZD.o W hS).1 (HZD.o W hS).2 hK
    refine zA (λ a W hf hS hd K hK=>?_) ?_
    · have e279:a.eval (.tmp 279)=.int .i64 x3:=hf.lit 279 (by decide) rfl;exact Cl (Ae rfl) rfl Mq (ps:= [.tmp 279]) rfl (cs:= [.int .i64 x3]) (by simp only [aD,aE,e279]) (by intro u hu; simp only [aB,aC,or_false] at hu; rcases hu with rfl <;> exact ⟨rfl,rfl⟩) rfl (by decide) (by decide) (HZD.o W hS).1 (HZD.o W hS).2 hK
    refine zA (λ a W hf hS hd K hK=>?_) ?_
    · have d277:=(hd 18 (by decide+kernel)).get (s:=277) rfl;have d280:=(hd 21 (by decide+kernel)).get (s:=280) rfl;exact Ee (Ae rfl) rfl Dp (vs:=#[a.eval (.tmp 277),a.eval (.tmp 280)]) (by first | (simp only [aG,aD,aE]; done) | (simp only [aG,aD,aE]; rfl)) (u:=(.bool ([tx l1,tx l2].all As&& [x3].all Be))) (Fb [tx l1,tx l2] [x3] _ _ W d277.1 d280.1 HSZ.o) (HZD.o W hS).1 hK
    refine zA (λ a W hf hS hd K hK=>?_) ?_
    · have e2:a.eval (.tmp 2)=.pointer (some ⟨q,0,none⟩):=hf.lit 2 (by decide) rfl;have d272:=(hd 13 (by decide+kernel)).get (s:=272) rfl;obtain ⟨cur,hc1,hc2⟩:=(HR.o W hS).len;rw [<-HXE.o] at d272;exact Di (Ae rfl) rfl e2 d272 hc1 hc2 HFq.o hK
    refine zA (λ a W hf hS hd K hK=>?_) ?_
    · have d281:=(hd 22 (by decide+kernel)).get (s:=281) rfl;exact A3 (Ae rfl) (Hn rfl rfl) (hK _ _ (GV.refl _ _ _ _) d281)
    exact Ce.nil
  · intro a W hf hS hp;have h3:=(hp 24 (by decide)).get (s:=3) rfl;obtain ⟨v,cs,h5,h6⟩:=(hp 23 (by decide)).fin;have e2:a.eval (.tmp 2)=.pointer (some ⟨q,0,none⟩):=hf.lit 2 (by decide) rfl;go_wp2_with fail;refine bodyPost_ret (Aj rfl Aq (show a.tmps.getD 2 undef=_ from e2) h6.length h5.cellsAll) hf.defers ⟨cs,?_,?_,(HR.o W hS).below⟩
    · rw [HBE.o,show a.tmps.getD 3 undef=.bool ([tx l1,tx l2].all As&& [x3].all Be) from h3]
    · exact h6.mono (λ b hb=>by have:=HQW.o; omega)
theorem Xl (F0:Nat->Prop) (l1:List UInt8) (l2:List UInt8) (x3:Int) (x4:Int) (x5:Int) (l6:List UInt8) (v6:aZ) (w:bA) (hz1:l1.length<=1099511627776) (hz2:l2.length<=1099511627776) (hz3: -9223372036854775808<=x3/\x3<=9223372036854775807) (hz4: -9223372036854775808<=x4/\x4<=9223372036854775807) (hz5: -9223372036854775808<=x5/\x5<=9223372036854775807) (hb6:Bs w v6 l6) (hz6:l6.length<=1099511627776): bB aA 102 #[.iface 123 (.agg #[.string (tx l1),.string (tx l2),.int .i64 x3,.int .i64 x4,.int .i64 x5,v6])] w (Fj w (.mk 2 19 0 [] ([.s l1,.s l2,.n x3,.n x4,.n x5,.b l6].map Fy)) ([.s l1,.s l2,.n x3,.n x4,.n x5,.b l6].all ptB)):=by
  obtain ⟨a6,c6,rfl,hc6,hm6⟩:=hb6.form;have HC:Hq (VC w w.heap.size [(w.heap.size+1, [.string (tx l1),.string (tx l2),.int .i64 x3,.int .i64 x4,.int .i64 x5,.slice a6 l6.length c6],123)] [] [(.slice a6 l6.length c6,l6)] ((w.alloc (.cells zs5.toArray 249)).alloc (.cells [.string (tx l1),.string (tx l2),.int .i64 x3,.int .i64 x4,.int .i64 x5,.slice a6 l6.length c6].toArray 123))):=hqZ (VC.start (by intro r hr; simp only [aB,aC,or_false] at hr; rcases hr with rfl; exact hb6) _ _);have HSZ:Hq (∀u∈ [tx l1,tx l2],u.size<=maxLen):=hqZ (by intro u hu; simp only [aB,aC,or_false] at hu; rcases hu with rfl | rfl; exact Oh hz1; exact Oh hz2);have HZ1:=hqZ hz1;clear hz1;have HZ2:=hqZ hz2;clear hz2;have HZ3:=hqZ hz3;clear hz3;have HZ4:=hqZ hz4;clear hz4;have HZ5:=hqZ hz5;clear hz5;have HZ6:=hqZ hz6;clear hz6;clear hb6;obtain ⟨z11,hta11⟩:∃z,∀W,(Instr.typeAssert (.iface 123 (.agg #[.string (tx l1),.string (tx l2),.int .i64 x3,.int .i64 x4,.int .i64 x5,.slice a6 l6.length c6])) 20 77 true).run aA W=.ok (.tuple #[z,.bool false]) W:=⟨_,λ W=>Bt _ _ _ _ (by kernel_rfl) Lm (.inr ⟨_,_,rfl,by decide⟩) W⟩
  obtain ⟨z12,hta12⟩:∃z,∀W,(Instr.typeAssert (.iface 123 (.agg #[.string (tx l1),.string (tx l2),.int .i64 x3,.int .i64 x4,.int .i64 x5,.slice a6 l6.length c6])) 20 83 true).run aA W=.ok (.tuple #[z,.bool false]) W:=⟨_,λ W=>Bt _ _ _ _ (by kernel_rfl) Ln (.inr ⟨_,_,rfl,by decide⟩) W⟩
  obtain ⟨z13,hta13⟩:∃z,∀W,(Instr.typeAssert (.iface 123 (.agg #[.string (tx l1),.string (tx l2),.int .i64 x3,.int .i64 x4,.int .i64 x5,.slice a6 l6.length c6])) 20 94 true).run aA W=.ok (.tuple #[z,.bool false]) W:=⟨_,λ W=>Bt _ _ _ _ (by kernel_rfl) Nt (.inr ⟨_,_,rfl,by decide⟩) W⟩
  obtain ⟨z14,hta14⟩:∃z,∀W,(Instr.typeAssert (.iface 123 (.agg #[.string (tx l1),.string (tx l2),.int .i64 x3,.int .i64 x4,.int .i64 x5,.slice a6 l6.length c6])) 20 97 true).run aA W=.ok (.tuple #[z,.bool false]) W:=⟨_,λ W=>Bt _ _ _ _ (by kernel_rfl) Vp (.inr ⟨_,_,rfl,by decide⟩) W⟩
  obtain ⟨z15,hta15⟩:∃z,∀W,(Instr.typeAssert (.iface 123 (.agg #[.string (tx l1),.string (tx l2),.int .i64 x3,.int .i64 x4,.int .i64 x5,.slice a6 l6.length c6])) 20 292 true).run aA W=.ok (.tuple #[z,.bool false]) W:=⟨_,λ W=>Bt _ _ _ _ (by kernel_rfl) Vq (.inr ⟨_,_,rfl,by decide⟩) W⟩
  obtain ⟨z16,hta16⟩:∃z,∀W,(Instr.typeAssert (.iface 123 (.agg #[.string (tx l1),.string (tx l2),.int .i64 x3,.int .i64 x4,.int .i64 x5,.slice a6 l6.length c6])) 20 294 true).run aA W=.ok (.tuple #[z,.bool false]) W:=⟨_,λ W=>Bt _ _ _ _ (by kernel_rfl) Vr (.inr ⟨_,_,rfl,by decide⟩) W⟩
  obtain ⟨z17,hta17⟩:∃z,∀W,(Instr.typeAssert (.iface 123 (.agg #[.string (tx l1),.string (tx l2),.int .i64 x3,.int .i64 x4,.int .i64 x5,.slice a6 l6.length c6])) 20 101 true).run aA W=.ok (.tuple #[z,.bool false]) W:=⟨_,λ W=>Bt _ _ _ _ (by kernel_rfl) A1m (.inr ⟨_,_,rfl,by decide⟩) W⟩
  obtain ⟨z18,hta18⟩:∃z,∀W,(Instr.typeAssert (.iface 123 (.agg #[.string (tx l1),.string (tx l2),.int .i64 x3,.int .i64 x4,.int .i64 x5,.slice a6 l6.length c6])) 20 111 true).run aA W=.ok (.tuple #[z,.bool false]) W:=⟨_,λ W=>Bt _ _ _ _ (by kernel_rfl) A4m (.inr ⟨_,_,rfl,by decide⟩) W⟩
  have hta:∀W,(Instr.typeAssert (.iface 123 (.agg #[.string (tx l1),.string (tx l2),.int .i64 x3,.int .i64 x4,.int .i64 x5,.slice a6 l6.length c6])) 20 123 true).run aA W=.ok (.tuple #[.agg #[.string (tx l1),.string (tx l2),.int .i64 x3,.int .i64 x4,.int .i64 x5,.slice a6 l6.length c6],.bool true]) W:=λ W=>Fg _ _ _ (by kernel_rfl) W
  obtain ⟨B,hB⟩:∃B,B= [.s l1,.s l2,.n x3,.n x4,.n x5,.b l6].all ptB:=⟨_,rfl⟩
  obtain ⟨X,hX⟩:∃X:Tv,X=.mk 2 19 0 [] ([.s l1,.s l2,.n x3,.n x4,.n x5,.b l6].map Fy):=⟨_,rfl⟩
  rw [<-hB,<-hX];have HB:=hqZ hB;have HX2:=hqZ hX;clear hB hX;go_enter aK,aL;go_upto_region 34 with fail;clear hta hta11 hta12 hta13 hta14 hta15 hta16 hta17 hta18;show Code.wp _ _ _ _ ((w.alloc (.cells zs5.toArray 249)).alloc (.cells [.string (tx l1),.string (tx l2),.int .i64 x3,.int .i64 x4,.int .i64 x5,.slice a6 l6.length c6].toArray 123))
  obtain ⟨W0,hW0⟩:∃W0,W0=(w.alloc (.cells zs5.toArray 249)).alloc (.cells [.string (tx l1),.string (tx l2),.int .i64 x3,.int .i64 x4,.int .i64 x5,.slice a6 l6.length c6].toArray 123):=⟨_,rfl⟩
  rw [<-hW0] at HC ⊢;clear hW0;obtain ⟨p,hp⟩:∃p,p=w.heap.size+1:=⟨_,rfl⟩
  obtain ⟨q,hq⟩:∃q,q=w.heap.size:=⟨_,rfl⟩
  rw [<-hp,<-hq] at HC ⊢;clear hp hq;have HBE:Hq (B=([tx l1,tx l2].all As&& [x3,x4,x5].all Be)):=hqZ (by rw [HB.o]; simp only [aM,aN,ptB,Bool.and_true,Bool.true_and,Bool.and_false,Bool.false_and,Bool.and_assoc]; first | done | ac_rfl);obtain ⟨wd,hwd⟩:∃wd,wd=bA.drew W0:=⟨_,rfl⟩
  have hvd:VC w q [(p, [.string (tx l1),.string (tx l2),.int .i64 x3,.int .i64 x4,.int .i64 x5,.slice a6 l6.length c6],123)] [] [(.slice a6 l6.length c6,l6)] wd:=by rw [hwd]; exact HC.o.drew
  have HXE:Hq (X=.mk 2 19 0 [] [.mk 1 0 0 l1 [],.mk 1 0 0 l2 [],.mk 0 0 (C4 x3) [] [],.mk 0 0 (C4 x4) [] [],.mk 0 0 (C4 x5) [] [],.mk 1 0 0 l6 []]):=hqZ HX2.o;have HR:Hq (∀W,GV (λ b=>q<b) q X wd W->VR w q [(p, [.string (tx l1),.string (tx l2),.int .i64 x3,.int .i64 x4,.int .i64 x5,.slice a6 l6.length c6],123)] [] [(.slice a6 l6.length c6,l6)] W):=hqZ (λ W h=>hvd.gv h);have HZD:Hq (∀W,GV (λ b=>q<b) q X wd W->q<W.heap.size/\∀b,W.heap.size<=b->q<b):=hqZ (λ W h=>⟨(HR.o W h).lt,λ b hb=>aO (HR.o W h).lt hb⟩);have HFq:Hq (¬(λ b=>q<b) q):=hqZ (aP q);have HQW:Hq (w.heap.size=q):=hqZ hvd.hq.symm;clear hvd HC;refine wp_region_held (S:=λ W=>GV (λ b=>q<b) q X wd W) (by kernel_rfl) ?_;change wpAnyH _ _ _ _ _ _ _ _ (bA.drew _);rw [<-hwd];clear hwd;refine zH 0 ?_;refine zH 1 ?_ (hr:=λ W hW=>by have hc:=((HR.o W hW).blkAt 0 rfl).cell 0; go_simp; try rfl);refine zH 3 ?_;refine zH 4 ?_ (hr:=λ W hW=>by have hc:=((HR.o W hW).blkAt 0 rfl).cell 1; go_simp; try rfl);refine zH 6 ?_;refine zH 7 ?_ (hr:=λ W hW=>by have hc:=((HR.o W hW).blkAt 0 rfl).cell 2; go_simp; try rfl);refine zH 9 ?_;refine zH 10 ?_ (hr:=λ W hW=>by have hc:=((HR.o W hW).blkAt 0 rfl).cell 3; go_simp; try rfl);refine zH 12 ?_;refine zH 13 ?_ (hr:=λ W hW=>by have hc:=((HR.o W hW).blkAt 0 rfl).cell 4; go_simp; try rfl);refine zH 15 ?_;refine zH 16 ?_ (hr:=λ W hW=>by have hc:=((HR.o W hW).blkAt 0 rfl).cell 5; go_simp; try rfl);refine zH 20 ?_;refine zH 21 ?_ (hr:=λ W hW=>by have hc:=((HR.o W hW).blkAt 0 rfl).cell 0; go_simp; try rfl);refine zH 22 ?_;refine zH 23 ?_ (hr:=λ W hW=>by have hc:=((HR.o W hW).blkAt 0 rfl).cell 1; go_simp; try rfl);refine zH 25 ?_;refine zH 26 ?_ (hr:=λ W hW=>by have hc:=((HR.o W hW).blkAt 0 rfl).cell 2; go_simp; try rfl);refine zH 27 ?_;refine zH 28 ?_ (hr:=λ W hW=>by have hc:=((HR.o W hW).blkAt 0 rfl).cell 3; go_simp; try rfl);refine zH 29 ?_;refine zH 30 ?_ (hr:=λ W hW=>by have hc:=((HR.o W hW).blkAt 0 rfl).cell 4; go_simp; try rfl);refine Ct (G:=GV (λ b=>q<b) q X) (Post:=J4 (λ b=>q<b) q X [.any,.any,.val (.mk 1 0 0 l1 []),.any,.any,.val (.mk 1 0 0 l2 []),.any,.any,.val (.mk 0 0 (C4 x3) [] []),.any,.any,.val (.mk 0 0 (C4 x4) [] []),.any,.any,.val (.mk 0 0 (C4 x5) [] []),.any,.any,.val (.mk 1 0 0 l6 []),.vals [.mk 1 0 0 l1 [],.mk 1 0 0 l2 [],.mk 0 0 (C4 x3) [] [],.mk 0 0 (C4 x4) [] [],.mk 0 0 (C4 x5) [] [],.mk 1 0 0 l6 []],.val (.mk 2 19 0 [] [.mk 1 0 0 l1 [],.mk 1 0 0 l2 [],.mk 0 0 (C4 x3) [] [],.mk 0 0 (C4 x4) [] [],.mk 0 0 (C4 x5) [] [],.mk 1 0 0 l6 []]),.any,.any,.any,.any,.row [.string (tx l1),.string (tx l2)],.any,.any,.any,.any,.any,.any,.row [.int .i64 x3,.int .i64 x4,.int .i64 x5],.is (.bool ([tx l1,tx l2].all As&& [x3,x4,x5].all Be)),.fin,.is (.bool ([tx l1,tx l2].all As&& [x3,x4,x5].all Be))]) (ds:= [287,290,293,296,299,302,303,304,309,316,317,3]) (GV.refl _ _ _) GV.trans (λ W W' h g=>GV.trans _ _ _ h g) (λ i v W W' h g=>PK.stable HFq.o h g) [2,5,8,11,14,17,18,19,24,31,32,33,34] 397 rfl (by decide+kernel) (by decide+kernel) ?_ ?_ (GV.refl _ _ _ _) (by decide+kernel)
  · refine zA (λ a W hf hS hd K hK=>?_) ?_
    · have e286:a.eval (.tmp 286)=.string (tx l1):=hf.lit 286 (by decide) rfl;exact Ax (Ae rfl) rfl Cm (vs:=#[.string (tx l1)]) (by simp [e286]) (Eg l1 W HZ1.o) (HZD.o W hS).1 (HZD.o W hS).2 hK
    refine zA (λ a W hf hS hd K hK=>?_) ?_
    · have e289:a.eval (.tmp 289)=.string (tx l2):=hf.lit 289 (by decide) rfl;exact Ax (Ae rfl) rfl Cm (vs:=#[.string (tx l2)]) (by simp [e289]) (Eg l2 W HZ2.o) (HZD.o W hS).1 (HZD.o W hS).2 hK
    refine zA (λ a W hf hS hd K hK=>?_) ?_
    · have e292:a.eval (.tmp 292)=.int .i64 x3:=hf.lit 292 (by decide) rfl;exact Ax (Ae rfl) rfl Dm (vs:=#[.int .i64 x3]) (by simp [e292]) (Ez x3 W HZ3.o.1 HZ3.o.2) (HZD.o W hS).1 (HZD.o W hS).2 hK
    refine zA (λ a W hf hS hd K hK=>?_) ?_
    · have e295:a.eval (.tmp 295)=.int .i64 x4:=hf.lit 295 (by decide) rfl;exact Ax (Ae rfl) rfl Dm (vs:=#[.int .i64 x4]) (by simp [e295]) (Ez x4 W HZ4.o.1 HZ4.o.2) (HZD.o W hS).1 (HZD.o W hS).2 hK
    refine zA (λ a W hf hS hd K hK=>?_) ?_
    · have e298:a.eval (.tmp 298)=.int .i64 x5:=hf.lit 298 (by decide) rfl;exact Ax (Ae rfl) rfl Dm (vs:=#[.int .i64 x5]) (by simp [e298]) (Ez x5 W HZ5.o.1 HZ5.o.2) (HZD.o W hS).1 (HZD.o W hS).2 hK
    refine zA (λ a W hf hS hd K hK=>?_) ?_
    · have e301:a.eval (.tmp 301)=.slice a6 l6.length c6:=hf.lit 301 (by decide) rfl;exact Ax (Ae rfl) rfl D1 (vs:=#[.slice a6 l6.length c6]) (by simp [e301]) (Cy _ l6 W ((HR.o W hS).rowAt 0 rfl) HZ6.o) (HZD.o W hS).1 (HZD.o W hS).2 hK
    refine zA (λ a W hf hS hd K hK=>?_) ?_
    · have d287:=(hd 2 (by decide+kernel)).get (s:=287) rfl;have d290:=(hd 5 (by decide+kernel)).get (s:=290) rfl;have d293:=(hd 8 (by decide+kernel)).get (s:=293) rfl;have d296:=(hd 11 (by decide+kernel)).get (s:=296) rfl;have d299:=(hd 14 (by decide+kernel)).get (s:=299) rfl;have d302:=(hd 17 (by decide+kernel)).get (s:=302) rfl;exact Cz (Ae rfl) rfl Gi (ps:= [.tmp 287,.tmp 290,.tmp 293,.tmp 296,.tmp 299,.tmp 302]) rfl (l:= [.mk 1 0 0 l1 [],.mk 1 0 0 l2 [],.mk 0 0 (C4 x3) [] [],.mk 0 0 (C4 x4) [] [],.mk 0 0 (C4 x5) [] [],.mk 1 0 0 l6 []]) ⟨d287,d290,d293,d296,d299,d302,trivial⟩ rfl (by decide) (by decide) (HZD.o W hS).1 (HZD.o W hS).2 hK
    refine zA (λ a W hf hS hd K hK=>?_) ?_
    · have d303:=(hd 18 (by decide+kernel)).get (s:=303) rfl;exact Dj (Ae rfl) rfl Cw d303 (HZD.o W hS).1 (λ v w1 h1 h2=>hK v w1 h1 h2) HFq.o
    refine zA (λ a W hf hS hd K hK=>?_) ?_
    · have e306:a.eval (.tmp 306)=.string (tx l1):=hf.lit 306 (by decide) rfl;have e308:a.eval (.tmp 308)=.string (tx l2):=hf.lit 308 (by decide) rfl;exact Cl (Ae rfl) rfl Qr (ps:= [.tmp 306,.tmp 308]) rfl (cs:= [.string (tx l1),.string (tx l2)]) (by simp only [aD,aE,e306,e308]) (by intro u hu; simp only [aB,aC,or_false] at hu; rcases hu with rfl | rfl <;> exact ⟨rfl,rfl⟩) rfl (by decide) (by decide) (HZD.o W hS).1 (HZD.o W hS).2 hK
    refine zA (λ a W hf hS hd K hK=>?_) ?_
    · have e311:a.eval (.tmp 311)=.int .i64 x3:=hf.lit 311 (by decide) rfl;have e313:a.eval (.tmp 313)=.int .i64 x4:=hf.lit 313 (by decide) rfl;have e315:a.eval (.tmp 315)=.int .i64 x5:=hf.lit 315 (by decide) rfl;exact Cl (Ae rfl) rfl Mq (ps:= [.tmp 311,.tmp 313,.tmp 315]) rfl (cs:= [.int .i64 x3,.int .i64 x4,.int .i64 x5]) (by simp only [aD,aE,e311,e313,e315]) (by intro u hu; simp only [aB,aC,or_false] at hu; rcases hu with rfl | rfl | rfl <;> exact ⟨rfl,rfl⟩) rfl (by decide) (by decide) (HZD.o W hS).1 (HZD.o W hS).2 hK
    refine zA (λ a W hf hS hd K hK=>?_) ?_
    · have d309:=(hd 24 (by decide+kernel)).get (s:=309) rfl;have d316:=(hd 31 (by decide+kernel)).get (s:=316) rfl;exact Ee (Ae rfl) rfl Dp (vs:=#[a.eval (.tmp 309),a.eval (.tmp 316)]) (by first | (simp only [aG,aD,aE]; done) | (simp only [aG,aD,aE]; rfl)) (u:=(.bool ([tx l1,tx l2].all As&& [x3,x4,x5].all Be))) (Fb [tx l1,tx l2] [x3,x4,x5] _ _ W d309.1 d316.1 HSZ.o) (HZD.o W hS).1 hK
    refine zA (λ a W hf hS hd K hK=>?_) ?_
    · have e2:a.eval (.tmp 2)=.pointer (some ⟨q,0,none⟩):=hf.lit 2 (by decide) rfl;have d304:=(hd 19 (by decide+kernel)).get (s:=304) rfl;obtain ⟨cur,hc1,hc2⟩:=(HR.o W hS).len;rw [<-HXE.o] at d304;exact Di (Ae rfl) rfl e2 d304 hc1 hc2 HFq.o hK
    refine zA (λ a W hf hS hd K hK=>?_) ?_
    · have d317:=(hd 32 (by decide+kernel)).get (s:=317) rfl;exact A3 (Ae rfl) (Hn rfl rfl) (hK _ _ (GV.refl _ _ _ _) d317)
    exact Ce.nil
  · intro a W hf hS hp;have h3:=(hp 34 (by decide)).get (s:=3) rfl;obtain ⟨v,cs,h5,h6⟩:=(hp 33 (by decide)).fin;have e2:a.eval (.tmp 2)=.pointer (some ⟨q,0,none⟩):=hf.lit 2 (by decide) rfl;go_wp2_with fail;refine bodyPost_ret (Aj rfl Aq (show a.tmps.getD 2 undef=_ from e2) h6.length h5.cellsAll) hf.defers ⟨cs,?_,?_,(HR.o W hS).below⟩
    · rw [HBE.o,show a.tmps.getD 3 undef=.bool ([tx l1,tx l2].all As&& [x3,x4,x5].all Be) from h3]
    · exact h6.mono (λ b hb=>by have:=HQW.o; omega)
end Go.Proofs.YtbmjjfhpllpiaaaGreat
namespace Go.Proofs.YtbmjjfhpllpiaaaGreat
theorem Ki:∀(f n:Nat),0<f->n<256 ^ f->Ec (Gw f n)=n/\(1<=n->(Gw f n).getD 0 0≠0)/\0< (Gw f n).length
  | 0,n,h,_=>by omega
  | f+1,n,_,hn=>by
    rw [Gw];by_cases h:n<256
    · rw [if_pos h];refine ⟨?_,λ h1=>?_,by simp⟩
      · show Ec ([]++ [UInt8.ofNat n])=n
        rw [Lf]
        have:(UInt8.ofNat n).toNat=n:=by simp; omega
        rw [this];simp [Ec]
      · simp;intro e
        have:=congrArg UInt8.toNat e;simp at this;omega
    · rw [if_neg h];have hf:0<f:=by
        rcases Nat.eq_zero_or_pos f with e | e
        · subst e; omega
        · exact e
      have hq:n / 256<256 ^ f:=by
        rw [Nat.pow_succ] at hn;exact Nat.div_lt_of_lt_mul (by rw [Nat.mul_comm]; exact hn)
      obtain ⟨h1,h2,h3⟩:=Ki f (n / 256) hf hq;refine ⟨?_,λ _=>?_,by simp⟩
      · rw [Lf,h1]
        have:(UInt8.ofNat (n % 256)).toNat=n % 256:=by simp
        rw [this];omega
      · rw [aQ,aT h3,<-aQ];exact h2 (by omega)
theorem Xp:(256:Nat) ^ 8=18446744073709551616:=by decide
theorem O0 (n:Nat) (hn:n<18446744073709551616):Ec (Cb n)=n:=by
  rw [Oe n (by rw [Xp]; exact hn)];exact (Ki 8 n (by decide) (by rw [Xp]; exact hn)).1
theorem Vf (n:Nat) (hn:n<18446744073709551616):¬(1< (Cb n).length/\(Cb n).getD 0 0=0):=by
  rintro ⟨h1,h2⟩;rw [Oe n (by rw [Xp]; exact hn)] at h1 h2;by_cases h:n<256
  · rw [Gw,if_pos h] at h1;simp at h1
  · exact (Ki 8 n (by decide) (by rw [Xp]; exact hn)).2.1 (by omega) h2
theorem A0i (n:Nat) (hn:n<65536):(Cb n).length=if n<256 then 1 else 2:=by
  rw [Oe n (by rw [Xp]; omega),Gw];split
  · rfl
  · rw [Gw,if_pos (by omega)];rfl
theorem Qw (x y:UInt8) (l:List UInt8):(x::y::l).getD 1 0=y:=rfl
theorem Vg (k t:Int) (m:Nat) (rest:List UInt8) (hm:m<=4096) (hr:m<=rest.length):H0 (Dn k t m++rest)=(m,(Dn k t m).length,0):=by
  unfold Dn;by_cases h:m<128
  · rw [if_pos h];generalize UInt8.ofNat (k*64+t).toNat=f;have hc:(UInt8.ofNat m).toNat=m:=by simp; omega
    simp only [aU,List.nil_append,H0,Qw,aV,hc];rw [if_neg (by omega),if_pos h,if_neg (by omega)];rfl
  · rw [if_neg h];generalize UInt8.ofNat (k*64+t).toNat=f;have hl:=A0i m (by omega);have hg:=O0 m (by omega);generalize Cb m=s at hl hg;have hs:s.length=1\/s.length=2:=by rw [hl]; split <;> simp
    have hc:(UInt8.ofNat (128+s.length)).toNat=128+s.length:=by simp; omega
    have htake:((f::UInt8.ofNat (128+s.length)::(s++rest)).drop 2).take (128+s.length-128)=s:=by
      simp only [List.drop_succ_cons,List.drop_zero];rw [show 128+s.length-128=s.length by omega,aR]
    simp only [aU,H0,Qw,hc,htake,hg,aV,aI];rw [if_neg (by omega),if_neg (by omega),if_neg (by omega),if_neg (by omega),if_neg (by
      rintro (h1 | ⟨h1,h2⟩)
      · omega
      · rw [if_pos h2] at hl; omega),if_neg (by omega)]
    rw [show 128+s.length-126=s.length+1+1 by omega]
theorem Wz (k t:Int) (m:Nat) (rest:List UInt8):(Dn k t m++rest).getD 0 0=UInt8.ofNat (k*64+t).toNat:=by
  unfold Dn;split <;> rfl
theorem A1s (k t:Int) (m:Nat):2<=(Dn k t m).length:=by
  unfold Dn;split <;> simp
theorem A0x (x:Tv):2<=(A0 x).length:=by
  rw [Om,aI]
  have:=A1s x.kind x.tag (Dz x).length;omega
theorem O4 {d:Nat} (hd:∀x:Tv,Ba d x=true->Nw x->(A0 x).length<=4096->∀rest,Ew d (A0 x++rest)=(x,(A0 x).length,0)): ∀(l:List Tv) (f:Nat),(∀x∈l,Ba d x=true/\Nw x)->(Az l).length<=4096->(Az l).length<=f->Io (Ew d) f (Az l)=(l,0)
  | [],f,_,_,_=>N4 _ _
  | x::l,f,h,hl,hf=>by
    have h2:=A0x x;rw [Az,aI] at hl hf;obtain ⟨f,rfl⟩:∃g,f=g+1:=⟨f-1,by omega⟩
    have hx:=hd x (h x (by simp)).1 (h x (by simp)).2 (by omega) (Az l);have hne:A0 x++Az l≠ []:=by
      intro e;have h3:=congrArg List.length e;rw [aI,List.length_nil] at h3;omega
    rw [Az,Mz hne hx,aS,O4 hd l f (λ y hy=>h y (by simp [hy])) (by omega) (by omega)]
theorem Pb:∀(d:Nat) (x:Tv),Ba d x=true->Nw x->(A0 x).length<=4096->∀rest,Ew d (A0 x++rest)=(x,(A0 x).length,0)
  | 0,x,h,_,_,_=>by simp [Ba] at h
  | d+1,.mk k t n b l,h,hn,hlen,rest=>by
    have hw:=Om (.mk k t n b l);simp only [Tv.kind,Tv.tag] at hw;have hbody:Dz (.mk k t n b l)=Ei k n b (Az l):=rfl;rw [Ba] at h;simp only [Bool.and_eq_true,decide_eq_true_eq] at h;obtain ⟨⟨ht0,ht1⟩,hkind⟩:=h;have hbl:(Dz (.mk k t n b l)).length<=4096:=by rw [hw,aI] at hlen; omega
    have hsz:=Vg k t (Dz (.mk k t n b l)).length (Dz (.mk k t n b l)++rest) hbl (by simp);have hfirst:=Wz k t (Dz (.mk k t n b l)).length (Dz (.mk k t n b l)++rest);have htotal:(A0 (.mk k t n b l)).length=(Dn k t (Dz (.mk k t n b l)).length).length+(Dz (.mk k t n b l)).length:=by rw [hw,aI]
    have hdrop:((Dn k t (Dz (.mk k t n b l)).length++(Dz (.mk k t n b l)++rest)).drop (Dn k t (Dz (.mk k t n b l)).length).length).take (Dz (.mk k t n b l)).length=Dz (.mk k t n b l):=by
      rw [aS,aR]
    have hdrop0:(Dn k t (Dz (.mk k t n b l)).length++(Dz (.mk k t n b l)++rest)).drop (Dn k t (Dz (.mk k t n b l)).length).length=Dz (.mk k t n b l)++rest:=aS;rw [htotal,hw,List.append_assoc,Ew,hsz];simp only [hfirst,hdrop0,aR];rw [if_neg (by decide)];generalize hbd:Dz (.mk k t n b l)=bd at*;split at hkind
    · rename_i hk;subst hk;simp only [Bool.and_eq_true,decide_eq_true_eq] at hkind;obtain ⟨rfl,hl0⟩:=hkind;obtain rfl:=aW hl0;have hbs:bd=Cb n:=by rw [hbody]; rfl
      have hf:(UInt8.ofNat ((0:Int)*64+t).toNat).toNat=t.toNat:=by simp; omega
      rw [hf,if_neg (by omega),if_pos (by omega)];have hfew:=Hz n;have hgb:Fp bd=(n,true):=by
        unfold Fp;rw [hbs,if_neg (by omega),O0 n hn.1]
      rw [hgb,if_neg (by
        rintro (h1 | ⟨h1,h2⟩)
        · simp at h1
        · refine Vf n hn.1 ⟨by rw [<-hbs]; exact h1,?_⟩;have e3:(bd++rest).getD 0 0=(Cb n).getD 0 0:=by rw [aQ,aQ,aT (by omega),hbs]
          rw [<-e3];exact h2),show ((t.toNat % 64:Nat):Int)=t by omega]
    · split at hkind
      · rename_i hk0 hk;subst hk;simp only [Bool.and_eq_true,decide_eq_true_eq] at hkind;obtain ⟨rfl,hl0⟩:=hkind;obtain rfl:=aW hl0;have hbs:bd=b:=by rw [hbody]; rfl
        have hf:(UInt8.ofNat ((1:Int)*64+t).toNat).toNat=64+t.toNat:=by simp; omega
        rw [hf,if_neg (by omega),if_neg (by omega),if_pos (by omega),hbs,show (((64+t.toNat) % 64:Nat):Int)=t by omega]
      · split at hkind
        · rename_i hk0 hk1 hk;subst hk;simp only [Bool.and_eq_true,decide_eq_true_eq] at hkind;obtain ⟨⟨hall,rfl⟩,rfl⟩:=hkind;have hbs:bd=Az l:=by rw [hbody]; rfl
          have hf:(UInt8.ofNat ((2:Int)*64+t).toNat).toNat=128+t.toNat:=by simp; omega
          have hls:=O4 (λ x h1 h2 h3=>Pb d x h1 h2 h3) l bd.length (λ x hx=>⟨List.all_eq_true.1 hall x hx,hn.2.mem x hx⟩) (by rw [<-hbs]; exact hbl) (by rw [hbs]; exact aF _);rw [<-hbs] at hls;rw [hf,if_neg (by omega),if_neg (by omega),if_neg (by omega),hls];simp only [if_true];rw [show (((128+t.toNat) % 64:Nat):Int)=t by omega]
        · simp at hkind
theorem Np {x:Tv} (h:Ba 8 x=true) (hn:Nw x) (hl:(A0 x).length<=4096):Ic (A0 x)=(x,0):=by
  have:=Pb 8 x h hn hl [];rw [aH] at this;unfold Ic;rw [if_neg (by omega),this];simp
end Go.Proofs.YtbmjjfhpllpiaaaGreat
namespace Go.Proofs.YtbmjjfhpllpiaaaGreat
open Go.RowKit
def Gy (t:Int) (pts:List Pt):Tv:=.mk 2 t 0 [] (pts.map Fy)
/-! ### The other way -/
theorem A1M (x:Int):Be x=true↔0<=x/\x<=1099511627776:=by simp [Be]
def Iv:Pt->Prop
  | .s l=>l.length<=1099511627776
  | .n x=> -9223372036854775808<=x/\x<=9223372036854775807
  | .b l=>l.length<=1099511627776
  | .t _=>True
  | .i t=>t.1.length<=1099511627776/\t.2.length<=1099511627776
  | .x l=>(∀t∈l,t.1.length<=1099511627776/\t.2.length<=1099511627776)/\l.length<=1954687338211
theorem Ft (t:Int) (pts:List Pt) (h:pts.all ptB=true):Nw (Gy t pts):=by
  refine ⟨by decide,NsW.of λ x hx=>?_⟩;obtain ⟨p,hp,rfl⟩:=List.mem_map.1 hx;have hb:=List.all_eq_true.1 h p hp;have htk:∀t,Nw (Co t):=λ t=>⟨by decide,⟨by decide,trivial⟩,⟨by decide,trivial⟩,trivial⟩
  cases p with
  | s l=>exact ⟨by decide,trivial⟩
  | n x=>
    obtain ⟨h0,h1⟩:=(A1M x).1 hb;obtain ⟨n,rfl⟩:=Int.eq_ofNat_of_zero_le h0;exact ⟨by show n<_; omega,trivial⟩
  | b l=>exact ⟨by decide,trivial⟩
  | t b=>cases b <;> exact ⟨by decide,trivial⟩
  | i t=>exact htk t
  | x l=>
    refine ⟨by decide,NsW.of λ y hy=>?_⟩;obtain ⟨t,ht,rfl⟩:=List.mem_map.1 hy;exact htk t
theorem O6 (v:aZ) (x:Tv) (b:Bool) (w:bA) (hval:bB aA 102 #[v] w (Fj w x b)) (hn:b=true->Nw x/\(A0 x).length<=1073741824): bB aA 64 #[v] w (A0E w (if b=true then wrS x else ([],7))):=by
  have HV:=hqZ hval;have HN:=hqZ hn;obtain ⟨r,hr⟩:∃r,r=(if b=true then wrS x else ([],7)):=⟨_,rfl⟩
  rw [<-hr];have HR:=hqZ hr;clear hval hn hr;go_enter aX,aY;go_wp2_with fail;refine HV.o.mono ?_;rintro e w1 ⟨cs,rfl,ht,hb⟩;have HT:=hqZ ht;have HB:=hqZ hb;have HL:=hqZ ht.length;have HO:=hqZ ht.one;have HN4:=hqZ (Blk.new w1 zs5 249);clear ht hb HV;go_upto_region 2 with ((with_reducible refine zws 4 9 ?_);refine Af rfl (.tmp 4) (.tmp 9) Aq rfl rfl (vs:=cs) rfl HL.o HN4.o (aF _) HO.o ?_);intro w2 h2 k2;have h2':Blk w2 w1.heap.size cs 249:=by
    rw [aJ (by decide),aH] at h2;exact h2
  have hb2:Below w1.heap.size w1 w2:=((Below.refl _ _).alloc (aF _) _).trans (k2.below (by omega));have H2:=hqZ h2';have HT2:=hqZ (HT.o.below hb2);have HB2:Hq (Below w.heap.size w w2):=hqZ (HB.o.trans (hb2.mono HB.o.size));clear h2 k2 h2' hb2
  cases b with
  | false=>
    go_wp2_with fail;go_ret2;rw [show r=([],7) from HR.o];exact ⟨_,rfl,Sl.nil _ _ _,HB2.o⟩
  | true=>
    have HWR:=hqZ (Qo x _ cs w2 HT2.o (HN.o rfl).1 (λ _=>(HN.o rfl).2));go_wp2_with ((with_reducible refine zw 13 ?_);refine Ag rfl (.tmp 4) Aq rfl rfl (cs:=cs) HL.o H2.o.cellsAll ?_);refine HWR.o.mono ?_;rintro e w3 ⟨v3,rfl,hbs,hb3⟩;obtain ⟨a3,c3,rfl,_⟩:=hbs.form;have HBS:=hqZ hbs;have HB3:Hq (Below w.heap.size w w3):=hqZ (HB2.o.trans (hb3.mono HB2.o.size));clear hbs hb3;go_wp2_with fail;go_ret2;rw [show r=wrS x from HR.o];exact ⟨_,rfl,HBS.o,HB3.o⟩
theorem D3 (v:aZ) (x:Tv) (b:Bool) (w:bA) (hval:bB aA 102 #[v] w (Fj w x b)) (hn:b=true->Nw x/\(A0 x).length<=1073741824): bB aA 64 #[v] w (Ci w (if b=true then wrS x else ([],7))):=by
  have HV:=hqZ hval;have HN:=hqZ hn;obtain ⟨r,hr⟩:∃r,r=(if b=true then wrS x else ([],7)):=⟨_,rfl⟩
  rw [<-hr];have HR:=hqZ hr;clear hval hn hr;go_enter aX,aY;go_wp2_with fail;refine HV.o.mono ?_;rintro e w1 ⟨cs,rfl,ht,hb⟩;have HT:=hqZ ht;have HB:=hqZ hb;have HL:=hqZ ht.length;have HO:=hqZ ht.one;have HN4:=hqZ (Blk.new w1 zs5 249);clear ht hb HV;go_upto_region 2 with ((with_reducible refine zws 4 9 ?_);refine Af rfl (.tmp 4) (.tmp 9) Aq rfl rfl (vs:=cs) rfl HL.o HN4.o (aF _) HO.o ?_);intro w2 h2 k2;have h2':Blk w2 w1.heap.size cs 249:=by
    rw [aJ (by decide),aH] at h2;exact h2
  have hb2:Below w1.heap.size w1 w2:=((Below.refl _ _).alloc (aF _) _).trans (k2.below (by omega));have H2:=hqZ h2';have HT2:=hqZ (HT.o.below hb2);have HB2:Hq (Below w.heap.size w w2):=hqZ (HB.o.trans (hb2.mono HB.o.size));clear h2 k2 h2' hb2
  cases b with
  | false=>
    go_wp2_with fail;go_ret2;rw [show r=([],7) from HR.o];exact ⟨_,rfl,Own.nil _ _ _ _ _,HB2.o⟩
  | true=>
    have HWR:=hqZ (Iy x _ cs w2 HT2.o (HN.o rfl).1 (λ _=>(HN.o rfl).2));go_wp2_with ((with_reducible refine zw 13 ?_);refine Ag rfl (.tmp 4) Aq rfl rfl (cs:=cs) HL.o H2.o.cellsAll ?_);refine HWR.o.mono ?_;rintro e w3 ⟨v3,rfl,hbs,hb3⟩;obtain ⟨a3,c3,rfl,_⟩:=hbs.sl.form;have HBS:Hq (Dr w3 w.heap.size (.slice a3 (wrS x).1.length c3) (wrS x).1):=hqZ (hbs.base HB2.o.size);have HB3:Hq (Below w.heap.size w w3):=hqZ (HB2.o.trans (hb3.mono HB2.o.size));clear hbs hb3;go_wp2_with fail;go_ret2;rw [show r=wrS x from HR.o];exact ⟨_,rfl,HBS.o,HB3.o⟩
theorem U2 (F0:Nat->Prop) (l1:List UInt8) (l2 m2:List UInt8) (v2:aZ) (l3:List UInt8) (v3:aZ) (w:bA) (hz1:l1.length<=1099511627776) (hb2:Bs w v2 m2) (hz2:l2.length<=1099511627776/\m2.length<=1099511627776) (hb3:Bs w v3 l3) (hz3:l3.length<=1099511627776) (hT7:rT (l2,m2)=true): bB aA 102 #[.iface 83 (.agg #[.string (tx l1),.string (tx l2),v2,v3])] w (Fj w (.mk 2 12 0 [] ([.s l1,.i (l2,m2),.b l3].map Fy)) ([.s l1,.i (l2,m2),.b l3].all ptB)):=by
  obtain ⟨a2,c2,rfl,hc2,hm2⟩:=hb2.form;obtain ⟨a3,c3,rfl,hc3,hm3⟩:=hb3.form;have HC:Hq (VC w w.heap.size [(w.heap.size+1, [.string (tx l1),.string (tx l2),.slice a2 m2.length c2,.slice a3 l3.length c3],83)] [] [(.slice a2 m2.length c2,m2),(.slice a3 l3.length c3,l3)] ((w.alloc (.cells zs5.toArray 249)).alloc (.cells [.string (tx l1),.string (tx l2),.slice a2 m2.length c2,.slice a3 l3.length c3].toArray 83))):=hqZ (VC.start (by intro r hr; simp only [aB,aC,or_false] at hr; rcases hr with rfl | rfl; exact hb2; exact hb3) _ _);have HSZ:Hq (∀u∈ [tx l1],u.size<=maxLen):=hqZ (by intro u hu; simp only [aB,aC,or_false] at hu; rcases hu with rfl; exact Oh hz1);have HZ1:=hqZ hz1;clear hz1;have HZ2:=hqZ hz2;clear hz2;have HZ3:=hqZ hz3;clear hz3;clear hb2;clear hb3;obtain ⟨z11,hta11⟩:∃z,∀W,(Instr.typeAssert (.iface 83 (.agg #[.string (tx l1),.string (tx l2),.slice a2 m2.length c2,.slice a3 l3.length c3])) 20 77 true).run aA W=.ok (.tuple #[z,.bool false]) W:=⟨_,λ W=>Bt _ _ _ _ (by kernel_rfl) Lm (.inr ⟨_,_,rfl,by decide⟩) W⟩
  have hta:∀W,(Instr.typeAssert (.iface 83 (.agg #[.string (tx l1),.string (tx l2),.slice a2 m2.length c2,.slice a3 l3.length c3])) 20 83 true).run aA W=.ok (.tuple #[.agg #[.string (tx l1),.string (tx l2),.slice a2 m2.length c2,.slice a3 l3.length c3],.bool true]) W:=λ W=>Fg _ _ _ (by kernel_rfl) W
  obtain ⟨B,hB⟩:∃B,B= [.s l1,.i (l2,m2),.b l3].all ptB:=⟨_,rfl⟩
  obtain ⟨X,hX⟩:∃X:Tv,X=.mk 2 12 0 [] ([.s l1,.i (l2,m2),.b l3].map Fy):=⟨_,rfl⟩
  rw [<-hB,<-hX];have HB:=hqZ hB;have HX2:=hqZ hX;clear hB hX;go_enter aK,aL;go_upto_region 7 with fail;clear hta hta11;show Code.wp _ _ _ _ ((w.alloc (.cells zs5.toArray 249)).alloc (.cells [.string (tx l1),.string (tx l2),.slice a2 m2.length c2,.slice a3 l3.length c3].toArray 83))
  obtain ⟨W0,hW0⟩:∃W0,W0=(w.alloc (.cells zs5.toArray 249)).alloc (.cells [.string (tx l1),.string (tx l2),.slice a2 m2.length c2,.slice a3 l3.length c3].toArray 83):=⟨_,rfl⟩
  rw [<-hW0] at HC ⊢;clear hW0;obtain ⟨p,hp⟩:∃p,p=w.heap.size+1:=⟨_,rfl⟩
  obtain ⟨q,hq⟩:∃q,q=w.heap.size:=⟨_,rfl⟩
  rw [<-hp,<-hq] at HC ⊢;clear hp hq;have HTV1:=hqZ (E5 (l2,m2) (.slice a2 m2.length c2) W0 (HC.o.rowAt 0 rfl) HZ2.o.1 HZ2.o.2);have HM1:=hqZ (HC.o.blkAt 0 rfl);rw [show As (tx (l2,m2).1)=rT (l2,m2) from rfl] at HTV1;go_wp2_with ((with_reducible refine zw 62 ?_);refine Ag rfl (.tmp 61) Bl rfl rfl (cs:= [.string (tx l2),.slice a2 m2.length c2]) rfl (HM1.o.cellsAt 1 2) ?_);refine HTV1.o.mono ?_;rintro e wa1 ⟨cs1,rfl,htv,hb⟩;have HCa1:=hqZ (HC.o.step hb);have HTT1:Hq (TvF wa1 (λ b=>q<b) (Co (l2,m2)) cs1):=hqZ (htv.mono (λ b hb=>by have:=HC.o.lt; omega));have HCL1:=hqZ htv.length;have HCO1:=hqZ htv.one;have HN1:=hqZ (Blk.new wa1 zs5 249);clear htv hb HTV1;go_upto_region 8 with ((with_reducible refine zws 6 65 ?_);refine Af rfl (.tmp 6) (.tmp 65) Aq rfl rfl (vs:=cs1) rfl HCL1.o HN1.o (aF _) HCO1.o ?_);intro wb1 h2 k2;have h2':Blk wb1 wa1.heap.size cs1 249:=by
    rw [aJ (by decide),aH] at h2;exact h2
  have hb2:Below wa1.heap.size wa1 wb1:=((Below.refl _ _).alloc (aF _) _).trans (k2.below (by omega));have HCb1:=hqZ (((HCa1.o.addTree HTT1.o).step hb2).addBlk h2' HCa1.o.lt);obtain ⟨p1,hp1⟩:∃p1,p1=wa1.heap.size:=⟨_,rfl⟩
  rw [<-hp1] at HCb1 ⊢;clear h2 k2 h2' hb2 hp1 HCa1 HTT1 HN1 HCO1;go_upto_region 8 with fail
  cases hok7:rT (l2,m2) with
  | false=>exact absurd hok7 (by rw [hT7]; decide)
  | true=>
    have HOK7:=hqZ hok7;clear hok7;have HBE:Hq (B=([tx l1].all As&& [].all Be)):=hqZ (by rw [HB.o]; simp only [aM,aN,ptB,HOK7.o,Bool.and_true,Bool.true_and,Bool.and_false,Bool.false_and,Bool.and_assoc]; first | done | ac_rfl);obtain ⟨wd,hwd⟩:∃wd,wd=bA.drew wb1:=⟨_,rfl⟩
    have hvd:VC w q [(p, [.string (tx l1),.string (tx l2),.slice a2 m2.length c2,.slice a3 l3.length c3],83),(p1,cs1,249)] [(Co (l2,m2),cs1)] [(.slice a2 m2.length c2,m2),(.slice a3 l3.length c3,l3)] wd:=by rw [hwd]; exact HCb1.o.drew
    have HXE:Hq (X=.mk 2 12 0 [] [.mk 1 0 0 l1 [],Co (l2,m2),.mk 1 0 0 l3 []]):=hqZ HX2.o;have HR:Hq (∀W,GV (λ b=>q<b) q X wd W->VR w q [(p, [.string (tx l1),.string (tx l2),.slice a2 m2.length c2,.slice a3 l3.length c3],83),(p1,cs1,249)] [(Co (l2,m2),cs1)] [(.slice a2 m2.length c2,m2),(.slice a3 l3.length c3,l3)] W):=hqZ (λ W h=>hvd.gv h);have HZD:Hq (∀W,GV (λ b=>q<b) q X wd W->q<W.heap.size/\∀b,W.heap.size<=b->q<b):=hqZ (λ W h=>⟨(HR.o W h).lt,λ b hb=>aO (HR.o W h).lt hb⟩);have HFq:Hq (¬(λ b=>q<b) q):=hqZ (aP q);have HQW:Hq (w.heap.size=q):=hqZ hvd.hq.symm;clear hvd HCb1;refine wp_region_held (S:=λ W=>GV (λ b=>q<b) q X wd W) (by kernel_rfl) ?_;change wpAnyH _ _ _ _ _ _ _ _ (bA.drew _);rw [<-hwd];clear hwd;refine zH 0 ?_;refine zH 1 ?_ (hr:=λ W hW=>by have hc:=((HR.o W hW).blkAt 0 rfl).cell 0; go_simp; try rfl);refine zH 3 ?_ (v:=.agg cs1.toArray) (hr:=λ W hW=>by exact Et rfl Aq rfl HCL1.o ((HR.o W hW).blkAt 1 rfl).cellsAll);refine zH 4 ?_;refine zH 5 ?_ (hr:=λ W hW=>by have hc:=((HR.o W hW).blkAt 0 rfl).cell 3; go_simp; try rfl);refine zH 9 ?_;refine Ct (G:=GV (λ b=>q<b) q X) (Post:=J4 (λ b=>q<b) q X [.any,.any,.val (.mk 1 0 0 l1 []),.any,.any,.any,.val (.mk 1 0 0 l3 []),.vals [.mk 1 0 0 l1 [],Co (l2,m2),.mk 1 0 0 l3 []],.val (.mk 2 12 0 [] [.mk 1 0 0 l1 [],Co (l2,m2),.mk 1 0 0 l3 []]),.any,.is (.bool true),.is (.pointer (some ⟨p,0,none⟩)),.is (.string (tx l1)),.row [.string (tx l1)],.is (.bool ([tx l1].all As&& [].all Be)),.is (.bool ([tx l1].all As&& [].all Be)),.fin,.is (.bool ([tx l1].all As&& [].all Be))]) (ds:= [69,73,74,75,77,78,79,80,81,82,3]) (GV.refl _ _ _) GV.trans (λ W W' h g=>GV.trans _ _ _ h g) (λ i v W W' h g=>PK.stable HFq.o h g) [2,6,7,8,10,11,12,13,14,15,16,17] 397 rfl (by decide+kernel) (by decide+kernel) ?_ ?_ (GV.refl _ _ _ _) (by decide+kernel)
    · refine zA (λ a W hf hS hd K hK=>?_) ?_
      · have e68:a.eval (.tmp 68)=.string (tx l1):=hf.lit 68 (by decide) rfl;exact Ax (Ae rfl) rfl Cm (vs:=#[.string (tx l1)]) (by simp [e68]) (Eg l1 W HZ1.o) (HZD.o W hS).1 (HZD.o W hS).2 hK
      refine zA (λ a W hf hS hd K hK=>?_) ?_
      · have e72:a.eval (.tmp 72)=.slice a3 l3.length c3:=hf.lit 72 (by decide) rfl;exact Ax (Ae rfl) rfl D1 (vs:=#[.slice a3 l3.length c3]) (by simp [e72]) (Cy _ l3 W ((HR.o W hS).rowAt 1 rfl) HZ3.o) (HZD.o W hS).1 (HZD.o W hS).2 hK
      refine zA (λ a W hf hS hd K hK=>?_) ?_
      · have d69:=(hd 2 (by decide+kernel)).get (s:=69) rfl;have e70:a.eval (.tmp 70)=.agg cs1.toArray:=hf.lit 70 (by decide) rfl;have d73:=(hd 6 (by decide+kernel)).get (s:=73) rfl;exact Cz (Ae rfl) rfl Gi (ps:= [.tmp 69,.tmp 70,.tmp 73]) rfl (l:= [.mk 1 0 0 l1 [],Co (l2,m2),.mk 1 0 0 l3 []]) ⟨d69,⟨_,e70,(HR.o W hS).treeAt 0 rfl⟩,d73,trivial⟩ rfl (by decide) (by decide) (HZD.o W hS).1 (HZD.o W hS).2 hK
      refine zA (λ a W hf hS hd K hK=>?_) ?_
      · have d74:=(hd 7 (by decide+kernel)).get (s:=74) rfl;exact Dj (Ae rfl) rfl Cw d74 (HZD.o W hS).1 (λ v w1 h1 h2=>hK v w1 h1 h2) HFq.o
      refine zA (λ a W hf hS hd K hK=>A3 (v:=.bool true) (Ae rfl) (Hi rfl (show a.eval (.tmp 76)=.bool true from hf.lit 76 (by decide) rfl)) (hK _ _ (GV.refl _ _ _ _) rfl)) ?_;refine zA (λ a W hf hS hd K hK=>?_) ?_
      · have e77:a.eval (.tmp 77)=.bool true:=(hd 10 (by decide+kernel)).get (s:=77) rfl;have e5:a.eval (.tmp 5)=.pointer (some ⟨p,0,none⟩):=hf.lit 5 (by decide) rfl;exact A3 (v:=.pointer (some ⟨p,0,none⟩)) (A4 rfl rfl e77) (Es rfl e5 (by go_simp)) (hK _ _ (GV.refl _ _ _ _) rfl)
      refine zA (λ a W hf hS hd K hK=>?_) ?_
      · have e77:a.eval (.tmp 77)=.bool true:=(hd 10 (by decide+kernel)).get (s:=77) rfl;have e78:a.eval (.tmp 78)=.pointer (some ⟨p,0,none⟩):=(hd 11 (by decide+kernel)).get (s:=78) rfl;have hc:W.cell? ⟨p,0,none⟩=some (.string (tx l1)):=((HR.o W hS).blkAt 0 rfl).cell 0;exact A3 (v:=.string (tx l1)) (A4 rfl rfl e77) (Fc rfl e78 (by go_simp)) (hK _ _ (GV.refl _ _ _ _) rfl)
      refine zA (λ a W hf hS hd K hK=>?_) ?_
      · have e77:a.eval (.tmp 77)=.bool true:=(hd 10 (by decide+kernel)).get (s:=77) rfl;have e79:a.eval (.tmp 79)=.string (tx l1):=(hd 12 (by decide+kernel)).get (s:=79) rfl;exact Cl (A4 rfl rfl e77) rfl Qr (ps:= [.tmp 79]) rfl (cs:= [.string (tx l1)]) (by simp only [aD,aE,e79]) (by intro u hu; simp only [aB,aC,or_false] at hu; rcases hu with rfl <;> exact ⟨rfl,rfl⟩) rfl (by decide) (by decide) (HZD.o W hS).1 (HZD.o W hS).2 hK
      refine zA (λ a W hf hS hd K hK=>?_) ?_
      · have e77:a.eval (.tmp 77)=.bool true:=(hd 10 (by decide+kernel)).get (s:=77) rfl;have d80:=(hd 13 (by decide+kernel)).get (s:=80) rfl;exact Ee (A4 rfl rfl e77) rfl Dp (vs:=#[a.eval (.tmp 80),.slice none 0 0]) (by first | (simp only [aG,aD,aE]; done) | (simp only [aG,aD,aE]; rfl)) (u:=(.bool ([tx l1].all As&& [].all Be))) (Fb [tx l1] [] _ _ W d80.1 (Sl.nil _ _ _) HSZ.o) (HZD.o W hS).1 hK
      refine zA (λ a W hf hS hd K hK=>?_) ?_
      · have e77:a.eval (.tmp 77)=.bool true:=(hd 10 (by decide+kernel)).get (s:=77) rfl;have d81:=(hd 14 (by decide+kernel)).get (s:=81) rfl;exact A3 (Ae rfl) (Ho rfl e77 rfl) (hK _ _ (GV.refl _ _ _ _) d81)
      refine zA (λ a W hf hS hd K hK=>?_) ?_
      · have e2:a.eval (.tmp 2)=.pointer (some ⟨q,0,none⟩):=hf.lit 2 (by decide) rfl;have d75:=(hd 8 (by decide+kernel)).get (s:=75) rfl;obtain ⟨cur,hc1,hc2⟩:=(HR.o W hS).len;rw [<-HXE.o] at d75;exact Di (Ae rfl) rfl e2 d75 hc1 hc2 HFq.o hK
      refine zA (λ a W hf hS hd K hK=>?_) ?_
      · have d82:=(hd 15 (by decide+kernel)).get (s:=82) rfl;exact A3 (Ae rfl) (Hn rfl rfl) (hK _ _ (GV.refl _ _ _ _) d82)
      exact Ce.nil
    · intro a W hf hS hp;have h3:=(hp 17 (by decide)).get (s:=3) rfl;obtain ⟨v,cs,h5,h6⟩:=(hp 16 (by decide)).fin;have e2:a.eval (.tmp 2)=.pointer (some ⟨q,0,none⟩):=hf.lit 2 (by decide) rfl;go_wp2_with fail;refine bodyPost_ret (Aj rfl Aq (show a.tmps.getD 2 undef=_ from e2) h6.length h5.cellsAll) hf.defers ⟨cs,?_,?_,(HR.o W hS).below⟩
      · rw [HBE.o,show a.tmps.getD 3 undef=.bool ([tx l1].all As&& [].all Be) from h3]
      · exact h6.mono (λ b hb=>by have:=HQW.o; omega)
theorem U3 (F0:Nat->Prop) (l1:List UInt8) (l2 m2:List UInt8) (v2:aZ) (l3:List UInt8) (v3:aZ) (w:bA) (hz1:l1.length<=1099511627776) (hb2:Bs w v2 m2) (hz2:l2.length<=1099511627776/\m2.length<=1099511627776) (hb3:Bs w v3 l3) (hz3:l3.length<=1099511627776) (hT15:rT (l2,m2)=true): bB aA 102 #[.iface 97 (.agg #[.string (tx l1),.string (tx l2),v2,v3])] w (Fj w (.mk 2 14 0 [] ([.s l1,.i (l2,m2),.b l3].map Fy)) ([.s l1,.i (l2,m2),.b l3].all ptB)):=by
  obtain ⟨a2,c2,rfl,hc2,hm2⟩:=hb2.form;obtain ⟨a3,c3,rfl,hc3,hm3⟩:=hb3.form;have HC:Hq (VC w w.heap.size [(w.heap.size+1, [.string (tx l1),.string (tx l2),.slice a2 m2.length c2,.slice a3 l3.length c3],97)] [] [(.slice a2 m2.length c2,m2),(.slice a3 l3.length c3,l3)] ((w.alloc (.cells zs5.toArray 249)).alloc (.cells [.string (tx l1),.string (tx l2),.slice a2 m2.length c2,.slice a3 l3.length c3].toArray 97))):=hqZ (VC.start (by intro r hr; simp only [aB,aC,or_false] at hr; rcases hr with rfl | rfl; exact hb2; exact hb3) _ _);have HSZ:Hq (∀u∈ [tx l1],u.size<=maxLen):=hqZ (by intro u hu; simp only [aB,aC,or_false] at hu; rcases hu with rfl; exact Oh hz1);have HZ1:=hqZ hz1;clear hz1;have HZ2:=hqZ hz2;clear hz2;have HZ3:=hqZ hz3;clear hz3;clear hb2;clear hb3;obtain ⟨z11,hta11⟩:∃z,∀W,(Instr.typeAssert (.iface 97 (.agg #[.string (tx l1),.string (tx l2),.slice a2 m2.length c2,.slice a3 l3.length c3])) 20 77 true).run aA W=.ok (.tuple #[z,.bool false]) W:=⟨_,λ W=>Bt _ _ _ _ (by kernel_rfl) Lm (.inr ⟨_,_,rfl,by decide⟩) W⟩
  obtain ⟨z12,hta12⟩:∃z,∀W,(Instr.typeAssert (.iface 97 (.agg #[.string (tx l1),.string (tx l2),.slice a2 m2.length c2,.slice a3 l3.length c3])) 20 83 true).run aA W=.ok (.tuple #[z,.bool false]) W:=⟨_,λ W=>Bt _ _ _ _ (by kernel_rfl) Ln (.inr ⟨_,_,rfl,by decide⟩) W⟩
  obtain ⟨z13,hta13⟩:∃z,∀W,(Instr.typeAssert (.iface 97 (.agg #[.string (tx l1),.string (tx l2),.slice a2 m2.length c2,.slice a3 l3.length c3])) 20 94 true).run aA W=.ok (.tuple #[z,.bool false]) W:=⟨_,λ W=>Bt _ _ _ _ (by kernel_rfl) Nt (.inr ⟨_,_,rfl,by decide⟩) W⟩
  have hta:∀W,(Instr.typeAssert (.iface 97 (.agg #[.string (tx l1),.string (tx l2),.slice a2 m2.length c2,.slice a3 l3.length c3])) 20 97 true).run aA W=.ok (.tuple #[.agg #[.string (tx l1),.string (tx l2),.slice a2 m2.length c2,.slice a3 l3.length c3],.bool true]) W:=λ W=>Fg _ _ _ (by kernel_rfl) W
  obtain ⟨B,hB⟩:∃B,B= [.s l1,.i (l2,m2),.b l3].all ptB:=⟨_,rfl⟩
  obtain ⟨X,hX⟩:∃X:Tv,X=.mk 2 14 0 [] ([.s l1,.i (l2,m2),.b l3].map Fy):=⟨_,rfl⟩
  rw [<-hB,<-hX];have HB:=hqZ hB;have HX2:=hqZ hX;clear hB hX;go_enter aK,aL;go_upto_region 16 with fail;clear hta hta11 hta12 hta13;show Code.wp _ _ _ _ ((w.alloc (.cells zs5.toArray 249)).alloc (.cells [.string (tx l1),.string (tx l2),.slice a2 m2.length c2,.slice a3 l3.length c3].toArray 97))
  obtain ⟨W0,hW0⟩:∃W0,W0=(w.alloc (.cells zs5.toArray 249)).alloc (.cells [.string (tx l1),.string (tx l2),.slice a2 m2.length c2,.slice a3 l3.length c3].toArray 97):=⟨_,rfl⟩
  rw [<-hW0] at HC ⊢;clear hW0;obtain ⟨p,hp⟩:∃p,p=w.heap.size+1:=⟨_,rfl⟩
  obtain ⟨q,hq⟩:∃q,q=w.heap.size:=⟨_,rfl⟩
  rw [<-hp,<-hq] at HC ⊢;clear hp hq;have HTV1:=hqZ (E5 (l2,m2) (.slice a2 m2.length c2) W0 (HC.o.rowAt 0 rfl) HZ2.o.1 HZ2.o.2);have HM1:=hqZ (HC.o.blkAt 0 rfl);rw [show As (tx (l2,m2).1)=rT (l2,m2) from rfl] at HTV1;go_wp2_with ((with_reducible refine zw 141 ?_);refine Ag rfl (.tmp 140) Bl rfl rfl (cs:= [.string (tx l2),.slice a2 m2.length c2]) rfl (HM1.o.cellsAt 1 2) ?_);refine HTV1.o.mono ?_;rintro e wa1 ⟨cs1,rfl,htv,hb⟩;have HCa1:=hqZ (HC.o.step hb);have HTT1:Hq (TvF wa1 (λ b=>q<b) (Co (l2,m2)) cs1):=hqZ (htv.mono (λ b hb=>by have:=HC.o.lt; omega));have HCL1:=hqZ htv.length;have HCO1:=hqZ htv.one;have HN1:=hqZ (Blk.new wa1 zs5 249);clear htv hb HTV1;go_upto_region 17 with ((with_reducible refine zws 14 144 ?_);refine Af rfl (.tmp 14) (.tmp 144) Aq rfl rfl (vs:=cs1) rfl HCL1.o HN1.o (aF _) HCO1.o ?_);intro wb1 h2 k2;have h2':Blk wb1 wa1.heap.size cs1 249:=by
    rw [aJ (by decide),aH] at h2;exact h2
  have hb2:Below wa1.heap.size wa1 wb1:=((Below.refl _ _).alloc (aF _) _).trans (k2.below (by omega));have HCb1:=hqZ (((HCa1.o.addTree HTT1.o).step hb2).addBlk h2' HCa1.o.lt);obtain ⟨p1,hp1⟩:∃p1,p1=wa1.heap.size:=⟨_,rfl⟩
  rw [<-hp1] at HCb1 ⊢;clear h2 k2 h2' hb2 hp1 HCa1 HTT1 HN1 HCO1;go_upto_region 17 with fail
  cases hok15:rT (l2,m2) with
  | false=>exact absurd hok15 (by rw [hT15]; decide)
  | true=>
    have HOK15:=hqZ hok15;clear hok15;have HBE:Hq (B=([tx l1].all As&& [].all Be)):=hqZ (by rw [HB.o]; simp only [aM,aN,ptB,HOK15.o,Bool.and_true,Bool.true_and,Bool.and_false,Bool.false_and,Bool.and_assoc]; first | done | ac_rfl);obtain ⟨wd,hwd⟩:∃wd,wd=bA.drew wb1:=⟨_,rfl⟩
    have hvd:VC w q [(p, [.string (tx l1),.string (tx l2),.slice a2 m2.length c2,.slice a3 l3.length c3],97),(p1,cs1,249)] [(Co (l2,m2),cs1)] [(.slice a2 m2.length c2,m2),(.slice a3 l3.length c3,l3)] wd:=by rw [hwd]; exact HCb1.o.drew
    have HXE:Hq (X=.mk 2 14 0 [] [.mk 1 0 0 l1 [],Co (l2,m2),.mk 1 0 0 l3 []]):=hqZ HX2.o;have HR:Hq (∀W,GV (λ b=>q<b) q X wd W->VR w q [(p, [.string (tx l1),.string (tx l2),.slice a2 m2.length c2,.slice a3 l3.length c3],97),(p1,cs1,249)] [(Co (l2,m2),cs1)] [(.slice a2 m2.length c2,m2),(.slice a3 l3.length c3,l3)] W):=hqZ (λ W h=>hvd.gv h);have HZD:Hq (∀W,GV (λ b=>q<b) q X wd W->q<W.heap.size/\∀b,W.heap.size<=b->q<b):=hqZ (λ W h=>⟨(HR.o W h).lt,λ b hb=>aO (HR.o W h).lt hb⟩);have HFq:Hq (¬(λ b=>q<b) q):=hqZ (aP q);have HQW:Hq (w.heap.size=q):=hqZ hvd.hq.symm;clear hvd HCb1;refine wp_region_held (S:=λ W=>GV (λ b=>q<b) q X wd W) (by kernel_rfl) ?_;change wpAnyH _ _ _ _ _ _ _ _ (bA.drew _);rw [<-hwd];clear hwd;refine zH 0 ?_;refine zH 1 ?_ (hr:=λ W hW=>by have hc:=((HR.o W hW).blkAt 0 rfl).cell 0; go_simp; try rfl);refine zH 3 ?_ (v:=.agg cs1.toArray) (hr:=λ W hW=>by exact Et rfl Aq rfl HCL1.o ((HR.o W hW).blkAt 1 rfl).cellsAll);refine zH 4 ?_;refine zH 5 ?_ (hr:=λ W hW=>by have hc:=((HR.o W hW).blkAt 0 rfl).cell 3; go_simp; try rfl);refine zH 9 ?_;refine Ct (G:=GV (λ b=>q<b) q X) (Post:=J4 (λ b=>q<b) q X [.any,.any,.val (.mk 1 0 0 l1 []),.any,.any,.any,.val (.mk 1 0 0 l3 []),.vals [.mk 1 0 0 l1 [],Co (l2,m2),.mk 1 0 0 l3 []],.val (.mk 2 14 0 [] [.mk 1 0 0 l1 [],Co (l2,m2),.mk 1 0 0 l3 []]),.any,.is (.bool true),.is (.pointer (some ⟨p,0,none⟩)),.is (.string (tx l1)),.row [.string (tx l1)],.is (.bool ([tx l1].all As&& [].all Be)),.is (.bool ([tx l1].all As&& [].all Be)),.fin,.is (.bool ([tx l1].all As&& [].all Be))]) (ds:= [148,152,153,154,156,157,158,159,160,161,3]) (GV.refl _ _ _) GV.trans (λ W W' h g=>GV.trans _ _ _ h g) (λ i v W W' h g=>PK.stable HFq.o h g) [2,6,7,8,10,11,12,13,14,15,16,17] 397 rfl (by decide+kernel) (by decide+kernel) ?_ ?_ (GV.refl _ _ _ _) (by decide+kernel)
    · refine zA (λ a W hf hS hd K hK=>?_) ?_
      · have e147:a.eval (.tmp 147)=.string (tx l1):=hf.lit 147 (by decide) rfl;exact Ax (Ae rfl) rfl Cm (vs:=#[.string (tx l1)]) (by simp [e147]) (Eg l1 W HZ1.o) (HZD.o W hS).1 (HZD.o W hS).2 hK
      refine zA (λ a W hf hS hd K hK=>?_) ?_
      · have e151:a.eval (.tmp 151)=.slice a3 l3.length c3:=hf.lit 151 (by decide) rfl;exact Ax (Ae rfl) rfl D1 (vs:=#[.slice a3 l3.length c3]) (by simp [e151]) (Cy _ l3 W ((HR.o W hS).rowAt 1 rfl) HZ3.o) (HZD.o W hS).1 (HZD.o W hS).2 hK
      refine zA (λ a W hf hS hd K hK=>?_) ?_
      · have d148:=(hd 2 (by decide+kernel)).get (s:=148) rfl;have e149:a.eval (.tmp 149)=.agg cs1.toArray:=hf.lit 149 (by decide) rfl;have d152:=(hd 6 (by decide+kernel)).get (s:=152) rfl;exact Cz (Ae rfl) rfl Gi (ps:= [.tmp 148,.tmp 149,.tmp 152]) rfl (l:= [.mk 1 0 0 l1 [],Co (l2,m2),.mk 1 0 0 l3 []]) ⟨d148,⟨_,e149,(HR.o W hS).treeAt 0 rfl⟩,d152,trivial⟩ rfl (by decide) (by decide) (HZD.o W hS).1 (HZD.o W hS).2 hK
      refine zA (λ a W hf hS hd K hK=>?_) ?_
      · have d153:=(hd 7 (by decide+kernel)).get (s:=153) rfl;exact Dj (Ae rfl) rfl Cw d153 (HZD.o W hS).1 (λ v w1 h1 h2=>hK v w1 h1 h2) HFq.o
      refine zA (λ a W hf hS hd K hK=>A3 (v:=.bool true) (Ae rfl) (Hi rfl (show a.eval (.tmp 155)=.bool true from hf.lit 155 (by decide) rfl)) (hK _ _ (GV.refl _ _ _ _) rfl)) ?_;refine zA (λ a W hf hS hd K hK=>?_) ?_
      · have e156:a.eval (.tmp 156)=.bool true:=(hd 10 (by decide+kernel)).get (s:=156) rfl;have e13:a.eval (.tmp 13)=.pointer (some ⟨p,0,none⟩):=hf.lit 13 (by decide) rfl;exact A3 (v:=.pointer (some ⟨p,0,none⟩)) (A4 rfl rfl e156) (Es rfl e13 (by go_simp)) (hK _ _ (GV.refl _ _ _ _) rfl)
      refine zA (λ a W hf hS hd K hK=>?_) ?_
      · have e156:a.eval (.tmp 156)=.bool true:=(hd 10 (by decide+kernel)).get (s:=156) rfl;have e157:a.eval (.tmp 157)=.pointer (some ⟨p,0,none⟩):=(hd 11 (by decide+kernel)).get (s:=157) rfl;have hc:W.cell? ⟨p,0,none⟩=some (.string (tx l1)):=((HR.o W hS).blkAt 0 rfl).cell 0;exact A3 (v:=.string (tx l1)) (A4 rfl rfl e156) (Fc rfl e157 (by go_simp)) (hK _ _ (GV.refl _ _ _ _) rfl)
      refine zA (λ a W hf hS hd K hK=>?_) ?_
      · have e156:a.eval (.tmp 156)=.bool true:=(hd 10 (by decide+kernel)).get (s:=156) rfl;have e158:a.eval (.tmp 158)=.string (tx l1):=(hd 12 (by decide+kernel)).get (s:=158) rfl;exact Cl (A4 rfl rfl e156) rfl Qr (ps:= [.tmp 158]) rfl (cs:= [.string (tx l1)]) (by simp only [aD,aE,e158]) (by intro u hu; simp only [aB,aC,or_false] at hu; rcases hu with rfl <;> exact ⟨rfl,rfl⟩) rfl (by decide) (by decide) (HZD.o W hS).1 (HZD.o W hS).2 hK
      refine zA (λ a W hf hS hd K hK=>?_) ?_
      · have e156:a.eval (.tmp 156)=.bool true:=(hd 10 (by decide+kernel)).get (s:=156) rfl;have d159:=(hd 13 (by decide+kernel)).get (s:=159) rfl;exact Ee (A4 rfl rfl e156) rfl Dp (vs:=#[a.eval (.tmp 159),.slice none 0 0]) (by first | (simp only [aG,aD,aE]; done) | (simp only [aG,aD,aE]; rfl)) (u:=(.bool ([tx l1].all As&& [].all Be))) (Fb [tx l1] [] _ _ W d159.1 (Sl.nil _ _ _) HSZ.o) (HZD.o W hS).1 hK
      refine zA (λ a W hf hS hd K hK=>?_) ?_
      · have e156:a.eval (.tmp 156)=.bool true:=(hd 10 (by decide+kernel)).get (s:=156) rfl;have d160:=(hd 14 (by decide+kernel)).get (s:=160) rfl;exact A3 (Ae rfl) (Ho rfl e156 rfl) (hK _ _ (GV.refl _ _ _ _) d160)
      refine zA (λ a W hf hS hd K hK=>?_) ?_
      · have e2:a.eval (.tmp 2)=.pointer (some ⟨q,0,none⟩):=hf.lit 2 (by decide) rfl;have d154:=(hd 8 (by decide+kernel)).get (s:=154) rfl;obtain ⟨cur,hc1,hc2⟩:=(HR.o W hS).len;rw [<-HXE.o] at d154;exact Di (Ae rfl) rfl e2 d154 hc1 hc2 HFq.o hK
      refine zA (λ a W hf hS hd K hK=>?_) ?_
      · have d161:=(hd 15 (by decide+kernel)).get (s:=161) rfl;exact A3 (Ae rfl) (Hn rfl rfl) (hK _ _ (GV.refl _ _ _ _) d161)
      exact Ce.nil
    · intro a W hf hS hp;have h3:=(hp 17 (by decide)).get (s:=3) rfl;obtain ⟨v,cs,h5,h6⟩:=(hp 16 (by decide)).fin;have e2:a.eval (.tmp 2)=.pointer (some ⟨q,0,none⟩):=hf.lit 2 (by decide) rfl;go_wp2_with fail;refine bodyPost_ret (Aj rfl Aq (show a.tmps.getD 2 undef=_ from e2) h6.length h5.cellsAll) hf.defers ⟨cs,?_,?_,(HR.o W hS).below⟩
      · rw [HBE.o,show a.tmps.getD 3 undef=.bool ([tx l1].all As&& [].all Be) from h3]
      · exact h6.mono (λ b hb=>by have:=HQW.o; omega)
theorem M6 (F0:Nat->Prop) (l1:List UInt8) (x2:Int) (x3:Int) (t4:Bool) (t5:Bool) (l6 m6:List UInt8) (v6:aZ) (l7:List UInt8) (v7:aZ) (k8:List (List UInt8×List UInt8)) (v8:aZ) (w:bA) (hz1:l1.length<=1099511627776) (hz2: -9223372036854775808<=x2/\x2<=9223372036854775807) (hz3: -9223372036854775808<=x3/\x3<=9223372036854775807) (hb6:Bs w v6 m6) (hz6:l6.length<=1099511627776/\m6.length<=1099511627776) (hb7:Bs w v7 l7) (hz7:l7.length<=1099511627776) (hb8:Uc w F0 k8 v8) (hz8:(∀t∈k8,t.1.length<=1099511627776/\t.2.length<=1099511627776)/\k8.length<=1954687338211) (hT10:rT (l6,m6)=true) (hT12:Vj k8=true): bB aA 102 #[.iface 94 (.agg #[.string (tx l1),.int .i64 x2,.int .i64 x3,.bool t4,.bool t5,.string (tx l6),v6,v7,v8])] w (Fj w (.mk 2 13 0 [] ([.s l1,.n x2,.n x3,.t t4,.t t5,.i (l6,m6),.b l7,.x k8].map Fy)) ([.s l1,.n x2,.n x3,.t t4,.t t5,.i (l6,m6),.b l7,.x k8].all ptB)):=by
  obtain ⟨a6,c6,rfl,hc6,hm6⟩:=hb6.form;obtain ⟨a7,c7,rfl,hc7,hm7⟩:=hb7.form;obtain ⟨rows8,hx8,hy8⟩:=hb8;obtain ⟨a8,c8,rfl,hc8,hm8⟩:=hx8.form;have HTKS:Hq (Uc w F0 k8 (.slice a8 k8.length c8)):=hqZ ⟨rows8,hx8,hy8⟩;clear hx8 hy8;have HC:Hq (VC w w.heap.size [(w.heap.size+1, [.string (tx l1),.int .i64 x2,.int .i64 x3,.bool t4,.bool t5,.string (tx l6),.slice a6 m6.length c6,.slice a7 l7.length c7,.slice a8 k8.length c8],94)] [] [(.slice a6 m6.length c6,m6),(.slice a7 l7.length c7,l7)] ((w.alloc (.cells zs5.toArray 249)).alloc (.cells [.string (tx l1),.int .i64 x2,.int .i64 x3,.bool t4,.bool t5,.string (tx l6),.slice a6 m6.length c6,.slice a7 l7.length c7,.slice a8 k8.length c8].toArray 94))):=hqZ (VC.start (by intro r hr; simp only [aB,aC,or_false] at hr; rcases hr with rfl | rfl; exact hb6; exact hb7) _ _);have HSZ:Hq (∀u∈ [tx l1],u.size<=maxLen):=hqZ (by intro u hu; simp only [aB,aC,or_false] at hu; rcases hu with rfl; exact Oh hz1);have HZ1:=hqZ hz1;clear hz1;have HZ2:=hqZ hz2;clear hz2;have HZ3:=hqZ hz3;clear hz3;have HZ6:=hqZ hz6;clear hz6;have HZ7:=hqZ hz7;clear hz7;have HZ8:=hqZ hz8;clear hz8;clear hb6;clear hb7;obtain ⟨z11,hta11⟩:∃z,∀W,(Instr.typeAssert (.iface 94 (.agg #[.string (tx l1),.int .i64 x2,.int .i64 x3,.bool t4,.bool t5,.string (tx l6),.slice a6 m6.length c6,.slice a7 l7.length c7,.slice a8 k8.length c8])) 20 77 true).run aA W=.ok (.tuple #[z,.bool false]) W:=⟨_,λ W=>Bt _ _ _ _ (by kernel_rfl) Lm (.inr ⟨_,_,rfl,by decide⟩) W⟩
  obtain ⟨z12,hta12⟩:∃z,∀W,(Instr.typeAssert (.iface 94 (.agg #[.string (tx l1),.int .i64 x2,.int .i64 x3,.bool t4,.bool t5,.string (tx l6),.slice a6 m6.length c6,.slice a7 l7.length c7,.slice a8 k8.length c8])) 20 83 true).run aA W=.ok (.tuple #[z,.bool false]) W:=⟨_,λ W=>Bt _ _ _ _ (by kernel_rfl) Ln (.inr ⟨_,_,rfl,by decide⟩) W⟩
  have hta:∀W,(Instr.typeAssert (.iface 94 (.agg #[.string (tx l1),.int .i64 x2,.int .i64 x3,.bool t4,.bool t5,.string (tx l6),.slice a6 m6.length c6,.slice a7 l7.length c7,.slice a8 k8.length c8])) 20 94 true).run aA W=.ok (.tuple #[.agg #[.string (tx l1),.int .i64 x2,.int .i64 x3,.bool t4,.bool t5,.string (tx l6),.slice a6 m6.length c6,.slice a7 l7.length c7,.slice a8 k8.length c8],.bool true]) W:=λ W=>Fg _ _ _ (by kernel_rfl) W
  obtain ⟨B,hB⟩:∃B,B= [.s l1,.n x2,.n x3,.t t4,.t t5,.i (l6,m6),.b l7,.x k8].all ptB:=⟨_,rfl⟩
  obtain ⟨X,hX⟩:∃X:Tv,X=.mk 2 13 0 [] ([.s l1,.n x2,.n x3,.t t4,.t t5,.i (l6,m6),.b l7,.x k8].map Fy):=⟨_,rfl⟩
  rw [<-hB,<-hX];have HB:=hqZ hB;have HX2:=hqZ hX;clear hB hX;go_enter aK,aL;go_upto_region 11 with fail;clear hta hta11 hta12;show Code.wp _ _ _ _ ((w.alloc (.cells zs5.toArray 249)).alloc (.cells [.string (tx l1),.int .i64 x2,.int .i64 x3,.bool t4,.bool t5,.string (tx l6),.slice a6 m6.length c6,.slice a7 l7.length c7,.slice a8 k8.length c8].toArray 94))
  obtain ⟨W0,hW0⟩:∃W0,W0=(w.alloc (.cells zs5.toArray 249)).alloc (.cells [.string (tx l1),.int .i64 x2,.int .i64 x3,.bool t4,.bool t5,.string (tx l6),.slice a6 m6.length c6,.slice a7 l7.length c7,.slice a8 k8.length c8].toArray 94):=⟨_,rfl⟩
  rw [<-hW0] at HC ⊢;clear hW0;obtain ⟨p,hp⟩:∃p,p=w.heap.size+1:=⟨_,rfl⟩
  obtain ⟨q,hq⟩:∃q,q=w.heap.size:=⟨_,rfl⟩
  rw [<-hp,<-hq] at HC ⊢;clear hp hq;have HTV1:=hqZ (E5 (l6,m6) (.slice a6 m6.length c6) W0 (HC.o.rowAt 0 rfl) HZ6.o.1 HZ6.o.2);have HM1:=hqZ (HC.o.blkAt 0 rfl);rw [show As (tx (l6,m6).1)=rT (l6,m6) from rfl] at HTV1;go_wp2_with ((with_reducible refine zw 88 ?_);refine Ag rfl (.tmp 87) Bl rfl rfl (cs:= [.string (tx l6),.slice a6 m6.length c6]) rfl (HM1.o.cellsAt 5 2) ?_);refine HTV1.o.mono ?_;rintro e wa1 ⟨cs1,rfl,htv,hb⟩;have HCa1:=hqZ (HC.o.step hb);have HTT1:Hq (TvF wa1 (λ b=>q<b) (Co (l6,m6)) cs1):=hqZ (htv.mono (λ b hb=>by have:=HC.o.lt; omega));have HCL1:=hqZ htv.length;have HCO1:=hqZ htv.one;have HN1:=hqZ (Blk.new wa1 zs5 249);clear htv hb HTV1;go_upto_region 12 with ((with_reducible refine zws 9 91 ?_);refine Af rfl (.tmp 9) (.tmp 91) Aq rfl rfl (vs:=cs1) rfl HCL1.o HN1.o (aF _) HCO1.o ?_);intro wb1 h2 k2;have h2':Blk wb1 wa1.heap.size cs1 249:=by
    rw [aJ (by decide),aH] at h2;exact h2
  have hb2:Below wa1.heap.size wa1 wb1:=((Below.refl _ _).alloc (aF _) _).trans (k2.below (by omega));have HCb1:=hqZ (((HCa1.o.addTree HTT1.o).step hb2).addBlk h2' HCa1.o.lt);obtain ⟨p1,hp1⟩:∃p1,p1=wa1.heap.size:=⟨_,rfl⟩
  rw [<-hp1] at HCb1 ⊢;clear h2 k2 h2' hb2 hp1 HCa1 HTT1 HN1 HCO1;go_upto_region 12 with fail;have hcx:wb1.cell? ⟨p,8,none⟩=some (.slice a8 k8.length c8):=(HCb1.o.blkAt 0 rfl).cell 8;have HTV2:=hqZ (Yr k8 F0 (.slice a8 k8.length c8) wb1 (by obtain ⟨rows,h1,h2⟩:=HTKS.o; exact ⟨rows,h1.below HCb1.o.below,h2.below HCb1.o.below⟩) HZ8.o.1 HZ8.o.2);go_wp2_with fail;refine HTV2.o.mono ?_;rintro e wa2 ⟨cs2,rfl,htv,hb⟩;have HCa2:=hqZ (HCb1.o.step hb);have HTT2:Hq (TvF wa2 (λ b=>q<b) (Fh k8) cs2):=hqZ (htv.mono (λ b hb=>by have:=HCb1.o.lt; omega));have HCL2:=hqZ htv.length;have HCO2:=hqZ htv.one;have HN2:=hqZ (Blk.new wa2 zs5 249);clear htv hb HTV2 hcx;go_upto_region 13 with ((with_reducible refine zws 11 97 ?_);refine Af rfl (.tmp 11) (.tmp 97) Aq rfl rfl (vs:=cs2) rfl HCL2.o HN2.o (aF _) HCO2.o ?_);intro wb2 h2 k2;have h2':Blk wb2 wa2.heap.size cs2 249:=by
    rw [aJ (by decide),aH] at h2;exact h2
  have hb2:Below wa2.heap.size wa2 wb2:=((Below.refl _ _).alloc (aF _) _).trans (k2.below (by omega));have HCb2:=hqZ (((HCa2.o.addTree HTT2.o).step hb2).addBlk h2' HCa2.o.lt);obtain ⟨p2,hp2⟩:∃p2,p2=wa2.heap.size:=⟨_,rfl⟩
  rw [<-hp2] at HCb2 ⊢;clear h2 k2 h2' hb2 hp2 HCa2 HTT2 HN2 HCO2;go_upto_region 13 with fail
  cases hok10:rT (l6,m6) with
  | false=>exact absurd hok10 (by rw [hT10]; decide)
  | true=>
    have HOK10:=hqZ hok10;clear hok10
    cases hok12:Vj k8 with
    | false=>exact absurd hok12 (by rw [hT12]; decide)
    | true=>
      have HOK12:=hqZ hok12;clear hok12;have HBE:Hq (B=([tx l1].all As&& [x2,x3].all Be)):=hqZ (by rw [HB.o]; simp only [aM,aN,ptB,HOK10.o,HOK12.o,Bool.and_true,Bool.true_and,Bool.and_false,Bool.false_and,Bool.and_assoc]; first | done | ac_rfl);obtain ⟨wd,hwd⟩:∃wd,wd=bA.drew wb2:=⟨_,rfl⟩
      have hvd:VC w q [(p, [.string (tx l1),.int .i64 x2,.int .i64 x3,.bool t4,.bool t5,.string (tx l6),.slice a6 m6.length c6,.slice a7 l7.length c7,.slice a8 k8.length c8],94),(p1,cs1,249),(p2,cs2,249)] [(Co (l6,m6),cs1),(Fh k8,cs2)] [(.slice a6 m6.length c6,m6),(.slice a7 l7.length c7,l7)] wd:=by rw [hwd]; exact HCb2.o.drew
      have HXE:Hq (X=.mk 2 13 0 [] [.mk 1 0 0 l1 [],.mk 0 0 (C4 x2) [] [],.mk 0 0 (C4 x3) [] [],.mk 0 0 (if t4 then 1 else 0) [] [],.mk 0 0 (if t5 then 1 else 0) [] [],Co (l6,m6),.mk 1 0 0 l7 [],Fh k8]):=hqZ HX2.o;have HR:Hq (∀W,GV (λ b=>q<b) q X wd W->VR w q [(p, [.string (tx l1),.int .i64 x2,.int .i64 x3,.bool t4,.bool t5,.string (tx l6),.slice a6 m6.length c6,.slice a7 l7.length c7,.slice a8 k8.length c8],94),(p1,cs1,249),(p2,cs2,249)] [(Co (l6,m6),cs1),(Fh k8,cs2)] [(.slice a6 m6.length c6,m6),(.slice a7 l7.length c7,l7)] W):=hqZ (λ W h=>hvd.gv h);have HZD:Hq (∀W,GV (λ b=>q<b) q X wd W->q<W.heap.size/\∀b,W.heap.size<=b->q<b):=hqZ (λ W h=>⟨(HR.o W h).lt,λ b hb=>aO (HR.o W h).lt hb⟩);have HFq:Hq (¬(λ b=>q<b) q):=hqZ (aP q);have HQW:Hq (w.heap.size=q):=hqZ hvd.hq.symm;clear hvd HCb2;refine wp_region_held (S:=λ W=>GV (λ b=>q<b) q X wd W) (by kernel_rfl) ?_;change wpAnyH _ _ _ _ _ _ _ _ (bA.drew _);rw [<-hwd];clear hwd;refine zH 0 ?_;refine zH 1 ?_ (hr:=λ W hW=>by have hc:=((HR.o W hW).blkAt 0 rfl).cell 0; go_simp; try rfl);refine zH 3 ?_;refine zH 4 ?_ (hr:=λ W hW=>by have hc:=((HR.o W hW).blkAt 0 rfl).cell 1; go_simp; try rfl);refine zH 6 ?_;refine zH 7 ?_ (hr:=λ W hW=>by have hc:=((HR.o W hW).blkAt 0 rfl).cell 2; go_simp; try rfl);refine zH 9 ?_;refine zH 10 ?_ (hr:=λ W hW=>by have hc:=((HR.o W hW).blkAt 0 rfl).cell 3; go_simp; try rfl);refine zH 12 ?_;refine zH 13 ?_ (hr:=λ W hW=>by have hc:=((HR.o W hW).blkAt 0 rfl).cell 4; go_simp; try rfl);refine zH 15 ?_ (v:=.agg cs1.toArray) (hr:=λ W hW=>by exact Et rfl Aq rfl HCL1.o ((HR.o W hW).blkAt 1 rfl).cellsAll);refine zH 16 ?_;refine zH 17 ?_ (hr:=λ W hW=>by have hc:=((HR.o W hW).blkAt 0 rfl).cell 7; go_simp; try rfl);refine zH 19 ?_ (v:=.agg cs2.toArray) (hr:=λ W hW=>by exact Et rfl Aq rfl HCL2.o ((HR.o W hW).blkAt 2 rfl).cellsAll);refine zH 22 ?_;refine Ct (G:=GV (λ b=>q<b) q X) (Post:=J4 (λ b=>q<b) q X [.any,.any,.val (.mk 1 0 0 l1 []),.any,.any,.val (.mk 0 0 (C4 x2) [] []),.any,.any,.val (.mk 0 0 (C4 x3) [] []),.any,.any,.val (.mk 0 0 (if t4 then 1 else 0) [] []),.any,.any,.val (.mk 0 0 (if t5 then 1 else 0) [] []),.any,.any,.any,.val (.mk 1 0 0 l7 []),.any,.vals [.mk 1 0 0 l1 [],.mk 0 0 (C4 x2) [] [],.mk 0 0 (C4 x3) [] [],.mk 0 0 (if t4 then 1 else 0) [] [],.mk 0 0 (if t5 then 1 else 0) [] [],Co (l6,m6),.mk 1 0 0 l7 [],Fh k8],.val (.mk 2 13 0 [] [.mk 1 0 0 l1 [],.mk 0 0 (C4 x2) [] [],.mk 0 0 (C4 x3) [] [],.mk 0 0 (if t4 then 1 else 0) [] [],.mk 0 0 (if t5 then 1 else 0) [] [],Co (l6,m6),.mk 1 0 0 l7 [],Fh k8]),.any,.is (.bool true),.is (.bool true),.is (.bool true),.is (.bool true),.is (.pointer (some ⟨p,0,none⟩)),.is (.string (tx l1)),.row [.string (tx l1)],.is (.pointer (some ⟨p,1,none⟩)),.is (.int .i64 x2),.is (.pointer (some ⟨p,2,none⟩)),.is (.int .i64 x3),.row [.int .i64 x2,.int .i64 x3],.is (.bool ([tx l1].all As&& [x2,x3].all Be)),.is (.bool ([tx l1].all As&& [x2,x3].all Be)),.fin,.is (.bool ([tx l1].all As&& [x2,x3].all Be))]) (ds:= [101,104,107,110,113,117,119,120,122,123,124,125,126,127,128,129,130,131,132,133,134,135,3]) (GV.refl _ _ _) GV.trans (λ W W' h g=>GV.trans _ _ _ h g) (λ i v W W' h g=>PK.stable HFq.o h g) [2,5,8,11,14,18,20,21,23,24,25,26,27,28,29,30,31,32,33,34,35,36,37,38] 397 rfl (by decide+kernel) (by decide+kernel) ?_ ?_ (GV.refl _ _ _ _) (by decide+kernel)
      · refine zA (λ a W hf hS hd K hK=>?_) ?_
        · have e100:a.eval (.tmp 100)=.string (tx l1):=hf.lit 100 (by decide) rfl;exact Ax (Ae rfl) rfl Cm (vs:=#[.string (tx l1)]) (by simp [e100]) (Eg l1 W HZ1.o) (HZD.o W hS).1 (HZD.o W hS).2 hK
        refine zA (λ a W hf hS hd K hK=>?_) ?_
        · have e103:a.eval (.tmp 103)=.int .i64 x2:=hf.lit 103 (by decide) rfl;exact Ax (Ae rfl) rfl Dm (vs:=#[.int .i64 x2]) (by simp [e103]) (Ez x2 W HZ2.o.1 HZ2.o.2) (HZD.o W hS).1 (HZD.o W hS).2 hK
        refine zA (λ a W hf hS hd K hK=>?_) ?_
        · have e106:a.eval (.tmp 106)=.int .i64 x3:=hf.lit 106 (by decide) rfl;exact Ax (Ae rfl) rfl Dm (vs:=#[.int .i64 x3]) (by simp [e106]) (Ez x3 W HZ3.o.1 HZ3.o.2) (HZD.o W hS).1 (HZD.o W hS).2 hK
        refine zA (λ a W hf hS hd K hK=>?_) ?_
        · have e109:a.eval (.tmp 109)=.bool t4:=hf.lit 109 (by decide) rfl;exact Ax (Ae rfl) rfl Lu (vs:=#[.bool t4]) (by simp [e109]) (Re t4 W) (HZD.o W hS).1 (HZD.o W hS).2 hK
        refine zA (λ a W hf hS hd K hK=>?_) ?_
        · have e112:a.eval (.tmp 112)=.bool t5:=hf.lit 112 (by decide) rfl;exact Ax (Ae rfl) rfl Lu (vs:=#[.bool t5]) (by simp [e112]) (Re t5 W) (HZD.o W hS).1 (HZD.o W hS).2 hK
        refine zA (λ a W hf hS hd K hK=>?_) ?_
        · have e116:a.eval (.tmp 116)=.slice a7 l7.length c7:=hf.lit 116 (by decide) rfl;exact Ax (Ae rfl) rfl D1 (vs:=#[.slice a7 l7.length c7]) (by simp [e116]) (Cy _ l7 W ((HR.o W hS).rowAt 1 rfl) HZ7.o) (HZD.o W hS).1 (HZD.o W hS).2 hK
        refine zA (λ a W hf hS hd K hK=>?_) ?_
        · have d101:=(hd 2 (by decide+kernel)).get (s:=101) rfl;have d104:=(hd 5 (by decide+kernel)).get (s:=104) rfl;have d107:=(hd 8 (by decide+kernel)).get (s:=107) rfl;have d110:=(hd 11 (by decide+kernel)).get (s:=110) rfl;have d113:=(hd 14 (by decide+kernel)).get (s:=113) rfl;have e114:a.eval (.tmp 114)=.agg cs1.toArray:=hf.lit 114 (by decide) rfl;have d117:=(hd 18 (by decide+kernel)).get (s:=117) rfl;have e118:a.eval (.tmp 118)=.agg cs2.toArray:=hf.lit 118 (by decide) rfl;exact Cz (Ae rfl) rfl Gi (ps:= [.tmp 101,.tmp 104,.tmp 107,.tmp 110,.tmp 113,.tmp 114,.tmp 117,.tmp 118]) rfl (l:= [.mk 1 0 0 l1 [],.mk 0 0 (C4 x2) [] [],.mk 0 0 (C4 x3) [] [],.mk 0 0 (if t4 then 1 else 0) [] [],.mk 0 0 (if t5 then 1 else 0) [] [],Co (l6,m6),.mk 1 0 0 l7 [],Fh k8]) ⟨d101,d104,d107,d110,d113,⟨_,e114,(HR.o W hS).treeAt 0 rfl⟩,d117,⟨_,e118,(HR.o W hS).treeAt 1 rfl⟩,trivial⟩ rfl (by decide) (by decide) (HZD.o W hS).1 (HZD.o W hS).2 hK
        refine zA (λ a W hf hS hd K hK=>?_) ?_
        · have d119:=(hd 20 (by decide+kernel)).get (s:=119) rfl;exact Dj (Ae rfl) rfl Cw d119 (HZD.o W hS).1 (λ v w1 h1 h2=>hK v w1 h1 h2) HFq.o
        refine zA (λ a W hf hS hd K hK=>A3 (v:=.bool true) (Ae rfl) (Hi rfl (show a.eval (.tmp 121)=.bool true from hf.lit 121 (by decide) rfl)) (hK _ _ (GV.refl _ _ _ _) rfl)) ?_;refine zA (λ a W hf hS hd K hK=>?_) ?_
        · have e122:a.eval (.tmp 122)=.bool true:=(hd 23 (by decide+kernel)).get (s:=122) rfl;have e12:a.eval (.tmp 12)=.bool true:=hf.lit 12 (by decide) rfl;exact A3 (v:=.bool true) (A4 rfl rfl e122) (Hi rfl e12) (hK _ _ (GV.refl _ _ _ _) rfl)
        refine zA (λ a W hf hS hd K hK=>?_) ?_
        · have e122:a.eval (.tmp 122)=.bool true:=(hd 23 (by decide+kernel)).get (s:=122) rfl;have e123:a.eval (.tmp 123)=.bool true:=(hd 24 (by decide+kernel)).get (s:=123) rfl;exact A3 (v:=.bool true) (Ae rfl) (Ho rfl e122 e123) (hK _ _ (GV.refl _ _ _ _) rfl)
        refine zA (λ a W hf hS hd K hK=>A3 (v:=.bool true) (Ae rfl) (Hi rfl (show a.eval (.tmp 124)=.bool true from (hd 25 (by decide+kernel)).get (s:=124) rfl)) (hK _ _ (GV.refl _ _ _ _) rfl)) ?_;refine zA (λ a W hf hS hd K hK=>?_) ?_
        · have e125:a.eval (.tmp 125)=.bool true:=(hd 26 (by decide+kernel)).get (s:=125) rfl;have e8:a.eval (.tmp 8)=.pointer (some ⟨p,0,none⟩):=hf.lit 8 (by decide) rfl;exact A3 (v:=.pointer (some ⟨p,0,none⟩)) (A4 rfl rfl e125) (Es rfl e8 (by go_simp)) (hK _ _ (GV.refl _ _ _ _) rfl)
        refine zA (λ a W hf hS hd K hK=>?_) ?_
        · have e125:a.eval (.tmp 125)=.bool true:=(hd 26 (by decide+kernel)).get (s:=125) rfl;have e126:a.eval (.tmp 126)=.pointer (some ⟨p,0,none⟩):=(hd 27 (by decide+kernel)).get (s:=126) rfl;have hc:W.cell? ⟨p,0,none⟩=some (.string (tx l1)):=((HR.o W hS).blkAt 0 rfl).cell 0;exact A3 (v:=.string (tx l1)) (A4 rfl rfl e125) (Fc rfl e126 (by go_simp)) (hK _ _ (GV.refl _ _ _ _) rfl)
        refine zA (λ a W hf hS hd K hK=>?_) ?_
        · have e125:a.eval (.tmp 125)=.bool true:=(hd 26 (by decide+kernel)).get (s:=125) rfl;have e127:a.eval (.tmp 127)=.string (tx l1):=(hd 28 (by decide+kernel)).get (s:=127) rfl;exact Cl (A4 rfl rfl e125) rfl Qr (ps:= [.tmp 127]) rfl (cs:= [.string (tx l1)]) (by simp only [aD,aE,e127]) (by intro u hu; simp only [aB,aC,or_false] at hu; rcases hu with rfl <;> exact ⟨rfl,rfl⟩) rfl (by decide) (by decide) (HZD.o W hS).1 (HZD.o W hS).2 hK
        refine zA (λ a W hf hS hd K hK=>?_) ?_
        · have e125:a.eval (.tmp 125)=.bool true:=(hd 26 (by decide+kernel)).get (s:=125) rfl;have e8:a.eval (.tmp 8)=.pointer (some ⟨p,0,none⟩):=hf.lit 8 (by decide) rfl;exact A3 (v:=.pointer (some ⟨p,1,none⟩)) (A4 rfl rfl e125) (Es rfl e8 (by go_simp)) (hK _ _ (GV.refl _ _ _ _) rfl)
        refine zA (λ a W hf hS hd K hK=>?_) ?_
        · have e125:a.eval (.tmp 125)=.bool true:=(hd 26 (by decide+kernel)).get (s:=125) rfl;have e129:a.eval (.tmp 129)=.pointer (some ⟨p,1,none⟩):=(hd 30 (by decide+kernel)).get (s:=129) rfl;have hc:W.cell? ⟨p,1,none⟩=some (.int .i64 x2):=((HR.o W hS).blkAt 0 rfl).cell 1;exact A3 (v:=.int .i64 x2) (A4 rfl rfl e125) (Fc rfl e129 (by go_simp)) (hK _ _ (GV.refl _ _ _ _) rfl)
        refine zA (λ a W hf hS hd K hK=>?_) ?_
        · have e125:a.eval (.tmp 125)=.bool true:=(hd 26 (by decide+kernel)).get (s:=125) rfl;have e8:a.eval (.tmp 8)=.pointer (some ⟨p,0,none⟩):=hf.lit 8 (by decide) rfl;exact A3 (v:=.pointer (some ⟨p,2,none⟩)) (A4 rfl rfl e125) (Es rfl e8 (by go_simp)) (hK _ _ (GV.refl _ _ _ _) rfl)
        refine zA (λ a W hf hS hd K hK=>?_) ?_
        · have e125:a.eval (.tmp 125)=.bool true:=(hd 26 (by decide+kernel)).get (s:=125) rfl;have e131:a.eval (.tmp 131)=.pointer (some ⟨p,2,none⟩):=(hd 32 (by decide+kernel)).get (s:=131) rfl;have hc:W.cell? ⟨p,2,none⟩=some (.int .i64 x3):=((HR.o W hS).blkAt 0 rfl).cell 2;exact A3 (v:=.int .i64 x3) (A4 rfl rfl e125) (Fc rfl e131 (by go_simp)) (hK _ _ (GV.refl _ _ _ _) rfl)
        refine zA (λ a W hf hS hd K hK=>?_) ?_
        · have e125:a.eval (.tmp 125)=.bool true:=(hd 26 (by decide+kernel)).get (s:=125) rfl;have e130:a.eval (.tmp 130)=.int .i64 x2:=(hd 31 (by decide+kernel)).get (s:=130) rfl;have e132:a.eval (.tmp 132)=.int .i64 x3:=(hd 33 (by decide+kernel)).get (s:=132) rfl;exact Cl (A4 rfl rfl e125) rfl Mq (ps:= [.tmp 130,.tmp 132]) rfl (cs:= [.int .i64 x2,.int .i64 x3]) (by simp only [aD,aE,e130,e132]) (by intro u hu; simp only [aB,aC,or_false] at hu; rcases hu with rfl | rfl <;> exact ⟨rfl,rfl⟩) rfl (by decide) (by decide) (HZD.o W hS).1 (HZD.o W hS).2 hK
        refine zA (λ a W hf hS hd K hK=>?_) ?_
        · have e125:a.eval (.tmp 125)=.bool true:=(hd 26 (by decide+kernel)).get (s:=125) rfl;have d128:=(hd 29 (by decide+kernel)).get (s:=128) rfl;have d133:=(hd 34 (by decide+kernel)).get (s:=133) rfl;exact Ee (A4 rfl rfl e125) rfl Dp (vs:=#[a.eval (.tmp 128),a.eval (.tmp 133)]) (by first | (simp only [aG,aD,aE]; done) | (simp only [aG,aD,aE]; rfl)) (u:=(.bool ([tx l1].all As&& [x2,x3].all Be))) (Fb [tx l1] [x2,x3] _ _ W d128.1 d133.1 HSZ.o) (HZD.o W hS).1 hK
        refine zA (λ a W hf hS hd K hK=>?_) ?_
        · have e125:a.eval (.tmp 125)=.bool true:=(hd 26 (by decide+kernel)).get (s:=125) rfl;have d134:=(hd 35 (by decide+kernel)).get (s:=134) rfl;exact A3 (Ae rfl) (Ho rfl e125 rfl) (hK _ _ (GV.refl _ _ _ _) d134)
        refine zA (λ a W hf hS hd K hK=>?_) ?_
        · have e2:a.eval (.tmp 2)=.pointer (some ⟨q,0,none⟩):=hf.lit 2 (by decide) rfl;have d120:=(hd 21 (by decide+kernel)).get (s:=120) rfl;obtain ⟨cur,hc1,hc2⟩:=(HR.o W hS).len;rw [<-HXE.o] at d120;exact Di (Ae rfl) rfl e2 d120 hc1 hc2 HFq.o hK
        refine zA (λ a W hf hS hd K hK=>?_) ?_
        · have d135:=(hd 36 (by decide+kernel)).get (s:=135) rfl;exact A3 (Ae rfl) (Hn rfl rfl) (hK _ _ (GV.refl _ _ _ _) d135)
        exact Ce.nil
      · intro a W hf hS hp;have h3:=(hp 38 (by decide)).get (s:=3) rfl;obtain ⟨v,cs,h5,h6⟩:=(hp 37 (by decide)).fin;have e2:a.eval (.tmp 2)=.pointer (some ⟨q,0,none⟩):=hf.lit 2 (by decide) rfl;go_wp2_with fail;refine bodyPost_ret (Aj rfl Aq (show a.tmps.getD 2 undef=_ from e2) h6.length h5.cellsAll) hf.defers ⟨cs,?_,?_,(HR.o W hS).below⟩
        · rw [HBE.o,show a.tmps.getD 3 undef=.bool ([tx l1].all As&& [x2,x3].all Be) from h3]
        · exact h6.mono (λ b hb=>by have:=HQW.o; omega)
end Go.Proofs.YtbmjjfhpllpiaaaGreat
