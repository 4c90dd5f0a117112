/- Texts of this proof, one behind the other: MVsD, MapT, MapV, FrKey, Mark, TabR, Pv, DigIdx, Digest, PvR. -/
import Derived.Test.YtbmjjfhpllpiaaaGreatWsA1
import Derived.Test.YtbmjjfhpllpiaaaGreatWsA2
import Derived.Test.YtbmjjfhpllpiaaaGreatWsA3
import Derived.Test.YtbmjjfhpllpiaaaGreatWsA4
import Derived.Test.YtbmjjfhpllpiaaaGreatWsA5
import Derived.Deep.DeepCutAuto
import Derived.Maps.RangeWalk
import Derived.DeepKeys4
import Derived.WideKeyEntry
import Derived.StringKeys
import Derived.Sort.MapsRangeIn
import Derived.WalkSpells
set_option linter.unusedSimpArgs false
set_option linter.unusedVariables false
set_option maxRecDepth 100000
set_option maxHeartbeats 16000000
open Go.Proofs.Tryz renaming prog -> aA, underlying142 -> aF, func88 -> aX, ntmps88 -> aY
open Nat renaming le_refl -> aB, zero_le -> aD
open Go.RowKit.Below renaming refl -> aC
open List renaming take_of_length_le -> aE, mem_cons -> aG, not_mem_nil -> aH, map_cons -> aI, map_nil -> aJ, find?_cons -> aK, any_eq_true -> aL, replicate -> aM, idxOf_append -> aN, drop_of_length_le -> aO, map_toArray -> aP, find?_some -> aQ, mem_of_find?_eq_some -> aR, filter_map -> aS, mem_singleton -> aT, map_append -> aU, mapM_cons -> aV, append_inj -> aW, getElem?_eq_getElem -> aZ, idxOf_cons_self -> bA
open Go renaming Value -> bB, World -> bC, TypeId -> bD, Calls -> bE, IntKind -> bF, Program -> bG
namespace Go.Proofs.YtbmjjfhpllpiaaaGreat
open Go.RowKit
theorem M7 (F0:Nat->Prop) (l1:List UInt8) (l2:List UInt8) (x3:Int) (l4 m4:List UInt8) (v4:bB) (l5:List UInt8) (v5:bB) (w:bC) (hz1:l1.length<=1099511627776) (hz2:l2.length<=1099511627776) (hz3: -9223372036854775808<=x3/\x3<=9223372036854775807) (hb4:Bs w v4 m4) (hz4:l4.length<=1099511627776/\m4.length<=1099511627776) (hb5:Bs w v5 l5) (hz5:l5.length<=1099511627776) (hT22:rT (l4,m4)=true): bE aA 102 #[.iface 101 (.agg #[.string (tx l1),.string (tx l2),.int .i64 x3,.string (tx l4),v4,v5])] w (Fj w (.mk 2 17 0 [] ([.s l1,.s l2,.n x3,.i (l4,m4),.b l5].map Fy)) ([.s l1,.s l2,.n x3,.i (l4,m4),.b l5].all ptB)):=by
  obtain ⟨a4,c4,rfl,hc4,hm4⟩:=hb4.form;obtain ⟨a5,c5,rfl,hc5,hm5⟩:=hb5.form;have HC:Hq (VC w w.heap.size [(w.heap.size+1, [.string (tx l1),.string (tx l2),.int .i64 x3,.string (tx l4),.slice a4 m4.length c4,.slice a5 l5.length c5],101)] [] [(.slice a4 m4.length c4,m4),(.slice a5 l5.length c5,l5)] ((w.alloc (.cells zs5.toArray 249)).alloc (.cells [.string (tx l1),.string (tx l2),.int .i64 x3,.string (tx l4),.slice a4 m4.length c4,.slice a5 l5.length c5].toArray 101))):=hqZ (VC.start (by intro r hr; simp only [aG,aH,or_false] at hr; rcases hr with rfl | rfl; exact hb4; exact hb5) _ _);have HSZ:Hq (∀u∈ [tx l1,tx l2],u.size<=maxLen):=hqZ (by intro u hu; simp only [aG,aH,or_false] at hu; rcases hu with rfl | rfl; exact Oh hz1; exact Oh hz2);have HZ1:=hqZ hz1;clear hz1;have HZ2:=hqZ hz2;clear hz2;have HZ3:=hqZ hz3;clear hz3;have HZ4:=hqZ hz4;clear hz4;have HZ5:=hqZ hz5;clear hz5;clear hb4;clear hb5;obtain ⟨z11,hta11⟩:∃z,∀W,(Instr.typeAssert (.iface 101 (.agg #[.string (tx l1),.string (tx l2),.int .i64 x3,.string (tx l4),.slice a4 m4.length c4,.slice a5 l5.length c5])) 20 77 true).run aA W=.ok (.tuple #[z,.bool false]) W:=⟨_,λ W=>Bt _ _ _ _ (by kernel_rfl) Lm (.inr ⟨_,_,rfl,by decide⟩) W⟩
  obtain ⟨z12,hta12⟩:∃z,∀W,(Instr.typeAssert (.iface 101 (.agg #[.string (tx l1),.string (tx l2),.int .i64 x3,.string (tx l4),.slice a4 m4.length c4,.slice a5 l5.length c5])) 20 83 true).run aA W=.ok (.tuple #[z,.bool false]) W:=⟨_,λ W=>Bt _ _ _ _ (by kernel_rfl) Ln (.inr ⟨_,_,rfl,by decide⟩) W⟩
  obtain ⟨z13,hta13⟩:∃z,∀W,(Instr.typeAssert (.iface 101 (.agg #[.string (tx l1),.string (tx l2),.int .i64 x3,.string (tx l4),.slice a4 m4.length c4,.slice a5 l5.length c5])) 20 94 true).run aA W=.ok (.tuple #[z,.bool false]) W:=⟨_,λ W=>Bt _ _ _ _ (by kernel_rfl) Nt (.inr ⟨_,_,rfl,by decide⟩) W⟩
  obtain ⟨z14,hta14⟩:∃z,∀W,(Instr.typeAssert (.iface 101 (.agg #[.string (tx l1),.string (tx l2),.int .i64 x3,.string (tx l4),.slice a4 m4.length c4,.slice a5 l5.length c5])) 20 97 true).run aA W=.ok (.tuple #[z,.bool false]) W:=⟨_,λ W=>Bt _ _ _ _ (by kernel_rfl) Vp (.inr ⟨_,_,rfl,by decide⟩) W⟩
  obtain ⟨z15,hta15⟩:∃z,∀W,(Instr.typeAssert (.iface 101 (.agg #[.string (tx l1),.string (tx l2),.int .i64 x3,.string (tx l4),.slice a4 m4.length c4,.slice a5 l5.length c5])) 20 292 true).run aA W=.ok (.tuple #[z,.bool false]) W:=⟨_,λ W=>Bt _ _ _ _ (by kernel_rfl) Vq (.inr ⟨_,_,rfl,by decide⟩) W⟩
  obtain ⟨z16,hta16⟩:∃z,∀W,(Instr.typeAssert (.iface 101 (.agg #[.string (tx l1),.string (tx l2),.int .i64 x3,.string (tx l4),.slice a4 m4.length c4,.slice a5 l5.length c5])) 20 294 true).run aA W=.ok (.tuple #[z,.bool false]) W:=⟨_,λ W=>Bt _ _ _ _ (by kernel_rfl) Vr (.inr ⟨_,_,rfl,by decide⟩) W⟩
  have hta:∀W,(Instr.typeAssert (.iface 101 (.agg #[.string (tx l1),.string (tx l2),.int .i64 x3,.string (tx l4),.slice a4 m4.length c4,.slice a5 l5.length c5])) 20 101 true).run aA W=.ok (.tuple #[.agg #[.string (tx l1),.string (tx l2),.int .i64 x3,.string (tx l4),.slice a4 m4.length c4,.slice a5 l5.length c5],.bool true]) W:=λ W=>Fg _ _ _ (by kernel_rfl) W
  obtain ⟨B,hB⟩:∃B,B= [.s l1,.s l2,.n x3,.i (l4,m4),.b l5].all ptB:=⟨_,rfl⟩
  obtain ⟨X,hX⟩:∃X:Tv,X=.mk 2 17 0 [] ([.s l1,.s l2,.n x3,.i (l4,m4),.b l5].map Fy):=⟨_,rfl⟩
  rw [<-hB,<-hX];have HB:=hqZ hB;have HX2:=hqZ hX;clear hB hX;go_enter Tryz.func102,Tryz.ntmps102;go_upto_region 27 with fail;clear hta hta11 hta12 hta13 hta14 hta15 hta16;show Code.wp _ _ _ _ ((w.alloc (.cells zs5.toArray 249)).alloc (.cells [.string (tx l1),.string (tx l2),.int .i64 x3,.string (tx l4),.slice a4 m4.length c4,.slice a5 l5.length c5].toArray 101))
  obtain ⟨W0,hW0⟩:∃W0,W0=(w.alloc (.cells zs5.toArray 249)).alloc (.cells [.string (tx l1),.string (tx l2),.int .i64 x3,.string (tx l4),.slice a4 m4.length c4,.slice a5 l5.length c5].toArray 101):=⟨_,rfl⟩
  rw [<-hW0] at HC ⊢;clear hW0;obtain ⟨p,hp⟩:∃p,p=w.heap.size+1:=⟨_,rfl⟩
  obtain ⟨q,hq⟩:∃q,q=w.heap.size:=⟨_,rfl⟩
  rw [<-hp,<-hq] at HC ⊢;clear hp hq;have HTV1:=hqZ (E5 (l4,m4) (.slice a4 m4.length c4) W0 (HC.o.rowAt 0 rfl) HZ4.o.1 HZ4.o.2);have HM1:=hqZ (HC.o.blkAt 0 rfl);rw [show As (tx (l4,m4).1)=rT (l4,m4) from rfl] at HTV1;go_wp2_with ((with_reducible refine zw 224 ?_);refine Ag rfl (.tmp 223) Bl rfl rfl (cs:= [.string (tx l4),.slice a4 m4.length c4]) rfl (HM1.o.cellsAt 3 2) ?_);refine HTV1.o.mono ?_;rintro e wa1 ⟨cs1,rfl,htv,hb⟩;have HCa1:=hqZ (HC.o.step hb);have HTT1:Hq (TvF wa1 (λ b=>q<b) (Co (l4,m4)) cs1):=hqZ (htv.mono (λ b hb=>by have:=HC.o.lt; omega));have HCL1:=hqZ htv.length;have HCO1:=hqZ htv.one;have HN1:=hqZ (Blk.new wa1 zs5 249);clear htv hb HTV1;go_upto_region 28 with ((with_reducible refine zws 21 227 ?_);refine Af rfl (.tmp 21) (.tmp 227) Aq rfl rfl (vs:=cs1) rfl HCL1.o HN1.o (aB _) HCO1.o ?_);intro wb1 h2 k2;have h2':Blk wb1 wa1.heap.size cs1 249:=by
    rw [aO (by decide),List.append_nil] at h2;exact h2
  have hb2:Below wa1.heap.size wa1 wb1:=((aC _ _).alloc (aB _) _).trans (k2.below (by omega));have HCb1:=hqZ (((HCa1.o.addTree HTT1.o).step hb2).addBlk h2' HCa1.o.lt);obtain ⟨p1,hp1⟩:∃p1,p1=wa1.heap.size:=⟨_,rfl⟩
  rw [<-hp1] at HCb1 ⊢;clear h2 k2 h2' hb2 hp1 HCa1 HTT1 HN1 HCO1;go_upto_region 28 with fail
  cases hok22:rT (l4,m4) with
  | false=>exact absurd hok22 (by rw [hT22]; decide)
  | true=>
    have HOK22:=hqZ hok22;clear hok22;have HBE:Hq (B=([tx l1,tx l2].all As&& [x3].all Be)):=hqZ (by rw [HB.o]; simp only [List.all_cons,List.all_nil,ptB,HOK22.o,Bool.and_true,Bool.true_and,Bool.and_false,Bool.false_and,Bool.and_assoc]; first | done | ac_rfl);obtain ⟨wd,hwd⟩:∃wd,wd=bC.drew wb1:=⟨_,rfl⟩
    have hvd:VC w q [(p, [.string (tx l1),.string (tx l2),.int .i64 x3,.string (tx l4),.slice a4 m4.length c4,.slice a5 l5.length c5],101),(p1,cs1,249)] [(Co (l4,m4),cs1)] [(.slice a4 m4.length c4,m4),(.slice a5 l5.length c5,l5)] wd:=by rw [hwd]; exact HCb1.o.drew
    have HXE:Hq (X=.mk 2 17 0 [] [.mk 1 0 0 l1 [],.mk 1 0 0 l2 [],.mk 0 0 (C4 x3) [] [],Co (l4,m4),.mk 1 0 0 l5 []]):=hqZ HX2.o;have HR:Hq (∀W,GV (λ b=>q<b) q X wd W->VR w q [(p, [.string (tx l1),.string (tx l2),.int .i64 x3,.string (tx l4),.slice a4 m4.length c4,.slice a5 l5.length c5],101),(p1,cs1,249)] [(Co (l4,m4),cs1)] [(.slice a4 m4.length c4,m4),(.slice a5 l5.length c5,l5)] W):=hqZ (λ W h=>hvd.gv h);have HZD:Hq (∀W,GV (λ b=>q<b) q X wd W->q<W.heap.size/\∀b,W.heap.size<=b->q<b):=hqZ (λ W h=>⟨(HR.o W h).lt,λ b hb=>Nat.lt_of_lt_of_le (HR.o W h).lt hb⟩);have HFq:Hq (¬(λ b=>q<b) q):=hqZ (Nat.lt_irrefl q);have HQW:Hq (w.heap.size=q):=hqZ hvd.hq.symm;clear hvd HCb1;refine wp_region_held (S:=λ W=>GV (λ b=>q<b) q X wd W) (by kernel_rfl) ?_;change wpAnyH _ _ _ _ _ _ _ _ (bC.drew _);rw [<-hwd];clear hwd;refine zH 0 ?_;refine zH 1 ?_ (hr:=λ W hW=>by have hc:=((HR.o W hW).blkAt 0 rfl).cell 0; go_simp; try rfl);refine zH 3 ?_;refine zH 4 ?_ (hr:=λ W hW=>by have hc:=((HR.o W hW).blkAt 0 rfl).cell 1; go_simp; try rfl);refine zH 6 ?_;refine zH 7 ?_ (hr:=λ W hW=>by have hc:=((HR.o W hW).blkAt 0 rfl).cell 2; go_simp; try rfl);refine zH 9 ?_ (v:=.agg cs1.toArray) (hr:=λ W hW=>by exact Et rfl Aq rfl HCL1.o ((HR.o W hW).blkAt 1 rfl).cellsAll);refine zH 10 ?_;refine zH 11 ?_ (hr:=λ W hW=>by have hc:=((HR.o W hW).blkAt 0 rfl).cell 5; go_simp; try rfl);refine zH 15 ?_;refine Ct (G:=GV (λ b=>q<b) q X) (Post:=J4 (λ b=>q<b) q X [.any,.any,.val (.mk 1 0 0 l1 []),.any,.any,.val (.mk 1 0 0 l2 []),.any,.any,.val (.mk 0 0 (C4 x3) [] []),.any,.any,.any,.val (.mk 1 0 0 l5 []),.vals [.mk 1 0 0 l1 [],.mk 1 0 0 l2 [],.mk 0 0 (C4 x3) [] [],Co (l4,m4),.mk 1 0 0 l5 []],.val (.mk 2 17 0 [] [.mk 1 0 0 l1 [],.mk 1 0 0 l2 [],.mk 0 0 (C4 x3) [] [],Co (l4,m4),.mk 1 0 0 l5 []]),.any,.is (.bool true),.is (.pointer (some ⟨p,0,none⟩)),.is (.string (tx l1)),.is (.pointer (some ⟨p,1,none⟩)),.is (.string (tx l2)),.row [.string (tx l1),.string (tx l2)],.is (.pointer (some ⟨p,2,none⟩)),.is (.int .i64 x3),.row [.int .i64 x3],.is (.bool ([tx l1,tx l2].all As&& [x3].all Be)),.is (.bool ([tx l1,tx l2].all As&& [x3].all Be)),.fin,.is (.bool ([tx l1,tx l2].all As&& [x3].all Be))]) (ds:= [231,234,237,241,242,243,245,246,247,248,249,250,251,252,253,254,255,3]) (GV.refl _ _ _) GV.trans (λ W W' h g=>GV.trans _ _ _ h g) (λ i v W W' h g=>PK.stable HFq.o h g) [2,5,8,12,13,14,16,17,18,19,20,21,22,23,24,25,26,27,28] 397 rfl (by decide+kernel) (by decide+kernel) ?_ ?_ (GV.refl _ _ _ _) (by decide+kernel)
    · refine zA (λ a W hf hS hd K hK=>?_) ?_
      · have e230:a.eval (.tmp 230)=.string (tx l1):=hf.lit 230 (by decide) rfl;exact Ax (Ae rfl) rfl Cm (vs:=#[.string (tx l1)]) (by simp [e230]) (Eg l1 W HZ1.o) (HZD.o W hS).1 (HZD.o W hS).2 hK
      refine zA (λ a W hf hS hd K hK=>?_) ?_
      · have e233:a.eval (.tmp 233)=.string (tx l2):=hf.lit 233 (by decide) rfl;exact Ax (Ae rfl) rfl Cm (vs:=#[.string (tx l2)]) (by simp [e233]) (Eg l2 W HZ2.o) (HZD.o W hS).1 (HZD.o W hS).2 hK
      refine zA (λ a W hf hS hd K hK=>?_) ?_
      · have e236:a.eval (.tmp 236)=.int .i64 x3:=hf.lit 236 (by decide) rfl;exact Ax (Ae rfl) rfl Dm (vs:=#[.int .i64 x3]) (by simp [e236]) (Ez x3 W HZ3.o.1 HZ3.o.2) (HZD.o W hS).1 (HZD.o W hS).2 hK
      refine zA (λ a W hf hS hd K hK=>?_) ?_
      · have e240:a.eval (.tmp 240)=.slice a5 l5.length c5:=hf.lit 240 (by decide) rfl;exact Ax (Ae rfl) rfl D1 (vs:=#[.slice a5 l5.length c5]) (by simp [e240]) (Cy _ l5 W ((HR.o W hS).rowAt 1 rfl) HZ5.o) (HZD.o W hS).1 (HZD.o W hS).2 hK
      refine zA (λ a W hf hS hd K hK=>?_) ?_
      · have d231:=(hd 2 (by decide+kernel)).get (s:=231) rfl;have d234:=(hd 5 (by decide+kernel)).get (s:=234) rfl;have d237:=(hd 8 (by decide+kernel)).get (s:=237) rfl;have e238:a.eval (.tmp 238)=.agg cs1.toArray:=hf.lit 238 (by decide) rfl;have d241:=(hd 12 (by decide+kernel)).get (s:=241) rfl;exact Cz (Ae rfl) rfl Gi (ps:= [.tmp 231,.tmp 234,.tmp 237,.tmp 238,.tmp 241]) rfl (l:= [.mk 1 0 0 l1 [],.mk 1 0 0 l2 [],.mk 0 0 (C4 x3) [] [],Co (l4,m4),.mk 1 0 0 l5 []]) ⟨d231,d234,d237,⟨_,e238,(HR.o W hS).treeAt 0 rfl⟩,d241,trivial⟩ rfl (by decide) (by decide) (HZD.o W hS).1 (HZD.o W hS).2 hK
      refine zA (λ a W hf hS hd K hK=>?_) ?_
      · have d242:=(hd 13 (by decide+kernel)).get (s:=242) rfl;exact Dj (Ae rfl) rfl Cw d242 (HZD.o W hS).1 (λ v w1 h1 h2=>hK v w1 h1 h2) HFq.o
      refine zA (λ a W hf hS hd K hK=>A3 (v:=.bool true) (Ae rfl) (Hi rfl (show a.eval (.tmp 244)=.bool true from hf.lit 244 (by decide) rfl)) (hK _ _ (GV.refl _ _ _ _) rfl)) ?_;refine zA (λ a W hf hS hd K hK=>?_) ?_
      · have e245:a.eval (.tmp 245)=.bool true:=(hd 16 (by decide+kernel)).get (s:=245) rfl;have e20:a.eval (.tmp 20)=.pointer (some ⟨p,0,none⟩):=hf.lit 20 (by decide) rfl;exact A3 (v:=.pointer (some ⟨p,0,none⟩)) (A4 rfl rfl e245) (Es rfl e20 (by go_simp)) (hK _ _ (GV.refl _ _ _ _) rfl)
      refine zA (λ a W hf hS hd K hK=>?_) ?_
      · have e245:a.eval (.tmp 245)=.bool true:=(hd 16 (by decide+kernel)).get (s:=245) rfl;have e246:a.eval (.tmp 246)=.pointer (some ⟨p,0,none⟩):=(hd 17 (by decide+kernel)).get (s:=246) rfl;have hc:W.cell? ⟨p,0,none⟩=some (.string (tx l1)):=((HR.o W hS).blkAt 0 rfl).cell 0;exact A3 (v:=.string (tx l1)) (A4 rfl rfl e245) (Fc rfl e246 (by go_simp)) (hK _ _ (GV.refl _ _ _ _) rfl)
      refine zA (λ a W hf hS hd K hK=>?_) ?_
      · have e245:a.eval (.tmp 245)=.bool true:=(hd 16 (by decide+kernel)).get (s:=245) rfl;have e20:a.eval (.tmp 20)=.pointer (some ⟨p,0,none⟩):=hf.lit 20 (by decide) rfl;exact A3 (v:=.pointer (some ⟨p,1,none⟩)) (A4 rfl rfl e245) (Es rfl e20 (by go_simp)) (hK _ _ (GV.refl _ _ _ _) rfl)
      refine zA (λ a W hf hS hd K hK=>?_) ?_
      · have e245:a.eval (.tmp 245)=.bool true:=(hd 16 (by decide+kernel)).get (s:=245) rfl;have e248:a.eval (.tmp 248)=.pointer (some ⟨p,1,none⟩):=(hd 19 (by decide+kernel)).get (s:=248) rfl;have hc:W.cell? ⟨p,1,none⟩=some (.string (tx l2)):=((HR.o W hS).blkAt 0 rfl).cell 1;exact A3 (v:=.string (tx l2)) (A4 rfl rfl e245) (Fc rfl e248 (by go_simp)) (hK _ _ (GV.refl _ _ _ _) rfl)
      refine zA (λ a W hf hS hd K hK=>?_) ?_
      · have e245:a.eval (.tmp 245)=.bool true:=(hd 16 (by decide+kernel)).get (s:=245) rfl;have e247:a.eval (.tmp 247)=.string (tx l1):=(hd 18 (by decide+kernel)).get (s:=247) rfl;have e249:a.eval (.tmp 249)=.string (tx l2):=(hd 20 (by decide+kernel)).get (s:=249) rfl;exact Cl (A4 rfl rfl e245) rfl Qr (ps:= [.tmp 247,.tmp 249]) rfl (cs:= [.string (tx l1),.string (tx l2)]) (by simp only [aI,aJ,e247,e249]) (by intro u hu; simp only [aG,aH,or_false] at hu; rcases hu with rfl | rfl <;> exact ⟨rfl,rfl⟩) rfl (by decide) (by decide) (HZD.o W hS).1 (HZD.o W hS).2 hK
      refine zA (λ a W hf hS hd K hK=>?_) ?_
      · have e245:a.eval (.tmp 245)=.bool true:=(hd 16 (by decide+kernel)).get (s:=245) rfl;have e20:a.eval (.tmp 20)=.pointer (some ⟨p,0,none⟩):=hf.lit 20 (by decide) rfl;exact A3 (v:=.pointer (some ⟨p,2,none⟩)) (A4 rfl rfl e245) (Es rfl e20 (by go_simp)) (hK _ _ (GV.refl _ _ _ _) rfl)
      refine zA (λ a W hf hS hd K hK=>?_) ?_
      · have e245:a.eval (.tmp 245)=.bool true:=(hd 16 (by decide+kernel)).get (s:=245) rfl;have e251:a.eval (.tmp 251)=.pointer (some ⟨p,2,none⟩):=(hd 22 (by decide+kernel)).get (s:=251) rfl;have hc:W.cell? ⟨p,2,none⟩=some (.int .i64 x3):=((HR.o W hS).blkAt 0 rfl).cell 2;exact A3 (v:=.int .i64 x3) (A4 rfl rfl e245) (Fc rfl e251 (by go_simp)) (hK _ _ (GV.refl _ _ _ _) rfl)
      refine zA (λ a W hf hS hd K hK=>?_) ?_
      · have e245:a.eval (.tmp 245)=.bool true:=(hd 16 (by decide+kernel)).get (s:=245) rfl;have e252:a.eval (.tmp 252)=.int .i64 x3:=(hd 23 (by decide+kernel)).get (s:=252) rfl;exact Cl (A4 rfl rfl e245) rfl Mq (ps:= [.tmp 252]) rfl (cs:= [.int .i64 x3]) (by simp only [aI,aJ,e252]) (by intro u hu; simp only [aG,aH,or_false] at hu; rcases hu with rfl <;> exact ⟨rfl,rfl⟩) rfl (by decide) (by decide) (HZD.o W hS).1 (HZD.o W hS).2 hK
      refine zA (λ a W hf hS hd K hK=>?_) ?_
      · have e245:a.eval (.tmp 245)=.bool true:=(hd 16 (by decide+kernel)).get (s:=245) rfl;have d250:=(hd 21 (by decide+kernel)).get (s:=250) rfl;have d253:=(hd 24 (by decide+kernel)).get (s:=253) rfl;exact Ee (A4 rfl rfl e245) rfl Dp (vs:=#[a.eval (.tmp 250),a.eval (.tmp 253)]) (by first | (simp only [aP,aI,aJ]; done) | (simp only [aP,aI,aJ]; rfl)) (u:=(.bool ([tx l1,tx l2].all As&& [x3].all Be))) (Fb [tx l1,tx l2] [x3] _ _ W d250.1 d253.1 HSZ.o) (HZD.o W hS).1 hK
      refine zA (λ a W hf hS hd K hK=>?_) ?_
      · have e245:a.eval (.tmp 245)=.bool true:=(hd 16 (by decide+kernel)).get (s:=245) rfl;have d254:=(hd 25 (by decide+kernel)).get (s:=254) rfl;exact A3 (Ae rfl) (Ho rfl e245 rfl) (hK _ _ (GV.refl _ _ _ _) d254)
      refine zA (λ a W hf hS hd K hK=>?_) ?_
      · have e2:a.eval (.tmp 2)=.pointer (some ⟨q,0,none⟩):=hf.lit 2 (by decide) rfl;have d243:=(hd 14 (by decide+kernel)).get (s:=243) rfl;obtain ⟨cur,hc1,hc2⟩:=(HR.o W hS).len;rw [<-HXE.o] at d243;exact Di (Ae rfl) rfl e2 d243 hc1 hc2 HFq.o hK
      refine zA (λ a W hf hS hd K hK=>?_) ?_
      · have d255:=(hd 26 (by decide+kernel)).get (s:=255) rfl;exact A3 (Ae rfl) (Hn rfl rfl) (hK _ _ (GV.refl _ _ _ _) d255)
      exact Ce.nil
    · intro a W hf hS hp;have h3:=(hp 28 (by decide)).get (s:=3) rfl;obtain ⟨v,cs,h5,h6⟩:=(hp 27 (by decide)).fin;have e2:a.eval (.tmp 2)=.pointer (some ⟨q,0,none⟩):=hf.lit 2 (by decide) rfl;go_wp2_with fail;refine bodyPost_ret (Aj rfl Aq (show a.tmps.getD 2 undef=_ from e2) h6.length h5.cellsAll) hf.defers ⟨cs,?_,?_,(HR.o W hS).below⟩
      · rw [HBE.o,show a.tmps.getD 3 undef=.bool ([tx l1,tx l2].all As&& [x3].all Be) from h3]
      · exact h6.mono (λ b hb=>by have:=HQW.o; omega)
end Go.Proofs.YtbmjjfhpllpiaaaGreat
namespace Go.Proofs.YtbmjjfhpllpiaaaGreat
open Go.RowKit Go.Maps
section
section
open Go.WideElems Go.MapKept Go.ChangeMaps Go.ChangeShapes Go.WideShapes
variable {P:bG} {w:bC} {t k e:bD}
end
open Go.MapKept
theorem U7 {H:Type} {P:bG} {k:bD} {R:bB->Option (DataW H×List MemPlace)} {w w':bC} {b n:Nat} {D:DataW H} {S:Nat->Prop} (h:w.ownsMap P k R b n D) (hk:Ai S w w') (hb:¬S b):w'.ownsMap P k R b n D:=by
  obtain ⟨es,clock,h1,hr⟩:=h;exact ⟨es,clock,(hk.block b hb).trans h1,hr⟩
theorem O2 {w w':bC} {b:Nat} (hg:w.grownBy w' (some b)):Ai (λ k=>k=b\/w.heap.size<=k) w w':=
  (Ai.refl _ _).grown hg (λ k hk=>.inr hk) (λ k hk=>by simp only [Option.some.injEq] at hk; exact .inl hk.symm)
end
end Go.Proofs.YtbmjjfhpllpiaaaGreat
namespace Go.Proofs.YtbmjjfhpllpiaaaGreat
open Go.RowKit Go.Maps Go.MapKept Go.WideMaps
section
def Pv (v:bB):Option (DataW bB×List MemPlace):=some (.held v, [])
section
variable {α:Type} {kL:α->Lit}
def Wr (kL:α->Lit) (x:α×bB):Lit×DataW bB:=(kL x.1,.held x.2)
def Nu [DecidableEq α] (kL:α->Lit):Prop:=∀a b,(kL a).sameKey (kL b)=decide (a=b)
def I4 (kL:α->Lit) (D:DataW bB) (M:List (α×bB)):Prop:=M.Pairwise (λ x y=>x.1≠y.1)/\∃es,D=.map es/\es.Perm (M.map (Wr kL))
theorem I4.nil:I4 kL (.map []) []:=⟨.nil, [],rfl,.refl _⟩
def Ej [DecidableEq α] {β:Type} (M:List (α×β)) (s:α):Bool:=M.any λ x=>decide (x.1=s)
def J7 [DecidableEq α] {β:Type} (M:List (α×β)) (s:α):List (α×β):=M.filter λ x=>decide (x.1≠s)
def If [DecidableEq α] {β:Type} (M:List (α×β)) (s:α) (v:β):List (α×β):=J7 M s++ [(s,v)]
def G6 [DecidableEq α] {β:Type} (M:List (α×β)) (s:α) (z:β):β:=match M.find? λ x=>decide (x.1=s) with | some x=>x.2 | none=>z
theorem I4.has [DecidableEq α] {D:DataW bB} {M:List (α×bB)} (h:I4 kL D M) (hk:Nu kL) (s:α):Maps.has D (kL s)=Ej M s:=by
  obtain ⟨_,es,rfl,hp⟩:=h;rw [Maps.has_eq];unfold Ej;rw [Bool.eq_iff_iff,aL,aL];constructor
  · rintro ⟨p,hp1,hp2⟩;obtain ⟨x,hx,rfl⟩:=List.mem_map.1 (hp.mem_iff.1 hp1);exact ⟨x,hx,by rw [<-hp2]; exact (hk _ _).symm⟩
  · rintro ⟨x,hx,h2⟩;exact ⟨Wr kL x,hp.mem_iff.2 (List.mem_map.2 ⟨x,hx,rfl⟩),by rw [<-h2]; exact hk _ _⟩
theorem I4.size {D:DataW bB} {M:List (α×bB)} (h:I4 kL D M):Maps.size D=M.length:=by
  obtain ⟨_,es,rfl,hp⟩:=h;rw [Maps.size_eq,hp.length_eq,List.length_map]
theorem A2A {β:Type} {M:List (α×β)} (h:M.Pairwise (λ x y=>x.1≠y.1)):∀ {x y:α×β},x∈M->y∈M->x.1=y.1->x=y:=by
  induction M with
  | nil=>intro x y hx; cases hx
  | cons a M ih=>
    obtain ⟨h1,h2⟩:=List.pairwise_cons.1 h;intro x y hx hy he;rcases List.mem_cons.1 hx with e1 | hx2
    · rcases List.mem_cons.1 hy with e2 | hy2
      · rw [e1,e2]
      · exact (h1 y hy2 (by rw [<-e1]; exact he)).elim
    · rcases List.mem_cons.1 hy with e2 | hy2
      · exact (h1 x hx2 (by rw [<-e2]; exact he.symm)).elim
      · exact ih h2 hx2 hy2 he
theorem I4.at_mem [DecidableEq α] {D:DataW bB} {M:List (α×bB)} (h:I4 kL D M) (hk:Nu kL) {x:α×bB} (hx:x∈M) (z:DataW bB):D.atKey (kL x.1) z=.held x.2:=by
  obtain ⟨hd,es,rfl,hp⟩:=h;unfold DataW.atKey;simp only
  cases hf:es.find? λ p=>p.1.sameKey (kL x.1) with
  | none=>
    have:=List.find?_eq_none.1 hf (Wr kL x) (hp.mem_iff.2 (List.mem_map.2 ⟨x,hx,rfl⟩));rw [show (Wr kL x).1=kL x.1 from rfl,hk] at this;simp at this
  | some p=>
    have h1:=aQ hf;have h2:=aR hf;obtain ⟨y,hy,rfl⟩:=List.mem_map.1 (hp.mem_iff.1 h2);rw [show (Wr kL y).1=kL y.1 from rfl,hk] at h1;rw [A2A hd hx hy (by simpa using (of_decide_eq_true h1).symm)];rfl
theorem I4.at_no [DecidableEq α] {D:DataW bB} {M:List (α×bB)} (h:I4 kL D M) (hk:Nu kL) {s:α} (hs:Ej M s=false) (z:DataW bB):D.atKey (kL s) z=z:=by
  have hh:=h.has hk s;obtain ⟨hd,es,rfl,hp⟩:=h;rw [hs,Maps.has_eq] at hh;unfold DataW.atKey;simp only;rw [List.find?_eq_none.2 λ p hp2=>by
    have:=List.any_eq_false.1 hh p hp2;simpa using this]
theorem Gk [DecidableEq α] {β:Type} {M:List (α×β)} {s:α} (h:Ej M s=true) (z:β):(s,G6 M s z)∈M:=by
  unfold Ej at h;unfold G6
  cases hf:M.find? λ x=>decide (x.1=s) with
  | none=>
    obtain ⟨x,hx,hs⟩:=List.any_eq_true.1 h;exact (List.find?_eq_none.1 hf x hx hs).elim
  | some x=>
    have h1:=aQ hf;have h2:=aR hf
    have:x.1=s:=by simpa using h1
    subst this;exact h2
theorem Mw [DecidableEq α] {β:Type} {M:List (α×β)} {s:α} (h:Ej M s=false) (z:β):G6 M s z=z:=by
  unfold G6;rw [List.find?_eq_none.2 λ x hx=>by
    have:=List.any_eq_false.1 h x hx;simpa using this]
theorem I4.at [DecidableEq α] {D:DataW bB} {M:List (α×bB)} (h:I4 kL D M) (hk:Nu kL) (s:α) (z:bB):D.atKey (kL s) (.held z)=.held (G6 M s z):=by
  cases hs:Ej M s with
  | false=>rw [h.at_no hk hs,Mw hs]
  | true=>exact h.at_mem hk (Gk hs z) _
theorem Wv [DecidableEq α] (hk:Nu kL) (M:List (α×bB)) (s:α):(M.map (Wr kL)).filter (λ p=> !p.1.sameKey (kL s))=(J7 M s).map (Wr kL):=by
  unfold J7;rw [aS];congr 1;apply List.filter_congr;intro x _;simp only [Function.comp,Wr,hk _ _];by_cases h:x.1=s <;> simp [h]
theorem I4.put [DecidableEq α] {D:DataW bB} {M:List (α×bB)} (h:I4 kL D M) (hk:Nu kL) (s:α) (v:bB):I4 kL (D.put (kL s) (.held v)) (If M s v):=by
  obtain ⟨hd,es,rfl,hp⟩:=h;refine ⟨?_,_,rfl,(WideShapes.insert_perm _ _).trans ?_⟩
  · unfold If;rw [List.pairwise_append];refine ⟨hd.filter _,by simp,λ x hx y hy=>?_⟩;simp only [aT] at hy;subst hy;simpa using (List.mem_filter.1 hx).2
  · unfold If;rw [aU,<-Wv hk];refine .trans ?_ List.perm_append_comm;exact (hp.filter _).cons _
theorem Xq [DecidableEq α] {β:Type} (M:List (α×β)) (s:α) (v:β):(If M s v).length<=M.length+1:=by
  unfold If J7
  have:=List.length_filter_le (λ x:α×β=>decide (x.1≠s)) M;rw [List.length_append,List.length_singleton];omega
theorem A1N [DecidableEq α] {β γ:Type} (f:β->γ) (M:List (α×β)) (s:α):J7 (M.map λ x=>(x.1,f x.2)) s=(J7 M s).map λ x=>(x.1,f x.2):=by
  unfold J7;rw [aS];rfl
theorem Xr [DecidableEq α] {β γ:Type} (f:β->γ) (M:List (α×β)) (s:α) (v:β):If (M.map λ x=>(x.1,f x.2)) s (f v)=(If M s v).map λ x=>(x.1,f x.2):=by
  unfold If;rw [A1N,aU];rfl
theorem Kk [DecidableEq α] {β γ:Type} (f:β->γ) (M:List (α×β)) (s:α):Ej (M.map λ x=>(x.1,f x.2)) s=Ej M s:=by
  unfold Ej;rw [List.any_map];rfl
theorem A2s [DecidableEq α] {β γ:Type} (f:β->γ) (M:List (α×β)) (s:α) (z:β):G6 (M.map λ x=>(x.1,f x.2)) s (f z)=f (G6 M s z):=by
  cases h:Ej M s with
  | false=>rw [Mw h,Mw (by rw [Kk]; exact h)]
  | true=>
    unfold G6;rw [List.find?_map];have h1:∃x,(M.find? λ x=>decide (x.1=s))=some x:=by
      cases hf:M.find? λ x=>decide (x.1=s) with
      | none=>
        obtain ⟨x,hx,hs⟩:=List.any_eq_true.1 h;exact (List.find?_eq_none.1 hf x hx hs).elim
      | some x=>exact ⟨x,rfl⟩
    obtain ⟨x,hx⟩:=h1
    have:(M.find? ((λ x:α×γ=>decide (x.1=s))∘λ x:α×β=>(x.1,f x.2)))=some x:=hx;rw [this,hx];rfl
theorem Q2 [DecidableEq α] {β:Type} (M:List (α×β)) (s t:α) (v:β):Ej (If M s v) t=(decide (s=t)||Ej M t):=by
  unfold If Ej J7;rw [List.any_append,Bool.eq_iff_iff];simp only [Bool.or_eq_true,aL,List.mem_filter,aT,decide_eq_true_eq];constructor
  · rintro (⟨x,⟨h1,h2⟩,h3⟩ | ⟨x,rfl,h⟩)
    · exact .inr ⟨x,h1,h3⟩
    · exact .inl h
  · rintro (h | ⟨x,h1,h2⟩)
    · exact .inr ⟨_,rfl,h⟩
    · by_cases e:x.1=s
      · exact .inr ⟨_,rfl,e.symm.trans h2⟩
      · exact .inl ⟨x,⟨h1,e⟩,h2⟩
theorem Tb [DecidableEq α] {β:Type} {s t:α} (h:¬s=t):∀M:List (α×β),((J7 M s).find? λ x=>decide (x.1=t))=M.find? λ x=>decide (x.1=t)
  | []=>rfl
  | x::M=>by
    unfold J7;rw [List.filter_cons];have ih:=Tb h M;unfold J7 at ih;by_cases e:x.1=s
    · have e3:decide (x.1=t)=false:=by simp; exact λ e2=>h (e.symm.trans e2)
      rw [if_neg (by simp [e]),ih,aK,e3]
    · simp only [ne_eq,e,not_false_eq_true,decide_true,if_true,aK];rw [ih]
theorem Wy [DecidableEq α] {β:Type} (M:List (α×β)) (s t:α) (v z:β):G6 (If M s v) t z=if s=t then v else G6 M t z:=by
  unfold G6 If;rw [List.find?_append];by_cases h:s=t
  · subst h
    have:((J7 M s).find? λ x=>decide (x.1=s))=none:=by
      rw [List.find?_eq_none];intro x hx
      have:=(List.mem_filter.1 hx).2;simpa using this
    simp [this,aK]
  · rw [Tb h,if_neg h]
    cases M.find? λ x=>decide (x.1=t) with
    | some x=>rfl
    | none=>simp [aK,h]
theorem Ra [DecidableEq α] {β:Type} {M:List (α×β)} {s:α} {v:β} {x:α×β} (h:x∈If M s v):x=(s,v)\/x∈M/\x.1≠s:=by
  rcases List.mem_append.1 h with h | h
  · exact .inr ⟨(List.mem_filter.1 h).1,by simpa using (List.mem_filter.1 h).2⟩
  · exact .inl (List.mem_singleton.1 h)
def N5 (P:bG) (k:bD) (kL:α->Lit) (b:Nat) (M:List (α×bB)):Res where
  holds W F:=(∃D,I4 kL D M/\W.ownsMap P k Pv b (Maps.size D) D)/\∀x,F x↔x=b
  frame:=by
    rintro W W' F S ⟨⟨D,h1,h2⟩,hf⟩ hk hs;exact ⟨⟨D,h1,U7 h2 hk (hs b ((hf b).2 rfl))⟩,hf⟩
  lt:=by
    rintro W F x ⟨⟨D,_,⟨es,clock,h1,_⟩⟩,hf⟩ hx;rw [(hf x).1 hx];exact Gh h1
theorem Kt {P:bG} {k:bD} {w:bC} {b n:Nat} {D:DataW bB} (h:w.ownsMap P k Pv b n D):w.ownsMap P k Pv b (Maps.size D) D:=by
  obtain ⟨es,clock,h1,h2,h3,rfl⟩:=h;exact ⟨es,clock,h1,h2,by rw [Maps.size_eq,length_read]; exact aB _,rfl⟩
def Jy (P:bG) (k:bD) (kL:α->Lit) (W:bC) (b:Nat) (M:List (α×bB)):Prop:=∃D,I4 kL D M/\W.ownsMap P k Pv b (Maps.size D) D
theorem Ac.mapVOf {W:bC} {l:List Res} (h:Ac W l) {P:bG} {k:bD} {b:Nat} {M:List (α×bB)} (hm:N5 P k kL b M∈l):Jy P k kL W b M:=by
  obtain ⟨F,hr⟩:=h.get hm;exact hr.1
theorem Ac.mapVTurn {W W':bC} {l:List Res} {P:bG} {k:bD} {b:Nat} {M M':List (α×bB)} (h:Ac W (N5 P k kL b M::l)) (ho:Jy P k kL W' b M') (ht:Ai (λ k=>k=b\/W.heap.size<=k) W W'):Ac W' (N5 P k kL b M'::l):=
  h.turn λ F hF=>⟨F,⟨ho,hF.2⟩,λ b hb=>.inl hb,ht.mono λ k hk=>hk.elim (λ e=>.inl ((hF.2 k).2 e)) .inr⟩
theorem Ac.mapVMade {W:bC} {l:List Res} (h:Ac W l) (P:bG) (k:bD) (kL:α->Lit):Ac (W.alloc (.map #[] 0)) (N5 P k kL W.heap.size []::l):=
  h.new ((aC _ _).alloc (aB _) _) (F:=λ x=>x=W.heap.size) ⟨⟨.map [],I4.nil,bC.ownsMap_made W P k Pv⟩,λ _=>Iff.rfl⟩ (λ b hb=>by omega)
section
variable {P:bG} (w:bC) {ops:Array Oper} {rest:List Oper} {o:Oper} {a:Act} {Q:Exit->Act->bC->Prop}
end
def Lq (P:bG) (k:bD) (kL:α->Lit) (b r:Nat) (M:List (α×bB)) (left:Lit->Bool) (cnt:Nat):Res where
  holds W F:=(∃n D,I4 kL D M/\W.ranges P k Pv b r n D left cnt)/\∀x,F x↔x=b\/x=r
  frame:=by
    rintro W W' F S ⟨⟨n,D,hd,⟨es,clock,since,seen,c0,h1,h2,h3,h4,h5,h6⟩⟩,hf⟩ hk hs;exact ⟨⟨n,D,hd,⟨es,clock,since,seen,c0,by rw [hk.block b (hs b ((hf b).2 (.inl rfl)))]; exact h1,h2,h3,h4,by rw [hk.block r (hs r ((hf r).2 (.inr rfl)))]; exact h5,h6⟩⟩,hf⟩
  lt:=by
    rintro W F x ⟨⟨n,D,_,h⟩,hf⟩ hx;rcases (hf x).1 hx with rfl | rfl
    · obtain ⟨es,clock,since,seen,c0,h1,_⟩:=h;exact Gh h1
    · exact h.lt
def Oo (P:bG) (k:bD) (kL:α->Lit) (W:bC) (b r:Nat) (M:List (α×bB)) (left:Lit->Bool) (cnt:Nat):Prop:=∃n D,I4 kL D M/\W.ranges P k Pv b r n D left cnt
theorem Oo.left_eq {P:bG} {k:bD} {W:bC} {b r:Nat} {M:List (α×bB)} {left:Lit->Bool} {cnt:Nat} (h:Oo P k kL W b r M left cnt):W.rangeLeft b r=cnt:=by
  obtain ⟨n,D,_,h⟩:=h;exact h.left_eq
theorem Ac.rngVOf {W:bC} {l:List Res} {P:bG} {k:bD} {b r:Nat} {M:List (α×bB)} {left:Lit->Bool} {cnt:Nat} (h:Ac W (Lq P k kL b r M left cnt::l)):Oo P k kL W b r M left cnt:=by
  obtain ⟨F,hr⟩:=h.head;exact hr.1
theorem Ac.rngVTurn {W W':bC} {l:List Res} {P:bG} {k:bD} {b r:Nat} {M:List (α×bB)} {left left':Lit->Bool} {cnt cnt':Nat} (h:Ac W (Lq P k kL b r M left cnt::l)) (hr:Oo P k kL W' b r M left' cnt') (hg:Ai (λ k=>k=r\/W.heap.size<=k) W W'):Ac W' (Lq P k kL b r M left' cnt'::l):=
  h.turn λ F hF=>⟨F,⟨hr,hF.2⟩,λ b hb=>.inl hb,hg.mono λ k hk=>hk.elim (λ e=>.inl ((hF.2 k).2 (.inr e))) .inr⟩
theorem Ac.rngVStart {W W':bC} {l:List Res} {P:bG} {k:bD} {b:Nat} {M:List (α×bB)} {left:Lit->Bool} {cnt:Nat} (h:Ac W (N5 P k kL b M::l)) (hr:Oo P k kL W' b W.heap.size M left cnt) (hg:Below W.heap.size W W'):Ac W' (Lq P k kL b W.heap.size M left cnt::l):=
  h.turn λ F hF=>⟨λ x=>x=b\/x=W.heap.size,⟨hr,λ _=>Iff.rfl⟩,λ x hx=>hx.elim (λ e=>.inl ((hF.2 x).2 e)) (λ e=>.inr (by rw [e]; exact aB _)),(Ai.of_below hg).mono λ k hk=>.inr hk⟩
theorem Ac.rngVEnd {W:bC} {l:List Res} {P:bG} {k:bD} {b r:Nat} {M:List (α×bB)} {left:Lit->Bool} {cnt:Nat} (h:Ac W (Lq P k kL b r M left cnt::l)):Ac W (N5 P k kL b M::l):=
  h.weaken λ F hF=>⟨λ x=>x=b,⟨by obtain ⟨n,D,hd,hr⟩:=hF.1; exact ⟨D,hd,Kt hr.owns⟩,λ _=>Iff.rfl⟩,λ x hx=>(hF.2 x).2 (.inl hx)⟩
theorem V0 {w w':bC} (hg:w.grownBy w' none):Below w.heap.size w w':=
  ⟨hg.os,hg.tape,hg.output,hg.size,λ b hb=>hg.block b hb (by simp)⟩
section
variable {P:bG} (w:bC) {ops:Array Oper} {rest:List Oper} {o:Oper} {a:Act} {Q:Exit->Act->bC->Prop}
theorem S1 [DecidableEq α] (hg:o.guard=none) (m:Operand) (t:bD) (hop:o.op=Op.range t m) (k e:bD) (K:Keyed P k) (hk:Nu kL) (ht:P.underlying t=some (.map k e)) (b:Nat) (M:List (α×bB)) (hm:a.eval m=.map (some b)) (hown:Jy P k kL w b M) (h:∀w' left,(∀s,left (kL s)=Ej M s)->Oo P k kL w' b w.heap.size M left M.length->Below w.heap.size w w'->wpList P ops Q rest (a.put o.dst (.pointer (some ⟨w.heap.size,0,none⟩))) w'):wpList P ops Q (o::rest) a w:=by
  obtain ⟨D,hd,ho⟩:=hown;refine wpList_range_own w hg m t hop k e K ht Pv b _ D hm ho λ w' r1 r2 r3=>?_
  rw [hd.size] at r1;exact h w' (Maps.has D) (λ s=>hd.has hk s) ⟨_,D,hd,r1⟩ (V0 r2)
theorem Vo [DecidableEq α] (hg:o.guard=none) (it:Operand) (hop:o.op=Op.next it false) (k:bD) (K:Keyed P k) (hk:Nu kL) (kV:α->bB) (hkV:∀key kl,keyOf P k key=some kl->∃s,key=kV s/\kl=kL s) (b r:Nat) (M:List (α×bB)) (left:Lit->Bool) (cnt:Nat) (hit:a.eval it=.pointer (some ⟨r,0,none⟩)) (h:Oo P k kL w b r M left cnt) (hDone:cnt=0->(∀kl,left kl=false)->wpList P ops Q rest (a.put o.dst (.tuple #[.bool false])) w) (hMore:∀(s:α) (v:bB) (w':bC) (cnt':Nat),(s,v)∈M->left (kL s)=true->Oo P k kL w' b r M (λ z=>left z&& !z.sameKey (kL s)) cnt'->cnt'<cnt->Ai (λ k=>k=r\/w.heap.size<=k) w w'->w'.heap.size=w.heap.size-> (Instr.entry (.pointer (some ⟨r,0,none⟩))).run P w'=.ok (.tuple #[kV s,v]) w'->wpList P ops Q rest (a.put o.dst (.tuple #[.bool true,kV s,v])) w'):wpList P ops Q (o::rest) a w:=by
  obtain ⟨n,D,hd,hr⟩:=h;refine wpList_next_ranges w hg it hop k K Pv kV id (λ key kl h=>by obtain ⟨s,h1,_⟩:=hkV key kl h; exact ⟨s,h1⟩) (λ v y _=>⟨v,rfl⟩) b r n D left cnt hit hr hDone ?_;intro s v kl y w' cnt' hkey hl hv hat hr' hlt hgr hsz hen;obtain ⟨s',hs1,hs2⟩:=hkV _ _ hkey;rw [hs2] at hr' hl hat;have hsome:(s',v)∈M:=by
    simp only [Pv,id,Option.some.injEq] at hv;have hy:y.1=.held v:=by rw [<-hv]
    cases hh:Ej M s' with
    | false=>
      have h1:=hat (.map []);rw [hd.at_no hk hh,hy] at h1
      cases h1
    | true=>
      have h1:=hat (.held v);rw [hd.at_mem hk (Gk hh v),hy] at h1;simp only [DataW.held.injEq] at h1
      have:=Gk hh v;rw [h1] at this;exact this
  rw [hs1];rw [hs1] at hen;exact hMore s' v w' cnt' hsome hl ⟨n,D,hd,hr'⟩ hlt (O2 hgr) hsz hen
end
end
end
end Go.Proofs.YtbmjjfhpllpiaaaGreat
namespace Go.Proofs.YtbmjjfhpllpiaaaGreat
open Go.RowKit Go.Maps
theorem A5t:WideMaps.KeyLaw aA 142:=deep_law (m:=3) (by omega) (by kernel_rfl) (by kernel_rfl) (by rw [aF])
theorem A0P:Keyed aA 142:=Keyed.of_law A5t
structure Fk where
  of_:List UInt8
  label:ByteArray
  text:Bool
  hof:of_.length=16
  hlab:label.size<=maxLen
def Fk.cells (f:Fk):List bB:=Ab f.of_++ [.string f.label,.bool f.text]
def Fk.lits (f:Fk):List Lit:=f.of_.map (λ b=>Lit.int .u8 (b.toNat:Int))++ [.string f.label.data.toList,.bool f.text]
def frL (f:Fk):Lit:=.string (keyBytes f.lits)
instance:DecidableEq Fk:=λ a b=>decidable_of_iff (a.of_=b.of_/\a.label=b.label/\a.text=b.text) ⟨λ h=>by cases a; cases b; simp_all,λ h=>by subst h; simp⟩
theorem A5v:142<Tryz.prog.types.size:=of_decide_eq_true (by kernel_rfl)
theorem Im (m:Nat) (k:List UInt8) (hk:k.length=16):Tryz.prog.keyLits (m+2) 43 (Ab k)=some (k.map λ b=>Lit.int .u8 (b.toNat:Int)):=by
  have hsz:Tryz.prog.cellsOf 43=16:=by kernel_rfl
  have c1:Tryz.prog.cellsOf 5=1:=by kernel_rfl
  have hl:(Ab k).length=16:=by rw [Aa,hk]
  have one:∀b:UInt8,Tryz.prog.keyLits (m+1) 5 [.int .u8 (b.toNat:Int)]=some [.int .u8 (b.toNat:Int)]:=by
    intro b;unfold bG.keyLits;simp only [Tryz.underlying5];have hlt:=b.toNat_lt;have hwf:(Lit.int .u8 (b.toNat:Int)).wf=true:=by
      simp only [Lit.wf,Bool.and_eq_true,decide_eq_true_eq];rw [show bF.u8.min=0 from rfl,show bF.u8.max=255 by decide];omega
    simp only [hwf,and_self,if_true]
  unfold bG.keyLits;simp only [Tryz.underlying43];rw [if_pos (by rw [hsz]; exact hl)];simp only [c1]
  match k,hk with
  | [a0,a1,a2,a3,a4,a5,a6,a7,a8,a9,a10,a11,a12,a13,a14,a15],_=>
    simp [List.range,List.range.loop,Ab,bV,one,aV]
theorem Zs (m:Nat) (f:Fk):Tryz.prog.keyLits (m+3) 142 f.cells=some f.lits:=by
  have hsz:Tryz.prog.cellsOf 142=18:=by kernel_rfl
  have s1:Tryz.prog.cellsOf 43=16:=by kernel_rfl
  have s2:Tryz.prog.cellsOf 9=1:=by kernel_rfl
  have s3:Tryz.prog.cellsOf 4=1:=by kernel_rfl
  have hl:(Ab f.of_).length=16:=by rw [Aa,f.hof]
  have hlc:f.cells.length=18:=by simp [Fk.cells,hl]
  have h2:Tryz.prog.keyLits (m+2) 9 [.string f.label]=some [.string f.label.data.toList]:=by
    unfold bG.keyLits;simp only [Tryz.underlying9,if_pos f.hlab]
  have h3:Tryz.prog.keyLits (m+2) 4 [.bool f.text]=some [.bool f.text]:=by
    unfold bG.keyLits;simp only [Tryz.underlying4]
  have e1:f.cells.take 16=Ab f.of_:=by simp [Fk.cells,<-hl]
  have e2:(f.cells.drop 16).take 1= [.string f.label]:=by simp [Fk.cells,<-hl]
  have e3:(f.cells.drop 17).take 1= [.bool f.text]:=by
    rw [Fk.cells,List.drop_append,aO (by omega),hl];rfl
  unfold bG.keyLits;simp only [aF];rw [if_pos ⟨by rw [hsz]; exact hlc,by decide+kernel⟩];simp [aV,s1,s2,s3,e1,e2,e3,h2,h3,Im m f.of_ f.hof,Fk.lits]
theorem A4t (f:Fk):keyOf aA 142 (.agg f.cells.toArray)=some (frL f):=by
  have hkt:Tryz.prog.keyType 142=true:=by kernel_rfl
  have hsz:Tryz.prog.cellsOf 142=18:=by kernel_rfl
  obtain ⟨m,hm⟩:∃m,Tryz.prog.types.size=m+2:=⟨Tryz.prog.types.size-2,by have:=A5v; omega⟩
  have hlc:f.cells.length=18:=by simp [Fk.cells,Aa,f.hof]
  unfold keyOf;simp only [aF];rw [if_pos (by simp [hkt,bB.formed,aF,hsz,hlc]),hm];simp only [bB.cells];rw [Zs m f];rfl
theorem Fk.eq {a b:Fk} (h1:a.of_=b.of_) (h2:a.label=b.label) (h3:a.text=b.text):a=b:=by
  cases a
  cases b
  simp_all
theorem A3z {a b:Fk} (e:frL a=frL b):a=b:=by
  have e2:=keyLits_inj (Zs 0 a) (Zs 0 b) (by unfold frL at e; injection e);have hs:(a.of_.map (λ b=>Lit.int .u8 (b.toNat:Int))).length=(b.of_.map (λ b=>Lit.int .u8 (b.toNat:Int))).length:=by simp [a.hof,b.hof]
  have hm:=(aW e2 hs).1;have ht:=(aW e2 hs).2;simp only [List.cons.injEq,Lit.string.injEq,Lit.bool.injEq,and_true] at ht;have ho:a.of_=b.of_:=by
    refine (List.map_inj_right (λ x y hxy=>?_)).1 hm;simp only [Lit.int.injEq,true_and] at hxy;exact UInt8.toNat_inj.1 (by omega)
  refine Fk.eq ho ?_ ht.2;have hl:=ht.1
  cases ha:a.label
  cases hb:b.label
  rw [ha,hb] at hl;exact congrArg ByteArray.mk (Array.toList_inj.1 hl)
theorem A4s:Nu frL:=by
  intro a b;by_cases h:a=b
  · subst h;simp [Lit.sameKey,frL]
  · have:¬frL a=frL b:=λ e=>h (A3z e)
    simp only [h,decide_false];unfold frL at this ⊢;simp only [Lit.string.injEq] at this;simp [Lit.sameKey,this]
end Go.Proofs.YtbmjjfhpllpiaaaGreat
namespace Go.Proofs.YtbmjjfhpllpiaaaGreat
open Go.RowKit
def Ao (k:UInt8) (n:Nat):List UInt8:= [255,254,k,0,0,0,0,0]++Db n
theorem An (k:UInt8) (n:Nat):(Ao k n).length=16:=by simp [Ao,Cc]
theorem A2f (n:Nat) (hn:n<9223372036854775808) (w:bC):bF.u64.wrap (n:Int)=n:=by
  rw [bF.wrap_u64];omega
def P1 (w:bC) (k:UInt8) (n:Nat) (e:Ending) (w':bC):Prop:=e=.returned (Ay (Ao k n))/\Below w.heap.size w w'
theorem Je (k:UInt8) (n:Nat) (hn:n<9223372036854775808) (w:bC): bE aA 79 #[.int .u8 k.toNat,.int .i64 n] w (P1 w k n):=by
  have B0:=hqZ (((Blk.new w Bg 43).alloc (.cells Bg.toArray 43)).alloc (.cells #[.int .u8 255,.int .u8 254,.int .u8 k.toNat] 5));have B1:Hq (Blk (((w.alloc (.cells Bg.toArray 43)).alloc (.cells Bg.toArray 43)).alloc (.cells #[.int .u8 255,.int .u8 254,.int .u8 k.toNat] 5)) (w.heap.size+1) Bg 43):=hqZ ((Blk.at_ (cs:=Bg.toArray) (by simp)).alloc _);have HS:Hq (Bs (((w.alloc (.cells Bg.toArray 43)).alloc (.cells Bg.toArray 43)).alloc (.cells #[.int .u8 255,.int .u8 254,.int .u8 k.toNat] 5)) (.slice (some ⟨w.heap.size+1+1,0,none⟩) 3 3) [255,254,k]):=hqZ (Bs.lit [255,254,k] (by simp) rfl (by simp [maxLen]));have HB:Hq (Below w.heap.size w (((w.alloc (.cells Bg.toArray 43)).alloc (.cells Bg.toArray 43)).alloc (.cells #[.int .u8 255,.int .u8 254,.int .u8 k.toNat] 5))):=hqZ ((((aC _ _).alloc (aB _) _).alloc (by simp) _).alloc (by simp; omega) _);have HN:=hqZ hn;have HW:=hqZ (A2f n hn w);clear hn;go_enter Tryz.func79,Tryz.ntmps79;go_wp2_with ((with_reducible refine zw 9 ?_);refine T5 rfl (.tmp 6) (.tmp 8) Dl rfl rfl B1.o rfl HS.o (by simp [Bg]) ?_);intro w1 h1 k1;have h1':Blk w1 (w.heap.size+1) (Ab [255,254,k,0,0,0,0,0,0,0,0,0,0,0,0,0]) 43:=by simpa [Bg,Ab,bV] using h1
  have B0':=hqZ ((B0.o.keep k1 (by omega)).drew);have H1:=hqZ h1'.drew;have hsz:w.heap.size+1<w1.heap.size:=h1'.lt;have HB1:Hq (Below w.heap.size w w1.drew):=hqZ ((HB.o.trans (k1.below (by omega))).drew);clear h1 h1' k1 B0 B1 HS HB;go_wp2_with fail;refine wp_region_any (by kernel_rfl) ?_;change wpAny _ _ _ _ _ _ _ (bC.drew _);refine wpAny_take (i:=0) (oi:=⟨some 10,_,_,_,_,none⟩) (v:=.slice (some ⟨w.heap.size+1,8,none⟩) 8 8) rfl (by kernel_rfl) (by kernel_rfl) (by kernel_rfl) (λ _ _ _ h=>h) (Or.inl ⟨by rfl,by intro w; go_simp⟩) ?_;try go_frame
  refine wpAny_take (i:=1) (oi:=⟨some 11,_,_,_,_,none⟩) (v:=.int .i64 n) rfl (by kernel_rfl) (by kernel_rfl) (by kernel_rfl) (λ _ _ _ h=>h) (Or.inl ⟨by rfl,by intro w; go_simp⟩) ?_;try go_frame
  refine wpAny_take (i:=2) (oi:=⟨some 12,_,_,_,_,none⟩) (v:=.int .u64 n) rfl (by kernel_rfl) (by kernel_rfl) (by kernel_rfl) (λ _ _ _ h=>h) (Or.inl ⟨by rfl,by intro w; go_simp; exact HW.o⟩) ?_;try go_frame
  refine wpAny_ready (rs:= [3]) (by decide+kernel) (by simp) ?_;refine AllReady.cons (o:=⟨some 13,.call { callee:=.value (.func 48),args:=#[.tmp 12],argTypes:=#[140] },_,_,_,none⟩) rfl (λ K hK=>?_) AllReady.nil;go_simp;refine (U9 n _).mono ?_;rintro e w2 ⟨rfl,ho,hb,_⟩;have hz2:=hb.size;try simp at hz2
  have B0':=hqZ (B0'.o.below hb (by simp; omega));have H1:=hqZ (H1.o.below hb (by simp; omega));have HB1:Hq (Below w.heap.size w w2):=hqZ (HB1.o.trans (hb.mono (by simp; omega)));have HP:=hqZ ho.bs;clear ho hb;refine zqp hK ?_;clear hK K;refine wpAny_ready (rs:= [4]) (by decide+kernel) (by simp) ?_;refine AllReady.cons (o:=⟨some 14,.call { callee:=.builtin .copy,args:=#[.tmp 10,.tmp 13],argTypes:=#[29,29] },_,_,_,none⟩) rfl (λ K hK=>?_) AllReady.nil;refine A4d rfl (.tmp 10) (.tmp 13) Dl rfl H1.o rfl rfl HP.o (by rw [Cc]; simp [Ab]) ?_;intro w3 h3 k3;have h3':Blk w3 (w.heap.size+1) (Ab (Ao k n)) 43:=by
    have e:(Ab (Db n)).take (min (Db n).length 8)=Ab (Db n):=aE (by rw [Aa,Cc]; decide);rw [e,Cc] at h3;rw [Ao,Ix];simpa [Ab] using h3
  have B0':=hqZ (B0'.o.keep k3 (by omega));have H1:=hqZ h3';have HB1:Hq (Below w.heap.size w w3):=hqZ (HB1.o.trans (k3.below (by omega)));have hz3:=k3.size;clear h3 h3' k3;refine zqp hK ?_;clear hK K;refine wpAny_done (by decide+kernel) ?_ _;have HBL:Hq ((Ab (Ao k n)).length=16):=hqZ (by rw [Aa,An]);go_wp2_with (first | ((with_reducible refine zw 15 ?_);refine Ag rfl (.tmp 5) Am rfl rfl (cs:=Ab (Ao k n)) HBL.o H1.o.cellsAll ?_) | ((with_reducible refine zws 4 15 ?_);refine Af rfl (.tmp 4) (.tmp 15) Am rfl rfl (vs:=Ab (Ao k n)) rfl HBL.o B0'.o (aB _) (Ak _) ?_));intro w5 h5 k5;have h5':Blk w5 w.heap.size (Ab (Ao k n)) 43:=by simpa [Bg] using h5
  have H5:=hqZ h5';have HB5:Hq (Below w.heap.size w w5):=hqZ (HB1.o.trans (k5.below (by omega)));clear h5 h5' k5;go_wp2_with fail;exact bodyPost_ret (A2 rfl Am rfl (cs:=Ab (Ao k n)) HBL.o H5.o.cellsAll) rfl ⟨rfl,HB5.o⟩
def A1R (w:bC) (b:List UInt8) (e:Ending) (w':bC):Prop:=
  ∃v,e=.returned v/\Dr w' w.heap.size v b/\(∀i,v.ownBlock=some i->w.heap.size<=i/\i<w'.heap.size)/\Below w.heap.size w w'
theorem Hg (v:bB) (b:List UInt8) (w:bC) (h:Bs w v b) (hl:b.length<=1099511627776): bE aA 88 #[v] w (A1R w b):=by
  obtain ⟨a,c,rfl,hc,hm⟩:=h.form;have q22:∀(w:bC) (a:Option Addr) (n c n' c':Nat),(binOp .eql 29 (.slice a n c) (.slice none n' c')).run aA w=.ok (.bool a.isNone) w:=λ w a n c n' c'=>Lib.run_eql_slice_nil w _ _ a n c n' c' Tryz.underlying29
  have HS:Hq (Bs (w.alloc (.cells #[] 5)) (.slice a b.length c) b):=hqZ (h.alloc _);have HLIT:Hq (∀i,(bB.slice (some ⟨w.heap.size,0,none⟩) 0 0).ownBlock=some i->i< (w.alloc (.cells #[] 5)).heap.size):=hqZ (λ i hi=>by simp [bB.ownBlock] at hi; simp; omega);by_cases ha:a=none
  · subst ha;obtain rfl:b= []:=by
      obtain ⟨_,_,a',c',e,h3,_,h5,_⟩:=h;simp only [bB.slice.injEq,true_and] at e;obtain ⟨rfl,rfl⟩:=e
      have:=h5 rfl;exact List.eq_nil_of_length_eq_zero (by omega)
    clear h;go_enter aX,aY;go_wp2_with fail;go_ret;exact ⟨_,rfl,Own.nil _ _ _ _ _,λ i hi=>by simp [bB.ownBlock] at hi,aC _ _⟩
  · obtain ⟨⟨p,o,sp⟩,rfl⟩:=Option.ne_none_iff_exists'.1 ha;clear h ha;go_enter aX,aY;go_wp2_with ((with_reducible refine zw 7 ?_);refine Do rfl (.tmp 5) (.tmp 6) Dl rfl w.heap.size (Own.nil _ _ _ _ _) HLIT.o HS.o (by unfold maxLen; omega) (by omega) (by simp) ?_);intro v1 w1 ho hk hv;have hb1:Below w.heap.size w w1:=((aC _ _).alloc (aB _) _).trans (hk.below (by
      rintro i (h | h)
      · exact h.2
      · try simp at h
        omega))
    have HO:Hq (Dr w1 w.heap.size v1 b):=hqZ (by unfold Dr; simpa using ho);have HV:Hq (∀i,v1.ownBlock=some i->w.heap.size<=i/\i<w1.heap.size):=hqZ (λ i hi=>⟨by
      rcases (hv i hi).1 with h | h
      · simp [bB.ownBlock] at h; omega
      · try simp at h
        omega,(hv i hi).2⟩)
    have HB:=hqZ hb1;obtain ⟨a1,c1,rfl,_,_⟩:=ho.sl.form;clear ho hk hv hb1;go_wp2_with fail;go_ret;exact ⟨_,rfl,HO.o,HV.o,HB.o⟩
theorem L7:C5 aA 28 29 1 24 (.slice none 0 0):=by
  refine C5.mk Tryz.underlying28 ?_ rfl (by decide)
  kernel_rfl
def Br:List bB->List (List UInt8)->Res
  | [], []=>.emp
  | v::vs,r::rs=>(Res.row v r).star (Br vs rs)
  | _,_=>.pure False
theorem Gs {W:bC} :∀ {vs:List bB} {rs:List (List UInt8)} {l:List Res},Ac W (Br vs rs::l)->∀(j:Nat) {v:bB} {r:List UInt8},vs[j]?=some v->rs[j]?=some r->Bs W v r
  | [],_,_,_,j,_,_,hv,_=>by simp at hv
  | _::_, [],_,_,j,_,_,_,hr=>by simp at hr
  | u::vs,s::rs,l,h,0,v,r,hv,hr=>by
    have h:=Ac.star.1 h;simp at hv hr;subst hv hr;exact h.rowOf (by simp)
  | u::vs,s::rs,l,h,j+1,v,r,hv,hr=>by
    have h:=Ac.star.1 h;exact Gs h.tail j (by simpa using hv) (by simpa using hr)
theorem D8 {W:bC} :∀ {vs:List bB} {rs:List (List UInt8)} {v:bB} {r:List UInt8} {l:List Res},Ac W (Br vs rs::.row v r::l)->Ac W (Br (vs++ [v]) (rs++ [r])::l)
  | [], [],v,r,l,h=>Ac.star.2 (h.perm (.swap _ _ _))
  | [],_::_,_,_,_,h=>(Ac.pure.1 h).1.elim
  | _::_, [],_,_,_,h=>(Ac.pure.1 h).1.elim
  | u::vs,s::rs,v,r,l,h=>by
    have h:=(Ac.star.1 h).push3;exact Ac.star.2 (D8 h).swap
def A4h (p:Nat) (kv bv mp:bB) (sums:List (List UInt8)):Res:=
  .ex λ sv=>.ex λ vs=>.all [.blk p [kv,bv,sv,mp] 60,.own 29 1 sv sums.length vs,Br vs sums]
theorem T4 {W:bC} {p:Nat} {kv bv mp:bB} {sums:List (List UInt8)} {l:List Res} (h:Ac W (A4h p kv bv mp sums::l)): ∃sv vs,Ac W (.blk p [kv,bv,sv,mp] 60::.own 29 1 sv sums.length vs::Br vs sums::l):=by
  obtain ⟨sv,h⟩:=Ac.ex.1 h;obtain ⟨vs,h⟩:=Ac.ex.1 h;exact ⟨sv,vs,Ac.app.1 h⟩
theorem Hk {W:bC} {p:Nat} {kv bv sv mp:bB} {vs:List bB} {sums:List (List UInt8)} {l:List Res} (h:Ac W (.blk p [kv,bv,sv,mp] 60::.own 29 1 sv sums.length vs::Br vs sums::l)): Ac W (A4h p kv bv mp sums::l):=
  Ac.ex.2 ⟨sv,Ac.ex.2 ⟨vs,Ac.app.2 h⟩⟩
def Qq (sums:List (List UInt8)) (b:List UInt8):List (List UInt8):=if b∈sums then sums else sums++ [b]
def Up (sums:List (List UInt8)) (b:List UInt8):List UInt8:=Ao 100 ((Qq sums b).idxOf b+1)
def zk:List UInt8:=aM 16 0
theorem K8:zk.length=16:=by simp [zk]
def mkF (k:List UInt8) (l:ByteArray) (t:Bool):Fk:=if h:k.length=16/\l.size<=maxLen then ⟨k,l,t,h.1,h.2⟩ else ⟨zk,⟨#[]⟩,false,K8,by decide⟩
theorem A0a {k:List UInt8} {l:ByteArray} {t:Bool} (h1:k.length=16) (h2:l.size<=maxLen):mkF k l t=⟨k,l,t,h1,h2⟩:=by rw [mkF,dif_pos ⟨h1,h2⟩]
def noF:Fk:=⟨zk,⟨#[]⟩,false,K8,by decide⟩
structure Bx where
  by_:List UInt8
  usage:Int
  body:List UInt8
structure Sy where
  keys:List Fk
  boxes:List Bx
  sums:List (List UInt8)
  known:List (Fk×List UInt8)
def Sy.nil:Sy:=⟨[], [], [], []⟩
def Sy.add (s:Sy) (f:Fk):List UInt8×Sy:=(Ao 107 (s.keys.length+1),{ s with keys:=s.keys++ [f] })
def Sy.made (s:Sy) (f:Fk):List UInt8×Sy:=
  if Ej s.known f=true then (G6 s.known f zk,s)
  else ((s.add f).1,{ (s.add f).2 with known:=If s.known f (s.add f).1 })
def Sy.shut (s:Sy) (b:Bx):List UInt8×Sy:=(Ao 98 (s.boxes.length+1),{ s with boxes:=s.boxes++ [b] })
def Sy.digest (s:Sy) (b:List UInt8):List UInt8×Sy:=(Up s.sums b,{ s with sums:=Qq s.sums b })
def A5x (pw salt:List UInt8):List UInt8:=pw
def A0H (k l:List UInt8):List UInt8:=k
inductive PS where
  | sym (s:Sy)
namespace PS
def lift {α:Type} (x:α×Sy):α×PS:=(x.1,.sym x.2)
def fresh:PS->List UInt8×PS
  | .sym s=>lift (s.add noF)
def textF (pw salt:List UInt8):Fk:=mkF zk ⟨(Db pw.length++(pw++salt)).toArray⟩ true
def text (pw salt:List UInt8):PS->List UInt8×PS
  | .sym s=>lift (s.made (textF pw salt))
def derive (k:List UInt8) (l:ByteArray):PS->List UInt8×PS
  | .sym s=>lift (s.made (mkF k l false))
def shut (k:List UInt8) (u:Nat) (b:List UInt8):PS->List UInt8×PS
  | .sym s=>lift (s.shut ⟨k,u,b⟩)
def digest (b:List UInt8):PS->List UInt8×PS
  | .sym s=>lift (s.digest b)
def sz:PS->Nat
  | .sym s=>s.keys.length+s.boxes.length+s.sums.length+s.known.length
def Opn (s:PS) (k:List UInt8) (u:Nat) (box b:List UInt8):Prop:=
  match s with
  | .sym s=>∃i,s.boxes[i]?=some ⟨k,u,b⟩/\box=Ao 98 (i+1)
def Dig (s:PS) (b d:List UInt8):Prop:=
  match s with
  | .sym s=>b∈s.sums/\d=Ao 100 (s.sums.idxOf b+1)
def Mde (s:PS) (f:Fk) (k r:List UInt8):Prop:=
  match s with
  | .sym s=>Ej s.known f=true/\G6 s.known f zk=k
structure Gr (n:Nat) (s t:PS):Prop where
  opn:∀ {k u x b},Opn s k u x b->Opn t k u x b
  dig:∀ {b d},Dig s b d->Dig t b d
  mde:∀ {f k r},Mde s f k r->Mde t f k r
  sz:t.sz<=s.sz+n
theorem Gr.refl (s:PS):Gr 0 s s:=⟨λ h=>h,λ h=>h,λ h=>h,aB _⟩
theorem Gr.trans {n m:Nat} {a b c:PS} (h:Gr n a b) (k:Gr m b c):Gr (n+m) a c:=
  ⟨λ x=>k.opn (h.opn x),λ x=>k.dig (h.dig x),λ x=>k.mde (h.mde x),by have:=h.sz; have:=k.sz; omega⟩
theorem Gr.mono {n m:Nat} {a b:PS} (h:Gr n a b) (hn:n<=m):Gr m a b:=⟨h.opn,h.dig,h.mde,by have:=h.sz; omega⟩
theorem fresh_len (s:PS):s.fresh.1.length=16:=by
  cases s with
  | sym s=>exact An _ _
theorem A4O (s:Sy) (f:Fk):Gr 1 (.sym s) (.sym (s.add f).2):=
  ⟨λ h=>h,λ h=>h,λ h=>h,by simp [sz,Sy.add]; omega⟩
theorem gr_fresh (s:PS):Gr 1 s s.fresh.2:=by
  cases s with
  | sym s=>exact A4O s _
theorem A0R (s:Sy) (f:Fk):Gr 2 (.sym s) (.sym (s.made f).2):=by
  unfold Sy.made;split
  · exact (Gr.refl _).mono (by omega)
  · rename_i hh;refine ⟨λ h=>h,λ h=>h,?_,by have:=Xq s.known f (s.add f).1; simp [sz,Sy.add] at this ⊢; omega⟩;rintro f' k r ⟨h1,h2⟩;have hne:¬f=f':=by rintro rfl; exact hh h1
    exact ⟨by simp only [Q2,h1,Bool.or_true],by simp only [Wy,if_neg hne]; exact h2⟩
theorem Xf (s:Sy) (f:Fk) (r:List UInt8):Mde (.sym (s.made f).2) f (s.made f).1 r:=by
  unfold Sy.made;split
  · rename_i hh;exact ⟨hh,rfl⟩
  · exact ⟨by simp [Q2],by simp [Wy]⟩
theorem gr_text (s:PS) (pw salt:List UInt8):Gr 2 s (s.text pw salt).2:=by
  cases s with
  | sym s=>exact A0R s _
theorem gr_derive (s:PS) (k:List UInt8) (l:ByteArray):Gr 2 s (s.derive k l).2:=by
  cases s with
  | sym s=>exact A0R s _
theorem text_mde (s:PS) (pw salt:List UInt8):Mde (s.text pw salt).2 (textF pw salt) (s.text pw salt).1 (A5x pw salt):=by
  cases s with
  | sym s=>exact Xf s _ _
theorem derive_mde (s:PS) (k:List UInt8) (l:ByteArray):Mde (s.derive k l).2 (mkF k l false) (s.derive k l).1 (A0H k l.data.toList):=by
  cases s with
  | sym s=>exact Xf s _ _
theorem text_of {s:PS} {pw salt k:List UInt8} (h:Mde s (textF pw salt) k (A5x pw salt)):s.text pw salt=(k,s):=by
  cases s with
  | sym s=>
    obtain ⟨h1,h2⟩:=h;simp [text,lift,Sy.made,h1,h2]
theorem derive_of {s:PS} {k:List UInt8} {l:ByteArray} {x:List UInt8} (h:Mde s (mkF k l false) x (A0H k l.data.toList)):s.derive k l=(x,s):=by
  cases s with
  | sym s=>
    obtain ⟨h1,h2⟩:=h;simp [derive,lift,Sy.made,h1,h2]
theorem gr_shut (s:PS) (k:List UInt8) (u:Nat) (b:List UInt8):Gr 1 s (s.shut k u b).2:=by
  cases s with
  | sym s=>
    refine ⟨?_,λ h=>h,λ h=>h,by simp [sz,shut,lift,Sy.shut]; omega⟩;rintro k u x b ⟨i,h1,h2⟩;refine ⟨i,?_,h2⟩
    have:=(List.getElem?_eq_some_iff.1 h1).1;show (s.boxes++ [_])[i]?=_
    rw [List.getElem?_append_left this];exact h1
theorem shut_opn (s:PS) (k:List UInt8) (u:Nat) (b:List UInt8):Opn (s.shut k u b).2 k u (s.shut k u b).1 b:=by
  cases s with
  | sym s=>exact ⟨s.boxes.length,(by show (s.boxes++ [_])[s.boxes.length]?=_; simp),rfl⟩
theorem Zy {l:List (List UInt8)} {b:List UInt8} (h:b∈l) (m:List (List UInt8)):(l++m).idxOf b=l.idxOf b:=by
  rw [aN,if_pos h]
theorem gr_digest (s:PS) (b:List UInt8):Gr 1 s (s.digest b).2:=by
  cases s with
  | sym s=>
    refine ⟨λ h=>h,?_,λ h=>h,?_⟩
    · rintro b' d ⟨h1,h2⟩;simp only [digest,lift,Sy.digest,Qq,Dig];split
      · exact ⟨h1,h2⟩
      · exact ⟨by simp [h1],by rw [Zy h1]; exact h2⟩
    · simp only [sz,digest,lift,Sy.digest,Qq];split
      · omega
      · simp; omega
theorem digest_dig (s:PS) (b:List UInt8):Dig (s.digest b).2 b (s.digest b).1:=by
  cases s with
  | sym s=>
    simp only [digest,lift,Sy.digest,Dig,Up];refine ⟨?_,trivial⟩;unfold Qq;by_cases h:b∈s.sums
    · rw [if_pos h]; exact h
    · rw [if_neg h]; simp
theorem digest_of {s:PS} {b d:List UInt8} (h:Dig s b d):s.digest b=(d,s):=by
  cases s with
  | sym s=>
    obtain ⟨h1,h2⟩:=h;simp [digest,lift,Sy.digest,Qq,Up,h1,h2]
end PS
theorem Wo (v u:bB) (a b:List UInt8) (q:Nat) (w:bC) (ha:Bs w v a) (hb:Bs w u b) (hq:w.cell? ⟨q,0,none⟩=some u): bE aA 174 #[v,.pointer (some ⟨q,0,none⟩)] w λ e w'=>e=.returned (.bool (decide (a=b)))/\w=w':=by
  have HE:=hqZ (N1 v u a b w ha hb);obtain ⟨a1,c1,rfl,_,_⟩:=ha.form;obtain ⟨a2,c2,rfl,_,_⟩:=hb.form;clear ha hb;go_enter Tryz.func174,Tryz.ntmps174;go_wp2_with fail;refine HE.o.mono ?_;rintro e w' ⟨rfl,rfl⟩;go_wp2_with fail;go_ret;exact ⟨rfl,rfl⟩
def A4G (w:bC) (sums:List (List UInt8)) (b:List UInt8) (e:Ending) (w':bC):Prop:=
  e=.returned (.int .i64 (if b∈sums then (sums.idxOf b:Int) else -1))/\w=w'
theorem Uo (sv u:bB) (vs:List bB) (sums:List (List UInt8)) (b:List UInt8) (q:Nat) (w:bC) (hs:Sl w 1 sv sums.length vs) (hr:∀(j:Nat) v r,vs[j]?=some v->sums[j]?=some r->Bs w v r) (hb:Bs w u b) (hq:w.cell? ⟨q,0,none⟩=some u): bE aA 91 #[sv,.func (Fn.func 174) #[] #[.pointer (some ⟨q,0,none⟩)]] w (A4G w sums b):=by
  obtain ⟨a,c,rfl,hc,hm⟩:=hs.form;have HS:=hqZ hs;have HR:=hqZ hr;have HB:=hqZ hb;have HQ:=hqZ hq;unfold maxLen at hm;clear hs hr hb hq;go_enter Tryz.func91,Tryz.ntmps91;go_wp2_with fail;go_loop [5,8] (λ _ i=>∃k:Nat,k<=sums.length/\i=.int .i64 k/\b∉sums.take k) (λ _ i=>sums.length- (intOf i).toNat)
  case atStart=>exact ⟨0,aD _,rfl,by simp⟩
  case round=>
    obtain ⟨k,hk,rfl,hn⟩:=hrel;have HN:=hqZ hn;clear hn;by_cases hlt:k<sums.length
    · obtain ⟨g,o,rfl,hcell⟩:=HS.o.addr (by rw [HS.o.1]; omega);have hkl:k<vs.length:=by rw [HS.o.1]; omega
      obtain ⟨v,hv⟩:∃v,vs[k]?=some v:=⟨_,aZ hkl⟩
      have hck:w.cell? ⟨g,o+k,none⟩=some v:=hcell k v hv;have hrow:=HR.o k v sums[k] hv (aZ hlt);have HC:=hqZ (Wo v u sums[k] b q w hrow HB.o HQ.o);obtain ⟨a1,c1,rfl,_,_⟩:=hrow.form;clear hcell hrow hv;by_cases he:sums[k]=b
      · have HF:Hq ((if b∈sums then (sums.idxOf b:Int) else -1)=k):=hqZ (by
          have hm:b∈sums:=he▸List.getElem_mem hlt;rw [if_pos hm];have hnb:=HN.o
          have:sums.idxOf b=k:=by
            have e1:sums=sums.take k++sums.drop k:=(List.take_append_drop _ _).symm;rw [e1,aN,if_neg hnb,List.drop_eq_getElem_cons hlt,he,bA]
            simp; omega
          rw [this])
        have HE:Hq (decide (sums[k]=b)=true):=hqZ (by simpa using he);rw [HE.o] at HC;clear he;go_wp2_with fail;refine HC.o.mono ?_;rintro e w' ⟨rfl,rfl⟩;go_wp2_with fail;go_ret;exact ⟨by rw [HF.o]; rfl,rfl⟩
      · have HE:Hq (decide (sums[k]=b)=false):=hqZ (by simpa using he);rw [HE.o] at HC;have HT:Hq (b∉sums.take (k+1)):=hqZ (Ip b sums k hlt HN.o he);clear he;go_wp2_with fail;refine HC.o.mono ?_;rintro e w' ⟨rfl,rfl⟩;go_wp2_with fail;go_round
        case rel=>exact ⟨k+1,by omega,by go_num,HT.o⟩
        case measure=>simp [intOf]; omega
    · obtain rfl:k=sums.length:=by omega
      have HF:Hq ((if b∈sums then (sums.idxOf b:Int) else -1)= -1):=hqZ (by
        have hnb:=HN.o;rw [List.take_length] at hnb;rw [if_neg hnb])
      go_wp2_with fail;go_ret;exact ⟨by rw [HF.o]; rfl,rfl⟩
def A4F (p:Nat) (kv bv mp:bB) (sums:List (List UInt8)) (b:List UInt8) (l:List Res) (e:Ending) (w':bC):Prop:=
  ∃q,e=.returned (.slice (some ⟨q,0,none⟩) 16 16)/\Ac w' (A4h p kv bv mp (Qq sums b)::.row (.slice (some ⟨q,0,none⟩) 16 16) (Up sums b)::l)
theorem M5 (k:Nat) (hk:k<1099511627777) (w:bC):bE aA 79 #[.int .u8 100,.int .i64 ((k:Int)+1)] w (P1 w 100 (k+1)):=Je 100 (k+1) (by omega) w
theorem Zh (p:Nat) (kv bv mp:bB) (sums:List (List UInt8)) (v:bB) (b:List UInt8) (l:List Res) (w:bC) (h:Ac w (A4h p kv bv mp sums::l)) (hb:Bs w v b) (hbl:b.length<=1099511627776) (hn:sums.length<1099511627776): bE aA 170 #[.pointer (some ⟨p,0,none⟩),v] w (A4F p kv bv mp sums b l):=by
  obtain ⟨sv,vs,h⟩:=T4 h;obtain ⟨av,cv,rfl,hcv,hmv⟩:=hb.form;obtain ⟨a0,c0,rfl,hc0,hm0⟩:=(h.ownOf (e:=29) (sz:=1) (v:=sv) (n:=sums.length) (cs:=vs) (by simp)).1.sl.form;unfold maxLen at hm0;have hp:=(h.zB p).lt;have HC:Hq (Ac (w.alloc (.cells #[.slice av b.length cv] 29)) (.blk w.heap.size [.slice av b.length cv] 29::.blk p [kv,bv,.slice a0 sums.length c0,mp] 60::.own 29 1 (.slice a0 sums.length c0) sums.length vs::Br vs sums::l)):=hqZ (h.addBlk [.slice av b.length cv] 29);have c2:w.cell? ⟨p,2,none⟩=some (.slice a0 sums.length c0):=(h.zB p).cell 2;have HSV:Hq (Sl w 1 (.slice a0 sums.length c0) sums.length vs):=hqZ ((h.ownOf (e:=29) (sz:=1) (v:=.slice a0 sums.length c0) (n:=sums.length) (cs:=vs) (by simp)).1.sl);have HIX:=hqZ (Uo (.slice a0 sums.length c0) (.slice av b.length cv) vs sums b w.heap.size _ ((h.ownOf (e:=29) (sz:=1) (v:=.slice a0 sums.length c0) (n:=sums.length) (cs:=vs) (by simp)).1.sl.alloc _) (λ j u r hu hr=>(Gs h.tail.tail j hu hr).alloc _) (hb.alloc (.cells #[.slice av b.length cv] 29)) ((Blk.new w [.slice av b.length cv] 29).cell 0));have HBS:=hqZ (hb.alloc (.cells #[.slice av b.length cv] 29));unfold maxLen at hmv;clear h hb;go_enter Tryz.func170,Tryz.ntmps170;go_wp2_with fail;refine HIX.o.mono ?_;rintro e w1 ⟨rfl,rfl⟩;clear HIX;by_cases hm:b∈sums
  · have HT:Hq (Qq sums b=sums):=hqZ (by rw [Qq,if_pos hm]);have HI:Hq ((if b∈sums then (sums.idxOf b:Int) else -1)=(sums.idxOf b:Nat)):=hqZ (by rw [if_pos hm]);have hk:sums.idxOf b<sums.length:=List.idxOf_lt_length_of_mem hm;have HM:Hq (Up sums b=Ao 100 (sums.idxOf b+1)):=hqZ (by rw [Up,HT.o]);rw [HI.o];obtain ⟨k,hkk⟩:∃k,k=sums.idxOf b:=⟨_,rfl⟩
    rw [<-hkk] at HM hk ⊢;have hk2:k<1099511627777:=by omega
    have HC:=hqZ HC.o.tail;clear hm hkk HI;go_wp2_with fail;refine (M5 k (by omega) _).mono ?_;rintro e w7 ⟨rfl,hb⟩;have HN:=hqZ (Blk.new w7 Bg 43);have HC:=hqZ (HC.o.step hb);have HKL:Hq ((Ab (Ao 100 (k+1))).length=16):=hqZ (by rw [Aa,An]);unfold Ay;clear hb;go_wp2_with ((with_reducible refine zws 6 34 ?_);refine Af rfl (.tmp 6) (.tmp 34) Am rfl rfl (vs:=Ab (Ao 100 (k+1))) rfl HKL.o HN.o (aB _) (Ak _) ?_);intro w8 h8 k8;have hb8:Below w7.heap.size w7 w8:=((aC _ _).alloc (aB _) _).trans (k8.below (by omega));have h8':Blk w8 w7.heap.size (Ab (Ao 100 (k+1))) 43:=by simpa [Bg] using h8
    have hrow:Bs w8 (.slice (some ⟨w7.heap.size,0,none⟩) 16 16) (Ao 100 (k+1)):=by
      have:=h8'.bs (off:=0) (n:=16) (cap:=16) (by rw [An]; decide) (aB _) (by unfold maxLen; decide);exact Sl.bs this (by simp [aE,An]) (An _ _)
    have HC:=hqZ (HC.o.addRow hb8 hrow (λ k _ hk=>by simp [bB.ownBlock] at hk; omega));clear h8 h8' k8 hb8 hrow HN HKL;go_wp2_with fail;go_ret;refine ⟨w7.heap.size,rfl,?_⟩;rw [HT.o,HM.o];exact Hk (sv:=.slice a0 sums.length c0) (vs:=vs) HC.o.push4
  · have HI:Hq ((if b∈sums then (sums.idxOf b:Int) else -1)= -1):=hqZ (by rw [if_neg hm]);have HT:Hq (Qq sums b=sums++ [b]):=hqZ (by rw [Qq,if_neg hm]);have HM:Hq (Up sums b=Ao 100 (sums.length+1)):=hqZ (by
      rw [Up,HT.o,aN,if_neg hm,bA,Nat.zero_add])
    rw [HI.o];clear hm HI;have HC:=hqZ HC.o.drew;have HBS:=hqZ (Bs.below HBS.o ((aC _ _).drew));obtain ⟨q,hq⟩:∃q,q=w.heap.size:=⟨_,rfl⟩
    rw [<-hq] at HC hp;clear HSV c2;go_wp2_with fail;rw [<-hq];clear hq;refine wp_region_any (by kernel_rfl) ?_;change wpAny _ _ _ _ _ _ _ (bC.drew _);refine wpAny_take (i:=0) (oi:=⟨some 15,_,_,_,_,none⟩) (v:=.pointer (some ⟨p,0,none⟩)) rfl (by kernel_rfl) (by kernel_rfl) (by kernel_rfl) (λ _ _ _ h=>h) (Or.inl ⟨by rfl,by intro w; go_simp⟩) ?_;try go_frame
    refine wpAny_take (i:=1) (oi:=⟨some 16,_,_,_,_,none⟩) (v:=.pointer (some ⟨p,0,none⟩)) rfl (by kernel_rfl) (by kernel_rfl) (by kernel_rfl) (λ _ _ _ h=>h) (Or.inl ⟨by rfl,by intro w; go_simp⟩) ?_;try go_frame
    refine wpAny_take (i:=2) (oi:=⟨some 17,_,_,_,_,none⟩) (v:=.pointer (some ⟨p,0,none⟩)) rfl (by kernel_rfl) (by kernel_rfl) (by kernel_rfl) (λ _ _ _ h=>h) (Or.inl ⟨by rfl,by intro w; go_simp⟩) ?_;try go_frame
    refine wpAny_take (i:=3) (oi:=⟨some 18,_,_,_,_,none⟩) (v:=.pointer (some ⟨p,2,none⟩)) rfl (by kernel_rfl) (by kernel_rfl) (by kernel_rfl) (λ _ _ _ h=>h) (Or.inl ⟨by rfl,by intro w; go_simp⟩) ?_;try go_frame
    refine wpAny_ready (rs:= [4,5]) (by decide+kernel) (by simp) ?_;refine AllReady.cons (o:=⟨some 19,.load 28 (.tmp 18),_,_,_,none⟩) rfl (λ K hK=>?_) (AllReady.cons (o:=⟨some 20,.load 29 (.tmp 3),_,_,_,none⟩) rfl (λ K hK=>?_) AllReady.nil)
    · have cc:=(HC.o.zB p).cell 2;go_simp;refine zqp hK ?_;clear hK K;refine wpAny_ready (rs:= [5]) (by decide+kernel) (by simp) ?_;refine AllReady.cons (o:=⟨some 20,.load 29 (.tmp 3),_,_,_,none⟩) rfl (λ K hK=>?_) AllReady.nil;have cc:=(HC.o.zB q).cell 0;go_simp;refine zqp hK ?_;clear hK K;refine wpAny_ready (rs:= [6]) (by decide+kernel) (by simp) ?_;refine AllReady.cons (o:=⟨some 21,.call { callee:=.value (.func 88),args:=#[.tmp 20],argTypes:=#[29] },_,_,_,none⟩) rfl (λ K hK=>?_) AllReady.nil;go_simp;refine (Hg _ b _ HBS.o (by omega)).mono ?_;rintro e w3 ⟨cl,rfl,ho,hv,hb⟩;obtain ⟨a6,c6,rfl,_,_⟩:=ho.sl.form;have HC:=hqZ (HC.o.addOwnB hb ho hv).ownRow;clear ho hv hb;refine zqp hK ?_;clear hK K;refine wpAny_ready (rs:= [7]) (by decide+kernel) (by simp) ?_;refine AllReady.cons (o:=⟨some 22,.buildSlice 28 1 #[(0,.tmp 21)],_,_,_,none⟩) rfl (λ K hK=>?_) AllReady.nil;go_simp;have HC:=hqZ (HC.o.addBlk [.slice a6 b.length c6] 29);refine zqp hK ?_;clear hK K;refine wpAny_ready (rs:= [8]) (by decide+kernel) (by simp) ?_;refine AllReady.cons (o:=⟨some 23,.call { callee:=.builtin .append,args:=#[.tmp 19,.tmp 22],argTypes:=#[28,28] },_,_,_,none⟩) rfl (λ K hK=>?_) AllReady.nil;have hown:=HC.o.ownOf (e:=29) (sz:=1) (v:=.slice a0 sums.length c0) (n:=sums.length) (cs:=vs) (by simp);have hsl:Sl _ 1 (.slice (some ⟨w3.heap.size,0,none⟩) 1 1) 1 [.slice a6 b.length c6]:=((HC.o.zB w3.heap.size).own (aD _) (by simp [bB.oneCell']) (by unfold maxLen; simp)).sl;refine Hj rfl (.tmp 19) (.tmp 22) L7 rfl 0 (v:=.slice a0 sums.length c0) (by simp [Act.eval]) hown.1 hown.2 (u:=.slice (some ⟨w3.heap.size,0,none⟩) 1 1) (by simp [Act.eval]) hsl (by unfold maxLen; omega) (by omega) (aD _) ?_;intro v4 w4 ho hk hv;obtain ⟨a4,c4,rfl,_,_⟩:=ho.sl.form;have HC:=hqZ (HC.o.pull5.append ho hk hv);clear ho hk hv hown hsl;refine zqp hK ?_;clear hK K;refine wpAny_take (i:=9) (oi:=⟨some 24,_,_,_,_,none⟩) (v:=.pointer (some ⟨p,0,none⟩)) rfl (by kernel_rfl) (by kernel_rfl) (by kernel_rfl) (λ _ _ _ h=>h) (Or.inl ⟨by rfl,by intro w; go_simp⟩) ?_;try go_frame
      refine wpAny_take (i:=10) (oi:=⟨some 25,_,_,_,_,none⟩) (v:=.pointer (some ⟨p,2,none⟩)) rfl (by kernel_rfl) (by kernel_rfl) (by kernel_rfl) (λ _ _ _ h=>h) (Or.inl ⟨by rfl,by intro w; go_simp⟩) ?_;try go_frame
      refine wpAny_ready (rs:= [11]) (by decide+kernel) (by simp) ?_;refine AllReady.cons (o:=⟨none,.store 28 (.tmp 25) (.tmp 23),_,_,_,none⟩) rfl (λ K hK=>?_) AllReady.nil;have hblk:=HC.o.zB p;have cc:=hblk.cell 2;have cf:=hblk.frozen 2;have ch:=hblk.lt;have HC:=hqZ (HC.o.pull5.set 2 (.slice a4 (sums.length+1) c4));clear hblk;go_simp;refine zqp hK ?_;clear hK K;refine wpAny_done (by decide+kernel) ?_ _;have HC:=hqZ (D8 (HC.o.front (m:= [.blk p [kv,bv,.slice a4 (sums.length+1) c4,mp] 60,.own 29 1 (.slice a4 (sums.length+1) c4) (sums.length+1) (vs++ [.slice a6 b.length c6]),.blk w3.heap.size [.slice a6 b.length c6] 29,.row (.slice a6 b.length c6) b,.blk q [.slice av b.length cv] 29,Br vs sums]) [2,4,5,3,0,1] 6 (by decide)).tail.tail).push3;have HE:Hq ((sums++ [b]).length=sums.length+1):=hqZ (by simp);go_wp2_with fail;refine (M5 sums.length (by omega) _).mono ?_;rintro e w7 ⟨rfl,hb⟩;have HN:=hqZ (Blk.new w7 Bg 43);have HC:=hqZ (HC.o.step hb);have HKL:Hq ((Ab (Ao 100 (sums.length+1))).length=16):=hqZ (by rw [Aa,An]);unfold Ay;clear hb;go_wp2_with ((with_reducible refine zws 6 34 ?_);refine Af rfl (.tmp 6) (.tmp 34) Am rfl rfl (vs:=Ab (Ao 100 (sums.length+1))) rfl HKL.o HN.o (aB _) (Ak _) ?_);intro w8 h8 k8;have hb8:Below w7.heap.size w7 w8:=((aC _ _).alloc (aB _) _).trans (k8.below (by omega));have h8':Blk w8 w7.heap.size (Ab (Ao 100 (sums.length+1))) 43:=by simpa [Bg] using h8
      have hrow:Bs w8 (.slice (some ⟨w7.heap.size,0,none⟩) 16 16) (Ao 100 (sums.length+1)):=by
        have:=h8'.bs (off:=0) (n:=16) (cap:=16) (by rw [An]; decide) (aB _) (by unfold maxLen; decide);exact Sl.bs this (by simp [aE,An]) (An _ _)
      have HC:=hqZ (HC.o.addRow hb8 hrow (λ k _ hk=>by simp [bB.ownBlock] at hk; omega));clear h8 h8' k8 hb8 hrow HN HKL;go_wp2_with fail;go_ret;refine ⟨w7.heap.size,rfl,?_⟩;rw [HT.o,HM.o];refine Hk (sv:=.slice a4 (sums.length+1) c4) (vs:=vs++ [.slice a6 b.length c6]) ?_;rw [HE.o];exact HC.o.push4
    · have cc:=(HC.o.zB q).cell 0;go_simp;refine zqp hK ?_;clear hK K;refine wpAny_ready (rs:= [4,6]) (by decide+kernel) (by simp) ?_;refine AllReady.cons (o:=⟨some 19,.load 28 (.tmp 18),_,_,_,none⟩) rfl (λ K hK=>?_) (AllReady.cons (o:=⟨some 21,.call { callee:=.value (.func 88),args:=#[.tmp 20],argTypes:=#[29] },_,_,_,none⟩) rfl (λ K hK=>?_) AllReady.nil)
      · have cc:=(HC.o.zB p).cell 2;go_simp;refine zqp hK ?_;clear hK K;refine wpAny_ready (rs:= [6]) (by decide+kernel) (by simp) ?_;refine AllReady.cons (o:=⟨some 21,.call { callee:=.value (.func 88),args:=#[.tmp 20],argTypes:=#[29] },_,_,_,none⟩) rfl (λ K hK=>?_) AllReady.nil;go_simp;refine (Hg _ b _ HBS.o (by omega)).mono ?_;rintro e w3 ⟨cl,rfl,ho,hv,hb⟩;obtain ⟨a6,c6,rfl,_,_⟩:=ho.sl.form;have HC:=hqZ (HC.o.addOwnB hb ho hv).ownRow;clear ho hv hb;refine zqp hK ?_;clear hK K;refine wpAny_ready (rs:= [7]) (by decide+kernel) (by simp) ?_;refine AllReady.cons (o:=⟨some 22,.buildSlice 28 1 #[(0,.tmp 21)],_,_,_,none⟩) rfl (λ K hK=>?_) AllReady.nil;go_simp;have HC:=hqZ (HC.o.addBlk [.slice a6 b.length c6] 29);refine zqp hK ?_;clear hK K;refine wpAny_ready (rs:= [8]) (by decide+kernel) (by simp) ?_;refine AllReady.cons (o:=⟨some 23,.call { callee:=.builtin .append,args:=#[.tmp 19,.tmp 22],argTypes:=#[28,28] },_,_,_,none⟩) rfl (λ K hK=>?_) AllReady.nil;have hown:=HC.o.ownOf (e:=29) (sz:=1) (v:=.slice a0 sums.length c0) (n:=sums.length) (cs:=vs) (by simp);have hsl:Sl _ 1 (.slice (some ⟨w3.heap.size,0,none⟩) 1 1) 1 [.slice a6 b.length c6]:=((HC.o.zB w3.heap.size).own (aD _) (by simp [bB.oneCell']) (by unfold maxLen; simp)).sl;refine Hj rfl (.tmp 19) (.tmp 22) L7 rfl 0 (v:=.slice a0 sums.length c0) (by simp [Act.eval]) hown.1 hown.2 (u:=.slice (some ⟨w3.heap.size,0,none⟩) 1 1) (by simp [Act.eval]) hsl (by unfold maxLen; omega) (by omega) (aD _) ?_;intro v4 w4 ho hk hv;obtain ⟨a4,c4,rfl,_,_⟩:=ho.sl.form;have HC:=hqZ (HC.o.pull5.append ho hk hv);clear ho hk hv hown hsl;refine zqp hK ?_;clear hK K;refine wpAny_take (i:=9) (oi:=⟨some 24,_,_,_,_,none⟩) (v:=.pointer (some ⟨p,0,none⟩)) rfl (by kernel_rfl) (by kernel_rfl) (by kernel_rfl) (λ _ _ _ h=>h) (Or.inl ⟨by rfl,by intro w; go_simp⟩) ?_;try go_frame
        refine wpAny_take (i:=10) (oi:=⟨some 25,_,_,_,_,none⟩) (v:=.pointer (some ⟨p,2,none⟩)) rfl (by kernel_rfl) (by kernel_rfl) (by kernel_rfl) (λ _ _ _ h=>h) (Or.inl ⟨by rfl,by intro w; go_simp⟩) ?_;try go_frame
        refine wpAny_ready (rs:= [11]) (by decide+kernel) (by simp) ?_;refine AllReady.cons (o:=⟨none,.store 28 (.tmp 25) (.tmp 23),_,_,_,none⟩) rfl (λ K hK=>?_) AllReady.nil;have hblk:=HC.o.zB p;have cc:=hblk.cell 2;have cf:=hblk.frozen 2;have ch:=hblk.lt;have HC:=hqZ (HC.o.pull5.set 2 (.slice a4 (sums.length+1) c4));clear hblk;go_simp;refine zqp hK ?_;clear hK K;refine wpAny_done (by decide+kernel) ?_ _;have HC:=hqZ (D8 (HC.o.front (m:= [.blk p [kv,bv,.slice a4 (sums.length+1) c4,mp] 60,.own 29 1 (.slice a4 (sums.length+1) c4) (sums.length+1) (vs++ [.slice a6 b.length c6]),.blk w3.heap.size [.slice a6 b.length c6] 29,.row (.slice a6 b.length c6) b,.blk q [.slice av b.length cv] 29,Br vs sums]) [2,4,5,3,0,1] 6 (by decide)).tail.tail).push3;have HE:Hq ((sums++ [b]).length=sums.length+1):=hqZ (by simp);go_wp2_with fail;refine (M5 sums.length (by omega) _).mono ?_;rintro e w7 ⟨rfl,hb⟩;have HN:=hqZ (Blk.new w7 Bg 43);have HC:=hqZ (HC.o.step hb);have HKL:Hq ((Ab (Ao 100 (sums.length+1))).length=16):=hqZ (by rw [Aa,An]);unfold Ay;clear hb;go_wp2_with ((with_reducible refine zws 6 34 ?_);refine Af rfl (.tmp 6) (.tmp 34) Am rfl rfl (vs:=Ab (Ao 100 (sums.length+1))) rfl HKL.o HN.o (aB _) (Ak _) ?_);intro w8 h8 k8;have hb8:Below w7.heap.size w7 w8:=((aC _ _).alloc (aB _) _).trans (k8.below (by omega));have h8':Blk w8 w7.heap.size (Ab (Ao 100 (sums.length+1))) 43:=by simpa [Bg] using h8
        have hrow:Bs w8 (.slice (some ⟨w7.heap.size,0,none⟩) 16 16) (Ao 100 (sums.length+1)):=by
          have:=h8'.bs (off:=0) (n:=16) (cap:=16) (by rw [An]; decide) (aB _) (by unfold maxLen; decide);exact Sl.bs this (by simp [aE,An]) (An _ _)
        have HC:=hqZ (HC.o.addRow hb8 hrow (λ k _ hk=>by simp [bB.ownBlock] at hk; omega));clear h8 h8' k8 hb8 hrow HN HKL;go_wp2_with fail;go_ret;refine ⟨w7.heap.size,rfl,?_⟩;rw [HT.o,HM.o];refine Hk (sv:=.slice a4 (sums.length+1) c4) (vs:=vs++ [.slice a6 b.length c6]) ?_;rw [HE.o];exact HC.o.push4
      · go_simp;refine (Hg _ b _ HBS.o (by omega)).mono ?_;rintro e w3 ⟨cl,rfl,ho,hv,hb⟩;obtain ⟨a6,c6,rfl,_,_⟩:=ho.sl.form;have HC:=hqZ (HC.o.addOwnB hb ho hv).ownRow;clear ho hv hb;refine zqp hK ?_;clear hK K;refine wpAny_ready (rs:= [4,7]) (by decide+kernel) (by simp) ?_;refine AllReady.cons (o:=⟨some 19,.load 28 (.tmp 18),_,_,_,none⟩) rfl (λ K hK=>?_) (AllReady.cons (o:=⟨some 22,.buildSlice 28 1 #[(0,.tmp 21)],_,_,_,none⟩) rfl (λ K hK=>?_) AllReady.nil)
        · have cc:=(HC.o.zB p).cell 2;go_simp;refine zqp hK ?_;clear hK K;refine wpAny_ready (rs:= [7]) (by decide+kernel) (by simp) ?_;refine AllReady.cons (o:=⟨some 22,.buildSlice 28 1 #[(0,.tmp 21)],_,_,_,none⟩) rfl (λ K hK=>?_) AllReady.nil;go_simp;have HC:=hqZ (HC.o.addBlk [.slice a6 b.length c6] 29);refine zqp hK ?_;clear hK K;refine wpAny_ready (rs:= [8]) (by decide+kernel) (by simp) ?_;refine AllReady.cons (o:=⟨some 23,.call { callee:=.builtin .append,args:=#[.tmp 19,.tmp 22],argTypes:=#[28,28] },_,_,_,none⟩) rfl (λ K hK=>?_) AllReady.nil;have hown:=HC.o.ownOf (e:=29) (sz:=1) (v:=.slice a0 sums.length c0) (n:=sums.length) (cs:=vs) (by simp);have hsl:Sl _ 1 (.slice (some ⟨w3.heap.size,0,none⟩) 1 1) 1 [.slice a6 b.length c6]:=((HC.o.zB w3.heap.size).own (aD _) (by simp [bB.oneCell']) (by unfold maxLen; simp)).sl;refine Hj rfl (.tmp 19) (.tmp 22) L7 rfl 0 (v:=.slice a0 sums.length c0) (by simp [Act.eval]) hown.1 hown.2 (u:=.slice (some ⟨w3.heap.size,0,none⟩) 1 1) (by simp [Act.eval]) hsl (by unfold maxLen; omega) (by omega) (aD _) ?_;intro v4 w4 ho hk hv;obtain ⟨a4,c4,rfl,_,_⟩:=ho.sl.form;have HC:=hqZ (HC.o.pull5.append ho hk hv);clear ho hk hv hown hsl;refine zqp hK ?_;clear hK K;refine wpAny_take (i:=9) (oi:=⟨some 24,_,_,_,_,none⟩) (v:=.pointer (some ⟨p,0,none⟩)) rfl (by kernel_rfl) (by kernel_rfl) (by kernel_rfl) (λ _ _ _ h=>h) (Or.inl ⟨by rfl,by intro w; go_simp⟩) ?_;try go_frame
          refine wpAny_take (i:=10) (oi:=⟨some 25,_,_,_,_,none⟩) (v:=.pointer (some ⟨p,2,none⟩)) rfl (by kernel_rfl) (by kernel_rfl) (by kernel_rfl) (λ _ _ _ h=>h) (Or.inl ⟨by rfl,by intro w; go_simp⟩) ?_;try go_frame
          refine wpAny_ready (rs:= [11]) (by decide+kernel) (by simp) ?_;refine AllReady.cons (o:=⟨none,.store 28 (.tmp 25) (.tmp 23),_,_,_,none⟩) rfl (λ K hK=>?_) AllReady.nil;have hblk:=HC.o.zB p;have cc:=hblk.cell 2;have cf:=hblk.frozen 2;have ch:=hblk.lt;have HC:=hqZ (HC.o.pull5.set 2 (.slice a4 (sums.length+1) c4));clear hblk;go_simp;refine zqp hK ?_;clear hK K;refine wpAny_done (by decide+kernel) ?_ _;have HC:=hqZ (D8 (HC.o.front (m:= [.blk p [kv,bv,.slice a4 (sums.length+1) c4,mp] 60,.own 29 1 (.slice a4 (sums.length+1) c4) (sums.length+1) (vs++ [.slice a6 b.length c6]),.blk w3.heap.size [.slice a6 b.length c6] 29,.row (.slice a6 b.length c6) b,.blk q [.slice av b.length cv] 29,Br vs sums]) [2,4,5,3,0,1] 6 (by decide)).tail.tail).push3;have HE:Hq ((sums++ [b]).length=sums.length+1):=hqZ (by simp);go_wp2_with fail;refine (M5 sums.length (by omega) _).mono ?_;rintro e w7 ⟨rfl,hb⟩;have HN:=hqZ (Blk.new w7 Bg 43);have HC:=hqZ (HC.o.step hb);have HKL:Hq ((Ab (Ao 100 (sums.length+1))).length=16):=hqZ (by rw [Aa,An]);unfold Ay;clear hb;go_wp2_with ((with_reducible refine zws 6 34 ?_);refine Af rfl (.tmp 6) (.tmp 34) Am rfl rfl (vs:=Ab (Ao 100 (sums.length+1))) rfl HKL.o HN.o (aB _) (Ak _) ?_);intro w8 h8 k8;have hb8:Below w7.heap.size w7 w8:=((aC _ _).alloc (aB _) _).trans (k8.below (by omega));have h8':Blk w8 w7.heap.size (Ab (Ao 100 (sums.length+1))) 43:=by simpa [Bg] using h8
          have hrow:Bs w8 (.slice (some ⟨w7.heap.size,0,none⟩) 16 16) (Ao 100 (sums.length+1)):=by
            have:=h8'.bs (off:=0) (n:=16) (cap:=16) (by rw [An]; decide) (aB _) (by unfold maxLen; decide);exact Sl.bs this (by simp [aE,An]) (An _ _)
          have HC:=hqZ (HC.o.addRow hb8 hrow (λ k _ hk=>by simp [bB.ownBlock] at hk; omega));clear h8 h8' k8 hb8 hrow HN HKL;go_wp2_with fail;go_ret;refine ⟨w7.heap.size,rfl,?_⟩;rw [HT.o,HM.o];refine Hk (sv:=.slice a4 (sums.length+1) c4) (vs:=vs++ [.slice a6 b.length c6]) ?_;rw [HE.o];exact HC.o.push4
        · go_simp;have HC:=hqZ (HC.o.addBlk [.slice a6 b.length c6] 29);refine zqp hK ?_;clear hK K;refine wpAny_ready (rs:= [4]) (by decide+kernel) (by simp) ?_;refine AllReady.cons (o:=⟨some 19,.load 28 (.tmp 18),_,_,_,none⟩) rfl (λ K hK=>?_) AllReady.nil;have cc:=(HC.o.zB p).cell 2;go_simp;refine zqp hK ?_;clear hK K;refine wpAny_ready (rs:= [8]) (by decide+kernel) (by simp) ?_;refine AllReady.cons (o:=⟨some 23,.call { callee:=.builtin .append,args:=#[.tmp 19,.tmp 22],argTypes:=#[28,28] },_,_,_,none⟩) rfl (λ K hK=>?_) AllReady.nil;have hown:=HC.o.ownOf (e:=29) (sz:=1) (v:=.slice a0 sums.length c0) (n:=sums.length) (cs:=vs) (by simp);have hsl:Sl _ 1 (.slice (some ⟨w3.heap.size,0,none⟩) 1 1) 1 [.slice a6 b.length c6]:=((HC.o.zB w3.heap.size).own (aD _) (by simp [bB.oneCell']) (by unfold maxLen; simp)).sl;refine Hj rfl (.tmp 19) (.tmp 22) L7 rfl 0 (v:=.slice a0 sums.length c0) (by simp [Act.eval]) hown.1 hown.2 (u:=.slice (some ⟨w3.heap.size,0,none⟩) 1 1) (by simp [Act.eval]) hsl (by unfold maxLen; omega) (by omega) (aD _) ?_;intro v4 w4 ho hk hv;obtain ⟨a4,c4,rfl,_,_⟩:=ho.sl.form;have HC:=hqZ (HC.o.pull5.append ho hk hv);clear ho hk hv hown hsl;refine zqp hK ?_;clear hK K;refine wpAny_take (i:=9) (oi:=⟨some 24,_,_,_,_,none⟩) (v:=.pointer (some ⟨p,0,none⟩)) rfl (by kernel_rfl) (by kernel_rfl) (by kernel_rfl) (λ _ _ _ h=>h) (Or.inl ⟨by rfl,by intro w; go_simp⟩) ?_;try go_frame
          refine wpAny_take (i:=10) (oi:=⟨some 25,_,_,_,_,none⟩) (v:=.pointer (some ⟨p,2,none⟩)) rfl (by kernel_rfl) (by kernel_rfl) (by kernel_rfl) (λ _ _ _ h=>h) (Or.inl ⟨by rfl,by intro w; go_simp⟩) ?_;try go_frame
          refine wpAny_ready (rs:= [11]) (by decide+kernel) (by simp) ?_;refine AllReady.cons (o:=⟨none,.store 28 (.tmp 25) (.tmp 23),_,_,_,none⟩) rfl (λ K hK=>?_) AllReady.nil;have hblk:=HC.o.zB p;have cc:=hblk.cell 2;have cf:=hblk.frozen 2;have ch:=hblk.lt;have HC:=hqZ (HC.o.pull5.set 2 (.slice a4 (sums.length+1) c4));clear hblk;go_simp;refine zqp hK ?_;clear hK K;refine wpAny_done (by decide+kernel) ?_ _;have HC:=hqZ (D8 (HC.o.front (m:= [.blk p [kv,bv,.slice a4 (sums.length+1) c4,mp] 60,.own 29 1 (.slice a4 (sums.length+1) c4) (sums.length+1) (vs++ [.slice a6 b.length c6]),.blk w3.heap.size [.slice a6 b.length c6] 29,.row (.slice a6 b.length c6) b,.blk q [.slice av b.length cv] 29,Br vs sums]) [2,4,5,3,0,1] 6 (by decide)).tail.tail).push3;have HE:Hq ((sums++ [b]).length=sums.length+1):=hqZ (by simp);go_wp2_with fail;refine (M5 sums.length (by omega) _).mono ?_;rintro e w7 ⟨rfl,hb⟩;have HN:=hqZ (Blk.new w7 Bg 43);have HC:=hqZ (HC.o.step hb);have HKL:Hq ((Ab (Ao 100 (sums.length+1))).length=16):=hqZ (by rw [Aa,An]);unfold Ay;clear hb;go_wp2_with ((with_reducible refine zws 6 34 ?_);refine Af rfl (.tmp 6) (.tmp 34) Am rfl rfl (vs:=Ab (Ao 100 (sums.length+1))) rfl HKL.o HN.o (aB _) (Ak _) ?_);intro w8 h8 k8;have hb8:Below w7.heap.size w7 w8:=((aC _ _).alloc (aB _) _).trans (k8.below (by omega));have h8':Blk w8 w7.heap.size (Ab (Ao 100 (sums.length+1))) 43:=by simpa [Bg] using h8
          have hrow:Bs w8 (.slice (some ⟨w7.heap.size,0,none⟩) 16 16) (Ao 100 (sums.length+1)):=by
            have:=h8'.bs (off:=0) (n:=16) (cap:=16) (by rw [An]; decide) (aB _) (by unfold maxLen; decide);exact Sl.bs this (by simp [aE,An]) (An _ _)
          have HC:=hqZ (HC.o.addRow hb8 hrow (λ k _ hk=>by simp [bB.ownBlock] at hk; omega));clear h8 h8' k8 hb8 hrow HN HKL;go_wp2_with fail;go_ret;refine ⟨w7.heap.size,rfl,?_⟩;rw [HT.o,HM.o];refine Hk (sv:=.slice a4 (sums.length+1) c4) (vs:=vs++ [.slice a6 b.length c6]) ?_;rw [HE.o];exact HC.o.push4
end Go.Proofs.YtbmjjfhpllpiaaaGreat
namespace Go.Proofs.YtbmjjfhpllpiaaaGreat
open Go.RowKit Go.Maps
theorem A2h:C5 aA 57 142 18 40 (.agg (aM 16 (bB.int .u8 0)++ [bB.string ⟨#[]⟩,bB.bool false]).toArray):=by
  refine C5.mk Tryz.underlying57 ?_ rfl (by decide)
  kernel_rfl
theorem Wp:C5 aA 58 218 18 48 (.agg (aM 16 (bB.int .u8 0)++ [bB.int .i64 0,bB.slice none 0 0]).toArray):=by
  refine C5.mk Tryz.underlying58 ?_ rfl (by decide)
  kernel_rfl
theorem Gz:A9 aA 142 18:=A9.mk aF rfl (by kernel_rfl)
theorem Dg:A9 aA 218 18:=A9.mk Tryz.underlying218 rfl (by kernel_rfl)
theorem Fk.cells_length (f:Fk):f.cells.length=18:=by simp [Fk.cells,Aa,f.hof]
theorem Fk.cells_one (f:Fk):∀u∈f.cells,u.oneCell'=true:=by
  intro u hu;rcases List.mem_append.1 hu with h | h
  · exact Ak _ u h
  · simp at h; rcases h with rfl | rfl <;> rfl
def frC (ks:List Fk):List bB:=(ks.map Fk.cells).flatten
def E8 (p:Bx×bB):List bB:=Ab p.1.by_++ [.int .i64 p.1.usage,p.2]
def bxC (bs:List Bx) (vs:List bB):List bB:=((bs.zip vs).map E8).flatten
structure A4L where
  kv:bB
  bv:bB
  sv:bB
  m:Nat
  vs:List bB
  bs:List bB
structure Nv (s:Sy):Prop where
  bx:∀b∈s.boxes,b.by_.length=16
  kn:∀x∈s.known,x.2.length=16
def knM (s:Sy):List (Fk×bB):=s.known.map λ x=>(x.1,Ay x.2)
def B2 (q:Nat) (s:Sy):Res:=.ex λ x:A4L=>.all [.pure (Nv s/\x.bs.length=s.boxes.length),.blk q [x.kv,x.bv,x.sv,.map (some x.m)] 60,.own 142 18 x.kv s.keys.length (frC s.keys),
  .own 218 18 x.bv s.boxes.length (bxC s.boxes x.bs),Br x.bs (s.boxes.map Bx.body),.own 29 1 x.sv s.sums.length x.vs,Br x.vs s.sums,N5 aA 142 frL x.m (knM s)]
theorem Bo {W:bC} {q:Nat} {s:Sy} {l:List Res} :Ac W (B2 q s::l)↔∃x:A4L,(Nv s/\x.bs.length=s.boxes.length)/\Ac W (.blk q [x.kv,x.bv,x.sv,.map (some x.m)] 60::.own 142 18 x.kv s.keys.length (frC s.keys):: .own 218 18 x.bv s.boxes.length (bxC s.boxes x.bs)::Br x.bs (s.boxes.map Bx.body)::.own 29 1 x.sv s.sums.length x.vs::Br x.vs s.sums::N5 aA 142 frL x.m (knM s)::l):=by
  unfold B2;rw [Ac.ex];refine exists_congr λ x=>?_
  rw [Ac.app];exact Ac.pure
def pvR (q:Nat):PS->Res
  | .sym s=>B2 q s
def Hm (q:Nat) (s:PS) (b:List UInt8) (l:List Res) (e:Ending) (w':bC):Prop:=∃x,e=.returned x/\Ac w' (.row x b::pvR q s::l)
def T9 (q:Nat) (s:PS) (b:List UInt8) (l:List Res) (e:Ending) (w':bC):Prop:=∃x,e=.returned (.tuple #[x,.bool true])/\Ac w' (.row x b::pvR q s::l)
def pvT:PS->bD
  | .sym _=>24
def pvV (s:PS) (q:Nat):bB:=.iface (pvT s) (.pointer (some ⟨q,0,none⟩))
theorem D4 (s:PS) (k:Nat) (a:Addr) (n:String) (hn:n= "Fresh" \/n= "Text" \/n= "Derive" \/n= "Seal" \/n= "Open" \/n= "Digest") (w:bC):(nilAhead (k+1) (pvT s) (.pointer (some a)) n).run aA w=.ok (some false) w:=by
  rcases hn with rfl | rfl | rfl | rfl | rfl | rfl <;> cases s <;> kernel_rfl
def C7:PS->FuncId | .sym _=>171
def Hs:PS->FuncId | .sym _=>15
def Eb:PS->FuncId | .sym _=>169
def Iz:PS->FuncId | .sym _=>173
def E3:PS->FuncId | .sym _=>172
def Hr:PS->FuncId | .sym _=>170
theorem Ku (s:PS) (k:Nat) (a:Addr) (w:bC):(method (k+1) (pvT s) (.pointer (some a)) "Fresh").run aA w=.ok (C7 s,.pointer (some a)) w:=by cases s <;> kernel_rfl
theorem A1e (s:PS) (k:Nat) (a:Addr) (w:bC):(method (k+1) (pvT s) (.pointer (some a)) "Text").run aA w=.ok (Hs s,.pointer (some a)) w:=by cases s <;> kernel_rfl
theorem N6 (s:PS) (k:Nat) (a:Addr) (w:bC):(method (k+1) (pvT s) (.pointer (some a)) "Derive").run aA w=.ok (Eb s,.pointer (some a)) w:=by cases s <;> kernel_rfl
theorem A1d (s:PS) (k:Nat) (a:Addr) (w:bC):(method (k+1) (pvT s) (.pointer (some a)) "Seal").run aA w=.ok (Iz s,.pointer (some a)) w:=by cases s <;> kernel_rfl
theorem Nc (s:PS) (k:Nat) (a:Addr) (w:bC):(method (k+1) (pvT s) (.pointer (some a)) "Open").run aA w=.ok (E3 s,.pointer (some a)) w:=by cases s <;> kernel_rfl
theorem Tq (s:PS) (k:Nat) (a:Addr) (w:bC):(method (k+1) (pvT s) (.pointer (some a)) "Digest").run aA w=.ok (Hr s,.pointer (some a)) w:=by cases s <;> kernel_rfl
end Go.Proofs.YtbmjjfhpllpiaaaGreat
