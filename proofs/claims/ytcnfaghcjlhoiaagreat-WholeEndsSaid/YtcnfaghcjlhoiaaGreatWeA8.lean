/- Texts of this proof, one behind the other: TkV, DerWrO, DerLaw2, TkP, TkO. -/
import Derived.Test.YtcnfaghcjlhoiaaGreatWeA3
import Derived.Test.YtcnfaghcjlhoiaaGreatWeA4
import Derived.Test.YtcnfaghcjlhoiaaGreatWeA5
import Derived.Test.YtcnfaghcjlhoiaaGreatWeA7
import Derived.Deep.DeepCutAuto
set_option linter.unusedSimpArgs false
set_option linter.unusedVariables false
set_option maxRecDepth 100000
set_option maxHeartbeats 16000000
open Go.Proofs.Tryz renaming prog -> aA, func210 -> aP, ntmps210 -> aQ, func211 -> aX, ntmps211 -> aY
open List renaming getElem?_append -> aB, map_cons -> aG, length_append -> aH, map_nil -> aI, append_nil -> aJ, drop_of_length_le -> aK, mem_cons -> aL, not_mem_nil -> aM, forall_mem_append -> aN, forall_mem_cons -> aO, map_toArray -> aT, all_cons -> aU, all_nil -> aV, getD_eq_getElem?_getD -> aW, take_append_of_le_length -> aZ, take_of_length_le -> bA, take_left -> bB, drop_left -> bC, getElem?_append_left -> bE, cons_append -> bF, length_cons -> bG, eq_nil_of_length_eq_zero -> bH
open Iff renaming rfl -> aC
open Nat renaming le_refl -> aD, le_trans -> aE, lt_of_lt_of_le -> aR, lt_irrefl -> aS, add_le_add -> bD
open Go.RowKit.Below renaming refl -> aF
open Go renaming Value -> bI, World -> bJ, Calls -> bK
namespace Go.Proofs.YtcnfaghcjlhoiaaGreat
open Go.RowKit
inductive Fd where
 | s (l:Aa)
 | n (x:Nat)
 | k (l:Aa)
 | b (l:Aa)
 | t (b:Bool)
def Am:Fd->Tv
 | .s l=>.mk 1 0 0 l []
 | .n x=>.mk 0 0 x [] []
 | .k l=>.mk 1 0 0 l []
 | .b l=>.mk 1 0 0 l []
 | .t b=>.mk 0 0 (if b then 1 else 0) [] []
def Ev (t:Int) (fs:List Fd):Tv:=.mk 2 t 0 [] (fs.map Am)
theorem Gs {x:Nat} (h:x<=1099511627776):Bp (x:Int)=true:=by
 have h2:(x:Int)<=1099511627776:=by omega
 simp [Bp,h2]
theorem A6E:Au ⟨#[97]⟩=true:=by decide+kernel
theorem Cn:B6 aA 260:=B6.mk Tryz.func260 (by kernel_rfl) (by kernel_rfl)
theorem Li:B6 aA 261:=B6.mk Tryz.func261 (by kernel_rfl) (by kernel_rfl)
theorem Rb (W:bJ):(zeroValue 108).run aA W=.ok (.agg #[.string ⟨#[]⟩,.slice none 0 0]) W:=by kernel_rfl
theorem Xv (W:bJ):(zeroValue 200).run aA W=.ok (.agg #[.int .i64 0,.int .u8 0,.int .u8 0,.int .u8 0,.int .u8 0,.int .u8 0,.int .u8 0,.int .u8 0,.int .u8 0,.int .u8 0,.int .u8 0,.int .u8 0,.int .u8 0,.int .u8 0,.int .u8 0,.int .u8 0,.int .u8 0,.string ⟨#[]⟩,.int .i64 0,.int .i64 0,.int .i64 0]) W:=by kernel_rfl
theorem A3l (W:bJ):(zeroValue 307).run aA W=.ok (.agg #[.int .i64 0,.int .u8 0,.int .u8 0,.int .u8 0,.int .u8 0,.int .u8 0,.int .u8 0,.int .u8 0,.int .u8 0,.int .u8 0,.int .u8 0,.int .u8 0,.int .u8 0,.int .u8 0,.int .u8 0,.int .u8 0,.int .u8 0,.int .i64 0,.string ⟨#[]⟩,.int .i64 0,.int .i64 0,.int .i64 0]) W:=by kernel_rfl
theorem A6Q (W:bJ):(zeroValue 224).run aA W=.ok (.agg #[.string ⟨#[]⟩,.int .i64 0,.int .i64 0,.int .u8 0,.int .u8 0,.int .u8 0,.int .u8 0,.int .u8 0,.int .u8 0,.int .u8 0,.int .u8 0,.int .u8 0,.int .u8 0,.int .u8 0,.int .u8 0,.int .u8 0,.int .u8 0,.int .u8 0,.int .u8 0,.slice none 0 0]) W:=by kernel_rfl
def Jm:List bI:= [.int .i64 0,.int .u8 0,.int .u8 0,.int .u8 0,.int .u8 0,.int .u8 0,.int .u8 0,.int .u8 0,.int .u8 0,.int .u8 0,.int .u8 0,.int .u8 0,.int .u8 0,.int .u8 0,.int .u8 0,.int .u8 0,.int .u8 0,.string ⟨#[]⟩,.int .i64 0,.int .i64 0,.int .i64 0]
theorem Bz:A3 aA 200 21:=A3.mk Tryz.underlying200 rfl (by kernel_rfl)
def A2C:List bI:= [.int .i64 0,.int .u8 0,.int .u8 0,.int .u8 0,.int .u8 0,.int .u8 0,.int .u8 0,.int .u8 0,.int .u8 0,.int .u8 0,.int .u8 0,.int .u8 0,.int .u8 0,.int .u8 0,.int .u8 0,.int .u8 0,.int .u8 0,.int .i64 0,.string ⟨#[]⟩,.int .i64 0,.int .i64 0,.int .i64 0]
theorem Hv:A3 aA 307 22:=A3.mk Tryz.underlying307 rfl (by kernel_rfl)
def A2D:List bI:= [.string ⟨#[]⟩,.int .i64 0,.int .i64 0,.int .u8 0,.int .u8 0,.int .u8 0,.int .u8 0,.int .u8 0,.int .u8 0,.int .u8 0,.int .u8 0,.int .u8 0,.int .u8 0,.int .u8 0,.int .u8 0,.int .u8 0,.int .u8 0,.int .u8 0,.int .u8 0,.slice none 0 0]
theorem Ix:A3 aA 224 20:=A3.mk Tryz.underlying224 rfl (by kernel_rfl)
def A2E:List bI:= [.int .i64 0,.int .i64 0]
theorem Gg:A3 aA 130 2:=A3.mk Tryz.underlying130 rfl (by kernel_rfl)
theorem VC.start0 {w:bJ} {rows:List (bI×Aa)} (hr:∀r∈rows,Bs w r.1 r.2):VC w w.heap.size [] [] rows (w.alloc (.cells zs5.toArray 314)):=
 ⟨(aF _ _).alloc (aD _) _,rfl,by simp,Blk.new _ _ _,(λ b hm=>by simp at hm),(λ t hm=>by simp at hm),λ r hm=>⟨(hr r hm).alloc _,λ hn y hy=>Sl.own_lt (hr r hm) (by decide) hn y hy⟩⟩
theorem A0L (x1:Nat) (k2:Aa) (l3:Aa) (x4:Nat) (x5:Nat) (x6:Nat) (w:bJ) (hz1:x1<=1099511627776) (hk2:k2.length=16) (hz3:l3.length<=1099511627776) (hr3:Au (tx l3)=true) (hz4:x4<=1099511627776) (hz5:x5<=1099511627776) (hz6:x6<=1099511627776): bK aA 210 #[.iface 200 (.agg (([.int .i64 (x1:Int)]:List bI)++(Ae k2++([.string (tx l3),.int .i64 (x4:Int),.int .i64 (x5:Int),.int .i64 (x6:Int)]:List bI))).toArray)] w (Gu w (Ev 2 [.n x1,.k k2,.s l3,.n x4,.n x5,.n x6]) true):=by
 have HC:Hq (VC w w.heap.size [] [] [] (w.alloc (.cells zs5.toArray 314))):=Ab (VC.start0 (by intro r hr; cases hr));obtain ⟨cs,hcs⟩:∃cs:List bI,cs=(([.int .i64 (x1:Int)]:List bI)++(Ae k2++([.string (tx l3),.int .i64 (x4:Int),.int .i64 (x5:Int),.int .i64 (x6:Int)]:List bI))):=⟨_,rfl⟩
 rw [<-hcs];have HCS:=Ab hcs;have HCL:Hq (cs.length=21):=Ab (by rw [hcs]; simp [Ac,hk2]);have HCO:Hq (∀u∈cs,u.oneCell'=true):=Ab (by rw [hcs]; simp only [aN,aO]; exact ⟨⟨rfl,(λ _ h=>by cases h)⟩,Al _,⟨rfl,rfl,rfl,rfl,(λ _ h=>by cases h)⟩⟩);clear hcs;have HKL:=Ab hk2;clear hk2;have HZ1:=Ab hz1;clear hz1;have HZ3:=Ab hz3;clear hz3;have HR3:=Ab hr3;clear hr3;have HZ4:=Ab hz4;clear hz4;have HZ5:=Ab hz5;clear hz5;have HZ6:=Ab hz6;clear hz6;obtain ⟨z1,hta1⟩:∃z,∀W,(Instr.typeAssert (.iface 200 (.agg cs.toArray)) 20 108 true).run aA W=.ok (.tuple #[z,.bool false]) W:=⟨_,λ W=>A9 _ _ _ _ (by kernel_rfl) Rb (.inr ⟨_,_,rfl,by decide⟩) W⟩
 have hta:∀W,(Instr.typeAssert (.iface 200 (.agg cs.toArray)) 20 200 true).run aA W=.ok (.tuple #[.agg cs.toArray,.bool true]) W:=λ W=>Et _ _ _ (by kernel_rfl) W
 obtain ⟨X,hX⟩:∃X:Tv,X=Ev 2 [.n x1,.k k2,.s l3,.n x4,.n x5,.n x6]:=⟨_,rfl⟩
 rw [<-hX];have HXE:Hq (X=.mk 2 2 0 [] [.mk 0 0 x1 [] [],.mk 1 0 0 k2 [],.mk 1 0 0 l3 [],.mk 0 0 x4 [] [],.mk 0 0 x5 [] [],.mk 0 0 x6 [] []]):=Ab hX;clear hX;go_enter aP,aQ;have hz1:(w.alloc (.cells zs5.toArray 314)).heap.size=w.heap.size+1:=by simp
 have hn:=Blk.new (w.alloc (.cells zs5.toArray 314)) Jm 200;rw [hz1] at hn;have HN:=Ab hn;clear hn hz1;go_upto_region 7 with ((with_reducible refine zws 5 28 ?_);refine Ag rfl (.tmp 5) (.tmp 28) Bz rfl rfl (vs:=cs) rfl HCL.o HN.o (aD _) HCO.o ?_);intro W0 h2 k2;have hz1:(w.alloc (.cells zs5.toArray 314)).heap.size=w.heap.size+1:=by simp
 have h2':Blk W0 (w.heap.size+1) cs 200:=by
  rw [aK (by decide),aJ] at h2;exact h2
 have hb2:Below (w.alloc (.cells zs5.toArray 314)).heap.size (w.alloc (.cells zs5.toArray 314)) W0:=((aF _ _).alloc (aD _) _).trans (k2.below (by omega));have HC:=Ab ((HC.o.step hb2).addBlk h2' (by omega));clear h2 k2 h2' hb2 hz1 HN hta hta1;go_upto_region 7 with fail;obtain ⟨p,hp⟩:∃p,p=w.heap.size+1:=⟨_,rfl⟩
 obtain ⟨q,hq⟩:∃q,q=w.heap.size:=⟨_,rfl⟩
 rw [<-hp,<-hq] at HC ⊢;clear hp hq;obtain ⟨wd,hwd⟩:∃wd,wd=bJ.drew W0:=⟨_,rfl⟩
 have hvd:VC w q [(p,cs,200)] [] [] wd:=by rw [hwd]; exact HC.o.drew
 have HR:Hq (∀W,GV (λ b=>q<b) q X wd W->VR w q [(p,cs,200)] [] [] W):=Ab (λ W h=>hvd.gv h);have HZD:Hq (∀W,GV (λ b=>q<b) q X wd W->q<W.heap.size/\∀b,W.heap.size<=b->q<b):=Ab (λ W h=>⟨(HR.o W h).lt,λ b hb=>aR (HR.o W h).lt hb⟩);have HFq:Hq (¬(λ b=>q<b) q):=Ab (aS q);have HQW:Hq (w.heap.size=q):=Ab hvd.hq.symm;clear hvd HC;refine wp_region_held (S:=λ W=>GV (λ b=>q<b) q X wd W) (by kernel_rfl) ?_;change wpAnyH _ _ _ _ _ _ _ _ (bJ.drew _);rw [<-hwd];clear hwd;refine zH 0 ?_;refine zH 1 ?_ (v:=.int .i64 (x1:Int)) (hr:=λ W hW=>by have hc:W.cell? ⟨p,0,none⟩=some (.int .i64 (x1:Int)):=(((HR.o W hW).blkAt 0 rfl).cell 0).trans (by rw [HCS.o]; simp [aB,Ac,HKL.o]); go_simp);refine zH 3 ?_;refine zH 4 ?_ (v:=.agg (Ae k2).toArray) (hr:=λ W hW=>by exact E2 (b:=p) (off:=1) (cs:=Ae k2) rfl Aq rfl (by rw [Ac,HKL.o]) (by have:=((HR.o W hW).blkAt 0 rfl).cellsAt 1 16; rw [HCS.o] at this; simpa [aZ,bA,Ac,HKL.o] using this));refine zH 6 ?_;refine zH 7 ?_ (v:=.string (tx l3)) (hr:=λ W hW=>by have hc:W.cell? ⟨p,17,none⟩=some (.string (tx l3)):=(((HR.o W hW).blkAt 0 rfl).cell 17).trans (by rw [HCS.o]; simp [aB,Ac,HKL.o]); go_simp);refine zH 9 ?_;refine zH 10 ?_ (v:=.int .i64 (x4:Int)) (hr:=λ W hW=>by have hc:W.cell? ⟨p,18,none⟩=some (.int .i64 (x4:Int)):=(((HR.o W hW).blkAt 0 rfl).cell 18).trans (by rw [HCS.o]; simp [aB,Ac,HKL.o]); go_simp);refine zH 12 ?_;refine zH 13 ?_ (v:=.int .i64 (x5:Int)) (hr:=λ W hW=>by have hc:W.cell? ⟨p,19,none⟩=some (.int .i64 (x5:Int)):=(((HR.o W hW).blkAt 0 rfl).cell 19).trans (by rw [HCS.o]; simp [aB,Ac,HKL.o]); go_simp);refine zH 15 ?_;refine zH 16 ?_ (v:=.int .i64 (x6:Int)) (hr:=λ W hW=>by have hc:W.cell? ⟨p,20,none⟩=some (.int .i64 (x6:Int)):=(((HR.o W hW).blkAt 0 rfl).cell 20).trans (by rw [HCS.o]; simp [aB,Ac,HKL.o]); go_simp);refine zH 20 ?_;refine zH 21 ?_ (v:=.string (tx l3)) (hr:=λ W hW=>by have hc:W.cell? ⟨p,17,none⟩=some (.string (tx l3)):=(((HR.o W hW).blkAt 0 rfl).cell 17).trans (by rw [HCS.o]; simp [aB,Ac,HKL.o]); go_simp);refine zH 22 ?_;refine zH 23 ?_ (v:=.int .i64 (x1:Int)) (hr:=λ W hW=>by have hc:W.cell? ⟨p,0,none⟩=some (.int .i64 (x1:Int)):=(((HR.o W hW).blkAt 0 rfl).cell 0).trans (by rw [HCS.o]; simp [aB,Ac,HKL.o]); go_simp);refine zH 24 ?_;refine zH 25 ?_ (v:=.int .i64 (x4:Int)) (hr:=λ W hW=>by have hc:W.cell? ⟨p,18,none⟩=some (.int .i64 (x4:Int)):=(((HR.o W hW).blkAt 0 rfl).cell 18).trans (by rw [HCS.o]; simp [aB,Ac,HKL.o]); go_simp);refine zH 26 ?_;refine zH 27 ?_ (v:=.int .i64 (x5:Int)) (hr:=λ W hW=>by have hc:W.cell? ⟨p,19,none⟩=some (.int .i64 (x5:Int)):=(((HR.o W hW).blkAt 0 rfl).cell 19).trans (by rw [HCS.o]; simp [aB,Ac,HKL.o]); go_simp);refine zH 28 ?_;refine zH 29 ?_ (v:=.int .i64 (x6:Int)) (hr:=λ W hW=>by have hc:W.cell? ⟨p,20,none⟩=some (.int .i64 (x6:Int)):=(((HR.o W hW).blkAt 0 rfl).cell 20).trans (by rw [HCS.o]; simp [aB,Ac,HKL.o]); go_simp);refine Df (G:=GV (λ b=>q<b) q X) (Post:=L5 (λ b=>q<b) q X [.any,.any,.val (.mk 0 0 x1 [] []),.any,.any,.val (.mk 1 0 0 k2 []),.any,.any,.val (.mk 1 0 0 l3 []),.any,.any,.val (.mk 0 0 x4 [] []),.any,.any,.val (.mk 0 0 x5 [] []),.any,.any,.val (.mk 0 0 x6 [] []),.vals [.mk 0 0 x1 [] [],.mk 1 0 0 k2 [],.mk 1 0 0 l3 [],.mk 0 0 x4 [] [],.mk 0 0 x5 [] [],.mk 0 0 x6 [] []],.val (.mk 2 2 0 [] [.mk 0 0 x1 [] [],.mk 1 0 0 k2 [],.mk 1 0 0 l3 [],.mk 0 0 x4 [] [],.mk 0 0 x5 [] [],.mk 0 0 x6 [] []]),.any,.any,.any,.any,.any,.any,.any,.any,.any,.any,.row [.int .i64 (x1:Int),.int .i64 (x4:Int),.int .i64 (x5:Int),.int .i64 (x6:Int)],.is (.bool true),.fin,.is (.bool true)]) (ds:= [31,34,37,40,43,46,47,48,59,60,3]) (GV.refl _ _ _) GV.trans (λ W W' h g=>GV.trans _ _ _ h g) (λ i v W W' h g=>PK.stable HFq.o h g) [2,5,8,11,14,17,18,19,30,31,32,33] 180 rfl (by decide+kernel) (by decide+kernel) ?_ ?_ (GV.refl _ _ _ _) (by decide+kernel)
 . refine zA (λ a W hf hS hd K hK=>?_) ?_
   . have e30:a.eval (.tmp 30)=.int .i64 (x1:Int):=hf.lit 30 (by decide) rfl;exact A2 (Ah rfl) rfl Cn (vs:=#[.int .i64 (x1:Int)]) (by simp [e30]) (D5 x1 W (aE HZ1.o (by decide))) (HZD.o W hS).1 (HZD.o W hS).2 hK
   refine zA (λ a W hf hS hd K hK=>?_) ?_
   . have e33:a.eval (.tmp 33)=.agg (Ae k2).toArray:=hf.lit 33 (by decide) rfl;exact A2 (Ah rfl) rfl Li (vs:=#[.agg (Ae k2).toArray]) (by simp [e33]) (To k2 W HKL.o) (HZD.o W hS).1 (HZD.o W hS).2 hK
   refine zA (λ a W hf hS hd K hK=>?_) ?_
   . have e36:a.eval (.tmp 36)=.string (tx l3):=hf.lit 36 (by decide) rfl;exact A2 (Ah rfl) rfl Hx (vs:=#[.string (tx l3)]) (by simp [e36]) (Mq l3 W HZ3.o) (HZD.o W hS).1 (HZD.o W hS).2 hK
   refine zA (λ a W hf hS hd K hK=>?_) ?_
   . have e39:a.eval (.tmp 39)=.int .i64 (x4:Int):=hf.lit 39 (by decide) rfl;exact A2 (Ah rfl) rfl Cn (vs:=#[.int .i64 (x4:Int)]) (by simp [e39]) (D5 x4 W (aE HZ4.o (by decide))) (HZD.o W hS).1 (HZD.o W hS).2 hK
   refine zA (λ a W hf hS hd K hK=>?_) ?_
   . have e42:a.eval (.tmp 42)=.int .i64 (x5:Int):=hf.lit 42 (by decide) rfl;exact A2 (Ah rfl) rfl Cn (vs:=#[.int .i64 (x5:Int)]) (by simp [e42]) (D5 x5 W (aE HZ5.o (by decide))) (HZD.o W hS).1 (HZD.o W hS).2 hK
   refine zA (λ a W hf hS hd K hK=>?_) ?_
   . have e45:a.eval (.tmp 45)=.int .i64 (x6:Int):=hf.lit 45 (by decide) rfl;exact A2 (Ah rfl) rfl Cn (vs:=#[.int .i64 (x6:Int)]) (by simp [e45]) (D5 x6 W (aE HZ6.o (by decide))) (HZD.o W hS).1 (HZD.o W hS).2 hK
   refine zA (λ a W hf hS hd K hK=>?_) ?_
   . have d31:=(hd 2 (by decide+kernel)).get (s:=31) rfl;have d34:=(hd 5 (by decide+kernel)).get (s:=34) rfl;have d37:=(hd 8 (by decide+kernel)).get (s:=37) rfl;have d40:=(hd 11 (by decide+kernel)).get (s:=40) rfl;have d43:=(hd 14 (by decide+kernel)).get (s:=43) rfl;have d46:=(hd 17 (by decide+kernel)).get (s:=46) rfl;exact Dk (Ah rfl) rfl Hs (ps:= [.tmp 31,.tmp 34,.tmp 37,.tmp 40,.tmp 43,.tmp 46]) rfl (l:= [.mk 0 0 x1 [] [],.mk 1 0 0 k2 [],.mk 1 0 0 l3 [],.mk 0 0 x4 [] [],.mk 0 0 x5 [] [],.mk 0 0 x6 [] []]) ⟨d31,d34,d37,d40,d43,d46,trivial⟩ rfl (by decide) (by decide) (HZD.o W hS).1 (HZD.o W hS).2 hK
   refine zA (λ a W hf hS hd K hK=>?_) ?_
   . have d47:=(hd 18 (by decide+kernel)).get (s:=47) rfl;exact D2 (Ah rfl) rfl Dg d47 (HZD.o W hS).1 (λ v w1 h1 h2=>hK v w1 h1 h2) HFq.o
   refine zA (λ a W hf hS hd K hK=>?_) ?_
   . have e52:a.eval (.tmp 52)=.int .i64 (x1:Int):=hf.lit 52 (by decide) rfl;have e54:a.eval (.tmp 54)=.int .i64 (x4:Int):=hf.lit 54 (by decide) rfl;have e56:a.eval (.tmp 56)=.int .i64 (x5:Int):=hf.lit 56 (by decide) rfl;have e58:a.eval (.tmp 58)=.int .i64 (x6:Int):=hf.lit 58 (by decide) rfl;exact C8 (Ah rfl) rfl N5 (ps:= [.tmp 52,.tmp 54,.tmp 56,.tmp 58]) rfl (cs:= [.int .i64 (x1:Int),.int .i64 (x4:Int),.int .i64 (x5:Int),.int .i64 (x6:Int)]) (by simp only [aG,aI,e52,e54,e56,e58]) (by intro u hu; simp only [aL,aM,or_false] at hu; rcases hu with rfl | rfl | rfl | rfl <;> exact ⟨rfl,rfl⟩) rfl (by decide) (by decide) (HZD.o W hS).1 (HZD.o W hS).2 hK
   refine zA (λ a W hf hS hd K hK=>?_) ?_
   . have d59:=(hd 30 (by decide+kernel)).get (s:=59) rfl;have e50:a.eval (.tmp 50)=.string (tx l3):=hf.lit 50 (by decide) rfl;exact E5 (Ah rfl) rfl Fh (vs:=#[.string (tx l3),a.eval (.tmp 59)]) (by simp only [aT,aG,aI,e50] <;> rfl) (u:=.bool true) ((Iv (tx l3) [(x1:Int),(x4:Int),(x5:Int),(x6:Int)] _ W d59.1 (Tj HZ3.o)).mono λ e w1 h=>⟨by rw [h.1,HR3.o]; simp only [aU,aV,Gs HZ1.o,Gs HZ4.o,Gs HZ5.o,Gs HZ6.o,Bool.and_self],h.2⟩) (HZD.o W hS).1 hK
   refine zA (λ a W hf hS hd K hK=>?_) ?_
   . have e2:a.eval (.tmp 2)=.pointer (some ⟨q,0,none⟩):=hf.lit 2 (by decide) rfl;have d48:=(hd 19 (by decide+kernel)).get (s:=48) rfl;obtain ⟨cur,hc1,hc2⟩:=(HR.o W hS).len;rw [<-HXE.o] at d48;exact D1 (Ah rfl) rfl e2 d48 hc1 hc2 HFq.o hK
   refine zA (λ a W hf hS hd K hK=>?_) ?_
   . have d60:=(hd 31 (by decide+kernel)).get (s:=60) rfl;exact A6 (Ah rfl) (Hh rfl) (hK _ _ (GV.refl _ _ _ _) d60)
   exact Cm.nil
 . intro a W hf hS hp;have h3:=(hp 33 (by decide)).get (s:=3) rfl;obtain ⟨v,cs,h5,h6⟩:=(hp 32 (by decide)).fin;have e2:a.eval (.tmp 2)=.pointer (some ⟨q,0,none⟩):=hf.lit 2 (by decide) rfl;go_wp2_with fail;refine bodyPost_ret (Ap rfl Ak (show a.tmps.getD 2 undef=_ from e2) h6.length h5.cellsAll) hf.defers ⟨cs,?_,?_,(HR.o W hS).below⟩
   . rw [show a.tmps.getD 3 undef=.bool true from h3]
   . exact h6.mono (λ b hb=>by have:=HQW.o; omega)
theorem A0M (x1:Nat) (k2:Aa) (x3:Nat) (l4:Aa) (x5:Nat) (x6:Nat) (x7:Nat) (w:bJ) (hz1:x1<=1099511627776) (hk2:k2.length=16) (hz3:x3<=1099511627776) (hz4:l4.length<=1099511627776) (hr4:Au (tx l4)=true) (hz5:x5<=1099511627776) (hz6:x6<=1099511627776) (hz7:x7<=1099511627776): bK aA 210 #[.iface 307 (.agg (([.int .i64 (x1:Int)]:List bI)++(Ae k2++([.int .i64 (x3:Int),.string (tx l4),.int .i64 (x5:Int),.int .i64 (x6:Int),.int .i64 (x7:Int)]:List bI))).toArray)] w (Gu w (Ev 3 [.n x1,.k k2,.n x3,.s l4,.n x5,.n x6,.n x7]) true):=by
 have HC:Hq (VC w w.heap.size [] [] [] (w.alloc (.cells zs5.toArray 314))):=Ab (VC.start0 (by intro r hr; cases hr));obtain ⟨cs,hcs⟩:∃cs:List bI,cs=(([.int .i64 (x1:Int)]:List bI)++(Ae k2++([.int .i64 (x3:Int),.string (tx l4),.int .i64 (x5:Int),.int .i64 (x6:Int),.int .i64 (x7:Int)]:List bI))):=⟨_,rfl⟩
 rw [<-hcs];have HCS:=Ab hcs;have HCL:Hq (cs.length=22):=Ab (by rw [hcs]; simp [Ac,hk2]);have HCO:Hq (∀u∈cs,u.oneCell'=true):=Ab (by rw [hcs]; simp only [aN,aO]; exact ⟨⟨rfl,(λ _ h=>by cases h)⟩,Al _,⟨rfl,rfl,rfl,rfl,rfl,(λ _ h=>by cases h)⟩⟩);clear hcs;have HKL:=Ab hk2;clear hk2;have HZ1:=Ab hz1;clear hz1;have HZ3:=Ab hz3;clear hz3;have HZ4:=Ab hz4;clear hz4;have HR4:=Ab hr4;clear hr4;have HZ5:=Ab hz5;clear hz5;have HZ6:=Ab hz6;clear hz6;have HZ7:=Ab hz7;clear hz7;obtain ⟨z1,hta1⟩:∃z,∀W,(Instr.typeAssert (.iface 307 (.agg cs.toArray)) 20 108 true).run aA W=.ok (.tuple #[z,.bool false]) W:=⟨_,λ W=>A9 _ _ _ _ (by kernel_rfl) Rb (.inr ⟨_,_,rfl,by decide⟩) W⟩
 obtain ⟨z2,hta2⟩:∃z,∀W,(Instr.typeAssert (.iface 307 (.agg cs.toArray)) 20 200 true).run aA W=.ok (.tuple #[z,.bool false]) W:=⟨_,λ W=>A9 _ _ _ _ (by kernel_rfl) Xv (.inr ⟨_,_,rfl,by decide⟩) W⟩
 have hta:∀W,(Instr.typeAssert (.iface 307 (.agg cs.toArray)) 20 307 true).run aA W=.ok (.tuple #[.agg cs.toArray,.bool true]) W:=λ W=>Et _ _ _ (by kernel_rfl) W
 obtain ⟨X,hX⟩:∃X:Tv,X=Ev 3 [.n x1,.k k2,.n x3,.s l4,.n x5,.n x6,.n x7]:=⟨_,rfl⟩
 rw [<-hX];have HXE:Hq (X=.mk 2 3 0 [] [.mk 0 0 x1 [] [],.mk 1 0 0 k2 [],.mk 0 0 x3 [] [],.mk 1 0 0 l4 [],.mk 0 0 x5 [] [],.mk 0 0 x6 [] [],.mk 0 0 x7 [] []]):=Ab hX;clear hX;go_enter aP,aQ;have hz1:(w.alloc (.cells zs5.toArray 314)).heap.size=w.heap.size+1:=by simp
 have hn:=Blk.new (w.alloc (.cells zs5.toArray 314)) A2C 307;rw [hz1] at hn;have HN:=Ab hn;clear hn hz1;go_upto_region 10 with ((with_reducible refine zws 6 63 ?_);refine Ag rfl (.tmp 6) (.tmp 63) Hv rfl rfl (vs:=cs) rfl HCL.o HN.o (aD _) HCO.o ?_);intro W0 h2 k2;have hz1:(w.alloc (.cells zs5.toArray 314)).heap.size=w.heap.size+1:=by simp
 have h2':Blk W0 (w.heap.size+1) cs 307:=by
  rw [aK (by decide),aJ] at h2;exact h2
 have hb2:Below (w.alloc (.cells zs5.toArray 314)).heap.size (w.alloc (.cells zs5.toArray 314)) W0:=((aF _ _).alloc (aD _) _).trans (k2.below (by omega));have HC:=Ab ((HC.o.step hb2).addBlk h2' (by omega));clear h2 k2 h2' hb2 hz1 HN hta hta1 hta2;go_upto_region 10 with fail;obtain ⟨p,hp⟩:∃p,p=w.heap.size+1:=⟨_,rfl⟩
 obtain ⟨q,hq⟩:∃q,q=w.heap.size:=⟨_,rfl⟩
 rw [<-hp,<-hq] at HC ⊢;clear hp hq;obtain ⟨wd,hwd⟩:∃wd,wd=bJ.drew W0:=⟨_,rfl⟩
 have hvd:VC w q [(p,cs,307)] [] [] wd:=by rw [hwd]; exact HC.o.drew
 have HR:Hq (∀W,GV (λ b=>q<b) q X wd W->VR w q [(p,cs,307)] [] [] W):=Ab (λ W h=>hvd.gv h);have HZD:Hq (∀W,GV (λ b=>q<b) q X wd W->q<W.heap.size/\∀b,W.heap.size<=b->q<b):=Ab (λ W h=>⟨(HR.o W h).lt,λ b hb=>aR (HR.o W h).lt hb⟩);have HFq:Hq (¬(λ b=>q<b) q):=Ab (aS q);have HQW:Hq (w.heap.size=q):=Ab hvd.hq.symm;clear hvd HC;refine wp_region_held (S:=λ W=>GV (λ b=>q<b) q X wd W) (by kernel_rfl) ?_;change wpAnyH _ _ _ _ _ _ _ _ (bJ.drew _);rw [<-hwd];clear hwd;refine zH 0 ?_;refine zH 1 ?_ (v:=.int .i64 (x1:Int)) (hr:=λ W hW=>by have hc:W.cell? ⟨p,0,none⟩=some (.int .i64 (x1:Int)):=(((HR.o W hW).blkAt 0 rfl).cell 0).trans (by rw [HCS.o]; simp [aB,Ac,HKL.o]); go_simp);refine zH 3 ?_;refine zH 4 ?_ (v:=.agg (Ae k2).toArray) (hr:=λ W hW=>by exact E2 (b:=p) (off:=1) (cs:=Ae k2) rfl Aq rfl (by rw [Ac,HKL.o]) (by have:=((HR.o W hW).blkAt 0 rfl).cellsAt 1 16; rw [HCS.o] at this; simpa [aZ,bA,Ac,HKL.o] using this));refine zH 6 ?_;refine zH 7 ?_ (v:=.int .i64 (x3:Int)) (hr:=λ W hW=>by have hc:W.cell? ⟨p,17,none⟩=some (.int .i64 (x3:Int)):=(((HR.o W hW).blkAt 0 rfl).cell 17).trans (by rw [HCS.o]; simp [aB,Ac,HKL.o]); go_simp);refine zH 9 ?_;refine zH 10 ?_ (v:=.string (tx l4)) (hr:=λ W hW=>by have hc:W.cell? ⟨p,18,none⟩=some (.string (tx l4)):=(((HR.o W hW).blkAt 0 rfl).cell 18).trans (by rw [HCS.o]; simp [aB,Ac,HKL.o]); go_simp);refine zH 12 ?_;refine zH 13 ?_ (v:=.int .i64 (x5:Int)) (hr:=λ W hW=>by have hc:W.cell? ⟨p,19,none⟩=some (.int .i64 (x5:Int)):=(((HR.o W hW).blkAt 0 rfl).cell 19).trans (by rw [HCS.o]; simp [aB,Ac,HKL.o]); go_simp);refine zH 15 ?_;refine zH 16 ?_ (v:=.int .i64 (x6:Int)) (hr:=λ W hW=>by have hc:W.cell? ⟨p,20,none⟩=some (.int .i64 (x6:Int)):=(((HR.o W hW).blkAt 0 rfl).cell 20).trans (by rw [HCS.o]; simp [aB,Ac,HKL.o]); go_simp);refine zH 18 ?_;refine zH 19 ?_ (v:=.int .i64 (x7:Int)) (hr:=λ W hW=>by have hc:W.cell? ⟨p,21,none⟩=some (.int .i64 (x7:Int)):=(((HR.o W hW).blkAt 0 rfl).cell 21).trans (by rw [HCS.o]; simp [aB,Ac,HKL.o]); go_simp);refine zH 23 ?_;refine zH 24 ?_ (v:=.string (tx l4)) (hr:=λ W hW=>by have hc:W.cell? ⟨p,18,none⟩=some (.string (tx l4)):=(((HR.o W hW).blkAt 0 rfl).cell 18).trans (by rw [HCS.o]; simp [aB,Ac,HKL.o]); go_simp);refine zH 25 ?_;refine zH 26 ?_ (v:=.int .i64 (x1:Int)) (hr:=λ W hW=>by have hc:W.cell? ⟨p,0,none⟩=some (.int .i64 (x1:Int)):=(((HR.o W hW).blkAt 0 rfl).cell 0).trans (by rw [HCS.o]; simp [aB,Ac,HKL.o]); go_simp);refine zH 27 ?_;refine zH 28 ?_ (v:=.int .i64 (x3:Int)) (hr:=λ W hW=>by have hc:W.cell? ⟨p,17,none⟩=some (.int .i64 (x3:Int)):=(((HR.o W hW).blkAt 0 rfl).cell 17).trans (by rw [HCS.o]; simp [aB,Ac,HKL.o]); go_simp);refine zH 29 ?_;refine zH 30 ?_ (v:=.int .i64 (x5:Int)) (hr:=λ W hW=>by have hc:W.cell? ⟨p,19,none⟩=some (.int .i64 (x5:Int)):=(((HR.o W hW).blkAt 0 rfl).cell 19).trans (by rw [HCS.o]; simp [aB,Ac,HKL.o]); go_simp);refine zH 31 ?_;refine zH 32 ?_ (v:=.int .i64 (x6:Int)) (hr:=λ W hW=>by have hc:W.cell? ⟨p,20,none⟩=some (.int .i64 (x6:Int)):=(((HR.o W hW).blkAt 0 rfl).cell 20).trans (by rw [HCS.o]; simp [aB,Ac,HKL.o]); go_simp);refine zH 33 ?_;refine zH 34 ?_ (v:=.int .i64 (x7:Int)) (hr:=λ W hW=>by have hc:W.cell? ⟨p,21,none⟩=some (.int .i64 (x7:Int)):=(((HR.o W hW).blkAt 0 rfl).cell 21).trans (by rw [HCS.o]; simp [aB,Ac,HKL.o]); go_simp);refine Df (G:=GV (λ b=>q<b) q X) (Post:=L5 (λ b=>q<b) q X [.any,.any,.val (.mk 0 0 x1 [] []),.any,.any,.val (.mk 1 0 0 k2 []),.any,.any,.val (.mk 0 0 x3 [] []),.any,.any,.val (.mk 1 0 0 l4 []),.any,.any,.val (.mk 0 0 x5 [] []),.any,.any,.val (.mk 0 0 x6 [] []),.any,.any,.val (.mk 0 0 x7 [] []),.vals [.mk 0 0 x1 [] [],.mk 1 0 0 k2 [],.mk 0 0 x3 [] [],.mk 1 0 0 l4 [],.mk 0 0 x5 [] [],.mk 0 0 x6 [] [],.mk 0 0 x7 [] []],.val (.mk 2 3 0 [] [.mk 0 0 x1 [] [],.mk 1 0 0 k2 [],.mk 0 0 x3 [] [],.mk 1 0 0 l4 [],.mk 0 0 x5 [] [],.mk 0 0 x6 [] [],.mk 0 0 x7 [] []]),.any,.any,.any,.any,.any,.any,.any,.any,.any,.any,.any,.any,.row [.int .i64 (x1:Int),.int .i64 (x3:Int),.int .i64 (x5:Int),.int .i64 (x6:Int),.int .i64 (x7:Int)],.is (.bool true),.fin,.is (.bool true)]) (ds:= [66,69,72,75,78,81,84,85,86,99,100,3]) (GV.refl _ _ _) GV.trans (λ W W' h g=>GV.trans _ _ _ h g) (λ i v W W' h g=>PK.stable HFq.o h g) [2,5,8,11,14,17,20,21,22,35,36,37,38] 180 rfl (by decide+kernel) (by decide+kernel) ?_ ?_ (GV.refl _ _ _ _) (by decide+kernel)
 . refine zA (λ a W hf hS hd K hK=>?_) ?_
   . have e65:a.eval (.tmp 65)=.int .i64 (x1:Int):=hf.lit 65 (by decide) rfl;exact A2 (Ah rfl) rfl Cn (vs:=#[.int .i64 (x1:Int)]) (by simp [e65]) (D5 x1 W (aE HZ1.o (by decide))) (HZD.o W hS).1 (HZD.o W hS).2 hK
   refine zA (λ a W hf hS hd K hK=>?_) ?_
   . have e68:a.eval (.tmp 68)=.agg (Ae k2).toArray:=hf.lit 68 (by decide) rfl;exact A2 (Ah rfl) rfl Li (vs:=#[.agg (Ae k2).toArray]) (by simp [e68]) (To k2 W HKL.o) (HZD.o W hS).1 (HZD.o W hS).2 hK
   refine zA (λ a W hf hS hd K hK=>?_) ?_
   . have e71:a.eval (.tmp 71)=.int .i64 (x3:Int):=hf.lit 71 (by decide) rfl;exact A2 (Ah rfl) rfl Cn (vs:=#[.int .i64 (x3:Int)]) (by simp [e71]) (D5 x3 W (aE HZ3.o (by decide))) (HZD.o W hS).1 (HZD.o W hS).2 hK
   refine zA (λ a W hf hS hd K hK=>?_) ?_
   . have e74:a.eval (.tmp 74)=.string (tx l4):=hf.lit 74 (by decide) rfl;exact A2 (Ah rfl) rfl Hx (vs:=#[.string (tx l4)]) (by simp [e74]) (Mq l4 W HZ4.o) (HZD.o W hS).1 (HZD.o W hS).2 hK
   refine zA (λ a W hf hS hd K hK=>?_) ?_
   . have e77:a.eval (.tmp 77)=.int .i64 (x5:Int):=hf.lit 77 (by decide) rfl;exact A2 (Ah rfl) rfl Cn (vs:=#[.int .i64 (x5:Int)]) (by simp [e77]) (D5 x5 W (aE HZ5.o (by decide))) (HZD.o W hS).1 (HZD.o W hS).2 hK
   refine zA (λ a W hf hS hd K hK=>?_) ?_
   . have e80:a.eval (.tmp 80)=.int .i64 (x6:Int):=hf.lit 80 (by decide) rfl;exact A2 (Ah rfl) rfl Cn (vs:=#[.int .i64 (x6:Int)]) (by simp [e80]) (D5 x6 W (aE HZ6.o (by decide))) (HZD.o W hS).1 (HZD.o W hS).2 hK
   refine zA (λ a W hf hS hd K hK=>?_) ?_
   . have e83:a.eval (.tmp 83)=.int .i64 (x7:Int):=hf.lit 83 (by decide) rfl;exact A2 (Ah rfl) rfl Cn (vs:=#[.int .i64 (x7:Int)]) (by simp [e83]) (D5 x7 W (aE HZ7.o (by decide))) (HZD.o W hS).1 (HZD.o W hS).2 hK
   refine zA (λ a W hf hS hd K hK=>?_) ?_
   . have d66:=(hd 2 (by decide+kernel)).get (s:=66) rfl;have d69:=(hd 5 (by decide+kernel)).get (s:=69) rfl;have d72:=(hd 8 (by decide+kernel)).get (s:=72) rfl;have d75:=(hd 11 (by decide+kernel)).get (s:=75) rfl;have d78:=(hd 14 (by decide+kernel)).get (s:=78) rfl;have d81:=(hd 17 (by decide+kernel)).get (s:=81) rfl;have d84:=(hd 20 (by decide+kernel)).get (s:=84) rfl;exact Dk (Ah rfl) rfl Hs (ps:= [.tmp 66,.tmp 69,.tmp 72,.tmp 75,.tmp 78,.tmp 81,.tmp 84]) rfl (l:= [.mk 0 0 x1 [] [],.mk 1 0 0 k2 [],.mk 0 0 x3 [] [],.mk 1 0 0 l4 [],.mk 0 0 x5 [] [],.mk 0 0 x6 [] [],.mk 0 0 x7 [] []]) ⟨d66,d69,d72,d75,d78,d81,d84,trivial⟩ rfl (by decide) (by decide) (HZD.o W hS).1 (HZD.o W hS).2 hK
   refine zA (λ a W hf hS hd K hK=>?_) ?_
   . have d85:=(hd 21 (by decide+kernel)).get (s:=85) rfl;exact D2 (Ah rfl) rfl Dg d85 (HZD.o W hS).1 (λ v w1 h1 h2=>hK v w1 h1 h2) HFq.o
   refine zA (λ a W hf hS hd K hK=>?_) ?_
   . have e90:a.eval (.tmp 90)=.int .i64 (x1:Int):=hf.lit 90 (by decide) rfl;have e92:a.eval (.tmp 92)=.int .i64 (x3:Int):=hf.lit 92 (by decide) rfl;have e94:a.eval (.tmp 94)=.int .i64 (x5:Int):=hf.lit 94 (by decide) rfl;have e96:a.eval (.tmp 96)=.int .i64 (x6:Int):=hf.lit 96 (by decide) rfl;have e98:a.eval (.tmp 98)=.int .i64 (x7:Int):=hf.lit 98 (by decide) rfl;exact C8 (Ah rfl) rfl N5 (ps:= [.tmp 90,.tmp 92,.tmp 94,.tmp 96,.tmp 98]) rfl (cs:= [.int .i64 (x1:Int),.int .i64 (x3:Int),.int .i64 (x5:Int),.int .i64 (x6:Int),.int .i64 (x7:Int)]) (by simp only [aG,aI,e90,e92,e94,e96,e98]) (by intro u hu; simp only [aL,aM,or_false] at hu; rcases hu with rfl | rfl | rfl | rfl | rfl <;> exact ⟨rfl,rfl⟩) rfl (by decide) (by decide) (HZD.o W hS).1 (HZD.o W hS).2 hK
   refine zA (λ a W hf hS hd K hK=>?_) ?_
   . have d99:=(hd 35 (by decide+kernel)).get (s:=99) rfl;have e88:a.eval (.tmp 88)=.string (tx l4):=hf.lit 88 (by decide) rfl;exact E5 (Ah rfl) rfl Fh (vs:=#[.string (tx l4),a.eval (.tmp 99)]) (by simp only [aT,aG,aI,e88] <;> rfl) (u:=.bool true) ((Iv (tx l4) [(x1:Int),(x3:Int),(x5:Int),(x6:Int),(x7:Int)] _ W d99.1 (Tj HZ4.o)).mono λ e w1 h=>⟨by rw [h.1,HR4.o]; simp only [aU,aV,Gs HZ1.o,Gs HZ3.o,Gs HZ5.o,Gs HZ6.o,Gs HZ7.o,Bool.and_self],h.2⟩) (HZD.o W hS).1 hK
   refine zA (λ a W hf hS hd K hK=>?_) ?_
   . have e2:a.eval (.tmp 2)=.pointer (some ⟨q,0,none⟩):=hf.lit 2 (by decide) rfl;have d86:=(hd 22 (by decide+kernel)).get (s:=86) rfl;obtain ⟨cur,hc1,hc2⟩:=(HR.o W hS).len;rw [<-HXE.o] at d86;exact D1 (Ah rfl) rfl e2 d86 hc1 hc2 HFq.o hK
   refine zA (λ a W hf hS hd K hK=>?_) ?_
   . have d100:=(hd 36 (by decide+kernel)).get (s:=100) rfl;exact A6 (Ah rfl) (Hh rfl) (hK _ _ (GV.refl _ _ _ _) d100)
   exact Cm.nil
 . intro a W hf hS hp;have h3:=(hp 38 (by decide)).get (s:=3) rfl;obtain ⟨v,cs,h5,h6⟩:=(hp 37 (by decide)).fin;have e2:a.eval (.tmp 2)=.pointer (some ⟨q,0,none⟩):=hf.lit 2 (by decide) rfl;go_wp2_with fail;refine bodyPost_ret (Ap rfl Ak (show a.tmps.getD 2 undef=_ from e2) h6.length h5.cellsAll) hf.defers ⟨cs,?_,?_,(HR.o W hS).below⟩
   . rw [show a.tmps.getD 3 undef=.bool true from h3]
   . exact h6.mono (λ b hb=>by have:=HQW.o; omega)
theorem A0N (l1:Aa) (x2:Nat) (x3:Nat) (k4:Aa) (l5:Aa) (v5:bI) (w:bJ) (hz1:l1.length<=1099511627776) (hr1:Au (tx l1)=true) (hz2:x2<=1099511627776) (hz3:x3<=1099511627776) (hk4:k4.length=16) (hb5:Bs w v5 l5) (hz5:l5.length<=1099511627776): bK aA 210 #[.iface 224 (.agg (([.string (tx l1),.int .i64 (x2:Int),.int .i64 (x3:Int)]:List bI)++(Ae k4++([v5]:List bI))).toArray)] w (Gu w (Ev 4 [.s l1,.n x2,.n x3,.k k4,.b l5]) true):=by
 obtain ⟨a5,c5_,rfl,hc5,hm5⟩:=hb5.form;have HC:Hq (VC w w.heap.size [] [] [(.slice a5 l5.length c5_,l5)] (w.alloc (.cells zs5.toArray 314))):=Ab (VC.start0 (by intro r hr; simp only [aL,aM,or_false] at hr; rcases hr with rfl; exact hb5));obtain ⟨cs,hcs⟩:∃cs:List bI,cs=(([.string (tx l1),.int .i64 (x2:Int),.int .i64 (x3:Int)]:List bI)++(Ae k4++([.slice a5 l5.length c5_]:List bI))):=⟨_,rfl⟩
 rw [<-hcs];have HCS:=Ab hcs;have HCL:Hq (cs.length=20):=Ab (by rw [hcs]; simp [Ac,hk4]);have HCO:Hq (∀u∈cs,u.oneCell'=true):=Ab (by rw [hcs]; simp only [aN,aO]; exact ⟨⟨rfl,rfl,rfl,(λ _ h=>by cases h)⟩,Al _,⟨rfl,(λ _ h=>by cases h)⟩⟩);clear hcs;have HKL:=Ab hk4;clear hk4;have HZ1:=Ab hz1;clear hz1;have HR1:=Ab hr1;clear hr1;have HZ2:=Ab hz2;clear hz2;have HZ3:=Ab hz3;clear hz3;have HZ5:=Ab hz5;clear hz5;clear hb5;obtain ⟨z1,hta1⟩:∃z,∀W,(Instr.typeAssert (.iface 224 (.agg cs.toArray)) 20 108 true).run aA W=.ok (.tuple #[z,.bool false]) W:=⟨_,λ W=>A9 _ _ _ _ (by kernel_rfl) Rb (.inr ⟨_,_,rfl,by decide⟩) W⟩
 obtain ⟨z2,hta2⟩:∃z,∀W,(Instr.typeAssert (.iface 224 (.agg cs.toArray)) 20 200 true).run aA W=.ok (.tuple #[z,.bool false]) W:=⟨_,λ W=>A9 _ _ _ _ (by kernel_rfl) Xv (.inr ⟨_,_,rfl,by decide⟩) W⟩
 obtain ⟨z3,hta3⟩:∃z,∀W,(Instr.typeAssert (.iface 224 (.agg cs.toArray)) 20 307 true).run aA W=.ok (.tuple #[z,.bool false]) W:=⟨_,λ W=>A9 _ _ _ _ (by kernel_rfl) A3l (.inr ⟨_,_,rfl,by decide⟩) W⟩
 have hta:∀W,(Instr.typeAssert (.iface 224 (.agg cs.toArray)) 20 224 true).run aA W=.ok (.tuple #[.agg cs.toArray,.bool true]) W:=λ W=>Et _ _ _ (by kernel_rfl) W
 obtain ⟨X,hX⟩:∃X:Tv,X=Ev 4 [.s l1,.n x2,.n x3,.k k4,.b l5]:=⟨_,rfl⟩
 rw [<-hX];have HXE:Hq (X=.mk 2 4 0 [] [.mk 1 0 0 l1 [],.mk 0 0 x2 [] [],.mk 0 0 x3 [] [],.mk 1 0 0 k4 [],.mk 1 0 0 l5 []]):=Ab hX;clear hX;go_enter aP,aQ;have hz1:(w.alloc (.cells zs5.toArray 314)).heap.size=w.heap.size+1:=by simp
 have hn:=Blk.new (w.alloc (.cells zs5.toArray 314)) A2D 224;rw [hz1] at hn;have HN:=Ab hn;clear hn hz1;go_upto_region 13 with ((with_reducible refine zws 7 103 ?_);refine Ag rfl (.tmp 7) (.tmp 103) Ix rfl rfl (vs:=cs) rfl HCL.o HN.o (aD _) HCO.o ?_);intro W0 h2 k2;have hz1:(w.alloc (.cells zs5.toArray 314)).heap.size=w.heap.size+1:=by simp
 have h2':Blk W0 (w.heap.size+1) cs 224:=by
  rw [aK (by decide),aJ] at h2;exact h2
 have hb2:Below (w.alloc (.cells zs5.toArray 314)).heap.size (w.alloc (.cells zs5.toArray 314)) W0:=((aF _ _).alloc (aD _) _).trans (k2.below (by omega));have HC:=Ab ((HC.o.step hb2).addBlk h2' (by omega));clear h2 k2 h2' hb2 hz1 HN hta hta1 hta2 hta3;go_upto_region 13 with fail;obtain ⟨p,hp⟩:∃p,p=w.heap.size+1:=⟨_,rfl⟩
 obtain ⟨q,hq⟩:∃q,q=w.heap.size:=⟨_,rfl⟩
 rw [<-hp,<-hq] at HC ⊢;clear hp hq;obtain ⟨wd,hwd⟩:∃wd,wd=bJ.drew W0:=⟨_,rfl⟩
 have hvd:VC w q [(p,cs,224)] [] [(.slice a5 l5.length c5_,l5)] wd:=by rw [hwd]; exact HC.o.drew
 have HR:Hq (∀W,GV (λ b=>q<b) q X wd W->VR w q [(p,cs,224)] [] [(.slice a5 l5.length c5_,l5)] W):=Ab (λ W h=>hvd.gv h);have HZD:Hq (∀W,GV (λ b=>q<b) q X wd W->q<W.heap.size/\∀b,W.heap.size<=b->q<b):=Ab (λ W h=>⟨(HR.o W h).lt,λ b hb=>aR (HR.o W h).lt hb⟩);have HFq:Hq (¬(λ b=>q<b) q):=Ab (aS q);have HQW:Hq (w.heap.size=q):=Ab hvd.hq.symm;clear hvd HC;refine wp_region_held (S:=λ W=>GV (λ b=>q<b) q X wd W) (by kernel_rfl) ?_;change wpAnyH _ _ _ _ _ _ _ _ (bJ.drew _);rw [<-hwd];clear hwd;refine zH 0 ?_;refine zH 1 ?_ (v:=.string (tx l1)) (hr:=λ W hW=>by have hc:W.cell? ⟨p,0,none⟩=some (.string (tx l1)):=(((HR.o W hW).blkAt 0 rfl).cell 0).trans (by rw [HCS.o]; simp [aB,Ac,HKL.o]); go_simp);refine zH 3 ?_;refine zH 4 ?_ (v:=.int .i64 (x2:Int)) (hr:=λ W hW=>by have hc:W.cell? ⟨p,1,none⟩=some (.int .i64 (x2:Int)):=(((HR.o W hW).blkAt 0 rfl).cell 1).trans (by rw [HCS.o]; simp [aB,Ac,HKL.o]); go_simp);refine zH 6 ?_;refine zH 7 ?_ (v:=.int .i64 (x3:Int)) (hr:=λ W hW=>by have hc:W.cell? ⟨p,2,none⟩=some (.int .i64 (x3:Int)):=(((HR.o W hW).blkAt 0 rfl).cell 2).trans (by rw [HCS.o]; simp [aB,Ac,HKL.o]); go_simp);refine zH 9 ?_;refine zH 10 ?_ (v:=.agg (Ae k4).toArray) (hr:=λ W hW=>by exact E2 (b:=p) (off:=3) (cs:=Ae k4) rfl Aq rfl (by rw [Ac,HKL.o]) (by have:=((HR.o W hW).blkAt 0 rfl).cellsAt 3 16; rw [HCS.o] at this; simpa [aZ,bA,Ac,HKL.o] using this));refine zH 12 ?_;refine zH 13 ?_ (v:=.slice a5 l5.length c5_) (hr:=λ W hW=>by have hc:W.cell? ⟨p,19,none⟩=some (.slice a5 l5.length c5_):=(((HR.o W hW).blkAt 0 rfl).cell 19).trans (by rw [HCS.o]; simp [aB,Ac,HKL.o]); go_simp);refine zH 17 ?_;refine zH 18 ?_ (v:=.string (tx l1)) (hr:=λ W hW=>by have hc:W.cell? ⟨p,0,none⟩=some (.string (tx l1)):=(((HR.o W hW).blkAt 0 rfl).cell 0).trans (by rw [HCS.o]; simp [aB,Ac,HKL.o]); go_simp);refine zH 19 ?_;refine zH 20 ?_ (v:=.int .i64 (x2:Int)) (hr:=λ W hW=>by have hc:W.cell? ⟨p,1,none⟩=some (.int .i64 (x2:Int)):=(((HR.o W hW).blkAt 0 rfl).cell 1).trans (by rw [HCS.o]; simp [aB,Ac,HKL.o]); go_simp);refine zH 21 ?_;refine zH 22 ?_ (v:=.int .i64 (x3:Int)) (hr:=λ W hW=>by have hc:W.cell? ⟨p,2,none⟩=some (.int .i64 (x3:Int)):=(((HR.o W hW).blkAt 0 rfl).cell 2).trans (by rw [HCS.o]; simp [aB,Ac,HKL.o]); go_simp);refine Df (G:=GV (λ b=>q<b) q X) (Post:=L5 (λ b=>q<b) q X [.any,.any,.val (.mk 1 0 0 l1 []),.any,.any,.val (.mk 0 0 x2 [] []),.any,.any,.val (.mk 0 0 x3 [] []),.any,.any,.val (.mk 1 0 0 k4 []),.any,.any,.val (.mk 1 0 0 l5 []),.vals [.mk 1 0 0 l1 [],.mk 0 0 x2 [] [],.mk 0 0 x3 [] [],.mk 1 0 0 k4 [],.mk 1 0 0 l5 []],.val (.mk 2 4 0 [] [.mk 1 0 0 l1 [],.mk 0 0 x2 [] [],.mk 0 0 x3 [] [],.mk 1 0 0 k4 [],.mk 1 0 0 l5 []]),.any,.any,.any,.any,.any,.any,.row [.int .i64 (x2:Int),.int .i64 (x3:Int)],.is (.bool true),.fin,.is (.bool true)]) (ds:= [106,109,112,115,118,119,120,127,128,3]) (GV.refl _ _ _) GV.trans (λ W W' h g=>GV.trans _ _ _ h g) (λ i v W W' h g=>PK.stable HFq.o h g) [2,5,8,11,14,15,16,23,24,25,26] 180 rfl (by decide+kernel) (by decide+kernel) ?_ ?_ (GV.refl _ _ _ _) (by decide+kernel)
 . refine zA (λ a W hf hS hd K hK=>?_) ?_
   . have e105:a.eval (.tmp 105)=.string (tx l1):=hf.lit 105 (by decide) rfl;exact A2 (Ah rfl) rfl Hx (vs:=#[.string (tx l1)]) (by simp [e105]) (Mq l1 W HZ1.o) (HZD.o W hS).1 (HZD.o W hS).2 hK
   refine zA (λ a W hf hS hd K hK=>?_) ?_
   . have e108:a.eval (.tmp 108)=.int .i64 (x2:Int):=hf.lit 108 (by decide) rfl;exact A2 (Ah rfl) rfl Cn (vs:=#[.int .i64 (x2:Int)]) (by simp [e108]) (D5 x2 W (aE HZ2.o (by decide))) (HZD.o W hS).1 (HZD.o W hS).2 hK
   refine zA (λ a W hf hS hd K hK=>?_) ?_
   . have e111:a.eval (.tmp 111)=.int .i64 (x3:Int):=hf.lit 111 (by decide) rfl;exact A2 (Ah rfl) rfl Cn (vs:=#[.int .i64 (x3:Int)]) (by simp [e111]) (D5 x3 W (aE HZ3.o (by decide))) (HZD.o W hS).1 (HZD.o W hS).2 hK
   refine zA (λ a W hf hS hd K hK=>?_) ?_
   . have e114:a.eval (.tmp 114)=.agg (Ae k4).toArray:=hf.lit 114 (by decide) rfl;exact A2 (Ah rfl) rfl Li (vs:=#[.agg (Ae k4).toArray]) (by simp [e114]) (To k4 W HKL.o) (HZD.o W hS).1 (HZD.o W hS).2 hK
   refine zA (λ a W hf hS hd K hK=>?_) ?_
   . have e117:a.eval (.tmp 117)=.slice a5 l5.length c5_:=hf.lit 117 (by decide) rfl;exact A2 (Ah rfl) rfl Ez (vs:=#[.slice a5 l5.length c5_]) (by simp [e117]) (Di _ l5 W ((HR.o W hS).rowAt 0 rfl) HZ5.o) (HZD.o W hS).1 (HZD.o W hS).2 hK
   refine zA (λ a W hf hS hd K hK=>?_) ?_
   . have d106:=(hd 2 (by decide+kernel)).get (s:=106) rfl;have d109:=(hd 5 (by decide+kernel)).get (s:=109) rfl;have d112:=(hd 8 (by decide+kernel)).get (s:=112) rfl;have d115:=(hd 11 (by decide+kernel)).get (s:=115) rfl;have d118:=(hd 14 (by decide+kernel)).get (s:=118) rfl;exact Dk (Ah rfl) rfl Hs (ps:= [.tmp 106,.tmp 109,.tmp 112,.tmp 115,.tmp 118]) rfl (l:= [.mk 1 0 0 l1 [],.mk 0 0 x2 [] [],.mk 0 0 x3 [] [],.mk 1 0 0 k4 [],.mk 1 0 0 l5 []]) ⟨d106,d109,d112,d115,d118,trivial⟩ rfl (by decide) (by decide) (HZD.o W hS).1 (HZD.o W hS).2 hK
   refine zA (λ a W hf hS hd K hK=>?_) ?_
   . have d119:=(hd 15 (by decide+kernel)).get (s:=119) rfl;exact D2 (Ah rfl) rfl Dg d119 (HZD.o W hS).1 (λ v w1 h1 h2=>hK v w1 h1 h2) HFq.o
   refine zA (λ a W hf hS hd K hK=>?_) ?_
   . have e124:a.eval (.tmp 124)=.int .i64 (x2:Int):=hf.lit 124 (by decide) rfl;have e126:a.eval (.tmp 126)=.int .i64 (x3:Int):=hf.lit 126 (by decide) rfl;exact C8 (Ah rfl) rfl N5 (ps:= [.tmp 124,.tmp 126]) rfl (cs:= [.int .i64 (x2:Int),.int .i64 (x3:Int)]) (by simp only [aG,aI,e124,e126]) (by intro u hu; simp only [aL,aM,or_false] at hu; rcases hu with rfl | rfl <;> exact ⟨rfl,rfl⟩) rfl (by decide) (by decide) (HZD.o W hS).1 (HZD.o W hS).2 hK
   refine zA (λ a W hf hS hd K hK=>?_) ?_
   . have d127:=(hd 23 (by decide+kernel)).get (s:=127) rfl;have e122:a.eval (.tmp 122)=.string (tx l1):=hf.lit 122 (by decide) rfl;exact E5 (Ah rfl) rfl Fh (vs:=#[.string (tx l1),a.eval (.tmp 127)]) (by simp only [aT,aG,aI,e122] <;> rfl) (u:=.bool true) ((Iv (tx l1) [(x2:Int),(x3:Int)] _ W d127.1 (Tj HZ1.o)).mono λ e w1 h=>⟨by rw [h.1,HR1.o]; simp only [aU,aV,Gs HZ2.o,Gs HZ3.o,Bool.and_self],h.2⟩) (HZD.o W hS).1 hK
   refine zA (λ a W hf hS hd K hK=>?_) ?_
   . have e2:a.eval (.tmp 2)=.pointer (some ⟨q,0,none⟩):=hf.lit 2 (by decide) rfl;have d120:=(hd 16 (by decide+kernel)).get (s:=120) rfl;obtain ⟨cur,hc1,hc2⟩:=(HR.o W hS).len;rw [<-HXE.o] at d120;exact D1 (Ah rfl) rfl e2 d120 hc1 hc2 HFq.o hK
   refine zA (λ a W hf hS hd K hK=>?_) ?_
   . have d128:=(hd 24 (by decide+kernel)).get (s:=128) rfl;exact A6 (Ah rfl) (Hh rfl) (hK _ _ (GV.refl _ _ _ _) d128)
   exact Cm.nil
 . intro a W hf hS hp;have h3:=(hp 26 (by decide)).get (s:=3) rfl;obtain ⟨v,cs,h5,h6⟩:=(hp 25 (by decide)).fin;have e2:a.eval (.tmp 2)=.pointer (some ⟨q,0,none⟩):=hf.lit 2 (by decide) rfl;go_wp2_with fail;refine bodyPost_ret (Ap rfl Ak (show a.tmps.getD 2 undef=_ from e2) h6.length h5.cellsAll) hf.defers ⟨cs,?_,?_,(HR.o W hS).below⟩
   . rw [show a.tmps.getD 3 undef=.bool true from h3]
   . exact h6.mono (λ b hb=>by have:=HQW.o; omega)
theorem A0O (x1:Nat) (x2:Nat) (w:bJ) (hz1:x1<=1099511627776) (hz2:x2<=1099511627776): bK aA 210 #[.iface 130 (.agg ([.int .i64 (x1:Int),.int .i64 (x2:Int)]:List bI).toArray)] w (Gu w (Ev 5 [.n x1,.n x2]) true):=by
 have HC:Hq (VC w w.heap.size [] [] [] (w.alloc (.cells zs5.toArray 314))):=Ab (VC.start0 (by intro r hr; cases hr));obtain ⟨cs,hcs⟩:∃cs:List bI,cs=([.int .i64 (x1:Int),.int .i64 (x2:Int)]:List bI):=⟨_,rfl⟩
 rw [<-hcs];have HCS:=Ab hcs;have HCL:Hq (cs.length=2):=Ab (by rw [hcs]; simp);have HCO:Hq (∀u∈cs,u.oneCell'=true):=Ab (by rw [hcs]; simp only [aN,aO]; exact ⟨rfl,rfl,(λ _ h=>by cases h)⟩);clear hcs;have HZ1:=Ab hz1;clear hz1;have HZ2:=Ab hz2;clear hz2;obtain ⟨z1,hta1⟩:∃z,∀W,(Instr.typeAssert (.iface 130 (.agg cs.toArray)) 20 108 true).run aA W=.ok (.tuple #[z,.bool false]) W:=⟨_,λ W=>A9 _ _ _ _ (by kernel_rfl) Rb (.inr ⟨_,_,rfl,by decide⟩) W⟩
 obtain ⟨z2,hta2⟩:∃z,∀W,(Instr.typeAssert (.iface 130 (.agg cs.toArray)) 20 200 true).run aA W=.ok (.tuple #[z,.bool false]) W:=⟨_,λ W=>A9 _ _ _ _ (by kernel_rfl) Xv (.inr ⟨_,_,rfl,by decide⟩) W⟩
 obtain ⟨z3,hta3⟩:∃z,∀W,(Instr.typeAssert (.iface 130 (.agg cs.toArray)) 20 307 true).run aA W=.ok (.tuple #[z,.bool false]) W:=⟨_,λ W=>A9 _ _ _ _ (by kernel_rfl) A3l (.inr ⟨_,_,rfl,by decide⟩) W⟩
 obtain ⟨z4,hta4⟩:∃z,∀W,(Instr.typeAssert (.iface 130 (.agg cs.toArray)) 20 224 true).run aA W=.ok (.tuple #[z,.bool false]) W:=⟨_,λ W=>A9 _ _ _ _ (by kernel_rfl) A6Q (.inr ⟨_,_,rfl,by decide⟩) W⟩
 have hta:∀W,(Instr.typeAssert (.iface 130 (.agg cs.toArray)) 20 130 true).run aA W=.ok (.tuple #[.agg cs.toArray,.bool true]) W:=λ W=>Et _ _ _ (by kernel_rfl) W
 obtain ⟨X,hX⟩:∃X:Tv,X=Ev 5 [.n x1,.n x2]:=⟨_,rfl⟩
 rw [<-hX];have HXE:Hq (X=.mk 2 5 0 [] [.mk 0 0 x1 [] [],.mk 0 0 x2 [] []]):=Ab hX;clear hX;go_enter aP,aQ;have hz1:(w.alloc (.cells zs5.toArray 314)).heap.size=w.heap.size+1:=by simp
 have hn:=Blk.new (w.alloc (.cells zs5.toArray 314)) A2E 130;rw [hz1] at hn;have HN:=Ab hn;clear hn hz1;go_upto_region 16 with ((with_reducible refine zws 8 131 ?_);refine Ag rfl (.tmp 8) (.tmp 131) Gg rfl rfl (vs:=cs) rfl HCL.o HN.o (aD _) HCO.o ?_);intro W0 h2 k2;have hz1:(w.alloc (.cells zs5.toArray 314)).heap.size=w.heap.size+1:=by simp
 have h2':Blk W0 (w.heap.size+1) cs 130:=by
  rw [aK (by decide),aJ] at h2;exact h2
 have hb2:Below (w.alloc (.cells zs5.toArray 314)).heap.size (w.alloc (.cells zs5.toArray 314)) W0:=((aF _ _).alloc (aD _) _).trans (k2.below (by omega));have HC:=Ab ((HC.o.step hb2).addBlk h2' (by omega));clear h2 k2 h2' hb2 hz1 HN hta hta1 hta2 hta3 hta4;go_upto_region 16 with fail;obtain ⟨p,hp⟩:∃p,p=w.heap.size+1:=⟨_,rfl⟩
 obtain ⟨q,hq⟩:∃q,q=w.heap.size:=⟨_,rfl⟩
 rw [<-hp,<-hq] at HC ⊢;clear hp hq;obtain ⟨wd,hwd⟩:∃wd,wd=bJ.drew W0:=⟨_,rfl⟩
 have hvd:VC w q [(p,cs,130)] [] [] wd:=by rw [hwd]; exact HC.o.drew
 have HR:Hq (∀W,GV (λ b=>q<b) q X wd W->VR w q [(p,cs,130)] [] [] W):=Ab (λ W h=>hvd.gv h);have HZD:Hq (∀W,GV (λ b=>q<b) q X wd W->q<W.heap.size/\∀b,W.heap.size<=b->q<b):=Ab (λ W h=>⟨(HR.o W h).lt,λ b hb=>aR (HR.o W h).lt hb⟩);have HFq:Hq (¬(λ b=>q<b) q):=Ab (aS q);have HQW:Hq (w.heap.size=q):=Ab hvd.hq.symm;clear hvd HC;refine wp_region_held (S:=λ W=>GV (λ b=>q<b) q X wd W) (by kernel_rfl) ?_;change wpAnyH _ _ _ _ _ _ _ _ (bJ.drew _);rw [<-hwd];clear hwd;refine zH 0 ?_;refine zH 1 ?_ (v:=.int .i64 (x1:Int)) (hr:=λ W hW=>by have hc:W.cell? ⟨p,0,none⟩=some (.int .i64 (x1:Int)):=(((HR.o W hW).blkAt 0 rfl).cell 0).trans (by rw [HCS.o]; rfl); go_simp);refine zH 3 ?_;refine zH 4 ?_ (v:=.int .i64 (x2:Int)) (hr:=λ W hW=>by have hc:W.cell? ⟨p,1,none⟩=some (.int .i64 (x2:Int)):=(((HR.o W hW).blkAt 0 rfl).cell 1).trans (by rw [HCS.o]; rfl); go_simp);refine zH 8 ?_;refine zH 9 ?_ (v:=.int .i64 (x1:Int)) (hr:=λ W hW=>by have hc:W.cell? ⟨p,0,none⟩=some (.int .i64 (x1:Int)):=(((HR.o W hW).blkAt 0 rfl).cell 0).trans (by rw [HCS.o]; rfl); go_simp);refine zH 10 ?_;refine zH 11 ?_ (v:=.int .i64 (x2:Int)) (hr:=λ W hW=>by have hc:W.cell? ⟨p,1,none⟩=some (.int .i64 (x2:Int)):=(((HR.o W hW).blkAt 0 rfl).cell 1).trans (by rw [HCS.o]; rfl); go_simp);refine Df (G:=GV (λ b=>q<b) q X) (Post:=L5 (λ b=>q<b) q X [.any,.any,.val (.mk 0 0 x1 [] []),.any,.any,.val (.mk 0 0 x2 [] []),.vals [.mk 0 0 x1 [] [],.mk 0 0 x2 [] []],.val (.mk 2 5 0 [] [.mk 0 0 x1 [] [],.mk 0 0 x2 [] []]),.any,.any,.any,.any,.row [.int .i64 (x1:Int),.int .i64 (x2:Int)],.is (.bool true),.fin,.is (.bool true)]) (ds:= [134,137,138,139,144,145,3]) (GV.refl _ _ _) GV.trans (λ W W' h g=>GV.trans _ _ _ h g) (λ i v W W' h g=>PK.stable HFq.o h g) [2,5,6,7,12,13,14,15] 180 rfl (by decide+kernel) (by decide+kernel) ?_ ?_ (GV.refl _ _ _ _) (by decide+kernel)
 . refine zA (λ a W hf hS hd K hK=>?_) ?_
   . have e133:a.eval (.tmp 133)=.int .i64 (x1:Int):=hf.lit 133 (by decide) rfl;exact A2 (Ah rfl) rfl Cn (vs:=#[.int .i64 (x1:Int)]) (by simp [e133]) (D5 x1 W (aE HZ1.o (by decide))) (HZD.o W hS).1 (HZD.o W hS).2 hK
   refine zA (λ a W hf hS hd K hK=>?_) ?_
   . have e136:a.eval (.tmp 136)=.int .i64 (x2:Int):=hf.lit 136 (by decide) rfl;exact A2 (Ah rfl) rfl Cn (vs:=#[.int .i64 (x2:Int)]) (by simp [e136]) (D5 x2 W (aE HZ2.o (by decide))) (HZD.o W hS).1 (HZD.o W hS).2 hK
   refine zA (λ a W hf hS hd K hK=>?_) ?_
   . have d134:=(hd 2 (by decide+kernel)).get (s:=134) rfl;have d137:=(hd 5 (by decide+kernel)).get (s:=137) rfl;exact Dk (Ah rfl) rfl Hs (ps:= [.tmp 134,.tmp 137]) rfl (l:= [.mk 0 0 x1 [] [],.mk 0 0 x2 [] []]) ⟨d134,d137,trivial⟩ rfl (by decide) (by decide) (HZD.o W hS).1 (HZD.o W hS).2 hK
   refine zA (λ a W hf hS hd K hK=>?_) ?_
   . have d138:=(hd 6 (by decide+kernel)).get (s:=138) rfl;exact D2 (Ah rfl) rfl Dg d138 (HZD.o W hS).1 (λ v w1 h1 h2=>hK v w1 h1 h2) HFq.o
   refine zA (λ a W hf hS hd K hK=>?_) ?_
   . have e141:a.eval (.tmp 141)=.int .i64 (x1:Int):=hf.lit 141 (by decide) rfl;have e143:a.eval (.tmp 143)=.int .i64 (x2:Int):=hf.lit 143 (by decide) rfl;exact C8 (Ah rfl) rfl N5 (ps:= [.tmp 141,.tmp 143]) rfl (cs:= [.int .i64 (x1:Int),.int .i64 (x2:Int)]) (by simp only [aG,aI,e141,e143]) (by intro u hu; simp only [aL,aM,or_false] at hu; rcases hu with rfl | rfl <;> exact ⟨rfl,rfl⟩) rfl (by decide) (by decide) (HZD.o W hS).1 (HZD.o W hS).2 hK
   refine zA (λ a W hf hS hd K hK=>?_) ?_
   . have d144:=(hd 12 (by decide+kernel)).get (s:=144) rfl;exact E5 (Ah rfl) rfl Fh (vs:=#[.string ⟨#[97]⟩,a.eval (.tmp 144)]) (by simp only [aT,aG,aI] <;> rfl) (u:=.bool true) ((Iv ⟨#[97]⟩ [(x1:Int),(x2:Int)] _ W d144.1 (by decide)).mono λ e w1 h=>⟨by rw [h.1,A6E]; simp only [aU,aV,Gs HZ1.o,Gs HZ2.o,Bool.and_self],h.2⟩) (HZD.o W hS).1 hK
   refine zA (λ a W hf hS hd K hK=>?_) ?_
   . have e2:a.eval (.tmp 2)=.pointer (some ⟨q,0,none⟩):=hf.lit 2 (by decide) rfl;have d139:=(hd 7 (by decide+kernel)).get (s:=139) rfl;obtain ⟨cur,hc1,hc2⟩:=(HR.o W hS).len;rw [<-HXE.o] at d139;exact D1 (Ah rfl) rfl e2 d139 hc1 hc2 HFq.o hK
   refine zA (λ a W hf hS hd K hK=>?_) ?_
   . have d145:=(hd 13 (by decide+kernel)).get (s:=145) rfl;exact A6 (Ah rfl) (Hh rfl) (hK _ _ (GV.refl _ _ _ _) d145)
   exact Cm.nil
 . intro a W hf hS hp;have h3:=(hp 15 (by decide)).get (s:=3) rfl;obtain ⟨v,cs,h5,h6⟩:=(hp 14 (by decide)).fin;have e2:a.eval (.tmp 2)=.pointer (some ⟨q,0,none⟩):=hf.lit 2 (by decide) rfl;go_wp2_with fail;refine bodyPost_ret (Ap rfl Ak (show a.tmps.getD 2 undef=_ from e2) h6.length h5.cellsAll) hf.defers ⟨cs,?_,?_,(HR.o W hS).below⟩
   . rw [show a.tmps.getD 3 undef=.bool true from h3]
   . exact h6.mono (λ b hb=>by have:=HQW.o; omega)
def Cx (w:bJ) (r:Aa×Int) (e:Ending) (w':bJ):Prop:=∃v,e=.returned (.tuple #[v,.int .i64 r.2])/\Du w' w.heap.size v r.1/\Below w.heap.size w w'
theorem M4 (x:Tv) (F:Nat->Prop) (cs:List bI) (w:bJ) (h:TvF w F x cs) (hn:Nw x) (hlen:A4 8 x=true->(Ba x).length<=1073741824): bK aA 154 #[.agg cs.toArray] w (Cx w (wrS x)):=by
 have hcl:=h.length;have HCL:=Ab hcl;have HN:=Ab (Blk.new w cs 314);have HT:=Ab h;have HR:=Ab (Lg x F cs (w.alloc (.cells cs.toArray 314)) (h.below ((aF _ _).alloc (aD _) _)));have HNW:=Ab hn;have HLEN:=Ab hlen;clear h hcl hn hlen;go_enter Tryz.func154,Tryz.ntmps154;go_wp2_with ((with_reducible refine zw 5 ?_);refine Aj rfl (.tmp 1) Ak rfl rfl (cs:=cs) HCL.o HN.o.cellsAll ?_);refine HR.o.mono ?_;rintro e w1 ⟨rfl,hb1⟩;have hz1:=hb1.size;simp at hz1;have hba:Below w.heap.size w w1:=((aF _ _).alloc (aD _) _).trans (hb1.mono (by simp));have HB1:=Ab hba;have HN1:=Ab (HN.o.below hb1 (by simp));have HT1:=Ab (HT.o.below hba);clear hb1 hba HR;obtain ⟨r,hr⟩:∃r,r=A4 8 x:=⟨_,rfl⟩
 rw [<-hr]
 cases r with
 | false=>
  have HS:Hq (wrS x=([],7)):=Ab (by unfold wrS; rw [if_pos hr.symm]);clear hr;go_wp2_with fail;go_ret2;rw [HS.o];exact ⟨_,rfl,Own.nil _ _ _ _ _,HB1.o⟩
 | true=>
  have hlen:=HLEN.o hr.symm;have HC:=Ab (N4 x F cs w1 HT1.o (O5 8 x hr.symm HNW.o) hlen);have hS:wrS x=if 4096< (Ba x).length then ([],20) else (Ba x,0):=by unfold wrS; rw [if_neg (by rw [<-hr]; decide)]
  have HS0:=Ab hS;clear hr hS;generalize Ba x=bs at HC HS0 hlen;go_wp2_with ((with_reducible refine zw 8 ?_);refine Aj rfl (.tmp 1) Ak rfl rfl (cs:=cs) HCL.o HN1.o.cellsAll ?_);refine HC.o.mono ?_;rintro e w2 ⟨v2,rfl,ho2,hb2⟩;obtain ⟨a2,c2,rfl,hc2,hm2⟩:=ho2.sl.form;have HO:Hq (Du w2 w.heap.size (.slice a2 bs.length c2) bs):=Ab (ho2.base (by omega));have HB2:Hq (Below w.heap.size w w2):=Ab (HB1.o.trans (hb2.mono (by omega)));unfold maxLen at hm2;clear ho2 hb2 HC;by_cases hl:4096<bs.length
  . have hl':(4096:Int)<bs.length:=by omega
    have HS:Hq (wrS x=([],20)):=Ab (by rw [HS0.o,if_pos hl]);clear hl;go_wp2_with fail;go_ret2;rw [HS.o];exact ⟨_,rfl,Own.nil _ _ _ _ _,HB2.o⟩
  . have hl':¬(4096:Int)<bs.length:=by omega
    have HS:Hq (wrS x=(bs,0)):=Ab (by rw [HS0.o,if_neg hl]);clear hl;go_wp2_with fail;go_ret2;rw [HS.o];exact ⟨_,rfl,HO.o,HB2.o⟩
end Go.Proofs.YtcnfaghcjlhoiaaGreat
namespace Go.Proofs.YtcnfaghcjlhoiaaGreat
theorem Lk:∀(f n:Nat),0<f->n<256 ^ f->C5 (F5 f n)=n/\(1<=n->(F5 f n).getD 0 0≠0)/\0< (F5 f n).length
 | 0,n,h,_=>by omega
 | f+1,n,_,hn=>by
  rw [F5];by_cases h:n<256
  . rw [if_pos h];refine ⟨?_,λ h1=>?_,by simp⟩
    . show C5 ([]++ [UInt8.ofNat n])=n
      rw [Jy]
      have:(UInt8.ofNat n).toNat=n:=by simp; omega
      rw [this];simp [C5]
    . simp;intro e
      have:=congrArg UInt8.toNat e;simp at this;omega
  . rw [if_neg h];have hf:0<f:=by
     rcases Nat.eq_zero_or_pos f with e | e
     . subst e; omega
     . exact e
    have hq:n / 256<256 ^ f:=by
     rw [Nat.pow_succ] at hn;exact Nat.div_lt_of_lt_mul (by rw [Nat.mul_comm]; exact hn)
    obtain ⟨h1,h2,h3⟩:=Lk f (n / 256) hf hq;refine ⟨?_,λ _=>?_,by simp⟩
    . rw [Jy,h1]
      have:(UInt8.ofNat (n % 256)).toNat=n % 256:=by simp
      rw [this];omega
    . rw [aW,bE h3,<-aW];exact h2 (by omega)
theorem A0j:(256:Nat) ^ 8=18446744073709551616:=by decide
theorem Pq (n:Nat) (hn:n<18446744073709551616):C5 (Cd n)=n:=by
 rw [Mn n (by rw [A0j]; exact hn)];exact (Lk 8 n (by decide) (by rw [A0j]; exact hn)).1
theorem Xn (n:Nat) (hn:n<18446744073709551616):¬(1< (Cd n).length/\(Cd n).getD 0 0=0):=by
 rintro ⟨h1,h2⟩;rw [Mn n (by rw [A0j]; exact hn)] at h1 h2;by_cases h:n<256
 . rw [F5,if_pos h] at h1;simp at h1
 . exact (Lk 8 n (by decide) (by rw [A0j]; exact hn)).2.1 (by omega) h2
theorem A2k (n:Nat) (hn:n<65536):(Cd n).length=if n<256 then 1 else 2:=by
 rw [Mn n (by rw [A0j]; omega),F5];split
 . rfl
 . rw [F5,if_pos (by omega)];rfl
theorem R0 (x y:UInt8) (l:Aa):(x::y::l).getD 1 0=y:=rfl
theorem Xo (k t:Int) (m:Nat) (rest:Aa) (hm:m<=4096) (hr:m<=rest.length):Gw (Ef k t m++rest)=(m,(Ef k t m).length,0):=by
 unfold Ef;by_cases h:m<128
 . rw [if_pos h];generalize UInt8.ofNat (k*64+t).toNat=f;have hc:(UInt8.ofNat m).toNat=m:=by simp; omega
   simp only [bF,List.nil_append,Gw,R0,bG,hc];rw [if_neg (by omega),if_pos h,if_neg (by omega)];rfl
 . rw [if_neg h];generalize UInt8.ofNat (k*64+t).toNat=f;have hl:=A2k m (by omega);have hg:=Pq m (by omega);generalize Cd m=s at hl hg;have hs:s.length=1\/s.length=2:=by rw [hl]; split <;> simp
   have hc:(UInt8.ofNat (128+s.length)).toNat=128+s.length:=by simp; omega
   have htake:((f::UInt8.ofNat (128+s.length)::(s++rest)).drop 2).take (128+s.length-128)=s:=by
    simp only [List.drop_succ_cons,List.drop_zero];rw [show 128+s.length-128=s.length by omega,bB]
   simp only [bF,Gw,R0,hc,htake,hg,bG,aH];rw [if_neg (by omega),if_neg (by omega),if_neg (by omega),if_neg (by omega),if_neg (by
    rintro (h1 | ⟨h1,h2⟩)
    . omega
    . rw [if_pos h2] at hl; omega),if_neg (by omega)]
   rw [show 128+s.length-126=s.length+1+1 by omega]
theorem Zm (k t:Int) (m:Nat) (rest:Aa):(Ef k t m++rest).getD 0 0=UInt8.ofNat (k*64+t).toNat:=by
 unfold Ef;split <;> rfl
theorem A3B (k t:Int) (m:Nat):2<=(Ef k t m).length:=by
 unfold Ef;split <;> simp
theorem A2B (x:Tv):2<=(Ba x).length:=by
 rw [Pd,aH]
 have:=A3B x.kind x.tag (D6 x).length;omega
theorem Pw {d:Nat} (hd:∀x:Tv,A4 d x=true->Nw x->(Ba x).length<=4096->∀rest,Dj d (Ba x++rest)=(x,(Ba x).length,0)): ∀(l:List Tv) (f:Nat),(∀x∈l,A4 d x=true/\Nw x)->(A7 l).length<=4096->(A7 l).length<=f->Hj (Dj d) f (A7 l)=(l,0)
 | [],f,_,_,_=>Mh _ _
 | x::l,f,h,hl,hf=>by
  have h2:=A2B x;rw [A7,aH] at hl hf;obtain ⟨f,rfl⟩:∃g,f=g+1:=⟨f-1,by omega⟩
  have hx:=hd x (h x (by simp)).1 (h x (by simp)).2 (by omega) (A7 l);have hne:Ba x++A7 l≠ []:=by
   intro e;have h3:=congrArg List.length e;rw [aH,List.length_nil] at h3;omega
  rw [A7,Lr hne hx,bC,Pw hd l f (λ y hy=>h y (by simp [hy])) (by omega) (by omega)]
theorem P8:∀(d:Nat) (x:Tv),A4 d x=true->Nw x->(Ba x).length<=4096->∀rest,Dj d (Ba x++rest)=(x,(Ba x).length,0)
 | 0,x,h,_,_,_=>by simp [A4] at h
 | d+1,.mk k t n b l,h,hn,hlen,rest=>by
  have hw:=Pd (.mk k t n b l);simp only [Tv.kind,Tv.tag] at hw;have hbody:D6 (.mk k t n b l)=Ey k n b (A7 l):=rfl;rw [A4] at h;simp only [Bool.and_eq_true,decide_eq_true_eq] at h;obtain ⟨⟨ht0,ht1⟩,hkind⟩:=h;have hbl:(D6 (.mk k t n b l)).length<=4096:=by rw [hw,aH] at hlen; omega
  have hsz:=Xo k t (D6 (.mk k t n b l)).length (D6 (.mk k t n b l)++rest) hbl (by simp);have hfirst:=Zm k t (D6 (.mk k t n b l)).length (D6 (.mk k t n b l)++rest);have htotal:(Ba (.mk k t n b l)).length=(Ef k t (D6 (.mk k t n b l)).length).length+(D6 (.mk k t n b l)).length:=by rw [hw,aH]
  have hdrop:((Ef k t (D6 (.mk k t n b l)).length++(D6 (.mk k t n b l)++rest)).drop (Ef k t (D6 (.mk k t n b l)).length).length).take (D6 (.mk k t n b l)).length=D6 (.mk k t n b l):=by
   rw [bC,bB]
  have hdrop0:(Ef k t (D6 (.mk k t n b l)).length++(D6 (.mk k t n b l)++rest)).drop (Ef k t (D6 (.mk k t n b l)).length).length=D6 (.mk k t n b l)++rest:=bC;rw [htotal,hw,List.append_assoc,Dj,hsz];simp only [hfirst,hdrop0,bB];rw [if_neg (by decide)];generalize hbd:D6 (.mk k t n b l)=bd at*;split at hkind
  . rename_i hk;subst hk;simp only [Bool.and_eq_true,decide_eq_true_eq] at hkind;obtain ⟨rfl,hl0⟩:=hkind;obtain rfl:=bH hl0;have hbs:bd=Cd n:=by rw [hbody]; rfl
    have hf:(UInt8.ofNat ((0:Int)*64+t).toNat).toNat=t.toNat:=by simp; omega
    rw [hf,if_neg (by omega),if_pos (by omega)];have hfew:=Ir n;have hgb:Fi bd=(n,true):=by
     unfold Fi;rw [hbs,if_neg (by omega),Pq n hn.1]
    rw [hgb,if_neg (by
     rintro (h1 | ⟨h1,h2⟩)
     . simp at h1
     . refine Xn n hn.1 ⟨by rw [<-hbs]; exact h1,?_⟩;have e3:(bd++rest).getD 0 0=(Cd n).getD 0 0:=by rw [aW,aW,bE (by omega),hbs]
       rw [<-e3];exact h2),show ((t.toNat % 64:Nat):Int)=t by omega]
  . split at hkind
    . rename_i hk0 hk;subst hk;simp only [Bool.and_eq_true,decide_eq_true_eq] at hkind;obtain ⟨rfl,hl0⟩:=hkind;obtain rfl:=bH hl0;have hbs:bd=b:=by rw [hbody]; rfl
      have hf:(UInt8.ofNat ((1:Int)*64+t).toNat).toNat=64+t.toNat:=by simp; omega
      rw [hf,if_neg (by omega),if_neg (by omega),if_pos (by omega),hbs,show (((64+t.toNat) % 64:Nat):Int)=t by omega]
    . split at hkind
      . rename_i hk0 hk1 hk;subst hk;simp only [Bool.and_eq_true,decide_eq_true_eq] at hkind;obtain ⟨⟨hall,rfl⟩,rfl⟩:=hkind;have hbs:bd=A7 l:=by rw [hbody]; rfl
        have hf:(UInt8.ofNat ((2:Int)*64+t).toNat).toNat=128+t.toNat:=by simp; omega
        have hls:=Pw (λ x h1 h2 h3=>P8 d x h1 h2 h3) l bd.length (λ x hx=>⟨List.all_eq_true.1 hall x hx,hn.2.mem x hx⟩) (by rw [<-hbs]; exact hbl) (by rw [hbs]; exact aD _);rw [<-hbs] at hls;rw [hf,if_neg (by omega),if_neg (by omega),if_neg (by omega),hls];simp only [if_true];rw [show (((128+t.toNat) % 64:Nat):Int)=t by omega]
      . simp at hkind
theorem Kx {x:Tv} (h:A4 8 x=true) (hn:Nw x) (hl:(Ba x).length<=4096):Ff (Ba x)=(x,0):=by
 have:=P8 8 x h hn hl [];rw [aJ] at this;unfold Ff;rw [if_neg (by omega),this];simp
end Go.Proofs.YtcnfaghcjlhoiaaGreat
namespace Go.Proofs.YtcnfaghcjlhoiaaGreat
open Go.RowKit
def As (t:Int) (fs:List Fd):Aa:=Ba (Ev t fs)
def N6:Fd->Nat
 | .s l=>l.length
 | .n _=>8
 | .k l=>l.length
 | .b l=>l.length
 | .t _=>8
def A8P:Fd->Prop
 | .s l=>l.length<=4096/\Au (tx l)=true
 | .n x=>x<=1099511627776
 | .k l=>l.length=16
 | .b l=>l.length<=4096
 | .t _=>True
theorem E3 (k t:Int) (n:Nat):(Ef k t n).length<=10:=by
 unfold Ef
 have:=(Ir n).1;split <;> simp <;> omega
theorem A4B (f:Fd):(Ba (Am f)).length<=10+N6 f:=by
 cases f <;> simp only [Am,Ba,Ey,N6,aH]
 all_goals (first | (have:=E3 1 0; simp only [show ¬((1:Int)=0) by decide,if_false,if_true]; exact bD (this _) (aD _)) | (have:=E3 0 0; simp only [if_true]; exact bD (this _) (Ir _).1))
theorem Uy:∀(fs:List Fd),(A7 (fs.map Am)).length<=(fs.map λ f=>10+N6 f).sum
 | []=>by simp [A7]
 | f::fs=>by
  have h1:=A4B f;have h2:=Uy fs;simp only [aG,A7,aH,List.sum_cons];omega
theorem L4 (t:Int) (fs:List Fd):(As t fs).length<=10+(fs.map λ f=>10+N6 f).sum:=by
 have h1:=Uy fs;have h2:=E3 2 t;simp only [As,Ev,Ba,Ey,aH,show ¬((2:Int)=0) by decide,show ¬((2:Int)=1) by decide,if_false];exact bD (h2 _) h1
theorem A4A (d:Nat) (f:Fd):A4 (d+1) (Am f)=true:=by
 cases f <;> simp [Am,A4]
theorem Ma {t:Int} (h0:0<=t) (h1:t<=30) (fs:List Fd):A4 8 (Ev t fs)=true:=by
 rw [Ev,A4];have h:(fs.map Am).all (A4 7)=true:=by
  rw [List.all_map];exact List.all_eq_true.2 λ f _=>A4A 6 f
 simp [h0,h1,h]
theorem A3j {t:Int} {fs:List Fd} (h:∀f∈fs,A8P f):Nw (Ev t fs):=by
 refine ⟨by decide,NsW.of λ x hx=>?_⟩;obtain ⟨f,hf,rfl⟩:=List.mem_map.1 hx
 have:=h f hf
 cases f with
 | n x=>exact ⟨by have:x<=1099511627776:=this; omega,trivial⟩
 | t b=>cases b <;> exact ⟨by decide,trivial⟩
 | _=>exact ⟨by decide,trivial⟩
theorem Xs {t:Int} {fs:List Fd} (h0:0<=t) (h1:t<=30) (hl:(As t fs).length<=4096):wrS (Ev t fs)=(As t fs,0):=by
 rw [wrS,if_neg (by rw [Ma h0 h1]; decide),if_neg (by unfold As at hl; omega)];rfl
theorem A0K (v:bI) (x:Tv) (w:bJ) (b:Aa) (hval:bK aA 210 #[v] w (Gu w x true)) (hn:Nw x) (hw:wrS x=(b,0)): bK aA 149 #[v] w λ e w'=>∃y,e=.returned (.tuple #[y,.int .i64 0])/\Du w' w.heap.size y b/\Below w.heap.size w w':=by
 have HV:=Ab hval;have HN:=Ab hn;have HW:=Ab hw;have HLEN:Hq ((Ba x).length<=1073741824):=Ab (by
  unfold wrS at hw;split at hw
  . simp at hw
  . split at hw
    . simp at hw
    . omega)
 clear hval hn hw;go_enter Tryz.func149,Tryz.ntmps149;go_wp2_with fail;refine HV.o.mono ?_;rintro e w1 ⟨cs,rfl,ht,hb⟩;have HT:=Ab ht;have HB:=Ab hb;have HL:=Ab ht.length;have HO:=Ab ht.one;have HN4:=Ab (Blk.new w1 zs5 314);clear ht hb HV;go_upto_region 2 with ((with_reducible refine zws 4 9 ?_);refine Ag rfl (.tmp 4) (.tmp 9) Ak rfl rfl (vs:=cs) rfl HL.o HN4.o (aD _) HO.o ?_);intro w2 h2 k2;have h2':Blk w2 w1.heap.size cs 314:=by
  rw [aK (by decide),aJ] at h2;exact h2
 have hb2:Below w1.heap.size w1 w2:=((aF _ _).alloc (aD _) _).trans (k2.below (by omega));have H2:=Ab h2';have HT2:=Ab (HT.o.below hb2);have HB2:Hq (Below w.heap.size w w2):=Ab (HB.o.trans (hb2.mono HB.o.size));clear h2 k2 h2' hb2;have HWR:=Ab (M4 x _ cs w2 HT2.o HN.o (λ _=>HLEN.o));rw [HW.o] at HWR;go_wp2_with ((with_reducible refine zw 13 ?_);refine Aj rfl (.tmp 4) Ak rfl rfl (cs:=cs) HL.o H2.o.cellsAll ?_);refine HWR.o.mono ?_;rintro e w3 ⟨v3,rfl,hbs,hb3⟩;obtain ⟨a3,c3,rfl,_⟩:=hbs.sl.form;have hbs:Du w3 w.heap.size (.slice a3 b.length c3) b:=Own.base hbs HB2.o.size;have HBS:=Ab hbs;have HB3:Hq (Below w.heap.size w w3):=Ab (HB2.o.trans (hb3.mono HB2.o.size));clear hbs hb3;go_wp2_with fail;go_ret2;exact ⟨_,rfl,HBS.o,HB3.o⟩
theorem Lh (s:PS):B6 aA (Dc s):=by
 cases s with
 | sym s=>exact B6.mk Tryz.func321 (by kernel_rfl) (by kernel_rfl)
theorem A2P (s:PS):B6 aA (Io s):=by
 cases s with
 | sym s=>exact B6.mk Tryz.func81 (by kernel_rfl) (by kernel_rfl)
theorem A3y (s:PS):B6 aA (Hi s):=by
 cases s with
 | sym s=>exact B6.mk Tryz.func319 (by kernel_rfl) (by kernel_rfl)
theorem A6a (s:PS):B6 aA (Rz s):=by
 cases s with
 | sym s=>exact B6.mk Tryz.func60 (by kernel_rfl) (by kernel_rfl)
theorem Q0 (s:PS):B6 aA (In s):=by
 cases s with
 | sym s=>exact B6.mk Tryz.func322 (by kernel_rfl) (by kernel_rfl)
theorem Ux (s:PS):B6 aA (Im s):=by
 cases s with
 | sym s=>exact B6.mk Tryz.func320 (by kernel_rfl) (by kernel_rfl)
def V1 (q:Nat) (s:PS) (k:Aa) (u:Nat) (b:Aa) (l:List Res) (e:Ending) (w':bJ):Prop:=
 ∃y,e=.returned (.tuple #[y,.int .i64 0])/\Ad w' (.row y (s.shut k u b).1::pvR q (s.shut k u b).2::l)
theorem Jc (q:Nat) (s:PS) (k:Aa) (u:Nat) (v:bI) (x:Tv) (b:Aa) (l:List Res) (w:bJ) (h:Ad w (pvR q s::l)) (hk:k.length=16) (hu:u<100) (hs:s.sz<1099511627776) (hval:∀W,Ad W l->bK aA 210 #[v] W (Gu W x true)) (hn:Nw x) (hw:wrS x=(b,0)) (hl:b.length<=4096): bK aA 83 #[pvV s q,A1 k,.int .i64 u,v] w (V1 q s k u b l):=by
 have HC:=Ab (h.addBlkAt (Ae k) 46 (b:=w.heap.size) rfl);have HKB:Hq ((Ae k).length=16):=Ab (by rw [Ac,hk]);have HPK:=Ab (λ W hW=>A0K v x W b (hval W hW) hn hw);have HSH:=Ab (λ (y:bI) (w:bJ) (l:List Res) (h:Ad w (pvR q s::l)) (hv:∀W,Ad W l->Bs W y b)=>A2a q s k u b y l w h hk hu hv (by omega) hs);have h1:=λ j a w=>Fy s j a "Seal" (by simp) w
 have h2:=λ j a w=>A6D s j a w
 have h3:∀(args:Array bI) (w:bJ),(callFunc (Rz s) args).run aA w=.ok (.enter (Rz s) args) w:=A6a s
 clear h hk hu hs hval hn hw hl;unfold A1 at HSH ⊢;unfold pvV;go_enter Tryz.func83,Tryz.ntmps83;go_wp2_with fail;refine (HPK.o _ HC.o.tail.tail).mono ?_;rintro e w1 ⟨y,rfl,hb,hw⟩;obtain ⟨ya,yc,rfl,_,_⟩:=hb.sl.form;have HC:=Ab (HC.o.freshRow hw hb);clear hb hw;go_wp2_with ((with_reducible refine zw 21 ?_);refine Aj rfl (.tmp 5) Aq rfl rfl (cs:=Ae k) HKB.o HC.o.swap.blk0.cellsAll ?_);refine (HSH.o _ _ _ (HC.o.zP [2]) (λ W hW=>hW.rowOf (by simp))).mono ?_;rintro e w2 ⟨x,rfl,hc⟩;have HC:=Ab (hc.zP [2,2]).tail.tail;clear hc;go_wp2_with fail;go_ret2;exact ⟨x,rfl,HC.o⟩
theorem Hb {x:Nat} {r:List Tv} (h:x<=1099511627776):Cs (Am (.n x)::r) false=(x,r,false):=by
 simp only [Cs,Bt,Am,Tv.kind,Tv.tag,Tv.n];rw [if_neg (by show ¬A0a<x; unfold A0a; omega)];rfl
theorem Xe {l:Aa} {r:List Tv} (h:Au (tx l)=true):Bq (Am (.s l)::r) false=(l,r,false):=by
 simp [Bq,Bt,Am,Tv.kind,Tv.tag,Tv.b,h]
theorem A1Q {l:Aa} {r:List Tv} (h:l.length=16):Mx (Am (.k l)::r) false=(l,r,false):=by
 simp [Mx,Bt,Am,Tv.kind,Tv.tag,Tv.b,Hn,h]
theorem A4t {l:Aa} {r:List Tv} :Bv (Am (.b l)::r) false=(l,r,false):=by
 simp [Bv,Bt,Am,Tv.kind,Tv.tag,Tv.b]
theorem A5D (x1:Nat) (k2:Aa) (l3:Aa) (x4:Nat) (x5:Nat) (x6:Nat) (F:Nat->Prop) (cs:List bI) (w:bJ) (h:TvF w F (Ev 2 [.n x1,.k k2,.s l3,.n x4,.n x5,.n x6]) cs) (hF:∀b,F b->b<w.heap.size) (hz1:x1<=1099511627776) (hk2:k2.length=16) (hr3:Au (tx l3)=true) (hz4:x4<=1099511627776) (hz5:x5<=1099511627776) (hz6:x6<=1099511627776): bK aA 211 #[.agg cs.toArray] w λ e w'=>e=.returned (.tuple #[.iface 200 (.agg (([.int .i64 (x1:Int)]:List bI)++(Ae k2++([.string (tx l3),.int .i64 (x4:Int),.int .i64 (x5:Int),.int .i64 (x6:Int)]:List bI))).toArray),.bool true])/\Below w.heap.size w w':=by
 have HLN:=Ab h.length;have HQ0:=Ab (Blk.new w cs 314);have hB0:Below w.heap.size w (w.alloc (.cells cs.toArray 314)):=(aF _ _).alloc (aD _) _;have HB0:=Ab hB0;have HTK:=Ab (Iu (Ev 2 [.n x1,.k k2,.s l3,.n x4,.n x5,.n x6]) F cs _ (h.below hB0) (λ b hb=>by have:=hF b hb; simp; omega));obtain ⟨bv,lv,rows,hcs,hb1,hb2,hb3,hb4,hb5⟩:=h.open_;have HCS:=Ab hcs;clear h hB0 hb1 hb2 hb3 hb4 hb5 hF hcs;obtain ⟨c0,c1,c2,c3,c4,c5,c6,c7,c8,c9,c10,c11,c12,c13,c14,c15,hke⟩:=By k2 hk2;have HKK:=Ab hk2;clear hk2;go_enter aX,aY;go_wp2_with ((with_reducible refine zw 6 ?_);refine Aj rfl (.tmp 1) Ak rfl rfl (cs:=cs) HLN.o HQ0.o.cellsAll ?_);refine HTK.o.mono ?_;rintro e wt ⟨p,rfl,ht,hb,hp⟩;have HBT:Hq (Below w.heap.size w wt):=Ab (HB0.o.trans (hb.mono (by simp)));have hqt:=HQ0.o.below hb (by simp);rw [HCS.o] at hqt;have HQT:=Ab hqt;have HP:Hq (w.heap.size<p/\p<wt.heap.size):=Ab ⟨by simp at hp; omega,ht.lt⟩;have cT:wt.cell? ⟨w.heap.size,1,none⟩=some (.int .i64 2):=hqt.cell 1;have HTS:=Ab ht;clear ht hb hp hqt HQ0 HB0 HTK;have HT0:Hq (Tk wt F p [Am (.n x1),Am (.k k2),Am (.s l3),Am (.n x4),Am (.n x5),Am (.n x6)] false):=HTS;have HK0:Hq (Ai (λ b=>b=p\/wt.heap.size<=b) wt wt):=Ab (Ai.refl _ _);clear HTS;have HE1:=Ab (Cb [Am (.n x1),Am (.k k2),Am (.s l3),Am (.n x4),Am (.n x5),Am (.n x6)] false p F wt HT0.o);rw [show Cs [Am (.n x1),Am (.k k2),Am (.s l3),Am (.n x4),Am (.n x5),Am (.n x6)] false=(_, [Am (.k k2),Am (.s l3),Am (.n x4),Am (.n x5),Am (.n x6)],false) from Hb hz1] at HE1;go_wp2_with fail;refine HE1.o.mono ?_;rintro e v1 ⟨rfl,ht,hk⟩;have HT1:Hq (Tk v1 F p [Am (.k k2),Am (.s l3),Am (.n x4),Am (.n x5),Am (.n x6)] false):=Ab ht;have HK1:=Ab (Bm (λ b=>aC) HK0.o hk);clear ht hk HT0 HK0 HE1;have HE2:=Ab (O3 [Am (.k k2),Am (.s l3),Am (.n x4),Am (.n x5),Am (.n x6)] false p F v1 HT1.o);rw [show Mx [Am (.k k2),Am (.s l3),Am (.n x4),Am (.n x5),Am (.n x6)] false=(_, [Am (.s l3),Am (.n x4),Am (.n x5),Am (.n x6)],false) from A1Q HKK.o] at HE2;go_wp2_with fail;refine HE2.o.mono ?_;rintro e v2 ⟨rfl,ht,hk⟩;have HT2:Hq (Tk v2 F p [Am (.s l3),Am (.n x4),Am (.n x5),Am (.n x6)] false):=Ab ht;have HK2:=Ab (Bm (λ b=>aC) HK1.o hk);clear ht hk HT1 HK1 HE2;have hkv:A1 k2=.agg #[.int .u8 c0.toNat,.int .u8 c1.toNat,.int .u8 c2.toNat,.int .u8 c3.toNat,.int .u8 c4.toNat,.int .u8 c5.toNat,.int .u8 c6.toNat,.int .u8 c7.toNat,.int .u8 c8.toNat,.int .u8 c9.toNat,.int .u8 c10.toNat,.int .u8 c11.toNat,.int .u8 c12.toNat,.int .u8 c13.toNat,.int .u8 c14.toNat,.int .u8 c15.toNat]:=by rw [hke]; rfl
 rw [hkv];have HE3:=Ab (Gl [Am (.s l3),Am (.n x4),Am (.n x5),Am (.n x6)] false p F v2 HT2.o);rw [show Bq [Am (.s l3),Am (.n x4),Am (.n x5),Am (.n x6)] false=(_, [Am (.n x4),Am (.n x5),Am (.n x6)],false) from Xe hr3] at HE3;go_wp2_with fail;refine HE3.o.mono ?_;rintro e v3 ⟨rfl,ht,hk⟩;have HT3:Hq (Tk v3 F p [Am (.n x4),Am (.n x5),Am (.n x6)] false):=Ab ht;have HK3:=Ab (Bm (λ b=>aC) HK2.o hk);clear ht hk HT2 HK2 HE3;have HE4:=Ab (Cb [Am (.n x4),Am (.n x5),Am (.n x6)] false p F v3 HT3.o);rw [show Cs [Am (.n x4),Am (.n x5),Am (.n x6)] false=(_, [Am (.n x5),Am (.n x6)],false) from Hb hz4] at HE4;go_wp2_with fail;refine HE4.o.mono ?_;rintro e v4 ⟨rfl,ht,hk⟩;have HT4:Hq (Tk v4 F p [Am (.n x5),Am (.n x6)] false):=Ab ht;have HK4:=Ab (Bm (λ b=>aC) HK3.o hk);clear ht hk HT3 HK3 HE4;have HE5:=Ab (Cb [Am (.n x5),Am (.n x6)] false p F v4 HT4.o);rw [show Cs [Am (.n x5),Am (.n x6)] false=(_, [Am (.n x6)],false) from Hb hz5] at HE5;go_wp2_with fail;refine HE5.o.mono ?_;rintro e v5 ⟨rfl,ht,hk⟩;have HT5:Hq (Tk v5 F p [Am (.n x6)] false):=Ab ht;have HK5:=Ab (Bm (λ b=>aC) HK4.o hk);clear ht hk HT4 HK4 HE5;have HE6:=Ab (Cb [Am (.n x6)] false p F v5 HT5.o);rw [show Cs [Am (.n x6)] false=(_, [],false) from Hb hz6] at HE6;go_wp2_with fail;refine HE6.o.mono ?_;rintro e v6 ⟨rfl,ht,hk⟩;have HT6:Hq (Tk v6 F p [] false):=Ab ht;have HK6:=Ab (Bm (λ b=>aC) HK5.o hk);clear ht hk HT5 HK5 HE6;have hB:Below w.heap.size w v6:=HBT.o.trans (HK6.o.below (λ b hb=>by have:=HP.o; have:=HBT.o.size; rcases hb with h | h <;> omega));have hq:=HQT.o.keep HK6.o (λ h=>by have:=HP.o; rcases h with h | h <;> omega);have cK:v6.cell? ⟨w.heap.size,0,none⟩=some (.int .i64 2):=hq.cell 0;have HBF:=Ab hB;have HD:=Ab (Ik [] false p F v6 HT6.o);clear hB hq;go_wp2_with fail;refine HD.o.mono ?_;rintro e w2 ⟨rfl,rfl⟩;go_wp2_with fail;go_ret2;refine ⟨?_,HBF.o⟩;rw [hke];rfl
theorem A5E (x1:Nat) (k2:Aa) (x3:Nat) (l4:Aa) (x5:Nat) (x6:Nat) (x7:Nat) (F:Nat->Prop) (cs:List bI) (w:bJ) (h:TvF w F (Ev 3 [.n x1,.k k2,.n x3,.s l4,.n x5,.n x6,.n x7]) cs) (hF:∀b,F b->b<w.heap.size) (hz1:x1<=1099511627776) (hk2:k2.length=16) (hz3:x3<=1099511627776) (hr4:Au (tx l4)=true) (hz5:x5<=1099511627776) (hz6:x6<=1099511627776) (hz7:x7<=1099511627776): bK aA 211 #[.agg cs.toArray] w λ e w'=>e=.returned (.tuple #[.iface 307 (.agg (([.int .i64 (x1:Int)]:List bI)++(Ae k2++([.int .i64 (x3:Int),.string (tx l4),.int .i64 (x5:Int),.int .i64 (x6:Int),.int .i64 (x7:Int)]:List bI))).toArray),.bool true])/\Below w.heap.size w w':=by
 have HLN:=Ab h.length;have HQ0:=Ab (Blk.new w cs 314);have hB0:Below w.heap.size w (w.alloc (.cells cs.toArray 314)):=(aF _ _).alloc (aD _) _;have HB0:=Ab hB0;have HTK:=Ab (Iu (Ev 3 [.n x1,.k k2,.n x3,.s l4,.n x5,.n x6,.n x7]) F cs _ (h.below hB0) (λ b hb=>by have:=hF b hb; simp; omega));obtain ⟨bv,lv,rows,hcs,hb1,hb2,hb3,hb4,hb5⟩:=h.open_;have HCS:=Ab hcs;clear h hB0 hb1 hb2 hb3 hb4 hb5 hF hcs;obtain ⟨c0,c1,c2,c3,c4,c5,c6,c7,c8,c9,c10,c11,c12,c13,c14,c15,hke⟩:=By k2 hk2;have HKK:=Ab hk2;clear hk2;go_enter aX,aY;go_wp2_with ((with_reducible refine zw 6 ?_);refine Aj rfl (.tmp 1) Ak rfl rfl (cs:=cs) HLN.o HQ0.o.cellsAll ?_);refine HTK.o.mono ?_;rintro e wt ⟨p,rfl,ht,hb,hp⟩;have HBT:Hq (Below w.heap.size w wt):=Ab (HB0.o.trans (hb.mono (by simp)));have hqt:=HQ0.o.below hb (by simp);rw [HCS.o] at hqt;have HQT:=Ab hqt;have HP:Hq (w.heap.size<p/\p<wt.heap.size):=Ab ⟨by simp at hp; omega,ht.lt⟩;have cT:wt.cell? ⟨w.heap.size,1,none⟩=some (.int .i64 3):=hqt.cell 1;have HTS:=Ab ht;clear ht hb hp hqt HQ0 HB0 HTK;have HT0:Hq (Tk wt F p [Am (.n x1),Am (.k k2),Am (.n x3),Am (.s l4),Am (.n x5),Am (.n x6),Am (.n x7)] false):=HTS;have HK0:Hq (Ai (λ b=>b=p\/wt.heap.size<=b) wt wt):=Ab (Ai.refl _ _);clear HTS;have HE1:=Ab (Cb [Am (.n x1),Am (.k k2),Am (.n x3),Am (.s l4),Am (.n x5),Am (.n x6),Am (.n x7)] false p F wt HT0.o);rw [show Cs [Am (.n x1),Am (.k k2),Am (.n x3),Am (.s l4),Am (.n x5),Am (.n x6),Am (.n x7)] false=(_, [Am (.k k2),Am (.n x3),Am (.s l4),Am (.n x5),Am (.n x6),Am (.n x7)],false) from Hb hz1] at HE1;go_wp2_with fail;refine HE1.o.mono ?_;rintro e v1 ⟨rfl,ht,hk⟩;have HT1:Hq (Tk v1 F p [Am (.k k2),Am (.n x3),Am (.s l4),Am (.n x5),Am (.n x6),Am (.n x7)] false):=Ab ht;have HK1:=Ab (Bm (λ b=>aC) HK0.o hk);clear ht hk HT0 HK0 HE1;have HE2:=Ab (O3 [Am (.k k2),Am (.n x3),Am (.s l4),Am (.n x5),Am (.n x6),Am (.n x7)] false p F v1 HT1.o);rw [show Mx [Am (.k k2),Am (.n x3),Am (.s l4),Am (.n x5),Am (.n x6),Am (.n x7)] false=(_, [Am (.n x3),Am (.s l4),Am (.n x5),Am (.n x6),Am (.n x7)],false) from A1Q HKK.o] at HE2;go_wp2_with fail;refine HE2.o.mono ?_;rintro e v2 ⟨rfl,ht,hk⟩;have HT2:Hq (Tk v2 F p [Am (.n x3),Am (.s l4),Am (.n x5),Am (.n x6),Am (.n x7)] false):=Ab ht;have HK2:=Ab (Bm (λ b=>aC) HK1.o hk);clear ht hk HT1 HK1 HE2;have hkv:A1 k2=.agg #[.int .u8 c0.toNat,.int .u8 c1.toNat,.int .u8 c2.toNat,.int .u8 c3.toNat,.int .u8 c4.toNat,.int .u8 c5.toNat,.int .u8 c6.toNat,.int .u8 c7.toNat,.int .u8 c8.toNat,.int .u8 c9.toNat,.int .u8 c10.toNat,.int .u8 c11.toNat,.int .u8 c12.toNat,.int .u8 c13.toNat,.int .u8 c14.toNat,.int .u8 c15.toNat]:=by rw [hke]; rfl
 rw [hkv];have HE3:=Ab (Cb [Am (.n x3),Am (.s l4),Am (.n x5),Am (.n x6),Am (.n x7)] false p F v2 HT2.o);rw [show Cs [Am (.n x3),Am (.s l4),Am (.n x5),Am (.n x6),Am (.n x7)] false=(_, [Am (.s l4),Am (.n x5),Am (.n x6),Am (.n x7)],false) from Hb hz3] at HE3;go_wp2_with fail;refine HE3.o.mono ?_;rintro e v3 ⟨rfl,ht,hk⟩;have HT3:Hq (Tk v3 F p [Am (.s l4),Am (.n x5),Am (.n x6),Am (.n x7)] false):=Ab ht;have HK3:=Ab (Bm (λ b=>aC) HK2.o hk);clear ht hk HT2 HK2 HE3;have HE4:=Ab (Gl [Am (.s l4),Am (.n x5),Am (.n x6),Am (.n x7)] false p F v3 HT3.o);rw [show Bq [Am (.s l4),Am (.n x5),Am (.n x6),Am (.n x7)] false=(_, [Am (.n x5),Am (.n x6),Am (.n x7)],false) from Xe hr4] at HE4;go_wp2_with fail;refine HE4.o.mono ?_;rintro e v4 ⟨rfl,ht,hk⟩;have HT4:Hq (Tk v4 F p [Am (.n x5),Am (.n x6),Am (.n x7)] false):=Ab ht;have HK4:=Ab (Bm (λ b=>aC) HK3.o hk);clear ht hk HT3 HK3 HE4;have HE5:=Ab (Cb [Am (.n x5),Am (.n x6),Am (.n x7)] false p F v4 HT4.o);rw [show Cs [Am (.n x5),Am (.n x6),Am (.n x7)] false=(_, [Am (.n x6),Am (.n x7)],false) from Hb hz5] at HE5;go_wp2_with fail;refine HE5.o.mono ?_;rintro e v5 ⟨rfl,ht,hk⟩;have HT5:Hq (Tk v5 F p [Am (.n x6),Am (.n x7)] false):=Ab ht;have HK5:=Ab (Bm (λ b=>aC) HK4.o hk);clear ht hk HT4 HK4 HE5;have HE6:=Ab (Cb [Am (.n x6),Am (.n x7)] false p F v5 HT5.o);rw [show Cs [Am (.n x6),Am (.n x7)] false=(_, [Am (.n x7)],false) from Hb hz6] at HE6;go_wp2_with fail;refine HE6.o.mono ?_;rintro e v6 ⟨rfl,ht,hk⟩;have HT6:Hq (Tk v6 F p [Am (.n x7)] false):=Ab ht;have HK6:=Ab (Bm (λ b=>aC) HK5.o hk);clear ht hk HT5 HK5 HE6;have HE7:=Ab (Cb [Am (.n x7)] false p F v6 HT6.o);rw [show Cs [Am (.n x7)] false=(_, [],false) from Hb hz7] at HE7;go_wp2_with fail;refine HE7.o.mono ?_;rintro e v7 ⟨rfl,ht,hk⟩;have HT7:Hq (Tk v7 F p [] false):=Ab ht;have HK7:=Ab (Bm (λ b=>aC) HK6.o hk);clear ht hk HT6 HK6 HE7;have hB:Below w.heap.size w v7:=HBT.o.trans (HK7.o.below (λ b hb=>by have:=HP.o; have:=HBT.o.size; rcases hb with h | h <;> omega));have hq:=HQT.o.keep HK7.o (λ h=>by have:=HP.o; rcases h with h | h <;> omega);have cK:v7.cell? ⟨w.heap.size,0,none⟩=some (.int .i64 2):=hq.cell 0;have HBF:=Ab hB;have HD:=Ab (Ik [] false p F v7 HT7.o);clear hB hq;go_wp2_with fail;refine HD.o.mono ?_;rintro e w2 ⟨rfl,rfl⟩;go_wp2_with fail;go_ret2;refine ⟨?_,HBF.o⟩;rw [hke];rfl
theorem A5F (l1:Aa) (x2:Nat) (x3:Nat) (k4:Aa) (l5:Aa) (F:Nat->Prop) (cs:List bI) (w:bJ) (h:TvF w F (Ev 4 [.s l1,.n x2,.n x3,.k k4,.b l5]) cs) (hF:∀b,F b->b<w.heap.size) (hr1:Au (tx l1)=true) (hz2:x2<=1099511627776) (hz3:x3<=1099511627776) (hk4:k4.length=16): bK aA 211 #[.agg cs.toArray] w λ e w'=>∃v,e=.returned (.tuple #[.iface 224 (.agg (([.string (tx l1),.int .i64 (x2:Int),.int .i64 (x3:Int)]:List bI)++(Ae k4++([v]:List bI))).toArray),.bool true])/\Bs w' v l5/\(0<l5.length->∀y,v.ownBlock=some y->F y)/\Below w.heap.size w w':=by
 have HLN:=Ab h.length;have HQ0:=Ab (Blk.new w cs 314);have hB0:Below w.heap.size w (w.alloc (.cells cs.toArray 314)):=(aF _ _).alloc (aD _) _;have HB0:=Ab hB0;have HTK:=Ab (Iu (Ev 4 [.s l1,.n x2,.n x3,.k k4,.b l5]) F cs _ (h.below hB0) (λ b hb=>by have:=hF b hb; simp; omega));obtain ⟨bv,lv,rows,hcs,hb1,hb2,hb3,hb4,hb5⟩:=h.open_;have HCS:=Ab hcs;clear h hB0 hb1 hb2 hb3 hb4 hb5 hF hcs;obtain ⟨c0,c1,c2,c3,c4,c5,c6,c7,c8,c9,c10,c11,c12,c13,c14,c15,hke⟩:=By k4 hk4;have HKK:=Ab hk4;clear hk4;go_enter aX,aY;go_wp2_with ((with_reducible refine zw 6 ?_);refine Aj rfl (.tmp 1) Ak rfl rfl (cs:=cs) HLN.o HQ0.o.cellsAll ?_);refine HTK.o.mono ?_;rintro e wt ⟨p,rfl,ht,hb,hp⟩;have HBT:Hq (Below w.heap.size w wt):=Ab (HB0.o.trans (hb.mono (by simp)));have hqt:=HQ0.o.below hb (by simp);rw [HCS.o] at hqt;have HQT:=Ab hqt;have HP:Hq (w.heap.size<p/\p<wt.heap.size):=Ab ⟨by simp at hp; omega,ht.lt⟩;have cT:wt.cell? ⟨w.heap.size,1,none⟩=some (.int .i64 4):=hqt.cell 1;have HTS:=Ab ht;clear ht hb hp hqt HQ0 HB0 HTK;have HT0:Hq (Tk wt F p [Am (.s l1),Am (.n x2),Am (.n x3),Am (.k k4),Am (.b l5)] false):=HTS;have HK0:Hq (Ai (λ b=>b=p\/wt.heap.size<=b) wt wt):=Ab (Ai.refl _ _);clear HTS;have HE1:=Ab (Gl [Am (.s l1),Am (.n x2),Am (.n x3),Am (.k k4),Am (.b l5)] false p F wt HT0.o);rw [show Bq [Am (.s l1),Am (.n x2),Am (.n x3),Am (.k k4),Am (.b l5)] false=(_, [Am (.n x2),Am (.n x3),Am (.k k4),Am (.b l5)],false) from Xe hr1] at HE1;go_wp2_with fail;refine HE1.o.mono ?_;rintro e v1 ⟨rfl,ht,hk⟩;have HT1:Hq (Tk v1 F p [Am (.n x2),Am (.n x3),Am (.k k4),Am (.b l5)] false):=Ab ht;have HK1:=Ab (Bm (λ b=>aC) HK0.o hk);clear ht hk HT0 HK0 HE1;have HE2:=Ab (Cb [Am (.n x2),Am (.n x3),Am (.k k4),Am (.b l5)] false p F v1 HT1.o);rw [show Cs [Am (.n x2),Am (.n x3),Am (.k k4),Am (.b l5)] false=(_, [Am (.n x3),Am (.k k4),Am (.b l5)],false) from Hb hz2] at HE2;go_wp2_with fail;refine HE2.o.mono ?_;rintro e v2 ⟨rfl,ht,hk⟩;have HT2:Hq (Tk v2 F p [Am (.n x3),Am (.k k4),Am (.b l5)] false):=Ab ht;have HK2:=Ab (Bm (λ b=>aC) HK1.o hk);clear ht hk HT1 HK1 HE2;have HE3:=Ab (Cb [Am (.n x3),Am (.k k4),Am (.b l5)] false p F v2 HT2.o);rw [show Cs [Am (.n x3),Am (.k k4),Am (.b l5)] false=(_, [Am (.k k4),Am (.b l5)],false) from Hb hz3] at HE3;go_wp2_with fail;refine HE3.o.mono ?_;rintro e v3 ⟨rfl,ht,hk⟩;have HT3:Hq (Tk v3 F p [Am (.k k4),Am (.b l5)] false):=Ab ht;have HK3:=Ab (Bm (λ b=>aC) HK2.o hk);clear ht hk HT2 HK2 HE3;have HE4:=Ab (O3 [Am (.k k4),Am (.b l5)] false p F v3 HT3.o);rw [show Mx [Am (.k k4),Am (.b l5)] false=(_, [Am (.b l5)],false) from A1Q HKK.o] at HE4;go_wp2_with fail;refine HE4.o.mono ?_;rintro e v4 ⟨rfl,ht,hk⟩;have HT4:Hq (Tk v4 F p [Am (.b l5)] false):=Ab ht;have HK4:=Ab (Bm (λ b=>aC) HK3.o hk);clear ht hk HT3 HK3 HE4;have hkv:A1 k4=.agg #[.int .u8 c0.toNat,.int .u8 c1.toNat,.int .u8 c2.toNat,.int .u8 c3.toNat,.int .u8 c4.toNat,.int .u8 c5.toNat,.int .u8 c6.toNat,.int .u8 c7.toNat,.int .u8 c8.toNat,.int .u8 c9.toNat,.int .u8 c10.toNat,.int .u8 c11.toNat,.int .u8 c12.toNat,.int .u8 c13.toNat,.int .u8 c14.toNat,.int .u8 c15.toNat]:=by rw [hke]; rfl
 rw [hkv];have HE5:=Ab (Jq [Am (.b l5)] false p F v4 HT4.o);rw [show Bv [Am (.b l5)] false=(_, [],false) from A4t] at HE5;go_wp2_with fail;refine HE5.o.mono ?_;rintro e v5 ⟨vb,⟨rfl,ht,hk⟩,hb,ho⟩;obtain ⟨ab,cb,rfl,hcb,hmb⟩:=hb.form;have HB:=Ab hb;have HO:=Ab ho;clear hb ho;have HT5:Hq (Tk v5 F p [] false):=Ab ht;have HK5:=Ab (Bm (λ b=>aC) HK4.o hk);clear ht hk HT4 HK4 HE5;have hB:Below w.heap.size w v5:=HBT.o.trans (HK5.o.below (λ b hb=>by have:=HP.o; have:=HBT.o.size; rcases hb with h | h <;> omega));have hq:=HQT.o.keep HK5.o (λ h=>by have:=HP.o; rcases h with h | h <;> omega);have cK:v5.cell? ⟨w.heap.size,0,none⟩=some (.int .i64 2):=hq.cell 0;have HBF:=Ab hB;have HD:=Ab (Ik [] false p F v5 HT5.o);clear hB hq;go_wp2_with fail;refine HD.o.mono ?_;rintro e w2 ⟨rfl,rfl⟩;go_wp2_with fail;go_ret2;refine ⟨_,?_,HB.o,HO.o,HBF.o⟩;rw [hke];rfl
theorem A5G (x1:Nat) (x2:Nat) (F:Nat->Prop) (cs:List bI) (w:bJ) (h:TvF w F (Ev 5 [.n x1,.n x2]) cs) (hF:∀b,F b->b<w.heap.size) (hz1:x1<=1099511627776) (hz2:x2<=1099511627776): bK aA 211 #[.agg cs.toArray] w λ e w'=>e=.returned (.tuple #[.iface 130 (.agg ([.int .i64 (x1:Int),.int .i64 (x2:Int)]:List bI).toArray),.bool true])/\Below w.heap.size w w':=by
 have HLN:=Ab h.length;have HQ0:=Ab (Blk.new w cs 314);have hB0:Below w.heap.size w (w.alloc (.cells cs.toArray 314)):=(aF _ _).alloc (aD _) _;have HB0:=Ab hB0;have HTK:=Ab (Iu (Ev 5 [.n x1,.n x2]) F cs _ (h.below hB0) (λ b hb=>by have:=hF b hb; simp; omega));obtain ⟨bv,lv,rows,hcs,hb1,hb2,hb3,hb4,hb5⟩:=h.open_;have HCS:=Ab hcs;clear h hB0 hb1 hb2 hb3 hb4 hb5 hF hcs;go_enter aX,aY;go_wp2_with ((with_reducible refine zw 6 ?_);refine Aj rfl (.tmp 1) Ak rfl rfl (cs:=cs) HLN.o HQ0.o.cellsAll ?_);refine HTK.o.mono ?_;rintro e wt ⟨p,rfl,ht,hb,hp⟩;have HBT:Hq (Below w.heap.size w wt):=Ab (HB0.o.trans (hb.mono (by simp)));have hqt:=HQ0.o.below hb (by simp);rw [HCS.o] at hqt;have HQT:=Ab hqt;have HP:Hq (w.heap.size<p/\p<wt.heap.size):=Ab ⟨by simp at hp; omega,ht.lt⟩;have cT:wt.cell? ⟨w.heap.size,1,none⟩=some (.int .i64 5):=hqt.cell 1;have HTS:=Ab ht;clear ht hb hp hqt HQ0 HB0 HTK;have HT0:Hq (Tk wt F p [Am (.n x1),Am (.n x2)] false):=HTS;have HK0:Hq (Ai (λ b=>b=p\/wt.heap.size<=b) wt wt):=Ab (Ai.refl _ _);clear HTS;have HE1:=Ab (Cb [Am (.n x1),Am (.n x2)] false p F wt HT0.o);rw [show Cs [Am (.n x1),Am (.n x2)] false=(_, [Am (.n x2)],false) from Hb hz1] at HE1;go_wp2_with fail;refine HE1.o.mono ?_;rintro e v1 ⟨rfl,ht,hk⟩;have HT1:Hq (Tk v1 F p [Am (.n x2)] false):=Ab ht;have HK1:=Ab (Bm (λ b=>aC) HK0.o hk);clear ht hk HT0 HK0 HE1;have HE2:=Ab (Cb [Am (.n x2)] false p F v1 HT1.o);rw [show Cs [Am (.n x2)] false=(_, [],false) from Hb hz2] at HE2;go_wp2_with fail;refine HE2.o.mono ?_;rintro e v2 ⟨rfl,ht,hk⟩;have HT2:Hq (Tk v2 F p [] false):=Ab ht;have HK2:=Ab (Bm (λ b=>aC) HK1.o hk);clear ht hk HT1 HK1 HE2;have hB:Below w.heap.size w v2:=HBT.o.trans (HK2.o.below (λ b hb=>by have:=HP.o; have:=HBT.o.size; rcases hb with h | h <;> omega));have hq:=HQT.o.keep HK2.o (λ h=>by have:=HP.o; rcases h with h | h <;> omega);have cK:v2.cell? ⟨w.heap.size,0,none⟩=some (.int .i64 2):=hq.cell 0;have HBF:=Ab hB;have HD:=Ab (Ik [] false p F v2 HT2.o);clear hB hq;go_wp2_with fail;refine HD.o.mono ?_;rintro e w2 ⟨rfl,rfl⟩;go_wp2_with fail;go_ret2;refine ⟨?_,HBF.o⟩;rfl
end Go.Proofs.YtcnfaghcjlhoiaaGreat
