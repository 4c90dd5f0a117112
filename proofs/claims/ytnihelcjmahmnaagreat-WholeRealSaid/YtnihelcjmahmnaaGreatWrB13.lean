/- Texts of this proof, one behind the other: TkU, BUs, BFind, SlZ, ResZ, BDel, BIns, BOps, Kas1, Log1. -/
import Derived.Test.YtnihelcjmahmnaaGreatWrB1
import Derived.Test.YtnihelcjmahmnaaGreatWrB3
import Derived.Test.YtnihelcjmahmnaaGreatWrB4
import Derived.Test.YtnihelcjmahmnaaGreatWrB5
import Derived.Test.YtnihelcjmahmnaaGreatWrB12
import Derived.Lib.Bytealg
import Derived.Laws.Externs
import Derived.Deep.DeepCutAuto
import Derived.Laws.CopyRow
import Derived.Lib.AppendZerosOnto
import Derived.Lib.Overlaps
set_option linter.unusedSimpArgs false
set_option linter.unusedVariables false
set_option maxRecDepth 100000
set_option maxHeartbeats 16000000
open Go.Proofs.Tryz renaming prog -> aA, underlying200 -> aD, func69 -> aU, ntmps69 -> aV, underlying135 -> bA
open Nat renaming le_refl -> aC, zero_add -> aO, zero_le -> aQ, eq_or_lt_of_le -> bB, mul_le_mul_right -> bE, min_eq_left -> bG
open List renaming length_take -> aE, length_append -> aF, length_drop -> aG, take_of_length_le -> aH, getElem?_cons_zero -> aI, mem_cons_self -> aJ, append_assoc -> aK, take_append_of_le_length -> aL, forall_mem_append -> aM, forall_mem_cons -> aN, drop_of_length_le -> aP, map_toArray -> aR, map_nil -> aS, getElem?_take -> aT, getElem?_cons_succ -> aW, getElem?_append_right -> aX, getElem_cons_zero -> aY, takeWhile_cons -> aZ, getElem?_eq_getElem -> bC, map_cons -> bD, take_take -> bF, take_append -> bH
open Go renaming Value -> bI, World -> bJ, TypeId -> bK, Calls -> bL, IntKind -> bM, Program -> bN, Oper -> bO
namespace Go.Proofs.YtnihelcjmahmnaaGreat
open Go.RowKit
theorem Gw (y:bI) (x:Tv) (G:bJ->(Nat->Prop)->bI->Prop) (w:bJ) (hb:Bs w y (Bg x)) (hr:Be 8 x=true) (hn:Nw x) (hl:(Bg x).length<=4096) (hof:∀(F:Nat->Prop) (cs:List bI) (W:bJ),TvF W F x cs->(∀b,F b->b<W.heap.size)->bL aA 93 #[.agg cs.toArray] W λ e w'=>∃r,e=.returned (.tuple #[r,.bool true])/\G w' F r/\Below W.heap.size W w') (hg:∀(W W2:bJ) (F:Nat->Prop) (r:bI),Below W.heap.size W W2->G W F r->G W2 F r): bL aA 72 #[y] w λ e w'=>∃r,e=.returned (.tuple #[r,.int .i64 0])/\(∃B,G w' (λ b=>w.heap.size<=b/\b<B) r)/\Below w.heap.size w w':=by
  have hrd:=Nd y (Bg x) w hb;rw [Oe hr hn hl] at hrd;have HR:=hqZ hrd;have HOF:=hqZ hof;obtain ⟨ya,yc,rfl,_,_⟩:=hb.form;clear hrd hof hb hr hn hl;go_enter Tryz.func72,Tryz.ntmps72;go_wp2_with fail;refine HR.o.mono ?_;rintro e w1 ⟨cs,rfl,ht,hb⟩;have HT:=hqZ ht;have HB:=hqZ hb;have HL:=hqZ ht.length;have HO:=hqZ ht.one;have HN4:=hqZ (Blk.new w1 zs5 220);clear ht hb HR;go_upto_region 2 with ((with_reducible refine zws 4 11 ?_);refine Af rfl (.tmp 4) (.tmp 11) Aq rfl rfl (vs:=cs) rfl HL.o HN4.o (aC _) HO.o ?_);intro w2 h2 k2;have h2':Blk w2 w1.heap.size cs 220:=by
    rw [aP (by decide),List.append_nil] at h2;exact h2
  have hb2:Below w1.heap.size w1 w2:=((Below.refl _ _).alloc (aC _) _).trans (k2.below (by omega));have H2:=hqZ h2';have HB2:Hq (Below w.heap.size w w2):=hqZ (HB.o.trans (hb2.mono HB.o.size));have HOF2:=hqZ (HOF.o _ cs w2 (HT.o.below hb2) (λ b hb=>by have:=hb.2; have:=hb2.size; omega));clear h2 k2 h2' hb2;go_wp2_with ((with_reducible refine zw 17 ?_);refine Ah rfl (.tmp 4) Aq rfl rfl (cs:=cs) HL.o H2.o.cellsAll ?_);refine HOF2.o.mono ?_;rintro e w3 ⟨r,rfl,hgr,hb3⟩;have HG:=hqZ hgr;have HB3:Hq (Below w.heap.size w w3):=hqZ (HB2.o.trans (hb3.mono HB2.o.size));clear hgr hb3;go_wp2_with fail;go_ret2;exact ⟨r,rfl,⟨_,HG.o⟩,HB3.o⟩
theorem S3 (q:Nat) (s:PS) (k:List UInt8) (u:Nat) (box:List UInt8) (bv:bI) (x1:Nat) (k2:List UInt8) (l3:List UInt8) (x4:Nat) (x5:Nat) (x6:Nat) (l:List Res) (w:bJ) (h:Ac w (pvR q s::l)) (hk:k.length=16) (hu:u<100) (hs:s.sz<1099511627776) (ho:s.Opn k u box (Au 2 [.n x1,.k k2,.s l3,.n x4,.n x5,.n x6])) (hv:∀W,Ac W l->Bs W bv box) (hz1:x1<=1099511627776) (hk2:k2.length=16) (hr3:As (tx l3)=true) (hz4:x4<=1099511627776) (hz5:x5<=1099511627776) (hz6:x6<=1099511627776) (hl:(Au 2 [.n x1,.k k2,.s l3,.n x4,.n x5,.n x6]).length<=4096): bL aA 53 #[pvV s q,Ax k,.int .i64 u,bv] w λ e w'=>e=.returned (.tuple #[.agg (([.int .i64 (x1:Int)]:List bI)++(Ab k2++([.string (tx l3),.int .i64 (x4:Int),.int .i64 (x5:Int),.int .i64 (x6:Int)]:List bI))).toArray,.int .i64 0])/\Ac w' (pvR q s::l):=by
  have HKB:Hq ((Ab k).length=16):=hqZ (by rw [Aa,hk]);have HC:=hqZ (((h.addBlkAt (Ab k) 35 (b:=w.heap.size) rfl).addBlkAt Jj 147 (b:=w.heap.size+1) (by simp)).addBlkAt Jj 147 (b:=w.heap.size+1+1) (by simp));have hnw:Nw (Dz 2 [.n x1,.k k2,.s l3,.n x4,.n x5,.n x6]):=⟨by decide,⟨⟨(by have:=hz1; show x1<_; omega),trivial⟩,⟨⟨(by decide),trivial⟩,⟨⟨(by decide),trivial⟩,⟨⟨(by have:=hz4; show x4<_; omega),trivial⟩,⟨⟨(by have:=hz5; show x5<_; omega),trivial⟩,⟨⟨(by have:=hz6; show x6<_; omega),trivial⟩,trivial⟩⟩⟩⟩⟩⟩⟩;have HUP:=hqZ (λ (y:bI) (w:bJ) (hb:Bs w y (Au 2 [.n x1,.k k2,.s l3,.n x4,.n x5,.n x6]))=>Gw y (Dz 2 [.n x1,.k k2,.s l3,.n x4,.n x5,.n x6]) (λ _ _ r=>r=.iface 147 (.agg (([.int .i64 (x1:Int)]:List bI)++(Ab k2++([.string (tx l3),.int .i64 (x4:Int),.int .i64 (x5:Int),.int .i64 (x6:Int)]:List bI))).toArray)) w hb (Jy (by decide) (by decide) _) hnw hl
    (λ F cs W ht hf=>(A4e x1 k2 l3 x4 x5 x6 F cs W ht hf hz1 hk2 hr3 hz4 hz5 hz6).mono λ e w' h=>⟨_,h.1,rfl,h.2⟩) (λ _ _ _ _ _ h=>h))
  have HOP:=hqZ (λ (w:bJ) (l:List Res) (h:Ac w (pvR q s::l)) (hv:∀W,Ac W l->Bs W bv box)=>Il q s k u box (Au 2 [.n x1,.k k2,.s l3,.n x4,.n x5,.n x6]) bv l w h ho hk hu hv (by omega) hs);have h1:=λ j a w=>Ea s j a "Open" (by simp) w
  have h2:=λ j a w=>N2 s j a w
  have h3:∀(args:Array bI) (w:bJ),(callFunc (E9 s) args).run aA w=.ok (.enter (E9 s) args) w:=Ni s
  have HV:=hqZ hv;have HLN:=hqZ hl;have HKL:=hqZ hk2;clear h hk hu hs ho hv hnw hl hk2 hz1 hr3 hz4 hz5 hz6;unfold Ax at HOP ⊢;unfold pvV;go_enter Tryz.func53,Tryz.ntmps53;go_wp2_with ((with_reducible refine zw 19 ?_);refine Ah rfl (.tmp 5) Al rfl rfl (cs:=Ab k) HKB.o HC.o.pull3.blk0.cellsAll ?_);refine (HOP.o _ _ (HC.o.zP [3]) (λ W hW=>HV.o W hW.tail.tail.tail)).mono ?_;rintro e w1 ⟨y,rfl,hc⟩;obtain ⟨ya,yc,rfl,_,_⟩:=(hc.rowOf (v:=y) (b:=Au 2 [.n x1,.k k2,.s l3,.n x4,.n x5,.n x6]) (by simp)).form;have HC:=hqZ hc;clear hc;go_wp2_with fail;refine (HUP.o _ _ (HC.o.rowOf (v:=.slice ya (Au 2 [.n x1,.k k2,.s l3,.n x4,.n x5,.n x6]).length yc) (b:=Au 2 [.n x1,.k k2,.s l3,.n x4,.n x5,.n x6]) (by simp))).mono ?_;rintro e w2 ⟨_,rfl,⟨_,rfl⟩,hw⟩;have HC:=hqZ (HC.o.step hw);clear hw;obtain ⟨cs,hcs⟩:∃cs:List bI,cs=(([.int .i64 (x1:Int)]:List bI)++(Ab k2++([.string (tx l3),.int .i64 (x4:Int),.int .i64 (x5:Int),.int .i64 (x6:Int)]:List bI))):=⟨_,rfl⟩
  rw [<-hcs];have HCL:Hq (cs.length=21):=hqZ (by rw [hcs]; simp [Aa,HKL.o]);have HCO:Hq (∀u∈cs,u.oneCell'=true):=hqZ (by rw [hcs]; simp only [aM,aN]; exact ⟨⟨rfl,(λ _ h=>by cases h)⟩,Aj _,⟨rfl,rfl,rfl,rfl,(λ _ h=>by cases h)⟩⟩);have HCS:=hqZ hcs;clear hcs;have hta:∀W,(Instr.typeAssert (.iface 147 (.agg cs.toArray)) 20 147 true).run aA W=.ok (.tuple #[.agg cs.toArray,.bool true]) W:=λ W=>Fv _ _ _ (by kernel_rfl) W
  have HN:=hqZ (HC.o.addBlkAt Jj 147 (b:=w2.heap.size) rfl);go_wp2_with ((with_reducible refine zws 15 40 ?_);refine Af rfl (.tmp 15) (.tmp 40) Bz rfl rfl (vs:=cs) rfl HCL.o HN.o.blk0 (aC _) HCO.o ?_);intro w3 h9 k9;have HC:=hqZ (HN.o.stW (vs:=cs) h9 k9 rfl);clear h9 k9 hta;have HC:=hqZ (HC.o.zP [4]);go_wp2_with (first | ((with_reducible refine zw 43 ?_);refine Ah rfl (.tmp 15) Bz rfl rfl (cs:=cs) HCL.o HC.o.swap.blk0.cellsAll ?_) | ((with_reducible refine zws 8 43 ?_);refine Af rfl (.tmp 8) (.tmp 43) Bz rfl rfl (vs:=cs) rfl HCL.o HC.o.blk0 (aC _) HCO.o ?_));intro w4 h8 k8;have HC:=hqZ (HC.o.stW (vs:=cs) h8 k8 rfl);clear h8 k8;go_wp2_with fail;refine bodyPost_ret (An rfl Bz rfl HCL.o HC.o.blk0.cellsAll) rfl ?_;rw [HCS.o];exact ⟨rfl,HC.o.zP [0,0,0,1,1] |>.tail.tail.tail.tail.tail⟩
theorem A1n (q:Nat) (s:PS) (k:List UInt8) (u:Nat) (box:List UInt8) (bv:bI) (x1:Nat) (k2:List UInt8) (x3:Nat) (l4:List UInt8) (x5:Nat) (x6:Nat) (x7:Nat) (l:List Res) (w:bJ) (h:Ac w (pvR q s::l)) (hk:k.length=16) (hu:u<100) (hs:s.sz<1099511627776) (ho:s.Opn k u box (Au 3 [.n x1,.k k2,.n x3,.s l4,.n x5,.n x6,.n x7])) (hv:∀W,Ac W l->Bs W bv box) (hz1:x1<=1099511627776) (hk2:k2.length=16) (hz3:x3<=1099511627776) (hr4:As (tx l4)=true) (hz5:x5<=1099511627776) (hz6:x6<=1099511627776) (hz7:x7<=1099511627776) (hl:(Au 3 [.n x1,.k k2,.n x3,.s l4,.n x5,.n x6,.n x7]).length<=4096): bL aA 73 #[pvV s q,Ax k,.int .i64 u,bv] w λ e w'=>e=.returned (.tuple #[.agg (([.int .i64 (x1:Int)]:List bI)++(Ab k2++([.int .i64 (x3:Int),.string (tx l4),.int .i64 (x5:Int),.int .i64 (x6:Int),.int .i64 (x7:Int)]:List bI))).toArray,.int .i64 0])/\Ac w' (pvR q s::l):=by
  have HKB:Hq ((Ab k).length=16):=hqZ (by rw [Aa,hk]);have HC:=hqZ (((h.addBlkAt (Ab k) 35 (b:=w.heap.size) rfl).addBlkAt A1u 213 (b:=w.heap.size+1) (by simp)).addBlkAt A1u 213 (b:=w.heap.size+1+1) (by simp));have hnw:Nw (Dz 3 [.n x1,.k k2,.n x3,.s l4,.n x5,.n x6,.n x7]):=⟨by decide,⟨⟨(by have:=hz1; show x1<_; omega),trivial⟩,⟨⟨(by decide),trivial⟩,⟨⟨(by have:=hz3; show x3<_; omega),trivial⟩,⟨⟨(by decide),trivial⟩,⟨⟨(by have:=hz5; show x5<_; omega),trivial⟩,⟨⟨(by have:=hz6; show x6<_; omega),trivial⟩,⟨⟨(by have:=hz7; show x7<_; omega),trivial⟩,trivial⟩⟩⟩⟩⟩⟩⟩⟩;have HUP:=hqZ (λ (y:bI) (w:bJ) (hb:Bs w y (Au 3 [.n x1,.k k2,.n x3,.s l4,.n x5,.n x6,.n x7]))=>Gw y (Dz 3 [.n x1,.k k2,.n x3,.s l4,.n x5,.n x6,.n x7]) (λ _ _ r=>r=.iface 213 (.agg (([.int .i64 (x1:Int)]:List bI)++(Ab k2++([.int .i64 (x3:Int),.string (tx l4),.int .i64 (x5:Int),.int .i64 (x6:Int),.int .i64 (x7:Int)]:List bI))).toArray)) w hb (Jy (by decide) (by decide) _) hnw hl
    (λ F cs W ht hf=>(A4f x1 k2 x3 l4 x5 x6 x7 F cs W ht hf hz1 hk2 hz3 hr4 hz5 hz6 hz7).mono λ e w' h=>⟨_,h.1,rfl,h.2⟩) (λ _ _ _ _ _ h=>h))
  have HOP:=hqZ (λ (w:bJ) (l:List Res) (h:Ac w (pvR q s::l)) (hv:∀W,Ac W l->Bs W bv box)=>Il q s k u box (Au 3 [.n x1,.k k2,.n x3,.s l4,.n x5,.n x6,.n x7]) bv l w h ho hk hu hv (by omega) hs);have h1:=λ j a w=>Ea s j a "Open" (by simp) w
  have h2:=λ j a w=>N2 s j a w
  have h3:∀(args:Array bI) (w:bJ),(callFunc (E9 s) args).run aA w=.ok (.enter (E9 s) args) w:=Ni s
  have HV:=hqZ hv;have HLN:=hqZ hl;have HKL:=hqZ hk2;clear h hk hu hs ho hv hnw hl hk2 hz1 hz3 hr4 hz5 hz6 hz7;unfold Ax at HOP ⊢;unfold pvV;go_enter Tryz.func73,Tryz.ntmps73;go_wp2_with ((with_reducible refine zw 19 ?_);refine Ah rfl (.tmp 5) Al rfl rfl (cs:=Ab k) HKB.o HC.o.pull3.blk0.cellsAll ?_);refine (HOP.o _ _ (HC.o.zP [3]) (λ W hW=>HV.o W hW.tail.tail.tail)).mono ?_;rintro e w1 ⟨y,rfl,hc⟩;obtain ⟨ya,yc,rfl,_,_⟩:=(hc.rowOf (v:=y) (b:=Au 3 [.n x1,.k k2,.n x3,.s l4,.n x5,.n x6,.n x7]) (by simp)).form;have HC:=hqZ hc;clear hc;go_wp2_with fail;refine (HUP.o _ _ (HC.o.rowOf (v:=.slice ya (Au 3 [.n x1,.k k2,.n x3,.s l4,.n x5,.n x6,.n x7]).length yc) (b:=Au 3 [.n x1,.k k2,.n x3,.s l4,.n x5,.n x6,.n x7]) (by simp))).mono ?_;rintro e w2 ⟨_,rfl,⟨_,rfl⟩,hw⟩;have HC:=hqZ (HC.o.step hw);clear hw;obtain ⟨cs,hcs⟩:∃cs:List bI,cs=(([.int .i64 (x1:Int)]:List bI)++(Ab k2++([.int .i64 (x3:Int),.string (tx l4),.int .i64 (x5:Int),.int .i64 (x6:Int),.int .i64 (x7:Int)]:List bI))):=⟨_,rfl⟩
  rw [<-hcs];have HCL:Hq (cs.length=22):=hqZ (by rw [hcs]; simp [Aa,HKL.o]);have HCO:Hq (∀u∈cs,u.oneCell'=true):=hqZ (by rw [hcs]; simp only [aM,aN]; exact ⟨⟨rfl,(λ _ h=>by cases h)⟩,Aj _,⟨rfl,rfl,rfl,rfl,rfl,(λ _ h=>by cases h)⟩⟩);have HCS:=hqZ hcs;clear hcs;have hta:∀W,(Instr.typeAssert (.iface 213 (.agg cs.toArray)) 20 213 true).run aA W=.ok (.tuple #[.agg cs.toArray,.bool true]) W:=λ W=>Fv _ _ _ (by kernel_rfl) W
  have HN:=hqZ (HC.o.addBlkAt A1u 213 (b:=w2.heap.size) rfl);go_wp2_with ((with_reducible refine zws 15 40 ?_);refine Af rfl (.tmp 15) (.tmp 40) Hj rfl rfl (vs:=cs) rfl HCL.o HN.o.blk0 (aC _) HCO.o ?_);intro w3 h9 k9;have HC:=hqZ (HN.o.stW (vs:=cs) h9 k9 rfl);clear h9 k9 hta;have HC:=hqZ (HC.o.zP [4]);go_wp2_with (first | ((with_reducible refine zw 43 ?_);refine Ah rfl (.tmp 15) Hj rfl rfl (cs:=cs) HCL.o HC.o.swap.blk0.cellsAll ?_) | ((with_reducible refine zws 8 43 ?_);refine Af rfl (.tmp 8) (.tmp 43) Hj rfl rfl (vs:=cs) rfl HCL.o HC.o.blk0 (aC _) HCO.o ?_));intro w4 h8 k8;have HC:=hqZ (HC.o.stW (vs:=cs) h8 k8 rfl);clear h8 k8;go_wp2_with fail;refine bodyPost_ret (An rfl Hj rfl HCL.o HC.o.blk0.cellsAll) rfl ?_;rw [HCS.o];exact ⟨rfl,HC.o.zP [0,0,0,1,1] |>.tail.tail.tail.tail.tail⟩
theorem S4 (q:Nat) (s:PS) (k:List UInt8) (u:Nat) (box:List UInt8) (bv:bI) (l1:List UInt8) (x2:Nat) (x3:Nat) (k4:List UInt8) (l5:List UInt8) (l:List Res) (w:bJ) (h:Ac w (pvR q s::l)) (hk:k.length=16) (hu:u<100) (hs:s.sz<1099511627776) (ho:s.Opn k u box (Au 4 [.s l1,.n x2,.n x3,.k k4,.b l5])) (hv:∀W,Ac W l->Bs W bv box) (hr1:As (tx l1)=true) (hz2:x2<=1099511627776) (hz3:x3<=1099511627776) (hk4:k4.length=16) (hl:(Au 4 [.s l1,.n x2,.n x3,.k k4,.b l5]).length<=4096): bL aA 54 #[pvV s q,Ax k,.int .i64 u,bv] w λ e w'=>∃v,e=.returned (.tuple #[.agg (([.string (tx l1),.int .i64 (x2:Int),.int .i64 (x3:Int)]:List bI)++(Ab k4++([v]:List bI))).toArray,.int .i64 0])/\Ac w' (.row v l5::pvR q s::l):=by
  have HKB:Hq ((Ab k).length=16):=hqZ (by rw [Aa,hk]);have HC:=hqZ (((h.addBlkAt (Ab k) 35 (b:=w.heap.size) rfl).addBlkAt A1v 173 (b:=w.heap.size+1) (by simp)).addBlkAt A1v 173 (b:=w.heap.size+1+1) (by simp));have hnw:Nw (Dz 4 [.s l1,.n x2,.n x3,.k k4,.b l5]):=⟨by decide,⟨⟨(by decide),trivial⟩,⟨⟨(by have:=hz2; show x2<_; omega),trivial⟩,⟨⟨(by have:=hz3; show x3<_; omega),trivial⟩,⟨⟨(by decide),trivial⟩,⟨⟨(by decide),trivial⟩,trivial⟩⟩⟩⟩⟩⟩;have HUP:=hqZ (λ (y:bI) (w:bJ) (hb:Bs w y (Au 4 [.s l1,.n x2,.n x3,.k k4,.b l5]))=>Gw y (Dz 4 [.s l1,.n x2,.n x3,.k k4,.b l5]) (λ W F r=>∃v,r=.iface 173 (.agg (([.string (tx l1),.int .i64 (x2:Int),.int .i64 (x3:Int)]:List bI)++(Ab k4++([v]:List bI))).toArray)/\Bs W v l5/\(0<l5.length->∀y,v.ownBlock=some y->F y)) w hb (Jy (by decide) (by decide) _) hnw hl
    (λ F cs W ht hf=>(A4g l1 x2 x3 k4 l5 F cs W ht hf hr1 hz2 hz3 hk4).mono λ e w' h=>⟨_,h.choose_spec.1,⟨_,rfl,h.choose_spec.2.1,h.choose_spec.2.2.1⟩,h.choose_spec.2.2.2⟩) (λ W W2 F r hb hg=>by obtain ⟨v,h1,h2,h3⟩:=hg; exact ⟨v,h1,h2.below hb,h3⟩))
  have HOP:=hqZ (λ (w:bJ) (l:List Res) (h:Ac w (pvR q s::l)) (hv:∀W,Ac W l->Bs W bv box)=>Il q s k u box (Au 4 [.s l1,.n x2,.n x3,.k k4,.b l5]) bv l w h ho hk hu hv (by omega) hs);have h1:=λ j a w=>Ea s j a "Open" (by simp) w
  have h2:=λ j a w=>N2 s j a w
  have h3:∀(args:Array bI) (w:bJ),(callFunc (E9 s) args).run aA w=.ok (.enter (E9 s) args) w:=Ni s
  have HV:=hqZ hv;have HLN:=hqZ hl;have HKL:=hqZ hk4;clear h hk hu hs ho hv hnw hl hk4 hr1 hz2 hz3;unfold Ax at HOP ⊢;unfold pvV;go_enter Tryz.func54,Tryz.ntmps54;go_wp2_with ((with_reducible refine zw 19 ?_);refine Ah rfl (.tmp 5) Al rfl rfl (cs:=Ab k) HKB.o HC.o.pull3.blk0.cellsAll ?_);refine (HOP.o _ _ (HC.o.zP [3]) (λ W hW=>HV.o W hW.tail.tail.tail)).mono ?_;rintro e w1 ⟨y,rfl,hc⟩;obtain ⟨ya,yc,rfl,_,_⟩:=(hc.rowOf (v:=y) (b:=Au 4 [.s l1,.n x2,.n x3,.k k4,.b l5]) (by simp)).form;have HC:=hqZ hc;clear hc;go_wp2_with fail;refine (HUP.o _ _ (HC.o.rowOf (v:=.slice ya (Au 4 [.s l1,.n x2,.n x3,.k k4,.b l5]).length yc) (b:=Au 4 [.s l1,.n x2,.n x3,.k k4,.b l5]) (by simp))).mono ?_;rintro e w2 ⟨_,rfl,⟨_,v,rfl,hb,hf⟩,hw⟩;have HC:=hqZ (HC.o.addRow hw hb (λ k hn hk=>(hf hn k hk).1));obtain ⟨va,vc,rfl,_,_⟩:=hb.form;clear hb hf hw;obtain ⟨cs,hcs⟩:∃cs:List bI,cs=(([.string (tx l1),.int .i64 (x2:Int),.int .i64 (x3:Int)]:List bI)++(Ab k4++([.slice va l5.length vc]:List bI))):=⟨_,rfl⟩
  rw [<-hcs];have HCL:Hq (cs.length=20):=hqZ (by rw [hcs]; simp [Aa,HKL.o]);have HCO:Hq (∀u∈cs,u.oneCell'=true):=hqZ (by rw [hcs]; simp only [aM,aN]; exact ⟨⟨rfl,rfl,rfl,(λ _ h=>by cases h)⟩,Aj _,⟨rfl,(λ _ h=>by cases h)⟩⟩);have HCS:=hqZ hcs;clear hcs;have hta:∀W,(Instr.typeAssert (.iface 173 (.agg cs.toArray)) 20 173 true).run aA W=.ok (.tuple #[.agg cs.toArray,.bool true]) W:=λ W=>Fv _ _ _ (by kernel_rfl) W
  have HN:=hqZ (HC.o.addBlkAt A1v 173 (b:=w2.heap.size) rfl);go_wp2_with ((with_reducible refine zws 15 40 ?_);refine Af rfl (.tmp 15) (.tmp 40) I0 rfl rfl (vs:=cs) rfl HCL.o HN.o.blk0 (aC _) HCO.o ?_);intro w3 h9 k9;have HC:=hqZ (HN.o.stW (vs:=cs) h9 k9 rfl);clear h9 k9 hta;have HC:=hqZ (HC.o.zP [5]);go_wp2_with (first | ((with_reducible refine zw 43 ?_);refine Ah rfl (.tmp 15) I0 rfl rfl (cs:=cs) HCL.o HC.o.swap.blk0.cellsAll ?_) | ((with_reducible refine zws 8 43 ?_);refine Af rfl (.tmp 8) (.tmp 43) I0 rfl rfl (vs:=cs) rfl HCL.o HC.o.blk0 (aC _) HCO.o ?_));intro w4 h8 k8;have HC:=hqZ (HC.o.stW (vs:=cs) h8 k8 rfl);clear h8 k8;go_wp2_with fail;refine bodyPost_ret (An rfl I0 rfl HCL.o HC.o.blk0.cellsAll) rfl ?_;rw [HCS.o];exact ⟨_,rfl,HC.o.zP [0,0,1,2,2] |>.tail.tail.tail.tail.tail⟩
theorem S5 (q:Nat) (s:PS) (k:List UInt8) (u:Nat) (box:List UInt8) (bv:bI) (x1:Nat) (x2:Nat) (l:List Res) (w:bJ) (h:Ac w (pvR q s::l)) (hk:k.length=16) (hu:u<100) (hs:s.sz<1099511627776) (ho:s.Opn k u box (Au 5 [.n x1,.n x2])) (hv:∀W,Ac W l->Bs W bv box) (hz1:x1<=1099511627776) (hz2:x2<=1099511627776) (hl:(Au 5 [.n x1,.n x2]).length<=4096): bL aA 39 #[pvV s q,Ax k,.int .i64 u,bv] w λ e w'=>e=.returned (.tuple #[.agg ([.int .i64 (x1:Int),.int .i64 (x2:Int)]:List bI).toArray,.int .i64 0])/\Ac w' (pvR q s::l):=by
  have HKB:Hq ((Ab k).length=16):=hqZ (by rw [Aa,hk]);have HC:=hqZ (((h.addBlkAt (Ab k) 35 (b:=w.heap.size) rfl).addBlkAt A1w 91 (b:=w.heap.size+1) (by simp)).addBlkAt A1w 91 (b:=w.heap.size+1+1) (by simp));have hnw:Nw (Dz 5 [.n x1,.n x2]):=⟨by decide,⟨⟨(by have:=hz1; show x1<_; omega),trivial⟩,⟨⟨(by have:=hz2; show x2<_; omega),trivial⟩,trivial⟩⟩⟩;have HUP:=hqZ (λ (y:bI) (w:bJ) (hb:Bs w y (Au 5 [.n x1,.n x2]))=>Gw y (Dz 5 [.n x1,.n x2]) (λ _ _ r=>r=.iface 91 (.agg ([.int .i64 (x1:Int),.int .i64 (x2:Int)]:List bI).toArray)) w hb (Jy (by decide) (by decide) _) hnw hl
    (λ F cs W ht hf=>(A4h x1 x2 F cs W ht hf hz1 hz2).mono λ e w' h=>⟨_,h.1,rfl,h.2⟩) (λ _ _ _ _ _ h=>h))
  have HOP:=hqZ (λ (w:bJ) (l:List Res) (h:Ac w (pvR q s::l)) (hv:∀W,Ac W l->Bs W bv box)=>Il q s k u box (Au 5 [.n x1,.n x2]) bv l w h ho hk hu hv (by omega) hs);have h1:=λ j a w=>Ea s j a "Open" (by simp) w
  have h2:=λ j a w=>N2 s j a w
  have h3:∀(args:Array bI) (w:bJ),(callFunc (E9 s) args).run aA w=.ok (.enter (E9 s) args) w:=Ni s
  have HV:=hqZ hv;have HLN:=hqZ hl;clear h hk hu hs ho hv hnw hl hz1 hz2;unfold Ax at HOP ⊢;unfold pvV;go_enter Tryz.func39,Tryz.ntmps39;go_wp2_with ((with_reducible refine zw 19 ?_);refine Ah rfl (.tmp 5) Al rfl rfl (cs:=Ab k) HKB.o HC.o.pull3.blk0.cellsAll ?_);refine (HOP.o _ _ (HC.o.zP [3]) (λ W hW=>HV.o W hW.tail.tail.tail)).mono ?_;rintro e w1 ⟨y,rfl,hc⟩;obtain ⟨ya,yc,rfl,_,_⟩:=(hc.rowOf (v:=y) (b:=Au 5 [.n x1,.n x2]) (by simp)).form;have HC:=hqZ hc;clear hc;go_wp2_with fail;refine (HUP.o _ _ (HC.o.rowOf (v:=.slice ya (Au 5 [.n x1,.n x2]).length yc) (b:=Au 5 [.n x1,.n x2]) (by simp))).mono ?_;rintro e w2 ⟨_,rfl,⟨_,rfl⟩,hw⟩;have HC:=hqZ (HC.o.step hw);clear hw;obtain ⟨cs,hcs⟩:∃cs:List bI,cs=([.int .i64 (x1:Int),.int .i64 (x2:Int)]:List bI):=⟨_,rfl⟩
  rw [<-hcs];have HCL:Hq (cs.length=2):=hqZ (by rw [hcs]; simp);have HCO:Hq (∀u∈cs,u.oneCell'=true):=hqZ (by rw [hcs]; simp only [aM,aN]; exact ⟨rfl,rfl,(λ _ h=>by cases h)⟩);have HCS:=hqZ hcs;clear hcs;have hta:∀W,(Instr.typeAssert (.iface 91 (.agg cs.toArray)) 20 91 true).run aA W=.ok (.tuple #[.agg cs.toArray,.bool true]) W:=λ W=>Fv _ _ _ (by kernel_rfl) W
  have HN:=hqZ (HC.o.addBlkAt A1w 91 (b:=w2.heap.size) rfl);go_wp2_with ((with_reducible refine zws 15 40 ?_);refine Af rfl (.tmp 15) (.tmp 40) F6 rfl rfl (vs:=cs) rfl HCL.o HN.o.blk0 (aC _) HCO.o ?_);intro w3 h9 k9;have HC:=hqZ (HN.o.stW (vs:=cs) h9 k9 rfl);clear h9 k9 hta;have HC:=hqZ (HC.o.zP [4]);go_wp2_with (first | ((with_reducible refine zw 43 ?_);refine Ah rfl (.tmp 15) F6 rfl rfl (cs:=cs) HCL.o HC.o.swap.blk0.cellsAll ?_) | ((with_reducible refine zws 8 43 ?_);refine Af rfl (.tmp 8) (.tmp 43) F6 rfl rfl (vs:=cs) rfl HCL.o HC.o.blk0 (aC _) HCO.o ?_));intro w4 h8 k8;have HC:=hqZ (HC.o.stW (vs:=cs) h8 k8 rfl);clear h8 k8;go_wp2_with fail;refine bodyPost_ret (An rfl F6 rfl HCL.o HC.o.blk0.cellsAll) rfl ?_;rw [HCS.o];exact ⟨rfl,HC.o.zP [0,0,0,1,1] |>.tail.tail.tail.tail.tail⟩
end Go.Proofs.YtnihelcjmahmnaaGreat
namespace Go.Proofs.YtnihelcjmahmnaaGreat
open Go.RowKit Go.Lib
theorem A5z:∀ {a b:List UInt8},compareBytes a b=0->a=b
  | [], [],_=>rfl
  | [],_::_,h=>by simp [compareBytes] at h
  | _::_, [],h=>by simp [compareBytes] at h
  | x::a,y::b,h=>by
    rw [compareBytes] at h;split at h
    · cases h
    · split at h
      · cases h
      · next h1 h2=>
        rw [UInt8.lt_iff_toNat_lt] at h1 h2;rw [UInt8.toNat_inj.1 (show x.toNat=y.toNat by omega),A5z h]
theorem Xh:∀ {a b c:List UInt8},compareBytes a b<0->compareBytes b c<0->compareBytes a c<0
  | [], [],_,h,_=>by simp [compareBytes] at h
  | [],_::_, [],_,h=>by simp [compareBytes] at h
  | [],_::_,_::_,_,_=>by simp [compareBytes]
  | _::_, [],_,h,_=>by simp [compareBytes] at h
  | _::_,_::_, [],_,h=>by simp [compareBytes] at h
  | x::a,y::b,z::c,h,k=>by
    rw [compareBytes] at h k ⊢;simp only [UInt8.lt_iff_toNat_lt] at h k ⊢;by_cases h1:x.toNat<y.toNat
    · by_cases k1:y.toNat<z.toNat
      · rw [if_pos (by omega)]; decide
      · rw [if_neg k1] at k;by_cases k2:z.toNat<y.toNat
        · rw [if_pos k2] at k; simp at k
        · rw [if_pos (by omega)]; decide
    · rw [if_neg h1] at h;by_cases h2:y.toNat<x.toNat
      · rw [if_pos h2] at h; simp at h
      · rw [if_neg h2] at h;by_cases k1:y.toNat<z.toNat
        · rw [if_pos (by omega)]; decide
        · rw [if_neg k1] at k;by_cases k2:z.toNat<y.toNat
          · rw [if_pos k2] at k; simp at k
          · rw [if_neg k2] at k;rw [if_neg (by omega),if_neg (by omega)];exact Xh h k
def J0 (a b:ByteArray):Int:=compareBytes a.data.toList b.data.toList
theorem A3h {a b:ByteArray} (h:a.data.toList=b.data.toList):a=b:=by
  obtain ⟨a⟩:=a;obtain ⟨b⟩:=b;exact congrArg ByteArray.mk (Array.toList_inj.1 h)
theorem A4z {a b:ByteArray} (h:J0 a b=0):a=b:=A3h (A5z h)
theorem Rg {a b c:ByteArray} (h:J0 a b<0) (k:J0 b c<0):J0 a c<0:=Xh h k
structure Us where
  name:ByteArray
  key:List UInt8
  kl:key.length=16
  life:Int
  renew:Int
  mesh:Bool
def Us.cells (u:Us):List bI:=.string u.name::(Ab u.key++ [.int .i64 u.life,.int .i64 u.renew,.bool u.mesh])
theorem Us.cells_length (u:Us):u.cells.length=20:=by simp [Us.cells,Aa,u.kl]
theorem Us.cells_one (u:Us):∀c∈u.cells,c.oneCell'=true:=by
  intro c hc;simp only [Us.cells,List.mem_cons,List.mem_append,List.not_mem_nil,or_false] at hc;rcases hc with rfl | hc | rfl | rfl | rfl
  · rfl
  · exact Aj _ c hc
  all_goals rfl
theorem Us.c0 (u:Us):u.cells[0]?=some (.string u.name):=rfl
theorem Us.c17 (u:Us):u.cells[17]?=some (.int .i64 u.life):=by
  rw [Us.cells,aW,aX (by rw [Aa,u.kl]; omega),Aa,u.kl]; rfl
theorem Us.c18 (u:Us):u.cells[18]?=some (.int .i64 u.renew):=by
  rw [Us.cells,aW,aX (by rw [Aa,u.kl]; omega),Aa,u.kl]; rfl
def usC (L:List Us):List bI:=(L.map Us.cells).flatten
theorem Ec (L:List Us):(usC L).length=L.length*20:=Ld Us.cells L (λ u _=>u.cells_length)
theorem Q3 (L:List Us):∀c∈usC L,c.oneCell'=true:=by
  intro c hc;obtain ⟨x,hx,hcx⟩:=List.mem_flatten.1 hc;obtain ⟨u,_,rfl⟩:=List.mem_map.1 hx;exact u.cells_one c hcx
theorem A6j (L:List Us) (k j:Nat) (h:k<L.length) (hj:j<20):(usC L)[k*20+j]?=L[k].cells[j]?:=Nj Us.cells L (λ u _=>u.cells_length) k j h hj
theorem Iw (L M:List Us):usC (L++M)=usC L++usC M:=by simp [usC]
theorem A0d (L:List Us) (k:Nat):usC (L.take k)=(usC L).take (k*20):=(Uh Us.cells L (λ u _=>u.cells_length) k).symm
theorem A4l (L:List Us) (k:Nat):usC (L.drop k)=(usC L).drop (k*20):=(Ug Us.cells L (λ u _=>u.cells_length) k).symm
theorem S9 (u:Us):usC [u]=u.cells:=by simp [usC]
def Fx (L:List Us):Prop:=L.Pairwise λ x y=>J0 x.name y.name<0
theorem Fx.at {L:List Us} (h:Fx L) {i j:Nat} (hij:i<j) (hj:j<L.length):J0 (L[i]'(by omega)).name L[j].name<0:=List.pairwise_iff_getElem.1 h i j (by omega) hj hij
def Ho (L:List Us) (s:ByteArray):Nat:=(L.takeWhile λ u=>decide (J0 u.name s<0)).length
theorem A1Q:∀ {L:List Us} {s:ByteArray} {i:Nat},i<=L.length->(∀k (h:k<L.length),k<i->J0 L[k].name s<0)->(∀h:i<L.length,¬J0 L[i].name s<0)->Ho L s=i
  | [],s,i,hi,_,_=>by simp at hi; simp [Ho,hi]
  | u::L,s,0,_,_,h2=>by
    have:=h2 (by simp);simp only [aY] at this;simp [Ho,aZ,this]
  | u::L,s,i+1,hi,h1,h2=>by
    have:=h1 0 (by simp) (by omega);simp only [aY] at this;have ih:=A1Q (L:=L) (s:=s) (i:=i) (by simpa using hi) (λ k h hk=>h1 (k+1) (by simpa using h) (by omega)) (λ h=>h2 (by simpa using h));rw [Ho,aZ,if_pos (by simpa using this),List.length_cons,<-Ho,ih]
theorem A1R (L:List Us) (s:ByteArray):Ho L s<=L.length:=(List.takeWhile_prefix _).length_le
def Nn (L:List Us) (s:ByteArray):Bool:=match L[Ho L s]? with | some u=>decide (J0 u.name s=0) | none=>false
theorem A2k {L:List Us} {s:ByteArray} (h:Nn L s=true):∃hk:Ho L s<L.length,L[Ho L s].name=s:=by
  unfold Nn at h;split at h
  · next u hu=>
    obtain ⟨hk,he⟩:=List.getElem?_eq_some_iff.1 hu;exact ⟨hk,by rw [he]; exact A4z (by simpa using h)⟩
  · cases h
def A4H (L:List Us) (u:Us):List Us:=L.take (Ho L u.name)++u::L.drop (Ho L u.name)
theorem Pm:A7 aA 135 20:=A7.mk bA rfl (by kernel_rfl)
def zsU:List bI:=.string .empty::(List.replicate 16 (.int .u8 0)++ [.int .i64 0,.int .i64 0,.bool false])
theorem Xu:Cz aA 200 135 20 56 (.agg zsU.toArray):=by
  refine Cz.mk aD ?_ rfl (by decide)
  kernel_rfl
end Go.Proofs.YtnihelcjmahmnaaGreat
namespace Go.Proofs.YtnihelcjmahmnaaGreat
open Go.RowKit
theorem To (a b:ByteArray) (w:bJ): bL aA 103 #[.string a,.string b] w λ e w'=>e=.returned (.int .i64 (J0 a b))/\w=w':=by
  go_enter Tryz.func103,Tryz.ntmps103;go_wp2_with fail;rw [run_callFunc_extern Tryz.func122 (by kernel_rfl) (by kernel_rfl) (by kernel_rfl) (e:=Extern.BytealgCompare.compare) (by kernel_rfl),Lib.run_compareString];simp only [Result.andThen];rw [bO.upon_value];go_wp2_with fail;go_ret;exact ⟨rfl,rfl⟩
theorem Xi (a b:ByteArray) (w:bJ): bL aA 87 #[.string a,.string b] w λ e w'=>e=.returned (.int .i64 (J0 a b))/\w=w':=by
  go_enter Tryz.func87,Tryz.ntmps87;go_wp2_with fail;refine (To a b w).mono ?_;rintro e w1 ⟨rfl,rfl⟩;go_wp2_with fail;go_ret;exact ⟨rfl,rfl⟩
theorem Sc (u:Us) (s:ByteArray) (w:bJ): bL aA 86 #[.agg u.cells.toArray,.string s] w λ e w'=>e=.returned (.int .i64 (J0 u.name s))/\Below w.heap.size w w':=by
  have c0:(w.alloc (.cells u.cells.toArray 135)).cell? ⟨w.heap.size,0,none⟩=some (.string u.name):=(Blk.new w u.cells 135).cell 0;go_enter Tryz.func86,Tryz.ntmps86;go_wp2_with fail;refine (Xi u.name s _).mono ?_;rintro e w1 ⟨rfl,rfl⟩;go_wp2_with fail;go_ret;exact ⟨rfl,(Below.refl _ _).alloc (aC _) _⟩
theorem Pc {w w':bJ} {b o n c:Nat} {L:List Us} (h:Sl w 20 (.slice (some ⟨b,o,none⟩) n c) n (usC L)) (hb:Below w.heap.size w w') (k:Nat) (hk:k<L.length):Ao w' b (o+k*20) L[k].cells:=by
  obtain ⟨b',o',he,hcell⟩:=h.addr (by rw [Ec]; omega);simp only [Option.some.injEq,Addr.mk.injEq,and_true] at he;obtain ⟨rfl,rfl⟩:=he;intro j u hj;have hj':j<20:=by rw [<-L[k].cells_length]; exact (List.getElem?_eq_some_iff.1 hj).1
  have:=hcell (k*20+j) u (by rw [A6j L k j hk hj']; exact hj);rw [Nat.add_assoc];exact Bc hb this
theorem A5Q (v:bI) (L:List Us) (s:ByteArray) (w:bJ) (h:Sl w 20 v L.length (usC L)) (hs:Fx L) (hl:L.length<=1000): bL aA 85 #[v,.string s,.func (.func 86) #[] #[]] w λ e w'=> e=.returned (.tuple #[.int .i64 (Ho L s),.bool (Nn L s)])/\Below w.heap.size w w':=by
  obtain ⟨a,c,rfl,hc,hm⟩:=h.form;unfold maxLen at hm;have HSL:=hqZ h;have HS:=hqZ hs;clear h hs;go_enter Tryz.func85,Tryz.ntmps85;go_wp2_with fail;go_loopw [9,10] (λ iv jv wr=>∃i j:Nat,iv=.int .i64 i/\jv=.int .i64 j/\i<=j/\j<=L.length/\(∀k (hk:k<L.length),k<i->J0 L[k].name s<0)/\(∀k (hk:k<L.length),j<=k->0<=J0 L[k].name s)/\Below w.heap.size w wr) (λ i j _=>(intOf j).toNat- (intOf i).toNat)
  case atStart=>exact ⟨0,L.length,rfl,rfl,aQ _,aC _,λ k _ h=>by omega,λ k h h'=>by omega,Below.refl _ _⟩
  case round=>
    obtain ⟨i,j,rfl,rfl,hij,hjl,hlo,hhi,hB⟩:=hrel;have HLO:=hqZ hlo;have HHI:=hqZ hhi;have HB:=hqZ hB;clear hlo hhi hB;by_cases hlt:i<j
    · obtain ⟨bl,ol,rfl,_⟩:=HSL.o.addr (by rw [Ec]; omega);go_upto_region 5 with fail;obtain ⟨m,hmid⟩:∃m:Nat,((i:Int)+j) / 2=m:=⟨(i+j) / 2,by omega⟩
      rw [hmid];have hmi:i<=m:=by omega
      have hmj:m<j:=by omega
      have hml:m<L.length:=by omega
      have HCE:=hqZ (Pc HSL.o HB.o m hml);obtain ⟨u,hu⟩:∃u,u=L[m]:=⟨_,rfl⟩
      rw [<-hu] at HCE;have HU:=hqZ hu;clear hu hmid;go_wp2_with ((with_reducible refine zw 28 ?_);refine Ah rfl (.tmp 27) Pm rfl rfl (cs:=u.cells) u.cells_length HCE.o ?_);refine (Sc u s wr).mono ?_;rintro e w1 ⟨rfl,hb⟩;have HB1:=hqZ (HB.o.trans (hb.mono HB.o.size));clear hb;by_cases hcm:J0 u.name s<0
      · have HCM:=hqZ hcm;go_wp2_with fail;go_roundw
        case rel=>exact ⟨m+1,j,by go_num,rfl,by omega,hjl,λ k hk hlt=>by
          rcases Nat.lt_or_ge k m with h | h
          · exact Rg (HS.o.at h hml) (by rw [<-HU.o]; exact HCM.o)
          · have h':k=m:=by omega
            subst h';rw [<-HU.o]; exact HCM.o,HHI.o,HB1.o⟩
        case measure=>simp [intOf]; omega
      · have HCM:=hqZ hcm;go_wp2_with fail;go_roundw
        case rel=>exact ⟨i,m,rfl,rfl,hmi,by omega,HLO.o,λ k hk hle=>by
          have h0:0<=J0 u.name s:=HCM.o;rcases bB hle with h' | h'
          · subst h';rw [<-HU.o]; exact h0
          · apply Int.not_lt.1;intro h;exact Int.not_lt.2 h0 (by rw [HU.o]; exact Rg (HS.o.at h' hk) h),HB1.o⟩
        case measure=>simp [intOf]; omega
    · obtain rfl:i=j:=by omega
      have hp:Ho L s=i:=A1Q hjl HLO.o (λ h=>Int.not_lt.2 (HHI.o i h (aC _)));have HP:=hqZ hp;clear hp;by_cases hil:i<L.length
      · have hil':(i:Int)<L.length:=by omega
        obtain ⟨bl,ol,rfl,_⟩:=HSL.o.addr (by rw [Ec]; omega);have HCE:=hqZ (Pc HSL.o HB.o i hil);obtain ⟨u,hu⟩:∃u,u=L[i]:=⟨_,rfl⟩
        rw [<-hu] at HCE;have HH:Hq (Nn L s=(J0 u.name s==0)):=hqZ (by
          unfold Nn;rw [HP.o,bC hil,hu]
          rfl)
        clear hu;go_wp2_with ((with_reducible refine zw 44 ?_);refine Ah rfl (.tmp 43) Pm rfl rfl (cs:=u.cells) u.cells_length HCE.o ?_);refine (Sc u s wr).mono ?_;rintro e w1 ⟨rfl,hb⟩;have HB1:=hqZ (HB.o.trans (hb.mono HB.o.size));clear hb;go_wp2_with fail;go_ret2;rw [HP.o,HH.o];exact ⟨rfl,HB1.o⟩
      · have hil':¬(i:Int)<L.length:=by omega
        have HH:Hq (Nn L s=false):=hqZ (by
          unfold Nn;rw [HP.o,List.getElem?_eq_none (by omega)])
        go_wp2_with fail;go_ret2;rw [HP.o,HH.o];exact ⟨rfl,HB.o⟩
def Bv (p:Nat) (L:List Us):Res:=.ex λ v=>.all [.blk p [v] 202,.own 135 20 v L.length (usC L)]
theorem Mw {W:bJ} {p:Nat} {L:List Us} {l:List Res} (h:Ac W (Bv p L::l)): ∃a c,L.length<=c/\c<=maxLen/\Ac W (.blk p [.slice a L.length c] 202::.own 135 20 (.slice a L.length c) L.length (usC L)::l):=by
  obtain ⟨v,h⟩:=Ac.ex.1 h;have h:=Ac.app.1 h;obtain ⟨a,c,rfl,h1,h2⟩:=(h.ownOf (e:=135) (sz:=20) (v:=v) (n:=L.length) (cs:=usC L) (by simp)).1.sl.form;exact ⟨a,c,h1,h2,h⟩
theorem Rb {W:bJ} {p:Nat} {L:List Us} {v:bI} {l:List Res} (h:Ac W (.blk p [v] 202::.own 135 20 v L.length (usC L)::l)):Ac W (Bv p L::l):=
  Ac.ex.2 ⟨v,Ac.app.2 h⟩
theorem Um (p:Nat) (L:List Us) (s:ByteArray) (l:List Res) (w:bJ) (h:Ac w (Bv p L::l)) (hs:Fx L) (hl:L.length<=1000): bL aA 67 #[.pointer (some ⟨p,0,none⟩),.string s] w λ e w'=>e=.returned (.tuple #[.int .i64 (Ho L s),.bool (Nn L s)])/\Below w.heap.size w w':=by
  obtain ⟨a,c,hc,hm,h⟩:=Mw h;have c0:w.cell? ⟨p,0,none⟩=some (.slice a L.length c):=(h.blkOf (aJ)).cell 0;have hsl:=(h.ownOf (e:=135) (sz:=20) (v:=.slice a L.length c) (n:=L.length) (cs:=usC L) (by simp)).1.sl;have HB:=hqZ (A5Q _ L s w hsl hs hl);clear h hsl hs;go_enter Tryz.func67,Tryz.ntmps67;go_wp2_with fail;refine HB.o.mono ?_;rintro e w1 ⟨rfl,hb⟩;go_wp2_with fail;go_ret2;exact ⟨rfl,hb⟩
theorem A1X {P:bN} {w:bJ} {dT sT ty e:bK} {sz bytes:Nat} {z:bI} (hE:Cz P dT e sz bytes z) {g o dLen dCap:Nat} {cur:List bI} {T:bK} (hb:Blk w g cur T) {a:Addr} {n cap:Nat} {cs:List bI} (hcs:cs.length=min n dLen*sz) (hc1:∀u∈cs,u.oneCell'=true) (hsrc:∀j u,cs[j]?=some u->w.cell? (a.add j)=some u) (hfit:o+cs.length<=cur.length): (Builtin.copy_ #[dT,sT] ty #[.slice (some ⟨g,o,none⟩) dLen dCap,.slice (some a) n cap]).run P w=.ok (.int .i64 (min n dLen:Nat)) (w.setRow g (cur.take o++cs++cur.drop (o+cs.length)).toArray):=by
  obtain ⟨ht,i,hi,hz,hsize,hby,hzs,hsz⟩:=hE;have hl:=run_loadCells_list (P:=P) w a cs hsrc;have hst:=run_storeCells_at P g o T cs 0 cur.toArray w hb (by simpa using hfit) hc1;have hm:Nat.min n dLen*sz=cs.length:=hcs.symm;simp [Builtin.copy_,run_underlying ht,Builtin.lenOf,Builtin.firstCells,sizeOf,typeInfo,hi,hsize,hm,hl,hst,goInt]
theorem Vf {w:bJ} {g:Nat} {cur:List bI} {T:bK} (hb:Blk w g cur T) (cs:List bI):Blk (w.setRow g cs.toArray) g cs T/\Ai (λ k=>k=g) w (w.setRow g cs.toArray):=by
  refine ⟨?_,Ai.oneRow _ _ _⟩;unfold Blk;rw [setRow_heap w g cur.toArray _ T _ hb]
theorem Td {P:bN} {w:bJ} {ops:Array bO} {rest:List bO} {o:bO} {a:Act} {Q:Exit->Act->bJ->Prop} (hgd:Region.wanted o (yielded ops a.tmps)=true) (d s:Operand) {dT sT e:bK} {sz bytes:Nat} {z:bI} (hE:Cz P dT e sz bytes z) (ho:o.op=.call { callee:=.builtin .copy,args:=#[d,s],argTypes:=#[dT,sT] }) {g off dLen dCap:Nat} (hd:a.eval d=.slice (some ⟨g,off,none⟩) dLen dCap) {cur:List bI} {T:bK} (hb:Blk w g cur T) {ad:Addr} {n cap:Nat} (hu:a.eval s=.slice (some ad) n cap) {cs:List bI} (hcs:cs.length=min n dLen*sz) (hc1:∀u∈cs,u.oneCell'=true) (hsrc:∀j u,cs[j]?=some u->w.cell? (ad.add j)=some u) (hfit:off+cs.length<=cur.length) (h:∀w',Blk w' g (cur.take off++cs++cur.drop (off+cs.length)) T->Ai (λ k=>k=g) w w'->wpList P ops Q rest (a.put o.dst (.int .i64 (min n dLen:Nat))) w'):wpList P ops Q (o::rest) a w:=by
  have hr:=A1X (P:=P) (sT:=sT) (ty:=o.type) (dCap:=dCap) (cap:=cap) hE hb hcs hc1 hsrc hfit;refine By hgd λ K hK=>?_
  unfold bO.wp execOp;simp only [ho,resolve,invoke,builtin,Sem.run_bind,Sem.run_pure,Result.andThen_ok,aR,bD,aS,hd,hu,hr];exact hK _ _ (h _ (Vf hb _).1 (Vf hb _).2)
theorem Zn {P:bN} {ops:Array bO} {o:bO} {a:Act} {w:bJ} {K:Act->bJ->Prop} {Q:Exit->Act->bJ->Prop} {E:Prop} (hgd:o.guard=none) (d s:Operand) {dT sT e:bK} {sz bytes:Nat} {z:bI} (hE:Cz P dT e sz bytes z) (ho:o.op=.call { callee:=.builtin .copy,args:=#[d,s],argTypes:=#[dT,sT] }) {g off dLen dCap:Nat} (hd:a.eval d=.slice (some ⟨g,off,none⟩) dLen dCap) {cur:List bI} {T:bK} (hb:Blk w g cur T) {ad:Addr} {n cap:Nat} (hu:a.eval s=.slice (some ad) n cap) {cs:List bI} (hcs:cs.length=min n dLen*sz) (hc1:∀u∈cs,u.oneCell'=true) (hsrc:∀j u,cs[j]?=some u->w.cell? (ad.add j)=some u) (hfit:off+cs.length<=cur.length) (h:∀w',Blk w' g (cur.take off++cs++cur.drop (off+cs.length)) T->Ai (λ k=>k=g) w w'->K (a.put o.dst (.int .i64 (min n dLen:Nat))) w'): if Region.wanted o (yielded ops a.tmps)=true then bO.wp P o a w K Q else E:=by
  have hw:Region.wanted o (yielded ops a.tmps)=true:=by simp [Region.wanted,hgd]
  rw [if_pos hw];have hr:=A1X (P:=P) (sT:=sT) (ty:=o.type) (dCap:=dCap) (cap:=cap) hE hb hcs hc1 hsrc hfit;unfold bO.wp execOp;simp only [ho,resolve,invoke,builtin,Sem.run_bind,Sem.run_pure,Result.andThen_ok,aR,bD,aS,hd,hu,hr];exact h _ (Vf hb _).1 (Vf hb _).2
theorem Mu (z:Array bI) (n:Nat):(Builtin.zeroCells z n).toList.length=n*z.size:=by simp [Builtin.zeroCells]
theorem Ie {P:bN} {o:bO} {a:Act} {W:bJ} {t:bK} {x:Operand} {lo hi mx:Option Operand} (ho:o.op=.slice t x lo hi mx) {v:bI} (hr:(Instr.sliceAt t (a.eval x) (lo.map a.eval) (hi.map a.eval) (mx.map a.eval)).run P W=.ok v W): (execOp a.eval o).run P W=.ok (.value v) W:=by
  unfold execOp;simp only [ho,Sem.run_bind,Sem.run_pure,hr,Result.andThen_ok]
theorem Ac.ownBlk {W:bJ} {l:List Res} {e:bK} {sz n:Nat} {v:bI} {cs:List bI} (h:Ac W (.own e sz v n cs::l)) (hn:0<n): ∃(g cap:Nat) (cur:List bI),v=.slice (some ⟨g,0,none⟩) n cap/\n<=cap/\cap<=maxLen/\cur.length=cap*sz/\cur.take (n*sz)=cs/\Ac W (.blk g cur e::l):=by
  obtain ⟨⟨hl,h1,⟨a,rfl,rfl⟩ | ⟨g,cap,cur,rfl,hB,hr,hnc,hcm,hsz,htk⟩⟩,hlt⟩:=h.ownOf (aJ)
  · omega
  · refine ⟨g,cap,cur.toList,rfl,hnc,hcm,by simpa using hsz,htk,?_⟩;refine h.weaken λ F hF=>⟨λ b=>b=g,⟨by simpa [Blk] using hr,λ b=>Iff.rfl⟩,λ b hb=>?_⟩
    subst hb;exact (hF.2.2 _).2 rfl
theorem Ac.blkOwn {W:bJ} {l:List Res} {e:bK} {g:Nat} {cur:List bI} (h:Ac W (.blk g cur e::l)) (sz n cap:Nat) (hc:cur.length=cap*sz) (hn:n<=cap) (hm:cap<=maxLen) {cs:List bI} (ht:cur.take (n*sz)=cs) (h1:∀u∈cs,u.oneCell'=true): Ac W (.own e sz (.slice (some ⟨g,0,none⟩) n cap) n cs::l):=by
  have hmul:n*sz<=cap*sz:=bE _ hn;refine h.weaken λ F hF=>⟨λ b=>b=g,⟨⟨by rw [<-ht,aE]; omega,h1,.inr ⟨g,cap,cur.toArray,rfl,aQ _,hF.1,hn,hm,by simpa using hc,by simpa using ht⟩⟩,λ b hb=>?_,λ b=>?_⟩,λ b hb=>(hF.2 b).2 hb⟩
  · simp [bI.ownBlock] at hb;subst hb;exact hF.1.lt
  · simp only [bI.ownBlock];exact ⟨λ h=>by rw [h],λ h=>by simpa using h.symm⟩
theorem Ac.blkTurn {W W':bJ} {l:List Res} {g:Nat} {cur cur':List bI} {T:bK} (h:Ac W (.blk g cur T::l)) (hb:Blk W' g cur' T) (hk:Ai (λ k=>k=g) W W'):Ac W' (.blk g cur' T::l):=
  h.turn λ F hF=>⟨F,⟨hb,hF.2⟩,λ b hb=>.inl hb,hk.mono λ k hk=>.inl ((hF.2 k).2 hk)⟩
theorem A5x:∀c∈(bI.agg zsU.toArray).cells.toList,c.oneCell'=true:=by decide
theorem szU (w:bJ):(sizeOf 135).run aA w=.ok 20 w:=by kernel_rfl
theorem Wj {w:bJ} {g cap:Nat} {cur:List bI} (hb:Blk w g cur 135) {L:List Us} (htk:cur.take (L.length*20)=usC L) (i:Nat) (hi:i<=L.length) (hcap:L.length<=cap): ∃ad,I1 g cap i 20=some ad/\∀j u,(usC (L.drop i))[j]?=some u->w.cell? (ad.add j)=some u:=by
  unfold I1;by_cases hc:cap=i
  · exact ⟨_,if_pos hc,λ j u hj=>by rw [aP (by omega)] at hj; simp [usC] at hj⟩
  · refine ⟨_,if_neg hc,λ j u hj=>?_⟩;rw [Addr.add_lit,hb.cell];rw [A4l,<-htk,List.getElem?_drop,aT] at hj;split at hj
    · exact hj
    · cases hj
theorem V8 {a:Option Addr} {n cap i:Nat} (hi:i<=n) (hc:n<=cap) (ha:a=none->cap=0) (W:bJ):∃X,(Instr.sliceAt 200 (.slice a n cap) (some (.int .i64 i)) none none).run aA W=.ok X W:=by
  have h2:¬((i:Int)<0):=by omega
  have h3:¬(n<i):=by omega
  cases a with
  | none=>
    have hc0:=ha rfl;subst hc0;obtain rfl:n=0:=by omega
    obtain rfl:i=0:=by omega
    exact ⟨_,by simp [Instr.sliceAt,Instr.slice,Instr.sliceBounds,Instr.sliceBound,run_underlying aD,asIntOf,szU]; rfl⟩
  | some ad=>exact ⟨_,by simp [Instr.sliceAt,Instr.slice,Instr.sliceBounds,Instr.sliceBound,run_underlying aD,asIntOf,szU,h2,h3,hi]; rfl⟩
theorem Blk.slZ {w:bJ} {g sz:Nat} {cs:List bI} {T:bK} (h:Blk w g cs T) (hl:cs.length=sz) (h1:∀u∈cs,u.oneCell'=true):Sl w sz (.slice (some ⟨g,0,none⟩) 1 1) 1 cs:=
  ⟨by omega,h1,_,1,rfl,aC _,by unfold maxLen; decide,λ h=>by simp at h,.inr ⟨g,0,rfl,λ j u hj=>by rw [aO,h.cell]; exact hj⟩⟩
theorem A0F {w:bJ} {g cap i k n:Nat} {cur:List bI} {L:List Us} (hb:Blk w g cur 135) (hn:L.length=n) (htk:cur.take (n*20)=usC L) (hi:i<=n) (hik:i+k=n+1) (hk:0<k) (hg:cap<n+1) (hl:n<=1000): ∃(gc:Nat) (zs:List bI),n+1<=gc/\gc<=maxLen/\zs.length=(gc-i)*20/\∀ty,(Builtin.append_ #[200,3] ty #[.slice (some ⟨g,0,none⟩) i cap,.int .i64 k]).run aA w= .ok (.slice (some ⟨w.heap.size,0,none⟩) (n+1) gc) (w.drew.alloc (.cells (usC (L.take i)++zs).toArray 135)):=by
  obtain ⟨ht,ie,hie,hz,hsize,hby,hzs,hsz⟩:=Xu;have hge:=grownCap_ge w (i+k) cap 135;have hle:=grownCap_le_maxLen w (i+k) cap 135 (by unfold maxLen; omega);have hnx:=nextslicecap_le (need:=i+k) (old:=cap) (by omega);have hl1:(usC (L.take i)).length=i*20:=by rw [Ec,aE]; congr 1; omega
  have hold:=run_firstCells_some (P:=aA) w.drew ie.size i ⟨g,0,none⟩ i cap (usC (L.take i)) (by rw [hsize]; exact hl1) (λ j u hj=>by
    rw [Addr.add_lit,aO,hb.drew.cell];rw [A0d,<-htk,aT] at hj;split at hj
    · rw [aT] at hj;split at hj
      · exact hj
      · cases hj
    · cases hj)
  have hr:=λ ty=>Lib.run_append_grow_zeros (P:=aA) w 200 3 ty 135 ie _ .i64 .i64 ht Tryz.underlying3 hie hz (some ⟨g,0,none⟩) i cap (usC (L.take i)) hold k hk (by rw [hsize]; decide) (by omega) (by omega) (by rw [hby]; omega) (by
    rw [hby]
    have:Builtin.nextslicecap (i+k) cap*56<=(2*(i+k))*56:=bE _ hnx
    omega)
  rw [hik] at hr hge hle;refine ⟨_,(Builtin.zeroCells (bI.agg zsU.toArray).cells k).toList++(Builtin.zeroCells (bI.agg zsU.toArray).cells (grownCap w (n+1) cap 135- (n+1))).toList,hge,hle,?_,λ ty=>?_⟩
  · rw [aF,Mu,Mu,hzs];omega
  · rw [hr ty];congr 3;rw [List.append_toArray,<-aK];simp
theorem Ac.blk_ne {W:bJ} {g q:Nat} {c c':List bI} {T T':bK} {l:List Res} (h:Ac W (.blk g c T::.blk q c' T'::l)):g≠q:=by
  rintro rfl;obtain ⟨F1,F2,h1,h2,h3⟩:=Ac.cons.1 h;obtain ⟨G1,G2,k1,k2,_,k3⟩:=h2;exact h3 g ((h1.2 g).2 rfl) (by first | exact (k3 g).2 (.inl ((k1.2 g).2 rfl)) | exact k3 g ((k1.2 g).2 rfl))
theorem Ut {w:bJ} {g:Nat} {cur:List bI} {T:bK} (hb:Blk w g cur T):w.shape? g=some (T,cur.length):=by
  have h:w.heap[g]?=_:=hb;simp [bJ.shape?,h]
theorem A0H (v:bI) (L:List Us) (u:Us) (gq:Nat) (l:List Res) (w:bJ) (h:Ac w (.own 135 20 v L.length (usC L)::.blk gq u.cells 135::l)) (hl:L.length<=1000): bL aA 69 #[v,.int .i64 L.length,.slice (some ⟨gq,0,none⟩) 1 1] w λ e w'=>∃v',e=.returned v'/\Ac w' (.own 135 20 v' (L.length+1) (usC (L++ [u]))::.blk gq u.cells 135::l):=by
  have hown:=h.ownOf (aJ);obtain ⟨a,cap,rfl,hc,hm⟩:=hown.1.sl.form;have ha:a=none->cap=0:=by
    rintro rfl;obtain ⟨_,_,⟨_,h1,h2⟩ | ⟨g,c,cur,h1,_⟩⟩:=hown.1
    · simp at h1; omega
    · simp at h1
  have hx:=λ W=>V8 (a:=a) (i:=L.length) (aC _) hc ha W
  obtain ⟨X,hX⟩:∃X:bJ->bI,∀W,(Instr.sliceAt 200 (.slice a L.length cap) (some (.int .i64 L.length)) none none).run aA W=.ok (X W) W:=⟨λ W=>(hx W).choose,λ W=>(hx W).choose_spec⟩
  have HOWN:=hqZ hown;have HSL:=hqZ ((h.zB gq).slZ u.cells_length u.cells_one);have HC:=hqZ h;unfold maxLen at hm;clear h hown ha hx;go_enter aU,aV;go_wp2_with ((with_reducible refine zw 25 ?_);refine Df rfl (.tmp 23) (.tmp 24) Xu rfl 0 HOWN.o.1 HOWN.o.2 HSL.o (by unfold maxLen; omega) (by omega) (aQ _) ?_);intro v' w' h1 h2 h3;have HD:=hqZ (HC.o.append (B:=0) h1 (h2.mono λ k h=>by simpa using h) (λ k h=>by simpa using h3 k h));clear h1 h2 h3;go_wp2_with fail;go_ret;refine ⟨v',rfl,?_⟩;rw [Iw,S9];exact HD.o
theorem X8 (L:List Us) (u:Us) (i g gq cap:Nat) (cur:List bI) (l:List Res) (w:bJ) (h:Ac w (.blk g cur 135::.blk gq u.cells 135::l)) (hcl:cur.length=cap*20) (htk:cur.take (L.length*20)=usC L) (hcm:cap<=maxLen) (hi:i<L.length) (hroom:L.length+1<=cap) (hl:L.length<=1000): bL aA 69 #[.slice (some ⟨g,0,none⟩) L.length cap,.int .i64 i,.slice (some ⟨gq,0,none⟩) 1 1] w λ e w'=>∃v',e=.returned v'/\Ac w' (.own 135 20 v' (L.length+1) (usC (L.take i++u::L.drop i))::.blk gq u.cells 135::l):=by
  obtain ⟨n,hn⟩:∃n,n=L.length:=⟨_,rfl⟩
  have hb:=h.zB g;have hbq:=h.zB gq;have hne:gq≠g:=h.blk_ne.symm;have HC:=hqZ h;have HTK:=hqZ htk;have HCL:=hqZ hcl;have HCM:=hqZ hcm;obtain ⟨ad,had,hsrc⟩:=Wj (cap:=cap) hb htk i (by omega) (by omega);have hcn:¬cap=i:=by omega
  simp only [I1,if_neg hcn,Option.some.injEq] at had;subst had;have HSRC:=hqZ hsrc;have HB:=hqZ hb;have HBQ:=hqZ hbq;rw [<-hn] at hi hroom hl ⊢;have f0:∀W,(Instr.sliceAt 200 (.slice (some ⟨g,0,none⟩) n cap) (some (.int .i64 i)) none none).run aA W=.ok (.slice (some ⟨g,i*20,none⟩) (n-i) (cap-i)) W:=λ W=>by
    have:=Gs (P:=aA) aD szU g n cap i (by omega) (by omega) W;rw [I1,if_neg hcn] at this;exact this
  have f1:∀W,(Instr.sliceAt 200 (.slice (some ⟨g,0,none⟩) n cap) none (some (.int .i64 ((n:Int)+1))) none).run aA W=.ok (.slice (some ⟨g,0,none⟩) (n+1) cap) W:=λ W=>Sq (P:=aA) aD szU g n cap (n+1) (by omega) W
  have f2:∀W,(Instr.sliceAt 200 (.slice (some ⟨g,0,none⟩) (n+1) cap) (some (.int .i64 ((i:Int)+1))) none none).run aA W=.ok (.slice (some ⟨g,(i+1)*20,none⟩) (n-i) (cap- (i+1))) W:=λ W=>by
    have:=Gs (P:=aA) aD szU g (n+1) cap (i+1) (by omega) (by omega) W;rw [I1,if_neg (by omega),show n+1- (i+1)=n-i by omega] at this;exact this
  have f3:∀W,(Instr.sliceAt 200 (.slice (some ⟨g,0,none⟩) (n+1) cap) (some (.int .i64 i)) none none).run aA W=.ok (.slice (some ⟨g,i*20,none⟩) (n+1-i) (cap-i)) W:=λ W=>by
    have:=Gs (P:=aA) aD szU g (n+1) cap i (by omega) (by omega) W;rw [I1,if_neg hcn] at this;exact this
  have hin:((i:Int)==(n:Int))=false:=by simp; omega
  have hgt:¬((cap:Int)< (n:Int)+1):=by omega
  have F2:=hqZ f2;have F3:=hqZ f3;have hdl:(usC (L.drop i)).length=(n-i)*20:=by rw [Ec,aG,<-hn]
  have HDL:=hqZ hdl;have HNE:=hqZ hne;have HN:=hqZ hn;have hov:(Extern.SlicesOverlaps.overlaps #[200,200] #[4] #[.slice (some ⟨gq,0,none⟩) 1 1,.slice (some ⟨g,(i+1)*20,none⟩) (n-i) (cap- (i+1))]).run aA w=.ok (.bool false) w:=
    Lib.run_overlaps_apart w 200 4 135 aD 20 szU ⟨gq,0,none⟩ ⟨g,(i+1)*20,none⟩ 1 1 (n-i) (cap- (i+1)) hne 135 135 _ _ (Ut hbq) (Ut hb) (by rw [hcl]; omega) (hbq.frozen 0) (hbq.frozen _)
  have HOV:=hqZ hov;clear h hb hbq hne htk hcl hcm hsrc hdl hn hov;go_enter aU,aV;go_upto_region 15 with fail;rw [run_callFunc_extern Tryz.func90 (by kernel_rfl) (by kernel_rfl) (by kernel_rfl) (e:=Extern.SlicesOverlaps.overlaps #[200,200] #[4]) (by kernel_rfl),HOV.o];simp only [Result.andThen];rw [bO.upon_value];go_upto_region 15 with fail;refine wp_region_held (S:=λ _:bJ=>True) (by kernel_rfl) ?_;change wpAnyH _ _ _ _ _ _ _ _ (bJ.drew _);refine zH 0 ?_;refine zH 1 ?_;refine zH 2 ?_;refine zH 3 ?_ (v:=.int .i64 ((i:Int)+1)) (hr:=λ W hW=>by go_simp; rw [bM.wrap_i64]; omega);refine zH 4 ?_ (v:=.slice (some ⟨g,(i+1)*20,none⟩) (n-i) (cap- (i+1))) (hr:=λ W hW=>by exact Ie rfl (F2.o W));refine zH 5 ?_;refine zH 6 ?_;refine zH 7 ?_ (v:=.slice (some ⟨g,i*20,none⟩) (n+1-i) (cap-i)) (hr:=λ W hW=>by exact Ie rfl (F3.o W));refine D7 (rs:= [8]) (by decide+kernel) (by simp) ?_;refine Bn.cons (o:=⟨some 77,.call { callee:=.builtin .copy,args:=#[.tmp 73,.tmp 76],argTypes:=#[200,200] },_,_,_,none⟩) rfl (λ K hK=>?_) Bn.nil;refine Zn rfl (.tmp 73) (.tmp 76) Xu rfl rfl HB.o.drew rfl (cs:=usC (L.drop i)) (by rw [HDL.o]; congr 1; omega) (Q3 _) HSRC.o (by rw [HDL.o,HCL.o]; omega) ?_;intro w1 hb1 hk1;have HC1:=hqZ (HC.o.drew.blkTurn hb1 hk1);have HB1:=hqZ hb1;clear hb1 hk1;refine zq hK ?_;clear hK K;refine wpAnyH_done (by decide+kernel) ?_ _;obtain ⟨c1,hc1⟩:∃c1,c1=cur.take ((i+1)*20)++usC (L.drop i)++cur.drop ((i+1)*20+(usC (L.drop i)).length):=⟨_,rfl⟩
  rw [<-hc1] at HC1 HB1;have hc1l:c1.length=cap*20:=by
    rw [hc1];simp only [aF,aE,aG,HDL.o,HCL.o];omega
  have HC1E:=hqZ hc1;have HC1L:=hqZ hc1l;have HBQ1:=hqZ (HC1.o.zB gq);have HONE:Hq ((1:Nat)=min 1 (n+1-i)):=hqZ (by omega);clear hc1 hc1l;go_wp2_with ((with_reducible refine zw 82 ?_);refine Td rfl (.tmp 80) (.tmp 81) Xu rfl rfl HB1.o rfl (cs:=u.cells) (by rw [u.cells_length,<-HONE.o]) u.cells_one (λ j v hj=>by rw [Addr.add_lit,aO,HBQ1.o.cell]; exact hj) (by rw [u.cells_length,HC1L.o]; omega) ?_);intro w2 h2 k2;have HC2:=HC1.o.blkTurn h2 k2;have hq1:(usC (L.take i)).length=i*20:=by rw [Ec,aE,<-HN.o]; congr 1; omega
  have HC3:=HC2.blkOwn 20 (n+1) cap (cs:=usC (L.take i++u::L.drop i)) (by
    simp only [aF,aE,aG,u.cells_length,HC1L.o]
    omega) (by omega) HCM.o (by
    have e1:c1.take (i*20)=usC (L.take i):=by
      rw [HC1E.o,aK,aL (by rw [aE,HCL.o]; omega),bF,bG (by omega),A0d,<-HTK.o,bF,bG (by rw [<-HN.o]; omega)]
    have e2:(c1.drop (i*20+20)).take ((n-i)*20)=usC (L.drop i):=by
      rw [HC1E.o,aK,List.drop_append_of_le_length (by rw [aE,HCL.o]; omega),aP (by rw [aE,HCL.o]; omega),List.nil_append,aL (by rw [HDL.o]; omega),aH (by rw [HDL.o]; omega)]
    rw [show u::L.drop i= [u]++L.drop i from rfl,Iw,Iw,S9,u.cells_length,e1,<-e2];try simp only [aK]
    rw [bH,hq1,aH (by rw [hq1]; omega)];congr 1;rw [bH,u.cells_length,aH (by rw [u.cells_length]; omega)];congr 2
    omega) (Q3 _)
  have HC4:=hqZ HC3;clear h2 k2 HC2 HC3;go_wp2_with fail;go_ret;exact ⟨.slice (some ⟨g,0,none⟩) (n+1) cap,rfl,HC4.o⟩
theorem X7 (L:List Us) (u:Us) (i g gq cap:Nat) (cur:List bI) (l:List Res) (w:bJ) (h:Ac w (.blk g cur 135::.blk gq u.cells 135::l)) (hcl:cur.length=cap*20) (htk:cur.take (L.length*20)=usC L) (hi:i<L.length) (hfull:¬L.length+1<=cap) (hnc:L.length<=cap) (hl:L.length<=1000): bL aA 69 #[.slice (some ⟨g,0,none⟩) L.length cap,.int .i64 i,.slice (some ⟨gq,0,none⟩) 1 1] w λ e w'=>∃v',e=.returned v'/\Ac w' (.own 135 20 v' (L.length+1) (usC (L.take i++u::L.drop i))::.blk gq u.cells 135::l):=by
  obtain ⟨n,hn⟩:∃n,n=L.length:=⟨_,rfl⟩
  have hb:=h.zB g;have HC:=hqZ h;have HTK:=hqZ htk;have HCL:=hqZ hcl;obtain ⟨ad,had,hsrc⟩:=Wj (cap:=cap) hb htk i (by omega) (by omega);have hcn:¬cap=i:=by omega
  simp only [I1,if_neg hcn,Option.some.injEq] at had;subst had;have hsrcW:=λ (W:bJ) (hb:Blk W g cur 135)=>Wj (w:=W) (cap:=cap) (L:=L) hb HTK.o i (by omega) (by omega)
  have HSRC:Hq (∀W:bJ,Blk W g cur 135->∀j v,(usC (L.drop i))[j]?=some v->W.cell? ((⟨g,i*20,none⟩:Addr).add j)=some v):=hqZ (λ W hb=>by
    obtain ⟨ad,h1,h2⟩:=hsrcW W hb;simp only [I1,if_neg hcn,Option.some.injEq] at h1;subst h1;exact h2)
  rw [<-hn] at hi hfull hnc hl htk ⊢;obtain ⟨k,hik,hk⟩:∃k,i+k=n+1/\0<k:=⟨n+1-i,by omega,by omega⟩
  obtain ⟨gc,zs,hgc,hgm,hzs,happ⟩:=A0F (cap:=cap) hb hn.symm htk (by omega) hik hk (by omega) hl;have HAPP:=hqZ happ;have HZS:=hqZ hzs;have HGM:=hqZ hgm;have hgn:¬gc=i:=by omega
  obtain ⟨g2,hg2⟩:∃g2,g2=w.heap.size:=⟨_,rfl⟩
  have HC1:=hqZ (HC.o.drew.addBlkAt (usC (L.take i)++zs) 135 (b:=g2) hg2.symm);have HAPP:Hq (∀ty,(Builtin.append_ #[200,3] ty #[.slice (some ⟨g,0,none⟩) i cap,.int .i64 k]).run aA w=.ok (.slice (some ⟨g2,0,none⟩) (n+1) gc) (w.drew.alloc (.cells (usC (L.take i)++zs).toArray 135))):=hqZ (by rw [hg2]; exact happ);obtain ⟨w1,hw1⟩:∃w1,w1=w.drew.alloc (.cells (usC (L.take i)++zs).toArray 135):=⟨_,rfl⟩
  rw [<-hw1] at HC1 HAPP;have hki:(n:Int)+1-i=k:=by omega
  have f0:∀W,(Instr.sliceAt 200 (.slice (some ⟨g,0,none⟩) n cap) (some (.int .i64 i)) none none).run aA W=.ok (.slice (some ⟨g,i*20,none⟩) (n-i) (cap-i)) W:=λ W=>by
    have:=Gs (P:=aA) aD szU g n cap i (by omega) (by omega) W;rw [I1,if_neg hcn] at this;exact this
  have f1:∀W,(Instr.sliceAt 200 (.slice (some ⟨g,0,none⟩) n cap) none (some (.int .i64 i)) none).run aA W=.ok (.slice (some ⟨g,0,none⟩) i cap) W:=λ W=>Sq (P:=aA) aD szU g n cap i (by omega) W
  have f2:∀W,(Instr.sliceAt 200 (.slice (some ⟨g2,0,none⟩) (n+1) gc) (some (.int .i64 i)) none none).run aA W=.ok (.slice (some ⟨g2,i*20,none⟩) (n+1-i) (gc-i)) W:=λ W=>by
    have:=Gs (P:=aA) aD szU g2 (n+1) gc i (by omega) (by omega) W;rw [I1,if_neg hgn] at this;exact this
  have f3:∀W,(Instr.sliceAt 200 (.slice (some ⟨g2,0,none⟩) (n+1) gc) (some (.int .i64 ((i:Int)+1))) none none).run aA W=.ok (.slice (some ⟨g2,(i+1)*20,none⟩) (n-i) (gc- (i+1))) W:=λ W=>by
    have:=Gs (P:=aA) aD szU g2 (n+1) gc (i+1) (by omega) (by omega) W;rw [I1,if_neg (by omega),show n+1- (i+1)=n-i by omega] at this;exact this
  have F0:=hqZ f0;have F3:=hqZ f3;have hin:((i:Int)==(n:Int))=false:=by simp; omega
  have hgt:(cap:Int)< (n:Int)+1:=by omega
  have hdl:(usC (L.drop i)).length=(n-i)*20:=by rw [Ec,aG,<-hn]
  have hq1:(usC (L.take i)).length=i*20:=by rw [Ec,aE,<-hn]; congr 1; omega
  have HDL:=hqZ hdl;have HQ1:=hqZ hq1;have HN:=hqZ hn;have HONE:Hq ((1:Nat)=min 1 (n+1-i)):=hqZ (by omega);have HB1:=hqZ (HC1.o.zB g2);have HBQ1:=hqZ (HC1.o.zB gq);have HKI:=hqZ hki;clear h hb htk hcl hsrc hdl hq1 hn happ hzs hgm hg2 hw1 hki hsrcW;go_enter aU,aV;go_wp2_with (first | ((with_reducible refine zw 40 ?_);refine Lib.wpList_append_run w rfl (.tmp 34) (.tmp 39) 200 3 rfl (.slice (some ⟨g,0,none⟩) i cap) (.int .i64 k) rfl (congrArg (bI.int .i64) HKI.o) _ _ (HAPP.o _) ?_) | ((with_reducible refine zw 45 ?_);refine Td rfl (.tmp 43) (.tmp 44) Xu rfl rfl HB1.o rfl (cs:=u.cells) (by rw [u.cells_length,<-HONE.o]) u.cells_one (λ j v hj=>by rw [Addr.add_lit,aO,HBQ1.o.cell]; exact hj) (by rw [u.cells_length,aF,HQ1.o,HZS.o]; omega) ?_));intro w2 h2 k2;have h2':Blk w2 g2 ((usC (L.take i)++zs).take (i*20)++u.cells++(usC (L.take i)++zs).drop (i*20+u.cells.length)) 135:=by simpa using h2
  have HC2:=hqZ (HC1.o.blkTurn h2' k2);obtain ⟨c2,hc2⟩:∃c2,c2=(usC (L.take i)++zs).take (i*20)++u.cells++(usC (L.take i)++zs).drop (i*20+u.cells.length):=⟨_,rfl⟩
  rw [<-hc2] at HC2;have hc2l:c2.length=gc*20:=by
    rw [hc2];simp only [aF,aE,aG,u.cells_length,HQ1.o,HZS.o];omega
  have hc2t:c2.take ((i+1)*20)=usC (L.take i)++u.cells:=by
    have eA:(usC (L.take i)++zs).take (i*20)=usC (L.take i):=by
      rw [aL (by rw [HQ1.o]; omega),aH (by rw [HQ1.o]; omega)]
    rw [hc2,eA,aL (by rw [aF,u.cells_length,HQ1.o]; omega),aH (by rw [aF,u.cells_length,HQ1.o]; omega)]
  have HC2L:=hqZ hc2l;have HC2T:=hqZ hc2t;have HB2:=hqZ (HC2.o.zB g2);have HBG:=hqZ (HC2.o.zB g);clear h2 h2' k2 hc2 hc2l hc2t;go_upto_region 11 with fail;refine wp_region_held (S:=λ _:bJ=>True) (by kernel_rfl) ?_;change wpAnyH _ _ _ _ _ _ _ _ (bJ.drew _);refine zH 0 ?_;refine zH 1 ?_;refine zH 2 ?_;refine zH 3 ?_ (v:=.int .i64 ((i:Int)+1)) (hr:=λ W hW=>by go_simp; rw [bM.wrap_i64]; omega);refine zH 4 ?_ (v:=.slice (some ⟨g2,(i+1)*20,none⟩) (n-i) (gc- (i+1))) (hr:=λ W hW=>by exact Ie rfl (F3.o W));refine zH 5 ?_;refine zH 6 ?_;refine zH 7 ?_ (v:=.slice (some ⟨g,i*20,none⟩) (n-i) (cap-i)) (hr:=λ W hW=>by exact Ie rfl (F0.o W));refine D7 (rs:= [8]) (by decide+kernel) (by simp) ?_;refine Bn.cons (o:=⟨some 54,.call { callee:=.builtin .copy,args:=#[.tmp 50,.tmp 53],argTypes:=#[200,200] },_,_,_,none⟩) rfl (λ K hK=>?_) Bn.nil;refine Zn rfl (.tmp 50) (.tmp 53) Xu rfl rfl HB2.o.drew rfl (cs:=usC (L.drop i)) (by rw [HDL.o]; congr 1; omega) (Q3 _) (HSRC.o _ HBG.o.drew) (by rw [HDL.o,HC2L.o]; omega) ?_;intro w3 hb3 hk3;have HC3:=hqZ (HC2.o.drew.blkTurn hb3 hk3);clear hb3 hk3;refine zq hK ?_;clear hK K;refine wpAnyH_done (by decide+kernel) ?_ _;have HC4:=HC3.o.blkOwn 20 (n+1) gc (cs:=usC (L.take i++u::L.drop i)) (by
    simp only [aF,aE,aG,HC2L.o,HDL.o]
    omega) hgc HGM.o (by
    rw [HC2T.o,show u::L.drop i= [u]++L.drop i from rfl,Iw,Iw,S9,<-aK];rw [aL (by simp only [aF,u.cells_length,HQ1.o,HDL.o]; omega),aH (by simp only [aF,u.cells_length,HQ1.o,HDL.o]; omega)]) (Q3 _)
  have HC5:=hqZ HC4.swap.tail;clear HC4;go_wp2_with fail;go_ret;exact ⟨.slice (some ⟨g2,0,none⟩) (n+1) gc,rfl,HC5.o⟩
theorem Rv (v:bI) (L:List Us) (u:Us) (i:Nat) (gq:Nat) (l:List Res) (w:bJ) (h:Ac w (.own 135 20 v L.length (usC L)::.blk gq u.cells 135::l)) (hi:i<=L.length) (hl:L.length<=1000): bL aA 69 #[v,.int .i64 i,.slice (some ⟨gq,0,none⟩) 1 1] w λ e w'=>∃v',e=.returned v'/\Ac w' (.own 135 20 v' (L.take i++u::L.drop i).length (usC (L.take i++u::L.drop i))::.blk gq u.cells 135::l):=by
  have hlen:(L.take i++u::L.drop i).length=L.length+1:=by simp; omega
  rw [hlen];rcases bB hi with rfl | hlt
  · rw [List.take_length,List.drop_length];exact A0H v L u gq l w h hl
  · obtain ⟨g,cap,cur,rfl,hnc,hcm,hcl,htk,h⟩:=h.ownBlk (by omega);by_cases hroom:L.length+1<=cap
    · exact X8 L u i g gq cap cur l w h hcl htk hcm hlt hroom hl
    · exact X7 L u i g gq cap cur l w h hcl htk hlt hroom hnc hl
theorem Po {W:bJ} {p n:Nat} {L:List Us} {v:bI} {l:List Res} (hn:n=L.length) (h:Ac W (.blk p [v] 202::.own 135 20 v n (usC L)::l)):Ac W (Bv p L::l):=by
  subst hn;exact Rb h
theorem Xw {P:bN} {o:bO} {a:Act} {W:bJ} {ty:bK} {m b off:Nat} {x:Operand} {cs:List bI} (ho:o.op=.load ty x) (hT:A7 P ty m) (hx:a.eval x=.pointer (some ⟨b,off,none⟩)) (hm:cs.length=m) (hc:Ao W b off cs): (execOp a.eval o).run P W=.ok (.value (.agg cs.toArray)) W:=by
  have h:=Ei hT hm hc;unfold execOp;simp only [ho,hx,Instr.loadAt,Instr.sureAddr,Sem.run_bind,Sem.run_pure,Result.andThen_ok,h]
theorem Ww (l:List Res) (w:bJ) (h:Ac w l):bL aA 66 #[] w λ e w'=>∃p,e=.returned (.pointer (some ⟨p,0,none⟩))/\Ac w' (Bv p []::l):=by
  have HC:Hq (Ac (w.alloc (.cells #[.slice none 0 0] 202)) (Bv w.heap.size []::l)):=hqZ (Rb (L:= []) ((h.addNil 135 20).addBlk [.slice none 0 0] 202));clear h;go_enter Tryz.func66,Tryz.ntmps66;go_wp2_with fail;go_ret;exact ⟨w.heap.size,rfl,HC.o⟩
def Kt (L:List Us) (u:Us):List Us×Int:=
  if As u.name=false then (L,6) else if u.life<1\/600<u.life\/u.renew<0\/6000<u.renew then (L,7) else if Nn L u.name=true then (L,10) else if L.length=32 then (L,8) else (A4H L u,0)
theorem A4r (p:Nat) (L:List Us) (u:Us) (l:List Res) (w:bJ) (h:Ac w (Bv p L::l)) (hs:Fx L) (hl:L.length<=32) (hn:u.name.size<=maxLen): bL aA 34 #[.pointer (some ⟨p,0,none⟩),.agg u.cells.toArray] w λ e w'=>e=.returned (.int .i64 (Kt L u).2)/\Ac w' (Bv p (Kt L u).1::l):=by
  obtain ⟨q,hq⟩:∃q,q=w.heap.size:=⟨_,rfl⟩
  have h1:=hqZ (h.addBlkAt u.cells 135 hq.symm);have HC:Hq (Ac (w.alloc (.cells u.cells.toArray 135)) (Bv p L::.blk q u.cells 135::l)):=hqZ h1.o.swap;have HP:=hqZ (Um p L u.name _ _ HC.o hs (by omega));have hbq:=HC.o.zB q;have c0:=hbq.cell 0;rw [u.c0] at c0;have HN:=hqZ hn;have HS:=hqZ hs;clear h h1 hs hn hbq;go_enter Tryz.func34,Tryz.ntmps34;rw [hq] at c0 HC;go_wp2_with fail;rw [<-hq] at c0 HC ⊢;refine HP.o.mono ?_;rintro e w1 ⟨rfl,hb⟩;have HC:=hqZ (HC.o.step (hb.mono (aC _)));have hbq:=HC.o.zB q;have c0:=hbq.cell 0;rw [u.c0] at c0;clear hb HP hbq hq;go_wp2_with fail;refine (L9 u.name _ HN.o).mono ?_;rintro e w2 ⟨rfl,hb⟩;have HC:=hqZ (HC.o.step (hb.mono (aC _)));have hbq:=HC.o.zB q;have c17:=hbq.cell 17;have c18:=hbq.cell 18;rw [u.c17] at c17;rw [u.c18] at c18;clear hb hbq c0;obtain ⟨R,hR⟩:∃R,R=As u.name:=⟨_,rfl⟩
  rw [<-hR];have HR:=hqZ hR;clear hR
  cases R with
  | false=>
    have HA:Hq (Kt L u=(L,6)):=hqZ (by rw [Kt,if_pos HR.o.symm]);go_wp2_with fail;go_ret;rw [HA.o];exact ⟨rfl,HC.o.swap.tail⟩
  | true=>
    have HR1:Hq (¬As u.name=false):=hqZ (by rw [<-HR.o]; decide);by_cases hbad:u.life<1\/600<u.life\/u.renew<0\/6000<u.renew
    · have HA:Hq (Kt L u=(L,7)):=hqZ (by rw [Kt,if_neg HR1.o,if_pos hbad]);have hsp:u.life<1\/(¬u.life<1/\600<u.life)\/(¬u.life<1/\¬600<u.life/\u.renew<0)\/(¬u.life<1/\¬600<u.life/\¬u.renew<0/\6000<u.renew):=by omega
      clear hbad;rcases hsp with h1 | ⟨h1,h2⟩ | ⟨h1,h2,h3⟩ | ⟨h1,h2,h3,h4⟩
      all_goals
        go_wp2_with fail;go_ret;rw [HA.o];exact ⟨rfl,HC.o.swap.tail⟩
    · have h1:¬u.life<1:=by omega
      have h2:¬600<u.life:=by omega
      have h3:¬u.renew<0:=by omega
      have h4:¬6000<u.renew:=by omega
      have HBAD:=hqZ hbad;clear hbad;obtain ⟨B,hB⟩:∃B,B=Nn L u.name:=⟨_,rfl⟩
      rw [<-hB];have HB:=hqZ hB;clear hB
      cases B with
      | true=>
        have HA:Hq (Kt L u=(L,10)):=hqZ (by rw [Kt,if_neg HR1.o,if_neg HBAD.o,if_pos HB.o.symm]);go_wp2_with fail;go_ret;rw [HA.o];exact ⟨rfl,HC.o.swap.tail⟩
      | false=>
        have HB1:Hq (¬Nn L u.name=true):=hqZ (by rw [<-HB.o]; decide);obtain ⟨a,c,hc,hm,hop⟩:=Mw HC.o;have HO:=hqZ hop;have hbp:=hop.zB p;have p0:=hbp.cell 0;simp only [aI] at p0;clear hbp hop;by_cases hfull:L.length=32
        · have HA:Hq (Kt L u=(L,8)):=hqZ (by rw [Kt,if_neg HR1.o,if_neg HBAD.o,if_neg HB1.o,if_pos hfull]);have hf:((L.length:Int)==32)=true:=by simp; omega
          go_wp2_with fail;go_ret;rw [HA.o];exact ⟨rfl,HC.o.swap.tail⟩
        · have HA:Hq (Kt L u=(A4H L u,0)):=hqZ (by rw [Kt,if_neg HR1.o,if_neg HBAD.o,if_neg HB1.o,if_neg hfull]);have hf:((L.length:Int)==32)=false:=by simp; omega
          clear HC;go_upto_region 10 with fail;have HC:=hqZ HO.o.drew;refine wp_region_held (S:=λ W:bJ=>Blk W q u.cells 135) (by kernel_rfl) ?_;change wpAnyH _ _ _ _ _ _ _ _ (bJ.drew _);refine zH 0 ?_ (hS:=(HC.o.zB q));refine zH 1 ?_ (hS:=(HC.o.zB q));refine zH 2 ?_ (hS:=(HC.o.zB q));refine zH 3 ?_ (hS:=(HC.o.zB q));refine zH 5 ?_ (hS:=(HC.o.zB q));refine zH 6 ?_ (v:=.agg u.cells.toArray) (hr:=λ W hW=>by exact Xw rfl Pm rfl u.cells_length hW.cellsAll) (hS:=(HC.o.zB q));refine D7 (rs:= [4,7]) (by decide+kernel) (by simp) ?_;refine Bn.cons (o:=⟨some 51,.load 200 (.tmp 50),_,_,_,none⟩) rfl (λ K hK=>?_) (Bn.cons (o:=⟨some 54,.buildSlice 200 1 #[(0,.tmp 53)],_,_,_,none⟩) rfl (λ K hK=>?_) Bn.nil)
          · have hkp:=HC.o.zB p;have k0:=hkp.cell 0;simp only [aI] at k0;clear hkp;go_simp;refine hK _ _ (HC.o.zB q) ?_;clear hK K;try go_frame
            refine D7 (rs:= [7]) (by decide+kernel) (by simp) ?_;refine Bn.cons (o:=⟨some 54,.buildSlice 200 1 #[(0,.tmp 53)],_,_,_,none⟩) rfl (λ K hK=>?_) Bn.nil;refine Oa rfl (.tmp 53) Xu rfl rfl (by simpa using u.cells_length) (by decide) ?_;obtain ⟨q2,hq2⟩:∃q2,q2=w2.drew.heap.size:=⟨_,rfl⟩
            have HC:=hqZ (HC.o.addBlkAt u.cells 135 hq2.symm);rw [<-hq2];obtain ⟨w7,hw7⟩:∃w7,w7=w2.drew.alloc (.cells u.cells.toArray 135):=⟨_,rfl⟩
            rw [<-hw7] at HC ⊢;clear hq2 hw7;refine hK _ _ (HC.o.zB q) ?_;clear hK K;try go_frame
            refine D7 (rs:= [8]) (by decide+kernel) (by simp) ?_;refine Bn.cons (o:=⟨some 55,.call { callee:=.value (.func 69),args:=#[.tmp 51,.tmp 52,.tmp 54],argTypes:=#[200,3,200] },_,_,_,none⟩) rfl (λ K hK=>?_) Bn.nil;go_simp;refine (Rv (.slice a L.length c) L u (Ho L u.name) q2 _ _ (HC.o.front (m:= [_,_,_,_]) (l:=l) [2,0,1,3] 4 (by decide)) (A1R _ _) (by omega)).mono ?_;rintro e w3 ⟨v',rfl,hc⟩;obtain ⟨a3,c3,rfl,_,_⟩:=(hc.ownOf (aJ)).1.sl.form;obtain ⟨n3,hn3⟩:∃n3,n3=(L.take (Ho L u.name)++u::L.drop (Ho L u.name)).length:=⟨_,rfl⟩
            rw [<-hn3] at hc ⊢;have HN3:=hqZ hn3;clear hn3;have HC:=hqZ (hc.front (m:= [_,_,_,_]) (l:=l) [2,0,3,1] 4 (by decide));clear hc;refine hK _ _ (HC.o.blkOf (p:=q) (cs:=u.cells) (T:=135) (by simp)) ?_;clear hK K;try go_frame
            refine zH 9 ?_ (v:=.pointer (some ⟨p,0,none⟩)) (hr:=λ W hW=>by go_simp) (hS:=(HC.o.blkOf (p:=q) (cs:=u.cells) (T:=135) (by simp)));refine zH 10 ?_ (v:=.pointer (some ⟨p,0,none⟩)) (hr:=λ W hW=>by go_simp) (hS:=(HC.o.blkOf (p:=q) (cs:=u.cells) (T:=135) (by simp)));refine D7 (rs:= [11]) (by decide+kernel) (by simp) ?_;refine Bn.cons (o:=⟨none,.store 200 (.tmp 57) (.tmp 55),_,_,_,none⟩) rfl (λ K hK=>?_) Bn.nil;have hkp:=HC.o.blkOf (p:=p) (cs:= [.slice a L.length c]) (T:=202) (by simp);have k0:=hkp.cell 0;have kf0:=hkp.frozen 0;simp only [aI] at k0;clear hkp;go_simp;have HC:=hqZ (HC.o.set 0 (.slice a3 n3 c3));refine hK _ _ (HC.o.blkOf (p:=q) (cs:=u.cells) (T:=135) (by simp)) ?_;clear hK K;try go_frame
            refine wpAnyH_done (by decide+kernel) ?_ _;go_wp2_with fail;go_ret;rw [HA.o];have h9:=(HC.o.front (m:= [_,_,_,_]) (l:=l) [2,3,0,1] 4 (by decide)).tail.tail;exact ⟨rfl,Po (L:=A4H L u) HN3.o h9⟩
          · refine Oa rfl (.tmp 53) Xu rfl rfl (by simpa using u.cells_length) (by decide) ?_;obtain ⟨q2,hq2⟩:∃q2,q2=w2.drew.heap.size:=⟨_,rfl⟩
            have HC:=hqZ (HC.o.addBlkAt u.cells 135 hq2.symm);rw [<-hq2];obtain ⟨w7,hw7⟩:∃w7,w7=w2.drew.alloc (.cells u.cells.toArray 135):=⟨_,rfl⟩
            rw [<-hw7] at HC ⊢;clear hq2 hw7;refine hK _ _ (HC.o.zB q) ?_;clear hK K;try go_frame
            refine D7 (rs:= [4]) (by decide+kernel) (by simp) ?_;refine Bn.cons (o:=⟨some 51,.load 200 (.tmp 50),_,_,_,none⟩) rfl (λ K hK=>?_) Bn.nil;have hkp:=HC.o.zB p;have k0:=hkp.cell 0;simp only [aI] at k0;clear hkp;go_simp;refine hK _ _ (HC.o.zB q) ?_;clear hK K;try go_frame
            refine D7 (rs:= [8]) (by decide+kernel) (by simp) ?_;refine Bn.cons (o:=⟨some 55,.call { callee:=.value (.func 69),args:=#[.tmp 51,.tmp 52,.tmp 54],argTypes:=#[200,3,200] },_,_,_,none⟩) rfl (λ K hK=>?_) Bn.nil;go_simp;refine (Rv (.slice a L.length c) L u (Ho L u.name) q2 _ _ (HC.o.front (m:= [_,_,_,_]) (l:=l) [2,0,1,3] 4 (by decide)) (A1R _ _) (by omega)).mono ?_;rintro e w3 ⟨v',rfl,hc⟩;obtain ⟨a3,c3,rfl,_,_⟩:=(hc.ownOf (aJ)).1.sl.form;obtain ⟨n3,hn3⟩:∃n3,n3=(L.take (Ho L u.name)++u::L.drop (Ho L u.name)).length:=⟨_,rfl⟩
            rw [<-hn3] at hc ⊢;have HN3:=hqZ hn3;clear hn3;have HC:=hqZ (hc.front (m:= [_,_,_,_]) (l:=l) [2,0,3,1] 4 (by decide));clear hc;refine hK _ _ (HC.o.blkOf (p:=q) (cs:=u.cells) (T:=135) (by simp)) ?_;clear hK K;try go_frame
            refine zH 9 ?_ (v:=.pointer (some ⟨p,0,none⟩)) (hr:=λ W hW=>by go_simp) (hS:=(HC.o.blkOf (p:=q) (cs:=u.cells) (T:=135) (by simp)));refine zH 10 ?_ (v:=.pointer (some ⟨p,0,none⟩)) (hr:=λ W hW=>by go_simp) (hS:=(HC.o.blkOf (p:=q) (cs:=u.cells) (T:=135) (by simp)));refine D7 (rs:= [11]) (by decide+kernel) (by simp) ?_;refine Bn.cons (o:=⟨none,.store 200 (.tmp 57) (.tmp 55),_,_,_,none⟩) rfl (λ K hK=>?_) Bn.nil;have hkp:=HC.o.blkOf (p:=p) (cs:= [.slice a L.length c]) (T:=202) (by simp);have k0:=hkp.cell 0;have kf0:=hkp.frozen 0;simp only [aI] at k0;clear hkp;go_simp;have HC:=hqZ (HC.o.set 0 (.slice a3 n3 c3));refine hK _ _ (HC.o.blkOf (p:=q) (cs:=u.cells) (T:=135) (by simp)) ?_;clear hK K;try go_frame
            refine wpAnyH_done (by decide+kernel) ?_ _;go_wp2_with fail;go_ret;rw [HA.o];have h9:=(HC.o.front (m:= [_,_,_,_]) (l:=l) [2,3,0,1] 4 (by decide)).tail.tail;exact ⟨rfl,Po (L:=A4H L u) HN3.o h9⟩
theorem A2O:Tryz.prog.built 135 []=some zsU.toArray:=by kernel_rfl
theorem A0g {P:bN} {ops:Array bO} {rest:List bO} {o:bO} {a:Act} {w:bJ} {Q:Exit->Act->bJ->Prop} (hgd:Region.wanted o (yielded ops a.tmps)=true) {ty:bK} (ho:o.op=.build ty #[]) {cells:Array bI} (hb:P.built ty []=some cells) (h:wpList P ops Q rest (a.put o.dst (.agg cells)) w):wpList P ops Q (o::rest) a w:=by
  refine By hgd λ K hK=>?_
  have hr:=run_build (P:=P) w ty #[] cells hb;unfold bO.wp execOp;simp only [ho,Sem.run_bind,Sem.run_pure,Result.andThen_ok,aR,aS,hr];exact hK _ _ h
def Ro (L:List Us) (s:ByteArray):List bI:=if Nn L s=true then (match L[Ho L s]? with | some u=>u.cells | none=>zsU) else zsU
def Rq (L:List Us) (s:ByteArray):Int:=if Nn L s=true then 0 else 9
theorem A0b (p:Nat) (L:List Us) (s:ByteArray) (l:List Res) (w:bJ) (h:Ac w (Bv p L::l)) (hs:Fx L) (hl:L.length<=32): bL aA 38 #[.pointer (some ⟨p,0,none⟩),.string s] w λ e w'=>e=.returned (.tuple #[.agg (Ro L s).toArray,.int .i64 (Rq L s)])/\Below w.heap.size w w':=by
  obtain ⟨q,hq⟩:∃q,q=w.heap.size:=⟨_,rfl⟩
  have h1:=hqZ (h.addBlkAt zsU 135 hq.symm);have HP:=hqZ (Um p L s _ _ h1.o.swap hs (by omega));have hba:Below w.heap.size w (w.alloc (.cells zsU.toArray 135)):=(Below.refl _ _).alloc (aC _) _;have HBA:=hqZ hba;clear h hs hba;go_enter Tryz.func38,Tryz.ntmps38;go_wp2_with fail;rw [<-hq];refine HP.o.mono ?_;rintro e w1 ⟨rfl,hb⟩;have HC1:=hqZ (h1.o.swap.step hb);have HB1:=hqZ (HBA.o.trans (hb.mono HBA.o.size));obtain ⟨a,c,hc,hm,hop⟩:=Mw HC1.o;have HSL:=hqZ (hop.ownOf (e:=135) (sz:=20) (v:=.slice a L.length c) (n:=L.length) (cs:=usC L) (by simp)).1.sl;have HQ:=hqZ (hop.zB q);have hbp:=hop.zB p;have p0:=hbp.cell 0;simp only [aI] at p0;have HQW:=hqZ hq;clear hbp hop hb HP h1 HBA hq;obtain ⟨B,hB⟩:∃B,B=Nn L s:=⟨_,rfl⟩
  rw [<-hB];have HB:=hqZ hB;clear hB
  cases B with
  | false=>
    have HA:Hq (Ro L s=zsU/\Rq L s=9):=hqZ (by unfold Ro Rq; rw [<-HB.o]; exact ⟨rfl,rfl⟩);go_wp2_with (first | ((with_reducible refine zw 16 ?_);refine A0g rfl rfl A2O ?_) | ((with_reducible refine zws 4 16 ?_);refine Af rfl (.tmp 4) (.tmp 16) Pm rfl rfl (vs:=zsU) rfl rfl HQ.o (aC _) A5x ?_));intro w2 h2 k2;have H2:Hq (Blk w2 q zsU 135):=hqZ (by simpa [show zsU.drop 20= [] from rfl] using h2);have HB2:=hqZ (HB1.o.trans (k2.below (λ k hk=>by rw [hk,HQW.o]; exact aC _) |>.mono (aC _)));clear h2 k2;go_wp2_with fail;rw [HA.o.1,HA.o.2];exact bodyPost_ret (An rfl Pm rfl (cs:=zsU) rfl H2.o.cellsAll) rfl ⟨rfl,HB2.o⟩
  | true=>
    obtain ⟨hk,-⟩:=A2k HB.o.symm;obtain ⟨u,hu⟩:∃u,u=L[Ho L s]:=⟨_,rfl⟩
    have HA:Hq (Ro L s=u.cells/\Rq L s=0):=hqZ (by unfold Ro Rq; rw [<-HB.o,bC hk,hu]; exact ⟨rfl,rfl⟩);obtain ⟨bl,ol,rfl,_⟩:=HSL.o.addr (by rw [Ec]; omega);have hce:=Pc HSL.o (Below.refl _ _) (Ho L s) hk;rw [<-hu] at hce;have HCE:=hqZ hce;obtain ⟨k,hkk⟩:∃k,k=Ho L s:=⟨_,rfl⟩
    rw [<-hkk] at HCE hk ⊢;clear hce hu hkk;go_wp2_with (first | ((with_reducible refine zw 23 ?_);refine Ah rfl (.tmp 22) Pm rfl rfl (cs:=u.cells) u.cells_length HCE.o ?_) | ((with_reducible refine zws 4 23 ?_);refine Af rfl (.tmp 4) (.tmp 23) Pm rfl rfl (vs:=u.cells) rfl u.cells_length HQ.o (aC _) u.cells_one ?_));intro w2 h2 k2;have H2:Hq (Blk w2 q u.cells 135):=hqZ (by simpa [zsU] using h2);have HB2:=hqZ (HB1.o.trans (k2.below (λ k hk=>by rw [hk,HQW.o]; exact aC _) |>.mono (aC _)));clear h2 k2;go_wp2_with fail;rw [HA.o.1,HA.o.2];exact bodyPost_ret (An rfl Pm rfl (cs:=u.cells) u.cells_length H2.o.cellsAll) rfl ⟨rfl,HB2.o⟩
end Go.Proofs.YtnihelcjmahmnaaGreat
namespace Go.Proofs.YtnihelcjmahmnaaGreat
open Go.RowKit Go.Maps
namespace PS
def knd:PS->Bool
  | .sym _=>false
  | .real _=>true
theorem knd_fresh (s:PS):s.fresh.2.knd=s.knd:=by cases s <;> rfl
theorem knd_text (s:PS) (a b:List UInt8):(s.text a b).2.knd=s.knd:=by cases s <;> rfl
theorem knd_derive (s:PS) (a:List UInt8) (b:ByteArray):(s.derive a b).2.knd=s.knd:=by cases s <;> rfl
theorem knd_shut (s:PS) (k:List UInt8) (u:Nat) (b:List UInt8):(s.shut k u b).2.knd=s.knd:=by cases s <;> rfl
theorem knd_digest (s:PS) (b:List UInt8):(s.digest b).2.knd=s.knd:=by cases s <;> rfl
end PS
def tyI (b:Bool):bK:=if b then 27 else 44
def pvI (b:Bool) (q:Nat):bI:=.iface (tyI b) (.pointer (some ⟨q,0,none⟩))
theorem A9 {s:PS} {b:Bool} (h:s.knd=b) (q:Nat):pvI b q=pvV s q:=by subst h; cases s <;> rfl
theorem Qu:A7 aA 135 20:=A7.mk bA rfl (by kernel_rfl)
def Hl (b:Bool) (q bp:Nat) (k:List UInt8):List bI:= [pvI b q,.pointer (some ⟨bp,0,none⟩)]++Ab k
theorem A2h (b:Bool) (q bp:Nat) (k:List UInt8) (h:k.length=16):Tryz.prog.built 131 [(0,pvI b q),(1,.pointer (some ⟨bp,0,none⟩)),(2,.agg (Ab k).toArray)]=some (Hl b q bp k).toArray:=by
  obtain ⟨c0,c1,c2,c3,c4,c5,c6,c7,c8,c9,c10,c11,c12,c13,c14,c15,rfl⟩:=Br k h;unfold pvI Hl
  kernel_rfl
theorem A0y (n:ByteArray) (k:List UInt8) (h:k.length=16) (x y:Int) (b:Bool):Tryz.prog.built 135 [(0,.string n),(1,.agg (Ab k).toArray),(2,.int .i64 x),(3,.int .i64 y),(4,.bool b)]=some (Us.mk n k h x y b).cells.toArray:=by
  obtain ⟨c0,c1,c2,c3,c4,c5,c6,c7,c8,c9,c10,c11,c12,c13,c14,c15,rfl⟩:=Br k h
  kernel_rfl
def C0 (kp:Nat) (b:Bool) (q bp:Nat) (k:List UInt8):Res:=.blk kp (Hl b q bp k) 131
def A5K (q:Nat) (s:PS) (l:List Res) (e:Ending) (w':bJ):Prop:=
  ∃kp bp,e=.returned (.pointer (some ⟨kp,0,none⟩))/\Ac w' (C0 kp s.knd q bp s.fresh.1::Bv bp []::pvR q s.fresh.2::l)
theorem A0K (q:Nat) (s:PS) (l:List Res) (w:bJ) (h:Ac w (pvR q s::l)) (hs:s.sz<1099511627776): bL aA 31 #[pvV s q] w (A5K q s l):=by
  have HC:=hqZ h;have HFR:=hqZ (λ (w:bJ) (l:List Res) (h:Ac w (pvR q s::l))=>G9 q s l w h hs);have HKL:Hq (s.fresh.1.length=16):=hqZ (PS.fresh_len s);have HV:Hq (pvV s q=pvI s.knd q):=hqZ (A9 rfl q).symm;have h1:=λ j a w=>Ea s j a "Fresh" (by simp) w
  have h2:=λ j a w=>Lm s j a w
  have h3:∀(args:Array bI) (w:bJ),(callFunc (Ct s) args).run aA w=.ok (.enter (Ct s) args) w:=Lb s
  clear h hs;unfold pvV Ax at*;go_enter Tryz.func31,Tryz.ntmps31;go_wp2_with fail;refine (Ww _ _ HC.o).mono ?_;rintro e w1 ⟨bp,rfl,hc⟩;have HC:=hqZ hc;clear hc;go_wp2_with fail;refine (HFR.o _ _ HC.o.swap).mono ?_;rintro e w2 ⟨rfl,hc⟩;have HC:=hqZ hc;clear hc;go_wp2_with ((with_reducible refine zw 7 ?_);refine Dg rfl rfl (by simp [Act.eval]; rfl) (by rw [HV.o]; exact A2h s.knd q bp s.fresh.1 HKL.o) ?_);go_ret;exact ⟨w2.heap.size,bp,rfl,(HC.o.swap.addBlkAt (Hl s.knd q bp s.fresh.1) 131 rfl)⟩
def Wp (kp q bp:Nat) (s:PS) (K:List UInt8) (L:List Us) (u:Us) (s2:PS) (l:List Res) (e:Ending) (w':bJ):Prop:=
  e=.returned (.int .i64 (Kt L u).2)/\Ac w' (C0 kp s.knd q bp K::Bv bp (Kt L u).1::pvR q s2::l)
theorem Vo (kp q bp:Nat) (s:PS) (K:List UInt8) (L:List Us) (u:Us) (pw:ByteArray) (l:List Res) (w:bJ) (h:Ac w (C0 kp s.knd q bp K::Bv bp L::pvR q s::l)) (hs:s.sz<1099511627776) (hk:u.key=(s.text pw.data.toList u.name.data.toList).1) (hL:Fx L) (hl:L.length<=32) (hn:u.name.size<=100000) (hp:pw.size<=100000): bL aA 13 #[.pointer (some ⟨kp,0,none⟩),.string u.name,.string pw,.int .i64 u.life,.int .i64 u.renew,.bool u.mesh] w (Wp kp q bp s K L u (s.text pw.data.toList u.name.data.toList).2 l):=by
  obtain ⟨⟨k1,s2⟩,hx⟩:∃x,x=s.text pw.data.toList u.name.data.toList:=⟨_,rfl⟩
  have HTX:=hqZ (λ (w:bJ) (l:List Res) (h:Ac w (pvR q s::l))=>Sf q s pw u.name l w h hp hn hs);rw [<-hx] at HTX hk ⊢;have HADD:=hqZ (λ (w:bJ) (l:List Res) (h:Ac w (Bv bp L::l))=>A4r bp L u l w h hL hl (by unfold maxLen; omega));have hbu:Tryz.prog.built 135 [(0,.string u.name),(1,.agg (Ab u.key).toArray),(2,.int .i64 u.life),(3,.int .i64 u.renew),(4,.bool u.mesh)]=some u.cells.toArray:=A0y u.name u.key u.kl u.life u.renew u.mesh;simp only at hk HTX ⊢;rw [hk] at hbu;have HBU:Hq (Tryz.prog.built 135 [(0,.string u.name),(1,.agg (Ab k1).toArray),(2,.int .i64 u.life),(3,.int .i64 u.renew),(4,.bool u.mesh)]=some u.cells.toArray):=hqZ hbu;have hkc:Hl s.knd q bp K= [.iface (pvT s) (.pointer (some ⟨q,0,none⟩)),.pointer (some ⟨bp,0,none⟩)]++Ab K:=by rw [Hl,A9 rfl]; rfl
  have h2:Ac w (.blk kp ([.iface (pvT s) (.pointer (some ⟨q,0,none⟩)),.pointer (some ⟨bp,0,none⟩)]++Ab K) 131::Bv bp L::pvR q s::l):=by rw [<-hkc]; exact h
  have HKC:=hqZ hkc;have HC:=hqZ h2;obtain ⟨KC,hKC⟩:∃x,x= [.iface (pvT s) (.pointer (some ⟨q,0,none⟩)),.pointer (some ⟨bp,0,none⟩)]++Ab K:=⟨_,rfl⟩
  rw [<-hKC] at HC HKC;have HC0:Hq (KC[0]?=some (.iface (pvT s) (.pointer (some ⟨q,0,none⟩)))):=hqZ (by rw [hKC]; rfl);have HC1:Hq (KC[1]?=some (.pointer (some ⟨bp,0,none⟩))):=hqZ (by rw [hKC]; rfl);have g1:=λ j a w=>Ea s j a "Text" (by simp) w
  have g2:=λ j a w=>A1V s j a w
  have g3:∀(args:Array bI) (w:bJ),(callFunc (Ga s) args).run aA w=.ok (.enter (Ga s) args) w:=A1E s
  clear h hs hk hL hl hn hp hbu hkc h2 hx hKC;unfold Ax at HTX;go_enter Tryz.func13,Tryz.ntmps13;go_wp2_with fail;refine Ev [] (λ b W=>W.cell? ⟨kp,0,none⟩=some (.iface (pvT s) (.pointer (some ⟨q,0,none⟩)))/\W.cell? ⟨kp,1,none⟩=some (.pointer (some ⟨bp,0,none⟩))) (by kernel_rfl) ?_;have HC:=hqZ HC.o.drew;refine zT 0 ?_ (hS:=⟨(HC.o.blk0.cell 0).trans HC0.o,(HC.o.blk0.cell 1).trans HC1.o⟩);refine zT 1 ?_ (hS:=⟨(HC.o.blk0.cell 0).trans HC0.o,(HC.o.blk0.cell 1).trans HC1.o⟩);refine zT 2 ?_ (hS:=⟨(HC.o.blk0.cell 0).trans HC0.o,(HC.o.blk0.cell 1).trans HC1.o⟩);refine zT 3 ?_ (hS:=⟨(HC.o.blk0.cell 0).trans HC0.o,(HC.o.blk0.cell 1).trans HC1.o⟩);refine zT 4 ?_ (hS:=⟨(HC.o.blk0.cell 0).trans HC0.o,(HC.o.blk0.cell 1).trans HC1.o⟩);refine zT 5 ?_ (hS:=⟨(HC.o.blk0.cell 0).trans HC0.o,(HC.o.blk0.cell 1).trans HC1.o⟩);refine zT 6 ?_ (hS:=⟨(HC.o.blk0.cell 0).trans HC0.o,(HC.o.blk0.cell 1).trans HC1.o⟩);refine zT 7 ?_ (hS:=⟨(HC.o.blk0.cell 0).trans HC0.o,(HC.o.blk0.cell 1).trans HC1.o⟩);refine zT 8 ?_ (hS:=⟨(HC.o.blk0.cell 0).trans HC0.o,(HC.o.blk0.cell 1).trans HC1.o⟩);refine zT 9 ?_ (hS:=⟨(HC.o.blk0.cell 0).trans HC0.o,(HC.o.blk0.cell 1).trans HC1.o⟩);refine zT 10 ?_ (hS:=⟨(HC.o.blk0.cell 0).trans HC0.o,(HC.o.blk0.cell 1).trans HC1.o⟩);refine zT 12 ?_ (hS:=⟨(HC.o.blk0.cell 0).trans HC0.o,(HC.o.blk0.cell 1).trans HC1.o⟩);refine zT 13 ?_ (hS:=⟨(HC.o.blk0.cell 0).trans HC0.o,(HC.o.blk0.cell 1).trans HC1.o⟩);refine zT 14 ?_ (hS:=⟨(HC.o.blk0.cell 0).trans HC0.o,(HC.o.blk0.cell 1).trans HC1.o⟩);refine zJ 11 λ K hK=>?_
  go_simp;refine (HTX.o _ _ HC.o.pull3).mono ?_;rintro e w1 ⟨rfl,hc⟩;have HC:=hqZ (hc.zP [1,1]);clear hc;refine hK _ _ ⟨(HC.o.blk0.cell 0).trans HC0.o,(HC.o.blk0.cell 1).trans HC1.o⟩ ?_;clear hK K;try go_frame
  refine zT 15 ?_ (v:=.agg u.cells.toArray) (hr:=λ l W hk hW=>Ge (by simp [Act.eval]) HBU.o W) (hS:=⟨(HC.o.blk0.cell 0).trans HC0.o,(HC.o.blk0.cell 1).trans HC1.o⟩);refine zJ 16 λ K hK=>?_
  go_simp;refine (HADD.o _ _ HC.o.swap).mono ?_;rintro e w2 ⟨rfl,hc⟩;have HC:=hqZ hc.swap;clear hc;refine hK _ _ ⟨(HC.o.blk0.cell 0).trans HC0.o,(HC.o.blk0.cell 1).trans HC1.o⟩ ?_;clear hK K;try go_frame
  refine zT 17 ?_ (hS:=⟨(HC.o.blk0.cell 0).trans HC0.o,(HC.o.blk0.cell 1).trans HC1.o⟩);refine zD ?_;go_wp2_with fail;go_ret;refine ⟨rfl,?_⟩;have h:=HC.o;rw [<-HKC.o] at h;exact h
  
def Je (k:List UInt8):Nat:=Et (k.drop 11)
theorem V0 {k:List UInt8} (h:k.length=16):Je k<1099511627776:=by
  have:=L4 (k.drop 11);rw [aG,h] at this;exact this
theorem Km (q:Nat) (s:PS) (l:List Res) (w:bJ) (h:Ac w (pvR q s::l)) (hs:s.sz<1099511627776): bL aA 37 #[pvV s q] w λ e w'=>e=.returned (.int .i64 (Je s.fresh.1:Int))/\Ac w' (pvR q s.fresh.2::l):=by
  have HC:=hqZ h;have HFR:=hqZ (λ (w:bJ) (l:List Res) (h:Ac w (pvR q s::l))=>G9 q s l w h hs);have hkl:s.fresh.1.length=16:=PS.fresh_len s;obtain ⟨⟨k,s2⟩,hf⟩:∃x,x=s.fresh:=⟨_,rfl⟩
  rw [<-hf] at HFR hkl ⊢;simp only at HFR hkl ⊢;have hlt:=V0 hkl;have HKB:Hq ((Ab k).length=16):=hqZ (by rw [Aa,hkl]);have HKL:=hqZ hkl;have hgb:Gf (k.drop 11)=(Je k,true):=by
    simp only [Gf,Je];rw [if_neg (by simp [hkl])]
  have HGB:=hqZ hgb;have wx:bM.i64.wrap (Je k:Int)=(Je k:Int):=by rw [bM.wrap_i64]; omega
  have g1:=λ j a w=>Ea s j a "Fresh" (by simp) w
  have g2:=λ j a w=>Lm s j a w
  have g3:∀(args:Array bI) (w:bJ),(callFunc (Ct s) args).run aA w=.ok (.enter (Ct s) args) w:=Lb s
  clear h hs hkl hf hgb hlt;unfold pvV Ax at*;go_enter Tryz.func37,Tryz.ntmps37;go_wp2_with fail;refine (HFR.o _ _ HC.o).mono ?_;rintro e w1 ⟨rfl,hc⟩;have HC:=hqZ (hc.addBlkAt A3 35 (b:=w1.heap.size) rfl);clear hc;go_wp2_with ((with_reducible refine zws 3 7 ?_);refine Af rfl (.tmp 3) (.tmp 7) Al rfl rfl (vs:=Ab k) rfl HKB.o HC.o.blk0 (aC _) (Aj _) ?_);intro w2 h2 k2;have HC:=hqZ (HC.o.stW (vs:=Ab k) h2 k2 rfl);have HB:Hq (Bs w2 (.slice (some ⟨w1.heap.size,11,none⟩) 5 5) (k.drop 11)):=hqZ (by
    have h:=HC.o.blk0.bs (off:=11) (n:=5) (cap:=5) (by rw [HKL.o]; decide) (aC _) (by unfold maxLen; decide);exact Sl.bs h (by rw [aH (by simp [HKL.o])]) (by simp [HKL.o]))
  clear h2 k2;go_wp2_with fail;refine (L6 _ _ _ HB.o).mono ?_;rintro e w3 ⟨rfl,rfl⟩;rw [HGB.o];go_wp2_with fail;go_ret;exact ⟨rfl,HC.o.tail⟩
end Go.Proofs.YtnihelcjmahmnaaGreat
