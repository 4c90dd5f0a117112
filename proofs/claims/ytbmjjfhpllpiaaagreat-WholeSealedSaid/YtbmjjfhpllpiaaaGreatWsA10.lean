/- Texts of this proof, one behind the other: TkU, BUs, BFind, SlZ, ResZ, BDel, BIns, BOps, Kas1, Log1. -/
import Derived.Test.YtbmjjfhpllpiaaaGreatWsA1
import Derived.Test.YtbmjjfhpllpiaaaGreatWsA3
import Derived.Test.YtbmjjfhpllpiaaaGreatWsA4
import Derived.Test.YtbmjjfhpllpiaaaGreatWsA5
import Derived.Test.YtbmjjfhpllpiaaaGreatWsA9
import Derived.Lib.Bytealg
import Derived.Laws.Externs
import Derived.Deep.DeepCutAuto
import Derived.Laws.CopyRow
import Derived.Lib.AppendZerosOnto
import Derived.Lib.Overlaps
set_option linter.unusedSimpArgs false
set_option linter.unusedVariables false
set_option maxRecDepth 100000
set_option maxHeartbeats 16000000
open Go.Proofs.Tryz renaming prog -> aA, underlying231 -> aC, func97 -> aT, ntmps97 -> aU, underlying154 -> aZ
open Nat renaming le_refl -> aB, zero_add -> aN, zero_le -> aP, eq_or_lt_of_le -> bA, mul_le_mul_right -> bD, min_eq_left -> bF
open List renaming length_take -> aD, length_append -> aE, length_drop -> aF, take_of_length_le -> aG, getElem?_cons_zero -> aH, mem_cons_self -> aI, append_assoc -> aJ, take_append_of_le_length -> aK, forall_mem_append -> aL, forall_mem_cons -> aM, drop_of_length_le -> aO, map_toArray -> aQ, map_nil -> aR, getElem?_take -> aS, getElem?_cons_succ -> aV, getElem?_append_right -> aW, getElem_cons_zero -> aX, takeWhile_cons -> aY, getElem?_eq_getElem -> bB, map_cons -> bC, take_take -> bE, take_append -> bG
open Go renaming Value -> bH, World -> bI, TypeId -> bJ, Calls -> bK, IntKind -> bL, Program -> bM, Oper -> bN
namespace Go.Proofs.YtbmjjfhpllpiaaaGreat
open Go.RowKit
theorem Ge (y:bH) (x:Tv) (G:bI->(Nat->Prop)->bH->Prop) (w:bI) (hb:Bs w y (A0 x)) (hr:Ba 8 x=true) (hn:Nw x) (hl:(A0 x).length<=4096) (hof:∀(F:Nat->Prop) (cs:List bH) (W:bI),TvF W F x cs->(∀b,F b->b<W.heap.size)->bK aA 121 #[.agg cs.toArray] W λ e w'=>∃r,e=.returned (.tuple #[r,.bool true])/\G w' F r/\Below W.heap.size W w') (hg:∀(W W2:bI) (F:Nat->Prop) (r:bH),Below W.heap.size W W2->G W F r->G W2 F r): bK aA 99 #[y] w λ e w'=>∃r,e=.returned (.tuple #[r,.int .i64 0])/\(∃B,G w' (λ b=>w.heap.size<=b/\b<B) r)/\Below w.heap.size w w':=by
  have hrd:=Mn y (A0 x) w hb;rw [Np hr hn hl] at hrd;have HR:=hqZ hrd;have HOF:=hqZ hof;obtain ⟨ya,yc,rfl,_,_⟩:=hb.form;clear hrd hof hb hr hn hl;go_enter Tryz.func99,Tryz.ntmps99;go_wp2_with fail;refine HR.o.mono ?_;rintro e w1 ⟨cs,rfl,ht,hb⟩;have HT:=hqZ ht;have HB:=hqZ hb;have HL:=hqZ ht.length;have HO:=hqZ ht.one;have HN4:=hqZ (Blk.new w1 zs5 249);clear ht hb HR;go_upto_region 2 with ((with_reducible refine zws 4 11 ?_);refine Af rfl (.tmp 4) (.tmp 11) Aq rfl rfl (vs:=cs) rfl HL.o HN4.o (aB _) HO.o ?_);intro w2 h2 k2;have h2':Blk w2 w1.heap.size cs 249:=by
    rw [aO (by decide),List.append_nil] at h2;exact h2
  have hb2:Below w1.heap.size w1 w2:=((Below.refl _ _).alloc (aB _) _).trans (k2.below (by omega));have H2:=hqZ h2';have HB2:Hq (Below w.heap.size w w2):=hqZ (HB.o.trans (hb2.mono HB.o.size));have HOF2:=hqZ (HOF.o _ cs w2 (HT.o.below hb2) (λ b hb=>by have:=hb.2; have:=hb2.size; omega));clear h2 k2 h2' hb2;go_wp2_with ((with_reducible refine zw 17 ?_);refine Ag rfl (.tmp 4) Aq rfl rfl (cs:=cs) HL.o H2.o.cellsAll ?_);refine HOF2.o.mono ?_;rintro e w3 ⟨r,rfl,hgr,hb3⟩;have HG:=hqZ hgr;have HB3:Hq (Below w.heap.size w w3):=hqZ (HB2.o.trans (hb3.mono HB2.o.size));clear hgr hb3;go_wp2_with fail;go_ret2;exact ⟨r,rfl,⟨_,HG.o⟩,HB3.o⟩
theorem R5 (q:Nat) (s:PS) (k:List UInt8) (u:Nat) (box:List UInt8) (bv:bH) (x1:Nat) (k2:List UInt8) (l3:List UInt8) (x4:Nat) (x5:Nat) (x6:Nat) (l:List Res) (w:bI) (h:Ac w (pvR q s::l)) (hk:k.length=16) (hu:u<100) (hs:s.sz<1099511627776) (ho:s.Opn k u box (Au 2 [.n x1,.k k2,.s l3,.n x4,.n x5,.n x6])) (hv:∀W,Ac W l->Bs W bv box) (hz1:x1<=1099511627776) (hk2:k2.length=16) (hr3:As (tx l3)=true) (hz4:x4<=1099511627776) (hz5:x5<=1099511627776) (hz6:x6<=1099511627776) (hl:(Au 2 [.n x1,.k k2,.s l3,.n x4,.n x5,.n x6]).length<=4096): bK aA 72 #[pvV s q,Ay k,.int .i64 u,bv] w λ e w'=>e=.returned (.tuple #[.agg (([.int .i64 (x1:Int)]:List bH)++(Ab k2++([.string (tx l3),.int .i64 (x4:Int),.int .i64 (x5:Int),.int .i64 (x6:Int)]:List bH))).toArray,.int .i64 0])/\Ac w' (pvR q s::l):=by
  have HKB:Hq ((Ab k).length=16):=hqZ (by rw [Aa,hk]);have HC:=hqZ (((h.addBlkAt (Ab k) 43 (b:=w.heap.size) rfl).addBlkAt I3 166 (b:=w.heap.size+1) (by simp)).addBlkAt I3 166 (b:=w.heap.size+1+1) (by simp));have hnw:Nw (Dw 2 [.n x1,.k k2,.s l3,.n x4,.n x5,.n x6]):=⟨by decide,⟨⟨(by have:=hz1; show x1<_; omega),trivial⟩,⟨⟨(by decide),trivial⟩,⟨⟨(by decide),trivial⟩,⟨⟨(by have:=hz4; show x4<_; omega),trivial⟩,⟨⟨(by have:=hz5; show x5<_; omega),trivial⟩,⟨⟨(by have:=hz6; show x6<_; omega),trivial⟩,trivial⟩⟩⟩⟩⟩⟩⟩;have HUP:=hqZ (λ (y:bH) (w:bI) (hb:Bs w y (Au 2 [.n x1,.k k2,.s l3,.n x4,.n x5,.n x6]))=>Ge y (Dw 2 [.n x1,.k k2,.s l3,.n x4,.n x5,.n x6]) (λ _ _ r=>r=.iface 166 (.agg (([.int .i64 (x1:Int)]:List bH)++(Ab k2++([.string (tx l3),.int .i64 (x4:Int),.int .i64 (x5:Int),.int .i64 (x6:Int)]:List bH))).toArray)) w hb (Jo (by decide) (by decide) _) hnw hl
    (λ F cs W ht hf=>(A3g x1 k2 l3 x4 x5 x6 F cs W ht hf hz1 hk2 hr3 hz4 hz5 hz6).mono λ e w' h=>⟨_,h.1,rfl,h.2⟩) (λ _ _ _ _ _ h=>h))
  have HOP:=hqZ (λ (w:bI) (l:List Res) (h:Ac w (pvR q s::l)) (hv:∀W,Ac W l->Bs W bv box)=>Hx q s k u box (Au 2 [.n x1,.k k2,.s l3,.n x4,.n x5,.n x6]) bv l w h ho hk hu hv (by omega) hs);have h1:=λ j a w=>D4 s j a "Open" (by simp) w
  have h2:=λ j a w=>Nc s j a w
  have h3:∀(args:Array bH) (w:bI),(callFunc (E3 s) args).run aA w=.ok (.enter (E3 s) args) w:=Mr s
  have HV:=hqZ hv;have HLN:=hqZ hl;have HKL:=hqZ hk2;clear h hk hu hs ho hv hnw hl hk2 hz1 hr3 hz4 hz5 hz6;unfold Ay at HOP ⊢;unfold pvV;go_enter Tryz.func72,Tryz.ntmps72;go_wp2_with ((with_reducible refine zw 19 ?_);refine Ag rfl (.tmp 5) Am rfl rfl (cs:=Ab k) HKB.o HC.o.pull3.blk0.cellsAll ?_);refine (HOP.o _ _ (HC.o.zP [3]) (λ W hW=>HV.o W hW.tail.tail.tail)).mono ?_;rintro e w1 ⟨y,rfl,hc⟩;obtain ⟨ya,yc,rfl,_,_⟩:=(hc.rowOf (v:=y) (b:=Au 2 [.n x1,.k k2,.s l3,.n x4,.n x5,.n x6]) (by simp)).form;have HC:=hqZ hc;clear hc;go_wp2_with fail;refine (HUP.o _ _ (HC.o.rowOf (v:=.slice ya (Au 2 [.n x1,.k k2,.s l3,.n x4,.n x5,.n x6]).length yc) (b:=Au 2 [.n x1,.k k2,.s l3,.n x4,.n x5,.n x6]) (by simp))).mono ?_;rintro e w2 ⟨_,rfl,⟨_,rfl⟩,hw⟩;have HC:=hqZ (HC.o.step hw);clear hw;obtain ⟨cs,hcs⟩:∃cs:List bH,cs=(([.int .i64 (x1:Int)]:List bH)++(Ab k2++([.string (tx l3),.int .i64 (x4:Int),.int .i64 (x5:Int),.int .i64 (x6:Int)]:List bH))):=⟨_,rfl⟩
  rw [<-hcs];have HCL:Hq (cs.length=21):=hqZ (by rw [hcs]; simp [Aa,HKL.o]);have HCO:Hq (∀u∈cs,u.oneCell'=true):=hqZ (by rw [hcs]; simp only [aL,aM]; exact ⟨⟨rfl,(λ _ h=>by cases h)⟩,Ak _,⟨rfl,rfl,rfl,rfl,(λ _ h=>by cases h)⟩⟩);have HCS:=hqZ hcs;clear hcs;have hta:∀W,(Instr.typeAssert (.iface 166 (.agg cs.toArray)) 20 166 true).run aA W=.ok (.tuple #[.agg cs.toArray,.bool true]) W:=λ W=>Fg _ _ _ (by kernel_rfl) W
  have HN:=hqZ (HC.o.addBlkAt I3 166 (b:=w2.heap.size) rfl);go_wp2_with ((with_reducible refine zws 15 40 ?_);refine Af rfl (.tmp 15) (.tmp 40) Bu rfl rfl (vs:=cs) rfl HCL.o HN.o.blk0 (aB _) HCO.o ?_);intro w3 h9 k9;have HC:=hqZ (HN.o.stW (vs:=cs) h9 k9 rfl);clear h9 k9 hta;have HC:=hqZ (HC.o.zP [4]);go_wp2_with (first | ((with_reducible refine zw 43 ?_);refine Ag rfl (.tmp 15) Bu rfl rfl (cs:=cs) HCL.o HC.o.swap.blk0.cellsAll ?_) | ((with_reducible refine zws 8 43 ?_);refine Af rfl (.tmp 8) (.tmp 43) Bu rfl rfl (vs:=cs) rfl HCL.o HC.o.blk0 (aB _) HCO.o ?_));intro w4 h8 k8;have HC:=hqZ (HC.o.stW (vs:=cs) h8 k8 rfl);clear h8 k8;go_wp2_with fail;refine bodyPost_ret (Aj rfl Bu rfl HCL.o HC.o.blk0.cellsAll) rfl ?_;rw [HCS.o];exact ⟨rfl,HC.o.zP [0,0,0,1,1] |>.tail.tail.tail.tail.tail⟩
theorem A0s (q:Nat) (s:PS) (k:List UInt8) (u:Nat) (box:List UInt8) (bv:bH) (x1:Nat) (k2:List UInt8) (x3:Nat) (l4:List UInt8) (x5:Nat) (x6:Nat) (x7:Nat) (l:List Res) (w:bI) (h:Ac w (pvR q s::l)) (hk:k.length=16) (hu:u<100) (hs:s.sz<1099511627776) (ho:s.Opn k u box (Au 3 [.n x1,.k k2,.n x3,.s l4,.n x5,.n x6,.n x7])) (hv:∀W,Ac W l->Bs W bv box) (hz1:x1<=1099511627776) (hk2:k2.length=16) (hz3:x3<=1099511627776) (hr4:As (tx l4)=true) (hz5:x5<=1099511627776) (hz6:x6<=1099511627776) (hz7:x7<=1099511627776) (hl:(Au 3 [.n x1,.k k2,.n x3,.s l4,.n x5,.n x6,.n x7]).length<=4096): bK aA 100 #[pvV s q,Ay k,.int .i64 u,bv] w λ e w'=>e=.returned (.tuple #[.agg (([.int .i64 (x1:Int)]:List bH)++(Ab k2++([.int .i64 (x3:Int),.string (tx l4),.int .i64 (x5:Int),.int .i64 (x6:Int),.int .i64 (x7:Int)]:List bH))).toArray,.int .i64 0])/\Ac w' (pvR q s::l):=by
  have HKB:Hq ((Ab k).length=16):=hqZ (by rw [Aa,hk]);have HC:=hqZ (((h.addBlkAt (Ab k) 43 (b:=w.heap.size) rfl).addBlkAt A0y 242 (b:=w.heap.size+1) (by simp)).addBlkAt A0y 242 (b:=w.heap.size+1+1) (by simp));have hnw:Nw (Dw 3 [.n x1,.k k2,.n x3,.s l4,.n x5,.n x6,.n x7]):=⟨by decide,⟨⟨(by have:=hz1; show x1<_; omega),trivial⟩,⟨⟨(by decide),trivial⟩,⟨⟨(by have:=hz3; show x3<_; omega),trivial⟩,⟨⟨(by decide),trivial⟩,⟨⟨(by have:=hz5; show x5<_; omega),trivial⟩,⟨⟨(by have:=hz6; show x6<_; omega),trivial⟩,⟨⟨(by have:=hz7; show x7<_; omega),trivial⟩,trivial⟩⟩⟩⟩⟩⟩⟩⟩;have HUP:=hqZ (λ (y:bH) (w:bI) (hb:Bs w y (Au 3 [.n x1,.k k2,.n x3,.s l4,.n x5,.n x6,.n x7]))=>Ge y (Dw 3 [.n x1,.k k2,.n x3,.s l4,.n x5,.n x6,.n x7]) (λ _ _ r=>r=.iface 242 (.agg (([.int .i64 (x1:Int)]:List bH)++(Ab k2++([.int .i64 (x3:Int),.string (tx l4),.int .i64 (x5:Int),.int .i64 (x6:Int),.int .i64 (x7:Int)]:List bH))).toArray)) w hb (Jo (by decide) (by decide) _) hnw hl
    (λ F cs W ht hf=>(A3h x1 k2 x3 l4 x5 x6 x7 F cs W ht hf hz1 hk2 hz3 hr4 hz5 hz6 hz7).mono λ e w' h=>⟨_,h.1,rfl,h.2⟩) (λ _ _ _ _ _ h=>h))
  have HOP:=hqZ (λ (w:bI) (l:List Res) (h:Ac w (pvR q s::l)) (hv:∀W,Ac W l->Bs W bv box)=>Hx q s k u box (Au 3 [.n x1,.k k2,.n x3,.s l4,.n x5,.n x6,.n x7]) bv l w h ho hk hu hv (by omega) hs);have h1:=λ j a w=>D4 s j a "Open" (by simp) w
  have h2:=λ j a w=>Nc s j a w
  have h3:∀(args:Array bH) (w:bI),(callFunc (E3 s) args).run aA w=.ok (.enter (E3 s) args) w:=Mr s
  have HV:=hqZ hv;have HLN:=hqZ hl;have HKL:=hqZ hk2;clear h hk hu hs ho hv hnw hl hk2 hz1 hz3 hr4 hz5 hz6 hz7;unfold Ay at HOP ⊢;unfold pvV;go_enter Tryz.func100,Tryz.ntmps100;go_wp2_with ((with_reducible refine zw 19 ?_);refine Ag rfl (.tmp 5) Am rfl rfl (cs:=Ab k) HKB.o HC.o.pull3.blk0.cellsAll ?_);refine (HOP.o _ _ (HC.o.zP [3]) (λ W hW=>HV.o W hW.tail.tail.tail)).mono ?_;rintro e w1 ⟨y,rfl,hc⟩;obtain ⟨ya,yc,rfl,_,_⟩:=(hc.rowOf (v:=y) (b:=Au 3 [.n x1,.k k2,.n x3,.s l4,.n x5,.n x6,.n x7]) (by simp)).form;have HC:=hqZ hc;clear hc;go_wp2_with fail;refine (HUP.o _ _ (HC.o.rowOf (v:=.slice ya (Au 3 [.n x1,.k k2,.n x3,.s l4,.n x5,.n x6,.n x7]).length yc) (b:=Au 3 [.n x1,.k k2,.n x3,.s l4,.n x5,.n x6,.n x7]) (by simp))).mono ?_;rintro e w2 ⟨_,rfl,⟨_,rfl⟩,hw⟩;have HC:=hqZ (HC.o.step hw);clear hw;obtain ⟨cs,hcs⟩:∃cs:List bH,cs=(([.int .i64 (x1:Int)]:List bH)++(Ab k2++([.int .i64 (x3:Int),.string (tx l4),.int .i64 (x5:Int),.int .i64 (x6:Int),.int .i64 (x7:Int)]:List bH))):=⟨_,rfl⟩
  rw [<-hcs];have HCL:Hq (cs.length=22):=hqZ (by rw [hcs]; simp [Aa,HKL.o]);have HCO:Hq (∀u∈cs,u.oneCell'=true):=hqZ (by rw [hcs]; simp only [aL,aM]; exact ⟨⟨rfl,(λ _ h=>by cases h)⟩,Ak _,⟨rfl,rfl,rfl,rfl,rfl,(λ _ h=>by cases h)⟩⟩);have HCS:=hqZ hcs;clear hcs;have hta:∀W,(Instr.typeAssert (.iface 242 (.agg cs.toArray)) 20 242 true).run aA W=.ok (.tuple #[.agg cs.toArray,.bool true]) W:=λ W=>Fg _ _ _ (by kernel_rfl) W
  have HN:=hqZ (HC.o.addBlkAt A0y 242 (b:=w2.heap.size) rfl);go_wp2_with ((with_reducible refine zws 15 40 ?_);refine Af rfl (.tmp 15) (.tmp 40) G0 rfl rfl (vs:=cs) rfl HCL.o HN.o.blk0 (aB _) HCO.o ?_);intro w3 h9 k9;have HC:=hqZ (HN.o.stW (vs:=cs) h9 k9 rfl);clear h9 k9 hta;have HC:=hqZ (HC.o.zP [4]);go_wp2_with (first | ((with_reducible refine zw 43 ?_);refine Ag rfl (.tmp 15) G0 rfl rfl (cs:=cs) HCL.o HC.o.swap.blk0.cellsAll ?_) | ((with_reducible refine zws 8 43 ?_);refine Af rfl (.tmp 8) (.tmp 43) G0 rfl rfl (vs:=cs) rfl HCL.o HC.o.blk0 (aB _) HCO.o ?_));intro w4 h8 k8;have HC:=hqZ (HC.o.stW (vs:=cs) h8 k8 rfl);clear h8 k8;go_wp2_with fail;refine bodyPost_ret (Aj rfl G0 rfl HCL.o HC.o.blk0.cellsAll) rfl ?_;rw [HCS.o];exact ⟨rfl,HC.o.zP [0,0,0,1,1] |>.tail.tail.tail.tail.tail⟩
theorem R6 (q:Nat) (s:PS) (k:List UInt8) (u:Nat) (box:List UInt8) (bv:bH) (l1:List UInt8) (x2:Nat) (x3:Nat) (k4:List UInt8) (l5:List UInt8) (l:List Res) (w:bI) (h:Ac w (pvR q s::l)) (hk:k.length=16) (hu:u<100) (hs:s.sz<1099511627776) (ho:s.Opn k u box (Au 4 [.s l1,.n x2,.n x3,.k k4,.b l5])) (hv:∀W,Ac W l->Bs W bv box) (hr1:As (tx l1)=true) (hz2:x2<=1099511627776) (hz3:x3<=1099511627776) (hk4:k4.length=16) (hl:(Au 4 [.s l1,.n x2,.n x3,.k k4,.b l5]).length<=4096): bK aA 73 #[pvV s q,Ay k,.int .i64 u,bv] w λ e w'=>∃v,e=.returned (.tuple #[.agg (([.string (tx l1),.int .i64 (x2:Int),.int .i64 (x3:Int)]:List bH)++(Ab k4++([v]:List bH))).toArray,.int .i64 0])/\Ac w' (.row v l5::pvR q s::l):=by
  have HKB:Hq ((Ab k).length=16):=hqZ (by rw [Aa,hk]);have HC:=hqZ (((h.addBlkAt (Ab k) 43 (b:=w.heap.size) rfl).addBlkAt A0z 192 (b:=w.heap.size+1) (by simp)).addBlkAt A0z 192 (b:=w.heap.size+1+1) (by simp));have hnw:Nw (Dw 4 [.s l1,.n x2,.n x3,.k k4,.b l5]):=⟨by decide,⟨⟨(by decide),trivial⟩,⟨⟨(by have:=hz2; show x2<_; omega),trivial⟩,⟨⟨(by have:=hz3; show x3<_; omega),trivial⟩,⟨⟨(by decide),trivial⟩,⟨⟨(by decide),trivial⟩,trivial⟩⟩⟩⟩⟩⟩;have HUP:=hqZ (λ (y:bH) (w:bI) (hb:Bs w y (Au 4 [.s l1,.n x2,.n x3,.k k4,.b l5]))=>Ge y (Dw 4 [.s l1,.n x2,.n x3,.k k4,.b l5]) (λ W F r=>∃v,r=.iface 192 (.agg (([.string (tx l1),.int .i64 (x2:Int),.int .i64 (x3:Int)]:List bH)++(Ab k4++([v]:List bH))).toArray)/\Bs W v l5/\(0<l5.length->∀y,v.ownBlock=some y->F y)) w hb (Jo (by decide) (by decide) _) hnw hl
    (λ F cs W ht hf=>(A3i l1 x2 x3 k4 l5 F cs W ht hf hr1 hz2 hz3 hk4).mono λ e w' h=>⟨_,h.choose_spec.1,⟨_,rfl,h.choose_spec.2.1,h.choose_spec.2.2.1⟩,h.choose_spec.2.2.2⟩) (λ W W2 F r hb hg=>by obtain ⟨v,h1,h2,h3⟩:=hg; exact ⟨v,h1,h2.below hb,h3⟩))
  have HOP:=hqZ (λ (w:bI) (l:List Res) (h:Ac w (pvR q s::l)) (hv:∀W,Ac W l->Bs W bv box)=>Hx q s k u box (Au 4 [.s l1,.n x2,.n x3,.k k4,.b l5]) bv l w h ho hk hu hv (by omega) hs);have h1:=λ j a w=>D4 s j a "Open" (by simp) w
  have h2:=λ j a w=>Nc s j a w
  have h3:∀(args:Array bH) (w:bI),(callFunc (E3 s) args).run aA w=.ok (.enter (E3 s) args) w:=Mr s
  have HV:=hqZ hv;have HLN:=hqZ hl;have HKL:=hqZ hk4;clear h hk hu hs ho hv hnw hl hk4 hr1 hz2 hz3;unfold Ay at HOP ⊢;unfold pvV;go_enter Tryz.func73,Tryz.ntmps73;go_wp2_with ((with_reducible refine zw 19 ?_);refine Ag rfl (.tmp 5) Am rfl rfl (cs:=Ab k) HKB.o HC.o.pull3.blk0.cellsAll ?_);refine (HOP.o _ _ (HC.o.zP [3]) (λ W hW=>HV.o W hW.tail.tail.tail)).mono ?_;rintro e w1 ⟨y,rfl,hc⟩;obtain ⟨ya,yc,rfl,_,_⟩:=(hc.rowOf (v:=y) (b:=Au 4 [.s l1,.n x2,.n x3,.k k4,.b l5]) (by simp)).form;have HC:=hqZ hc;clear hc;go_wp2_with fail;refine (HUP.o _ _ (HC.o.rowOf (v:=.slice ya (Au 4 [.s l1,.n x2,.n x3,.k k4,.b l5]).length yc) (b:=Au 4 [.s l1,.n x2,.n x3,.k k4,.b l5]) (by simp))).mono ?_;rintro e w2 ⟨_,rfl,⟨_,v,rfl,hb,hf⟩,hw⟩;have HC:=hqZ (HC.o.addRow hw hb (λ k hn hk=>(hf hn k hk).1));obtain ⟨va,vc,rfl,_,_⟩:=hb.form;clear hb hf hw;obtain ⟨cs,hcs⟩:∃cs:List bH,cs=(([.string (tx l1),.int .i64 (x2:Int),.int .i64 (x3:Int)]:List bH)++(Ab k4++([.slice va l5.length vc]:List bH))):=⟨_,rfl⟩
  rw [<-hcs];have HCL:Hq (cs.length=20):=hqZ (by rw [hcs]; simp [Aa,HKL.o]);have HCO:Hq (∀u∈cs,u.oneCell'=true):=hqZ (by rw [hcs]; simp only [aL,aM]; exact ⟨⟨rfl,rfl,rfl,(λ _ h=>by cases h)⟩,Ak _,⟨rfl,(λ _ h=>by cases h)⟩⟩);have HCS:=hqZ hcs;clear hcs;have hta:∀W,(Instr.typeAssert (.iface 192 (.agg cs.toArray)) 20 192 true).run aA W=.ok (.tuple #[.agg cs.toArray,.bool true]) W:=λ W=>Fg _ _ _ (by kernel_rfl) W
  have HN:=hqZ (HC.o.addBlkAt A0z 192 (b:=w2.heap.size) rfl);go_wp2_with ((with_reducible refine zws 15 40 ?_);refine Af rfl (.tmp 15) (.tmp 40) Ih rfl rfl (vs:=cs) rfl HCL.o HN.o.blk0 (aB _) HCO.o ?_);intro w3 h9 k9;have HC:=hqZ (HN.o.stW (vs:=cs) h9 k9 rfl);clear h9 k9 hta;have HC:=hqZ (HC.o.zP [5]);go_wp2_with (first | ((with_reducible refine zw 43 ?_);refine Ag rfl (.tmp 15) Ih rfl rfl (cs:=cs) HCL.o HC.o.swap.blk0.cellsAll ?_) | ((with_reducible refine zws 8 43 ?_);refine Af rfl (.tmp 8) (.tmp 43) Ih rfl rfl (vs:=cs) rfl HCL.o HC.o.blk0 (aB _) HCO.o ?_));intro w4 h8 k8;have HC:=hqZ (HC.o.stW (vs:=cs) h8 k8 rfl);clear h8 k8;go_wp2_with fail;refine bodyPost_ret (Aj rfl Ih rfl HCL.o HC.o.blk0.cellsAll) rfl ?_;rw [HCS.o];exact ⟨_,rfl,HC.o.zP [0,0,1,2,2] |>.tail.tail.tail.tail.tail⟩
theorem R7 (q:Nat) (s:PS) (k:List UInt8) (u:Nat) (box:List UInt8) (bv:bH) (x1:Nat) (x2:Nat) (l:List Res) (w:bI) (h:Ac w (pvR q s::l)) (hk:k.length=16) (hu:u<100) (hs:s.sz<1099511627776) (ho:s.Opn k u box (Au 5 [.n x1,.n x2])) (hv:∀W,Ac W l->Bs W bv box) (hz1:x1<=1099511627776) (hz2:x2<=1099511627776) (hl:(Au 5 [.n x1,.n x2]).length<=4096): bK aA 58 #[pvV s q,Ay k,.int .i64 u,bv] w λ e w'=>e=.returned (.tuple #[.agg ([.int .i64 (x1:Int),.int .i64 (x2:Int)]:List bH).toArray,.int .i64 0])/\Ac w' (pvR q s::l):=by
  have HKB:Hq ((Ab k).length=16):=hqZ (by rw [Aa,hk]);have HC:=hqZ (((h.addBlkAt (Ab k) 43 (b:=w.heap.size) rfl).addBlkAt A0A 103 (b:=w.heap.size+1) (by simp)).addBlkAt A0A 103 (b:=w.heap.size+1+1) (by simp));have hnw:Nw (Dw 5 [.n x1,.n x2]):=⟨by decide,⟨⟨(by have:=hz1; show x1<_; omega),trivial⟩,⟨⟨(by have:=hz2; show x2<_; omega),trivial⟩,trivial⟩⟩⟩;have HUP:=hqZ (λ (y:bH) (w:bI) (hb:Bs w y (Au 5 [.n x1,.n x2]))=>Ge y (Dw 5 [.n x1,.n x2]) (λ _ _ r=>r=.iface 103 (.agg ([.int .i64 (x1:Int),.int .i64 (x2:Int)]:List bH).toArray)) w hb (Jo (by decide) (by decide) _) hnw hl
    (λ F cs W ht hf=>(A3j x1 x2 F cs W ht hf hz1 hz2).mono λ e w' h=>⟨_,h.1,rfl,h.2⟩) (λ _ _ _ _ _ h=>h))
  have HOP:=hqZ (λ (w:bI) (l:List Res) (h:Ac w (pvR q s::l)) (hv:∀W,Ac W l->Bs W bv box)=>Hx q s k u box (Au 5 [.n x1,.n x2]) bv l w h ho hk hu hv (by omega) hs);have h1:=λ j a w=>D4 s j a "Open" (by simp) w
  have h2:=λ j a w=>Nc s j a w
  have h3:∀(args:Array bH) (w:bI),(callFunc (E3 s) args).run aA w=.ok (.enter (E3 s) args) w:=Mr s
  have HV:=hqZ hv;have HLN:=hqZ hl;clear h hk hu hs ho hv hnw hl hz1 hz2;unfold Ay at HOP ⊢;unfold pvV;go_enter Tryz.func58,Tryz.ntmps58;go_wp2_with ((with_reducible refine zw 19 ?_);refine Ag rfl (.tmp 5) Am rfl rfl (cs:=Ab k) HKB.o HC.o.pull3.blk0.cellsAll ?_);refine (HOP.o _ _ (HC.o.zP [3]) (λ W hW=>HV.o W hW.tail.tail.tail)).mono ?_;rintro e w1 ⟨y,rfl,hc⟩;obtain ⟨ya,yc,rfl,_,_⟩:=(hc.rowOf (v:=y) (b:=Au 5 [.n x1,.n x2]) (by simp)).form;have HC:=hqZ hc;clear hc;go_wp2_with fail;refine (HUP.o _ _ (HC.o.rowOf (v:=.slice ya (Au 5 [.n x1,.n x2]).length yc) (b:=Au 5 [.n x1,.n x2]) (by simp))).mono ?_;rintro e w2 ⟨_,rfl,⟨_,rfl⟩,hw⟩;have HC:=hqZ (HC.o.step hw);clear hw;obtain ⟨cs,hcs⟩:∃cs:List bH,cs=([.int .i64 (x1:Int),.int .i64 (x2:Int)]:List bH):=⟨_,rfl⟩
  rw [<-hcs];have HCL:Hq (cs.length=2):=hqZ (by rw [hcs]; simp);have HCO:Hq (∀u∈cs,u.oneCell'=true):=hqZ (by rw [hcs]; simp only [aL,aM]; exact ⟨rfl,rfl,(λ _ h=>by cases h)⟩);have HCS:=hqZ hcs;clear hcs;have hta:∀W,(Instr.typeAssert (.iface 103 (.agg cs.toArray)) 20 103 true).run aA W=.ok (.tuple #[.agg cs.toArray,.bool true]) W:=λ W=>Fg _ _ _ (by kernel_rfl) W
  have HN:=hqZ (HC.o.addBlkAt A0A 103 (b:=w2.heap.size) rfl);go_wp2_with ((with_reducible refine zws 15 40 ?_);refine Af rfl (.tmp 15) (.tmp 40) Fo rfl rfl (vs:=cs) rfl HCL.o HN.o.blk0 (aB _) HCO.o ?_);intro w3 h9 k9;have HC:=hqZ (HN.o.stW (vs:=cs) h9 k9 rfl);clear h9 k9 hta;have HC:=hqZ (HC.o.zP [4]);go_wp2_with (first | ((with_reducible refine zw 43 ?_);refine Ag rfl (.tmp 15) Fo rfl rfl (cs:=cs) HCL.o HC.o.swap.blk0.cellsAll ?_) | ((with_reducible refine zws 8 43 ?_);refine Af rfl (.tmp 8) (.tmp 43) Fo rfl rfl (vs:=cs) rfl HCL.o HC.o.blk0 (aB _) HCO.o ?_));intro w4 h8 k8;have HC:=hqZ (HC.o.stW (vs:=cs) h8 k8 rfl);clear h8 k8;go_wp2_with fail;refine bodyPost_ret (Aj rfl Fo rfl HCL.o HC.o.blk0.cellsAll) rfl ?_;rw [HCS.o];exact ⟨rfl,HC.o.zP [0,0,0,1,1] |>.tail.tail.tail.tail.tail⟩
end Go.Proofs.YtbmjjfhpllpiaaaGreat
namespace Go.Proofs.YtbmjjfhpllpiaaaGreat
open Go.RowKit Go.Lib
theorem A4q:∀ {a b:List UInt8},compareBytes a b=0->a=b
  | [], [],_=>rfl
  | [],_::_,h=>by simp [compareBytes] at h
  | _::_, [],h=>by simp [compareBytes] at h
  | x::a,y::b,h=>by
    rw [compareBytes] at h;split at h
    · cases h
    · split at h
      · cases h
      · next h1 h2=>
        rw [UInt8.lt_iff_toNat_lt] at h1 h2;rw [UInt8.toNat_inj.1 (show x.toNat=y.toNat by omega),A4q h]
theorem Wc:∀ {a b c:List UInt8},compareBytes a b<0->compareBytes b c<0->compareBytes a c<0
  | [], [],_,h,_=>by simp [compareBytes] at h
  | [],_::_, [],_,h=>by simp [compareBytes] at h
  | [],_::_,_::_,_,_=>by simp [compareBytes]
  | _::_, [],_,h,_=>by simp [compareBytes] at h
  | _::_,_::_, [],_,h=>by simp [compareBytes] at h
  | x::a,y::b,z::c,h,k=>by
    rw [compareBytes] at h k ⊢;simp only [UInt8.lt_iff_toNat_lt] at h k ⊢;by_cases h1:x.toNat<y.toNat
    · by_cases k1:y.toNat<z.toNat
      · rw [if_pos (by omega)]; decide
      · rw [if_neg k1] at k;by_cases k2:z.toNat<y.toNat
        · rw [if_pos k2] at k; simp at k
        · rw [if_pos (by omega)]; decide
    · rw [if_neg h1] at h;by_cases h2:y.toNat<x.toNat
      · rw [if_pos h2] at h; simp at h
      · rw [if_neg h2] at h;by_cases k1:y.toNat<z.toNat
        · rw [if_pos (by omega)]; decide
        · rw [if_neg k1] at k;by_cases k2:z.toNat<y.toNat
          · rw [if_pos k2] at k; simp at k
          · rw [if_neg k2] at k;rw [if_neg (by omega),if_neg (by omega)];exact Wc h k
def Jp (a b:ByteArray):Int:=compareBytes a.data.toList b.data.toList
theorem A2g {a b:ByteArray} (h:a.data.toList=b.data.toList):a=b:=by
  obtain ⟨a⟩:=a;obtain ⟨b⟩:=b;exact congrArg ByteArray.mk (Array.toList_inj.1 h)
theorem A3w {a b:ByteArray} (h:Jp a b=0):a=b:=A2g (A4q h)
theorem Qm {a b c:ByteArray} (h:Jp a b<0) (k:Jp b c<0):Jp a c<0:=Wc h k
structure Us where
  name:ByteArray
  key:List UInt8
  kl:key.length=16
  life:Int
  renew:Int
  mesh:Bool
def Us.cells (u:Us):List bH:=.string u.name::(Ab u.key++ [.int .i64 u.life,.int .i64 u.renew,.bool u.mesh])
theorem Us.cells_length (u:Us):u.cells.length=20:=by simp [Us.cells,Aa,u.kl]
theorem Us.cells_one (u:Us):∀c∈u.cells,c.oneCell'=true:=by
  intro c hc;simp only [Us.cells,List.mem_cons,List.mem_append,List.not_mem_nil,or_false] at hc;rcases hc with rfl | hc | rfl | rfl | rfl
  · rfl
  · exact Ak _ c hc
  all_goals rfl
theorem Us.c0 (u:Us):u.cells[0]?=some (.string u.name):=rfl
theorem Us.c17 (u:Us):u.cells[17]?=some (.int .i64 u.life):=by
  rw [Us.cells,aV,aW (by rw [Aa,u.kl]; omega),Aa,u.kl]; rfl
theorem Us.c18 (u:Us):u.cells[18]?=some (.int .i64 u.renew):=by
  rw [Us.cells,aV,aW (by rw [Aa,u.kl]; omega),Aa,u.kl]; rfl
def usC (L:List Us):List bH:=(L.map Us.cells).flatten
theorem D9 (L:List Us):(usC L).length=L.length*20:=Kh Us.cells L (λ u _=>u.cells_length)
theorem Qb (L:List Us):∀c∈usC L,c.oneCell'=true:=by
  intro c hc;obtain ⟨x,hx,hcx⟩:=List.mem_flatten.1 hc;obtain ⟨u,_,rfl⟩:=List.mem_map.1 hx;exact u.cells_one c hcx
theorem A5g (L:List Us) (k j:Nat) (h:k<L.length) (hj:j<20):(usC L)[k*20+j]?=L[k].cells[j]?:=Ms Us.cells L (λ u _=>u.cells_length) k j h hj
theorem Ib (L M:List Us):usC (L++M)=usC L++usC M:=by simp [usC]
theorem Yv (L:List Us) (k:Nat):usC (L.take k)=(usC L).take (k*20):=(Te Us.cells L (λ u _=>u.cells_length) k).symm
theorem A3m (L:List Us) (k:Nat):usC (L.drop k)=(usC L).drop (k*20):=(Td Us.cells L (λ u _=>u.cells_length) k).symm
theorem R9 (u:Us):usC [u]=u.cells:=by simp [usC]
def Fi (L:List Us):Prop:=L.Pairwise λ x y=>Jp x.name y.name<0
theorem Fi.at {L:List Us} (h:Fi L) {i j:Nat} (hij:i<j) (hj:j<L.length):Jp (L[i]'(by omega)).name L[j].name<0:=List.pairwise_iff_getElem.1 h i j (by omega) hj hij
def Ha (L:List Us) (s:ByteArray):Nat:=(L.takeWhile λ u=>decide (Jp u.name s<0)).length
theorem A0Z:∀ {L:List Us} {s:ByteArray} {i:Nat},i<=L.length->(∀k (h:k<L.length),k<i->Jp L[k].name s<0)->(∀h:i<L.length,¬Jp L[i].name s<0)->Ha L s=i
  | [],s,i,hi,_,_=>by simp at hi; simp [Ha,hi]
  | u::L,s,0,_,_,h2=>by
    have:=h2 (by simp);simp only [aX] at this;simp [Ha,aY,this]
  | u::L,s,i+1,hi,h1,h2=>by
    have:=h1 0 (by simp) (by omega);simp only [aX] at this;have ih:=A0Z (L:=L) (s:=s) (i:=i) (by simpa using hi) (λ k h hk=>h1 (k+1) (by simpa using h) (by omega)) (λ h=>h2 (by simpa using h));rw [Ha,aY,if_pos (by simpa using this),List.length_cons,<-Ha,ih]
theorem A1a (L:List Us) (s:ByteArray):Ha L s<=L.length:=(List.takeWhile_prefix _).length_le
def Mx (L:List Us) (s:ByteArray):Bool:=match L[Ha L s]? with | some u=>decide (Jp u.name s=0) | none=>false
theorem A1r {L:List Us} {s:ByteArray} (h:Mx L s=true):∃hk:Ha L s<L.length,L[Ha L s].name=s:=by
  unfold Mx at h;split at h
  · next u hu=>
    obtain ⟨hk,he⟩:=List.getElem?_eq_some_iff.1 hu;exact ⟨hk,by rw [he]; exact A3w (by simpa using h)⟩
  · cases h
def A3A (L:List Us) (u:Us):List Us:=L.take (Ha L u.name)++u::L.drop (Ha L u.name)
theorem Ot:A9 aA 154 20:=A9.mk aZ rfl (by kernel_rfl)
def zsU:List bH:=.string .empty::(List.replicate 16 (.int .u8 0)++ [.int .i64 0,.int .i64 0,.bool false])
theorem Wq:C5 aA 231 154 20 56 (.agg zsU.toArray):=by
  refine C5.mk aC ?_ rfl (by decide)
  kernel_rfl
end Go.Proofs.YtbmjjfhpllpiaaaGreat
namespace Go.Proofs.YtbmjjfhpllpiaaaGreat
open Go.RowKit
theorem Sq (a b:ByteArray) (w:bI): bK aA 131 #[.string a,.string b] w λ e w'=>e=.returned (.int .i64 (Jp a b))/\w=w':=by
  go_enter Tryz.func131,Tryz.ntmps131;go_wp2_with fail;rw [run_callFunc_extern Tryz.func149 (by kernel_rfl) (by kernel_rfl) (by kernel_rfl) (e:=Extern.BytealgCompare.compare) (by kernel_rfl),Lib.run_compareString];simp only [Result.andThen];rw [bN.upon_value];go_wp2_with fail;go_ret;exact ⟨rfl,rfl⟩
theorem Wd (a b:ByteArray) (w:bI): bK aA 115 #[.string a,.string b] w λ e w'=>e=.returned (.int .i64 (Jp a b))/\w=w':=by
  go_enter Tryz.func115,Tryz.ntmps115;go_wp2_with fail;refine (Sq a b w).mono ?_;rintro e w1 ⟨rfl,rfl⟩;go_wp2_with fail;go_ret;exact ⟨rfl,rfl⟩
theorem Rl (u:Us) (s:ByteArray) (w:bI): bK aA 114 #[.agg u.cells.toArray,.string s] w λ e w'=>e=.returned (.int .i64 (Jp u.name s))/\Below w.heap.size w w':=by
  have c0:(w.alloc (.cells u.cells.toArray 154)).cell? ⟨w.heap.size,0,none⟩=some (.string u.name):=(Blk.new w u.cells 154).cell 0;go_enter Tryz.func114,Tryz.ntmps114;go_wp2_with fail;refine (Wd u.name s _).mono ?_;rintro e w1 ⟨rfl,rfl⟩;go_wp2_with fail;go_ret;exact ⟨rfl,(Below.refl _ _).alloc (aB _) _⟩
theorem Oi {w w':bI} {b o n c:Nat} {L:List Us} (h:Sl w 20 (.slice (some ⟨b,o,none⟩) n c) n (usC L)) (hb:Below w.heap.size w w') (k:Nat) (hk:k<L.length):Al w' b (o+k*20) L[k].cells:=by
  obtain ⟨b',o',he,hcell⟩:=h.addr (by rw [D9]; omega);simp only [Option.some.injEq,Addr.mk.injEq,and_true] at he;obtain ⟨rfl,rfl⟩:=he;intro j u hj;have hj':j<20:=by rw [<-L[k].cells_length]; exact (List.getElem?_eq_some_iff.1 hj).1
  have:=hcell (k*20+j) u (by rw [A5g L k j hk hj']; exact hj);rw [Nat.add_assoc];exact Bc hb this
theorem A4M (v:bH) (L:List Us) (s:ByteArray) (w:bI) (h:Sl w 20 v L.length (usC L)) (hs:Fi L) (hl:L.length<=1000): bK aA 113 #[v,.string s,.func (.func 114) #[] #[]] w λ e w'=> e=.returned (.tuple #[.int .i64 (Ha L s),.bool (Mx L s)])/\Below w.heap.size w w':=by
  obtain ⟨a,c,rfl,hc,hm⟩:=h.form;unfold maxLen at hm;have HSL:=hqZ h;have HS:=hqZ hs;clear h hs;go_enter Tryz.func113,Tryz.ntmps113;go_wp2_with fail;go_loopw [9,10] (λ iv jv wr=>∃i j:Nat,iv=.int .i64 i/\jv=.int .i64 j/\i<=j/\j<=L.length/\(∀k (hk:k<L.length),k<i->Jp L[k].name s<0)/\(∀k (hk:k<L.length),j<=k->0<=Jp L[k].name s)/\Below w.heap.size w wr) (λ i j _=>(intOf j).toNat- (intOf i).toNat)
  case atStart=>exact ⟨0,L.length,rfl,rfl,aP _,aB _,λ k _ h=>by omega,λ k h h'=>by omega,Below.refl _ _⟩
  case round=>
    obtain ⟨i,j,rfl,rfl,hij,hjl,hlo,hhi,hB⟩:=hrel;have HLO:=hqZ hlo;have HHI:=hqZ hhi;have HB:=hqZ hB;clear hlo hhi hB;by_cases hlt:i<j
    · obtain ⟨bl,ol,rfl,_⟩:=HSL.o.addr (by rw [D9]; omega);go_upto_region 5 with fail;obtain ⟨m,hmid⟩:∃m:Nat,((i:Int)+j) / 2=m:=⟨(i+j) / 2,by omega⟩
      rw [hmid];have hmi:i<=m:=by omega
      have hmj:m<j:=by omega
      have hml:m<L.length:=by omega
      have HCE:=hqZ (Oi HSL.o HB.o m hml);obtain ⟨u,hu⟩:∃u,u=L[m]:=⟨_,rfl⟩
      rw [<-hu] at HCE;have HU:=hqZ hu;clear hu hmid;go_wp2_with ((with_reducible refine zw 28 ?_);refine Ag rfl (.tmp 27) Ot rfl rfl (cs:=u.cells) u.cells_length HCE.o ?_);refine (Rl u s wr).mono ?_;rintro e w1 ⟨rfl,hb⟩;have HB1:=hqZ (HB.o.trans (hb.mono HB.o.size));clear hb;by_cases hcm:Jp u.name s<0
      · have HCM:=hqZ hcm;go_wp2_with fail;go_roundw
        case rel=>exact ⟨m+1,j,by go_num,rfl,by omega,hjl,λ k hk hlt=>by
          rcases Nat.lt_or_ge k m with h | h
          · exact Qm (HS.o.at h hml) (by rw [<-HU.o]; exact HCM.o)
          · have h':k=m:=by omega
            subst h';rw [<-HU.o]; exact HCM.o,HHI.o,HB1.o⟩
        case measure=>simp [intOf]; omega
      · have HCM:=hqZ hcm;go_wp2_with fail;go_roundw
        case rel=>exact ⟨i,m,rfl,rfl,hmi,by omega,HLO.o,λ k hk hle=>by
          have h0:0<=Jp u.name s:=HCM.o;rcases bA hle with h' | h'
          · subst h';rw [<-HU.o]; exact h0
          · apply Int.not_lt.1;intro h;exact Int.not_lt.2 h0 (by rw [HU.o]; exact Qm (HS.o.at h' hk) h),HB1.o⟩
        case measure=>simp [intOf]; omega
    · obtain rfl:i=j:=by omega
      have hp:Ha L s=i:=A0Z hjl HLO.o (λ h=>Int.not_lt.2 (HHI.o i h (aB _)));have HP:=hqZ hp;clear hp;by_cases hil:i<L.length
      · have hil':(i:Int)<L.length:=by omega
        obtain ⟨bl,ol,rfl,_⟩:=HSL.o.addr (by rw [D9]; omega);have HCE:=hqZ (Oi HSL.o HB.o i hil);obtain ⟨u,hu⟩:∃u,u=L[i]:=⟨_,rfl⟩
        rw [<-hu] at HCE;have HH:Hq (Mx L s=(Jp u.name s==0)):=hqZ (by
          unfold Mx;rw [HP.o,bB hil,hu]
          rfl)
        clear hu;go_wp2_with ((with_reducible refine zw 44 ?_);refine Ag rfl (.tmp 43) Ot rfl rfl (cs:=u.cells) u.cells_length HCE.o ?_);refine (Rl u s wr).mono ?_;rintro e w1 ⟨rfl,hb⟩;have HB1:=hqZ (HB.o.trans (hb.mono HB.o.size));clear hb;go_wp2_with fail;go_ret2;rw [HP.o,HH.o];exact ⟨rfl,HB1.o⟩
      · have hil':¬(i:Int)<L.length:=by omega
        have HH:Hq (Mx L s=false):=hqZ (by
          unfold Mx;rw [HP.o,List.getElem?_eq_none (by omega)])
        go_wp2_with fail;go_ret2;rw [HP.o,HH.o];exact ⟨rfl,HB.o⟩
def Bq (p:Nat) (L:List Us):Res:=.ex λ v=>.all [.blk p [v] 233,.own 154 20 v L.length (usC L)]
theorem L3 {W:bI} {p:Nat} {L:List Us} {l:List Res} (h:Ac W (Bq p L::l)): ∃a c,L.length<=c/\c<=maxLen/\Ac W (.blk p [.slice a L.length c] 233::.own 154 20 (.slice a L.length c) L.length (usC L)::l):=by
  obtain ⟨v,h⟩:=Ac.ex.1 h;have h:=Ac.app.1 h;obtain ⟨a,c,rfl,h1,h2⟩:=(h.ownOf (e:=154) (sz:=20) (v:=v) (n:=L.length) (cs:=usC L) (by simp)).1.sl.form;exact ⟨a,c,h1,h2,h⟩
theorem Qj {W:bI} {p:Nat} {L:List Us} {v:bH} {l:List Res} (h:Ac W (.blk p [v] 233::.own 154 20 v L.length (usC L)::l)):Ac W (Bq p L::l):=
  Ac.ex.2 ⟨v,Ac.app.2 h⟩
theorem To (p:Nat) (L:List Us) (s:ByteArray) (l:List Res) (w:bI) (h:Ac w (Bq p L::l)) (hs:Fi L) (hl:L.length<=1000): bK aA 95 #[.pointer (some ⟨p,0,none⟩),.string s] w λ e w'=>e=.returned (.tuple #[.int .i64 (Ha L s),.bool (Mx L s)])/\Below w.heap.size w w':=by
  obtain ⟨a,c,hc,hm,h⟩:=L3 h;have c0:w.cell? ⟨p,0,none⟩=some (.slice a L.length c):=(h.blkOf (aI)).cell 0;have hsl:=(h.ownOf (e:=154) (sz:=20) (v:=.slice a L.length c) (n:=L.length) (cs:=usC L) (by simp)).1.sl;have HB:=hqZ (A4M _ L s w hsl hs hl);clear h hsl hs;go_enter Tryz.func95,Tryz.ntmps95;go_wp2_with fail;refine HB.o.mono ?_;rintro e w1 ⟨rfl,hb⟩;go_wp2_with fail;go_ret2;exact ⟨rfl,hb⟩
theorem A1g {P:bM} {w:bI} {dT sT ty e:bJ} {sz bytes:Nat} {z:bH} (hE:C5 P dT e sz bytes z) {g o dLen dCap:Nat} {cur:List bH} {T:bJ} (hb:Blk w g cur T) {a:Addr} {n cap:Nat} {cs:List bH} (hcs:cs.length=min n dLen*sz) (hc1:∀u∈cs,u.oneCell'=true) (hsrc:∀j u,cs[j]?=some u->w.cell? (a.add j)=some u) (hfit:o+cs.length<=cur.length): (Builtin.copy_ #[dT,sT] ty #[.slice (some ⟨g,o,none⟩) dLen dCap,.slice (some a) n cap]).run P w=.ok (.int .i64 (min n dLen:Nat)) (w.setRow g (cur.take o++cs++cur.drop (o+cs.length)).toArray):=by
  obtain ⟨ht,i,hi,hz,hsize,hby,hzs,hsz⟩:=hE;have hl:=run_loadCells_list (P:=P) w a cs hsrc;have hst:=run_storeCells_at P g o T cs 0 cur.toArray w hb (by simpa using hfit) hc1;have hm:Nat.min n dLen*sz=cs.length:=hcs.symm;simp [Builtin.copy_,run_underlying ht,Builtin.lenOf,Builtin.firstCells,sizeOf,typeInfo,hi,hsize,hm,hl,hst,goInt]
theorem Uk {w:bI} {g:Nat} {cur:List bH} {T:bJ} (hb:Blk w g cur T) (cs:List bH):Blk (w.setRow g cs.toArray) g cs T/\Ai (λ k=>k=g) w (w.setRow g cs.toArray):=by
  refine ⟨?_,Ai.oneRow _ _ _⟩;unfold Blk;rw [setRow_heap w g cur.toArray _ T _ hb]
theorem Sc {P:bM} {w:bI} {ops:Array bN} {rest:List bN} {o:bN} {a:Act} {Q:Exit->Act->bI->Prop} (hgd:Region.wanted o (yielded ops a.tmps)=true) (d s:Operand) {dT sT e:bJ} {sz bytes:Nat} {z:bH} (hE:C5 P dT e sz bytes z) (ho:o.op=.call { callee:=.builtin .copy,args:=#[d,s],argTypes:=#[dT,sT] }) {g off dLen dCap:Nat} (hd:a.eval d=.slice (some ⟨g,off,none⟩) dLen dCap) {cur:List bH} {T:bJ} (hb:Blk w g cur T) {ad:Addr} {n cap:Nat} (hu:a.eval s=.slice (some ad) n cap) {cs:List bH} (hcs:cs.length=min n dLen*sz) (hc1:∀u∈cs,u.oneCell'=true) (hsrc:∀j u,cs[j]?=some u->w.cell? (ad.add j)=some u) (hfit:off+cs.length<=cur.length) (h:∀w',Blk w' g (cur.take off++cs++cur.drop (off+cs.length)) T->Ai (λ k=>k=g) w w'->wpList P ops Q rest (a.put o.dst (.int .i64 (min n dLen:Nat))) w'):wpList P ops Q (o::rest) a w:=by
  have hr:=A1g (P:=P) (sT:=sT) (ty:=o.type) (dCap:=dCap) (cap:=cap) hE hb hcs hc1 hsrc hfit;refine By hgd λ K hK=>?_
  unfold bN.wp execOp;simp only [ho,resolve,invoke,builtin,Sem.run_bind,Sem.run_pure,Result.andThen_ok,aQ,bC,aR,hd,hu,hr];exact hK _ _ (h _ (Uk hb _).1 (Uk hb _).2)
theorem Yc {P:bM} {ops:Array bN} {o:bN} {a:Act} {w:bI} {K:Act->bI->Prop} {Q:Exit->Act->bI->Prop} {E:Prop} (hgd:o.guard=none) (d s:Operand) {dT sT e:bJ} {sz bytes:Nat} {z:bH} (hE:C5 P dT e sz bytes z) (ho:o.op=.call { callee:=.builtin .copy,args:=#[d,s],argTypes:=#[dT,sT] }) {g off dLen dCap:Nat} (hd:a.eval d=.slice (some ⟨g,off,none⟩) dLen dCap) {cur:List bH} {T:bJ} (hb:Blk w g cur T) {ad:Addr} {n cap:Nat} (hu:a.eval s=.slice (some ad) n cap) {cs:List bH} (hcs:cs.length=min n dLen*sz) (hc1:∀u∈cs,u.oneCell'=true) (hsrc:∀j u,cs[j]?=some u->w.cell? (ad.add j)=some u) (hfit:off+cs.length<=cur.length) (h:∀w',Blk w' g (cur.take off++cs++cur.drop (off+cs.length)) T->Ai (λ k=>k=g) w w'->K (a.put o.dst (.int .i64 (min n dLen:Nat))) w'): if Region.wanted o (yielded ops a.tmps)=true then bN.wp P o a w K Q else E:=by
  have hw:Region.wanted o (yielded ops a.tmps)=true:=by simp [Region.wanted,hgd]
  rw [if_pos hw];have hr:=A1g (P:=P) (sT:=sT) (ty:=o.type) (dCap:=dCap) (cap:=cap) hE hb hcs hc1 hsrc hfit;unfold bN.wp execOp;simp only [ho,resolve,invoke,builtin,Sem.run_bind,Sem.run_pure,Result.andThen_ok,aQ,bC,aR,hd,hu,hr];exact h _ (Uk hb _).1 (Uk hb _).2
theorem Lz (z:Array bH) (n:Nat):(Builtin.zeroCells z n).toList.length=n*z.size:=by simp [Builtin.zeroCells]
theorem Hp {P:bM} {o:bN} {a:Act} {W:bI} {t:bJ} {x:Operand} {lo hi mx:Option Operand} (ho:o.op=.slice t x lo hi mx) {v:bH} (hr:(Instr.sliceAt t (a.eval x) (lo.map a.eval) (hi.map a.eval) (mx.map a.eval)).run P W=.ok v W): (execOp a.eval o).run P W=.ok (.value v) W:=by
  unfold execOp;simp only [ho,Sem.run_bind,Sem.run_pure,hr,Result.andThen_ok]
theorem Ac.ownBlk {W:bI} {l:List Res} {e:bJ} {sz n:Nat} {v:bH} {cs:List bH} (h:Ac W (.own e sz v n cs::l)) (hn:0<n): ∃(g cap:Nat) (cur:List bH),v=.slice (some ⟨g,0,none⟩) n cap/\n<=cap/\cap<=maxLen/\cur.length=cap*sz/\cur.take (n*sz)=cs/\Ac W (.blk g cur e::l):=by
  obtain ⟨⟨hl,h1,⟨a,rfl,rfl⟩ | ⟨g,cap,cur,rfl,hB,hr,hnc,hcm,hsz,htk⟩⟩,hlt⟩:=h.ownOf (aI)
  · omega
  · refine ⟨g,cap,cur.toList,rfl,hnc,hcm,by simpa using hsz,htk,?_⟩;refine h.weaken λ F hF=>⟨λ b=>b=g,⟨by simpa [Blk] using hr,λ b=>Iff.rfl⟩,λ b hb=>?_⟩
    subst hb;exact (hF.2.2 _).2 rfl
theorem Ac.blkOwn {W:bI} {l:List Res} {e:bJ} {g:Nat} {cur:List bH} (h:Ac W (.blk g cur e::l)) (sz n cap:Nat) (hc:cur.length=cap*sz) (hn:n<=cap) (hm:cap<=maxLen) {cs:List bH} (ht:cur.take (n*sz)=cs) (h1:∀u∈cs,u.oneCell'=true): Ac W (.own e sz (.slice (some ⟨g,0,none⟩) n cap) n cs::l):=by
  have hmul:n*sz<=cap*sz:=bD _ hn;refine h.weaken λ F hF=>⟨λ b=>b=g,⟨⟨by rw [<-ht,aD]; omega,h1,.inr ⟨g,cap,cur.toArray,rfl,aP _,hF.1,hn,hm,by simpa using hc,by simpa using ht⟩⟩,λ b hb=>?_,λ b=>?_⟩,λ b hb=>(hF.2 b).2 hb⟩
  · simp [bH.ownBlock] at hb;subst hb;exact hF.1.lt
  · simp only [bH.ownBlock];exact ⟨λ h=>by rw [h],λ h=>by simpa using h.symm⟩
theorem Ac.blkTurn {W W':bI} {l:List Res} {g:Nat} {cur cur':List bH} {T:bJ} (h:Ac W (.blk g cur T::l)) (hb:Blk W' g cur' T) (hk:Ai (λ k=>k=g) W W'):Ac W' (.blk g cur' T::l):=
  h.turn λ F hF=>⟨F,⟨hb,hF.2⟩,λ b hb=>.inl hb,hk.mono λ k hk=>.inl ((hF.2 k).2 hk)⟩
theorem A4o:∀c∈(bH.agg zsU.toArray).cells.toList,c.oneCell'=true:=by decide
theorem szU (w:bI):(sizeOf 154).run aA w=.ok 20 w:=by kernel_rfl
theorem Vm {w:bI} {g cap:Nat} {cur:List bH} (hb:Blk w g cur 154) {L:List Us} (htk:cur.take (L.length*20)=usC L) (i:Nat) (hi:i<=L.length) (hcap:L.length<=cap): ∃ad,Ij g cap i 20=some ad/\∀j u,(usC (L.drop i))[j]?=some u->w.cell? (ad.add j)=some u:=by
  unfold Ij;by_cases hc:cap=i
  · exact ⟨_,if_pos hc,λ j u hj=>by rw [aO (by omega)] at hj; simp [usC] at hj⟩
  · refine ⟨_,if_neg hc,λ j u hj=>?_⟩;rw [Addr.add_lit,hb.cell];rw [A3m,<-htk,List.getElem?_drop,aS] at hj;split at hj
    · exact hj
    · cases hj
theorem Ve {a:Option Addr} {n cap i:Nat} (hi:i<=n) (hc:n<=cap) (ha:a=none->cap=0) (W:bI):∃X,(Instr.sliceAt 231 (.slice a n cap) (some (.int .i64 i)) none none).run aA W=.ok X W:=by
  have h2:¬((i:Int)<0):=by omega
  have h3:¬(n<i):=by omega
  cases a with
  | none=>
    have hc0:=ha rfl;subst hc0;obtain rfl:n=0:=by omega
    obtain rfl:i=0:=by omega
    exact ⟨_,by simp [Instr.sliceAt,Instr.slice,Instr.sliceBounds,Instr.sliceBound,run_underlying aC,asIntOf,szU]; rfl⟩
  | some ad=>exact ⟨_,by simp [Instr.sliceAt,Instr.slice,Instr.sliceBounds,Instr.sliceBound,run_underlying aC,asIntOf,szU,h2,h3,hi]; rfl⟩
theorem Blk.slZ {w:bI} {g sz:Nat} {cs:List bH} {T:bJ} (h:Blk w g cs T) (hl:cs.length=sz) (h1:∀u∈cs,u.oneCell'=true):Sl w sz (.slice (some ⟨g,0,none⟩) 1 1) 1 cs:=
  ⟨by omega,h1,_,1,rfl,aB _,by unfold maxLen; decide,λ h=>by simp at h,.inr ⟨g,0,rfl,λ j u hj=>by rw [aN,h.cell]; exact hj⟩⟩
theorem Zx {w:bI} {g cap i k n:Nat} {cur:List bH} {L:List Us} (hb:Blk w g cur 154) (hn:L.length=n) (htk:cur.take (n*20)=usC L) (hi:i<=n) (hik:i+k=n+1) (hk:0<k) (hg:cap<n+1) (hl:n<=1000): ∃(gc:Nat) (zs:List bH),n+1<=gc/\gc<=maxLen/\zs.length=(gc-i)*20/\∀ty,(Builtin.append_ #[231,3] ty #[.slice (some ⟨g,0,none⟩) i cap,.int .i64 k]).run aA w= .ok (.slice (some ⟨w.heap.size,0,none⟩) (n+1) gc) (w.drew.alloc (.cells (usC (L.take i)++zs).toArray 154)):=by
  obtain ⟨ht,ie,hie,hz,hsize,hby,hzs,hsz⟩:=Wq;have hge:=grownCap_ge w (i+k) cap 154;have hle:=grownCap_le_maxLen w (i+k) cap 154 (by unfold maxLen; omega);have hnx:=nextslicecap_le (need:=i+k) (old:=cap) (by omega);have hl1:(usC (L.take i)).length=i*20:=by rw [D9,aD]; congr 1; omega
  have hold:=run_firstCells_some (P:=aA) w.drew ie.size i ⟨g,0,none⟩ i cap (usC (L.take i)) (by rw [hsize]; exact hl1) (λ j u hj=>by
    rw [Addr.add_lit,aN,hb.drew.cell];rw [Yv,<-htk,aS] at hj;split at hj
    · rw [aS] at hj;split at hj
      · exact hj
      · cases hj
    · cases hj)
  have hr:=λ ty=>Lib.run_append_grow_zeros (P:=aA) w 231 3 ty 154 ie _ .i64 .i64 ht Tryz.underlying3 hie hz (some ⟨g,0,none⟩) i cap (usC (L.take i)) hold k hk (by rw [hsize]; decide) (by omega) (by omega) (by rw [hby]; omega) (by
    rw [hby]
    have:Builtin.nextslicecap (i+k) cap*56<=(2*(i+k))*56:=bD _ hnx
    omega)
  rw [hik] at hr hge hle;refine ⟨_,(Builtin.zeroCells (bH.agg zsU.toArray).cells k).toList++(Builtin.zeroCells (bH.agg zsU.toArray).cells (grownCap w (n+1) cap 154- (n+1))).toList,hge,hle,?_,λ ty=>?_⟩
  · rw [aE,Lz,Lz,hzs];omega
  · rw [hr ty];congr 3;rw [List.append_toArray,<-aJ];simp
theorem Ac.blk_ne {W:bI} {g q:Nat} {c c':List bH} {T T':bJ} {l:List Res} (h:Ac W (.blk g c T::.blk q c' T'::l)):g≠q:=by
  rintro rfl;obtain ⟨F1,F2,h1,h2,h3⟩:=Ac.cons.1 h;obtain ⟨G1,G2,k1,k2,_,k3⟩:=h2;exact h3 g ((h1.2 g).2 rfl) (by first | exact (k3 g).2 (.inl ((k1.2 g).2 rfl)) | exact k3 g ((k1.2 g).2 rfl))
theorem Tx {w:bI} {g:Nat} {cur:List bH} {T:bJ} (hb:Blk w g cur T):w.shape? g=some (T,cur.length):=by
  have h:w.heap[g]?=_:=hb;simp [bI.shape?,h]
theorem Zz (v:bH) (L:List Us) (u:Us) (gq:Nat) (l:List Res) (w:bI) (h:Ac w (.own 154 20 v L.length (usC L)::.blk gq u.cells 154::l)) (hl:L.length<=1000): bK aA 97 #[v,.int .i64 L.length,.slice (some ⟨gq,0,none⟩) 1 1] w λ e w'=>∃v',e=.returned v'/\Ac w' (.own 154 20 v' (L.length+1) (usC (L++ [u]))::.blk gq u.cells 154::l):=by
  have hown:=h.ownOf (aI);obtain ⟨a,cap,rfl,hc,hm⟩:=hown.1.sl.form;have ha:a=none->cap=0:=by
    rintro rfl;obtain ⟨_,_,⟨_,h1,h2⟩ | ⟨g,c,cur,h1,_⟩⟩:=hown.1
    · simp at h1; omega
    · simp at h1
  have hx:=λ W=>Ve (a:=a) (i:=L.length) (aB _) hc ha W
  obtain ⟨X,hX⟩:∃X:bI->bH,∀W,(Instr.sliceAt 231 (.slice a L.length cap) (some (.int .i64 L.length)) none none).run aA W=.ok (X W) W:=⟨λ W=>(hx W).choose,λ W=>(hx W).choose_spec⟩
  have HOWN:=hqZ hown;have HSL:=hqZ ((h.zB gq).slZ u.cells_length u.cells_one);have HC:=hqZ h;unfold maxLen at hm;clear h hown ha hx;go_enter aT,aU;go_wp2_with ((with_reducible refine zw 25 ?_);refine Do rfl (.tmp 23) (.tmp 24) Wq rfl 0 HOWN.o.1 HOWN.o.2 HSL.o (by unfold maxLen; omega) (by omega) (aP _) ?_);intro v' w' h1 h2 h3;have HD:=hqZ (HC.o.append (B:=0) h1 (h2.mono λ k h=>by simpa using h) (λ k h=>by simpa using h3 k h));clear h1 h2 h3;go_wp2_with fail;go_ret;refine ⟨v',rfl,?_⟩;rw [Ib,R9];exact HD.o
theorem W4 (L:List Us) (u:Us) (i g gq cap:Nat) (cur:List bH) (l:List Res) (w:bI) (h:Ac w (.blk g cur 154::.blk gq u.cells 154::l)) (hcl:cur.length=cap*20) (htk:cur.take (L.length*20)=usC L) (hcm:cap<=maxLen) (hi:i<L.length) (hroom:L.length+1<=cap) (hl:L.length<=1000): bK aA 97 #[.slice (some ⟨g,0,none⟩) L.length cap,.int .i64 i,.slice (some ⟨gq,0,none⟩) 1 1] w λ e w'=>∃v',e=.returned v'/\Ac w' (.own 154 20 v' (L.length+1) (usC (L.take i++u::L.drop i))::.blk gq u.cells 154::l):=by
  obtain ⟨n,hn⟩:∃n,n=L.length:=⟨_,rfl⟩
  have hb:=h.zB g;have hbq:=h.zB gq;have hne:gq≠g:=h.blk_ne.symm;have HC:=hqZ h;have HTK:=hqZ htk;have HCL:=hqZ hcl;have HCM:=hqZ hcm;obtain ⟨ad,had,hsrc⟩:=Vm (cap:=cap) hb htk i (by omega) (by omega);have hcn:¬cap=i:=by omega
  simp only [Ij,if_neg hcn,Option.some.injEq] at had;subst had;have HSRC:=hqZ hsrc;have HB:=hqZ hb;have HBQ:=hqZ hbq;rw [<-hn] at hi hroom hl ⊢;have f0:∀W,(Instr.sliceAt 231 (.slice (some ⟨g,0,none⟩) n cap) (some (.int .i64 i)) none none).run aA W=.ok (.slice (some ⟨g,i*20,none⟩) (n-i) (cap-i)) W:=λ W=>by
    have:=Gd (P:=aA) aC szU g n cap i (by omega) (by omega) W;rw [Ij,if_neg hcn] at this;exact this
  have f1:∀W,(Instr.sliceAt 231 (.slice (some ⟨g,0,none⟩) n cap) none (some (.int .i64 ((n:Int)+1))) none).run aA W=.ok (.slice (some ⟨g,0,none⟩) (n+1) cap) W:=λ W=>Rr (P:=aA) aC szU g n cap (n+1) (by omega) W
  have f2:∀W,(Instr.sliceAt 231 (.slice (some ⟨g,0,none⟩) (n+1) cap) (some (.int .i64 ((i:Int)+1))) none none).run aA W=.ok (.slice (some ⟨g,(i+1)*20,none⟩) (n-i) (cap- (i+1))) W:=λ W=>by
    have:=Gd (P:=aA) aC szU g (n+1) cap (i+1) (by omega) (by omega) W;rw [Ij,if_neg (by omega),show n+1- (i+1)=n-i by omega] at this;exact this
  have f3:∀W,(Instr.sliceAt 231 (.slice (some ⟨g,0,none⟩) (n+1) cap) (some (.int .i64 i)) none none).run aA W=.ok (.slice (some ⟨g,i*20,none⟩) (n+1-i) (cap-i)) W:=λ W=>by
    have:=Gd (P:=aA) aC szU g (n+1) cap i (by omega) (by omega) W;rw [Ij,if_neg hcn] at this;exact this
  have hin:((i:Int)==(n:Int))=false:=by simp; omega
  have hgt:¬((cap:Int)< (n:Int)+1):=by omega
  have F2:=hqZ f2;have F3:=hqZ f3;have hdl:(usC (L.drop i)).length=(n-i)*20:=by rw [D9,aF,<-hn]
  have HDL:=hqZ hdl;have HNE:=hqZ hne;have HN:=hqZ hn;have hov:(Extern.SlicesOverlaps.overlaps #[231,231] #[4] #[.slice (some ⟨gq,0,none⟩) 1 1,.slice (some ⟨g,(i+1)*20,none⟩) (n-i) (cap- (i+1))]).run aA w=.ok (.bool false) w:=
    Lib.run_overlaps_apart w 231 4 154 aC 20 szU ⟨gq,0,none⟩ ⟨g,(i+1)*20,none⟩ 1 1 (n-i) (cap- (i+1)) hne 154 154 _ _ (Tx hbq) (Tx hb) (by rw [hcl]; omega) (hbq.frozen 0) (hbq.frozen _)
  have HOV:=hqZ hov;clear h hb hbq hne htk hcl hcm hsrc hdl hn hov;go_enter aT,aU;go_upto_region 15 with fail;rw [run_callFunc_extern Tryz.func118 (by kernel_rfl) (by kernel_rfl) (by kernel_rfl) (e:=Extern.SlicesOverlaps.overlaps #[231,231] #[4]) (by kernel_rfl),HOV.o];simp only [Result.andThen];rw [bN.upon_value];go_upto_region 15 with fail;refine wp_region_held (S:=λ _:bI=>True) (by kernel_rfl) ?_;change wpAnyH _ _ _ _ _ _ _ _ (bI.drew _);refine zH 0 ?_;refine zH 1 ?_;refine zH 2 ?_;refine zH 3 ?_ (v:=.int .i64 ((i:Int)+1)) (hr:=λ W hW=>by go_simp; rw [bL.wrap_i64]; omega);refine zH 4 ?_ (v:=.slice (some ⟨g,(i+1)*20,none⟩) (n-i) (cap- (i+1))) (hr:=λ W hW=>by exact Hp rfl (F2.o W));refine zH 5 ?_;refine zH 6 ?_;refine zH 7 ?_ (v:=.slice (some ⟨g,i*20,none⟩) (n+1-i) (cap-i)) (hr:=λ W hW=>by exact Hp rfl (F3.o W));refine D0 (rs:= [8]) (by decide+kernel) (by simp) ?_;refine Bk.cons (o:=⟨some 77,.call { callee:=.builtin .copy,args:=#[.tmp 73,.tmp 76],argTypes:=#[231,231] },_,_,_,none⟩) rfl (λ K hK=>?_) Bk.nil;refine Yc rfl (.tmp 73) (.tmp 76) Wq rfl rfl HB.o.drew rfl (cs:=usC (L.drop i)) (by rw [HDL.o]; congr 1; omega) (Qb _) HSRC.o (by rw [HDL.o,HCL.o]; omega) ?_;intro w1 hb1 hk1;have HC1:=hqZ (HC.o.drew.blkTurn hb1 hk1);have HB1:=hqZ hb1;clear hb1 hk1;refine zq hK ?_;clear hK K;refine wpAnyH_done (by decide+kernel) ?_ _;obtain ⟨c1,hc1⟩:∃c1,c1=cur.take ((i+1)*20)++usC (L.drop i)++cur.drop ((i+1)*20+(usC (L.drop i)).length):=⟨_,rfl⟩
  rw [<-hc1] at HC1 HB1;have hc1l:c1.length=cap*20:=by
    rw [hc1];simp only [aE,aD,aF,HDL.o,HCL.o];omega
  have HC1E:=hqZ hc1;have HC1L:=hqZ hc1l;have HBQ1:=hqZ (HC1.o.zB gq);have HONE:Hq ((1:Nat)=min 1 (n+1-i)):=hqZ (by omega);clear hc1 hc1l;go_wp2_with ((with_reducible refine zw 82 ?_);refine Sc rfl (.tmp 80) (.tmp 81) Wq rfl rfl HB1.o rfl (cs:=u.cells) (by rw [u.cells_length,<-HONE.o]) u.cells_one (λ j v hj=>by rw [Addr.add_lit,aN,HBQ1.o.cell]; exact hj) (by rw [u.cells_length,HC1L.o]; omega) ?_);intro w2 h2 k2;have HC2:=HC1.o.blkTurn h2 k2;have hq1:(usC (L.take i)).length=i*20:=by rw [D9,aD,<-HN.o]; congr 1; omega
  have HC3:=HC2.blkOwn 20 (n+1) cap (cs:=usC (L.take i++u::L.drop i)) (by
    simp only [aE,aD,aF,u.cells_length,HC1L.o]
    omega) (by omega) HCM.o (by
    have e1:c1.take (i*20)=usC (L.take i):=by
      rw [HC1E.o,aJ,aK (by rw [aD,HCL.o]; omega),bE,bF (by omega),Yv,<-HTK.o,bE,bF (by rw [<-HN.o]; omega)]
    have e2:(c1.drop (i*20+20)).take ((n-i)*20)=usC (L.drop i):=by
      rw [HC1E.o,aJ,List.drop_append_of_le_length (by rw [aD,HCL.o]; omega),aO (by rw [aD,HCL.o]; omega),List.nil_append,aK (by rw [HDL.o]; omega),aG (by rw [HDL.o]; omega)]
    rw [show u::L.drop i= [u]++L.drop i from rfl,Ib,Ib,R9,u.cells_length,e1,<-e2];try simp only [aJ]
    rw [bG,hq1,aG (by rw [hq1]; omega)];congr 1;rw [bG,u.cells_length,aG (by rw [u.cells_length]; omega)];congr 2
    omega) (Qb _)
  have HC4:=hqZ HC3;clear h2 k2 HC2 HC3;go_wp2_with fail;go_ret;exact ⟨.slice (some ⟨g,0,none⟩) (n+1) cap,rfl,HC4.o⟩
theorem W3 (L:List Us) (u:Us) (i g gq cap:Nat) (cur:List bH) (l:List Res) (w:bI) (h:Ac w (.blk g cur 154::.blk gq u.cells 154::l)) (hcl:cur.length=cap*20) (htk:cur.take (L.length*20)=usC L) (hi:i<L.length) (hfull:¬L.length+1<=cap) (hnc:L.length<=cap) (hl:L.length<=1000): bK aA 97 #[.slice (some ⟨g,0,none⟩) L.length cap,.int .i64 i,.slice (some ⟨gq,0,none⟩) 1 1] w λ e w'=>∃v',e=.returned v'/\Ac w' (.own 154 20 v' (L.length+1) (usC (L.take i++u::L.drop i))::.blk gq u.cells 154::l):=by
  obtain ⟨n,hn⟩:∃n,n=L.length:=⟨_,rfl⟩
  have hb:=h.zB g;have HC:=hqZ h;have HTK:=hqZ htk;have HCL:=hqZ hcl;obtain ⟨ad,had,hsrc⟩:=Vm (cap:=cap) hb htk i (by omega) (by omega);have hcn:¬cap=i:=by omega
  simp only [Ij,if_neg hcn,Option.some.injEq] at had;subst had;have hsrcW:=λ (W:bI) (hb:Blk W g cur 154)=>Vm (w:=W) (cap:=cap) (L:=L) hb HTK.o i (by omega) (by omega)
  have HSRC:Hq (∀W:bI,Blk W g cur 154->∀j v,(usC (L.drop i))[j]?=some v->W.cell? ((⟨g,i*20,none⟩:Addr).add j)=some v):=hqZ (λ W hb=>by
    obtain ⟨ad,h1,h2⟩:=hsrcW W hb;simp only [Ij,if_neg hcn,Option.some.injEq] at h1;subst h1;exact h2)
  rw [<-hn] at hi hfull hnc hl htk ⊢;obtain ⟨k,hik,hk⟩:∃k,i+k=n+1/\0<k:=⟨n+1-i,by omega,by omega⟩
  obtain ⟨gc,zs,hgc,hgm,hzs,happ⟩:=Zx (cap:=cap) hb hn.symm htk (by omega) hik hk (by omega) hl;have HAPP:=hqZ happ;have HZS:=hqZ hzs;have HGM:=hqZ hgm;have hgn:¬gc=i:=by omega
  obtain ⟨g2,hg2⟩:∃g2,g2=w.heap.size:=⟨_,rfl⟩
  have HC1:=hqZ (HC.o.drew.addBlkAt (usC (L.take i)++zs) 154 (b:=g2) hg2.symm);have HAPP:Hq (∀ty,(Builtin.append_ #[231,3] ty #[.slice (some ⟨g,0,none⟩) i cap,.int .i64 k]).run aA w=.ok (.slice (some ⟨g2,0,none⟩) (n+1) gc) (w.drew.alloc (.cells (usC (L.take i)++zs).toArray 154))):=hqZ (by rw [hg2]; exact happ);obtain ⟨w1,hw1⟩:∃w1,w1=w.drew.alloc (.cells (usC (L.take i)++zs).toArray 154):=⟨_,rfl⟩
  rw [<-hw1] at HC1 HAPP;have hki:(n:Int)+1-i=k:=by omega
  have f0:∀W,(Instr.sliceAt 231 (.slice (some ⟨g,0,none⟩) n cap) (some (.int .i64 i)) none none).run aA W=.ok (.slice (some ⟨g,i*20,none⟩) (n-i) (cap-i)) W:=λ W=>by
    have:=Gd (P:=aA) aC szU g n cap i (by omega) (by omega) W;rw [Ij,if_neg hcn] at this;exact this
  have f1:∀W,(Instr.sliceAt 231 (.slice (some ⟨g,0,none⟩) n cap) none (some (.int .i64 i)) none).run aA W=.ok (.slice (some ⟨g,0,none⟩) i cap) W:=λ W=>Rr (P:=aA) aC szU g n cap i (by omega) W
  have f2:∀W,(Instr.sliceAt 231 (.slice (some ⟨g2,0,none⟩) (n+1) gc) (some (.int .i64 i)) none none).run aA W=.ok (.slice (some ⟨g2,i*20,none⟩) (n+1-i) (gc-i)) W:=λ W=>by
    have:=Gd (P:=aA) aC szU g2 (n+1) gc i (by omega) (by omega) W;rw [Ij,if_neg hgn] at this;exact this
  have f3:∀W,(Instr.sliceAt 231 (.slice (some ⟨g2,0,none⟩) (n+1) gc) (some (.int .i64 ((i:Int)+1))) none none).run aA W=.ok (.slice (some ⟨g2,(i+1)*20,none⟩) (n-i) (gc- (i+1))) W:=λ W=>by
    have:=Gd (P:=aA) aC szU g2 (n+1) gc (i+1) (by omega) (by omega) W;rw [Ij,if_neg (by omega),show n+1- (i+1)=n-i by omega] at this;exact this
  have F0:=hqZ f0;have F3:=hqZ f3;have hin:((i:Int)==(n:Int))=false:=by simp; omega
  have hgt:(cap:Int)< (n:Int)+1:=by omega
  have hdl:(usC (L.drop i)).length=(n-i)*20:=by rw [D9,aF,<-hn]
  have hq1:(usC (L.take i)).length=i*20:=by rw [D9,aD,<-hn]; congr 1; omega
  have HDL:=hqZ hdl;have HQ1:=hqZ hq1;have HN:=hqZ hn;have HONE:Hq ((1:Nat)=min 1 (n+1-i)):=hqZ (by omega);have HB1:=hqZ (HC1.o.zB g2);have HBQ1:=hqZ (HC1.o.zB gq);have HKI:=hqZ hki;clear h hb htk hcl hsrc hdl hq1 hn happ hzs hgm hg2 hw1 hki hsrcW;go_enter aT,aU;go_wp2_with (first | ((with_reducible refine zw 40 ?_);refine Lib.wpList_append_run w rfl (.tmp 34) (.tmp 39) 231 3 rfl (.slice (some ⟨g,0,none⟩) i cap) (.int .i64 k) rfl (congrArg (bH.int .i64) HKI.o) _ _ (HAPP.o _) ?_) | ((with_reducible refine zw 45 ?_);refine Sc rfl (.tmp 43) (.tmp 44) Wq rfl rfl HB1.o rfl (cs:=u.cells) (by rw [u.cells_length,<-HONE.o]) u.cells_one (λ j v hj=>by rw [Addr.add_lit,aN,HBQ1.o.cell]; exact hj) (by rw [u.cells_length,aE,HQ1.o,HZS.o]; omega) ?_));intro w2 h2 k2;have h2':Blk w2 g2 ((usC (L.take i)++zs).take (i*20)++u.cells++(usC (L.take i)++zs).drop (i*20+u.cells.length)) 154:=by simpa using h2
  have HC2:=hqZ (HC1.o.blkTurn h2' k2);obtain ⟨c2,hc2⟩:∃c2,c2=(usC (L.take i)++zs).take (i*20)++u.cells++(usC (L.take i)++zs).drop (i*20+u.cells.length):=⟨_,rfl⟩
  rw [<-hc2] at HC2;have hc2l:c2.length=gc*20:=by
    rw [hc2];simp only [aE,aD,aF,u.cells_length,HQ1.o,HZS.o];omega
  have hc2t:c2.take ((i+1)*20)=usC (L.take i)++u.cells:=by
    have eA:(usC (L.take i)++zs).take (i*20)=usC (L.take i):=by
      rw [aK (by rw [HQ1.o]; omega),aG (by rw [HQ1.o]; omega)]
    rw [hc2,eA,aK (by rw [aE,u.cells_length,HQ1.o]; omega),aG (by rw [aE,u.cells_length,HQ1.o]; omega)]
  have HC2L:=hqZ hc2l;have HC2T:=hqZ hc2t;have HB2:=hqZ (HC2.o.zB g2);have HBG:=hqZ (HC2.o.zB g);clear h2 h2' k2 hc2 hc2l hc2t;go_upto_region 11 with fail;refine wp_region_held (S:=λ _:bI=>True) (by kernel_rfl) ?_;change wpAnyH _ _ _ _ _ _ _ _ (bI.drew _);refine zH 0 ?_;refine zH 1 ?_;refine zH 2 ?_;refine zH 3 ?_ (v:=.int .i64 ((i:Int)+1)) (hr:=λ W hW=>by go_simp; rw [bL.wrap_i64]; omega);refine zH 4 ?_ (v:=.slice (some ⟨g2,(i+1)*20,none⟩) (n-i) (gc- (i+1))) (hr:=λ W hW=>by exact Hp rfl (F3.o W));refine zH 5 ?_;refine zH 6 ?_;refine zH 7 ?_ (v:=.slice (some ⟨g,i*20,none⟩) (n-i) (cap-i)) (hr:=λ W hW=>by exact Hp rfl (F0.o W));refine D0 (rs:= [8]) (by decide+kernel) (by simp) ?_;refine Bk.cons (o:=⟨some 54,.call { callee:=.builtin .copy,args:=#[.tmp 50,.tmp 53],argTypes:=#[231,231] },_,_,_,none⟩) rfl (λ K hK=>?_) Bk.nil;refine Yc rfl (.tmp 50) (.tmp 53) Wq rfl rfl HB2.o.drew rfl (cs:=usC (L.drop i)) (by rw [HDL.o]; congr 1; omega) (Qb _) (HSRC.o _ HBG.o.drew) (by rw [HDL.o,HC2L.o]; omega) ?_;intro w3 hb3 hk3;have HC3:=hqZ (HC2.o.drew.blkTurn hb3 hk3);clear hb3 hk3;refine zq hK ?_;clear hK K;refine wpAnyH_done (by decide+kernel) ?_ _;have HC4:=HC3.o.blkOwn 20 (n+1) gc (cs:=usC (L.take i++u::L.drop i)) (by
    simp only [aE,aD,aF,HC2L.o,HDL.o]
    omega) hgc HGM.o (by
    rw [HC2T.o,show u::L.drop i= [u]++L.drop i from rfl,Ib,Ib,R9,<-aJ];rw [aK (by simp only [aE,u.cells_length,HQ1.o,HDL.o]; omega),aG (by simp only [aE,u.cells_length,HQ1.o,HDL.o]; omega)]) (Qb _)
  have HC5:=hqZ HC4.swap.tail;clear HC4;go_wp2_with fail;go_ret;exact ⟨.slice (some ⟨g2,0,none⟩) (n+1) gc,rfl,HC5.o⟩
theorem Q3 (v:bH) (L:List Us) (u:Us) (i:Nat) (gq:Nat) (l:List Res) (w:bI) (h:Ac w (.own 154 20 v L.length (usC L)::.blk gq u.cells 154::l)) (hi:i<=L.length) (hl:L.length<=1000): bK aA 97 #[v,.int .i64 i,.slice (some ⟨gq,0,none⟩) 1 1] w λ e w'=>∃v',e=.returned v'/\Ac w' (.own 154 20 v' (L.take i++u::L.drop i).length (usC (L.take i++u::L.drop i))::.blk gq u.cells 154::l):=by
  have hlen:(L.take i++u::L.drop i).length=L.length+1:=by simp; omega
  rw [hlen];rcases bA hi with rfl | hlt
  · rw [List.take_length,List.drop_length];exact Zz v L u gq l w h hl
  · obtain ⟨g,cap,cur,rfl,hnc,hcm,hcl,htk,h⟩:=h.ownBlk (by omega);by_cases hroom:L.length+1<=cap
    · exact W4 L u i g gq cap cur l w h hcl htk hcm hlt hroom hl
    · exact W3 L u i g gq cap cur l w h hcl htk hlt hroom hnc hl
theorem Ou {W:bI} {p n:Nat} {L:List Us} {v:bH} {l:List Res} (hn:n=L.length) (h:Ac W (.blk p [v] 233::.own 154 20 v n (usC L)::l)):Ac W (Bq p L::l):=by
  subst hn;exact Qj h
theorem Ws {P:bM} {o:bN} {a:Act} {W:bI} {ty:bJ} {m b off:Nat} {x:Operand} {cs:List bH} (ho:o.op=.load ty x) (hT:A9 P ty m) (hx:a.eval x=.pointer (some ⟨b,off,none⟩)) (hm:cs.length=m) (hc:Al W b off cs): (execOp a.eval o).run P W=.ok (.value (.agg cs.toArray)) W:=by
  have h:=Eh hT hm hc;unfold execOp;simp only [ho,hx,Instr.loadAt,Instr.sureAddr,Sem.run_bind,Sem.run_pure,Result.andThen_ok,h]
theorem Vw (l:List Res) (w:bI) (h:Ac w l):bK aA 94 #[] w λ e w'=>∃p,e=.returned (.pointer (some ⟨p,0,none⟩))/\Ac w' (Bq p []::l):=by
  have HC:Hq (Ac (w.alloc (.cells #[.slice none 0 0] 233)) (Bq w.heap.size []::l)):=hqZ (Qj (L:= []) ((h.addNil 154 20).addBlk [.slice none 0 0] 233));clear h;go_enter Tryz.func94,Tryz.ntmps94;go_wp2_with fail;go_ret;exact ⟨w.heap.size,rfl,HC.o⟩
def J8 (L:List Us) (u:Us):List Us×Int:=
  if As u.name=false then (L,6) else if u.life<1\/600<u.life\/u.renew<0\/6000<u.renew then (L,7) else if Mx L u.name=true then (L,10) else if L.length=32 then (L,8) else (A3A L u,0)
theorem A3o (p:Nat) (L:List Us) (u:Us) (l:List Res) (w:bI) (h:Ac w (Bq p L::l)) (hs:Fi L) (hl:L.length<=32) (hn:u.name.size<=maxLen): bK aA 53 #[.pointer (some ⟨p,0,none⟩),.agg u.cells.toArray] w λ e w'=>e=.returned (.int .i64 (J8 L u).2)/\Ac w' (Bq p (J8 L u).1::l):=by
  obtain ⟨q,hq⟩:∃q,q=w.heap.size:=⟨_,rfl⟩
  have h1:=hqZ (h.addBlkAt u.cells 154 hq.symm);have HC:Hq (Ac (w.alloc (.cells u.cells.toArray 154)) (Bq p L::.blk q u.cells 154::l)):=hqZ h1.o.swap;have HP:=hqZ (To p L u.name _ _ HC.o hs (by omega));have hbq:=HC.o.zB q;have c0:=hbq.cell 0;rw [u.c0] at c0;have HN:=hqZ hn;have HS:=hqZ hs;clear h h1 hs hn hbq;go_enter Tryz.func53,Tryz.ntmps53;rw [hq] at c0 HC;go_wp2_with fail;rw [<-hq] at c0 HC ⊢;refine HP.o.mono ?_;rintro e w1 ⟨rfl,hb⟩;have HC:=hqZ (HC.o.step (hb.mono (aB _)));have hbq:=HC.o.zB q;have c0:=hbq.cell 0;rw [u.c0] at c0;clear hb HP hbq hq;go_wp2_with fail;refine (Li u.name _ HN.o).mono ?_;rintro e w2 ⟨rfl,hb⟩;have HC:=hqZ (HC.o.step (hb.mono (aB _)));have hbq:=HC.o.zB q;have c17:=hbq.cell 17;have c18:=hbq.cell 18;rw [u.c17] at c17;rw [u.c18] at c18;clear hb hbq c0;obtain ⟨R,hR⟩:∃R,R=As u.name:=⟨_,rfl⟩
  rw [<-hR];have HR:=hqZ hR;clear hR
  cases R with
  | false=>
    have HA:Hq (J8 L u=(L,6)):=hqZ (by rw [J8,if_pos HR.o.symm]);go_wp2_with fail;go_ret;rw [HA.o];exact ⟨rfl,HC.o.swap.tail⟩
  | true=>
    have HR1:Hq (¬As u.name=false):=hqZ (by rw [<-HR.o]; decide);by_cases hbad:u.life<1\/600<u.life\/u.renew<0\/6000<u.renew
    · have HA:Hq (J8 L u=(L,7)):=hqZ (by rw [J8,if_neg HR1.o,if_pos hbad]);have hsp:u.life<1\/(¬u.life<1/\600<u.life)\/(¬u.life<1/\¬600<u.life/\u.renew<0)\/(¬u.life<1/\¬600<u.life/\¬u.renew<0/\6000<u.renew):=by omega
      clear hbad;rcases hsp with h1 | ⟨h1,h2⟩ | ⟨h1,h2,h3⟩ | ⟨h1,h2,h3,h4⟩
      all_goals
        go_wp2_with fail;go_ret;rw [HA.o];exact ⟨rfl,HC.o.swap.tail⟩
    · have h1:¬u.life<1:=by omega
      have h2:¬600<u.life:=by omega
      have h3:¬u.renew<0:=by omega
      have h4:¬6000<u.renew:=by omega
      have HBAD:=hqZ hbad;clear hbad;obtain ⟨B,hB⟩:∃B,B=Mx L u.name:=⟨_,rfl⟩
      rw [<-hB];have HB:=hqZ hB;clear hB
      cases B with
      | true=>
        have HA:Hq (J8 L u=(L,10)):=hqZ (by rw [J8,if_neg HR1.o,if_neg HBAD.o,if_pos HB.o.symm]);go_wp2_with fail;go_ret;rw [HA.o];exact ⟨rfl,HC.o.swap.tail⟩
      | false=>
        have HB1:Hq (¬Mx L u.name=true):=hqZ (by rw [<-HB.o]; decide);obtain ⟨a,c,hc,hm,hop⟩:=L3 HC.o;have HO:=hqZ hop;have hbp:=hop.zB p;have p0:=hbp.cell 0;simp only [aH] at p0;clear hbp hop;by_cases hfull:L.length=32
        · have HA:Hq (J8 L u=(L,8)):=hqZ (by rw [J8,if_neg HR1.o,if_neg HBAD.o,if_neg HB1.o,if_pos hfull]);have hf:((L.length:Int)==32)=true:=by simp; omega
          go_wp2_with fail;go_ret;rw [HA.o];exact ⟨rfl,HC.o.swap.tail⟩
        · have HA:Hq (J8 L u=(A3A L u,0)):=hqZ (by rw [J8,if_neg HR1.o,if_neg HBAD.o,if_neg HB1.o,if_neg hfull]);have hf:((L.length:Int)==32)=false:=by simp; omega
          clear HC;go_upto_region 10 with fail;have HC:=hqZ HO.o.drew;refine wp_region_held (S:=λ W:bI=>Blk W q u.cells 154) (by kernel_rfl) ?_;change wpAnyH _ _ _ _ _ _ _ _ (bI.drew _);refine zH 0 ?_ (hS:=(HC.o.zB q));refine zH 1 ?_ (hS:=(HC.o.zB q));refine zH 2 ?_ (hS:=(HC.o.zB q));refine zH 3 ?_ (hS:=(HC.o.zB q));refine zH 5 ?_ (hS:=(HC.o.zB q));refine zH 6 ?_ (v:=.agg u.cells.toArray) (hr:=λ W hW=>by exact Ws rfl Ot rfl u.cells_length hW.cellsAll) (hS:=(HC.o.zB q));refine D0 (rs:= [4,7]) (by decide+kernel) (by simp) ?_;refine Bk.cons (o:=⟨some 51,.load 231 (.tmp 50),_,_,_,none⟩) rfl (λ K hK=>?_) (Bk.cons (o:=⟨some 54,.buildSlice 231 1 #[(0,.tmp 53)],_,_,_,none⟩) rfl (λ K hK=>?_) Bk.nil)
          · have hkp:=HC.o.zB p;have k0:=hkp.cell 0;simp only [aH] at k0;clear hkp;go_simp;refine hK _ _ (HC.o.zB q) ?_;clear hK K;try go_frame
            refine D0 (rs:= [7]) (by decide+kernel) (by simp) ?_;refine Bk.cons (o:=⟨some 54,.buildSlice 231 1 #[(0,.tmp 53)],_,_,_,none⟩) rfl (λ K hK=>?_) Bk.nil;refine Nk rfl (.tmp 53) Wq rfl rfl (by simpa using u.cells_length) (by decide) ?_;obtain ⟨q2,hq2⟩:∃q2,q2=w2.drew.heap.size:=⟨_,rfl⟩
            have HC:=hqZ (HC.o.addBlkAt u.cells 154 hq2.symm);rw [<-hq2];obtain ⟨w7,hw7⟩:∃w7,w7=w2.drew.alloc (.cells u.cells.toArray 154):=⟨_,rfl⟩
            rw [<-hw7] at HC ⊢;clear hq2 hw7;refine hK _ _ (HC.o.zB q) ?_;clear hK K;try go_frame
            refine D0 (rs:= [8]) (by decide+kernel) (by simp) ?_;refine Bk.cons (o:=⟨some 55,.call { callee:=.value (.func 97),args:=#[.tmp 51,.tmp 52,.tmp 54],argTypes:=#[231,3,231] },_,_,_,none⟩) rfl (λ K hK=>?_) Bk.nil;go_simp;refine (Q3 (.slice a L.length c) L u (Ha L u.name) q2 _ _ (HC.o.front (m:= [_,_,_,_]) (l:=l) [2,0,1,3] 4 (by decide)) (A1a _ _) (by omega)).mono ?_;rintro e w3 ⟨v',rfl,hc⟩;obtain ⟨a3,c3,rfl,_,_⟩:=(hc.ownOf (aI)).1.sl.form;obtain ⟨n3,hn3⟩:∃n3,n3=(L.take (Ha L u.name)++u::L.drop (Ha L u.name)).length:=⟨_,rfl⟩
            rw [<-hn3] at hc ⊢;have HN3:=hqZ hn3;clear hn3;have HC:=hqZ (hc.front (m:= [_,_,_,_]) (l:=l) [2,0,3,1] 4 (by decide));clear hc;refine hK _ _ (HC.o.blkOf (p:=q) (cs:=u.cells) (T:=154) (by simp)) ?_;clear hK K;try go_frame
            refine zH 9 ?_ (v:=.pointer (some ⟨p,0,none⟩)) (hr:=λ W hW=>by go_simp) (hS:=(HC.o.blkOf (p:=q) (cs:=u.cells) (T:=154) (by simp)));refine zH 10 ?_ (v:=.pointer (some ⟨p,0,none⟩)) (hr:=λ W hW=>by go_simp) (hS:=(HC.o.blkOf (p:=q) (cs:=u.cells) (T:=154) (by simp)));refine D0 (rs:= [11]) (by decide+kernel) (by simp) ?_;refine Bk.cons (o:=⟨none,.store 231 (.tmp 57) (.tmp 55),_,_,_,none⟩) rfl (λ K hK=>?_) Bk.nil;have hkp:=HC.o.blkOf (p:=p) (cs:= [.slice a L.length c]) (T:=233) (by simp);have k0:=hkp.cell 0;have kf0:=hkp.frozen 0;simp only [aH] at k0;clear hkp;go_simp;have HC:=hqZ (HC.o.set 0 (.slice a3 n3 c3));refine hK _ _ (HC.o.blkOf (p:=q) (cs:=u.cells) (T:=154) (by simp)) ?_;clear hK K;try go_frame
            refine wpAnyH_done (by decide+kernel) ?_ _;go_wp2_with fail;go_ret;rw [HA.o];have h9:=(HC.o.front (m:= [_,_,_,_]) (l:=l) [2,3,0,1] 4 (by decide)).tail.tail;exact ⟨rfl,Ou (L:=A3A L u) HN3.o h9⟩
          · refine Nk rfl (.tmp 53) Wq rfl rfl (by simpa using u.cells_length) (by decide) ?_;obtain ⟨q2,hq2⟩:∃q2,q2=w2.drew.heap.size:=⟨_,rfl⟩
            have HC:=hqZ (HC.o.addBlkAt u.cells 154 hq2.symm);rw [<-hq2];obtain ⟨w7,hw7⟩:∃w7,w7=w2.drew.alloc (.cells u.cells.toArray 154):=⟨_,rfl⟩
            rw [<-hw7] at HC ⊢;clear hq2 hw7;refine hK _ _ (HC.o.zB q) ?_;clear hK K;try go_frame
            refine D0 (rs:= [4]) (by decide+kernel) (by simp) ?_;refine Bk.cons (o:=⟨some 51,.load 231 (.tmp 50),_,_,_,none⟩) rfl (λ K hK=>?_) Bk.nil;have hkp:=HC.o.zB p;have k0:=hkp.cell 0;simp only [aH] at k0;clear hkp;go_simp;refine hK _ _ (HC.o.zB q) ?_;clear hK K;try go_frame
            refine D0 (rs:= [8]) (by decide+kernel) (by simp) ?_;refine Bk.cons (o:=⟨some 55,.call { callee:=.value (.func 97),args:=#[.tmp 51,.tmp 52,.tmp 54],argTypes:=#[231,3,231] },_,_,_,none⟩) rfl (λ K hK=>?_) Bk.nil;go_simp;refine (Q3 (.slice a L.length c) L u (Ha L u.name) q2 _ _ (HC.o.front (m:= [_,_,_,_]) (l:=l) [2,0,1,3] 4 (by decide)) (A1a _ _) (by omega)).mono ?_;rintro e w3 ⟨v',rfl,hc⟩;obtain ⟨a3,c3,rfl,_,_⟩:=(hc.ownOf (aI)).1.sl.form;obtain ⟨n3,hn3⟩:∃n3,n3=(L.take (Ha L u.name)++u::L.drop (Ha L u.name)).length:=⟨_,rfl⟩
            rw [<-hn3] at hc ⊢;have HN3:=hqZ hn3;clear hn3;have HC:=hqZ (hc.front (m:= [_,_,_,_]) (l:=l) [2,0,3,1] 4 (by decide));clear hc;refine hK _ _ (HC.o.blkOf (p:=q) (cs:=u.cells) (T:=154) (by simp)) ?_;clear hK K;try go_frame
            refine zH 9 ?_ (v:=.pointer (some ⟨p,0,none⟩)) (hr:=λ W hW=>by go_simp) (hS:=(HC.o.blkOf (p:=q) (cs:=u.cells) (T:=154) (by simp)));refine zH 10 ?_ (v:=.pointer (some ⟨p,0,none⟩)) (hr:=λ W hW=>by go_simp) (hS:=(HC.o.blkOf (p:=q) (cs:=u.cells) (T:=154) (by simp)));refine D0 (rs:= [11]) (by decide+kernel) (by simp) ?_;refine Bk.cons (o:=⟨none,.store 231 (.tmp 57) (.tmp 55),_,_,_,none⟩) rfl (λ K hK=>?_) Bk.nil;have hkp:=HC.o.blkOf (p:=p) (cs:= [.slice a L.length c]) (T:=233) (by simp);have k0:=hkp.cell 0;have kf0:=hkp.frozen 0;simp only [aH] at k0;clear hkp;go_simp;have HC:=hqZ (HC.o.set 0 (.slice a3 n3 c3));refine hK _ _ (HC.o.blkOf (p:=q) (cs:=u.cells) (T:=154) (by simp)) ?_;clear hK K;try go_frame
            refine wpAnyH_done (by decide+kernel) ?_ _;go_wp2_with fail;go_ret;rw [HA.o];have h9:=(HC.o.front (m:= [_,_,_,_]) (l:=l) [2,3,0,1] 4 (by decide)).tail.tail;exact ⟨rfl,Ou (L:=A3A L u) HN3.o h9⟩
theorem A1P:Tryz.prog.built 154 []=some zsU.toArray:=by kernel_rfl
theorem Yy {P:bM} {ops:Array bN} {rest:List bN} {o:bN} {a:Act} {w:bI} {Q:Exit->Act->bI->Prop} (hgd:Region.wanted o (yielded ops a.tmps)=true) {ty:bJ} (ho:o.op=.build ty #[]) {cells:Array bH} (hb:P.built ty []=some cells) (h:wpList P ops Q rest (a.put o.dst (.agg cells)) w):wpList P ops Q (o::rest) a w:=by
  refine By hgd λ K hK=>?_
  have hr:=run_build (P:=P) w ty #[] cells hb;unfold bN.wp execOp;simp only [ho,Sem.run_bind,Sem.run_pure,Result.andThen_ok,aQ,aR,hr];exact hK _ _ h
def Qv (L:List Us) (s:ByteArray):List bH:=if Mx L s=true then (match L[Ha L s]? with | some u=>u.cells | none=>zsU) else zsU
def Qx (L:List Us) (s:ByteArray):Int:=if Mx L s=true then 0 else 9
theorem Yu (p:Nat) (L:List Us) (s:ByteArray) (l:List Res) (w:bI) (h:Ac w (Bq p L::l)) (hs:Fi L) (hl:L.length<=32): bK aA 57 #[.pointer (some ⟨p,0,none⟩),.string s] w λ e w'=>e=.returned (.tuple #[.agg (Qv L s).toArray,.int .i64 (Qx L s)])/\Below w.heap.size w w':=by
  obtain ⟨q,hq⟩:∃q,q=w.heap.size:=⟨_,rfl⟩
  have h1:=hqZ (h.addBlkAt zsU 154 hq.symm);have HP:=hqZ (To p L s _ _ h1.o.swap hs (by omega));have hba:Below w.heap.size w (w.alloc (.cells zsU.toArray 154)):=(Below.refl _ _).alloc (aB _) _;have HBA:=hqZ hba;clear h hs hba;go_enter Tryz.func57,Tryz.ntmps57;go_wp2_with fail;rw [<-hq];refine HP.o.mono ?_;rintro e w1 ⟨rfl,hb⟩;have HC1:=hqZ (h1.o.swap.step hb);have HB1:=hqZ (HBA.o.trans (hb.mono HBA.o.size));obtain ⟨a,c,hc,hm,hop⟩:=L3 HC1.o;have HSL:=hqZ (hop.ownOf (e:=154) (sz:=20) (v:=.slice a L.length c) (n:=L.length) (cs:=usC L) (by simp)).1.sl;have HQ:=hqZ (hop.zB q);have hbp:=hop.zB p;have p0:=hbp.cell 0;simp only [aH] at p0;have HQW:=hqZ hq;clear hbp hop hb HP h1 HBA hq;obtain ⟨B,hB⟩:∃B,B=Mx L s:=⟨_,rfl⟩
  rw [<-hB];have HB:=hqZ hB;clear hB
  cases B with
  | false=>
    have HA:Hq (Qv L s=zsU/\Qx L s=9):=hqZ (by unfold Qv Qx; rw [<-HB.o]; exact ⟨rfl,rfl⟩);go_wp2_with (first | ((with_reducible refine zw 16 ?_);refine Yy rfl rfl A1P ?_) | ((with_reducible refine zws 4 16 ?_);refine Af rfl (.tmp 4) (.tmp 16) Ot rfl rfl (vs:=zsU) rfl rfl HQ.o (aB _) A4o ?_));intro w2 h2 k2;have H2:Hq (Blk w2 q zsU 154):=hqZ (by simpa [show zsU.drop 20= [] from rfl] using h2);have HB2:=hqZ (HB1.o.trans (k2.below (λ k hk=>by rw [hk,HQW.o]; exact aB _) |>.mono (aB _)));clear h2 k2;go_wp2_with fail;rw [HA.o.1,HA.o.2];exact bodyPost_ret (Aj rfl Ot rfl (cs:=zsU) rfl H2.o.cellsAll) rfl ⟨rfl,HB2.o⟩
  | true=>
    obtain ⟨hk,-⟩:=A1r HB.o.symm;obtain ⟨u,hu⟩:∃u,u=L[Ha L s]:=⟨_,rfl⟩
    have HA:Hq (Qv L s=u.cells/\Qx L s=0):=hqZ (by unfold Qv Qx; rw [<-HB.o,bB hk,hu]; exact ⟨rfl,rfl⟩);obtain ⟨bl,ol,rfl,_⟩:=HSL.o.addr (by rw [D9]; omega);have hce:=Oi HSL.o (Below.refl _ _) (Ha L s) hk;rw [<-hu] at hce;have HCE:=hqZ hce;obtain ⟨k,hkk⟩:∃k,k=Ha L s:=⟨_,rfl⟩
    rw [<-hkk] at HCE hk ⊢;clear hce hu hkk;go_wp2_with (first | ((with_reducible refine zw 23 ?_);refine Ag rfl (.tmp 22) Ot rfl rfl (cs:=u.cells) u.cells_length HCE.o ?_) | ((with_reducible refine zws 4 23 ?_);refine Af rfl (.tmp 4) (.tmp 23) Ot rfl rfl (vs:=u.cells) rfl u.cells_length HQ.o (aB _) u.cells_one ?_));intro w2 h2 k2;have H2:Hq (Blk w2 q u.cells 154):=hqZ (by simpa [zsU] using h2);have HB2:=hqZ (HB1.o.trans (k2.below (λ k hk=>by rw [hk,HQW.o]; exact aB _) |>.mono (aB _)));clear h2 k2;go_wp2_with fail;rw [HA.o.1,HA.o.2];exact bodyPost_ret (Aj rfl Ot rfl (cs:=u.cells) u.cells_length H2.o.cellsAll) rfl ⟨rfl,HB2.o⟩
end Go.Proofs.YtbmjjfhpllpiaaaGreat
namespace Go.Proofs.YtbmjjfhpllpiaaaGreat
open Go.RowKit Go.Maps
namespace PS
def knd:PS->Bool
  | .sym _=>false
theorem knd_fresh (s:PS):s.fresh.2.knd=s.knd:=by cases s <;> rfl
theorem knd_text (s:PS) (a b:List UInt8):(s.text a b).2.knd=s.knd:=by cases s <;> rfl
theorem knd_derive (s:PS) (a:List UInt8) (b:ByteArray):(s.derive a b).2.knd=s.knd:=by cases s <;> rfl
theorem knd_shut (s:PS) (k:List UInt8) (u:Nat) (b:List UInt8):(s.shut k u b).2.knd=s.knd:=by cases s <;> rfl
theorem knd_digest (s:PS) (b:List UInt8):(s.digest b).2.knd=s.knd:=by cases s <;> rfl
end PS
def tyI (b:Bool):bJ:=24
def pvI (b:Bool) (q:Nat):bH:=.iface (tyI b) (.pointer (some ⟨q,0,none⟩))
theorem A6 {s:PS} {b:Bool} (h:s.knd=b) (q:Nat):pvI b q=pvV s q:=by subst h; cases s <;> rfl
theorem P2:A9 aA 154 20:=A9.mk aZ rfl (by kernel_rfl)
def G7 (b:Bool) (q bp:Nat) (k:List UInt8):List bH:= [pvI b q,.pointer (some ⟨bp,0,none⟩)]++Ab k
theorem A1o (b:Bool) (q bp:Nat) (k:List UInt8) (h:k.length=16):Tryz.prog.built 151 [(0,pvI b q),(1,.pointer (some ⟨bp,0,none⟩)),(2,.agg (Ab k).toArray)]=some (G7 b q bp k).toArray:=by
  obtain ⟨c0,c1,c2,c3,c4,c5,c6,c7,c8,c9,c10,c11,c12,c13,c14,c15,rfl⟩:=Bm k h;unfold pvI G7
  kernel_rfl
theorem Zf (n:ByteArray) (k:List UInt8) (h:k.length=16) (x y:Int) (b:Bool):Tryz.prog.built 154 [(0,.string n),(1,.agg (Ab k).toArray),(2,.int .i64 x),(3,.int .i64 y),(4,.bool b)]=some (Us.mk n k h x y b).cells.toArray:=by
  obtain ⟨c0,c1,c2,c3,c4,c5,c6,c7,c8,c9,c10,c11,c12,c13,c14,c15,rfl⟩:=Bm k h
  kernel_rfl
def Cs (kp:Nat) (b:Bool) (q bp:Nat) (k:List UInt8):Res:=.blk kp (G7 b q bp k) 151
def A4H (q:Nat) (s:PS) (l:List Res) (e:Ending) (w':bI):Prop:=
  ∃kp bp,e=.returned (.pointer (some ⟨kp,0,none⟩))/\Ac w' (Cs kp s.knd q bp s.fresh.1::Bq bp []::pvR q s.fresh.2::l)
theorem Z2 (q:Nat) (s:PS) (l:List Res) (w:bI) (h:Ac w (pvR q s::l)) (hs:s.sz<1099511627776): bK aA 50 #[pvV s q] w (A4H q s l):=by
  have HC:=hqZ h;have HFR:=hqZ (λ (w:bI) (l:List Res) (h:Ac w (pvR q s::l))=>Gp q s l w h hs);have HKL:Hq (s.fresh.1.length=16):=hqZ (PS.fresh_len s);have HV:Hq (pvV s q=pvI s.knd q):=hqZ (A6 rfl q).symm;have h1:=λ j a w=>D4 s j a "Fresh" (by simp) w
  have h2:=λ j a w=>Ku s j a w
  have h3:∀(args:Array bH) (w:bI),(callFunc (C7 s) args).run aA w=.ok (.enter (C7 s) args) w:=Ke s
  clear h hs;unfold pvV Ay at*;go_enter Tryz.func50,Tryz.ntmps50;go_wp2_with fail;refine (Vw _ _ HC.o).mono ?_;rintro e w1 ⟨bp,rfl,hc⟩;have HC:=hqZ hc;clear hc;go_wp2_with fail;refine (HFR.o _ _ HC.o.swap).mono ?_;rintro e w2 ⟨rfl,hc⟩;have HC:=hqZ hc;clear hc;go_wp2_with ((with_reducible refine zw 7 ?_);refine Cp rfl rfl (by simp [Act.eval]; rfl) (by rw [HV.o]; exact A1o s.knd q bp s.fresh.1 HKL.o) ?_);go_ret;exact ⟨w2.heap.size,bp,rfl,(HC.o.swap.addBlkAt (G7 s.knd q bp s.fresh.1) 151 rfl)⟩
def Vs (kp q bp:Nat) (s:PS) (K:List UInt8) (L:List Us) (u:Us) (s2:PS) (l:List Res) (e:Ending) (w':bI):Prop:=
  e=.returned (.int .i64 (J8 L u).2)/\Ac w' (Cs kp s.knd q bp K::Bq bp (J8 L u).1::pvR q s2::l)
theorem Uu (kp q bp:Nat) (s:PS) (K:List UInt8) (L:List Us) (u:Us) (pw:ByteArray) (l:List Res) (w:bI) (h:Ac w (Cs kp s.knd q bp K::Bq bp L::pvR q s::l)) (hs:s.sz<1099511627776) (hk:u.key=(s.text pw.data.toList u.name.data.toList).1) (hL:Fi L) (hl:L.length<=32) (hn:u.name.size<=100000) (hp:pw.size<=100000): bK aA 19 #[.pointer (some ⟨kp,0,none⟩),.string u.name,.string pw,.int .i64 u.life,.int .i64 u.renew,.bool u.mesh] w (Vs kp q bp s K L u (s.text pw.data.toList u.name.data.toList).2 l):=by
  obtain ⟨⟨k1,s2⟩,hx⟩:∃x,x=s.text pw.data.toList u.name.data.toList:=⟨_,rfl⟩
  have HTX:=hqZ (λ (w:bI) (l:List Res) (h:Ac w (pvR q s::l))=>Rn q s pw u.name l w h hp hn hs);rw [<-hx] at HTX hk ⊢;have HADD:=hqZ (λ (w:bI) (l:List Res) (h:Ac w (Bq bp L::l))=>A3o bp L u l w h hL hl (by unfold maxLen; omega));have hbu:Tryz.prog.built 154 [(0,.string u.name),(1,.agg (Ab u.key).toArray),(2,.int .i64 u.life),(3,.int .i64 u.renew),(4,.bool u.mesh)]=some u.cells.toArray:=Zf u.name u.key u.kl u.life u.renew u.mesh;simp only at hk HTX ⊢;rw [hk] at hbu;have HBU:Hq (Tryz.prog.built 154 [(0,.string u.name),(1,.agg (Ab k1).toArray),(2,.int .i64 u.life),(3,.int .i64 u.renew),(4,.bool u.mesh)]=some u.cells.toArray):=hqZ hbu;have hkc:G7 s.knd q bp K= [.iface (pvT s) (.pointer (some ⟨q,0,none⟩)),.pointer (some ⟨bp,0,none⟩)]++Ab K:=by rw [G7,A6 rfl]; rfl
  have h2:Ac w (.blk kp ([.iface (pvT s) (.pointer (some ⟨q,0,none⟩)),.pointer (some ⟨bp,0,none⟩)]++Ab K) 151::Bq bp L::pvR q s::l):=by rw [<-hkc]; exact h
  have HKC:=hqZ hkc;have HC:=hqZ h2;obtain ⟨KC,hKC⟩:∃x,x= [.iface (pvT s) (.pointer (some ⟨q,0,none⟩)),.pointer (some ⟨bp,0,none⟩)]++Ab K:=⟨_,rfl⟩
  rw [<-hKC] at HC HKC;have HC0:Hq (KC[0]?=some (.iface (pvT s) (.pointer (some ⟨q,0,none⟩)))):=hqZ (by rw [hKC]; rfl);have HC1:Hq (KC[1]?=some (.pointer (some ⟨bp,0,none⟩))):=hqZ (by rw [hKC]; rfl);have g1:=λ j a w=>D4 s j a "Text" (by simp) w
  have g2:=λ j a w=>A1e s j a w
  have g3:∀(args:Array bH) (w:bI),(callFunc (Hs s) args).run aA w=.ok (.enter (Hs s) args) w:=A0K s
  clear h hs hk hL hl hn hp hbu hkc h2 hx hKC;unfold Ay at HTX;go_enter Tryz.func19,Tryz.ntmps19;go_wp2_with fail;refine Cx [] (λ b W=>W.cell? ⟨kp,0,none⟩=some (.iface (pvT s) (.pointer (some ⟨q,0,none⟩)))/\W.cell? ⟨kp,1,none⟩=some (.pointer (some ⟨bp,0,none⟩))) (by kernel_rfl) ?_;have HC:=hqZ HC.o.drew;refine zT 0 ?_ (hS:=⟨(HC.o.blk0.cell 0).trans HC0.o,(HC.o.blk0.cell 1).trans HC1.o⟩);refine zT 1 ?_ (hS:=⟨(HC.o.blk0.cell 0).trans HC0.o,(HC.o.blk0.cell 1).trans HC1.o⟩);refine zT 2 ?_ (hS:=⟨(HC.o.blk0.cell 0).trans HC0.o,(HC.o.blk0.cell 1).trans HC1.o⟩);refine zT 3 ?_ (hS:=⟨(HC.o.blk0.cell 0).trans HC0.o,(HC.o.blk0.cell 1).trans HC1.o⟩);refine zT 4 ?_ (hS:=⟨(HC.o.blk0.cell 0).trans HC0.o,(HC.o.blk0.cell 1).trans HC1.o⟩);refine zT 5 ?_ (hS:=⟨(HC.o.blk0.cell 0).trans HC0.o,(HC.o.blk0.cell 1).trans HC1.o⟩);refine zT 6 ?_ (hS:=⟨(HC.o.blk0.cell 0).trans HC0.o,(HC.o.blk0.cell 1).trans HC1.o⟩);refine zT 7 ?_ (hS:=⟨(HC.o.blk0.cell 0).trans HC0.o,(HC.o.blk0.cell 1).trans HC1.o⟩);refine zT 8 ?_ (hS:=⟨(HC.o.blk0.cell 0).trans HC0.o,(HC.o.blk0.cell 1).trans HC1.o⟩);refine zT 9 ?_ (hS:=⟨(HC.o.blk0.cell 0).trans HC0.o,(HC.o.blk0.cell 1).trans HC1.o⟩);refine zT 10 ?_ (hS:=⟨(HC.o.blk0.cell 0).trans HC0.o,(HC.o.blk0.cell 1).trans HC1.o⟩);refine zT 12 ?_ (hS:=⟨(HC.o.blk0.cell 0).trans HC0.o,(HC.o.blk0.cell 1).trans HC1.o⟩);refine zT 13 ?_ (hS:=⟨(HC.o.blk0.cell 0).trans HC0.o,(HC.o.blk0.cell 1).trans HC1.o⟩);refine zT 14 ?_ (hS:=⟨(HC.o.blk0.cell 0).trans HC0.o,(HC.o.blk0.cell 1).trans HC1.o⟩);refine zJ 11 λ K hK=>?_
  go_simp;refine (HTX.o _ _ HC.o.pull3).mono ?_;rintro e w1 ⟨rfl,hc⟩;have HC:=hqZ (hc.zP [1,1]);clear hc;refine hK _ _ ⟨(HC.o.blk0.cell 0).trans HC0.o,(HC.o.blk0.cell 1).trans HC1.o⟩ ?_;clear hK K;try go_frame
  refine zT 15 ?_ (v:=.agg u.cells.toArray) (hr:=λ l W hk hW=>Fx (by simp [Act.eval]) HBU.o W) (hS:=⟨(HC.o.blk0.cell 0).trans HC0.o,(HC.o.blk0.cell 1).trans HC1.o⟩);refine zJ 16 λ K hK=>?_
  go_simp;refine (HADD.o _ _ HC.o.swap).mono ?_;rintro e w2 ⟨rfl,hc⟩;have HC:=hqZ hc.swap;clear hc;refine hK _ _ ⟨(HC.o.blk0.cell 0).trans HC0.o,(HC.o.blk0.cell 1).trans HC1.o⟩ ?_;clear hK K;try go_frame
  refine zT 17 ?_ (hS:=⟨(HC.o.blk0.cell 0).trans HC0.o,(HC.o.blk0.cell 1).trans HC1.o⟩);refine zD ?_;go_wp2_with fail;go_ret;refine ⟨rfl,?_⟩;have h:=HC.o;rw [<-HKC.o] at h;exact h
  
def I0 (k:List UInt8):Nat:=Ec (k.drop 11)
theorem U6 {k:List UInt8} (h:k.length=16):I0 k<1099511627776:=by
  have:=Ld (k.drop 11);rw [aF,h] at this;exact this
theorem J2 (q:Nat) (s:PS) (l:List Res) (w:bI) (h:Ac w (pvR q s::l)) (hs:s.sz<1099511627776): bK aA 56 #[pvV s q] w λ e w'=>e=.returned (.int .i64 (I0 s.fresh.1:Int))/\Ac w' (pvR q s.fresh.2::l):=by
  have HC:=hqZ h;have HFR:=hqZ (λ (w:bI) (l:List Res) (h:Ac w (pvR q s::l))=>Gp q s l w h hs);have hkl:s.fresh.1.length=16:=PS.fresh_len s;obtain ⟨⟨k,s2⟩,hf⟩:∃x,x=s.fresh:=⟨_,rfl⟩
  rw [<-hf] at HFR hkl ⊢;simp only at HFR hkl ⊢;have hlt:=U6 hkl;have HKB:Hq ((Ab k).length=16):=hqZ (by rw [Aa,hkl]);have HKL:=hqZ hkl;have hgb:Fp (k.drop 11)=(I0 k,true):=by
    simp only [Fp,I0];rw [if_neg (by simp [hkl])]
  have HGB:=hqZ hgb;have wx:bL.i64.wrap (I0 k:Int)=(I0 k:Int):=by rw [bL.wrap_i64]; omega
  have g1:=λ j a w=>D4 s j a "Fresh" (by simp) w
  have g2:=λ j a w=>Ku s j a w
  have g3:∀(args:Array bH) (w:bI),(callFunc (C7 s) args).run aA w=.ok (.enter (C7 s) args) w:=Ke s
  clear h hs hkl hf hgb hlt;unfold pvV Ay at*;go_enter Tryz.func56,Tryz.ntmps56;go_wp2_with fail;refine (HFR.o _ _ HC.o).mono ?_;rintro e w1 ⟨rfl,hc⟩;have HC:=hqZ (hc.addBlkAt Bg 43 (b:=w1.heap.size) rfl);clear hc;go_wp2_with ((with_reducible refine zws 3 7 ?_);refine Af rfl (.tmp 3) (.tmp 7) Am rfl rfl (vs:=Ab k) rfl HKB.o HC.o.blk0 (aB _) (Ak _) ?_);intro w2 h2 k2;have HC:=hqZ (HC.o.stW (vs:=Ab k) h2 k2 rfl);have HB:Hq (Bs w2 (.slice (some ⟨w1.heap.size,11,none⟩) 5 5) (k.drop 11)):=hqZ (by
    have h:=HC.o.blk0.bs (off:=11) (n:=5) (cap:=5) (by rw [HKL.o]; decide) (aB _) (by unfold maxLen; decide);exact Sl.bs h (by rw [aG (by simp [HKL.o])]) (by simp [HKL.o]))
  clear h2 k2;go_wp2_with fail;refine (Lg _ _ _ HB.o).mono ?_;rintro e w3 ⟨rfl,rfl⟩;rw [HGB.o];go_wp2_with fail;go_ret;exact ⟨rfl,HC.o.tail⟩
end Go.Proofs.YtbmjjfhpllpiaaaGreat
