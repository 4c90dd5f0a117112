/- Texts of this proof, one behind the other: TkU, BUs, BFind, SlZ, ResZ, BDel, BIns, BOps, Kas1. -/
import Derived.Test.YtcnfaghcjlhoiaaGreatWeA1
import Derived.Test.YtcnfaghcjlhoiaaGreatWeA3
import Derived.Test.YtcnfaghcjlhoiaaGreatWeA4
import Derived.Test.YtcnfaghcjlhoiaaGreatWeA5
import Derived.Test.YtcnfaghcjlhoiaaGreatWeA8
import Derived.Lib.Bytealg
import Derived.Laws.Externs
import Derived.Deep.DeepCutAuto
import Derived.Laws.CopyRow
import Derived.Lib.AppendZerosOnto
import Derived.Lib.Overlaps
set_option linter.unusedSimpArgs false
set_option linter.unusedVariables false
set_option maxRecDepth 100000
set_option maxHeartbeats 16000000
open Go.Proofs.Tryz renaming prog -> aA, underlying246 -> aC, func109 -> aU, ntmps109 -> aV, underlying164 -> bA
open Nat renaming le_refl -> aB, zero_add -> aQ, zero_le -> aS, eq_or_lt_of_le -> bB, mul_le_mul_right -> bD, min_eq_left -> bF
open List renaming length_take -> aD, length_append -> aE, length_drop -> aF, take_of_length_le -> aG, getElem?_cons_zero -> aH, mem_cons_self -> aI, map_toArray -> aJ, map_nil -> aK, append_assoc -> aL, take_append_of_le_length -> aM, forall_mem_append -> aN, forall_mem_cons -> aO, map_cons -> aP, drop_of_length_le -> aR, getElem?_take -> aT, getElem?_cons_succ -> aW, getElem?_append_right -> aX, getElem_cons_zero -> aY, takeWhile_cons -> aZ, getElem?_eq_getElem -> bC, take_take -> bE, take_append -> bG
open Go renaming Value -> bH, World -> bI, TypeId -> bJ, Calls -> bK, Program -> bL, Oper -> bM
namespace Go.Proofs.YtcnfaghcjlhoiaaGreat
open Go.RowKit
theorem He (y:bH) (x:Tv) (G:bI->(Nat->Prop)->bH->Prop) (w:bI) (hb:Bs w y (Ba x)) (hr:A4 8 x=true) (hn:Nw x) (hl:(Ba x).length<=4096) (hof:∀(F:Nat->Prop) (cs:List bH) (W:bI),TvF W F x cs->(∀b,F b->b<W.heap.size)->bK aA 211 #[.agg cs.toArray] W λ e w'=>∃r,e=.returned (.tuple #[r,.bool true])/\G w' F r/\Below W.heap.size W w') (hg:∀(W W2:bI) (F:Nat->Prop) (r:bH),Below W.heap.size W W2->G W F r->G W2 F r): bK aA 150 #[y] w λ e w'=>∃r,e=.returned (.tuple #[r,.int .i64 0])/\(∃B,G w' (λ b=>w.heap.size<=b/\b<B) r)/\Below w.heap.size w w':=by
 have hrd:=N3 y (Ba x) w hb;rw [Kx hr hn hl] at hrd;have HR:=Ab hrd;have HOF:=Ab hof;obtain ⟨ya,yc,rfl,_,_⟩:=hb.form;clear hrd hof hb hr hn hl;go_enter Tryz.func150,Tryz.ntmps150;go_wp2_with fail;refine HR.o.mono ?_;rintro e w1 ⟨cs,rfl,ht,hb⟩;have HT:=Ab ht;have HB:=Ab hb;have HL:=Ab ht.length;have HO:=Ab ht.one;have HN4:=Ab (Blk.new w1 zs5 314);clear ht hb HR;go_upto_region 2 with ((with_reducible refine zws 4 11 ?_);refine Ag rfl (.tmp 4) (.tmp 11) Ak rfl rfl (vs:=cs) rfl HL.o HN4.o (aB _) HO.o ?_);intro w2 h2 k2;have h2':Blk w2 w1.heap.size cs 314:=by
  rw [aR (by decide),List.append_nil] at h2;exact h2
 have hb2:Below w1.heap.size w1 w2:=((Below.refl _ _).alloc (aB _) _).trans (k2.below (by omega));have H2:=Ab h2';have HB2:Hq (Below w.heap.size w w2):=Ab (HB.o.trans (hb2.mono HB.o.size));have HOF2:=Ab (HOF.o _ cs w2 (HT.o.below hb2) (λ b hb=>by have:=hb.2; have:=hb2.size; omega));clear h2 k2 h2' hb2;go_wp2_with ((with_reducible refine zw 17 ?_);refine Aj rfl (.tmp 4) Ak rfl rfl (cs:=cs) HL.o H2.o.cellsAll ?_);refine HOF2.o.mono ?_;rintro e w3 ⟨r,rfl,hgr,hb3⟩;have HG:=Ab hgr;have HB3:Hq (Below w.heap.size w w3):=Ab (HB2.o.trans (hb3.mono HB2.o.size));clear hgr hb3;go_wp2_with fail;go_ret2;exact ⟨r,rfl,⟨_,HG.o⟩,HB3.o⟩
theorem Tl (q:Nat) (s:PS) (k:Aa) (u:Nat) (box:Aa) (bv:bH) (x1:Nat) (k2:Aa) (l3:Aa) (x4:Nat) (x5:Nat) (x6:Nat) (l:List Res) (w:bI) (h:Ad w (pvR q s::l)) (hk:k.length=16) (hu:u<100) (hs:s.sz<1099511627776) (ho:s.Opn k u box (As 2 [.n x1,.k k2,.s l3,.n x4,.n x5,.n x6])) (hv:∀W,Ad W l->Bs W bv box) (hz1:x1<=1099511627776) (hk2:k2.length=16) (hr3:Au (tx l3)=true) (hz4:x4<=1099511627776) (hz5:x5<=1099511627776) (hz6:x6<=1099511627776) (hl:(As 2 [.n x1,.k k2,.s l3,.n x4,.n x5,.n x6]).length<=4096): bK aA 100 #[pvV s q,A1 k,.int .i64 u,bv] w λ e w'=>e=.returned (.tuple #[.agg (([.int .i64 (x1:Int)]:List bH)++(Ae k2++([.string (tx l3),.int .i64 (x4:Int),.int .i64 (x5:Int),.int .i64 (x6:Int)]:List bH))).toArray,.int .i64 0])/\Ad w' (pvR q s::l):=by
 have HKB:Hq ((Ae k).length=16):=Ab (by rw [Ac,hk]);have HC:=Ab (((h.addBlkAt (Ae k) 46 (b:=w.heap.size) rfl).addBlkAt Jm 200 (b:=w.heap.size+1) (by simp)).addBlkAt Jm 200 (b:=w.heap.size+1+1) (by simp));have hnw:Nw (Ev 2 [.n x1,.k k2,.s l3,.n x4,.n x5,.n x6]):=⟨by decide,⟨⟨(by have:=hz1; show x1<_; omega),trivial⟩,⟨⟨(by decide),trivial⟩,⟨⟨(by decide),trivial⟩,⟨⟨(by have:=hz4; show x4<_; omega),trivial⟩,⟨⟨(by have:=hz5; show x5<_; omega),trivial⟩,⟨⟨(by have:=hz6; show x6<_; omega),trivial⟩,trivial⟩⟩⟩⟩⟩⟩⟩;have HUP:=Ab (λ (y:bH) (w:bI) (hb:Bs w y (As 2 [.n x1,.k k2,.s l3,.n x4,.n x5,.n x6]))=>He y (Ev 2 [.n x1,.k k2,.s l3,.n x4,.n x5,.n x6]) (λ _ _ r=>r=.iface 200 (.agg (([.int .i64 (x1:Int)]:List bH)++(Ae k2++([.string (tx l3),.int .i64 (x4:Int),.int .i64 (x5:Int),.int .i64 (x6:Int)]:List bH))).toArray)) w hb (Ma (by decide) (by decide) _) hnw hl
  (λ F cs W ht hf=>(A5D x1 k2 l3 x4 x5 x6 F cs W ht hf hz1 hk2 hr3 hz4 hz5 hz6).mono λ e w' h=>⟨_,h.1,rfl,h.2⟩) (λ _ _ _ _ _ h=>h))
 have HOP:=Ab (λ (w:bI) (l:List Res) (h:Ad w (pvR q s::l)) (hv:∀W,Ad W l->Bs W bv box)=>Ks q s k u box (As 2 [.n x1,.k k2,.s l3,.n x4,.n x5,.n x6]) bv l w h ho hk hu hv (by omega) hs);have h1:=λ j a w=>Fy s j a "Open" (by simp) w
 have h2:=λ j a w=>Q9 s j a w
 have h3:∀(args:Array bH) (w:bI),(callFunc (In s) args).run aA w=.ok (.enter (In s) args) w:=Q0 s
 have HV:=Ab hv;have HLN:=Ab hl;have HKL:=Ab hk2;clear h hk hu hs ho hv hnw hl hk2 hz1 hr3 hz4 hz5 hz6;unfold A1 at HOP ⊢;unfold pvV;go_enter Tryz.func100,Tryz.ntmps100;go_wp2_with ((with_reducible refine zw 19 ?_);refine Aj rfl (.tmp 5) Aq rfl rfl (cs:=Ae k) HKB.o HC.o.pull3.blk0.cellsAll ?_);refine (HOP.o _ _ (HC.o.zP [3]) (λ W hW=>HV.o W hW.tail.tail.tail)).mono ?_;rintro e w1 ⟨y,rfl,hc⟩;obtain ⟨ya,yc,rfl,_,_⟩:=(hc.rowOf (v:=y) (b:=As 2 [.n x1,.k k2,.s l3,.n x4,.n x5,.n x6]) (by simp)).form;have HC:=Ab hc;clear hc;go_wp2_with fail;refine (HUP.o _ _ (HC.o.rowOf (v:=.slice ya (As 2 [.n x1,.k k2,.s l3,.n x4,.n x5,.n x6]).length yc) (b:=As 2 [.n x1,.k k2,.s l3,.n x4,.n x5,.n x6]) (by simp))).mono ?_;rintro e w2 ⟨_,rfl,⟨_,rfl⟩,hw⟩;have HC:=Ab (HC.o.step hw);clear hw;obtain ⟨cs,hcs⟩:∃cs:List bH,cs=(([.int .i64 (x1:Int)]:List bH)++(Ae k2++([.string (tx l3),.int .i64 (x4:Int),.int .i64 (x5:Int),.int .i64 (x6:Int)]:List bH))):=⟨_,rfl⟩
 rw [<-hcs];have HCL:Hq (cs.length=21):=Ab (by rw [hcs]; simp [Ac,HKL.o]);have HCO:Hq (∀u∈cs,u.oneCell'=true):=Ab (by rw [hcs]; simp only [aN,aO]; exact ⟨⟨rfl,(λ _ h=>by cases h)⟩,Al _,⟨rfl,rfl,rfl,rfl,(λ _ h=>by cases h)⟩⟩);have HCS:=Ab hcs;clear hcs;have hta:∀W,(Instr.typeAssert (.iface 200 (.agg cs.toArray)) 20 200 true).run aA W=.ok (.tuple #[.agg cs.toArray,.bool true]) W:=λ W=>Et _ _ _ (by kernel_rfl) W
 have HN:=Ab (HC.o.addBlkAt Jm 200 (b:=w2.heap.size) rfl);go_wp2_with ((with_reducible refine zws 15 40 ?_);refine Ag rfl (.tmp 15) (.tmp 40) Bz rfl rfl (vs:=cs) rfl HCL.o HN.o.blk0 (aB _) HCO.o ?_);intro w3 h9 k9;have HC:=Ab (HN.o.stW (vs:=cs) h9 k9 rfl);clear h9 k9 hta;have HC:=Ab (HC.o.zP [4]);go_wp2_with (first | ((with_reducible refine zw 43 ?_);refine Aj rfl (.tmp 15) Bz rfl rfl (cs:=cs) HCL.o HC.o.swap.blk0.cellsAll ?_) | ((with_reducible refine zws 8 43 ?_);refine Ag rfl (.tmp 8) (.tmp 43) Bz rfl rfl (vs:=cs) rfl HCL.o HC.o.blk0 (aB _) HCO.o ?_));intro w4 h8 k8;have HC:=Ab (HC.o.stW (vs:=cs) h8 k8 rfl);clear h8 k8;go_wp2_with fail;refine bodyPost_ret (Ap rfl Bz rfl HCL.o HC.o.blk0.cellsAll) rfl ?_;rw [HCS.o];exact ⟨rfl,HC.o.zP [0,0,0,1,1] |>.tail.tail.tail.tail.tail⟩
theorem A2v (q:Nat) (s:PS) (k:Aa) (u:Nat) (box:Aa) (bv:bH) (x1:Nat) (k2:Aa) (x3:Nat) (l4:Aa) (x5:Nat) (x6:Nat) (x7:Nat) (l:List Res) (w:bI) (h:Ad w (pvR q s::l)) (hk:k.length=16) (hu:u<100) (hs:s.sz<1099511627776) (ho:s.Opn k u box (As 3 [.n x1,.k k2,.n x3,.s l4,.n x5,.n x6,.n x7])) (hv:∀W,Ad W l->Bs W bv box) (hz1:x1<=1099511627776) (hk2:k2.length=16) (hz3:x3<=1099511627776) (hr4:Au (tx l4)=true) (hz5:x5<=1099511627776) (hz6:x6<=1099511627776) (hz7:x7<=1099511627776) (hl:(As 3 [.n x1,.k k2,.n x3,.s l4,.n x5,.n x6,.n x7]).length<=4096): bK aA 151 #[pvV s q,A1 k,.int .i64 u,bv] w λ e w'=>e=.returned (.tuple #[.agg (([.int .i64 (x1:Int)]:List bH)++(Ae k2++([.int .i64 (x3:Int),.string (tx l4),.int .i64 (x5:Int),.int .i64 (x6:Int),.int .i64 (x7:Int)]:List bH))).toArray,.int .i64 0])/\Ad w' (pvR q s::l):=by
 have HKB:Hq ((Ae k).length=16):=Ab (by rw [Ac,hk]);have HC:=Ab (((h.addBlkAt (Ae k) 46 (b:=w.heap.size) rfl).addBlkAt A2C 307 (b:=w.heap.size+1) (by simp)).addBlkAt A2C 307 (b:=w.heap.size+1+1) (by simp));have hnw:Nw (Ev 3 [.n x1,.k k2,.n x3,.s l4,.n x5,.n x6,.n x7]):=⟨by decide,⟨⟨(by have:=hz1; show x1<_; omega),trivial⟩,⟨⟨(by decide),trivial⟩,⟨⟨(by have:=hz3; show x3<_; omega),trivial⟩,⟨⟨(by decide),trivial⟩,⟨⟨(by have:=hz5; show x5<_; omega),trivial⟩,⟨⟨(by have:=hz6; show x6<_; omega),trivial⟩,⟨⟨(by have:=hz7; show x7<_; omega),trivial⟩,trivial⟩⟩⟩⟩⟩⟩⟩⟩;have HUP:=Ab (λ (y:bH) (w:bI) (hb:Bs w y (As 3 [.n x1,.k k2,.n x3,.s l4,.n x5,.n x6,.n x7]))=>He y (Ev 3 [.n x1,.k k2,.n x3,.s l4,.n x5,.n x6,.n x7]) (λ _ _ r=>r=.iface 307 (.agg (([.int .i64 (x1:Int)]:List bH)++(Ae k2++([.int .i64 (x3:Int),.string (tx l4),.int .i64 (x5:Int),.int .i64 (x6:Int),.int .i64 (x7:Int)]:List bH))).toArray)) w hb (Ma (by decide) (by decide) _) hnw hl
  (λ F cs W ht hf=>(A5E x1 k2 x3 l4 x5 x6 x7 F cs W ht hf hz1 hk2 hz3 hr4 hz5 hz6 hz7).mono λ e w' h=>⟨_,h.1,rfl,h.2⟩) (λ _ _ _ _ _ h=>h))
 have HOP:=Ab (λ (w:bI) (l:List Res) (h:Ad w (pvR q s::l)) (hv:∀W,Ad W l->Bs W bv box)=>Ks q s k u box (As 3 [.n x1,.k k2,.n x3,.s l4,.n x5,.n x6,.n x7]) bv l w h ho hk hu hv (by omega) hs);have h1:=λ j a w=>Fy s j a "Open" (by simp) w
 have h2:=λ j a w=>Q9 s j a w
 have h3:∀(args:Array bH) (w:bI),(callFunc (In s) args).run aA w=.ok (.enter (In s) args) w:=Q0 s
 have HV:=Ab hv;have HLN:=Ab hl;have HKL:=Ab hk2;clear h hk hu hs ho hv hnw hl hk2 hz1 hz3 hr4 hz5 hz6 hz7;unfold A1 at HOP ⊢;unfold pvV;go_enter Tryz.func151,Tryz.ntmps151;go_wp2_with ((with_reducible refine zw 19 ?_);refine Aj rfl (.tmp 5) Aq rfl rfl (cs:=Ae k) HKB.o HC.o.pull3.blk0.cellsAll ?_);refine (HOP.o _ _ (HC.o.zP [3]) (λ W hW=>HV.o W hW.tail.tail.tail)).mono ?_;rintro e w1 ⟨y,rfl,hc⟩;obtain ⟨ya,yc,rfl,_,_⟩:=(hc.rowOf (v:=y) (b:=As 3 [.n x1,.k k2,.n x3,.s l4,.n x5,.n x6,.n x7]) (by simp)).form;have HC:=Ab hc;clear hc;go_wp2_with fail;refine (HUP.o _ _ (HC.o.rowOf (v:=.slice ya (As 3 [.n x1,.k k2,.n x3,.s l4,.n x5,.n x6,.n x7]).length yc) (b:=As 3 [.n x1,.k k2,.n x3,.s l4,.n x5,.n x6,.n x7]) (by simp))).mono ?_;rintro e w2 ⟨_,rfl,⟨_,rfl⟩,hw⟩;have HC:=Ab (HC.o.step hw);clear hw;obtain ⟨cs,hcs⟩:∃cs:List bH,cs=(([.int .i64 (x1:Int)]:List bH)++(Ae k2++([.int .i64 (x3:Int),.string (tx l4),.int .i64 (x5:Int),.int .i64 (x6:Int),.int .i64 (x7:Int)]:List bH))):=⟨_,rfl⟩
 rw [<-hcs];have HCL:Hq (cs.length=22):=Ab (by rw [hcs]; simp [Ac,HKL.o]);have HCO:Hq (∀u∈cs,u.oneCell'=true):=Ab (by rw [hcs]; simp only [aN,aO]; exact ⟨⟨rfl,(λ _ h=>by cases h)⟩,Al _,⟨rfl,rfl,rfl,rfl,rfl,(λ _ h=>by cases h)⟩⟩);have HCS:=Ab hcs;clear hcs;have hta:∀W,(Instr.typeAssert (.iface 307 (.agg cs.toArray)) 20 307 true).run aA W=.ok (.tuple #[.agg cs.toArray,.bool true]) W:=λ W=>Et _ _ _ (by kernel_rfl) W
 have HN:=Ab (HC.o.addBlkAt A2C 307 (b:=w2.heap.size) rfl);go_wp2_with ((with_reducible refine zws 15 40 ?_);refine Ag rfl (.tmp 15) (.tmp 40) Hv rfl rfl (vs:=cs) rfl HCL.o HN.o.blk0 (aB _) HCO.o ?_);intro w3 h9 k9;have HC:=Ab (HN.o.stW (vs:=cs) h9 k9 rfl);clear h9 k9 hta;have HC:=Ab (HC.o.zP [4]);go_wp2_with (first | ((with_reducible refine zw 43 ?_);refine Aj rfl (.tmp 15) Hv rfl rfl (cs:=cs) HCL.o HC.o.swap.blk0.cellsAll ?_) | ((with_reducible refine zws 8 43 ?_);refine Ag rfl (.tmp 8) (.tmp 43) Hv rfl rfl (vs:=cs) rfl HCL.o HC.o.blk0 (aB _) HCO.o ?_));intro w4 h8 k8;have HC:=Ab (HC.o.stW (vs:=cs) h8 k8 rfl);clear h8 k8;go_wp2_with fail;refine bodyPost_ret (Ap rfl Hv rfl HCL.o HC.o.blk0.cellsAll) rfl ?_;rw [HCS.o];exact ⟨rfl,HC.o.zP [0,0,0,1,1] |>.tail.tail.tail.tail.tail⟩
theorem Tm (q:Nat) (s:PS) (k:Aa) (u:Nat) (box:Aa) (bv:bH) (l1:Aa) (x2:Nat) (x3:Nat) (k4:Aa) (l5:Aa) (l:List Res) (w:bI) (h:Ad w (pvR q s::l)) (hk:k.length=16) (hu:u<100) (hs:s.sz<1099511627776) (ho:s.Opn k u box (As 4 [.s l1,.n x2,.n x3,.k k4,.b l5])) (hv:∀W,Ad W l->Bs W bv box) (hr1:Au (tx l1)=true) (hz2:x2<=1099511627776) (hz3:x3<=1099511627776) (hk4:k4.length=16) (hl:(As 4 [.s l1,.n x2,.n x3,.k k4,.b l5]).length<=4096): bK aA 101 #[pvV s q,A1 k,.int .i64 u,bv] w λ e w'=>∃v,e=.returned (.tuple #[.agg (([.string (tx l1),.int .i64 (x2:Int),.int .i64 (x3:Int)]:List bH)++(Ae k4++([v]:List bH))).toArray,.int .i64 0])/\Ad w' (.row v l5::pvR q s::l):=by
 have HKB:Hq ((Ae k).length=16):=Ab (by rw [Ac,hk]);have HC:=Ab (((h.addBlkAt (Ae k) 46 (b:=w.heap.size) rfl).addBlkAt A2D 224 (b:=w.heap.size+1) (by simp)).addBlkAt A2D 224 (b:=w.heap.size+1+1) (by simp));have hnw:Nw (Ev 4 [.s l1,.n x2,.n x3,.k k4,.b l5]):=⟨by decide,⟨⟨(by decide),trivial⟩,⟨⟨(by have:=hz2; show x2<_; omega),trivial⟩,⟨⟨(by have:=hz3; show x3<_; omega),trivial⟩,⟨⟨(by decide),trivial⟩,⟨⟨(by decide),trivial⟩,trivial⟩⟩⟩⟩⟩⟩;have HUP:=Ab (λ (y:bH) (w:bI) (hb:Bs w y (As 4 [.s l1,.n x2,.n x3,.k k4,.b l5]))=>He y (Ev 4 [.s l1,.n x2,.n x3,.k k4,.b l5]) (λ W F r=>∃v,r=.iface 224 (.agg (([.string (tx l1),.int .i64 (x2:Int),.int .i64 (x3:Int)]:List bH)++(Ae k4++([v]:List bH))).toArray)/\Bs W v l5/\(0<l5.length->∀y,v.ownBlock=some y->F y)) w hb (Ma (by decide) (by decide) _) hnw hl
  (λ F cs W ht hf=>(A5F l1 x2 x3 k4 l5 F cs W ht hf hr1 hz2 hz3 hk4).mono λ e w' h=>⟨_,h.choose_spec.1,⟨_,rfl,h.choose_spec.2.1,h.choose_spec.2.2.1⟩,h.choose_spec.2.2.2⟩) (λ W W2 F r hb hg=>by obtain ⟨v,h1,h2,h3⟩:=hg; exact ⟨v,h1,h2.below hb,h3⟩))
 have HOP:=Ab (λ (w:bI) (l:List Res) (h:Ad w (pvR q s::l)) (hv:∀W,Ad W l->Bs W bv box)=>Ks q s k u box (As 4 [.s l1,.n x2,.n x3,.k k4,.b l5]) bv l w h ho hk hu hv (by omega) hs);have h1:=λ j a w=>Fy s j a "Open" (by simp) w
 have h2:=λ j a w=>Q9 s j a w
 have h3:∀(args:Array bH) (w:bI),(callFunc (In s) args).run aA w=.ok (.enter (In s) args) w:=Q0 s
 have HV:=Ab hv;have HLN:=Ab hl;have HKL:=Ab hk4;clear h hk hu hs ho hv hnw hl hk4 hr1 hz2 hz3;unfold A1 at HOP ⊢;unfold pvV;go_enter Tryz.func101,Tryz.ntmps101;go_wp2_with ((with_reducible refine zw 19 ?_);refine Aj rfl (.tmp 5) Aq rfl rfl (cs:=Ae k) HKB.o HC.o.pull3.blk0.cellsAll ?_);refine (HOP.o _ _ (HC.o.zP [3]) (λ W hW=>HV.o W hW.tail.tail.tail)).mono ?_;rintro e w1 ⟨y,rfl,hc⟩;obtain ⟨ya,yc,rfl,_,_⟩:=(hc.rowOf (v:=y) (b:=As 4 [.s l1,.n x2,.n x3,.k k4,.b l5]) (by simp)).form;have HC:=Ab hc;clear hc;go_wp2_with fail;refine (HUP.o _ _ (HC.o.rowOf (v:=.slice ya (As 4 [.s l1,.n x2,.n x3,.k k4,.b l5]).length yc) (b:=As 4 [.s l1,.n x2,.n x3,.k k4,.b l5]) (by simp))).mono ?_;rintro e w2 ⟨_,rfl,⟨_,v,rfl,hb,hf⟩,hw⟩;have HC:=Ab (HC.o.addRow hw hb (λ k hn hk=>(hf hn k hk).1));obtain ⟨va,vc,rfl,_,_⟩:=hb.form;clear hb hf hw;obtain ⟨cs,hcs⟩:∃cs:List bH,cs=(([.string (tx l1),.int .i64 (x2:Int),.int .i64 (x3:Int)]:List bH)++(Ae k4++([.slice va l5.length vc]:List bH))):=⟨_,rfl⟩
 rw [<-hcs];have HCL:Hq (cs.length=20):=Ab (by rw [hcs]; simp [Ac,HKL.o]);have HCO:Hq (∀u∈cs,u.oneCell'=true):=Ab (by rw [hcs]; simp only [aN,aO]; exact ⟨⟨rfl,rfl,rfl,(λ _ h=>by cases h)⟩,Al _,⟨rfl,(λ _ h=>by cases h)⟩⟩);have HCS:=Ab hcs;clear hcs;have hta:∀W,(Instr.typeAssert (.iface 224 (.agg cs.toArray)) 20 224 true).run aA W=.ok (.tuple #[.agg cs.toArray,.bool true]) W:=λ W=>Et _ _ _ (by kernel_rfl) W
 have HN:=Ab (HC.o.addBlkAt A2D 224 (b:=w2.heap.size) rfl);go_wp2_with ((with_reducible refine zws 15 40 ?_);refine Ag rfl (.tmp 15) (.tmp 40) Ix rfl rfl (vs:=cs) rfl HCL.o HN.o.blk0 (aB _) HCO.o ?_);intro w3 h9 k9;have HC:=Ab (HN.o.stW (vs:=cs) h9 k9 rfl);clear h9 k9 hta;have HC:=Ab (HC.o.zP [5]);go_wp2_with (first | ((with_reducible refine zw 43 ?_);refine Aj rfl (.tmp 15) Ix rfl rfl (cs:=cs) HCL.o HC.o.swap.blk0.cellsAll ?_) | ((with_reducible refine zws 8 43 ?_);refine Ag rfl (.tmp 8) (.tmp 43) Ix rfl rfl (vs:=cs) rfl HCL.o HC.o.blk0 (aB _) HCO.o ?_));intro w4 h8 k8;have HC:=Ab (HC.o.stW (vs:=cs) h8 k8 rfl);clear h8 k8;go_wp2_with fail;refine bodyPost_ret (Ap rfl Ix rfl HCL.o HC.o.blk0.cellsAll) rfl ?_;rw [HCS.o];exact ⟨_,rfl,HC.o.zP [0,0,1,2,2] |>.tail.tail.tail.tail.tail⟩
theorem Tn (q:Nat) (s:PS) (k:Aa) (u:Nat) (box:Aa) (bv:bH) (x1:Nat) (x2:Nat) (l:List Res) (w:bI) (h:Ad w (pvR q s::l)) (hk:k.length=16) (hu:u<100) (hs:s.sz<1099511627776) (ho:s.Opn k u box (As 5 [.n x1,.n x2])) (hv:∀W,Ad W l->Bs W bv box) (hz1:x1<=1099511627776) (hz2:x2<=1099511627776) (hl:(As 5 [.n x1,.n x2]).length<=4096): bK aA 86 #[pvV s q,A1 k,.int .i64 u,bv] w λ e w'=>e=.returned (.tuple #[.agg ([.int .i64 (x1:Int),.int .i64 (x2:Int)]:List bH).toArray,.int .i64 0])/\Ad w' (pvR q s::l):=by
 have HKB:Hq ((Ae k).length=16):=Ab (by rw [Ac,hk]);have HC:=Ab (((h.addBlkAt (Ae k) 46 (b:=w.heap.size) rfl).addBlkAt A2E 130 (b:=w.heap.size+1) (by simp)).addBlkAt A2E 130 (b:=w.heap.size+1+1) (by simp));have hnw:Nw (Ev 5 [.n x1,.n x2]):=⟨by decide,⟨⟨(by have:=hz1; show x1<_; omega),trivial⟩,⟨⟨(by have:=hz2; show x2<_; omega),trivial⟩,trivial⟩⟩⟩;have HUP:=Ab (λ (y:bH) (w:bI) (hb:Bs w y (As 5 [.n x1,.n x2]))=>He y (Ev 5 [.n x1,.n x2]) (λ _ _ r=>r=.iface 130 (.agg ([.int .i64 (x1:Int),.int .i64 (x2:Int)]:List bH).toArray)) w hb (Ma (by decide) (by decide) _) hnw hl
  (λ F cs W ht hf=>(A5G x1 x2 F cs W ht hf hz1 hz2).mono λ e w' h=>⟨_,h.1,rfl,h.2⟩) (λ _ _ _ _ _ h=>h))
 have HOP:=Ab (λ (w:bI) (l:List Res) (h:Ad w (pvR q s::l)) (hv:∀W,Ad W l->Bs W bv box)=>Ks q s k u box (As 5 [.n x1,.n x2]) bv l w h ho hk hu hv (by omega) hs);have h1:=λ j a w=>Fy s j a "Open" (by simp) w
 have h2:=λ j a w=>Q9 s j a w
 have h3:∀(args:Array bH) (w:bI),(callFunc (In s) args).run aA w=.ok (.enter (In s) args) w:=Q0 s
 have HV:=Ab hv;have HLN:=Ab hl;clear h hk hu hs ho hv hnw hl hz1 hz2;unfold A1 at HOP ⊢;unfold pvV;go_enter Tryz.func86,Tryz.ntmps86;go_wp2_with ((with_reducible refine zw 19 ?_);refine Aj rfl (.tmp 5) Aq rfl rfl (cs:=Ae k) HKB.o HC.o.pull3.blk0.cellsAll ?_);refine (HOP.o _ _ (HC.o.zP [3]) (λ W hW=>HV.o W hW.tail.tail.tail)).mono ?_;rintro e w1 ⟨y,rfl,hc⟩;obtain ⟨ya,yc,rfl,_,_⟩:=(hc.rowOf (v:=y) (b:=As 5 [.n x1,.n x2]) (by simp)).form;have HC:=Ab hc;clear hc;go_wp2_with fail;refine (HUP.o _ _ (HC.o.rowOf (v:=.slice ya (As 5 [.n x1,.n x2]).length yc) (b:=As 5 [.n x1,.n x2]) (by simp))).mono ?_;rintro e w2 ⟨_,rfl,⟨_,rfl⟩,hw⟩;have HC:=Ab (HC.o.step hw);clear hw;obtain ⟨cs,hcs⟩:∃cs:List bH,cs=([.int .i64 (x1:Int),.int .i64 (x2:Int)]:List bH):=⟨_,rfl⟩
 rw [<-hcs];have HCL:Hq (cs.length=2):=Ab (by rw [hcs]; simp);have HCO:Hq (∀u∈cs,u.oneCell'=true):=Ab (by rw [hcs]; simp only [aN,aO]; exact ⟨rfl,rfl,(λ _ h=>by cases h)⟩);have HCS:=Ab hcs;clear hcs;have hta:∀W,(Instr.typeAssert (.iface 130 (.agg cs.toArray)) 20 130 true).run aA W=.ok (.tuple #[.agg cs.toArray,.bool true]) W:=λ W=>Et _ _ _ (by kernel_rfl) W
 have HN:=Ab (HC.o.addBlkAt A2E 130 (b:=w2.heap.size) rfl);go_wp2_with ((with_reducible refine zws 15 40 ?_);refine Ag rfl (.tmp 15) (.tmp 40) Gg rfl rfl (vs:=cs) rfl HCL.o HN.o.blk0 (aB _) HCO.o ?_);intro w3 h9 k9;have HC:=Ab (HN.o.stW (vs:=cs) h9 k9 rfl);clear h9 k9 hta;have HC:=Ab (HC.o.zP [4]);go_wp2_with (first | ((with_reducible refine zw 43 ?_);refine Aj rfl (.tmp 15) Gg rfl rfl (cs:=cs) HCL.o HC.o.swap.blk0.cellsAll ?_) | ((with_reducible refine zws 8 43 ?_);refine Ag rfl (.tmp 8) (.tmp 43) Gg rfl rfl (vs:=cs) rfl HCL.o HC.o.blk0 (aB _) HCO.o ?_));intro w4 h8 k8;have HC:=Ab (HC.o.stW (vs:=cs) h8 k8 rfl);clear h8 k8;go_wp2_with fail;refine bodyPost_ret (Ap rfl Gg rfl HCL.o HC.o.blk0.cellsAll) rfl ?_;rw [HCS.o];exact ⟨rfl,HC.o.zP [0,0,0,1,1] |>.tail.tail.tail.tail.tail⟩
end Go.Proofs.YtcnfaghcjlhoiaaGreat
namespace Go.Proofs.YtcnfaghcjlhoiaaGreat
open Go.RowKit Go.Lib
theorem A7a:∀ {a b:Aa},compareBytes a b=0->a=b
 | [], [],_=>rfl
 | [],_::_,h=>by simp [compareBytes] at h
 | _::_, [],h=>by simp [compareBytes] at h
 | x::a,y::b,h=>by
  rw [compareBytes] at h;split at h
  . cases h
  . split at h
    . cases h
    . next h1 h2=>
      rw [UInt8.lt_iff_toNat_lt] at h1 h2;rw [UInt8.toNat_inj.1 (show x.toNat=y.toNat by omega),A7a h]
theorem Yx:∀ {a b c:Aa},compareBytes a b<0->compareBytes b c<0->compareBytes a c<0
 | [], [],_,h,_=>by simp [compareBytes] at h
 | [],_::_, [],_,h=>by simp [compareBytes] at h
 | [],_::_,_::_,_,_=>by simp [compareBytes]
 | _::_, [],_,h,_=>by simp [compareBytes] at h
 | _::_,_::_, [],_,h=>by simp [compareBytes] at h
 | x::a,y::b,z::c,h,k=>by
  rw [compareBytes] at h k ⊢;simp only [UInt8.lt_iff_toNat_lt] at h k ⊢;by_cases h1:x.toNat<y.toNat
  . by_cases k1:y.toNat<z.toNat
    . rw [if_pos (by omega)]; decide
    . rw [if_neg k1] at k;by_cases k2:z.toNat<y.toNat
      . rw [if_pos k2] at k; simp at k
      . rw [if_pos (by omega)]; decide
  . rw [if_neg h1] at h;by_cases h2:y.toNat<x.toNat
    . rw [if_pos h2] at h; simp at h
    . rw [if_neg h2] at h;by_cases k1:y.toNat<z.toNat
      . rw [if_pos (by omega)]; decide
      . rw [if_neg k1] at k;by_cases k2:z.toNat<y.toNat
        . rw [if_pos k2] at k; simp at k
        . rw [if_neg k2] at k;rw [if_neg (by omega),if_neg (by omega)];exact Yx h k
def Kc (a b:ByteArray):Int:=compareBytes a.data.toList b.data.toList
theorem A4w {a b:ByteArray} (h:a.data.toList=b.data.toList):a=b:=by
 obtain ⟨a⟩:=a;obtain ⟨b⟩:=b;exact congrArg ByteArray.mk (Array.toList_inj.1 h)
theorem A5X {a b:ByteArray} (h:Kc a b=0):a=b:=A4w (A7a h)
theorem Rr {a b c:ByteArray} (h:Kc a b<0) (k:Kc b c<0):Kc a c<0:=Yx h k
structure Us where
 name:ByteArray
 key:Aa
 kl:key.length=16
 life:Int
 renew:Int
 mesh:Bool
def Us.cells (u:Us):List bH:=.string u.name::(Ae u.key++ [.int .i64 u.life,.int .i64 u.renew,.bool u.mesh])
theorem Us.cells_length (u:Us):u.cells.length=20:=by simp [Us.cells,Ac,u.kl]
theorem Us.cells_one (u:Us):∀c∈u.cells,c.oneCell'=true:=by
 intro c hc;simp only [Us.cells,List.mem_cons,List.mem_append,List.not_mem_nil,or_false] at hc;rcases hc with rfl | hc | rfl | rfl | rfl
 . rfl
 . exact Al _ c hc
 all_goals rfl
theorem Us.c0 (u:Us):u.cells[0]?=some (.string u.name):=rfl
theorem Us.c17 (u:Us):u.cells[17]?=some (.int .i64 u.life):=by
 rw [Us.cells,aW,aX (by rw [Ac,u.kl]; omega),Ac,u.kl]; rfl
theorem Us.c18 (u:Us):u.cells[18]?=some (.int .i64 u.renew):=by
 rw [Us.cells,aW,aX (by rw [Ac,u.kl]; omega),Ac,u.kl]; rfl
def usC (L:List Us):List bH:=(L.map Us.cells).flatten
theorem Ed (L:List Us):(usC L).length=L.length*20:=Lj Us.cells L (λ u _=>u.cells_length)
theorem Rc (L:List Us):∀c∈usC L,c.oneCell'=true:=by
 intro c hc;obtain ⟨x,hx,hcx⟩:=List.mem_flatten.1 hc;obtain ⟨u,_,rfl⟩:=List.mem_map.1 hx;exact u.cells_one c hcx
theorem A7Y (L:List Us) (k j:Nat) (h:k<L.length) (hj:j<20):(usC L)[k*20+j]?=L[k].cells[j]?:=Ry Us.cells L (λ u _=>u.cells_length) k j h hj
theorem Iw (L M:List Us):usC (L++M)=usC L++usC M:=by simp [usC]
theorem A0U (L:List Us) (k:Nat):usC (L.take k)=(usC L).take (k*20):=(U3 Us.cells L (λ u _=>u.cells_length) k).symm
theorem A5M (L:List Us) (k:Nat):usC (L.drop k)=(usC L).drop (k*20):=(U2 Us.cells L (λ u _=>u.cells_length) k).symm
theorem Tq (u:Us):usC [u]=u.cells:=by simp [usC]
def Fc (L:List Us):Prop:=L.Pairwise λ x y=>Kc x.name y.name<0
theorem Fc.at {L:List Us} (h:Fc L) {i j:Nat} (hij:i<j) (hj:j<L.length):Kc (L[i]'(by omega)).name L[j].name<0:=List.pairwise_iff_getElem.1 h i j (by omega) hj hij
def H7 (L:List Us) (s:ByteArray):Nat:=(L.takeWhile λ u=>decide (Kc u.name s<0)).length
theorem A2Z:∀ {L:List Us} {s:ByteArray} {i:Nat},i<=L.length->(∀k (h:k<L.length),k<i->Kc L[k].name s<0)->(∀h:i<L.length,¬Kc L[i].name s<0)->H7 L s=i
 | [],s,i,hi,_,_=>by simp at hi; simp [H7,hi]
 | u::L,s,0,_,_,h2=>by
  have:=h2 (by simp);simp only [aY] at this;simp [H7,aZ,this]
 | u::L,s,i+1,hi,h1,h2=>by
  have:=h1 0 (by simp) (by omega);simp only [aY] at this;have ih:=A2Z (L:=L) (s:=s) (i:=i) (by simpa using hi) (λ k h hk=>h1 (k+1) (by simpa using h) (by omega)) (λ h=>h2 (by simpa using h));rw [H7,aZ,if_pos (by simpa using this),List.length_cons,<-H7,ih]
theorem A3a (L:List Us) (s:ByteArray):H7 L s<=L.length:=(List.takeWhile_prefix _).length_le
def N7 (L:List Us) (s:ByteArray):Bool:=match L[H7 L s]? with | some u=>decide (Kc u.name s=0) | none=>false
theorem A3A {L:List Us} {s:ByteArray} (h:N7 L s=true):∃hk:H7 L s<L.length,L[H7 L s].name=s:=by
 unfold N7 at h;split at h
 . next u hu=>
   obtain ⟨hk,he⟩:=List.getElem?_eq_some_iff.1 hu;exact ⟨hk,by rw [he]; exact A5X (by simpa using h)⟩
 . cases h
def A6d (L:List Us) (u:Us):List Us:=L.take (H7 L u.name)++u::L.drop (H7 L u.name)
theorem Pg:A3 aA 164 20:=A3.mk bA rfl (by kernel_rfl)
def zsU:List bH:=.string .empty::(List.replicate 16 (.int .u8 0)++ [.int .i64 0,.int .i64 0,.bool false])
theorem Y9:Cp aA 246 164 20 56 (.agg zsU.toArray):=by
 refine Cp.mk aC ?_ rfl (by decide)
 kernel_rfl
end Go.Proofs.YtcnfaghcjlhoiaaGreat
namespace Go.Proofs.YtcnfaghcjlhoiaaGreat
open Go.RowKit
theorem Ub (a b:ByteArray) (w:bI): bK aA 221 #[.string a,.string b] w λ e w'=>e=.returned (.int .i64 (Kc a b))/\w=w':=by
 go_enter Tryz.func221,Tryz.ntmps221;go_wp2_with fail;rw [run_callFunc_extern Tryz.func267 (by kernel_rfl) (by kernel_rfl) (by kernel_rfl) (e:=Extern.BytealgCompare.compare) (by kernel_rfl),Lib.run_compareString];simp only [Result.andThen];rw [bM.upon_value];go_wp2_with fail;go_ret;exact ⟨rfl,rfl⟩
theorem Yy (a b:ByteArray) (w:bI): bK aA 159 #[.string a,.string b] w λ e w'=>e=.returned (.int .i64 (Kc a b))/\w=w':=by
 go_enter Tryz.func159,Tryz.ntmps159;go_wp2_with fail;refine (Ub a b w).mono ?_;rintro e w1 ⟨rfl,rfl⟩;go_wp2_with fail;go_ret;exact ⟨rfl,rfl⟩
theorem Sx (u:Us) (s:ByteArray) (w:bI): bK aA 158 #[.agg u.cells.toArray,.string s] w λ e w'=>e=.returned (.int .i64 (Kc u.name s))/\Below w.heap.size w w':=by
 have c0:(w.alloc (.cells u.cells.toArray 164)).cell? ⟨w.heap.size,0,none⟩=some (.string u.name):=(Blk.new w u.cells 164).cell 0;go_enter Tryz.func158,Tryz.ntmps158;go_wp2_with fail;refine (Yy u.name s _).mono ?_;rintro e w1 ⟨rfl,rfl⟩;go_wp2_with fail;go_ret;exact ⟨rfl,(Below.refl _ _).alloc (aB _) _⟩
theorem Pa {w w':bI} {b o n c:Nat} {L:List Us} (h:Sl w 20 (.slice (some ⟨b,o,none⟩) n c) n (usC L)) (hb:Below w.heap.size w w') (k:Nat) (hk:k<L.length):Ao w' b (o+k*20) L[k].cells:=by
 obtain ⟨b',o',he,hcell⟩:=h.addr (by rw [Ed]; omega);simp only [Option.some.injEq,Addr.mk.injEq,and_true] at he;obtain ⟨rfl,rfl⟩:=he;intro j u hj;have hj':j<20:=by rw [<-L[k].cells_length]; exact (List.getElem?_eq_some_iff.1 hj).1
 have:=hcell (k*20+j) u (by rw [A7Y L k j hk hj']; exact hj);rw [Nat.add_assoc];exact Bj hb this
theorem A7v (v:bH) (L:List Us) (s:ByteArray) (w:bI) (h:Sl w 20 v L.length (usC L)) (hs:Fc L) (hl:L.length<=1000): bK aA 157 #[v,.string s,.func (.func 158) #[] #[]] w λ e w'=> e=.returned (.tuple #[.int .i64 (H7 L s),.bool (N7 L s)])/\Below w.heap.size w w':=by
 obtain ⟨a,c,rfl,hc,hm⟩:=h.form;unfold maxLen at hm;have HSL:=Ab h;have HS:=Ab hs;clear h hs;go_enter Tryz.func157,Tryz.ntmps157;go_wp2_with fail;go_loopw [9,10] (λ iv jv wr=>∃i j:Nat,iv=.int .i64 i/\jv=.int .i64 j/\i<=j/\j<=L.length/\(∀k (hk:k<L.length),k<i->Kc L[k].name s<0)/\(∀k (hk:k<L.length),j<=k->0<=Kc L[k].name s)/\Below w.heap.size w wr) (λ i j _=>(intOf j).toNat- (intOf i).toNat)
 case atStart=>exact ⟨0,L.length,rfl,rfl,aS _,aB _,λ k _ h=>by omega,λ k h h'=>by omega,Below.refl _ _⟩
 case round=>
  obtain ⟨i,j,rfl,rfl,hij,hjl,hlo,hhi,hB⟩:=hrel;have HLO:=Ab hlo;have HHI:=Ab hhi;have HB:=Ab hB;clear hlo hhi hB;by_cases hlt:i<j
  . obtain ⟨bl,ol,rfl,_⟩:=HSL.o.addr (by rw [Ed]; omega);go_upto_region 5 with fail;obtain ⟨m,hmid⟩:∃m:Nat,((i:Int)+j) / 2=m:=⟨(i+j) / 2,by omega⟩
    rw [hmid];have hmi:i<=m:=by omega
    have hmj:m<j:=by omega
    have hml:m<L.length:=by omega
    have HCE:=Ab (Pa HSL.o HB.o m hml);obtain ⟨u,hu⟩:∃u,u=L[m]:=⟨_,rfl⟩
    rw [<-hu] at HCE;have HU:=Ab hu;clear hu hmid;go_wp2_with ((with_reducible refine zw 28 ?_);refine Aj rfl (.tmp 27) Pg rfl rfl (cs:=u.cells) u.cells_length HCE.o ?_);refine (Sx u s wr).mono ?_;rintro e w1 ⟨rfl,hb⟩;have HB1:=Ab (HB.o.trans (hb.mono HB.o.size));clear hb;by_cases hcm:Kc u.name s<0
    . have HCM:=Ab hcm;go_wp2_with fail;go_roundw
      case rel=>exact ⟨m+1,j,by go_num,rfl,by omega,hjl,λ k hk hlt=>by
       rcases Nat.lt_or_ge k m with h | h
       . exact Rr (HS.o.at h hml) (by rw [<-HU.o]; exact HCM.o)
       . have h':k=m:=by omega
         subst h';rw [<-HU.o]; exact HCM.o,HHI.o,HB1.o⟩
      case measure=>simp [intOf]; omega
    . have HCM:=Ab hcm;go_wp2_with fail;go_roundw
      case rel=>exact ⟨i,m,rfl,rfl,hmi,by omega,HLO.o,λ k hk hle=>by
       have h0:0<=Kc u.name s:=HCM.o;rcases bB hle with h' | h'
       . subst h';rw [<-HU.o]; exact h0
       . apply Int.not_lt.1;intro h;exact Int.not_lt.2 h0 (by rw [HU.o]; exact Rr (HS.o.at h' hk) h),HB1.o⟩
      case measure=>simp [intOf]; omega
  . obtain rfl:i=j:=by omega
    have hp:H7 L s=i:=A2Z hjl HLO.o (λ h=>Int.not_lt.2 (HHI.o i h (aB _)));have HP:=Ab hp;clear hp;by_cases hil:i<L.length
    . have hil':(i:Int)<L.length:=by omega
      obtain ⟨bl,ol,rfl,_⟩:=HSL.o.addr (by rw [Ed]; omega);have HCE:=Ab (Pa HSL.o HB.o i hil);obtain ⟨u,hu⟩:∃u,u=L[i]:=⟨_,rfl⟩
      rw [<-hu] at HCE;have HH:Hq (N7 L s=(Kc u.name s==0)):=Ab (by
       unfold N7;rw [HP.o,bC hil,hu]
       rfl)
      clear hu;go_wp2_with ((with_reducible refine zw 44 ?_);refine Aj rfl (.tmp 43) Pg rfl rfl (cs:=u.cells) u.cells_length HCE.o ?_);refine (Sx u s wr).mono ?_;rintro e w1 ⟨rfl,hb⟩;have HB1:=Ab (HB.o.trans (hb.mono HB.o.size));clear hb;go_wp2_with fail;go_ret2;rw [HP.o,HH.o];exact ⟨rfl,HB1.o⟩
    . have hil':¬(i:Int)<L.length:=by omega
      have HH:Hq (N7 L s=false):=Ab (by
       unfold N7;rw [HP.o,List.getElem?_eq_none (by omega)])
      go_wp2_with fail;go_ret2;rw [HP.o,HH.o];exact ⟨rfl,HB.o⟩
def Bg (p:Nat) (L:List Us):Res:=.ex λ v=>.all [.blk p [v] 248,.own 164 20 v L.length (usC L)]
theorem Nc {W:bI} {p:Nat} {L:List Us} {l:List Res} (h:Ad W (Bg p L::l)): ∃a c,L.length<=c/\c<=maxLen/\Ad W (.blk p [.slice a L.length c] 248::.own 164 20 (.slice a L.length c) L.length (usC L)::l):=by
 obtain ⟨v,h⟩:=Ad.ex.1 h;have h:=Ad.app.1 h;obtain ⟨a,c,rfl,h1,h2⟩:=(h.ownOf (e:=164) (sz:=20) (v:=v) (n:=L.length) (cs:=usC L) (by simp)).1.sl.form;exact ⟨a,c,h1,h2,h⟩
theorem Rn {W:bI} {p:Nat} {L:List Us} {v:bH} {l:List Res} (h:Ad W (.blk p [v] 248::.own 164 20 v L.length (usC L)::l)):Ad W (Bg p L::l):=
 Ad.ex.2 ⟨v,Ad.app.2 h⟩
theorem Vi (p:Nat) (L:List Us) (s:ByteArray) (l:List Res) (w:bI) (h:Ad w (Bg p L::l)) (hs:Fc L) (hl:L.length<=1000): bK aA 107 #[.pointer (some ⟨p,0,none⟩),.string s] w λ e w'=>e=.returned (.tuple #[.int .i64 (H7 L s),.bool (N7 L s)])/\Below w.heap.size w w':=by
 obtain ⟨a,c,hc,hm,h⟩:=Nc h;have c0:w.cell? ⟨p,0,none⟩=some (.slice a L.length c):=(h.blkOf (aI)).cell 0;have hsl:=(h.ownOf (e:=164) (sz:=20) (v:=.slice a L.length c) (n:=L.length) (cs:=usC L) (by simp)).1.sl;have HB:=Ab (A7v _ L s w hsl hs hl);clear h hsl hs;go_enter Tryz.func107,Tryz.ntmps107;go_wp2_with fail;refine HB.o.mono ?_;rintro e w1 ⟨rfl,hb⟩;go_wp2_with fail;go_ret2;exact ⟨rfl,hb⟩
theorem A3f {P:bL} {w:bI} {dT sT ty e:bJ} {sz bytes:Nat} {z:bH} (hE:Cp P dT e sz bytes z) {g o dLen dCap:Nat} {cur:List bH} {T:bJ} (hb:Blk w g cur T) {a:Addr} {n cap:Nat} {cs:List bH} (hcs:cs.length=min n dLen*sz) (hc1:∀u∈cs,u.oneCell'=true) (hsrc:∀j u,cs[j]?=some u->w.cell? (a.add j)=some u) (hfit:o+cs.length<=cur.length): (Builtin.copy_ #[dT,sT] ty #[.slice (some ⟨g,o,none⟩) dLen dCap,.slice (some a) n cap]).run P w=.ok (.int .i64 (min n dLen:Nat)) (w.setRow g (cur.take o++cs++cur.drop (o+cs.length)).toArray):=by
 obtain ⟨ht,i,hi,hz,hsize,hby,hzs,hsz⟩:=hE;have hl:=run_loadCells_list (P:=P) w a cs hsrc;have hst:=run_storeCells_at P g o T cs 0 cur.toArray w hb (by simpa using hfit) hc1;have hm:Nat.min n dLen*sz=cs.length:=hcs.symm;simp [Builtin.copy_,run_underlying ht,Builtin.lenOf,Builtin.firstCells,sizeOf,typeInfo,hi,hsize,hm,hl,hst,goInt]
theorem Le {w:bI} {g:Nat} {cur:List bH} {T:bJ} (hb:Blk w g cur T) (cs:List bH):Blk (w.setRow g cs.toArray) g cs T/\Ai (λ k=>k=g) w (w.setRow g cs.toArray):=by
 refine ⟨?_,Ai.oneRow _ _ _⟩;unfold Blk;rw [setRow_heap w g cur.toArray _ T _ hb]
theorem Ty {P:bL} {w:bI} {ops:Array bM} {rest:List bM} {o:bM} {a:Act} {Q:Exit->Act->bI->Prop} (hgd:Region.wanted o (yielded ops a.tmps)=true) (d s:Operand) {dT sT e:bJ} {sz bytes:Nat} {z:bH} (hE:Cp P dT e sz bytes z) (ho:o.op=.call { callee:=.builtin .copy,args:=#[d,s],argTypes:=#[dT,sT] }) {g off dLen dCap:Nat} (hd:a.eval d=.slice (some ⟨g,off,none⟩) dLen dCap) {cur:List bH} {T:bJ} (hb:Blk w g cur T) {ad:Addr} {n cap:Nat} (hu:a.eval s=.slice (some ad) n cap) {cs:List bH} (hcs:cs.length=min n dLen*sz) (hc1:∀u∈cs,u.oneCell'=true) (hsrc:∀j u,cs[j]?=some u->w.cell? (ad.add j)=some u) (hfit:off+cs.length<=cur.length) (h:∀w',Blk w' g (cur.take off++cs++cur.drop (off+cs.length)) T->Ai (λ k=>k=g) w w'->wpList P ops Q rest (a.put o.dst (.int .i64 (min n dLen:Nat))) w'):wpList P ops Q (o::rest) a w:=by
 have hr:=A3f (P:=P) (sT:=sT) (ty:=o.type) (dCap:=dCap) (cap:=cap) hE hb hcs hc1 hsrc hfit;refine Bh hgd λ K hK=>?_
 unfold bM.wp execOp;simp only [ho,resolve,invoke,builtin,Sem.run_bind,Sem.run_pure,Result.andThen_ok,aJ,aP,aK,hd,hu,hr];exact hK _ _ (h _ (Le hb _).1 (Le hb _).2)
theorem A0B {P:bL} {ops:Array bM} {o:bM} {a:Act} {w:bI} {K:Act->bI->Prop} {Q:Exit->Act->bI->Prop} {E:Prop} (hgd:o.guard=none) (d s:Operand) {dT sT e:bJ} {sz bytes:Nat} {z:bH} (hE:Cp P dT e sz bytes z) (ho:o.op=.call { callee:=.builtin .copy,args:=#[d,s],argTypes:=#[dT,sT] }) {g off dLen dCap:Nat} (hd:a.eval d=.slice (some ⟨g,off,none⟩) dLen dCap) {cur:List bH} {T:bJ} (hb:Blk w g cur T) {ad:Addr} {n cap:Nat} (hu:a.eval s=.slice (some ad) n cap) {cs:List bH} (hcs:cs.length=min n dLen*sz) (hc1:∀u∈cs,u.oneCell'=true) (hsrc:∀j u,cs[j]?=some u->w.cell? (ad.add j)=some u) (hfit:off+cs.length<=cur.length) (h:∀w',Blk w' g (cur.take off++cs++cur.drop (off+cs.length)) T->Ai (λ k=>k=g) w w'->K (a.put o.dst (.int .i64 (min n dLen:Nat))) w'): if Region.wanted o (yielded ops a.tmps)=true then bM.wp P o a w K Q else E:=by
 have hw:Region.wanted o (yielded ops a.tmps)=true:=by simp [Region.wanted,hgd]
 rw [if_pos hw];have hr:=A3f (P:=P) (sT:=sT) (ty:=o.type) (dCap:=dCap) (cap:=cap) hE hb hcs hc1 hsrc hfit;unfold bM.wp execOp;simp only [ho,resolve,invoke,builtin,Sem.run_bind,Sem.run_pure,Result.andThen_ok,aJ,aP,aK,hd,hu,hr];exact h _ (Le hb _).1 (Le hb _).2
theorem Jl (z:Array bH) (n:Nat):(Builtin.zeroCells z n).toList.length=n*z.size:=by simp [Builtin.zeroCells]
theorem Un {z:Array bH} {n:Nat} {c:bH} (h:c∈(Builtin.zeroCells z n).toList):c∈z.toList:=by
 simp only [Builtin.zeroCells,Array.toList_map,List.mem_map] at h;obtain ⟨i,hi,rfl⟩:=h;have hi':i<n*z.size:=by simpa using hi
 have hz:0<z.size:=by
  rcases Nat.eq_zero_or_pos z.size with h0 | h0
  . rw [h0] at hi'; omega
  . exact h0
 rw [getElem!_pos z _ (Nat.mod_lt _ hz)];simp
theorem A1b {P:bL} {w:bI} {ops:Array bM} {rest:List bM} {o:bM} {a:Act} {Q:Exit->Act->bI->Prop} (hgd:Region.wanted o (yielded ops a.tmps)=true) (d:Operand) {t e:bJ} {sz bytes:Nat} {z:bH} (hE:Cp P t e sz bytes z) (hz1:∀c∈z.cells.toList,c.oneCell'=true) (ho:o.op=.call { callee:=.builtin .clear,args:=#[d],argTypes:=#[t] }) {g off n cap:Nat} (hd:a.eval d=.slice (some ⟨g,off,none⟩) (n+1) cap) {cur:List bH} {T:bJ} (hb:Blk w g cur T) (hfit:off+(n+1)*sz<=cur.length) (h:∀w' zs,zs.length=(n+1)*sz->Blk w' g (cur.take off++zs++cur.drop (off+(n+1)*sz)) T->Ai (λ k=>k=g) w w'->wpList P ops Q rest (a.put o.dst (.tuple #[])) w'):wpList P ops Q (o::rest) a w:=by
 obtain ⟨ht,i,hi,hz,hsize,hby,hzs,hsz⟩:=hE;have hzl:=Jl z.cells (n+1);rw [hzs] at hzl;have hst:=run_storeCells_at P g off T (Builtin.zeroCells z.cells (n+1)).toList 0 cur.toArray w hb (by rw [hzl]; simpa using hfit) (λ v hv=>hz1 v (Un hv));refine Bh hgd λ K hK=>?_
 unfold bM.wp execOp;simp only [ho,resolve,invoke,builtin,Sem.run_bind,Sem.run_pure,Result.andThen_ok,aJ,aP,aK,hd];have hr:(Builtin.clear_ #[t] o.type #[.slice (some ⟨g,off,none⟩) (n+1) cap]).run P w=.ok (.tuple #[]) (w.setRow g (cur.take off++(Builtin.zeroCells z.cells (n+1)).toList++cur.drop (off+(n+1)*sz)).toArray):=by
  simp only [Nat.add_zero,hzl] at hst;simp only [Builtin.clear_];simp [run_underlying ht,zeroValue,typeInfo,hi,hz,hst]
 rw [hr];exact hK _ _ (h _ _ hzl (Le hb _).1 (Le hb _).2)
theorem A2i {P:bL} {t e:bJ} {sz:Nat} (ht:P.underlying t=some (.slice e)) (hs:∀w,(sizeOf e).run P w=.ok sz w) (g n cap lo hi:Nat) (h1:lo<=hi) (h2:hi<=cap) (h3:lo<cap) (W:bI): (Instr.sliceAt t (.slice (some ⟨g,0,none⟩) n cap) (some (.int .i64 lo)) (some (.int .i64 hi)) none).run P W=.ok (.slice (some ⟨g,lo*sz,none⟩) (hi-lo) (cap-lo)) W:=by
 have k2:¬((lo:Int)<0):=by omega
 have k3:¬((hi:Int)<0):=by omega
 have k4:¬(cap<hi):=by omega
 have k5:¬(hi<lo):=by omega
 have k6:¬cap-lo=0:=by omega
 have k7:¬cap<=lo:=by omega
 simp [Instr.sliceAt,Instr.slice,Instr.sliceBounds,Instr.sliceBound,run_underlying ht,asIntOf,hs,k2,k3,k4,k5,k6,k7,h1,h2,Addr.add_lit];exact λ h=>by omega
theorem A2h {P:bL} {t e:bJ} {sz:Nat} (ht:P.underlying t=some (.slice e)) (hs:∀w,(sizeOf e).run P w=.ok sz w) (g n cap lo hi mx:Nat) (h1:lo<=hi) (h2:hi<=mx) (h3:mx<=cap) (h4:lo<mx) (W:bI): (Instr.sliceAt t (.slice (some ⟨g,0,none⟩) n cap) (some (.int .i64 lo)) (some (.int .i64 hi)) (some (.int .i64 mx))).run P W=.ok (.slice (some ⟨g,lo*sz,none⟩) (hi-lo) (mx-lo)) W:=by
 have k2:¬((lo:Int)<0):=by omega
 have k3:¬((hi:Int)<0):=by omega
 have k8:¬((mx:Int)<0):=by omega
 have k4:¬(mx<hi):=by omega
 have k5:¬(hi<lo):=by omega
 have k9:¬(cap<mx):=by omega
 have k6:¬mx-lo=0:=by omega
 have k7:¬mx<=lo:=by omega
 simp [Instr.sliceAt,Instr.slice,Instr.sliceBounds,Instr.sliceBound,run_underlying ht,asIntOf,hs,k2,k3,k4,k5,k6,k7,k8,k9,h1,h2,h3,Addr.add_lit];exact λ h=>by omega
theorem Xq {P:bL} {ops:Array bM} {o:bM} {a:Act} {w:bI} {K:Act->bI->Prop} {Q:Exit->Act->bI->Prop} {E:Prop} (hgd:o.guard=none) (s x:Operand) {t t':bJ} (ho:o.op=.call { callee:=.builtin .append,args:=#[s,x],argTypes:=#[t,t'] }) {v u:bH} (hv:a.eval s=v) (hu:a.eval x=u) {v':bH} {w':bI} (hr:(Builtin.append_ #[t,t'] o.type #[v,u]).run P w=.ok v' w') (h:K (a.put o.dst v') w'): if Region.wanted o (yielded ops a.tmps)=true then bM.wp P o a w K Q else E:=by
 have hw:Region.wanted o (yielded ops a.tmps)=true:=by simp [Region.wanted,hgd]
 rw [if_pos hw];unfold bM.wp execOp;simp only [ho,resolve,invoke,builtin,Sem.run_bind,Sem.run_pure,Result.andThen_ok,aJ,aP,aK,hv,hu,hr];exact h
theorem Fw {P:bL} {o:bM} {a:Act} {W:bI} {t:bJ} {x:Operand} {lo hi mx:Option Operand} (ho:o.op=.slice t x lo hi mx) {v:bH} (hr:(Instr.sliceAt t (a.eval x) (lo.map a.eval) (hi.map a.eval) (mx.map a.eval)).run P W=.ok v W): (execOp a.eval o).run P W=.ok (.value v) W:=by
 unfold execOp;simp only [ho,Sem.run_bind,Sem.run_pure,hr,Result.andThen_ok]
theorem Ad.ownBlk {W:bI} {l:List Res} {e:bJ} {sz n:Nat} {v:bH} {cs:List bH} (h:Ad W (.own e sz v n cs::l)) (hn:0<n): ∃(g cap:Nat) (cur:List bH),v=.slice (some ⟨g,0,none⟩) n cap/\n<=cap/\cap<=maxLen/\cur.length=cap*sz/\cur.take (n*sz)=cs/\Ad W (.blk g cur e::l):=by
 obtain ⟨⟨hl,h1,⟨a,rfl,rfl⟩ | ⟨g,cap,cur,rfl,hB,hr,hnc,hcm,hsz,htk⟩⟩,hlt⟩:=h.ownOf (aI)
 . omega
 . refine ⟨g,cap,cur.toList,rfl,hnc,hcm,by simpa using hsz,htk,?_⟩;refine h.weaken λ F hF=>⟨λ b=>b=g,⟨by simpa [Blk] using hr,λ b=>Iff.rfl⟩,λ b hb=>?_⟩
   subst hb;exact (hF.2.2 _).2 rfl
theorem Ad.blkOwn {W:bI} {l:List Res} {e:bJ} {g:Nat} {cur:List bH} (h:Ad W (.blk g cur e::l)) (sz n cap:Nat) (hc:cur.length=cap*sz) (hn:n<=cap) (hm:cap<=maxLen) {cs:List bH} (ht:cur.take (n*sz)=cs) (h1:∀u∈cs,u.oneCell'=true): Ad W (.own e sz (.slice (some ⟨g,0,none⟩) n cap) n cs::l):=by
 have hmul:n*sz<=cap*sz:=bD _ hn;refine h.weaken λ F hF=>⟨λ b=>b=g,⟨⟨by rw [<-ht,aD]; omega,h1,.inr ⟨g,cap,cur.toArray,rfl,aS _,hF.1,hn,hm,by simpa using hc,by simpa using ht⟩⟩,λ b hb=>?_,λ b=>?_⟩,λ b hb=>(hF.2 b).2 hb⟩
 . simp [bH.ownBlock] at hb;subst hb;exact hF.1.lt
 . simp only [bH.ownBlock];exact ⟨λ h=>by rw [h],λ h=>by simpa using h.symm⟩
theorem Ad.blkTurn {W W':bI} {l:List Res} {g:Nat} {cur cur':List bH} {T:bJ} (h:Ad W (.blk g cur T::l)) (hb:Blk W' g cur' T) (hk:Ai (λ k=>k=g) W W'):Ad W' (.blk g cur' T::l):=
 h.turn λ F hF=>⟨F,⟨hb,hF.2⟩,λ b hb=>.inl hb,hk.mono λ k hk=>.inl ((hF.2 k).2 hk)⟩
theorem A6X:∀c∈(bH.agg zsU.toArray).cells.toList,c.oneCell'=true:=by decide
theorem szU (w:bI):(sizeOf 164).run aA w=.ok 20 w:=by kernel_rfl
theorem Xw {w:bI} {g cap:Nat} {cur:List bH} (hb:Blk w g cur 164) {L:List Us} (htk:cur.take (L.length*20)=usC L) (i:Nat) (hi:i<=L.length) (hcap:L.length<=cap): ∃ad,Hr g cap i 20=some ad/\∀j u,(usC (L.drop i))[j]?=some u->w.cell? (ad.add j)=some u:=by
 unfold Hr;by_cases hc:cap=i
 . exact ⟨_,if_pos hc,λ j u hj=>by rw [aR (by omega)] at hj; simp [usC] at hj⟩
 . refine ⟨_,if_neg hc,λ j u hj=>?_⟩;rw [Addr.add_lit,hb.cell];rw [A5M,<-htk,List.getElem?_drop,aT] at hj;split at hj
   . exact hj
   . cases hj
theorem Xm {a:Option Addr} {n cap i:Nat} (hi:i<=n) (hc:n<=cap) (ha:a=none->cap=0) (W:bI):∃X,(Instr.sliceAt 246 (.slice a n cap) (some (.int .i64 i)) none none).run aA W=.ok X W:=by
 have h2:¬((i:Int)<0):=by omega
 have h3:¬(n<i):=by omega
 cases a with
 | none=>
  have hc0:=ha rfl;subst hc0;obtain rfl:n=0:=by omega
  obtain rfl:i=0:=by omega
  exact ⟨_,by simp [Instr.sliceAt,Instr.slice,Instr.sliceBounds,Instr.sliceBound,run_underlying aC,asIntOf,szU]; rfl⟩
 | some ad=>exact ⟨_,by simp [Instr.sliceAt,Instr.slice,Instr.sliceBounds,Instr.sliceBound,run_underlying aC,asIntOf,szU,h2,h3,hi]; rfl⟩
theorem Blk.slZ {w:bI} {g sz:Nat} {cs:List bH} {T:bJ} (h:Blk w g cs T) (hl:cs.length=sz) (h1:∀u∈cs,u.oneCell'=true):Sl w sz (.slice (some ⟨g,0,none⟩) 1 1) 1 cs:=
 ⟨by omega,h1,_,1,rfl,aB _,by unfold maxLen; decide,λ h=>by simp at h,.inr ⟨g,0,rfl,λ j u hj=>by rw [aQ,h.cell]; exact hj⟩⟩
theorem A1I {w:bI} {g cap i k n:Nat} {cur:List bH} {L:List Us} (hb:Blk w g cur 164) (hn:L.length=n) (htk:cur.take (n*20)=usC L) (hi:i<=n) (hik:i+k=n+1) (hk:0<k) (hg:cap<n+1) (hl:n<=1000): ∃(gc:Nat) (zs:List bH),n+1<=gc/\gc<=maxLen/\zs.length=(gc-i)*20/\∀ty,(Builtin.append_ #[246,3] ty #[.slice (some ⟨g,0,none⟩) i cap,.int .i64 k]).run aA w= .ok (.slice (some ⟨w.heap.size,0,none⟩) (n+1) gc) (w.drew.alloc (.cells (usC (L.take i)++zs).toArray 164)):=by
 obtain ⟨ht,ie,hie,hz,hsize,hby,hzs,hsz⟩:=Y9;have hge:=grownCap_ge w (i+k) cap 164;have hle:=grownCap_le_maxLen w (i+k) cap 164 (by unfold maxLen; omega);have hnx:=nextslicecap_le (need:=i+k) (old:=cap) (by omega);have hl1:(usC (L.take i)).length=i*20:=by rw [Ed,aD]; congr 1; omega
 have hold:=run_firstCells_some (P:=aA) w.drew ie.size i ⟨g,0,none⟩ i cap (usC (L.take i)) (by rw [hsize]; exact hl1) (λ j u hj=>by
  rw [Addr.add_lit,aQ,hb.drew.cell];rw [A0U,<-htk,aT] at hj;split at hj
  . rw [aT] at hj;split at hj
    . exact hj
    . cases hj
  . cases hj)
 have hr:=λ ty=>Lib.run_append_grow_zeros (P:=aA) w 246 3 ty 164 ie _ .i64 .i64 ht Tryz.underlying3 hie hz (some ⟨g,0,none⟩) i cap (usC (L.take i)) hold k hk (by rw [hsize]; decide) (by omega) (by omega) (by rw [hby]; omega) (by
  rw [hby]
  have:Builtin.nextslicecap (i+k) cap*56<=(2*(i+k))*56:=bD _ hnx
  omega)
 rw [hik] at hr hge hle;refine ⟨_,(Builtin.zeroCells (bH.agg zsU.toArray).cells k).toList++(Builtin.zeroCells (bH.agg zsU.toArray).cells (grownCap w (n+1) cap 164- (n+1))).toList,hge,hle,?_,λ ty=>?_⟩
 . rw [aE,Jl,Jl,hzs];omega
 . rw [hr ty];congr 3;rw [List.append_toArray,<-aL];simp
theorem Ad.blk_ne {W:bI} {g q:Nat} {c c':List bH} {T T':bJ} {l:List Res} (h:Ad W (.blk g c T::.blk q c' T'::l)):g≠q:=by
 rintro rfl;obtain ⟨F1,F2,h1,h2,h3⟩:=Ad.cons.1 h;obtain ⟨G1,G2,k1,k2,_,k3⟩:=h2;exact h3 g ((h1.2 g).2 rfl) (by first | exact (k3 g).2 (.inl ((k1.2 g).2 rfl)) | exact k3 g ((k1.2 g).2 rfl))
theorem Vo {w:bI} {g:Nat} {cur:List bH} {T:bJ} (hb:Blk w g cur T):w.shape? g=some (T,cur.length):=by
 have h:w.heap[g]?=_:=hb;simp [bI.shape?,h]
theorem A1L (v:bH) (L:List Us) (u:Us) (gq:Nat) (l:List Res) (w:bI) (h:Ad w (.own 164 20 v L.length (usC L)::.blk gq u.cells 164::l)) (hl:L.length<=1000): bK aA 109 #[v,.int .i64 L.length,.slice (some ⟨gq,0,none⟩) 1 1] w λ e w'=>∃v',e=.returned v'/\Ad w' (.own 164 20 v' (L.length+1) (usC (L++ [u]))::.blk gq u.cells 164::l):=by
 have hown:=h.ownOf (aI);obtain ⟨a,cap,rfl,hc,hm⟩:=hown.1.sl.form;have ha:a=none->cap=0:=by
  rintro rfl;obtain ⟨_,_,⟨_,h1,h2⟩ | ⟨g,c,cur,h1,_⟩⟩:=hown.1
  . simp at h1; omega
  . simp at h1
 have hx:=λ W=>Xm (a:=a) (i:=L.length) (aB _) hc ha W
 obtain ⟨X,hX⟩:∃X:bI->bH,∀W,(Instr.sliceAt 246 (.slice a L.length cap) (some (.int .i64 L.length)) none none).run aA W=.ok (X W) W:=⟨λ W=>(hx W).choose,λ W=>(hx W).choose_spec⟩
 have HOWN:=Ab hown;have HSL:=Ab ((h.zB gq).slZ u.cells_length u.cells_one);have HC:=Ab h;unfold maxLen at hm;clear h hown ha hx;go_enter aU,aV;go_wp2_with ((with_reducible refine zw 25 ?_);refine Dr rfl (.tmp 23) (.tmp 24) Y9 rfl 0 HOWN.o.1 HOWN.o.2 HSL.o (by unfold maxLen; omega) (by omega) (aS _) ?_);intro v' w' h1 h2 h3;have HD:=Ab (HC.o.append (B:=0) h1 (h2.mono λ k h=>by simpa using h) (λ k h=>by simpa using h3 k h));clear h1 h2 h3;go_wp2_with fail;go_ret;refine ⟨v',rfl,?_⟩;rw [Iw,Tq];exact HD.o
theorem Z2 (L:List Us) (u:Us) (i g gq cap:Nat) (cur:List bH) (l:List Res) (w:bI) (h:Ad w (.blk g cur 164::.blk gq u.cells 164::l)) (hcl:cur.length=cap*20) (htk:cur.take (L.length*20)=usC L) (hcm:cap<=maxLen) (hi:i<L.length) (hroom:L.length+1<=cap) (hl:L.length<=1000): bK aA 109 #[.slice (some ⟨g,0,none⟩) L.length cap,.int .i64 i,.slice (some ⟨gq,0,none⟩) 1 1] w λ e w'=>∃v',e=.returned v'/\Ad w' (.own 164 20 v' (L.length+1) (usC (L.take i++u::L.drop i))::.blk gq u.cells 164::l):=by
 obtain ⟨n,hn⟩:∃n,n=L.length:=⟨_,rfl⟩
 have hb:=h.zB g;have hbq:=h.zB gq;have hne:gq≠g:=h.blk_ne.symm;have HC:=Ab h;have HTK:=Ab htk;have HCL:=Ab hcl;have HCM:=Ab hcm;obtain ⟨ad,had,hsrc⟩:=Xw (cap:=cap) hb htk i (by omega) (by omega);have hcn:¬cap=i:=by omega
 simp only [Hr,if_neg hcn,Option.some.injEq] at had;subst had;have HSRC:=Ab hsrc;have HB:=Ab hb;have HBQ:=Ab hbq;rw [<-hn] at hi hroom hl ⊢;have f0:∀W,(Instr.sliceAt 246 (.slice (some ⟨g,0,none⟩) n cap) (some (.int .i64 i)) none none).run aA W=.ok (.slice (some ⟨g,i*20,none⟩) (n-i) (cap-i)) W:=λ W=>by
  have:=Fz (P:=aA) aC szU g n cap i (by omega) (by omega) W;rw [Hr,if_neg hcn] at this;exact this
 have f1:∀W,(Instr.sliceAt 246 (.slice (some ⟨g,0,none⟩) n cap) none (some (.int .i64 ((n:Int)+1))) none).run aA W=.ok (.slice (some ⟨g,0,none⟩) (n+1) cap) W:=λ W=>Nn (P:=aA) aC szU g n cap (n+1) (by omega) W
 have f2:∀W,(Instr.sliceAt 246 (.slice (some ⟨g,0,none⟩) (n+1) cap) (some (.int .i64 ((i:Int)+1))) none none).run aA W=.ok (.slice (some ⟨g,(i+1)*20,none⟩) (n-i) (cap- (i+1))) W:=λ W=>by
  have:=Fz (P:=aA) aC szU g (n+1) cap (i+1) (by omega) (by omega) W;rw [Hr,if_neg (by omega),show n+1- (i+1)=n-i by omega] at this;exact this
 have f3:∀W,(Instr.sliceAt 246 (.slice (some ⟨g,0,none⟩) (n+1) cap) (some (.int .i64 i)) none none).run aA W=.ok (.slice (some ⟨g,i*20,none⟩) (n+1-i) (cap-i)) W:=λ W=>by
  have:=Fz (P:=aA) aC szU g (n+1) cap i (by omega) (by omega) W;rw [Hr,if_neg hcn] at this;exact this
 have hin:((i:Int)==(n:Int))=false:=by simp; omega
 have hgt:¬((cap:Int)< (n:Int)+1):=by omega
 have F2:=Ab f2;have F3:=Ab f3;have hdl:(usC (L.drop i)).length=(n-i)*20:=by rw [Ed,aF,<-hn]
 have HDL:=Ab hdl;have HNE:=Ab hne;have HN:=Ab hn;have hov:(Extern.SlicesOverlaps.overlaps #[246,246] #[4] #[.slice (some ⟨gq,0,none⟩) 1 1,.slice (some ⟨g,(i+1)*20,none⟩) (n-i) (cap- (i+1))]).run aA w=.ok (.bool false) w:=
  Lib.run_overlaps_apart w 246 4 164 aC 20 szU ⟨gq,0,none⟩ ⟨g,(i+1)*20,none⟩ 1 1 (n-i) (cap- (i+1)) hne 164 164 _ _ (Vo hbq) (Vo hb) (by rw [hcl]; omega) (hbq.frozen 0) (hbq.frozen _)
 have HOV:=Ab hov;clear h hb hbq hne htk hcl hcm hsrc hdl hn hov;go_enter aU,aV;go_upto_region 15 with fail;rw [run_callFunc_extern Tryz.func162 (by kernel_rfl) (by kernel_rfl) (by kernel_rfl) (e:=Extern.SlicesOverlaps.overlaps #[246,246] #[4]) (by kernel_rfl),HOV.o];simp only [Result.andThen];rw [bM.upon_value];go_upto_region 15 with fail;refine wp_region_held (S:=λ _:bI=>True) (by kernel_rfl) ?_;change wpAnyH _ _ _ _ _ _ _ _ (bI.drew _);refine zH 0 ?_;refine zH 1 ?_;refine zH 2 ?_;refine zH 3 ?_ (v:=.int .i64 ((i:Int)+1)) (hr:=λ W hW=>by go_simp; rw [IntKind.wrap_i64]; omega);refine zH 4 ?_ (v:=.slice (some ⟨g,(i+1)*20,none⟩) (n-i) (cap- (i+1))) (hr:=λ W hW=>by exact Fw rfl (F2.o W));refine zH 5 ?_;refine zH 6 ?_;refine zH 7 ?_ (v:=.slice (some ⟨g,i*20,none⟩) (n+1-i) (cap-i)) (hr:=λ W hW=>by exact Fw rfl (F3.o W));refine Bl (rs:= [8]) (by decide+kernel) (by simp) ?_;refine Av.cons (o:=⟨some 77,.call { callee:=.builtin .copy,args:=#[.tmp 73,.tmp 76],argTypes:=#[246,246] },_,_,_,none⟩) rfl (λ K hK=>?_) Av.nil;refine A0B rfl (.tmp 73) (.tmp 76) Y9 rfl rfl HB.o.drew rfl (cs:=usC (L.drop i)) (by rw [HDL.o]; congr 1; omega) (Rc _) HSRC.o (by rw [HDL.o,HCL.o]; omega) ?_;intro w1 hb1 hk1;have HC1:=Ab (HC.o.drew.blkTurn hb1 hk1);have HB1:=Ab hb1;clear hb1 hk1;refine zq hK ?_;clear hK K;refine wpAnyH_done (by decide+kernel) ?_ _;obtain ⟨c1,hc1⟩:∃c1,c1=cur.take ((i+1)*20)++usC (L.drop i)++cur.drop ((i+1)*20+(usC (L.drop i)).length):=⟨_,rfl⟩
 rw [<-hc1] at HC1 HB1;have hc1l:c1.length=cap*20:=by
  rw [hc1];simp only [aE,aD,aF,HDL.o,HCL.o];omega
 have HC1E:=Ab hc1;have HC1L:=Ab hc1l;have HBQ1:=Ab (HC1.o.zB gq);have HONE:Hq ((1:Nat)=min 1 (n+1-i)):=Ab (by omega);clear hc1 hc1l;go_wp2_with ((with_reducible refine zw 82 ?_);refine Ty rfl (.tmp 80) (.tmp 81) Y9 rfl rfl HB1.o rfl (cs:=u.cells) (by rw [u.cells_length,<-HONE.o]) u.cells_one (λ j v hj=>by rw [Addr.add_lit,aQ,HBQ1.o.cell]; exact hj) (by rw [u.cells_length,HC1L.o]; omega) ?_);intro w2 h2 k2;have HC2:=HC1.o.blkTurn h2 k2;have hq1:(usC (L.take i)).length=i*20:=by rw [Ed,aD,<-HN.o]; congr 1; omega
 have HC3:=HC2.blkOwn 20 (n+1) cap (cs:=usC (L.take i++u::L.drop i)) (by
  simp only [aE,aD,aF,u.cells_length,HC1L.o]
  omega) (by omega) HCM.o (by
  have e1:c1.take (i*20)=usC (L.take i):=by
   rw [HC1E.o,aL,aM (by rw [aD,HCL.o]; omega),bE,bF (by omega),A0U,<-HTK.o,bE,bF (by rw [<-HN.o]; omega)]
  have e2:(c1.drop (i*20+20)).take ((n-i)*20)=usC (L.drop i):=by
   rw [HC1E.o,aL,List.drop_append_of_le_length (by rw [aD,HCL.o]; omega),aR (by rw [aD,HCL.o]; omega),List.nil_append,aM (by rw [HDL.o]; omega),aG (by rw [HDL.o]; omega)]
  rw [show u::L.drop i= [u]++L.drop i from rfl,Iw,Iw,Tq,u.cells_length,e1,<-e2];try simp only [aL]
  rw [bG,hq1,aG (by rw [hq1]; omega)];congr 1;rw [bG,u.cells_length,aG (by rw [u.cells_length]; omega)];congr 2
  omega) (Rc _)
 have HC4:=Ab HC3;clear h2 k2 HC2 HC3;go_wp2_with fail;go_ret;exact ⟨.slice (some ⟨g,0,none⟩) (n+1) cap,rfl,HC4.o⟩
theorem Z1 (L:List Us) (u:Us) (i g gq cap:Nat) (cur:List bH) (l:List Res) (w:bI) (h:Ad w (.blk g cur 164::.blk gq u.cells 164::l)) (hcl:cur.length=cap*20) (htk:cur.take (L.length*20)=usC L) (hi:i<L.length) (hfull:¬L.length+1<=cap) (hnc:L.length<=cap) (hl:L.length<=1000): bK aA 109 #[.slice (some ⟨g,0,none⟩) L.length cap,.int .i64 i,.slice (some ⟨gq,0,none⟩) 1 1] w λ e w'=>∃v',e=.returned v'/\Ad w' (.own 164 20 v' (L.length+1) (usC (L.take i++u::L.drop i))::.blk gq u.cells 164::l):=by
 obtain ⟨n,hn⟩:∃n,n=L.length:=⟨_,rfl⟩
 have hb:=h.zB g;have HC:=Ab h;have HTK:=Ab htk;have HCL:=Ab hcl;obtain ⟨ad,had,hsrc⟩:=Xw (cap:=cap) hb htk i (by omega) (by omega);have hcn:¬cap=i:=by omega
 simp only [Hr,if_neg hcn,Option.some.injEq] at had;subst had;have hsrcW:=λ (W:bI) (hb:Blk W g cur 164)=>Xw (w:=W) (cap:=cap) (L:=L) hb HTK.o i (by omega) (by omega)
 have HSRC:Hq (∀W:bI,Blk W g cur 164->∀j v,(usC (L.drop i))[j]?=some v->W.cell? ((⟨g,i*20,none⟩:Addr).add j)=some v):=Ab (λ W hb=>by
  obtain ⟨ad,h1,h2⟩:=hsrcW W hb;simp only [Hr,if_neg hcn,Option.some.injEq] at h1;subst h1;exact h2)
 rw [<-hn] at hi hfull hnc hl htk ⊢;obtain ⟨k,hik,hk⟩:∃k,i+k=n+1/\0<k:=⟨n+1-i,by omega,by omega⟩
 obtain ⟨gc,zs,hgc,hgm,hzs,happ⟩:=A1I (cap:=cap) hb hn.symm htk (by omega) hik hk (by omega) hl;have HAPP:=Ab happ;have HZS:=Ab hzs;have HGM:=Ab hgm;have hgn:¬gc=i:=by omega
 obtain ⟨g2,hg2⟩:∃g2,g2=w.heap.size:=⟨_,rfl⟩
 have HC1:=Ab (HC.o.drew.addBlkAt (usC (L.take i)++zs) 164 (b:=g2) hg2.symm);have HAPP:Hq (∀ty,(Builtin.append_ #[246,3] ty #[.slice (some ⟨g,0,none⟩) i cap,.int .i64 k]).run aA w=.ok (.slice (some ⟨g2,0,none⟩) (n+1) gc) (w.drew.alloc (.cells (usC (L.take i)++zs).toArray 164))):=Ab (by rw [hg2]; exact happ);obtain ⟨w1,hw1⟩:∃w1,w1=w.drew.alloc (.cells (usC (L.take i)++zs).toArray 164):=⟨_,rfl⟩
 rw [<-hw1] at HC1 HAPP;have hki:(n:Int)+1-i=k:=by omega
 have f0:∀W,(Instr.sliceAt 246 (.slice (some ⟨g,0,none⟩) n cap) (some (.int .i64 i)) none none).run aA W=.ok (.slice (some ⟨g,i*20,none⟩) (n-i) (cap-i)) W:=λ W=>by
  have:=Fz (P:=aA) aC szU g n cap i (by omega) (by omega) W;rw [Hr,if_neg hcn] at this;exact this
 have f1:∀W,(Instr.sliceAt 246 (.slice (some ⟨g,0,none⟩) n cap) none (some (.int .i64 i)) none).run aA W=.ok (.slice (some ⟨g,0,none⟩) i cap) W:=λ W=>Nn (P:=aA) aC szU g n cap i (by omega) W
 have f2:∀W,(Instr.sliceAt 246 (.slice (some ⟨g2,0,none⟩) (n+1) gc) (some (.int .i64 i)) none none).run aA W=.ok (.slice (some ⟨g2,i*20,none⟩) (n+1-i) (gc-i)) W:=λ W=>by
  have:=Fz (P:=aA) aC szU g2 (n+1) gc i (by omega) (by omega) W;rw [Hr,if_neg hgn] at this;exact this
 have f3:∀W,(Instr.sliceAt 246 (.slice (some ⟨g2,0,none⟩) (n+1) gc) (some (.int .i64 ((i:Int)+1))) none none).run aA W=.ok (.slice (some ⟨g2,(i+1)*20,none⟩) (n-i) (gc- (i+1))) W:=λ W=>by
  have:=Fz (P:=aA) aC szU g2 (n+1) gc (i+1) (by omega) (by omega) W;rw [Hr,if_neg (by omega),show n+1- (i+1)=n-i by omega] at this;exact this
 have F0:=Ab f0;have F3:=Ab f3;have hin:((i:Int)==(n:Int))=false:=by simp; omega
 have hgt:(cap:Int)< (n:Int)+1:=by omega
 have hdl:(usC (L.drop i)).length=(n-i)*20:=by rw [Ed,aF,<-hn]
 have hq1:(usC (L.take i)).length=i*20:=by rw [Ed,aD,<-hn]; congr 1; omega
 have HDL:=Ab hdl;have HQ1:=Ab hq1;have HN:=Ab hn;have HONE:Hq ((1:Nat)=min 1 (n+1-i)):=Ab (by omega);have HB1:=Ab (HC1.o.zB g2);have HBQ1:=Ab (HC1.o.zB gq);have HKI:=Ab hki;clear h hb htk hcl hsrc hdl hq1 hn happ hzs hgm hg2 hw1 hki hsrcW;go_enter aU,aV;go_wp2_with (first | ((with_reducible refine zw 40 ?_);refine Lib.wpList_append_run w rfl (.tmp 34) (.tmp 39) 246 3 rfl (.slice (some ⟨g,0,none⟩) i cap) (.int .i64 k) rfl (congrArg (bH.int .i64) HKI.o) _ _ (HAPP.o _) ?_) | ((with_reducible refine zw 45 ?_);refine Ty rfl (.tmp 43) (.tmp 44) Y9 rfl rfl HB1.o rfl (cs:=u.cells) (by rw [u.cells_length,<-HONE.o]) u.cells_one (λ j v hj=>by rw [Addr.add_lit,aQ,HBQ1.o.cell]; exact hj) (by rw [u.cells_length,aE,HQ1.o,HZS.o]; omega) ?_));intro w2 h2 k2;have h2':Blk w2 g2 ((usC (L.take i)++zs).take (i*20)++u.cells++(usC (L.take i)++zs).drop (i*20+u.cells.length)) 164:=by simpa using h2
 have HC2:=Ab (HC1.o.blkTurn h2' k2);obtain ⟨c2,hc2⟩:∃c2,c2=(usC (L.take i)++zs).take (i*20)++u.cells++(usC (L.take i)++zs).drop (i*20+u.cells.length):=⟨_,rfl⟩
 rw [<-hc2] at HC2;have hc2l:c2.length=gc*20:=by
  rw [hc2];simp only [aE,aD,aF,u.cells_length,HQ1.o,HZS.o];omega
 have hc2t:c2.take ((i+1)*20)=usC (L.take i)++u.cells:=by
  have eA:(usC (L.take i)++zs).take (i*20)=usC (L.take i):=by
   rw [aM (by rw [HQ1.o]; omega),aG (by rw [HQ1.o]; omega)]
  rw [hc2,eA,aM (by rw [aE,u.cells_length,HQ1.o]; omega),aG (by rw [aE,u.cells_length,HQ1.o]; omega)]
 have HC2L:=Ab hc2l;have HC2T:=Ab hc2t;have HB2:=Ab (HC2.o.zB g2);have HBG:=Ab (HC2.o.zB g);clear h2 h2' k2 hc2 hc2l hc2t;go_upto_region 11 with fail;refine wp_region_held (S:=λ _:bI=>True) (by kernel_rfl) ?_;change wpAnyH _ _ _ _ _ _ _ _ (bI.drew _);refine zH 0 ?_;refine zH 1 ?_;refine zH 2 ?_;refine zH 3 ?_ (v:=.int .i64 ((i:Int)+1)) (hr:=λ W hW=>by go_simp; rw [IntKind.wrap_i64]; omega);refine zH 4 ?_ (v:=.slice (some ⟨g2,(i+1)*20,none⟩) (n-i) (gc- (i+1))) (hr:=λ W hW=>by exact Fw rfl (F3.o W));refine zH 5 ?_;refine zH 6 ?_;refine zH 7 ?_ (v:=.slice (some ⟨g,i*20,none⟩) (n-i) (cap-i)) (hr:=λ W hW=>by exact Fw rfl (F0.o W));refine Bl (rs:= [8]) (by decide+kernel) (by simp) ?_;refine Av.cons (o:=⟨some 54,.call { callee:=.builtin .copy,args:=#[.tmp 50,.tmp 53],argTypes:=#[246,246] },_,_,_,none⟩) rfl (λ K hK=>?_) Av.nil;refine A0B rfl (.tmp 50) (.tmp 53) Y9 rfl rfl HB2.o.drew rfl (cs:=usC (L.drop i)) (by rw [HDL.o]; congr 1; omega) (Rc _) (HSRC.o _ HBG.o.drew) (by rw [HDL.o,HC2L.o]; omega) ?_;intro w3 hb3 hk3;have HC3:=Ab (HC2.o.drew.blkTurn hb3 hk3);clear hb3 hk3;refine zq hK ?_;clear hK K;refine wpAnyH_done (by decide+kernel) ?_ _;have HC4:=HC3.o.blkOwn 20 (n+1) gc (cs:=usC (L.take i++u::L.drop i)) (by
  simp only [aE,aD,aF,HC2L.o,HDL.o]
  omega) hgc HGM.o (by
  rw [HC2T.o,show u::L.drop i= [u]++L.drop i from rfl,Iw,Iw,Tq,<-aL];rw [aM (by simp only [aE,u.cells_length,HQ1.o,HDL.o]; omega),aG (by simp only [aE,u.cells_length,HQ1.o,HDL.o]; omega)]) (Rc _)
 have HC5:=Ab HC4.swap.tail;clear HC4;go_wp2_with fail;go_ret;exact ⟨.slice (some ⟨g2,0,none⟩) (n+1) gc,rfl,HC5.o⟩
theorem Sc (v:bH) (L:List Us) (u:Us) (i:Nat) (gq:Nat) (l:List Res) (w:bI) (h:Ad w (.own 164 20 v L.length (usC L)::.blk gq u.cells 164::l)) (hi:i<=L.length) (hl:L.length<=1000): bK aA 109 #[v,.int .i64 i,.slice (some ⟨gq,0,none⟩) 1 1] w λ e w'=>∃v',e=.returned v'/\Ad w' (.own 164 20 v' (L.take i++u::L.drop i).length (usC (L.take i++u::L.drop i))::.blk gq u.cells 164::l):=by
 have hlen:(L.take i++u::L.drop i).length=L.length+1:=by simp; omega
 rw [hlen];rcases bB hi with rfl | hlt
 . rw [List.take_length,List.drop_length];exact A1L v L u gq l w h hl
 . obtain ⟨g,cap,cur,rfl,hnc,hcm,hcl,htk,h⟩:=h.ownBlk (by omega);by_cases hroom:L.length+1<=cap
   . exact Z2 L u i g gq cap cur l w h hcl htk hcm hlt hroom hl
   . exact Z1 L u i g gq cap cur l w h hcl htk hlt hroom hnc hl
theorem Pi {W:bI} {p n:Nat} {L:List Us} {v:bH} {l:List Res} (hn:n=L.length) (h:Ad W (.blk p [v] 248::.own 164 20 v n (usC L)::l)):Ad W (Bg p L::l):=by
 subst hn;exact Rn h
theorem Zb {P:bL} {o:bM} {a:Act} {W:bI} {ty:bJ} {m b off:Nat} {x:Operand} {cs:List bH} (ho:o.op=.load ty x) (hT:A3 P ty m) (hx:a.eval x=.pointer (some ⟨b,off,none⟩)) (hm:cs.length=m) (hc:Ao W b off cs): (execOp a.eval o).run P W=.ok (.value (.agg cs.toArray)) W:=by
 have h:=Ek hT hm hc;unfold execOp;simp only [ho,hx,Instr.loadAt,Instr.sureAddr,Sem.run_bind,Sem.run_pure,Result.andThen_ok,h]
theorem Yc (l:List Res) (w:bI) (h:Ad w l):bK aA 106 #[] w λ e w'=>∃p,e=.returned (.pointer (some ⟨p,0,none⟩))/\Ad w' (Bg p []::l):=by
 have HC:Hq (Ad (w.alloc (.cells #[.slice none 0 0] 248)) (Bg w.heap.size []::l)):=Ab (Rn (L:= []) ((h.addNil 164 20).addBlk [.slice none 0 0] 248));clear h;go_enter Tryz.func106,Tryz.ntmps106;go_wp2_with fail;go_ret;exact ⟨w.heap.size,rfl,HC.o⟩
def Jo (L:List Us) (u:Us):List Us×Int:=
 if Au u.name=false then (L,6) else if u.life<1\/600<u.life\/u.renew<0\/6000<u.renew then (L,7) else if N7 L u.name=true then (L,10) else if L.length=32 then (L,8) else (A6d L u,0)
theorem A5R (p:Nat) (L:List Us) (u:Us) (l:List Res) (w:bI) (h:Ad w (Bg p L::l)) (hs:Fc L) (hl:L.length<=32) (hn:u.name.size<=maxLen): bK aA 50 #[.pointer (some ⟨p,0,none⟩),.agg u.cells.toArray] w λ e w'=>e=.returned (.int .i64 (Jo L u).2)/\Ad w' (Bg p (Jo L u).1::l):=by
 obtain ⟨q,hq⟩:∃q,q=w.heap.size:=⟨_,rfl⟩
 have h1:=Ab (h.addBlkAt u.cells 164 hq.symm);have HC:Hq (Ad (w.alloc (.cells u.cells.toArray 164)) (Bg p L::.blk q u.cells 164::l)):=Ab h1.o.swap;have HP:=Ab (Vi p L u.name _ _ HC.o hs (by omega));have hbq:=HC.o.zB q;have c0:=hbq.cell 0;rw [u.c0] at c0;have HN:=Ab hn;have HS:=Ab hs;clear h h1 hs hn hbq;go_enter Tryz.func50,Tryz.ntmps50;rw [hq] at c0 HC;go_wp2_with fail;rw [<-hq] at c0 HC ⊢;refine HP.o.mono ?_;rintro e w1 ⟨rfl,hb⟩;have HC:=Ab (HC.o.step (hb.mono (aB _)));have hbq:=HC.o.zB q;have c0:=hbq.cell 0;rw [u.c0] at c0;clear hb HP hbq hq;go_wp2_with fail;refine (Mm u.name _ HN.o).mono ?_;rintro e w2 ⟨rfl,hb⟩;have HC:=Ab (HC.o.step (hb.mono (aB _)));have hbq:=HC.o.zB q;have c17:=hbq.cell 17;have c18:=hbq.cell 18;rw [u.c17] at c17;rw [u.c18] at c18;clear hb hbq c0;obtain ⟨R,hR⟩:∃R,R=Au u.name:=⟨_,rfl⟩
 rw [<-hR];have HR:=Ab hR;clear hR
 cases R with
 | false=>
  have HA:Hq (Jo L u=(L,6)):=Ab (by rw [Jo,if_pos HR.o.symm]);go_wp2_with fail;go_ret;rw [HA.o];exact ⟨rfl,HC.o.swap.tail⟩
 | true=>
  have HR1:Hq (¬Au u.name=false):=Ab (by rw [<-HR.o]; decide);by_cases hbad:u.life<1\/600<u.life\/u.renew<0\/6000<u.renew
  . have HA:Hq (Jo L u=(L,7)):=Ab (by rw [Jo,if_neg HR1.o,if_pos hbad]);have hsp:u.life<1\/(¬u.life<1/\600<u.life)\/(¬u.life<1/\¬600<u.life/\u.renew<0)\/(¬u.life<1/\¬600<u.life/\¬u.renew<0/\6000<u.renew):=by omega
    clear hbad;rcases hsp with h1 | ⟨h1,h2⟩ | ⟨h1,h2,h3⟩ | ⟨h1,h2,h3,h4⟩
    all_goals
     go_wp2_with fail;go_ret;rw [HA.o];exact ⟨rfl,HC.o.swap.tail⟩
  . have h1:¬u.life<1:=by omega
    have h2:¬600<u.life:=by omega
    have h3:¬u.renew<0:=by omega
    have h4:¬6000<u.renew:=by omega
    have HBAD:=Ab hbad;clear hbad;obtain ⟨B,hB⟩:∃B,B=N7 L u.name:=⟨_,rfl⟩
    rw [<-hB];have HB:=Ab hB;clear hB
    cases B with
    | true=>
     have HA:Hq (Jo L u=(L,10)):=Ab (by rw [Jo,if_neg HR1.o,if_neg HBAD.o,if_pos HB.o.symm]);go_wp2_with fail;go_ret;rw [HA.o];exact ⟨rfl,HC.o.swap.tail⟩
    | false=>
     have HB1:Hq (¬N7 L u.name=true):=Ab (by rw [<-HB.o]; decide);obtain ⟨a,c,hc,hm,hop⟩:=Nc HC.o;have HO:=Ab hop;have hbp:=hop.zB p;have p0:=hbp.cell 0;simp only [aH] at p0;clear hbp hop;by_cases hfull:L.length=32
     . have HA:Hq (Jo L u=(L,8)):=Ab (by rw [Jo,if_neg HR1.o,if_neg HBAD.o,if_neg HB1.o,if_pos hfull]);have hf:((L.length:Int)==32)=true:=by simp; omega
       go_wp2_with fail;go_ret;rw [HA.o];exact ⟨rfl,HC.o.swap.tail⟩
     . have HA:Hq (Jo L u=(A6d L u,0)):=Ab (by rw [Jo,if_neg HR1.o,if_neg HBAD.o,if_neg HB1.o,if_neg hfull]);have hf:((L.length:Int)==32)=false:=by simp; omega
       clear HC;go_upto_region 10 with fail;have HC:=Ab HO.o.drew;refine wp_region_held (S:=λ W:bI=>Blk W q u.cells 164) (by kernel_rfl) ?_;change wpAnyH _ _ _ _ _ _ _ _ (bI.drew _);refine zH 0 ?_ (hS:=(HC.o.zB q));refine zH 1 ?_ (hS:=(HC.o.zB q));refine zH 2 ?_ (hS:=(HC.o.zB q));refine zH 3 ?_ (hS:=(HC.o.zB q));refine zH 5 ?_ (hS:=(HC.o.zB q));refine zH 6 ?_ (v:=.agg u.cells.toArray) (hr:=λ W hW=>by exact Zb rfl Pg rfl u.cells_length hW.cellsAll) (hS:=(HC.o.zB q));refine Bl (rs:= [4,7]) (by decide+kernel) (by simp) ?_;refine Av.cons (o:=⟨some 51,.load 246 (.tmp 50),_,_,_,none⟩) rfl (λ K hK=>?_) (Av.cons (o:=⟨some 54,.buildSlice 246 1 #[(0,.tmp 53)],_,_,_,none⟩) rfl (λ K hK=>?_) Av.nil)
       . have hkp:=HC.o.zB p;have k0:=hkp.cell 0;simp only [aH] at k0;clear hkp;go_simp;refine hK _ _ (HC.o.zB q) ?_;clear hK K;try go_frame
         refine Bl (rs:= [7]) (by decide+kernel) (by simp) ?_;refine Av.cons (o:=⟨some 54,.buildSlice 246 1 #[(0,.tmp 53)],_,_,_,none⟩) rfl (λ K hK=>?_) Av.nil;refine Is rfl (.tmp 53) Y9 rfl rfl (by simpa using u.cells_length) (by decide) ?_;obtain ⟨q2,hq2⟩:∃q2,q2=w2.drew.heap.size:=⟨_,rfl⟩
         have HC:=Ab (HC.o.addBlkAt u.cells 164 hq2.symm);rw [<-hq2];obtain ⟨w7,hw7⟩:∃w7,w7=w2.drew.alloc (.cells u.cells.toArray 164):=⟨_,rfl⟩
         rw [<-hw7] at HC ⊢;clear hq2 hw7;refine hK _ _ (HC.o.zB q) ?_;clear hK K;try go_frame
         refine Bl (rs:= [8]) (by decide+kernel) (by simp) ?_;refine Av.cons (o:=⟨some 55,.call { callee:=.value (.func 109),args:=#[.tmp 51,.tmp 52,.tmp 54],argTypes:=#[246,3,246] },_,_,_,none⟩) rfl (λ K hK=>?_) Av.nil;go_simp;refine (Sc (.slice a L.length c) L u (H7 L u.name) q2 _ _ (HC.o.front (m:= [_,_,_,_]) (l:=l) [2,0,1,3] 4 (by decide)) (A3a _ _) (by omega)).mono ?_;rintro e w3 ⟨v',rfl,hc⟩;obtain ⟨a3,c3,rfl,_,_⟩:=(hc.ownOf (aI)).1.sl.form;obtain ⟨n3,hn3⟩:∃n3,n3=(L.take (H7 L u.name)++u::L.drop (H7 L u.name)).length:=⟨_,rfl⟩
         rw [<-hn3] at hc ⊢;have HN3:=Ab hn3;clear hn3;have HC:=Ab (hc.front (m:= [_,_,_,_]) (l:=l) [2,0,3,1] 4 (by decide));clear hc;refine hK _ _ (HC.o.blkOf (p:=q) (cs:=u.cells) (T:=164) (by simp)) ?_;clear hK K;try go_frame
         refine zH 9 ?_ (v:=.pointer (some ⟨p,0,none⟩)) (hr:=λ W hW=>by go_simp) (hS:=(HC.o.blkOf (p:=q) (cs:=u.cells) (T:=164) (by simp)));refine zH 10 ?_ (v:=.pointer (some ⟨p,0,none⟩)) (hr:=λ W hW=>by go_simp) (hS:=(HC.o.blkOf (p:=q) (cs:=u.cells) (T:=164) (by simp)));refine Bl (rs:= [11]) (by decide+kernel) (by simp) ?_;refine Av.cons (o:=⟨none,.store 246 (.tmp 57) (.tmp 55),_,_,_,none⟩) rfl (λ K hK=>?_) Av.nil;have hkp:=HC.o.blkOf (p:=p) (cs:= [.slice a L.length c]) (T:=248) (by simp);have k0:=hkp.cell 0;have kf0:=hkp.frozen 0;simp only [aH] at k0;clear hkp;go_simp;have HC:=Ab (HC.o.set 0 (.slice a3 n3 c3));refine hK _ _ (HC.o.blkOf (p:=q) (cs:=u.cells) (T:=164) (by simp)) ?_;clear hK K;try go_frame
         refine wpAnyH_done (by decide+kernel) ?_ _;go_wp2_with fail;go_ret;rw [HA.o];have h9:=(HC.o.front (m:= [_,_,_,_]) (l:=l) [2,3,0,1] 4 (by decide)).tail.tail;exact ⟨rfl,Pi (L:=A6d L u) HN3.o h9⟩
       . refine Is rfl (.tmp 53) Y9 rfl rfl (by simpa using u.cells_length) (by decide) ?_;obtain ⟨q2,hq2⟩:∃q2,q2=w2.drew.heap.size:=⟨_,rfl⟩
         have HC:=Ab (HC.o.addBlkAt u.cells 164 hq2.symm);rw [<-hq2];obtain ⟨w7,hw7⟩:∃w7,w7=w2.drew.alloc (.cells u.cells.toArray 164):=⟨_,rfl⟩
         rw [<-hw7] at HC ⊢;clear hq2 hw7;refine hK _ _ (HC.o.zB q) ?_;clear hK K;try go_frame
         refine Bl (rs:= [4]) (by decide+kernel) (by simp) ?_;refine Av.cons (o:=⟨some 51,.load 246 (.tmp 50),_,_,_,none⟩) rfl (λ K hK=>?_) Av.nil;have hkp:=HC.o.zB p;have k0:=hkp.cell 0;simp only [aH] at k0;clear hkp;go_simp;refine hK _ _ (HC.o.zB q) ?_;clear hK K;try go_frame
         refine Bl (rs:= [8]) (by decide+kernel) (by simp) ?_;refine Av.cons (o:=⟨some 55,.call { callee:=.value (.func 109),args:=#[.tmp 51,.tmp 52,.tmp 54],argTypes:=#[246,3,246] },_,_,_,none⟩) rfl (λ K hK=>?_) Av.nil;go_simp;refine (Sc (.slice a L.length c) L u (H7 L u.name) q2 _ _ (HC.o.front (m:= [_,_,_,_]) (l:=l) [2,0,1,3] 4 (by decide)) (A3a _ _) (by omega)).mono ?_;rintro e w3 ⟨v',rfl,hc⟩;obtain ⟨a3,c3,rfl,_,_⟩:=(hc.ownOf (aI)).1.sl.form;obtain ⟨n3,hn3⟩:∃n3,n3=(L.take (H7 L u.name)++u::L.drop (H7 L u.name)).length:=⟨_,rfl⟩
         rw [<-hn3] at hc ⊢;have HN3:=Ab hn3;clear hn3;have HC:=Ab (hc.front (m:= [_,_,_,_]) (l:=l) [2,0,3,1] 4 (by decide));clear hc;refine hK _ _ (HC.o.blkOf (p:=q) (cs:=u.cells) (T:=164) (by simp)) ?_;clear hK K;try go_frame
         refine zH 9 ?_ (v:=.pointer (some ⟨p,0,none⟩)) (hr:=λ W hW=>by go_simp) (hS:=(HC.o.blkOf (p:=q) (cs:=u.cells) (T:=164) (by simp)));refine zH 10 ?_ (v:=.pointer (some ⟨p,0,none⟩)) (hr:=λ W hW=>by go_simp) (hS:=(HC.o.blkOf (p:=q) (cs:=u.cells) (T:=164) (by simp)));refine Bl (rs:= [11]) (by decide+kernel) (by simp) ?_;refine Av.cons (o:=⟨none,.store 246 (.tmp 57) (.tmp 55),_,_,_,none⟩) rfl (λ K hK=>?_) Av.nil;have hkp:=HC.o.blkOf (p:=p) (cs:= [.slice a L.length c]) (T:=248) (by simp);have k0:=hkp.cell 0;have kf0:=hkp.frozen 0;simp only [aH] at k0;clear hkp;go_simp;have HC:=Ab (HC.o.set 0 (.slice a3 n3 c3));refine hK _ _ (HC.o.blkOf (p:=q) (cs:=u.cells) (T:=164) (by simp)) ?_;clear hK K;try go_frame
         refine wpAnyH_done (by decide+kernel) ?_ _;go_wp2_with fail;go_ret;rw [HA.o];have h9:=(HC.o.front (m:= [_,_,_,_]) (l:=l) [2,3,0,1] 4 (by decide)).tail.tail;exact ⟨rfl,Pi (L:=A6d L u) HN3.o h9⟩
theorem A4e:Tryz.prog.built 164 []=some zsU.toArray:=by kernel_rfl
theorem A1a {P:bL} {ops:Array bM} {rest:List bM} {o:bM} {a:Act} {w:bI} {Q:Exit->Act->bI->Prop} (hgd:Region.wanted o (yielded ops a.tmps)=true) {ty:bJ} (ho:o.op=.build ty #[]) {cells:Array bH} (hb:P.built ty []=some cells) (h:wpList P ops Q rest (a.put o.dst (.agg cells)) w):wpList P ops Q (o::rest) a w:=by
 refine Bh hgd λ K hK=>?_
 have hr:=run_build (P:=P) w ty #[] cells hb;unfold bM.wp execOp;simp only [ho,Sem.run_bind,Sem.run_pure,Result.andThen_ok,aJ,aK,hr];exact hK _ _ h
def Qm (L:List Us) (s:ByteArray):List bH:=if N7 L s=true then (match L[H7 L s]? with | some u=>u.cells | none=>zsU) else zsU
def Qn (L:List Us) (s:ByteArray):Int:=if N7 L s=true then 0 else 9
theorem A0T (p:Nat) (L:List Us) (s:ByteArray) (l:List Res) (w:bI) (h:Ad w (Bg p L::l)) (hs:Fc L) (hl:L.length<=32): bK aA 63 #[.pointer (some ⟨p,0,none⟩),.string s] w λ e w'=>e=.returned (.tuple #[.agg (Qm L s).toArray,.int .i64 (Qn L s)])/\Below w.heap.size w w':=by
 obtain ⟨q,hq⟩:∃q,q=w.heap.size:=⟨_,rfl⟩
 have h1:=Ab (h.addBlkAt zsU 164 hq.symm);have HP:=Ab (Vi p L s _ _ h1.o.swap hs (by omega));have hba:Below w.heap.size w (w.alloc (.cells zsU.toArray 164)):=(Below.refl _ _).alloc (aB _) _;have HBA:=Ab hba;clear h hs hba;go_enter Tryz.func63,Tryz.ntmps63;go_wp2_with fail;rw [<-hq];refine HP.o.mono ?_;rintro e w1 ⟨rfl,hb⟩;have HC1:=Ab (h1.o.swap.step hb);have HB1:=Ab (HBA.o.trans (hb.mono HBA.o.size));obtain ⟨a,c,hc,hm,hop⟩:=Nc HC1.o;have HSL:=Ab (hop.ownOf (e:=164) (sz:=20) (v:=.slice a L.length c) (n:=L.length) (cs:=usC L) (by simp)).1.sl;have HQ:=Ab (hop.zB q);have hbp:=hop.zB p;have p0:=hbp.cell 0;simp only [aH] at p0;have HQW:=Ab hq;clear hbp hop hb HP h1 HBA hq;obtain ⟨B,hB⟩:∃B,B=N7 L s:=⟨_,rfl⟩
 rw [<-hB];have HB:=Ab hB;clear hB
 cases B with
 | false=>
  have HA:Hq (Qm L s=zsU/\Qn L s=9):=Ab (by unfold Qm Qn; rw [<-HB.o]; exact ⟨rfl,rfl⟩);go_wp2_with (first | ((with_reducible refine zw 16 ?_);refine A1a rfl rfl A4e ?_) | ((with_reducible refine zws 4 16 ?_);refine Ag rfl (.tmp 4) (.tmp 16) Pg rfl rfl (vs:=zsU) rfl rfl HQ.o (aB _) A6X ?_));intro w2 h2 k2;have H2:Hq (Blk w2 q zsU 164):=Ab (by simpa [show zsU.drop 20= [] from rfl] using h2);have HB2:=Ab (HB1.o.trans (k2.below (λ k hk=>by rw [hk,HQW.o]; exact aB _) |>.mono (aB _)));clear h2 k2;go_wp2_with fail;rw [HA.o.1,HA.o.2];exact bodyPost_ret (Ap rfl Pg rfl (cs:=zsU) rfl H2.o.cellsAll) rfl ⟨rfl,HB2.o⟩
 | true=>
  obtain ⟨hk,-⟩:=A3A HB.o.symm;obtain ⟨u,hu⟩:∃u,u=L[H7 L s]:=⟨_,rfl⟩
  have HA:Hq (Qm L s=u.cells/\Qn L s=0):=Ab (by unfold Qm Qn; rw [<-HB.o,bC hk,hu]; exact ⟨rfl,rfl⟩);obtain ⟨bl,ol,rfl,_⟩:=HSL.o.addr (by rw [Ed]; omega);have hce:=Pa HSL.o (Below.refl _ _) (H7 L s) hk;rw [<-hu] at hce;have HCE:=Ab hce;obtain ⟨k,hkk⟩:∃k,k=H7 L s:=⟨_,rfl⟩
  rw [<-hkk] at HCE hk ⊢;clear hce hu hkk;go_wp2_with (first | ((with_reducible refine zw 23 ?_);refine Aj rfl (.tmp 22) Pg rfl rfl (cs:=u.cells) u.cells_length HCE.o ?_) | ((with_reducible refine zws 4 23 ?_);refine Ag rfl (.tmp 4) (.tmp 23) Pg rfl rfl (vs:=u.cells) rfl u.cells_length HQ.o (aB _) u.cells_one ?_));intro w2 h2 k2;have H2:Hq (Blk w2 q u.cells 164):=Ab (by simpa [zsU] using h2);have HB2:=Ab (HB1.o.trans (k2.below (λ k hk=>by rw [hk,HQW.o]; exact aB _) |>.mono (aB _)));clear h2 k2;go_wp2_with fail;rw [HA.o.1,HA.o.2];exact bodyPost_ret (Ap rfl Pg rfl (cs:=u.cells) u.cells_length H2.o.cellsAll) rfl ⟨rfl,HB2.o⟩
end Go.Proofs.YtcnfaghcjlhoiaaGreat
namespace Go.Proofs.YtcnfaghcjlhoiaaGreat
open Go.RowKit Go.Maps
namespace PS
def knd:PS->Bool
 | .sym _=>false
theorem knd_fresh (s:PS):s.fresh.2.knd=s.knd:=by cases s <;> rfl
theorem knd_text (s:PS) (a b:Aa):(s.text a b).2.knd=s.knd:=by cases s <;> rfl
theorem knd_derive (s:PS) (a:Aa) (b:ByteArray):(s.derive a b).2.knd=s.knd:=by cases s <;> rfl
theorem knd_shut (s:PS) (k:Aa) (u:Nat) (b:Aa):(s.shut k u b).2.knd=s.knd:=by cases s <;> rfl
theorem knd_digest (s:PS) (b:Aa):(s.digest b).2.knd=s.knd:=by cases s <;> rfl
end PS
def tyI (b:Bool):bJ:=33
def pvI (b:Bool) (q:Nat):bH:=.iface (tyI b) (.pointer (some ⟨q,0,none⟩))
theorem Bf {s:PS} {b:Bool} (h:s.knd=b) (q:Nat):pvI b q=pvV s q:=by subst h; cases s <;> rfl
theorem Qy:A3 aA 164 20:=A3.mk bA rfl (by kernel_rfl)
def Hz (b:Bool) (q bp:Nat) (k:Aa):List bH:= [pvI b q,.pointer (some ⟨bp,0,none⟩)]++Ae k
theorem A3t (b:Bool) (q bp:Nat) (k:Aa) (h:k.length=16):Tryz.prog.built 160 [(0,pvI b q),(1,.pointer (some ⟨bp,0,none⟩)),(2,.agg (Ae k).toArray)]=some (Hz b q bp k).toArray:=by
 obtain ⟨c0,c1,c2,c3,c4,c5,c6,c7,c8,c9,c10,c11,c12,c13,c14,c15,rfl⟩:=By k h;unfold pvI Hz
 kernel_rfl
theorem A1x (n:ByteArray) (k:Aa) (h:k.length=16) (x y:Int) (b:Bool):Tryz.prog.built 164 [(0,.string n),(1,.agg (Ae k).toArray),(2,.int .i64 x),(3,.int .i64 y),(4,.bool b)]=some (Us.mk n k h x y b).cells.toArray:=by
 obtain ⟨c0,c1,c2,c3,c4,c5,c6,c7,c8,c9,c10,c11,c12,c13,c14,c15,rfl⟩:=By k h
 kernel_rfl
def Ck (kp:Nat) (b:Bool) (q bp:Nat) (k:Aa):Res:=.blk kp (Hz b q bp k) 160
def A7p (q:Nat) (s:PS) (l:List Res) (e:Ending) (w':bI):Prop:=
 ∃kp bp,e=.returned (.pointer (some ⟨kp,0,none⟩))/\Ad w' (Ck kp s.knd q bp s.fresh.1::Bg bp []::pvR q s.fresh.2::l)
theorem A1P (q:Nat) (s:PS) (l:List Res) (w:bI) (h:Ad w (pvR q s::l)) (hs:s.sz<1099511627776): bK aA 48 #[pvV s q] w (A7p q s l):=by
 have HC:=Ab h;have HFR:=Ab (λ (w:bI) (l:List Res) (h:Ad w (pvR q s::l))=>Hl q s l w h hs);have HKL:Hq (s.fresh.1.length=16):=Ab (PS.fresh_len s);have HV:Hq (pvV s q=pvI s.knd q):=Ab (Bf rfl q).symm;have h1:=λ j a w=>Fy s j a "Fresh" (by simp) w
 have h2:=λ j a w=>L6 s j a w
 have h3:∀(args:Array bH) (w:bI),(callFunc (Dc s) args).run aA w=.ok (.enter (Dc s) args) w:=Lh s
 clear h hs;unfold pvV A1 at*;go_enter Tryz.func48,Tryz.ntmps48;go_wp2_with fail;refine (Yc _ _ HC.o).mono ?_;rintro e w1 ⟨bp,rfl,hc⟩;have HC:=Ab hc;clear hc;go_wp2_with fail;refine (HFR.o _ _ HC.o.swap).mono ?_;rintro e w2 ⟨rfl,hc⟩;have HC:=Ab hc;clear hc;go_wp2_with ((with_reducible refine zw 7 ?_);refine De rfl rfl (by simp [Act.eval]; rfl) (by rw [HV.o]; exact A3t s.knd q bp s.fresh.1 HKL.o) ?_);go_ret;exact ⟨w2.heap.size,bp,rfl,(HC.o.swap.addBlkAt (Hz s.knd q bp s.fresh.1) 160 rfl)⟩
def Rh (kp q bp:Nat) (s:PS) (K:Aa) (L:List Us) (u:Us) (s2:PS) (l:List Res) (e:Ending) (w':bI):Prop:=
 e=.returned (.int .i64 (Jo L u).2)/\Ad w' (Ck kp s.knd q bp K::Bg bp (Jo L u).1::pvR q s2::l)
theorem N8 (kp q bp:Nat) (s:PS) (K:Aa) (L:List Us) (u:Us) (pw:ByteArray) (l:List Res) (w:bI) (h:Ad w (Ck kp s.knd q bp K::Bg bp L::pvR q s::l)) (hs:s.sz<1099511627776) (hk:u.key=(s.text pw.data.toList u.name.data.toList).1) (hL:Fc L) (hl:L.length<=32) (hn:u.name.size<=100000) (hp:pw.size<=100000): bK aA 22 #[.pointer (some ⟨kp,0,none⟩),.string u.name,.string pw,.int .i64 u.life,.int .i64 u.renew,.bool u.mesh] w (Rh kp q bp s K L u (s.text pw.data.toList u.name.data.toList).2 l):=by
 obtain ⟨⟨k1,s2⟩,hx⟩:∃x,x=s.text pw.data.toList u.name.data.toList:=⟨_,rfl⟩
 have HTX:=Ab (λ (w:bI) (l:List Res) (h:Ad w (pvR q s::l))=>Sz q s pw u.name l w h hp hn hs);rw [<-hx] at HTX hk ⊢;have HADD:=Ab (λ (w:bI) (l:List Res) (h:Ad w (Bg bp L::l))=>A5R bp L u l w h hL hl (by unfold maxLen; omega));have hbu:Tryz.prog.built 164 [(0,.string u.name),(1,.agg (Ae u.key).toArray),(2,.int .i64 u.life),(3,.int .i64 u.renew),(4,.bool u.mesh)]=some u.cells.toArray:=A1x u.name u.key u.kl u.life u.renew u.mesh;simp only at hk HTX ⊢;rw [hk] at hbu;have HBU:Hq (Tryz.prog.built 164 [(0,.string u.name),(1,.agg (Ae k1).toArray),(2,.int .i64 u.life),(3,.int .i64 u.renew),(4,.bool u.mesh)]=some u.cells.toArray):=Ab hbu;have hkc:Hz s.knd q bp K= [.iface (pvT s) (.pointer (some ⟨q,0,none⟩)),.pointer (some ⟨bp,0,none⟩)]++Ae K:=by rw [Hz,Bf rfl]; rfl
 have h2:Ad w (.blk kp ([.iface (pvT s) (.pointer (some ⟨q,0,none⟩)),.pointer (some ⟨bp,0,none⟩)]++Ae K) 160::Bg bp L::pvR q s::l):=by rw [<-hkc]; exact h
 have HKC:=Ab hkc;have HC:=Ab h2;obtain ⟨KC,hKC⟩:∃x,x= [.iface (pvT s) (.pointer (some ⟨q,0,none⟩)),.pointer (some ⟨bp,0,none⟩)]++Ae K:=⟨_,rfl⟩
 rw [<-hKC] at HC HKC;have HC0:Hq (KC[0]?=some (.iface (pvT s) (.pointer (some ⟨q,0,none⟩)))):=Ab (by rw [hKC]; rfl);have HC1:Hq (KC[1]?=some (.pointer (some ⟨bp,0,none⟩))):=Ab (by rw [hKC]; rfl);have g1:=λ j a w=>Fy s j a "Text" (by simp) w
 have g2:=λ j a w=>A3e s j a w
 have g3:∀(args:Array bH) (w:bI),(callFunc (Io s) args).run aA w=.ok (.enter (Io s) args) w:=A2P s
 clear h hs hk hL hl hn hp hbu hkc h2 hx hKC;unfold A1 at HTX;go_enter Tryz.func22,Tryz.ntmps22;go_wp2_with fail;refine B5 [] (λ b W=>W.cell? ⟨kp,0,none⟩=some (.iface (pvT s) (.pointer (some ⟨q,0,none⟩)))/\W.cell? ⟨kp,1,none⟩=some (.pointer (some ⟨bp,0,none⟩))) (by kernel_rfl) ?_;have HC:=Ab HC.o.drew;refine zT 0 ?_ (hS:=⟨(HC.o.blk0.cell 0).trans HC0.o,(HC.o.blk0.cell 1).trans HC1.o⟩);refine zT 1 ?_ (hS:=⟨(HC.o.blk0.cell 0).trans HC0.o,(HC.o.blk0.cell 1).trans HC1.o⟩);refine zT 2 ?_ (hS:=⟨(HC.o.blk0.cell 0).trans HC0.o,(HC.o.blk0.cell 1).trans HC1.o⟩);refine zT 3 ?_ (hS:=⟨(HC.o.blk0.cell 0).trans HC0.o,(HC.o.blk0.cell 1).trans HC1.o⟩);refine zT 4 ?_ (hS:=⟨(HC.o.blk0.cell 0).trans HC0.o,(HC.o.blk0.cell 1).trans HC1.o⟩);refine zT 5 ?_ (hS:=⟨(HC.o.blk0.cell 0).trans HC0.o,(HC.o.blk0.cell 1).trans HC1.o⟩);refine zT 6 ?_ (hS:=⟨(HC.o.blk0.cell 0).trans HC0.o,(HC.o.blk0.cell 1).trans HC1.o⟩);refine zT 7 ?_ (hS:=⟨(HC.o.blk0.cell 0).trans HC0.o,(HC.o.blk0.cell 1).trans HC1.o⟩);refine zT 8 ?_ (hS:=⟨(HC.o.blk0.cell 0).trans HC0.o,(HC.o.blk0.cell 1).trans HC1.o⟩);refine zT 9 ?_ (hS:=⟨(HC.o.blk0.cell 0).trans HC0.o,(HC.o.blk0.cell 1).trans HC1.o⟩);refine zT 10 ?_ (hS:=⟨(HC.o.blk0.cell 0).trans HC0.o,(HC.o.blk0.cell 1).trans HC1.o⟩);refine zT 12 ?_ (hS:=⟨(HC.o.blk0.cell 0).trans HC0.o,(HC.o.blk0.cell 1).trans HC1.o⟩);refine zT 13 ?_ (hS:=⟨(HC.o.blk0.cell 0).trans HC0.o,(HC.o.blk0.cell 1).trans HC1.o⟩);refine zT 14 ?_ (hS:=⟨(HC.o.blk0.cell 0).trans HC0.o,(HC.o.blk0.cell 1).trans HC1.o⟩);refine zJ 11 λ K hK=>?_
 go_simp;refine (HTX.o _ _ HC.o.pull3).mono ?_;rintro e w1 ⟨rfl,hc⟩;have HC:=Ab (hc.zP [1,1]);clear hc;refine hK _ _ ⟨(HC.o.blk0.cell 0).trans HC0.o,(HC.o.blk0.cell 1).trans HC1.o⟩ ?_;clear hK K;try go_frame
 refine zT 15 ?_ (v:=.agg u.cells.toArray) (hr:=λ l W hk hW=>Gh (by simp [Act.eval]) HBU.o W) (hS:=⟨(HC.o.blk0.cell 0).trans HC0.o,(HC.o.blk0.cell 1).trans HC1.o⟩);refine zJ 16 λ K hK=>?_
 go_simp;refine (HADD.o _ _ HC.o.swap).mono ?_;rintro e w2 ⟨rfl,hc⟩;have HC:=Ab hc.swap;clear hc;refine hK _ _ ⟨(HC.o.blk0.cell 0).trans HC0.o,(HC.o.blk0.cell 1).trans HC1.o⟩ ?_;clear hK K;try go_frame
 refine zT 17 ?_ (hS:=⟨(HC.o.blk0.cell 0).trans HC0.o,(HC.o.blk0.cell 1).trans HC1.o⟩);refine zD ?_;go_wp2_with fail;go_ret;refine ⟨rfl,?_⟩;have h:=HC.o;rw [<-HKC.o] at h;exact h
 end Go.Proofs.YtcnfaghcjlhoiaaGreat
