/- Texts of this proof, one behind the other: Digest, PvR, KeyOps, SeR, AesD, AesP, AesB, AesM. -/
import Derived.Test.YtnihelcjmahmnaaGreatWrB1
import Derived.Test.YtnihelcjmahmnaaGreatWrB2
import Derived.Test.YtnihelcjmahmnaaGreatWrB3
import Derived.Test.YtnihelcjmahmnaaGreatWrB4
import Derived.Test.YtnihelcjmahmnaaGreatWrB5
import Derived.Test.YtnihelcjmahmnaaGreatWrB7
import Derived.Test.YtnihelcjmahmnaaGreatWrB8
set_option linter.unusedSimpArgs false
set_option linter.unusedVariables false
set_option maxRecDepth 100000
set_option maxHeartbeats 16000000
open Go.Proofs.Tryz renaming prog -> aA, func171 -> aN, ntmps171 -> aO, func162 -> aQ, ntmps162 -> aR
open Nat renaming le_refl -> aC, zero_le -> aD, mod_eq_of_lt -> aF, pow_succ -> aI, zero_add -> aJ, shiftLeft_eq -> aP, shiftRight_eq_div_pow -> aS
open List renaming take_of_length_le -> aE, length_set -> aG, replicate -> aH, flatten_cons -> aK, flatten_nil -> aL, append_nil -> aM
open Go renaming Value -> aT, World -> aU, Calls -> aV, IntKind -> aW
namespace Go.Proofs.YtnihelcjmahmnaaGreat
open Go.RowKit
def A5I (p:Nat) (kv bv mp:aT) (sums:List (List UInt8)) (b:List UInt8) (l:List Res) (e:Ending) (w':aU):Prop:=
  ∃q,e=.returned (.slice (some ⟨q,0,none⟩) 16 16)/\Ac w' (A5o p kv bv mp (Rk sums b)::.row (.slice (some ⟨q,0,none⟩) 16 16) (Vl sums b)::l)
theorem Nr (k:Nat) (hk:k<1099511627777) (w:aU):aV aA 194 #[.int .u8 100,.int .i64 ((k:Int)+1)] w (Qs w 100 (k+1)):=Ns 100 (k+1) (by omega) w
theorem A0z (p:Nat) (kv bv mp:aT) (sums:List (List UInt8)) (v:aT) (b:List UInt8) (l:List Res) (w:aU) (h:Ac w (A5o p kv bv mp sums::l)) (hb:Bs w v b) (hbl:b.length<=1099511627776) (hn:sums.length<1099511627776): aV aA 185 #[.pointer (some ⟨p,0,none⟩),v] w (A5I p kv bv mp sums b l):=by
  obtain ⟨sv,vs,h⟩:=Ux h;obtain ⟨av,cv,rfl,hcv,hmv⟩:=hb.form;obtain ⟨a0,c0,rfl,hc0,hm0⟩:=(h.ownOf (e:=22) (sz:=1) (v:=sv) (n:=sums.length) (cs:=vs) (by simp)).1.sl.form;unfold maxLen at hm0;have hp:=(h.zB p).lt;have HC:Hq (Ac (w.alloc (.cells #[.slice av b.length cv] 22)) (.blk w.heap.size [.slice av b.length cv] 22::.blk p [kv,bv,.slice a0 sums.length c0,mp] 122::.own 22 1 (.slice a0 sums.length c0) sums.length vs::Em vs sums::l)):=hqZ (h.addBlk [.slice av b.length cv] 22);have c2:w.cell? ⟨p,2,none⟩=some (.slice a0 sums.length c0):=(h.zB p).cell 2;have HSV:Hq (Sl w 1 (.slice a0 sums.length c0) sums.length vs):=hqZ ((h.ownOf (e:=22) (sz:=1) (v:=.slice a0 sums.length c0) (n:=sums.length) (cs:=vs) (by simp)).1.sl);have HIX:=hqZ (Vk (.slice a0 sums.length c0) (.slice av b.length cv) vs sums b w.heap.size _ ((h.ownOf (e:=22) (sz:=1) (v:=.slice a0 sums.length c0) (n:=sums.length) (cs:=vs) (by simp)).1.sl.alloc _) (λ j u r hu hr=>(Oc h.tail.tail j hu hr).alloc _) (hb.alloc (.cells #[.slice av b.length cv] 22)) ((Blk.new w [.slice av b.length cv] 22).cell 0));have HBS:=hqZ (hb.alloc (.cells #[.slice av b.length cv] 22));unfold maxLen at hmv;clear h hb;go_enter Tryz.func185,Tryz.ntmps185;go_wp2_with fail;refine HIX.o.mono ?_;rintro e w1 ⟨rfl,rfl⟩;clear HIX;by_cases hm:b∈sums
  · have HT:Hq (Rk sums b=sums):=hqZ (by rw [Rk,if_pos hm]);have HI:Hq ((if b∈sums then (sums.idxOf b:Int) else -1)=(sums.idxOf b:Nat)):=hqZ (by rw [if_pos hm]);have hk:sums.idxOf b<sums.length:=List.idxOf_lt_length_of_mem hm;have HM:Hq (Vl sums b=B2 100 (sums.idxOf b+1)):=hqZ (by rw [Vl,HT.o]);rw [HI.o];obtain ⟨k,hkk⟩:∃k,k=sums.idxOf b:=⟨_,rfl⟩
    rw [<-hkk] at HM hk ⊢;have hk2:k<1099511627777:=by omega
    have HC:=hqZ HC.o.tail;clear hm hkk HI;go_wp2_with fail;refine (Nr k (by omega) _).mono ?_;rintro e w7 ⟨rfl,hb⟩;have HN:=hqZ (Blk.new w7 A3 35);have HC:=hqZ (HC.o.step hb);have HKL:Hq ((Ab (B2 100 (k+1))).length=16):=hqZ (by rw [Aa,Av]);unfold Ax;clear hb;go_wp2_with ((with_reducible refine zws 6 34 ?_);refine Af rfl (.tmp 6) (.tmp 34) Al rfl rfl (vs:=Ab (B2 100 (k+1))) rfl HKL.o HN.o (aC _) (Aj _) ?_);intro w8 h8 k8;have hb8:Below w7.heap.size w7 w8:=((Below.refl _ _).alloc (aC _) _).trans (k8.below (by omega));have h8':Blk w8 w7.heap.size (Ab (B2 100 (k+1))) 35:=by simpa [A3] using h8
    have hrow:Bs w8 (.slice (some ⟨w7.heap.size,0,none⟩) 16 16) (B2 100 (k+1)):=by
      have:=h8'.bs (off:=0) (n:=16) (cap:=16) (by rw [Av]; decide) (aC _) (by unfold maxLen; decide);exact Sl.bs this (by simp [aE,Av]) (Av _ _)
    have HC:=hqZ (HC.o.addRow hb8 hrow (λ k _ hk=>by simp [aT.ownBlock] at hk; omega));clear h8 h8' k8 hb8 hrow HN HKL;go_wp2_with fail;go_ret;refine ⟨w7.heap.size,rfl,?_⟩;rw [HT.o,HM.o];exact H8 (sv:=.slice a0 sums.length c0) (vs:=vs) HC.o.push4
  · have HI:Hq ((if b∈sums then (sums.idxOf b:Int) else -1)= -1):=hqZ (by rw [if_neg hm]);have HT:Hq (Rk sums b=sums++ [b]):=hqZ (by rw [Rk,if_neg hm]);have HM:Hq (Vl sums b=B2 100 (sums.length+1)):=hqZ (by
      rw [Vl,HT.o,List.idxOf_append,if_neg hm,List.idxOf_cons_self,aJ])
    rw [HI.o];clear hm HI;have HC:=hqZ HC.o.drew;have HBS:=hqZ (Bs.below HBS.o ((Below.refl _ _).drew));obtain ⟨q,hq⟩:∃q,q=w.heap.size:=⟨_,rfl⟩
    rw [<-hq] at HC hp;clear HSV c2;go_wp2_with fail;rw [<-hq];clear hq;refine wp_region_any (by kernel_rfl) ?_;change wpAny _ _ _ _ _ _ _ (aU.drew _);refine wpAny_take (i:=0) (oi:=⟨some 15,_,_,_,_,none⟩) (v:=.pointer (some ⟨p,0,none⟩)) rfl (by kernel_rfl) (by kernel_rfl) (by kernel_rfl) (λ _ _ _ h=>h) (Or.inl ⟨by rfl,by intro w; go_simp⟩) ?_;try go_frame
    refine wpAny_take (i:=1) (oi:=⟨some 16,_,_,_,_,none⟩) (v:=.pointer (some ⟨p,0,none⟩)) rfl (by kernel_rfl) (by kernel_rfl) (by kernel_rfl) (λ _ _ _ h=>h) (Or.inl ⟨by rfl,by intro w; go_simp⟩) ?_;try go_frame
    refine wpAny_take (i:=2) (oi:=⟨some 17,_,_,_,_,none⟩) (v:=.pointer (some ⟨p,0,none⟩)) rfl (by kernel_rfl) (by kernel_rfl) (by kernel_rfl) (λ _ _ _ h=>h) (Or.inl ⟨by rfl,by intro w; go_simp⟩) ?_;try go_frame
    refine wpAny_take (i:=3) (oi:=⟨some 18,_,_,_,_,none⟩) (v:=.pointer (some ⟨p,2,none⟩)) rfl (by kernel_rfl) (by kernel_rfl) (by kernel_rfl) (λ _ _ _ h=>h) (Or.inl ⟨by rfl,by intro w; go_simp⟩) ?_;try go_frame
    refine wpAny_ready (rs:= [4,5]) (by decide+kernel) (by simp) ?_;refine AllReady.cons (o:=⟨some 19,.load 36 (.tmp 18),_,_,_,none⟩) rfl (λ K hK=>?_) (AllReady.cons (o:=⟨some 20,.load 22 (.tmp 3),_,_,_,none⟩) rfl (λ K hK=>?_) AllReady.nil)
    · have cc:=(HC.o.zB p).cell 2;go_simp;refine zqp hK ?_;clear hK K;refine wpAny_ready (rs:= [5]) (by decide+kernel) (by simp) ?_;refine AllReady.cons (o:=⟨some 20,.load 22 (.tmp 3),_,_,_,none⟩) rfl (λ K hK=>?_) AllReady.nil;have cc:=(HC.o.zB q).cell 0;go_simp;refine zqp hK ?_;clear hK K;refine wpAny_ready (rs:= [6]) (by decide+kernel) (by simp) ?_;refine AllReady.cons (o:=⟨some 21,.call { callee:=.value (.func 193),args:=#[.tmp 20],argTypes:=#[22] },_,_,_,none⟩) rfl (λ K hK=>?_) AllReady.nil;go_simp;refine (Jm _ b _ HBS.o (by omega)).mono ?_;rintro e w3 ⟨cl,rfl,ho,hv,hb⟩;obtain ⟨a6,c6,rfl,_,_⟩:=ho.sl.form;have HC:=hqZ (HC.o.addOwnB hb ho hv).ownRow;clear ho hv hb;refine zqp hK ?_;clear hK K;refine wpAny_ready (rs:= [7]) (by decide+kernel) (by simp) ?_;refine AllReady.cons (o:=⟨some 22,.buildSlice 36 1 #[(0,.tmp 21)],_,_,_,none⟩) rfl (λ K hK=>?_) AllReady.nil;go_simp;have HC:=hqZ (HC.o.addBlk [.slice a6 b.length c6] 22);refine zqp hK ?_;clear hK K;refine wpAny_ready (rs:= [8]) (by decide+kernel) (by simp) ?_;refine AllReady.cons (o:=⟨some 23,.call { callee:=.builtin .append,args:=#[.tmp 19,.tmp 22],argTypes:=#[36,36] },_,_,_,none⟩) rfl (λ K hK=>?_) AllReady.nil;have hown:=HC.o.ownOf (e:=22) (sz:=1) (v:=.slice a0 sums.length c0) (n:=sums.length) (cs:=vs) (by simp);have hsl:Sl _ 1 (.slice (some ⟨w3.heap.size,0,none⟩) 1 1) 1 [.slice a6 b.length c6]:=((HC.o.zB w3.heap.size).own (aD _) (by simp [aT.oneCell']) (by unfold maxLen; simp)).sl;refine Hz rfl (.tmp 19) (.tmp 22) Rl rfl 0 (v:=.slice a0 sums.length c0) (by simp [Act.eval]) hown.1 hown.2 (u:=.slice (some ⟨w3.heap.size,0,none⟩) 1 1) (by simp [Act.eval]) hsl (by unfold maxLen; omega) (by omega) (aD _) ?_;intro v4 w4 ho hk hv;obtain ⟨a4,c4,rfl,_,_⟩:=ho.sl.form;have HC:=hqZ (HC.o.pull5.append ho hk hv);clear ho hk hv hown hsl;refine zqp hK ?_;clear hK K;refine wpAny_take (i:=9) (oi:=⟨some 24,_,_,_,_,none⟩) (v:=.pointer (some ⟨p,0,none⟩)) rfl (by kernel_rfl) (by kernel_rfl) (by kernel_rfl) (λ _ _ _ h=>h) (Or.inl ⟨by rfl,by intro w; go_simp⟩) ?_;try go_frame
      refine wpAny_take (i:=10) (oi:=⟨some 25,_,_,_,_,none⟩) (v:=.pointer (some ⟨p,2,none⟩)) rfl (by kernel_rfl) (by kernel_rfl) (by kernel_rfl) (λ _ _ _ h=>h) (Or.inl ⟨by rfl,by intro w; go_simp⟩) ?_;try go_frame
      refine wpAny_ready (rs:= [11]) (by decide+kernel) (by simp) ?_;refine AllReady.cons (o:=⟨none,.store 36 (.tmp 25) (.tmp 23),_,_,_,none⟩) rfl (λ K hK=>?_) AllReady.nil;have hblk:=HC.o.zB p;have cc:=hblk.cell 2;have cf:=hblk.frozen 2;have ch:=hblk.lt;have HC:=hqZ (HC.o.pull5.set 2 (.slice a4 (sums.length+1) c4));clear hblk;go_simp;refine zqp hK ?_;clear hK K;refine wpAny_done (by decide+kernel) ?_ _;have HC:=hqZ (Fq (HC.o.front (m:= [.blk p [kv,bv,.slice a4 (sums.length+1) c4,mp] 122,.own 22 1 (.slice a4 (sums.length+1) c4) (sums.length+1) (vs++ [.slice a6 b.length c6]),.blk w3.heap.size [.slice a6 b.length c6] 22,.row (.slice a6 b.length c6) b,.blk q [.slice av b.length cv] 22,Em vs sums]) [2,4,5,3,0,1] 6 (by decide)).tail.tail).push3;have HE:Hq ((sums++ [b]).length=sums.length+1):=hqZ (by simp);go_wp2_with fail;refine (Nr sums.length (by omega) _).mono ?_;rintro e w7 ⟨rfl,hb⟩;have HN:=hqZ (Blk.new w7 A3 35);have HC:=hqZ (HC.o.step hb);have HKL:Hq ((Ab (B2 100 (sums.length+1))).length=16):=hqZ (by rw [Aa,Av]);unfold Ax;clear hb;go_wp2_with ((with_reducible refine zws 6 34 ?_);refine Af rfl (.tmp 6) (.tmp 34) Al rfl rfl (vs:=Ab (B2 100 (sums.length+1))) rfl HKL.o HN.o (aC _) (Aj _) ?_);intro w8 h8 k8;have hb8:Below w7.heap.size w7 w8:=((Below.refl _ _).alloc (aC _) _).trans (k8.below (by omega));have h8':Blk w8 w7.heap.size (Ab (B2 100 (sums.length+1))) 35:=by simpa [A3] using h8
      have hrow:Bs w8 (.slice (some ⟨w7.heap.size,0,none⟩) 16 16) (B2 100 (sums.length+1)):=by
        have:=h8'.bs (off:=0) (n:=16) (cap:=16) (by rw [Av]; decide) (aC _) (by unfold maxLen; decide);exact Sl.bs this (by simp [aE,Av]) (Av _ _)
      have HC:=hqZ (HC.o.addRow hb8 hrow (λ k _ hk=>by simp [aT.ownBlock] at hk; omega));clear h8 h8' k8 hb8 hrow HN HKL;go_wp2_with fail;go_ret;refine ⟨w7.heap.size,rfl,?_⟩;rw [HT.o,HM.o];refine H8 (sv:=.slice a4 (sums.length+1) c4) (vs:=vs++ [.slice a6 b.length c6]) ?_;rw [HE.o];exact HC.o.push4
    · have cc:=(HC.o.zB q).cell 0;go_simp;refine zqp hK ?_;clear hK K;refine wpAny_ready (rs:= [4,6]) (by decide+kernel) (by simp) ?_;refine AllReady.cons (o:=⟨some 19,.load 36 (.tmp 18),_,_,_,none⟩) rfl (λ K hK=>?_) (AllReady.cons (o:=⟨some 21,.call { callee:=.value (.func 193),args:=#[.tmp 20],argTypes:=#[22] },_,_,_,none⟩) rfl (λ K hK=>?_) AllReady.nil)
      · have cc:=(HC.o.zB p).cell 2;go_simp;refine zqp hK ?_;clear hK K;refine wpAny_ready (rs:= [6]) (by decide+kernel) (by simp) ?_;refine AllReady.cons (o:=⟨some 21,.call { callee:=.value (.func 193),args:=#[.tmp 20],argTypes:=#[22] },_,_,_,none⟩) rfl (λ K hK=>?_) AllReady.nil;go_simp;refine (Jm _ b _ HBS.o (by omega)).mono ?_;rintro e w3 ⟨cl,rfl,ho,hv,hb⟩;obtain ⟨a6,c6,rfl,_,_⟩:=ho.sl.form;have HC:=hqZ (HC.o.addOwnB hb ho hv).ownRow;clear ho hv hb;refine zqp hK ?_;clear hK K;refine wpAny_ready (rs:= [7]) (by decide+kernel) (by simp) ?_;refine AllReady.cons (o:=⟨some 22,.buildSlice 36 1 #[(0,.tmp 21)],_,_,_,none⟩) rfl (λ K hK=>?_) AllReady.nil;go_simp;have HC:=hqZ (HC.o.addBlk [.slice a6 b.length c6] 22);refine zqp hK ?_;clear hK K;refine wpAny_ready (rs:= [8]) (by decide+kernel) (by simp) ?_;refine AllReady.cons (o:=⟨some 23,.call { callee:=.builtin .append,args:=#[.tmp 19,.tmp 22],argTypes:=#[36,36] },_,_,_,none⟩) rfl (λ K hK=>?_) AllReady.nil;have hown:=HC.o.ownOf (e:=22) (sz:=1) (v:=.slice a0 sums.length c0) (n:=sums.length) (cs:=vs) (by simp);have hsl:Sl _ 1 (.slice (some ⟨w3.heap.size,0,none⟩) 1 1) 1 [.slice a6 b.length c6]:=((HC.o.zB w3.heap.size).own (aD _) (by simp [aT.oneCell']) (by unfold maxLen; simp)).sl;refine Hz rfl (.tmp 19) (.tmp 22) Rl rfl 0 (v:=.slice a0 sums.length c0) (by simp [Act.eval]) hown.1 hown.2 (u:=.slice (some ⟨w3.heap.size,0,none⟩) 1 1) (by simp [Act.eval]) hsl (by unfold maxLen; omega) (by omega) (aD _) ?_;intro v4 w4 ho hk hv;obtain ⟨a4,c4,rfl,_,_⟩:=ho.sl.form;have HC:=hqZ (HC.o.pull5.append ho hk hv);clear ho hk hv hown hsl;refine zqp hK ?_;clear hK K;refine wpAny_take (i:=9) (oi:=⟨some 24,_,_,_,_,none⟩) (v:=.pointer (some ⟨p,0,none⟩)) rfl (by kernel_rfl) (by kernel_rfl) (by kernel_rfl) (λ _ _ _ h=>h) (Or.inl ⟨by rfl,by intro w; go_simp⟩) ?_;try go_frame
        refine wpAny_take (i:=10) (oi:=⟨some 25,_,_,_,_,none⟩) (v:=.pointer (some ⟨p,2,none⟩)) rfl (by kernel_rfl) (by kernel_rfl) (by kernel_rfl) (λ _ _ _ h=>h) (Or.inl ⟨by rfl,by intro w; go_simp⟩) ?_;try go_frame
        refine wpAny_ready (rs:= [11]) (by decide+kernel) (by simp) ?_;refine AllReady.cons (o:=⟨none,.store 36 (.tmp 25) (.tmp 23),_,_,_,none⟩) rfl (λ K hK=>?_) AllReady.nil;have hblk:=HC.o.zB p;have cc:=hblk.cell 2;have cf:=hblk.frozen 2;have ch:=hblk.lt;have HC:=hqZ (HC.o.pull5.set 2 (.slice a4 (sums.length+1) c4));clear hblk;go_simp;refine zqp hK ?_;clear hK K;refine wpAny_done (by decide+kernel) ?_ _;have HC:=hqZ (Fq (HC.o.front (m:= [.blk p [kv,bv,.slice a4 (sums.length+1) c4,mp] 122,.own 22 1 (.slice a4 (sums.length+1) c4) (sums.length+1) (vs++ [.slice a6 b.length c6]),.blk w3.heap.size [.slice a6 b.length c6] 22,.row (.slice a6 b.length c6) b,.blk q [.slice av b.length cv] 22,Em vs sums]) [2,4,5,3,0,1] 6 (by decide)).tail.tail).push3;have HE:Hq ((sums++ [b]).length=sums.length+1):=hqZ (by simp);go_wp2_with fail;refine (Nr sums.length (by omega) _).mono ?_;rintro e w7 ⟨rfl,hb⟩;have HN:=hqZ (Blk.new w7 A3 35);have HC:=hqZ (HC.o.step hb);have HKL:Hq ((Ab (B2 100 (sums.length+1))).length=16):=hqZ (by rw [Aa,Av]);unfold Ax;clear hb;go_wp2_with ((with_reducible refine zws 6 34 ?_);refine Af rfl (.tmp 6) (.tmp 34) Al rfl rfl (vs:=Ab (B2 100 (sums.length+1))) rfl HKL.o HN.o (aC _) (Aj _) ?_);intro w8 h8 k8;have hb8:Below w7.heap.size w7 w8:=((Below.refl _ _).alloc (aC _) _).trans (k8.below (by omega));have h8':Blk w8 w7.heap.size (Ab (B2 100 (sums.length+1))) 35:=by simpa [A3] using h8
        have hrow:Bs w8 (.slice (some ⟨w7.heap.size,0,none⟩) 16 16) (B2 100 (sums.length+1)):=by
          have:=h8'.bs (off:=0) (n:=16) (cap:=16) (by rw [Av]; decide) (aC _) (by unfold maxLen; decide);exact Sl.bs this (by simp [aE,Av]) (Av _ _)
        have HC:=hqZ (HC.o.addRow hb8 hrow (λ k _ hk=>by simp [aT.ownBlock] at hk; omega));clear h8 h8' k8 hb8 hrow HN HKL;go_wp2_with fail;go_ret;refine ⟨w7.heap.size,rfl,?_⟩;rw [HT.o,HM.o];refine H8 (sv:=.slice a4 (sums.length+1) c4) (vs:=vs++ [.slice a6 b.length c6]) ?_;rw [HE.o];exact HC.o.push4
      · go_simp;refine (Jm _ b _ HBS.o (by omega)).mono ?_;rintro e w3 ⟨cl,rfl,ho,hv,hb⟩;obtain ⟨a6,c6,rfl,_,_⟩:=ho.sl.form;have HC:=hqZ (HC.o.addOwnB hb ho hv).ownRow;clear ho hv hb;refine zqp hK ?_;clear hK K;refine wpAny_ready (rs:= [4,7]) (by decide+kernel) (by simp) ?_;refine AllReady.cons (o:=⟨some 19,.load 36 (.tmp 18),_,_,_,none⟩) rfl (λ K hK=>?_) (AllReady.cons (o:=⟨some 22,.buildSlice 36 1 #[(0,.tmp 21)],_,_,_,none⟩) rfl (λ K hK=>?_) AllReady.nil)
        · have cc:=(HC.o.zB p).cell 2;go_simp;refine zqp hK ?_;clear hK K;refine wpAny_ready (rs:= [7]) (by decide+kernel) (by simp) ?_;refine AllReady.cons (o:=⟨some 22,.buildSlice 36 1 #[(0,.tmp 21)],_,_,_,none⟩) rfl (λ K hK=>?_) AllReady.nil;go_simp;have HC:=hqZ (HC.o.addBlk [.slice a6 b.length c6] 22);refine zqp hK ?_;clear hK K;refine wpAny_ready (rs:= [8]) (by decide+kernel) (by simp) ?_;refine AllReady.cons (o:=⟨some 23,.call { callee:=.builtin .append,args:=#[.tmp 19,.tmp 22],argTypes:=#[36,36] },_,_,_,none⟩) rfl (λ K hK=>?_) AllReady.nil;have hown:=HC.o.ownOf (e:=22) (sz:=1) (v:=.slice a0 sums.length c0) (n:=sums.length) (cs:=vs) (by simp);have hsl:Sl _ 1 (.slice (some ⟨w3.heap.size,0,none⟩) 1 1) 1 [.slice a6 b.length c6]:=((HC.o.zB w3.heap.size).own (aD _) (by simp [aT.oneCell']) (by unfold maxLen; simp)).sl;refine Hz rfl (.tmp 19) (.tmp 22) Rl rfl 0 (v:=.slice a0 sums.length c0) (by simp [Act.eval]) hown.1 hown.2 (u:=.slice (some ⟨w3.heap.size,0,none⟩) 1 1) (by simp [Act.eval]) hsl (by unfold maxLen; omega) (by omega) (aD _) ?_;intro v4 w4 ho hk hv;obtain ⟨a4,c4,rfl,_,_⟩:=ho.sl.form;have HC:=hqZ (HC.o.pull5.append ho hk hv);clear ho hk hv hown hsl;refine zqp hK ?_;clear hK K;refine wpAny_take (i:=9) (oi:=⟨some 24,_,_,_,_,none⟩) (v:=.pointer (some ⟨p,0,none⟩)) rfl (by kernel_rfl) (by kernel_rfl) (by kernel_rfl) (λ _ _ _ h=>h) (Or.inl ⟨by rfl,by intro w; go_simp⟩) ?_;try go_frame
          refine wpAny_take (i:=10) (oi:=⟨some 25,_,_,_,_,none⟩) (v:=.pointer (some ⟨p,2,none⟩)) rfl (by kernel_rfl) (by kernel_rfl) (by kernel_rfl) (λ _ _ _ h=>h) (Or.inl ⟨by rfl,by intro w; go_simp⟩) ?_;try go_frame
          refine wpAny_ready (rs:= [11]) (by decide+kernel) (by simp) ?_;refine AllReady.cons (o:=⟨none,.store 36 (.tmp 25) (.tmp 23),_,_,_,none⟩) rfl (λ K hK=>?_) AllReady.nil;have hblk:=HC.o.zB p;have cc:=hblk.cell 2;have cf:=hblk.frozen 2;have ch:=hblk.lt;have HC:=hqZ (HC.o.pull5.set 2 (.slice a4 (sums.length+1) c4));clear hblk;go_simp;refine zqp hK ?_;clear hK K;refine wpAny_done (by decide+kernel) ?_ _;have HC:=hqZ (Fq (HC.o.front (m:= [.blk p [kv,bv,.slice a4 (sums.length+1) c4,mp] 122,.own 22 1 (.slice a4 (sums.length+1) c4) (sums.length+1) (vs++ [.slice a6 b.length c6]),.blk w3.heap.size [.slice a6 b.length c6] 22,.row (.slice a6 b.length c6) b,.blk q [.slice av b.length cv] 22,Em vs sums]) [2,4,5,3,0,1] 6 (by decide)).tail.tail).push3;have HE:Hq ((sums++ [b]).length=sums.length+1):=hqZ (by simp);go_wp2_with fail;refine (Nr sums.length (by omega) _).mono ?_;rintro e w7 ⟨rfl,hb⟩;have HN:=hqZ (Blk.new w7 A3 35);have HC:=hqZ (HC.o.step hb);have HKL:Hq ((Ab (B2 100 (sums.length+1))).length=16):=hqZ (by rw [Aa,Av]);unfold Ax;clear hb;go_wp2_with ((with_reducible refine zws 6 34 ?_);refine Af rfl (.tmp 6) (.tmp 34) Al rfl rfl (vs:=Ab (B2 100 (sums.length+1))) rfl HKL.o HN.o (aC _) (Aj _) ?_);intro w8 h8 k8;have hb8:Below w7.heap.size w7 w8:=((Below.refl _ _).alloc (aC _) _).trans (k8.below (by omega));have h8':Blk w8 w7.heap.size (Ab (B2 100 (sums.length+1))) 35:=by simpa [A3] using h8
          have hrow:Bs w8 (.slice (some ⟨w7.heap.size,0,none⟩) 16 16) (B2 100 (sums.length+1)):=by
            have:=h8'.bs (off:=0) (n:=16) (cap:=16) (by rw [Av]; decide) (aC _) (by unfold maxLen; decide);exact Sl.bs this (by simp [aE,Av]) (Av _ _)
          have HC:=hqZ (HC.o.addRow hb8 hrow (λ k _ hk=>by simp [aT.ownBlock] at hk; omega));clear h8 h8' k8 hb8 hrow HN HKL;go_wp2_with fail;go_ret;refine ⟨w7.heap.size,rfl,?_⟩;rw [HT.o,HM.o];refine H8 (sv:=.slice a4 (sums.length+1) c4) (vs:=vs++ [.slice a6 b.length c6]) ?_;rw [HE.o];exact HC.o.push4
        · go_simp;have HC:=hqZ (HC.o.addBlk [.slice a6 b.length c6] 22);refine zqp hK ?_;clear hK K;refine wpAny_ready (rs:= [4]) (by decide+kernel) (by simp) ?_;refine AllReady.cons (o:=⟨some 19,.load 36 (.tmp 18),_,_,_,none⟩) rfl (λ K hK=>?_) AllReady.nil;have cc:=(HC.o.zB p).cell 2;go_simp;refine zqp hK ?_;clear hK K;refine wpAny_ready (rs:= [8]) (by decide+kernel) (by simp) ?_;refine AllReady.cons (o:=⟨some 23,.call { callee:=.builtin .append,args:=#[.tmp 19,.tmp 22],argTypes:=#[36,36] },_,_,_,none⟩) rfl (λ K hK=>?_) AllReady.nil;have hown:=HC.o.ownOf (e:=22) (sz:=1) (v:=.slice a0 sums.length c0) (n:=sums.length) (cs:=vs) (by simp);have hsl:Sl _ 1 (.slice (some ⟨w3.heap.size,0,none⟩) 1 1) 1 [.slice a6 b.length c6]:=((HC.o.zB w3.heap.size).own (aD _) (by simp [aT.oneCell']) (by unfold maxLen; simp)).sl;refine Hz rfl (.tmp 19) (.tmp 22) Rl rfl 0 (v:=.slice a0 sums.length c0) (by simp [Act.eval]) hown.1 hown.2 (u:=.slice (some ⟨w3.heap.size,0,none⟩) 1 1) (by simp [Act.eval]) hsl (by unfold maxLen; omega) (by omega) (aD _) ?_;intro v4 w4 ho hk hv;obtain ⟨a4,c4,rfl,_,_⟩:=ho.sl.form;have HC:=hqZ (HC.o.pull5.append ho hk hv);clear ho hk hv hown hsl;refine zqp hK ?_;clear hK K;refine wpAny_take (i:=9) (oi:=⟨some 24,_,_,_,_,none⟩) (v:=.pointer (some ⟨p,0,none⟩)) rfl (by kernel_rfl) (by kernel_rfl) (by kernel_rfl) (λ _ _ _ h=>h) (Or.inl ⟨by rfl,by intro w; go_simp⟩) ?_;try go_frame
          refine wpAny_take (i:=10) (oi:=⟨some 25,_,_,_,_,none⟩) (v:=.pointer (some ⟨p,2,none⟩)) rfl (by kernel_rfl) (by kernel_rfl) (by kernel_rfl) (λ _ _ _ h=>h) (Or.inl ⟨by rfl,by intro w; go_simp⟩) ?_;try go_frame
          refine wpAny_ready (rs:= [11]) (by decide+kernel) (by simp) ?_;refine AllReady.cons (o:=⟨none,.store 36 (.tmp 25) (.tmp 23),_,_,_,none⟩) rfl (λ K hK=>?_) AllReady.nil;have hblk:=HC.o.zB p;have cc:=hblk.cell 2;have cf:=hblk.frozen 2;have ch:=hblk.lt;have HC:=hqZ (HC.o.pull5.set 2 (.slice a4 (sums.length+1) c4));clear hblk;go_simp;refine zqp hK ?_;clear hK K;refine wpAny_done (by decide+kernel) ?_ _;have HC:=hqZ (Fq (HC.o.front (m:= [.blk p [kv,bv,.slice a4 (sums.length+1) c4,mp] 122,.own 22 1 (.slice a4 (sums.length+1) c4) (sums.length+1) (vs++ [.slice a6 b.length c6]),.blk w3.heap.size [.slice a6 b.length c6] 22,.row (.slice a6 b.length c6) b,.blk q [.slice av b.length cv] 22,Em vs sums]) [2,4,5,3,0,1] 6 (by decide)).tail.tail).push3;have HE:Hq ((sums++ [b]).length=sums.length+1):=hqZ (by simp);go_wp2_with fail;refine (Nr sums.length (by omega) _).mono ?_;rintro e w7 ⟨rfl,hb⟩;have HN:=hqZ (Blk.new w7 A3 35);have HC:=hqZ (HC.o.step hb);have HKL:Hq ((Ab (B2 100 (sums.length+1))).length=16):=hqZ (by rw [Aa,Av]);unfold Ax;clear hb;go_wp2_with ((with_reducible refine zws 6 34 ?_);refine Af rfl (.tmp 6) (.tmp 34) Al rfl rfl (vs:=Ab (B2 100 (sums.length+1))) rfl HKL.o HN.o (aC _) (Aj _) ?_);intro w8 h8 k8;have hb8:Below w7.heap.size w7 w8:=((Below.refl _ _).alloc (aC _) _).trans (k8.below (by omega));have h8':Blk w8 w7.heap.size (Ab (B2 100 (sums.length+1))) 35:=by simpa [A3] using h8
          have hrow:Bs w8 (.slice (some ⟨w7.heap.size,0,none⟩) 16 16) (B2 100 (sums.length+1)):=by
            have:=h8'.bs (off:=0) (n:=16) (cap:=16) (by rw [Av]; decide) (aC _) (by unfold maxLen; decide);exact Sl.bs this (by simp [aE,Av]) (Av _ _)
          have HC:=hqZ (HC.o.addRow hb8 hrow (λ k _ hk=>by simp [aT.ownBlock] at hk; omega));clear h8 h8' k8 hb8 hrow HN HKL;go_wp2_with fail;go_ret;refine ⟨w7.heap.size,rfl,?_⟩;rw [HT.o,HM.o];refine H8 (sv:=.slice a4 (sums.length+1) c4) (vs:=vs++ [.slice a6 b.length c6]) ?_;rw [HE.o];exact HC.o.push4
end Go.Proofs.YtnihelcjmahmnaaGreat
namespace Go.Proofs.YtnihelcjmahmnaaGreat
open Go.RowKit Go.Maps
theorem A3i:Cz aA 119 351 18 40 (.agg (aH 16 (aT.int .u8 0)++ [aT.string ⟨#[]⟩,aT.bool false]).toArray):=by
  refine Cz.mk Tryz.underlying119 ?_ rfl (by decide)
  kernel_rfl
theorem Xt:Cz aA 120 356 18 48 (.agg (aH 16 (aT.int .u8 0)++ [aT.int .i64 0,aT.slice none 0 0]).toArray):=by
  refine Cz.mk Tryz.underlying120 ?_ rfl (by decide)
  kernel_rfl
theorem Qt:A7 aA 351 18:=A7.mk Tryz.underlying351 rfl (by kernel_rfl)
theorem Hv:A7 aA 356 18:=A7.mk Tryz.underlying356 rfl (by kernel_rfl)
theorem Fk.cells_length (f:Fk):f.cells.length=18:=by simp [Fk.cells,Aa,f.hof]
theorem Fk.cells_one (f:Fk):∀u∈f.cells,u.oneCell'=true:=by
  intro u hu;rcases List.mem_append.1 hu with h | h
  · exact Aj _ u h
  · simp at h; rcases h with rfl | rfl <;> rfl
def frC (ks:List Fk):List aT:=(ks.map Fk.cells).flatten
def Fm (p:Bx×aT):List aT:=Ab p.1.by_++ [.int .i64 p.1.usage,p.2]
def bxC (bs:List Bx) (vs:List aT):List aT:=((bs.zip vs).map Fm).flatten
structure A5O where
  kv:aT
  bv:aT
  sv:aT
  m:Nat
  vs:List aT
  bs:List aT
structure Ol (s:Sy):Prop where
  bx:∀b∈s.boxes,b.by_.length=16
  kn:∀x∈s.known,x.2.length=16
def knM (s:Sy):List (Fk×aT):=s.known.map λ x=>(x.1,Ax x.2)
def Jh (q:Nat) (s:Sy):Res:=.ex λ x:A5O=>.all [.pure (Ol s/\x.bs.length=s.boxes.length),.blk q [x.kv,x.bv,x.sv,.map (some x.m)] 122,.own 351 18 x.kv s.keys.length (frC s.keys),
  .own 356 18 x.bv s.boxes.length (bxC s.boxes x.bs),Em x.bs (s.boxes.map Bx.body),.own 22 1 x.sv s.sums.length x.vs,Em x.vs s.sums,Yn aA 351 frL x.m (knM s)]
theorem Ck {W:aU} {q:Nat} {s:Sy} {l:List Res} :Ac W (Jh q s::l)↔∃x:A5O,(Ol s/\x.bs.length=s.boxes.length)/\Ac W (.blk q [x.kv,x.bv,x.sv,.map (some x.m)] 122::.own 351 18 x.kv s.keys.length (frC s.keys):: .own 356 18 x.bv s.boxes.length (bxC s.boxes x.bs)::Em x.bs (s.boxes.map Bx.body)::.own 22 1 x.sv s.sums.length x.vs::Em x.vs s.sums::Yn aA 351 frL x.m (knM s)::l):=by
  unfold Jh;rw [Ac.ex];refine exists_congr λ x=>?_
  rw [Ac.app];exact Ac.pure
def Ju (q:Nat) (r:Re):Res:=.ex λ v:aT=>.all [.pure (r.seed.length<=1000),.blk q [v,.int .u64 r.keys,.int .u64 r.boxes] 107,.row v r.seed]
theorem E2 {W:aU} {q:Nat} {r:Re} {l:List Res} :Ac W (Ju q r::l)↔∃v:aT,r.seed.length<=1000/\Ac W (.blk q [v,.int .u64 r.keys,.int .u64 r.boxes] 107::.row v r.seed::l):=by
  unfold Ju;rw [Ac.ex];refine exists_congr λ x=>?_
  rw [Ac.app];exact Ac.pure
def pvR (q:Nat):PS->Res
  | .sym s=>Jh q s
  | .real r=>Ju q r
def Gi (q:Nat) (s:PS) (b:List UInt8) (l:List Res) (e:Ending) (w':aU):Prop:=∃x,e=.returned x/\Ac w' (.row x b::pvR q s::l)
def Q8 (q:Nat) (s:PS) (b:List UInt8) (l:List Res) (e:Ending) (w':aU):Prop:=∃x,e=.returned (.tuple #[x,.bool true])/\Ac w' (.row x b::pvR q s::l)
def pvT:PS->TypeId
  | .sym _=>44
  | .real _=>27
def pvV (s:PS) (q:Nat):aT:=.iface (pvT s) (.pointer (some ⟨q,0,none⟩))
theorem Ea (s:PS) (k:Nat) (a:Addr) (n:String) (hn:n= "Fresh" \/n= "Text" \/n= "Derive" \/n= "Seal" \/n= "Open" \/n= "Digest") (w:aU):(nilAhead (k+1) (pvT s) (.pointer (some a)) n).run aA w=.ok (some false) w:=by
  rcases hn with rfl | rfl | rfl | rfl | rfl | rfl <;> cases s <;> kernel_rfl
def Ct:PS->FuncId | .sym _=>186 | .real _=>145
def Ga:PS->FuncId | .sym _=>189 | .real _=>148
def Dh:PS->FuncId | .sym _=>184 | .real _=>143
def Jd:PS->FuncId | .sym _=>188 | .real _=>147
def E9:PS->FuncId | .sym _=>187 | .real _=>146
def If:PS->FuncId | .sym _=>185 | .real _=>144
theorem Lm (s:PS) (k:Nat) (a:Addr) (w:aU):(method (k+1) (pvT s) (.pointer (some a)) "Fresh").run aA w=.ok (Ct s,.pointer (some a)) w:=by cases s <;> kernel_rfl
theorem A1V (s:PS) (k:Nat) (a:Addr) (w:aU):(method (k+1) (pvT s) (.pointer (some a)) "Text").run aA w=.ok (Ga s,.pointer (some a)) w:=by cases s <;> kernel_rfl
theorem Oz (s:PS) (k:Nat) (a:Addr) (w:aU):(method (k+1) (pvT s) (.pointer (some a)) "Derive").run aA w=.ok (Dh s,.pointer (some a)) w:=by cases s <;> kernel_rfl
theorem A1U (s:PS) (k:Nat) (a:Addr) (w:aU):(method (k+1) (pvT s) (.pointer (some a)) "Seal").run aA w=.ok (Jd s,.pointer (some a)) w:=by cases s <;> kernel_rfl
theorem N2 (s:PS) (k:Nat) (a:Addr) (w:aU):(method (k+1) (pvT s) (.pointer (some a)) "Open").run aA w=.ok (E9 s,.pointer (some a)) w:=by cases s <;> kernel_rfl
theorem Un (s:PS) (k:Nat) (a:Addr) (w:aU):(method (k+1) (pvT s) (.pointer (some a)) "Digest").run aA w=.ok (If s,.pointer (some a)) w:=by cases s <;> kernel_rfl
end Go.Proofs.YtnihelcjmahmnaaGreat
namespace Go.Proofs.YtnihelcjmahmnaaGreat
open Go.RowKit
section
theorem Uj:∀(k n:Nat),Et (beB k n)=n % 256 ^ k
  | 0,n=>by simp [beB,Et,Nat.mod_one]
  | k+1,n=>by
    have h:n % 256 ^ (k+1)=n % 256+256*(n / 256 % 256 ^ k):=by rw [aI,Nat.mul_comm (256 ^ k) 256,Nat.mod_mul]
    rw [h,beB,L5,Uj k,UInt8.toNat_ofNat'];omega
theorem A3p (n:Nat) (h:n<256 ^ 8):Gf (B7 n)=(n,true):=by
  unfold Gf;rw [Bd,if_neg (by decide),A1S,Uj,aF h]
theorem N6 (w:aU) (a b:List UInt8) (ha:a.length=16) (hb:b.length=16):(binOp .neq 35 (Ax a) (Ax b)).run aA w=.ok (.bool (!decide (a=b))) w:=by
  have h:=V7 w a b ha hb;unfold Ax;unfold binOp;simp [go_sem,Op.equal,Op.maxDepth,h]
theorem Rr (op:BinOp) (x y:Operand) (a b:List UInt8) (w:aU):(eqGuard op 35 x y (Ax a) (Ax b)).run aA w=.ok () w:=
  run_eqGuard_agg w op _ x y _ _ (by kernel_rfl)
section
variable {ops:Array Oper} {Q:Exit->Act->aU->Prop}
theorem A0h {rest:List Oper} {o:Oper} {a:Act} {w:aU} (hgd:Region.wanted o (yielded ops a.tmps)=true) (x y:Operand) {t:TypeId} (ho:o.op=.binOp .neq 35 x y t) {k1 k2:List UInt8} (h1:a.eval x=Ax k1) (h2:a.eval y=Ax k2) (l1:k1.length=16) (l2:k2.length=16) {b:Bool} (hb:(!decide (k1=k2))=b) (h:wpList aA ops Q rest (a.put o.dst (.bool b)) w):wpList aA ops Q (o::rest) a w:=by
  subst hb;refine By hgd λ K hK=>?_
  unfold Oper.wp execOp;simp only [ho,h1,h2,Sem.run_bind,Sem.run_pure,Result.andThen_ok,Rr,N6 w k1 k2 l1 l2];exact hK _ _ h
theorem A5X {a:Act} (x y:Operand) {d:Option Tmp} {t t2:TypeId} {pos:String} {aft:Array Edge} {g:Option (Nat×Bool)} {k1 k2:List UInt8} (h1:a.eval x=Ax k1) (h2:a.eval y=Ax k2) (l1:k1.length=16) (l2:k2.length=16) {b:Bool} (hb:(!decide (k1=k2))=b) (w:aU): (execOp a.eval ⟨d,.binOp .neq 35 x y t,t2,pos,aft,g⟩).run aA w=.ok (.value (.bool b)) w:=by
  subst hb;unfold execOp;simp only [h1,h2,Sem.run_bind,Sem.run_pure,Result.andThen_ok,Rr,N6 w k1 k2 l1 l2]
end
end
end Go.Proofs.YtnihelcjmahmnaaGreat
namespace Go.Proofs.YtnihelcjmahmnaaGreat
open Go.RowKit Go.Maps
theorem Oq (a:Option Addr) (cap:Nat):Hd a cap 0=a:=by
  unfold Hd;split
  · rfl
  · cases a <;> simp [Addr.add]
theorem Gq (g n cap:Nat) (hj:16<=cap) (W:aU):(Instr.sliceAt 22 (.slice (some ⟨g,0,none⟩) n cap) none (some (.int .i64 16)) none).run aA W=.ok (.slice (some ⟨g,0,none⟩) 16 cap) W:=by
  have:=Y6 (some ⟨g,0,none⟩) n cap 16 hj W;rw [Oq] at this;exact this
theorem V4 (q:Nat) (r:Re) (k:List UInt8) (lb:ByteArray) (l:List Res) (w:aU) (h:Ac w (Ju q r::l)) (hk:k.length=16) (hlb:lb.size<=100000): aV aA 143 #[.pointer (some ⟨q,0,none⟩),Ax k,.string lb] w λ e w'=>e=.returned (Ax (Ez k lb.data.toList))/\Ac w' (Ju q r::l):=by
  have HC:=hqZ ((h.addBlkAt (Ab k) 35 (b:=w.heap.size) rfl).addBlkAt A3 35 (b:=w.heap.size+1) (by simp));obtain ⟨d,hd⟩:∃d,d=Ez k lb.data.toList:=⟨_,rfl⟩
  have HD:Hq ((Ab d).length=16):=hqZ (by rw [Aa,hd]; exact Dw _ _);have HK1:Hq ((Ab k).length=16):=hqZ (by rw [Aa,hk]);have HM:=hqZ (λ w=>Mq k lb w hk hlb);rw [<-hd] at HM ⊢;clear h hk hlb hd;unfold Ax at HM ⊢;go_enter Tryz.func143,Tryz.ntmps143;go_wp2_with ((with_reducible refine zw 7 ?_);refine Ah rfl (.tmp 4) Al rfl rfl (cs:=Ab k) HK1.o HC.o.swap.blk0.cellsAll ?_);refine (HM.o _).mono ?_;rintro e w1 ⟨rfl,hb⟩;have HC:=hqZ (HC.o.step hb);clear hb HM;go_wp2_with ((with_reducible refine zws 6 9 ?_);refine Af rfl (.tmp 6) (.tmp 9) Al rfl rfl (vs:=Ab d) rfl HD.o HC.o.blk0 (aC _) (Aj _) ?_);intro w2 h2 k2;have HC:=hqZ (HC.o.stW (vs:=Ab d) h2 k2 rfl);clear h2 k2;go_wp2_with fail;exact bodyPost_ret (Aw rfl Al rfl (cs:=Ab d) HD.o HC.o.blk0.cellsAll) rfl ⟨rfl,HC.o.tail.tail⟩
theorem A0W (q:Nat) (r:Re) (pw salt:ByteArray) (l:List Res) (w:aU) (h:Ac w (Ju q r::l)) (hp1:pw.size<=100000) (hp2:salt.size<=100000): aV aA 148 #[.pointer (some ⟨q,0,none⟩),.string pw,.string salt] w λ e w'=>e=.returned (Ax (Tt pw.data.toList salt.data.toList))/\Ac w' (Ju q r::l):=by
  have HC:=hqZ (h.addBlkAt A3 35 (b:=w.heap.size) rfl);obtain ⟨d,hd⟩:∃d,d=Tt pw.data.toList salt.data.toList:=⟨_,rfl⟩
  have HD:Hq ((Ab d).length=16):=hqZ (by rw [Aa,hd]; exact I2 _ _);have HM:=hqZ (λ w=>Yl pw salt w hp1 hp2);rw [<-hd] at HM ⊢;clear h hp1 hp2 hd;unfold Ax at HM ⊢;go_enter Tryz.func148,Tryz.ntmps148;go_wp2_with fail;refine (HM.o _).mono ?_;rintro e w1 ⟨rfl,hb⟩;have HC:=hqZ (HC.o.step hb);clear hb HM;go_wp2_with ((with_reducible refine zws 6 9 ?_);refine Af rfl (.tmp 6) (.tmp 9) Al rfl rfl (vs:=Ab d) rfl HD.o HC.o.blk0 (aC _) (Aj _) ?_);intro w2 h2 k2;have HC:=hqZ (HC.o.stW (vs:=Ab d) h2 k2 rfl);clear h2 k2;go_wp2_with fail;exact bodyPost_ret (Aw rfl Al rfl (cs:=Ab d) HD.o HC.o.blk0.cellsAll) rfl ⟨rfl,HC.o.tail⟩
theorem V5 (q:Nat) (r:Re) (v:aT) (b:List UInt8) (l:List Res) (w:aU) (h:Ac w (Ju q r::l)) (hb:Bs w v b) (hbl:b.length<=1000000000): aV aA 144 #[.pointer (some ⟨q,0,none⟩),v] w (Gi q (.real r) ((K9 b).take 16) l):=by
  obtain ⟨a,c,rfl,hc,hm⟩:=hb.form;have hdl:(K9 b).length=32:=La _;have hs:=Ma _ [b] _ (Rs.one (T:=22) hb) (by simp; omega);simp only [aK,aL,aM] at hs;have HS:=hqZ hs;have HC:=hqZ (h.alloc (.cells #[.slice a b.length c] 22));obtain ⟨d,hd⟩:∃d,d=K9 b:=⟨_,rfl⟩
  rw [<-hd] at HS hdl ⊢;have HDL:=hqZ hdl;clear h hb hbl hs hd hdl;go_enter Tryz.func144,Tryz.ntmps144;go_wp2_with fail;refine HS.o.mono ?_;rintro e w1 ⟨x,rfl,ho,hb⟩;obtain ⟨g,cp,cur,rfl,_,_,hcp,hcm,_⟩:=Own.form' ho (by rw [HDL.o]; decide);have HB:Hq (Bs w1 (.slice (some ⟨g,0,none⟩) 16 cp) (d.take 16)):=hqZ (by
    have:=ho.bs.cut 0 16 (by omega) (by rw [HDL.o]; decide);rw [Oq] at this;simpa using this)
  have HC:=hqZ (HC.o.freshRow hb ho);have kc:=Gq g d.length cp (by have:=HDL.o; omega);clear ho hb HS;go_wp2_with fail;go_ret;refine ⟨_,rfl,?_⟩;have h:=HC.o.weaken (r':=.row (.slice (some ⟨g,0,none⟩) 16 cp) (d.take 16)) λ F hF=>⟨λ k=>0< (d.take 16).length/\some g=some k,⟨by have:=HB.o; unfold Bs at this; exact this,by decide,λ _=>Iff.rfl⟩,λ k hk=>(hF.2.2 k).2 ⟨by rw [HDL.o]; decide,hk.2⟩⟩
  exact h
theorem A6e:∀u:Nat,u<10->(⟨#[48,49,50,51,52,53,54,55,56,57,97,98,99,100,101,102,103,104,105,106,107,108,109,110,111,112,113,114,115,116,117,118,119,120,121,122]⟩:ByteArray).extract u (u+1)=tx (G6 u):=by decide+kernel
theorem A6f:∀u:Nat,u<100->10<=u->(⟨#[48,48,48,49,48,50,48,51,48,52,48,53,48,54,48,55,48,56,48,57,49,48,49,49,49,50,49,51,49,52,49,53,49,54,49,55,49,56,49,57,50,48,50,49,50,50,50,51,50,52,50,53,50,54,50,55,50,56,50,57,51,48,51,49,51,50,51,51,51,52,51,53,51,54,51,55,51,56,51,57,52,48,52,49,52,50,52,51,52,52,52,53,52,54,52,55,52,56,52,57,53,48,53,49,53,50,53,51,53,52,53,53,53,54,53,55,53,56,53,57,54,48,54,49,54,50,54,51,54,52,54,53,54,54,54,55,54,56,54,57,55,48,55,49,55,50,55,51,55,52,55,53,55,54,55,55,55,56,55,57,56,48,56,49,56,50,56,51,56,52,56,53,56,54,56,55,56,56,56,57,57,48,57,49,57,50,57,51,57,52,57,53,57,54,57,55,57,56,57,57]⟩:ByteArray).extract (u*2) (u*2+2)=tx (G6 u):=by decide+kernel
theorem A2B (u:Nat) (hu:u<100) (w:aU):aV aA 171 #[.int .i64 u] w λ e w'=>e=.returned (.string (tx (G6 u)))/\w=w':=by
  by_cases h:u<10
  · have H1:=hqZ (A6e u h);have hd:decide ((u:Int)<10)=true:=by simp; omega
    go_enter aN,aO;go_wp2_with fail;go_ret;exact ⟨congrArg (λ s=>Ending.returned (.string s)) H1.o,rfl⟩
  · have H1:=hqZ (A6f u hu (by omega));have hd:decide ((u:Int)<10)=false:=by simp; omega
    go_enter aN,aO;go_wp2_with fail;go_ret;exact ⟨congrArg (λ s=>Ending.returned (.string s)) H1.o,rfl⟩
theorem A3w (u:Nat) (hu:u<100) (w:aU):aV aA 160 #[.int .i64 u] w λ e w'=>e=.returned (.string (tx (G6 u)))/\w=w':=by
  have h1:aV aA 165 #[.int .i64 u] w λ e w'=>e=.returned (.string (tx (G6 u)))/\w=w':=by
    have h2:aV aA 169 #[.int .i64 u,.int .i64 10] w λ e w'=>e=.returned (.string (tx (G6 u)))/\w=w':=by
      have H:=hqZ (A2B u hu w);have hd:decide ((u:Int)<100)=true:=by simp; omega
      have hd0:decide ((0:Int)<=(u:Int))=true:=by simp
      go_enter Tryz.func169,Tryz.ntmps169;go_wp2_with fail;refine H.o.mono ?_;rintro e w' ⟨rfl,rfl⟩;clear H;go_wp2_with fail;go_ret;exact ⟨rfl,rfl⟩
    have H:=hqZ h2;clear h2;go_enter Tryz.func165,Tryz.ntmps165;go_wp2_with fail;refine H.o.mono ?_;rintro e w' ⟨rfl,rfl⟩;clear H;go_wp2_with fail;go_ret;exact ⟨rfl,rfl⟩
  have H:=hqZ h1;clear h1;go_enter Tryz.func160,Tryz.ntmps160;go_wp2_with fail;refine H.o.mono ?_;rintro e w' ⟨rfl,rfl⟩;clear H;go_wp2_with fail;go_ret;exact ⟨rfl,rfl⟩
theorem Nz (k:List UInt8) (u:Nat) (half:ByteArray) (w:aU) (hk:k.length=16) (hu:u<100) (hh:half.size<=100): aV aA 152 #[Ax k,.int .i64 u,.string half] w λ e w'=>e=.returned (Ax (Ez k (half.data.toList++G6 u)))/\Below w.heap.size w w':=by
  have HC:=hqZ (((Ac.start w).addBlkAt (Ab k) 35 (b:=w.heap.size) rfl).addBlkAt A3 35 (b:=w.heap.size+1) (by simp));obtain ⟨d,hd⟩:∃d,d=Ez k (half.data.toList++G6 u):=⟨_,rfl⟩
  have HD:Hq ((Ab d).length=16):=hqZ (by rw [Aa,hd]; exact Dw _ _);have HK1:Hq ((Ab k).length=16):=hqZ (by rw [Aa,hk]);have hil:(G6 u).length<=2:=by unfold G6; split <;> simp
  have hds:∀w,aV aA 149 #[Ax k,.string (half++tx (G6 u))] w λ e w'=>e=.returned (Ax d)/\Below w.heap.size w w':=λ w=>by
    have:=Mq k (half++tx (G6 u)) w hk (by rw [ByteArray.size_append,Eo]; omega)
    rwa [show (half++tx (G6 u)).data.toList=half.data.toList++G6 u by simp [tx],<-hd] at this
  have HDS:=hqZ hds;have hsz:half.size+(tx (G6 u)).size<=9223372036854775807:=by rw [Eo]; omega
  have HI:=hqZ (A3w u hu);rw [<-hd];clear hk hu hh hd hil hds;unfold Ax at HDS ⊢;go_enter Tryz.func152,Tryz.ntmps152;go_wp2_with fail;refine Ev [] (λ b W=>Ao W w.heap.size 0 (Ab k)) (by kernel_rfl) ?_;have HC:=hqZ HC.o.drew;refine zT 0 ?_ (hr:=λ _ _ _ hW=>ldJ Al rfl HK1.o hW);refine zT 1 ?_;refine zT 2 ?_;refine zJ 3 λ K hK=>?_
  go_simp;refine (HI.o _).mono ?_;rintro e w1 ⟨rfl,rfl⟩;refine zq hK ?_;clear hK K;refine zT 4 ?_ (v:=.string (half++tx (G6 u))) (hr:=λ _ _ _ hW=>by go_simp) (hS:=(HC.o.blkOf (p:=w.heap.size) (cs:=Ab k) (T:=35) (by simp)).cellsAll);refine zJ 5 λ K hK=>?_
  go_simp;refine (HDS.o _).mono ?_;rintro e w2 ⟨rfl,hb⟩;have HC:=hqZ (HC.o.step hb);clear hb;refine zq hK ?_;clear hK K;refine zJ 6 λ K hK=>?_
  refine zWo Al (Aj _) HC.o ?_ (hm:=HD.o);intro w3 HC;refine zq hK ?_;clear hK K;refine zD ?_;go_wp2_with fail;exact bodyPost_ret (Aw rfl Al rfl (cs:=Ab d) HD.o HC.o.blk0.cellsAll) rfl ⟨rfl,HC.o.baseOf (by simp)⟩
theorem A2X:A7 aA 34 16:=A7.mk Tryz.underlying34 rfl (by kernel_rfl)
theorem N8 (n:List UInt8) (v:aT) (w:aU) (h:Bs w v n) (hn:n.length=8): aV aA 155 #[v] w λ e w'=>e=.returned (.agg (Ab (Ff n)).toArray)/\Below w.heap.size w w':=by
  have HC:=hqZ (((Ac.start w).addBlkAt A3 34 (b:=w.heap.size) rfl).addBlkAt A3 34 (b:=w.heap.size+1) (by simp));have HF:Hq ((Ab (Ff n)).length=16):=hqZ (by simp [Ff,Aa,hn]);have HS:Hq (Bs ((w.alloc (.cells A3.toArray 34)).alloc (.cells A3.toArray 34)) v n):=hqZ ((h.alloc _).alloc _);have HN:=hqZ hn;obtain ⟨a,c,rfl,_,_⟩:=h.form;clear h hn;go_enter Tryz.func155,Tryz.ntmps155;go_wp2_with ((with_reducible refine zw 6 ?_);refine Pf rfl (.tmp 4) (.tmp 5) Cl rfl rfl HC.o.blk0 rfl HS.o (by simp [A3]; omega) ?_);intro w1 h1 k1;have h1':Blk w1 (w.heap.size+1) (Ab (Ff n)) 34:=by
    have e:min n.length 16=8:=by have:=HN.o; omega
    have e2:Ab (Ff n)=(Ab n).take 8++A3.drop 8:=by
      rw [aE (by rw [Aa,HN.o]; decide),Ff,Dr];rfl
    rw [e2];have h:=h1;simp only [List.take_zero,List.nil_append,aJ,e] at h;exact h
  have HC:=hqZ (HC.o.reblk h1' k1);clear h1 h1' k1 HS;go_wp2_with (first | ((with_reducible refine zw 7 ?_);refine Ah rfl (.tmp 3) A2X rfl rfl (cs:=Ab (Ff n)) HF.o HC.o.blk0.cellsAll ?_) | ((with_reducible refine zws 2 7 ?_);refine Af rfl (.tmp 2) (.tmp 7) A2X rfl rfl (vs:=Ab (Ff n)) rfl HF.o HC.o.swap.blk0 (aC _) (Aj _) ?_));intro w2 h2 k2;have HC:=hqZ (HC.o.swap.stW (vs:=Ab (Ff n)) h2 k2 rfl);clear h2 k2;go_wp2_with fail;exact bodyPost_ret (Aw rfl A2X rfl (cs:=Ab (Ff n)) HF.o HC.o.blk0.cellsAll) rfl ⟨rfl,HC.o.baseOf (by simp)⟩
theorem A0Z {W:aU} {v:aT} {r:List UInt8} {T:TypeId} {g:Nat} (hg:W.heap.size=g) (h:Bs W v r):Rs (W.alloc (.cells #[v] T)) (.slice (some ⟨g,0,none⟩) 1 1) [r]:=hg▸Rs.one h
theorem Sd (n:Nat) (w:aU):aV aA 127 #[.int .u64 n] w λ e w'=>∃x,e=.returned x/\B6 w' w.heap.size x (B7 n)/\Below w.heap.size w w':=
  (L8 n w).mono λ e w' ⟨h1,h2,h3,_⟩=>⟨_,h1,h2,h3⟩
theorem A4c (u v:aT) (key b:List UInt8) (w:aU) (hu:Bs w u key) (hv:Rs w v [b]) (hkl:key.length<=1000000) (hrl:b.length<=1000000): aV aA 151 #[u,v] w λ e w'=>∃g cp,e=.returned (.slice (some ⟨g,0,none⟩) (Hf key b).length cp)/\B6 w' w.heap.size (.slice (some ⟨g,0,none⟩) (Hf key b).length cp) (Hf key b)/\Below w.heap.size w w'/\32<=cp:=
  (Ii u v key [b] w hu hv hkl (by simpa using hrl) (by simp)).mono λ e w' ⟨x,h1,h2,h3⟩=>by
    simp only [aK,aL,aM] at h2;obtain ⟨g,cp,cur,rfl,_,_,hcp,_⟩:=Own.form' h2 (by rw [Ci]; decide);exact ⟨g,cp,h1,h2,h3,by rw [Ci] at hcp; exact hcp⟩
theorem Hw {w:aU} {g cp:Nat} {b:List UInt8} (h:Bs w (.slice (some ⟨g,0,none⟩) b.length cp) b) (hb:16<=b.length):Bs w (.slice (some ⟨g,0,none⟩) 16 cp) (b.take 16):=by
  have:=h.cut 0 16 (by omega) hb;rw [Oq] at this;simpa using this
theorem Y3 (q:Nat) (r:Re) (l:List Res) (w:aU) (h:Ac w (Ju q r::l)) (hn:r.keys<1099511627776): aV aA 145 #[.pointer (some ⟨q,0,none⟩)] w λ e w'=>e=.returned (Ax r.fresh.1)/\Ac w' (Ju q r.fresh.2::l):=by
  obtain ⟨sv,hsl,h⟩:=E2.1 h;obtain ⟨seed,keys,boxes⟩:=r;simp only at h hsl hn;obtain ⟨n,hnn⟩:∃n,n=keys+1:=⟨_,rfl⟩
  obtain ⟨m,hm⟩:∃m,m=Hf seed (B7 n):=⟨_,rfl⟩
  have hml:m.length=32:=by rw [hm]; exact Ci _ _
  have e1:Re.fresh ⟨seed,keys,boxes⟩=(m.take 16,⟨seed,n,boxes⟩):=by simp [Re.fresh,hm,hnn]
  rw [e1];obtain ⟨sa,sc,rfl,_,_⟩:=(h.tail.rowOf (v:=sv) (b:=seed) (by simp)).form;have HSUM:=hqZ (λ (u v:aT) (w:aU) (hu:Bs w u seed) (hv:Rs w v [B7 n])=>A4c u v seed (B7 n) w hu hv (by omega) (by rw [Bd]; decide));rw [<-hm] at HSUM;have HKY:=hqZ (λ (v:aT) (w:aU) (hv:Bs w v (m.take 16))=>No v (m.take 16) w hv);rw [show Ih (m.take 16)=(m.take 16,true) from by rw [Ih,if_pos (by simp [hml])]] at HKY;have HML:=hqZ hml;have HSL:=hqZ hsl;have HTL:Hq ((Ab (m.take 16)).length=16):=hqZ (by simp [Aa,hml]);have hw:aW.u64.wrap ((keys:Int)+1)=n:=by rw [aW.wrap_u64,hnn]; omega
  have c1:w.cell? ⟨q,1,none⟩=some (.int .u64 keys):=h.blk0.cell 1;have f1:w.frozen? ⟨q,1,none⟩=false:=h.blk0.frozen 1;have l1:=h.blk0.lt;have HC:=hqZ ((h.set 1 (.int .u64 n)).addBlkAt A3 35 (b:=w.heap.size) (by simp));unfold Ax at HKY ⊢;clear h hsl hn hnn hm hml e1;go_enter Tryz.func145,Tryz.ntmps145;go_wp2_with fail;clear c1 f1 l1 hw;refine zG (λ b W=>W.cell? ⟨q,0,none⟩=some (.slice sa seed.length sc)/\W.cell? ⟨q,1,none⟩=some (.int .u64 n)) HC.o λ W hc=>?_
  have HC:=hqZ hc;clear hc;simp only [List.set_cons_succ,List.set_cons_zero] at HC;refine zT 0 ?_;refine zT 1 ?_;refine zT 2 ?_;refine zT 3 ?_;refine zT 4 ?_;refine zT 5 ?_;refine zT 6 ?_;refine zT 7 ?_;refine Bq (rs:= [8,16]) (by decide+kernel) (by simp) ?_;refine zC (λ K hK=>?_) (zC (λ K hK=>?_) Dq)
  · go_simp;refine (Sd n _).mono ?_;rintro e wa ⟨xp,rfl,ho,hb⟩;obtain ⟨ap,cp,rfl,_,_⟩:=ho.sl.form;have HC:=hqZ (HC.o.freshRow hb ho);clear ho hb;refine zq hK ?_;clear hK K;refine Bq (rs:= [9,16]) (by decide+kernel) (by simp) ?_;refine zC (λ K hK=>?_) (zC (λ K hK=>?_) Dq)
    · go_simp;have HRS:=hqZ (A0Z (T:=22) (g:=wa.heap.size) (by simp) (HC.o.rowOf (v:=.slice ap (B7 n).length cp) (b:=B7 n) (by simp)));have HC:=hqZ (HC.o.alloc (.cells #[.slice ap (B7 n).length cp] 22));refine zq hK ?_;clear hK K;refine Bq (rs:= [10,16]) (by decide+kernel) (by simp) ?_;refine zC (λ K hK=>?_) (zC (λ K hK=>?_) Dq)
      · go_simp;refine (HSUM.o _ _ _ (HC.o.rowOf (v:=.slice sa seed.length sc) (b:=seed) (by simp)) HRS.o).mono ?_;rintro e wb ⟨g,cq,rfl,ho,hb,hcq⟩;have HC:=hqZ (HC.o.freshRow hb ho);have HB:=hqZ (Hw ho.bs (by have:=HML.o; omega));have kc:=Gq g m.length cq (by omega);clear ho hb HRS;refine zq hK ?_;clear hK K;refine zT 11 ?_;refine Bq (rs:= [12,16]) (by decide+kernel) (by simp) ?_;refine zC (λ K hK=>?_) (zC (λ K hK=>?_) Dq)
        · go_simp;refine (HKY.o _ _ HB.o).mono ?_;rintro e wc ⟨rfl,hb⟩;have HC:=hqZ (HC.o.step hb);clear hb HB;refine zq hK ?_;clear hK K;refine zT 13 ?_;refine zT 14 ?_;refine zT 15 ?_;refine zJ 16 λ K hK=>?_
          go_simp;have HC:=hqZ (HC.o.addBlkAt A3 35 (b:=wc.heap.size) (by simp));refine zq hK ?_;clear hK K;refine zJ 17 λ K hK=>?_
          refine zWo Al (Aj _) HC.o ?_ (hm:=HTL.o);intro wd HC;refine zq hK ?_;clear hK K;refine zT 18 ?_;refine zD ?_;go_wp2_with (first | ((with_reducible refine zw 28 ?_);refine Ah rfl (.tmp 3) Al rfl rfl (cs:=Ab (m.take 16)) HTL.o HC.o.blk0.cellsAll ?_) | ((with_reducible refine zws 2 28 ?_);refine Af rfl (.tmp 2) (.tmp 28) Al rfl rfl (vs:=Ab (m.take 16)) rfl HTL.o (HC.o.zP [3]).blk0 (aC _) (Aj _) ?_));intro we he ke;have HC:=hqZ ((HC.o.zP [3]).stW (vs:=Ab (m.take 16)) he ke rfl);clear he ke;go_wp2_with fail;exact bodyPost_ret (Aw rfl Al rfl (cs:=Ab (m.take 16)) HTL.o HC.o.blk0.cellsAll) rfl ⟨rfl,(E2.2 ⟨_,HSL.o,(HC.o.zP [0,3,3]).tail⟩).drop2.drop2.drop2⟩
        · go_simp;have HC:=hqZ (HC.o.addBlkAt A3 35 (b:=wb.heap.size) (by simp));have HB:=hqZ (HB.o.alloc (.cells A3.toArray 35));refine zq hK ?_;clear hK K;refine zJ 12 λ K hK=>?_
          go_simp;refine (HKY.o _ _ HB.o).mono ?_;rintro e wc ⟨rfl,hb⟩;have HC:=hqZ (HC.o.step hb);clear hb HB;refine zq hK ?_;clear hK K;refine zT 13 ?_;refine zT 14 ?_;refine zT 15 ?_;refine zJ 17 λ K hK=>?_
          refine zWo Al (Aj _) HC.o ?_ (hm:=HTL.o);intro wd HC;refine zq hK ?_;clear hK K;refine zT 18 ?_;refine zD ?_;go_wp2_with (first | ((with_reducible refine zw 28 ?_);refine Ah rfl (.tmp 3) Al rfl rfl (cs:=Ab (m.take 16)) HTL.o HC.o.blk0.cellsAll ?_) | ((with_reducible refine zws 2 28 ?_);refine Af rfl (.tmp 2) (.tmp 28) Al rfl rfl (vs:=Ab (m.take 16)) rfl HTL.o (HC.o.zP [3]).blk0 (aC _) (Aj _) ?_));intro we he ke;have HC:=hqZ ((HC.o.zP [3]).stW (vs:=Ab (m.take 16)) he ke rfl);clear he ke;go_wp2_with fail;exact bodyPost_ret (Aw rfl Al rfl (cs:=Ab (m.take 16)) HTL.o HC.o.blk0.cellsAll) rfl ⟨rfl,(E2.2 ⟨_,HSL.o,(HC.o.zP [0,3,3]).tail⟩).drop2.drop2.drop2⟩
      · go_simp;have HC:=hqZ (HC.o.addBlkAt A3 35 (b:=wa.heap.size+1) (by simp));have HRS:=hqZ (HRS.o.below ((Below.refl _ _).alloc (aC _) (.cells A3.toArray 35)));refine zq hK ?_;clear hK K;refine zJ 10 λ K hK=>?_
        go_simp;refine (HSUM.o _ _ _ (HC.o.rowOf (v:=.slice sa seed.length sc) (b:=seed) (by simp)) HRS.o).mono ?_;rintro e wb ⟨g,cq,rfl,ho,hb,hcq⟩;have HC:=hqZ (HC.o.freshRow hb ho);have HB:=hqZ (Hw ho.bs (by have:=HML.o; omega));have kc:=Gq g m.length cq (by omega);clear ho hb HRS;refine zq hK ?_;clear hK K;refine zT 11 ?_;refine zJ 12 λ K hK=>?_
        go_simp;refine (HKY.o _ _ HB.o).mono ?_;rintro e wc ⟨rfl,hb⟩;have HC:=hqZ (HC.o.step hb);clear hb HB;refine zq hK ?_;clear hK K;refine zT 13 ?_;refine zT 14 ?_;refine zT 15 ?_;refine zJ 17 λ K hK=>?_
        refine zWo Al (Aj _) (HC.o.zP [1]) ?_ (hm:=HTL.o);intro wd HC;refine zq hK ?_;clear hK K;refine zT 18 ?_;refine zD ?_;go_wp2_with (first | ((with_reducible refine zw 28 ?_);refine Ah rfl (.tmp 3) Al rfl rfl (cs:=Ab (m.take 16)) HTL.o HC.o.blk0.cellsAll ?_) | ((with_reducible refine zws 2 28 ?_);refine Af rfl (.tmp 2) (.tmp 28) Al rfl rfl (vs:=Ab (m.take 16)) rfl HTL.o (HC.o.zP [3]).blk0 (aC _) (Aj _) ?_));intro we he ke;have HC:=hqZ ((HC.o.zP [3]).stW (vs:=Ab (m.take 16)) he ke rfl);clear he ke;go_wp2_with fail;exact bodyPost_ret (Aw rfl Al rfl (cs:=Ab (m.take 16)) HTL.o HC.o.blk0.cellsAll) rfl ⟨rfl,(E2.2 ⟨_,HSL.o,(HC.o.zP [0,3,3]).tail⟩).drop2.drop2.drop2⟩
    · go_simp;have HC:=hqZ (HC.o.addBlkAt A3 35 (b:=wa.heap.size) (by simp));refine zq hK ?_;clear hK K;refine zJ 9 λ K hK=>?_
      go_simp;have HRS:=hqZ (A0Z (T:=22) (g:=wa.heap.size+1) (by simp) (HC.o.rowOf (v:=.slice ap (B7 n).length cp) (b:=B7 n) (by simp)));have HC:=hqZ (HC.o.alloc (.cells #[.slice ap (B7 n).length cp] 22));refine zq hK ?_;clear hK K;refine zJ 10 λ K hK=>?_
      go_simp;refine (HSUM.o _ _ _ (HC.o.rowOf (v:=.slice sa seed.length sc) (b:=seed) (by simp)) HRS.o).mono ?_;rintro e wb ⟨g,cq,rfl,ho,hb,hcq⟩;have HC:=hqZ (HC.o.freshRow hb ho);have HB:=hqZ (Hw ho.bs (by have:=HML.o; omega));have kc:=Gq g m.length cq (by omega);clear ho hb HRS;refine zq hK ?_;clear hK K;refine zT 11 ?_;refine zJ 12 λ K hK=>?_
      go_simp;refine (HKY.o _ _ HB.o).mono ?_;rintro e wc ⟨rfl,hb⟩;have HC:=hqZ (HC.o.step hb);clear hb HB;refine zq hK ?_;clear hK K;refine zT 13 ?_;refine zT 14 ?_;refine zT 15 ?_;refine zJ 17 λ K hK=>?_
      refine zWo Al (Aj _) (HC.o.zP [1]) ?_ (hm:=HTL.o);intro wd HC;refine zq hK ?_;clear hK K;refine zT 18 ?_;refine zD ?_;go_wp2_with (first | ((with_reducible refine zw 28 ?_);refine Ah rfl (.tmp 3) Al rfl rfl (cs:=Ab (m.take 16)) HTL.o HC.o.blk0.cellsAll ?_) | ((with_reducible refine zws 2 28 ?_);refine Af rfl (.tmp 2) (.tmp 28) Al rfl rfl (vs:=Ab (m.take 16)) rfl HTL.o (HC.o.zP [3]).blk0 (aC _) (Aj _) ?_));intro we he ke;have HC:=hqZ ((HC.o.zP [3]).stW (vs:=Ab (m.take 16)) he ke rfl);clear he ke;go_wp2_with fail;exact bodyPost_ret (Aw rfl Al rfl (cs:=Ab (m.take 16)) HTL.o HC.o.blk0.cellsAll) rfl ⟨rfl,(E2.2 ⟨_,HSL.o,(HC.o.zP [0,3,3]).tail⟩).drop2.drop2.drop2⟩
  · go_simp;have HC:=hqZ (HC.o.addBlkAt A3 35 (b:=W.heap.size) (by simp));refine zq hK ?_;clear hK K;refine zJ 8 λ K hK=>?_
    go_simp;refine (Sd n _).mono ?_;rintro e wa ⟨xp,rfl,ho,hb⟩;obtain ⟨ap,cp,rfl,_,_⟩:=ho.sl.form;have HC:=hqZ (HC.o.freshRow hb ho);clear ho hb;refine zq hK ?_;clear hK K;refine zJ 9 λ K hK=>?_
    go_simp;have HRS:=hqZ (A0Z (T:=22) (g:=wa.heap.size) (by simp) (HC.o.rowOf (v:=.slice ap (B7 n).length cp) (b:=B7 n) (by simp)));have HC:=hqZ (HC.o.alloc (.cells #[.slice ap (B7 n).length cp] 22));refine zq hK ?_;clear hK K;refine zJ 10 λ K hK=>?_
    go_simp;refine (HSUM.o _ _ _ (HC.o.rowOf (v:=.slice sa seed.length sc) (b:=seed) (by simp)) HRS.o).mono ?_;rintro e wb ⟨g,cq,rfl,ho,hb,hcq⟩;have HC:=hqZ (HC.o.freshRow hb ho);have HB:=hqZ (Hw ho.bs (by have:=HML.o; omega));have kc:=Gq g m.length cq (by omega);clear ho hb HRS;refine zq hK ?_;clear hK K;refine zT 11 ?_;refine zJ 12 λ K hK=>?_
    go_simp;refine (HKY.o _ _ HB.o).mono ?_;rintro e wc ⟨rfl,hb⟩;have HC:=hqZ (HC.o.step hb);clear hb HB;refine zq hK ?_;clear hK K;refine zT 13 ?_;refine zT 14 ?_;refine zT 15 ?_;refine zJ 17 λ K hK=>?_
    refine zWo Al (Aj _) (HC.o.zP [2]) ?_ (hm:=HTL.o);intro wd HC;refine zq hK ?_;clear hK K;refine zT 18 ?_;refine zD ?_;go_wp2_with (first | ((with_reducible refine zw 28 ?_);refine Ah rfl (.tmp 3) Al rfl rfl (cs:=Ab (m.take 16)) HTL.o HC.o.blk0.cellsAll ?_) | ((with_reducible refine zws 2 28 ?_);refine Af rfl (.tmp 2) (.tmp 28) Al rfl rfl (vs:=Ab (m.take 16)) rfl HTL.o (HC.o.zP [3]).blk0 (aC _) (Aj _) ?_));intro we he ke;have HC:=hqZ ((HC.o.zP [3]).stW (vs:=Ab (m.take 16)) he ke rfl);clear he ke;go_wp2_with fail;exact bodyPost_ret (Aw rfl Al rfl (cs:=Ab (m.take 16)) HTL.o HC.o.blk0.cellsAll) rfl ⟨rfl,(E2.2 ⟨_,HSL.o,(HC.o.zP [0,3,3]).tail⟩).drop2.drop2.drop2⟩
theorem A0v {a:Option Addr} {n c:Nat} :Tryz.prog.built 107 [(0,.slice a n c)]=some #[.slice a n c,.int .u64 0,.int .u64 0]:=by kernel_rfl
theorem Zc (v:aT) (seed:List UInt8) (l:List Res) (w:aU) (h:Ac w l) (hv:Bs w v seed) (hs:seed.length<=1000): aV aA 6 #[v] w λ e w'=>∃q,e=.returned (.pointer (some ⟨q,0,none⟩))/\Ac w' (Ju q ⟨seed,0,0⟩::l):=by
  have HC:=hqZ h;have HV:=hqZ hv;have HS:=hqZ hs;obtain ⟨va,vc,rfl,_,_⟩:=hv.form;clear h hv hs;go_enter Tryz.func6,Tryz.ntmps6;go_wp2_with ((with_reducible refine zw 4 ?_);refine Df rfl (.const (.slice none 0 0)) (.tmp 3) Cl rfl w.heap.size (Own.nil _ _ _ _ _) (λ b hb=>by simp [Act.eval,aT.ownBlock] at hb) HV.o (by have:=HS.o; unfold maxLen; omega) (by have:=HS.o; omega) (aC _) ?_);intro v1 w1 ho hk hv;have ho:B6 w1 w.heap.size v1 seed:=by unfold B6; simpa using ho
  have hb1:Below w.heap.size w w1:=hk.below (by
    rintro i (h | h)
    · exact h.2
    · exact h)
  have HC:=hqZ (HC.o.freshRow hb1 ho);obtain ⟨a1,c1,rfl,_,_⟩:=ho.sl.form;have HC:=hqZ (HC.o.addBlk [.slice a1 seed.length c1,.int .u64 0,.int .u64 0] 107);clear ho hk hv hb1;go_wp2_with ((with_reducible refine zw 5 ?_);refine Dg rfl rfl (by simp [Act.eval]; rfl) A0v ?_);go_ret;exact ⟨_,rfl,E2.2 ⟨_,HS.o,HC.o⟩⟩
end Go.Proofs.YtnihelcjmahmnaaGreat
namespace Go.Proofs.YtnihelcjmahmnaaGreat
open Go.RowKit
theorem A5t (x:UInt8) (c:Nat) (hc:c<256):(aT.int .u8 (bits .xor .u8 (x.toNat:Int) (c:Int)))=bV (x ^^^ UInt8.ofNat c):=by
  have e:((UInt8.ofNat c).toNat:Nat)=c:=by rw [UInt8.toNat_ofNat']; exact aF hc
  rw [bV,UInt8.toNat_xor,e,u8_xor_nat _ _ x.toNat_lt hc]
theorem A6H (b:UInt8):((b <<<1).toNat:Int)=(b.toNat:Int)*2 % 256:=by
  rw [UInt8.toNat_shiftLeft,show (1:UInt8).toNat % 8=1 from rfl,aP];omega
theorem Ia (b:UInt8) (w:aU):aV aA 162 #[.int .u8 (b.toNat:Int)] w λ e w'=>e=.returned (bV (He b))/\w=w':=by
  by_cases h:128<=b
  · have hn:(128:Int)<=(b.toNat:Int):=by
      have:=UInt8.le_iff_toNat_le.1 h;simp at this;omega
    have hd:He b=(b <<<1) ^^^ 27:=by rw [He,if_pos h]
    rw [hd];clear h hd;go_enter aQ,aR;go_wp2_with fail;go_ret;refine ⟨?_,rfl⟩;show Ending.returned (.int .u8 (bits .xor .u8 ((b.toNat:Int)*2 % 256) ((27:Nat):Int)))=_
    rw [<-A6H,A5t _ 27 (by decide)];rfl
  · have hn:¬(128:Int)<=(b.toNat:Int):=by
      have h:=mt UInt8.le_iff_toNat_le.2 h;simp at h;omega
    have hd:He b=b <<<1:=by rw [He,if_neg h]
    rw [hd];clear h hd;go_enter aQ,aR;go_wp2_with fail;go_ret;refine ⟨?_,rfl⟩;show Ending.returned (.int .u8 ((b.toNat:Int)*2))=_
    rw [show (b.toNat:Int)*2=(b.toNat:Int)*2 % 256 by omega,<-A6H];rfl
theorem A4k (x:UInt8) (c:Nat) (hc:c<256):bits .and .u8 (x.toNat:Int) (c:Int)=((x&&& UInt8.ofNat c).toNat:Int):=by
  have e:((UInt8.ofNat c).toNat:Nat)=c:=by rw [UInt8.toNat_ofNat']; exact aF hc
  rw [UInt8.toNat_and,e,u8_and_nat _ _ x.toNat_lt hc]
theorem A4p (x y:UInt8):(aT.int .u8 (bits .xor .u8 (x.toNat:Int) (y.toNat:Int)))=.int .u8 ((x ^^^ y).toNat:Int):=by
  rw [UInt8.toNat_xor,u8_xor_nat _ _ x.toNat_lt y.toNat_lt]
theorem A5i (b:UInt8):((b >>>1).toNat:Int)=(b.toNat:Int) / 2:=by
  rw [UInt8.toNat_shiftRight,show (1:UInt8).toNat % 8=1 from rfl,aS];omega
theorem Y1:∀(n:Nat) (p a:UInt8),M5 n p a 0=p
  | 0,_,_=>rfl
  | n+1,_,_=>by simp [M5]
theorem D5 (a b:UInt8) (w:aU):aV aA 170 #[.int .u8 (a.toNat:Int),.int .u8 (b.toNat:Int)] w λ e w'=>e=.returned (bV (Cs a b))/\w=w':=by
  go_enter Tryz.func170,Tryz.ntmps170;go_wp2_with fail;go_loopw [0,1,5] (λ va vb vp wr=>∃(k:Nat) (x y p:UInt8),va=.int .u8 (x.toNat:Int)/\vb=.int .u8 (y.toNat:Int)/\vp=.int .u8 (p.toNat:Int)/\M5 k p x y=Cs a b/\y.toNat<2 ^ k/\wr=w) (λ _ vb _ _=>(intOf vb).toNat)
  · exact ⟨8,a,b,0,rfl,rfl,rfl,rfl,b.toNat_lt,rfl⟩
  · obtain ⟨k,x,y,p,rfl,rfl,rfl,hk,hy,rfl⟩:=hrel;by_cases h0:y=0
    · subst h0;rw [Y1] at hk;subst hk;go_wp2_with fail;go_ret;exact ⟨rfl,rfl⟩
    · have hpos:(0:Int)< (y.toNat:Int):=by
        have:y.toNat≠0:=λ e=>h0 (UInt8.toNat_inj.1 (by simpa using e))
        omega
      have HK:=hqZ hk;have HY:=hqZ hy;have H0:=hqZ h0;have hand:bits .and .u8 (y.toNat:Int) 1=((y&&& 1).toNat:Int):=A4k y 1 (by decide);clear hk hy h0;by_cases h1:y&&& 1=1
      · have H1:=hqZ h1;rw [h1] at hand;clear h1;go_wp2_with (go_at_call 162; refine (Ia _ _).mono ?_; rintro e w' ⟨rfl,rfl⟩);refine ⟨⟨k-1,He x,y >>>1,p ^^^ x,rfl,by rw [A5i],A4p p x,?_,?_,trivial⟩,?_⟩
        · have hy:=HY.o;obtain ⟨m,rfl⟩:∃m,k=m+1:=⟨k-1,by cases k with | zero=>simp at hy; omega | succ k=>omega⟩
          have hk:=HK.o;rw [M5,if_neg H0.o,if_pos H1.o] at hk;exact hk
        · have hy:=HY.o
          cases k with
          | zero=>simp at hy; omega
          | succ m=>
            have e:=A5i y;rw [aI] at hy;show (y >>>1).toNat<2 ^ m
            omega
        · simp only [intOf];omega
      · have H1:=hqZ h1;have hz:y&&& 1=0:=by
          apply UInt8.toNat_inj.1;have e:(y&&& 1).toNat=y.toNat % 2:=by rw [UInt8.toNat_and]; exact Nat.and_one_is_mod _
          have h2:(y&&& 1).toNat≠1:=λ e=>h1 (UInt8.toNat_inj.1 (by simpa using e))
          show (y&&& 1).toNat=0
          omega
        rw [hz] at hand;clear h1 hz;go_wp2_with (go_at_call 162; refine (Ia _ _).mono ?_; rintro e w' ⟨rfl,rfl⟩);refine ⟨⟨k-1,He x,y >>>1,p,rfl,by rw [A5i],rfl,?_,?_,trivial⟩,?_⟩
        · have hy:=HY.o;obtain ⟨m,rfl⟩:∃m,k=m+1:=⟨k-1,by cases k with | zero=>simp at hy; omega | succ k=>omega⟩
          have hk:=HK.o;rw [M5,if_neg H0.o,if_neg H1.o] at hk;exact hk
        · have hy:=HY.o
          cases k with
          | zero=>simp at hy; omega
          | succ m=>
            have e:=A5i y;rw [aI] at hy;show (y >>>1).toNat<2 ^ m
            omega
        · simp only [intOf];omega
def xB (x y:UInt8):UInt8:=x ^^^ y
def oB (x y:UInt8):UInt8:=x||| y
def lB (x c:UInt8):UInt8:=x <<<c
def rB (x c:UInt8):UInt8:=x >>>c
theorem u8x (x y:UInt8):bits .xor .u8 (x.toNat:Int) (y.toNat:Int)=((xB x y).toNat:Int):=by
  rw [xB,UInt8.toNat_xor,u8_xor_nat _ _ x.toNat_lt y.toNat_lt]
theorem u8o (x y:UInt8):bits .or .u8 (x.toNat:Int) (y.toNat:Int)=((oB x y).toNat:Int):=by
  rw [u8_or_nat _ _ x.toNat_lt y.toNat_lt,oB,UInt8.toNat_or]
theorem u8l (b c:UInt8) (hc:c.toNat<8):((lB b c).toNat:Int)=(b.toNat:Int)*(2 ^ c.toNat:Nat) % 256:=by
  rw [lB,UInt8.toNat_shiftLeft,aF hc,aP];omega
theorem u8r (b c:UInt8) (hc:c.toNat<8):((rB b c).toNat:Int)=(b.toNat:Int) / (2 ^ c.toNat:Nat):=by
  rw [rB,UInt8.toNat_shiftRight,aF hc,aS];omega
theorem u8c (x:UInt8) (c:UInt8) (z:Int) (hz:(c.toNat:Int)=z):bits .xor .u8 (x.toNat:Int) z=((xB x c).toNat:Int):=by rw [<-hz]; exact u8x x c
def Lr (q:UInt8):UInt8:=xB (xB (xB q (lB q 1)) (lB (xB q (lB q 1)) 2)) (lB (xB (xB q (lB q 1)) (lB (xB q (lB q 1)) 2)) 4)
theorem Y9 (q:UInt8):Io q=if 128<=Lr q then xB (Lr q) 9 else Lr q:=rfl
def Ss (q:UInt8):Nat->UInt8
  | 0=>q
  | 1=>q
  | 2=>xB q (oB (lB q 1) (rB q 7))
  | 3=>xB (xB q (oB (lB q 1) (rB q 7))) (oB (lB q 2) (rB q 6))
  | 4=>xB (xB (xB q (oB (lB q 1) (rB q 7))) (oB (lB q 2) (rB q 6))) (oB (lB q 3) (rB q 5))
  | _=>xB (xB (xB (xB q (oB (lB q 1) (rB q 7))) (oB (lB q 2) (rB q 6))) (oB (lB q 3) (rB q 5))) (oB (lB q 4) (rB q 4))
theorem Za (q:UInt8):xB (Ss q 5) 99=Qd q:=rfl
theorem Do {l:List UInt8} {i:Nat} (h:i<l.length):∃y,(Ab l)[i]?=some y:=⟨_,List.getElem?_eq_getElem (by rw [Aa]; exact h)⟩
theorem A4y (l:List Res) (w:aU) (h:Ac w l):aV aA 161 #[] w λ e w'=>∃b,e=.returned (.pointer (some ⟨b,0,none⟩))/\Ac w' (.blk b (Ab Ey) 326::l):=by
  have HC:=hqZ (h.addBlk (Ab (aH 256 0)) 326);have hx:=u8x;clear h;go_enter Tryz.func161,Tryz.ntmps161;go_wp2_with fail;generalize hG:aU.alloc _ _=W;have HC:=hqZ (HC.o.cast hG);have HZ:Hq (w.heap.size<W.heap.size):=hqZ HC.o.blk0.lt;clear hG;go_loopw [2,3,4,5,6] (λ vp vq vx vi vn wr=>∃(n:Nat),n<=255/\vp=.int .u8 ((C6 n).2.1.toNat:Int)/\vq=.int .u8 ((C6 n).2.2.toNat:Int)/\vn=.int .i64 n/\Ac wr (.blk w.heap.size (Ab (C6 n).1) 326::l)) (λ _ _ _ _ vn _=>255- (intOf vn).toNat)
  · exact ⟨0,by omega,rfl,rfl,rfl,HC.o⟩
  · obtain ⟨n,hn,rfl,rfl,rfl,hc⟩:=hrel;have HC:=hqZ hc;clear hc;by_cases hlt:n<255
    · obtain ⟨p,hp⟩:∃p,p=(C6 n).2.1:=⟨_,rfl⟩
      obtain ⟨q,hq⟩:∃q,q=(C6 n).2.2:=⟨_,rfl⟩
      have HP:=hqZ hp;have HQ:=hqZ hq;rw [<-hp,<-hq];clear hp hq;have ho:=u8o;have l1:∀x:UInt8,(x.toNat:Int)*2 % 256=((lB x 1).toNat:Int):=λ x=>(u8l x 1 (by decide)).symm
      have l2:∀x:UInt8,(x.toNat:Int)*4 % 256=((lB x 2).toNat:Int):=λ x=>(u8l x 2 (by decide)).symm
      have l3:∀x:UInt8,(x.toNat:Int)*8 % 256=((lB x 3).toNat:Int):=λ x=>(u8l x 3 (by decide)).symm
      have l4:∀x:UInt8,(x.toNat:Int)*16 % 256=((lB x 4).toNat:Int):=λ x=>(u8l x 4 (by decide)).symm
      have hm:xB (xB (xB q (lB q 1)) (lB (xB q (lB q 1)) 2)) (lB (xB (xB q (lB q 1)) (lB (xB q (lB q 1)) 2)) 4)=Lr q:=rfl;have h9:bits .xor .u8 ((Lr q).toNat:Int) 9=((xB (Lr q) 9).toNat:Int):=u8c _ 9 9 rfl;have r7:∀x:UInt8,(x.toNat:Int) / 128=((rB x 7).toNat:Int):=λ x=>(u8r x 7 (by decide)).symm
      have r6:∀x:UInt8,(x.toNat:Int) / 64=((rB x 6).toNat:Int):=λ x=>(u8r x 6 (by decide)).symm
      have r5:∀x:UInt8,(x.toNat:Int) / 32=((rB x 5).toNat:Int):=λ x=>(u8r x 5 (by decide)).symm
      have r4:∀x:UInt8,(x.toNat:Int) / 16=((rB x 4).toNat:Int):=λ x=>(u8r x 4 (by decide)).symm
      by_cases hge:128<=Lr q
      · have hgi:(128:Int)<=((Lr q).toNat:Int):=by have:=UInt8.le_iff_toNat_le.1 hge; simp at this; omega
        have hq4:xB (Lr q) 9=Io q:=by rw [Y9,if_pos hge]
        clear hge;go_wp2_with (go_at_call 162; refine (Ia _ _).mono ?_; rintro e w' ⟨rfl,rfl⟩; unfold bV);go_loopw [4,5] (λ vx vi wi=>∃k:Nat,1<=k/\k<=5/\vi=.int .i64 k/\vx=.int .u8 ((Ss (Io q) k).toNat:Int)/\Ac wi (.blk w.heap.size (Ab (C6 n).1) 326::l)) (λ _ vi _=>5- (intOf vi).toNat)
        case atStart=>exact ⟨1,by omega,by omega,rfl,rfl,HC.o⟩
        case round=>
          obtain ⟨k,hk1,hk5,rfl,rfl,hc⟩:=hrel;have HC:=hqZ hc;clear hc;have hkk:k=1\/k=2\/k=3\/k=4\/k=5:=by omega
          clear hk1 hk5;rcases hkk with rfl | rfl | rfl | rfl | rfl
          · have er:((1:Nat):Int)=1:=rfl;rw [er];clear er;go_wp2_with fail;go_quiet (fail);go_wp2_with fail;exact ⟨⟨2,by omega,by omega,rfl,rfl,HC.o.drewN _⟩,by simp [intOf]⟩
          · have er:((2:Nat):Int)=2:=rfl;rw [er];clear er;go_wp2_with fail;go_quiet (fail);go_wp2_with fail;exact ⟨⟨3,by omega,by omega,rfl,rfl,HC.o.drewN _⟩,by simp [intOf]⟩
          · have er:((3:Nat):Int)=3:=rfl;rw [er];clear er;go_wp2_with fail;go_quiet (fail);go_wp2_with fail;exact ⟨⟨4,by omega,by omega,rfl,rfl,HC.o.drewN _⟩,by simp [intOf]⟩
          · have er:((4:Nat):Int)=4:=rfl;rw [er];clear er;go_wp2_with fail;go_quiet (fail);go_wp2_with fail;exact ⟨⟨5,by omega,by omega,rfl,rfl,HC.o.drewN _⟩,by simp [intOf]⟩
          · have er:((5:Nat):Int)=5:=rfl;rw [er];clear er;obtain ⟨y,hy⟩:=Do (l:=(C6 n).1) (i:=(xB p (He p)).toNat) (by rw [Gu]; exact UInt8.toNat_lt _);have cc:=(HC.o.blk0.cell (xB p (He p)).toNat).trans hy;have cf:=HC.o.blk0.frozen (xB p (He p)).toNat;have ch:=HC.o.blk0.lt;have hi:((xB p (He p)).toNat:Int)<256:=by have:=(xB p (He p)).toNat_lt; omega
            have h99:bits .xor .u8 ((Ss (Io q) 5).toNat:Int) 99=((Qd (Io q)).toNat:Int):=(u8c _ 99 99 rfl).trans (by rw [Za]);clear hy;go_wp2_with fail;have hs:=HC.o.set (xB p (He p)).toNat (bV (Qd (Io q)));rw [B5] at hs;refine ⟨⟨n+1,by omega,?_,?_,by go_num,?_⟩,by simp [intOf]; omega⟩
            · rw [HP.o]; rfl
            · rw [HQ.o]; rfl
            · have e:(C6 n).1.set (xB p (He p)).toNat (Qd (Io q))=(C6 (n+1)).1:=by rw [HP.o,HQ.o]; rfl
              rw [e] at hs;exact hs
      · have hlt8:decide ((128:Int)<=((Lr q).toNat:Int))=false:=by have:=mt UInt8.le_iff_toNat_le.2 hge; simp at this; simp; omega
        have hq4:Lr q=Io q:=by rw [Y9,if_neg hge]
        rw [hq4] at hlt8 hm;clear h9;clear hge;go_wp2_with (go_at_call 162; refine (Ia _ _).mono ?_; rintro e w' ⟨rfl,rfl⟩; unfold bV);go_loopw [4,5] (λ vx vi wi=>∃k:Nat,1<=k/\k<=5/\vi=.int .i64 k/\vx=.int .u8 ((Ss (Io q) k).toNat:Int)/\Ac wi (.blk w.heap.size (Ab (C6 n).1) 326::l)) (λ _ vi _=>5- (intOf vi).toNat)
        case atStart=>exact ⟨1,by omega,by omega,rfl,rfl,HC.o⟩
        case round=>
          obtain ⟨k,hk1,hk5,rfl,rfl,hc⟩:=hrel;have HC:=hqZ hc;clear hc;have hkk:k=1\/k=2\/k=3\/k=4\/k=5:=by omega
          clear hk1 hk5;rcases hkk with rfl | rfl | rfl | rfl | rfl
          · have er:((1:Nat):Int)=1:=rfl;rw [er];clear er;go_wp2_with fail;go_quiet (fail);go_wp2_with fail;exact ⟨⟨2,by omega,by omega,rfl,rfl,HC.o.drewN _⟩,by simp [intOf]⟩
          · have er:((2:Nat):Int)=2:=rfl;rw [er];clear er;go_wp2_with fail;go_quiet (fail);go_wp2_with fail;exact ⟨⟨3,by omega,by omega,rfl,rfl,HC.o.drewN _⟩,by simp [intOf]⟩
          · have er:((3:Nat):Int)=3:=rfl;rw [er];clear er;go_wp2_with fail;go_quiet (fail);go_wp2_with fail;exact ⟨⟨4,by omega,by omega,rfl,rfl,HC.o.drewN _⟩,by simp [intOf]⟩
          · have er:((4:Nat):Int)=4:=rfl;rw [er];clear er;go_wp2_with fail;go_quiet (fail);go_wp2_with fail;exact ⟨⟨5,by omega,by omega,rfl,rfl,HC.o.drewN _⟩,by simp [intOf]⟩
          · have er:((5:Nat):Int)=5:=rfl;rw [er];clear er;obtain ⟨y,hy⟩:=Do (l:=(C6 n).1) (i:=(xB p (He p)).toNat) (by rw [Gu]; exact UInt8.toNat_lt _);have cc:=(HC.o.blk0.cell (xB p (He p)).toNat).trans hy;have cf:=HC.o.blk0.frozen (xB p (He p)).toNat;have ch:=HC.o.blk0.lt;have hi:((xB p (He p)).toNat:Int)<256:=by have:=(xB p (He p)).toNat_lt; omega
            have h99:bits .xor .u8 ((Ss (Io q) 5).toNat:Int) 99=((Qd (Io q)).toNat:Int):=(u8c _ 99 99 rfl).trans (by rw [Za]);clear hy;go_wp2_with fail;have hs:=HC.o.set (xB p (He p)).toNat (bV (Qd (Io q)));rw [B5] at hs;refine ⟨⟨n+1,by omega,?_,?_,by go_num,?_⟩,by simp [intOf]; omega⟩
            · rw [HP.o]; rfl
            · rw [HQ.o]; rfl
            · have e:(C6 n).1.set (xB p (He p)).toNat (Qd (Io q))=(C6 (n+1)).1:=by rw [HP.o,HQ.o]; rfl
              rw [e] at hs;exact hs
    · obtain rfl:n=255:=by omega
      obtain ⟨y,hy⟩:=Do (l:=(C6 255).1) (i:=0) (by rw [Gu]; decide);obtain ⟨S,hS⟩:∃S,S=(C6 255).1:=⟨_,rfl⟩
      have hB:(Ab S).set 0 (bV 99)=Ab Ey:=by rw [B5,hS]; rfl
      rw [<-hS] at hy HC;have HB:=hqZ hB;have cc:=(HC.o.blk0.cell 0).trans hy;have cf:=HC.o.blk0.frozen 0;have ch:=HC.o.blk0.lt;have hd:decide (((255:Nat):Int)<255)=false:=rfl;clear hy hB hS;go_wp2_with fail;go_ret;have hs:=HC.o.set 0 (bV 99);rw [HB.o] at hs;exact ⟨_,rfl,hs⟩
theorem Cu {l:List UInt8} {i:Nat} (h:i<l.length):(Ab l)[i]?=some (.int .u8 ((l.getD i 0).toNat:Int)):=by
  simp [Ab,bV,List.getD_eq_getElem?_getD,h]
theorem Yq (s:List UInt8) (t:Nat):(Vu s t).length=s.length:=by simp [Vu]
theorem A4S (b:Nat) (S:List UInt8) (t:Nat) (l:List Res) (w:aU) (h:Ac w (.blk b (Ab S) 34::l)) (hS:S.length=16) (ht:t<=12): aV aA 166 #[.pointer (some ⟨b,0,none⟩),.int .i64 t] w λ e w'=>e=.returned (.tuple #[])/\Ac w' (.blk b (Ab (Vu S t)) 34::l):=by
  obtain ⟨x0,hx0⟩:∃x,x=S.getD t 0:=⟨_,rfl⟩
  obtain ⟨x1,hx1⟩:∃x,x=S.getD (t+1) 0:=⟨_,rfl⟩
  obtain ⟨x2,hx2⟩:∃x,x=S.getD (t+2) 0:=⟨_,rfl⟩
  obtain ⟨x3,hx3⟩:∃x,x=S.getD (t+3) 0:=⟨_,rfl⟩
  have c0:w.cell? ⟨b,t,none⟩=some (.int .u8 (x0.toNat:Int)):=by rw [hx0]; exact (h.blk0.cell t).trans (Cu (by omega))
  have c1:w.cell? ⟨b,t+1,none⟩=some (.int .u8 (x1.toNat:Int)):=by rw [hx1]; exact (h.blk0.cell (t+1)).trans (Cu (by omega))
  have c2:w.cell? ⟨b,t+2,none⟩=some (.int .u8 (x2.toNat:Int)):=by rw [hx2]; exact (h.blk0.cell (t+2)).trans (Cu (by omega))
  have c3:w.cell? ⟨b,t+3,none⟩=some (.int .u8 (x3.toNat:Int)):=by rw [hx3]; exact (h.blk0.cell (t+3)).trans (Cu (by omega))
  have hm:Vu S t=(((S.set t (xB (xB (xB (Cs x0 2) (Cs x1 3)) x2) x3)).set (t+1) (xB (xB (xB x0 (Cs x1 2)) (Cs x2 3)) x3)).set (t+2) (xB (xB (xB x0 x1) (Cs x2 2)) (Cs x3 3))).set (t+3) (xB (xB (xB (Cs x0 3) x1) x2) (Cs x3 2)):=by rw [hx0,hx1,hx2,hx3]; rfl
  have HM:=hqZ hm;have HC:=hqZ h;have HS:=hqZ hS;have hx:=u8x;have i0:(0:Int)<=(t:Int):=by omega
  have i1:(t:Int)<16:=by omega
  have i2:(t:Int)+1<16:=by omega
  have i3:(t:Int)+2<16:=by omega
  have i4:(t:Int)+3<16:=by omega
  have w1:aW.i64.wrap ((t:Int)+1)=(t:Int)+1:=by rw [aW.wrap_i64]; omega
  have p1:(0:Int)<=(t:Int)+1:=by omega
  have n1:((t:Int)+1).toNat=t+1:=by omega
  have w2:aW.i64.wrap ((t:Int)+2)=(t:Int)+2:=by rw [aW.wrap_i64]; omega
  have p2:(0:Int)<=(t:Int)+2:=by omega
  have n2:((t:Int)+2).toNat=t+2:=by omega
  have w3:aW.i64.wrap ((t:Int)+3)=(t:Int)+3:=by rw [aW.wrap_i64]; omega
  have p3:(0:Int)<=(t:Int)+3:=by omega
  have n3:((t:Int)+3).toNat=t+3:=by omega
  rw [hm];clear h hm hx0 hx1 hx2 hx3 hS;go_enter Tryz.func166,Tryz.ntmps166;go_wp2_with fail;go_quiet (fail);go_wp2_with fail;obtain ⟨W,hW⟩:∃W,W=w.drewN nq:=⟨_,rfl⟩
  have HC:Hq (Ac W (.blk b (Ab S) 34::l)):=hqZ (by rw [hW]; exact HC.o.drewN nq);rw [<-hW];clear hW c0 c1 c2 c3;refine Ev [] (λ _ _=>True) (by kernel_rfl) ?_;generalize hG:aU.drew _=W;have HC:=hqZ (HC.o.drew.cast hG);clear hG;refine zT 0 ?_;refine zT 1 ?_;refine zT 2 ?_;refine zT 4 ?_;refine zT 7 ?_;refine zT 9 ?_;refine zT 11 ?_;refine zJ 3 λ K hK=>?_
  go_simp;refine (D5 x0 2 _).mono ?_;rintro e w' ⟨rfl,rfl⟩;unfold bV;refine zq hK ?_;clear hK K;refine zJ 5 λ K hK=>?_
  go_simp;refine (D5 x1 3 _).mono ?_;rintro e w' ⟨rfl,rfl⟩;unfold bV;refine zq hK ?_;clear hK K;refine zT 6 ?_;refine zT 8 ?_;refine zT 10 ?_;refine zT 12 ?_;refine zJ 13 λ K hK=>?_
  obtain ⟨y,hy⟩:=Do (l:=S) (i:=t) (by have:=HS.o; first | omega | (simp only [aG]; omega));have cc:=(HC.o.blk0.cell (t)).trans hy;have cf:=HC.o.blk0.frozen (t);have ch:=HC.o.blk0.lt;have hc:=HC.o.set (t) (bV (xB (xB (xB (Cs x0 2) (Cs x1 3)) x2) x3));rw [B5] at hc;have HC:=hqZ hc;clear hc hy;go_simp;clear cc cf ch;refine zq hK ?_;clear hK K;refine zD ?_;go_wp2_with fail;refine Ev [] (λ _ _=>True) (by kernel_rfl) ?_;generalize hG:aU.drew _=W;have HC:=hqZ (HC.o.drew.cast hG);clear hG;refine zT 0 ?_;refine zT 1 ?_;refine zT 2 ?_;refine zT 3 ?_;refine zT 4 ?_;refine zT 7 ?_;refine zT 10 ?_;refine zT 12 ?_;refine zJ 5 λ K hK=>?_
  go_simp;refine (D5 x1 2 _).mono ?_;rintro e w' ⟨rfl,rfl⟩;unfold bV;refine zq hK ?_;clear hK K;refine zT 6 ?_;refine zJ 8 λ K hK=>?_
  go_simp;refine (D5 x2 3 _).mono ?_;rintro e w' ⟨rfl,rfl⟩;unfold bV;refine zq hK ?_;clear hK K;refine zT 9 ?_;refine zT 11 ?_;refine zT 13 ?_;refine zJ 14 λ K hK=>?_
  obtain ⟨y,hy⟩:=Do (l:=(S).set (t) (xB (xB (xB (Cs x0 2) (Cs x1 3)) x2) x3)) (i:=t+1) (by have:=HS.o; first | omega | (simp only [aG]; omega));have cc:=(HC.o.blk0.cell (t+1)).trans hy;have cf:=HC.o.blk0.frozen (t+1);have ch:=HC.o.blk0.lt;have hc:=HC.o.set (t+1) (bV (xB (xB (xB x0 (Cs x1 2)) (Cs x2 3)) x3));rw [B5] at hc;have HC:=hqZ hc;clear hc hy;go_simp;clear cc cf ch;refine zq hK ?_;clear hK K;refine zD ?_;go_wp2_with fail;refine Ev [] (λ _ _=>True) (by kernel_rfl) ?_;generalize hG:aU.drew _=W;have HC:=hqZ (HC.o.drew.cast hG);clear hG;refine zT 0 ?_;refine zT 1 ?_;refine zT 2 ?_;refine zT 3 ?_;refine zT 4 ?_;refine zT 5 ?_;refine zT 6 ?_;refine zT 9 ?_;refine zT 12 ?_;refine zJ 7 λ K hK=>?_
  go_simp;refine (D5 x2 2 _).mono ?_;rintro e w' ⟨rfl,rfl⟩;unfold bV;refine zq hK ?_;clear hK K;refine zT 8 ?_;refine zJ 10 λ K hK=>?_
  go_simp;refine (D5 x3 3 _).mono ?_;rintro e w' ⟨rfl,rfl⟩;unfold bV;refine zq hK ?_;clear hK K;refine zT 11 ?_;refine zT 13 ?_;refine zJ 14 λ K hK=>?_
  obtain ⟨y,hy⟩:=Do (l:=((S).set (t) (xB (xB (xB (Cs x0 2) (Cs x1 3)) x2) x3)).set (t+1) (xB (xB (xB x0 (Cs x1 2)) (Cs x2 3)) x3)) (i:=t+2) (by have:=HS.o; first | omega | (simp only [aG]; omega));have cc:=(HC.o.blk0.cell (t+2)).trans hy;have cf:=HC.o.blk0.frozen (t+2);have ch:=HC.o.blk0.lt;have hc:=HC.o.set (t+2) (bV (xB (xB (xB x0 x1) (Cs x2 2)) (Cs x3 3)));rw [B5] at hc;have HC:=hqZ hc;clear hc hy;go_simp;clear cc cf ch;refine zq hK ?_;clear hK K;refine zD ?_;go_wp2_with fail;refine Ev [] (λ _ _=>True) (by kernel_rfl) ?_;generalize hG:aU.drew _=W;have HC:=hqZ (HC.o.drew.cast hG);clear hG;refine zT 0 ?_;refine zT 1 ?_;refine zT 2 ?_;refine zT 3 ?_;refine zT 5 ?_;refine zT 7 ?_;refine zT 9 ?_;refine zT 12 ?_;refine zJ 4 λ K hK=>?_
  go_simp;refine (D5 x0 3 _).mono ?_;rintro e w' ⟨rfl,rfl⟩;unfold bV;refine zq hK ?_;clear hK K;refine zT 6 ?_;refine zT 8 ?_;refine zJ 10 λ K hK=>?_
  go_simp;refine (D5 x3 2 _).mono ?_;rintro e w' ⟨rfl,rfl⟩;unfold bV;refine zq hK ?_;clear hK K;refine zT 11 ?_;refine zT 13 ?_;refine zJ 14 λ K hK=>?_
  obtain ⟨y,hy⟩:=Do (l:=(((S).set (t) (xB (xB (xB (Cs x0 2) (Cs x1 3)) x2) x3)).set (t+1) (xB (xB (xB x0 (Cs x1 2)) (Cs x2 3)) x3)).set (t+2) (xB (xB (xB x0 x1) (Cs x2 2)) (Cs x3 3))) (i:=t+3) (by have:=HS.o; first | omega | (simp only [aG]; omega));have cc:=(HC.o.blk0.cell (t+3)).trans hy;have cf:=HC.o.blk0.frozen (t+3);have ch:=HC.o.blk0.lt;have hc:=HC.o.set (t+3) (bV (xB (xB (xB (Cs x0 3) x1) x2) (Cs x3 2)));rw [B5] at hc;have HC:=hqZ hc;clear hc hy;go_simp;clear cc cf ch;refine zq hK ?_;clear hK K;refine zD ?_;go_wp2_with fail;go_end0;exact ⟨rfl,HC.o⟩
end Go.Proofs.YtnihelcjmahmnaaGreat
