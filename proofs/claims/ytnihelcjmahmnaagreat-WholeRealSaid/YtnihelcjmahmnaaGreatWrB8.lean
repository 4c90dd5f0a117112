/- Texts of this proof, one behind the other: ShaWrite, ShaDigest, ShaOf, ShaAlive, Mac, MacKey, MacText, Pv, DigIdx. -/
import Derived.Test.YtnihelcjmahmnaaGreatWrB1
import Derived.Test.YtnihelcjmahmnaaGreatWrB2
import Derived.Test.YtnihelcjmahmnaaGreatWrB3
import Derived.Test.YtnihelcjmahmnaaGreatWrB4
import Derived.Test.YtnihelcjmahmnaaGreatWrB5
import Derived.Test.YtnihelcjmahmnaaGreatWrB7
import Derived.Deep.DeepCutAuto
import Derived.Lib.SlBytesConst
set_option linter.unusedSimpArgs false
set_option linter.unusedVariables false
set_option maxRecDepth 100000
set_option maxHeartbeats 16000000
open Nat renaming le_refl -> aA, zero_le -> aI, zero_add -> aP, min_eq_left -> aT, le_of_lt -> aU, sub_self -> aV
open Go.Proofs.Tryz renaming prog -> aC
open Go.RowKit.Below renaming refl -> aD
open List renaming replicate -> aE, drop_zero -> aF, take_of_length_le -> aG, length_take -> aH, length_append -> aJ, getElem?_eq_getElem -> aK, length_drop -> aL, take_succ_eq_append_getElem -> aM, getElem?_replicate -> aN, replicate_succ -> aO, getElem?_append_left -> aQ, getElem_mem -> aR, take_length -> aS, getD -> aW, flatten_cons -> aX, idxOf_append -> aY
open Go renaming Value -> aZ, World -> bA, TypeId -> bB, Calls -> bC
namespace Go.Proofs.YtnihelcjmahmnaaGreat
open Go.RowKit
theorem Bs.empty {w:bA} {v:aZ} (h:Bs w v []) (w':bA):Bs w' v []:=by
  obtain ⟨h1,h2,a,cap,h3,h4,h5,h6,_⟩:=h;exact ⟨h1,h2,a,cap,h3,h4,h5,h6,.inl rfl⟩
theorem Bs.notSum {w:bA} {v:aZ} {b:List UInt8} {p:Nat} {H:List Int} {a:Option Addr} {n c:Nat} {x:Int} {T:bB} (h:Bs w v b) (hb:b≠ []) (hp:Blk w p (A1 H++ [.slice a n c,.int .u64 x]) T):v.ownBlock≠some p:=by
  intro e;have hpos:0<b.length:=List.length_pos_iff.2 hb;obtain ⟨a',cap,rfl,_⟩:=h.form;obtain ⟨bb,off,rfl,hcell⟩:=h.addr (by rw [Aa]; exact hpos);simp only [aZ.ownBlock,Option.some.injEq] at e;subst e;have h0:=hcell 0 _ (C3 b 0 hpos);rw [hp.cell] at h0;have hm:=List.mem_of_getElem? h0;rcases List.mem_append.1 hm with hm | hm
  · obtain ⟨y,_,hy⟩:=List.mem_map.1 hm;simp [wV,bV] at hy
  · simp [bV] at hm
theorem N9 (F:Nat->Prop) (p:Nat) (D b:List UInt8) (v:aZ) (w:bA) (hs:Fs w F p D) (hb:Bs w v b) (hl:D.length+b.length<=1099511627776): bC aC 158 #[.pointer (some ⟨p,0,none⟩),v] w λ e w'=>e=.returned (.tuple #[])/\Fs w' (λ k=>F k\/w.heap.size<=k) p (D++b)/\Ai (λ k=>F k\/w.heap.size<=k) w w':=by
  obtain ⟨hF,va,hblk,hown,hne,hFv⟩:=hs;have hH:=Cx h0I D rfl (D.length / 64);obtain ⟨av,cv,rfl,hcv,hcm⟩:=hb.form;obtain ⟨q,hq⟩:∃q,q=D.length / 64:=⟨_,rfl⟩
  rw [<-hq] at hblk hown hH;have hqD:64*q<=D.length:=by omega
  obtain ⟨r,hr⟩:∃r,r=D.length-64*q:=⟨_,rfl⟩
  rw [<-hr] at hown;obtain ⟨ar,cr,rfl,hcr,hcm2⟩:=hown.sl.form;have c8:=hblk.cell 8;have c9:=hblk.cell 9;have f8:=hblk.frozen 8;have f9:=hblk.frozen 9;rw [A2C _ _ _ hH] at c8;rw [A6R _ _ _ hH] at c9;obtain ⟨w1,hw1⟩:∃w1,w1=w.setCell ⟨p,9,none⟩ (.int .u64 ((D.length:Int)+(b.length:Int))):=⟨_,rfl⟩
  have hk1:Ai (λ k=>k=p) w w1:=by rw [hw1]; exact Ai.one _ _ _ _
  have hblk1:Blk w1 p (A1 (El h0I D q)++ [.slice ar r cr,.int .u64 ((D.length:Int)+(b.length:Int))]) 325:=by
    rw [hw1,<-A5n _ _ (.int .u64 D.length) _ hH];exact hblk.set 9 _
  have hown1:=hown.keep hk1 (λ b hb e=>hne (e▸hb));have hb1:Bs w1 (.slice av b.length cv) b:=by
    by_cases hbe:b= []
    · subst hbe;exact hb.empty w1
    · have hvp:=hb.notSum hbe hblk;exact Sl.keep hb hk1 (λ b hb e=>hvp (e▸hb))
  have hs1:=hk1.size;have c8':=hblk1.cell 8;have f8':=hblk1.frozen 8;rw [A2C _ _ _ hH] at c8';have hsz1:w1.heap.size=w.heap.size:=by rw [hw1]; simp
  have HBLK1:=hqZ hblk1;have HOWN1:=hqZ hown1;have HB1:=hqZ hb1;have HK1:=hqZ hk1;have HH:=hqZ hH;have HQ:=hqZ hq;have HR:=hqZ hr;have hpl:=hblk.lt;have hrl:r+b.length<=1099511627776:=by omega
  unfold maxLen at hcm hcm2;have HNE:=hqZ hne;have HFV:=hqZ hFv;clear hblk hown hb hH hblk1 hown1 hb1 hk1 hq hr hne hFv;subst hw1;go_enter Tryz.func158,Tryz.ntmps158;go_wp2_with ((with_reducible refine zw 20 ?_);refine A0f rfl (.tmp 18) (.tmp 19) Cl rfl 0 HOWN1.o HB1.o (by unfold maxLen; omega) (by omega) (aI _) ?_);intro v' w2 hown2 hk2 hvb2;obtain ⟨a2,c2,rfl,hc2,hcm3⟩:=hown2.sl.form;unfold maxLen at hcm3;have hblk2:=HBLK1.o.keep hk2 (by
    intro h;rcases h with h | h
    · exact HNE.o h
    · omega)
  have hne2:(aZ.slice a2 (r+b.length) c2).ownBlock≠some p:=λ e=>by
    rcases hvb2 p e with h | h
    · exact HNE.o h
    · omega
  have hfv2:∀x,(aZ.slice a2 (r+b.length) c2).ownBlock=some x->F x\/w.heap.size<=x:=λ b hb=>by
    rcases hvb2 b hb with h | h
    · exact .inl (HFV.o b h)
    · exact .inr (by omega)
  have hK2:Ai (λ k=>F k\/w.heap.size<=k) w w2:=(HK1.o.mono (λ k hk=>.inl (hk▸hF))).trans (hk2.mono (λ k hk=>by
    rcases hk with h | h
    · exact .inl (HFV.o k h)
    · exact .inr (by omega)))
  have c82:=hblk2.cell 8;have f82:=hblk2.frozen 8;rw [A2C _ _ _ HH.o] at c82;have hE:D.drop (64*q)++b=(D++b).drop (64*q):=by rw [List.drop_append_of_le_length hqD]
  have HE:=hqZ hE;have HBLK2:=hqZ hblk2;have HOWN2:=hqZ hown2;have HK2:=hqZ hK2;have HNE2:=hqZ hne2;have HFV2:=hqZ hfv2;clear hblk2 hne2 hfv2 hK2 hown2 hk2 hvb2 hE c8 c8' f8 f8' f9 c9;go_wp2_with fail;obtain ⟨E,hE⟩:∃E,E=D++b:=⟨_,rfl⟩
  have hEl:E.length=D.length+b.length:=by rw [hE]; simp
  go_loopw [23] (λ _ wr=>∃(j:Nat) (va:aZ),64*j<=E.length/\Blk wr p (A1 (El h0I E j)++ [va,.int .u64 E.length]) 325/\Ej wr 0 5 va (E.length-64*j) (Ab (E.drop (64*j)))/\
      va.ownBlock≠some p/\(∀b,va.ownBlock=some b->F b\/w.heap.size<=b)/\Ai (λ k=>F k\/w.heap.size<=k) w wr) (λ _ wr=>Mc wr p)
  case atStart=>
    refine ⟨q,.slice a2 (r+b.length) c2,by omega,?_,?_,HNE2.o,HFV2.o,?_⟩
    · have:=HBLK2.o.set 8 (.slice a2 (r+b.length) c2);rw [A2b _ _ _ _ HH.o] at this;rw [hE,Pp _ _ _ _ hqD,<-hE,hEl,Int.natCast_add];exact this
    · have:=HOWN2.o.keep (Ai.one w2 p 8 (.slice a2 (r+b.length) c2)) (λ b hb e=>HNE2.o (e▸hb));rw [<-Dr,HE.o,<-hE] at this;rw [show E.length-64*q=r+b.length by have:=HR.o; omega];exact this
    · exact HK2.o.setCell (p:=⟨p,8,none⟩) (.inl hF) _
  case round=>
    obtain ⟨j,va,hj,hblk,hown,hne,hfv,hkw⟩:=hrel;have hH:=Cx h0I E rfl j;obtain ⟨av,cv,rfl,hcv,hcm'⟩:=hown.sl.form;have c8:=hblk.cell 8;have f8:=hblk.frozen 8;rw [A2C _ _ _ hH] at c8;unfold maxLen at hcm';have HH2:=hqZ hH;have HBL:=hqZ hblk;have HOW:=hqZ hown;have HN:=hqZ hne;have HF:=hqZ hfv;have HKW:=hqZ hkw;clear hblk hown hne hfv hkw hH;by_cases hlt:64<=E.length-64*j
    · obtain ⟨g,o,cv',hv,_,hcv',_⟩:=HOW.o.form (by omega);simp only [aZ.slice.injEq] at hv;obtain ⟨rfl,_,rfl⟩:=hv;obtain ⟨m,hm⟩:∃m,m=E.length-64*j:=⟨_,rfl⟩
      rw [<-hm] at HBL HOW hlt hcv' c8 HF HN;have hgp:g≠p:=λ e=>HN.o (by simp [aZ.ownBlock,e])
      have hch:=(HOW.o.sl.mid (off:=0) (n:=64) (cap:=cv) (by omega) (by omega) (by unfold maxLen; omega));simp only [Nat.add_zero,aF] at hch;have hchl:((E.drop (64*j)).take 64).length=64:=by simp; omega
      have hch':Bs wr _ ((E.drop (64*j)).take 64):=hch.bs rfl hchl;have HCH:=hqZ hch';have HCL:=hqZ hchl;have HM:=hqZ hm;have hsl0:Hq (Mc wr p=m):=hqZ (by unfold Mc; rw [c8]);have hgl:g<wr.heap.size:=HOW.o.sl.lt (by rw [Aa]; simp; omega);have hpl3:=HBL.o.lt;clear hch hch' hchl hm;have hm64:(64:Int)<=m:=by omega
      go_wp2_with fail;refine (V9 p _ _ _ _ wr HCH.o HCL.o HBL.o HH2.o).mono ?_;rintro e w3 ⟨rfl,hb3,hk3⟩;have hH3:=Mk (El h0I E j) ((E.drop (64*j)).take 64) HH2.o;have c83:=hb3.cell 8;have f83:=hb3.frozen 8;rw [A2C _ _ _ hH3] at c83;have hown3:=HOW.o.keep hk3 (by
        intro b hb h;simp only [aZ.ownBlock,Option.some.injEq] at hb
        omega)
      have hkw3:Ai (λ k=>F k\/w.heap.size<=k) w w3:=HKW.o.trans (hk3.mono (by
        intro k h
        have:=HKW.o.size;rcases h with h | h
        · exact .inl (h▸hF)
        · exact .inr (by omega)))
      have HB3:=hqZ hb3;have HH3:=hqZ hH3;have HO3:=hqZ hown3;have HK3:=hqZ hkw3;have C83:=hqZ c83;clear hb3 hH3 hown3 hkw3 hk3 f8 c8;have hstep:∀a n c,Ej w3 0 5 (.slice a n c) n ((Ab (E.drop (64*j))).drop 64)->n=m-64->((aZ.slice a n c).ownBlock=some g\/(aZ.slice a n c).ownBlock=none)->
          (∃(j:Nat) (va:aZ),64*j<=E.length/\Blk (w3.setCell ⟨p,8,none⟩ (.slice a n c)) p (A1 (El h0I E j)++ [va,.int .u64 E.length]) 325/\Ej (w3.setCell ⟨p,8,none⟩ (.slice a n c)) 0 5 va (E.length-64*j) (Ab (E.drop (64*j)))/\
            va.ownBlock≠some p/\(∀b,va.ownBlock=some b->F b\/w.heap.size<=b)/\Ai (λ k=>F k\/w.heap.size<=k) w (w3.setCell ⟨p,8,none⟩ (.slice a n c)))/\Mc (w3.setCell ⟨p,8,none⟩ (.slice a n c)) p<Mc wr p:=by
        intro a n c hon hn hob;have hm:=HM.o;refine ⟨⟨j+1,.slice a n c,by omega,?_,?_,?_,?_,HK3.o.setCell (p:=⟨p,8,none⟩) (.inl hF) _⟩,?_⟩
        · have:=HB3.o.set 8 (.slice a n c);rw [A2b _ _ _ _ HH3.o] at this;exact this
        · have:=hon.keep (Ai.one w3 p 8 (.slice a n c)) (λ b hb e=>by
            rcases hob with h | h
            · rw [h] at hb; simp only [Option.some.injEq] at hb; omega
            · rw [h] at hb; cases hb)
          rw [show E.length-64*(j+1)=n by omega,show E.drop (64*(j+1))=(E.drop (64*j)).drop 64 by rw [List.drop_drop]; rfl];simpa [Ab,List.map_drop] using this
        · intro e;rcases hob with h | h
          · rw [h] at e; simp only [Option.some.injEq] at e; omega
          · rw [h] at e; cases e
        · intro b hb;rcases hob with h | h
          · rw [h] at hb; simp only [Option.some.injEq] at hb; subst hb; exact HF.o _ rfl
          · rw [h] at hb; cases hb
        · rw [hsl0.o];unfold Mc;rw [bA.cell?_setCell_same (h:=C83.o)];show n<m
          omega
      have HSTEP:=hqZ hstep;clear hstep;by_cases hcc:cv=64
      · subst hcc;obtain rfl:m=64:=by omega
        go_wp2_with fail;refine HSTEP.o _ _ _ ?_ ?_ ?_
        · have hm:=HM.o
          have:(Ab (E.drop (64*j))).drop 64= []:=List.drop_of_length_le (by rw [Aa]; simp; omega);rw [this];exact Ej.nil _ _ _ _
        · rfl
        · first | exact .inl rfl | exact .inr rfl
      · have hcc':¬((64:Int)=cv):=by omega
        go_wp2_with fail;refine HSTEP.o _ _ _ (HO3.o.cut 64 hlt) rfl (.inl rfl)
    · have hjq:j=E.length / 64:=by omega
      go_wp2_with fail;go_end0;refine ⟨rfl,⟨.inl hF,_,?_,?_,HN.o,HF.o⟩,HKW.o⟩
      · rw [<-hE,<-hjq]; exact HBL.o
      · rw [<-hE,<-hjq]; exact HOW.o
def Wr (W:bA) (p:Nat) (a b c d e f g i:Int) (va:aZ) (n:Int):Prop:=
  W.cell? ⟨p,0,none⟩=some (.int .u32 a)/\W.cell? ⟨p,1,none⟩=some (.int .u32 b)/\W.cell? ⟨p,2,none⟩=some (.int .u32 c)/\W.cell? ⟨p,3,none⟩=some (.int .u32 d)/\W.cell? ⟨p,4,none⟩=some (.int .u32 e)/\
    W.cell? ⟨p,5,none⟩=some (.int .u32 f)/\W.cell? ⟨p,6,none⟩=some (.int .u32 g)/\W.cell? ⟨p,7,none⟩=some (.int .u32 i)/\W.cell? ⟨p,8,none⟩=some va/\W.cell? ⟨p,9,none⟩=some (.int .u64 n)
theorem Wr.mk {W:bA} {p:Nat} {a b c d e f g i:Int} {va:aZ} {n:Int} (h:Blk W p (A1 [a,b,c,d,e,f,g,i]++ [va,.int .u64 n]) 325):Wr W p a b c d e f g i va n:=
  ⟨h.cell 0,h.cell 1,h.cell 2,h.cell 3,h.cell 4,h.cell 5,h.cell 6,h.cell 7,h.cell 8,h.cell 9⟩
theorem Blk.set10 {w:bA} {p q:Nat} {cs:List aZ} {T:bB} (h:Blk w p cs T) (hne:p≠q) (v0 v1 v2 v3 v4 v5 v6 v7 v8 v9:aZ):Blk ((((((((((w.setCell ⟨q,0,none⟩ v0).setCell ⟨q,1,none⟩ v1).setCell ⟨q,2,none⟩ v2).setCell ⟨q,3,none⟩ v3).setCell ⟨q,4,none⟩ v4).setCell ⟨q,5,none⟩ v5).setCell ⟨q,6,none⟩ v6).setCell ⟨q,7,none⟩ v7).setCell ⟨q,8,none⟩ v8).setCell ⟨q,9,none⟩ v9) p cs T:=
  ((((((((((h.set_other (p:=⟨q,0,none⟩) hne v0).set_other (p:=⟨q,1,none⟩) hne v1).set_other (p:=⟨q,2,none⟩) hne v2).set_other (p:=⟨q,3,none⟩) hne v3).set_other (p:=⟨q,4,none⟩) hne v4).set_other (p:=⟨q,5,none⟩) hne v5).set_other (p:=⟨q,6,none⟩) hne v6).set_other (p:=⟨q,7,none⟩) hne v7).set_other (p:=⟨q,8,none⟩) hne v8).set_other (p:=⟨q,9,none⟩) hne v9)
theorem Blk.all10 {w:bA} {q:Nat} {c0 c1 c2 c3 c4 c5 c6 c7 c8 c9:aZ} {T:bB} (h:Blk w q [c0,c1,c2,c3,c4,c5,c6,c7,c8,c9] T) (v0 v1 v2 v3 v4 v5 v6 v7 v8 v9:aZ):Blk ((((((((((w.setCell ⟨q,0,none⟩ v0).setCell ⟨q,1,none⟩ v1).setCell ⟨q,2,none⟩ v2).setCell ⟨q,3,none⟩ v3).setCell ⟨q,4,none⟩ v4).setCell ⟨q,5,none⟩ v5).setCell ⟨q,6,none⟩ v6).setCell ⟨q,7,none⟩ v7).setCell ⟨q,8,none⟩ v8).setCell ⟨q,9,none⟩ v9) q [v0,v1,v2,v3,v4,v5,v6,v7,v8,v9] T:=
  (((((((((h.set 0 v0).set 1 v1).set 2 v2).set 3 v3).set 4 v4).set 5 v5).set 6 v6).set 7 v7).set 8 v8).set 9 v9
theorem Ai.drewL {S:Nat->Prop} {w w':bA} (h:Ai S w.drew w'):Ai S w w':=⟨h.os,h.tape,h.output,h.size,h.block⟩
theorem Ai.set10 (w:bA) (q:Nat) (v0 v1 v2 v3 v4 v5 v6 v7 v8 v9:aZ):Ai (λ k=>k=q) w ((((((((((w.setCell ⟨q,0,none⟩ v0).setCell ⟨q,1,none⟩ v1).setCell ⟨q,2,none⟩ v2).setCell ⟨q,3,none⟩ v3).setCell ⟨q,4,none⟩ v4).setCell ⟨q,5,none⟩ v5).setCell ⟨q,6,none⟩ v6).setCell ⟨q,7,none⟩ v7).setCell ⟨q,8,none⟩ v8).setCell ⟨q,9,none⟩ v9):=
  (Ai.setCell (Ai.setCell (Ai.setCell (Ai.setCell (Ai.setCell (Ai.setCell (Ai.setCell (Ai.setCell (Ai.setCell (Ai.setCell (Ai.refl (λ k=>k=q) w) (p:=⟨q,0,none⟩) rfl v0) (p:=⟨q,1,none⟩) rfl v1) (p:=⟨q,2,none⟩) rfl v2) (p:=⟨q,3,none⟩) rfl v3) (p:=⟨q,4,none⟩) rfl v4) (p:=⟨q,5,none⟩) rfl v5) (p:=⟨q,6,none⟩) rfl v6) (p:=⟨q,7,none⟩) rfl v7) (p:=⟨q,8,none⟩) rfl v8) (p:=⟨q,9,none⟩) rfl v9)
theorem Blk.frozen10 {W:bA} {p:Nat} {cs:List aZ} {T:bB} (h:Blk W p cs T):W.frozen? ⟨p,0,none⟩=false/\W.frozen? ⟨p,1,none⟩=false/\W.frozen? ⟨p,2,none⟩=false/\W.frozen? ⟨p,3,none⟩=false/\W.frozen? ⟨p,4,none⟩=false/\ W.frozen? ⟨p,5,none⟩=false/\W.frozen? ⟨p,6,none⟩=false/\W.frozen? ⟨p,7,none⟩=false/\W.frozen? ⟨p,8,none⟩=false/\W.frozen? ⟨p,9,none⟩=false:=
  ⟨h.frozen _,h.frozen _,h.frozen _,h.frozen _,h.frozen _,h.frozen _,h.frozen _,h.frozen _,h.frozen _,h.frozen _⟩
theorem Rs.two {w:bA} {T:bB} {u1 u2:aZ} {r1 r2:List UInt8} (h1:Bs w u1 r1) (h2:Bs w u2 r2):Rs (w.alloc (.cells #[u1,u2] T)) (.slice (some ⟨w.heap.size,0,none⟩) 2 2) [r1,r2]:=by
  obtain ⟨a1,c1,e1,_⟩:=h1.form;obtain ⟨a2,c2,e2,_⟩:=h2.form;refine ⟨[u1,u2],rfl,Sl.lit (cs:=#[u1,u2]) rfl rfl (by simp [e1,e2,aZ.oneCell']) (by unfold maxLen; decide),λ j u r hu hr=>?_⟩
  match j,hu,hr with
  | 0,hu,hr=>simp at hu hr; subst hu hr; exact h1.alloc _
  | 1,hu,hr=>simp at hu hr; subst hu hr; exact h2.alloc _
  | j+2,hu,hr=>simp at hu
theorem A1b (H:List Int) (k:Nat) (hk:k<H.length) (hH:H.length=8) (w:bA):(Instr.index 323 (.agg (A1 H).toArray) (.int .i64 k)).run aC w=.ok (.int .u32 H[k]) w:=by
  have hs:(sizeOf 297).run aC w=.ok 1 w:=by kernel_rfl
  have ha:(isAgg 297).run aC w=.ok false w:=by kernel_rfl
  have hc:=Gt H k hk;have hk8:¬8<=k:=by omega
  simp [Instr.index,run_underlying Tryz.underlying323,asIntOf,part,hs,ha,hc,hk8]
theorem A2t (H:List Int) (k:Nat) (h:k<H.length):Tz (H.take (k+1))=Tz (H.take k)++(B7 H[k].toNat).drop 4:=by
  unfold Tz;rw [aM h,List.flatMap_append,List.flatMap_singleton]
theorem P5 (H:List Int):(Tz H).length=4*H.length:=by
  induction H with
  | nil=>rfl
  | cons x H ih=>simp only [Tz,List.flatMap_cons,aJ,aL,Bd,List.length_cons] at ih ⊢; omega
theorem T2 (F:Nat->Prop) (p:Nat) (D:List UInt8) (w:bA) (hs:Fs w F p D) (hl:D.length<=1099511627000): bC aC 159 #[.pointer (some ⟨p,0,none⟩)] w λ e w'=>∃v,e=.returned v/\B6 w' w.heap.size v (K9 D)/\Below w.heap.size w w':=by
  obtain ⟨hF,va,hblk,hown,hne,hFv⟩:=hs;have hH:=Cx h0I D rfl (D.length / 64);obtain ⟨a,b,c,d,e,f,g,i,hhs⟩:=A3E _ hH;rw [hhs] at hblk;obtain ⟨r,hr⟩:∃r,r=D.length-64*(D.length / 64):=⟨_,rfl⟩
  rw [<-hr] at hown;obtain ⟨ar,cr,rfl,hcr,hcm2⟩:=hown.sl.form;have HBLK:=hqZ hblk;have HOWN:=hqZ hown;have HHS:=hqZ hhs;have hr63:r<=63:=by omega
  have HR:=hqZ hr;have hpl:=hblk.lt;unfold maxLen at hcm2;clear hblk hown hH hhs hr;go_enter Tryz.func159,Tryz.ntmps159;go_upto_region 1 with fail;go_cut [3] (λ s3 wx=>∃pt,s3=.pointer (some ⟨pt,0,none⟩)/\w.heap.size<=pt/\Fs wx (λ k=>w.heap.size<=k) pt D/\Below w.heap.size w wx)
  case first=>
    have S0:=Wr.mk HBLK.o.drew;have hpne:p≠w.heap.size:=by omega
    obtain ⟨s0,s1,s2,s3,s4,s5,s6,s7,s8,s9⟩:=S0
    go_region_held3 (λ W:bA=>W.cell? ⟨p,0,none⟩=some (.int .u32 a)/\W.cell? ⟨p,1,none⟩=some (.int .u32 b)/\W.cell? ⟨p,2,none⟩=some (.int .u32 c)/\W.cell? ⟨p,3,none⟩=some (.int .u32 d)/\W.cell? ⟨p,4,none⟩=some (.int .u32 e)/\
      W.cell? ⟨p,5,none⟩=some (.int .u32 f)/\W.cell? ⟨p,6,none⟩=some (.int .u32 g)/\W.cell? ⟨p,7,none⟩=some (.int .u32 i)/\W.cell? ⟨p,8,none⟩=some (.slice ar r cr)/\W.cell? ⟨p,9,none⟩=some (.int .u64 D.length))
      (first | (with_reducible exact ⟨s0,s1,s2,s3,s4,s5,s6,s7,s8,s9⟩) | (refine Wr.mk ?_; first | (with_reducible assumption) | (with_reducible exact Blk.alloc (by with_reducible assumption) _) | (with_reducible exact (HBLK.o.alloc _).drew) | (with_reducible exact hbs _ _ _ _ _ _ _ _ _ _)))
      (first | (refine Kf rfl (.const (.slice none 0 0)) (.tmp 15) Cl rfl (by simp [Act.eval,Act.put]) (by simp [Act.eval,Act.put]) HOWN.o.drew.sl (by unfold maxLen; omega) (by omega) ?_; intro v' w2 hown2 hk2 hvb2; obtain ⟨a2,c2,rfl,hc2,hcm3⟩:=hown2.sl.form; have hblk2:Blk w2 p _ _:=HBLK.o.drew.keep hk2 (by simp; omega)) | (refine Kf (w:=(w.alloc (.cells #[aZ.int .u32 0,aZ.int .u32 0,aZ.int .u32 0,aZ.int .u32 0,aZ.int .u32 0,aZ.int .u32 0,aZ.int .u32 0,aZ.int .u32 0,aZ.slice none 0 0,aZ.int .u64 0] 325)).drew) rfl (.const (.slice none 0 0)) (.tmp 15) Cl rfl (by simp [Act.eval,Act.put]) (by simp [Act.eval,Act.put]) (HOWN.o.alloc _).drew.sl (by unfold maxLen; omega) (by omega) ?_; intro v' w2 hown2 hk2 hvb2; obtain ⟨a2,c2,rfl,hc2,hcm3⟩:=hown2.sl.form; have hblk2:Blk w2 p _ _:=(HBLK.o.alloc _).drew.keep hk2 (by simp; omega); have hbz:Blk w2 w.heap.size [aZ.int .u32 0,aZ.int .u32 0,aZ.int .u32 0,aZ.int .u32 0,aZ.int .u32 0,aZ.int .u32 0,aZ.int .u32 0,aZ.int .u32 0,aZ.slice none 0 0,aZ.int .u64 0] _:=(Blk.new w [aZ.int .u32 0,aZ.int .u32 0,aZ.int .u32 0,aZ.int .u32 0,aZ.int .u32 0,aZ.int .u32 0,aZ.int .u32 0,aZ.int .u32 0,aZ.slice none 0 0,aZ.int .u64 0] 325).drew.keep hk2 (by simp); obtain ⟨y0,y1,y2,y3,y4,y5,y6,y7,y8,y9⟩:=Wr.mk hbz; obtain ⟨g0,g1,g2,g3,g4,g5,g6,g7,g8,g9⟩:=hbz.frozen10; have hbs:=Blk.set10 hblk2 hpne))
    · have hsz2:=hk2.size;have hb2:Below w.heap.size w w2:=(Ai.drewL hk2).below (λ k hk=>hk);have fin:Fs (w2.alloc (.cells (A1 [a,b,c,d,e,f,g,i]++ [aZ.slice a2 r c2,aZ.int .u64 D.length]).toArray 325)) (λ k=>w.heap.size<=k) w2.heap.size D:=by
        refine ⟨hb2.size,.slice a2 r c2,?_,?_,?_,λ x hx=>(hvb2 x hx).1⟩
        · rw [HHS.o]; exact Blk.new w2 _ _
        · rw [<-HR.o]; exact (Ej.of_own (hown2.base (aI _))).alloc _
        · intro h; have:=(hvb2 _ h).2; omega
      have FIN:=hqZ fin;have hbx:Below w.heap.size w (w2.alloc (.cells (A1 [a,b,c,d,e,f,g,i]++ [aZ.slice a2 r c2,aZ.int .u64 D.length]).toArray 325)):=hb2.alloc hb2.size _;clear fin hown2 hk2 hvb2 hblk2;go_wp2_with fail;go_meet;exact ⟨_,rfl,hb2.size,FIN.o,hbx⟩
    · have hsz2:=hk2.size;simp at hsz2;have hb2:Below w.heap.size w w2:=((aD _ _).alloc (aA _) _).trans ((Ai.drewL hk2).below (λ k hk=>by simp at hk; omega));have hkw:=Ai.set10 w2 w.heap.size (.int .u32 a) (.int .u32 b) (.int .u32 c) (.int .u32 d) (.int .u32 e) (.int .u32 f) (.int .u32 g) (.int .u32 i) (.slice a2 r c2) (.int .u64 D.length);have hball:=Blk.all10 hbz (.int .u32 a) (.int .u32 b) (.int .u32 c) (.int .u32 d) (.int .u32 e) (.int .u32 f) (.int .u32 g) (.int .u32 i) (.slice a2 r c2) (.int .u64 D.length);have hvb3:∀x,(aZ.slice a2 r c2).ownBlock=some x->w.heap.size+1<=x:=λ x hx=>by have:=(hvb2 x hx).1; simp at this; omega
      obtain ⟨wE,hwE⟩:∃wE,wE=((((((((((w2.setCell ⟨w.heap.size,0,none⟩ (.int .u32 a)).setCell ⟨w.heap.size,1,none⟩ (.int .u32 b)).setCell ⟨w.heap.size,2,none⟩ (.int .u32 c)).setCell ⟨w.heap.size,3,none⟩ (.int .u32 d)).setCell ⟨w.heap.size,4,none⟩ (.int .u32 e)).setCell ⟨w.heap.size,5,none⟩ (.int .u32 f)).setCell ⟨w.heap.size,6,none⟩ (.int .u32 g)).setCell ⟨w.heap.size,7,none⟩ (.int .u32 i)).setCell ⟨w.heap.size,8,none⟩ (.slice a2 r c2)).setCell ⟨w.heap.size,9,none⟩ (.int .u64 D.length)):=⟨_,rfl⟩
      rw [<-hwE] at hkw hball ⊢;have fin:Fs wE (λ k=>w.heap.size<=k) w.heap.size D:=by
        refine ⟨aA _,.slice a2 r c2,?_,?_,?_,λ x hx=>by have:=hvb3 x hx; omega⟩
        · rw [HHS.o]; exact hball
        · rw [<-HR.o]; exact (Ej.of_own (hown2.base (aI _))).keep hkw (λ x hx e=>by have:=hvb3 x hx; omega)
        · intro h; have:=hvb3 _ h; omega
      have FIN:=hqZ fin;have hbx:Below w.heap.size w wE:=hb2.trans (hkw.below (by omega));clear fin hown2 hk2 hvb2 hblk2 hkw hball hvb3 hbs hbz y0 y1 y2 y3 y4 y5 y6 y7 y8 y9 g0 g1 g2 g3 g4 g5 g6 g7 g8 g9 hwE s0 s1 s2 s3 s4 s5 s6 s7 s8 s9;go_wp2_with fail;go_meet;exact ⟨_,rfl,aA _,FIN.o,hbx⟩
  case rest=>
    obtain ⟨pt,rfl,hpt,hsum,hb⟩:=hcut;have hsum':=hsum;obtain ⟨_,va,hblk,hown,hne2,hFv2⟩:=hsum';have hH:=Cx h0I D rfl (D.length / 64);rw [<-HR.o] at hown;obtain ⟨a3,c3,rfl,hcr3,hcm3⟩:=hown.sl.form;have t8:=hblk.cell 8;rw [A2C _ _ _ hH] at t8;have p9:wc.cell? ⟨p,9,none⟩=some (.int .u64 D.length):=by rw [(HBLK.o.below hb hpl).cell]; rfl
    have HSUM:=hqZ hsum;unfold maxLen at hcm3;obtain ⟨N,hN⟩:∃N:Nat,N=1+(119-r) % 64:=⟨_,rfl⟩
    have hNr:(1+(119- (r:Int)) % 64)=(N:Int):=by omega
    have hN1:1<=N/\N<=64:=by omega
    have hpadB:Sa D.length=128::aE (N-1) 0:=by
      unfold Sa;rw [show (119-D.length % 64) % 64=N-1 by have:=HR.o; omega]
    obtain ⟨PA,hPA⟩:∃PA:Array aZ,PA=(aE N (.int .u8 0)).toArray:=⟨_,rfl⟩
    have hmk:=Qz wc N _ hNr (by omega);rw [<-hPA] at hmk;have hz:Blk (wc.alloc (.cells PA 5)) wc.heap.size (aE N (.int .u8 0)) 5:=by rw [hPA]; exact Blk.new _ _ _
    have z0:=hz.cell 0;have zf:=hz.frozen 0;rw [aN,if_pos (by omega)] at z0;have hN0:(0:Int)<N:=by omega
    obtain ⟨PB,hPB⟩:∃PB:Array aZ,PB=PA.setIfInBounds 0 (.int .u8 128):=⟨_,rfl⟩
    have hPBl:PB.toList=Ab (Sa D.length):=by
      rw [hPB,hPA,hpadB,show N=(N-1)+1 by omega];simp [Ab,bV,aO]
    have hpadW:Blk (wc.alloc (.cells PB 5)) wc.heap.size (Ab (Sa D.length)) 5:=by
      have:=Blk.new wc PB.toList 5;rw [hPBl] at this;rw [show PB=(Ab (Sa D.length)).toArray by rw [<-hPBl]];exact this
    have hpl2:p<wc.heap.size:=Nat.lt_of_lt_of_le hpl hb.size;have hb2:Below w.heap.size w (wc.alloc (.cells PB 5)):=hb.alloc hb.size _;have p9':(wc.alloc (.cells PB 5)).cell? ⟨p,9,none⟩=some (.int .u64 D.length):=by rw [(HBLK.o.below hb2 hpl).cell]; rfl
    have hsum2:=hsum.below ((aD _ _).alloc (aA _) (.cells PB 5));have hNl:(Sa D.length).length=N:=by rw [hpadB]; simp; omega
    have HPW:=hqZ hpadW;have HB2:=hqZ hb2;have HNL:=hqZ hNl;have HSUM2:=hqZ hsum2;have hptl:=hsum.lt;clear hsum hblk hown hne2 hFv2 hH hpadW hb2 hpadB hPA hz hNr hsum2 HSUM hN hNl hPBl;go_wp2_with (rw [<-hPB]);refine (show bC aC 127 #[.int .u64 (8*(D.length:Int))] (wc.alloc (.cells PB 5)) _ by rw [show (8*(D.length:Int))=((8*D.length:Nat):Int) by omega]; exact L8 (8*D.length) _).mono ?_;rintro e w3 ⟨rfl,hown3,hb3,_⟩;obtain ⟨W0,hW0⟩:∃W0,W0=wc.alloc (.cells PB 5):=⟨_,rfl⟩
    have hW0s:W0.heap.size=wc.heap.size+1:=by rw [hW0]; simp
    rw [<-hW0] at HPW HB2 HSUM2 hown3 hb3 p9' ⊢;rw [hW0s] at hown3 ⊢;have hput:Bs w3 _ (B7 (8*D.length)):=hown3.bs;have hpad3:Bs w3 (.slice (some ⟨wc.heap.size,0,none⟩) N N) (Sa D.length):=by
      have h1:=((HPW.o.below hb3 HPW.o.lt).bs (off:=0) (n:=N) (cap:=N) (by have:=HNL.o; omega) (aA _) (by unfold maxLen; omega));exact h1.bs (by rw [aF,aG (by have:=HNL.o; omega)]) HNL.o
    have hrs:=Rs.two (T:=22) hpad3 hput;have hs3:=hb3.size;have HRS:=hqZ hrs;have HB3:Hq (Below w.heap.size w (w3.alloc (.cells #[.slice (some ⟨wc.heap.size,0,none⟩) N N,.slice (some ⟨wc.heap.size+1,0,none⟩) 8 8] 22))):=hqZ ((HB2.o.trans (hb3.mono HB2.o.size)).alloc (by have:=HB2.o.size; omega) _);have HSUM3:=hqZ ((HSUM2.o.below hb3).below ((aD _ _).alloc (aA _) (.cells #[.slice (some ⟨wc.heap.size,0,none⟩) N N,.slice (some ⟨wc.heap.size+1,0,none⟩) 8 8] 22)));clear hput hpad3 hrs hown3 hb3 hW0 HPW HB2 HSUM2 hmk z0 zf p9' p9 t8;go_wp2_with fail;refine (Ig _ _ _ HRS.o (by have:=HNL.o; simp [Bd]; omega)).mono ?_;rintro e w4 ⟨v4,rfl,hown4,hb4⟩;have hflat: [Sa D.length,B7 (8*D.length)].flatten=Sa D.length++B7 (8*D.length):=by simp
    obtain ⟨Q,hQ⟩:∃Q,Q=Sa D.length++B7 (8*D.length):=⟨_,rfl⟩
    rw [hflat,<-hQ] at hown4;have hQl:Q.length=N+8:=by rw [hQ,aJ,HNL.o,Bd]
    have HQ:=hqZ hQ;have HQL:=hqZ hQl;have hQs:Q.length<=72:=by omega
    obtain ⟨g4,cap4,rest4,rfl,hg4,_⟩:=hown4.blk (by omega);clear hQ hQl;have hbs4:=hown4.bs;have HSUM4:=hqZ (HSUM3.o.below hb4);have HB4:Hq (Below w.heap.size w w4):=hqZ (HB3.o.trans (hb4.mono HB3.o.size));have hs4:=hb4.size;simp at hs4 hg4;have HBS4:=hqZ hbs4;clear hown4 hb4 hbs4 HRS hflat;go_wp2_with fail;refine (N9 _ pt D _ _ w4 HSUM4.o HBS4.o (by omega)).mono ?_;rintro e w5 ⟨rfl,hsum5,hk5⟩;have HB5:Hq (Below w.heap.size w w5):=hqZ (HB4.o.trans (hk5.below (by
      have:=HB4.o.size;rintro k (h | h) <;> omega)))
    obtain ⟨_,va5,hblk5,_⟩:=hsum5;obtain ⟨M,hM⟩:∃M,M=A1q D:=⟨_,rfl⟩
    rw [show D++Q=M by rw [hM,HQ.o]; rfl] at hblk5;obtain ⟨H,hH⟩:∃H,H=El h0I M (M.length / 64):=⟨_,rfl⟩
    have hHl:H.length=8:=by rw [hH]; exact Cx _ _ rfl _
    have hHw:∀x∈H,0<=x/\x<4294967296:=by rw [hH]; exact W6 _ _ rfl A4G _
    rw [<-hH] at hblk5;have hdig:Tz H=K9 D:=by rw [hH,hM]; rfl
    have hca:Ao w5 pt 0 (A1 H):=λ j u hj=>by
      rw [hblk5.cell,aP,aQ (List.getElem?_eq_some_iff.1 hj).1];exact hj
    have hcl:(A1 H).length=8:=by rw [Bk,hHl]
    have HCA:=hqZ hca;have HCL:=hqZ hcl;have HDIG:=hqZ hdig;have HHW:=hqZ hHw;have hs5:=hk5.size;clear hM hH hdig hca hcl hHw hk5 hblk5 HSUM4 HSUM3 HBS4;go_wp2_with ((with_reducible refine zw 42 ?_);refine Ah rfl (.tmp 41) A5P rfl rfl (cs:=A1 H) HCL.o HCA.o ?_);go_wp2_with fail;go_loopw [5,43] (λ out i wr=>∃k:Nat,k<=8/\i=.int .i64 k/\B6 wr w.heap.size out (Tz (H.take k))/\Below w.heap.size w wr) (λ _ i _=>8- (intOf i).toNat)
    case atStart=>exact ⟨0,by omega,rfl,Own.nil _ _ _ _ _,HB5.o⟩
    case round=>
      obtain ⟨k,hk,rfl,hout,hB⟩:=hrel;by_cases hlt:k<8
      · have hix:=A1b H k (by omega) hHl;have hkw:=HHW.o _ (aR (by omega:k<H.length));have hstep:=A2t H k (by omega);generalize H[k]'(by omega)=x at hix hkw hstep;obtain ⟨xn,rfl⟩:∃n:Nat,x=(n:Int):=⟨x.toNat,by omega⟩
        rw [Int.toNat_natCast] at hstep;have HSTEP:=hqZ hstep;have HOUT:=hqZ hout;have hss:=hB.size;have hol:=P5 (H.take k);rw [aH] at hol;clear hstep hout;go_wp2_with fail;refine (L8 xn wr).mono ?_;rintro e w6 ⟨rfl,hown6,hb6,hblk6⟩;have hsl6:Sl w6 1 (.slice (some ⟨wr.heap.size,4,none⟩) 4 4) 4 (Ab ((B7 xn).drop 4)):=by
          have:=hblk6.bs (off:=4) (n:=4) (cap:=4) (by rw [Bd]; decide) (aA _) (by unfold maxLen; decide);rw [aG (by rw [aL,Bd]; decide)] at this;exact this
        have HSL6:=hqZ hsl6;have HOUT6:=hqZ (HOUT.o.below hb6);have HB6:Hq (Below w.heap.size w w6):=hqZ (hB.trans (hb6.mono hss));have hs6:=hb6.size;clear hsl6 hown6 hb6 hblk6;go_wp2_with ((with_reducible refine zw 51 ?_);refine Iy rfl (.tmp 46) (.tmp 50) Cl rfl w.heap.size HOUT6.o HSL6.o (by unfold maxLen; omega) (by omega) (by omega) ?_);intro v7 w7 hown7 hk7 hvb7;have hout7:B6 w7 w.heap.size v7 (Tz (H.take (k+1))):=by
          rw [HSTEP.o];unfold B6;rw [aJ,Dr,aL,Bd];rw [show (Tz (H.take k)).length+(8-4)=4*k+4 by omega];exact hown7
        have hB7:Below w.heap.size w w7:=HB6.o.trans (hk7.below (by
          intro j hj;rcases hj with hj | hj <;> omega))
        have HO7:=hqZ hout7;clear hown7 hk7 hvb7 hout7;go_wp2_with fail;go_roundw
        case rel=>exact ⟨k+1,by omega,by go_num,HO7.o,hB7⟩
        case measure=>simp [intOf]; omega
      · obtain rfl:k=8:=by omega
        go_wp2_with fail;go_ret;refine ⟨_,rfl,?_,hB⟩;rw [<-HDIG.o];rw [aG (by omega)] at hout;exact hout
theorem Ma (v:aZ) (rows:List (List UInt8)) (w:bA) (h:Rs w v rows) (hlen:rows.flatten.length<=1099511627000): bC aC 150 #[v] w λ e w'=>∃v',e=.returned v'/\B6 w' w.heap.size v' (K9 rows.flatten)/\Below w.heap.size w w':=by
  obtain ⟨vs,hvl,hsl,hel⟩:=h;obtain ⟨a,cap,rfl,hcap,hcm⟩:=hsl.form;have HSL:=hqZ hsl;have HEL:=hqZ hel;have HVL:=hqZ hvl;unfold maxLen at hcm;clear hsl hel;go_enter Tryz.func150,Tryz.ntmps150;go_wp2_with fail;refine (A1f w).mono ?_;rintro e w1 ⟨rfl,hs1,hb1⟩;have HS1:=hqZ (hs1.mono (λ k (hk:k=w.heap.size)=>Nat.le_of_eq hk.symm));have HB1:=hqZ hb1;obtain ⟨p,hp⟩:∃p,p=w.heap.size:=⟨_,rfl⟩
  rw [<-hp] at HS1 ⊢;have HPE:=hqZ hp;have hpw:w.heap.size<=p:=by omega
  clear hs1 hb1 hp;go_wp2_with fail;go_loopw [9] (λ i wr=>∃k:Nat,k<=rows.length/\i=.int .i64 k/\Fs wr (λ j=>w.heap.size<=j) p (rows.take k).flatten/\Below w.heap.size w wr) (λ i _=>rows.length- (intOf i).toNat)
  case atStart=>exact ⟨0,aI _,rfl,by rw [HPE.o] at HS1 ⊢; exact HS1.o,HB1.o⟩
  case round=>
    obtain ⟨k,hk,rfl,hsum,hB⟩:=hrel;by_cases hlt:k<rows.length
    · obtain ⟨b,off,rfl,hc⟩:=HSL.o.addr (by rw [HVL.o]; omega);have hkv:k<vs.length:=by rw [HVL.o]; exact hlt
      have c0:wr.cell? ⟨b,off+k,none⟩=some vs[k]:=Bc hB (hc k _ (aK hkv));have hbs:=(HEL.o k vs[k] rows[k] (aK hkv) (aK hlt)).below hB;obtain ⟨ar,cr,hvk,_⟩:=hbs.form;have hft:=F9 rows k hlt;have hfl:=Kl rows (k+1);rw [hft,aJ] at hfl;have HBS:=hqZ hbs;have HFT:=hqZ hft;have HSUM:=hqZ hsum;have hwB:=hB.size;generalize vs[k]=u at c0 hvk HBS;subst hvk;clear hc hbs hft hsum;go_wp2_with fail;refine (N9 _ p _ _ _ wr HSUM.o HBS.o (by omega)).mono ?_;rintro e w2 ⟨rfl,hs2,hk2⟩;have hb2:Below w.heap.size w w2:=hB.trans (hk2.below (by rintro j (h | h) <;> omega));have HS2:=hqZ (hs2.mono (G:=λ j=>w.heap.size<=j) (λ j hj=>by rcases hj with h | h; exact h; exact Nat.le_trans hwB h));clear hs2 hk2;go_wp2_with fail;go_roundw
      case rel=>exact ⟨k+1,by omega,by go_num,by rw [HFT.o]; exact HS2.o,hb2⟩
      case measure=>simp [intOf]; omega
    · obtain rfl:k=rows.length:=by omega
      rw [aS] at hsum;have HSUM:=hqZ hsum;clear hsum;go_wp2_with fail;refine (T2 _ p _ wr HSUM.o (by omega)).mono ?_;rintro e w2 ⟨v2,rfl,ho2,hb2⟩;have hwB:=hB.size;have fin:B6 w2 w.heap.size v2 (K9 rows.flatten):=ho2.base hwB;have hb3:Below w.heap.size w w2:=hB.trans (hb2.mono hwB);have FIN:=hqZ fin;clear ho2 fin hb2;go_wp2_with fail;go_ret;exact ⟨_,rfl,FIN.o,hb3⟩
theorem La (D:List UInt8):(K9 D).length=32:=by
  unfold K9;rw [P5,Cx _ _ rfl]
theorem Rs.one {w:bA} {T:bB} {u1:aZ} {r1:List UInt8} (h1:Bs w u1 r1):Rs (w.alloc (.cells #[u1] T)) (.slice (some ⟨w.heap.size,0,none⟩) 1 1) [r1]:=by
  obtain ⟨a1,c1,e1,_⟩:=h1.form;refine ⟨[u1],rfl,Sl.lit (cs:=#[u1]) rfl rfl (by simp [e1,aZ.oneCell']) (by unfold maxLen; decide),λ j u r hu hr=>?_⟩
  match j,hu,hr with
  | 0,hu,hr=>simp at hu hr; subst hu hr; exact h1.alloc _
  | j+1,hu,hr=>simp at hu
theorem Rs.three {w:bA} {T:bB} {u1 u2 u3:aZ} {r1 r2 r3:List UInt8} (h1:Bs w u1 r1) (h2:Bs w u2 r2) (h3:Bs w u3 r3):Rs (w.alloc (.cells #[u1,u2,u3] T)) (.slice (some ⟨w.heap.size,0,none⟩) 3 3) [r1,r2,r3]:=by
  obtain ⟨a1,c1,e1,_⟩:=h1.form;obtain ⟨a2,c2,e2,_⟩:=h2.form;obtain ⟨a3,c3,e3,_⟩:=h3.form;refine ⟨[u1,u2,u3],rfl,Sl.lit (cs:=#[u1,u2,u3]) rfl rfl (by simp [e1,e2,e3,aZ.oneCell']) (by unfold maxLen; decide),λ j u r hu hr=>?_⟩
  match j,hu,hr with
  | 0,hu,hr=>simp at hu hr; subst hu hr; exact h1.alloc _
  | 1,hu,hr=>simp at hu hr; subst hu hr; exact h2.alloc _
  | 2,hu,hr=>simp at hu hr; subst hu hr; exact h3.alloc _
  | j+3,hu,hr=>simp at hu
def Tu (key:List UInt8):List UInt8:=if 64<key.length then K9 key else key
def Yw (K:List UInt8) (c:UInt8):List UInt8:=(List.range 64).map λ i=>K.getD i 0 ^^^ c
def Hf (key b:List UInt8):List UInt8:=K9 (Yw (Tu key) 92++K9 (Yw (Tu key) 54++b))
theorem P7 (K:List UInt8) (c:UInt8):(Yw K c).length=64:=by simp [Yw]
theorem Yx (K:List UInt8) (c:UInt8) (k:Nat) (h:k<64):(Yw K c)[k]?=some (K.getD k 0 ^^^ c):=by simp [Yw,h]
def Ef (P:List UInt8) (k:Nat):List UInt8:=P.take k++aE (P.length-k) 0
theorem Oy (P:List UInt8) (k:Nat) (x:UInt8) (hx:P[k]?=some x):(Ef P k).set k x=Ef P (k+1):=by
  have hk:=(List.getElem?_eq_some_iff.1 hx).1;have hx2:=(List.getElem?_eq_some_iff.1 hx).2;unfold Ef;rw [List.set_append_right _ _ (by simp; omega),aM hk,hx2];simp only [aH,aT (aU hk),aV];rw [show P.length-k=(P.length- (k+1))+1 by omega,aO,List.set_cons_zero];simp
theorem Ow (P:List UInt8):Ef P P.length=P:=by simp [Ef]
theorem Ox (P:List UInt8) (k:Nat) (h:k<P.length):(Ef P k)[k]?=some 0:=by
  unfold Ef;rw [List.getElem?_append_right (by simp; omega)];rw [aH,aT (aU h),aV,aN,if_pos (by omega)]
theorem B5 (l:List UInt8) (k:Nat) (x:UInt8):(Ab l).set k (bV x)=Ab (l.set k x):=by simp [Ab,List.map_set]
theorem Kx (l:List UInt8) (k:Nat) (x:UInt8) (h:l[k]?=some x):(Ab l)[k]?=some (bV x):=by simp [Ab,h]
theorem A4o (x:UInt8) (c:Nat) (hc:c<256):(aZ.int .u8 (bits .xor .u8 (x.toNat:Int) (c:Int)))=bV (x ^^^ UInt8.ofNat c):=by
  have e:((UInt8.ofNat c).toNat:Nat)=c:=by rw [UInt8.toNat_ofNat']; exact Nat.mod_eq_of_lt hc
  rw [bV,UInt8.toNat_xor,e,u8_xor_nat _ _ x.toNat_lt hc]
theorem A4C:Cz aC 36 22 1 24 (.slice none 0 0):=by
  refine Cz.mk Tryz.underlying36 ?_ rfl (by decide)
  kernel_rfl
theorem Ii (u v:aZ) (key:List UInt8) (rows:List (List UInt8)) (w:bA) (hu:Bs w u key) (hv:Rs w v rows) (hkl:key.length<=1000000) (hrl:rows.flatten.length<=1000000) (hrn:rows.length<=1000000): bC aC 151 #[u,v] w λ e w'=>∃x,e=.returned x/\B6 w' w.heap.size x (Hf key rows.flatten)/\Below w.heap.size w w':=by
  obtain ⟨au,cu,rfl,hcu,hmu⟩:=hu.form;unfold maxLen at hmu;have HU:=hqZ hu;have HV:=hqZ hv;obtain ⟨Z,hZ⟩:∃Z:List aZ,Z=aE 64 (aZ.int .u8 0):=⟨_,rfl⟩
  have hmk:∀w:bA,(Instr.makeSlice 22 (.int .i64 64) (.int .i64 64)).run aC w=.ok (.slice (some ⟨w.heap.size,0,none⟩) 64 64) (w.alloc (.cells Z.toArray 5)):=by
    intro w;rw [hZ];exact Qz w 64 64 rfl (by decide)
  obtain ⟨P1,hP1⟩:∃P,P=Yw (Tu key) 54:=⟨_,rfl⟩
  obtain ⟨P2,hP2⟩:∃P,P=Yw (Tu key) 92:=⟨_,rfl⟩
  have hl1:P1.length=64:=by rw [hP1]; exact P7 _ _
  have hl2:P2.length=64:=by rw [hP2]; exact P7 _ _
  have hz1:Z=Ab (Ef P1 0):=by rw [hZ,Ef,hl1]; rfl
  have hz2:Z=Ab (Ef P2 0):=by rw [hZ,Ef,hl2]; rfl
  have HZ1:=hqZ hz1;have HZ2:=hqZ hz2;have HP1:=hqZ hP1;have HP2:=hqZ hP2;have HL1:=hqZ hl1;have HL2:=hqZ hl2;clear hu hv hZ hP1 hP2 hl1 hl2 hz1 hz2;go_enter Tryz.func151,Tryz.ntmps151
  go_upto_if 11 with fail;go_cut [0] (λ s0 wx=>Bs wx s0 (Tu key)/\Below w.heap.size w wx)
  case first=>
    by_cases hlong:64<key.length
    · have hlI:(64:Int)<key.length:=by omega
      have hki:Tu key=K9 key:=by rw [Tu,if_pos hlong]
      have HKI:=hqZ hki;have HRS:=hqZ (Rs.one (T:=22) HU.o);clear hki;go_wp2_with fail;refine (Ma _ _ _ HRS.o (by simp; omega)).mono ?_;rintro e w2 ⟨x2,rfl,ho2,hb2⟩;rw [show [key].flatten=key by simp,<-HKI.o] at ho2;have H2:=hqZ ho2.bs;have HB2:Hq (Below w.heap.size w w2):=hqZ (((aD _ _).alloc (aA _) _).trans (hb2.mono (by simp)));clear ho2 hb2;go_wp2_with fail;go_meet;exact ⟨H2.o,HB2.o⟩
    · have hlI:¬(64:Int)<key.length:=by omega
      have hki:Tu key=key:=by rw [Tu,if_neg hlong]
      have HKI:=hqZ hki;clear hki;go_wp2_with fail;go_meet;exact ⟨by rw [HKI.o]; exact HU.o,aD _ _⟩
  case rest=>
  obtain ⟨hk0,hbw⟩:=hcut;obtain ⟨K,hK⟩:∃K,K=Tu key:=⟨_,rfl⟩
  rw [<-hK] at hk0 HP1 HP2;obtain ⟨a0,c0,rfl,hc0,hm0⟩:=hk0.form;unfold maxLen at hm0;have hzw:=hbw.size;have HK0:=hqZ hk0;have HBW:=hqZ hbw;have HVW:=hqZ (HV.o.below hbw);have HKd:=hqZ hK;clear hk0 hbw hK;obtain ⟨wk,rfl⟩:∃wk:bA,wk=wc:=⟨_,rfl⟩
  go_upto_region 3 with fail;go_cut [5,6] (λ s5 s6 wx=>∃p q:Nat,p≠q/\wk.heap.size<=p/\wk.heap.size<=q/\s5=.slice (some ⟨p,0,none⟩) 64 64/\s6=.slice (some ⟨q,0,none⟩) 64 64/\Blk wx p Z 5/\Blk wx q Z 5/\Below wk.heap.size wk wx)
  case first=>
    have hA:Blk ((wk.alloc (.cells Z.toArray 5)).alloc (.cells Z.toArray 5)).drew wk.heap.size Z 5:=((Blk.new wk Z 5).alloc (.cells Z.toArray 5)).drew;have hB:Blk ((wk.alloc (.cells Z.toArray 5)).alloc (.cells Z.toArray 5)).drew (wk.heap.size+1) Z 5:=(Blk.at_ (cs:=Z.toArray) (by simp)).drew;have hC:Below wk.heap.size wk ((wk.alloc (.cells Z.toArray 5)).alloc (.cells Z.toArray 5)).drew:=(((aD _ _).alloc (aA _) _).alloc (by simp) _).drew;have HA:=hqZ hA;have HB:=hqZ hB;have HC:=hqZ hC;clear hA hB hC;go_wp2_with fail
    go_region
    · go_wp2_with fail;go_meet;exact ⟨wk.heap.size,wk.heap.size+1,by omega,by omega,by omega,rfl,rfl,HA.o,HB.o,HC.o⟩
    · go_wp2_with fail;go_meet;exact ⟨wk.heap.size+1,wk.heap.size,by omega,by omega,by omega,rfl,rfl,HB.o,HA.o,HC.o⟩
  case rest=>
  obtain ⟨p,q,hpq,hpw,hqw,rfl,rfl,hbp,hbq,hbc⟩:=hcut;rw [HZ1.o] at hbp;rw [HZ2.o] at hbq;have hpk:wk.heap.size<=p:=hpw;have hqk:wk.heap.size<=q:=hqw;have HBP:=hqZ hbp;have HBQ:=hqZ hbq;have HBC:=hqZ hbc;clear hbp hbq hbc;go_wp2_with fail;go_loopw [19] (λ i wr=>∃k:Nat,k<=64/\i=.int .i64 k/\Blk wr p (Ab (Ef P1 k)) 5/\Blk wr q (Ab (Ef P2 k)) 5/\Below wk.heap.size wk wr) (λ i _=>64- (intOf i).toNat)
  case atStart=>exact ⟨0,by omega,rfl,HBP.o,HBQ.o,HBC.o⟩
  case round=>
    obtain ⟨k,hk,rfl,hbp,hbq,hB⟩:=hrel;have HBr:=hqZ hB;have hzr:=hB.size;by_cases hlt:k<64
    · have e1:P1[k]?=some (K.getD k 0 ^^^ 54):=by rw [HP1.o]; exact Yx K 54 k hlt
      have e2:P2[k]?=some (K.getD k 0 ^^^ 92):=by rw [HP2.o]; exact Yx K 92 k hlt
      have hs1:Blk (wr.setCell ⟨p,k,none⟩ (bV (K.getD k 0 ^^^ 54))) p (Ab (Ef P1 (k+1))) 5:=by
        have:=hbp.set k (bV (K.getD k 0 ^^^ 54));rw [B5,Oy _ _ _ e1] at this;exact this
      have hs2:∀w:bA,Blk w q (Ab (Ef P2 k)) 5->Blk (w.setCell ⟨q,k,none⟩ (bV (K.getD k 0 ^^^ 92))) q (Ab (Ef P2 (k+1))) 5:=by
        intro w hw
        have:=hw.set k (bV (K.getD k 0 ^^^ 92));rw [B5,Oy _ _ _ e2] at this;exact this
      have fin:Blk ((wr.setCell ⟨p,k,none⟩ (bV (K.getD k 0 ^^^ 54))).setCell ⟨q,k,none⟩ (bV (K.getD k 0 ^^^ 92))) p (Ab (Ef P1 (k+1))) 5/\
          Blk ((wr.setCell ⟨p,k,none⟩ (bV (K.getD k 0 ^^^ 54))).setCell ⟨q,k,none⟩ (bV (K.getD k 0 ^^^ 92))) q (Ab (Ef P2 (k+1))) 5/\
          Below wk.heap.size wk ((wr.setCell ⟨p,k,none⟩ (bV (K.getD k 0 ^^^ 54))).setCell ⟨q,k,none⟩ (bV (K.getD k 0 ^^^ 92))):=
        ⟨hs1.set_other (by simpa using hpq) _,hs2 _ (hbq.set_other (by simpa using Ne.symm hpq) _),(HBr.o.setCell (p:=⟨p,k,none⟩) hpk _).setCell (p:=⟨q,k,none⟩) hqk _⟩
      have hx1:aZ.int .u8 (bits .xor .u8 ((K.getD k 0).toNat:Int) 54)=bV (K.getD k 0 ^^^ 54):=A4o _ 54 (by decide);have hx2:aZ.int .u8 (bits .xor .u8 ((K.getD k 0).toNat:Int) 92)=bV (K.getD k 0 ^^^ 92):=A4o _ 92 (by decide);rw [<-hx1,<-hx2] at fin;have cp:wr.cell? ⟨p,k,none⟩=some (.int .u8 0):=by
        rw [hbp.cell];exact Kx _ _ _ (Ox _ _ (by rw [HL1.o]; exact hlt))
      have cq:wr.cell? ⟨q,k,none⟩=some (.int .u8 0):=by
        rw [hbq.cell];exact Kx _ _ _ (Ox _ _ (by rw [HL2.o]; exact hlt))
      have fp:=hbp.frozen k;have fq:=hbq.frozen k;have FIN:=hqZ fin;have hk64:(k:Int)<64:=by omega
      by_cases hin:k<K.length
      · obtain ⟨b0,o0,rfl,hcell⟩:=HK0.o.addr (by rw [Aa]; omega);have hg:(K.getD k 0)=K[k]:=by simp [aW,hin]
        have ck:wr.cell? ⟨b0,o0+k,none⟩=some (.int .u8 (K.getD k 0).toNat):=by rw [hg]; exact Bc hB (hcell k _ (C3 K k hin))
        have hinI:(k:Int)<K.length:=by omega
        generalize K.getD k 0=x at ck FIN;clear hbp hbq hB hs1 hs2 fin hx1 hx2 e1 e2 hcell hg;go_wp2_with fail;go_roundw
        case rel=>exact ⟨k+1,by omega,by go_num,FIN.o.1,FIN.o.2.1,FIN.o.2.2⟩
        case measure=>simp [intOf]; omega
      · have hg:(K.getD k 0)=0:=by simp [aW,List.getElem?_eq_none (Nat.le_of_not_lt hin)]
        rw [hg] at FIN;have hinI:¬(k:Int)<K.length:=by omega
        clear hbp hbq hB hs1 hs2 fin hx1 hx2 e1 e2 hg;go_wp2_with fail;go_roundw
        case rel=>exact ⟨k+1,by omega,by go_num,FIN.o.1,FIN.o.2.1,FIN.o.2.2⟩
        case measure=>simp [intOf]; omega
    · obtain rfl:k=64:=by omega
      rw [show Ef P1 64=P1 by rw [<-HL1.o]; exact Ow P1] at hbp;rw [show Ef P2 64=P2 by rw [<-HL2.o]; exact Ow P2] at hbq;have hb1:Bs wr (.slice (some ⟨p,0,none⟩) 64 64) P1:=
        (hbp.bs (off:=0) (n:=64) (cap:=64) (by have:=HL1.o; omega) (aA _) (by unfold maxLen; decide)).bs (by rw [aF,aG (by have:=HL1.o; omega)]) HL1.o
      have hb2:Bs wr (.slice (some ⟨q,0,none⟩) 64 64) P2:=
        (hbq.bs (off:=0) (n:=64) (cap:=64) (by have:=HL2.o; omega) (aA _) (by unfold maxLen; decide)).bs (by rw [aF,aG (by have:=HL2.o; omega)]) HL2.o
      obtain ⟨vs,hvl,hsl,hel⟩:=HVW.o.below hB;obtain ⟨av,cv,rfl,hcv,hmv⟩:=hsl.form;have HVL:=hqZ hvl;have HSL:=hqZ (hsl.alloc (.cells #[.slice (some ⟨p,0,none⟩) 64 64] 22));have HEL:=hqZ hel;have H1:=hqZ hb1;have H2:=hqZ hb2;have HLT:Hq (Own (wr.alloc (.cells #[.slice (some ⟨p,0,none⟩) 64 64] 22)) wr.heap.size 22 1 (.slice (some ⟨wr.heap.size,0,none⟩) 1 1) 1 [.slice (some ⟨p,0,none⟩) 64 64]):=
        hqZ (Own.at_ (n:=1) rfl (aA _) rfl (by simp [aZ.oneCell']) (by unfold maxLen; decide))
      unfold maxLen at hmv;clear hbp hbq hB hvl hsl hel hb1 hb2 HBP HBQ;go_wp2_with ((with_reducible refine zw 45 ?_);refine Iy rfl (.tmp 43) (.tmp 44) A4C rfl wr.heap.size HLT.o HSL.o (by unfold maxLen; omega) (by omega) (by simp) ?_);intro v2 w2 ho2 hk2 hvb2;have hB2:Below wr.heap.size wr w2:=((aD _ _).alloc (aA _) _).trans (hk2.below (by
        rintro j (⟨_,h⟩ | h)
        · exact h
        · omega))
      have hrs2:Rs w2 v2 (P1::rows):=by
        refine ⟨.slice (some ⟨p,0,none⟩) 64 64::vs,by simp [HVL.o],?_,?_⟩
        · have:=ho2.sl;rw [Nat.add_comm] at this;exact this
        · intro j u r hu hr
          cases j with
          | zero=>simp at hu hr; subst hu hr; exact H1.o.below hB2
          | succ j=>exact (HEL.o j u r (by simpa using hu) (by simpa using hr)).below hB2
      have HRS2:=hqZ hrs2;have HB2:=hqZ hB2;have hz2:=hB2.size;obtain ⟨a2,c2,rfl,_⟩:=ho2.sl.form;clear ho2 hk2 hvb2 hB2 hrs2 HLT;go_wp2_with fail;refine (Ma _ _ _ HRS2.o (by rw [aX,aJ]; have:=HL1.o; omega)).mono ?_;rintro e w3 ⟨x3,rfl,ho3,hb3⟩;rw [aX] at ho3;obtain ⟨D1,hD1⟩:∃D,D=K9 (P1++rows.flatten):=⟨_,rfl⟩
      rw [<-hD1] at ho3;obtain ⟨a3,c3,rfl,_⟩:=ho3.sl.form;have hDl:D1.length=32:=by rw [hD1]; exact La _
      have hrs3:=Rs.two (T:=22) ((H2.o.below HB2.o).below hb3) ho3.bs;have HRS3:=hqZ hrs3;have HDL:=hqZ hDl;have HD1:=hqZ hD1;have HB3:Hq (Below w.heap.size w w3):=hqZ (((HBW.o.trans (HBr.o.mono hzw)).trans (HB2.o.mono (by omega))).trans (hb3.mono (by omega)));have hz3:=HB3.o.size;clear ho3 hb3 hrs3 hD1 hDl;go_wp2_with fail;refine (Ma _ _ _ HRS3.o (by have:=HL2.o; have:=HDL.o; simp; omega)).mono ?_;rintro e w4 ⟨x4,rfl,ho4,hb4⟩;have hfin:K9 [P2,D1].flatten=Hf key rows.flatten:=by
        rw [Hf,<-HKd.o,<-HP2.o,<-HP1.o,<-HD1.o];simp
      rw [hfin] at ho4;have ho5:B6 w4 w.heap.size x4 (Hf key rows.flatten):=Own.base ho4 (by simp; omega);have HO5:=hqZ ho5;have HB5:Hq (Below w.heap.size w w4):=hqZ ((HB3.o.alloc hz3 _).trans (hb4.mono (by simp; omega)));clear ho4 hb4 hfin ho5;go_wp2_with fail;go_ret;exact ⟨_,rfl,HO5.o,HB5.o⟩
theorem Ci (key b:List UInt8):(Hf key b).length=32:=La _
def Ez (k:List UInt8) (s:List UInt8):List UInt8:=(Hf k (s++ [0,1])).take 16
theorem Dw (k s:List UInt8):(Ez k s).length=16:=by simp [Ez,Ci]
theorem A1B {w:bA} {b o cap0 n0:Nat} {l:List UInt8} (h:Bs w (.slice (some ⟨b,o,none⟩) n0 cap0) l) (n:Nat) (hn:n<=l.length):Bs w (.slice (some ⟨b,o,none⟩) n cap0) (l.take n):=by
  obtain ⟨a,cap,e,h1,h2⟩:=h.form;simp only [aZ.slice.injEq] at e;obtain ⟨_,rfl,rfl⟩:=e
  have:=(h.mid (off:=0) (n:=n) (cap:=cap0) (by omega) (by omega) h2).bs (l':=l.take n) (by rw [aF]) (by simp; omega);simpa using this
theorem Mq (k:List UInt8) (s:ByteArray) (w:bA) (hk:k.length=16) (hs:s.size<=100000): bC aC 149 #[Ax k,.string s] w λ e w'=>e=.returned (Ax (Ez k s.data.toList))/\Below w.heap.size w w':=by
  have B0:=hqZ ((Blk.new w (Ab k) 35).alloc (.cells A3.toArray 35));have B1:Hq (Blk ((w.alloc (.cells (Ab k).toArray 35)).alloc (.cells A3.toArray 35)) (w.heap.size+1) A3 35):=hqZ (Blk.at_ (cs:=A3.toArray) (by simp));have HBb:Hq (Below w.heap.size w ((w.alloc (.cells (Ab k).toArray 35)).alloc (.cells A3.toArray 35))):=hqZ (((aD _ _).alloc (aA _) _).alloc (by simp) _);have HK:=hqZ hk;unfold Ax;clear hk;go_enter Tryz.func149,Tryz.ntmps149;go_wp2_with ((with_reducible refine zw 10 ?_);refine D6 rfl (.tmp 9) rfl (s:=s) rfl (by omega) ?_);intro cap w1 hcv hb1 hz1;have hB1:Below w.heap.size w w1:=HBb.o.trans (hb1.mono (by omega));have HCV:=hqZ hcv;have HB1:=hqZ hB1;have hp0:Blk w1 w.heap.size (Ab k) 35:=B0.o.below hb1 (by omega);have hp1:Blk w1 (w.heap.size+1) A3 35:=B1.o.below hb1 (by omega);have HP0:=hqZ hp0;have HP1:=hqZ hp1;have hz1':w.heap.size+3<=w1.heap.size:=by omega
  have hkb:Bs w1 (.slice (some ⟨w.heap.size,0,none⟩) 16 16) k:=
    (hp0.bs (off:=0) (n:=16) (cap:=16) (by have:=HK.o; omega) (aA _) (by unfold maxLen; decide)).bs (by rw [aF,aG (by have:=HK.o; omega)]) HK.o
  have hcb:Bs w1 (.slice (some ⟨w.heap.size+1+1,0,none⟩) s.size cap) s.data.toList:=hcv.sl;have hlt:Bs (w1.alloc (.cells #[.int .u8 0,.int .u8 1] 5)) (.slice (some ⟨w1.heap.size,0,none⟩) 2 2) [0,1]:=Bs.lit (w:=w1) (cs:=#[.int .u8 0,.int .u8 1]) [0,1] rfl rfl (by decide);have hrs:=Rs.two (T:=22) (hcb.alloc (.cells #[.int .u8 0,.int .u8 1] 5)) hlt;rw [show (w1.alloc (.cells #[.int .u8 0,.int .u8 1] 5)).heap.size=w1.heap.size+1 by simp] at hrs;have HRS:=hqZ hrs;have HKB:=hqZ ((hkb.alloc (.cells #[.int .u8 0,.int .u8 1] 5)).alloc (.cells #[.slice (some ⟨w.heap.size+1+1,0,none⟩) s.size cap,.slice (some ⟨w1.heap.size,0,none⟩) 2 2] 22));clear hcv hb1 hz1 hB1 hp0 hp1 hkb hcb hrs B0 B1 HBb hlt;go_wp2_with fail;refine (Ii _ _ k [s.data.toList, [0,1]] _ HKB.o HRS.o (by have:=HK.o; omega) (by simp; omega) (by simp)).mono ?_;rintro e w2 ⟨x2,rfl,ho2,hb2⟩;rw [show [s.data.toList, [0,1]].flatten=s.data.toList++ [0,1] by simp] at ho2;obtain ⟨M,hM⟩:∃M,M=Hf k (s.data.toList++ [0,1]):=⟨_,rfl⟩
  rw [<-hM] at ho2;have hMl:M.length=32:=by rw [hM]; exact Ci _ _
  have hMd:M.take 16=Ez k s.data.toList:=by rw [hM]; rfl
  obtain ⟨g2,cap2,rest2,rfl,hg2,_,hc2,hm2⟩:=ho2.blk (by omega);have ht:=A1B ho2.bs 16 (by omega);rw [hMl] at hc2 ⊢;have HT:=hqZ ht;have HMD:=hqZ hMd;have HML:=hqZ hMl;have hz2:=hb2.size;simp at hz2;have HB2:Hq (Below w.heap.size w w2):=hqZ (((HB1.o.alloc (by omega) _).alloc (by simp; omega) _).trans (hb2.mono (by simp; omega)));have HP12:Hq (Blk w2 (w.heap.size+1) A3 35):=hqZ (((HP1.o.alloc _).alloc _).below hb2 (by simp; omega));unfold maxLen at hm2;clear ho2 hb2 ht hM hMl hMd;go_wp2_with fail;refine (No _ _ _ HT.o).mono ?_;rw [show Ih (M.take 16)=(M.take 16,true) by rw [Ih,if_pos (by rw [aH,HML.o]; rfl)],HMD.o];rintro e w3 ⟨rfl,hb3⟩;obtain ⟨R,hR⟩:∃R,R=Ez k s.data.toList:=⟨_,rfl⟩
  rw [<-hR];have hRl:(Ab R).length=16:=by rw [Aa,hR]; exact Dw _ _
  have HRL:=hqZ hRl;have hz3:=hb3.size;have HB3:Hq (Below w.heap.size w w3):=hqZ (HB2.o.trans (hb3.mono (by omega)));have HP13:Hq (Blk w3 (w.heap.size+1) A3 35):=hqZ (HP12.o.below hb3 (by omega));have HZ3:=hqZ (Blk.new w3 A3 35);have HRd:=hqZ hR;unfold Ax;clear hb3 hRl hR HP0 HP1 HP12;go_wp2_with ((with_reducible refine zws 5 16 ?_);refine Af rfl (.tmp 5) (.tmp 16) Al rfl rfl (vs:=Ab R) rfl HRL.o HZ3.o (aA _) (Aj _) ?_);intro w4 h4 k4;have h4':Blk w4 w3.heap.size (Ab R) 35:=by simpa [A3] using h4
  have H4:=hqZ h4';have HP14:Hq (Blk w4 (w.heap.size+1) A3 35):=hqZ ((HP13.o.alloc _).keep k4 (by omega));have HB4:Hq (Below w.heap.size w w4):=hqZ ((HB3.o.alloc (by omega) _).trans (k4.below (by omega)));have hz4:=k4.size;simp at hz4;clear h4 h4' k4;go_wp2_with (first | ((with_reducible refine zw 18 ?_);refine Ah rfl (.tmp 5) Al rfl rfl (cs:=Ab R) HRL.o H4.o.cellsAll ?_) | ((with_reducible refine zws 4 18 ?_);refine Af rfl (.tmp 4) (.tmp 18) Al rfl rfl (vs:=Ab R) rfl HRL.o HP14.o (aA _) (Aj _) ?_));intro w5 h5 k5;have h5':Blk w5 (w.heap.size+1) (Ab R) 35:=by simpa [A3] using h5
  have H5:=hqZ h5';have HB5:Hq (Below w.heap.size w w5):=hqZ (HB4.o.trans (k5.below (by omega)));clear h5 h5' k5;go_wp2_with fail;exact bodyPost_ret (Aw rfl Al rfl (cs:=Ab R) HRL.o H5.o.cellsAll) rfl ⟨by rw [<-HRd.o],HB5.o⟩
def A2I (t u:List UInt8):List UInt8:=List.zipWith (λ a b=>a ^^^ b) t u
def Fb (pw u0:List UInt8):Nat->List UInt8×List UInt8
  | 0=>(u0,u0)
  | n+1=>(A2I (Fb pw u0 n).1 (Hf pw (Fb pw u0 n).2),Hf pw (Fb pw u0 n).2)
def Tt (pw salt:List UInt8):List UInt8:=(Fb pw (Hf pw (salt++ [0,0,0,1])) 15).1.take 16
theorem Ji (pw u0:List UInt8) (h:u0.length=32):∀n,(Fb pw u0 n).1.length=32/\(Fb pw u0 n).2.length=32
  | 0=>⟨h,h⟩
  | n+1=>by
    have:=Ji pw u0 h n;simp only [Fb,A2I,List.length_zipWith,Ci,this.1];decide
theorem I2 (pw salt:List UInt8):(Tt pw salt).length=16:=by
  simp [Tt,(Ji pw (Hf pw (salt++ [0,0,0,1])) (Ci _ _) 15).1]
theorem Pn (l:List UInt8) (k:Nat) (h:k<l.length):(Ab l)[k]?=some (bV (l.getD k 0)):=by simp [Ab,h]
theorem A5s (x y:UInt8):(aZ.int .u8 (bits .xor .u8 (x.toNat:Int) (y.toNat:Int)))=bV (x ^^^ y):=by
  rw [bV,UInt8.toNat_xor,u8_xor_nat _ _ x.toNat_lt y.toNat_lt]
theorem Yl (pw salt:ByteArray) (w:bA) (hs:pw.size<=100000) (hs2:salt.size<=100000): bC aC 156 #[.string pw,.string salt] w λ e w'=>e=.returned (Ax (Tt pw.data.toList salt.data.toList))/\Below w.heap.size w w':=by
  have B0:=hqZ (Blk.new w A3 35);have HBb:Hq (Below w.heap.size w (w.alloc (.cells A3.toArray 35))):=hqZ ((aD _ _).alloc (aA _) _);obtain ⟨Z,hZ⟩:∃Z:List aZ,Z=aE 32 (aZ.int .u8 0):=⟨_,rfl⟩
  have hmk:∀w:bA,(Instr.makeSlice 22 (.int .i64 32) (.int .i64 32)).run aC w=.ok (.slice (some ⟨w.heap.size,0,none⟩) 32 32) (w.alloc (.cells Z.toArray 5)):=by
    intro w;rw [hZ];exact Qz w 32 32 rfl (by decide)
  have HZ:=hqZ hZ;have hpl:pw.data.toList.length=pw.size:=rfl;have hsl:salt.data.toList.length=salt.size:=rfl;obtain ⟨p,hp⟩:∃p,p=pw.data.toList:=⟨_,rfl⟩
  obtain ⟨s,hsd⟩:∃s,s=salt.data.toList:=⟨_,rfl⟩
  rw [<-hp] at hpl ⊢;rw [<-hsd] at hsl ⊢;have HP:=hqZ hp;have HS:=hqZ hsd;have HPL:=hqZ hpl;have HSL:=hqZ hsl;clear hZ hp hsd hpl hsl;go_enter Tryz.func156,Tryz.ntmps156;go_wp2_with ((with_reducible refine zw 12 ?_);refine D6 rfl (.tmp 11) rfl (s:=pw) rfl (by omega) ?_);intro cap1 w1 hcv1 hb1 hz1;rw [<-HP.o] at hcv1;have HB1:Hq (Below w.heap.size w w1):=hqZ (HBb.o.trans (hb1.mono (by simp)));have HK1:Hq (Blk w1 w.heap.size A3 35):=hqZ (B0.o.below hb1 (by simp));have HC1:Hq (Bs w1 (.slice (some ⟨w.heap.size+1,0,none⟩) pw.size cap1) p):=hqZ (by
    have:=hcv1.sl;unfold Bs;rw [HPL.o];simpa using this)
  have hzz1:w.heap.size+2<=w1.heap.size:=by omega
  clear hcv1 hb1 hz1 B0 HBb;go_wp2_with ((with_reducible refine zw 14 ?_);refine D6 rfl (.tmp 13) rfl (s:=salt) rfl (by omega) ?_);intro cap2 w2 hcv2 hb2 hz2;rw [<-HS.o] at hcv2;have HB2:Hq (Below w.heap.size w w2):=hqZ (HB1.o.trans (hb2.mono (by omega)));have HK2:Hq (Blk w2 w.heap.size A3 35):=hqZ (HK1.o.below hb2 (by omega));have HC2:Hq (Bs w2 (.slice (some ⟨w.heap.size+1,0,none⟩) pw.size cap1) p):=hqZ (HC1.o.below hb2);have hcb2:Bs w2 (.slice (some ⟨w1.heap.size,0,none⟩) salt.size cap2) s:=by
    have:=hcv2.sl;unfold Bs;rw [HSL.o];exact this
  have hzz2:w.heap.size+2<=w2.heap.size:=by omega
  have hlt:Bs (w2.alloc (.cells #[.int .u8 0,.int .u8 0,.int .u8 0,.int .u8 1] 5)) (.slice (some ⟨w2.heap.size,0,none⟩) 4 4) [0,0,0,1]:=Bs.lit (w:=w2) (cs:=#[.int .u8 0,.int .u8 0,.int .u8 0,.int .u8 1]) [0,0,0,1] rfl rfl (by decide);have hrs:=Rs.two (T:=22) (hcb2.alloc (.cells #[.int .u8 0,.int .u8 0,.int .u8 0,.int .u8 1] 5)) hlt;rw [show (w2.alloc (.cells #[.int .u8 0,.int .u8 0,.int .u8 0,.int .u8 1] 5)).heap.size=w2.heap.size+1 by simp] at hrs;have HRS:=hqZ hrs;have HKB:=hqZ ((HC2.o.alloc (.cells #[.int .u8 0,.int .u8 0,.int .u8 0,.int .u8 1] 5)).alloc (.cells #[.slice (some ⟨w1.heap.size,0,none⟩) salt.size cap2,.slice (some ⟨w2.heap.size,0,none⟩) 4 4] 22));clear hcv2 hb2 hz2 hcb2 hlt hrs;go_wp2_with fail;refine (Ii _ _ p [s, [0,0,0,1]] _ HKB.o HRS.o (by have:=HPL.o; omega) (by have:=HSL.o; simp; omega) (by simp)).mono ?_;rintro e w3 ⟨x3,rfl,ho3,hb3⟩;rw [show [s, [0,0,0,1]].flatten=s++ [0,0,0,1] by simp] at ho3;obtain ⟨U,hU⟩:∃U,U=Hf p (s++ [0,0,0,1]):=⟨_,rfl⟩
  rw [<-hU] at ho3;have hUl:U.length=32:=by rw [hU]; exact Ci _ _
  have HU:=hqZ hU;have HUL:=hqZ hUl;have HX3:=hqZ ho3.bs;have hz3:=hb3.size;simp at hz3;have HB3:Hq (Below w.heap.size w w3):=hqZ (((HB2.o.alloc (by omega) _).alloc (by simp; omega) _).trans (hb3.mono (by simp; omega)));have HK3:Hq (Blk w3 w.heap.size A3 35):=hqZ (((HK2.o.alloc _).alloc _).below hb3 (by simp; omega));clear ho3 hb3 hU hUl;go_wp2_with fail;go_loopw [5,6,19] (λ t u i wr=>∃n:Nat,n<=15/\i=.int .i64 n/\Bs wr t (Fb p U n).1/\Bs wr u (Fb p U n).2/\Below w.heap.size w wr/\Blk wr w.heap.size A3 35) (λ _ _ i _=>15- (intOf i).toNat)
  case atStart=>exact ⟨0,by omega,rfl,HX3.o,HX3.o,HB3.o,HK3.o⟩
  case round=>
    obtain ⟨n,hn,rfl,ht,hu,hB,hK⟩:=hrel;have hlen:=Ji p U HUL.o n;obtain ⟨at_,ct,rfl,hct,hmt⟩:=ht.form;obtain ⟨au,cu,rfl,hcu,hmu⟩:=hu.form;rw [hlen.1] at hct ht ⊢;rw [hlen.2] at hcu hu ⊢;unfold maxLen at hmt hmu;have HT:=hqZ ht;have HUu:=hqZ hu;have HBr:=hqZ hB;have HKr:=hqZ hK;have HLEN:=hqZ hlen;have hzr:=hB.size;have hzk:=hK.lt;clear ht hu hB hK hlen;by_cases hlt:n<15
    · have hltI:(n:Int)<15:=by omega
      go_wp2_with ((with_reducible refine zw 22 ?_);refine D6 rfl (.tmp 21) rfl (s:=pw) rfl (by omega) ?_);intro cap4 w4 hcv4 hb4 hz4;rw [<-HP.o] at hcv4;have HC4:Hq (Bs w4 (.slice (some ⟨wr.heap.size,0,none⟩) pw.size cap4) p):=hqZ (by
        have:=hcv4.sl;unfold Bs;rw [HPL.o];exact this)
      have HB4:Hq (Below w.heap.size w w4):=hqZ (HBr.o.trans (hb4.mono hzr));have HK4:Hq (Blk w4 w.heap.size A3 35):=hqZ (HKr.o.below hb4 hzk);have HT4:=hqZ (HT.o.below hb4);have hrs:=Rs.one (T:=22) (HUu.o.below hb4);have HRS4:=hqZ hrs;have HKB4:=hqZ (HC4.o.alloc (.cells #[.slice au 32 cu] 22));have hzz4:w.heap.size+2<=w4.heap.size:=by omega
      clear hcv4 hb4 hz4 hrs HT HUu HBr HKr;go_wp2_with fail;refine (Ii _ _ p [(Fb p U n).2] _ HKB4.o HRS4.o (by have:=HPL.o; omega) (by have:=HLEN.o.2; simp; omega) (by simp)).mono ?_;rintro e w5 ⟨x5,rfl,ho5,hb5⟩;rw [show [(Fb p U n).2].flatten=(Fb p U n).2 by simp] at ho5;obtain ⟨V,hV⟩:∃V,V=Hf p (Fb p U n).2:=⟨_,rfl⟩
      obtain ⟨T,hT⟩:∃T,T=(Fb p U n).1:=⟨_,rfl⟩
      have hTl:T.length=32:=by rw [hT]; exact HLEN.o.1
      have hnext:Fb p U (n+1)=(A2I T V,V):=by rw [hT,hV]; rfl
      rw [<-hV] at ho5;rw [<-hT] at HT4;have hVl:V.length=32:=by rw [hV]; exact Ci _ _
      obtain ⟨X,hX⟩:∃X,X=A2I T V:=⟨_,rfl⟩
      rw [<-hX] at hnext;have hXl:X.length=32:=by rw [hX]; simp [A2I,hTl,hVl]
      have hXg:∀k (h:k<32),X[k]?=some (T.getD k 0 ^^^ V.getD k 0):=by
        intro k h;rw [hX];have h1:k<T.length:=by omega
        have h2:k<V.length:=by omega
        simp [A2I,List.getElem?_zipWith,h1,h2]
      obtain ⟨g5,cap5,rest5,rfl,hg5,_,hc5,hm5⟩:=ho5.blk (by omega);have hv5:=ho5.bs;rw [hVl] at hc5 hv5 ⊢;have hz5:=hb5.size;simp at hz5 hg5;have HX5:=hqZ hv5;have HT5:=hqZ ((HT4.o.alloc (.cells #[.slice au 32 cu] 22)).below hb5);have HB5:Hq (Below w.heap.size w w5):=hqZ ((HB4.o.alloc (by omega) _).trans (hb5.mono (by simp; omega)));have HK5:Hq (Blk w5 w.heap.size A3 35):=hqZ ((HK4.o.alloc _).below hb5 (by simp; omega));have HNX:=hqZ hnext;have HXL:=hqZ hXl;have HXG:=hqZ hXg;have HTL:=hqZ hTl;have HVL:=hqZ hVl;have hzq:Blk (w5.alloc (.cells Z.toArray 5)) w5.heap.size (Ab (Ef X 0)) 5:=by
        have e:Z=Ab (Ef X 0):=by rw [HZ.o,Ef,hXl]; rfl
        rw [<-e];exact Blk.new w5 Z _
      have HZQ:=hqZ hzq;unfold maxLen at hm5;clear ho5 hb5 hv5 hV hT hX hTl hVl hXl hXg hnext hzq HT4 HRS4 HKB4 HC4;go_wp2_with fail;go_loopw [31] (λ i ws=>∃k:Nat,k<=32/\i=.int .i64 k/\Blk ws w5.heap.size (Ab (Ef X k)) 5/\Below w5.heap.size w5 ws) (λ i _=>32- (intOf i).toNat)
      case atStart=>exact ⟨0,by omega,rfl,HZQ.o,(aD _ _).alloc (aA _) _⟩
      case round=>
        obtain ⟨k,hk,rfl,hbq,hB⟩:=hrel;by_cases hltk:k<32
        · obtain ⟨bt,ot,rfl,hct⟩:=(show Sl w5 1 (.slice at_ 32 ct) 32 (Ab T) by have:=HT5.o; unfold Bs at this; rwa [HTL.o] at this).addr (by rw [Aa,HTL.o]; decide);obtain ⟨bv,ov,hev,hcv⟩:=(show Sl w5 1 (.slice (some ⟨g5,0,none⟩) 32 cap5) 32 (Ab V) by have:=HX5.o; unfold Bs at this; rwa [HVL.o] at this).addr (by rw [Aa,HVL.o]; decide);simp only [Option.some.injEq,Addr.mk.injEq,and_true] at hev;obtain ⟨rfl,rfl⟩:=hev;have xt:wr.drew.cell? ⟨bt,ot+k,none⟩=some (.int .u8 (T.getD k 0).toNat):=Bc hB (hct k _ (Pn T k (by have:=HTL.o; omega)));have xv:wr.drew.cell? ⟨g5,k,none⟩=some (.int .u8 (V.getD k 0).toNat):=by
            have:=Bc hB (hcv k _ (Pn V k (by have:=HVL.o; omega)))
            rwa [aP] at this
          have hst:=hbq.set k (bV (T.getD k 0 ^^^ V.getD k 0));rw [B5,Oy _ _ _ (HXG.o k hltk),<-A5s] at hst;have cq:wr.drew.cell? ⟨w5.heap.size,k,none⟩=some (.int .u8 0):=by
            show wr.cell? _=_
            rw [hbq.cell];exact Kx _ _ _ (Ox _ _ (by rw [HXL.o]; exact hltk))
          have fq:wr.drew.frozen? ⟨w5.heap.size,k,none⟩=false:=hbq.frozen k;have hki:(k:Int)<32:=by omega
          generalize T.getD k 0=xt0 at xt hst;generalize V.getD k 0=xv0 at xv hst;have HST:=hqZ hst;have HBk:=hqZ hB;clear hbq hB hst hct hcv;go_wp2_with fail
          go_region;go_wp2_with fail;go_roundw
          case rel=>exact ⟨k+1,by omega,by go_num,HST.o.drew,(HBk.o.setCell (p:=⟨w5.heap.size,k,none⟩) (aA _) _).drew⟩
          case measure=>simp [intOf]; omega
        · obtain rfl:k=32:=by omega
          rw [show Ef X 32=X by rw [<-HXL.o]; exact Ow X] at hbq;have hx6:Bs wr (.slice (some ⟨w5.heap.size,0,none⟩) 32 32) X:=
            (hbq.bs (off:=0) (n:=32) (cap:=32) (by have:=HXL.o; omega) (aA _) (by unfold maxLen; decide)).bs (by rw [aF,aG (by have:=HXL.o; omega)]) HXL.o
          have HX6:=hqZ hx6;have HV6:=hqZ (HX5.o.below hB);have HB6:Hq (Below w.heap.size w wr):=hqZ (HB5.o.trans (hB.mono (by omega)));have HK6:Hq (Blk wr w.heap.size A3 35):=hqZ (HK5.o.below hB (by omega));clear hbq hx6 hB;go_wp2_with fail;go_roundw
          case rel=>exact ⟨n+1,by omega,by go_num,by rw [HNX.o]; exact HX6.o,by rw [HNX.o]; exact HV6.o,HB6.o,HK6.o⟩
          case measure=>simp [intOf]; omega
    · obtain rfl:n=15:=by omega
      obtain ⟨M,hM⟩:∃M,M=(Fb p U 15).1:=⟨_,rfl⟩
      have ht:=HT.o;rw [<-hM] at ht;have hMl:M.length=32:=by rw [hM]; exact HLEN.o.1
      have hMd:M.take 16=Tt p s:=by rw [hM,HU.o]; rfl
      obtain ⟨bt,ot,rfl,_⟩:=(show Sl wr 1 (.slice at_ 32 ct) 32 (Ab M) by have:=ht; unfold Bs at this; rwa [hMl] at this).addr (by rw [Aa,hMl]; decide);have ht16:=A1B ht 16 (by omega);have HT16:=hqZ ht16;have HMD:=hqZ hMd;have HML:=hqZ hMl;clear ht ht16 hMl hMd hM HT HUu;go_wp2_with fail;refine (No _ _ _ HT16.o).mono ?_;rw [show Ih (M.take 16)=(M.take 16,true) by rw [Ih,if_pos (by rw [aH,HML.o]; rfl)],HMD.o];rintro e w4 ⟨rfl,hb4⟩;obtain ⟨R,hR⟩:∃R,R=Tt p s:=⟨_,rfl⟩
      rw [<-hR];have hRl:(Ab R).length=16:=by rw [Aa,hR]; exact I2 _ _
      have HRL:=hqZ hRl;have hz4:=hb4.size;have HB4:Hq (Below w.heap.size w w4):=hqZ (HBr.o.trans (hb4.mono (by omega)));have HP4:Hq (Blk w4 w.heap.size A3 35):=hqZ (HKr.o.below hb4 (by omega));have HZ4:=hqZ (Blk.new w4 A3 35);have HRd:=hqZ hR;unfold Ax;clear hb4 hRl hR;go_wp2_with ((with_reducible refine zws 9 53 ?_);refine Af rfl (.tmp 9) (.tmp 53) Al rfl rfl (vs:=Ab R) rfl HRL.o HZ4.o (aA _) (Aj _) ?_);intro w5 h5 k5;have h5':Blk w5 w4.heap.size (Ab R) 35:=by simpa [A3] using h5
      have H5:=hqZ h5';have HP5:Hq (Blk w5 w.heap.size A3 35):=hqZ ((HP4.o.alloc _).keep k5 (by omega));have HB5:Hq (Below w.heap.size w w5):=hqZ ((HB4.o.alloc (by omega) _).trans (k5.below (by omega)));have hz5:=k5.size;simp at hz5;clear h5 h5' k5;go_wp2_with (first | ((with_reducible refine zw 55 ?_);refine Ah rfl (.tmp 9) Al rfl rfl (cs:=Ab R) HRL.o H5.o.cellsAll ?_) | ((with_reducible refine zws 4 55 ?_);refine Af rfl (.tmp 4) (.tmp 55) Al rfl rfl (vs:=Ab R) rfl HRL.o HP5.o (aA _) (Aj _) ?_));intro w6 h6 k6;have h6':Blk w6 w.heap.size (Ab R) 35:=by simpa [A3] using h6
      have H6:=hqZ h6';have HB6:Hq (Below w.heap.size w w6):=hqZ (HB5.o.trans (k6.below (by omega)));clear h6 h6' k6;go_wp2_with fail;exact bodyPost_ret (Aw rfl Al rfl (cs:=Ab R) HRL.o H6.o.cellsAll) rfl ⟨by rw [<-HRd.o]; rfl,HB6.o⟩
def zk:List UInt8:=aE 16 0
theorem Pj:zk.length=16:=by simp [zk]
def mkF (k:List UInt8) (l:ByteArray) (t:Bool):Fk:=if h:k.length=16/\l.size<=maxLen then ⟨k,l,t,h.1,h.2⟩ else ⟨zk,⟨#[]⟩,false,Pj,by decide⟩
theorem A3H {k:List UInt8} {l:ByteArray} {t:Bool} (h1:k.length=16) (h2:l.size<=maxLen):mkF k l t=⟨k,l,t,h1,h2⟩:=by rw [mkF,dif_pos ⟨h1,h2⟩]
def noF:Fk:=⟨zk,⟨#[]⟩,false,Pj,by decide⟩
structure Bx where
  by_:List UInt8
  usage:Int
  body:List UInt8
structure Sy where
  keys:List Fk
  boxes:List Bx
  sums:List (List UInt8)
  known:List (Fk×List UInt8)
structure Re where
  seed:List UInt8
  keys:Nat
  boxes:Nat
def Sy.nil:Sy:=⟨[], [], [], []⟩
def Sy.add (s:Sy) (f:Fk):List UInt8×Sy:=(B2 107 (s.keys.length+1),{ s with keys:=s.keys++ [f] })
def Sy.made (s:Sy) (f:Fk):List UInt8×Sy:=
  if Iz s.known f=true then (J4 s.known f zk,s)
  else ((s.add f).1,{ (s.add f).2 with known:=J8 s.known f (s.add f).1 })
def Sy.shut (s:Sy) (b:Bx):List UInt8×Sy:=(B2 98 (s.boxes.length+1),{ s with boxes:=s.boxes++ [b] })
def Sy.digest (s:Sy) (b:List UInt8):List UInt8×Sy:=(Vl s.sums b,{ s with sums:=Rk s.sums b })
def G6 (n:Nat):List UInt8:=if n<10 then [48+UInt8.ofNat n] else [48+UInt8.ofNat (n / 10),48+UInt8.ofNat (n % 10)]
def P8 (k:List UInt8) (u:Nat) (half:UInt8):List UInt8:=Ez k (half::G6 u)
def Ff (n:List UInt8):List UInt8:=n++aE 8 0
def A0m (k:List UInt8) (u n:Nat) (body:List UInt8):List UInt8:=
  B7 n++(E4 (P8 k u 101) (Ff (B7 n)) body++(Hf (P8 k u 109) (B7 n++E4 (P8 k u 101) (Ff (B7 n)) body)).take 16)
def Re.fresh (r:Re):List UInt8×Re:=((Hf r.seed (B7 (r.keys+1))).take 16,{ r with keys:=r.keys+1 })
def Re.shut (r:Re) (k:List UInt8) (u:Nat) (b:List UInt8):List UInt8×Re:=(A0m k u (r.boxes+1) b,{ r with boxes:=r.boxes+1 })
inductive PS where
  | sym (s:Sy)
  | real (r:Re)
namespace PS
def lift {α:Type} (x:α×Sy):α×PS:=(x.1,.sym x.2)
def liftR {α:Type} (x:α×Re):α×PS:=(x.1,.real x.2)
def fresh:PS->List UInt8×PS
  | .sym s=>lift (s.add noF)
  | .real r=>liftR r.fresh
def textF (pw salt:List UInt8):Fk:=mkF zk ⟨(B7 pw.length++(pw++salt)).toArray⟩ true
def text (pw salt:List UInt8):PS->List UInt8×PS
  | .sym s=>lift (s.made (textF pw salt))
  | .real r=>(Tt pw salt,.real r)
def derive (k:List UInt8) (l:ByteArray):PS->List UInt8×PS
  | .sym s=>lift (s.made (mkF k l false))
  | .real r=>(Ez k l.data.toList,.real r)
def shut (k:List UInt8) (u:Nat) (b:List UInt8):PS->List UInt8×PS
  | .sym s=>lift (s.shut ⟨k,u,b⟩)
  | .real r=>liftR (r.shut k u b)
def digest (b:List UInt8):PS->List UInt8×PS
  | .sym s=>lift (s.digest b)
  | .real r=>((K9 b).take 16,.real r)
def sz:PS->Nat
  | .sym s=>s.keys.length+s.boxes.length+s.sums.length+s.known.length
  | .real r=>r.keys+r.boxes
def Opn (s:PS) (k:List UInt8) (u:Nat) (box b:List UInt8):Prop:=
  match s with
  | .sym s=>∃i,s.boxes[i]?=some ⟨k,u,b⟩/\box=B2 98 (i+1)
  | .real _=>∃n,box=A0m k u n b
def Dig (s:PS) (b d:List UInt8):Prop:=
  match s with
  | .sym s=>b∈s.sums/\d=B2 100 (s.sums.idxOf b+1)
  | .real _=>d=(K9 b).take 16
def Mde (s:PS) (f:Fk) (k r:List UInt8):Prop:=
  match s with
  | .sym s=>Iz s.known f=true/\J4 s.known f zk=k
  | .real _=>r=k
structure Gr (n:Nat) (s t:PS):Prop where
  opn:∀ {k u x b},Opn s k u x b->Opn t k u x b
  dig:∀ {b d},Dig s b d->Dig t b d
  mde:∀ {f k r},Mde s f k r->Mde t f k r
  sz:t.sz<=s.sz+n
theorem Gr.refl (s:PS):Gr 0 s s:=⟨λ h=>h,λ h=>h,λ h=>h,aA _⟩
theorem Gr.trans {n m:Nat} {a b c:PS} (h:Gr n a b) (k:Gr m b c):Gr (n+m) a c:=
  ⟨λ x=>k.opn (h.opn x),λ x=>k.dig (h.dig x),λ x=>k.mde (h.mde x),by have:=h.sz; have:=k.sz; omega⟩
theorem Gr.mono {n m:Nat} {a b:PS} (h:Gr n a b) (hn:n<=m):Gr m a b:=⟨h.opn,h.dig,h.mde,by have:=h.sz; omega⟩
theorem fresh_len (s:PS):s.fresh.1.length=16:=by
  cases s with
  | sym s=>exact Av _ _
  | real r=>simp [fresh,liftR,Re.fresh,aH,Ci]
theorem A5S (s:Sy) (f:Fk):Gr 1 (.sym s) (.sym (s.add f).2):=
  ⟨λ h=>h,λ h=>h,λ h=>h,by simp [sz,Sy.add]; omega⟩
theorem gr_fresh (s:PS):Gr 1 s s.fresh.2:=by
  cases s with
  | sym s=>exact A5S s _
  | real r=>exact ⟨λ h=>h,λ h=>h,λ h=>h,by simp [sz,fresh,liftR,Re.fresh]; omega⟩
theorem A1J (s:Sy) (f:Fk):Gr 2 (.sym s) (.sym (s.made f).2):=by
  unfold Sy.made;split
  · exact (Gr.refl _).mono (by omega)
  · rename_i hh;refine ⟨λ h=>h,λ h=>h,?_,by have:=Y2 s.known f (s.add f).1; simp [sz,Sy.add] at this ⊢; omega⟩;rintro f' k r ⟨h1,h2⟩;have hne:¬f=f':=by rintro rfl; exact hh h1
    exact ⟨by simp only [X4,h1,Bool.or_true],by simp only [X2,if_neg hne]; exact h2⟩
theorem Ym (s:Sy) (f:Fk) (r:List UInt8):Mde (.sym (s.made f).2) f (s.made f).1 r:=by
  unfold Sy.made;split
  · rename_i hh;exact ⟨hh,rfl⟩
  · exact ⟨by simp [X4],by simp [X2]⟩
theorem gr_text (s:PS) (pw salt:List UInt8):Gr 2 s (s.text pw salt).2:=by
  cases s with
  | sym s=>exact A1J s _
  | real r=>exact (Gr.refl _).mono (by omega)
theorem gr_derive (s:PS) (k:List UInt8) (l:ByteArray):Gr 2 s (s.derive k l).2:=by
  cases s with
  | sym s=>exact A1J s _
  | real r=>exact (Gr.refl _).mono (by omega)
theorem text_mde (s:PS) (pw salt:List UInt8):Mde (s.text pw salt).2 (textF pw salt) (s.text pw salt).1 (Tt pw salt):=by
  cases s with
  | sym s=>exact Ym s _ _
  | real r=>rfl
theorem derive_mde (s:PS) (k:List UInt8) (l:ByteArray):Mde (s.derive k l).2 (mkF k l false) (s.derive k l).1 (Ez k l.data.toList):=by
  cases s with
  | sym s=>exact Ym s _ _
  | real r=>rfl
theorem text_of {s:PS} {pw salt k:List UInt8} (h:Mde s (textF pw salt) k (Tt pw salt)):s.text pw salt=(k,s):=by
  cases s with
  | sym s=>
    obtain ⟨h1,h2⟩:=h;simp [text,lift,Sy.made,h1,h2]
  | real r=>simp only [text,Mde] at h ⊢; rw [h]
theorem derive_of {s:PS} {k:List UInt8} {l:ByteArray} {x:List UInt8} (h:Mde s (mkF k l false) x (Ez k l.data.toList)):s.derive k l=(x,s):=by
  cases s with
  | sym s=>
    obtain ⟨h1,h2⟩:=h;simp [derive,lift,Sy.made,h1,h2]
  | real r=>simp only [derive,Mde] at h ⊢; rw [h]
theorem gr_shut (s:PS) (k:List UInt8) (u:Nat) (b:List UInt8):Gr 1 s (s.shut k u b).2:=by
  cases s with
  | sym s=>
    refine ⟨?_,λ h=>h,λ h=>h,by simp [sz,shut,lift,Sy.shut]; omega⟩;rintro k u x b ⟨i,h1,h2⟩;refine ⟨i,?_,h2⟩
    have:=(List.getElem?_eq_some_iff.1 h1).1;simp only [Sy.shut];rw [aQ this];exact h1
  | real r=>exact ⟨λ h=>h,λ h=>h,λ h=>h,by simp [sz,shut,liftR,Re.shut]; omega⟩
theorem shut_opn (s:PS) (k:List UInt8) (u:Nat) (b:List UInt8):Opn (s.shut k u b).2 k u (s.shut k u b).1 b:=by
  cases s with
  | sym s=>exact ⟨s.boxes.length,by simp [Sy.shut],rfl⟩
  | real r=>exact ⟨_,rfl⟩
theorem A0G {l:List (List UInt8)} {b:List UInt8} (h:b∈l) (m:List (List UInt8)):(l++m).idxOf b=l.idxOf b:=by
  rw [aY,if_pos h]
theorem gr_digest (s:PS) (b:List UInt8):Gr 1 s (s.digest b).2:=by
  cases s with
  | sym s=>
    refine ⟨λ h=>h,?_,λ h=>h,?_⟩
    · rintro b' d ⟨h1,h2⟩;simp only [digest,lift,Sy.digest,Rk,Dig];split
      · exact ⟨h1,h2⟩
      · exact ⟨by simp [h1],by rw [A0G h1]; exact h2⟩
    · simp only [sz,digest,lift,Sy.digest,Rk];split
      · omega
      · simp; omega
  | real r=>exact (Gr.refl _).mono (by omega)
theorem digest_dig (s:PS) (b:List UInt8):Dig (s.digest b).2 b (s.digest b).1:=by
  cases s with
  | sym s=>
    simp only [digest,lift,Sy.digest,Dig,Vl];refine ⟨?_,trivial⟩;unfold Rk;by_cases h:b∈s.sums
    · rw [if_pos h]; exact h
    · rw [if_neg h]; simp
  | real r=>rfl
theorem digest_of {s:PS} {b d:List UInt8} (h:Dig s b d):s.digest b=(d,s):=by
  cases s with
  | sym s=>
    obtain ⟨h1,h2⟩:=h;simp [digest,lift,Sy.digest,Rk,Vl,h1,h2]
  | real r=>simp only [digest,Dig] at h ⊢; rw [h]
end PS
theorem Xs (v u:aZ) (a b:List UInt8) (q:Nat) (w:bA) (ha:Bs w v a) (hb:Bs w u b) (hq:w.cell? ⟨q,0,none⟩=some u): bC aC 192 #[v,.pointer (some ⟨q,0,none⟩)] w λ e w'=>e=.returned (.bool (decide (a=b)))/\w=w':=by
  have HE:=hqZ (L2 v u a b w ha hb);obtain ⟨a1,c1,rfl,_,_⟩:=ha.form;obtain ⟨a2,c2,rfl,_,_⟩:=hb.form;clear ha hb;go_enter Tryz.func192,Tryz.ntmps192;go_wp2_with fail;refine HE.o.mono ?_;rintro e w' ⟨rfl,rfl⟩;go_wp2_with fail;go_ret;exact ⟨rfl,rfl⟩
def A5J (w:bA) (sums:List (List UInt8)) (b:List UInt8) (e:Ending) (w':bA):Prop:=
  e=.returned (.int .i64 (if b∈sums then (sums.idxOf b:Int) else -1))/\w=w'
theorem Vk (sv u:aZ) (vs:List aZ) (sums:List (List UInt8)) (b:List UInt8) (q:Nat) (w:bA) (hs:Sl w 1 sv sums.length vs) (hr:∀(j:Nat) v r,vs[j]?=some v->sums[j]?=some r->Bs w v r) (hb:Bs w u b) (hq:w.cell? ⟨q,0,none⟩=some u): bC aC 191 #[sv,.func (Fn.func 192) #[] #[.pointer (some ⟨q,0,none⟩)]] w (A5J w sums b):=by
  obtain ⟨a,c,rfl,hc,hm⟩:=hs.form;have HS:=hqZ hs;have HR:=hqZ hr;have HB:=hqZ hb;have HQ:=hqZ hq;unfold maxLen at hm;clear hs hr hb hq;go_enter Tryz.func191,Tryz.ntmps191;go_wp2_with fail;go_loop [5,8] (λ _ i=>∃k:Nat,k<=sums.length/\i=.int .i64 k/\b∉sums.take k) (λ _ i=>sums.length- (intOf i).toNat)
  case atStart=>exact ⟨0,aI _,rfl,by simp⟩
  case round=>
    obtain ⟨k,hk,rfl,hn⟩:=hrel;have HN:=hqZ hn;clear hn;by_cases hlt:k<sums.length
    · obtain ⟨g,o,rfl,hcell⟩:=HS.o.addr (by rw [HS.o.1]; omega);have hkl:k<vs.length:=by rw [HS.o.1]; omega
      obtain ⟨v,hv⟩:∃v,vs[k]?=some v:=⟨_,aK hkl⟩
      have hck:w.cell? ⟨g,o+k,none⟩=some v:=hcell k v hv;have hrow:=HR.o k v sums[k] hv (aK hlt);have HC:=hqZ (Xs v u sums[k] b q w hrow HB.o HQ.o);obtain ⟨a1,c1,rfl,_,_⟩:=hrow.form;clear hcell hrow hv;by_cases he:sums[k]=b
      · have HF:Hq ((if b∈sums then (sums.idxOf b:Int) else -1)=k):=hqZ (by
          have hm:b∈sums:=he▸aR hlt;rw [if_pos hm];have hnb:=HN.o
          have:sums.idxOf b=k:=by
            have e1:sums=sums.take k++sums.drop k:=(List.take_append_drop _ _).symm;rw [e1,aY,if_neg hnb,List.drop_eq_getElem_cons hlt,he,List.idxOf_cons_self]
            simp; omega
          rw [this])
        have HE:Hq (decide (sums[k]=b)=true):=hqZ (by simpa using he);rw [HE.o] at HC;clear he;go_wp2_with fail;refine HC.o.mono ?_;rintro e w' ⟨rfl,rfl⟩;go_wp2_with fail;go_ret;exact ⟨by rw [HF.o]; rfl,rfl⟩
      · have HE:Hq (decide (sums[k]=b)=false):=hqZ (by simpa using he);rw [HE.o] at HC;have HT:Hq (b∉sums.take (k+1)):=hqZ (I5 b sums k hlt HN.o he);clear he;go_wp2_with fail;refine HC.o.mono ?_;rintro e w' ⟨rfl,rfl⟩;go_wp2_with fail;go_round
        case rel=>exact ⟨k+1,by omega,by go_num,HT.o⟩
        case measure=>simp [intOf]; omega
    · obtain rfl:k=sums.length:=by omega
      have HF:Hq ((if b∈sums then (sums.idxOf b:Int) else -1)= -1):=hqZ (by
        have hnb:=HN.o;rw [aS] at hnb;rw [if_neg hnb])
      go_wp2_with fail;go_ret;exact ⟨by rw [HF.o]; rfl,rfl⟩
end Go.Proofs.YtnihelcjmahmnaaGreat
