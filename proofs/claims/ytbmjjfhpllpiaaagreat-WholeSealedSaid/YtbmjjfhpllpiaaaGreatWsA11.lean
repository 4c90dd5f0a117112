/- Texts of this proof, one behind the other: Cred, Cred2, Cred3, Cred5, Log2, Log3, Kas2, Cache. -/
import Derived.Test.YtbmjjfhpllpiaaaGreatWsA1
import Derived.Test.YtbmjjfhpllpiaaaGreatWsA2
import Derived.Test.YtbmjjfhpllpiaaaGreatWsA3
import Derived.Test.YtbmjjfhpllpiaaaGreatWsA4
import Derived.Test.YtbmjjfhpllpiaaaGreatWsA5
import Derived.Test.YtbmjjfhpllpiaaaGreatWsA10
import Derived.Laws.Tables
import Derived.Test.YtbmjjfhpllpiaaaGreatProg
set_option linter.unusedSimpArgs false
set_option linter.unusedVariables false
set_option maxRecDepth 100000
set_option maxHeartbeats 16000000
open Go.Proofs.Tryz renaming prog -> aA, func59 -> aG, ntmps59 -> aH, underlying179 -> aT, func76 -> bJ, ntmps76 -> bK
open Nat renaming le_refl -> aB, lt_of_lt_of_le -> aU, zero_mul -> aZ, zero_add -> bA, min_eq_left -> bE
open List renaming getElem?_append_right -> aC, length_set -> aD, map_cons -> aE, append_assoc -> aF, replicate -> aI, getElem?_cons_succ -> aJ, take_append_of_le_length -> aK, flatten_cons -> aL, map_toArray -> aM, map_nil -> aN, mem_or_eq_of_mem_set -> aO, take_of_length_le -> aP, mem_cons -> aQ, not_mem_nil -> aR, length_cons -> aS, take_succ_eq_append_getElem -> aV, getElem_mem -> aW, getElem?_append -> aX, length_append -> aY, getElem?_append_left -> bB, drop_append_of_le_length -> bC, drop_of_length_le -> bD, getElem?_map -> bF, getElem?_eq_getElem -> bG, forall_mem_append -> bH, forall_mem_cons -> bI, getElem?_cons_zero -> bL
open Go renaming Value -> bM, World -> bN, Calls -> bO
namespace Go.Proofs.YtbmjjfhpllpiaaaGreat
open Go.RowKit
structure Cr where
  srv:ByteArray
  bv:bM
  box:List UInt8
  key:List UInt8
  flags:Int
  fin:Int
  renew:Int
def Cr.cells (c:Cr):List bM:=.string c.srv::c.bv::(Ab c.key++ [.int .i64 c.flags,.int .i64 c.fin,.int .i64 c.renew])
def Cr.zero:Cr:=⟨⟨#[]⟩,.slice none 0 0, [],aI 16 0,0,0,0⟩
def Cr.dat (c:Cr):ByteArray×List UInt8×List UInt8×Int×Int×Int:=(c.srv,c.box,c.key,c.flags,c.fin,c.renew)
theorem Cr.cells_length (c:Cr) (h:c.key.length=16):c.cells.length=21:=by simp [Cr.cells,Aa,h]
theorem Cr.c18 (c:Cr) (h:c.key.length=16):c.cells[18]?=some (.int .i64 c.flags):=by
  simp only [Cr.cells,aJ];rw [aC (by rw [Aa]; omega),Aa,h];rfl
theorem Cr.c19 (c:Cr) (h:c.key.length=16):c.cells[19]?=some (.int .i64 c.fin):=by
  simp only [Cr.cells,aJ];rw [aC (by rw [Aa]; omega),Aa,h];rfl
theorem Cr.ckey (c:Cr) (h:c.key.length=16):(c.cells.drop 2).take 16=Ab c.key:=by
  simp only [Cr.cells,List.drop_succ_cons,List.drop_zero];rw [aK (by rw [Aa]; omega),aP (by rw [Aa]; omega)]
theorem Cr.one (c:Cr) (h:c.bv.oneCell'=true):∀u∈c.cells,u.oneCell'=true:=by
  intro u hu;simp only [Cr.cells,aQ,List.mem_append,aR,or_false] at hu;rcases hu with rfl | rfl | hu | rfl | rfl | rfl
  · rfl
  · exact h
  · exact Ak _ u hu
  · rfl
  · rfl
  · rfl
def slC (o:Option Cr):Cr:=o.getD Cr.zero
def slB (o:Option Cr):bM:=.bool o.isSome
def slS (L:List (Option Cr)):List bM:=(L.map λ o=>(slC o).cells).flatten
def stC (L:List (Option Cr)):List bM:=slS L++L.map slB
def Bj (w:bN) (F:Nat->Prop) (p:Nat) (L:List (Option Cr)):Prop:=
  F p/\L.length=16/\Blk w p (stC L) 181/\∀c,some c∈L->c.key.length=16/\Bs w c.bv c.box/\∀b,c.bv.ownBlock=some b->F b/\b≠p/\b<w.heap.size
theorem Hd {L:List (Option Cr)} (h:∀c,some c∈L->c.key.length=16):∀o∈L,(slC o).key.length=16:=by
  intro o ho
  cases o with
  | none=>simp [slC,Cr.zero]
  | some c=>exact h c ho
theorem D6:∀ {L:List (Option Cr)},(∀o∈L,(slC o).key.length=16)->(slS L).length=21*L.length
  | [],_=>rfl
  | o::L,h=>by
    have ih:=D6 (L:=L) (λ x hx=>h x (by simp [hx]));simp only [slS,aE,aL,aY,aS] at ih ⊢;rw [ih,Cr.cells_length _ (h o (by simp))];omega
theorem A4b {L:List (Option Cr)} (h:∀o∈L,(slC o).key.length=16) (k j:Nat) (hk:k<L.length) (hj:j<21):(slS L)[k*21+j]?=(slC L[k]).cells[j]?:=by
  induction L generalizing k with
  | nil=>simp at hk
  | cons o L ih=>
    have hc:=Cr.cells_length _ (h o (by simp));simp only [slS,aE,aL]
    cases k with
    | zero=>
      rw [aZ,bA,bB (by omega)];rfl
    | succ k=>
      rw [aC (by omega),hc,show (k+1)*21+j-21=k*21+j by omega];exact ih (λ x hx=>h x (by simp [hx])) k (by simpa using hk)
theorem A4c {L:List (Option Cr)} (h:∀o∈L,(slC o).key.length=16) (k:Nat) (hk:k<L.length) (o:Option Cr):(slS L).take (k*21)++(slC o).cells++(slS L).drop (k*21+21)=slS (L.set k o):=by
  induction L generalizing k with
  | nil=>simp at hk
  | cons a L ih=>
    have hc:=Cr.cells_length _ (h a (by simp));simp only [slS,aE,aL]
    cases k with
    | zero=>
      rw [aZ,List.take_zero,bA,bC (by omega),bD (by omega)];simp
    | succ k=>
      have ih:=ih (λ x hx=>h x (by simp [hx])) k (by simpa using hk);simp only [slS] at ih;rw [show (k+1)*21=(slC a).cells.length+k*21 by omega,List.take_length_add_append,Nat.add_assoc,List.drop_length_add_append,aF,aF,List.set_cons_succ];simp only [aE,aL];rw [<-ih];simp
theorem Dk:A9 aA 89 21:=A9.mk Tryz.underlying89 rfl (by kernel_rfl)
theorem A3s:A9 aA 179 16:=A9.mk aT rfl (by kernel_rfl)
theorem Ut (p k:Nat) (hk:k<16) (w:bN):(Instr.indexAt 178 (.pointer (some ⟨p,0,none⟩)) (.int .i64 k)).run aA w=.ok (.pointer (some ⟨p,k*21,none⟩)) w:=by
  have hs:(sizeOf 89).run aA w=.ok 21 w:=by kernel_rfl
  simp [Instr.indexAt,run_underlying Tryz.underlying178,asIntOf,Instr.sureAddr,hs,hk,Addr.add_lit]
theorem Z1 (p k:Nat) (hk:k<16) (w:bN):(Instr.indexAt 179 (.pointer (some ⟨p,336,none⟩)) (.int .i64 k)).run aA w=.ok (.pointer (some ⟨p,336+k,none⟩)) w:=by
  have hs:(sizeOf 4).run aA w=.ok 1 w:=by kernel_rfl
  simp [Instr.indexAt,run_underlying aT,asIntOf,Instr.sureAddr,hs,hk,Addr.add_lit]
theorem Xx (L:List (Option Cr)) (k:Nat) (hk:k<L.length) (hL:L.length=16) (w:bN):(Instr.index 179 (.agg (L.map slB).toArray) (.int .i64 k)).run aA w=.ok (slB L[k]) w:=by
  have hs:(sizeOf 4).run aA w=.ok 1 w:=by kernel_rfl
  have ha:(isAgg 4).run aA w=.ok false w:=by kernel_rfl
  have hc:(L.map slB)[k]?=some (slB L[k]):=by simp [hk]
  have hk16:¬16<=k:=by omega
  simp [Instr.index,run_underlying aT,asIntOf,part,hs,ha,hk16,hk]
def Fz (L:List (Option Cr)):Int:=match L.findIdx? (λ o=>o.isNone) with
  | some i=>i
  | none=> -1
def F7 (s:ByteArray) (o:Option Cr):Bool:=match o with
  | some c=>decide (c.srv=s)
  | none=>false
def Dv (L:List (Option Cr)) (s:ByteArray):Int:=match L.findIdx? (F7 s) with
  | some i=>i
  | none=>Fz L
theorem Bj.used {w:bN} {F:Nat->Prop} {p:Nat} {L:List (Option Cr)} (h:Bj w F p L):Al w p 336 (L.map slB):=by
  obtain ⟨_,hl,hb,hk⟩:=h;have hs:=D6 (Hd (λ c hc=>(hk c hc).1));intro j u hj;rw [hb.cell,stC,aC (by omega),hs,hl]
  rwa [show 336+j-21*16=j by omega]
theorem Bj.usedC {w:bN} {F:Nat->Prop} {p:Nat} {L:List (Option Cr)} (h:Bj w F p L) (k:Nat) (hk:k<L.length):w.cell? ⟨p,336+k,none⟩=some (slB L[k]):=h.used k _ (by simp [hk])
theorem Bj.slot {w:bN} {F:Nat->Prop} {p:Nat} {L:List (Option Cr)} (h:Bj w F p L) (k j:Nat) (hk:k<L.length) (hj:j<21):w.cell? ⟨p,k*21+j,none⟩=(slC L[k]).cells[j]?:=by
  obtain ⟨_,hl,hb,hkk⟩:=h;have hkey:=Hd (λ c hc=>(hkk c hc).1);have hs:=D6 hkey;rw [hb.cell,stC,bB (by omega)];exact A4b hkey k j hk hj
theorem Bj.lt {w:bN} {F:Nat->Prop} {p:Nat} {L:List (Option Cr)} (h:Bj w F p L):p<w.heap.size:=h.2.2.1.lt
theorem Bj.keep {w w':bN} {F S:Nat->Prop} {p:Nat} {L:List (Option Cr)} (h:Bj w F p L) (hk:Ai S w w') (hs:∀k,F k->k<w.heap.size->¬S k):Bj w' F p L:=by
  obtain ⟨h1,h2,h3,h4⟩:=h;refine ⟨h1,h2,h3.keep hk (hs p h1 h3.lt),λ c hc=>?_⟩;obtain ⟨g1,g2,g3⟩:=h4 c hc;exact ⟨g1,Sl.keep' g2 hk (λ b hb hl=>hs b (g3 b hb).1 hl),λ b hb=>⟨(g3 b hb).1,(g3 b hb).2.1,aU (g3 b hb).2.2 hk.size⟩⟩
theorem Bj.below {w w':bN} {F:Nat->Prop} {p:Nat} {L:List (Option Cr)} (h:Bj w F p L) (hb:Below w.heap.size w w'):Bj w' F p L:=h.keep (Ai.of_below hb) (λ k _ hl hs=>by omega)
theorem Bj.mono {w:bN} {F G:Nat->Prop} {p:Nat} {L:List (Option Cr)} (h:Bj w F p L) (hs:∀k,F k->G k):Bj w G p L:=by
  obtain ⟨h1,h2,h3,h4⟩:=h;exact ⟨hs _ h1,h2,h3,λ c hc=>let ⟨g1,g2,g3⟩:=h4 c hc; ⟨g1,g2,λ b hb=>⟨hs _ (g3 b hb).1,(g3 b hb).2⟩⟩⟩
theorem Bj.tight {w:bN} {F:Nat->Prop} {p:Nat} {L:List (Option Cr)} (h:Bj w F p L):Bj w (λ j=>F j/\j<w.heap.size) p L:=by
  have hp:=h.lt;obtain ⟨h1,h2,h3,h4⟩:=h;exact ⟨⟨h1,hp⟩,h2,h3,λ c hc=>let ⟨g1,g2,g3⟩:=h4 c hc; ⟨g1,g2,λ b hb=>⟨⟨(g3 b hb).1,(g3 b hb).2.2⟩,(g3 b hb).2⟩⟩⟩
theorem Zw (L:List (Option Cr)) (o:Option Cr):Fz (L++ [o])=if Fz L<0/\o.isNone=true then (L.length:Int) else Fz L:=by
  unfold Fz;rw [List.findIdx?_append]
  cases h:L.findIdx? (λ o=>o.isNone) with
  | some i=>
    simp;omega
  | none=>
    cases o <;> simp [List.findIdx?_cons]
theorem A2o (L:List (Option Cr)): -1<=Fz L:=by unfold Fz; split <;> omega
theorem A2p (L:List (Option Cr)):Fz L<L.length:=by
  unfold Fz;split
  · rename_i i h
    have:=(List.findIdx?_eq_some_iff_findIdx_eq.1 h).1;omega
  · omega
theorem A1F (L:List (Option Cr)) (s:ByteArray) (k:Nat) (hk:k<L.length) (h1:∀o∈L.take k,F7 s o=false) (h2:F7 s L[k]=true):Dv L s=k:=by
  have:L.findIdx? (F7 s)=some k:=by
    rw [List.findIdx?_eq_some_iff_getElem];refine ⟨hk,h2,λ j hj=>?_⟩
    have:=h1 L[j] (by
      rw [List.mem_take_iff_getElem];exact ⟨j,by omega,rfl⟩)
    simp [this]
  simp [Dv,this]
theorem Xo (L:List (Option Cr)) (s:ByteArray) (h:∀o∈L,F7 s o=false):Dv L s=Fz L:=by
  have:L.findIdx? (F7 s)=none:=by
    rw [List.findIdx?_eq_none_iff];exact h
  simp [Dv,this]
def M9:List (Option Cr):=aI 16 none
theorem A1B:Tryz.prog.built 181 []=some (stC M9).toArray:=by kernel_rfl
theorem Sd:Tryz.prog.built 89 []=some Cr.zero.cells.toArray:=by kernel_rfl
theorem Cf {P:Program} {ops:Array Oper} {rest:List Oper} {o:Oper} {a:Act} {w:bN} {Q:Exit->Act->bN->Prop} (hgd:Region.wanted o (yielded ops a.tmps)=true) {ty:TypeId} (ho:o.op=.build ty #[]) {cells:Array bM} (hb:P.built ty []=some cells) (h:wpList P ops Q rest (a.put o.dst (.agg cells)) w):wpList P ops Q (o::rest) a w:=by
  refine By hgd λ K hK=>?_
  have hr:=run_build (P:=P) w ty #[] cells hb;unfold Oper.wp execOp;simp only [ho,Sem.run_bind,Sem.run_pure,Result.andThen_ok,aM,aN,hr];exact hK _ _ h
theorem Wg (w:bN):bO aA 52 #[] w λ e w'=>e=.returned (.pointer (some ⟨w.heap.size,0,none⟩))/\Bj w' (λ k=>k=w.heap.size) w.heap.size M9/\Below w.heap.size w w':=by
  have hst:Bj (w.alloc (.cells (stC M9).toArray 181)) (λ k=>k=w.heap.size) w.heap.size M9:=
    ⟨rfl,rfl,Blk.new w _ _,λ c hc=>by simp [M9] at hc⟩
  have HST:=hqZ hst;have hb:=A1B;obtain ⟨Z,hZ⟩:∃Z,Z=(stC M9).toArray:=⟨_,rfl⟩
  rw [<-hZ] at HST hb;have HB:=hqZ hb;clear hst hb hZ;go_enter Tryz.func52,Tryz.ntmps52;go_wp2_with ((with_reducible refine zw 1 ?_);refine Cf rfl rfl HB.o ?_);go_ret;exact ⟨rfl,HST.o,(Below.refl _ _).alloc (aB _) _⟩
theorem Lt (F:Nat->Prop) (p:Nat) (L:List (Option Cr)) (s:ByteArray) (w:bN) (h:Bj w F p L): bO aA 65 #[.pointer (some ⟨p,0,none⟩),.string s] w λ e w'=>e=.returned (.int .i64 (Dv L s))/\w=w':=by
  have hl:=h.2.1;have HH:=hqZ h;have HL:=hqZ hl;have hu:=h.used;have HU:=hqZ hu;have hul:(L.map slB).length=16:=by rw [List.length_map,hl]
  have HUL:=hqZ hul;clear h hl hu hul;go_enter Tryz.func65,Tryz.ntmps65;go_wp2_with ((with_reducible refine zw 11 ?_);refine Ag rfl (.tmp 10) A3s rfl rfl (cs:=L.map slB) HUL.o HU.o ?_);go_wp2_with fail;go_loop [5,12] (λ f i=>∃k:Nat,k<=16/\i=.int .i64 k/\f=.int .i64 (Fz (L.take k))/\∀o∈L.take k,F7 s o=false) (λ _ i=>16- (intOf i).toNat)
  case atStart=>exact ⟨0,by omega,rfl,rfl,by simp⟩
  case round=>
    obtain ⟨k,hk,rfl,rfl,hno⟩:=hrel;by_cases hlt:k<16
    · have hkl:k<L.length:=by rw [HL.o]; exact hlt
      have hix:=Xx L k hkl HL.o;have hia:=Ut p k hlt;have hki:(k:Int)<16:=by omega
      have hfr:=Zw (L.take k) L[k];rw [<-aV hkl,List.length_take,HL.o,bE (by omega)] at hfr;have hge:=A2o (L.take k);have hat:=A1F L s k hkl hno;have hnext:F7 s L[k]=false->∀o∈L.take (k+1),F7 s o=false:=by
        intro h o ho;rw [aV hkl] at ho;rcases List.mem_append.1 ho with ho | ho
        · exact hno o ho
        · rw [List.mem_singleton.1 ho]; exact h
      have hc0:=HH.o.slot k 0 hkl (by decide);rw [Nat.add_zero] at hc0;have HNO:=hqZ hno;obtain ⟨o,ho⟩:∃o,o=L[k]:=⟨_,rfl⟩
      rw [<-ho] at hix hfr hat hnext hc0;have HO:=hqZ ho;have HFR:=hqZ hfr;have HAT:=hqZ hat;have HNX:=hqZ hnext;clear ho hfr hat hnext hno
      cases o with
      | none=>
        simp only [slB,Option.isNone_none,Option.isSome_none] at hix HFR;by_cases hf:Fz (L.take k)<0
        · have hv:Fz (L.take (k+1))=(k:Int):=by rw [HFR.o,if_pos ⟨hf,trivial⟩]
          have HV:=hqZ hv;clear hv;go_wp2_with fail;go_round
          case rel=>exact ⟨k+1,by omega,by go_num,by rw [HV.o],HNX.o rfl⟩
          case measure=>simp [intOf]; omega
        · have hv:Fz (L.take (k+1))=Fz (L.take k):=by rw [HFR.o,if_neg (λ h=>hf h.1)]
          have HV:=hqZ hv;clear hv;go_wp2_with fail;go_round
          case rel=>exact ⟨k+1,by omega,by go_num,by rw [HV.o],HNX.o rfl⟩
          case measure=>simp [intOf]; omega
      | some c=>
        have hc1:w.cell? ⟨p,k*21,none⟩=some (.string c.srv):=hc0;have hix':∀w,(Instr.index 179 (.agg (L.map slB).toArray) (.int .i64 k)).run aA w=.ok (.bool true) w:=hix
        have hv:Fz (L.take (k+1))=Fz (L.take k):=by rw [HFR.o,if_neg (by simp)]
        have HV:=hqZ hv;clear hc0 hix hv;by_cases hs:c.srv=s
        · have hs2:c.srv.toList=s.toList:=by rw [hs]
          have hpl:Dv L s=k:=HAT.o (by simp [F7,hs]);have HPL:=hqZ hpl;clear hs hpl;go_wp2_with fail;go_ret;exact ⟨by rw [HPL.o]; rfl,rfl⟩
        · have hs2:¬c.srv.toList=s.toList:=λ e=>hs ((I8 _ _).1 e)
          have hns:F7 s (some c)=false:=by simp [F7,hs]
          have HNS:=hqZ hns;have hs3:(c.srv.toList==s.toList)=false:=by simpa using hs2
          clear hs hns hs2;go_wp2_with fail;go_round
          case rel=>exact ⟨k+1,by omega,by go_num,by rw [HV.o],HNX.o HNS.o⟩
          case measure=>simp [intOf]; omega
    · obtain rfl:k=16:=by omega
      rw [aP (by rw [HL.o]; exact aB _)] at hno ⊢;have hpl:=Xo L s hno;have HPL:=hqZ hpl;clear hno hpl;go_wp2_with fail;go_ret;exact ⟨by rw [HPL.o]; rfl,rfl⟩
theorem X6 {L:List (Option Cr)} (h:∀c,some c∈L->c.key.length=16) (k:Nat) (hk:k<L.length) (o:Option Cr):(stC L).take (k*21)++(slC o).cells++(stC L).drop (k*21+21)=slS (L.set k o)++L.map slB:=by
  have hkey:=Hd h;have hs:=D6 hkey;unfold stC;rw [aK (by omega),bC (by omega),<-A4c hkey k hk o];simp
theorem X7 {L L':List (Option Cr)} (h:∀c,some c∈L->c.key.length=16) (hl:L.length=16) (hl':L'.length=16) (k:Nat) (o:Option Cr):(slS L++L'.map slB).set (336+k) (slB o)=slS L++(L'.set k o).map slB:=by
  have hs:=D6 (Hd h);rw [List.set_append_right _ _ (by omega),hs,hl,show 336+k-21*16=k by omega,List.map_set]
theorem Bj.set {w w':bN} {F:Nat->Prop} {p:Nat} {L:List (Option Cr)} (h:Bj w F p L) (k:Nat) (o:Option Cr) (ho:∀c,o=some c->c.key.length=16/\Bs w' c.bv c.box/\∀b,c.bv.ownBlock=some b->F b/\b≠p/\b<w'.heap.size) (hb:Blk w' p (stC (L.set k o)) 181) (hkp:Ai (λ j=>j=p) w w'):Bj w' F p (L.set k o):=by
  obtain ⟨h1,h2,h3,h4⟩:=h;refine ⟨h1,by rw [aD,h2],hb,λ c hc=>?_⟩;rcases aO hc with h | h
  · obtain ⟨g1,g2,g3⟩:=h4 c h;exact ⟨g1,Sl.keep g2 hkp (λ b hb e=>(g3 b hb).2.1 e),λ b hb=>⟨(g3 b hb).1,(g3 b hb).2.1,aU (g3 b hb).2.2 hkp.size⟩⟩
  · exact ho c h.symm
theorem A3b (l Z:List bM) (a:Nat) (hl:a+21<=l.length):(l.take (a+2)++Z++l.drop (a+2+16)).take a=l.take a:=by
  rw [aF,aK (by simp; omega),List.take_take,bE (by omega)]
theorem A3a (l Z:List bM) (a:Nat) (hl:a+21<=l.length) (hZ:Z.length=16):(l.take (a+2)++Z++l.drop (a+2+16)).drop (a+21)=l.drop (a+21):=by
  have h1:(l.take (a+2)++Z).length=a+18:=by simp [hZ]; omega
  rw [List.drop_append,bD (by omega),h1,List.nil_append,List.drop_drop];congr 1;omega
theorem Ss (F:Nat->Prop) (p k:Nat) (L:List (Option Cr)) (w:bN) (h:Bj w F p L) (hk:k<16): bO aA 122 #[.pointer (some ⟨p,0,none⟩),.int .i64 k] w λ e w'=>e=.returned (.tuple #[])/\Bj w' F p (L.set k none)/\Ai (λ j=>j=p) w w':=by
  have hl:=h.2.1;have hkey:∀c,some c∈L->c.key.length=16:=λ c hc=>(h.2.2.2 c hc).1
  have hblk:=h.2.2.1;have hsl:(stC L).length=352:=by
    have:=D6 (Hd hkey);simp [stC,this,hl]
  have hia:=Ut p k hk;have hiu:=Z1 p k hk;have HH:=hqZ h;have HL:=hqZ hl;have HKEY:=hqZ hkey;have HB:=hqZ hblk;have HSL:=hqZ hsl;clear h hl hkey hblk hsl;have hz:=Sd;obtain ⟨Z,hZ⟩:∃Z,Z=Cr.zero.cells:=⟨_,rfl⟩
  have hZl:Z.length=21:=by rw [hZ]; rfl
  have hZ1:∀u∈Z,u.oneCell'=true:=by rw [hZ]; exact Cr.one _ rfl
  rw [<-hZ] at hz;have HZ:=hqZ hz;have HZL:=hqZ hZl;have HZ1:=hqZ hZ1;have HZd:=hqZ hZ;clear hz hZ hZl hZ1;go_enter Tryz.func122,Tryz.ntmps122;go_wp2_with ((with_reducible show wpList _ _ _ (⟨none,.call _,_,_,_,_⟩::_) _ _); refine Mg rfl (.tmp 10) Dl rfl rfl rfl HB.o (by rw [HSL.o]; omega) ?_);intro w2 h2a k2;have h2:Blk w2 p ((stC L).take (k*21+2)++aI 16 (bM.int .u8 0)++(stC L).drop (k*21+2+16)) 181:=by rw [aF]; exact h2a
  obtain ⟨X,hX⟩:∃X,X=(stC L).take (k*21+2)++aI 16 (bM.int .u8 0)++(stC L).drop (k*21+2+16):=⟨_,rfl⟩
  rw [<-hX] at h2;have hXl:X.length=352:=by rw [hX]; simp [HSL.o]; omega
  have hXt:X.take (k*21)=(stC L).take (k*21):=by rw [hX]; exact A3b _ _ _ (by rw [HSL.o]; omega)
  have hXd:X.drop (k*21+21)=(stC L).drop (k*21+21):=by rw [hX]; exact A3a _ _ _ (by rw [HSL.o]; omega) (by simp)
  have H2:=hqZ h2;have HXL:=hqZ hXl;have HXT:=hqZ hXt;have HXD:=hqZ hXd;have K2:=hqZ k2;clear h2 h2a k2 hX hXl hXt hXd;go_wp2_with (first | ((with_reducible refine zw 13 ?_);refine Cf rfl rfl HZ.o ?_) | ((with_reducible refine zws 16 13 ?_);refine Af rfl (.tmp 16) (.tmp 13) Dk rfl rfl (vs:=Z) rfl HZL.o H2.o (by rw [HXL.o]; omega) HZ1.o ?_));intro w3 h3a k3;have hkL:k<L.length:=by rw [HL.o]; exact hk
  rw [HXT.o,HXD.o,HZd.o] at h3a;have h3:Blk w3 p ((stC L).take (k*21)++(slC none).cells++(stC L).drop (k*21+21)) 181:=by rw [aF]; exact h3a
  rw [X6 HKEY.o k hkL none] at h3;have K3:Hq (Ai (λ j=>j=p) w w3):=hqZ (K2.o.trans k3);have hc:=h3.cell (336+k);have hsl2:=D6 (L:=L.set k none) (Hd (λ c hc=>by
    rcases aO hc with h | h
    · exact HKEY.o c h
    · cases h))
  rw [aC (by rw [hsl2,aD,HL.o]; omega),hsl2,aD,HL.o,show 336+k-21*16=k by omega,bF,bG hkL,Option.map_some] at hc;have hf:=h3.frozen (336+k);have hu:=X7 (L:=L.set k none) (L':=L) (λ c hc=>by
    rcases aO hc with h | h
    · exact HKEY.o c h
    · cases h) (by rw [aD,HL.o]) HL.o k none
  have h4:=h3.set (336+k) (slB none);rw [hu] at h4;have H4:=hqZ h4;generalize slB L[k]=ub at hc;clear h3 h3a k3 hsl2 hu h4;go_wp2_with fail;go_end0;have hk4:Ai (λ j=>j=p) w (w3.setCell ⟨p,336+k,none⟩ (slB none)):=K3.o.setCell (p:=⟨p,336+k,none⟩) rfl _;exact ⟨rfl,HH.o.set k none (λ c hc=>by cases hc) H4.o hk4,hk4⟩
theorem K6 {P:Program} {w:bN} {ops:Array Oper} {rest:List Oper} {o:Oper} {a:Act} {Q:Exit->Act->bN->Prop} (hgd:Region.wanted o (yielded ops a.tmps)=true) (s x:Operand) {t e:TypeId} {size bytes:Nat} {z:bM} (hE:C5 P t e size bytes z) (ho:o.op=.call { callee:=.builtin .append,args:=#[s,x],argTypes:=#[t,t] }) (hv:a.eval s=.slice none 0 0) {m:Nat} {ds:List bM} (hsl:Sl w size (a.eval x) m ds) (h63:m<=maxLen) (hbytes:m*bytes<=140737488355328) (h:∀v' w',Own w' w.heap.size e size v' m ds->Ai (λ k=>w.heap.size<=k) w w'->(∀b,v'.ownBlock=some b->w.heap.size<=b/\b<w'.heap.size)->wpList P ops Q rest (a.put o.dst v') w'):wpList P ops Q (o::rest) a w:=by
  obtain ⟨v',w',hr,h2,h3,h4⟩:=Pd (P:=P) (ty:=o.type) hE hsl h63 hbytes;refine By hgd λ K hK=>?_
  unfold Oper.wp execOp;simp only [ho,resolve,invoke,builtin,Sem.run_bind,Sem.run_pure,Result.andThen_ok,aM,aE,aN,hv,hr];exact hK _ _ (h v' w' h2 h3 h4)
theorem Tn (L:List (Option Cr)) (s:ByteArray):Dv L s<L.length:=by
  unfold Dv;split
  · rename_i i h
    have:=(List.findIdx?_eq_some_iff_findIdx_eq.1 h).1;omega
  · exact A2p L
def U8 (L:List (Option Cr)) (c:Cr):List (Option Cr)×Int:=
  if Dv L c.srv<0 then (L,8) else (L.set (Dv L c.srv).toNat (some c),0)
theorem Wh (F:Nat->Prop) (p:Nat) (L:List (Option Cr)) (c:Cr) (w:bN) (h:Bj w F p L) (hk:c.key.length=16) (hb:Bs w c.bv c.box) (hbl:c.box.length<=140737488351232) (hnp:c.box= []\/c.bv.ownBlock≠some p): bO aA 101 #[.pointer (some ⟨p,0,none⟩),.agg c.cells.toArray] w λ e w'=>∃c':Cr,c'.dat=c.dat/\e=.returned (.int .i64 (U8 L c').2)/\Bj w' (λ j=>F j\/w.heap.size<=j) p (U8 L c').1/\ Ai (λ j=>j=p\/w.heap.size<=j) w w':=by
  obtain ⟨ab,cb,hbv,hcb,hmb⟩:=hb.form;unfold maxLen at hmb;have hl:=h.2.1;have hplt:=h.lt;have h0:=h.tight;obtain ⟨G,hG⟩:∃G:Nat->Prop,G=λ j=>F j/\j<w.heap.size:=⟨_,rfl⟩
  rw [<-hG] at h0;have hGl:∀j,G j->j<w.heap.size:=λ j hj=>by rw [hG] at hj; exact hj.2
  have hGF:∀j,G j->F j:=λ j hj=>by rw [hG] at hj; exact hj.1
  have HGL:=hqZ hGl;have HGF:=hqZ hGF;clear hG hGl hGF;have hBq:Blk (w.alloc (.cells c.cells.toArray 89)) w.heap.size c.cells 89:=Blk.new w _ _;have x0:(w.alloc (.cells c.cells.toArray 89)).cell? ⟨w.heap.size,0,none⟩=some (.string c.srv):=by rw [hBq.cell]; rfl
  have hcl:=Cr.cells_length c hk;have H1:=hqZ (h0.below ((Below.refl _ _).alloc (aB _) (.cells c.cells.toArray 89)));have HBX:=hqZ (hb.alloc (.cells c.cells.toArray 89));have HBQ:=hqZ hBq;have HK:=hqZ hk;have HCL:=hqZ hcl;have HL:=hqZ hl;have HBV:=hqZ hbv;have HNP:=hqZ hnp;obtain ⟨C,hC⟩:∃C,C=c.cells:=⟨_,rfl⟩
  rw [<-hC] at x0 H1 HBX HBQ HCL ⊢;have HCd:=hqZ hC;clear h h0 hb hl hbv hBq hcl hk hC hnp;go_enter Tryz.func101,Tryz.ntmps101;go_wp2_with fail;refine (Lt G p L c.srv _ H1.o).mono ?_;rintro e w1 ⟨rfl,rfl⟩;by_cases hneg:Dv L c.srv<0
  · have hp:∀c':Cr,c'.srv=c.srv->U8 L c'=(L,8):=λ c' e=>by rw [U8,e,if_pos hneg]
    have HP:=hqZ (hp c rfl);clear hp x0;go_wp2_with fail;go_ret;refine ⟨c,rfl,by rw [HP.o]; rfl,?_,Ai.alloc (Ai.refl _ _) _ (.inr (aB _))⟩;rw [HP.o];exact H1.o.mono (λ k hk=>.inl (HGF.o k hk))
  · obtain ⟨k,hkk⟩:∃k:Nat,Dv L c.srv=k:=⟨(Dv L c.srv).toNat,by omega⟩
    have hk16:k<16:=by have:=Tn L c.srv; rw [HL.o] at this; omega
    rw [hkk] at hneg ⊢;have HKK:=hqZ hkk;clear hkk x0;go_wp2_with fail;refine (Ss G p k L _ H1.o hk16).mono ?_;rintro e w2 ⟨rfl,hs2,hk2⟩;have hz2:=hk2.size;simp at hz2;have HS2:=hqZ hs2;have HBQ2:=hqZ (HBQ.o.keep hk2 (by omega));have HBX2:Hq (Bs w2 c.bv c.box):=hqZ (by
      rcases HNP.o with h0 | h0
      · have:=HBX.o;rw [h0] at this ⊢;obtain ⟨g1,g2,a,cap,g3,g4,g5,g6,_⟩:=this;exact ⟨g1,g2,a,cap,g3,g4,g5,g6,.inl rfl⟩
      · exact Sl.keep HBX.o hk2 (λ b hb e=>h0 (e▸hb)))
    have HK2:=hqZ hk2;have x1:w2.cell? ⟨w.heap.size,1,none⟩=some c.bv:=by rw [HBQ2.o.cell,HCd.o]; rfl
    rw [HBV.o] at x1 HBX2;have f1:=HBQ2.o.frozen 1;clear hs2 hk2;go_wp2_with ((with_reducible refine zw 19 ?_);refine K6 rfl (.const (.slice none 0 0)) (.tmp 18) Dl rfl rfl HBX2.o (by unfold maxLen; omega) (by omega) ?_);intro v3 w3 ho3 hk3' hvb3;have hb3:Bs w3 v3 c.box:=ho3.sl;obtain ⟨a3,c3,hv3f,_⟩:=hb3.form;have hv3:∀b,v3.ownBlock=some b->w2.heap.size<=b:=λ b hb=>(hvb3 b hb).1
    have hv3l:∀b,v3.ownBlock=some b->b<w3.heap.size:=λ b hb=>(hvb3 b hb).2
    have hz3:=hk3'.size;have hbq3:=HBQ2.o.keep hk3' (by omega);have y1:w3.cell? ⟨w.heap.size,1,none⟩=some (.slice ab c.box.length cb):=by rw [hbq3.cell,HCd.o,<-HBV.o]; rfl
    have g1:=hbq3.frozen 1;obtain ⟨c',hc'⟩:∃c',c'= { c with bv:=v3 } :=⟨_,rfl⟩
    have hbq4:Blk (w3.setCell ⟨w.heap.size,1,none⟩ v3) w.heap.size c'.cells 89:=by
      have:=hbq3.set 1 v3;rw [HCd.o] at this;rw [hc'];exact this
    have hs4:Bj (w3.setCell ⟨w.heap.size,1,none⟩ v3) G p (L.set k none):=
      (HS2.o.keep hk3' (λ j hj hl hs=>by omega)).keep (Ai.one w3 w.heap.size 1 v3) (λ j hj hl e=>by have:=HGL.o j hj; omega)
    have hb4:Bs (w3.setCell ⟨w.heap.size,1,none⟩ v3) v3 c.box:=Sl.setCell hb3 (by intro e; have:=hv3 _ e; simp at this; omega) _;have hK4:Ai (λ j=>j=p\/w.heap.size<=j) w (w3.setCell ⟨w.heap.size,1,none⟩ v3):=
      (((Ai.alloc (Ai.refl (λ j=>j=p\/w.heap.size<=j) w) (.cells C.toArray 89) (.inr (aB _))).trans (HK2.o.mono (λ j hj=>.inl hj))).trans (hk3'.mono (λ j hj=>.inr (by omega)))).trans ((Ai.one w3 w.heap.size 1 v3).mono (λ j hj=>.inr (by omega)))
    have HB4:=hqZ hb4;have HK4:=hqZ hK4;have HS4:=hqZ hs4;have HBQ4:=hqZ hbq4;have HV3:=hqZ hv3;have HVL0:=hqZ hv3l;have HC':=hqZ hc';clear ho3 hvb3 hb3 hv3 hv3l hk3' hbq3 hb4 hK4 hs4 hbq4 hc' x1 f1 HBX2;subst hv3f;go_wp2_with fail;have hz34:w3.heap.size<=(w3.setCell ⟨w.heap.size,1,none⟩ (.slice a3 c.box.length c3)).heap.size:=by simp
    obtain ⟨w4,hw4⟩:∃w4,w4=w3.setCell ⟨w.heap.size,1,none⟩ (.slice a3 c.box.length c3):=⟨_,rfl⟩
    have hz4:w4.heap.size=w3.heap.size:=by rw [hw4]; simp
    rw [<-hw4] at HB4 HK4 HS4 HBQ4 hz34 ⊢;have hz44:w2.heap.size<=w4.heap.size:=by omega
    clear hw4 hz4;have hia:=Ut p k hk16;have hiu:=Z1 p k hk16;have hkL:k< (L.set k none).length:=by rw [aD,HL.o]; exact hk16
    have hkeyS:∀x,some x∈L.set k none->x.key.length=16:=λ x hx=>(HS4.o.2.2.2 x hx).1
    have hc'k:c'.key.length=16:=by rw [HC'.o]; exact HK.o
    have hc'l:=Cr.cells_length c' hc'k;have hc'1:∀u∈c'.cells,u.oneCell'=true:=Cr.one c' (by rw [HC'.o]; rfl)
    have hsl4:(stC (L.set k none)).length=352:=by
      have:=D6 (Hd hkeyS);simp [stC,this,HL.o]
    have hset:(L.set k none).set k (some c')=L.set k (some c'):=by simp
    have hblk:=HS4.o.2.2.1;have hcu:=HS4.o.usedC k hkL;have hsn:slB ((L.set k none)[k]'hkL)=.bool false:=by simp [slB]
    rw [hsn] at hcu;have hfu:=hblk.frozen (336+k);have hwb:∀W,Ai (λ j=>j=p) w4 W->Bs W c'.bv c'.box:=λ W hW=>by
      rw [HC'.o];exact Sl.keep HB4.o hW (λ b hb e=>by have:=HV3.o b hb; omega)
    have HWB:=hqZ hwb;have HKS:=hqZ hkeyS;have HSL4:=hqZ hsl4;have HBLK:=hqZ hblk;have HSET:=hqZ hset;have HC1:=hqZ hc'1;have HCK:=hqZ hc'k;have HCL':=hqZ hc'l;clear hwb hkeyS hsl4 hblk hset hc'1 hc'k hc'l hsn;refine wp_region_any (by kernel_rfl) ?_;change wpAny _ _ _ _ _ _ _ (bN.drew _);refine wpAny_take (i:=0) (oi:=⟨some 22,_,_,_,_,none⟩) (v:=.pointer (some ⟨p,0,none⟩)) rfl (by kernel_rfl) (by kernel_rfl) (by kernel_rfl) (λ _ _ _ h=>h) (Or.inl ⟨by rfl,by intro w; go_simp⟩) ?_;try go_frame
    refine wpAny_take (i:=1) (oi:=⟨some 23,_,_,_,_,none⟩) (v:=.int .i64 k) rfl (by kernel_rfl) (by kernel_rfl) (by kernel_rfl) (λ _ _ _ h=>h) (Or.inl ⟨by rfl,by intro w; go_simp⟩) ?_;try go_frame
    refine wpAny_take (i:=2) (oi:=⟨some 24,_,_,_,_,none⟩) (v:=.pointer (some ⟨p,0,none⟩)) rfl (by kernel_rfl) (by kernel_rfl) (by kernel_rfl) (λ _ _ _ h=>h) (Or.inl ⟨by rfl,by intro w; go_simp⟩) ?_;try go_frame
    refine wpAny_take (i:=3) (oi:=⟨some 25,_,_,_,_,none⟩) (v:=.int .i64 k) rfl (by kernel_rfl) (by kernel_rfl) (by kernel_rfl) (λ _ _ _ h=>h) (Or.inl ⟨by rfl,by intro w; go_simp⟩) ?_;try go_frame
    refine wpAny_take (i:=5) (oi:=⟨some 27,_,_,_,_,none⟩) (v:=.pointer (some ⟨p,0,none⟩)) rfl (by kernel_rfl) (by kernel_rfl) (by kernel_rfl) (λ _ _ _ h=>h) (Or.inl ⟨by rfl,by intro w; go_simp⟩) ?_;try go_frame
    refine wpAny_take (i:=6) (oi:=⟨some 28,_,_,_,_,none⟩) (v:=.pointer (some ⟨p,0,none⟩)) rfl (by kernel_rfl) (by kernel_rfl) (by kernel_rfl) (λ _ _ _ h=>h) (Or.inl ⟨by rfl,by intro w; go_simp⟩) ?_;try go_frame
    refine wpAny_take (i:=9) (oi:=⟨some 30,_,_,_,_,none⟩) (v:=.pointer (some ⟨p,0,none⟩)) rfl (by kernel_rfl) (by kernel_rfl) (by kernel_rfl) (λ _ _ _ h=>h) (Or.inl ⟨by rfl,by intro w; go_simp⟩) ?_;try go_frame
    refine wpAny_take (i:=10) (oi:=⟨some 31,_,_,_,_,none⟩) (v:=.pointer (some ⟨p,336,none⟩)) rfl (by kernel_rfl) (by kernel_rfl) (by kernel_rfl) (λ _ _ _ h=>h) (Or.inl ⟨by rfl,by intro w; go_simp⟩) ?_;try go_frame
    refine wpAny_ready (rs:= [4]) (by kernel_rfl) (by simp) ?_;refine AllReady.cons (o:=⟨some 26,.load 89 (.tmp 3),_,_,_,none⟩) rfl (λ K hK=>?_) AllReady.nil;refine A0n rfl (.tmp 3) Dk rfl (by simp [Act.eval]) HCL'.o HBQ4.o.drew.cellsAll ?_;refine zqp hK ?_;clear hK K;refine wpAny_ready (rs:= [7]) (by decide+kernel) (by simp) ?_;refine AllReady.cons (o:=⟨some 29,.indexAddr 178 (.tmp 28) (.tmp 23),_,_,_,none⟩) rfl (λ K hK=>?_) AllReady.nil;go_simp;refine zqp hK ?_;clear hK K;refine wpAny_ready (rs:= [8]) (by decide+kernel) (by simp) ?_;refine AllReady.cons (o:=⟨none,.store 89 (.tmp 29) (.tmp 26),_,_,_,none⟩) rfl (λ K hK=>?_) AllReady.nil;refine D7 rfl (.tmp 29) (.tmp 26) Dk rfl (g:=p) (off:=k*21) (by simp [Act.eval]) (vs:=c'.cells) (by simp [Act.eval]) HCL'.o HBLK.o.drew (by rw [HSL4.o]; omega) HC1.o ?_;intro w5 h5 k5;refine hK _ _ ?_;clear hK K;try simp only [Act.put]
    rw [show c'.cells=(slC (some c')).cells from rfl,X6 HKS.o k hkL (some c'),HSET.o] at h5;have hcu5:=h5.cell (336+k);have hkey5:∀x,some x∈L.set k (some c')->x.key.length=16:=by
      intro x hx;rw [<-HSET.o] at hx;rcases aO hx with h | h
      · exact HKS.o x h
      · simp at h; rw [h]; exact HCK.o
    have hsl5:=D6 (Hd hkey5);rw [aC (by rw [hsl5,aD,HL.o]; omega),hsl5,aD,HL.o,show 336+k-21*16=k by omega,bF,bG hkL,Option.map_some] at hcu5;have hfu5:=h5.frozen (336+k);have hu5:=h5.set (336+k) (slB (some c'));rw [X7 hkey5 (by rw [aD,HL.o]) (by rw [aD,HL.o]) k (some c'),HSET.o] at hu5;have HU5:=hqZ hu5;have K5:Hq (Ai (λ j=>j=p) w4 w5):=hqZ ⟨k5.os,k5.tape,k5.output,k5.size,k5.block⟩;generalize slB ((L.set k none)[k]'hkL)=ub at hcu5;clear h5 k5 hkey5 hsl5 hu5 hcu hfu;refine wpAny_ready (rs:= [11]) (by decide+kernel) (by simp) ?_;refine AllReady.cons (o:=⟨some 32,.indexAddr 179 (.tmp 31) (.tmp 25),_,_,_,none⟩) rfl (λ K hK=>?_) AllReady.nil;go_simp;refine zqp hK ?_;clear hK K;refine wpAny_ready (rs:= [12]) (by decide+kernel) (by simp) ?_;refine AllReady.cons (o:=⟨none,.store 4 (.tmp 32) (.const (.bool true)),_,_,_,none⟩) rfl (λ K hK=>?_) AllReady.nil;go_simp;refine hK _ _ ?_;clear hK K;try simp only [Act.put]
    refine wpAny_done (by decide+kernel) ?_ _;go_wp2_with fail;go_ret;have hput:U8 L c'=(L.set k (some c'),0):=by
      have e:c'.srv=c.srv:=by rw [HC'.o]
      rw [U8,e,HKK.o,if_neg (by omega)];simp
    have hK5:Ai (λ j=>j=p) w4 (w5.setCell ⟨p,336+k,none⟩ (slB (some c'))):=K5.o.setCell (p:=⟨p,336+k,none⟩) rfl _;refine ⟨c',by rw [HC'.o]; rfl,by rw [hput]; rfl,?_,HK4.o.trans (hK5.mono (λ j hj=>.inl hj))⟩;rw [hput]
    have:=(HS4.o.mono (G:=λ j=>F j\/w.heap.size<=j) (λ j hj=>.inl (HGF.o j hj))).set k (some c') (λ x hx=>by
      simp only [Option.some.injEq] at hx;subst hx;refine ⟨HCK.o,HWB.o _ hK5,λ b hb=>?_⟩;have hb':(bM.slice a3 c.box.length c3).ownBlock=some b:=by rw [HC'.o] at hb; exact hb
      have h1:=HV3.o b hb';have h2:=HVL0.o b hb';have h3:=hK5.size;exact ⟨.inr (by omega),by omega,by omega⟩) (by rw [HSET.o]; exact HU5.o) hK5
    rw [HSET.o] at this;exact this
def H7 (L:List (Option Cr)) (s:ByteArray):Option Cr:=if Dv L s<0 then none else L.getD (Dv L s).toNat none
def Y1 (w':bN) (B:Nat) (L:List (Option Cr)) (now:Int) (s:ByteArray) (c':Cr) (e:Int):Prop:=
  c'.key.length=16/\Bs w' c'.bv c'.box/\(∀b,c'.bv.ownBlock=some b->B<=b/\b<w'.heap.size)/\(c'.box= []\/∃g cap rest,c'.bv=.slice (some ⟨g,0,none⟩) c'.box.length cap/\Blk w' g (Ab c'.box++rest) 5)/\
  match H7 L s with
  | none=>c'=Cr.zero/\e=9
  | some c=>if c.fin<=now then c'=Cr.zero/\e=12 else c'.dat=c.dat/\e=0
def Gu:List bM:= [.string ⟨#[]⟩,.slice none 0 0,.int .u8 0,.int .u8 0,.int .u8 0,.int .u8 0,.int .u8 0,.int .u8 0,.int .u8 0,.int .u8 0,.int .u8 0,.int .u8 0,.int .u8 0,.int .u8 0,.int .u8 0,.int .u8 0,.int .u8 0,.int .u8 0,.int .i64 0,.int .i64 0,.int .i64 0]
theorem Se:∀u∈Gu,u.oneCell'=true:=Cr.one Cr.zero rfl
theorem Bj.cells {w:bN} {F:Nat->Prop} {p:Nat} {L:List (Option Cr)} (h:Bj w F p L) (k:Nat) (hk:k<L.length):Al w p (k*21) (slC L[k]).cells:=by
  intro j u hj;have hkey:=Hd (λ c hc=>(h.2.2.2 c hc).1);have hj':j<21:=by
    have:=(List.getElem?_eq_some_iff.1 hj).1;rw [Cr.cells_length _ (hkey _ (aW hk))] at this;exact this
  rw [h.slot k j hk hj'];exact hj
theorem Kj (w':bN) (B:Nat) (L:List (Option Cr)) (now:Int) (s:ByteArray) (e:Int) (h:match H7 L s with | none=>e=9 | some c=>c.fin<=now/\e=12):Y1 w' B L now s Cr.zero e:=by
  refine ⟨rfl,Sl.nil _ _ _,by simp [Cr.zero,bM.ownBlock],.inl rfl,?_⟩;split
  · rename_i heq;rw [heq] at h;exact ⟨rfl,h⟩
  · rename_i c heq;rw [heq] at h;rw [if_pos h.1];exact ⟨rfl,h.2⟩
theorem We (F:Nat->Prop) (p:Nat) (L:List (Option Cr)) (now:Int) (s:ByteArray) (w:bN) (h:Bj w F p L) (hbx:∀c,some c∈L->c.box.length<=140737488351232): bO aA 24 #[.pointer (some ⟨p,0,none⟩),.int .i64 now,.string s] w λ e w'=>∃(c':Cr) (er:Int),e=.returned (.tuple #[.agg c'.cells.toArray,.int .i64 er])/\Y1 w' w.heap.size L now s c' er/\Below w.heap.size w w':=by
  have hz:Tryz.prog.built 89 []=some Gu.toArray:=Sd;have HZ:=hqZ hz;have HBz:=hqZ (Blk.new w Gu 89);have HH:=hqZ (h.below ((Below.refl _ _).alloc (aB _) (.cells Gu.toArray 89)));have HL:=hqZ h.2.1;have HBX:=hqZ hbx;have hplt:=h.lt;have HBB:Hq (Below w.heap.size w (w.alloc (.cells Gu.toArray 89))):=hqZ ((Below.refl _ _).alloc (aB _) _);clear hz h hbx;go_enter Tryz.func24,Tryz.ntmps24;go_wp2_with fail;refine (Lt F p L s _ HH.o).mono ?_;rintro e w1 ⟨rfl,hw1⟩;have HBz1:Hq (Blk w1 w.heap.size Gu 89):=hqZ (by rw [<-hw1]; exact HBz.o);have HH1:Hq (Bj w1 F p L):=hqZ (by rw [<-hw1]; exact HH.o);have HB1:Hq (Below w.heap.size w w1):=hqZ (by rw [<-hw1]; exact HBB.o);have hz1:w.heap.size+1<=w1.heap.size:=by rw [<-hw1]; simp
  clear hw1 HBz HH HBB;by_cases hneg:Dv L s<0
  · have hso:H7 L s=none:=by rw [H7,if_pos hneg]
    have HR:=hqZ (λ w'=>Kj w' w.heap.size L now s 9 (by rw [hso]));clear hso;go_wp2_with (first | ((with_reducible refine zw 25 ?_);refine Cf rfl rfl HZ.o ?_) | ((with_reducible refine zws 6 25 ?_);refine Af rfl (.tmp 6) (.tmp 25) Dk rfl rfl (vs:=Gu) rfl rfl HBz1.o (aB _) Se ?_));intro w2 h2 k2;have h2':Blk w2 w.heap.size Gu 89:=by simpa [Gu] using h2
    have H2:=hqZ h2';have HB2:Hq (Below w.heap.size w w2):=hqZ (HB1.o.trans (k2.below (by omega)));clear h2 h2' k2;go_wp2_with fail;exact bodyPost_ret (Aj rfl Dk rfl (cs:=Gu) rfl H2.o.cellsAll) rfl ⟨Cr.zero,9,rfl,HR.o _,HB2.o⟩
  · obtain ⟨k,hkk⟩:∃k:Nat,Dv L s=k:=⟨(Dv L s).toNat,by omega⟩
    have hk16:k<16:=by have:=Tn L s; rw [HL.o] at this; omega
    have hkL:k<L.length:=by rw [HL.o]; exact hk16
    rw [hkk] at hneg ⊢;have HKK:=hqZ hkk;have hiu:=Z1 p k hk16;have hia:=Ut p k hk16;have hcu:=HH1.o.usedC k hkL;have hg:L.getD k none=L[k]:=by simp [List.getD,hkL]
    cases ho:L[k] with
    | none=>
      have hso:H7 L s=none:=by rw [H7,HKK.o,if_neg (by omega),Int.toNat_natCast,hg,ho]
      have HR:=hqZ (λ w'=>Kj w' w.heap.size L now s 9 (by rw [hso]));have hcu2:w1.cell? ⟨p,336+k,none⟩=some (.bool false):=by rw [hcu,ho]; rfl
      clear hkk ho hg hcu hso;go_wp2_with (first | ((with_reducible refine zw 25 ?_);refine Cf rfl rfl HZ.o ?_) | ((with_reducible refine zws 6 25 ?_);refine Af rfl (.tmp 6) (.tmp 25) Dk rfl rfl (vs:=Gu) rfl rfl HBz1.o (aB _) Se ?_));intro w2 h2 k2;have h2':Blk w2 w.heap.size Gu 89:=by simpa [Gu] using h2
      have H2:=hqZ h2';have HB2:Hq (Below w.heap.size w w2):=hqZ (HB1.o.trans (k2.below (by omega)));clear h2 h2' k2;go_wp2_with fail;exact bodyPost_ret (Aj rfl Dk rfl (cs:=Gu) rfl H2.o.cellsAll) rfl ⟨Cr.zero,9,rfl,HR.o _,HB2.o⟩
    | some c=>
      have hmem:some c∈L:=by rw [<-ho]; exact aW hkL
      obtain ⟨hck,hcb,hcf⟩:=HH1.o.2.2.2 c hmem;have hcbl:=HBX.o c hmem;have hso:H7 L s=some c:=by rw [H7,HKK.o,if_neg (by omega),Int.toNat_natCast,hg,ho]
      have hcu2:w1.cell? ⟨p,336+k,none⟩=some (.bool true):=by rw [hcu,ho]; rfl
      have hfin:w1.cell? ⟨p,k*21+19,none⟩=some (.int .i64 c.fin):=by
        rw [HH1.o.slot k 19 hkL (by decide),ho];exact Cr.c19 c hck
      have hcells:=HH1.o.cells k hkL;rw [ho] at hcells;have HCE:Hq (Al w1 p (k*21) c.cells):=hqZ hcells;have HSO:=hqZ hso;have HCK:=hqZ hck;have HCB:=hqZ hcb;have HCF:=hqZ hcf;clear hkk ho hg hcu hso hcells hck hcb hcf hmem;by_cases hf:c.fin<=now
      · have HR:=hqZ (λ w'=>Kj w' w.heap.size L now s 12 (by rw [HSO.o]; exact ⟨hf,rfl⟩));go_wp2_with (first | ((with_reducible refine zw 36 ?_);refine Cf rfl rfl HZ.o ?_) | ((with_reducible refine zws 6 36 ?_);refine Af rfl (.tmp 6) (.tmp 36) Dk rfl rfl (vs:=Gu) rfl rfl HBz1.o (aB _) Se ?_));intro w2 h2 k2;have h2':Blk w2 w.heap.size Gu 89:=by simpa [Gu] using h2
        have H2:=hqZ h2';have HB2:Hq (Below w.heap.size w w2):=hqZ (HB1.o.trans (k2.below (by omega)));clear h2 h2' k2;go_wp2_with fail;exact bodyPost_ret (Aj rfl Dk rfl (cs:=Gu) rfl H2.o.cellsAll) rfl ⟨Cr.zero,12,rfl,HR.o _,HB2.o⟩
      · have hcl:=Cr.cells_length c HCK.o;obtain ⟨ab,cb,hbv,hcb2,hmb⟩:=HCB.o.form;have hc1:∀u∈c.cells,u.oneCell'=true:=Cr.one c (by rw [hbv]; rfl)
        have HCL:=hqZ hcl;have HC1:=hqZ hc1;have HBV:=hqZ hbv;have HN:=hqZ (Blk.new w1 Gu 89);unfold maxLen at hmb;clear hcl hc1 hbv;go_wp2_with (first | ((with_reducible refine zw 42 ?_);refine Ag rfl (.tmp 41) Dk rfl rfl (cs:=c.cells) HCL.o HCE.o ?_) | ((with_reducible refine zws 9 42 ?_);refine Af rfl (.tmp 9) (.tmp 42) Dk rfl rfl (vs:=c.cells) rfl HCL.o HN.o (aB _) HC1.o ?_));intro w2 h2 k2;have h2':Blk w2 w1.heap.size c.cells 89:=by
          have:=h2;simpa [Gu,Cr.cells] using this
        have hz2:=k2.size;simp at hz2;have HB2:Hq (Below w.heap.size w w2):=hqZ ((HB1.o.alloc (by omega) _).trans (k2.below (by omega)));have HR2:Hq (Blk w2 w.heap.size Gu 89):=hqZ ((HBz1.o.alloc _).keep k2 (by omega));have HCB2:Hq (Bs w2 c.bv c.box):=hqZ (Sl.keep' (HCB.o.alloc _) k2 (λ b hb hl e=>by have:=(HCF.o b hb).2.2; omega));have x1:w2.cell? ⟨w1.heap.size,1,none⟩=some (.slice ab c.box.length cb):=by rw [h2'.cell,<-HBV.o]; rfl
        have H2:=hqZ h2';rw [HBV.o] at HCB2;clear h2 h2' k2 HN HCE;go_wp2_with ((with_reducible refine zw 46 ?_);refine K6 rfl (.const (.slice none 0 0)) (.tmp 45) Dl rfl rfl HCB2.o (by unfold maxLen; omega) (by omega) ?_);intro v3 w3 ho3 hk3 hvb3;have hb3:Bs w3 v3 c.box:=ho3.sl;have hz3:=hk3.size;have hb23:=H2.o.keep hk3 (by omega);have y1:w3.cell? ⟨w1.heap.size,1,none⟩=some (.slice ab c.box.length cb):=by rw [hb23.cell,<-HBV.o]; rfl
        have g1:=hb23.frozen 1;have hfresh:c.box= []\/∃g cap rest,v3=.slice (some ⟨g,0,none⟩) c.box.length cap/\w2.heap.size<=g/\Blk w3 g (Ab c.box++rest) 5:=by
          by_cases hbe:c.box= []
          · exact .inl hbe
          · obtain ⟨g,cap,rest,e1,e2,e3,_⟩:=Dr.blk (show Dr w3 w2.heap.size v3 c.box from ho3) (List.length_pos_iff.2 hbe);exact .inr ⟨g,cap,rest,e1,e2,e3⟩
        obtain ⟨a3,c3,hv3f,_⟩:=hb3.form;have hvb3':=hvb3;subst hv3f;obtain ⟨c',hc'⟩:∃c':Cr,c'= { c with bv:=.slice a3 c.box.length c3 } :=⟨_,rfl⟩
        have hb4:Blk (w3.setCell ⟨w1.heap.size,1,none⟩ (.slice a3 c.box.length c3)) w1.heap.size c'.cells 89:=by
          have:=hb23.set 1 (.slice a3 c.box.length c3);rw [hc'];exact this
        have hbs4:Bs (w3.setCell ⟨w1.heap.size,1,none⟩ (.slice a3 c.box.length c3)) (.slice a3 c.box.length c3) c.box:=Sl.setCell hb3 (by intro e; have:=(hvb3 _ e).1; simp at this; omega) _;have hB4:Below w.heap.size w (w3.setCell ⟨w1.heap.size,1,none⟩ (.slice a3 c.box.length c3)):=(HB2.o.trans (hk3.below (λ j hj=>by omega))).setCell (by simp; omega) _;have hR4:Blk (w3.setCell ⟨w1.heap.size,1,none⟩ (.slice a3 c.box.length c3)) w.heap.size Gu 89:=(HR2.o.keep hk3 (by omega)).set_other (by simp; omega) _;have hf4:c.box= []\/∃g cap rest,bM.slice a3 c.box.length c3=.slice (some ⟨g,0,none⟩) c.box.length cap/\w2.heap.size<=g/\Blk (w3.setCell ⟨w1.heap.size,1,none⟩ (.slice a3 c.box.length c3)) g (Ab c.box++rest) 5:=by
          rcases hfresh with h | ⟨g,cap,rest,e1,e2,e3⟩
          · exact .inl h
          · exact .inr ⟨g,cap,rest,e1,e2,e3.set_other (by simp; omega) _⟩
        have hc'l:=Cr.cells_length c' (by rw [hc']; exact HCK.o);have hc'1:∀u∈c'.cells,u.oneCell'=true:=Cr.one c' (by rw [hc']; rfl)
        have H4:=hqZ hb4;have HBS4:=hqZ hbs4;have HB4:=hqZ hB4;have HR4:=hqZ hR4;have HF4:=hqZ hf4;have HC':=hqZ hc';have HCL':=hqZ hc'l;have HC1':=hqZ hc'1;have HVB:=hqZ hvb3';clear ho3 hk3 hvb3 hvb3' hb3 hb23 hfresh hb4 hbs4 hB4 hR4 hf4 hc' hc'l hc'1 x1;go_wp2_with (first | ((with_reducible refine zw 49 ?_);refine Ag rfl (.tmp 9) Dk rfl rfl (cs:=c'.cells) HCL'.o H4.o.cellsAll ?_) | ((with_reducible refine zws 6 49 ?_);refine Af rfl (.tmp 6) (.tmp 49) Dk rfl rfl (vs:=c'.cells) rfl HCL'.o HR4.o (aB _) HC1'.o ?_));intro w5 h5 k5;have h5':Blk w5 w.heap.size c'.cells 89:=by
          have:=h5;simpa [Gu,Cr.cells] using this
        have H5:=hqZ h5';have hB5:Below w.heap.size w w5:=HB4.o.trans (k5.below (by omega));have hz5:=k5.size;simp at hz5;have hres:Y1 w5 w.heap.size L now s c' 0:=by
          refine ⟨by rw [HC'.o]; exact HCK.o,?_,?_,?_,?_⟩
          · rw [HC'.o];exact Sl.keep HBS4.o k5 (λ b hb e=>by have:=(HVB.o b hb).1; omega)
          · intro b hb;rw [HC'.o] at hb
            have:=HVB.o b hb;omega
          · rw [HC'.o];rcases HF4.o with h | ⟨g,cap,rest,e1,e2,e3⟩
            · exact .inl h
            · exact .inr ⟨g,cap,rest,e1,e3.keep k5 (by omega)⟩
          · rw [HSO.o];simp only;rw [if_neg (by omega),HC'.o];exact ⟨by first | trivial | rfl,by first | trivial | rfl⟩
        have HRES:=hqZ hres;have HB5:=hqZ hB5;clear h5 h5' k5 hB5 hres;go_wp2_with fail;exact bodyPost_ret (Aj rfl Dk rfl (cs:=c'.cells) HCL'.o H5.o.cellsAll) rfl ⟨c',0,rfl,HRES.o,HB5.o⟩
end Go.Proofs.YtbmjjfhpllpiaaaGreat
namespace Go.Proofs.YtbmjjfhpllpiaaaGreat
open Go.RowKit Go.Maps
abbrev CrD:=ByteArray×List UInt8×List UInt8×Int×Int×Int
def A7 (p:Nat) (D:List (Option CrD)):Res where
  holds W F:=(∃L:List (Option Cr),L.map (λ c=>c.map Cr.dat)=D/\Bj W F p L)/\∀b,F b->b<W.heap.size
  frame:=by
    rintro W W' F S ⟨⟨L,e,h⟩,hl⟩ hk hS;exact ⟨⟨L,e,h.keep hk (λ k hk _=>hS k hk)⟩,λ b hb=>aU (hl b hb) hk.size⟩
  lt h hb:=h.2 _ hb
def E1:List (Option CrD):=M9.map λ c=>c.map Cr.dat
theorem Ul (l:List Res) (w:bN) (h:Ac w l):bO aA 52 #[] w λ e w'=>∃p,e=.returned (.pointer (some ⟨p,0,none⟩))/\Ac w' (A7 p E1::l):=by
  refine (Wg w).mono ?_;rintro e w' ⟨rfl,hs,hb⟩;exact ⟨w.heap.size,rfl,h.new hb (F:=λ k=>k=w.heap.size) ⟨⟨M9,rfl,hs⟩,λ b hb=>by subst hb; exact hs.lt⟩ (λ b hb=>by omega)⟩
structure Cli where
  nm:ByteArray
  seq:Nat
  step:Int
  no:Int
  pal:ByteArray
  key:List UInt8
  fa:Int
  fb:ByteArray
  fc:Bool
  fd:Int
def Cli.cells (c:Cli) (b:Bool) (q st:Nat):List bM:= [pvI b q,.string c.nm,.pointer (some ⟨st,0,none⟩),.int .i64 (c.seq:Int),.int .i64 c.step,.int .i64 c.no,.string c.pal]++(Ab c.key++ [.int .i64 c.fa,.string c.fb,.bool c.fc,.int .i64 c.fd])
def B9 (cp:Nat) (b:Bool) (q st:Nat) (c:Cli):Res:=.blk cp (c.cells b q st) 74
def Cli.new (nm:ByteArray):Cli:=⟨nm,0,0,0,⟨#[]⟩,zk,0,⟨#[]⟩,false,0⟩
theorem Ug (b:Bool) (q st:Nat) (nm:ByteArray):Tryz.prog.built 74 [(0,pvI b q),(1,.string nm),(2,.pointer (some ⟨st,0,none⟩))]=some ((Cli.new nm).cells b q st).toArray:=by
  unfold pvI Cli.cells
  kernel_rfl
theorem Uy (q:Nat) (s:PS) (nm:ByteArray) (l:List Res) (w:bN) (h:Ac w l): bO aA 18 #[pvV s q,.string nm] w λ e w'=>∃cp st,e=.returned (.pointer (some ⟨cp,0,none⟩))/\Ac w' (B9 cp s.knd q st (Cli.new nm)::A7 st E1::l):=by
  have HC:=hqZ h;have HV:Hq (pvV s q=pvI s.knd q):=hqZ (A6 rfl q).symm;clear h;rw [HV.o];obtain ⟨PVv,hPV⟩:∃x,x=pvI s.knd q:=⟨_,rfl⟩
  have HB:=hqZ (Ug s.knd q);unfold B9 Cli.cells;rw [<-hPV] at HB ⊢;unfold Cli.cells at HB;rw [<-hPV] at HB;clear HV hPV;go_enter Tryz.func18,Tryz.ntmps18;go_wp2_with fail;refine (Ul _ _ HC.o).mono ?_;rintro e w1 ⟨st,rfl,hc⟩;have HC:=hqZ hc;clear hc;go_wp2_with ((with_reducible refine zw 8 ?_);refine Cp rfl rfl (pv:= [(0,PVv),(1,.string nm),(2,.pointer (some ⟨st,0,none⟩))]) (by simp only [aM,aE,aN]; rfl) (HB.o st nm) ?_);go_ret;exact ⟨w1.heap.size,st,rfl,HC.o.addBlkAt _ 74 rfl⟩
theorem Uz (cp:Nat) (b:Bool) (q st:Nat) (c:Cli) (l:List Res) (w:bN) (h:Ac w (B9 cp b q st c::l)): bO aA 71 #[.pointer (some ⟨cp,0,none⟩)] w λ r w'=>r=.returned (.int .i64 (c.seq:Int))/\w=w':=by
  have c0:w.cell? ⟨cp,3,none⟩=some (.int .i64 (c.seq:Int)):=h.blk0.cell 3;clear h;go_enter Tryz.func71,Tryz.ntmps71;go_wp2_with fail;go_ret;exact ⟨rfl,rfl⟩
theorem Cli.cells_length (c:Cli) (b:Bool) (q st:Nat) (h:c.key.length=16):(c.cells b q st).length=27:=by simp [Cli.cells,Aa,h]
def Cli.begun (c:Cli) (step:Int) (pal:ByteArray) (key:List UInt8) (no:Int):Cli:= { c with step:=step,pal:=pal,key:=key,no:=no }
theorem Ko (cp:Nat) (b:Bool) (q st:Nat) (c:Cli) (step:Int) (pal:ByteArray) (k:List UInt8) (no:Int) (l:List Res) (w:bN) (h:Ac w (B9 cp b q st c::l)) (hck:c.key.length=16) (hk:k.length=16): bO aA 55 #[.pointer (some ⟨cp,0,none⟩),.int .i64 step,.string pal,Ay k,.int .i64 no] w λ e w'=>e=.returned (.tuple #[])/\Ac w' (B9 cp b q st (c.begun step pal k no)::l):=by
  have HKB:Hq ((Ab k).length=16):=hqZ (by rw [Aa,hk]);have HC:=hqZ (h.addBlkAt (Ab k) 43 (b:=w.heap.size) rfl).swap;obtain ⟨X1,hX1⟩:∃x,x=((c.cells b q st).set 4 (.int .i64 step)).set 6 (.string pal):=⟨_,rfl⟩
  have HX1:=hqZ hX1;have HXL:Hq (X1.length=27):=hqZ (by rw [hX1]; simp [Cli.cells_length c b q st hck]);have HF:Hq ((X1.take 7++(Ab k++X1.drop (7+16))).set 5 (.int .i64 no)=(c.begun step pal k no).cells b q st):=hqZ (by
    obtain ⟨c0,c1,c2,c3,c4,c5,c6,c7,c8,c9,c10,c11,c12,c13,c14,c15,rfl⟩:=Bm k hk;obtain ⟨nm,seq,step0,no0,pal0,key0,fa,fb,fc,fd⟩:=c;obtain ⟨d0,d1,d2,d3,d4,d5,d6,d7,d8,d9,d10,d11,d12,d13,d14,d15,rfl⟩:=Bm key0 hck;rw [hX1];simp [Cli.cells,Cli.begun,Ab])
  have H4:Hq ((c.cells b q st)[4]?=some (.int .i64 c.step)):=hqZ rfl;have H6:Hq (((c.cells b q st).set 4 (.int .i64 step))[6]?=some (.string c.pal)):=hqZ rfl;have H5:Hq ((X1.take 7++(Ab k++X1.drop (7+16)))[5]?=some (.int .i64 c.no)):=hqZ (by rw [hX1]; rfl);clear h hck hk hX1;unfold Ay B9 at*;obtain ⟨CC,hCC⟩:∃x,x=c.cells b q st:=⟨_,rfl⟩
  rw [<-hCC] at HC H4 H6 HX1;clear hCC;go_enter Tryz.func55,Tryz.ntmps55;go_upto_region 1 with fail;refine zG (λ b W=>Al W w.heap.size 0 (Ab k)) HC.o λ W hc=>?_
  have HC:=hqZ hc;clear hc;refine zT 0 ?_ (hS:=HC.o.tail.blk0.cellsAll);refine zT 1 ?_ (hS:=HC.o.tail.blk0.cellsAll);refine zT 2 ?_ (hS:=HC.o.tail.blk0.cellsAll);refine zT 3 ?_ (hS:=HC.o.tail.blk0.cellsAll);refine zT 4 ?_ (hS:=HC.o.tail.blk0.cellsAll);refine zT 5 ?_ (hS:=HC.o.tail.blk0.cellsAll);refine zT 6 ?_ (hr:=λ _ _ _ hW=>ldJ Am rfl HKB.o hW) (hS:=HC.o.tail.blk0.cellsAll);refine zT 7 ?_ (hS:=HC.o.tail.blk0.cellsAll);refine zT 8 ?_ (hS:=HC.o.tail.blk0.cellsAll);refine zT 9 ?_ (hS:=HC.o.tail.blk0.cellsAll);refine zJ 10 λ K hK=>?_
  have hb:=HC.o.blk0;have c4:=(hb.cell 4).trans H4.o;have f4:=hb.frozen 4;have l4:=hb.lt;go_simp;have HC:=hqZ (HC.o.set 4 (.int .i64 step));clear hb c4 f4 l4;refine hK _ _ HC.o.tail.blk0.cellsAll ?_;clear hK K;try go_frame
  refine zT 11 ?_ (hS:=HC.o.tail.blk0.cellsAll);refine zT 12 ?_ (hS:=HC.o.tail.blk0.cellsAll);refine zJ 13 λ K hK=>?_
  have hb:=HC.o.blk0;have c4:=(hb.cell 6).trans H6.o;have f4:=hb.frozen 6;have l4:=hb.lt;go_simp;have HC:=hqZ (HC.o.set 6 (.string pal));clear hb c4 f4 l4;rw [<-HX1.o] at HC;refine hK _ _ HC.o.tail.blk0.cellsAll ?_;clear hK K;try go_frame
  refine zT 14 ?_ (hS:=HC.o.tail.blk0.cellsAll);refine zT 15 ?_ (hS:=HC.o.tail.blk0.cellsAll);refine zJ 16 λ K hK=>?_
  refine D7 rfl (.tmp 23) (.tmp 16) Am rfl rfl (vs:=Ab k) rfl HKB.o HC.o.blk0 (by rw [HXL.o]; decide) (Ak _) ?_;intro w3 h3 k3;rw [aF] at h3;have HC:=hqZ (HC.o.reblk h3 k3);clear h3 k3;refine hK _ _ HC.o.tail.blk0.cellsAll ?_;clear hK K;try go_frame
  refine zT 17 ?_ (hS:=HC.o.tail.blk0.cellsAll);refine zT 18 ?_ (hS:=HC.o.tail.blk0.cellsAll);refine zJ 19 λ K hK=>?_
  have hb:=HC.o.blk0;have c4:=(hb.cell 5).trans H5.o;have f4:=hb.frozen 5;have l4:=hb.lt;go_simp;have HC:=hqZ (HC.o.set 5 (.int .i64 no));clear hb c4 f4 l4;rw [HF.o] at HC;refine hK _ _ HC.o.tail.blk0.cellsAll ?_;clear hK K;try go_frame
  refine zD ?_;go_wp2_with fail;go_end0;exact ⟨rfl,HC.o.drop2⟩
def Cli.ended (c:Cli):Cli:= { c with step:=0,pal:=⟨#[]⟩,key:=zk }
theorem Uw (cp:Nat) (b:Bool) (q st:Nat) (c:Cli) (l:List Res) (w:bN) (h:Ac w (B9 cp b q st c::l)) (hck:c.key.length=16): bO aA 63 #[.pointer (some ⟨cp,0,none⟩)] w λ e w'=>e=.returned (.tuple #[])/\Ac w' (B9 cp b q st c.ended::l):=by
  have HC:=hqZ h;obtain ⟨X,hX⟩:∃X,X=(c.cells b q st).take 7++aI 16 (bM.int .u8 0)++(c.cells b q st).drop (7+16):=⟨_,rfl⟩
  have HXE:=hqZ hX;have HF:Hq ((X.set 4 (.int .i64 0)).set 6 (.string ⟨#[]⟩)=c.ended.cells b q st):=hqZ (by
    obtain ⟨nm,seq,step0,no0,pal0,key0,fa,fb,fc,fd⟩:=c;obtain ⟨d0,d1,d2,d3,d4,d5,d6,d7,d8,d9,d10,d11,d12,d13,d14,d15,rfl⟩:=Bm key0 hck;rw [hX];simp [Cli.cells,Cli.ended,Ab,zk]
    rfl)
  have H4:Hq (X[4]?=some (.int .i64 c.step)):=hqZ (by rw [hX]; rfl);have H6:Hq (X[6]?=some (.string c.pal)):=hqZ (by rw [hX]; rfl);have HL:Hq ((c.cells b q st).length=27):=hqZ (Cli.cells_length c b q st hck);clear h hck hX;unfold B9 at*;obtain ⟨CC,hCC⟩:∃x,x=c.cells b q st:=⟨_,rfl⟩
  rw [<-hCC] at HC HL HXE;clear hCC;go_enter Tryz.func63,Tryz.ntmps63;go_wp2_with ((with_reducible show wpList _ _ _ (⟨none,.call _,_,_,_,_⟩::_) _ _); refine Mg rfl (.tmp 5) Dl rfl rfl rfl HC.o.blk0 (by rw [HL.o]; decide) ?_);intro w2 h2 k2;have h2':Blk w2 cp X 74:=by rw [HXE.o,aF]; exact h2
  have HC:=hqZ (HC.o.reblk h2' k2);have c4:=(h2'.cell 4).trans H4.o;have c6:=(h2'.cell 6).trans H6.o;have f4:=h2'.frozen 4;have f6:=h2'.frozen 6;have l4:=h2'.lt;clear h2 k2 h2';go_wp2_with fail;go_end0;have h5:=(HC.o.set 4 (.int .i64 0)).set 6 (.string ⟨#[]⟩);rw [HF.o] at h5;exact ⟨rfl,h5⟩
structure Ins where
  fl:Nat
  key:List UInt8
  cl:List UInt8
  fr:Nat
  un:Nat
  rn:Nat
namespace Ins
def fds (i:Ins):List Fd:= [.n i.fl,.k i.key,.s i.cl,.n i.fr,.n i.un,.n i.rn]
def cells (i:Ins):List bM:=(([.int .i64 (i.fl:Int)]:List bM)++(Ab i.key++([.string (tx i.cl),.int .i64 (i.fr:Int),.int .i64 (i.un:Int),.int .i64 (i.rn:Int)]:List bM)))
def rep (i:Ins) (no:Nat) (nm:List UInt8):List Fd:= [.n i.fl,.k i.key,.n no,.s nm,.n i.fr,.n i.un,.n i.rn]
def repC (i:Ins) (no:Nat) (nm:List UInt8):List bM:=(([.int .i64 (i.fl:Int)]:List bM)++(Ab i.key++([.int .i64 (no:Int),.string (tx nm),.int .i64 (i.fr:Int),.int .i64 (i.un:Int),.int .i64 (i.rn:Int)]:List bM)))
structure Ok (i:Ins):Prop where
  fl:i.fl<=1099511627776
  key:i.key.length=16
  cl:i.cl.length<=200
  clr:As (tx i.cl)=true
  fr:i.fr<=1099511627776
  un:i.un<=1099511627776
  rn:i.rn<=1099511627776
theorem cells_length {i:Ins} (h:i.Ok):i.cells.length=21:=by simp [cells,Aa,h.key]
theorem cells_one (i:Ins):∀u∈i.cells,u.oneCell'=true:=by
  simp only [cells,bH,bI];exact ⟨⟨rfl,λ _ h=>by cases h⟩,Ak _,rfl,rfl,rfl,rfl,λ _ h=>by cases h⟩
theorem repC_length {i:Ins} (h:i.Ok) (no:Nat) (nm:List UInt8):(i.repC no nm).length=22:=by simp [repC,Aa,h.key]
theorem repC_one (i:Ins) (no:Nat) (nm:List UInt8):∀u∈i.repC no nm,u.oneCell'=true:=by
  simp only [repC,bH,bI];exact ⟨⟨rfl,λ _ h=>by cases h⟩,Ak _,rfl,rfl,rfl,rfl,rfl,λ _ h=>by cases h⟩
theorem Ok.nw {i:Ins} (h:i.Ok):Nw (Dw 2 i.fds):=Yl (by
  intro f hf;simp only [fds,aQ,aR,or_false] at hf;rcases hf with rfl | rfl | rfl | rfl | rfl | rfl
  · exact h.fl
  · exact h.key
  · exact ⟨by have:=h.cl; omega,h.clr⟩
  · exact h.fr
  · exact h.un
  · exact h.rn)
theorem Ok.repNw {i:Ins} (h:i.Ok) {no:Nat} {nm:List UInt8} (h1:no<=1099511627776) (h2:nm.length<=200) (h3:As (tx nm)=true):Nw (Dw 3 (i.rep no nm)):=Yl (by
  intro f hf;simp only [rep,aQ,aR,or_false] at hf;rcases hf with rfl | rfl | rfl | rfl | rfl | rfl | rfl
  · exact h.fl
  · exact h.key
  · exact h1
  · exact ⟨by omega,h3⟩
  · exact h.fr
  · exact h.un
  · exact h.rn)
theorem Ok.len {i:Ins} (h:i.Ok):(Au 2 i.fds).length<=600:=by
  have:=Gn 2 i.fds;generalize Au 2 i.fds=P at*;have h1:=h.cl;have h2:=h.key;simp [fds,J1] at this;omega
theorem Ok.repLen {i:Ins} (h:i.Ok) (no:Nat) {nm:List UInt8} (h2:nm.length<=200):(Au 3 (i.rep no nm)).length<=600:=by
  have:=Gn 3 (i.rep no nm);generalize Au 3 (i.rep no nm)=P at*;have h1:=h.key;simp [rep,J1] at this;omega
theorem Ok.value {i:Ins} (h:i.Ok) (w:bN):bO aA 120 #[.iface 166 (.agg i.cells.toArray)] w (Fj w (Dw 2 i.fds) true):=
  Yn i.fl i.key i.cl i.fr i.un i.rn w h.fl h.key (by have:=h.cl; omega) h.clr h.fr h.un h.rn
theorem Ok.repValue {i:Ins} (h:i.Ok) {no:Nat} {nm:List UInt8} (h1:no<=1099511627776) (h2:nm.length<=200) (h3:As (tx nm)=true) (w:bN):bO aA 120 #[.iface 242 (.agg (i.repC no nm).toArray)] w (Fj w (Dw 3 (i.rep no nm)) true):=
  Yo i.fl i.key no nm i.fr i.un i.rn w h.fl h.key h1 (by omega) h3 h.fr h.un h.rn
end Ins
theorem Wb {i:Ins} (h:i.Ok) (no:Nat) (nm:List UInt8):Tryz.prog.built 242 [(0,.int .i64 (i.fl:Int)),(1,.agg (Ab i.key).toArray),(2,.int .i64 (no:Int)),(3,.string (tx nm)),(4,.int .i64 (i.fr:Int)),(5,.int .i64 (i.un:Int)),(6,.int .i64 (i.rn:Int))]=some (i.repC no nm).toArray:=by
  obtain ⟨fl,key,cl,fr,un,rn⟩:=i;obtain ⟨c0,c1,c2,c3,c4,c5,c6,c7,c8,c9,c10,c11,c12,c13,c14,c15,rfl⟩:=Bm key h.key
  kernel_rfl
def P0 (kp q bp:Nat) (s:PS) (K nm sk:List UInt8) (i:Ins) (no:Nat) (k2:List UInt8) (u:Nat) (l:List Res) (e:Ending) (w':bN):Prop:=
  ∃y z,e=.returned (.tuple #[.agg #[.string (tx nm),y],z,.int .i64 0])/\
    Ac w' (.row z ((s.shut sk 2 (Au 2 i.fds)).2.shut k2 u (Au 3 (i.rep no nm))).1::pvR q ((s.shut sk 2 (Au 2 i.fds)).2.shut k2 u (Au 3 (i.rep no nm))).2::.row y (s.shut sk 2 (Au 2 i.fds)).1::Cs kp s.knd q bp K::l)
theorem O1 (kp q bp:Nat) (s:PS) (K nm sk:List UInt8) (i:Ins) (no:Nat) (k2:List UInt8) (u:Nat) (l:List Res) (w:bN) (h:Ac w (Cs kp s.knd q bp K::pvR q s::l)) (hs:s.sz<1099511627770) (hi:i.Ok) (hsk:sk.length=16) (hk2:k2.length=16) (hno:no<=1099511627776) (hnl:nm.length<=200) (hnr:As (tx nm)=true) (hu:u<100): bO aA 60 #[.pointer (some ⟨kp,0,none⟩),.string (tx nm),Ay sk,.agg i.cells.toArray,.int .i64 no,Ay k2,.int .i64 u] w (P0 kp q bp s K nm sk i no k2 u l):=by
  obtain ⟨⟨bx1,s1⟩,hx1⟩:∃x,x=s.shut sk 2 (Au 2 i.fds):=⟨_,rfl⟩
  obtain ⟨⟨bx2,s2⟩,hx2⟩:∃x,x=s1.shut k2 u (Au 3 (i.rep no nm)):=⟨_,rfl⟩
  have hs1:s1.sz<1099511627776:=by
    have:=(PS.gr_shut s sk 2 (Au 2 i.fds)).sz;rw [<-hx1] at this;simp only at this;omega
  have hkn:s1.knd=s.knd:=by
    have:=PS.knd_shut s sk 2 (Au 2 i.fds);rw [<-hx1] at this;exact this
  have HS1:=hqZ (λ (w:bN) (l:List Res) (h:Ac w (pvR q s::l))=>Ir q s sk 2 _ _ (Au 2 i.fds) l w h hsk (by decide) (by omega) (λ W _=>hi.value W) hi.nw (R4 (by decide) (by decide) (by have:=hi.len; omega)) (by have:=hi.len; omega));have HS2:=hqZ (λ (w:bN) (l:List Res) (h:Ac w (pvR q s1::l))=>Ir q s1 k2 u _ _ (Au 3 (i.rep no nm)) l w h hk2 hu hs1 (λ W _=>hi.repValue hno hnl hnr W) (hi.repNw hno hnl hnr) (R4 (by decide) (by decide) (by have:=hi.repLen no hnl; omega)) (by have:=hi.repLen no hnl; omega));unfold P0;unfold T6 at HS1 HS2;rw [<-hx1] at HS1 ⊢;simp only at HS1 ⊢;rw [<-hx2] at HS2 ⊢;simp only at HS2 ⊢;have hpv:pvV s1 q=pvV s q:=by rw [<-A6 hkn,<-A6 rfl]
  rw [hpv] at HS2;obtain ⟨RC,hRC⟩:∃RC,RC=i.repC no nm:=⟨_,rfl⟩
  have HRL:Hq (RC.length=22):=hqZ (by rw [hRC]; exact Ins.repC_length hi no nm);have HRO:Hq (∀u∈RC,u.oneCell'=true):=hqZ (by rw [hRC]; exact Ins.repC_one i no nm);have HBR:=hqZ (Wb hi no nm);rw [<-hRC] at HS2 HBR;have HIL:Hq (i.cells.length=21):=hqZ (Ins.cells_length hi);have HSK:Hq ((Ab sk).length=16):=hqZ (by rw [Aa,hsk]);have HK2:Hq ((Ab k2).length=16):=hqZ (by rw [Aa,hk2]);have HIK:Hq ((Ab i.key).length=16):=hqZ (by rw [Aa,hi.key]);have hkc:G7 s.knd q bp K= [.iface (pvT s) (.pointer (some ⟨q,0,none⟩)),.pointer (some ⟨bp,0,none⟩)]++Ab K:=by rw [G7,A6 rfl]; rfl
  have h2:Ac w (.blk kp (G7 s.knd q bp K) 151::pvR q s::l):=h;obtain ⟨KC,hKC⟩:∃x,x=G7 s.knd q bp K:=⟨_,rfl⟩
  have HKC:=hqZ hKC;rw [<-hKC] at h2 hkc;have HC0:Hq (KC[0]?=some (.iface (pvT s) (.pointer (some ⟨q,0,none⟩)))):=hqZ (by rw [hkc]; rfl);obtain ⟨IC,hIC⟩:∃IC,IC=i.cells:=⟨_,rfl⟩
  rw [<-hIC] at HS1 HIL ⊢;have HI0:Hq (IC[0]?=some (.int .i64 (i.fl:Int))):=hqZ (by rw [hIC]; rfl);have HI3:Hq (IC[18]?=some (.int .i64 (i.fr:Int))):=hqZ (by rw [hIC]; simp [Ins.cells,aX,Aa,hi.key]);have HI4:Hq (IC[19]?=some (.int .i64 (i.un:Int))):=hqZ (by rw [hIC]; simp [Ins.cells,aX,Aa,hi.key]);have HI5:Hq (IC[20]?=some (.int .i64 (i.rn:Int))):=hqZ (by rw [hIC]; simp [Ins.cells,aX,Aa,hi.key]);have HIE:Hq ((IC.drop 1).take 16=Ab i.key):=hqZ (by rw [hIC]; simp [Ins.cells,aK,aP,Aa,hi.key]);have HC:=hqZ ((((h2.addBlkAt (Ab sk) 43 (b:=w.heap.size) rfl).addBlkAt IC 166 (b:=w.heap.size+1) (by simp)).addBlkAt (Ab k2) 43 (b:=w.heap.size+1+1) (by simp)).addBlkAt zs2 81 (b:=w.heap.size+1+1+1) (by simp));clear h h2 hs hi hsk hk2 hno hnl hnr hu hx1 hx2 hs1 hkn hpv hRC hkc hKC hIC;unfold pvV Ay at*;go_enter Tryz.func60,Tryz.ntmps60;go_wp2_with fail;refine zG (λ b W=>W.cell? ⟨kp,0,none⟩=some (.iface (pvT s) (.pointer (some ⟨q,0,none⟩)))/\Al W (w.heap.size) 0 (Ab sk)/\Al W (w.heap.size+1) 0 (IC)) HC.o λ W hc=>?_
  have HC:=hqZ hc;clear hc;refine zT 0 ?_;refine zT 1 ?_;refine zT 2 ?_;refine zT 3 ?_;refine zT 4 ?_ (hr:=λ _ _ _ hW=>ldJ Am rfl HSK.o hW.2.1);refine zT 5 ?_ (hr:=λ _ _ _ hW=>ldJ Bu rfl HIL.o hW.2.2);refine zT 6 ?_;refine zJ 7 λ K hK=>?_
  go_simp;refine (HS1.o _ _ (HC.o.zP [5])).mono ?_;rintro e w1 ⟨y1,rfl,hc⟩;obtain ⟨ay1,cy1,rfl,_,_⟩:=(hc.rowOf (v:=y1) (b:=bx1) (by simp)).form;have HC:=hqZ hc;clear hc;refine zq hK ?_;clear hK K;refine zT 8 ?_;refine zT 9 ?_;refine zT 10 ?_;refine zT 11 ?_;refine zT 12 ?_;refine zD ?_;have c0:=((HC.o.zB (w.heap.size+1)).cell 0).trans HI0.o;have c3:=((HC.o.zB (w.heap.size+1)).cell 18).trans HI3.o;have c4:=((HC.o.zB (w.heap.size+1)).cell 19).trans HI4.o;have c5:=((HC.o.zB (w.heap.size+1)).cell 20).trans HI5.o;have cke:=(HC.o.zB (w.heap.size+1)).cellsAt 1 16;rw [HIE.o] at cke;have HKE:=hqZ cke;clear cke;have HN:=hqZ (HC.o.addBlkAt A0y 242 (b:=w1.heap.size) rfl);go_wp2_with (first | ((with_reducible refine zw 39 ?_);refine Ag rfl (.tmp 38) Am rfl rfl (cs:=Ab i.key) HIK.o HKE.o ?_) | ((with_reducible refine zw 48 ?_);refine Cp rfl rfl (pv:= [(0,.int .i64 (i.fl:Int)),(1,.agg (Ab i.key).toArray),(2,.int .i64 (no:Int)),(3,.string (tx nm)),(4,.int .i64 (i.fr:Int)),(5,.int .i64 (i.un:Int)),(6,.int .i64 (i.rn:Int))]) (by simp only [aM,aE,aN]; rfl) HBR.o ?_) | ((with_reducible refine zws 19 48 ?_);refine Af rfl (.tmp 19) (.tmp 48) G0 rfl rfl (vs:=RC) rfl HRL.o HN.o.blk0 (aB _) HRO.o ?_));intro w2 h2 k2;have HC:=hqZ (HN.o.stW (vs:=RC) h2 k2 rfl);clear h2 k2 c0 c3 c4 c5 HKE;go_wp2_with fail;refine zG (λ b W=>W.cell? ⟨kp,0,none⟩=some (.iface (pvT s) (.pointer (some ⟨q,0,none⟩)))/\Al W (w.heap.size+1+1) 0 (Ab k2)/\Al W (w1.heap.size) 0 (RC)) HC.o λ W hc=>?_
  have HC:=hqZ hc;clear hc;refine zT 0 ?_;refine zT 1 ?_;refine zT 2 ?_;refine zT 3 ?_;refine zT 4 ?_ (hr:=λ _ _ _ hW=>ldJ Am rfl HK2.o hW.2.1);refine zT 5 ?_;refine zT 6 ?_ (hr:=λ _ _ _ hW=>ldJ G0 rfl HRL.o hW.2.2);refine zT 7 ?_;refine zJ 8 λ K hK=>?_
  go_simp;refine (HS2.o _ _ (HC.o.zP [2])).mono ?_;rintro e w2 ⟨y2,rfl,hc⟩;obtain ⟨ay2,cy2,rfl,_,_⟩:=(hc.rowOf (v:=y2) (b:=bx2) (by simp)).form;have HC:=hqZ hc;clear hc;refine zq hK ?_;clear hK K;refine zT 9 ?_;refine zT 10 ?_;refine zT 11 ?_;refine zT 12 ?_;refine zT 13 ?_;refine zD ?_;have HC:=hqZ (HC.o.zP [4]);go_wp2_with ((with_reducible refine zws 14 67 ?_);refine Af rfl (.tmp 14) (.tmp 67) Bl rfl rfl (vs:= [.string (tx nm),.slice ay1 bx1.length cy1]) rfl rfl HC.o.blk0 (aB _) (by intro u hu; simp at hu; rcases hu with rfl | rfl <;> rfl) ?_);intro w4 h4 k4;have HC:=hqZ (HC.o.stW (vs:= [.string (tx nm),.slice ay1 bx1.length cy1]) h4 k4 rfl);clear h4 k4;go_wp2_with fail;refine bodyPost_ret (Bd rfl Bl rfl rfl HC.o.blk0.cellsAll) rfl ⟨_,_,rfl,?_⟩;have h:=HC.o.zP [0,2,3,3,3] |>.tail.tail.tail.tail.tail;rw [HKC.o] at h;exact h
  end Go.Proofs.YtbmjjfhpllpiaaaGreat
namespace Go.Proofs.YtbmjjfhpllpiaaaGreat
open Go.RowKit
abbrev Sh:=ByteArray×Int×Int
def Sh.cells (x:Sh):List bM:= [.string x.1,.int .i64 x.2.1,.int .i64 x.2.2]
def Cj (l:List Sh):List bM:=l.flatMap Sh.cells
def Jg (now t:Int):Bool:=decide (0<=t/\t<=1099511627776/\0<=now/\now<=1099511627776/\now-t<=30/\t-now<=30)
theorem Rg (now t:Int) (w:bN): bO aA 59 #[.int .i64 now,.int .i64 t] w λ e w'=>e=.returned (.bool (Jg now t))/\w=w':=by
  by_cases h1:t<0
  · go_enter aG,aH;go_wp2;go_ret;exact ⟨by simp [Jg]; omega,rfl⟩
  by_cases h2:1099511627776<t
  · go_enter aG,aH;go_wp2;go_ret;exact ⟨by simp [Jg]; omega,rfl⟩
  by_cases h3:now<0
  · go_enter aG,aH;go_wp2;go_ret;exact ⟨by simp [Jg]; omega,rfl⟩
  by_cases h4:1099511627776<now
  · go_enter aG,aH;go_wp2;go_ret;exact ⟨by simp [Jg]; omega,rfl⟩
  by_cases h5:now-t<=30
  · by_cases h6:t-now<=30
    · go_enter aG,aH;go_wp2;go_ret;exact ⟨by simp [Jg]; omega,rfl⟩
    · go_enter aG,aH;go_wp2;go_ret;exact ⟨by simp [Jg]; omega,rfl⟩
  · go_enter aG,aH;go_wp2;go_ret;exact ⟨by simp [Jg]; omega,rfl⟩
def Mj (w:bN) (F:Nat->Prop) (p:Nat) (l:List Sh) (m:Int):Prop:=
  F p/\∃va,Blk w p [va,.int .i64 m] 199/\Sl w 3 va l.length (Cj l)/\va.ownBlock≠some p/\∀b,va.ownBlock=some b->F b
theorem Sn (p:Nat) (now:Int) (x:Sh) (w:bN) (hn:Jg now x.2.1=false): bO aA 76 #[.pointer (some ⟨p,0,none⟩),.int .i64 now,.string x.1,.int .i64 x.2.1,.int .i64 x.2.2] w λ e w'=>e=.returned (.int .i64 11)/\w=w':=by
  go_enter bJ,bK;go_wp2_with (go_at_call 59; refine (Rg _ _ _).mono ?_; rintro e w' ⟨rfl,rfl⟩);go_ret;exact ⟨rfl,rfl⟩
theorem A0I:C5 aA 197 260 3 32 (.agg #[.string ⟨#[]⟩,.int .i64 0,.int .i64 0]):=by
  refine C5.mk Tryz.underlying197 ?_ rfl (by decide)
  kernel_rfl
def Bw (now:Int) (l:List Sh):List Sh:=l.filter λ y=>decide (wrap64 (now-y.2.1)<=30)
theorem Ry (l:List Sh):(Cj l).length=l.length*3:=by
  induction l with
  | nil=>rfl
  | cons x l ih=>simp only [Cj,List.flatMap_cons,aY,aS] at ih ⊢; simp only [ih,Sh.cells,aS,List.length_nil]; omega
theorem Rw (l r:List Sh):Cj (l++r)=Cj l++Cj r:=by simp [Cj]
theorem Rx:∀(l:List Sh) (k:Nat) (h:k<l.length),(Cj l)[k*3]?=some (.string l[k].1)/\(Cj l)[k*3+1]?=some (.int .i64 l[k].2.1)/\(Cj l)[k*3+2]?=some (.int .i64 l[k].2.2)
  | [],k,h=>by simp at h
  | x::l,0,h=>by simp [Cj,Sh.cells]
  | x::l,k+1,h=>by
    have:=Rx l k (by simpa using h);have e:Cj (x::l)=x.cells++Cj l:=by simp [Cj]
    rw [e];have hx:x.cells.length=3:=rfl;refine ⟨?_,?_,?_⟩
    · rw [aC (by rw [hx]; omega),hx,show (k+1)*3-3=k*3 by omega]; simpa using this.1
    · rw [aC (by rw [hx]; omega),hx,show (k+1)*3+1-3=k*3+1 by omega]; simpa using this.2.1
    · rw [aC (by rw [hx]; omega),hx,show (k+1)*3+2-3=k*3+2 by omega]; simpa using this.2.2
theorem Tw (now:Int) (l:List Sh):(Bw now l).length<=l.length:=List.length_filter_le _ _
theorem Pf (now:Int) (l:List Sh) (k:Nat) (h:k<l.length):Bw now (l.take (k+1))=Bw now (l.take k)++if wrap64 (now-l[k].2.1)<=30 then [l[k]] else []:=by
  rw [aV h,Bw,List.filter_append];congr 1;by_cases hc:wrap64 (now-l[k].2.1)<=30 <;> simp [hc]
def Xz (c1:ByteArray) (t1 s1:Int) (c2:ByteArray) (t2 s2:Int):Bool:=decide ((c1,t1,s1)=(c2,t2,s2))
theorem Tu (x y:Sh):Xz x.1 x.2.1 x.2.2 y.1 y.2.1 y.2.2=true↔x=y:=by
  unfold Xz;exact decide_eq_true_iff
theorem Sz (w:bN) (c1:ByteArray) (t1 s1:Int) (c2:ByteArray) (t2 s2:Int): (binOp .eql 260 (.agg #[.string c1,.int .i64 t1,.int .i64 s1]) (.agg #[.string c2,.int .i64 t2,.int .i64 s2])).run aA w=.ok (.bool (Xz c1 t1 s1 c2 t2 s2)) w:=by
  have h1:=Tryz.stoodInHeld260;unfold binOp Xz;simp only [Prod.mk.injEq,<-I8];simp [go_sem,Op.equal,Op.maxDepth,run_equalIn_struct _ _ 260 _ _ Tryz.underlying260 h1];by_cases a:c1.toList=c2.toList <;> by_cases b:t1=t2 <;> by_cases c:s1=s2 <;> simp [a,b,c]
theorem X2 (now:Int) (l:List Sh) (k:Nat) (h:k<l.length) (hc:wrap64 (now-l[k].2.1)<=30):Bw now (l.take (k+1))=Bw now (l.take k)++ [l[k]]:=by rw [Pf now l k h,if_pos hc]
theorem X0 (now:Int) (l:List Sh) (k:Nat) (h:k<l.length) (hc:¬wrap64 (now-l[k].2.1)<=30):Bw now (l.take (k+1))=Bw now (l.take k):=by rw [Pf now l k h,if_neg hc,List.append_nil]
def A3c (l:List Sh) (x:Sh):Bool:=l.any λ y=>decide (y=x)
theorem Od (l:List Sh) (x:Sh):A3c l x=true↔x∈l:=by simp [A3c]
def Ca (l:List Sh) (m now:Int) (x:Sh):List Sh×Int:=
  if Jg now x.2.1=false then (l,11) else if A3c l x=true then (l,14) else if m<=(Bw now l).length then (Bw now l,8) else (Bw now l++ [x],0)
theorem Ql (F:Nat->Prop) (p:Nat) (l:List Sh) (m now:Int) (x:Sh) (w:bN) (h:Mj w F p l m) (hn:Jg now x.2.1=true) (hl:l.length<=64): bO aA 76 #[.pointer (some ⟨p,0,none⟩),.int .i64 now,.string x.1,.int .i64 x.2.1,.int .i64 x.2.2] w λ e w'=> e=.returned (.int .i64 (Ca l m now x).2)/\Mj w' (λ k=>F k\/w.heap.size<=k) p (Ca l m now x).1 m/\Ai (λ k=>k=p\/w.heap.size<=k) w w':=by
  obtain ⟨hF,va,hb,hs,hne,hFa⟩:=h;obtain ⟨a,cap,rfl,hcap,hcm⟩:=hs.form;have h0:=hb.cell 0;have h1:=hb.cell 1;have hfz:=hb.frozen;have hpl:=hb.lt;have heq:=Sz;simp only [bL,aJ] at h0 h1;go_enter bJ,bK;go_wp2_with (go_at_call 59; refine (Rg _ _ _).mono ?_; rintro e w' ⟨rfl,rfl⟩);go_loopw [12,33] (λ v i wr=>∃k:Nat,k<=l.length/\i=.int .i64 k/\Own wr (w.heap.size+1) 260 3 v (Bw now (l.take k)).length (Cj (Bw now (l.take k)))/\x∉l.take k/\
      Below w.heap.size w wr/\wr.heap[w.heap.size]?=some (.cells #[.string x.1,.int .i64 x.2.1,.int .i64 x.2.2] 260 (0,0))/\(∀b,v.ownBlock=some b->b≠p/\(F b\/w.heap.size<=b))) (λ _ i _=>l.length- (intOf i).toNat)
  case atStart=>exact ⟨0,Nat.zero_le _,rfl,by simpa [Bw,Cj] using Own.nil _ _ _ _ _,by simp,(Below.refl _ _).alloc (aB _) _,heap_alloc_new _ _,λ b h=>⟨λ e=>hne ((O9 a _ _ _ _).trans (e▸h)),.inl (hFa b ((O9 a _ _ _ _).trans h))⟩⟩
  case round=>
    obtain ⟨k,hk,rfl,hown,hnot,hbel,hx,hvb⟩:=hrel;have hsz:=hbel.size;have hxl:=Gh hx;have hx0:wr.cell? ⟨w.heap.size,0,none⟩=some (.string x.1):=by simp [bN.cell?,hx]
    have hx1:wr.cell? ⟨w.heap.size,1,none⟩=some (.int .i64 x.2.1):=by simp [bN.cell?,hx]
    have hx2:wr.cell? ⟨w.heap.size,2,none⟩=some (.int .i64 x.2.2):=by simp [bN.cell?,hx]
    have HX:=hqZ hx;have HN:=hqZ hnot;clear hx hnot;by_cases hlt:k<l.length
    · obtain ⟨b,off,rfl,hc⟩:=hs.addr (by rw [Ry]; omega);obtain ⟨e0,e1,e2⟩:=Rx l k hlt;have c0:=Bc hbel (hc _ _ e0);have c1:wr.cell? ⟨b,off+k*3+1,none⟩=_:=Bc hbel (hc _ _ e1);have c2:wr.cell? ⟨b,off+k*3+2,none⟩=_:=Bc hbel (hc _ _ e2);have HS:=hqZ hs;have HB:=hqZ hb;clear hc e0 e1 e2 hs hb
      cases hE:Xz l[k].1 l[k].2.1 l[k].2.2 x.1 x.2.1 x.2.2 with
      | true=>
        have HM:Hq (Ca l m now x=(l,14)):=by
          have:x∈l:=(Tu l[k] x).1 hE▸aW hlt;exact hqZ (by rw [Ca,if_neg (by simp [hn]),if_pos ((Od l x).2 this)])
        go_wp2_with fail;go_ret;rw [HM.o];exact ⟨rfl,⟨.inl hF,_,(HB.o.below hbel hpl).alloc _,(HS.o.below hbel).alloc _,hne,λ b h=>.inl (hFa b h)⟩,(Ai.of_below (hbel.alloc (by omega) _)).mono (λ k hk=>.inr hk)⟩
      | false=>
        have HK1:=hqZ (X2 now l k hlt);have HK2:=hqZ (X0 now l k hlt);have HNE:x∉l.take (k+1):=Ip x l k hlt HN.o (λ e=>by have:=(Tu l[k] x).2 e; rw [hE] at this; exact absurd this (by simp));have hkl:=Tw now (l.take k);have hkt:(l.take k).length<=k:=List.length_take_le _ _;have HN1:=hqZ HNE;clear HNE;by_cases hK:wrap64 (now-l[k].2.1)<=30
        · go_wp2_with (at_builtin; go_loud (refine Me rfl (.tmp 45) (.tmp 47) A0I rfl (w.heap.size+1) ((hown.alloc _).alloc _) (Sl.lit ?c0 ?c1 ?c2 ?c3) ?c4 ?c5 ?c6 ?_))
          case c2=>exact ⟨rfl,rfl,rfl⟩
          case c3=>decide
          case c4=>unfold maxLen; omega
          case c5=>omega
          case c6=>omega
          intro v' w' hown' hk' hvb';have HV:Hq (∀b,v'.ownBlock=some b->b≠p/\(F b\/w.heap.size<=b)):=hqZ (by
            intro b' hb';rcases hvb' b' hb' with h | h
            · exact hvb b' h
            · exact ⟨by omega,.inr (by omega)⟩)
          clear hvb hvb';have HR:Hq (Own w' (w.heap.size+1) 260 3 v' (Bw now (l.take (k+1))).length (Cj (Bw now (l.take (k+1))))):=by
            refine hqZ ?_;rw [HK1.o hK,Rw];simpa [Cj,Sh.cells] using hown'
          have hb2:Below w.heap.size w w':=by
            refine ((hbel.alloc (by omega) _).alloc (by simp; omega) _).trans (hk'.below ?_);intro k' hk2;rcases hk2 with ⟨_,h⟩ | h
            · omega
            · omega
          have hx':Hq (w'.heap[w.heap.size]?=some (.cells #[.string x.1,.int .i64 x.2.1,.int .i64 x.2.2] 260 (0,0))):=by
            have q:Blk wr w.heap.size [.string x.1,.int .i64 x.2.1,.int .i64 x.2.2] 260:=HX.o;exact hqZ (((q.alloc _).alloc _).keep hk' (by rintro (⟨_,h⟩ | h) <;> omega))
          clear hown' hk' hown hbel hsz hxl hx0 hx1 hx2 c0 c1 c2;go_wp2;go_roundw
          case rel=>exact ⟨k+1,by omega,by go_num,HR.o,HN1.o,hb2,hx'.o,HV.o⟩
          case measure=>simp [intOf]; omega
        · go_wp2_with fail;go_roundw
          case rel=>exact ⟨k+1,by omega,by go_num,by rw [HK2.o hK]; exact hown.alloc _,HN1.o,hbel.alloc (by omega) _,by rw [Below.heap_alloc _ _ _ (by omega)]; exact HX.o,hvb⟩
          case measure=>simp [intOf]; omega
    · obtain rfl:k=l.length:=by omega
      have hnot:x∉l:=by simpa using HN.o
      have hown':Own wr (w.heap.size+1) 260 3 u12 (Bw now l).length (Cj (Bw now l)):=by simpa using hown
      obtain ⟨a',cap',rfl,_,_⟩:=hown'.sl.form;have key:∀nq,Blk ((wr.setCell ⟨p,0,none⟩ (.slice a' (Bw now l).length cap')).drewN nq) p [.slice a' (Bw now l).length cap',.int .i64 m] 199/\
          Own ((wr.setCell ⟨p,0,none⟩ (.slice a' (Bw now l).length cap')).drewN nq) (w.heap.size+1) 260 3 (.slice a' (Bw now l).length cap') (Bw now l).length (Cj (Bw now l))/\
          Ai (λ k=>k=p\/w.heap.size<=k) w ((wr.setCell ⟨p,0,none⟩ (.slice a' (Bw now l).length cap')).drewN nq)/\
          Blk ((wr.setCell ⟨p,0,none⟩ (.slice a' (Bw now l).length cap')).drewN nq) w.heap.size [.string x.1,.int .i64 x.2.1,.int .i64 x.2.2] 260:=by
        intro nq;refine ⟨(hb.below hbel hpl).set 0 _,?_,?_,Blk.set_other (p:=⟨p,0,none⟩) HX.o (by simp; omega) _⟩
        · refine hown'.keep (S:=λ k=>k=p) ((Ai.one wr p 0 _).drewN nq) ?_;intro b hb' e;exact (hvb b hb').1 e
        · exact ((Ai.of_below hbel).mono (λ k h=>.inr h)).trans (((Ai.one wr p 0 _).mono (λ k h=>.inl h)).drewN nq)
      have p0:wr.cell? ⟨p,0,none⟩=_:=Bc hbel h0;have p1:wr.cell? ⟨p,1,none⟩=_:=Bc hbel h1;have pf:∀o,wr.frozen? ⟨p,o,none⟩=false:=λ o=>(hbel.frozen (p:=⟨p,o,none⟩) hpl).trans (hfz o)
      go_wp2_with fail;go_quiet (fail);obtain ⟨q1,q2,q3,q4⟩:=key nq;clear key p0 p1 pf hown hown' hx0 hx1 hx2;generalize (wr.setCell ⟨p,0,none⟩ (.slice a' (Bw now l).length cap')).drewN nq=w2 at q1 q2 q3 q4 ⊢;have Q1:=hqZ q1;have hpl2:=q1.lt;have p0:=q1.cell 0;have p1:=q1.cell 1;have pf:=q1.frozen;have x0:=q4.cell 0;have x1:=q4.cell 1;have x2:=q4.cell 2;have hxl2:=q4.lt;simp only [bL,aJ] at p0 p1 x0 x1 x2;clear q1 q4 hb h0 h1 HX;by_cases hfull:m<=((Bw now l).length:Int)
      · have HM:Hq (Ca l m now x=(Bw now l,8)):=hqZ (by rw [Ca,if_neg (by simp [hn]),if_neg (λ e=>hnot ((Od l x).1 e)),if_pos hfull]);go_wp2_with fail;go_ret;rw [HM.o];refine ⟨rfl,⟨.inl hF,_,Q1.o,q2.sl,?_,?_⟩,q3⟩
        · exact λ e=>(hvb p e).1 rfl
        · exact λ b hb=>(hvb b hb).2
      · have HM:Hq (Ca l m now x=(Bw now l++ [x],0)):=hqZ (by rw [Ca,if_neg (by simp [hn]),if_neg (λ e=>hnot ((Od l x).1 e)),if_neg hfull]);have hkl:=Tw now l;go_wp2_with fail;have fin:∀(wq:bN) (va':bM),Own wq (w.heap.size+1) 260 3 va' ((Bw now l).length+1) (Cj (Bw now l)++x.cells)->
            Ai (λ k=>(bM.slice a' (Bw now l).length cap').ownBlock=some k/\w.heap.size+1<=k\/w2.heap.size<=k) w2 wq->(∀b,va'.ownBlock=some b->(bM.slice a' (Bw now l).length cap').ownBlock=some b\/w2.heap.size<=b)->
            Mj (wq.setCell ⟨p,0,none⟩ va') (λ k=>F k\/w.heap.size<=k) p (Bw now l++ [x]) m/\Ai (λ k=>k=p\/w.heap.size<=k) w (wq.setCell ⟨p,0,none⟩ va')/\
            wq.cell? ⟨p,0,none⟩=some (.slice a' (Bw now l).length cap')/\wq.frozen? ⟨p,0,none⟩=false/\∃a2 c2,va'=.slice a2 ((Bw now l).length+1) c2:=by
          intro wq va' o1 o2 o3;have hsz2:=q3.size;have hbp:Blk wq p _ _:=Q1.o.keep o2 (by rintro (⟨h,_⟩ | h); exact (hvb p h).1 rfl; omega);have hvq:∀b,va'.ownBlock=some b->b≠p/\(F b\/w.heap.size<=b):=by
            intro b hb;rcases o3 b hb with h | h
            · exact hvb b h
            · exact ⟨by omega,.inr (by omega)⟩
          have hk1:Ai (λ k=>k=p\/w.heap.size<=k) w wq:=q3.trans (o2.mono (by rintro k (⟨_,h⟩ | h) <;> exact .inr (by omega)));obtain ⟨a2,c2,rfl,_⟩:=o1.sl.form;refine ⟨⟨.inl hF,_,hbp.set 0 _,?_,λ e=>(hvq p e).1 rfl,λ b hb=>(hvq b hb).2⟩,hk1.trans ((Ai.one wq p 0 _).mono (λ k h=>.inl h)),hbp.cell 0,hbp.frozen 0,a2,c2,rfl⟩
          have:=o1.sl.setCell (p:=⟨p,0,none⟩) (λ e=>(hvq p e).1 rfl) (.slice a2 ((Bw now l).length+1) c2);simpa [Cj] using this
        have FIN:=hqZ fin;clear fin
        go_region_law ((refine A3e rfl (.tmp 68) (.tmp 70) A0I rfl (w.heap.size+1) rfl ((q2.drew).alloc _) rfl (Sl.lit (by simp) rfl (by simp [bM.oneCell']) (by decide)) (by unfold maxLen; omega) (by omega) (by simp; omega) ?_; intro v' w' hown' hk' hvb'; obtain ⟨f1,f2,f3,f4,a2,c2,rfl⟩:=FIN.o w' v' hown' (Ai.trans ((Ai.alloc (Ai.drew (Ai.refl _ _)) _ (.inr (aB _)))) (hk'.mono (by rintro k (h | h); exact .inl h; exact .inr (by simp at h; omega)))) (by intro b hb; rcases hvb' b hb with h | h; exact .inl h; exact .inr (by simp at h; omega))))
        all_goals
          go_wp2_with fail;go_ret;rw [HM.o];exact ⟨rfl,by assumption,by assumption⟩
theorem Sm (F:Nat->Prop) (p:Nat) (l:List Sh) (m now:Int) (x:Sh) (w:bN) (h:Mj w F p l m) (hl:l.length<=64): bO aA 76 #[.pointer (some ⟨p,0,none⟩),.int .i64 now,.string x.1,.int .i64 x.2.1,.int .i64 x.2.2] w λ e w'=> e=.returned (.int .i64 (Ca l m now x).2)/\Mj w' (λ k=>F k\/w.heap.size<=k) p (Ca l m now x).1 m/\Ai (λ k=>k=p\/w.heap.size<=k) w w':=by
  cases hn:Jg now x.2.1 with
  | true=>exact Ql F p l m now x w h hn hl
  | false=>
    refine (Sn p now x w hn).mono ?_;rintro e w' ⟨rfl,rfl⟩;obtain ⟨h1,va,h2,h3,h4,h5⟩:=h;have e:Ca l m now x=(l,11):=by rw [Ca,if_pos hn]
    rw [e];exact ⟨rfl,⟨.inl h1,va,h2,h3,h4,λ b hb=>.inl (h5 b hb)⟩,Ai.refl _ _⟩
end Go.Proofs.YtbmjjfhpllpiaaaGreat
