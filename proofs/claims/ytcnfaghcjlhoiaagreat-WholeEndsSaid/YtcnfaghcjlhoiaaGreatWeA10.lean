/- Texts of this proof, one behind the other: Kas2, Cache, Kas3, Log1, Cred, Cred2, Cred3, Cred4. -/
import Derived.Test.YtcnfaghcjlhoiaaGreatWeA1
import Derived.Test.YtcnfaghcjlhoiaaGreatWeA2
import Derived.Test.YtcnfaghcjlhoiaaGreatWeA3
import Derived.Test.YtcnfaghcjlhoiaaGreatWeA4
import Derived.Test.YtcnfaghcjlhoiaaGreatWeA5
import Derived.Test.YtcnfaghcjlhoiaaGreatWeA9
import Derived.Test.YtcnfaghcjlhoiaaGreatProg
import Derived.Deep.CutBlock
import Derived.Deep.DeepCutAuto
import Derived.Laws.Tables
set_option linter.unusedSimpArgs false
set_option linter.unusedVariables false
set_option maxRecDepth 100000
set_option maxHeartbeats 16000000
open Go.Proofs.Tryz renaming prog -> aA, func87 -> aF, ntmps87 -> aG, underlying212 -> aW, func104 -> aZ, ntmps104 -> bA
open Nat renaming le_refl -> aB, zero_mul -> bD, zero_add -> bE, lt_of_lt_of_le -> bH, min_eq_left -> bI
open List renaming map_cons -> aC, getElem?_append_right -> aD, length_set -> aE, getElem?_append -> aH, take_of_length_le -> aI, map_toArray -> aJ, map_nil -> aK, take_append_of_le_length -> aL, replicate -> aM, append_assoc -> aN, getElem?_cons_succ -> aO, flatten_cons -> aP, mem_or_eq_of_mem_set -> aQ, mem_cons -> aR, not_mem_nil -> aS, length_cons -> aT, take_succ_eq_append_getElem -> aU, drop_of_length_le -> aV, forall_mem_append -> aX, forall_mem_cons -> aY, length_append -> bB, getElem?_cons_zero -> bC, getElem?_append_left -> bF, drop_append_of_le_length -> bG, set_append_right -> bJ, getElem?_map -> bK, getElem?_eq_getElem -> bL
open Go renaming Value -> bM, World -> bN, Calls -> bO, IntKind -> bP
namespace Go.Proofs.YtcnfaghcjlhoiaaGreat
open Go.RowKit Go.Maps
structure Ins where
 fl:Nat
 key:Aa
 cl:Aa
 fr:Nat
 un:Nat
 rn:Nat
namespace Ins
def fds (i:Ins):List Fd:= [.n i.fl,.k i.key,.s i.cl,.n i.fr,.n i.un,.n i.rn]
def cells (i:Ins):List bM:=(([.int .i64 (i.fl:Int)]:List bM)++(Ae i.key++([.string (tx i.cl),.int .i64 (i.fr:Int),.int .i64 (i.un:Int),.int .i64 (i.rn:Int)]:List bM)))
def rep (i:Ins) (no:Nat) (nm:Aa):List Fd:= [.n i.fl,.k i.key,.n no,.s nm,.n i.fr,.n i.un,.n i.rn]
def repC (i:Ins) (no:Nat) (nm:Aa):List bM:=(([.int .i64 (i.fl:Int)]:List bM)++(Ae i.key++([.int .i64 (no:Int),.string (tx nm),.int .i64 (i.fr:Int),.int .i64 (i.un:Int),.int .i64 (i.rn:Int)]:List bM)))
structure Ok (i:Ins):Prop where
 fl:i.fl<=1099511627776
 key:i.key.length=16
 cl:i.cl.length<=200
 clr:Au (tx i.cl)=true
 fr:i.fr<=1099511627776
 un:i.un<=1099511627776
 rn:i.rn<=1099511627776
theorem cells_length {i:Ins} (h:i.Ok):i.cells.length=21:=by simp [cells,Ac,h.key]
theorem cells_one (i:Ins):∀u∈i.cells,u.oneCell'=true:=by
 simp only [cells,aX,aY];exact ⟨⟨rfl,λ _ h=>by cases h⟩,Al _,rfl,rfl,rfl,rfl,λ _ h=>by cases h⟩
theorem repC_length {i:Ins} (h:i.Ok) (no:Nat) (nm:Aa):(i.repC no nm).length=22:=by simp [repC,Ac,h.key]
theorem repC_one (i:Ins) (no:Nat) (nm:Aa):∀u∈i.repC no nm,u.oneCell'=true:=by
 simp only [repC,aX,aY];exact ⟨⟨rfl,λ _ h=>by cases h⟩,Al _,rfl,rfl,rfl,rfl,rfl,λ _ h=>by cases h⟩
theorem Ok.nw {i:Ins} (h:i.Ok):Nw (Ev 2 i.fds):=A3j (by
 intro f hf;simp only [fds,aR,aS,or_false] at hf;rcases hf with rfl | rfl | rfl | rfl | rfl | rfl
 . exact h.fl
 . exact h.key
 . exact ⟨by have:=h.cl; omega,h.clr⟩
 . exact h.fr
 . exact h.un
 . exact h.rn)
theorem Ok.repNw {i:Ins} (h:i.Ok) {no:Nat} {nm:Aa} (h1:no<=1099511627776) (h2:nm.length<=200) (h3:Au (tx nm)=true):Nw (Ev 3 (i.rep no nm)):=A3j (by
 intro f hf;simp only [rep,aR,aS,or_false] at hf;rcases hf with rfl | rfl | rfl | rfl | rfl | rfl | rfl
 . exact h.fl
 . exact h.key
 . exact h1
 . exact ⟨by omega,h3⟩
 . exact h.fr
 . exact h.un
 . exact h.rn)
theorem Ok.len {i:Ins} (h:i.Ok):(As 2 i.fds).length<=600:=by
 have:=L4 2 i.fds;generalize As 2 i.fds=P at*;have h1:=h.cl;have h2:=h.key;simp [fds,N6] at this;omega
theorem Ok.repLen {i:Ins} (h:i.Ok) (no:Nat) {nm:Aa} (h2:nm.length<=200):(As 3 (i.rep no nm)).length<=600:=by
 have:=L4 3 (i.rep no nm);generalize As 3 (i.rep no nm)=P at*;have h1:=h.key;simp [rep,N6] at this;omega
theorem Ok.value {i:Ins} (h:i.Ok) (w:bN):bO aA 210 #[.iface 200 (.agg i.cells.toArray)] w (Gu w (Ev 2 i.fds) true):=
 A0L i.fl i.key i.cl i.fr i.un i.rn w h.fl h.key (by have:=h.cl; omega) h.clr h.fr h.un h.rn
theorem Ok.repValue {i:Ins} (h:i.Ok) {no:Nat} {nm:Aa} (h1:no<=1099511627776) (h2:nm.length<=200) (h3:Au (tx nm)=true) (w:bN):bO aA 210 #[.iface 307 (.agg (i.repC no nm).toArray)] w (Gu w (Ev 3 (i.rep no nm)) true):=
 A0M i.fl i.key no nm i.fr i.un i.rn w h.fl h.key h1 (by omega) h3 h.fr h.un h.rn
end Ins
theorem Yq {i:Ins} (h:i.Ok) (no:Nat) (nm:Aa):Tryz.prog.built 307 [(0,.int .i64 (i.fl:Int)),(1,.agg (Ae i.key).toArray),(2,.int .i64 (no:Int)),(3,.string (tx nm)),(4,.int .i64 (i.fr:Int)),(5,.int .i64 (i.un:Int)),(6,.int .i64 (i.rn:Int))]=some (i.repC no nm).toArray:=by
 obtain ⟨fl,key,cl,fr,un,rn⟩:=i;obtain ⟨c0,c1,c2,c3,c4,c5,c6,c7,c8,c9,c10,c11,c12,c13,c14,c15,rfl⟩:=By key h.key
 kernel_rfl
def Qw (kp q bp:Nat) (s:PS) (K nm sk:Aa) (i:Ins) (no:Nat) (k2:Aa) (u:Nat) (l:List Res) (e:Ending) (w':bN):Prop:=
 ∃y z,e=.returned (.tuple #[.agg #[.string (tx nm),y],z,.int .i64 0])/\
  Ad w' (.row z ((s.shut sk 2 (As 2 i.fds)).2.shut k2 u (As 3 (i.rep no nm))).1::pvR q ((s.shut sk 2 (As 2 i.fds)).2.shut k2 u (As 3 (i.rep no nm))).2::.row y (s.shut sk 2 (As 2 i.fds)).1::Ck kp s.knd q bp K::l)
theorem Pr (kp q bp:Nat) (s:PS) (K nm sk:Aa) (i:Ins) (no:Nat) (k2:Aa) (u:Nat) (l:List Res) (w:bN) (h:Ad w (Ck kp s.knd q bp K::pvR q s::l)) (hs:s.sz<1099511627770) (hi:i.Ok) (hsk:sk.length=16) (hk2:k2.length=16) (hno:no<=1099511627776) (hnl:nm.length<=200) (hnr:Au (tx nm)=true) (hu:u<100): bO aA 88 #[.pointer (some ⟨kp,0,none⟩),.string (tx nm),A1 sk,.agg i.cells.toArray,.int .i64 no,A1 k2,.int .i64 u] w (Qw kp q bp s K nm sk i no k2 u l):=by
 obtain ⟨⟨bx1,s1⟩,hx1⟩:∃x,x=s.shut sk 2 (As 2 i.fds):=⟨_,rfl⟩
 obtain ⟨⟨bx2,s2⟩,hx2⟩:∃x,x=s1.shut k2 u (As 3 (i.rep no nm)):=⟨_,rfl⟩
 have hs1:s1.sz<1099511627776:=by
  have:=(PS.gr_shut s sk 2 (As 2 i.fds)).sz;rw [<-hx1] at this;simp only at this;omega
 have hkn:s1.knd=s.knd:=by
  have:=PS.knd_shut s sk 2 (As 2 i.fds);rw [<-hx1] at this;exact this
 have HS1:=Ab (λ (w:bN) (l:List Res) (h:Ad w (pvR q s::l))=>Jc q s sk 2 _ _ (As 2 i.fds) l w h hsk (by decide) (by omega) (λ W _=>hi.value W) hi.nw (Xs (by decide) (by decide) (by have:=hi.len; omega)) (by have:=hi.len; omega));have HS2:=Ab (λ (w:bN) (l:List Res) (h:Ad w (pvR q s1::l))=>Jc q s1 k2 u _ _ (As 3 (i.rep no nm)) l w h hk2 hu hs1 (λ W _=>hi.repValue hno hnl hnr W) (hi.repNw hno hnl hnr) (Xs (by decide) (by decide) (by have:=hi.repLen no hnl; omega)) (by have:=hi.repLen no hnl; omega));unfold Qw;unfold V1 at HS1 HS2;rw [<-hx1] at HS1 ⊢;simp only at HS1 ⊢;rw [<-hx2] at HS2 ⊢;simp only at HS2 ⊢;have hpv:pvV s1 q=pvV s q:=by rw [<-Bf hkn,<-Bf rfl]
 rw [hpv] at HS2;obtain ⟨RC,hRC⟩:∃RC,RC=i.repC no nm:=⟨_,rfl⟩
 have HRL:Hq (RC.length=22):=Ab (by rw [hRC]; exact Ins.repC_length hi no nm);have HRO:Hq (∀u∈RC,u.oneCell'=true):=Ab (by rw [hRC]; exact Ins.repC_one i no nm);have HBR:=Ab (Yq hi no nm);rw [<-hRC] at HS2 HBR;have HIL:Hq (i.cells.length=21):=Ab (Ins.cells_length hi);have HSK:Hq ((Ae sk).length=16):=Ab (by rw [Ac,hsk]);have HK2:Hq ((Ae k2).length=16):=Ab (by rw [Ac,hk2]);have HIK:Hq ((Ae i.key).length=16):=Ab (by rw [Ac,hi.key]);have hkc:Hz s.knd q bp K= [.iface (pvT s) (.pointer (some ⟨q,0,none⟩)),.pointer (some ⟨bp,0,none⟩)]++Ae K:=by rw [Hz,Bf rfl]; rfl
 have h2:Ad w (.blk kp (Hz s.knd q bp K) 160::pvR q s::l):=h;obtain ⟨KC,hKC⟩:∃x,x=Hz s.knd q bp K:=⟨_,rfl⟩
 have HKC:=Ab hKC;rw [<-hKC] at h2 hkc;have HC0:Hq (KC[0]?=some (.iface (pvT s) (.pointer (some ⟨q,0,none⟩)))):=Ab (by rw [hkc]; rfl);obtain ⟨IC,hIC⟩:∃IC,IC=i.cells:=⟨_,rfl⟩
 rw [<-hIC] at HS1 HIL ⊢;have HI0:Hq (IC[0]?=some (.int .i64 (i.fl:Int))):=Ab (by rw [hIC]; rfl);have HI3:Hq (IC[18]?=some (.int .i64 (i.fr:Int))):=Ab (by rw [hIC]; simp [Ins.cells,aH,Ac,hi.key]);have HI4:Hq (IC[19]?=some (.int .i64 (i.un:Int))):=Ab (by rw [hIC]; simp [Ins.cells,aH,Ac,hi.key]);have HI5:Hq (IC[20]?=some (.int .i64 (i.rn:Int))):=Ab (by rw [hIC]; simp [Ins.cells,aH,Ac,hi.key]);have HIE:Hq ((IC.drop 1).take 16=Ae i.key):=Ab (by rw [hIC]; simp [Ins.cells,aL,aI,Ac,hi.key]);have HC:=Ab ((((h2.addBlkAt (Ae sk) 46 (b:=w.heap.size) rfl).addBlkAt IC 200 (b:=w.heap.size+1) (by simp)).addBlkAt (Ae k2) 46 (b:=w.heap.size+1+1) (by simp)).addBlkAt zs2 108 (b:=w.heap.size+1+1+1) (by simp));clear h h2 hs hi hsk hk2 hno hnl hnr hu hx1 hx2 hs1 hkn hpv hRC hkc hKC hIC;unfold pvV A1 at*;go_enter Tryz.func88,Tryz.ntmps88;go_wp2_with fail;refine zG (λ b W=>W.cell? ⟨kp,0,none⟩=some (.iface (pvT s) (.pointer (some ⟨q,0,none⟩)))/\Ao W (w.heap.size) 0 (Ae sk)/\Ao W (w.heap.size+1) 0 (IC)) HC.o λ W hc=>?_
 have HC:=Ab hc;clear hc;refine zT 0 ?_;refine zT 1 ?_;refine zT 2 ?_;refine zT 3 ?_;refine zT 4 ?_ (hr:=λ _ _ _ hW=>ldJ Aq rfl HSK.o hW.2.1);refine zT 5 ?_ (hr:=λ _ _ _ hW=>ldJ Bz rfl HIL.o hW.2.2);refine zT 6 ?_;refine zJ 7 λ K hK=>?_
 go_simp;refine (HS1.o _ _ (HC.o.zP [5])).mono ?_;rintro e w1 ⟨y1,rfl,hc⟩;obtain ⟨ay1,cy1,rfl,_,_⟩:=(hc.rowOf (v:=y1) (b:=bx1) (by simp)).form;have HC:=Ab hc;clear hc;refine zq hK ?_;clear hK K;refine zT 8 ?_;refine zT 9 ?_;refine zT 10 ?_;refine zT 11 ?_;refine zT 12 ?_;refine zD ?_;have c0:=((HC.o.zB (w.heap.size+1)).cell 0).trans HI0.o;have c3:=((HC.o.zB (w.heap.size+1)).cell 18).trans HI3.o;have c4:=((HC.o.zB (w.heap.size+1)).cell 19).trans HI4.o;have c5:=((HC.o.zB (w.heap.size+1)).cell 20).trans HI5.o;have cke:=(HC.o.zB (w.heap.size+1)).cellsAt 1 16;rw [HIE.o] at cke;have HKE:=Ab cke;clear cke;have HN:=Ab (HC.o.addBlkAt A2C 307 (b:=w1.heap.size) rfl);go_wp2_with (first | ((with_reducible refine zw 39 ?_);refine Aj rfl (.tmp 38) Aq rfl rfl (cs:=Ae i.key) HIK.o HKE.o ?_) | ((with_reducible refine zw 48 ?_);refine De rfl rfl (pv:= [(0,.int .i64 (i.fl:Int)),(1,.agg (Ae i.key).toArray),(2,.int .i64 (no:Int)),(3,.string (tx nm)),(4,.int .i64 (i.fr:Int)),(5,.int .i64 (i.un:Int)),(6,.int .i64 (i.rn:Int))]) (by simp only [aJ,aC,aK]; rfl) HBR.o ?_) | ((with_reducible refine zws 19 48 ?_);refine Ag rfl (.tmp 19) (.tmp 48) Hv rfl rfl (vs:=RC) rfl HRL.o HN.o.blk0 (aB _) HRO.o ?_));intro w2 h2 k2;have HC:=Ab (HN.o.stW (vs:=RC) h2 k2 rfl);clear h2 k2 c0 c3 c4 c5 HKE;go_wp2_with fail;refine zG (λ b W=>W.cell? ⟨kp,0,none⟩=some (.iface (pvT s) (.pointer (some ⟨q,0,none⟩)))/\Ao W (w.heap.size+1+1) 0 (Ae k2)/\Ao W (w1.heap.size) 0 (RC)) HC.o λ W hc=>?_
 have HC:=Ab hc;clear hc;refine zT 0 ?_;refine zT 1 ?_;refine zT 2 ?_;refine zT 3 ?_;refine zT 4 ?_ (hr:=λ _ _ _ hW=>ldJ Aq rfl HK2.o hW.2.1);refine zT 5 ?_;refine zT 6 ?_ (hr:=λ _ _ _ hW=>ldJ Hv rfl HRL.o hW.2.2);refine zT 7 ?_;refine zJ 8 λ K hK=>?_
 go_simp;refine (HS2.o _ _ (HC.o.zP [2])).mono ?_;rintro e w2 ⟨y2,rfl,hc⟩;obtain ⟨ay2,cy2,rfl,_,_⟩:=(hc.rowOf (v:=y2) (b:=bx2) (by simp)).form;have HC:=Ab hc;clear hc;refine zq hK ?_;clear hK K;refine zT 9 ?_;refine zT 10 ?_;refine zT 11 ?_;refine zT 12 ?_;refine zT 13 ?_;refine zD ?_;have HC:=Ab (HC.o.zP [4]);go_wp2_with ((with_reducible refine zws 14 67 ?_);refine Ag rfl (.tmp 14) (.tmp 67) Bc rfl rfl (vs:= [.string (tx nm),.slice ay1 bx1.length cy1]) rfl rfl HC.o.blk0 (aB _) (by intro u hu; simp at hu; rcases hu with rfl | rfl <;> rfl) ?_);intro w4 h4 k4;have HC:=Ab (HC.o.stW (vs:= [.string (tx nm),.slice ay1 bx1.length cy1]) h4 k4 rfl);clear h4 k4;go_wp2_with fail;refine bodyPost_ret (Bi rfl Bc rfl rfl HC.o.blk0.cellsAll) rfl ⟨_,_,rfl,?_⟩;have h:=HC.o.zP [0,2,3,3,3] |>.tail.tail.tail.tail.tail;rw [HKC.o] at h;exact h
 end Go.Proofs.YtcnfaghcjlhoiaaGreat
namespace Go.Proofs.YtcnfaghcjlhoiaaGreat
open Go.RowKit
abbrev Sh:=ByteArray×Int×Int
def Sh.cells (x:Sh):List bM:= [.string x.1,.int .i64 x.2.1,.int .i64 x.2.2]
def Ct (l:List Sh):List bM:=l.flatMap Sh.cells
def J4 (now t:Int):Bool:=decide (0<=t/\t<=1099511627776/\0<=now/\now<=1099511627776/\now-t<=30/\t-now<=30)
theorem Su (now t:Int) (w:bN): bO aA 87 #[.int .i64 now,.int .i64 t] w λ e w'=>e=.returned (.bool (J4 now t))/\w=w':=by
 by_cases h1:t<0
 . go_enter aF,aG;go_wp2;go_ret;exact ⟨by simp [J4]; omega,rfl⟩
 by_cases h2:1099511627776<t
 . go_enter aF,aG;go_wp2;go_ret;exact ⟨by simp [J4]; omega,rfl⟩
 by_cases h3:now<0
 . go_enter aF,aG;go_wp2;go_ret;exact ⟨by simp [J4]; omega,rfl⟩
 by_cases h4:1099511627776<now
 . go_enter aF,aG;go_wp2;go_ret;exact ⟨by simp [J4]; omega,rfl⟩
 by_cases h5:now-t<=30
 . by_cases h6:t-now<=30
   . go_enter aF,aG;go_wp2;go_ret;exact ⟨by simp [J4]; omega,rfl⟩
   . go_enter aF,aG;go_wp2;go_ret;exact ⟨by simp [J4]; omega,rfl⟩
 . go_enter aF,aG;go_wp2;go_ret;exact ⟨by simp [J4]; omega,rfl⟩
def Nu (w:bN) (F:Nat->Prop) (p:Nat) (l:List Sh) (m:Int):Prop:=
 F p/\∃va,Blk w p [va,.int .i64 m] 232/\Sl w 3 va l.length (Ct l)/\va.ownBlock≠some p/\∀b,va.ownBlock=some b->F b
theorem T9 (p:Nat) (now:Int) (x:Sh) (w:bN) (hn:J4 now x.2.1=false): bO aA 104 #[.pointer (some ⟨p,0,none⟩),.int .i64 now,.string x.1,.int .i64 x.2.1,.int .i64 x.2.2] w λ e w'=>e=.returned (.int .i64 11)/\w=w':=by
 go_enter aZ,bA;go_wp2_with (go_at_call 87; refine (Su _ _ _).mono ?_; rintro e w' ⟨rfl,rfl⟩);go_ret;exact ⟨rfl,rfl⟩
theorem A2O:Cp aA 230 325 3 32 (.agg #[.string ⟨#[]⟩,.int .i64 0,.int .i64 0]):=by
 refine Cp.mk Tryz.underlying230 ?_ rfl (by decide)
 kernel_rfl
def B9 (now:Int) (l:List Sh):List Sh:=l.filter λ y=>decide (wrap64 (now-y.2.1)<=30)
theorem Ta (l:List Sh):(Ct l).length=l.length*3:=by
 induction l with
 | nil=>rfl
 | cons x l ih=>simp only [Ct,List.flatMap_cons,bB,aT] at ih ⊢; simp only [ih,Sh.cells,aT,List.length_nil]; omega
theorem S8 (l r:List Sh):Ct (l++r)=Ct l++Ct r:=by simp [Ct]
theorem S9:∀(l:List Sh) (k:Nat) (h:k<l.length),(Ct l)[k*3]?=some (.string l[k].1)/\(Ct l)[k*3+1]?=some (.int .i64 l[k].2.1)/\(Ct l)[k*3+2]?=some (.int .i64 l[k].2.2)
 | [],k,h=>by simp at h
 | x::l,0,h=>by simp [Ct,Sh.cells]
 | x::l,k+1,h=>by
  have:=S9 l k (by simpa using h);have e:Ct (x::l)=x.cells++Ct l:=by simp [Ct]
  rw [e];have hx:x.cells.length=3:=rfl;refine ⟨?_,?_,?_⟩
  . rw [aD (by rw [hx]; omega),hx,show (k+1)*3-3=k*3 by omega]; simpa using this.1
  . rw [aD (by rw [hx]; omega),hx,show (k+1)*3+1-3=k*3+1 by omega]; simpa using this.2.1
  . rw [aD (by rw [hx]; omega),hx,show (k+1)*3+2-3=k*3+2 by omega]; simpa using this.2.2
theorem Vn (now:Int) (l:List Sh):(B9 now l).length<=l.length:=List.length_filter_le _ _
theorem Qb (now:Int) (l:List Sh) (k:Nat) (h:k<l.length):B9 now (l.take (k+1))=B9 now (l.take k)++if wrap64 (now-l[k].2.1)<=30 then [l[k]] else []:=by
 rw [aU h,B9,List.filter_append];congr 1;by_cases hc:wrap64 (now-l[k].2.1)<=30 <;> simp [hc]
def A0u (c1:ByteArray) (t1 s1:Int) (c2:ByteArray) (t2 s2:Int):Bool:=decide ((c1,t1,s1)=(c2,t2,s2))
theorem Vm (x y:Sh):A0u x.1 x.2.1 x.2.2 y.1 y.2.1 y.2.2=true↔x=y:=by
 unfold A0u;exact decide_eq_true_iff
theorem Uk (w:bN) (c1:ByteArray) (t1 s1:Int) (c2:ByteArray) (t2 s2:Int): (binOp .eql 325 (.agg #[.string c1,.int .i64 t1,.int .i64 s1]) (.agg #[.string c2,.int .i64 t2,.int .i64 s2])).run aA w=.ok (.bool (A0u c1 t1 s1 c2 t2 s2)) w:=by
 have h1:=Tryz.stoodInHeld325;unfold binOp A0u;simp only [Prod.mk.injEq,<-Jr];simp [go_sem,Op.equal,Op.maxDepth,run_equalIn_struct _ _ 325 _ _ Tryz.underlying325 h1];by_cases a:c1.toList=c2.toList <;> by_cases b:t1=t2 <;> by_cases c:s1=s2 <;> simp [a,b,c]
theorem A0w (now:Int) (l:List Sh) (k:Nat) (h:k<l.length) (hc:wrap64 (now-l[k].2.1)<=30):B9 now (l.take (k+1))=B9 now (l.take k)++ [l[k]]:=by rw [Qb now l k h,if_pos hc]
theorem A0v (now:Int) (l:List Sh) (k:Nat) (h:k<l.length) (hc:¬wrap64 (now-l[k].2.1)<=30):B9 now (l.take (k+1))=B9 now (l.take k):=by rw [Qb now l k h,if_neg hc,List.append_nil]
def A5y (l:List Sh) (x:Sh):Bool:=l.any λ y=>decide (y=x)
theorem O7 (l:List Sh) (x:Sh):A5y l x=true↔x∈l:=by simp [A5y]
def Ch (l:List Sh) (m now:Int) (x:Sh):List Sh×Int:=
 if J4 now x.2.1=false then (l,11) else if A5y l x=true then (l,14) else if m<=(B9 now l).length then (B9 now l,8) else (B9 now l++ [x],0)
theorem Rq (F:Nat->Prop) (p:Nat) (l:List Sh) (m now:Int) (x:Sh) (w:bN) (h:Nu w F p l m) (hn:J4 now x.2.1=true) (hl:l.length<=64): bO aA 104 #[.pointer (some ⟨p,0,none⟩),.int .i64 now,.string x.1,.int .i64 x.2.1,.int .i64 x.2.2] w λ e w'=> e=.returned (.int .i64 (Ch l m now x).2)/\Nu w' (λ k=>F k\/w.heap.size<=k) p (Ch l m now x).1 m/\Ai (λ k=>k=p\/w.heap.size<=k) w w':=by
 obtain ⟨hF,va,hb,hs,hne,hFa⟩:=h;obtain ⟨a,cap,rfl,hcap,hcm⟩:=hs.form;have h0:=hb.cell 0;have h1:=hb.cell 1;have hfz:=hb.frozen;have hpl:=hb.lt;have heq:=Uk;simp only [bC,aO] at h0 h1;go_enter aZ,bA;go_wp2_with (go_at_call 87; refine (Su _ _ _).mono ?_; rintro e w' ⟨rfl,rfl⟩);go_loopw [12,33] (λ v i wr=>∃k:Nat,k<=l.length/\i=.int .i64 k/\Own wr (w.heap.size+1) 325 3 v (B9 now (l.take k)).length (Ct (B9 now (l.take k)))/\x∉l.take k/\
  Below w.heap.size w wr/\wr.heap[w.heap.size]?=some (.cells #[.string x.1,.int .i64 x.2.1,.int .i64 x.2.2] 325 (0,0))/\(∀b,v.ownBlock=some b->b≠p/\(F b\/w.heap.size<=b))) (λ _ i _=>l.length- (intOf i).toNat)
 case atStart=>exact ⟨0,Nat.zero_le _,rfl,by simpa [B9,Ct] using Own.nil _ _ _ _ _,by simp,(Below.refl _ _).alloc (aB _) _,heap_alloc_new _ _,λ b h=>⟨λ e=>hne ((P7 a _ _ _ _).trans (e▸h)),.inl (hFa b ((P7 a _ _ _ _).trans h))⟩⟩
 case round=>
  obtain ⟨k,hk,rfl,hown,hnot,hbel,hx,hvb⟩:=hrel;have hsz:=hbel.size;have hxl:=Hg hx;have hx0:wr.cell? ⟨w.heap.size,0,none⟩=some (.string x.1):=by simp [bN.cell?,hx]
  have hx1:wr.cell? ⟨w.heap.size,1,none⟩=some (.int .i64 x.2.1):=by simp [bN.cell?,hx]
  have hx2:wr.cell? ⟨w.heap.size,2,none⟩=some (.int .i64 x.2.2):=by simp [bN.cell?,hx]
  have HX:=Ab hx;have HN:=Ab hnot;clear hx hnot;by_cases hlt:k<l.length
  . obtain ⟨b,off,rfl,hc⟩:=hs.addr (by rw [Ta]; omega);obtain ⟨e0,e1,e2⟩:=S9 l k hlt;have c0:=Bj hbel (hc _ _ e0);have c1:wr.cell? ⟨b,off+k*3+1,none⟩=_:=Bj hbel (hc _ _ e1);have c2:wr.cell? ⟨b,off+k*3+2,none⟩=_:=Bj hbel (hc _ _ e2);have HS:=Ab hs;have HB:=Ab hb;clear hc e0 e1 e2 hs hb
    cases hE:A0u l[k].1 l[k].2.1 l[k].2.2 x.1 x.2.1 x.2.2 with
    | true=>
     have HM:Hq (Ch l m now x=(l,14)):=by
      have:x∈l:=(Vm l[k] x).1 hE▸List.getElem_mem hlt;exact Ab (by rw [Ch,if_neg (by simp [hn]),if_pos ((O7 l x).2 this)])
     go_wp2_with fail;go_ret;rw [HM.o];exact ⟨rfl,⟨.inl hF,_,(HB.o.below hbel hpl).alloc _,(HS.o.below hbel).alloc _,hne,λ b h=>.inl (hFa b h)⟩,(Ai.of_below (hbel.alloc (by omega) _)).mono (λ k hk=>.inr hk)⟩
    | false=>
     have HK1:=Ab (A0w now l k hlt);have HK2:=Ab (A0v now l k hlt);have HNE:x∉l.take (k+1):=I8 x l k hlt HN.o (λ e=>by have:=(Vm l[k] x).2 e; rw [hE] at this; exact absurd this (by simp));have hkl:=Vn now (l.take k);have hkt:(l.take k).length<=k:=List.length_take_le _ _;have HN1:=Ab HNE;clear HNE;by_cases hK:wrap64 (now-l[k].2.1)<=30
     . go_wp2_with (at_builtin; go_loud (refine Nr rfl (.tmp 45) (.tmp 47) A2O rfl (w.heap.size+1) ((hown.alloc _).alloc _) (Sl.lit ?c0 ?c1 ?c2 ?c3) ?c4 ?c5 ?c6 ?_))
       case c2=>exact ⟨rfl,rfl,rfl⟩
       case c3=>decide
       case c4=>unfold maxLen; omega
       case c5=>omega
       case c6=>omega
       intro v' w' hown' hk' hvb';have HV:Hq (∀b,v'.ownBlock=some b->b≠p/\(F b\/w.heap.size<=b)):=Ab (by
        intro b' hb';rcases hvb' b' hb' with h | h
        . exact hvb b' h
        . exact ⟨by omega,.inr (by omega)⟩)
       clear hvb hvb';have HR:Hq (Own w' (w.heap.size+1) 325 3 v' (B9 now (l.take (k+1))).length (Ct (B9 now (l.take (k+1))))):=by
        refine Ab ?_;rw [HK1.o hK,S8];simpa [Ct,Sh.cells] using hown'
       have hb2:Below w.heap.size w w':=by
        refine ((hbel.alloc (by omega) _).alloc (by simp; omega) _).trans (hk'.below ?_);intro k' hk2;rcases hk2 with ⟨_,h⟩ | h
        . omega
        . omega
       have hx':Hq (w'.heap[w.heap.size]?=some (.cells #[.string x.1,.int .i64 x.2.1,.int .i64 x.2.2] 325 (0,0))):=by
        have q:Blk wr w.heap.size [.string x.1,.int .i64 x.2.1,.int .i64 x.2.2] 325:=HX.o;exact Ab (((q.alloc _).alloc _).keep hk' (by rintro (⟨_,h⟩ | h) <;> omega))
       clear hown' hk' hown hbel hsz hxl hx0 hx1 hx2 c0 c1 c2;go_wp2;go_roundw
       case rel=>exact ⟨k+1,by omega,by go_num,HR.o,HN1.o,hb2,hx'.o,HV.o⟩
       case measure=>simp [intOf]; omega
     . go_wp2_with fail;go_roundw
       case rel=>exact ⟨k+1,by omega,by go_num,by rw [HK2.o hK]; exact hown.alloc _,HN1.o,hbel.alloc (by omega) _,by rw [Below.heap_alloc _ _ _ (by omega)]; exact HX.o,hvb⟩
       case measure=>simp [intOf]; omega
  . obtain rfl:k=l.length:=by omega
    have hnot:x∉l:=by simpa using HN.o
    have hown':Own wr (w.heap.size+1) 325 3 u12 (B9 now l).length (Ct (B9 now l)):=by simpa using hown
    obtain ⟨a',cap',rfl,_,_⟩:=hown'.sl.form;have key:∀nq,Blk ((wr.setCell ⟨p,0,none⟩ (.slice a' (B9 now l).length cap')).drewN nq) p [.slice a' (B9 now l).length cap',.int .i64 m] 232/\
     Own ((wr.setCell ⟨p,0,none⟩ (.slice a' (B9 now l).length cap')).drewN nq) (w.heap.size+1) 325 3 (.slice a' (B9 now l).length cap') (B9 now l).length (Ct (B9 now l))/\
     Ai (λ k=>k=p\/w.heap.size<=k) w ((wr.setCell ⟨p,0,none⟩ (.slice a' (B9 now l).length cap')).drewN nq)/\
     Blk ((wr.setCell ⟨p,0,none⟩ (.slice a' (B9 now l).length cap')).drewN nq) w.heap.size [.string x.1,.int .i64 x.2.1,.int .i64 x.2.2] 325:=by
     intro nq;refine ⟨(hb.below hbel hpl).set 0 _,?_,?_,Blk.set_other (p:=⟨p,0,none⟩) HX.o (by simp; omega) _⟩
     . refine hown'.keep (S:=λ k=>k=p) ((Ai.one wr p 0 _).drewN nq) ?_;intro b hb' e;exact (hvb b hb').1 e
     . exact ((Ai.of_below hbel).mono (λ k h=>.inr h)).trans (((Ai.one wr p 0 _).mono (λ k h=>.inl h)).drewN nq)
    have p0:wr.cell? ⟨p,0,none⟩=_:=Bj hbel h0;have p1:wr.cell? ⟨p,1,none⟩=_:=Bj hbel h1;have pf:∀o,wr.frozen? ⟨p,o,none⟩=false:=λ o=>(hbel.frozen (p:=⟨p,o,none⟩) hpl).trans (hfz o)
    go_wp2_with fail;go_quiet (fail);obtain ⟨q1,q2,q3,q4⟩:=key nq;clear key p0 p1 pf hown hown' hx0 hx1 hx2;generalize (wr.setCell ⟨p,0,none⟩ (.slice a' (B9 now l).length cap')).drewN nq=w2 at q1 q2 q3 q4 ⊢;have Q1:=Ab q1;have hpl2:=q1.lt;have p0:=q1.cell 0;have p1:=q1.cell 1;have pf:=q1.frozen;have x0:=q4.cell 0;have x1:=q4.cell 1;have x2:=q4.cell 2;have hxl2:=q4.lt;simp only [bC,aO] at p0 p1 x0 x1 x2;clear q1 q4 hb h0 h1 HX;by_cases hfull:m<=((B9 now l).length:Int)
    . have HM:Hq (Ch l m now x=(B9 now l,8)):=Ab (by rw [Ch,if_neg (by simp [hn]),if_neg (λ e=>hnot ((O7 l x).1 e)),if_pos hfull]);go_wp2_with fail;go_ret;rw [HM.o];refine ⟨rfl,⟨.inl hF,_,Q1.o,q2.sl,?_,?_⟩,q3⟩
      . exact λ e=>(hvb p e).1 rfl
      . exact λ b hb=>(hvb b hb).2
    . have HM:Hq (Ch l m now x=(B9 now l++ [x],0)):=Ab (by rw [Ch,if_neg (by simp [hn]),if_neg (λ e=>hnot ((O7 l x).1 e)),if_neg hfull]);have hkl:=Vn now l;go_wp2_with fail;have fin:∀(wq:bN) (va':bM),Own wq (w.heap.size+1) 325 3 va' ((B9 now l).length+1) (Ct (B9 now l)++x.cells)->
       Ai (λ k=>(bM.slice a' (B9 now l).length cap').ownBlock=some k/\w.heap.size+1<=k\/w2.heap.size<=k) w2 wq->(∀b,va'.ownBlock=some b->(bM.slice a' (B9 now l).length cap').ownBlock=some b\/w2.heap.size<=b)->
       Nu (wq.setCell ⟨p,0,none⟩ va') (λ k=>F k\/w.heap.size<=k) p (B9 now l++ [x]) m/\Ai (λ k=>k=p\/w.heap.size<=k) w (wq.setCell ⟨p,0,none⟩ va')/\
       wq.cell? ⟨p,0,none⟩=some (.slice a' (B9 now l).length cap')/\wq.frozen? ⟨p,0,none⟩=false/\∃a2 c2,va'=.slice a2 ((B9 now l).length+1) c2:=by
       intro wq va' o1 o2 o3;have hsz2:=q3.size;have hbp:Blk wq p _ _:=Q1.o.keep o2 (by rintro (⟨h,_⟩ | h); exact (hvb p h).1 rfl; omega);have hvq:∀b,va'.ownBlock=some b->b≠p/\(F b\/w.heap.size<=b):=by
        intro b hb;rcases o3 b hb with h | h
        . exact hvb b h
        . exact ⟨by omega,.inr (by omega)⟩
       have hk1:Ai (λ k=>k=p\/w.heap.size<=k) w wq:=q3.trans (o2.mono (by rintro k (⟨_,h⟩ | h) <;> exact .inr (by omega)));obtain ⟨a2,c2,rfl,_⟩:=o1.sl.form;refine ⟨⟨.inl hF,_,hbp.set 0 _,?_,λ e=>(hvq p e).1 rfl,λ b hb=>(hvq b hb).2⟩,hk1.trans ((Ai.one wq p 0 _).mono (λ k h=>.inl h)),hbp.cell 0,hbp.frozen 0,a2,c2,rfl⟩
       have:=o1.sl.setCell (p:=⟨p,0,none⟩) (λ e=>(hvq p e).1 rfl) (.slice a2 ((B9 now l).length+1) c2);simpa [Ct] using this
      have FIN:=Ab fin;clear fin
      go_region_law ((refine A5A rfl (.tmp 68) (.tmp 70) A2O rfl (w.heap.size+1) rfl ((q2.drew).alloc _) rfl (Sl.lit (by simp) rfl (by simp [bM.oneCell']) (by decide)) (by unfold maxLen; omega) (by omega) (by simp; omega) ?_; intro v' w' hown' hk' hvb'; obtain ⟨f1,f2,f3,f4,a2,c2,rfl⟩:=FIN.o w' v' hown' (Ai.trans ((Ai.alloc (Ai.drew (Ai.refl _ _)) _ (.inr (aB _)))) (hk'.mono (by rintro k (h | h); exact .inl h; exact .inr (by simp at h; omega)))) (by intro b hb; rcases hvb' b hb with h | h; exact .inl h; exact .inr (by simp at h; omega))))
      all_goals
       go_wp2_with fail;go_ret;rw [HM.o];exact ⟨rfl,by assumption,by assumption⟩
theorem T8 (F:Nat->Prop) (p:Nat) (l:List Sh) (m now:Int) (x:Sh) (w:bN) (h:Nu w F p l m) (hl:l.length<=64): bO aA 104 #[.pointer (some ⟨p,0,none⟩),.int .i64 now,.string x.1,.int .i64 x.2.1,.int .i64 x.2.2] w λ e w'=> e=.returned (.int .i64 (Ch l m now x).2)/\Nu w' (λ k=>F k\/w.heap.size<=k) p (Ch l m now x).1 m/\Ai (λ k=>k=p\/w.heap.size<=k) w w':=by
 cases hn:J4 now x.2.1 with
 | true=>exact Rq F p l m now x w h hn hl
 | false=>
  refine (T9 p now x w hn).mono ?_;rintro e w' ⟨rfl,rfl⟩;obtain ⟨h1,va,h2,h3,h4,h5⟩:=h;have e:Ch l m now x=(l,11):=by rw [Ch,if_pos hn]
  rw [e];exact ⟨rfl,⟨.inl h1,va,h2,h3,h4,λ b hb=>.inl (h5 b hb)⟩,Ai.refl _ _⟩
end Go.Proofs.YtcnfaghcjlhoiaaGreat
namespace Go.Proofs.YtcnfaghcjlhoiaaGreat
open Go.RowKit Go.Maps
theorem Fg:A3 aA 104 4:=A3.mk Tryz.underlying104 rfl (by kernel_rfl)
theorem Ew:A3 aA 110 4:=A3.mk Tryz.underlying110 rfl (by kernel_rfl)
def V0:List bM:= [.string ⟨#[]⟩,.string ⟨#[]⟩,.slice none 0 0,.slice none 0 0]
theorem Yl (n m:ByteArray) (a a2:Option Addr) (b b2 c c2:Nat):Tryz.prog.built 110 [(0,.string n),(1,.agg #[.string m,.slice a b c]),(2,.slice a2 b2 c2)]=some #[.string n,.string m,.slice a b c,.slice a2 b2 c2]:=by kernel_rfl
theorem A1o (k cl:Aa) (h:k.length=16) (fr un:Nat):Tryz.prog.built 200 [(0,.int .i64 4),(1,.agg (Ae k).toArray),(2,.string (tx cl)),(3,.int .i64 (fr:Int)),(4,.int .i64 (un:Int))]=some (Ins.cells ⟨4,k,cl,fr,un,0⟩).toArray:=by
 obtain ⟨c0,c1,c2,c3,c4,c5,c6,c7,c8,c9,c10,c11,c12,c13,c14,c15,rfl⟩:=By k h
 kernel_rfl
def Ax:Aa:= [107,100,99]
def Ut (s:PS) (nm:Aa) (now un lf rn:Nat):Ins:=⟨if rn=0 then 4 else 5,s.fresh.1,nm,now,min un (now+lf),if rn=0 then 0 else now+rn⟩
def A4p (s:PS) (K nm:Aa) (now un lf rn:Nat):Aa×PS:=s.fresh.2.shut K 2 (As 2 (Ut s nm now un lf rn).fds)
def A1j (s:PS) (K nm uk:Aa) (no now un lf rn:Nat):Aa×PS:=(A4p s K nm now un lf rn).2.shut uk 3 (As 3 ((Ut s nm now un lf rn).rep no Ax))
def A4f (kp q bp:Nat) (s:PS) (K:Aa) (L:List Us) (nm uk:Aa) (no now un lf rn:Nat) (l:List Res) (e:Ending) (w':bN):Prop:=
 ∃y z,e=.returned (.tuple #[.agg #[.string (tx nm),.string (tx Ax),y,z],.int .i64 0])/\
  Ad w' (.row y (A4p s K nm now un lf rn).1::.row z (A1j s K nm uk no now un lf rn).1::Ck kp s.knd q bp K::Bg bp L::pvR q (A1j s K nm uk no now un lf rn).2::l)
theorem U7 (kp q bp:Nat) (s:PS) (K:Aa) (L:List Us) (u:Us) (nm:Aa) (no now un lf rn t1 t2:Nat) (pv:bM) (pf:Aa) (l:List Res) (w:bN) (h:Ad w (Ck kp s.knd q bp K::Bg bp L::pvR q s::l)) (hs:s.sz<1099511627000) (hK:K.length=16) (hL:Fc L) (hl:L.length<=32) (hg:Qm L (tx nm)=u.cells) (he:Qn L (tx nm)=0) (hun:u.name=tx nm) (hnl:nm.length<=200) (hnr:Au (tx nm)=true) (hlf:u.life=lf) (hrn:u.renew=rn) (hpf:s.Opn u.key 1 pf (As 5 [.n t1,.n t2])) (hv:∀W,Ad W l->Bs W pv pf) (ht1:t1<=1099511627776) (ht2:t2<=1099511627776) (hnear:J4 now t1=true) (hlt:now<un) (hu2:un<=1099511627776) (hno:no<=1099511627776) (hl1:lf<=100000) (hr1:rn<=100000) (hnw:now<=1000000000000): bO aA 36 #[.pointer (some ⟨kp,0,none⟩),.int .i64 now,.agg #[.string (tx nm),.int .i64 no,.int .i64 un,pv]] w (A4f kp q bp s K L nm u.key no now un lf rn l):=by
 obtain ⟨i,hi⟩:∃i,i=Ut s nm now un lf rn:=⟨_,rfl⟩
 have hiok:i.Ok:=by
  rw [hi];exact ⟨by show (if rn=0 then 4 else 5)<=_; split <;> decide,PS.fresh_len s,hnl,hnr,by show now<=_; omega,by show min un (now+lf)<=_; omega,by show (if rn=0 then 0 else now+rn)<=_; split <;> omega⟩
 have HGET:=Ab (λ (w:bN) (l:List Res) (h:Ad w (Bg bp L::l))=>A0T bp L (tx nm) l w h hL hl);rw [hg,he] at HGET;have HOPN:=Ab (λ (w:bN) (l:List Res) (h:Ad w (pvR q s::l)) (hv:∀W,Ad W l->Bs W pv pf)=>Tn q s u.key 1 pf pv t1 t2 l w h u.kl (by decide) (by omega) hpf hv ht1 ht2 (by have:=L4 5 [.n t1,.n t2]; generalize As 5 [.n t1,.n t2]=P at*; simp [N6] at this; omega));have HFR:=Ab (λ (w:bN) (l:List Res) (h:Ad w (pvR q s::l))=>Hl q s l w h (by omega));have hs1:s.fresh.2.sz<1099511627770:=by have:=(PS.gr_fresh s).sz; omega
 have HGIVE:=Ab (λ (w:bN) (l:List Res) (h:Ad w (Ck kp s.knd q bp K::pvR q s.fresh.2::l))=>Pr kp q bp s.fresh.2 K Ax K i no u.key 3 l w (by rw [PS.knd_fresh]; exact h) hs1 hiok hK u.kl hno (by decide) (by decide+kernel) (by decide));unfold Qw at HGIVE;rw [PS.knd_fresh] at HGIVE;unfold A4f A1j A4p;rw [<-hi];unfold Ut at hi;obtain ⟨mn,hmn⟩:∃mn,mn=min un (now+lf):=⟨_,rfl⟩
 rw [<-hmn] at hi;obtain ⟨⟨k1,s1⟩,hf⟩:∃x,x=s.fresh:=⟨_,rfl⟩
 rw [<-hf] at HFR HGIVE hi ⊢;simp only at HFR HGIVE ⊢;obtain ⟨⟨bx1,s2⟩,hx1⟩:∃x,x=s1.shut K 2 (As 2 i.fds):=⟨_,rfl⟩
 rw [<-hx1] at HGIVE ⊢;simp only at HGIVE ⊢;obtain ⟨⟨bx2,s3⟩,hx2⟩:∃x,x=s2.shut u.key 3 (As 3 (i.rep no Ax)):=⟨_,rfl⟩
 rw [<-hx2] at HGIVE ⊢;simp only at HGIVE ⊢;have hk1:k1.length=16:=by have:=PS.fresh_len s; rw [<-hf] at this; exact this
 have HNEAR:=Ab (Su now t1);rw [hnear] at HNEAR;have HUL:Hq (u.cells.length=20):=Ab u.cells_length;have HUO:=Ab u.cells_one;have HUK:Hq ((Ae u.key).length=16):=Ab (by rw [Ac,u.kl]);obtain ⟨UC,hUC⟩:∃x,x=u.cells:=⟨_,rfl⟩
 rw [<-hUC] at HGET HUL HUO;have HU0:Hq (UC[0]?=some (.string (tx nm))):=Ab (by rw [hUC,<-hun]; rfl);have HUE:Hq ((UC.drop 1).take 16=Ae u.key):=Ab (by rw [hUC]; simp [Us.cells,aL,aI,Ac,u.kl]);have HU2:Hq (UC[17]?=some (.int .i64 (lf:Int))):=Ab (by rw [hUC,<-hlf]; simp [Us.cells,aH,Ac,u.kl]);have HU3:Hq (UC[18]?=some (.int .i64 (rn:Int))):=Ab (by rw [hUC,<-hrn]; simp [Us.cells,aH,Ac,u.kl]);obtain ⟨IC0,hIC0⟩:∃x,x=Ins.cells ⟨4,k1,nm,now,mn,0⟩:=⟨_,rfl⟩
 have HB0:=Ab (A1o k1 nm hk1 now mn);rw [<-hIC0] at HB0;have hok0:Ins.Ok ⟨4,k1,nm,now,mn,0⟩:=⟨by show 4<=_; decide,hk1,hnl,hnr,by show now<=_; omega,by show mn<=_; omega,by show 0<=_; decide⟩;have HI0L:Hq (IC0.length=21):=Ab (by rw [hIC0]; exact Ins.cells_length hok0);have HI0O:Hq (∀u∈IC0,u.oneCell'=true):=Ab (by rw [hIC0]; exact Ins.cells_one _);have HI00:Hq (IC0[0]?=some (.int .i64 4)):=Ab (by rw [hIC0]; rfl);have HI20:Hq (IC0[20]?=some (.int .i64 0)):=Ab (by rw [hIC0]; simp [Ins.cells,aH,Ac,hk1]);have HIS:Hq (0<rn->(IC0.set 0 (.int .i64 5)).set 20 (.int .i64 ((now:Int)+(rn:Int)))=i.cells):=Ab (λ h=>by
  rw [hIC0,hi,if_neg (by omega),if_neg (by omega)];obtain ⟨c0,c1,c2,c3,c4,c5,c6,c7,c8,c9,c10,c11,c12,c13,c14,c15,rfl⟩:=By k1 hk1;simp [Ins.cells,Ae])
 have HIS0:Hq (rn=0->IC0=i.cells):=Ab (λ h=>by rw [hIC0,hi,if_pos h,if_pos h]);have HIL:Hq (i.cells.length=21):=Ab (Ins.cells_length hiok);obtain ⟨IC,hIC⟩:∃x,x=i.cells:=⟨_,rfl⟩
 rw [<-hIC] at HIS HIS0 HIL HGIVE;have HKK:Hq ((Ae K).length=16):=Ab (by rw [Ac,hK]);have hkc:Hz s.knd q bp K= [.iface (pvT s) (.pointer (some ⟨q,0,none⟩)),.pointer (some ⟨bp,0,none⟩)]++Ae K:=by rw [Hz,Bf rfl]; rfl
 unfold Ck at h HGIVE;obtain ⟨KC,hKC⟩:∃x,x=Hz s.knd q bp K:=⟨_,rfl⟩
 have HKC:=Ab hKC;rw [<-hKC] at h hkc HGIVE;have HC0:Hq (KC[0]?=some (.iface (pvT s) (.pointer (some ⟨q,0,none⟩)))):=Ab (by rw [hkc]; rfl);have HC1:Hq (KC[1]?=some (.pointer (some ⟨bp,0,none⟩))):=Ab (by rw [hkc]; rfl);have HCE:Hq ((KC.drop 2).take 16=Ae K):=Ab (by rw [hkc]; simp [aI,Ac,hK]);have HV:=Ab hv;obtain ⟨va,vc,rfl,_,hvm⟩:=(hv _ h.tail.tail.tail).form;have hmin:(if (now:Int)+(lf:Int)< (un:Int) then (now:Int)+(lf:Int) else (un:Int))=(mn:Int):=by split <;> omega
 have HMIN:=Ab hmin;have HLT:=Ab hlt;have w1x:bP.i64.wrap ((now:Int)+(lf:Int))=(now:Int)+(lf:Int):=by rw [bP.wrap_i64]; omega
 have w2x:bP.i64.wrap ((now:Int)+(rn:Int))=(now:Int)+(rn:Int):=by rw [bP.wrap_i64]; omega
 have W1:=Ab w1x;have W2:=Ab w2x;have HC:=Ab ((h.addBlkAt [.string (tx nm),.int .i64 no,.int .i64 un,.slice va pf.length vc] 104 (b:=w.heap.size) rfl).addBlkAt V0 110 (b:=w.heap.size+1) (by simp));have g1:=λ j a w=>Fy s j a "Fresh" (by simp) w
 have g2:=λ j a w=>L6 s j a w
 have g3:∀(args:Array bM) (w:bN),(callFunc (Dc s) args).run aA w=.ok (.enter (Dc s) args) w:=Lh s
 clear hmn hi h hs hK hL hl hg he hun hnl hnr hlf hrn hpf hv ht1 ht2 hnear hlt hu2 hno hl1 hr1 hnw hiok hs1 hx1 hx2 hk1 hUC hIC0 hok0 hIC hkc hKC hmin w1x w2x hvm;unfold pvV A1 at*;go_enter Tryz.func36,Tryz.ntmps36;go_upto_region 1 with fail;go_cut [8,9] from 14 to 24 (λ v8 v9 wx=>∃b8,v8=.pointer (some ⟨b8,0,none⟩)/\v9=.int .i64 0/\Ad wx (.blk b8 UC 164::.blk (w.heap.size+1) V0 110::.blk (w.heap.size) [.string (tx nm),.int .i64 no,.int .i64 un,.slice va pf.length vc] 104::.blk kp KC 160::Bg bp L::pvR q s::l))
 case first=>
  refine zG (λ b W=>W.cell? ⟨kp,1,none⟩=some (.pointer (some ⟨bp,0,none⟩))/\W.cell? ⟨w.heap.size,0,none⟩=some (.string (tx nm))) HC.o λ W hc=>?_
  have HC:=Ab hc;clear hc;refine zT 0 ?_;refine zT 1 ?_;refine zT 2 ?_;refine zT 3 ?_;refine zT 4 ?_;refine zT 5 ?_;refine Ca (rs:= [6,10]) (by decide+kernel) (by simp) ?_;refine zC (λ K hK=>?_) (zC (λ K hK=>?_) En)
  . go_simp;refine (HGET.o _ _ (HC.o.zP [3])).mono ?_;rintro e w1 ⟨rfl,hb⟩;have HC:=Ab ((HC.o.zP [3]).step hb);clear hb;refine zq hK ?_;clear hK K;refine zT 7 ?_;refine zT 8 ?_;refine zT 9 ?_;refine zJ 10 λ K hK=>?_
    go_simp;have HC:=Ab (HC.o.addBlkAt zsU 164 (b:=w1.heap.size) (by simp));refine zq hK ?_;clear hK K;refine zJ 11 λ K hK=>?_
    refine zWo Qy HUO.o HC.o ?_ (hm:=HUL.o);intro w2 HC;refine zq hK ?_;clear hK K;refine zT 12 ?_;refine zD ?_;go_wp2_with fail;go_meet;exact ⟨_,rfl,rfl,(HC.o.zP [0,1,1,1])⟩
  . go_simp;have HC:=Ab (HC.o.addBlkAt zsU 164 (b:=W.heap.size) (by simp));refine zq hK ?_;clear hK K;refine zJ 6 λ K hK=>?_
    go_simp;refine (HGET.o _ _ (HC.o.zP [4])).mono ?_;rintro e w1 ⟨rfl,hb⟩;have HC:=Ab ((HC.o.zP [4]).step hb);clear hb;refine zq hK ?_;clear hK K;refine zT 7 ?_;refine zT 8 ?_;refine zT 9 ?_;refine zJ 11 λ K hK=>?_
    refine zWo Qy HUO.o (HC.o.zP [1]) ?_ (hm:=HUL.o);intro w2 HC;refine zq hK ?_;clear hK K;refine zT 12 ?_;refine zD ?_;go_wp2_with fail;go_meet;exact ⟨_,rfl,rfl,(HC.o.zP [0,1,1,1])⟩
 case rest=>
  obtain ⟨b8,rfl,rfl,hc⟩:=hcut;have HC:=Ab hc;clear hc;go_upto_region 4 with fail;go_cut [9,10] from 28 to 40 (λ v9 v10 wx=>∃b10,v9=.int .i64 0/\v10=.pointer (some ⟨b10,0,none⟩)/\Ad wx (.blk b10 [.int .i64 (t1:Int),.int .i64 (t2:Int)] 130::.blk b8 UC 164::.blk (w.heap.size+1) V0 110::.blk (w.heap.size) [.string (tx nm),.int .i64 no,.int .i64 un,.slice va pf.length vc] 104::.blk kp KC 160::Bg bp L::pvR q s::l))
  case first=>
   refine zG (λ b W=>W.cell? ⟨kp,0,none⟩=some (.iface (pvT s) (.pointer (some ⟨q,0,none⟩)))/\Ao W b8 1 (Ae u.key)/\W.cell? ⟨w.heap.size,3,none⟩=some (.slice va pf.length vc)) HC.o λ W hc=>?_
   have HC:=Ab hc;clear hc;refine zT 0 ?_;refine zT 1 ?_;refine zT 2 ?_;refine zT 3 ?_;refine zT 4 ?_;refine zT 5 ?_ (hr:=λ _ _ _ hW=>ldJ Aq rfl HUK.o hW.2.1);refine zT 6 ?_;refine zT 7 ?_;refine Ca (rs:= [8,12]) (by decide+kernel) (by simp) ?_;refine zC (λ K hK=>?_) (zC (λ K hK=>?_) En)
   . go_simp;refine (HOPN.o _ _ (HC.o.zP [5]) (λ W hW=>HV.o W hW.tail.tail.tail.tail.tail)).mono ?_;rintro e w1 ⟨rfl,hc⟩;have HC:=Ab hc;clear hc;refine zq hK ?_;clear hK K;refine zT 9 ?_;refine zT 10 ?_;refine zT 11 ?_;refine zJ 12 λ K hK=>?_
     go_simp;have HC:=Ab (HC.o.addBlkAt A2E 130 (b:=w1.heap.size) (by simp));refine zq hK ?_;clear hK K;refine zJ 13 λ K hK=>?_
     refine zW Gg HC.o ?_;intro w2 HC;refine zq hK ?_;clear hK K;refine zT 14 ?_;refine zD ?_;go_wp2_with fail;go_meet;exact ⟨_,rfl,rfl,(HC.o.zP [0,1,1,1,1,1])⟩
   . go_simp;have HC:=Ab (HC.o.addBlkAt A2E 130 (b:=W.heap.size) (by simp));refine zq hK ?_;clear hK K;refine zJ 8 λ K hK=>?_
     go_simp;refine (HOPN.o _ _ (HC.o.zP [6]) (λ W hW=>HV.o W hW.tail.tail.tail.tail.tail.tail)).mono ?_;rintro e w1 ⟨rfl,hc⟩;have HC:=Ab hc;clear hc;refine zq hK ?_;clear hK K;refine zT 9 ?_;refine zT 10 ?_;refine zT 11 ?_;refine zJ 13 λ K hK=>?_
     refine zW Gg (HC.o.zP [1]) ?_;intro w2 HC;refine zq hK ?_;clear hK K;refine zT 14 ?_;refine zD ?_;go_wp2_with fail;go_meet;exact ⟨_,rfl,rfl,(HC.o.zP [0,1,1,1,1,1])⟩
  case rest=>
   obtain ⟨b10,rfl,rfl,hc⟩:=hcut;have HC:=Ab hc;clear hc;have c1:wc.cell? ⟨b10,0,none⟩=some (.int .i64 (t1:Int)):=(HC.o.zB b10).cell 0;have c2:wc.cell? ⟨w.heap.size,2,none⟩=some (.int .i64 (un:Int)):=(HC.o.zB w.heap.size).cell 2;have hd:¬(un:Int)<=(now:Int):=by have:=HLT.o; omega
   have hd2:¬un<=now:=by have:=HLT.o; omega
   go_upto_region 11 with fail;refine (HNEAR.o _).mono ?_;rintro e w1 ⟨rfl,rfl⟩;go_upto_region 11 with fail;clear c1 c2 hd hd2;go_cut [11] from 57 to 73 (λ v11 wx=>∃b11,v11=.pointer (some ⟨b11,0,none⟩)/\Ad wx (.blk b11 IC0 200::.blk b10 [.int .i64 (t1:Int),.int .i64 (t2:Int)] 130::.blk b8 UC 164::.blk (w.heap.size+1) V0 110::.blk (w.heap.size) [.string (tx nm),.int .i64 no,.int .i64 un,.slice va pf.length vc] 104::.blk kp KC 160::Bg bp L::pvR q s1::l))
   case first=>
    refine zG (λ b W=>W.cell? ⟨kp,0,none⟩=some (.iface (pvT s) (.pointer (some ⟨q,0,none⟩)))/\W.cell? ⟨b8,0,none⟩=some (.string (tx nm))/\W.cell? ⟨w.heap.size,2,none⟩=some (.int .i64 (un:Int))/\W.cell? ⟨b8,17,none⟩=some (.int .i64 (lf:Int))) HC.o λ W hc=>?_
    have HC:=Ab hc;clear hc;refine zT 0 ?_;refine zT 1 ?_;refine zT 2 ?_;refine zT 3 ?_;refine zT 5 ?_;refine zT 6 ?_;refine zT 7 ?_;refine zT 8 ?_;refine zT 9 ?_;refine zT 10 ?_;refine zT 11 ?_;refine zT 12 ?_;refine zT 13 ?_ (v:=.int .i64 ((now:Int)+(lf:Int))) (hr:=λ _ _ _ hW=>by have:=W1.o; go_simp);refine zT 14 ?_ (v:=.int .i64 (mn:Int)) (hr:=λ _ _ _ hW=>by have:=HMIN.o; go_simp);refine Ca (rs:= [4,16]) (by decide+kernel) (by simp) ?_;refine zC (λ K hK=>?_) (zC (λ K hK=>?_) En)
    . go_simp;refine (HFR.o _ _ (HC.o.zP [6])).mono ?_;rintro e w1 ⟨rfl,hc⟩;have HC:=Ab hc;clear hc;refine zq hK ?_;clear hK K;refine zT 15 ?_ (v:=.agg IC0.toArray) (hr:=λ l W hk hW=>Gh (by simp only [aJ,aC,aK]; rfl) HB0.o W);refine zJ 16 λ K hK=>?_
      go_simp;have HC:=Ab (HC.o.addBlkAt Jm 200 (b:=w1.heap.size) (by simp));refine zq hK ?_;clear hK K;refine zJ 17 λ K hK=>?_
      refine zWo Bz HI0O.o HC.o ?_ (hm:=HI0L.o);intro w2 HC;refine zq hK ?_;clear hK K;refine zD ?_;go_wp2_with fail;go_meet;exact ⟨_,rfl,(HC.o.zP [0,1,1,1,1,1,1])⟩
    . go_simp;have HC:=Ab (HC.o.addBlkAt Jm 200 (b:=W.heap.size) (by simp));refine zq hK ?_;clear hK K;refine zJ 4 λ K hK=>?_
      go_simp;refine (HFR.o _ _ (HC.o.zP [7])).mono ?_;rintro e w1 ⟨rfl,hc⟩;have HC:=Ab hc;clear hc;refine zq hK ?_;clear hK K;refine zT 15 ?_ (v:=.agg IC0.toArray) (hr:=λ l W hk hW=>Gh (by simp only [aJ,aC,aK]; rfl) HB0.o W);refine zJ 17 λ K hK=>?_
      refine zWo Bz HI0O.o (HC.o.zP [1]) ?_ (hm:=HI0L.o);intro w2 HC;refine zq hK ?_;clear hK K;refine zD ?_;go_wp2_with fail;go_meet;exact ⟨_,rfl,(HC.o.zP [0,1,1,1,1,1,1])⟩
   case rest=>
    obtain ⟨b11,rfl,hc⟩:=hcut;have HC:=Ab hc;clear hc;have c0:=((HC.o.zB b8).cell 18).trans HU3.o
    go_upto_if 75 with fail;go_cut [] from 75 to 85 (λ wx=>Ad wx (.blk b11 IC 200::.blk b10 [.int .i64 (t1:Int),.int .i64 (t2:Int)] 130::.blk b8 UC 164::.blk (w.heap.size+1) V0 110::.blk (w.heap.size) [.string (tx nm),.int .i64 no,.int .i64 un,.slice va pf.length vc] 104::.blk kp KC 160::Bg bp L::pvR q s1::l))
    case first=>
     by_cases hz:rn=0
     . skip;have hd:¬(0:Int)< (rn:Int):=by omega
       have h5:=HC.o;rw [HIS0.o hz] at h5;have HC:=Ab h5;clear h5 hz;go_wp2_with fail;go_meet;exact HC.o
     . skip;have hI:=HC.o.blk0;have c1:=(hI.cell 0).trans HI00.o;have f1:=hI.frozen 0;have c3:=(hI.cell 20).trans HI20.o;have f2:=hI.frozen 20;have l1:=hI.lt;have hd:(0:Int)< (rn:Int):=by omega
       have hd2:0<rn:=by omega
       have w2x:=W2.o;go_wp2_with fail;go_meet;have h5:=(HC.o.set 0 (.int .i64 5)).set 20 (.int .i64 ((now:Int)+(rn:Int)));rw [HIS.o hd2] at h5;exact h5
    case rest=>
    have HC:=Ab hcut;clear c0;go_upto_region 15 with fail;go_cut [9,12,13] from 85 to 100 (λ v9 v12 v13 wx=>∃b12 ya yc za zc,v9=.int .i64 0/\v12=.pointer (some ⟨b12,0,none⟩)/\v13=.slice za bx2.length zc/\Ad wx (.blk b12 [.string (tx Ax),.slice ya bx1.length yc] 108::.row (.slice za bx2.length zc) bx2::.row (.slice ya bx1.length yc) bx1::.blk b8 UC 164::.blk (w.heap.size+1) V0 110::.blk kp KC 160::Bg bp L::pvR q s3::l))
    case first=>
     refine zG (λ b W=>Ao W kp 2 (Ae K)/\Ao W b11 0 IC/\W.cell? ⟨w.heap.size,1,none⟩=some (.int .i64 (no:Int))/\Ao W b8 1 (Ae u.key)) HC.o λ W hc=>?_
     have HC:=Ab hc;clear hc;refine zT 0 ?_;refine zT 1 ?_;refine zT 2 ?_;refine zT 3 ?_;refine zT 4 ?_ (hr:=λ _ _ _ hW=>ldJ Aq rfl HKK.o hW.1);refine zT 5 ?_ (hr:=λ _ _ _ hW=>ldJ Bz rfl HIL.o hW.2.1);refine zT 6 ?_;refine zT 7 ?_;refine zT 8 ?_;refine zT 9 ?_ (hr:=λ _ _ _ hW=>ldJ Aq rfl HUK.o hW.2.2.2);refine Ca (rs:= [10,15]) (by decide+kernel) (by simp) ?_;refine zC (λ K hK=>?_) (zC (λ K hK=>?_) En)
     . go_simp;refine (HGIVE.o _ _ (HC.o.zP [5,6])).mono ?_;rintro e w1 ⟨y,z,rfl,hc⟩;obtain ⟨ya,yc,rfl,_,_⟩:=(hc.rowOf (v:=y) (b:=bx1) (by simp)).form;obtain ⟨za,zc,rfl,_,_⟩:=(hc.rowOf (v:=z) (b:=bx2) (by simp)).form;have HC:=Ab hc;clear hc;refine zq hK ?_;clear hK K;refine zT 11 ?_;refine zT 12 ?_;refine zT 13 ?_;refine zT 14 ?_;refine zJ 15 λ K hK=>?_
       go_simp;have HC:=Ab (HC.o.addBlkAt zs2 108 (b:=w1.heap.size) (by simp));refine zq hK ?_;clear hK K;refine zJ 16 λ K hK=>?_
       refine zW Bc HC.o ?_;intro w2 HC;refine zq hK ?_;clear hK K;refine zT 17 ?_;refine zT 18 ?_;refine zD ?_;go_wp2_with fail;go_meet;exact ⟨_,_,_,_,_,rfl,rfl,rfl,(HC.o.zP [5,5,7,0,0,1,2,2,1,1]).tail.tail.tail⟩
     . go_simp;have HC:=Ab (HC.o.addBlkAt zs2 108 (b:=W.heap.size) (by simp));refine zq hK ?_;clear hK K;refine zJ 10 λ K hK=>?_
       go_simp;refine (HGIVE.o _ _ (HC.o.zP [6,7])).mono ?_;rintro e w1 ⟨y,z,rfl,hc⟩;obtain ⟨ya,yc,rfl,_,_⟩:=(hc.rowOf (v:=y) (b:=bx1) (by simp)).form;obtain ⟨za,zc,rfl,_,_⟩:=(hc.rowOf (v:=z) (b:=bx2) (by simp)).form;have HC:=Ab hc;clear hc;refine zq hK ?_;clear hK K;refine zT 11 ?_;refine zT 12 ?_;refine zT 13 ?_;refine zT 14 ?_;refine zJ 16 λ K hK=>?_
       refine zW Bc (HC.o.zP [4]) ?_;intro w2 HC;refine zq hK ?_;clear hK K;refine zT 17 ?_;refine zT 18 ?_;refine zD ?_;go_wp2_with fail;go_meet;exact ⟨_,_,_,_,_,rfl,rfl,rfl,(HC.o.zP [5,5,7,0,0,1,2,2,1,1]).tail.tail.tail⟩
    case rest=>
     obtain ⟨b12,ya,yc,za,zc,rfl,rfl,rfl,hc⟩:=hcut;have HC:=Ab hc;clear hc;have c0:=((HC.o.zB b8).cell 0).trans HU0.o;have HT:=Ab (HC.o.zB b12);have HC:=Ab (HC.o.zP [4]);go_wp2_with (first | ((with_reducible refine zw 106 ?_);refine Aj rfl (.tmp 12) Bc rfl rfl (cs:= [.string (tx Ax),.slice ya bx1.length yc]) rfl HT.o.cellsAll ?_) | ((with_reducible refine zw 108 ?_);refine De rfl rfl (pv:= [(0,.string (tx nm)),(1,.agg #[.string (tx Ax),.slice ya bx1.length yc]),(2,.slice za bx2.length zc)]) (by simp only [aJ,aC,aK]; rfl) (Yl _ _ _ _ _ _ _ _) ?_) | ((with_reducible refine zws 6 108 ?_);refine Ag rfl (.tmp 6) (.tmp 108) Ew rfl rfl (vs:= [.string (tx nm),.string (tx Ax),.slice ya bx1.length yc,.slice za bx2.length zc]) rfl rfl HC.o.blk0 (aB _) (by intro u hu; simp at hu; rcases hu with rfl | rfl | rfl | rfl <;> rfl) ?_));intro w4 h4 k4;have HC:=Ab (HC.o.stW (vs:= [.string (tx nm),.string (tx Ax),.slice ya bx1.length yc,.slice za bx2.length zc]) h4 k4 rfl);clear h4 k4 c0 HT;go_wp2_with fail;refine bodyPost_ret (Ap rfl Ew rfl rfl HC.o.blk0.cellsAll) rfl ⟨_,_,rfl,?_⟩;have h:=(HC.o.zP [0,0,2,1]).tail.tail.tail;rw [HKC.o] at h;exact h
     
def Fo (k:Aa):Nat:=C5 (k.drop 11)
theorem Xf {k:Aa} (h:k.length=16):Fo k<1099511627776:=by
 have:=I1 (k.drop 11);rw [List.length_drop,h] at this;exact this
theorem K0 (q:Nat) (s:PS) (l:List Res) (w:bN) (h:Ad w (pvR q s::l)) (hs:s.sz<1099511627776): bO aA 85 #[pvV s q] w λ e w'=>e=.returned (.int .i64 (Fo s.fresh.1:Int))/\Ad w' (pvR q s.fresh.2::l):=by
 have HC:=Ab h;have HFR:=Ab (λ (w:bN) (l:List Res) (h:Ad w (pvR q s::l))=>Hl q s l w h hs);have hkl:s.fresh.1.length=16:=PS.fresh_len s;obtain ⟨⟨k,s2⟩,hf⟩:∃x,x=s.fresh:=⟨_,rfl⟩
 rw [<-hf] at HFR hkl ⊢;simp only at HFR hkl ⊢;have hlt:=Xf hkl;have HKB:Hq ((Ae k).length=16):=Ab (by rw [Ac,hkl]);have HKL:=Ab hkl;have hgb:Fi (k.drop 11)=(Fo k,true):=by
  simp only [Fi,Fo];rw [if_neg (by simp [hkl])]
 have HGB:=Ab hgb;have wx:bP.i64.wrap (Fo k:Int)=(Fo k:Int):=by rw [bP.wrap_i64]; omega
 have g1:=λ j a w=>Fy s j a "Fresh" (by simp) w
 have g2:=λ j a w=>L6 s j a w
 have g3:∀(args:Array bM) (w:bN),(callFunc (Dc s) args).run aA w=.ok (.enter (Dc s) args) w:=Lh s
 clear h hs hkl hf hgb hlt;unfold pvV A1 at*;go_enter Tryz.func85,Tryz.ntmps85;go_wp2_with fail;refine (HFR.o _ _ HC.o).mono ?_;rintro e w1 ⟨rfl,hc⟩;have HC:=Ab (hc.addBlkAt Bo 46 (b:=w1.heap.size) rfl);clear hc;go_wp2_with ((with_reducible refine zws 3 7 ?_);refine Ag rfl (.tmp 3) (.tmp 7) Aq rfl rfl (vs:=Ae k) rfl HKB.o HC.o.blk0 (aB _) (Al _) ?_);intro w2 h2 k2;have HC:=Ab (HC.o.stW (vs:=Ae k) h2 k2 rfl);have HB:Hq (Bs w2 (.slice (some ⟨w1.heap.size,11,none⟩) 5 5) (k.drop 11)):=Ab (by
  have h:=HC.o.blk0.bs (off:=11) (n:=5) (cap:=5) (by rw [HKL.o]; decide) (aB _) (by unfold maxLen; decide);exact Sl.bs h (by rw [aI (by simp [HKL.o])]) (by simp [HKL.o]))
 clear h2 k2;go_wp2_with fail;refine (Mf _ _ _ HB.o).mono ?_;rintro e w3 ⟨rfl,rfl⟩;rw [HGB.o];go_wp2_with fail;go_ret;exact ⟨rfl,HC.o.tail⟩
end Go.Proofs.YtcnfaghcjlhoiaaGreat
namespace Go.Proofs.YtcnfaghcjlhoiaaGreat
open Go.RowKit
structure Cr where
 srv:ByteArray
 bv:bM
 box:Aa
 key:Aa
 flags:Int
 fin:Int
 renew:Int
def Cr.cells (c:Cr):List bM:=.string c.srv::c.bv::(Ae c.key++ [.int .i64 c.flags,.int .i64 c.fin,.int .i64 c.renew])
def Cr.zero:Cr:=⟨⟨#[]⟩,.slice none 0 0, [],aM 16 0,0,0,0⟩
def Cr.dat (c:Cr):ByteArray×Aa×Aa×Int×Int×Int:=(c.srv,c.box,c.key,c.flags,c.fin,c.renew)
theorem Cr.cells_length (c:Cr) (h:c.key.length=16):c.cells.length=21:=by simp [Cr.cells,Ac,h]
theorem Cr.c18 (c:Cr) (h:c.key.length=16):c.cells[18]?=some (.int .i64 c.flags):=by
 simp only [Cr.cells,aO];rw [aD (by rw [Ac]; omega),Ac,h];rfl
theorem Cr.c19 (c:Cr) (h:c.key.length=16):c.cells[19]?=some (.int .i64 c.fin):=by
 simp only [Cr.cells,aO];rw [aD (by rw [Ac]; omega),Ac,h];rfl
theorem Cr.ckey (c:Cr) (h:c.key.length=16):(c.cells.drop 2).take 16=Ae c.key:=by
 simp only [Cr.cells,List.drop_succ_cons,List.drop_zero];rw [aL (by rw [Ac]; omega),aI (by rw [Ac]; omega)]
theorem Cr.one (c:Cr) (h:c.bv.oneCell'=true):∀u∈c.cells,u.oneCell'=true:=by
 intro u hu;simp only [Cr.cells,aR,List.mem_append,aS,or_false] at hu;rcases hu with rfl | rfl | hu | rfl | rfl | rfl
 . rfl
 . exact h
 . exact Al _ u hu
 . rfl
 . rfl
 . rfl
def slC (o:Option Cr):Cr:=o.getD Cr.zero
def slB (o:Option Cr):bM:=.bool o.isSome
def slS (L:List (Option Cr)):List bM:=(L.map λ o=>(slC o).cells).flatten
def stC (L:List (Option Cr)):List bM:=slS L++L.map slB
def Be (w:bN) (F:Nat->Prop) (p:Nat) (L:List (Option Cr)):Prop:=
 F p/\L.length=16/\Blk w p (stC L) 214/\∀c,some c∈L->c.key.length=16/\Bs w c.bv c.box/\∀b,c.bv.ownBlock=some b->F b/\b≠p/\b<w.heap.size
theorem H8 {L:List (Option Cr)} (h:∀c,some c∈L->c.key.length=16):∀o∈L,(slC o).key.length=16:=by
 intro o ho
 cases o with
 | none=>simp [slC,Cr.zero]
 | some c=>exact h c ho
theorem D9:∀ {L:List (Option Cr)},(∀o∈L,(slC o).key.length=16)->(slS L).length=21*L.length
 | [],_=>rfl
 | o::L,h=>by
  have ih:=D9 (L:=L) (λ x hx=>h x (by simp [hx]));simp only [slS,aC,aP,bB,aT] at ih ⊢;rw [ih,Cr.cells_length _ (h o (by simp))];omega
theorem A6I {L:List (Option Cr)} (h:∀o∈L,(slC o).key.length=16) (k j:Nat) (hk:k<L.length) (hj:j<21):(slS L)[k*21+j]?=(slC L[k]).cells[j]?:=by
 induction L generalizing k with
 | nil=>simp at hk
 | cons o L ih=>
  have hc:=Cr.cells_length _ (h o (by simp));simp only [slS,aC,aP]
  cases k with
  | zero=>
   rw [bD,bE,bF (by omega)];rfl
  | succ k=>
   rw [aD (by omega),hc,show (k+1)*21+j-21=k*21+j by omega];exact ih (λ x hx=>h x (by simp [hx])) k (by simpa using hk)
theorem A6J {L:List (Option Cr)} (h:∀o∈L,(slC o).key.length=16) (k:Nat) (hk:k<L.length) (o:Option Cr):(slS L).take (k*21)++(slC o).cells++(slS L).drop (k*21+21)=slS (L.set k o):=by
 induction L generalizing k with
 | nil=>simp at hk
 | cons a L ih=>
  have hc:=Cr.cells_length _ (h a (by simp));simp only [slS,aC,aP]
  cases k with
  | zero=>
   rw [bD,List.take_zero,bE,bG (by omega),aV (by omega)];simp
  | succ k=>
   have ih:=ih (λ x hx=>h x (by simp [hx])) k (by simpa using hk);simp only [slS] at ih;rw [show (k+1)*21=(slC a).cells.length+k*21 by omega,List.take_length_add_append,Nat.add_assoc,List.drop_length_add_append,aN,aN,List.set_cons_succ];simp only [aC,aP];rw [<-ih];simp
theorem Do:A3 aA 116 21:=A3.mk Tryz.underlying116 rfl (by kernel_rfl)
theorem A5V:A3 aA 212 16:=A3.mk aW rfl (by kernel_rfl)
theorem Wx (p k:Nat) (hk:k<16) (w:bN):(Instr.indexAt 211 (.pointer (some ⟨p,0,none⟩)) (.int .i64 k)).run aA w=.ok (.pointer (some ⟨p,k*21,none⟩)) w:=by
 have hs:(sizeOf 116).run aA w=.ok 21 w:=by kernel_rfl
 simp [Instr.indexAt,run_underlying Tryz.underlying211,asIntOf,Instr.sureAddr,hs,hk,Addr.add_lit]
theorem A1O (p k:Nat) (hk:k<16) (w:bN):(Instr.indexAt 212 (.pointer (some ⟨p,336,none⟩)) (.int .i64 k)).run aA w=.ok (.pointer (some ⟨p,336+k,none⟩)) w:=by
 have hs:(sizeOf 4).run aA w=.ok 1 w:=by kernel_rfl
 simp [Instr.indexAt,run_underlying aW,asIntOf,Instr.sureAddr,hs,hk,Addr.add_lit]
theorem A0t (L:List (Option Cr)) (k:Nat) (hk:k<L.length) (hL:L.length=16) (w:bN):(Instr.index 212 (.agg (L.map slB).toArray) (.int .i64 k)).run aA w=.ok (slB L[k]) w:=by
 have hs:(sizeOf 4).run aA w=.ok 1 w:=by kernel_rfl
 have ha:(isAgg 4).run aA w=.ok false w:=by kernel_rfl
 have hc:(L.map slB)[k]?=some (slB L[k]):=by simp [hk]
 have hk16:¬16<=k:=by omega
 simp [Instr.index,run_underlying aW,asIntOf,part,hs,ha,hk16,hk]
def Gv (L:List (Option Cr)):Int:=match L.findIdx? (λ o=>o.isNone) with
 | some i=>i
 | none=> -1
def G7 (s:ByteArray) (o:Option Cr):Bool:=match o with
 | some c=>decide (c.srv=s)
 | none=>false
def Dy (L:List (Option Cr)) (s:ByteArray):Int:=match L.findIdx? (G7 s) with
 | some i=>i
 | none=>Gv L
theorem Be.used {w:bN} {F:Nat->Prop} {p:Nat} {L:List (Option Cr)} (h:Be w F p L):Ao w p 336 (L.map slB):=by
 obtain ⟨_,hl,hb,hk⟩:=h;have hs:=D9 (H8 (λ c hc=>(hk c hc).1));intro j u hj;rw [hb.cell,stC,aD (by omega),hs,hl]
 rwa [show 336+j-21*16=j by omega]
theorem Be.usedC {w:bN} {F:Nat->Prop} {p:Nat} {L:List (Option Cr)} (h:Be w F p L) (k:Nat) (hk:k<L.length):w.cell? ⟨p,336+k,none⟩=some (slB L[k]):=h.used k _ (by simp [hk])
theorem Be.slot {w:bN} {F:Nat->Prop} {p:Nat} {L:List (Option Cr)} (h:Be w F p L) (k j:Nat) (hk:k<L.length) (hj:j<21):w.cell? ⟨p,k*21+j,none⟩=(slC L[k]).cells[j]?:=by
 obtain ⟨_,hl,hb,hkk⟩:=h;have hkey:=H8 (λ c hc=>(hkk c hc).1);have hs:=D9 hkey;rw [hb.cell,stC,bF (by omega)];exact A6I hkey k j hk hj
theorem Be.lt {w:bN} {F:Nat->Prop} {p:Nat} {L:List (Option Cr)} (h:Be w F p L):p<w.heap.size:=h.2.2.1.lt
theorem Be.keep {w w':bN} {F S:Nat->Prop} {p:Nat} {L:List (Option Cr)} (h:Be w F p L) (hk:Ai S w w') (hs:∀k,F k->k<w.heap.size->¬S k):Be w' F p L:=by
 obtain ⟨h1,h2,h3,h4⟩:=h;refine ⟨h1,h2,h3.keep hk (hs p h1 h3.lt),λ c hc=>?_⟩;obtain ⟨g1,g2,g3⟩:=h4 c hc;exact ⟨g1,Sl.keep' g2 hk (λ b hb hl=>hs b (g3 b hb).1 hl),λ b hb=>⟨(g3 b hb).1,(g3 b hb).2.1,bH (g3 b hb).2.2 hk.size⟩⟩
theorem Be.below {w w':bN} {F:Nat->Prop} {p:Nat} {L:List (Option Cr)} (h:Be w F p L) (hb:Below w.heap.size w w'):Be w' F p L:=h.keep (Ai.of_below hb) (λ k _ hl hs=>by omega)
theorem Be.mono {w:bN} {F G:Nat->Prop} {p:Nat} {L:List (Option Cr)} (h:Be w F p L) (hs:∀k,F k->G k):Be w G p L:=by
 obtain ⟨h1,h2,h3,h4⟩:=h;exact ⟨hs _ h1,h2,h3,λ c hc=>let ⟨g1,g2,g3⟩:=h4 c hc; ⟨g1,g2,λ b hb=>⟨hs _ (g3 b hb).1,(g3 b hb).2⟩⟩⟩
theorem Be.tight {w:bN} {F:Nat->Prop} {p:Nat} {L:List (Option Cr)} (h:Be w F p L):Be w (λ j=>F j/\j<w.heap.size) p L:=by
 have hp:=h.lt;obtain ⟨h1,h2,h3,h4⟩:=h;exact ⟨⟨h1,hp⟩,h2,h3,λ c hc=>let ⟨g1,g2,g3⟩:=h4 c hc; ⟨g1,g2,λ b hb=>⟨⟨(g3 b hb).1,(g3 b hb).2.2⟩,(g3 b hb).2⟩⟩⟩
theorem A1G (L:List (Option Cr)) (o:Option Cr):Gv (L++ [o])=if Gv L<0/\o.isNone=true then (L.length:Int) else Gv L:=by
 unfold Gv;rw [List.findIdx?_append]
 cases h:L.findIdx? (λ o=>o.isNone) with
 | some i=>
  simp;omega
 | none=>
  cases o <;> simp [List.findIdx?_cons]
theorem A4F (L:List (Option Cr)): -1<=Gv L:=by unfold Gv; split <;> omega
theorem A4G (L:List (Option Cr)):Gv L<L.length:=by
 unfold Gv;split
 . rename_i i h
   have:=(List.findIdx?_eq_some_iff_findIdx_eq.1 h).1;omega
 . omega
theorem A3R (L:List (Option Cr)) (s:ByteArray) (k:Nat) (hk:k<L.length) (h1:∀o∈L.take k,G7 s o=false) (h2:G7 s L[k]=true):Dy L s=k:=by
 have:L.findIdx? (G7 s)=some k:=by
  rw [List.findIdx?_eq_some_iff_getElem];refine ⟨hk,h2,λ j hj=>?_⟩
  have:=h1 L[j] (by
   rw [List.mem_take_iff_getElem];exact ⟨j,by omega,rfl⟩)
  simp [this]
 simp [Dy,this]
theorem A0i (L:List (Option Cr)) (s:ByteArray) (h:∀o∈L,G7 s o=false):Dy L s=Gv L:=by
 have:L.findIdx? (G7 s)=none:=by
  rw [List.findIdx?_eq_none_iff];exact h
 simp [Dy,this]
def I7:List (Option Cr):=aM 16 none
theorem A3M:Tryz.prog.built 214 []=some (stC I7).toArray:=by kernel_rfl
theorem T2:Tryz.prog.built 116 []=some Cr.zero.cells.toArray:=by kernel_rfl
theorem Cl {P:Program} {ops:Array Oper} {rest:List Oper} {o:Oper} {a:Act} {w:bN} {Q:Exit->Act->bN->Prop} (hgd:Region.wanted o (yielded ops a.tmps)=true) {ty:TypeId} (ho:o.op=.build ty #[]) {cells:Array bM} (hb:P.built ty []=some cells) (h:wpList P ops Q rest (a.put o.dst (.agg cells)) w):wpList P ops Q (o::rest) a w:=by
 refine Bh hgd λ K hK=>?_
 have hr:=run_build (P:=P) w ty #[] cells hb;unfold Oper.wp execOp;simp only [ho,Sem.run_bind,Sem.run_pure,Result.andThen_ok,aJ,aK,hr];exact hK _ _ h
theorem Yz (w:bN):bO aA 82 #[] w λ e w'=>e=.returned (.pointer (some ⟨w.heap.size,0,none⟩))/\Be w' (λ k=>k=w.heap.size) w.heap.size I7/\Below w.heap.size w w':=by
 have hst:Be (w.alloc (.cells (stC I7).toArray 214)) (λ k=>k=w.heap.size) w.heap.size I7:=
  ⟨rfl,rfl,Blk.new w _ _,λ c hc=>by simp [I7] at hc⟩
 have HST:=Ab hst;have hb:=A3M;obtain ⟨Z,hZ⟩:∃Z,Z=(stC I7).toArray:=⟨_,rfl⟩
 rw [<-hZ] at HST hb;have HB:=Ab hb;clear hst hb hZ;go_enter Tryz.func82,Tryz.ntmps82;go_wp2_with ((with_reducible refine zw 1 ?_);refine Cl rfl rfl HB.o ?_);go_ret;exact ⟨rfl,HST.o,(Below.refl _ _).alloc (aB _) _⟩
theorem M2 (F:Nat->Prop) (p:Nat) (L:List (Option Cr)) (s:ByteArray) (w:bN) (h:Be w F p L): bO aA 93 #[.pointer (some ⟨p,0,none⟩),.string s] w λ e w'=>e=.returned (.int .i64 (Dy L s))/\w=w':=by
 have hl:=h.2.1;have HH:=Ab h;have HL:=Ab hl;have hu:=h.used;have HU:=Ab hu;have hul:(L.map slB).length=16:=by rw [List.length_map,hl]
 have HUL:=Ab hul;clear h hl hu hul;go_enter Tryz.func93,Tryz.ntmps93;go_wp2_with ((with_reducible refine zw 11 ?_);refine Aj rfl (.tmp 10) A5V rfl rfl (cs:=L.map slB) HUL.o HU.o ?_);go_wp2_with fail;go_loop [5,12] (λ f i=>∃k:Nat,k<=16/\i=.int .i64 k/\f=.int .i64 (Gv (L.take k))/\∀o∈L.take k,G7 s o=false) (λ _ i=>16- (intOf i).toNat)
 case atStart=>exact ⟨0,by omega,rfl,rfl,by simp⟩
 case round=>
  obtain ⟨k,hk,rfl,rfl,hno⟩:=hrel;by_cases hlt:k<16
  . have hkl:k<L.length:=by rw [HL.o]; exact hlt
    have hix:=A0t L k hkl HL.o;have hia:=Wx p k hlt;have hki:(k:Int)<16:=by omega
    have hfr:=A1G (L.take k) L[k];rw [<-aU hkl,List.length_take,HL.o,bI (by omega)] at hfr;have hge:=A4F (L.take k);have hat:=A3R L s k hkl hno;have hnext:G7 s L[k]=false->∀o∈L.take (k+1),G7 s o=false:=by
     intro h o ho;rw [aU hkl] at ho;rcases List.mem_append.1 ho with ho | ho
     . exact hno o ho
     . rw [List.mem_singleton.1 ho]; exact h
    have hc0:=HH.o.slot k 0 hkl (by decide);rw [Nat.add_zero] at hc0;have HNO:=Ab hno;obtain ⟨o,ho⟩:∃o,o=L[k]:=⟨_,rfl⟩
    rw [<-ho] at hix hfr hat hnext hc0;have HO:=Ab ho;have HFR:=Ab hfr;have HAT:=Ab hat;have HNX:=Ab hnext;clear ho hfr hat hnext hno
    cases o with
    | none=>
     simp only [slB,Option.isNone_none,Option.isSome_none] at hix HFR;by_cases hf:Gv (L.take k)<0
     . have hv:Gv (L.take (k+1))=(k:Int):=by rw [HFR.o,if_pos ⟨hf,trivial⟩]
       have HV:=Ab hv;clear hv;go_wp2_with fail;go_round
       case rel=>exact ⟨k+1,by omega,by go_num,by rw [HV.o],HNX.o rfl⟩
       case measure=>simp [intOf]; omega
     . have hv:Gv (L.take (k+1))=Gv (L.take k):=by rw [HFR.o,if_neg (λ h=>hf h.1)]
       have HV:=Ab hv;clear hv;go_wp2_with fail;go_round
       case rel=>exact ⟨k+1,by omega,by go_num,by rw [HV.o],HNX.o rfl⟩
       case measure=>simp [intOf]; omega
    | some c=>
     have hc1:w.cell? ⟨p,k*21,none⟩=some (.string c.srv):=hc0;have hix':∀w,(Instr.index 212 (.agg (L.map slB).toArray) (.int .i64 k)).run aA w=.ok (.bool true) w:=hix
     have hv:Gv (L.take (k+1))=Gv (L.take k):=by rw [HFR.o,if_neg (by simp)]
     have HV:=Ab hv;clear hc0 hix hv;by_cases hs:c.srv=s
     . have hs2:c.srv.toList=s.toList:=by rw [hs]
       have hpl:Dy L s=k:=HAT.o (by simp [G7,hs]);have HPL:=Ab hpl;clear hs hpl;go_wp2_with fail;go_ret;exact ⟨by rw [HPL.o]; rfl,rfl⟩
     . have hs2:¬c.srv.toList=s.toList:=λ e=>hs ((Jr _ _).1 e)
       have hns:G7 s (some c)=false:=by simp [G7,hs]
       have HNS:=Ab hns;have hs3:(c.srv.toList==s.toList)=false:=by simpa using hs2
       clear hs hns hs2;go_wp2_with fail;go_round
       case rel=>exact ⟨k+1,by omega,by go_num,by rw [HV.o],HNX.o HNS.o⟩
       case measure=>simp [intOf]; omega
  . obtain rfl:k=16:=by omega
    rw [aI (by rw [HL.o]; exact aB _)] at hno ⊢;have hpl:=A0i L s hno;have HPL:=Ab hpl;clear hno hpl;go_wp2_with fail;go_ret;exact ⟨by rw [HPL.o]; rfl,rfl⟩
theorem A0y {L:List (Option Cr)} (h:∀c,some c∈L->c.key.length=16) (k:Nat) (hk:k<L.length) (o:Option Cr):(stC L).take (k*21)++(slC o).cells++(stC L).drop (k*21+21)=slS (L.set k o)++L.map slB:=by
 have hkey:=H8 h;have hs:=D9 hkey;unfold stC;rw [aL (by omega),bG (by omega),<-A6J hkey k hk o];simp
theorem A0z {L L':List (Option Cr)} (h:∀c,some c∈L->c.key.length=16) (hl:L.length=16) (hl':L'.length=16) (k:Nat) (o:Option Cr):(slS L++L'.map slB).set (336+k) (slB o)=slS L++(L'.set k o).map slB:=by
 have hs:=D9 (H8 h);rw [bJ _ _ (by omega),hs,hl,show 336+k-21*16=k by omega,List.map_set]
theorem Be.set {w w':bN} {F:Nat->Prop} {p:Nat} {L:List (Option Cr)} (h:Be w F p L) (k:Nat) (o:Option Cr) (ho:∀c,o=some c->c.key.length=16/\Bs w' c.bv c.box/\∀b,c.bv.ownBlock=some b->F b/\b≠p/\b<w'.heap.size) (hb:Blk w' p (stC (L.set k o)) 214) (hkp:Ai (λ j=>j=p) w w'):Be w' F p (L.set k o):=by
 obtain ⟨h1,h2,h3,h4⟩:=h;refine ⟨h1,by rw [aE,h2],hb,λ c hc=>?_⟩;rcases aQ hc with h | h
 . obtain ⟨g1,g2,g3⟩:=h4 c h;exact ⟨g1,Sl.keep g2 hkp (λ b hb e=>(g3 b hb).2.1 e),λ b hb=>⟨(g3 b hb).1,(g3 b hb).2.1,bH (g3 b hb).2.2 hkp.size⟩⟩
 . exact ho c h.symm
theorem A5w (l Z:List bM) (a:Nat) (hl:a+21<=l.length):(l.take (a+2)++Z++l.drop (a+2+16)).take a=l.take a:=by
 rw [aN,aL (by simp; omega),List.take_take,bI (by omega)]
theorem A5v (l Z:List bM) (a:Nat) (hl:a+21<=l.length) (hZ:Z.length=16):(l.take (a+2)++Z++l.drop (a+2+16)).drop (a+21)=l.drop (a+21):=by
 have h1:(l.take (a+2)++Z).length=a+18:=by simp [hZ]; omega
 rw [List.drop_append,aV (by omega),h1,List.nil_append,List.drop_drop];congr 1;omega
theorem M3 (F:Nat->Prop) (p k:Nat) (L:List (Option Cr)) (w:bN) (h:Be w F p L) (hk:k<16): bO aA 212 #[.pointer (some ⟨p,0,none⟩),.int .i64 k] w λ e w'=>e=.returned (.tuple #[])/\Be w' F p (L.set k none)/\Ai (λ j=>j=p) w w':=by
 have hl:=h.2.1;have hkey:∀c,some c∈L->c.key.length=16:=λ c hc=>(h.2.2.2 c hc).1
 have hblk:=h.2.2.1;have hsl:(stC L).length=352:=by
  have:=D9 (H8 hkey);simp [stC,this,hl]
 have hia:=Wx p k hk;have hiu:=A1O p k hk;have HH:=Ab h;have HL:=Ab hl;have HKEY:=Ab hkey;have HB:=Ab hblk;have HSL:=Ab hsl;clear h hl hkey hblk hsl;have hz:=T2;obtain ⟨Z,hZ⟩:∃Z,Z=Cr.zero.cells:=⟨_,rfl⟩
 have hZl:Z.length=21:=by rw [hZ]; rfl
 have hZ1:∀u∈Z,u.oneCell'=true:=by rw [hZ]; exact Cr.one _ rfl
 rw [<-hZ] at hz;have HZ:=Ab hz;have HZL:=Ab hZl;have HZ1:=Ab hZ1;have HZd:=Ab hZ;clear hz hZ hZl hZ1;go_enter Tryz.func212,Tryz.ntmps212;go_wp2_with ((with_reducible show wpList _ _ _ (⟨none,.call _,_,_,_,_⟩::_) _ _); refine Tx rfl (.tmp 10) D8 rfl rfl rfl HB.o (by rw [HSL.o]; omega) ?_);intro w2 h2a k2;have h2:Blk w2 p ((stC L).take (k*21+2)++aM 16 (bM.int .u8 0)++(stC L).drop (k*21+2+16)) 214:=by rw [aN]; exact h2a
 obtain ⟨X,hX⟩:∃X,X=(stC L).take (k*21+2)++aM 16 (bM.int .u8 0)++(stC L).drop (k*21+2+16):=⟨_,rfl⟩
 rw [<-hX] at h2;have hXl:X.length=352:=by rw [hX]; simp [HSL.o]; omega
 have hXt:X.take (k*21)=(stC L).take (k*21):=by rw [hX]; exact A5w _ _ _ (by rw [HSL.o]; omega)
 have hXd:X.drop (k*21+21)=(stC L).drop (k*21+21):=by rw [hX]; exact A5v _ _ _ (by rw [HSL.o]; omega) (by simp)
 have H2:=Ab h2;have HXL:=Ab hXl;have HXT:=Ab hXt;have HXD:=Ab hXd;have K2:=Ab k2;clear h2 h2a k2 hX hXl hXt hXd;go_wp2_with (first | ((with_reducible refine zw 13 ?_);refine Cl rfl rfl HZ.o ?_) | ((with_reducible refine zws 16 13 ?_);refine Ag rfl (.tmp 16) (.tmp 13) Do rfl rfl (vs:=Z) rfl HZL.o H2.o (by rw [HXL.o]; omega) HZ1.o ?_));intro w3 h3a k3;have hkL:k<L.length:=by rw [HL.o]; exact hk
 rw [HXT.o,HXD.o,HZd.o] at h3a;have h3:Blk w3 p ((stC L).take (k*21)++(slC none).cells++(stC L).drop (k*21+21)) 214:=by rw [aN]; exact h3a
 rw [A0y HKEY.o k hkL none] at h3;have K3:Hq (Ai (λ j=>j=p) w w3):=Ab (K2.o.trans k3);have hc:=h3.cell (336+k);have hsl2:=D9 (L:=L.set k none) (H8 (λ c hc=>by
  rcases aQ hc with h | h
  . exact HKEY.o c h
  . cases h))
 rw [aD (by rw [hsl2,aE,HL.o]; omega),hsl2,aE,HL.o,show 336+k-21*16=k by omega,bK,bL hkL,Option.map_some] at hc;have hf:=h3.frozen (336+k);have hu:=A0z (L:=L.set k none) (L':=L) (λ c hc=>by
  rcases aQ hc with h | h
  . exact HKEY.o c h
  . cases h) (by rw [aE,HL.o]) HL.o k none
 have h4:=h3.set (336+k) (slB none);rw [hu] at h4;have H4:=Ab h4;generalize slB L[k]=ub at hc;clear h3 h3a k3 hsl2 hu h4;go_wp2_with fail;go_end0;have hk4:Ai (λ j=>j=p) w (w3.setCell ⟨p,336+k,none⟩ (slB none)):=K3.o.setCell (p:=⟨p,336+k,none⟩) rfl _;exact ⟨rfl,HH.o.set k none (λ c hc=>by cases hc) H4.o hk4,hk4⟩
theorem Mb {P:Program} {w:bN} {ops:Array Oper} {rest:List Oper} {o:Oper} {a:Act} {Q:Exit->Act->bN->Prop} (hgd:Region.wanted o (yielded ops a.tmps)=true) (s x:Operand) {t e:TypeId} {size bytes:Nat} {z:bM} (hE:Cp P t e size bytes z) (ho:o.op=.call { callee:=.builtin .append,args:=#[s,x],argTypes:=#[t,t] }) (hv:a.eval s=.slice none 0 0) {m:Nat} {ds:List bM} (hsl:Sl w size (a.eval x) m ds) (h63:m<=maxLen) (hbytes:m*bytes<=140737488355328) (h:∀v' w',Own w' w.heap.size e size v' m ds->Ai (λ k=>w.heap.size<=k) w w'->(∀b,v'.ownBlock=some b->w.heap.size<=b/\b<w'.heap.size)->wpList P ops Q rest (a.put o.dst v') w'):wpList P ops Q (o::rest) a w:=by
 obtain ⟨v',w',hr,h2,h3,h4⟩:=Qa (P:=P) (ty:=o.type) hE hsl h63 hbytes;refine Bh hgd λ K hK=>?_
 unfold Oper.wp execOp;simp only [ho,resolve,invoke,builtin,Sem.run_bind,Sem.run_pure,Result.andThen_ok,aJ,aC,aK,hv,hr];exact hK _ _ (h v' w' h2 h3 h4)
theorem Vh (L:List (Option Cr)) (s:ByteArray):Dy L s<L.length:=by
 unfold Dy;split
 . rename_i i h
   have:=(List.findIdx?_eq_some_iff_findIdx_eq.1 h).1;omega
 . exact A4G L
def Xg (L:List (Option Cr)) (c:Cr):List (Option Cr)×Int:=
 if Dy L c.srv<0 then (L,8) else (L.set (Dy L c.srv).toNat (some c),0)
theorem Y0 (F:Nat->Prop) (p:Nat) (L:List (Option Cr)) (c:Cr) (w:bN) (h:Be w F p L) (hk:c.key.length=16) (hb:Bs w c.bv c.box) (hbl:c.box.length<=140737488351232) (hnp:c.box= []\/c.bv.ownBlock≠some p): bO aA 152 #[.pointer (some ⟨p,0,none⟩),.agg c.cells.toArray] w λ e w'=>∃c':Cr,c'.dat=c.dat/\e=.returned (.int .i64 (Xg L c').2)/\Be w' (λ j=>F j\/w.heap.size<=j) p (Xg L c').1/\ Ai (λ j=>j=p\/w.heap.size<=j) w w':=by
 obtain ⟨ab,cb,hbv,hcb,hmb⟩:=hb.form;unfold maxLen at hmb;have hl:=h.2.1;have hplt:=h.lt;have h0:=h.tight;obtain ⟨G,hG⟩:∃G:Nat->Prop,G=λ j=>F j/\j<w.heap.size:=⟨_,rfl⟩
 rw [<-hG] at h0;have hGl:∀j,G j->j<w.heap.size:=λ j hj=>by rw [hG] at hj; exact hj.2
 have hGF:∀j,G j->F j:=λ j hj=>by rw [hG] at hj; exact hj.1
 have HGL:=Ab hGl;have HGF:=Ab hGF;clear hG hGl hGF;have hBq:Blk (w.alloc (.cells c.cells.toArray 116)) w.heap.size c.cells 116:=Blk.new w _ _;have x0:(w.alloc (.cells c.cells.toArray 116)).cell? ⟨w.heap.size,0,none⟩=some (.string c.srv):=by rw [hBq.cell]; rfl
 have hcl:=Cr.cells_length c hk;have H1:=Ab (h0.below ((Below.refl _ _).alloc (aB _) (.cells c.cells.toArray 116)));have HBX:=Ab (hb.alloc (.cells c.cells.toArray 116));have HBQ:=Ab hBq;have HK:=Ab hk;have HCL:=Ab hcl;have HL:=Ab hl;have HBV:=Ab hbv;have HNP:=Ab hnp;obtain ⟨C,hC⟩:∃C,C=c.cells:=⟨_,rfl⟩
 rw [<-hC] at x0 H1 HBX HBQ HCL ⊢;have HCd:=Ab hC;clear h h0 hb hl hbv hBq hcl hk hC hnp;go_enter Tryz.func152,Tryz.ntmps152;go_wp2_with fail;refine (M2 G p L c.srv _ H1.o).mono ?_;rintro e w1 ⟨rfl,rfl⟩;by_cases hneg:Dy L c.srv<0
 . have hp:∀c':Cr,c'.srv=c.srv->Xg L c'=(L,8):=λ c' e=>by rw [Xg,e,if_pos hneg]
   have HP:=Ab (hp c rfl);clear hp x0;go_wp2_with fail;go_ret;refine ⟨c,rfl,by rw [HP.o]; rfl,?_,Ai.alloc (Ai.refl _ _) _ (.inr (aB _))⟩;rw [HP.o];exact H1.o.mono (λ k hk=>.inl (HGF.o k hk))
 . obtain ⟨k,hkk⟩:∃k:Nat,Dy L c.srv=k:=⟨(Dy L c.srv).toNat,by omega⟩
   have hk16:k<16:=by have:=Vh L c.srv; rw [HL.o] at this; omega
   rw [hkk] at hneg ⊢;have HKK:=Ab hkk;clear hkk x0;go_wp2_with fail;refine (M3 G p k L _ H1.o hk16).mono ?_;rintro e w2 ⟨rfl,hs2,hk2⟩;have hz2:=hk2.size;simp at hz2;have HS2:=Ab hs2;have HBQ2:=Ab (HBQ.o.keep hk2 (by omega));have HBX2:Hq (Bs w2 c.bv c.box):=Ab (by
    rcases HNP.o with h0 | h0
    . have:=HBX.o;rw [h0] at this ⊢;obtain ⟨g1,g2,a,cap,g3,g4,g5,g6,_⟩:=this;exact ⟨g1,g2,a,cap,g3,g4,g5,g6,.inl rfl⟩
    . exact Sl.keep HBX.o hk2 (λ b hb e=>h0 (e▸hb)))
   have HK2:=Ab hk2;have x1:w2.cell? ⟨w.heap.size,1,none⟩=some c.bv:=by rw [HBQ2.o.cell,HCd.o]; rfl
   rw [HBV.o] at x1 HBX2;have f1:=HBQ2.o.frozen 1;clear hs2 hk2;go_wp2_with ((with_reducible refine zw 19 ?_);refine Mb rfl (.const (.slice none 0 0)) (.tmp 18) D8 rfl rfl HBX2.o (by unfold maxLen; omega) (by omega) ?_);intro v3 w3 ho3 hk3' hvb3;have hb3:Bs w3 v3 c.box:=ho3.sl;obtain ⟨a3,c3,hv3f,_⟩:=hb3.form;have hv3:∀b,v3.ownBlock=some b->w2.heap.size<=b:=λ b hb=>(hvb3 b hb).1
   have hv3l:∀b,v3.ownBlock=some b->b<w3.heap.size:=λ b hb=>(hvb3 b hb).2
   have hz3:=hk3'.size;have hbq3:=HBQ2.o.keep hk3' (by omega);have y1:w3.cell? ⟨w.heap.size,1,none⟩=some (.slice ab c.box.length cb):=by rw [hbq3.cell,HCd.o,<-HBV.o]; rfl
   have g1:=hbq3.frozen 1;obtain ⟨c',hc'⟩:∃c',c'= { c with bv:=v3 } :=⟨_,rfl⟩
   have hbq4:Blk (w3.setCell ⟨w.heap.size,1,none⟩ v3) w.heap.size c'.cells 116:=by
    have:=hbq3.set 1 v3;rw [HCd.o] at this;rw [hc'];exact this
   have hs4:Be (w3.setCell ⟨w.heap.size,1,none⟩ v3) G p (L.set k none):=
    (HS2.o.keep hk3' (λ j hj hl hs=>by omega)).keep (Ai.one w3 w.heap.size 1 v3) (λ j hj hl e=>by have:=HGL.o j hj; omega)
   have hb4:Bs (w3.setCell ⟨w.heap.size,1,none⟩ v3) v3 c.box:=Sl.setCell hb3 (by intro e; have:=hv3 _ e; simp at this; omega) _;have hK4:Ai (λ j=>j=p\/w.heap.size<=j) w (w3.setCell ⟨w.heap.size,1,none⟩ v3):=
    (((Ai.alloc (Ai.refl (λ j=>j=p\/w.heap.size<=j) w) (.cells C.toArray 116) (.inr (aB _))).trans (HK2.o.mono (λ j hj=>.inl hj))).trans (hk3'.mono (λ j hj=>.inr (by omega)))).trans ((Ai.one w3 w.heap.size 1 v3).mono (λ j hj=>.inr (by omega)))
   have HB4:=Ab hb4;have HK4:=Ab hK4;have HS4:=Ab hs4;have HBQ4:=Ab hbq4;have HV3:=Ab hv3;have HVL0:=Ab hv3l;have HC':=Ab hc';clear ho3 hvb3 hb3 hv3 hv3l hk3' hbq3 hb4 hK4 hs4 hbq4 hc' x1 f1 HBX2;subst hv3f;go_wp2_with fail;have hz34:w3.heap.size<=(w3.setCell ⟨w.heap.size,1,none⟩ (.slice a3 c.box.length c3)).heap.size:=by simp
   obtain ⟨w4,hw4⟩:∃w4,w4=w3.setCell ⟨w.heap.size,1,none⟩ (.slice a3 c.box.length c3):=⟨_,rfl⟩
   have hz4:w4.heap.size=w3.heap.size:=by rw [hw4]; simp
   rw [<-hw4] at HB4 HK4 HS4 HBQ4 hz34 ⊢;have hz44:w2.heap.size<=w4.heap.size:=by omega
   clear hw4 hz4;have hia:=Wx p k hk16;have hiu:=A1O p k hk16;have hkL:k< (L.set k none).length:=by rw [aE,HL.o]; exact hk16
   have hkeyS:∀x,some x∈L.set k none->x.key.length=16:=λ x hx=>(HS4.o.2.2.2 x hx).1
   have hc'k:c'.key.length=16:=by rw [HC'.o]; exact HK.o
   have hc'l:=Cr.cells_length c' hc'k;have hc'1:∀u∈c'.cells,u.oneCell'=true:=Cr.one c' (by rw [HC'.o]; rfl)
   have hsl4:(stC (L.set k none)).length=352:=by
    have:=D9 (H8 hkeyS);simp [stC,this,HL.o]
   have hset:(L.set k none).set k (some c')=L.set k (some c'):=by simp
   have hblk:=HS4.o.2.2.1;have hcu:=HS4.o.usedC k hkL;have hsn:slB ((L.set k none)[k]'hkL)=.bool false:=by simp [slB]
   rw [hsn] at hcu;have hfu:=hblk.frozen (336+k);have hwb:∀W,Ai (λ j=>j=p) w4 W->Bs W c'.bv c'.box:=λ W hW=>by
    rw [HC'.o];exact Sl.keep HB4.o hW (λ b hb e=>by have:=HV3.o b hb; omega)
   have HWB:=Ab hwb;have HKS:=Ab hkeyS;have HSL4:=Ab hsl4;have HBLK:=Ab hblk;have HSET:=Ab hset;have HC1:=Ab hc'1;have HCK:=Ab hc'k;have HCL':=Ab hc'l;clear hwb hkeyS hsl4 hblk hset hc'1 hc'k hc'l hsn;refine wp_region_any (by kernel_rfl) ?_;change wpAny _ _ _ _ _ _ _ (bN.drew _);refine wpAny_take (i:=0) (oi:=⟨some 22,_,_,_,_,none⟩) (v:=.pointer (some ⟨p,0,none⟩)) rfl (by kernel_rfl) (by kernel_rfl) (by kernel_rfl) (λ _ _ _ h=>h) (Or.inl ⟨by rfl,by intro w; go_simp⟩) ?_;try go_frame
   refine wpAny_take (i:=1) (oi:=⟨some 23,_,_,_,_,none⟩) (v:=.int .i64 k) rfl (by kernel_rfl) (by kernel_rfl) (by kernel_rfl) (λ _ _ _ h=>h) (Or.inl ⟨by rfl,by intro w; go_simp⟩) ?_;try go_frame
   refine wpAny_take (i:=2) (oi:=⟨some 24,_,_,_,_,none⟩) (v:=.pointer (some ⟨p,0,none⟩)) rfl (by kernel_rfl) (by kernel_rfl) (by kernel_rfl) (λ _ _ _ h=>h) (Or.inl ⟨by rfl,by intro w; go_simp⟩) ?_;try go_frame
   refine wpAny_take (i:=3) (oi:=⟨some 25,_,_,_,_,none⟩) (v:=.int .i64 k) rfl (by kernel_rfl) (by kernel_rfl) (by kernel_rfl) (λ _ _ _ h=>h) (Or.inl ⟨by rfl,by intro w; go_simp⟩) ?_;try go_frame
   refine wpAny_take (i:=5) (oi:=⟨some 27,_,_,_,_,none⟩) (v:=.pointer (some ⟨p,0,none⟩)) rfl (by kernel_rfl) (by kernel_rfl) (by kernel_rfl) (λ _ _ _ h=>h) (Or.inl ⟨by rfl,by intro w; go_simp⟩) ?_;try go_frame
   refine wpAny_take (i:=6) (oi:=⟨some 28,_,_,_,_,none⟩) (v:=.pointer (some ⟨p,0,none⟩)) rfl (by kernel_rfl) (by kernel_rfl) (by kernel_rfl) (λ _ _ _ h=>h) (Or.inl ⟨by rfl,by intro w; go_simp⟩) ?_;try go_frame
   refine wpAny_take (i:=9) (oi:=⟨some 30,_,_,_,_,none⟩) (v:=.pointer (some ⟨p,0,none⟩)) rfl (by kernel_rfl) (by kernel_rfl) (by kernel_rfl) (λ _ _ _ h=>h) (Or.inl ⟨by rfl,by intro w; go_simp⟩) ?_;try go_frame
   refine wpAny_take (i:=10) (oi:=⟨some 31,_,_,_,_,none⟩) (v:=.pointer (some ⟨p,336,none⟩)) rfl (by kernel_rfl) (by kernel_rfl) (by kernel_rfl) (λ _ _ _ h=>h) (Or.inl ⟨by rfl,by intro w; go_simp⟩) ?_;try go_frame
   refine wpAny_ready (rs:= [4]) (by kernel_rfl) (by simp) ?_;refine AllReady.cons (o:=⟨some 26,.load 116 (.tmp 3),_,_,_,none⟩) rfl (λ K hK=>?_) AllReady.nil;refine A2n rfl (.tmp 3) Do rfl (by simp [Act.eval]) HCL'.o HBQ4.o.drew.cellsAll ?_;refine zqp hK ?_;clear hK K;refine wpAny_ready (rs:= [7]) (by decide+kernel) (by simp) ?_;refine AllReady.cons (o:=⟨some 29,.indexAddr 211 (.tmp 28) (.tmp 23),_,_,_,none⟩) rfl (λ K hK=>?_) AllReady.nil;go_simp;refine zqp hK ?_;clear hK K;refine wpAny_ready (rs:= [8]) (by decide+kernel) (by simp) ?_;refine AllReady.cons (o:=⟨none,.store 116 (.tmp 29) (.tmp 26),_,_,_,none⟩) rfl (λ K hK=>?_) AllReady.nil;refine Ea rfl (.tmp 29) (.tmp 26) Do rfl (g:=p) (off:=k*21) (by simp [Act.eval]) (vs:=c'.cells) (by simp [Act.eval]) HCL'.o HBLK.o.drew (by rw [HSL4.o]; omega) HC1.o ?_;intro w5 h5 k5;refine hK _ _ ?_;clear hK K;try simp only [Act.put]
   rw [show c'.cells=(slC (some c')).cells from rfl,A0y HKS.o k hkL (some c'),HSET.o] at h5;have hcu5:=h5.cell (336+k);have hkey5:∀x,some x∈L.set k (some c')->x.key.length=16:=by
    intro x hx;rw [<-HSET.o] at hx;rcases aQ hx with h | h
    . exact HKS.o x h
    . simp at h; rw [h]; exact HCK.o
   have hsl5:=D9 (H8 hkey5);rw [aD (by rw [hsl5,aE,HL.o]; omega),hsl5,aE,HL.o,show 336+k-21*16=k by omega,bK,bL hkL,Option.map_some] at hcu5;have hfu5:=h5.frozen (336+k);have hu5:=h5.set (336+k) (slB (some c'));rw [A0z hkey5 (by rw [aE,HL.o]) (by rw [aE,HL.o]) k (some c'),HSET.o] at hu5;have HU5:=Ab hu5;have K5:Hq (Ai (λ j=>j=p) w4 w5):=Ab ⟨k5.os,k5.tape,k5.output,k5.size,k5.block⟩;generalize slB ((L.set k none)[k]'hkL)=ub at hcu5;clear h5 k5 hkey5 hsl5 hu5 hcu hfu;refine wpAny_ready (rs:= [11]) (by decide+kernel) (by simp) ?_;refine AllReady.cons (o:=⟨some 32,.indexAddr 212 (.tmp 31) (.tmp 25),_,_,_,none⟩) rfl (λ K hK=>?_) AllReady.nil;go_simp;refine zqp hK ?_;clear hK K;refine wpAny_ready (rs:= [12]) (by decide+kernel) (by simp) ?_;refine AllReady.cons (o:=⟨none,.store 4 (.tmp 32) (.const (.bool true)),_,_,_,none⟩) rfl (λ K hK=>?_) AllReady.nil;go_simp;refine hK _ _ ?_;clear hK K;try simp only [Act.put]
   refine wpAny_done (by decide+kernel) ?_ _;go_wp2_with fail;go_ret;have hput:Xg L c'=(L.set k (some c'),0):=by
    have e:c'.srv=c.srv:=by rw [HC'.o]
    rw [Xg,e,HKK.o,if_neg (by omega)];simp
   have hK5:Ai (λ j=>j=p) w4 (w5.setCell ⟨p,336+k,none⟩ (slB (some c'))):=K5.o.setCell (p:=⟨p,336+k,none⟩) rfl _;refine ⟨c',by rw [HC'.o]; rfl,by rw [hput]; rfl,?_,HK4.o.trans (hK5.mono (λ j hj=>.inl hj))⟩;rw [hput]
   have:=(HS4.o.mono (G:=λ j=>F j\/w.heap.size<=j) (λ j hj=>.inl (HGF.o j hj))).set k (some c') (λ x hx=>by
    simp only [Option.some.injEq] at hx;subst hx;refine ⟨HCK.o,HWB.o _ hK5,λ b hb=>?_⟩;have hb':(bM.slice a3 c.box.length c3).ownBlock=some b:=by rw [HC'.o] at hb; exact hb
    have h1:=HV3.o b hb';have h2:=HVL0.o b hb';have h3:=hK5.size;exact ⟨.inr (by omega),by omega,by omega⟩) (by rw [HSET.o]; exact HU5.o) hK5
   rw [HSET.o] at this;exact this
def Tr (L:List (Option Cr)) (k:Nat):List (Option Cr):=aM k none++L.drop k
theorem A3Z (L:List (Option Cr)) (k:Nat) (hk:k<L.length):(Tr L k).set k none=Tr L (k+1):=by
 unfold Tr;rw [bJ _ _ (by simp),List.length_replicate,Nat.sub_self,List.drop_eq_getElem_cons hk,List.set_cons_zero,List.replicate_succ'];simp
theorem Wi (F:Nat->Prop) (p:Nat) (L:List (Option Cr)) (w:bN) (h:Be w F p L): bO aA 239 #[.pointer (some ⟨p,0,none⟩)] w λ e w'=>e=.returned (.tuple #[])/\Be w' F p I7/\Ai (λ j=>j=p) w w':=by
 have HH:=Ab h;have HL:=Ab h.2.1;clear h;go_enter Tryz.func239,Tryz.ntmps239;go_wp2_with fail;go_loopw [3] (λ i wr=>∃k:Nat,k<=16/\i=.int .i64 k/\Be wr F p (Tr L k)/\Ai (λ j=>j=p) w wr) (λ i _=>16- (intOf i).toNat)
 case atStart=>exact ⟨0,by omega,rfl,by simpa [Tr] using HH.o,Ai.refl _ _⟩
 case round=>
  obtain ⟨k,hk,rfl,hs,hkp⟩:=hrel;have HS:=Ab hs;have HK:=Ab hkp;clear hs hkp;by_cases hlt:k<16
  . have hki:(k:Int)<16:=by omega
    go_wp2_with fail;refine (M3 F p k _ wr HS.o hlt).mono ?_;rintro e w2 ⟨rfl,hs2,hk2⟩;rw [A3Z L k (by rw [HL.o]; exact hlt)] at hs2;have HS2:=Ab hs2;have HK2:=Ab hk2;clear hs2 hk2;go_wp2_with fail;go_roundw
    case rel=>exact ⟨k+1,by omega,by go_num,HS2.o,HK.o.trans HK2.o⟩
    case measure=>simp [intOf]; omega
  . obtain rfl:k=16:=by omega
    have e:Tr L 16=I7:=by rw [Tr,aV (by rw [HL.o]; exact aB _)]; simp [I7]
    rw [e] at HS;clear e;go_wp2_with fail;go_end0;exact ⟨rfl,HS.o,HK.o⟩
end Go.Proofs.YtcnfaghcjlhoiaaGreat
