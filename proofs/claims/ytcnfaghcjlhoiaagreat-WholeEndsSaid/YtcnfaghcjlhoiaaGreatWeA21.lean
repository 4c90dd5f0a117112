/- The law WholeEnds returns true for all numbers: no conditions. -/
import Derived.Test.YtcnfaghcjlhoiaaGreatWeA1
import Derived.Test.YtcnfaghcjlhoiaaGreatWeA2
import Derived.Test.YtcnfaghcjlhoiaaGreatWeA16
import Derived.Test.YtcnfaghcjlhoiaaGreatWeA18
import Derived.Test.YtcnfaghcjlhoiaaGreatWeA20
import Derived.Lib.SlBytesConst
import Derived.JoinedOf
import Derived.OpenShut
import Derived.Deep.Slices
import Derived.ChangeArms
import Derived.WideShapes
set_option linter.unusedSimpArgs false
set_option linter.unusedVariables false
set_option maxRecDepth 100000
set_option maxHeartbeats 16000000
open Go.Proofs.Tryz renaming prog -> aA, f3 -> aB, func3 -> aC, checked -> aD
open Go renaming Value -> aE, World -> aF, Calls -> aG, IntKind -> aH
open List renaming take_zero -> aO, drop_zero -> aP
namespace Go.Proofs.YtcnfaghcjlhoiaaGreat
open Go.RowKit Go.Maps
def hiB:Aa:= [104,105]
theorem Xu (l:List Res) (w:aF) (h:Ad w l): aG aA 10 #[] w λ e w'=>e=.returned (.bool true)/\Ad w' l:=by
 obtain ⟨s,hs⟩:∃s,s=PS.sym .nil:=⟨_,rfl⟩
 obtain ⟨m,hm⟩:∃m,m=Nj s:=⟨_,rfl⟩
 have hz:s.sz<=900:=by rw [hs]; decide
 have hsub:=(A5g s).subl;have hkn:=(A5g s).k9;rw [<-hm] at hsub hkn;have HSY:Hq (∀(W:aF) (l:List Res),Ad W l->aG aA 17 #[] W λ e w'=>∃q,e=.returned (.pointer (some ⟨q,0,none⟩))/\Ad w' (pvR q s::l)):=Ab (λ W l h=>by
  rw [hs];exact Qe l W h)
 have HME:Hq (∀(q:Nat) (W:aF) (l:List Res),Ad W (pvR q s::l)->aG aA 16 #[.iface 33 (.pointer (some ⟨q,0,none⟩))] W λ e w'=>∃pp,e=.returned (.pointer (some ⟨pp,0,none⟩))/\Ad w' (A3i pp q m.sub m.talk::l)):=Ab (λ q W l h=>by
  have:=A0Q q s l W h hz;rw [<-hm] at this;rw [show pvV s q=.iface 33 (.pointer (some ⟨q,0,none⟩)) by rw [hs]; rfl] at this;exact this)
 have HPU:=Ab (λ (p q o ii:Nat) (qa:Option Addr) (qc:Nat) (v:aE) (W:aF) (l:List Res) (h:Ad W (.blk p (K8 m.talk.s.knd q Ay A0 5 o ii (.slice qa 0 qc) 0 0 (.pointer none)) 238::.ownZ 152 2 (.slice qa 0 qc) 0 []::l)) (hv:∀W,Ad W l->Bs W v hiB)=>Xk p q o ii m.talk.s Ay A0 5 0 0 qa qc (.pointer none) v hiB l W h hv (by decide));have HSUB:=Ab hsub;have HC:=Ab h;have HSN:Hq (m.talk.L.length=8):=Ab rfl;clear h hs hm hz hsub hkn;go_enter Tryz.func10,Tryz.ntmps10;go_upto_region 0 with fail;refine An ?_;refine zV ?_;refine wpList_nil ?_;go_upto_region 1 with fail;refine An ?_;refine Af (λ K' k'=>?_);go_simp;refine (HSY.o _ _ (HC.o)).mono ?_;rintro e w1 ⟨q,rfl,hc⟩;have HC:=Ab hc;clear hc;refine zqp k' ?_;clear k' K';refine zV ?_;refine Af (λ K' k'=>?_);go_simp;refine (HME.o _ _ _ (HC.o)).mono ?_;rintro e w2 ⟨pp,rfl,hc⟩;have HC:=Ab hc;clear hc;refine zqp k' ?_;clear k' K';refine zV ?_;refine wpList_nil ?_;obtain ⟨⟨ps,c0,c1,p0,p1,o0,i0,o1,i1⟩,qa,ra,qc,rc,h5⟩:=A2r HC.o;simp only at h5;obtain ⟨sa,sc,vs,h5⟩:=Kr h5;rw [HSN.o] at h5;obtain ⟨PX,hPX⟩:∃x,x=Eh ps c0 c1 (.pointer (some ⟨p0,0,none⟩)) (.pointer (some ⟨p1,0,none⟩)) m.sub (.slice sa 8 sc):=⟨_,rfl⟩
 rw [<-hPX] at h5;have HPXL:=Ab (show PX.length=22 by rw [hPX]; exact H0 _ _ _ _ _ HSUB.o _);have HP3:Hq (PX[3]?=some (.pointer (some ⟨p0,0,none⟩))):=Ab (by rw [hPX]; rfl);have HP21:Hq (PX[21]?=some (.slice sa 8 sc)):=Ab (by rw [hPX]; exact A0h _ _ _ _ _ HSUB.o _);have HC:=Ab h5;clear h5 hPX;go_upto_region 2 with fail;refine An ?_;(iterate 6 refine zV ?_);refine zL ?_;(iterate 8 refine zV ?_);refine zL ?_;refine Af (λ K' k'=>?_);refine On (.slice (some ⟨w2.heap.size,0,none⟩) 2 2) (w2.alloc (.cells #[.int .u8 104,.int .u8 105] 5)) rfl (by go_simp; try rfl) ?_;refine zqp k' ?_;clear k' K';refine Af (λ K' k'=>?_);refine On (.slice (some ⟨w2.heap.size,0,none⟩) 2 2) (w2.alloc (.cells #[.int .u8 104,.int .u8 105] 5 (2,3))) rfl (by have c:=Lib.run_convert_bytes_const (P:=aA) w2 27 5 #[.int .u8 104,.int .u8 105] 2 2 Tryz.underlying27 Tryz.underlying5; unfold execOp; go_simp) ?_;have hbs:Bs (w2.alloc (.cells #[.int .u8 104,.int .u8 105] 5 (2,3))) (.slice (some ⟨w2.heap.size,0,none⟩) 2 2) hiB:=Bs.litM hiB rfl rfl (by simp [hiB,maxLen]);have HC:=Ab (HC.o.addRow ((Below.refl w2.heap.size w2).alloc (Nat.le_refl _) _) hbs (λ k _ hk=>by simp [aE.ownBlock] at hk; omega));clear hbs;refine zqp k' ?_;clear k' K';refine Af (λ K' k'=>?_);go_simp;refine (HPU.o _ _ _ _ _ _ _ _ _ (HC.o.zP [4,4]) (λ W hW=>hW.rowOf (by simp))).mono ?_;rintro e w3 ⟨qg,qo,qn,xa,xc,rfl,hc⟩;have HC:=Ab hc;clear hc;refine zqp k' ?_;clear k' K';(iterate 3 refine zV ?_);refine wpList_nil ?_;go_wp2_with fail;go_ret;exact ⟨rfl,HC.o.tail.tail.tail.tail.tail.tail.tail.tail.tail.tail.tail.tail.tail.tail⟩
theorem A3v:Tryz.prog.built 58 [(0,.string ⟨#[97,110,110]⟩),(1,.string ⟨#[112,97]⟩),(2,.int .i64 400),(3,.int .i64 4000)]=some (Gy 0).toArray:=by kernel_rfl
theorem A3w:Tryz.prog.built 58 [(0,.string ⟨#[98,111,98]⟩),(1,.string ⟨#[112,98]⟩),(2,.int .i64 300),(3,.int .i64 3000)]=some (Gy 1).toArray:=by kernel_rfl
theorem A3x:Tryz.prog.built 58 [(0,.string ⟨#[101,118,101]⟩),(1,.string ⟨#[112,101]⟩),(2,.int .i64 600),(3,.int .i64 0)]=some (Gy 2).toArray:=by kernel_rfl
theorem Pu (l:List Res) (w:aF) (h:Ad w l): aG aA 5 #[] w λ e w'=>∃A,e=.returned (.pointer (some ⟨A.wp,0,none⟩))/\Ad w' (Ce A W0::l):=by
 have HB:Hq (Ad (w.alloc (.cells Nq.toArray 58)) (.blk w.heap.size Nq 58::l)):=Ab (h.addBlkAt Nq 58 (b:=w.heap.size) rfl);have HNW:=Ab (Xz w.heap.size l _ HB.o);clear h HB;go_enter Tryz.func5,Tryz.ntmps5;go_upto_region 1 with fail;refine An ?_;refine zV ?_ (v:=.agg (Gy 0).toArray) (hr:=Gh (pv:= [(0,.string ⟨#[97,110,110]⟩),(1,.string ⟨#[112,97]⟩),(2,.int .i64 400),(3,.int .i64 4000)]) (by simp only [List.map_toArray,List.map_cons,List.map_nil]; try rfl) A3v _);refine zV ?_ (v:=.agg (Gy 1).toArray) (hr:=Gh (pv:= [(0,.string ⟨#[98,111,98]⟩),(1,.string ⟨#[112,98]⟩),(2,.int .i64 300),(3,.int .i64 3000)]) (by simp only [List.map_toArray,List.map_cons,List.map_nil]; try rfl) A3w _);refine zV ?_ (v:=.agg (Gy 2).toArray) (hr:=Gh (pv:= [(0,.string ⟨#[101,118,101]⟩),(1,.string ⟨#[112,101]⟩),(2,.int .i64 600),(3,.int .i64 0)]) (by simp only [List.map_toArray,List.map_cons,List.map_nil]; try rfl) A3x _);refine A2A rfl [.tmp 4,.tmp 5,.tmp 6] Wm rfl rfl rfl (cs:= [Gy 0,Gy 1,Gy 2]) rfl (by intro c hc; simp only [List.mem_cons,List.not_mem_nil,or_false] at hc; rcases hc with rfl | rfl | rfl <;> rfl) (by decide) (by decide) ?_;refine Af (λ K hK=>?_);go_simp;refine HNW.o.mono ?_;rintro e w1 ⟨A,rfl,hc⟩;have HC:=Ab hc;clear hc HNW;refine zqp hK ?_;clear hK K;obtain ⟨pa,pc,la,lc,vs,h1⟩:=Cf HC.o;have c0:=(h1.zB A.wp).cell 0;have c1:=(h1.zB A.wp).cell 1;have c2:=(h1.zB A.wp).cell 2;have c3:=(h1.zB A.wp).cell 3;have c4:=(h1.zB A.wp).cell 4;simp only [Co,List.getElem?_cons_succ,List.getElem?_cons_zero] at c0 c1 c2 c3 c4;clear h1;go_wp2_with fail;go_ret;exact ⟨A,rfl,HC.o⟩
structure A8k (i:Nat):Prop where
 P3:(W3 i).P.length=0
 P4:(W4 i).P.length=0
 b3:∀m,m<3->(C4 (W3 i).box (tx (nmI m)) []).length=if m=i then 1 else 0
 b4:∀m,m<3->(C4 (W4 i).box (tx (nmI m)) []).length=0
theorem A8J (i:Nat) (hi:i=0\/i=2):A8k i where
 P3:=by rcases hi with rfl | rfl <;> decide+kernel
 P4:=by rcases hi with rfl | rfl <;> decide+kernel
 b3:=by rcases hi with rfl | rfl <;> decide+kernel
 b4:=by rcases hi with rfl | rfl <;> decide+kernel
theorem nm1 (i:Nat) (j:Nat):((W1 i).h j).nm=nmI j:=by
 refine (WS.aft_nm _ j).trans ?_;show ((upd W0.h i ⟨nmI i,c1 i,Bu,false, [m1 i], []⟩) j).nm=_
 by_cases h:j=i
 . subst h; rw [Eo]
 . rw [Ec _ _ h]; rfl
theorem nm2 (i j:Nat):((W2 i).h j).nm=nmI j:=(WS.aft_nm _ j).trans (nm1 i j)
theorem nm3 (i j:Nat):((W3 i).h j).nm=nmI j:=(WS.aft_nm _ j).trans (nm2 i j)
theorem nm4 (i j:Nat):((W4 i).h j).nm=nmI j:=by
 refine (WS.aft_nm _ j).trans ?_;show ((upd (W3 i).h i ⟨nmI i,(c1 i).ended,D4 i,true, [], [0]⟩) j).nm=_
 by_cases h:j=i
 . subst h; rw [Eo]
 . rw [Ec _ _ h]; exact nm3 i j
theorem A6w (j:Nat):(nmI j).length<=200:=by unfold nmI A8q; split <;> (try split) <;> decide
def stK (i k:Nat):WS:=if k=0 then W1 i else if k=1 then W2 i else if k=2 then W3 i else W4 i
theorem A2m (i k j:Nat):((stK i k).h j).nm=nmI j:=by
 unfold stK;split
 . exact nm1 i j
 . split
   . exact nm2 i j
   . split
     . exact nm3 i j
     . exact nm4 i j
theorem Vy (A:WA) {i:Nat} (ok:A1g i) (so:A8k i) (l:List Res) (w:aF) (h:Ad w (Ce A (W1 i)::l)): aG aA 7 #[.pointer (some ⟨A.wp,0,none⟩),.int .i64 50] w λ e w'=>e=.returned (.tuple #[])/\Ad w' (Ce A (W4 i)::l):=by
 refine Qu A (stK i) i ok.three l w h ?_ (λ k j=>by rw [A2m]; exact A6w j) (λ m hm=>?_) (λ m hm=>?_) (λ k hk W l hW=>?_) (λ W l hW=>A5N A ok l W hW)
 . intro k hk
   have:k=0\/k=1\/k=2\/k=3:=by omega
   rcases this with rfl | rfl | rfl | rfl
   . show (W1 i).P.length=1
     rw [ok.P1]; rfl
   . show (W2 i).P.length=1
     rw [ok.P2]; rfl
   . exact so.P3
   . exact so.P4
 . rw [A2m]; exact so.b3 m hm
 . rw [A2m]; exact so.b4 m hm
 . have:k=0\/k=1:=by omega
   rcases this with rfl | rfl
   . exact A7Z A ok l W hW
   . exact A6U A ok l W hW
theorem Ys (t:ByteArray):Tryz.prog.built 29 [(0,.int .i64 2),(4,.string t)]=some (Cq 2 0 0 ⟨#[]⟩ t (.slice none 0 0)).toArray:=by kernel_rfl
theorem A8R:(W4 0).log= [(nmI 0,4,0)]:=by decide+kernel
theorem Td (l:List Res) (w:aF) (h:Ad w l): aG aA 4 #[] w λ e w'=>e=.returned (.bool true)/\Ad w' l:=by
 have HM:=Ab (Pu l w h);have HSO:=Ab (λ (l:List Res) (w:aF) (h:Ad w l)=>Xu l w h);have HLG:=Ab (λ (A:WA) (w:aF) (h:Ad w (Ce A W0::l))=>A0W A (A3I 0 (.inl rfl)) l w h);have HST:=Ab (λ (A:WA) (w:aF) (h:Ad w (Ce A (W1 0)::l))=>Vy A (A3I 0 (.inl rfl)) (A8J 0 (.inl rfl)) l w h);rw [show pwI 0=⟨#[112,97]⟩ from rfl] at HLG;clear h;go_enter Tryz.func4,Tryz.ntmps4;go_wp2_with fail;refine HM.o.mono ?_;rintro e w1 ⟨A,rfl,hc⟩;have HC:=Ab hc;clear hc HM;go_upto_region 4 with fail;refine An ?_;refine zV ?_;refine zV ?_ (v:=.agg (Cq 2 0 0 ⟨#[]⟩ ⟨#[112,97]⟩ (.slice none 0 0)).toArray) (hr:=by have e:=Ys ⟨#[112,97]⟩; go_simp; try rfl);refine Af (λ K hK=>?_);go_simp;refine (HLG.o A _ HC.o).mono ?_;rintro e w2 ⟨rfl,hc⟩;have HC:=Ab hc;clear hc HLG;refine zqp hK ?_;clear hK K;refine wpList_nil ?_;go_wp2_with fail;refine (HST.o A _ HC.o).mono ?_;rintro e w3 ⟨rfl,hc⟩;have HC:=Ab hc;clear hc HST;go_wp2_with fail;refine (HSO.o _ _ HC.o).mono ?_;rintro e w4 ⟨rfl,hc⟩;obtain ⟨pa,pc,la,lc,vs,h1⟩:=Cf hc;rw [A8R,show [(nmI 0,(4:Int),(0:Int))].length=1 from rfl] at h1;have HC:=Ab hc;have c5:=(h1.zB A.wp).cell 5;simp only [Co,List.getElem?_cons_succ,List.getElem?_cons_zero] at c5;have hx:=((h1.zP [13]).head.elim λ _ hF=>hF.1.sl);obtain ⟨fb,fo,rfl,hcx⟩:=Kv Vd [(nmI 0,4,0)] (by intro x hx; rfl) hx (i:=0) rfl (by decide);have e0:=hcx 0 (.string ⟨#[97,110,110]⟩) rfl;have e2:=hcx 2 (.int .i64 0) rfl;simp only [Nat.zero_mul,Nat.add_zero] at e0 e2;clear hc h1 hx hcx HSO;go_wp2_with fail;go_ret;exact ⟨rfl,HC.o.tail⟩
section
structure WS.Idle (S:WS):Prop where
 quiet:∀j,(S.h j).M= []/\(S.h j).E= []
 few:S.P.length<=30
 all:S.M.all.length<=30
 tab:M0 S.s.tab
 ok:S.M.Ok
 keys:S.M.keys= []
 ops:S.M.opens= []
 bxs:∀k∈S.M.boxes,InT S.s.tab k
theorem WS.Idle.calm {S:WS} (h:S.Idle) (hl:S.log.length<=60) (hs:S.stp<=1000):S.Calm 80:=
 ⟨λ j b hb=>(by rw [(h.quiet j).1] at hb; cases hb),λ j=>(by rw [(h.quiet j).1,(h.quiet j).2]; exact ⟨Nat.zero_le _,Nat.zero_le _⟩),by have:=h.few; omega,by have:=h.all; omega,by omega,h.tab,h.ok,h.keys,h.ops,h.bxs,hs⟩
section
variable (A:WA) (S:WS) (l:List Res) (w:aF)
theorem A6V (hI:S.Idle) (hl:S.log.length<=60) (hs:S.stp<1000) (hcl:S.clk<=100000) (n:Int) (m:Nat) (hn:0<=n) (hm:bits .and .i64 n 63=(m:Int)) (hmm:m<=63) (h:Ad w (Ce A S::l)): aG aA 6 #[.pointer (some ⟨A.wp,0,none⟩),.agg (Cq 0 0 n ⟨#[]⟩ ⟨#[]⟩ (.slice none 0 0)).toArray] w λ e w'=>e=.returned (.int .i64 0)/\Ad w' (Ce A { S.tick with clk:=S.clk+m } ::l):=by
 have hI2:WS.Idle { S.tick with clk:=S.clk+m } :=⟨hI.quiet,hI.few,hI.all,hI.tab,hI.ok,hI.keys,hI.ops,hI.bxs⟩
 have:=Vv A S { S.tick with clk:=S.clk+m } 0 0 n ⟨#[]⟩ ⟨#[]⟩ 0 (by omega) (hI2.calm hl (by show S.stp+1<=1000; omega)) l w h λ W hW=>by
  obtain ⟨pa,pc,la,lc,vs,hW⟩:=Cf hW;refine (X2 A.wp A.q A.mp A.sp A.rl _ _ _ _ _ _ _ 0 n m ⟨#[]⟩ ⟨#[]⟩ _ rfl hn hm hmm (by omega) (by show ((S.clk:Nat):Int)<=_; omega) _ W (hW.zP [1])).mono ?_;rintro e w' ⟨rfl,hd⟩;exact ⟨rfl,El { S.tick with clk:=S.clk+m } (hd.zP [1])⟩
 rw [WS.aft_id _ hI2.quiet] at this;exact this
theorem A3m {i:Nat} (hi:i<3) (hs:S.stp<1000) (hcl:S.clk<=100000) (x:HS) (hx:x.nm=(S.h i).nm) (hc:WS.Calm { S.tick with h:=upd S.h i x } 80) (h:Ad w (Ce A S::l))
 (ht:∀W l,Ad W (Cy A i (S.h i)::l)->aG aA 77 #[.pointer (some ⟨A.p i,0,none⟩),.int .i64 (S.clk:Int)] W λ e w'=>e=.returned (.tuple #[])/\Ad w' (Cy A i x::l)):
 aG aA 6 #[.pointer (some ⟨A.wp,0,none⟩),.agg (Cq 14 (i:Int) 0 ⟨#[]⟩ ⟨#[]⟩ (.slice none 0 0)).toArray] w λ e w'=>e=.returned (.int .i64 0)/\Ad w' (Ce A (WS.aft { S.tick with h:=upd S.h i x })::l):=by
 refine Vv A S { S.tick with h:=upd S.h i x } 14 (i:Int) 0 ⟨#[]⟩ ⟨#[]⟩ 0 (by omega) hc l w h λ W hW=>?_
 refine Xy A S.tick { S.tick with h:=upd S.h i x } 14 0 i hi (by decide) (by decide) ⟨#[]⟩ ⟨#[]⟩ 0 hcl l W hW (λ W y hW=>?_) ⟨rfl,rfl⟩;refine Tu A.wp (A.p i) (i:Int) 0 _ ⟨#[]⟩ ⟨#[]⟩ _ W _ hW λ W hW=>?_
 obtain ⟨pa,pc,la,lc,vs,hW⟩:=Cf hW.swap;refine (ht W _ (J0 hi hW)).mono ?_;rintro e w' ⟨rfl,hd⟩;exact ⟨rfl,(El { S.tick with h:=upd S.h i x } (Q3 hi rfl hd)).swap⟩
end
end
section
theorem A8n (n:Int):∃m:Nat,bits .and .i64 n 62=(m:Int)/\m<=62:=by
 have h1:(BitVec.ofInt 64 62).toNat=62:=by decide
 refine ⟨(BitVec.ofInt 64 n&&& BitVec.ofInt 64 62).toNat,?_,?_⟩
 . show aH.i64.wrap ((BitVec.ofInt 64 n&&& BitVec.ofInt 64 62).toNat:Nat)=_
   have:(BitVec.ofInt 64 n&&& BitVec.ofInt 64 62).toNat<=62:=by rw [BitVec.toNat_and,h1]; exact Nat.and_le_right
   rw [aH.wrap_i64];omega
 . rw [BitVec.toNat_and,h1]; exact Nat.and_le_right
theorem A8o (m:Nat) (hm:m<=63):bits .and .i64 (m:Int) 63=(m:Int):=by
 have h1:(BitVec.ofInt 64 63).toNat=2 ^ 6-1:=by decide
 have key:(BitVec.ofInt 64 (m:Int)&&& BitVec.ofInt 64 63).toNat=m:=by
  rw [BitVec.toNat_and,BitVec.toNat_ofInt,h1,Nat.and_two_pow_sub_one_eq_mod]
  have:((m:Int) % ((2 ^ 64:Nat):Int)).toNat=m:=by omega
  rw [this];omega
 show aH.i64.wrap ((BitVec.ofInt 64 (m:Int)&&& BitVec.ofInt 64 63).toNat:Nat)=_
 rw [key,aH.wrap_i64];omega
theorem A8y (i:Nat) (hi:i=0\/i=2):(W4 i).log.length=1:=by rcases hi with rfl | rfl <;> decide+kernel
def onH:HS:=⟨nmI 2,(c1 2).ended,D4 2,true, [], []⟩
def Qp:HS:=⟨nmI 2,Cli.new (tx (nmI 2)),Bu,false, [], []⟩
theorem on4:(W4 2).h 2=onH:=rfl
theorem A3g:Ja (D4 2) ⟨#[107,100,99]⟩=some ((in2 2).cr Ax (tk 2)):=by kernel_rfl
theorem A4C:((in2 2).cr Ax (tk 2)).2.2.2.2.1=1600:=by decide+kernel
theorem A4E:bits .and .i64 ((in2 2).cr Ax (tk 2)).2.2.2.1 1=0:=by decide+kernel
theorem U1:Fv Bu:=by
 intro x hx
 have:∀o∈Bu,o=none:=by
  intro o ho;simp only [Bu,I7,List.map_replicate] at ho
  have:=List.eq_of_mem_replicate ho;rw [this];rfl
 exact absurd (this _ hx) (by simp)
theorem A4D {D:List (Option CrD)} {d:CrD} (h:Fv D) (hd:d.2.1.length<=140737488351232):Fv (Fp D d).1:=by
 unfold Fp;split
 . exact h
 . intro x hx;rcases List.mem_or_eq_of_mem_set hx with hx | hx
   . exact h x hx
   . cases hx
     exact hd
theorem A2R:Fv (D4 2):=A4D U1 (by have:=(A3I 2 (.inr rfl)).tkl; show (tk 2).length<=_; omega)
structure Lp (m k:Nat) (S:WS):Prop where
 clk:S.clk=1000+k*m
 stp:S.stp<=100+2*k
 log:S.log.length<=30+k
 idle:S.Idle
 host:(S.h 2=onH/\S.clk<1600)\/(S.h 2=Qp/\1600<=S.clk)
theorem lp0 (m:Nat):Lp m 0 (W4 2) where
 clk:=by show 1000=1000+0*m; omega
 stp:=by show 0+1+1+1+1<=100; decide
 log:=by rw [A8y 2 (.inr rfl)]; decide
 idle:=by
  have ok:=A3I 2 (.inr rfl);have k:=k4d ok;exact ⟨q4 ok,by have:=k.few; omega,by have:=k.all; omega,k.tab,k.ok,k.keys,k.ops,k.bxs⟩
 host:=.inl ⟨on4,by show 1000<1600; decide⟩
theorem A5L (f:Nat->HS) (j:Nat):upd f j (f j)=f:=by
 funext k;unfold upd;split
 . rename_i h; rw [h]
 . rfl
def Mz:HS:=⟨nmI 2,Cli.new (tx (nmI 2)),Bu,false, [], [1]⟩
theorem A6B (S:WS) (hq:∀j,(S.h j).M= []/\(S.h j).E= []):(WS.aft { S with h:=upd S.h 2 Mz })= { S with h:=upd S.h 2 Qp,log:=S.log++ [(nmI 2,(S.stp:Int),1)] } :=by
 have e0:∀j,j≠2->((upd S.h 2 Mz) j).M= []/\((upd S.h 2 Mz) j).E= []:=λ j h=>by rw [Ec _ _ h]; exact hq j
 show ((WS.aft1 (WS.aft1 (WS.aft1 { S with h:=upd S.h 2 Mz } 0) 1) 2))=_
 have a0:WS.aft1 { S with h:=upd S.h 2 Mz } 0= { S with h:=upd S.h 2 Mz } :=WS.aft1_id _ 0 (e0 0 (by decide));have a1:WS.aft1 { S with h:=upd S.h 2 Mz } 1= { S with h:=upd S.h 2 Mz } :=WS.aft1_id _ 1 (e0 1 (by decide));rw [a0,a1];obtain ⟨s,M,K,L,box,hs,log,clk,stp,P⟩:=S;unfold WS.aft1;simp only [Eo,A6T];simp only [Mz,Qp,List.append_nil,List.foldl_nil,List.map_cons,List.map_nil]
theorem A5K {f:Nat->HS} {j:Nat} {x:HS} (h:f j=x):upd f j x=f:=by rw [<-h]; exact A5L f j
section
variable (A:WA) (l:List Res) (w:aF)
theorem A7G {m k:Nat} {S:WS} (hS:Lp m k S) (hk:k<11) (hm:m<=63) (h:Ad w (Ce A { S.tick with clk:=S.clk+m } ::l)):
 aG aA 6 #[.pointer (some ⟨A.wp,0,none⟩),.agg (Cq 14 2 0 ⟨#[]⟩ ⟨#[]⟩ (.slice none 0 0)).toArray] w λ e w'=>e=.returned (.int .i64 0)/\∃S2,Lp m (k+1) S2/\Ad w' (Ce A S2::l):=by
 have hcm:k*m<=11*63:=Nat.mul_le_mul (by omega) hm;have hck:=hS.clk;have hst:=hS.stp;have hlg:=hS.log;have hkm:(k+1)*m=k*m+m:=Nat.succ_mul k m;obtain ⟨S1,hS1⟩:∃S1,S1= { S.tick with clk:=S.clk+m } :=⟨_,rfl⟩
 have hq:∀j,(S1.h j).M= []/\(S1.h j).E= []:=by rw [hS1]; exact hS.idle.quiet
 have hI:S1.Idle:=by rw [hS1]; exact ⟨hS.idle.quiet,hS.idle.few,hS.idle.all,hS.idle.tab,hS.idle.ok,hS.idle.keys,hS.idle.ops,hS.idle.bxs⟩
 have e1:S1.stp=S.stp+1:=by rw [hS1]; rfl
 have e2:S1.clk=S.clk+m:=by rw [hS1]
 have e3:S1.log=S.log:=by rw [hS1]; rfl
 have e4:S1.h=S.h:=by rw [hS1]; rfl
 rw [<-hS1] at h;clear hS1;have hI2:WS.Idle S1.tick:=⟨hI.quiet,hI.few,hI.all,hI.tab,hI.ok,hI.keys,hI.ops,hI.bxs⟩;have stay:∀x:HS,S1.h 2=x->x.nm=(S1.h 2).nm->(∀W l,Ad W (Cy A 2 x::l)->aG aA 77 #[.pointer (some ⟨A.p 2,0,none⟩),.int .i64 (S1.clk:Int)] W λ e w'=>e=.returned (.tuple #[])/\Ad w' (Cy A 2 x::l))->((x=onH/\S1.clk<1600)\/(x=Qp/\1600<=S1.clk))->
  aG aA 6 #[.pointer (some ⟨A.wp,0,none⟩),.agg (Cq 14 2 0 ⟨#[]⟩ ⟨#[]⟩ (.slice none 0 0)).toArray] w λ e w'=>e=.returned (.int .i64 0)/\∃S2,Lp m (k+1) S2/\Ad w' (Ce A S2::l):=by
  intro x hx hn ht hh;have eu:({ S1.tick with h:=upd S1.h 2 x } :WS)=S1.tick:=by rw [A5K hx]; rfl
  have:=A3m A S1 l w (i:=2) (by decide) (by omega) (by omega) x hn (by rw [eu]; exact hI2.calm (by show S1.log.length<=60; rw [e3]; omega) (by show S1.stp+1<=1000; omega)) h (λ W l hW=>ht W l (by rw [hx] at hW; exact hW));rw [eu,WS.aft_id _ hI2.quiet] at this;refine this.mono ?_;rintro e w' ⟨rfl,hd⟩;refine ⟨rfl,S1.tick,⟨by show S1.clk=_; omega,by show S1.stp+1<=_; omega,by show S1.log.length<=_; rw [e3]; omega,hI2,?_⟩,hd⟩;show (S1.h 2=onH/\S1.clk<1600)\/(S1.h 2=Qp/\1600<=S1.clk)
  rw [hx];exact hh
 rcases hS.host with ⟨hon,hlt⟩ | ⟨hoff,hge⟩
 . rw [<-e4] at hon;by_cases hc:S1.clk<1600
   . exact stay onH hon (by rw [hon]) (λ W l hW=>Wt (A.p 2) A.q kdN (tx (nmI 2)) (c1 2).ended (D4 2) [] [] (S1.clk:Int) l W hW rfl A2R _ A3g (by rw [A4C]; omega) A4E) (.inl ⟨rfl,hc⟩)
   . have hcalm:WS.Calm { S1.tick with h:=upd S1.h 2 Mz } 80:=by
      have hk1:=hI2.calm (by show S1.log.length<=60; rw [e3]; omega) (by show S1.stp+1<=1000; omega);refine ⟨λ j b hb=>?_,λ j=>?_,hk1.few,hk1.all,hk1.log,hk1.tab,hk1.ok,hk1.keys,hk1.ops,hk1.bxs,hk1.stp⟩
      . have hb:b∈((upd S1.h 2 Mz) j).M:=hb;by_cases e:j=2
        . subst e; rw [Eo] at hb; cases hb
        . rw [Ec _ _ e,(hq j).1] at hb; cases hb
      . show ((upd S1.h 2 Mz) j).M.length<=1/\((upd S1.h 2 Mz) j).E.length<=1
        by_cases e:j=2
        . subst e; rw [Eo]; exact ⟨Nat.zero_le _,Nat.le_refl _⟩
        . rw [Ec _ _ e,(hq j).1,(hq j).2]; exact ⟨Nat.zero_le _,Nat.zero_le _⟩
     have:=A3m A S1 l w (i:=2) (by decide) (by omega) (by omega) Mz (by rw [hon]; rfl) hcalm h (λ W l hW=>by
      rw [hon] at hW;exact Ui (A.p 2) A.q kdN (tx (nmI 2)) (c1 2).ended (D4 2) [] [] (S1.clk:Int) l W sN rfl hW (by decide) rfl A2R _ A3g (by rw [A4C]; omega))
     have eo:=A6B S1.tick hq;rw [show ({ S1.tick with h:=upd S1.h 2 Mz } :WS)= { S1.tick with h:=upd S1.tick.h 2 Mz } from rfl,eo] at this;refine this.mono ?_;rintro e w' ⟨rfl,hd⟩;refine ⟨rfl,{ S1.tick with h:=upd S1.tick.h 2 Qp,log:=S1.tick.log++ [(nmI 2,(S1.tick.stp:Int),1)] },⟨?_,?_,?_,⟨λ j=>?_,hI.few,hI.all,hI.tab,hI.ok,hI.keys,hI.ops,hI.bxs⟩,.inr ⟨(Eo S1.tick.h 2 Qp:upd S1.tick.h 2 Qp 2=Qp),?_⟩⟩,hd⟩
     . show S1.clk=_; omega
     . show S1.stp+1<=_; omega
     . show (S1.log++_).length<=_
       rw [List.length_append,e3];show S.log.length+1<=_
       omega
     . show ((upd S1.h 2 Qp) j).M= []/\((upd S1.h 2 Qp) j).E= []
       by_cases e:j=2
       . subst e; rw [Eo]; exact ⟨rfl,rfl⟩
       . rw [Ec _ _ e]; exact hq j
     . show 1600<=S1.clk; omega
 . rw [<-e4] at hoff;exact stay Qp hoff (by rw [hoff]) (λ W l hW=>Uh (A.p 2) A.q kdN (tx (nmI 2)) (Cli.new (tx (nmI 2))) Bu [] [] (S1.clk:Int) l W hW rfl U1 (by decide+kernel)) (.inr ⟨rfl,by omega⟩)
end
theorem Yt (t:ByteArray):Tryz.prog.built 29 [(0,.int .i64 2),(1,.int .i64 2),(4,.string t)]=some (Cq 2 2 0 ⟨#[]⟩ t (.slice none 0 0)).toArray:=by kernel_rfl
theorem Yu (n:Int):Tryz.prog.built 29 [(0,.int .i64 0),(2,.int .i64 n)]=some (Cq 0 0 n ⟨#[]⟩ ⟨#[]⟩ (.slice none 0 0)).toArray:=by kernel_rfl
theorem Yv (n m:Int):Tryz.prog.built 29 [(0,.int .i64 n),(1,.int .i64 m)]=some (Cq n m 0 ⟨#[]⟩ ⟨#[]⟩ (.slice none 0 0)).toArray:=by kernel_rfl
theorem Xx (later:Int) (w:aF): aG aA 3 #[.int .i64 later] w λ e w'=>e=.returned (.bool true)/\Below w.heap.size w w':=by
 obtain ⟨m0,hm0,hm62⟩:=A8n later;have HSW:=Ab (Td [.base w] w (Ad.start w));have HMD:=Ab (λ (W:aF) (h:Ad W [.base w])=>Pu [.base w] W h);have HLG:=Ab (λ (A:WA) (W:aF) (h:Ad W (Ce A W0:: [.base w]))=>A0W A (A3I 2 (.inr rfl)) [.base w] W h);have HST:=Ab (λ (A:WA) (W:aF) (h:Ad W (Ce A (W1 2):: [.base w]))=>Vy A (A3I 2 (.inr rfl)) (A8J 2 (.inr rfl)) [.base w] W h);rw [show pwI 2=⟨#[112,101]⟩ from rfl] at HLG;have HM0:=Ab hm0;have HW1:Hq (aH.i64.wrap (1+(m0:Int))=((1+m0:Nat):Int)):=Ab (by rw [aH.wrap_i64]; omega);have HM63:Hq (1+m0<=63):=Ab (by omega);have HL0:=Ab (lp0 (1+m0));clear hm0 hm62;go_enter aC,Tryz.ntmps3;go_wp2_with fail;refine HSW.o.mono ?_;rintro e w1 ⟨rfl,hc⟩;have HC:=Ab hc;clear hc HSW;go_wp2_with fail;refine (HMD.o _ HC.o).mono ?_;rintro e w2 ⟨A,rfl,hc⟩;have HC:=Ab hc;clear hc HMD;go_upto_region 4 with fail;refine An ?_;refine zV ?_;refine zV ?_ (v:=.agg (Cq 2 2 0 ⟨#[]⟩ ⟨#[112,101]⟩ (.slice none 0 0)).toArray) (hr:=by have e:=Yt ⟨#[112,101]⟩; go_simp; try rfl);refine Af (λ K hK=>?_);go_simp;refine (HLG.o A _ HC.o).mono ?_;rintro e w3 ⟨rfl,hc⟩;have HC:=Ab hc;clear hc HLG;refine zqp hK ?_;clear hK K;refine wpList_nil ?_;go_wp2_with fail;refine (HST.o A _ HC.o).mono ?_;rintro e w4 ⟨rfl,hc⟩;have HC:=Ab hc;clear hc HST;go_wp2_with fail;refine (Ts HC.o).mono ?_;rintro e w5 ⟨rfl,rfl⟩;rw [show (((W4 2).clk:Nat):Int)=1000 from rfl];have c4:=E6 HC.o;have c2:=Ig HC.o (j:=2) (by decide);go_wp2_with fail;refine (Vw HC.o (j:=2) (by decide)).mono ?_;rintro e w6 ⟨rfl,rfl⟩;rw [show ((W4 2).h 2).up=true from rfl];clear c4 c2;go_wp2_with fail;go_loopw [23] (λ i wr=>∃(k:Nat) (S:WS),k<=11/\i=.int .i64 k/\Lp (1+m0) k S/\Ad wr (Ce A S:: [.base w])) (λ i _=>11- (intOf i).toNat)
 case atStart=>exact ⟨0,W4 2,by omega,rfl,HL0.o,HC.o⟩
 case round=>
  obtain ⟨k,S,hk,rfl,hS,hr⟩:=hrel;clear HC;by_cases hlt:k<11
  . have hk0:(k:Int)<11:=by omega
    have HS:=Ab hS;have hcm:k*(1+m0)<=11*63:=Nat.mul_le_mul (by omega) HM63.o;have HPS:=Ab (A6V A S [.base w] wr hS.idle (by have:=hS.log; omega) (by have:=hS.stp; omega) (by have:=hS.clk; omega) ((1+m0:Nat):Int) (1+m0) (by omega) (A8o _ HM63.o) HM63.o hr);obtain ⟨N,hN⟩:∃N:Int,N=((1+m0:Nat):Int):=⟨_,rfl⟩
    rw [<-hN] at HPS;have HN:=Ab hN;clear hr hS hcm hN;go_upto_region 10 with fail;refine An ?_;(iterate 2 refine zV ?_);refine zV ?_ (v:=.int .i64 (m0:Int)) (hr:=by have e:=HM0.o; go_simp);refine zV ?_ (v:=.int .i64 N) (hr:=by have e:=HW1.o; rw [<-HN.o] at e; go_simp);refine zV ?_ (v:=.agg (Cq 0 0 N ⟨#[]⟩ ⟨#[]⟩ (.slice none 0 0)).toArray) (hr:=by have e:=Yu N; go_simp; try rfl);refine Af (λ K hK=>?_);go_simp;refine HPS.o.mono ?_;rintro e w7 ⟨rfl,hc⟩;have HC:=Ab hc;clear hc HPS;refine zqp hK ?_;clear hK K;refine wpList_nil ?_;have HWK:=Ab (A7G A [.base w] w7 HS.o hlt HM63.o HC.o);clear HC;go_upto_region 11 with fail;refine An ?_;refine zV ?_;refine zV ?_ (v:=.agg (Cq 14 2 0 ⟨#[]⟩ ⟨#[]⟩ (.slice none 0 0)).toArray) (hr:=by have e:=Yv 14 2; go_simp; try rfl);refine Af (λ K hK=>?_);go_simp;refine HWK.o.mono ?_;rintro e w8 ⟨rfl,S2,hS2,hc⟩;have HC:=Ab hc;have HS2:=Ab hS2;clear hc hS2 HWK;refine zqp hK ?_;clear hK K;refine wpList_nil ?_;have c4:=E6 HC.o;have c2:=Ig HC.o (j:=2) (by decide);obtain ⟨b,hb⟩:∃b,b=(S2.h 2).up:=⟨_,rfl⟩
    have HON:=Ab (Vw HC.o (j:=2) (by decide));rw [<-hb] at HON;have hbc:b=decide ((S2.clk:Int)<1600):=by
     rw [hb];rcases HS2.o.host with ⟨h1,h2⟩ | ⟨h1,h2⟩
     . rw [h1,decide_eq_true (by omega)]; rfl
     . rw [h1,decide_eq_false (by omega)]; rfl
    clear hb;subst hbc;go_wp2_with fail;refine HON.o.mono ?_;rintro e w9 ⟨rfl,rfl⟩;clear HON c4 c2;go_wp2_with fail;refine (Ts HC.o).mono ?_;rintro e w10 ⟨rfl,rfl⟩;go_wp2_with fail;go_roundw
    case rel=>exact ⟨k+1,S2,by omega,by go_num,HS2.o,HC.o⟩
    case measure=>simp [intOf]; omega
  . obtain rfl:k=11:=by omega
    go_wp2_with fail;go_ret;exact ⟨rfl,hr.baseOf (w0:=w) (by simp)⟩
end
end Go.Proofs.YtcnfaghcjlhoiaaGreat
namespace Go.Proofs.YtcnfaghcjlhoiaaGreat.wholeEnds
open Go.ChangeShapes Go.WideShapes Go.ChangeAt Go.RowKit
open Go.ChangeMaps (open_string shut_string)
theorem contract (H:Type) (enc:TypeId×aE->H) (W:aF) (base:Nat) (args:Array aE) (ds gs:List (DataW H)) (before:List MemPlace) (hval0:∀(j:Nat) t v,Tryz.f3.params[j]?=some t->args[j]?=some v->aE.okWide aA W .any base t v) (hW:DataW.Whole enc aA Tryz.f3.params.toList Rows.wholeEndsSpec.vars false W args.toList ds gs before): aG aA 3 args W λ e W'=>∃v,e=.returned v/\Rows.wholeEndsSpec.post enc aA aB false true false false W args v W':=by
 have hval:=hval0;have hW':=hW;obtain ⟨p,q,hA0,hV,rfl,hfz,hnd⟩:=hW;have hA:DataW.TrodAll enc aA W 0 (λ _=>true) true Tryz.f3.params.toList args.toList ds p:=hA0;rw [Tryz.params3] at hA hval;obtain ⟨v0,vs0,d0,ds0,p0,q0,hargs,rfl,rfl,h0,r0⟩:=trodAll_cons hA;obtain ⟨rfl,rfl,rfl⟩:=trodAll_nil r0;obtain rfl:args=#[v0]:=by cases args; simp_all
 obtain ⟨rfl,rfl⟩:=trodVars_none hV;have hcall:aG aA 3 #[v0] W λ e W'=>e=.returned (.bool true)/\Below W.heap.size W W':=by
  obtain ⟨k0,rfl,rfl,rfl,_⟩:=open_int Tryz.underlying3 (hval 0 _ v0 rfl rfl) h0;exact Xx k0 W
 refine hcall.mono λ e W' ⟨he,bel⟩=>?_
 subst he;exact ⟨_,rfl,_,_,_, [],_, [],hW',trodAll_mk1 (shut_bool Tryz.underlying4 _),Na S4 bel (by kernel_rfl) hA0,rfl,bel.frame _,λ h=>by cases h⟩
theorem lifted (os:Os) (started:os.Started) (H:Type) (enc:TypeId×aE->H): ReturnsInHanded {} aD os 3 .any (Rows.wholeEndsSpec.pre6 enc aA aB Rows.wholeEndsRow.domain false) (Rows.wholeEndsSpec.post enc aA aB false true false false):=by
 refine returnsInHanded_of_change (C:=aD) A7T started (by kernel_rfl) aC
  (ChangeSpec.witness6 (enc:=enc) (C:=aD) false ⟨#[],#[.int .i64 0], []⟩ 8 (by kernel_rfl) (by kernel_rfl) (by kernel_rfl) (by kernel_rfl)) ?_
 intro W base args ds gs before hval hW _ _;exact contract H enc W base args ds gs before hval hW
theorem A3D (P:Program) (f:FuncId) (fn:Func) (s:ChangeSpec) (c:OpenClaim) (k0:(c.wf (OpenSpec.ofChange s))=true) (k1:(laidOutB P)=true) (k2:(mapsRowed P)=true) (k3:(fn.params.all (P.readableRec ·))=true) (k4:(namedTie P c.named s.vars)=true) (k5:((c.stops== []))=true) (k6:((P.stops== []))=true) (k7:((c.knobs== []))=true) (k8:((P.stopKnobs== []))=true) (k9:((c.inPlace==P.inPlace f))=true) (k10:((c.unfollowed==P.unfollowed f))=true) (k11:((c.recurses==P.recurses f))=true) (k12:((c.named==P.varsNamed f))=true) (k13:((c.maps==(fn.params.toList++s.plain.varTypes P).any (P.mapsRec ·)))=true) (k14:((c.ifaces==(fn.params.toList++s.plain.varTypes P).any (P.ifacesRec ·)))=true) (k15:((c.mapsOut==P.mapsAmong fn.resultTypes.toList))=true) (k16:((c.loops==(fn.params.toList++s.plain.varTypes P).any (P.loopsFrom ·)))=true) (k17:((c.wideKeys==(fn.params.toList++s.plain.varTypes P++fn.resultTypes.toList).any (P.wideKeysFrom ·)))=true) (k18:(s.vars.all (P.varReadable ·))=true) (k19:(fn.resultTypes.all (λ t=>P.readableRec t&&decide (t<P.types.size)))=true) (k20:((c.ifacesOut==fn.resultTypes.toList.any (P.ifacesRec ·)))=true) (k21:((c.loopsOut==fn.resultTypes.toList.any (P.loopsFrom ·)))=true) (k22:((c.plainKeys==P.plainKeys))=true) (k23:(c.shortTexts.isNone)=true) (k24:(P.stopsHeard)=true) (k25:(P.mayEnter)=true) (k26:((c.lifted==P.liftsFinal))=true) (k27:((P.make==some c.make))=true) (k28:((c.kinds==(if c.domain.isEmpty then [] else fn.params.toList.map λ t=>match P.underlying t with | some (.int k)=>some k | _=>none)))=true) (k29:((c.pinned==c.pinnedBy))=true) (k30:((c.veiled==(fn.params.toList++s.plain.varTypes P++fn.resultTypes.toList).any (P.veiledRec ·)))=true) (k31:(c.veiledFits P fn.params.toList (fn.params.toList++s.plain.varTypes P++fn.resultTypes.toList))=true):joinedFacts P f fn s c=true:=by
 have a2:∀ {a b:Bool},a=true->b=true->(a&&b)=true:=λ h1 h2=>by rw [h1,h2]; rfl
 unfold joinedFacts;exact (a2 (a2 (a2 (a2 (a2 (a2 (a2 (a2 (a2 (a2 (a2 (a2 (a2 (a2 (a2 (a2 (a2 (a2 (a2 (a2 (a2 (a2 (a2 (a2 (a2 (a2 (a2 (a2 (a2 (a2 (a2 k0 k1) k2) k3) k4) k5) k6) k7) k8) k9) k10) k11) k12) k13) k14) k15) k16) k17) k18) k19) k20) k21) k22) k23) k24) k25) k26) k27) k28) k29) k30) k31)
theorem k0:(Rows.wholeEndsRow.wf (OpenSpec.ofChange Rows.wholeEndsSpec))=true:=by kernel_rfl
theorem k1:(laidOutB aA)=true:=S4
theorem k2:(mapsRowed aA)=true:=by kernel_rfl
theorem k3:(Tryz.f3.params.all (Tryz.prog.readableRec ·))=true:=by kernel_rfl
theorem k4:(namedTie aA Rows.wholeEndsRow.named Rows.wholeEndsSpec.vars)=true:=by kernel_rfl
theorem k5:((Rows.wholeEndsRow.stops== []))=true:=by kernel_rfl
theorem k6:((Tryz.prog.stops== []))=true:=by kernel_rfl
theorem k7:((Rows.wholeEndsRow.knobs== []))=true:=by kernel_rfl
theorem k8:((Tryz.prog.stopKnobs== []))=true:=by kernel_rfl
theorem k9:((Rows.wholeEndsRow.inPlace==Tryz.prog.inPlace 3))=true:=by kernel_rfl
theorem k10:((Rows.wholeEndsRow.unfollowed==Tryz.prog.unfollowed 3))=true:=by kernel_rfl
theorem k11:((Rows.wholeEndsRow.recurses==Tryz.prog.recurses 3))=true:=by kernel_rfl
theorem k12:((Rows.wholeEndsRow.named==Tryz.prog.varsNamed 3))=true:=by kernel_rfl
theorem k13:((Rows.wholeEndsRow.maps==(Tryz.f3.params.toList++Rows.wholeEndsSpec.plain.varTypes aA).any (Tryz.prog.mapsRec ·)))=true:=by kernel_rfl
theorem k14:((Rows.wholeEndsRow.ifaces==(Tryz.f3.params.toList++Rows.wholeEndsSpec.plain.varTypes aA).any (Tryz.prog.ifacesRec ·)))=true:=by kernel_rfl
theorem k15:((Rows.wholeEndsRow.mapsOut==Tryz.prog.mapsAmong Tryz.f3.resultTypes.toList))=true:=by kernel_rfl
theorem k16:((Rows.wholeEndsRow.loops==(Tryz.f3.params.toList++Rows.wholeEndsSpec.plain.varTypes aA).any (Tryz.prog.loopsFrom ·)))=true:=by kernel_rfl
theorem k17:((Rows.wholeEndsRow.wideKeys==(Tryz.f3.params.toList++Rows.wholeEndsSpec.plain.varTypes aA++Tryz.f3.resultTypes.toList).any (Tryz.prog.wideKeysFrom ·)))=true:=by kernel_rfl
theorem k18:(Rows.wholeEndsSpec.vars.all (Tryz.prog.varReadable ·))=true:=by kernel_rfl
theorem k19:(Tryz.f3.resultTypes.all (λ t=>Tryz.prog.readableRec t&&decide (t<Tryz.prog.types.size)))=true:=by kernel_rfl
theorem k20:((Rows.wholeEndsRow.ifacesOut==Tryz.f3.resultTypes.toList.any (Tryz.prog.ifacesRec ·)))=true:=by kernel_rfl
theorem k21:((Rows.wholeEndsRow.loopsOut==Tryz.f3.resultTypes.toList.any (Tryz.prog.loopsFrom ·)))=true:=by kernel_rfl
theorem k22:((Rows.wholeEndsRow.plainKeys==Tryz.prog.plainKeys))=true:=by kernel_rfl
theorem k23:(Rows.wholeEndsRow.shortTexts.isNone)=true:=by kernel_rfl
theorem k24:(Tryz.prog.stopsHeard)=true:=by kernel_rfl
theorem k25:(Tryz.prog.mayEnter)=true:=by kernel_rfl
theorem k26:((Rows.wholeEndsRow.lifted==Tryz.prog.liftsFinal))=true:=by kernel_rfl
theorem k27:((Tryz.prog.make==some Rows.wholeEndsRow.make))=true:=by kernel_rfl
theorem k28:((Rows.wholeEndsRow.kinds==(if Rows.wholeEndsRow.domain.isEmpty then [] else Tryz.f3.params.toList.map λ t=>match Tryz.prog.underlying t with | some (.int k)=>some k | _=>none)))=true:=by kernel_rfl
theorem k29:((Rows.wholeEndsRow.pinned==Rows.wholeEndsRow.pinnedBy))=true:=by kernel_rfl
theorem k30:((Rows.wholeEndsRow.veiled==(Tryz.f3.params.toList++Rows.wholeEndsSpec.plain.varTypes aA++Tryz.f3.resultTypes.toList).any (Tryz.prog.veiledRec ·)))=true:=by kernel_rfl
theorem k31:(Rows.wholeEndsRow.veiledFits aA Tryz.f3.params.toList (Tryz.f3.params.toList++Rows.wholeEndsSpec.plain.varTypes aA++Tryz.f3.resultTypes.toList))=true:=by kernel_rfl
theorem A7C:joinedFacts aA 3 aB Rows.wholeEndsSpec Rows.wholeEndsRow=true:=
 A3D _ _ _ _ _ k0 k1 k2 k3 k4 k5 k6 k7 k8 k9 k10 k11 k12 k13 k14 k15 k16 k17 k18 k19 k20 k21 k22 k23 k24 k25 k26 k27 k28 k29 k30 k31
theorem named:Tryz.prog.funcNamed Rows.wholeEndsRow.func=some 3:=by kernel_rfl
theorem over:Rows.wholeEndsRow.holds Tryz.pinned (OpenSpec.ofChange Rows.wholeEndsSpec):=
 OpenClaim.holds_of_wide 3 aB rfl rfl rfl rfl rfl rfl rfl ⟨rfl,rfl,rfl,rfl,rfl⟩ rfl rfl rfl rfl rfl named aC A7C
  (of_decide_eq_true (by kernel_rfl)) (by unfold Func.isWrapper; first | (rw [if_pos (by decide+kernel)]; kernel_rfl) | (rw [if_neg (by decide+kernel)]; exact ⟨rfl,rfl⟩))
  (λ os started H enc _=>lifted os started H enc)
theorem proved:Rows.WholeEndsSaid:=over
end Go.Proofs.YtcnfaghcjlhoiaaGreat.wholeEnds
