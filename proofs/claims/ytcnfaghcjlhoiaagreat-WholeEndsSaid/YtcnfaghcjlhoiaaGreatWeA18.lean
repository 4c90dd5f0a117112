/- Texts of this proof, one behind the other: Hand2, Hand3, Rat1, Rec0, Rec1, Top0, Top1, Q2, Top2, Top3, TalkO, Top6, Top7. -/
import Derived.Test.YtcnfaghcjlhoiaaGreatWeA2
import Derived.Test.YtcnfaghcjlhoiaaGreatWeA4
import Derived.Test.YtcnfaghcjlhoiaaGreatWeA5
import Derived.Test.YtcnfaghcjlhoiaaGreatWeA9
import Derived.Test.YtcnfaghcjlhoiaaGreatWeA11
import Derived.Test.YtcnfaghcjlhoiaaGreatWeA12
import Derived.Test.YtcnfaghcjlhoiaaGreatWeA17
import Derived.Deep.CutBlock
set_option linter.unusedSimpArgs false
set_option linter.unusedVariables false
set_option maxRecDepth 100000
set_option maxHeartbeats 16000000
open Go.Proofs.Tryz renaming prog -> aA, func46 -> aT, ntmps46 -> aU
open And renaming intro -> aB
open List renaming map_cons -> aC, map_nil -> aD, mem_cons -> aE, not_mem_nil -> aF, sum_cons -> aG, map_toArray -> aI, length_append -> aJ, all_cons -> aK, all_nil -> aL, sum_nil -> aN, getElem?_append -> qQ1, forall_mem_append -> qQ2, forall_mem_cons -> aQ, take_append_of_le_length -> aR, take_of_length_le -> aS, length_nil -> aV, take_zero -> aO, drop_zero -> aP
open Nat renaming le_trans -> aH, le_of_lt -> aW
open Bool renaming and_true -> aM
open Go renaming Value -> aX, World -> aY, Calls -> aZ
namespace Go.Proofs.YtcnfaghcjlhoiaaGreat
open Go.RowKit Go.Maps
theorem Gf:A3 aA 136 18:=A3.mk Tryz.underlying136 rfl (by kernel_rfl)
theorem C9:A3 aA 138 4:=A3.mk Tryz.underlying138 rfl (by kernel_rfl)
def Sk (fr:Aa) (sid:Nat) (k:Aa):List aX:=(([.string (tx fr),.int .i64 (sid:Int)]:List aX)++Ae k)
theorem Pz (fr:Aa) (sid:Nat) {k:Aa} (h:k.length=16):(Sk fr sid k).length=18:=by simp [Sk,Ac,h]
theorem Dx (fr:Aa) (sid:Nat) (k:Aa):∀u∈Sk fr sid k,u.oneCell'=true:=by
 simp only [Sk,qQ2,aQ];exact ⟨⟨rfl,rfl,λ _ h=>by cases h⟩,Al _⟩
theorem A3u (fr:Aa) (sid:Nat) (k:Aa) (h:k.length=16):Tryz.prog.built 136 [(0,.string (tx fr)),(1,.int .i64 (sid:Int)),(2,.agg (Ae k).toArray)]=some (Sk fr sid k).toArray:=by
 obtain ⟨c0,c1,c2,c3,c4,c5,c6,c7,c8,c9,c10,c11,c12,c13,c14,c15,rfl⟩:=By k h
 kernel_rfl
theorem Yj (n1 n2:ByteArray) (x:Int) (a:Option Addr) (m c:Nat):Tryz.prog.built 138 [(0,.string n1),(1,.string n2),(2,.int .i64 x),(3,.slice a m c)]=some #[.string n1,.string n2,.int .i64 x,.slice a m c]:=by kernel_rfl
def Rk (s:PS) (B sub:Aa) (tm sq:Nat):Aa×PS:=(s.digest B).2.shut sub 12 (As 5 [.n tm,.n sq])
def Uo (ca q:Nat) (s:PS) (B:Aa) (L:List Sh) (m:Int) (cl me:Aa) (sid tm sq:Nat) (sub:Aa) (l:List Res) (e:Ending) (w':aY):Prop:=
 ∃y,e=.returned (.tuple #[.agg (Sk cl sid sub).toArray,.agg #[.string (tx me),.string (tx cl),.int .i64 (sid:Int),y],.int .i64 0])/\
  Ad w' (.row y (Rk s B sub tm sq).1::Bk ca L m::pvR q (Rk s B sub tm sq).2::l)
theorem R5 (ca q:Nat) (s:PS) (K B:Aa) (L:List Sh) (m:Int) (i:Ins) (me:Aa) (sid now tm sq:Nat) (tv av:aX) (tb ab sub:Aa) (l:List Res) (w:aY) (h:Ad w (Bk ca L m::pvR q s::l)) (hs:s.sz<1099511627000) (hK:K.length=16) (hB:B=A8 17 (Ep i.cl me (sid:Int) me tb [])) (hall:(Ep i.cl me (sid:Int) me tb []).all ptB=true) (hok:∀p∈Ep i.cl me (sid:Int) me tb [],Ii p) (hlen:(A8 17 (Ep i.cl me (sid:Int) me tb [])).length<=4096) (ho:s.Opn K 2 tb (As 2 i.fds)) (hv:∀W,Ad W l->Bs W tv tb) (hi:i.Ok) (hfl:i.fl=2) (hun:now<i.un) (hao:s.Opn i.key 11 ab (As 4 (auF i.cl tm sq sub (s.digest B).1))) (hav:∀W,Ad W l->Bs W av ab) (htm:tm<=1099511627776) (hsq:sq<=1099511627776) (hsub:sub.length=16) (hL:L.length<=64) (hsh:(Ch L m now (tx i.cl,(tm:Int),(sq:Int))).2=0) (hne:(Ch L m now (tx i.cl,(tm:Int),(sq:Int))).1≠ []): aZ aA 43 #[pvV s q,.string (tx me),A1 K,.pointer (some ⟨ca,0,none⟩),.int .i64 (now:Int),.agg #[.string (tx i.cl),.string (tx me),.int .i64 (sid:Int),.string (tx me),tv,av]] w (Uo ca q s B (Ch L m now (tx i.cl,(tm:Int),(sq:Int))).1 m i.cl me sid tm sq sub l):=by
 have hkn1:(s.digest B).2.knd=s.knd:=PS.knd_digest _ _;have hs1:(s.digest B).2.sz<1099511627100:=by have:=(PS.gr_digest s B).sz; omega
 have hpv1:pvV (s.digest B).2 q=pvV s q:=by rw [<-Bf hkn1,<-Bf rfl]
 have HOT:Hq (∀(w:aY) (l:List Res) (h:Ad w (pvR q s::l)) (hv:∀W,Ad W l->Bs W tv tb),aZ aA 100 #[pvV s q,A1 K,.int .i64 2,tv] w λ e w'=>e=.returned (.tuple #[.agg i.cells.toArray,.int .i64 0])/\Ad w' (pvR q s::l)):=
  Ab (λ w l h hv=>Tl q s K 2 tb tv i.fl i.key i.cl i.fr i.un i.rn l w h hK (by decide) (by omega) ho hv hi.fl hi.key hi.clr hi.fr hi.un hi.rn (by have:=hi.len; exact aH this (by decide)))
 have HOA:Hq (∀(w:aY) (l:List Res) (h:Ad w (pvR q s::l)) (hv:∀W,Ad W l->Bs W av ab),aZ aA 101 #[pvV s q,A1 i.key,.int .i64 11,av] w λ e w'=>∃v,e=.returned (.tuple #[.agg (auC i.cl tm sq sub v).toArray,.int .i64 0])/\Ad w' (.row v (s.digest B).1::pvR q s::l)):=
  Ab (λ w l h hv=>Tm q s i.key 11 ab av i.cl tm sq sub (s.digest B).1 l w h hi.key (by decide) (by omega) hao hv hi.clr htm hsq hsub (aH (Uu i.cl tm sq sub _ hi.cl hsub (PS.digest_len _ _)) (by decide)))
 have HSUM:Hq (∀(tv:aX) (a:Option Addr) (n c:Nat) (W:aY) (l:List Res) (h:Ad W (pvR q s::l)) (hv:∀W,Ad W l->Bs W tv tb),aZ aA 103 #[pvV s q,.iface 128 (.agg #[.string (tx i.cl),.string (tx me),.int .i64 (sid:Int),.string (tx me),tv,.slice a n c])] W (Kb q (s.digest B).2 (s.digest B).1 l)):=
  Ab (λ tv a n c W l h hv=>by rw [hB]; exact Sf q s i.cl me (sid:Int) me tb tv a n c l W h (by omega) hall hok hlen hv)
 have HSL:Hq (∀(W:aY) (l:List Res),Ad W (pvR q (s.digest B).2::l)->aZ aA 83 #[pvV s q,A1 sub,.int .i64 12,.iface 130 (.agg #[.int .i64 (tm:Int),.int .i64 (sq:Int)])] W (V1 q (s.digest B).2 sub 12 (As 5 [.n tm,.n sq]) l)):=Ab (λ W l h=>by rw [<-hpv1]; exact Te q _ _ 12 tm sq l W h hsub (by decide) (by omega) htm hsq);unfold V1 at HSL;change Hq (∀(W:aY) (l:List Res),_->aZ _ _ _ _ λ e w'=>∃y,_/\Ad w' (.row y (Rk s B sub tm sq).1::pvR q (Rk s B sub tm sq).2::l)) at HSL;have hdg:(s.digest B).1.length<=100:=PS.digest_len _ _;unfold Uo;generalize Rk s B sub tm sq=x3 at*;generalize s.digest B=x1 at*;obtain ⟨dg,s1⟩:=x1;obtain ⟨bx,s3⟩:=x3;simp only at*;have HEQ:Hq (∀(v u:aX) (w:aY),Bs w v dg->Bs w u dg->aZ aA 102 #[v,u] w λ e w'=>e=.returned (.bool true)/\w=w'):=Ab (λ v u w h1 h2=>(O1 v u dg dg w h1 h2).mono λ e w' h=>⟨by rw [h.1]; simp,h.2⟩);have HSHOW:Hq (∀(w:aY) (l:List Res) (h:Ad w (Bk ca L m::l)),aZ aA 104 #[.pointer (some ⟨ca,0,none⟩),.int .i64 (now:Int),.string (tx i.cl),.int .i64 (tm:Int),.int .i64 (sq:Int)] w λ e w'=>e=.returned (.int .i64 0)/\Ad w' (Bk ca (Ch L m now (tx i.cl,(tm:Int),(sq:Int))).1 m::l)):=Ab (λ w l h=>by
  have:=Ld ca L m now (tx i.cl,(tm:Int),(sq:Int)) l w h hL hne;rw [hsh] at this;exact this)
 have HV:=Ab hv;have HAV:=Ab hav;obtain ⟨va,vc,rfl,_,_⟩:=(hv _ h.tail.tail).form;obtain ⟨aa,ac,rfl,_,_⟩:=(hav _ h.tail.tail).form;have HIL:Hq (i.cells.length=21):=Ab (Ins.cells_length hi);have HIO:=Ab (Ins.cells_one i);have HI0:Hq (i.cells[0]?=some (.int .i64 2)):=Ab (by show some (aX.int .i64 (i.fl:Int))=_; rw [hfl]; rfl);have HI17:Hq (i.cells[17]?=some (.string (tx i.cl))):=Ab (by simp [Ins.cells,qQ1,Ac,hi.key]);have HI19:Hq (i.cells[19]?=some (.int .i64 (i.un:Int))):=Ab (by simp [Ins.cells,qQ1,Ac,hi.key]);have HIK:Hq ((i.cells.drop 1).take 16=Ae i.key):=Ab (by simp [Ins.cells,aR,aS,Ac,hi.key]);have HKI:Hq ((Ae i.key).length=16):=Ab (by rw [Ac,hi.key]);have HKK:Hq ((Ae K).length=16):=Ab (by rw [Ac,hK]);have HKS:Hq ((Ae sub).length=16):=Ab (by rw [Ac,hsub]);have HA19:Hq (∀v,(auC i.cl tm sq sub v)[19]?=some v):=Ab (λ v=>by simp [auC,qQ1,Ac,hsub]);have HAL:Hq (∀v,(auC i.cl tm sq sub v).length=20):=Ab (λ v=>by simp [auC,Ac,hsub]);have HAK:Hq (∀v,((auC i.cl tm sq sub v).drop 3).take 16=Ae sub):=Ab (λ v=>by simp [auC,aR,aS,Ac,hsub]);have HAO:Hq (∀(a:Option Addr) (n c:Nat),∀u∈auC i.cl tm sq sub (.slice a n c),u.oneCell'=true):=Ab (λ a n c=>by
  simp only [auC,qQ2,aQ];exact ⟨⟨rfl,rfl,rfl,λ _ h=>by cases h⟩,Al _,rfl,λ _ h=>by cases h⟩)
 have HBM:=Ab (A3u i.cl sid sub hsub);have HML:=Ab (Pz i.cl sid hsub);have HMO:=Ab (Dx i.cl sid sub);have HUN:=Ab hun;have HC:=Ab h;clear h hs hK hB hall hok hlen ho hv hi hfl hun hao hav htm hsq hsub hL hsh hne hkn1 hs1 hpv1 hdg;obtain ⟨IC,hIC⟩:∃x,x=i.cells:=⟨_,rfl⟩
 rw [<-hIC] at HIL HIO HI0 HI17 HI19 HIK HOT;clear hIC;obtain ⟨MC,hMC⟩:∃x,x=Sk i.cl sid sub:=⟨_,rfl⟩
 rw [<-hMC] at HBM HML HMO ⊢;clear hMC;unfold pvV A1 at*;go_enter Tryz.func43,Tryz.ntmps43;go_upto_region 0 with fail;refine An ?_;refine Af (λ K' k'=>?_);refine zNp (Ae K) 46 HC.o ?_;intro b8 w1 HC;refine zqp k' ?_;clear k' K';refine Af (λ K' k'=>?_);refine zNp _ 128 HC.o ?_;intro b11 w2 HC;refine zqp k' ?_;clear k' K';refine Af (λ K' k'=>?_);refine zNp _ 136 HC.o ?_;intro b12 w3 HC;refine zqp k' ?_;clear k' K';refine Af (λ K' k'=>?_);refine zNp _ 138 HC.o ?_;intro b13 w4 HC;refine zqp k' ?_;clear k' K';refine zV ?_;refine wpList_nil ?_;go_upto_region 1 with fail;refine An ?_;refine zV ?_;refine zL ?_;(iterate 5 refine zV ?_);refine zL ?_;(iterate 3 refine zV ?_);refine wpList_nil ?_;go_upto_region 3 with fail;refine An ?_;refine zV ?_;refine zLa Aq ?_;(iterate 2 refine zV ?_);refine zL ?_;refine Af (λ K' k'=>?_);go_simp;refine (HOT.o _ _ (HC.o.zP [5]) (λ W hW=>HV.o W hW.tail.tail.tail.tail.tail)).mono ?_;rintro e w5 ⟨rfl,hc⟩;have HC:=Ab hc;clear hc;refine zqp k' ?_;clear k' K';(iterate 3 refine zV ?_);refine Af (λ K' k'=>?_);refine zNp Jm 200 HC.o ?_;intro b15 w6 HC;refine zqp k' ?_;clear k' K';refine Af (λ K' k'=>?_);refine zWo Bz HIO.o HC.o ?_ (hm:=HIL.o);intro w7 HC;refine zqp k' ?_;clear k' K';refine zV ?_;refine wpList_nil ?_;go_upto_region 6 with fail;refine An ?_;refine zV ?_;refine zL ?_;refine zV ?_ (v:=.int .i64 2) (hr:=by go_simp; try rfl);(iterate 2 refine zV ?_);refine wpList_nil ?_;go_upto_region 8 with fail;refine An ?_;refine zV ?_;refine zL ?_;refine zV ?_;refine zV ?_ (v:=.bool false) (hr:=by have h1:=HUN.o; have h2:¬(i.un:Int)<=(now:Int):=(by omega); have h3:¬i.un<=now:=(by omega); go_simp);refine zV ?_;refine wpList_nil ?_;go_upto_region 10 with fail;refine An ?_;(iterate 2 refine zV ?_);refine zLa Aq ?_;refine zV ?_;refine zL ?_;refine Af (λ K' k'=>?_);go_simp;refine (HOA.o _ _ (HC.o.zP [1]) (λ W hW=>HAV.o W hW.tail.tail.tail.tail.tail.tail)).mono ?_;rintro e w8 ⟨y,rfl,hc⟩;obtain ⟨ya,yc,rfl,_,_⟩:=(hc.rowOf (v:=y) (b:=dg) (by simp)).form;have HC:=Ab hc;clear hc;refine zqp k' ?_;clear k' K';(iterate 3 refine zV ?_);refine Af (λ K' k'=>?_);refine zNp A2D 224 HC.o ?_;intro b17 w9 HC;refine zqp k' ?_;clear k' K';refine Af (λ K' k'=>?_);refine zWo Ix (HAO.o ya dg.length yc) HC.o ?_ (hm:=HAL.o (.slice ya dg.length yc));intro w10 HC;refine zqp k' ?_;clear k' K';refine zV ?_;refine wpList_nil ?_;go_upto_region 13 with fail;refine zG (λ b W=>W.cell? ⟨b17,0,none⟩=some (.string (tx i.cl))/\W.cell? ⟨b15,17,none⟩=some (.string (tx i.cl))/\W.cell? ⟨b11,0,none⟩=some (.string (tx i.cl))/\W.cell? ⟨b17,19,none⟩=some (.slice ya dg.length yc)/\Ao W (b11) 0 [.string (tx i.cl),.string (tx me),.int .i64 (sid:Int),.string (tx me),.slice va tb.length vc,.slice aa ab.length ac]) HC.o λ W hc=>?_
 have HC:=Ab hc;clear hc;have HS:=Ab (aB (((HC.o.zB b17).cell 0).trans (show (auC i.cl tm sq sub (.slice ya dg.length yc):List aX)[0]?=some (.string (tx i.cl)) from rfl)) (aB (((HC.o.zB b15).cell 17).trans HI17.o) (aB ((HC.o.zB b11).cell 0) (aB (((HC.o.zB b17).cell 19).trans (HA19.o (.slice ya dg.length yc))) ((HC.o.zB b11).cellsAll)))));refine zT 0 ?_;refine zT 1 ?_;refine zT 2 ?_;refine zT 3 ?_;refine zT 4 ?_;refine zT 5 ?_;refine zT 6 ?_;refine zT 7 ?_;refine zT 8 ?_;refine zT 9 ?_;refine zT 10 ?_;refine zT 11 ?_;refine zT 12 ?_;refine zT 13 ?_;refine zT 14 ?_;refine zT 15 ?_;refine zT 16 ?_ (hr:=λ _ _ _ hW=>ldJ Ge rfl rfl hW.2.2.2.2);refine zT 17 ?_;refine zJ 18 λ K' k'=>?_
 go_simp;refine (HSUM.o _ _ _ _ _ _ (HC.o.zP [2]) (λ W hW=>HV.o W hW.tail.tail.tail.tail.tail.tail.tail.tail)).mono ?_;rintro e w11 ⟨x,rfl,hc⟩;obtain ⟨xa,xc,rfl,_,_⟩:=(hc.rowOf (v:=x) (b:=dg) (by simp)).form;have HC:=Ab hc;clear hc;have HS:=Ab (aB (((HC.o.zB b17).cell 0).trans (show (auC i.cl tm sq sub (.slice ya dg.length yc):List aX)[0]?=some (.string (tx i.cl)) from rfl)) (aB (((HC.o.zB b15).cell 17).trans HI17.o) (aB ((HC.o.zB b11).cell 0) (aB (((HC.o.zB b17).cell 19).trans (HA19.o (.slice ya dg.length yc))) ((HC.o.zB b11).cellsAll)))));refine zq k' ?_;clear k' K';refine zJ 19 λ K' k'=>?_
 go_simp;refine (HEQ.o _ _ _ (HC.o.rowOf (by simp)) (HC.o.rowOf (by simp))).mono ?_;rintro e w12 ⟨rfl,rfl⟩;have HS:=Ab (aB (((HC.o.zB b17).cell 0).trans (show (auC i.cl tm sq sub (.slice ya dg.length yc):List aX)[0]?=some (.string (tx i.cl)) from rfl)) (aB (((HC.o.zB b15).cell 17).trans HI17.o) (aB ((HC.o.zB b11).cell 0) (aB (((HC.o.zB b17).cell 19).trans (HA19.o (.slice ya dg.length yc))) ((HC.o.zB b11).cellsAll)))));refine zq k' ?_;clear k' K';refine zT 20 ?_;refine zT 21 ?_;refine zT 22 ?_;refine zD ?_;go_upto_region 15 with fail;refine An ?_;(iterate 3 refine zV ?_);refine zV ?_ (hr:=by have c:=((HC.o.zB b17).cell 0).trans (show (auC i.cl tm sq sub (.slice ya dg.length yc):List aX)[0]?=some (.string (tx i.cl)) from rfl); go_simp; try rfl);refine zV ?_;refine zV ?_ (hr:=by have c:=((HC.o.zB b17).cell 1).trans (show (auC i.cl tm sq sub (.slice ya dg.length yc):List aX)[1]?=some (.int .i64 (tm:Int)) from rfl); go_simp; try rfl);refine zV ?_;refine zV ?_ (hr:=by have c:=((HC.o.zB b17).cell 2).trans (show (auC i.cl tm sq sub (.slice ya dg.length yc):List aX)[2]?=some (.int .i64 (sq:Int)) from rfl); go_simp; try rfl);refine Af (λ K' k'=>?_);go_simp;refine (HSHOW.o _ _ (HC.o.zP [9])).mono ?_;rintro e w13 ⟨rfl,hc⟩;have HC:=Ab hc;clear hc;refine zqp k' ?_;clear k' K';refine zV ?_;refine wpList_nil ?_;go_upto_region 18 with fail;refine An ?_;(iterate 2 refine zV ?_);refine zV ?_ (hr:=ldJ Aq rfl HKS.o (by have:=(HC.o.zB b17).cellsAt 3 16; rw [(HAK.o (.slice ya dg.length yc))] at this; exact this));refine zV ?_;refine zV ?_ (hr:=by have c:=((HC.o.zB b17).cell 1).trans (show (auC i.cl tm sq sub (.slice ya dg.length yc):List aX)[1]?=some (.int .i64 (tm:Int)) from rfl); go_simp; try rfl);refine zV ?_;refine zV ?_ (hr:=by have c:=((HC.o.zB b17).cell 2).trans (show (auC i.cl tm sq sub (.slice ya dg.length yc):List aX)[2]?=some (.int .i64 (sq:Int)) from rfl); go_simp; try rfl);refine zV ?_ (v:=.agg #[.int .i64 (tm:Int),.int .i64 (sq:Int)]) (hr:=Gh (by simp only [aI,aC,aD]; try rfl) (Lc tm sq) _);refine zV ?_;refine Af (λ K' k'=>?_);go_simp;refine (HSL.o _ _ (HC.o.zP [2])).mono ?_;rintro e w14 ⟨z,rfl,hc⟩;obtain ⟨za,zc,rfl,_,_⟩:=(hc.rowOf (v:=z) (b:=bx) (by simp)).form;have HC:=Ab hc;clear hc;refine zqp k' ?_;clear k' K';(iterate 5 refine zV ?_);refine wpList_nil ?_;go_upto_region 21 with fail;refine zG (λ b W=>W.cell? ⟨b11,0,none⟩=some (.string (tx i.cl))/\W.cell? ⟨b11,2,none⟩=some (.int .i64 (sid:Int))/\Ao W (b17) 3 (Ae sub)) HC.o λ W hc=>?_
 have HC:=Ab hc;clear hc;have HS:=Ab (aB ((HC.o.zB b11).cell 0) (aB ((HC.o.zB b11).cell 2) ((by have:=(HC.o.zB b17).cellsAt 3 16; rw [(HAK.o (.slice ya dg.length yc))] at this; exact this))));refine zT 0 ?_;refine zT 1 ?_;refine zT 2 ?_;refine zT 3 ?_;refine zT 4 ?_;refine zT 5 ?_ (hr:=λ _ _ _ hW=>ldJ Aq rfl HKS.o hW.2.2);refine zT 6 ?_ (v:=.agg (MC:List aX).toArray) (hr:=λ l W hk hW=>Gh (by simp only [aI,aC,aD]; try rfl) (HBM.o) W);refine zT 7 ?_;refine zT 8 ?_;refine zT 9 ?_;refine zT 10 ?_;refine zT 11 ?_;refine zT 12 ?_;refine zT 13 ?_ (v:=.agg #[.string (tx me),.string (tx i.cl),.int .i64 (sid:Int),.slice za bx.length zc]) (hr:=λ l W hk hW=>Gh (by simp only [aI,aC,aD]; try rfl) (Yj _ _ _ _ _ _) W);refine zJ 14 λ K' k'=>?_
 refine zWo Gf HMO.o (HC.o.zP [8]) ?_ (hm:=HML.o);intro w15 HC;have HS:=Ab (aB ((HC.o.zB b11).cell 0) (aB ((HC.o.zB b11).cell 2) ((by have:=(HC.o.zB b17).cellsAt 3 16; rw [(HAK.o (.slice ya dg.length yc))] at this; exact this))));refine zq k' ?_;clear k' K';refine zJ 15 λ K' k'=>?_
 refine zW C9 (HC.o.zP [8]) ?_;intro w16 HC;have HS:=Ab (aB ((HC.o.zB b11).cell 0) (aB ((HC.o.zB b11).cell 2) ((by have:=(HC.o.zB b17).cellsAt 3 16; rw [(HAK.o (.slice ya dg.length yc))] at this; exact this))));refine zq k' ?_;clear k' K';refine zT 16 ?_;refine zD ?_;go_wp2_with fail;have HC:=Ab (HC.o.zP [1]);exact bodyPost_ret (Hc rfl Gf C9 rfl rfl HML.o HC.o.blk0.cellsAll rfl HC.o.tail.blk0.cellsAll) rfl ⟨_,rfl,(HC.o.zP [0,0,3,3,3,3,3,3,0,1]).tail.tail.tail.tail.tail.tail.tail.tail⟩
theorem R6 (q:Nat) (s:PS) (k:Aa) (me pr:Aa) (sid tm sq:Nat) (v:aX) (bx:Aa) (l:List Res) (w:aY) (h:Ad w (pvR q s::l)) (hs:s.sz<1099511627000) (hk:k.length=16) (ho:s.Opn k 12 bx (As 5 [.n tm,.n sq])) (hv:∀W,Ad W l->Bs W v bx) (htm:tm<=1099511627776) (hsq:sq<=1099511627776): aZ aA 45 #[.agg (Jj pr sid k tm sq).toArray,pvV s q,.string (tx me),.agg #[.string (tx pr),.string (tx me),.int .i64 (sid:Int),v]] w λ e w'=>e=.returned (.int .i64 0)/\Ad w' (pvR q s::l):=by
 have HOS:Hq (∀(w:aY) (l:List Res) (h:Ad w (pvR q s::l)) (hv:∀W,Ad W l->Bs W v bx),aZ aA 86 #[pvV s q,A1 k,.int .i64 12,v] w λ e w'=>e=.returned (.tuple #[.agg #[.int .i64 (tm:Int),.int .i64 (sq:Int)],.int .i64 0])/\Ad w' (pvR q s::l)):=
  Ab (λ w l h hv=>Tn q s k 12 bx v tm sq l w h hk (by decide) (by omega) ho hv htm hsq (aH (A0A tm sq) (by decide)))
 have HV:=Ab hv;obtain ⟨va,vc,rfl,_,_⟩:=(hv _ h.tail).form;have HOL:=Ab (L3 pr sid hk tm sq);have HOO:=Ab (Sw pr sid k tm sq);have HOK:=Ab (Sv pr sid hk tm sq);have HOT:Hq (((Jj pr sid k tm sq).drop 18).take 2= [.int .i64 (tm:Int),.int .i64 (sq:Int)]):=Ab (by
  obtain ⟨c0,c1,c2,c3,c4,c5,c6,c7,c8,c9,c10,c11,c12,c13,c14,c15,rfl⟩:=By k hk
  rfl)
 have HKK:Hq ((Ae k).length=16):=Ab (by rw [Ac,hk]);have HO0:Hq ((Jj pr sid k tm sq)[0]?=some (.string (tx pr))):=Ab rfl;have HO1:Hq ((Jj pr sid k tm sq)[1]?=some (.int .i64 (sid:Int))):=Ab rfl;have HC:=Ab h;clear h hs hk ho hv htm hsq;obtain ⟨OC,hOC⟩:∃x,x=Jj pr sid k tm sq:=⟨_,rfl⟩
 rw [<-hOC] at HOL HOO HOK HOT HO0 HO1 ⊢;clear hOC;unfold pvV A1 at*;go_enter Tryz.func45,Tryz.ntmps45;go_upto_region 0 with fail;refine An ?_;refine Af (λ K' k'=>?_);refine zNp OC 132 HC.o ?_;intro b4 w1 HC;refine zqp k' ?_;clear k' K';refine Af (λ K' k'=>?_);refine zNp _ 138 HC.o ?_;intro b7 w2 HC;refine zqp k' ?_;clear k' K';refine zV ?_;refine wpList_nil ?_;go_upto_region 1 with fail;refine An ?_;refine zV ?_;refine zL ?_;refine zV ?_;refine zL ?_;(iterate 3 refine zV ?_);refine zL ?_;(iterate 5 refine zV ?_);refine zL ?_;refine zV ?_;refine zL ?_;(iterate 2 refine zV ?_);refine wpList_nil ?_;go_upto_region 3 with fail;refine An ?_;(iterate 2 refine zV ?_);refine zLa Aq ?_;refine zV ?_;refine zL ?_;refine Af (λ K' k'=>?_);go_simp;refine (HOS.o _ _ (HC.o.zP [2]) (λ W hW=>HV.o W hW.tail.tail)).mono ?_;rintro e w3 ⟨rfl,hc⟩;have HC:=Ab hc;clear hc;refine zqp k' ?_;clear k' K';(iterate 3 refine zV ?_);refine Af (λ K' k'=>?_);refine zNp A2E 130 HC.o ?_;intro b9 w4 HC;refine zqp k' ?_;clear k' K';refine Af (λ K' k'=>?_);refine zW Gg HC.o ?_;intro w5 HC;refine zqp k' ?_;clear k' K';refine zV ?_;refine wpList_nil ?_;go_upto_region 6 with fail;refine An ?_;refine zLa Gg ?_;refine zV ?_;refine zLa Gg ?_;(iterate 2 refine zV ?_);refine wpList_nil ?_;go_upto_region 8 with fail;refine An ?_;refine zV ?_;refine wpList_nil ?_;go_wp2_with fail;go_ret;exact ⟨rfl,(HC.o.zP [0,1,1]).tail.tail.tail⟩
def chC (b:Bool) (q:Nat) (k:Aa) (e:Int):List aX:= [pvI b q]++(Ae k++ [.int .i64 e,.bool false])
def D7 (cp:Nat) (b:Bool) (q:Nat) (k:Aa) (e:Int):Res:=.blk cp (chC b q k e) 328
theorem Yn (b:Bool) (q:Nat) (k:Aa) (h:k.length=16):Tryz.prog.built 328 [(0,pvI b q),(1,.agg (Ae k).toArray)]=some (chC b q k 0).toArray:=by
 obtain ⟨c0,c1,c2,c3,c4,c5,c6,c7,c8,c9,c10,c11,c12,c13,c14,c15,rfl⟩:=By k h;unfold pvI chC
 kernel_rfl
theorem PS.derive_len {q:Nat} {s:PS} {k:Aa} {lb:ByteArray} {l:List Res} {w:aY} (h:Ad w (pvR q s::l)):(s.derive k lb).1.length=16:=by
 cases s with
 | sym s=>exact (Cc.1 h).elim λ _ hx=>Ob hx.1.1 _
def Nb (q:Nat) (s:PS) (k:Aa) (lb:ByteArray) (l:List Res) (e:Ending) (w':aY):Prop:=
 ∃cp,e=.returned (.pointer (some ⟨cp,0,none⟩))/\Ad w' (D7 cp s.knd q (s.derive k lb).1 0::pvR q (s.derive k lb).2::l)
theorem Kt (q:Nat) (s:PS) (k:Aa) (lb:ByteArray) (l:List Res) (w:aY) (h:Ad w (pvR q s::l)) (hs:s.sz<1099511627776) (hk:k.length=16) (hlb:lb.size<=100000): aZ aA 105 #[pvV s q,A1 k,.string lb] w (Nb q s k lb l):=by
 have HKB:Hq ((Ae k).length=16):=Ab (by rw [Ac,hk]);have HD:=Ab (λ (w:aY) (l:List Res) (h:Ad w (pvR q s::l))=>Xj q s k lb l w h hk hlb hs);have HKL:Hq ((s.derive k lb).1.length=16):=Ab (PS.derive_len h);have HV:Hq (pvV s q=pvI s.knd q):=Ab (Bf rfl q).symm;have HC:=Ab (h.addBlkAt (Ae k) 46 (b:=w.heap.size) rfl);have g1:=λ j a w=>Fy s j a "Derive" (by simp) w
 have g2:=λ j a w=>A3S s j a w
 have g3:∀(args:Array aX) (w:aY),(callFunc (Hi s) args).run aA w=.ok (.enter (Hi s) args) w:=A3y s
 clear h hs hk hlb;unfold pvV A1 at*;go_enter Tryz.func105,Tryz.ntmps105;go_wp2_with ((with_reducible refine zw 9 ?_);refine Aj rfl (.tmp 4) Aq rfl rfl (cs:=Ae k) HKB.o HC.o.blk0.cellsAll ?_);refine (HD.o _ _ HC.o.swap).mono ?_;rintro e w2 ⟨rfl,hc⟩;have HC:=Ab hc.swap.tail;clear hc;go_wp2_with ((with_reducible refine zw 12 ?_);refine De rfl rfl (by simp [Act.eval]; rfl) (by rw [HV.o]; exact Yn s.knd q (s.derive k lb).1 HKL.o) ?_);go_ret;exact ⟨w2.heap.size,rfl,HC.o.addBlkAt (chC s.knd q (s.derive k lb).1 0) 328 rfl⟩
end Go.Proofs.YtcnfaghcjlhoiaaGreat
namespace Go.Proofs.YtcnfaghcjlhoiaaGreat
open Go.RowKit Go.Maps
theorem A5S:A3 aA 152 2:=A3.mk Tryz.underlying152 rfl (by kernel_rfl)
theorem A7x:Cp aA 235 152 2 32 (.agg #[.int .u64 0,.slice none 0 0]):=by
 refine Cp.mk Tryz.underlying235 ?_ rfl (by decide)
 kernel_rfl
theorem A1t (k:Int) (a:Option Addr) (n c:Nat):Tryz.prog.built 152 [(0,.int .u64 k),(1,.slice a n c)]=some #[.int .u64 k,.slice a n c]:=by kernel_rfl
def K8 (b:Bool) (q:Nat) (me pe:Aa) (sid po pi:Nat) (qv:aX) (st gt:Nat) (fv:aX):List aX:=
 [pvI b q,.string (tx me),.string (tx pe),.int .i64 (sid:Int),.pointer (some ⟨po,0,none⟩),.pointer (some ⟨pi,0,none⟩),qv,.int .i64 (st:Int),.int .i64 (gt:Int),fv,.bool false]
theorem Uv (t:TypeId) (v:aX) (n1 n2:ByteArray) (x:Int) (po pi:Nat):Tryz.prog.built 238 [(0,.iface t v),(1,.string n1),(2,.string n2),(3,.int .i64 x),(4,.pointer (some ⟨po,0,none⟩)),(5,.pointer (some ⟨pi,0,none⟩))]=some #[.iface t v,.string n1,.string n2,.int .i64 x,.pointer (some ⟨po,0,none⟩),.pointer (some ⟨pi,0,none⟩),.slice none 0 0,.int .i64 0,.int .i64 0,.pointer none,.bool false]:=by kernel_rfl
theorem Vs {P:Program} {ops:Array Oper} {o:Oper} {a:Act} {w:aY} {K:Act->aY->Prop} {Q:Exit->Act->aY->Prop} {E:Prop} (hgd:o.guard=none) (s x:Operand) {t e:TypeId} {size bytes:Nat} {z:aX} (hE:Cp P t e size bytes z) (ho:o.op=.call { callee:=.builtin .append,args:=#[s,x],argTypes:=#[t,t] }) {v:aX} (hv:a.eval s=v) {u:aX} (hu:a.eval x=u) {n:Nat} {cs:List aX} {l:List Res} (hH:Ad w (.ownZ e size v n cs::l)) {m:Nat} {ds:List aX} (hsl:Sl w size u m ds) (hm0:0<m) (h63:n+m<=maxLen) (hbytes:(n+m)*bytes<=140737488355328) (h:∀v' w',Ad w' (.ownZ e size v' (n+m) (cs++ds)::l)->K (a.put o.dst v') w'):if Region.wanted o (yielded ops a.tmps)=true then Oper.wp P o a w K Q else E:=by
 have hw:Region.wanted o (yielded ops a.tmps)=true:=by simp [Region.wanted,hgd]
 rw [if_pos hw];obtain ⟨v',w',hr,h2,h3,h4⟩:=A0s (P:=P) (ty:=o.type) (B:=0) hE (hH.ownZOf (e:=e) (sz:=size) (n:=n) (v:=v) (cs:=cs) (by simp)) hsl hm0 h63 hbytes (Nat.zero_le _);unfold Oper.wp execOp;simp only [ho,resolve,invoke,builtin,Sem.run_bind,Sem.run_pure,Result.andThen_ok,aI,aC,aD,hv,hu,hr];exact h _ _ (hH.appendZ h2 h3 h4)
theorem Ad.addNilZ {W:aY} {l:List Res} (h:Ad W l) (e:TypeId) (sz:Nat):Ad W (.ownZ e sz (.slice none 0 0) 0 []::l):=(h.addNil e sz).ownToZ
def Eg:ByteArray:=⟨#[111,110,101]⟩
def K9:ByteArray:=⟨#[116,119,111]⟩
theorem Qq (q:Nat) (s:PS) (k me pe:Aa) (sid:Nat) (l:List Res) (w:aY) (h:Ad w (pvR q s::l)) (hs:s.sz<1099511627000) (hk:k.length=16): aZ aA 46 #[pvV s q,.string (tx me),.string (tx pe),.int .i64 (sid:Int),A1 k,.bool true] w λ e w'=>∃sp p1 p2,e=.returned (.pointer (some ⟨sp,0,none⟩))/\Ad w' (.blk sp (K8 s.knd q me pe sid p1 p2 (.slice none 0 0) 0 0 (.pointer none)) 238::.ownZ 152 2 (.slice none 0 0) 0 []::D7 p1 s.knd q (s.derive k Eg).1 0::D7 p2 s.knd q ((s.derive k Eg).2.derive k K9).1 0::pvR q ((s.derive k Eg).2.derive k K9).2::l):=by
 have hkn1:(s.derive k Eg).2.knd=s.knd:=PS.knd_derive _ _ _;have hs1:(s.derive k Eg).2.sz<1099511627100:=by have:=(PS.gr_derive s k Eg).sz; omega
 have hpv1:pvV (s.derive k Eg).2 q=pvV s q:=by rw [<-Bf hkn1,<-Bf rfl]
 have H1:Hq (∀(w:aY) (l:List Res) (h:Ad w (pvR q s::l)),aZ aA 105 #[pvV s q,A1 k,.string ⟨#[111,110,101]⟩] w (Nb q s k Eg l)):=Ab (λ w l h=>Kt q s k Eg l w h (by omega) hk (by decide));have H2:Hq (∀(w:aY) (l:List Res) (h:Ad w (pvR q (s.derive k Eg).2::l)),aZ aA 105 #[pvV s q,A1 k,.string ⟨#[116,119,111]⟩] w (Nb q (s.derive k Eg).2 k K9 l)):=Ab (λ w l h=>by rw [<-hpv1]; exact Kt q _ k K9 l w h (by omega) hk (by decide));unfold Nb at H1 H2;rw [hkn1] at H2;have HKB:Hq ((Ae k).length=16):=Ab (by rw [Ac,hk]);generalize (s.derive k Eg).2.derive k K9=x2 at*;generalize s.derive k Eg=x1 at*;obtain ⟨k1,s1⟩:=x1;obtain ⟨k2,s2⟩:=x2;simp only at*;have HPI:=Ab (Bf (s:=s) rfl q);have HC:=Ab h;clear h hs hk hkn1 hs1 hpv1;unfold K8;rw [HPI.o];unfold pvV A1 at*;go_enter aT,aU;go_upto_region 0 with fail;refine An ?_;refine Af (λ K' k'=>?_);refine zNp (Ae k) 46 HC.o ?_;intro b10 w1 HC;refine zqp k' ?_;clear k' K';refine zV ?_;refine wpList_nil ?_;go_upto_region 1 with fail;refine zG (λ b W=>Ao W (b10) 0 (Ae k)) HC.o λ W hc=>?_
 have HC:=Ab hc;clear hc;refine zT 0 ?_;refine zT 1 ?_ (hr:=λ _ _ _ hW=>ldJ Aq rfl HKB.o hW);refine zT 3 ?_;refine zT 4 ?_ (hr:=λ _ _ _ hW=>ldJ Aq rfl HKB.o hW);refine zJ 2 λ K' k'=>?_
 go_simp;refine (H1.o _ _ (HC.o.zP [1])).mono ?_;rintro e w2 ⟨p1,rfl,hc⟩;have HC:=Ab hc;clear hc;refine zq k' ?_;clear k' K';refine zJ 5 λ K' k'=>?_
 go_simp;refine (H2.o _ _ (HC.o.zP [1])).mono ?_;rintro e w3 ⟨p2,rfl,hc⟩;have HC:=Ab hc;clear hc;refine zq k' ?_;clear k' K';refine zT 6 ?_;refine zT 7 ?_;refine zD ?_;go_upto_region 4 with fail;refine An ?_;(iterate 6 refine zV ?_);refine zV ?_ (v:=.agg #[.iface (pvT s) (.pointer (some ⟨q,0,none⟩)),.string (tx me),.string (tx pe),.int .i64 (sid:Int),.pointer (some ⟨p1,0,none⟩),.pointer (some ⟨p2,0,none⟩),.slice none 0 0,.int .i64 0,.int .i64 0,.pointer none,.bool false]) (hr:=Gh (by simp only [aI,aC,aD]; try rfl) (Uv _ _ _ _ _ _ _) _);refine Af (λ K' k'=>?_);refine zNp _ 238 HC.o ?_;intro b32 w4 HC;refine zqp k' ?_;clear k' K';refine zV ?_;refine wpList_nil ?_;go_wp2_with fail;go_ret;exact ⟨_,_,_,rfl,((HC.o.zP [4,0,2]).tail.addNilZ 152 2).swap⟩
theorem O4 (q:Nat) (s:PS) (k me pe:Aa) (sid:Nat) (l:List Res) (w:aY) (h:Ad w (pvR q s::l)) (hs:s.sz<1099511627000) (hk:k.length=16): aZ aA 46 #[pvV s q,.string (tx me),.string (tx pe),.int .i64 (sid:Int),A1 k,.bool false] w λ e w'=>∃sp p1 p2,e=.returned (.pointer (some ⟨sp,0,none⟩))/\Ad w' (.blk sp (K8 s.knd q me pe sid p2 p1 (.slice none 0 0) 0 0 (.pointer none)) 238::.ownZ 152 2 (.slice none 0 0) 0 []::D7 p1 s.knd q (s.derive k Eg).1 0::D7 p2 s.knd q ((s.derive k Eg).2.derive k K9).1 0::pvR q ((s.derive k Eg).2.derive k K9).2::l):=by
 have hkn1:(s.derive k Eg).2.knd=s.knd:=PS.knd_derive _ _ _;have hs1:(s.derive k Eg).2.sz<1099511627100:=by have:=(PS.gr_derive s k Eg).sz; omega
 have hpv1:pvV (s.derive k Eg).2 q=pvV s q:=by rw [<-Bf hkn1,<-Bf rfl]
 have H1:Hq (∀(w:aY) (l:List Res) (h:Ad w (pvR q s::l)),aZ aA 105 #[pvV s q,A1 k,.string ⟨#[111,110,101]⟩] w (Nb q s k Eg l)):=Ab (λ w l h=>Kt q s k Eg l w h (by omega) hk (by decide));have H2:Hq (∀(w:aY) (l:List Res) (h:Ad w (pvR q (s.derive k Eg).2::l)),aZ aA 105 #[pvV s q,A1 k,.string ⟨#[116,119,111]⟩] w (Nb q (s.derive k Eg).2 k K9 l)):=Ab (λ w l h=>by rw [<-hpv1]; exact Kt q _ k K9 l w h (by omega) hk (by decide));unfold Nb at H1 H2;rw [hkn1] at H2;have HKB:Hq ((Ae k).length=16):=Ab (by rw [Ac,hk]);generalize (s.derive k Eg).2.derive k K9=x2 at*;generalize s.derive k Eg=x1 at*;obtain ⟨k1,s1⟩:=x1;obtain ⟨k2,s2⟩:=x2;simp only at*;have HPI:=Ab (Bf (s:=s) rfl q);have HC:=Ab h;clear h hs hk hkn1 hs1 hpv1;unfold K8;rw [HPI.o];unfold pvV A1 at*;go_enter aT,aU;go_upto_region 0 with fail;refine An ?_;refine Af (λ K' k'=>?_);refine zNp (Ae k) 46 HC.o ?_;intro b10 w1 HC;refine zqp k' ?_;clear k' K';refine zV ?_;refine wpList_nil ?_;go_upto_region 1 with fail;refine zG (λ b W=>Ao W (b10) 0 (Ae k)) HC.o λ W hc=>?_
 have HC:=Ab hc;clear hc;refine zT 0 ?_;refine zT 1 ?_ (hr:=λ _ _ _ hW=>ldJ Aq rfl HKB.o hW);refine zT 3 ?_;refine zT 4 ?_ (hr:=λ _ _ _ hW=>ldJ Aq rfl HKB.o hW);refine zJ 2 λ K' k'=>?_
 go_simp;refine (H1.o _ _ (HC.o.zP [1])).mono ?_;rintro e w2 ⟨p1,rfl,hc⟩;have HC:=Ab hc;clear hc;refine zq k' ?_;clear k' K';refine zJ 5 λ K' k'=>?_
 go_simp;refine (H2.o _ _ (HC.o.zP [1])).mono ?_;rintro e w3 ⟨p2,rfl,hc⟩;have HC:=Ab hc;clear hc;refine zq k' ?_;clear k' K';refine zT 6 ?_;refine zT 7 ?_;refine zD ?_;go_upto_region 3 with fail;refine An ?_;(iterate 4 refine zV ?_);refine wpList_nil ?_;go_upto_region 4 with fail;refine An ?_;(iterate 6 refine zV ?_);refine zV ?_ (v:=.agg #[.iface (pvT s) (.pointer (some ⟨q,0,none⟩)),.string (tx me),.string (tx pe),.int .i64 (sid:Int),.pointer (some ⟨p2,0,none⟩),.pointer (some ⟨p1,0,none⟩),.slice none 0 0,.int .i64 0,.int .i64 0,.pointer none,.bool false]) (hr:=Gh (by simp only [aI,aC,aD]; try rfl) (Uv _ _ _ _ _ _ _) _);refine Af (λ K' k'=>?_);refine zNp _ 238 HC.o ?_;intro b32 w4 HC;refine zqp k' ?_;clear k' K';refine zV ?_;refine wpList_nil ?_;go_wp2_with fail;go_ret;exact ⟨_,_,_,rfl,((HC.o.zP [4,0,2]).tail.addNilZ 152 2).swap⟩
theorem A0n (sp q po pi:Nat) (s:PS) (me pe:Aa) (sid st gt:Nat) (qa:Option Addr) (qc:Nat) (fv:aX) (kd:Nat) (ba:Option Addr) (bn bc:Nat) (l:List Res) (w:aY) (h:Ad w (.blk sp (K8 s.knd q me pe sid po pi (.slice qa 0 qc) st gt fv) 238::.ownZ 152 2 (.slice qa 0 qc) 0 []::l)): aZ aA 47 #[.pointer (some ⟨sp,0,none⟩),.agg #[.int .u64 (kd:Int),.slice ba bn bc]] w λ e w'=>∃qg qo qn,e=.returned (.int .i64 0)/\Ad w' (.blk sp (K8 s.knd q me pe sid po pi (.slice (some ⟨qg,qo,none⟩) 1 qn) st gt fv) 238::.ownZ 152 2 (.slice (some ⟨qg,qo,none⟩) 1 qn) 1 [.int .u64 (kd:Int),.slice ba bn bc]::l):=by
 have HC:=Ab h;clear h;have HPI:=Ab (Bf (s:=s) rfl q);unfold K8 at*;rw [HPI.o] at HC ⊢;unfold pvV at*;go_enter Tryz.func47,Tryz.ntmps47;go_upto_region 0 with fail;refine An ?_;refine Af (λ K' k'=>?_);refine zNp _ 152 HC.o ?_;intro b3 w1 HC;refine zqp k' ?_;clear k' K';refine zV ?_;refine wpList_nil ?_;go_upto_region 1 with fail;refine An ?_;(iterate 3 refine zV ?_);refine zL ?_;refine zV ?_;refine wpList_nil ?_;go_upto_region 3 with fail;refine An ?_;(iterate 3 refine zV ?_);refine zL ?_;(iterate 3 refine zV ?_);refine wpList_nil ?_;go_upto_region 5 with fail;refine B5 [10] (λ b W=>(b= [false]->W.cell? ⟨sp,6,none⟩=some (.slice qa 0 qc))/\Ao W (b3) 0 [.int .u64 (kd:Int),.slice ba bn bc]) (by kernel_rfl) ?_;generalize hG:aY.drew _=W;have HC:=Ab (HC.o.drew.cast hG);clear hG;refine zT 0 ?_;refine zT 1 ?_;refine zT 2 ?_;refine zT 3 ?_;refine zTk 4 [10] ?_ (hr:=λ l W hk hW=>by have c:=(hW.1 (Iy hk)); go_simp; try rfl);refine zT 5 ?_ (hr:=λ _ _ _ hW=>ldJ A5S rfl rfl hW.2);refine zJ 6 λ K' k'=>?_
 refine zN (λ b=>.slice (some ⟨b,0,none⟩) 1 1) _ 152 HC.o ?_;intro b23 w2 HC;refine zq k' ?_;clear k' K';refine zJ 7 λ K' k'=>?_
 refine Vs rfl (.tmp 21) (.tmp 23) A7x rfl rfl rfl (HC.o.zP [3]) ((HC.o.zB b23).slS rfl (by intro u hu; simp only [aE,aF,or_false] at hu; rcases hu with rfl | rfl <;> rfl)) (by decide) (by unfold maxLen; decide) (by decide) ?_;intro v w3 hc;obtain ⟨qg,qo,qn,rfl,_⟩:=(hc.ownZOf (e:=152) (sz:=2) (v:=v) (n:=0+1) (cs:= []++ [.int .u64 (kd:Int),.slice ba bn bc]) (by simp)).form (by decide);have HC:Hq (Ad w3 (.ownZ 152 2 (.slice (some ⟨qg,qo,none⟩) 1 qn) 1 [.int .u64 (kd:Int),.slice ba bn bc]::.blk (b23) [.int .u64 (kd:Int),.slice ba bn bc] 152::.blk (b3) [.int .u64 (kd:Int),.slice ba bn bc] 152::.blk (sp) [.iface (pvT s) (.pointer (some ⟨q,0,none⟩)),.string (tx me),.string (tx pe),.int .i64 (sid:Int),.pointer (some ⟨po,0,none⟩),.pointer (some ⟨pi,0,none⟩),.slice qa 0 qc,.int .i64 (st:Int),.int .i64 (gt:Int),fv,.bool false] 238::l)):=Ab hc;clear hc;refine zq k' ?_;clear k' K';refine zT 8 ?_;refine zT 9 ?_;refine zJ 10 λ K' k'=>?_
 refine zS1 (HC.o.zP [3]) ?_;intro w4 HC;refine zq k' ?_;clear k' K';refine zD ?_;go_wp2_with fail;go_ret;exact ⟨_,_,_,rfl,(HC.o.zP [2,2]).tail.tail⟩
theorem Xk (sp q po pi:Nat) (s:PS) (me pe:Aa) (sid st gt:Nat) (qa:Option Addr) (qc:Nat) (fv:aX) (v:aX) (b:Aa) (l:List Res) (w:aY) (h:Ad w (.blk sp (K8 s.knd q me pe sid po pi (.slice qa 0 qc) st gt fv) 238::.ownZ 152 2 (.slice qa 0 qc) 0 []::l)) (hv:∀W,Ad W l->Bs W v b) (hb:b.length<=2048): aZ aA 18 #[.pointer (some ⟨sp,0,none⟩),v] w λ e w'=>∃qg qo qn xa xc,e=.returned (.int .i64 0)/\Ad w' (.blk sp (K8 s.knd q me pe sid po pi (.slice (some ⟨qg,qo,none⟩) 1 qn) st gt fv) 238::.ownZ 152 2 (.slice (some ⟨qg,qo,none⟩) 1 qn) 1 [.int .u64 1,.slice xa b.length xc]::.row (.slice xa b.length xc) b::l):=by
 have HP:=Ab (λ (ba:Option Addr) (bn bc:Nat) (w:aY) (l:List Res) (h:Ad w (.blk sp (K8 s.knd q me pe sid po pi (.slice qa 0 qc) st gt fv) 238::.ownZ 152 2 (.slice qa 0 qc) 0 []::l))=>A0n sp q po pi s me pe sid st gt qa qc fv 1 ba bn bc l w h);obtain ⟨va,vc,rfl,_,_⟩:=(hv _ h.tail.tail).form;have HV:=Ab hv;have HB1:Hq (b.length<=maxLen):=Ab (by unfold maxLen; omega);have HB2:Hq (b.length*1<=140737488355328):=Ab (by omega);have HB3:=Ab hb;have HC:=Ab h;clear h hv hb;go_enter Tryz.func18,Tryz.ntmps18;go_upto_region 0 with fail;refine An ?_;refine zV ?_;refine wpList_nil ?_;go_upto_region 1 with fail;refine An ?_;(iterate 2 refine zV ?_);refine zV ?_ (v:=.bool false) (hr:=by have h1:=HB3.o; have h2:¬(2048:Int)< (b.length:Int):=(by omega); have h3:¬2048<b.length:=(by omega); go_simp);refine wpList_nil ?_;go_upto_region 3 with fail;refine An ?_;(iterate 2 refine zV ?_);refine Af (λ K' k'=>?_);refine Xp rfl (.const (.slice none 0 0)) (.tmp 9) D8 rfl rfl rfl (HV.o _ HC.o.tail.tail) HB1.o HB2.o ?_;intro v w1 ho hk _;obtain ⟨xa,xc,rfl,_,_⟩:=ho.sl.form;have HC:=Ab (HC.o.freshRow (hk.below λ k hk=>hk) ho);clear ho hk;refine zqp k' ?_;clear k' K';refine zV ?_ (v:=.agg #[.int .u64 1,.slice xa b.length xc]) (hr:=Gh (by simp only [aI,aC,aD]; try rfl) (A1t _ _ _ _) _);refine Af (λ K' k'=>?_);go_simp;refine (HP.o _ _ _ _ _ (HC.o.zP [1,1])).mono ?_;rintro e w2 ⟨qg,qo,qn,rfl,hc⟩;have HC:=Ab hc;clear hc;refine zqp k' ?_;clear k' K';refine zV ?_;refine wpList_nil ?_;go_wp2_with fail;go_ret;exact ⟨_,_,_,_,_,rfl,HC.o⟩
theorem A6q (l1:Aa) (x2:Int) (x3:Int) (t4:Bool) (t5:Bool) (l6 m6:Aa) (v6:aX) (l7:Aa) (v7:aX) (k8:List (Aa×Aa)) (v8:aX) (w:aY) (hb6:Bs w v6 m6) (hb7:Bs w v7 l7) (hb8:T5 w (λ _=>True) k8 v8) (hok:∀p∈([.s l1,.n x2,.n x3,.t t4,.t t5,.i (l6,m6),.b l7,.x k8]:List Pt),Ii p) (hall:([.s l1,.n x2,.n x3,.t t4,.t t5,.i (l6,m6),.b l7,.x k8]:List Pt).all ptB=true) (hlen:(A8 13 [.s l1,.n x2,.n x3,.t t4,.t t5,.i (l6,m6),.b l7,.x k8]).length<=4096): aZ aA 92 #[.iface 121 (.agg #[.string (tx l1),.int .i64 x2,.int .i64 x3,.bool t4,.bool t5,.string (tx l6),v6,v7,v8])] w (Cx w (A8 13 [.s l1,.n x2,.n x3,.t t4,.t t5,.i (l6,m6),.b l7,.x k8],0)):=by
 have hw:=E8 _ _ _ w (Od (λ _=>True) l1 x2 x3 t4 t5 l6 m6 v6 l7 v7 k8 v8 w (hok (.s l1) (by simp)) (hok (.n x2) (by simp)) (hok (.n x3) (by simp)) hb6 (hok (.i (l6,m6)) (by simp)) hb7 (hok (.b l7) (by simp)) hb8 (hok (.x k8) (by simp)) (by have:=List.all_eq_true.1 hall (.i (l6,m6)) (by simp); simpa [ptB] using this) (by have:=List.all_eq_true.1 hall (.x k8) (by simp); simpa [ptB] using this)) (λ _=>⟨Fm 13 _ hall,by unfold A8 at hlen; exact aH hlen (by decide)⟩);rw [hall,if_pos rfl] at hw;rw [<-J3 (t:=13) (pts:= [.s l1,.n x2,.n x3,.t t4,.t t5,.i (l6,m6),.b l7,.x k8]) (by simp [Fl,A4,Ho,C6,Gt]) hlen];exact hw
theorem A6r (l1:Aa) (l2 m2:Aa) (v2:aX) (l3:Aa) (v3:aX) (w:aY) (hb2:Bs w v2 m2) (hb3:Bs w v3 l3) (hok:∀p∈([.s l1,.i (l2,m2),.b l3]:List Pt),Ii p) (hall:([.s l1,.i (l2,m2),.b l3]:List Pt).all ptB=true) (hlen:(A8 14 [.s l1,.i (l2,m2),.b l3]).length<=4096): aZ aA 92 #[.iface 124 (.agg #[.string (tx l1),.string (tx l2),v2,v3])] w (Cx w (A8 14 [.s l1,.i (l2,m2),.b l3],0)):=by
 have hw:=E8 _ _ _ w (Xb (λ _=>True) l1 l2 m2 v2 l3 v3 w (hok (.s l1) (by simp)) hb2 (hok (.i (l2,m2)) (by simp)) hb3 (hok (.b l3) (by simp)) (by have:=List.all_eq_true.1 hall (.i (l2,m2)) (by simp); simpa [ptB] using this)) (λ _=>⟨Fm 14 _ hall,by unfold A8 at hlen; exact aH hlen (by decide)⟩);rw [hall,if_pos rfl] at hw;rw [<-J3 (t:=14) (pts:= [.s l1,.i (l2,m2),.b l3]) (by simp [Fl,A4,Ho,C6,Gt]) hlen];exact hw
theorem A6s (l1:Aa) (l2:Aa) (x3:Int) (l4 m4:Aa) (v4:aX) (l5:Aa) (v5:aX) (w:aY) (hb4:Bs w v4 m4) (hb5:Bs w v5 l5) (hok:∀p∈([.s l1,.s l2,.n x3,.i (l4,m4),.b l5]:List Pt),Ii p) (hall:([.s l1,.s l2,.n x3,.i (l4,m4),.b l5]:List Pt).all ptB=true) (hlen:(A8 17 [.s l1,.s l2,.n x3,.i (l4,m4),.b l5]).length<=4096): aZ aA 92 #[.iface 128 (.agg #[.string (tx l1),.string (tx l2),.int .i64 x3,.string (tx l4),v4,v5])] w (Cx w (A8 17 [.s l1,.s l2,.n x3,.i (l4,m4),.b l5],0)):=by
 have hw:=E8 _ _ _ w (Oe (λ _=>True) l1 l2 x3 l4 m4 v4 l5 v5 w (hok (.s l1) (by simp)) (hok (.s l2) (by simp)) (hok (.n x3) (by simp)) hb4 (hok (.i (l4,m4)) (by simp)) hb5 (hok (.b l5) (by simp)) (by have:=List.all_eq_true.1 hall (.i (l4,m4)) (by simp); simpa [ptB] using this)) (λ _=>⟨Fm 17 _ hall,by unfold A8 at hlen; exact aH hlen (by decide)⟩);rw [hall,if_pos rfl] at hw;rw [<-J3 (t:=17) (pts:= [.s l1,.s l2,.n x3,.i (l4,m4),.b l5]) (by simp [Fl,A4,Ho,C6,Gt]) hlen];exact hw
theorem A6t (l1:Aa) (l2:Aa) (x3:Int) (l4:Aa) (v4:aX) (w:aY) (hb4:Bs w v4 l4) (hok:∀p∈([.s l1,.s l2,.n x3,.b l4]:List Pt),Ii p) (hall:([.s l1,.s l2,.n x3,.b l4]:List Pt).all ptB=true) (hlen:(A8 18 [.s l1,.s l2,.n x3,.b l4]).length<=4096): aZ aA 92 #[.iface 138 (.agg #[.string (tx l1),.string (tx l2),.int .i64 x3,v4])] w (Cx w (A8 18 [.s l1,.s l2,.n x3,.b l4],0)):=by
 have hw:=E8 _ _ _ w (A0c (λ _=>True) l1 l2 x3 l4 v4 w (hok (.s l1) (by simp)) (hok (.s l2) (by simp)) (hok (.n x3) (by simp)) hb4 (hok (.b l4) (by simp))) (λ _=>⟨Fm 18 _ hall,by unfold A8 at hlen; exact aH hlen (by decide)⟩);rw [hall,if_pos rfl] at hw;rw [<-J3 (t:=18) (pts:= [.s l1,.s l2,.n x3,.b l4]) (by simp [Fl,A4,Ho,C6,Gt]) hlen];exact hw
def Eh (ps c0 c1:Nat) (e0 e1:aX) (key:Aa) (sv:aX):List aX:=
 [.pointer (some ⟨ps,0,none⟩),.pointer (some ⟨c0,0,none⟩),.pointer (some ⟨c1,0,none⟩),e0,e1]++(Ae key++ [sv])
theorem H0 (ps c0 c1:Nat) (e0 e1:aX) {key:Aa} (h:key.length=16) (sv:aX):(Eh ps c0 c1 e0 e1 key sv).length=22:=by simp [Eh,Ac,h]
theorem A0h (ps c0 c1:Nat) (e0 e1:aX) {key:Aa} (h:key.length=16) (sv:aX):(Eh ps c0 c1 e0 e1 key sv)[21]?=some sv:=by simp [Eh,qQ1,Ac,h]
theorem A3Q (ps c0 c1:Nat) (e0 e1:aX) {key:Aa} (h:key.length=16) (sv sv':aX):(Eh ps c0 c1 e0 e1 key sv).set 21 sv'=Eh ps c0 c1 e0 e1 key sv':=by
 obtain ⟨x0,x1,x2,x3,x4,x5,x6,x7,x8,x9,x10,x11,x12,x13,x14,x15,rfl⟩:=By key h;rfl
def Gd (pp ps c0 c1:Nat) (e0 e1:aX) (key:Aa) (L:List Aa):Res:=
 .ex λ sv=>.ex λ vs=>.all [.blk pp (Eh ps c0 c1 e0 e1 key sv) 77,.ownZ 27 1 sv L.length vs,Bw vs L]
theorem Kr {W:aY} {pp ps c0 c1:Nat} {e0 e1:aX} {key:Aa} {L:List Aa} {l:List Res} (h:Ad W (Gd pp ps c0 c1 e0 e1 key L::l)): ∃sa sc vs,Ad W (.blk pp (Eh ps c0 c1 e0 e1 key (.slice sa L.length sc)) 77::.ownZ 27 1 (.slice sa L.length sc) L.length vs::Bw vs L::l):=by
 obtain ⟨sv,h⟩:=Ad.ex.1 h;obtain ⟨vs,h⟩:=Ad.ex.1 h;have h:=Ad.app.1 h;obtain ⟨sa,sc,rfl,_⟩:=(h.tail.ownZOf (e:=27) (sz:=1) (n:=L.length) (v:=sv) (cs:=vs) (by simp)).sl.form;exact ⟨sa,sc,vs,h⟩
theorem Nk {W:aY} {pp ps c0 c1:Nat} {e0 e1:aX} {key:Aa} {L:List Aa} {l:List Res} {sv:aX} {vs:List aX} (h:Ad W (.blk pp (Eh ps c0 c1 e0 e1 key sv) 77::.ownZ 27 1 sv L.length vs::Bw vs L::l)): Ad W (Gd pp ps c0 c1 e0 e1 key L::l):=Ad.ex.2 ⟨sv,Ad.ex.2 ⟨vs,Ad.app.2 h⟩⟩
theorem Ad.pairAt {W:aY} {pp ps c0 c1:Nat} {e0 e1:aX} {key:Aa} {L:List Aa} {l:List Res} (h:Ad W l) (hm:Gd pp ps c0 c1 e0 e1 key L∈l) (k:Nat) {u:aX} (hk:(Eh ps c0 c1 e0 e1 key undef)[k]?=some u) (hlt:k<5):W.cell? ⟨pp,k,none⟩=some u:=by
 obtain ⟨l1,l2,rfl⟩:=List.append_of_mem hm;have h2:=h.perm (List.perm_middle (l₁:=l1));obtain ⟨sa,sc,vs,h3⟩:=Kr h2;rw [h3.blk0.cell];rw [<-hk]
 match k,hlt with
 | 0,_=>rfl
 | 1,_=>rfl
 | 2,_=>rfl
 | 3,_=>rfl
 | 4,_=>rfl
end Go.Proofs.YtcnfaghcjlhoiaaGreat
namespace Go.Proofs.YtcnfaghcjlhoiaaGreat
open Go.RowKit
structure Zu (l:List Res) (p:Nat):Type where
structure Zv (l:List Res) (p ps c0 c1:Nat) (e0 e1:aX) (key:Aa) (L:List Aa):Type where
 m:Gd p ps c0 c1 e0 e1 key L∈l
instance {l:List Res} {r:Res} {p ps c0 c1:Nat} {e0 e1:aX} {key:Aa} {L:List Aa} [h:HAdd (Zu l p) Unit (Zv l p ps c0 c1 e0 e1 key L)]:HAdd (Zu (r::l) p) Unit (Zv (r::l) p ps c0 c1 e0 e1 key L):=⟨λ _ _=>⟨.tail _ (h.hAdd ⟨⟩ ()).m⟩⟩
instance {l:List Res} {p ps c0 c1:Nat} {e0 e1:aX} {key:Aa} {L:List Aa} :HAdd (Zu (Gd p ps c0 c1 e0 e1 key L::l) p) Unit (Zv (Gd p ps c0 c1 e0 e1 key L::l) p ps c0 c1 e0 e1 key L):=⟨λ _ _=>⟨.head _⟩⟩
theorem Ad.zpa {W:aY} {l:List Res} (h:Ad W l) {p k ps c0 c1:Nat} {v e0 e1:aX} {key:Aa} {L:List Aa} [z:HAdd (Zu l p) Unit (Zv l p ps c0 c1 e0 e1 key L)] (hk:(Eh ps c0 c1 e0 e1 key undef)[k]?=some v:=by (first | rfl | exact Hq.o (by assumption))) (hlt:k<5:=by (first | decide | exact Hq.o (by assumption))):W.cell? ⟨p,k,none⟩=some v:=
 h.pairAt (z.hAdd ⟨⟩ ()).m k hk hlt
end Go.Proofs.YtcnfaghcjlhoiaaGreat
namespace Go.Proofs.YtcnfaghcjlhoiaaGreat
open Go.RowKit Go.Maps
theorem A0R (pp ps c0 c1:Nat) (e0 e1:aX) (key:Aa) (L:List Aa) (mv:aX) (B:Aa) (l:List Res) (w:aY) (h:Ad w (Gd pp ps c0 c1 e0 e1 key L::l)) (hk:key.length=16) (hL:L.length<=100000) (hw:∀W,Ad W l->aZ aA 92 #[mv] W (Cx W (B,0))): aZ aA 38 #[.pointer (some ⟨pp,0,none⟩),mv] w λ e w'=>e=.returned (.bool true)/\Ad w' (Gd pp ps c0 c1 e0 e1 key (L++ [B])::l):=by
 obtain ⟨sa,sc,vs,h⟩:=Kr h;have HW:=Ab hw;unfold Cx at HW;obtain ⟨n,hn⟩:∃n,n=L.length:=⟨_,rfl⟩
 rw [<-hn] at h;have HN:=Ab hn;have HB1:Hq (n+1<=maxLen):=Ab (by unfold maxLen; omega);have HB2:Hq ((n+1)*24<=140737488355328):=Ab (by omega);obtain ⟨PC,hPC⟩:∃x,x=Eh ps c0 c1 e0 e1 key (.slice sa n sc):=⟨_,rfl⟩
 have HL:Hq (PC.length=22):=Ab (by rw [hPC]; exact H0 _ _ _ _ _ hk _);have HP21:Hq (PC[21]?=some (.slice sa n sc)):=Ab (by rw [hPC]; exact A0h _ _ _ _ _ hk _);have HSET:Hq (∀sv,PC.set 21 sv=Eh ps c0 c1 e0 e1 key sv):=Ab (λ sv=>by rw [hPC]; exact A3Q _ _ _ _ _ hk _ _);rw [<-hPC] at h;have HC:=Ab h;clear h hk hL hw hn hPC;go_enter Tryz.func38,Tryz.ntmps38;go_upto_region 0 with fail;refine An ?_;refine zV ?_;refine wpList_nil ?_;go_upto_region 1 with fail;refine An ?_;refine zV ?_;refine Af (λ K' k'=>?_);go_simp;refine (HW.o _ HC.o.tail.tail.tail).mono ?_;rintro e w1 ⟨y,rfl,ho,hb⟩;obtain ⟨ya,yc,rfl,_,_⟩:=ho.sl.form;have HC:=Ab (HC.o.freshRow hb ho);clear ho hb;refine zqp k' ?_;clear k' K';(iterate 5 refine zV ?_);refine wpList_nil ?_;go_upto_region 2 with fail;refine An ?_;(iterate 4 refine zV ?_);refine zL ?_;refine zV ?_;refine Af (λ K' k'=>?_);refine zN (λ b=>.slice (some ⟨b,0,none⟩) 1 1) _ 27 HC.o ?_;intro b18 w2 HC;refine zqp k' ?_;clear k' K';refine Af (λ K' k'=>?_);refine Vs rfl (.tmp 16) (.tmp 18) Gi rfl rfl rfl (HC.o.zP [3]) ((HC.o.zB b18).slS rfl (by intro u hu; simp only [aE,aF,or_false] at hu; rcases hu with rfl <;> rfl)) (by decide) HB1.o HB2.o ?_;intro v w3 hc;obtain ⟨qg,qo,qn,rfl,_⟩:=(hc.ownZOf (e:=27) (sz:=1) (v:=v) (n:=n+1) (cs:=vs++ [.slice ya B.length yc]) (by simp)).form (by omega);have HC:=Ab hc;clear hc;refine zqp k' ?_;clear k' K';(iterate 2 refine zV ?_);refine Af (λ K' k'=>?_);refine Tg rfl (.tmp 21) (.tmp 19) (Pe.mk (by kernel_rfl)) rfl rfl (v:=.slice (some ⟨qg,qo,none⟩) (n+1) qn) rfl ((HC.o.zP [3]).blk0) (by rw [HL.o]; decide) rfl ?_;intro w4 hdz kdz;have h5:=(HC.o.zP [3]).st1 hdz kdz;clear hdz kdz;obtain ⟨X5,hX5⟩:∃x,x=(PC:List aX).set 21 (.slice (some ⟨qg,qo,none⟩) (n+1) qn):=⟨_,rfl⟩
 rw [<-hX5] at h5;have HC:=Ab h5;clear h5;have HX5:=Ab hX5;have X5_21:Hq (X5[21]?=some (.slice (some ⟨qg,qo,none⟩) (n+1) qn)):=Ab (by rw [hX5,List.getElem?_set_self (by rw [HL.o]; decide)]);have X5_l:=Ab (show X5.length=22 by rw [hX5,List.length_set]; exact HL.o);clear hX5;refine zqp k' ?_;clear k' K';refine wpList_nil ?_;go_upto_region 3 with fail;refine An ?_;(iterate 3 refine zV ?_);refine wpList_nil ?_;go_wp2_with fail;go_ret;have h5:=((HC.o.zP [2,3,2]).tail:Ad _ (Bw vs L::.row (.slice ya B.length yc) B::_));have h6:=(Dt h5).zP [1,1];rw [HX5.o,HSET.o] at h6;refine ⟨rfl,Nk (sv:=.slice (some ⟨qg,qo,none⟩) (n+1) qn) (vs:=vs++ [.slice ya B.length yc]) ?_⟩;rw [show (L++ [B]).length=n+1 by rw [HN.o]; simp];exact h6
def PS.Wf:PS->Prop
 | .sym s=>∀x∈s.known,x.2.length=16
theorem PS.wf_of {q:Nat} {s:PS} {l:List Res} {w:aY} (h:Ad w (pvR q s::l)):s.Wf:=by
 cases s with
 | sym s=>
  obtain ⟨x,hx⟩:=Cc.1 h;exact hx.1.1.kn
theorem Q6 {s:Sy} (h:∀x∈s.known,x.2.length=16) (f:Fk):(s.made f).1.length=16/\∀x∈(s.made f).2.known,x.2.length=16:=by
 unfold Sy.made;split
 . rename_i hh;exact ⟨h _ (Gj hh _),h⟩
 . refine ⟨Ar _ _,λ x hx=>?_⟩;rcases Sj hx with rfl | ⟨hx,_⟩
   . exact Ar _ _
   . exact h x hx
theorem PS.Wf.derive {s:PS} (h:s.Wf) (k:Aa) (l:ByteArray):(s.derive k l).2.Wf/\(s.derive k l).1.length=16:=by
 cases s with
 | sym s=>exact ⟨(Q6 h _).2,(Q6 h _).1⟩
theorem PS.Wf.text {s:PS} (h:s.Wf) (a b:Aa):(s.text a b).2.Wf/\(s.text a b).1.length=16:=by
 cases s with
 | sym s=>exact ⟨(Q6 h _).2,(Q6 h _).1⟩
theorem PS.Wf.shut {s:PS} (h:s.Wf) (k:Aa) (u:Nat) (b:Aa):(s.shut k u b).2.Wf:=by
 cases s with
 | sym s=>exact h
theorem PS.Wf.fresh {s:PS} (h:s.Wf):s.fresh.2.Wf:=by
 cases s with
 | sym s=>exact h
theorem PS.Wf.digest {s:PS} (h:s.Wf) (b:Aa):(s.digest b).2.Wf:=by
 cases s with
 | sym s=>exact h
theorem PS.shut_len (s:PS) (k:Aa) (u:Nat) (b:Aa):(s.shut k u b).1.length<=b.length+100:=by
 cases s with
 | sym s=>
  simp only [PS.shut,PS.lift,Sy.shut];rw [Ar];omega
def Ay:Aa:= [97,110,110]
def A0:Aa:= [98,111,98]
structure A5Q where
 s:PS
 ka:Aa
 kb:Aa
 ea:Nat
 eb:Nat
 na:Nat
 nb:Nat
 L:List Aa
def A5Z (b:Bool) (q p sid:Nat) (me pe:Aa) (o i:Nat) (ko:Aa) (eo:Nat) (ki:Aa) (ei st gt:Nat):Res:=
 .ex λ qa=>.ex λ qc=>.all [.blk p (K8 b q me pe sid o i (.slice qa 0 qc) st gt (.pointer none)) 238,.ownZ 152 2 (.slice qa 0 qc) 0 [],D7 o b q ko eo,D7 i b q ki ei]
structure A1h where
 ps:Nat
 c0:Nat
 c1:Nat
 p0:Nat
 p1:Nat
 o0:Nat
 i0:Nat
 o1:Nat
 i1:Nat
def A3i (pp q:Nat) (key:Aa) (t:A5Q):Res:=
 .ex λ z:A1h=>.all [Gd pp z.ps z.c0 z.c1 (.pointer (some ⟨z.p0,0,none⟩)) (.pointer (some ⟨z.p1,0,none⟩)) key t.L,A5Z t.s.knd q z.p0 5 Ay A0 z.o0 z.i0 t.ka t.ea t.kb t.eb t.na t.nb,A5Z t.s.knd q z.p1 5 A0 Ay z.o1 z.i1 t.kb t.eb t.ka t.ea t.nb t.na,pvR q t.s]
theorem A2r {W:aY} {pp q:Nat} {key:Aa} {t:A5Q} {l:List Res} (h:Ad W (A3i pp q key t::l)): ∃(z:A1h) (qa ra:Option Addr) (qc rc:Nat),Ad W (Gd pp z.ps z.c0 z.c1 (.pointer (some ⟨z.p0,0,none⟩)) (.pointer (some ⟨z.p1,0,none⟩)) key t.L:: .blk z.p0 (K8 t.s.knd q Ay A0 5 z.o0 z.i0 (.slice qa 0 qc) t.na t.nb (.pointer none)) 238::.ownZ 152 2 (.slice qa 0 qc) 0 []::D7 z.o0 t.s.knd q t.ka t.ea::D7 z.i0 t.s.knd q t.kb t.eb:: .blk z.p1 (K8 t.s.knd q A0 Ay 5 z.o1 z.i1 (.slice ra 0 rc) t.nb t.na (.pointer none)) 238::.ownZ 152 2 (.slice ra 0 rc) 0 []::D7 z.o1 t.s.knd q t.kb t.eb::D7 z.i1 t.s.knd q t.ka t.ea::pvR q t.s::l):=by
 obtain ⟨z,h⟩:=Ad.ex.1 h;have h:=Ad.app.1 h;simp only [List.cons_append,List.nil_append] at h;obtain ⟨qa,h⟩:=Ad.ex.1 (h.zP [1]);obtain ⟨qc,h⟩:=Ad.ex.1 h;have h:=Ad.app.1 h;simp only [List.cons_append,List.nil_append] at h;obtain ⟨ra,h⟩:=Ad.ex.1 (h.zP [5]);obtain ⟨rc,h⟩:=Ad.ex.1 h;have h:=Ad.app.1 h;simp only [List.cons_append,List.nil_append] at h;exact ⟨z,qa,ra,qc,rc,h.zP [8,4,4,4,4]⟩
theorem A2s {W:aY} {pp q:Nat} {key:Aa} {t:A5Q} {l:List Res} (z:A1h) {qa ra:Option Addr} {qc rc:Nat} (h:Ad W (Gd pp z.ps z.c0 z.c1 (.pointer (some ⟨z.p0,0,none⟩)) (.pointer (some ⟨z.p1,0,none⟩)) key t.L:: .blk z.p0 (K8 t.s.knd q Ay A0 5 z.o0 z.i0 (.slice qa 0 qc) t.na t.nb (.pointer none)) 238::.ownZ 152 2 (.slice qa 0 qc) 0 []::D7 z.o0 t.s.knd q t.ka t.ea::D7 z.i0 t.s.knd q t.kb t.eb:: .blk z.p1 (K8 t.s.knd q A0 Ay 5 z.o1 z.i1 (.slice ra 0 rc) t.nb t.na (.pointer none)) 238::.ownZ 152 2 (.slice ra 0 rc) 0 []::D7 z.o1 t.s.knd q t.kb t.eb::D7 z.i1 t.s.knd q t.ka t.ea::pvR q t.s::l)): Ad W (A3i pp q key t::l):=by
 have h1:=h.zP [5,5,5,5];have h2:Ad W (A5Z t.s.knd q z.p1 5 A0 Ay z.o1 z.i1 t.kb t.eb t.ka t.ea t.nb t.na::_):=Ad.ex.2 ⟨ra,Ad.ex.2 ⟨rc,Ad.app.2 h1⟩⟩;have h3:=h2.zP [2,2,2,2];have h4:Ad W (A5Z t.s.knd q z.p0 5 Ay A0 z.o0 z.i0 t.ka t.ea t.kb t.eb t.na t.nb::_):=Ad.ex.2 ⟨qa,Ad.ex.2 ⟨qc,Ad.app.2 h3⟩⟩;have h5:=h4.zP [2];exact Ad.ex.2 ⟨z,Ad.app.2 h5⟩
def paB:ByteArray:=⟨#[112,97]⟩
def pbB:ByteArray:=⟨#[112,98]⟩
def Ee (key nm:Aa):Ins:=⟨5,key,nm,10,310,3010⟩
theorem Qz {key nm:Aa} (h1:key.length=16) (h2:nm.length<=200) (h3:Au (tx nm)=true):(Ee key nm).Ok:=
 ⟨by show 5<=_; decide,h1,h2,h3,by show 10<=_; decide,by show 310<=_; decide,by show 3010<=_; decide⟩
structure Ph where
 uk:Aa
 sa:PS
 bx:Aa
 no:Nat
 sc:PS
 key:Aa
 tk:Aa
 rp:Aa
 s:PS
def ph (s:PS) (K nm:Aa) (pw:ByteArray):Ph:=
 let a:=s.text pw.data.toList nm
 let b:=a.2.shut a.1 1 (As 5 [.n 10,.n 1])
 let c:=b.2.fresh
 let d:=c.2.fresh
 let e:=d.2.shut K 2 (As 2 (Ee d.1 nm).fds)
 let f:=e.2.shut a.1 3 (As 3 ((Ee d.1 nm).rep (Fo c.1) Ax))
 ⟨a.1,a.2,b.1,Fo c.1,c.2,d.1,e.1,f.1,f.2⟩
structure V4 (s:PS) (K nm:Aa) (pw:ByteArray) (p:Ph):Prop where
 text:s.text pw.data.toList nm=(p.uk,p.sa)
 key:Dv p.sa nm pw=(p.uk,p.sa)
 box:(Gk p.sa nm pw 10 1).1=p.bx
 no:Fo (G9 p.sa nm pw 10 1).1=p.no
 sc:(G9 p.sa nm pw 10 1).2=p.sc
 ins:Ut p.sc nm 10 900 300 3000=Ee p.key nm
 tk:(A4p p.sc K nm 10 900 300 3000).1=p.tk
 rp:(A1j p.sc K nm p.uk p.no 10 900 300 3000).1=p.rp
 s2:(A1j p.sc K nm p.uk p.no 10 900 300 3000).2=p.s
 opre:p.sc.Opn p.uk 1 p.bx (As 5 [.n 10,.n 1])
 orep:p.s.Opn p.uk 3 p.rp (As 3 ((Ee p.key nm).rep p.no Ax))
 otk:p.s.Opn K 2 p.tk (As 2 (Ee p.key nm).fds)
 gr:PS.Gr 8 s p.s
 kna:p.sa.knd=s.knd
 knc:p.sc.knd=s.knd
 kns:p.s.knd=s.knd
 za:p.sa.sz<=s.sz+2
 zc:p.sc.sz<=s.sz+6
 kl:p.key.length=16
 lbx:p.bx.length<=300
 ltk:p.tk.length<=800
 lrp:p.rp.length<=800
 nob:p.no<1099511627776
theorem A7j (s:PS) (K nm:Aa) (pw:ByteArray) (hnm:nm.length<=200) (hnr:Au (tx nm)=true):V4 s K nm pw (ph s K nm pw):=by
 have hkey:Dv (ph s K nm pw).sa nm pw=((ph s K nm pw).uk,(ph s K nm pw).sa):=PS.text_of (PS.text_mde s pw.data.toList nm);have g1:=PS.gr_text s pw.data.toList nm;have g2:=PS.gr_shut (s.text pw.data.toList nm).2 (s.text pw.data.toList nm).1 1 (As 5 [.n 10,.n 1]);have g3:=PS.gr_fresh ((s.text pw.data.toList nm).2.shut (s.text pw.data.toList nm).1 1 (As 5 [.n 10,.n 1])).2;have g4:=PS.gr_fresh (ph s K nm pw).sc;have g5:=PS.gr_shut (ph s K nm pw).sc.fresh.2 K 2 (As 2 (Ee (ph s K nm pw).key nm).fds);have g6:=PS.gr_shut ((ph s K nm pw).sc.fresh.2.shut K 2 (As 2 (Ee (ph s K nm pw).key nm).fds)).2 (ph s K nm pw).uk 3 (As 3 ((Ee (ph s K nm pw).key nm).rep (ph s K nm pw).no Ax));have hkl:(ph s K nm pw).key.length=16:=PS.fresh_len _;have hok:=Qz hkl hnm hnr;refine ⟨rfl,hkey,?_,?_,?_,rfl,rfl,rfl,rfl,?_,PS.shut_opn _ _ _ _,?_,?_,PS.knd_text _ _ _,?_,?_,?_,?_,hkl,?_,?_,?_,?_⟩
 . unfold Gk;rw [hkey];rfl
 . unfold G9 Gk;rw [hkey];rfl
 . unfold G9 Gk;rw [hkey];rfl
 . exact g3.opn (PS.shut_opn _ _ _ _)
 . exact g6.opn (PS.shut_opn _ _ _ _)
 . exact (((((g1.trans g2).trans g3).trans g4).trans g5).trans g6).mono (by decide)
 . exact (PS.knd_fresh _).trans ((PS.knd_shut _ _ _ _).trans (PS.knd_text _ _ _))
 . exact (PS.knd_shut _ _ _ _).trans ((PS.knd_shut _ _ _ _).trans ((PS.knd_fresh _).trans ((PS.knd_fresh _).trans ((PS.knd_shut _ _ _ _).trans (PS.knd_text _ _ _)))))
 . exact g1.sz
 . exact aH ((g1.trans g2).trans g3).sz (by omega)
 . have:=PS.shut_len (s.text pw.data.toList nm).2 (s.text pw.data.toList nm).1 1 (As 5 [.n 10,.n 1]);have h2:=A0A 10 1;show ((s.text pw.data.toList nm).2.shut (s.text pw.data.toList nm).1 1 (As 5 [.n 10,.n 1])).1.length<=300
   omega
 . have:=PS.shut_len (ph s K nm pw).sc.fresh.2 K 2 (As 2 (Ee (ph s K nm pw).key nm).fds);have h2:=hok.len;show ((ph s K nm pw).sc.fresh.2.shut K 2 (As 2 (Ee (ph s K nm pw).key nm).fds)).1.length<=800
   omega
 . have:=PS.shut_len ((ph s K nm pw).sc.fresh.2.shut K 2 (As 2 (Ee (ph s K nm pw).key nm).fds)).2 (ph s K nm pw).uk 3 (As 3 ((Ee (ph s K nm pw).key nm).rep (ph s K nm pw).no Ax));have h2:=hok.repLen (ph s K nm pw).no (nm:=Ax) (by decide);show (((ph s K nm pw).sc.fresh.2.shut K 2 (As 2 (Ee (ph s K nm pw).key nm).fds)).2.shut (ph s K nm pw).uk 3 (As 3 ((Ee (ph s K nm pw).key nm).rep (ph s K nm pw).no Ax))).1.length<=800
   omega
 . exact Xf (PS.fresh_len _)
def K4 (t:Aa×Aa):Nat:=30+t.1.length+t.2.length
def Og:Pt->Nat
 | .s l=>10+l.length
 | .n _=>20
 | .b l=>10+l.length
 | .t _=>20
 | .i t=>K4 t
 | .x l=>10+(l.map K4).sum
theorem J1 (k t:Int) (n:Nat) (b:Aa) (hk:k=0\/k=1):(Ba (.mk k t n b [])).length<=20+b.length/\(k=1->(Ba (.mk k t n b [])).length<=10+b.length):=by
 rcases hk with rfl | rfl
 . simp only [Ba,Ey,aJ,if_true];have h1:=E3 0 t (Cd n).length;have h2:=(Ir n).1;exact ⟨by omega,by intro h; exact absurd h (by decide)⟩
 . simp only [Ba,Ey,aJ,show ¬((1:Int)=0) by decide,if_false,if_true];have h1:=E3 1 t b.length;exact ⟨by omega,λ _=>by omega⟩
theorem A5I (t:Aa×Aa):(Ba (C6 t)).length<=K4 t:=by
 have h1:=(J1 1 0 0 t.1 (Or.inr rfl)).2 rfl;have h2:=(J1 1 0 0 t.2 (Or.inr rfl)).2 rfl;rw [C6,Ba];simp only [Ey,A7,aJ,aV,show ¬((2:Int)=0) by decide,show ¬((2:Int)=1) by decide,if_false];have h3:=E3 2 1 ((Ba (.mk 1 0 0 t.1 [])).length+((Ba (.mk 1 0 0 t.2 [])).length+0));unfold K4;omega
theorem A6O (l:List (Aa×Aa)):(A7 (l.map C6)).length<=(l.map K4).sum:=by
 induction l with
 | nil=>simp [A7]
 | cons x l ih=>
  have:=A5I x;simp only [aC,A7,aJ,aG];omega
theorem A7W (l:List (Aa×Aa)):((l.takeWhile rT).map K4).sum<=(l.map K4).sum:=by
 induction l with
 | nil=>exact Nat.le_refl _
 | cons x l ih=>
  rw [List.takeWhile_cons];split
  . simp only [aC,aG];omega
  . simp
theorem A7Q (p:Pt):(Ba (Ho p)).length<=Og p:=by
 cases p with
 | s l=>exact (J1 1 0 0 l (Or.inr rfl)).2 rfl
 | n x=>exact (J1 0 0 (E4 x) [] (Or.inl rfl)).1
 | b l=>exact (J1 1 0 0 l (Or.inr rfl)).2 rfl
 | t b=>exact (J1 0 0 (if b then 1 else 0) [] (Or.inl rfl)).1
 | i t=>exact A5I t
 | x l=>
  have h1:=A6O (l.takeWhile rT);have h2:=A7W l;rw [Ho,Gt,Ba];simp only [Ey,aJ,show ¬((2:Int)=0) by decide,show ¬((2:Int)=1) by decide,if_false];have h3:=E3 2 0 (A7 ((l.takeWhile rT).map C6)).length;show _<=10+(l.map K4).sum
  omega
theorem A6C (l:List Pt):(A7 (l.map Ho)).length<=(l.map Og).sum:=by
 induction l with
 | nil=>simp [A7]
 | cons x l ih=>
  have:=A7Q x;simp only [aC,A7,aJ,aG];omega
theorem Mk (t:Int) (l:List Pt):(A8 t l).length<=10+(l.map Og).sum:=by
 have h1:=A6C l;rw [A8,Fl,Ba];simp only [Ey,aJ,show ¬((2:Int)=0) by decide,show ¬((2:Int)=1) by decide,if_false];have h3:=E3 2 t (A7 (l.map Ho)).length;omega
structure Mv (t:Int) (pts:List Pt):Prop where
 all:pts.all ptB=true
 ok:∀p∈pts,Ii p
 len:(A8 t pts).length<=4096
theorem Oz:Au (tx Ay)=true:=by decide
theorem Qj:Au (tx A0)=true:=by decide
theorem A4P:Au (tx Ax)=true:=by decide
structure Mt where
 K:Aa
 s1:PS
 p1:Ph
 p2:Ph
 no:Nat
 dg:Aa
 au:Aa
 s4:PS
 nk:Aa
 tk:Aa
 rp:Aa
 s6:PS
 sub:Aa
 d2:Aa
 ax:Aa
 s7:PS
 ac:Aa
 s8:PS
 ka:Aa
 kb:Aa
 s9:PS
def Hk (nk:Aa):Ins:=⟨2,nk,Ay,10,310,0⟩
theorem W9 {nk:Aa} (h:nk.length=16):(Hk nk).Ok:=⟨by show 2<=_; decide,h,by show Ay.length<=200; decide,Oz,by show 10<=_; decide,by show 310<=_; decide,by show 0<=_; decide⟩
def Nj (s:PS):Mt:=
 let a:=s.fresh
 let p1:=ph a.2 a.1 Ay paB
 let p2:=ph p1.s a.1 A0 pbB
 let b:=K1 p2.s Ay A0 10 900 2 p1.tk p1.key [(Ax,p2.tk)]
 let c:=b.2.fresh
 let d:=c.2.shut p2.key 2 (As 2 (Hk c.1).fds)
 let e:=d.2.shut p1.key 8 (As 3 ((Hk c.1).rep (My p2.s) A0))
 let g:=N0 e.2 Ay Ay A0 5 11 3 d.1 c.1
 let h:=g.2.shut e.2.fresh.1 12 (As 5 [.n 11,.n 3])
 let i:=h.2.derive e.2.fresh.1 Eg
 let j:=i.2.derive e.2.fresh.1 K9
 ⟨a.1,a.2,p1,p2,My p2.s,(Sr p2.s A0 900 p1.tk [(Ax,p2.tk)]).1,b.1,b.2,c.1,d.1,e.1,e.2,e.2.fresh.1,(T6 e.2 Ay A0 5 d.1).1,g.1,g.2,h.1,h.2,i.1,j.1,j.2⟩
def Mt.msg13 (m:Mt) (a:Aa):List Pt:=Eu A0 (m.no:Int) (900:Nat) false true Ax m.p1.tk a [(Ax,m.p2.tk)]
def Mt.msg17 (m:Mt) (a:Aa):List Pt:=Ep Ay A0 (5:Nat) A0 m.tk a
def Ph.msg11 (p:Ph) (nm:Aa):List Pt:= [.s nm,.n (p.no:Int),.n (900:Nat),.b p.bx]
def Ph.msg12 (p:Ph) (nm:Aa):List Pt:= [.s nm,.i (Ax,p.tk),.b p.rp]
def Mt.msg14 (m:Mt):List Pt:= [.s Ay,.i (A0,m.tk),.b m.rp]
def Mt.msg18 (m:Mt):List Pt:= [.s A0,.s Ay,.n (5:Nat),.b m.ac]
def Mt.seen (m:Mt):List Aa:= [A8 11 (m.p1.msg11 Ay),A8 12 (m.p1.msg12 Ay),A8 11 (m.p2.msg11 A0),A8 12 (m.p2.msg12 A0),A8 13 (m.msg13 m.au),A8 14 m.msg14,A8 17 (m.msg17 m.ax),A8 18 m.msg18]
def Mt.talk (m:Mt):A5Q:=⟨m.s9,m.ka,m.kb,0,0,0,0,m.seen⟩
structure A8g (s:PS) (m:Mt):Prop where
 K:s.fresh=(m.K,m.s1)
 kl:m.K.length=16
 p1:V4 m.s1 m.K Ay paB m.p1
 p2:V4 m.p1.s m.K A0 pbB m.p2
 tk2:m.p2.s.Opn m.K 2 m.p1.tk (As 2 (Ee m.p1.key Ay).fds)
 no:My m.p2.s=m.no
 nob:m.no<1099511627776
 au:K1 m.p2.s Ay A0 10 900 2 m.p1.tk m.p1.key [(Ax,m.p2.tk)]=(m.au,m.s4)
 dg:m.s4.digest (A8 13 (m.msg13 []))=(m.dg,m.s4)
 ot1:m.s4.Opn m.K 2 m.p1.tk (As 2 (Ee m.p1.key Ay).fds)
 ot2:m.s4.Opn m.K 2 m.p2.tk (As 2 (Ee m.p2.key A0).fds)
 oau:m.s4.Opn m.p1.key 7 m.au (As 4 (auF Ay 10 2 zk m.dg))
 out:J8 m.s4 (A8 13 (m.msg13 [])) (Ee m.p1.key Ay) (Ee m.p2.key A0) 900=Hk m.nk
 nkl:m.nk.length=16
 tk:(A2u m.s4 (A8 13 (m.msg13 [])) (Ee m.p1.key Ay) (Ee m.p2.key A0) 900).1=m.tk
 rp:A2t m.s4 (A8 13 (m.msg13 [])) (Ee m.p1.key Ay) (Ee m.p2.key A0) m.no 900 A0=(m.rp,m.s6)
 orp:m.s6.Opn m.p1.key 8 m.rp (As 3 ((Hk m.nk).rep m.no A0))
 sub:m.s6.fresh.1=m.sub
 subl:m.sub.length=16
 ax:N0 m.s6 Ay Ay A0 5 11 3 m.tk m.nk=(m.ax,m.s7)
 d2:m.s7.digest (A8 17 (m.msg17 []))=(m.d2,m.s7)
 otk:m.s7.Opn m.p2.key 2 m.tk (As 2 (Hk m.nk).fds)
 oax:m.s7.Opn m.nk 11 m.ax (As 4 (auF Ay 11 3 m.sub m.d2))
 ac:Rk m.s7 (A8 17 (m.msg17 [])) m.sub 11 3=(m.ac,m.s8)
 oac:m.s8.Opn m.sub 12 m.ac (As 5 [.n 11,.n 3])
 one:(m.s8.derive m.sub Eg).1=m.ka
 two:(m.s8.derive m.sub Eg).2.derive m.sub K9=(m.kb,m.s9)
 one2:m.s9.derive m.sub Eg=(m.ka,m.s9)
 two2:m.s9.derive m.sub K9=(m.kb,m.s9)
 k1:m.s1.knd=s.knd
 k2:m.p2.s.knd=s.knd
 k4:m.s4.knd=s.knd
 k6:m.s6.knd=s.knd
 k7:m.s7.knd=s.knd
 k8:m.s8.knd=s.knd
 k9:m.s9.knd=s.knd
 z1:m.s1.sz<=s.sz+1
 z2:m.p2.s.sz<=s.sz+40
 z4:m.s4.sz<=s.sz+40
 z6:m.s6.sz<=s.sz+40
 z7:m.s7.sz<=s.sz+40
 z8:m.s8.sz<=s.sz+40
 z9:m.s9.sz<=s.sz+40
 ltk:m.tk.length<=800
 m11:Mv 11 (m.p1.msg11 Ay)
 m12:Mv 12 (m.p1.msg12 Ay)
 n11:Mv 11 (m.p2.msg11 A0)
 n12:Mv 12 (m.p2.msg12 A0)
 m13:Mv 13 (m.msg13 m.au)
 z13:Mv 13 (m.msg13 [])
 m14:Mv 14 m.msg14
 m17:Mv 17 (m.msg17 m.ax)
 z17:Mv 17 (m.msg17 [])
 m18:Mv 18 m.msg18
theorem A8I {s:PS} {K nm:Aa} {pw:ByteArray} {p:Ph} (h:V4 s K nm pw p):p.s.sz<=s.sz+8:=h.gr.sz
theorem A8z {s:PS} {K nm:Aa} {pw:ByteArray} {p:Ph} (h:V4 s K nm pw p) (h1:nm.length<=200) (h2:Au (tx nm)=true):Mv 11 (p.msg11 nm):=by
 have hb:=h.lbx;have hn:=h.nob;refine ⟨?_,?_,?_⟩
 . simp only [Ph.msg11,aK,aL,ptB,h2,Gs (aW hn),Gs (show 900<=1099511627776 by decide),aM]
 . intro q hq;simp only [Ph.msg11,aE,aF,or_false] at hq;rcases hq with rfl | rfl | rfl | rfl <;> simp only [Ii] <;> omega
 . have:=Mk 11 (p.msg11 nm);simp only [Ph.msg11,aC,aD,aG,aN,Og] at this ⊢;omega
theorem Z3:Ax.length=3:=rfl
theorem Ur:Ay.length=3:=rfl
theorem Pj:A0.length=3:=rfl
theorem A8A {s:PS} {K nm:Aa} {pw:ByteArray} {p:Ph} (h:V4 s K nm pw p) (h1:nm.length<=200) (h2:Au (tx nm)=true):Mv 12 (p.msg12 nm):=by
 have hb:=h.ltk;have hn:=h.lrp;refine ⟨?_,?_,?_⟩
 . simp only [Ph.msg12,aK,aL,ptB,rT,h2,A4P,aM]
 . intro q hq;simp only [Ph.msg12,aE,aF,or_false] at hq;rcases hq with rfl | rfl | rfl <;> simp only [Ii,Z3] <;> omega
 . have:=Mk 12 (p.msg12 nm);simp only [Ph.msg12,aC,aD,aG,aN,Og,K4,Z3] at this ⊢;omega
theorem A8B {m:Mt} {a:Aa} (h1:m.no<1099511627776) (h2:m.p1.tk.length<=800) (h3:a.length<=1200) (h4:m.p2.tk.length<=800):Mv 13 (m.msg13 a):=by
 refine ⟨?_,?_,?_⟩
 . simp only [Mt.msg13,Eu,aK,aL,ptB,rT,Xt,Oz,Qj,A4P,Gs (aW h1),Gs (show 900<=1099511627776 by decide),aM,List.length_cons,aV];rfl
 . intro q hq;simp only [Mt.msg13,Eu,aE,aF,or_false] at hq;rcases hq with rfl | rfl | rfl | rfl | rfl | rfl | rfl | rfl <;> simp only [Ii,Z3,Pj]
   all_goals first | omega | skip
   refine ⟨?_,by show 1<=_; omega⟩;intro t ht;simp only [aE,aF,or_false] at ht;subst ht;simp only [Z3];omega
 . have:=Mk 13 (m.msg13 a);simp only [Mt.msg13,Eu,aC,aD,aG,aN,Og,K4,Z3,Pj] at this ⊢;omega
theorem A8T {m:Mt} (h2:m.tk.length<=800) (h3:m.rp.length<=800):Mv 14 m.msg14:=by
 refine ⟨?_,?_,?_⟩
 . simp only [Mt.msg14,aK,aL,ptB,rT,Oz,Qj,aM]
 . intro q hq;simp only [Mt.msg14,aE,aF,or_false] at hq;rcases hq with rfl | rfl | rfl <;> simp only [Ii,Ur,Pj] <;> omega
 . have:=Mk 14 m.msg14;simp only [Mt.msg14,aC,aD,aG,aN,Og,K4,Ur,Pj] at this ⊢;omega
theorem A8C {m:Mt} {a:Aa} (h2:m.tk.length<=800) (h3:a.length<=1200):Mv 17 (m.msg17 a):=by
 refine ⟨?_,?_,?_⟩
 . simp only [Mt.msg17,Ep,aK,aL,ptB,rT,Oz,Qj,Gs (show 5<=1099511627776 by decide),aM]
 . intro q hq;simp only [Mt.msg17,Ep,aE,aF,or_false] at hq;rcases hq with rfl | rfl | rfl | rfl | rfl <;> simp only [Ii,Ur,Pj] <;> omega
 . have:=Mk 17 (m.msg17 a);simp only [Mt.msg17,Ep,aC,aD,aG,aN,Og,K4,Ur,Pj] at this ⊢;omega
theorem A8U {m:Mt} (h2:m.ac.length<=800):Mv 18 m.msg18:=by
 refine ⟨?_,?_,?_⟩
 . simp only [Mt.msg18,aK,aL,ptB,Oz,Qj,Gs (show 5<=1099511627776 by decide),aM]
 . intro q hq;simp only [Mt.msg18,aE,aF,or_false] at hq;rcases hq with rfl | rfl | rfl | rfl <;> simp only [Ii,Ur,Pj] <;> omega
 . have:=Mk 18 m.msg18;simp only [Mt.msg18,aC,aD,aG,aN,Og,Ur,Pj] at this ⊢;omega
theorem A5g (s:PS):A8g s (Nj s):=by
 obtain ⟨m,hm⟩:∃m,m=Nj s:=⟨_,rfl⟩
 have hp1:V4 m.s1 m.K Ay paB m.p1:=by rw [hm]; exact A7j _ _ _ _ (by decide) Oz
 have hp2:V4 m.p1.s m.K A0 pbB m.p2:=by rw [hm]; exact A7j _ _ _ _ (by decide) Qj
 have gK:PS.Gr 1 s m.s1:=by rw [hm]; exact PS.gr_fresh s
 have hno:m.no=Fo m.p2.s.fresh.1:=by rw [hm]; rfl
 have hdg:m.p2.s.fresh.2.digest (A8 13 (m.msg13 []))=(m.dg,(m.p2.s.fresh.2.digest (A8 13 (m.msg13 []))).2):=by rw [hm]; rfl
 have hau:(m.p2.s.fresh.2.digest (A8 13 (m.msg13 []))).2.shut m.p1.key 7 (As 4 (auF Ay 10 2 zk m.dg))=(m.au,m.s4):=by rw [hm]; rfl
 have hnk:m.s4.fresh=(m.nk,m.s4.fresh.2):=by rw [hm]; rfl
 have htk:m.s4.fresh.2.shut m.p2.key 2 (As 2 (Hk m.nk).fds)=(m.tk,(m.s4.fresh.2.shut m.p2.key 2 (As 2 (Hk m.nk).fds)).2):=by rw [hm]; rfl
 have hrp:(m.s4.fresh.2.shut m.p2.key 2 (As 2 (Hk m.nk).fds)).2.shut m.p1.key 8 (As 3 ((Hk m.nk).rep m.no A0))=(m.rp,m.s6):=by rw [hm]; rfl
 have hsub:m.s6.fresh=(m.sub,m.s6.fresh.2):=by rw [hm]; rfl
 have hd2:m.s6.fresh.2.digest (A8 17 (m.msg17 []))=(m.d2,(m.s6.fresh.2.digest (A8 17 (m.msg17 []))).2):=by rw [hm]; rfl
 have hax:(m.s6.fresh.2.digest (A8 17 (m.msg17 []))).2.shut m.nk 11 (As 4 (auF Ay 11 3 m.sub m.d2))=(m.ax,m.s7):=by rw [hm]; rfl
 have hac:m.s7.shut m.sub 12 (As 5 [.n 11,.n 3])=(m.ac,m.s8):=by rw [hm]; rfl
 have hone:m.s8.derive m.sub Eg=(m.ka,(m.s8.derive m.sub Eg).2):=by rw [hm]; rfl
 have htwo:(m.s8.derive m.sub Eg).2.derive m.sub K9=(m.kb,m.s9):=by rw [hm]; rfl
 have hK:s.fresh=(m.K,m.s1):=by rw [hm]; rfl
 rw [<-hm];clear hm;have g1:=hp1.gr;have g2:=hp2.gr;have ga:PS.Gr 1 m.p2.s m.p2.s.fresh.2:=PS.gr_fresh _;have gb:PS.Gr 1 m.p2.s.fresh.2 (m.p2.s.fresh.2.digest (A8 13 (m.msg13 []))).2:=PS.gr_digest _ _;have db:=PS.digest_dig m.p2.s.fresh.2 (A8 13 (m.msg13 []));have lb:=PS.digest_len m.p2.s.fresh.2 (A8 13 (m.msg13 []));have kb:=PS.knd_digest m.p2.s.fresh.2 (A8 13 (m.msg13 []));have kf:=PS.knd_fresh m.p2.s;have wb:(m.p2.s.fresh.2.digest (A8 13 (m.msg13 []))).2.Wf->m.s4.Wf:=λ h=>by
  have:=h.shut m.p1.key 7 (As 4 (auF Ay 10 2 zk m.dg));rw [hau] at this;exact this
 rw [hdg] at db lb;generalize hX:(m.p2.s.fresh.2.digest (A8 13 (m.msg13 []))).2=X at*;have gc:=PS.gr_shut X m.p1.key 7 (As 4 (auF Ay 10 2 zk m.dg));have oc:=PS.shut_opn X m.p1.key 7 (As 4 (auF Ay 10 2 zk m.dg));have lc:=PS.shut_len X m.p1.key 7 (As 4 (auF Ay 10 2 zk m.dg));have kc:=PS.knd_shut X m.p1.key 7 (As 4 (auF Ay 10 2 zk m.dg));rw [hau] at gc oc lc kc;have h34:PS.Gr 3 m.p2.s m.s4:=(ga.trans gb).trans gc;have hD:PS.Dig m.s4 (A8 13 (m.msg13 [])) m.dg:=gc.dig db;have hdig:m.s4.digest (A8 13 (m.msg13 []))=(m.dg,m.s4):=PS.digest_of hD;have gd:PS.Gr 1 m.s4 m.s4.fresh.2:=PS.gr_fresh _;have kd:=PS.knd_fresh m.s4;have nkl:=PS.fresh_len m.s4;rw [hnk] at nkl
 dsimp only at nkl;generalize hY:m.s4.fresh.2=Y at*;have ge:=PS.gr_shut Y m.p2.key 2 (As 2 (Hk m.nk).fds);have oe:=PS.shut_opn Y m.p2.key 2 (As 2 (Hk m.nk).fds);have le:=PS.shut_len Y m.p2.key 2 (As 2 (Hk m.nk).fds);have ke:=PS.knd_shut Y m.p2.key 2 (As 2 (Hk m.nk).fds);generalize hZ:(Y.shut m.p2.key 2 (As 2 (Hk m.nk).fds)).2=Z at*;rw [htk] at oe le;have gf:=PS.gr_shut Z m.p1.key 8 (As 3 ((Hk m.nk).rep m.no A0));have of:=PS.shut_opn Z m.p1.key 8 (As 3 ((Hk m.nk).rep m.no A0));have lf:=PS.shut_len Z m.p1.key 8 (As 3 ((Hk m.nk).rep m.no A0));have kf2:=PS.knd_shut Z m.p1.key 8 (As 3 ((Hk m.nk).rep m.no A0));rw [hrp] at gf of lf kf2;have h46:PS.Gr 3 m.s4 m.s6:=(gd.trans ge).trans gf;have hmi:=W9 nkl;have lm1:=hmi.len;have lm2:=hmi.repLen m.no (nm:=A0) (by decide);have gg:PS.Gr 1 m.s6 m.s6.fresh.2:=PS.gr_fresh _;have kg:=PS.knd_fresh m.s6;have subl:=PS.fresh_len m.s6;rw [hsub] at subl;generalize hU:m.s6.fresh.2=U at*;have gh:=PS.gr_digest U (A8 17 (m.msg17 []));have dh:=PS.digest_dig U (A8 17 (m.msg17 []));have lh:=PS.digest_len U (A8 17 (m.msg17 []));have kh:=PS.knd_digest U (A8 17 (m.msg17 []));generalize hV:(U.digest (A8 17 (m.msg17 []))).2=V at*;rw [hd2] at dh lh;have gi:=PS.gr_shut V m.nk 11 (As 4 (auF Ay 11 3 m.sub m.d2));have oi:=PS.shut_opn V m.nk 11 (As 4 (auF Ay 11 3 m.sub m.d2));have li:=PS.shut_len V m.nk 11 (As 4 (auF Ay 11 3 m.sub m.d2));have ki:=PS.knd_shut V m.nk 11 (As 4 (auF Ay 11 3 m.sub m.d2));rw [hax] at gi oi li ki;have h67:PS.Gr 3 m.s6 m.s7:=(gg.trans gh).trans gi;have hdig2:m.s7.digest (A8 17 (m.msg17 []))=(m.d2,m.s7):=PS.digest_of (gi.dig dh);have gj:=PS.gr_shut m.s7 m.sub 12 (As 5 [.n 11,.n 3]);have oj:=PS.shut_opn m.s7 m.sub 12 (As 5 [.n 11,.n 3]);have lj:=PS.shut_len m.s7 m.sub 12 (As 5 [.n 11,.n 3]);have kj:=PS.knd_shut m.s7 m.sub 12 (As 5 [.n 11,.n 3]);rw [hac] at gj oj lj kj;have lst:=A0A 11 3;have gk:=PS.gr_derive m.s8 m.sub Eg;have dk:=PS.derive_mde m.s8 m.sub Eg;have kk:=PS.knd_derive m.s8 m.sub Eg;generalize hT:(m.s8.derive m.sub Eg).2=T at*;rw [hone] at dk;have gl:=PS.gr_derive T m.sub K9;have dl:=PS.derive_mde T m.sub K9;have kl:=PS.knd_derive T m.sub K9;rw [htwo] at gl dl kl
 dsimp only at db lb gc oc lc kc oe le gf of lf kf2 subl dh lh gi oi li ki gj oj lj kj dk gl dl kl;have lau:(As 4 (auF Ay 10 2 zk m.dg)).length<=1000:=Uu _ _ _ _ _ (by decide) (by decide) lb;have lax:(As 4 (auF Ay 11 3 m.sub m.d2)).length<=1000:=Uu _ _ _ _ _ (by decide) subl lh;have lno:m.no<1099511627776:=by rw [hno]; exact Xf (PS.fresh_len _)
 have ltk:m.tk.length<=800:=by omega
 have lrp:m.rp.length<=800:=by omega
 have lac:m.ac.length<=800:=by omega
 have q2:m.p2.s.knd=s.knd:=hp2.kns.trans (hp1.kns.trans (by
  have:=PS.knd_fresh s;rw [hK] at this;exact this))
 have q1:m.s1.knd=s.knd:=by
  have:=PS.knd_fresh s;rw [hK] at this;exact this
 have q4:m.s4.knd=s.knd:=kc.trans (kb.trans (kf.trans q2));have q6:m.s6.knd=s.knd:=kf2.trans (ke.trans (kd.trans q4));have q7:m.s7.knd=s.knd:=ki.trans (kh.trans (kg.trans q6));have q8:m.s8.knd=s.knd:=kj.trans q7;have q9:m.s9.knd=s.knd:=kl.trans (kk.trans q8);have zz:=gK.sz;have zz1:=g1.sz;have zz2:=g2.sz;have zz3:=h34.sz;have zz4:=h46.sz;have zz5:=h67.sz;have zz6:=gj.sz;have zz7:=(gk.trans gl).sz;have hout:J8 m.s4 (A8 13 (m.msg13 [])) (Ee m.p1.key Ay) (Ee m.p2.key A0) 900=Hk m.nk:=by
  unfold J8;rw [hdig,hnk];rfl
 have htt:A2u m.s4 (A8 13 (m.msg13 [])) (Ee m.p1.key Ay) (Ee m.p2.key A0) 900=(m.tk,Z):=by
  unfold A2u;rw [hout,hdig];show m.s4.fresh.2.shut m.p2.key 2 (As 2 (Hk m.nk).fds)=_
  rw [hnk];exact htk
 refine ⟨hK,?_,hp1,hp2,g2.opn hp1.otk,hno.symm,lno,?_,hdig,h34.opn (g2.opn hp1.otk),h34.opn hp2.otk,oc,hout,nkl,by rw [htt],?_,of,by rw [hsub],subl,?_,hdig2,h67.opn (gf.opn oe),oi,?_,oj,by rw [hone],by rw [hT]; exact htwo,PS.derive_of (gl.mde dk),PS.derive_of dl,q1,q2,q4,q6,q7,q8,q9,by omega,by omega,by omega,by omega,by omega,by omega,by omega,ltk,A8z hp1 (by decide) Oz,A8A hp1 (by decide) Oz,A8z hp2 (by decide) Qj,A8A hp2 (by decide) Qj,A8B lno hp1.ltk (by omega) hp2.ltk,A8B lno hp1.ltk (by simp) hp2.ltk,A8T ltk lrp,A8C ltk (by omega),A8C ltk (by simp),A8U lac⟩
 . have:=PS.fresh_len s;rw [hK] at this;exact this
 . have e1:Sr m.p2.s A0 900 m.p1.tk [(Ax,m.p2.tk)]=(m.dg,X):=by
    unfold Sr Lx My;rw [<-hno];exact hdg
   unfold K1;rw [e1];exact hau
 . unfold A2t;rw [htt,hout];exact hrp
 . have e1:T6 m.s6 Ay A0 5 m.tk=(m.d2,V):=by
    unfold T6 bgB;rw [hsub];exact hd2
   unfold N0;rw [e1,hsub];exact hax
 . unfold Rk;rw [hdig2];exact hac
theorem A5n {s:PS} (h:s.Wf) (K nm:Aa) (pw:ByteArray):(ph s K nm pw).s.Wf:=by
 unfold ph;exact ((((((h.text _ _).1).shut _ _ _).fresh.fresh).shut _ _ _).shut _ _ _)
theorem A5e {s:PS} (h:s.Wf) (nm sv:Aa) (now un seq:Nat) (tb dk:Aa) (k8:List (Aa×Aa)):(K1 s nm sv now un seq tb dk k8).2.Wf:=((h.fresh).digest _).shut _ _ _
theorem A4q {s:PS} (h:s.Wf) (nm me pr:Aa) (sid now seq:Nat) (tb dk:Aa):(N0 s nm me pr sid now seq tb dk).2.Wf:=((h.fresh).digest _).shut _ _ _
theorem A6v {s:PS} (h:s.Wf):(Nj s).ka.length=16/\(Nj s).kb.length=16:=by
 have h8:(Nj s).s8.Wf:=by
  unfold Nj;exact (A4q (((A5e (A5n (A5n h.fresh _ _ _) _ _ _) _ _ _ _ _ _ _ _).fresh.shut _ _ _).shut _ _ _) _ _ _ _ _ _ _ _).shut _ _ _
 have h1:=h8.derive (Nj s).sub Eg;exact ⟨h1.2,(h1.1.derive (Nj s).sub K9).2⟩
end Go.Proofs.YtcnfaghcjlhoiaaGreat
