/- Texts of this proof, one behind the other: Wg1, Ho1, Ho2, Ho9, HoA, Ho4, Ho5, HoB, CrW, HoF, HoC, HoD, HoE, Ho8, Ho6, Ho7, CrY, MTo, MMsgO. -/
import Derived.Test.YtcnfaghcjlhoiaaGreatWeA1
import Derived.Test.YtcnfaghcjlhoiaaGreatWeA2
import Derived.Test.YtcnfaghcjlhoiaaGreatWeA5
import Derived.Test.YtcnfaghcjlhoiaaGreatWeA7
import Derived.Test.YtcnfaghcjlhoiaaGreatWeA10
import Derived.Test.YtcnfaghcjlhoiaaGreatWeA11
import Derived.Test.YtcnfaghcjlhoiaaGreatWeA12
import Derived.Test.YtcnfaghcjlhoiaaGreatWeA13
import Derived.Deep.DeepCutAuto
import Derived.Deep.LoopGhost
import Derived.Deep.CutBlock
set_option linter.unusedSimpArgs false
set_option linter.unusedVariables false
set_option maxRecDepth 100000
set_option maxHeartbeats 16000000
open Go.Proofs.Tryz renaming prog -> aA, underlying65 -> aE, func77 -> aF, ntmps77 -> aG, func111 -> aK, ntmps111 -> aL
open List renaming getElem?_cons_succ -> aB, getElem?_cons_zero -> aC, mem_cons_self -> aD, map_nil -> aH, mem_cons -> aI, not_mem_nil -> aJ
open Go renaming Value -> aM, World -> aN, Calls -> aO
namespace Go.Proofs.YtcnfaghcjlhoiaaGreat
open Go.RowKit Go.Maps
def PS.tab:PS->Sy
 | .sym s=>s
theorem Q8 (q:Nat) (s:PS):pvR q s=Dm q s.tab:=by cases s; rfl
structure HS where
 nm:Aa
 c:Cli
 D:List (Option CrD)
 up:Bool
 M:List Aa
 E:List Int
def HS.new (nm:Aa):HS:=⟨nm,Cli.new (tx nm),Bu,false, [], []⟩
structure WS where
 s:PS
 M:Mi
 K:Aa
 L:List Us
 box:Jn
 h:Nat->HS
 log:List (Aa×Int×Int)
 clk:Nat
 stp:Nat
 P:List Aa
def upd (f:Nat->HS) (j:Nat) (x:HS):Nat->HS:=λ k=>if k=j then x else f k
theorem Eo (f:Nat->HS) (j:Nat) (x:HS):upd f j x j=x:=if_pos rfl
theorem Ec (f:Nat->HS) {j k:Nat} (x:HS) (h:k≠j):upd f j x k=f k:=if_neg h
theorem A6T (f:Nat->HS) (j:Nat) (x y:HS):upd (upd f j x) j y=upd f j y:=by
 funext k;unfold upd;split <;> rfl
namespace WS
def aft1 (S:WS) (j:Nat):WS:=
 { S with P:=S.P++(S.h j).M,M:=(S.h j).M.foldl Mi.take S.M,log:=S.log++(S.h j).E.map λ k=>((S.h j).nm,(S.stp:Int),k),h:=upd S.h j { S.h j with M:= [],E:= [] } }
def aftN (S:WS):Nat->WS
 | 0=>S
 | j+1=>(S.aftN j).aft1 j
def aft (S:WS):WS:=S.aftN 3
def tick (S:WS):WS:= { S with stp:=S.stp+1 }
theorem quiet (S:WS) (h:∀j,3<=j->(S.h j).M= []/\(S.h j).E= []) (j:Nat):(S.aft.h j).M= []/\(S.aft.h j).E= []:=by
 show ((upd (upd (upd S.h 0 _) 1 _) 2 _) j).M= []/\((upd (upd (upd S.h 0 _) 1 _) 2 _) j).E= []
 by_cases h2:j=2
 . subst h2; rw [Eo]; exact ⟨rfl,rfl⟩
 rw [Ec _ _ h2];by_cases h1:j=1
 . subst h1; rw [Eo]; exact ⟨rfl,rfl⟩
 rw [Ec _ _ h1];by_cases h0:j=0
 . subst h0; rw [Eo]; exact ⟨rfl,rfl⟩
 rw [Ec _ _ h0];exact h j (by omega)
theorem V6 (S:WS) (k j:Nat):((S.aft1 k).h j).nm=(S.h j).nm:=by
 show ((upd S.h k _) j).nm=_
 by_cases h:j=k
 . subst h; rw [Eo]
 . rw [Ec _ _ h]
theorem aft_nm (S:WS) (j:Nat):(S.aft.h j).nm=(S.h j).nm:=((V6 _ 2 j).trans (V6 _ 1 j)).trans (V6 S 0 j)
theorem aft1_id (S:WS) (k:Nat) (h:(S.h k).M= []/\(S.h k).E= []):S.aft1 k=S:=by
 obtain ⟨s,M,K,L,box,hs,log,clk,stp,P⟩:=S;simp only at h;have e:upd hs k { hs k with M:= [],E:= [] } =hs:=by
  funext j;by_cases hj:j=k
  . subst hj;rw [Eo];obtain ⟨h1,h2⟩:=h;generalize hs j=x at*;obtain ⟨nm,c,D,up,M,E⟩:=x;simp only at h1 h2;rw [h1,h2]
  . rw [Ec _ _ hj]
 simp only [aft1,h.1,h.2,List.append_nil,aH,List.foldl_nil,WS.mk.injEq,true_and];exact ⟨e,trivial⟩
theorem aft_id (S:WS) (h:∀j,(S.h j).M= []/\(S.h j).E= []):S.aft=S:=by
 show ((S.aft1 0).aft1 1).aft1 2=S
 rw [aft1_id S 0 (h 0),aft1_id S 1 (h 1),aft1_id S 2 (h 2)]
end WS
def A8q:Aa:= [101,118,101]
def nmI (i:Nat):Aa:=if i=0 then [97,110,110] else if i=1 then [98,111,98] else A8q
def pwI (i:Nat):ByteArray:=if i=0 then ⟨#[112,97]⟩ else if i=1 then ⟨#[112,98]⟩ else ⟨#[112,101]⟩
def lfI (i:Nat):Nat:=if i=0 then 400 else if i=1 then 300 else 600
def rnI (i:Nat):Nat:=if i=0 then 4000 else if i=1 then 3000 else 0
def sN:PS:=.sym .nil
def kN:Aa:=sN.fresh.1
def sI:Nat->PS
 | 0=>sN.fresh.2
 | j+1=>((sI j).text (pwI j).data.toList (nmI j)).2
def ukI (j:Nat):Aa:=((sI j).text (pwI j).data.toList (nmI j)).1
def W8 (nm uk:Aa) (lf rn:Nat):Us:=if h:uk.length=16 then ⟨tx nm,uk,h,lf,rn,true⟩ else ⟨tx nm,zk,rfl,lf,rn,true⟩
def usI (j:Nat):Us:=W8 (nmI j) (ukI j) (lfI j) (rnI j)
theorem Va (nm uk:Aa) (lf rn:Nat):(W8 nm uk lf rn).name=tx nm:=by unfold W8; split <;> rfl
theorem U9 (nm uk:Aa) (lf rn:Nat):(W8 nm uk lf rn).life=lf:=by unfold W8; split <;> rfl
theorem So (nm uk:Aa) (lf rn:Nat):(W8 nm uk lf rn).renew=rn:=by unfold W8; split <;> rfl
theorem A3J (nm uk:Aa) (lf rn:Nat):(W8 nm uk lf rn).mesh=true:=by unfold W8; split <;> rfl
def LI:Nat->List Us
 | 0=> []
 | j+1=>(Jo (LI j) (usI j)).1
def Yi:Nat->Jn
 | 0=> []
 | j+1=>(M9 (Yi j) (tx (nmI j))).1
def W0:WS:=⟨sI 3,.nil,kN,LI 3,Yi 3,λ j=>HS.new (nmI j), [],1000,0, []⟩
def uk (i:Nat):Aa:=(Dv W0.s (nmI i) (pwI i)).1
def no (i:Nat):Nat:=Fo (G9 W0.s (nmI i) (pwI i) 1000 1).1
def bx (i:Nat):Aa:=(Gk W0.s (nmI i) (pwI i) 1000 1).1
def p1 (i:Nat):List Pt:= [.s (nmI i),.n (no i),.n 1600,.b (bx i)]
def m1 (i:Nat):Aa:=A8 11 (p1 i)
def s1 (i:Nat):PS:=(G9 W0.s (nmI i) (pwI i) 1000 1).2
def c1 (i:Nat):Cli:=(Cli.new (tx (nmI i))).logged (uk i) (no i)
def W1a (i:Nat):WS:= { W0.tick with s:=s1 i,h:=upd W0.h i ⟨nmI i,c1 i,Bu,false, [m1 i], []⟩ }
def W1 (i:Nat):WS:=(W1a i).aft
def in2 (i:Nat):Ins:=Ut (s1 i) (nmI i) 1000 1600 (lfI i) (rnI i)
def tk (i:Nat):Aa:=(A4p (s1 i) kN (nmI i) 1000 1600 (lfI i) (rnI i)).1
def rp (i:Nat):Aa:=(A1j (s1 i) kN (nmI i) (uk i) (no i) 1000 1600 (lfI i) (rnI i)).1
def s2 (i:Nat):PS:=(A1j (s1 i) kN (nmI i) (uk i) (no i) 1000 1600 (lfI i) (rnI i)).2
def p2 (i:Nat):List Pt:= [.s (nmI i),.i (Ax,tk i),.b (rp i)]
def m2 (i:Nat):Aa:=A8 12 (p2 i)
def W2a (i:Nat):WS:= { (W1 i).tick with s:=s2 i,P:= [m2 i],M:=(W1 i).M.take (m2 i) }
def W2 (i:Nat):WS:=(W2a i).aft
def W3a (i:Nat):WS:= { (W2 i).tick with P:= [],box:=Dh (W2 i).box (tx (nmI i)) (C4 (W2 i).box (tx (nmI i)) []++ [m2 i]) }
def W3 (i:Nat):WS:=(W3a i).aft
def D4 (i:Nat):List (Option CrD):=(Fp Bu ((in2 i).cr Ax (tk i))).1
def W4a (i:Nat):WS:= { (W3 i).tick with box:=Dh (W3 i).box (tx (nmI i)) [],h:=upd (W3 i).h i ⟨nmI i,(c1 i).ended,D4 i,true, [], [0]⟩ }
def W4 (i:Nat):WS:=(W4a i).aft
structure A1g (i:Nat):Prop where
 three:i<3
 sz0:W0.s.sz<=100
 sz1:(s1 i).sz<=100
 sz2:(s2 i).sz<=100
 nml:(nmI i).length<=200
 nmr:Au (tx (nmI i))=true
 nmk:((tx (nmI i)).toList== [107,100,99])=false
 pwl:(pwI i).size<=1000
 ukl:(uk i).length=16
 nol:no i<=1099511627776
 ok1:∀p∈p1 i,Ii p
 all1:(p1 i).all ptB=true
 len1:(m1 i).length<=500
 w1:Ff (m1 i)=(Fl 11 (p1 i),0)
 of1:ofS (Fl 11 (p1 i))=some (p1 i)
 k1:G8 (m1 i)= []
 b1:∀k∈Ij (m1 i),InT (PS.tab (s1 i)) k
 ok2:∀p∈p2 i,Ii p
 all2:(p2 i).all ptB=true
 len2:(m2 i).length<=500
 w2:Ff (m2 i)=(Fl 12 (p2 i),0)
 of2:ofS (Fl 12 (p2 i))=some (p2 i)
 k2:G8 (m2 i)= []
 b2:∀k∈Ij (m2 i)++(W1 i).M.boxes,InT (PS.tab (s2 i)) k
 sor:Fc (LI 3)
 Ll:(LI 3).length<=32
 get:Qm (LI 3) (tx (nmI i))=(usI i).cells
 err:Qn (LI 3) (tx (nmI i))=0
 uke:(usI i).key=uk i
 Kl:kN.length=16
 opre:(s1 i).Opn (uk i) 1 (bx i) (As 5 [.n 1000,.n 1])
 ins:(in2 i).Ok
 orep:(s2 i).Opn (uk i) 3 (rp i) (As 3 ((in2 i).rep (no i) Ax))
 tab:M0 (PS.tab (s1 i))/\M0 (PS.tab (s2 i))
 bxl:(bx i).length<=300
 tkl:(tk i).length<=800
 rpl:(rp i).length<=800
 mail2:Ih (W2 i).box
 mail3:Ih (W3 i).box
 has:Cz (W2 i).box (tx (nmI i))=true
 emp:C4 (W2 i).box (tx (nmI i)) []= []
 got:C4 (W3 i).box (tx (nmI i)) []= [m2 i]
 put:(Fp Bu ((in2 i).cr Ax (tk i))).2=0
 P1:(W1 i).P= [m1 i]
 P2:(W2 i).P= [m2 i]
 h3:(W3 i).h i=⟨nmI i,c1 i,Bu,false, [], []⟩
section
def Bn (pv:aM) (nm:ByteArray) (cp sh:Nat) (up:Bool) (av:aM) (cm tm:Nat) (mv lv:aM):List aM:=
 [pv,.string nm,.pointer (some ⟨cp,0,none⟩),.pointer (some ⟨sh,0,none⟩),.bool up,av,.map (some cm),.map (some tm),mv,lv]
theorem Nz:A3 aA 52 28:=A3.mk Tryz.underlying52 rfl (by kernel_rfl)
def evC (k:Int):List aM:= [.int .i64 k,.string ⟨#[]⟩,.int .i64 0,.int .u8 0,.int .u8 0,.int .u8 0,.int .u8 0,.int .u8 0,.int .u8 0,.int .u8 0,.int .u8 0,.int .u8 0,.int .u8 0,.int .u8 0,.int .u8 0,.int .u8 0,.int .u8 0,.int .u8 0,.int .u8 0,.int .i64 0,.int .i64 0,.int .i64 0,.string ⟨#[]⟩,.slice none 0 0,.int .i64 0,.string ⟨#[]⟩,.bool false,.int .i64 0]
theorem Pk (k:Int):Tryz.prog.built 52 [(0,.int .i64 k)]=some (evC k).toArray:=by kernel_rfl
theorem A2N:Cp aA 67 52 28 152 (.agg (evC 0).toArray):=by
 refine Cp.mk Tryz.underlying67 (by kernel_rfl) rfl (by decide)
theorem Wn (k:Int):∀u∈evC k,u.oneCell'=true:=by
 intro u hu
 have:((evC k).all λ v=>v.oneCell')=true:=by rfl
 exact List.all_eq_true.1 this u hu
section
variable {pv av mv lv:aM} {nm:ByteArray} {cp sh cm tm hp:Nat} {up:Bool} {l:List Res} {w:aN}
theorem Kk (h:Blk w hp (Bn pv nm cp sh up av cm tm mv lv) 69): aO aA 15 #[.pointer (some ⟨hp,0,none⟩)] w λ e w'=>e=.returned (.string nm)/\w=w':=by
 have c:=h.cell 1;simp only [Bn,aB,aC] at c;clear h;go_enter Tryz.func15,Tryz.ntmps15;go_wp2_with fail;go_ret;exact ⟨rfl,rfl⟩
theorem A1J (h:Blk w hp (Bn pv nm cp sh up av cm tm mv lv) 69): aO aA 9 #[.pointer (some ⟨hp,0,none⟩)] w λ e w'=>e=.returned (.bool up)/\w=w':=by
 have c:=h.cell 4;simp only [Bn,aB,aC] at c;clear h;go_enter Tryz.func9,Tryz.ntmps9;go_wp2_with fail;go_ret;exact ⟨rfl,rfl⟩
theorem Wq {ma:Option Addr} {mn mc:Nat} (hm:mv=.slice ma mn mc) (h:Ad w (.blk hp (Bn pv nm cp sh up av cm tm mv lv) 69::l)): aO aA 32 #[.pointer (some ⟨hp,0,none⟩)] w λ e w'=>e=.returned mv/\Ad w' (.blk hp (Bn pv nm cp sh up av cm tm (.slice none 0 0) lv) 69::l):=by
 subst hm;have HC:=Ab h;clear h;go_enter Tryz.func32,Tryz.ntmps32;go_upto_region 1 with fail;refine An ?_;(iterate 3 refine zV ?_);refine zL ?_;refine zV ?_;refine wpList_nil ?_;go_upto_region 2 with fail;refine An ?_;(iterate 3 refine zV ?_);refine Af (λ K hK=>?_);refine zS1 (cs:=Bn pv nm cp sh up av cm tm (.slice none 0 0) lv) HC.o ?_ (hf:=by simp [Bn]) (hc:=rfl);intro w2 HC;refine zqp hK ?_;clear hK K;refine wpList_nil ?_;go_wp2_with fail;go_ret;exact ⟨rfl,HC.o⟩
theorem R8 {ma:Option Addr} {mn mc:Nat} (hm:lv=.slice ma mn mc) (h:Ad w (.blk hp (Bn pv nm cp sh up av cm tm mv lv) 69::l)): aO aA 33 #[.pointer (some ⟨hp,0,none⟩)] w λ e w'=>e=.returned lv/\Ad w' (.blk hp (Bn pv nm cp sh up av cm tm mv (.slice none 0 0)) 69::l):=by
 subst hm;have HC:=Ab h;clear h;go_enter Tryz.func33,Tryz.ntmps33;go_upto_region 1 with fail;refine An ?_;(iterate 3 refine zV ?_);refine zL ?_;refine zV ?_;refine wpList_nil ?_;go_upto_region 2 with fail;refine An ?_;(iterate 3 refine zV ?_);refine Af (λ K hK=>?_);refine zS1 (cs:=Bn pv nm cp sh up av cm tm mv (.slice none 0 0)) HC.o ?_ (hf:=by simp [Bn]) (hc:=rfl);intro w2 HC;refine zqp hK ?_;clear hK K;refine wpList_nil ?_;go_wp2_with fail;go_ret;exact ⟨rfl,HC.o⟩
end
def Kg (ks:List Int):List aM:=(ks.map evC).flatten
theorem Ln (hp:Nat) (pv av mv lv:aM) (nm:ByteArray) (cp sh cm tm:Nat) (up:Bool) (ks:List Int) (k:Int) (l:List Res) (w:aN) (h:Ad w (.blk hp (Bn pv nm cp sh up av cm tm mv lv) 69::.ownZ 52 28 lv ks.length (Kg ks)::l)) (hk:ks.length<=1000): aO aA 137 #[.pointer (some ⟨hp,0,none⟩),.agg (evC k).toArray] w λ e w'=>e=.returned (.tuple #[])/\∃lv',Ad w' (.blk hp (Bn pv nm cp sh up av cm tm mv lv') 69::.ownZ 52 28 lv' (ks++ [k]).length (Kg (ks++ [k]))::l):=by
 obtain ⟨la,lc,rfl,_,_⟩:=(h.tail.ownZOf aD).sl.form;obtain ⟨n,hn⟩:∃n,n=ks.length:=⟨_,rfl⟩
 have hn2:(ks++ [k]).length=n+1:=by rw [hn]; simp
 have he2:Kg (ks++ [k])=Kg ks++evC k:=by simp [Kg]
 rw [hn2,he2];rw [<-hn] at h hk;obtain ⟨EV,hEV⟩:∃EV,EV=evC k:=⟨_,rfl⟩
 have HEL:Hq (EV.length=28):=Ab (by rw [hEV]; rfl);have HEO:Hq (∀u∈EV,u.oneCell'=true):=Ab (by rw [hEV]; exact Wn k);rw [<-hEV];have HM1:Hq (n+1<=maxLen):=Ab (by unfold maxLen; omega);have HM2:Hq ((n+1)*152<=140737488355328):=Ab (by omega);have HC:=Ab (h.addBlkAt EV 52 (b:=w.heap.size) rfl);clear h hk hn hn2 he2 hEV;go_enter Tryz.func137,Tryz.ntmps137;go_upto_region 1 with fail;refine B5 [10] (λ b W=>Ao W w.heap.size 0 EV/\(b= [false]->W.cell? ⟨hp,9,none⟩=some (.slice la n lc))) (by kernel_rfl) ?_;have HC:=Ab HC.o.drew;refine zT 0 ?_;refine zT 1 ?_;refine zT 2 ?_;refine zT 3 ?_;refine zTk 4 [10] ?_ (hr:=λ _ _ hk hW=>by have c:=hW.2 (Iy hk); go_simp; try rfl);refine zT 5 ?_ (hr:=λ _ _ _ hW=>ldJ Nz rfl HEL.o hW.1);refine zJ 6 λ K hK=>?_
 refine Is rfl (.tmp 9) A2N rfl rfl (by have:=HEL.o; simpa using this) (by decide) ?_;have HC:=Ab (HC.o.addBlk EV 52);refine zq hK ?_;clear hK K;refine zJ 7 λ K hK=>?_
 refine Om rfl (.tmp 8) (.tmp 10) A2N rfl rfl rfl (HC.o.zP [3]) (HC.o.blk0.slS HEL.o HEO.o) (by decide) HM1.o HM2.o ?_;intro v3 w3 hc;obtain ⟨qg,qo,qn,rfl,_⟩:=(hc.ownZOf aD).form (by omega);have HC:=Ab hc;clear hc;refine zq hK ?_;clear hK K;refine zT 8 ?_;refine zT 9 ?_;refine zJ 10 λ K hK=>?_
 refine zS1 (cs:=Bn pv nm cp sh up av cm tm mv (.slice (some ⟨qg,qo,none⟩) (n+1) qn)) (HC.o.zP [3]) ?_ (hf:=by simp [Bn]) (hc:=rfl);intro w4 HC;refine zq hK ?_;clear hK K;refine zD ?_;go_end0;have h9:=HC.o.zP [2,2];exact ⟨rfl,_,(h9.tail.tail)⟩
end
theorem A1N (w:aN):aO aA 240 #[.slice none 0 0,.int .i64 0,.int .i64 0] w λ e w'=>e=.returned (.tuple #[])/\w=w':=by
 go_enter Tryz.func240,Tryz.ntmps240;go_wp2_with fail;go_loopw [6] (λ i wr=>i=.int .i64 1/\w=wr) (λ _ _=>0)
 case atStart=>exact ⟨rfl,rfl⟩
 case round=>
  obtain ⟨rfl,rfl⟩:=hrel;go_wp2_with fail;go_end0;exact ⟨rfl,rfl⟩
theorem V8 (w:aN):aO aA 195 #[.int .u64 0] w λ e w'=>e=.returned (.int .i64 0)/\w=w':=by
 have h64:aO aA 250 #[.int .u64 0] w λ e w'=>e=.returned (.int .i64 0)/\w=w':=by
  go_enter Tryz.func250,Tryz.ntmps250;go_wp2_with fail;go_ret;exact ⟨by kernel_rfl,rfl⟩
 have H64:=Ab h64;clear h64;go_enter Tryz.func195,Tryz.ntmps195;go_wp2_with fail;refine H64.o.mono ?_;rintro e w' ⟨rfl,rfl⟩;go_wp2_with fail;go_ret;exact ⟨rfl,rfl⟩
theorem A5l (w:aN):aO aA 194 #[.slice none 0 0,.int .i64 0,.int .i64 0,.int .i64 0] w λ e w'=>e=.returned (.tuple #[])/\w=w':=by
 have HI:=Ab (A1N w);go_enter Tryz.func194,Tryz.ntmps194;go_wp2_with fail
 go_loopg [1,2] 0 (λ k a b wr=>a=.int .i64 0/\b=.int .i64 0/\w=wr)
 case atStart=>exact ⟨rfl,rfl,rfl⟩
 case round=>
  obtain ⟨rfl,rfl,rfl⟩:=hrel;go_wp2_with fail;refine HI.o.mono ?_;rintro e w' ⟨rfl,rfl⟩;go_wp2_with fail;try simp only [Exit.inBlock,Exit.then]
  refine bodyPost_ret (results_none rfl _ _ _) rfl ?_;exact ⟨rfl,rfl⟩
theorem Mo (w:aN):aO aA 140 #[.slice none 0 0] w λ e w'=>e=.returned (.tuple #[])/\w=w':=by
 have HB:=Ab (V8 w);have HP:=Ab (A5l w);go_enter Tryz.func140,Tryz.ntmps140;go_wp2_with fail;refine HB.o.mono ?_;rintro e w' ⟨rfl,rfl⟩;go_wp2_with fail;refine HP.o.mono ?_;rintro e w' ⟨rfl,rfl⟩;go_wp2_with fail;go_end0;exact ⟨rfl,rfl⟩
theorem Sd {key:aM} {kl:Lit} (h:keyOf aA 9 key=some kl):∃s:ByteArray,key=.string s/\kl=kS s:=by
 obtain ⟨x,h1,h2,_⟩:=Go.WideMaps.string_of_keyOf Tryz.underlying9 h;exact ⟨x,h1,h2⟩
theorem Fj (hp cp sh cm tm:Nat) (xv av mv ev:aM) (nm:ByteArray) (up:Bool) (l:List Res) (w:aN) (h:Ad w (Cj aA 9 kS tm []::.blk hp (Bn xv nm cp sh up av cm tm mv ev) 69::l)): aO aA 136 #[.pointer (some ⟨hp,0,none⟩)] w λ e w'=>e=.returned (.slice none 0 0)/\Ad w' (Cj aA 9 kS tm []::.blk hp (Bn xv nm cp sh up av cm tm mv ev) 69::l):=by
 have HM:=Ab (h.mapVOf (b:=tm) (M:= []) aD);have HC0:=Ab h;have c7:=(h.zB hp).cell 7;simp only [Bn,aB,aC] at c7;clear h;go_enter Tryz.func136,Tryz.ntmps136;go_wp2_with (at_range; refine Em _ rfl _ 66 rfl 9 275 Fq Ds Tryz.underlying66 tm _ rfl HM.o ?_);intro w2 left0 hleft hrg hbel;have HC:=Ab (HC0.o.rngVStart hrg hbel);obtain ⟨r,hr⟩:∃r,r=w.heap.size:=⟨_,rfl⟩
 rw [<-hr] at HC;rw [<-hr];clear hrg hbel hleft HM HC0 hr c7;go_wp2_with fail;go_loopw [3] (λ v3 wr=>∃(left:Lit->Bool) (cnt:Nat),v3=.slice none 0 0/\Ad wr (Qr aA 9 kS tm r [] left cnt::.blk hp (Bn xv nm cp sh up av cm tm mv ev) 69::l)) (λ _ wr=>wr.rangeLeft tm r)
 case atStart=>exact ⟨left0,_,rfl,HC.o⟩
 case round=>
  obtain ⟨left,cnt,rfl,hr⟩:=hrel;have HRG:=Ab hr.rngVOf;have HC:=Ab hr;clear hr;go_wp2_with (at_next; refine Fa _ rfl _ rfl 9 Fq Ds (aM.string) (λ _ _ h=>Sd h) tm r _ left cnt rfl HRG.o ?_ ?_)
  . intro hc0 hl0;have HC:=Ab HC.o.rngVEnd;clear hc0 hl0 HRG;go_wp2_with fail;refine (Mo _).mono ?_;rintro e w3 ⟨rfl,rfl⟩;go_wp2_with fail;go_ret;exact ⟨rfl,HC.o⟩
theorem Hy (hp cp sh cm tm:Nat) (xv av mv ev:aM) (nm:ByteArray) (up:Bool) (l:List Res) (w:aN) (h:Ad w (Cj aA 9 kS tm []::.blk hp (Bn xv nm cp sh up av cm tm mv ev) 69::l)): aO aA 131 #[.pointer (some ⟨hp,0,none⟩)] w λ e w'=>e=.returned (.tuple #[])/\Ad w' (Cj aA 9 kS tm []::.blk hp (Bn xv nm cp sh up av cm tm mv ev) 69::l):=by
 have HP:=Ab (Fj hp cp sh cm tm xv av mv ev nm up l w h);clear h;go_enter Tryz.func131,Tryz.ntmps131;go_wp2_with fail;refine HP.o.mono ?_;rintro e w1 ⟨rfl,hc⟩;have HC:=Ab hc;clear hc HP;go_wp2_with fail;go_loopw [12] (λ i wr=>i=.int .i64 0/\Ad wr (Cj aA 9 kS tm []::.blk hp (Bn xv nm cp sh up av cm tm mv ev) 69::l)) (λ _ _=>0)
 case atStart=>exact ⟨rfl,HC.o⟩
 case round=>
  obtain ⟨rfl,hr⟩:=hrel;have HC:=Ab hr;clear hr;go_wp2_with fail;go_end0;exact ⟨rfl,HC.o⟩
theorem Sa (hp cp sh cm tm:Nat) (xv av mv ev:aM) (nm:ByteArray) (ks:List Int) (l:List Res) (w:aN) (Q:aN->Prop) (h:Ad w (Cj aA 9 kS tm []::.blk hp (Bn xv nm cp sh true av cm tm mv ev) 69::.ownZ 52 28 ev ks.length (Kg ks)::l)) (hk:ks.length<=1000) (hwipe:∀W ev',Ad W (Cj aA 9 kS tm []::.blk hp (Bn xv nm cp sh true av cm tm mv ev') 69::.ownZ 52 28 ev' (ks++ [1]).length (Kg (ks++ [1]))::l)->aO aA 138 #[.pointer (some ⟨hp,0,none⟩)] W λ e w'=>e=.returned (.tuple #[])/\Q w'): aO aA 74 #[.pointer (some ⟨hp,0,none⟩)] w λ e w'=>e=.returned (.int .i64 0)/\Q w':=by
 have HP:=Ab (Fj hp cp sh cm tm xv av mv ev nm true _ w h);have HW:=Ab hwipe;have HK:=Ab hk;have c4:=(h.zB hp).cell 4;simp only [Bn,aB,aC] at c4;clear h hwipe hk;go_enter Tryz.func74,Tryz.ntmps74;go_wp2_with fail;refine HP.o.mono ?_;rintro e w1 ⟨rfl,hc⟩;have HC:=Ab hc;clear hc HP c4;go_wp2_with fail;go_loopw [17] (λ i wr=>i=.int .i64 0/\Ad wr (Cj aA 9 kS tm []::.blk hp (Bn xv nm cp sh true av cm tm mv ev) 69::.ownZ 52 28 ev ks.length (Kg ks)::l)) (λ _ _=>0)
 case atStart=>exact ⟨rfl,HC.o⟩
 case round=>
  obtain ⟨rfl,hr⟩:=hrel;have HC:=Ab hr;clear hr;have c4:=(HC.o.zB hp).cell 4;simp only [Bn,aB,aC] at c4;have HH:=Ab (Ln hp xv av mv ev nm cp sh cm tm true ks 1 _ wr (HC.o.zP [1,1]) HK.o);go_upto_region 9 with fail;refine An ?_;refine zV ?_;refine zV ?_ (v:=.agg (evC 1).toArray) (hr:=by have e:=Pk 1; go_simp; try rfl);refine Af (λ K hK=>?_);go_simp;refine HH.o.mono ?_;rintro e w5 ⟨rfl,ev',hc⟩;have HC:=Ab (hc.zP [2]);clear hc HH c4;refine zqp hK ?_;clear hK K;refine wpList_nil ?_;go_wp2_with fail;refine (HW.o _ _ HC.o).mono ?_;rintro e w6 ⟨rfl,hq⟩;go_wp2_with fail;go_ret;exact ⟨rfl,hq⟩
section
theorem Ls (cp:Nat) (b:Bool) (q st:Nat) (c:Cli) (l:List Res) (w:aN) (h:Ad w (Bd cp b q st c::l)): aO aA 173 #[.pointer (some ⟨cp,0,none⟩)] w λ e w'=>e=.returned (.tuple #[.int .i64 c.step,.string c.pal])/\Ad w' (Bd cp b q st c::l):=by
 unfold Bd at h ⊢;obtain ⟨CC,hCC⟩:∃x,x=c.cells b q st:=⟨_,rfl⟩
 rw [<-hCC] at h ⊢;have H4:Hq (CC[4]?=some (.int .i64 c.step)):=Ab (by rw [hCC]; rfl);have H6:Hq (CC[6]?=some (.string c.pal)):=Ab (by rw [hCC]; rfl);have HC:=Ab h;clear h hCC;go_enter Tryz.func173,Tryz.ntmps173;go_upto_region 1 with fail;refine B5 [] (λ b W=>W.cell? ⟨cp,4,none⟩=some (.int .i64 c.step)/\W.cell? ⟨cp,6,none⟩=some (.string c.pal)) (by kernel_rfl) ?_;have HC:=Ab HC.o.drew;have HS:=Ab (And.intro (HC.o.zc (p:=cp) (k:=4) (v:=.int .i64 c.step) H4.o) (HC.o.zc (p:=cp) (k:=6) (v:=.string c.pal) H6.o));refine zT 0 ?_;refine zT 1 ?_;refine zT 2 ?_;refine zT 3 ?_;refine zT 4 ?_;refine zT 5 ?_;refine zT 6 ?_;refine zT 7 ?_;refine zT 8 ?_;refine zT 9 ?_;refine zD ?_;go_wp2_with fail;go_ret2;exact ⟨rfl,HC.o⟩
section
variable (hp:Nat) (pv av mv lv:aM) (nm:ByteArray) (cp sh cm tm:Nat) (up:Bool)
theorem Kj (b:Bool) (q st:Nat) (c:Cli) (l:List Res) (w:aN) (h:Ad w (.blk hp (Bn pv nm cp sh up av cm tm mv lv) 69::Bd cp b q st c::l)): aO aA 123 #[.pointer (some ⟨hp,0,none⟩)] w λ e w'=>e=.returned (.bool (c.step==0))/\Ad w' (.blk hp (Bn pv nm cp sh up av cm tm mv lv) 69::Bd cp b q st c::l):=by
 have HA:=Ab (Ls cp b q st c _ w h.swap);have c2:=h.blk0.cell 2;simp only [Bn,aB,aC] at c2;clear h;go_enter Tryz.func123,Tryz.ntmps123;go_wp2_with fail;refine HA.o.mono ?_;rintro e w1 ⟨rfl,hc⟩;have HC:=Ab hc.swap;clear hc HA;go_wp2_with fail;go_ret;exact ⟨rfl,HC.o⟩
theorem Wr (vs:List aM) (M:List Aa) (x:aM) (B:Aa) (l:List Res) (w:aN) (h:Ad w (.blk hp (Bn pv nm cp sh up av cm tm mv lv) 69::.ownZ 27 1 mv M.length vs::Bw vs M::l)) (hM:M.length<=1000) (hw:∀W,Ad W l->aO aA 92 #[x] W (Cx W (B,0))): aO aA 128 #[.pointer (some ⟨hp,0,none⟩),x] w λ e w'=>∃(ya:Option Addr) (yc:Nat) (mv':aM) (vs':List aM),e=.returned (.slice ya B.length yc)/\Ad w' (.blk hp (Bn pv nm cp sh up av cm tm mv' lv) 69::.ownZ 27 1 mv' (M++ [B]).length vs'::Bw vs' (M++ [B])::l):=by
 obtain ⟨ma,mc,rfl,_,_⟩:=(h.tail.ownZOf aD).sl.form;have HW:=Ab hw;unfold Cx at HW;obtain ⟨n,hn⟩:∃n,n=M.length:=⟨_,rfl⟩
 have hn2:(M++ [B]).length=n+1:=by rw [hn]; simp
 rw [hn2];rw [<-hn] at h hM;have HM1:Hq (n+1<=maxLen):=Ab (by unfold maxLen; omega);have HM2:Hq ((n+1)*24<=140737488355328):=Ab (by omega);have HC:=Ab h;clear h hM hw hn hn2;go_enter Tryz.func128,Tryz.ntmps128;go_wp2_with fail;refine (HW.o _ HC.o.tail.tail.tail).mono ?_;rintro e w1 ⟨y,rfl,ho,hb⟩;obtain ⟨ya,yc,rfl,_,_⟩:=ho.sl.form;have HC:=Ab (HC.o.freshRow hb ho);clear ho hb HW;go_upto_region 3 with fail;refine An ?_;(iterate 4 refine zV ?_);refine zL ?_;refine zV ?_;refine Af (λ K hK=>?_);refine zN (λ b=>.slice (some ⟨b,0,none⟩) 1 1) [.slice ya B.length yc] 27 HC.o ?_;intro b18 w2 HC;refine zqp hK ?_;clear hK K;refine Af (λ K hK=>?_);refine Om rfl (.tmp 18) (.tmp 20) Gi rfl rfl rfl (HC.o.zP [3]) (HC.o.blk0.slS rfl (by intro u hu; simp only [aI,aJ,or_false] at hu; rcases hu with rfl <;> rfl)) (by decide) HM1.o HM2.o ?_;intro v3 w3 hc;obtain ⟨qg,qo,qn,rfl,_⟩:=(hc.ownZOf aD).form (by omega);have HC:=Ab hc;clear hc;refine zqp hK ?_;clear hK K;(iterate 2 refine zV ?_);refine Af (λ K hK=>?_);refine zS1 (cs:=Bn pv nm cp sh up av cm tm (.slice (some ⟨qg,qo,none⟩) (n+1) qn) lv) (HC.o.zP [3]) ?_ (hf:=by simp [Bn]) (hc:=rfl);intro w4 HC;refine zqp hK ?_;clear hK K;refine wpList_nil ?_;go_wp2_with fail;go_ret;have h9:=HC.o.zP [4,3];have h8:=(Dt h9).zP [3];exact ⟨ya,yc,_,_,rfl,h8.tail.zP [1,1,0]⟩
theorem Zn (vs:List aM) (M:List Aa) (x:aM) (B:Aa) (l:List Res) (w:aN) (h:Ad w (.blk hp (Bn pv nm cp sh up av cm tm mv lv) 69::.ownZ 27 1 mv M.length vs::Bw vs M::l)) (hM:M.length<=1000) (hw:∀W,Ad W l->aO aA 92 #[x] W (Cx W (B,0))): aO aA 124 #[.pointer (some ⟨hp,0,none⟩),x,.int .i64 0] w λ e w'=>e=.returned (.int .i64 0)/\∃(ya:Option Addr) (yn yc:Nat) (mv':aM) (vs':List aM),Ad w' (.blk hp (Bn pv nm cp sh up (.slice ya yn yc) cm tm mv' lv) 69::.ownZ 27 1 mv' (M++ [B]).length vs'::Bw vs' (M++ [B])::l):=by
 have HSD:=Ab (Wr hp pv av mv lv nm cp sh cm tm up vs M x B l w h hM hw);clear h hM hw;go_enter Tryz.func124,Tryz.ntmps124;go_upto_region 2 with fail;refine An ?_;(iterate 3 refine zV ?_);refine Af (λ K hK=>?_);go_simp;refine HSD.o.mono ?_;rintro e w1 ⟨ya,yc,mv1,vs1,rfl,hc⟩;have HC:=Ab hc;clear hc HSD;refine zqp hK ?_;clear hK K;(iterate 2 refine zV ?_);refine Af (λ K hK=>?_);refine zS1 (cs:=Bn pv nm cp sh up (.slice ya B.length yc) cm tm mv1 lv) HC.o ?_ (hf:=by simp [Bn]) (hc:=rfl);intro w2 HC;refine zqp hK ?_;clear hK K;refine wpList_nil ?_;go_wp2_with fail;go_ret;exact ⟨rfl,ya,_,yc,mv1,vs1,HC.o⟩
end
theorem Uf (hp cp q st sh cm tm:Nat) (s:PS) (c:Cli) (nm:Aa) (pw:ByteArray) (now:Nat) (av mv lv:aM) (vs:List aM) (M:List Aa) (B:Aa) (l:List Res) (w:aN) (h:Ad w (.blk hp (Bn (pvI s.knd q) (tx nm) cp sh false av cm tm mv lv) 69::Bd cp s.knd q st c::pvR q s::.ownZ 27 1 mv M.length vs::Bw vs M::l)) (hs:s.sz<1099511627000) (hM:M.length<=1000) (hst:c.step=0) (hnm:c.nm=tx nm) (hnl:nm.length<=200) (hpw:pw.size<=1000) (hck:c.key.length=16) (hnow:now<=109951162777) (hseq:c.seq<1099511627776) (hw:∀y W,Bs W y (Gk s nm pw now (c.seq+1)).1->aO aA 92 #[.iface 104 (.agg #[.string (tx nm),.int .i64 (Fo (G9 s nm pw now (c.seq+1)).1:Int),.int .i64 ((now+600:Nat):Int),y])] W (Cx W (B,0))): aO aA 64 #[.pointer (some ⟨hp,0,none⟩),.int .i64 (now:Int),.string pw] w λ e w'=>e=.returned (.int .i64 0)/\∃(ya:Option Addr) (yn yc:Nat) (mv':aM) (vs':List aM), Ad w' (.blk hp (Bn (pvI s.knd q) (tx nm) cp sh false (.slice ya yn yc) cm tm mv' lv) 69::Bd cp s.knd q st (c.logged (Dv s nm pw).1 (Fo (G9 s nm pw now (c.seq+1)).1))::pvR q (G9 s nm pw now (c.seq+1)).2::.ownZ 27 1 mv' (M++ [B]).length vs'::Bw vs' (M++ [B])::l):=by
 have HFR:=Ab (Kj hp (pvI s.knd q) av mv lv (tx nm) cp sh cm tm false s.knd q st c _ w h);rw [hst,show ((0:Int)==0)=true from rfl] at HFR;have HLG:=Ab (λ (W:aN) (l:List Res) (h:Ad W (Bd cp s.knd q st c::pvR q s::l))=>Lu cp q st s c nm pw now (now+600) l W h hs hnm hnl hpw hck (by omega) hseq);unfold Nv at HLG;have HW:=Ab hw;have HM:=Ab hM;have HNW:=Ab hnow;have c4:=h.blk0.cell 4;have c2:=h.blk0.cell 2;simp only [Bn,aB,aC] at c2 c4;obtain ⟨C1,hC1⟩:∃x,x=c.logged (Dv s nm pw).1 (Fo (G9 s nm pw now (c.seq+1)).1):=⟨_,rfl⟩
 obtain ⟨s1,hs1⟩:∃x,x=(G9 s nm pw now (c.seq+1)).2:=⟨_,rfl⟩
 obtain ⟨no,hno⟩:∃x,x=Fo (G9 s nm pw now (c.seq+1)).1:=⟨_,rfl⟩
 obtain ⟨bx,hbx⟩:∃x,x=(Gk s nm pw now (c.seq+1)).1:=⟨_,rfl⟩
 obtain ⟨un,hun⟩:∃x,x=now+600:=⟨_,rfl⟩
 have hw6:IntKind.i64.wrap ((now:Int)+600)=(un:Int):=by rw [hun,IntKind.wrap_i64]; omega
 simp only [<-hno,<-hbx,<-hs1,<-hun] at HLG HW hC1 ⊢;simp only [<-hC1] at HLG ⊢;clear h hw hM hst hnm hnl hpw hck hseq hs hC1 hs1 hno hbx hun;go_enter Tryz.func64,Tryz.ntmps64;go_wp2_with fail;refine HFR.o.mono ?_;rintro e w1 ⟨rfl,hc⟩;have HC:=Ab hc;clear hc HFR c2 c4;go_upto_region 3 with fail;refine An ?_;(iterate 3 refine zV ?_);refine zL ?_;(iterate 3 refine zV ?_);refine zV ?_ (v:=.int .i64 (un:Int)) (hr:=by have e:=hw6; go_simp);refine Af (λ K hK=>?_);go_simp;refine (HLG.o _ _ (HC.o.zP [1,1])).mono ?_;rintro e w2 ⟨y,rfl,hc⟩;obtain ⟨ya,yc,rfl,_,_⟩:=(hc.rowOf (v:=y) (b:=bx) aD).form;have HC:=Ab hc;clear hc HLG;refine zqp hK ?_;clear hK K;(iterate 3 refine zV ?_);refine Af (λ K hK=>?_);refine zNp A8M 104 HC.o ?_;intro b7 w3 HC;refine zqp hK ?_;clear hK K;refine Af (λ K hK=>?_);refine zWo Fg (vs:= [.string (tx nm),.int .i64 (no:Int),.int .i64 (un:Int),.slice ya bx.length yc]) (by intro u hu; simp only [aI,aJ,or_false] at hu; rcases hu with rfl | rfl | rfl | rfl <;> rfl) HC.o ?_;intro w4 HC;refine zqp hK ?_;clear hK K;refine zV ?_;refine wpList_nil ?_;go_upto_region 4 with fail;refine An ?_;refine zV ?_;refine zLa Fg ?_;(iterate 2 refine zV ?_);refine Af (λ K hK=>?_);go_simp;refine (Zn hp (pvI s.knd q) av mv lv (tx nm) cp sh cm tm false vs M (.iface 104 (.agg #[.string (tx nm),.int .i64 (no:Int),.int .i64 (un:Int),.slice ya bx.length yc])) B (.row (.slice ya bx.length yc) bx::Bd cp s.knd q st C1::pvR q s1::l) w4 (HC.o.tail.zP [3,3,3]) HM.o (λ W hW=>HW.o _ W (hW.rowOf aD))).mono ?_;rintro e w5 ⟨rfl,za,zn,zc,mv1,vs1,hc⟩;have HC:=Ab hc;clear hc;refine zqp hK ?_;clear hK K;refine zV ?_;refine wpList_nil ?_;go_wp2_with fail;go_ret;exact ⟨rfl,za,zn,zc,mv1,vs1,(HC.o.zP [3]).tail.zP [0,2,2]⟩
end
theorem On {P:Program} {ops:Array Oper} {o:Oper} {a:Act} {w:aN} {K:Act->aN->Prop} {Q:Exit->Act->aN->Prop} {E:Prop} (v:aM) (w':aN) (hw:Region.wanted o (yielded ops a.tmps)=true) (hr:(execOp a.eval o).run P w=.ok (.value v) w') (h:K (a.put o.dst v) w'):if Region.wanted o (yielded ops a.tmps)=true then Oper.wp P o a w K Q else E:=by
 rw [if_pos hw];unfold Oper.wp;rw [hr];exact h
theorem Py {W:aN} {l:List Res} {b:Nat} (h:Ad W l) (P:Program) (k:TypeId) {α:Type} (kL:α->Lit) (hb:W.heap.size=b):Ad (W.alloc (.map #[] 0)) (Cj P k kL b []::l):=hb▸h.mapVMade P k kL
theorem M7 (hp q:Nat) (s:PS) (nm:ByteArray) (cv sv av cm tm mv lv:aM) (up:Bool) (l:List Res) (w:aN) (h:Ad w (.blk hp [pvV s q,.string nm,cv,sv,.bool up,av,cm,tm,mv,lv] 69::l)): aO aA 51 #[.pointer (some ⟨hp,0,none⟩)] w λ e w'=>e=.returned (.tuple #[])/\∃cp st sh c t,Ad w' (.blk hp (Bn (pvV s q) nm cp sh false (.slice none 0 0) c t mv lv) 69::Bd cp s.knd q st (Cli.new nm)::Aw st Bu::Bk sh [] 64::Cj aA 9 kS c []::Cj aA 9 kS t []::l):=by
 have HLN:=Ab (λ (W:aN) (l:List Res) (h:Ad W l)=>Oa q s nm l W h);obtain ⟨PV,hPV⟩:∃PV,PV=pvV s q:=⟨_,rfl⟩
 rw [<-hPV] at h HLN ⊢;have HC:=Ab h;clear h hPV;go_enter Tryz.func51,Tryz.ntmps51;go_upto_region 0 with fail;refine B5 [] (λ b W=>W.cell? ⟨hp,0,none⟩=some PV/\W.cell? ⟨hp,1,none⟩=some (.string nm)) (by kernel_rfl) ?_;have HC:=Ab HC.o.drew;refine zT 0 ?_;refine zT 1 ?_;refine zT 2 ?_;refine zT 3 ?_;refine zT 4 ?_;refine zT 5 ?_;refine zT 6 ?_;refine zT 7 ?_;refine zT 8 ?_;refine zT 9 ?_;refine zT 10 ?_;refine zT 11 ?_;refine zJ 12 λ K hK=>?_
 go_simp;refine (HLN.o _ _ HC.o).mono ?_;rintro e w1 ⟨cp,st,rfl,hc⟩;have HC:=Ab hc;clear hc HLN;refine zq hK ?_;clear hK K;refine zJ 13 λ K hK=>?_
 go_simp;refine (Ji _ _ HC.o).mono ?_;rintro e w2 ⟨sh,rfl,hc⟩;have HC:=Ab (hc.zP [3]);clear hc;refine zq hK ?_;clear hK K;refine zT 14 ?_;refine zT 15 ?_;refine zJ 16 λ K hK=>?_
 refine zS1 (cs:= [PV,.string nm,.pointer (some ⟨cp,0,none⟩),sv,.bool up,av,cm,tm,mv,lv]) HC.o ?_;intro w3 HC;refine zq hK ?_;clear hK K;refine zT 17 ?_;refine zT 18 ?_;refine zJ 19 λ K hK=>?_
 refine zS1 (cs:= [PV,.string nm,.pointer (some ⟨cp,0,none⟩),.pointer (some ⟨sh,0,none⟩),.bool up,av,cm,tm,mv,lv]) HC.o ?_;intro w4 HC;refine zq hK ?_;clear hK K;refine zT 20 ?_;refine zT 21 ?_;refine zJ 22 λ K hK=>?_
 refine zS1 (cs:= [PV,.string nm,.pointer (some ⟨cp,0,none⟩),.pointer (some ⟨sh,0,none⟩),.bool false,av,cm,tm,mv,lv]) HC.o ?_;intro w5 HC;refine zq hK ?_;clear hK K;refine zT 23 ?_;refine zT 24 ?_;refine zJ 25 λ K hK=>?_
 refine zS1 (cs:= [PV,.string nm,.pointer (some ⟨cp,0,none⟩),.pointer (some ⟨sh,0,none⟩),.bool false,.slice none 0 0,cm,tm,mv,lv]) HC.o ?_;intro w6 HC;refine zq hK ?_;clear hK K;refine zD ?_;obtain ⟨B,hB⟩:∃B,B=w6.heap.size:=⟨_,rfl⟩
 have h1:=Py HC.o aA 9 kS hB.symm;have h2:=Py h1 aA 9 kS (b:=B+1) (by rw [hB]; simp);have hmm:= @run_makeMap aA;have HX:=Ab (h2.zP [2]);have HBB:=Ab hB;clear h1 h2 HC;go_upto_region 1 with fail;refine An ?_;(iterate 2 refine zV ?_);refine Af (λ K hK=>?_);refine On (.map (some B)) (w6.alloc (.map #[] 0)) rfl (by rw [HBB.o]; go_simp; try rfl) ?_;refine zqp hK ?_;clear hK K;refine Af (λ K hK=>?_);refine On (.map (some (B+1))) ((w6.alloc (.map #[] 0)).alloc (.map #[] 0)) rfl (by rw [HBB.o]; go_simp; try simp) ?_;refine zqp hK ?_;clear hK K;(iterate 2 refine zV ?_);refine Af (λ K hK=>?_);refine zS1 (cs:= [PV,.string nm,.pointer (some ⟨cp,0,none⟩),.pointer (some ⟨sh,0,none⟩),.bool false,.slice none 0 0,.map (some B),tm,mv,lv]) HX.o ?_;intro w7 HC;refine zqp hK ?_;clear hK K;(iterate 2 refine zV ?_);refine Af (λ K hK=>?_);refine zS1 (cs:=Bn PV nm cp sh false (.slice none 0 0) B (B+1) mv lv) HC.o ?_;intro w8 HC;refine zqp hK ?_;clear hK K;refine wpList_nil ?_;go_end0;exact ⟨rfl,cp,st,sh,B,B+1,HC.o.zP [0,3,3,2,1,0]⟩
theorem A1n (t:TypeId) (v:aM) (nm:ByteArray):Tryz.prog.built 69 [(0,.iface t v),(1,.string nm)]=some #[.iface t v,.string nm,.pointer none,.pointer none,.bool false,.slice none 0 0,.map none,.map none,.slice none 0 0,.slice none 0 0]:=by kernel_rfl
def K7 (hp q:Nat) (s:Bool) (nm:ByteArray) (c:Cli) (D:List (Option CrD)) (up:Bool) (M:List Aa) (E:List Int):Res:=
 .ex λ z:Nat×Nat×Nat×Nat×Nat=>.ex λ av:Option Addr×Nat×Nat=>.ex λ mv=>.ex λ vs=>.ex λ lv=>.all [.blk hp (Bn (pvI s q) nm z.1 z.2.2.1 up (.slice av.1 av.2.1 av.2.2) z.2.2.2.1 z.2.2.2.2 mv lv) 69,Bd z.1 s q z.2.1 c,Aw z.2.1 D,Bk z.2.2.1 [] 64,Cj aA 9 kS z.2.2.2.1 [],Cj aA 9 kS z.2.2.2.2 [],.ownZ 27 1 mv M.length vs,Bw vs M,.ownZ 52 28 lv E.length (Kg E)]
theorem E7 {W:aN} {hp q:Nat} {s:Bool} {nm:ByteArray} {c:Cli} {D:List (Option CrD)} {up:Bool} {M:List Aa} {E:List Int} {l:List Res} (h:Ad W (K7 hp q s nm c D up M E::l)): ∃cp st sh cm tm aa an ac ma mc la lc vs,Ad W (.blk hp (Bn (pvI s q) nm cp sh up (.slice aa an ac) cm tm (.slice ma M.length mc) (.slice la E.length lc)) 69::Bd cp s q st c::Aw st D::Bk sh [] 64::Cj aA 9 kS cm []::Cj aA 9 kS tm []::.ownZ 27 1 (.slice ma M.length mc) M.length vs::Bw vs M::.ownZ 52 28 (.slice la E.length lc) E.length (Kg E)::l):=by
 obtain ⟨⟨cp,st,sh,cm,tm⟩,h⟩:=Ad.ex.1 h;obtain ⟨⟨aa,an,ac⟩,h⟩:=Ad.ex.1 h;obtain ⟨mv,h⟩:=Ad.ex.1 h;obtain ⟨vs,h⟩:=Ad.ex.1 h;obtain ⟨lv,h⟩:=Ad.ex.1 h;have h:=Ad.app.1 h;obtain ⟨ma,mc,rfl,_⟩:=(h.tail.tail.tail.tail.tail.tail.ownZOf aD).sl.form;obtain ⟨la,lc,rfl,_⟩:=(h.tail.tail.tail.tail.tail.tail.tail.tail.ownZOf aD).sl.form;exact ⟨cp,st,sh,cm,tm,aa,an,ac,ma,mc,la,lc,vs,h⟩
theorem Ga {W:aN} {hp q:Nat} {s:Bool} {nm:ByteArray} {c:Cli} {D:List (Option CrD)} {up:Bool} {M:List Aa} {E:List Int} {l:List Res} {cp st sh cm tm:Nat} {aa:Option Addr} {an ac:Nat} {mv lv:aM} {vs:List aM} (h:Ad W (.blk hp (Bn (pvI s q) nm cp sh up (.slice aa an ac) cm tm mv lv) 69::Bd cp s q st c::Aw st D::Bk sh [] 64::Cj aA 9 kS cm []::Cj aA 9 kS tm []::.ownZ 27 1 mv M.length vs::Bw vs M::.ownZ 52 28 lv E.length (Kg E)::l)): Ad W (K7 hp q s nm c D up M E::l):=Ad.ex.2 ⟨(cp,st,sh,cm,tm),Ad.ex.2 ⟨(aa,an,ac),Ad.ex.2 ⟨mv,Ad.ex.2 ⟨vs,Ad.ex.2 ⟨lv,Ad.app.2 h⟩⟩⟩⟩⟩
theorem Zr (q:Nat) (s:PS) (nm:ByteArray) (l:List Res) (w:aN) (h:Ad w l): aO aA 24 #[pvV s q,.string nm] w λ e w'=>∃hp,e=.returned (.pointer (some ⟨hp,0,none⟩))/\Ad w' (K7 hp q s.knd nm (Cli.new nm) Bu false [] []::l):=by
 have hb:=h.addBlkAt [pvV s q,.string nm,.pointer none,.pointer none,.bool false,.slice none 0 0,.map none,.map none,.slice none 0 0,.slice none 0 0] 69 (b:=w.heap.size) rfl;have HBL:=Ab (M7 w.heap.size q s nm _ _ _ _ _ _ _ _ l _ hb);have HSH:Hq (pvV s q=pvI s.knd q):=Ab (Bf rfl q).symm;have HB:=Ab (A1n (pvT s) (.pointer (some ⟨q,0,none⟩)) nm);unfold pvV at HBL ⊢;clear h hb;go_enter Tryz.func24,Tryz.ntmps24;go_wp2_with ((with_reducible refine zw 8 ?_); refine De rfl rfl (pv:= [(0,.iface (pvT s) (.pointer (some ⟨q,0,none⟩))),(1,.string nm)]) (by simp only [List.map_toArray,List.map_cons,aH]; rfl) HB.o ?_);refine HBL.o.mono ?_;rintro e w1 ⟨rfl,cp,st,sh,c,t,hc⟩;have h1:=((hc.addEmpX.addNil 27 1).ownToZ.addNil 52 28).ownToZ;have h2:=h1.zP [3,3,3,3,3,3,1,1];have HX:Hq (Ad w1 (K7 w.heap.size q s.knd nm (Cli.new nm) Bu false [] []::l)):=Ab (Ga (vs:= []) (by rw [<-HSH.o]; exact h2));clear hc h1 h2;go_wp2_with fail;go_ret;exact ⟨_,rfl,HX.o⟩
theorem Ww (hp q cp sh cm tm:Nat) (s:PS) (av mv ev:aM) (nm:ByteArray) (up:Bool) (l:List Res) (w:aN) (l2:List Res) (h:Ad w (Cj aA 9 kS cm []::.blk hp (Bn (pvV s q) nm cp sh up av cm tm mv ev) 69::l)) (hout:∀W x y,Ad W (x::y::l)->aO aA 192 #[.pointer (some ⟨cp,0,none⟩)] W λ e w'=>e=.returned (.tuple #[])/\Ad w' (x::y::l2)): aO aA 138 #[.pointer (some ⟨hp,0,none⟩)] w λ e w'=>e=.returned (.tuple #[])/\∃cp st sh c t,Ad w' (.blk hp (Bn (pvV s q) nm cp sh false (.slice none 0 0) c t (.slice none 0 0) ev) 69::Bd cp s.knd q st (Cli.new nm)::Aw st Bu::Bk sh [] 64::Cj aA 9 kS c []::Cj aA 9 kS t []::l2):=by
 have HM:=Ab (h.mapVOf (b:=cm) (M:= []) aD);have HC0:=Ab h;have HO:=Ab hout;have c6:=(h.zB hp).cell 6;simp only [Bn,aB,aC] at c6;clear h hout;go_enter Tryz.func138,Tryz.ntmps138;go_wp2_with (at_range; refine Em _ rfl _ 65 rfl 9 273 Fq Ds aE cm _ rfl HM.o ?_);intro w2 left0 hleft hrg hbel;have HC:=Ab (HC0.o.rngVStart hrg hbel);obtain ⟨r,hr⟩:∃r,r=w.heap.size:=⟨_,rfl⟩
 rw [<-hr] at HC;rw [<-hr];clear hrg hbel hleft HM HC0 hr c6;go_wp2_with fail;go_loopw [] (λ wr=>∃(left:Lit->Bool) (cnt:Nat),Ad wr (Qr aA 9 kS cm r [] left cnt::.blk hp (Bn (pvV s q) nm cp sh up av cm tm mv ev) 69::l)) (λ wr=>wr.rangeLeft cm r)
 case atStart=>exact ⟨left0,_,HC.o⟩
 case round=>
  obtain ⟨left,cnt,hr⟩:=hrel;have HRG:=Ab hr.rngVOf;have HC:=Ab hr;clear hr;go_wp2_with (at_next; refine Fa _ rfl _ rfl 9 Fq Ds (aM.string) (λ _ _ h=>Sd h) cm r _ left cnt rfl HRG.o ?_ ?_)
  . intro hc0 hl0;have HC:=Ab HC.o.rngVEnd;clear hc0 hl0 HRG;have c2:=(HC.o.zB hp).cell 2;simp only [Bn,aB,aC] at c2;go_wp2_with fail;refine (HO.o _ _ _ HC.o).mono ?_;rintro e w3 ⟨rfl,hc⟩;have HC:=Ab hc.tail;clear hc HO c2;have HB:=Ab (M7 hp q s nm _ _ av _ _ mv ev up l2 w3 HC.o);go_wp2_with fail;refine HB.o.mono ?_;rintro e w4 ⟨rfl,cp2,st2,sh2,c3,t3,hc⟩;obtain ⟨PV,hPV⟩:∃PV,PV=pvV s q:=⟨_,rfl⟩
    rw [<-hPV] at hc;have HC:=Ab hc;clear hc HB;go_upto_region 7 with fail;refine An ?_;(iterate 3 refine zV ?_);refine Af (λ K hK=>?_);refine zS1 (cs:=Bn PV nm cp2 sh2 false (.slice none 0 0) c3 t3 (.slice none 0 0) ev) HC.o ?_ (hf:=by simp [Bn]) (hc:=rfl);intro w5 HC;refine zqp hK ?_;clear hK K;refine wpList_nil ?_;go_end0;exact ⟨rfl,cp2,st2,sh2,c3,t3,by rw [<-hPV]; exact HC.o⟩
end Go.Proofs.YtcnfaghcjlhoiaaGreat
namespace Go.Proofs.YtcnfaghcjlhoiaaGreat
open Go.RowKit
theorem Uc (p:Nat) (D:List (Option CrD)) (l:List Res) (w:aN) (h:Ad w (Aw p D::l)): aO aA 239 #[.pointer (some ⟨p,0,none⟩)] w λ e w'=>e=.returned (.tuple #[])/\Ad w' (Aw p Bu::l):=by
 obtain ⟨F1,F2,h1,h2,h3⟩:=Ad.cons.1 h;obtain ⟨⟨L,rfl,hst⟩,hlt⟩:=h1;refine (Wi F1 p L w hst).mono ?_;rintro e w' ⟨rfl,hs,hk⟩;have hFp:F1 p:=hst.1;have H1:(Aw p (L.map λ c=>c.map Cr.dat)).holds w F1:=⟨⟨L,rfl,hst⟩,hlt⟩;have H3:(Aw p Bu).holds w' F1:=⟨⟨I7,rfl,hs⟩,λ b hb=>Nat.lt_of_lt_of_le (hlt b hb) hk.size⟩;have H4:Ai (λ b=>F1 b\/w.heap.size<=b) w w':=hk.mono λ k hk=>.inl (by rw [hk]; exact hFp)
 exact ⟨rfl,Ad.turnAt H1 h2 h3 H3 (λ b hb=>.inl hb) H4⟩
end Go.Proofs.YtcnfaghcjlhoiaaGreat
namespace Go.Proofs.YtcnfaghcjlhoiaaGreat
open Go.RowKit Go.Maps
theorem A4m:A3 aA 50 4:=A3.mk Tryz.underlying50 rfl (by kernel_rfl)
theorem Yo:Tryz.prog.built 50 []=some #[.int .i64 0,.string ⟨#[]⟩,.bool false,.int .i64 0]:=by kernel_rfl
theorem Qo (cp q st:Nat) (b:Bool) (c:Cli) (D:List (Option CrD)) (l:List Res) (w:aN) (hck:c.key.length=16) (h:Ad w (Bd cp b q st c::Aw st D::l)): aO aA 192 #[.pointer (some ⟨cp,0,none⟩)] w λ e w'=>e=.returned (.tuple #[])/\Ad w' l:=by
 have HW:=Ab (λ (l:List Res) (w:aN) h=>Uc st D l w h);have HE:=Ab (λ (l:List Res) (w:aN) h=>N9 cp b q st c l w h hck);have c2:w.cell? ⟨cp,2,none⟩=some (.pointer (some ⟨st,0,none⟩)):=by
  have h2:=h;unfold Bd at h2;exact h2.blk0.cell 2
 have HL:Hq ((c.ended.cells b q st).length=27):=Ab (Cli.cells_length c.ended b q st (show zk.length=16 by decide));have hb0:=Yo;have HC:=Ab h;clear h hck;go_enter Tryz.func192,Tryz.ntmps192;go_wp2_with fail;refine (HW.o _ _ (HC.o.zP [1])).mono ?_;rintro e w1 ⟨rfl,hc⟩;have HC:=Ab hc;clear hc c2 HW;go_wp2_with fail;refine (HE.o _ _ (HC.o.zP [1])).mono ?_;rintro e w2 ⟨rfl,hc⟩;unfold Bd at hc;have HC:=Ab hc;clear hc HE;go_upto_region 2 with fail;refine An ?_;refine zV ?_;refine zV ?_ (v:=.agg #[.int .i64 0,.string ⟨#[]⟩,.bool false,.int .i64 0]);(iterate 2 refine zV ?_);refine Af (λ K hK=>?_);refine zWp A4m HC.o ?_ (vs:= [.int .i64 0,.string ⟨#[]⟩,.bool false,.int .i64 0]) (hf:=by rw [HL.o]; decide) (hc:=rfl);intro w3 HC;refine zqp hK ?_;clear hK K;refine wpList_nil ?_;go_end0;exact ⟨rfl,HC.o.tail.tail⟩
theorem Rl:A3 aA 116 21:=A3.mk Tryz.underlying116 rfl (by kernel_rfl)
theorem Wu (hp q cp st sh cm tm:Nat) (b:Bool) (c:Cli) (D:List (Option CrD)) (xv av mv ev:aM) (nm:ByteArray) (now:Int) (l:List Res) (w:aN) (hst:c.step=0) (h:Ad w (.blk hp (Bn xv nm cp sh false av cm tm mv ev) 69::Bd cp b q st c::Aw st D::Cj aA 9 kS cm []::Cj aA 9 kS tm []::l)) (hget:∀W l,Ad W (Aw st D::l)->aO aA 39 #[.pointer (some ⟨st,0,none⟩),.int .i64 now,.string ⟨#[107,100,99]⟩] W λ e w'=>∃(CC:List aM) (er:Int),e=.returned (.tuple #[.agg CC.toArray,.int .i64 er])/\CC.length=21/\(∀u∈CC,u.oneCell'=true)/\Ad w' (Aw st D::l)): aO aA 77 #[.pointer (some ⟨hp,0,none⟩),.int .i64 now] w λ e w'=>e=.returned (.tuple #[])/\Ad w' (.blk hp (Bn xv nm cp sh false av cm tm mv ev) 69::Bd cp b q st c::Aw st D::Cj aA 9 kS cm []::Cj aA 9 kS tm []::l):=by
 have HG:=Ab hget;have HC:=Ab h;have cst:w.cell? ⟨cp,2,none⟩=some (.pointer (some ⟨st,0,none⟩)):=by
  have h2:=h.tail;unfold Bd at h2;exact h2.blk0.cell 2
 clear h hget;have HFR:=Ab (λ l w h=>Kj hp xv av mv ev nm cp sh cm tm false b q st c l w h);rw [hst,show ((0:Int)==0)=true from rfl] at HFR;go_enter aF,aG;go_upto_region 0 with fail;refine An ?_;(iterate 3 refine zV ?_);refine zL ?_;(iterate 2 refine zV ?_);refine zL ?_ (hc:=cst);refine zV ?_;refine Af (λ K hK=>?_);go_simp;refine (HG.o _ _ (HC.o.zP [2])).mono ?_;rintro e w1 ⟨CC,er,rfl,hcl,hc1,hc⟩;have HC:=Ab (hc.zP [1,1]);have HL:=Ab hcl;have H1:=Ab hc1;clear hc hcl hc1 HG cst;refine zqp hK ?_;clear hK K;(iterate 3 refine zV ?_);refine Af (λ K hK=>?_);refine zNp Fb 116 HC.o ?_;intro B w2 HC;refine zqp hK ?_;clear hK K;refine Af (λ K hK=>?_);refine zWo Rl H1.o HC.o ?_ (hm:=HL.o);intro w3 HC;refine zqp hK ?_;clear hK K;refine zV ?_;refine wpList_nil ?_;have c4:=(HC.o.zB hp).cell 4;simp only [Bn,aB,aC] at c4;go_wp2_with fail;refine (HFR.o _ _ (HC.o.zP [1,1])).mono ?_;rintro e w4 ⟨rfl,hc⟩;have HC:=Ab hc;clear hc HFR c4;have c4:=(HC.o.zB hp).cell 4;have c6:=(HC.o.zB hp).cell 6;simp only [Bn,aB,aC] at c4 c6;have HM:=Ab ((HC.o.zP [4]).mapVOf (b:=cm) (M:= []) aD);go_wp2_with (at_range; refine Em _ rfl _ 65 rfl 9 273 Fq Ds aE cm _ rfl HM.o ?_);intro w5 left0 hleft hrg hbel;have HC:=Ab ((HC.o.zP [4]).rngVStart hrg hbel);obtain ⟨r,hr⟩:∃r,r=w4.heap.size:=⟨_,rfl⟩
 rw [<-hr] at HC;rw [<-hr];clear hrg hbel hleft HM hr c4 c6 HL H1;obtain ⟨L,hL⟩:∃L,L=.blk hp (Bn xv nm cp sh false av cm tm mv ev) 69::Bd cp b q st c::.blk B CC 116::Aw st D::Cj aA 9 kS tm []::l:=⟨_,rfl⟩
 rw [<-hL] at HC;have HLL:=Ab hL;clear hL;go_wp2_with fail;go_loopw [6] (λ v6 wr=>∃(left:Lit->Bool) (cnt:Nat),v6=.slice none 0 0/\Ad wr (Qr aA 9 kS cm r [] left cnt::L)) (λ _ wr=>wr.rangeLeft cm r)
 case atStart=>exact ⟨left0,_,rfl,HC.o⟩
 case round=>
  obtain ⟨left,cnt,rfl,hr⟩:=hrel;have HRG:=Ab hr.rngVOf;have HC:=Ab hr;clear hr;go_wp2_with (at_next; refine Fa _ rfl _ rfl 9 Fq Ds (aM.string) (λ _ _ h=>Sd h) cm r _ left cnt rfl HRG.o ?_ ?_)
  . intro hc0 hl0;have HC:=Ab HC.o.rngVEnd;clear hc0 hl0 HRG;go_wp2_with fail;refine (Mo _).mono ?_;rintro e w6 ⟨rfl,rfl⟩;go_wp2_with fail;go_loopw [100] (λ i wr=>i=.int .i64 0/\Ad wr (Cj aA 9 kS cm []::L)) (λ _ _=>0)
    case atStart=>exact ⟨rfl,HC.o⟩
    case round=>
     obtain ⟨rfl,hr⟩:=hrel;have hr2:=hr;rw [HLL.o] at hr2;have HC:=Ab (hr2.zP [5,1]);clear hr hr2;have HPU:=Ab (λ (l:List Res) (w:aN) h=>Hy hp cp sh cm tm xv av mv ev nm false l w h);have HPE:=Ab (λ (l:List Res) (w:aN) h=>Fj hp cp sh cm tm xv av mv ev nm false l w h);go_wp2_with fail;refine (HPU.o _ _ HC.o).mono ?_;rintro e w7 ⟨rfl,hc⟩;have HC:=Ab hc;clear hc;go_wp2_with fail;refine (HPE.o _ _ HC.o).mono ?_;rintro e w8 ⟨rfl,hc⟩;have HC:=Ab hc;clear hc;obtain ⟨L2,hL2⟩:∃L2,L2=Cj aA 9 kS cm []::Bd cp b q st c::.blk B CC 116::Aw st D::l:=⟨_,rfl⟩
     rw [<-hL2] at HC;have HLL2:=Ab hL2;clear hL2;go_wp2_with fail;go_loopw [120] (λ i wr=>i=.int .i64 0/\Ad wr (Cj aA 9 kS tm []::.blk hp (Bn xv nm cp sh false av cm tm mv ev) 69::L2)) (λ _ _=>0)
     case atStart=>exact ⟨rfl,HC.o⟩
     case round=>
      obtain ⟨rfl,hr⟩:=hrel;have HC:=Ab hr;clear hr;go_wp2_with fail;refine (HPU.o _ _ HC.o).mono ?_;rintro e w9 ⟨rfl,hc⟩;rw [HLL2.o] at hc;have HC:=Ab hc;clear hc;go_wp2_with fail;go_end0;exact ⟨rfl,(HC.o.zP [4]).tail.zP [1,2,2,1]⟩
theorem Zs (hp q cp st sh cm tm:Nat) (b:Bool) (c:Cli) (D:List (Option CrD)) (xv av mv ev:aM) (nm:ByteArray) (now:Int) (l:List Res) (w:aN) (hst:c.step=0) (fl:Int) (hfl:bits .and .i64 fl 1=0) (h:Ad w (.blk hp (Bn xv nm cp sh true av cm tm mv ev) 69::Bd cp b q st c::Aw st D::Cj aA 9 kS cm []::Cj aA 9 kS tm []::l)) (hget:∀W l,Ad W (Aw st D::l)->aO aA 39 #[.pointer (some ⟨st,0,none⟩),.int .i64 now,.string ⟨#[107,100,99]⟩] W λ e w'=>∃(CC:List aM),e=.returned (.tuple #[.agg CC.toArray,.int .i64 0])/\CC[18]?=some (.int .i64 fl)/\CC.length=21/\(∀u∈CC,u.oneCell'=true)/\Ad w' (Aw st D::l)): aO aA 77 #[.pointer (some ⟨hp,0,none⟩),.int .i64 now] w λ e w'=>e=.returned (.tuple #[])/\Ad w' (.blk hp (Bn xv nm cp sh true av cm tm mv ev) 69::Bd cp b q st c::Aw st D::Cj aA 9 kS cm []::Cj aA 9 kS tm []::l):=by
 have HG:=Ab hget;have HC:=Ab h;have cst:w.cell? ⟨cp,2,none⟩=some (.pointer (some ⟨st,0,none⟩)):=by
  have h2:=h.tail;unfold Bd at h2;exact h2.blk0.cell 2
 clear h hget;have HFR:=Ab (λ l w h=>Kj hp xv av mv ev nm cp sh cm tm true b q st c l w h);rw [hst,show ((0:Int)==0)=true from rfl] at HFR;go_enter aF,aG;go_upto_region 0 with fail;refine An ?_;(iterate 3 refine zV ?_);refine zL ?_;(iterate 2 refine zV ?_);refine zL ?_ (hc:=cst);refine zV ?_;refine Af (λ K hK=>?_);go_simp;refine (HG.o _ _ (HC.o.zP [2])).mono ?_;rintro e w1 ⟨CC,rfl,h18,hcl,hc1,hc⟩;have H18:=Ab h18;have HC:=Ab (hc.zP [1,1]);have HL:=Ab hcl;have H1:=Ab hc1;clear hc hcl hc1 HG cst h18;refine zqp hK ?_;clear hK K;(iterate 3 refine zV ?_);refine Af (λ K hK=>?_);refine zNp Fb 116 HC.o ?_;intro B w2 HC;refine zqp hK ?_;clear hK K;refine Af (λ K hK=>?_);refine zWo Rl H1.o HC.o ?_ (hm:=HL.o);intro w3 HC;refine zqp hK ?_;clear hK K;refine zV ?_;refine wpList_nil ?_;have c4:=(HC.o.zB hp).cell 4;simp only [Bn,aB,aC] at c4;go_wp2_with fail;refine (HFR.o _ _ (HC.o.zP [1,1])).mono ?_;rintro e w4 ⟨rfl,hc⟩;have HC:=Ab hc;clear hc HFR c4;have c4:=(HC.o.zB hp).cell 4;have c6:=(HC.o.zB hp).cell 6;simp only [Bn,aB,aC] at c4 c6;have c18:w4.cell? ⟨B,18,none⟩=some (.int .i64 fl):=((HC.o.zB B).cell 18).trans H18.o;have HM:=Ab ((HC.o.zP [4]).mapVOf (b:=cm) (M:= []) aD);go_wp2_with (at_range; refine Em _ rfl _ 65 rfl 9 273 Fq Ds aE cm _ rfl HM.o ?_);intro w5 left0 hleft hrg hbel;have HC:=Ab ((HC.o.zP [4]).rngVStart hrg hbel);obtain ⟨r,hr⟩:∃r,r=w4.heap.size:=⟨_,rfl⟩
 rw [<-hr] at HC;rw [<-hr];clear hrg hbel hleft HM hr c4 c6 HL H1 c18 H18;obtain ⟨L,hL⟩:∃L,L=.blk hp (Bn xv nm cp sh true av cm tm mv ev) 69::Bd cp b q st c::.blk B CC 116::Aw st D::Cj aA 9 kS tm []::l:=⟨_,rfl⟩
 rw [<-hL] at HC;have HLL:=Ab hL;clear hL;go_wp2_with fail;go_loopw [6] (λ v6 wr=>∃(left:Lit->Bool) (cnt:Nat),v6=.slice none 0 0/\Ad wr (Qr aA 9 kS cm r [] left cnt::L)) (λ _ wr=>wr.rangeLeft cm r)
 case atStart=>exact ⟨left0,_,rfl,HC.o⟩
 case round=>
  obtain ⟨left,cnt,rfl,hr⟩:=hrel;have HRG:=Ab hr.rngVOf;have HC:=Ab hr;clear hr;go_wp2_with (at_next; refine Fa _ rfl _ rfl 9 Fq Ds (aM.string) (λ _ _ h=>Sd h) cm r _ left cnt rfl HRG.o ?_ ?_)
  . intro hc0 hl0;have HC:=Ab HC.o.rngVEnd;clear hc0 hl0 HRG;go_wp2_with fail;refine (Mo _).mono ?_;rintro e w6 ⟨rfl,rfl⟩;go_wp2_with fail;go_loopw [100] (λ i wr=>i=.int .i64 0/\Ad wr (Cj aA 9 kS cm []::L)) (λ _ _=>0)
    case atStart=>exact ⟨rfl,HC.o⟩
    case round=>
     obtain ⟨rfl,hr⟩:=hrel;have hr2:=hr;rw [HLL.o] at hr2;have HC:=Ab (hr2.zP [5,1]);clear hr hr2;have HPU:=Ab (λ (l:List Res) (w:aN) h=>Hy hp cp sh cm tm xv av mv ev nm true l w h);have HPE:=Ab (λ (l:List Res) (w:aN) h=>Fj hp cp sh cm tm xv av mv ev nm true l w h);go_wp2_with fail;refine (HPU.o _ _ HC.o).mono ?_;rintro e w7 ⟨rfl,hc⟩;have HC:=Ab hc;clear hc;go_wp2_with fail;refine (HPE.o _ _ HC.o).mono ?_;rintro e w8 ⟨rfl,hc⟩;have HC:=Ab hc;clear hc;obtain ⟨L2,hL2⟩:∃L2,L2=Cj aA 9 kS cm []::Bd cp b q st c::.blk B CC 116::Aw st D::l:=⟨_,rfl⟩
     rw [<-hL2] at HC;have HLL2:=Ab hL2;clear hL2;go_wp2_with fail;go_loopw [120] (λ i wr=>i=.int .i64 0/\Ad wr (Cj aA 9 kS tm []::.blk hp (Bn xv nm cp sh true av cm tm mv ev) 69::L2)) (λ _ _=>0)
     case atStart=>exact ⟨rfl,HC.o⟩
     case round=>
      obtain ⟨rfl,hr⟩:=hrel;have HC:=Ab hr;clear hr;go_wp2_with fail;refine (HPU.o _ _ HC.o).mono ?_;rintro e w9 ⟨rfl,hc⟩;rw [HLL2.o] at hc;have HC:=Ab hc;clear hc;go_wp2_with fail;go_end0;exact ⟨rfl,(HC.o.zP [4]).tail.zP [1,2,2,1]⟩
theorem Wv (hp q cp st sh cm tm:Nat) (b:Bool) (c:Cli) (D:List (Option CrD)) (xv av mv ev:aM) (nm:ByteArray) (now:Int) (l:List Res) (w:aN) (R:Nat->Nat->Nat->Nat->aM->aM->aM->List Res->Prop) (h:Ad w (.blk hp (Bn xv nm cp sh true av cm tm mv ev) 69::Bd cp b q st c::Aw st D::Cj aA 9 kS cm []::Cj aA 9 kS tm []::l)) (hget:∀W l,Ad W (Aw st D::l)->aO aA 39 #[.pointer (some ⟨st,0,none⟩),.int .i64 now,.string ⟨#[107,100,99]⟩] W λ e w'=>∃(CC:List aM),e=.returned (.tuple #[.agg CC.toArray,.int .i64 12])/\CC.length=21/\(∀u∈CC,u.oneCell'=true)/\Ad w' (Aw st D::l)) (hout:∀W x,Ad W (.blk hp (Bn xv nm cp sh true av cm tm mv ev) 69::Bd cp b q st c::Aw st D::Cj aA 9 kS cm []::Cj aA 9 kS tm []::x::l)->aO aA 74 #[.pointer (some ⟨hp,0,none⟩)] W λ e w'=>e=.returned (.int .i64 0)/\∃cp2 sh2 cm2 tm2 av2 mv2 ev2 l2,Ad w' (.blk hp (Bn xv nm cp2 sh2 false av2 cm2 tm2 mv2 ev2) 69::Cj aA 9 kS cm2 []::Cj aA 9 kS tm2 []::l2)/\R cp2 sh2 cm2 tm2 av2 mv2 ev2 l2): aO aA 77 #[.pointer (some ⟨hp,0,none⟩),.int .i64 now] w λ e w'=>e=.returned (.tuple #[])/\∃cp2 sh2 cm2 tm2 av2 mv2 ev2 l2,Ad w' (.blk hp (Bn xv nm cp2 sh2 false av2 cm2 tm2 mv2 ev2) 69::Cj aA 9 kS cm2 []::Cj aA 9 kS tm2 []::l2)/\R cp2 sh2 cm2 tm2 av2 mv2 ev2 l2:=by
 have HO:=Ab hout;have HG:=Ab hget;have HC:=Ab h;have cst:w.cell? ⟨cp,2,none⟩=some (.pointer (some ⟨st,0,none⟩)):=by
  have h2:=h.tail;unfold Bd at h2;exact h2.blk0.cell 2
 clear h hget hout;go_enter aF,aG;go_upto_region 0 with fail;refine An ?_;(iterate 3 refine zV ?_);refine zL ?_;(iterate 2 refine zV ?_);refine zL ?_ (hc:=cst);refine zV ?_;refine Af (λ K hK=>?_);go_simp;refine (HG.o _ _ (HC.o.zP [2])).mono ?_;rintro e w1 ⟨CC,rfl,hcl,hc1,hc⟩;have HC:=Ab (hc.zP [1,1]);have HL:=Ab hcl;have H1:=Ab hc1;clear hc hcl hc1 HG cst;refine zqp hK ?_;clear hK K;(iterate 3 refine zV ?_);refine Af (λ K hK=>?_);refine zNp Fb 116 HC.o ?_;intro B w2 HC;refine zqp hK ?_;clear hK K;refine Af (λ K hK=>?_);refine zWo Rl H1.o HC.o ?_ (hm:=HL.o);intro w3 HC;refine zqp hK ?_;clear hK K;refine zV ?_;refine wpList_nil ?_;have c4:=(HC.o.zB hp).cell 4;simp only [Bn,aB,aC] at c4;go_wp2_with fail;refine (HO.o _ _ (HC.o.zP [1,1,1,1,1])).mono ?_;rintro e w4 ⟨rfl,cp2,sh2,cm2,tm2,av2,mv2,ev2,l2,hc,hr⟩;have HC:=Ab hc;have HR:=Ab hr;clear hc hr HO c4;have c6:=(HC.o.zB hp).cell 6;simp only [Bn,aB,aC] at c6;have HM:=Ab ((HC.o.zP [1]).mapVOf (b:=cm2) (M:= []) aD);go_wp2_with (at_range; refine Em _ rfl _ 65 rfl 9 273 Fq Ds aE cm2 _ rfl HM.o ?_);intro w5 left0 hleft hrg hbel;have HC:=Ab ((HC.o.zP [1]).rngVStart hrg hbel);obtain ⟨r,hr⟩:∃r,r=w4.heap.size:=⟨_,rfl⟩
 rw [<-hr] at HC;rw [<-hr];clear hrg hbel hleft HM hr c6 HL H1;obtain ⟨L,hL⟩:∃L,L=.blk hp (Bn xv nm cp2 sh2 false av2 cm2 tm2 mv2 ev2) 69::Cj aA 9 kS tm2 []::l2:=⟨_,rfl⟩
 rw [<-hL] at HC;have HLL:=Ab hL;clear hL;go_wp2_with fail;go_loopw [6] (λ v6 wr=>∃(left:Lit->Bool) (cnt:Nat),v6=.slice none 0 0/\Ad wr (Qr aA 9 kS cm2 r [] left cnt::L)) (λ _ wr=>wr.rangeLeft cm2 r)
 case atStart=>exact ⟨left0,_,rfl,HC.o⟩
 case round=>
  obtain ⟨left,cnt,rfl,hr⟩:=hrel;have HRG:=Ab hr.rngVOf;have HC:=Ab hr;clear hr;go_wp2_with (at_next; refine Fa _ rfl _ rfl 9 Fq Ds (aM.string) (λ _ _ h=>Sd h) cm2 r _ left cnt rfl HRG.o ?_ ?_)
  . intro hc0 hl0;have HC:=Ab HC.o.rngVEnd;clear hc0 hl0 HRG;go_wp2_with fail;refine (Mo _).mono ?_;rintro e w6 ⟨rfl,rfl⟩;go_wp2_with fail;go_loopw [100] (λ i wr=>i=.int .i64 0/\Ad wr (Cj aA 9 kS cm2 []::L)) (λ _ _=>0)
    case atStart=>exact ⟨rfl,HC.o⟩
    case round=>
     obtain ⟨rfl,hr⟩:=hrel;have hr2:=hr;rw [HLL.o] at hr2;have HC:=Ab (hr2.zP [2,1]);clear hr hr2;have HPU:=Ab (λ (l:List Res) (w:aN) h=>Hy hp cp2 sh2 cm2 tm2 xv av2 mv2 ev2 nm false l w h);have HPE:=Ab (λ (l:List Res) (w:aN) h=>Fj hp cp2 sh2 cm2 tm2 xv av2 mv2 ev2 nm false l w h);go_wp2_with fail;refine (HPU.o _ _ HC.o).mono ?_;rintro e w7 ⟨rfl,hc⟩;have HC:=Ab hc;clear hc;go_wp2_with fail;refine (HPE.o _ _ HC.o).mono ?_;rintro e w8 ⟨rfl,hc⟩;have HC:=Ab hc;clear hc;obtain ⟨L2,hL2⟩:∃L2,L2=Cj aA 9 kS cm2 []::l2:=⟨_,rfl⟩
     rw [<-hL2] at HC;have HLL2:=Ab hL2;clear hL2;go_wp2_with fail;go_loopw [120] (λ i wr=>i=.int .i64 0/\Ad wr (Cj aA 9 kS tm2 []::.blk hp (Bn xv nm cp2 sh2 false av2 cm2 tm2 mv2 ev2) 69::L2)) (λ _ _=>0)
     case atStart=>exact ⟨rfl,HC.o⟩
     case round=>
      obtain ⟨rfl,hr⟩:=hrel;have HC:=Ab hr;clear hr;go_wp2_with fail;refine (HPU.o _ _ HC.o).mono ?_;rintro e w9 ⟨rfl,hc⟩;rw [HLL2.o] at hc;have HC:=Ab hc;clear hc;go_wp2_with fail;go_end0;exact ⟨rfl,cp2,sh2,cm2,tm2,av2,mv2,ev2,l2,HC.o.zP [1,1],HR.o⟩
theorem O2 (hp cp q st sh cm tm:Nat) (b:Bool) (c:Cli) (xv av mv ev v:aM) (nm:ByteArray) (up:Bool) (now:Int) (ks:List Int) (l:List Res) (w:aN) (R:List Res->Prop) (h:Ad w (.blk hp (Bn xv nm cp sh up av cm tm mv ev) 69::.ownZ 52 28 ev ks.length (Kg ks)::Bd cp b q st c::l)) (hk:ks.length<=1000) (hst:c.step=1) (hv:v.oneCell'=true) (hgot:∀W x y,Ad W (Bd cp b q st c::x::y::l)->aO aA 37 #[.pointer (some ⟨cp,0,none⟩),v] W λ e w'=>e=.returned (.int .i64 0)/\∃l2,Ad w' (x::y::l2)/\R l2): aO aA 200 #[.pointer (some ⟨hp,0,none⟩),.int .i64 now,v] w λ e w'=>e=.returned (.int .i64 0)/\∃ev' l2,Ad w' (.blk hp (Bn xv nm cp sh true (.slice none 0 0) cm tm mv ev') 69::.ownZ 52 28 ev' (ks++ [0]).length (Kg (ks++ [0]))::l2)/\R l2:=by
 have HA:=Ab (λ W h=>Ls cp b q st c (.blk hp (Bn xv nm cp sh up av cm tm mv ev) 69::.ownZ 52 28 ev ks.length (Kg ks)::l) W h);rw [hst] at HA;have HG:=Ab hgot;have HC:=Ab h;have HK:=Ab hk;clear h hgot hk hv;have c2:=(HC.o.zB hp).cell 2;simp only [Bn,aB,aC] at c2;go_enter Tryz.func200,Tryz.ntmps200;go_wp2_with fail;refine (HA.o _ (HC.o.zP [2])).mono ?_;rintro e w1 ⟨rfl,hc⟩;have HC:=Ab (hc.zP [1,1]);clear hc HA c2;have c2:=(HC.o.zB hp).cell 2;simp only [Bn,aB,aC] at c2;go_wp2_with fail;refine (HG.o _ _ _ (HC.o.zP [2])).mono ?_;rintro e w2 ⟨rfl,l2,hc,hr⟩;have HC:=Ab hc;have HR:=Ab hr;clear hc hr HG c2;go_upto_region 5 with fail;refine An ?_;(iterate 3 refine zV ?_);refine Af (λ K hK=>?_);refine zS1 (cs:=Bn xv nm cp sh up (.slice none 0 0) cm tm mv ev) HC.o ?_ (hf:=by simp [Bn]) (hc:=rfl);intro w3 HC;refine zqp hK ?_;clear hK K;refine wpList_nil ?_;go_upto_region 8 with fail;refine An ?_;(iterate 3 refine zV ?_);refine Af (λ K hK=>?_);refine zS1 (cs:=Bn xv nm cp sh true (.slice none 0 0) cm tm mv ev) HC.o ?_ (hf:=by simp [Bn]) (hc:=rfl);intro w4 HC;refine zqp hK ?_;clear hK K;refine wpList_nil ?_;have HH:=Ab (Ln hp xv (.slice none 0 0) mv ev nm cp sh cm tm true ks 0 l2 w4 HC.o HK.o);go_upto_region 9 with fail;refine An ?_;refine zV ?_;refine zV ?_ (v:=.agg (evC 0).toArray) (hr:=by have e:=Pk 0; go_simp; try rfl);refine Af (λ K hK=>?_);go_simp;refine HH.o.mono ?_;rintro e w5 ⟨rfl,ev',hc⟩;have HC:=Ab hc;clear hc HH;refine zqp hK ?_;clear hK K;refine wpList_nil ?_;go_wp2_with fail;go_ret;exact ⟨rfl,ev',l2,HC.o,HR.o⟩
theorem Ws (hp cp sh cm tm:Nat) (xv av mv ev:aM) (nm:ByteArray) (up:Bool) (now:Int) (ba:Option Addr) (bn bc:Nat) (l:List Res) (w:aN) (X:aM->Res) (Q1 Q:aN->Prop) (h:Ad w (.blk hp (Bn xv nm cp sh up av cm tm mv ev) 69::l)) (hread:aO aA 110 #[.slice ba bn bc] w λ e w'=>∃U x,e=.returned (.tuple #[.iface U x,.int .i64 0])/\Below w.heap.size w w'/\∃F,(X (.iface U x)).holds w' F/\∀b,F b->w.heap.size<=b) (hto:∀v W l',Ad W (X v::l')->aO aA 111 #[v] W λ e w'=>e=.returned (.string nm)/\Below W.heap.size W w') (htake:∀v W,Ad W (X v::.blk hp (Bn xv nm cp sh up av cm tm mv ev) 69::l)->aO aA 143 #[.pointer (some ⟨hp,0,none⟩),.int .i64 now,v] W λ e w'=>e=.returned (.int .i64 0)/\Q1 w') (hpump:∀W,Q1 W->aO aA 131 #[.pointer (some ⟨hp,0,none⟩)] W λ e w'=>e=.returned (.tuple #[])/\Q w'): aO aA 79 #[.pointer (some ⟨hp,0,none⟩),.int .i64 now,.slice ba bn bc] w λ e w'=>e=.returned (.int .i64 0)/\Q w':=by
 have HRD:=Ab hread;have HTO:=Ab hto;have HTK:=Ab htake;have HPU:=Ab hpump;have HC:=Ab h;clear h hread hto htake hpump;go_enter Tryz.func79,Tryz.ntmps79;go_wp2_with fail;refine HRD.o.mono ?_;rintro e w1 ⟨U,x,rfl,hb1,F,hx,hf⟩;have HC:=Ab (HC.o.new hb1 hx hf);clear hb1 hx hf HRD;go_upto_region 4 with fail;refine B5 [] (λ b W=>W.cell? ⟨hp,1,none⟩=some (.string nm)) (by kernel_rfl) ?_;have HC:=Ab HC.o.drew;refine zT 0 ?_;refine zT 2 ?_;refine zT 3 ?_;refine zT 4 ?_;refine zT 5 ?_;refine zJ 1 λ K hK=>?_
 go_simp;refine (HTO.o _ _ _ HC.o).mono ?_;rintro e w2 ⟨rfl,hb2⟩;have HC:=Ab (HC.o.step hb2);refine zq hK ?_;clear hK K hb2;refine zT 6 ?_ (v:=.bool false);refine zD ?_;go_wp2_with fail;refine (HTK.o _ _ HC.o).mono ?_;rintro e w3 ⟨rfl,hq⟩;have HQ:=Ab hq;clear hq;go_wp2_with fail;refine (HPU.o _ HQ.o).mono ?_;rintro e w4 ⟨rfl,hq⟩;go_wp2_with fail;go_ret;exact ⟨rfl,hq⟩
theorem Zw (hp:Nat) (now:Int) (s1 s2:ByteArray) (ya za:Option Addr) (yn yc zn zc:Nat) (w:aN) (Q:aN->Prop) (hans:aO aA 200 #[.pointer (some ⟨hp,0,none⟩),.int .i64 now,.iface 110 (.agg #[.string s1,.string s2,.slice ya yn yc,.slice za zn zc])] w λ e w'=>e=.returned (.int .i64 0)/\Q w'): aO aA 143 #[.pointer (some ⟨hp,0,none⟩),.int .i64 now,.iface 110 (.agg #[.string s1,.string s2,.slice ya yn yc,.slice za zn zc])] w λ e w'=>e=.returned (.int .i64 0)/\Q w':=by
 obtain ⟨z14,hta14⟩:∃z,∀W,(Instr.typeAssert (.iface 110 (.agg #[.string s1,.string s2,.slice ya yn yc,.slice za zn zc])) 20 124 true).run aA W=.ok (.tuple #[z,.bool false]) W:=⟨_,λ W=>A9 _ _ _ _ (by kernel_rfl) Ox (.inr ⟨_,_,rfl,by decide⟩) W⟩
 obtain ⟨z21,hta21⟩:∃z,∀W,(Instr.typeAssert (.iface 110 (.agg #[.string s1,.string s2,.slice ya yn yc,.slice za zn zc])) 20 205 true).run aA W=.ok (.tuple #[z,.bool false]) W:=⟨_,λ W=>A9 _ _ _ _ (by kernel_rfl) X7 (.inr ⟨_,_,rfl,by decide⟩) W⟩
 have hta:∀W,(Instr.typeAssert (.iface 110 (.agg #[.string s1,.string s2,.slice ya yn yc,.slice za zn zc])) 20 110 true).run aA W=.ok (.tuple #[.agg #[.string s1,.string s2,.slice ya yn yc,.slice za zn zc],.bool true]) W:=λ W=>Et _ _ _ (by kernel_rfl) W
 have HA:=Ab hans;clear hans;go_enter Tryz.func143,Tryz.ntmps143;go_wp2_with fail;refine HA.o.mono ?_;rintro e w1 ⟨rfl,hq⟩;go_wp2_with fail;go_ret;exact ⟨rfl,hq⟩
end Go.Proofs.YtcnfaghcjlhoiaaGreat
namespace Go.Proofs.YtcnfaghcjlhoiaaGreat
open Go.RowKit
theorem M1 (p:Nat) (D:List (Option CrD)) (now er:Int) (sv:ByteArray) (l:List Res) (w:aN) (h:Ad w (Aw p D::l)) (hf:Fv D) (hs:(Ja D sv=none/\er=9)\/∃d,Ja D sv=some d/\d.2.2.2.2.1<=now/\er=12): aO aA 39 #[.pointer (some ⟨p,0,none⟩),.int .i64 now,.string sv] w λ e w'=>e=.returned (.tuple #[.agg Fb.toArray,.int .i64 er])/\Ad w' (Aw p D::l):=by
 obtain ⟨F1,F2,h1,h2,h3⟩:=Ad.cons.1 h;obtain ⟨⟨L,rfl,hst⟩,hlt⟩:=h1;refine (Pm F1 p L now sv w hst λ c hc=>hf c.dat (List.mem_map.2 ⟨some c,hc,rfl⟩)).mono ?_;rintro e w' ⟨c',er2,rfl,⟨hk,hb,ho,_,hm⟩,hbl⟩;rw [<-Tb] at hs
 cases hq:Hp L sv with
 | none=>
  rw [hq] at hs hm;obtain ⟨rfl,rfl⟩:=hm;rcases hs with ⟨_,rfl⟩ | ⟨d,hd,_⟩
  . exact ⟨rfl,h.step hbl⟩
  . cases hd
 | some c=>
  rw [hq] at hs hm;rcases hs with ⟨hd,_⟩ | ⟨d,hd,hfin,rfl⟩
  . cases hd
  . simp only [Option.map_some,Option.some.injEq] at hd;have hfin:c.fin<=now:=by
     have:d.2.2.2.2.1=c.fin:=by rw [<-hd]; rfl
     omega
    simp only [] at hm;rw [if_pos hfin] at hm;obtain ⟨rfl,rfl⟩:=hm;exact ⟨rfl,h.step hbl⟩
def A8v:Aa:= [107,100,99]
def A2H (w:aN) (l:Aa) (e:Ending) (w':aN):Prop:=e=.returned (.string (tx l))/\Below w.heap.size w w'
theorem A5c (y1:Aa) (y2:Int) (y3:Int) (a4:Option Addr) (n4 c4:Nat) (w:aN):aO aA 111 #[.iface 104 (.agg #[.string (tx y1),.int .i64 y2,.int .i64 y3,.slice a4 n4 c4])] w (A2H w A8v):=by
 obtain ⟨z12,hta12⟩:∃z,∀W,(Instr.typeAssert (.iface 104 (.agg #[.string (tx y1),.int .i64 y2,.int .i64 y3,.slice a4 n4 c4])) 20 110 true).run aA W=.ok (.tuple #[z,.bool false]) W:=⟨_,λ W=>A9 _ _ _ _ (by kernel_rfl) Ms (.inr ⟨_,_,rfl,by decide⟩) W⟩
 obtain ⟨z13,hta13⟩:∃z,∀W,(Instr.typeAssert (.iface 104 (.agg #[.string (tx y1),.int .i64 y2,.int .i64 y3,.slice a4 n4 c4])) 20 121 true).run aA W=.ok (.tuple #[z,.bool false]) W:=⟨_,λ W=>A9 _ _ _ _ (by kernel_rfl) Mu (.inr ⟨_,_,rfl,by decide⟩) W⟩
 obtain ⟨z14,hta14⟩:∃z,∀W,(Instr.typeAssert (.iface 104 (.agg #[.string (tx y1),.int .i64 y2,.int .i64 y3,.slice a4 n4 c4])) 20 124 true).run aA W=.ok (.tuple #[z,.bool false]) W:=⟨_,λ W=>A9 _ _ _ _ (by kernel_rfl) Ox (.inr ⟨_,_,rfl,by decide⟩) W⟩
 obtain ⟨z15,hta15⟩:∃z,∀W,(Instr.typeAssert (.iface 104 (.agg #[.string (tx y1),.int .i64 y2,.int .i64 y3,.slice a4 n4 c4])) 20 278 true).run aA W=.ok (.tuple #[z,.bool false]) W:=⟨_,λ W=>A9 _ _ _ _ (by kernel_rfl) Rd (.inr ⟨_,_,rfl,by decide⟩) W⟩
 obtain ⟨z16,hta16⟩:∃z,∀W,(Instr.typeAssert (.iface 104 (.agg #[.string (tx y1),.int .i64 y2,.int .i64 y3,.slice a4 n4 c4])) 20 343 true).run aA W=.ok (.tuple #[z,.bool false]) W:=⟨_,λ W=>A9 _ _ _ _ (by kernel_rfl) Re (.inr ⟨_,_,rfl,by decide⟩) W⟩
 obtain ⟨z17,hta17⟩:∃z,∀W,(Instr.typeAssert (.iface 104 (.agg #[.string (tx y1),.int .i64 y2,.int .i64 y3,.slice a4 n4 c4])) 20 128 true).run aA W=.ok (.tuple #[z,.bool false]) W:=⟨_,λ W=>A9 _ _ _ _ (by kernel_rfl) X4 (.inr ⟨_,_,rfl,by decide⟩) W⟩
 obtain ⟨z18,hta18⟩:∃z,∀W,(Instr.typeAssert (.iface 104 (.agg #[.string (tx y1),.int .i64 y2,.int .i64 y3,.slice a4 n4 c4])) 20 138 true).run aA W=.ok (.tuple #[z,.bool false]) W:=⟨_,λ W=>A9 _ _ _ _ (by kernel_rfl) A3n (.inr ⟨_,_,rfl,by decide⟩) W⟩
 obtain ⟨z19,hta19⟩:∃z,∀W,(Instr.typeAssert (.iface 104 (.agg #[.string (tx y1),.int .i64 y2,.int .i64 y3,.slice a4 n4 c4])) 20 296 true).run aA W=.ok (.tuple #[z,.bool false]) W:=⟨_,λ W=>A9 _ _ _ _ (by kernel_rfl) A3o (.inr ⟨_,_,rfl,by decide⟩) W⟩
 obtain ⟨z20,hta20⟩:∃z,∀W,(Instr.typeAssert (.iface 104 (.agg #[.string (tx y1),.int .i64 y2,.int .i64 y3,.slice a4 n4 c4])) 20 323 true).run aA W=.ok (.tuple #[z,.bool false]) W:=⟨_,λ W=>A9 _ _ _ _ (by kernel_rfl) X6 (.inr ⟨_,_,rfl,by decide⟩) W⟩
 obtain ⟨z21,hta21⟩:∃z,∀W,(Instr.typeAssert (.iface 104 (.agg #[.string (tx y1),.int .i64 y2,.int .i64 y3,.slice a4 n4 c4])) 20 205 true).run aA W=.ok (.tuple #[z,.bool false]) W:=⟨_,λ W=>A9 _ _ _ _ (by kernel_rfl) X7 (.inr ⟨_,_,rfl,by decide⟩) W⟩
 obtain ⟨z22,hta22⟩:∃z,∀W,(Instr.typeAssert (.iface 104 (.agg #[.string (tx y1),.int .i64 y2,.int .i64 y3,.slice a4 n4 c4])) 20 209 true).run aA W=.ok (.tuple #[z,.bool false]) W:=⟨_,λ W=>A9 _ _ _ _ (by kernel_rfl) A3p (.inr ⟨_,_,rfl,by decide⟩) W⟩
 have hta:∀W,(Instr.typeAssert (.iface 104 (.agg #[.string (tx y1),.int .i64 y2,.int .i64 y3,.slice a4 n4 c4])) 20 104 true).run aA W=.ok (.tuple #[.agg #[.string (tx y1),.int .i64 y2,.int .i64 y3,.slice a4 n4 c4],.bool true]) W:=λ W=>Et _ _ _ (by kernel_rfl) W
 go_enter aK,aL;go_wp2_with fail;go_ret;exact ⟨rfl,Below.refl _ _⟩
theorem Sq (y1:Aa) (y2:Aa) (a2:Option Addr) (n2 c2:Nat) (a3:Option Addr) (n3 c3:Nat) (w:aN):aO aA 111 #[.iface 110 (.agg #[.string (tx y1),.string (tx y2),.slice a2 n2 c2,.slice a3 n3 c3])] w (A2H w y1):=by
 obtain ⟨z11,hta11⟩:∃z,∀W,(Instr.typeAssert (.iface 110 (.agg #[.string (tx y1),.string (tx y2),.slice a2 n2 c2,.slice a3 n3 c3])) 20 104 true).run aA W=.ok (.tuple #[z,.bool false]) W:=⟨_,λ W=>A9 _ _ _ _ (by kernel_rfl) Mr (.inr ⟨_,_,rfl,by decide⟩) W⟩
 obtain ⟨z13,hta13⟩:∃z,∀W,(Instr.typeAssert (.iface 110 (.agg #[.string (tx y1),.string (tx y2),.slice a2 n2 c2,.slice a3 n3 c3])) 20 121 true).run aA W=.ok (.tuple #[z,.bool false]) W:=⟨_,λ W=>A9 _ _ _ _ (by kernel_rfl) Mu (.inr ⟨_,_,rfl,by decide⟩) W⟩
 obtain ⟨z14,hta14⟩:∃z,∀W,(Instr.typeAssert (.iface 110 (.agg #[.string (tx y1),.string (tx y2),.slice a2 n2 c2,.slice a3 n3 c3])) 20 124 true).run aA W=.ok (.tuple #[z,.bool false]) W:=⟨_,λ W=>A9 _ _ _ _ (by kernel_rfl) Ox (.inr ⟨_,_,rfl,by decide⟩) W⟩
 obtain ⟨z15,hta15⟩:∃z,∀W,(Instr.typeAssert (.iface 110 (.agg #[.string (tx y1),.string (tx y2),.slice a2 n2 c2,.slice a3 n3 c3])) 20 278 true).run aA W=.ok (.tuple #[z,.bool false]) W:=⟨_,λ W=>A9 _ _ _ _ (by kernel_rfl) Rd (.inr ⟨_,_,rfl,by decide⟩) W⟩
 obtain ⟨z16,hta16⟩:∃z,∀W,(Instr.typeAssert (.iface 110 (.agg #[.string (tx y1),.string (tx y2),.slice a2 n2 c2,.slice a3 n3 c3])) 20 343 true).run aA W=.ok (.tuple #[z,.bool false]) W:=⟨_,λ W=>A9 _ _ _ _ (by kernel_rfl) Re (.inr ⟨_,_,rfl,by decide⟩) W⟩
 obtain ⟨z17,hta17⟩:∃z,∀W,(Instr.typeAssert (.iface 110 (.agg #[.string (tx y1),.string (tx y2),.slice a2 n2 c2,.slice a3 n3 c3])) 20 128 true).run aA W=.ok (.tuple #[z,.bool false]) W:=⟨_,λ W=>A9 _ _ _ _ (by kernel_rfl) X4 (.inr ⟨_,_,rfl,by decide⟩) W⟩
 obtain ⟨z18,hta18⟩:∃z,∀W,(Instr.typeAssert (.iface 110 (.agg #[.string (tx y1),.string (tx y2),.slice a2 n2 c2,.slice a3 n3 c3])) 20 138 true).run aA W=.ok (.tuple #[z,.bool false]) W:=⟨_,λ W=>A9 _ _ _ _ (by kernel_rfl) A3n (.inr ⟨_,_,rfl,by decide⟩) W⟩
 obtain ⟨z19,hta19⟩:∃z,∀W,(Instr.typeAssert (.iface 110 (.agg #[.string (tx y1),.string (tx y2),.slice a2 n2 c2,.slice a3 n3 c3])) 20 296 true).run aA W=.ok (.tuple #[z,.bool false]) W:=⟨_,λ W=>A9 _ _ _ _ (by kernel_rfl) A3o (.inr ⟨_,_,rfl,by decide⟩) W⟩
 obtain ⟨z20,hta20⟩:∃z,∀W,(Instr.typeAssert (.iface 110 (.agg #[.string (tx y1),.string (tx y2),.slice a2 n2 c2,.slice a3 n3 c3])) 20 323 true).run aA W=.ok (.tuple #[z,.bool false]) W:=⟨_,λ W=>A9 _ _ _ _ (by kernel_rfl) X6 (.inr ⟨_,_,rfl,by decide⟩) W⟩
 obtain ⟨z21,hta21⟩:∃z,∀W,(Instr.typeAssert (.iface 110 (.agg #[.string (tx y1),.string (tx y2),.slice a2 n2 c2,.slice a3 n3 c3])) 20 205 true).run aA W=.ok (.tuple #[z,.bool false]) W:=⟨_,λ W=>A9 _ _ _ _ (by kernel_rfl) X7 (.inr ⟨_,_,rfl,by decide⟩) W⟩
 obtain ⟨z22,hta22⟩:∃z,∀W,(Instr.typeAssert (.iface 110 (.agg #[.string (tx y1),.string (tx y2),.slice a2 n2 c2,.slice a3 n3 c3])) 20 209 true).run aA W=.ok (.tuple #[z,.bool false]) W:=⟨_,λ W=>A9 _ _ _ _ (by kernel_rfl) A3p (.inr ⟨_,_,rfl,by decide⟩) W⟩
 have hta:∀W,(Instr.typeAssert (.iface 110 (.agg #[.string (tx y1),.string (tx y2),.slice a2 n2 c2,.slice a3 n3 c3])) 20 110 true).run aA W=.ok (.tuple #[.agg #[.string (tx y1),.string (tx y2),.slice a2 n2 c2,.slice a3 n3 c3],.bool true]) W:=λ W=>Et _ _ _ (by kernel_rfl) W
 go_enter aK,aL;go_wp2_with fail;go_ret;exact ⟨rfl,(Below.refl _ _).alloc (Nat.le_refl _) _⟩
def Mw (w:aN) (F:Nat->Prop) (x:Tv) (o:aM) (rem:List Tv) (bad bad2:Bool):Prop:=
 if (Dz x.tag).isEmpty=true then o=.nilIface else ∃pts,E9 (Dz x.tag) (x.l,false,false)=(pts,rem,bad,bad2)/\T4 w F x.tag pts o
def OfM (w:aN) (F:Nat->Prop) (x:Tv) (e:Ending) (w':aN):Prop:=
 ∃r,e=.returned (.tuple #[r,.bool (ofS x).isSome])/\Below w.heap.size w w'/\(match ofS x with | some l=>T4 w' F x.tag l r | none=>r=.nilIface)
theorem Mw.ofS {w:aN} {F:Nat->Prop} {x:Tv} {o:aM} {rem:List Tv} {bad bad2:Bool} (h:Mw w F x o rem bad bad2): (∃pts,Go.Proofs.YtcnfaghcjlhoiaaGreat.ofS x=some pts/\T4 w F x.tag pts o)\/(¬(x.kind=2/\o≠ .nilIface/\bad2=false/\(!bad&&rem.isEmpty)=true)/\Go.Proofs.YtcnfaghcjlhoiaaGreat.ofS x=none):=by
 unfold Mw at h;split at h
 . rename_i he;refine .inr ⟨λ hc=>hc.2.1 h,?_⟩;unfold Go.Proofs.YtcnfaghcjlhoiaaGreat.ofS;rw [if_neg (λ hc=>by rw [he] at hc; simp at hc)]
 . rename_i he;obtain ⟨pts,hr,hm⟩:=h;by_cases hc:x.kind=2/\bad2=false/\bad=false/\rem.isEmpty=true
   . refine .inl ⟨pts,?_,hm⟩;unfold Go.Proofs.YtcnfaghcjlhoiaaGreat.ofS;rw [if_pos ⟨hc.1,by simpa using he,by rw [hr]; exact hc.2.1,by rw [hr]; exact hc.2.2.1,by rw [hr]; exact hc.2.2.2⟩,hr]
   . refine .inr ⟨λ h2=>hc ⟨h2.1,h2.2.2.1,by have:=h2.2.2.2; simp only [Bool.and_eq_true,Bool.not_eq_true'] at this; exact this⟩,?_⟩;unfold Go.Proofs.YtcnfaghcjlhoiaaGreat.ofS;rw [if_neg (λ h2=>hc ⟨h2.1,by have:=h2.2.2.1; rw [hr] at this; exact this,by have:=h2.2.2.2.1; rw [hr] at this; exact this,by have:=h2.2.2.2.2; rw [hr] at this; exact this⟩)]
theorem Mw.no {w wx:aN} {F:Nat->Prop} {x:Tv} {o:aM} {rem:List Tv} {bad bad2:Bool} (ho:Mw wx F x o rem bad bad2) (hb:Rg w wx) (hn:¬(x.kind=2/\o≠ .nilIface/\bad2=false/\(!bad&&rem.isEmpty)=true)): OfM w F x (.returned (.tuple #[.nilIface,.bool false])) wx:=by
 rcases ho.ofS with ⟨pts,e,hm⟩ | ⟨_,e⟩
 . exfalso;refine hn ?_;unfold Go.Proofs.YtcnfaghcjlhoiaaGreat.ofS at e;split at e
   . rename_i hc;have ho':=ho;unfold Mw at ho';rw [if_neg (by rw [hc.2.1]; decide)] at ho';obtain ⟨pts',hr,cs',e',_⟩:=ho';rw [hr] at hc;exact ⟨hc.1,by rw [e']; simp,hc.2.2.1,by have h1:bad=false:=hc.2.2.2.1; have h2:rem.isEmpty=true:=hc.2.2.2.2; rw [h1,h2]; rfl⟩
   . cases e
 . exact ⟨_,by rw [e]; rfl,hb,by rw [e]⟩
theorem Mw.yes {w wx:aN} {F:Nat->Prop} {x:Tv} {o:aM} {rem:List Tv} {bad bad2:Bool} (ho:Mw wx F x o rem bad bad2) (hb:Rg w wx) (h1:x.kind=2) (h2:o≠ .nilIface) (h3:bad2=false) (h4:(!bad&&rem.isEmpty)=true): OfM w F x (.returned (.tuple #[o,.bool true])) wx:=by
 rcases ho.ofS with ⟨pts,e,hm⟩ | ⟨hn,e⟩
 . exact ⟨o,by rw [e]; rfl,hb,by rw [e]; exact hm⟩
 . exact absurd ⟨h1,h2,h3,h4⟩ hn
end Go.Proofs.YtcnfaghcjlhoiaaGreat
