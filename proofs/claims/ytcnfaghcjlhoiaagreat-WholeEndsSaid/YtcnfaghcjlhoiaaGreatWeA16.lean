/- Texts of this proof, one behind the other: We6, We7, We8, Wg2, Wg5, Wg9, Wg3, Wg6, Wg7, Wg4, BuildN. -/
import Derived.Test.YtcnfaghcjlhoiaaGreatWeA1
import Derived.Test.YtcnfaghcjlhoiaaGreatWeA5
import Derived.Test.YtcnfaghcjlhoiaaGreatWeA12
import Derived.Test.YtcnfaghcjlhoiaaGreatWeA13
import Derived.Test.YtcnfaghcjlhoiaaGreatWeA14
import Derived.Test.YtcnfaghcjlhoiaaGreatWeA15
import Derived.LoopN
import Derived.Great.FillDense
set_option linter.unusedSimpArgs false
set_option linter.unusedVariables false
set_option maxRecDepth 100000
set_option maxHeartbeats 16000000
open Go.Proofs.Tryz renaming prog -> aA, func30 -> aJ, ntmps30 -> aK
open And renaming intro -> aB
open List renaming mem_cons_self -> aC, length_append -> aE, getElem?_cons_zero -> aF, getElem?_cons_succ -> aG, getElem?_eq_getElem -> aH, Pairwise -> aL, mem_cons -> aM, not_mem_nil -> aN, map_nil -> aO, length_take -> aP, mem_cons_of_mem -> aR, length_cons -> aS, take_succ_eq_append_getElem -> aT, length_map -> aU, map_toArray -> aV, map_cons -> aW, replicate -> aX, take_append_drop -> aY, take_zero -> aZ, append_nil -> bA, mem_of_mem_take -> bB, append_assoc -> bC, take_length -> bD
open Nat renaming zero_le -> aD, le_refl -> aI, le_trans -> aQ
open Go renaming Value -> bE, World -> bF, Calls -> bG
namespace Go.Proofs.YtcnfaghcjlhoiaaGreat
open Go.RowKit Go.Maps
section
section
variable (wp tb mp sp rl:Nat) (hv lv uv sv pv:bE) (clk stp:Int)
theorem Y2 (kp cp ob:Nat) (no un:Int) (nm n1 n2 pf B2:Aa) (bv:bE) (m:Aa) (l:List Res) (w:bF) (R:bE->bE->List Res->Prop) (Q:bF->Prop) (h:Ad w (.blk wp (Co tb mp sp rl hv lv uv sv clk stp pv) 43::D0 sp kp cp ob::l)) (hb:Bs w bv m) (hkd:((tx n1).toList== [107,100,99])=false) (hread:∀W,Bs W bv m->bG aA 110 #[bv] W λ e w'=>∃pa pn pc,e=.returned (.tuple #[.iface 104 (.agg #[.string (tx nm),.int .i64 no,.int .i64 un,.slice pa pn pc]),.int .i64 0])/\Below W.heap.size W w'/\Bs w' (.slice pa pn pc) pf/\∀k,0<pf.length->(bE.slice pa pn pc).ownBlock=some k->W.heap.size<=k) (hAS:∀pa pn pc W x,Ad W (.blk wp (Co tb mp sp rl hv lv uv sv clk stp pv) 43::D0 sp kp cp ob::x::.row (.slice pa pn pc) pf::l)->bG aA 36 #[.pointer (some ⟨kp,0,none⟩),.int .i64 clk,.agg #[.string (tx nm),.int .i64 no,.int .i64 un,.slice pa pn pc]] W λ e w'=>∃ya yn yc za zn zc l2,e=.returned (.tuple #[.agg #[.string (tx n1),.string (tx n2),.slice ya yn yc,.slice za zn zc],.int .i64 0])/\Ad w' (.blk wp (Co tb mp sp rl hv lv uv sv clk stp pv) 43::D0 sp kp cp ob::x::l2)/\R (.slice ya yn yc) (.slice za zn zc) l2) (hwrite:∀y z l2 W,R y z l2->Ad W l2->bG aA 92 #[.iface 110 (.agg #[.string (tx n1),.string (tx n2),y,z])] W (Cx W (B2,0))) (hput:∀x y z l2 W,R y z l2->Ad W (.row x B2::.blk wp (Co tb mp sp rl hv lv uv sv clk stp pv) 43::D0 sp kp cp ob::l2)->bG aA 27 #[.pointer (some ⟨wp,0,none⟩),x] W λ e w'=>e=.returned (.int .i64 0)/\Q w'): bG aA 53 #[.pointer (some ⟨wp,0,none⟩),bv] w λ e w'=>e=.returned (.int .i64 0)/\Q w':=by
 have HRD:=Ab (hread w hb);have HSV:=Ab (λ pa pn pc (W:bF) h=>A5x wp tb mp sp rl hv lv uv sv pv clk stp kp cp ob no un (tx nm) (tx n1) (tx n2) pa pn pc (.row (.slice pa pn pc) pf::l) W R h (hAS pa pn pc));have HW:=Ab hwrite;unfold Cx at HW;have HP:=Ab hput;have HC:=Ab h;obtain ⟨ba,bc,rfl,_,_⟩:=hb.form;clear h hb hread hAS hwrite hput;go_enter Tryz.func53,Tryz.ntmps53;go_wp2_with fail;refine HRD.o.mono ?_;rintro e w1 ⟨pa,pn,pc,rfl,hb1,hbs,hk⟩;have HC:=Ab (HC.o.addRow hb1 hbs hk);have HTO:=Ab (A5c nm no un pa pn pc w1);unfold A2H at HTO;clear hb1 hbs hk HRD;go_wp2_with fail;refine HTO.o.mono ?_;rintro e w2 ⟨rfl,hb2⟩;have HC:=Ab (HC.o.step hb2);clear hb2 HTO;have hk0:((tx A8v).toList== [107,100,99])=true:=by kernel_rfl
 go_wp2_with fail;refine (HSV.o pa pn pc _ (HC.o.zP [1,1])).mono ?_;rintro e w3 ⟨ya,yn,yc,za,zn,zc,l2,rfl,hc,hr⟩;have HC:=Ab hc;have HR:=Ab hr;clear hc hr HSV hk0;go_wp2_with fail;refine (HW.o _ _ _ _ HR.o HC.o.tail.tail).mono ?_;rintro e w4 ⟨x,rfl,ho,hb4⟩;obtain ⟨xa,xc,rfl,_,_⟩:=ho.sl.form;have HC:=Ab (HC.o.freshRow hb4 ho);have HTO:=Ab (Sq n1 n2 ya yn yc za zn zc w4);unfold A2H at HTO;clear ho hb4 HW;go_wp2_with fail;refine HTO.o.mono ?_;rintro e w5 ⟨rfl,hb5⟩;have HC:=Ab (HC.o.step hb5);clear hb5 HTO;go_wp2_with fail;refine (HP.o _ _ _ _ _ HR.o HC.o).mono ?_;rintro e w6 ⟨rfl,hq⟩;go_wp2_with fail;go_ret;exact ⟨rfl,hq⟩
end
end
theorem Qt (wp hp:Nat) (ho n now:Int) (pe tx:ByteArray) (l:List Res) (w:bF) (Q:bF->Prop) (h:Ad w l) (hl:∀W,Ad W l->bG aA 64 #[.pointer (some ⟨hp,0,none⟩),.int .i64 now,.string tx] W λ e w'=>e=.returned (.int .i64 0)/\Q w'): bG aA 30 #[.pointer (some ⟨wp,0,none⟩),.agg (Cq 2 ho n pe tx (.slice none 0 0)).toArray,.pointer (some ⟨hp,0,none⟩),.int .i64 now] w λ e w'=>e=.returned (.int .i64 0)/\Q w':=by
 have HC:=Ab (h.addBlkAt (Cq 2 ho n pe tx (.slice none 0 0)) 29 (b:=w.heap.size) rfl);have HL:=Ab hl;have c0:=(HC.o.zB w.heap.size).cell 0;have c4:=(HC.o.zB w.heap.size).cell 4;simp only [Cq,aG,aF] at c0 c4;clear h hl;unfold Cq at HC ⊢;obtain ⟨sb,hsb⟩:∃sb,sb=w.heap.size:=⟨_,rfl⟩
 rw [<-hsb] at HC c0 c4;go_enter aJ,aK;go_upto_region 9 with fail;rw [<-hsb];go_wp2_with fail;refine (HL.o _ HC.o.tail).mono ?_;rintro e w1 ⟨rfl,hq⟩;go_wp2_with fail;go_ret;exact ⟨rfl,hq⟩
theorem Tu (wp hp:Nat) (ho n now:Int) (pe tx:ByteArray) (l:List Res) (w:bF) (Q:bF->Prop) (h:Ad w l) (hl:∀W,Ad W l->bG aA 77 #[.pointer (some ⟨hp,0,none⟩),.int .i64 now] W λ e w'=>e=.returned (.tuple #[])/\Q w'): bG aA 30 #[.pointer (some ⟨wp,0,none⟩),.agg (Cq 14 ho n pe tx (.slice none 0 0)).toArray,.pointer (some ⟨hp,0,none⟩),.int .i64 now] w λ e w'=>e=.returned (.int .i64 0)/\Q w':=by
 have HC:=Ab (h.addBlkAt (Cq 14 ho n pe tx (.slice none 0 0)) 29 (b:=w.heap.size) rfl);have HL:=Ab hl;have c0:=(HC.o.zB w.heap.size).cell 0;simp only [Cq,aG,aF] at c0;clear h hl;unfold Cq at HC ⊢;obtain ⟨sb,hsb⟩:∃sb,sb=w.heap.size:=⟨_,rfl⟩
 rw [<-hsb] at HC c0;go_enter aJ,aK;go_upto_region 35 with fail;rw [<-hsb];go_wp2_with fail;refine (HL.o _ HC.o.tail).mono ?_;rintro e w1 ⟨rfl,hq⟩;go_wp2_with fail;go_ret;exact ⟨rfl,hq⟩
theorem Qs (wp tb mp sp rl:Nat) (hv lv uv sv pv:bE) (clk stp:Int) (hp:Nat) (ho n now:Int) (pe tx:ByteArray) (T:Jn) (m:Aa) (rest:List Aa) (xv av mv ev:bE) (nm:ByteArray) (cp sh cm tm:Nat) (up:Bool) (l:List Res) (w:bF) (r:Int) (Q:bF->Prop) (h:Ad w (.blk wp (Co tb mp sp rl hv lv uv sv clk stp pv) 43::Ip rl T::.blk hp (Bn xv nm cp sh up av cm tm mv ev) 69::l)) (hnm:nm.size<=maxLen) (hT:Ih T) (hg:C4 T nm []=m::rest) (ht:∀W va vc,Ad W (.blk wp (Co tb mp sp rl hv lv uv sv clk stp pv) 43::Ip rl (Dh T nm rest)::.blk hp (Bn xv nm cp sh up av cm tm mv ev) 69::l)->Bs W (.slice va m.length vc) m->bG aA 79 #[.pointer (some ⟨hp,0,none⟩),.int .i64 now,.slice va m.length vc] W λ e w'=>e=.returned (.int .i64 r)/\Q w'): bG aA 30 #[.pointer (some ⟨wp,0,none⟩),.agg (Cq 15 ho n pe tx (.slice none 0 0)).toArray,.pointer (some ⟨hp,0,none⟩),.int .i64 now] w λ e w'=>e=.returned (.int .i64 r)/\Q w':=by
 have HC:=Ab (h.addBlkAt (Cq 15 ho n pe tx (.slice none 0 0)) 29 (b:=w.heap.size) rfl);have HL:=Ab ht;have HGT:=Ab (λ (l:List Res) (w:bF) (h:Ad w (Ip rl T::l))=>A2b rl T nm l w h hnm hT);have hgs:A1H T nm=(m,Dh T nm rest,0):=by unfold A1H; rw [hg]
 unfold A8e at HGT;rw [hgs] at HGT;have c0:=(HC.o.zB w.heap.size).cell 0;simp only [Cq,aG,aF] at c0;clear h ht hgs hg hT hnm;unfold Cq at HC ⊢;obtain ⟨sb,hsb⟩:∃sb,sb=w.heap.size:=⟨_,rfl⟩
 rw [<-hsb] at HC c0;go_enter aJ,aK;go_upto_region 37 with fail;rw [<-hsb];refine B5 [6] (λ b W=>b= [false]->W.cell? ⟨wp,3,none⟩=some (.pointer (some ⟨rl,0,none⟩))) (by kernel_rfl) ?_;generalize hG:bF.drew _=W;have HC:=Ab (HC.o.drew.cast hG);clear hG hsb c0;refine zT 0 ?_;refine zT 1 ?_;refine zT 2 ?_;refine zTk 3 [6] ?_ (hr:=λ _ _ hk hW=>by have c:=hW (Iy hk); go_simp; try rfl);refine zT 4 ?_;refine zJ 5 λ K hK=>?_
 go_simp;refine (Kk (HC.o.zB hp)).mono ?_;rintro e w1 ⟨rfl,rfl⟩;refine zq hK ?_;clear hK K;refine zJ 6 λ K hK=>?_
 go_simp;refine (HGT.o _ _ (HC.o.zP [2])).mono ?_;rintro e w2 ⟨v,rfl,hbs,hc,_⟩;obtain ⟨va,vc,rfl,_,_⟩:=hbs.form;have HC:=Ab hc;have HB:=Ab hbs;clear hc hbs HGT;refine zq hK ?_;clear hK K;refine zT 7 ?_ (hS:=λ h=>absurd h (by decide));refine zT 8 ?_ (hS:=λ h=>absurd h (by decide));refine zT 9 ?_ (hS:=λ h=>absurd h (by decide));refine zT 10 ?_ (hS:=λ h=>absurd h (by decide));refine zT 11 ?_ (hS:=λ h=>absurd h (by decide));refine zD ?_;go_wp2_with fail;refine (HL.o _ _ _ ((HC.o.zP [1]).tail).swap HB.o).mono ?_;rintro e w3 ⟨rfl,hq⟩;go_wp2_with fail;go_ret;exact ⟨rfl,hq⟩
structure WA where
 wp:Nat
 q:Nat
 mp:Nat
 kb:Nat
 bb:Nat
 ob:Nat
 sp:Nat
 kp:Nat
 cp:Nat
 bk:Nat
 bp:Nat
 rl:Nat
 zb:Nat
 zc:Nat
 hb:Nat
 hc:Nat
 zs:List bE
 hz:List bE
 uv:bE
 p:Nat->Nat
def Vd (x:Aa×Int×Int):List bE:=.string (tx x.1)::.int .i64 x.2.1::evC x.2.2
def Kp (L:List (Aa×Int×Int)):List bE:=(L.map Vd).flatten
def kdN:Bool:=sN.knd
def Cy (A:WA) (j:Nat) (x:HS):Res:=K7 (A.p j) A.q kdN (tx x.nm) x.c x.D x.up x.M x.E
def Zx (A:WA):List bE:=.pointer (some ⟨A.p 0,0,none⟩)::.pointer (some ⟨A.p 1,0,none⟩)::.pointer (some ⟨A.p 2,0,none⟩)::A.hz
def wlL (A:WA) (S:WS) (pv lv:bE) (vs:List bE):List Res:=
 [.blk A.wp (Co A.q A.mp A.sp A.rl (.slice (some ⟨A.hb,0,none⟩) 3 A.hc) lv A.uv (.slice (some ⟨A.zb,0,none⟩) 3 A.zc) (S.clk:Int) (S.stp:Int) pv) 43,
  .own 27 1 pv S.P.length vs,Bw vs S.P,Gb A.mp A.q A.kb A.bb A.ob S.M,pvR A.q S.s,
  D0 A.sp A.kp A.cp A.bk,Bk A.cp [] 64,Ck A.kp kdN A.q A.bp S.K,Bg A.bp S.L,Ip A.rl S.box,
  .blk A.zb (.int .i64 0::.int .i64 0::.int .i64 0::A.zs) 2,.blk A.hb (Zx A) 32,
  .ownZ 54 30 lv S.log.length (Kp S.log)]
def A7P (A:WA) (f:Nat->HS) (j:Nat):Res:=
 if j=0 then .all [Cy A 1 (f 1),Cy A 2 (f 2)] else if j=1 then .all [Cy A 0 (f 0),Cy A 2 (f 2)] else .all [Cy A 0 (f 0),Cy A 1 (f 1)]
def U6 (A:WA) (f:Nat->HS):Res:=.all [Cy A 0 (f 0),Cy A 1 (f 1),Cy A 2 (f 2)]
def Ce (A:WA) (S:WS):Res:=.ex λ z:bE×bE×List bE=>.all (U6 A S.h::wlL A S z.1 z.2.1 z.2.2)
theorem Cf {W:bF} {A:WA} {S:WS} {l:List Res} (h:Ad W (Ce A S::l)): ∃(pa:Option Addr) (pc:Nat) (la:Option Addr) (lc:Nat) (vs:List bE),Ad W (U6 A S.h::.blk A.wp (Co A.q A.mp A.sp A.rl (.slice (some ⟨A.hb,0,none⟩) 3 A.hc) (.slice la S.log.length lc) A.uv (.slice (some ⟨A.zb,0,none⟩) 3 A.zc) (S.clk:Int) (S.stp:Int) (.slice pa S.P.length pc)) 43:: .own 27 1 (.slice pa S.P.length pc) S.P.length vs::Bw vs S.P::Gb A.mp A.q A.kb A.bb A.ob S.M::pvR A.q S.s:: D0 A.sp A.kp A.cp A.bk::Bk A.cp [] 64::Ck A.kp kdN A.q A.bp S.K::Bg A.bp S.L::Ip A.rl S.box:: .blk A.zb (.int .i64 0::.int .i64 0::.int .i64 0::A.zs) 2::.blk A.hb (Zx A) 32:: .ownZ 54 30 (.slice la S.log.length lc) S.log.length (Kp S.log)::l):=by
 obtain ⟨⟨pv,lv,vs⟩,h⟩:=Ad.ex.1 h;have h:=Ad.app.1 h;obtain ⟨pa,pc,rfl,_,_⟩:=h.tail.tail.slf;obtain ⟨la,lc,rfl,_⟩:=(h.tail.tail.tail.tail.tail.tail.tail.tail.tail.tail.tail.tail.tail.ownZOf aC).sl.form;exact ⟨pa,pc,la,lc,vs,h⟩
theorem El {W:bF} {A:WA} (S:WS) {pv lv:bE} {vs:List bE} {l:List Res} (h:Ad W (U6 A S.h::.blk A.wp (Co A.q A.mp A.sp A.rl (.slice (some ⟨A.hb,0,none⟩) 3 A.hc) lv A.uv (.slice (some ⟨A.zb,0,none⟩) 3 A.zc) (S.clk:Int) (S.stp:Int) pv) 43:: .own 27 1 pv S.P.length vs::Bw vs S.P::Gb A.mp A.q A.kb A.bb A.ob S.M::pvR A.q S.s:: D0 A.sp A.kp A.cp A.bk::Bk A.cp [] 64::Ck A.kp kdN A.q A.bp S.K::Bg A.bp S.L::Ip A.rl S.box:: .blk A.zb (.int .i64 0::.int .i64 0::.int .i64 0::A.zs) 2::.blk A.hb (Zx A) 32:: .ownZ 54 30 lv S.log.length (Kp S.log)::l)):Ad W (Ce A S::l):=Ad.ex.2 ⟨(pv,lv,vs),Ad.app.2 h⟩
theorem J0 {W:bF} {A:WA} {f:Nat->HS} {j:Nat} (hj:j<3) {l:List Res} (h:Ad W (U6 A f::l)):Ad W (Cy A j (f j)::A7P A f j::l):=by
 have h:Ad W (Cy A 0 (f 0)::Cy A 1 (f 1)::Cy A 2 (f 2)::l):=Ad.app.1 h
 have:j=0\/j=1\/j=2:=by omega
 rcases this with rfl | rfl | rfl
 . have h2:Ad W (Cy A 1 (f 1)::Cy A 2 (f 2)::Cy A 0 (f 0)::l):=h.zP [1,1,0];exact Ad.swap ((Ad.app (m:= [Cy A 1 (f 1),Cy A 2 (f 2)])).2 h2)
 . have h2:Ad W (Cy A 0 (f 0)::Cy A 2 (f 2)::Cy A 1 (f 1)::l):=h.zP [0,1,0];exact Ad.swap ((Ad.app (m:= [Cy A 0 (f 0),Cy A 2 (f 2)])).2 h2)
 . exact Ad.swap ((Ad.app (m:= [Cy A 0 (f 0),Cy A 1 (f 1)])).2 h)
theorem Q3 {W:bF} {A:WA} {f g:Nat->HS} {j:Nat} (hj:j<3) {x:HS} (hg:upd f j x=g) {l:List Res} (h:Ad W (Cy A j x::A7P A f j::l)):Ad W (U6 A g::l):=by
 subst hg;refine Ad.app.2 ?_
 have:j=0\/j=1\/j=2:=by omega
 rcases this with rfl | rfl | rfl
 . have h2:Ad W (Cy A 1 (f 1)::Cy A 2 (f 2)::Cy A 0 x::l):=(Ad.app (m:= [Cy A 1 (f 1),Cy A 2 (f 2)])).1 h.swap;have h3:Ad W (Cy A 0 x::Cy A 1 (f 1)::Cy A 2 (f 2)::l):=h2.zP [2,0,0];exact h3
 . have h2:Ad W (Cy A 0 (f 0)::Cy A 2 (f 2)::Cy A 1 x::l):=(Ad.app (m:= [Cy A 0 (f 0),Cy A 2 (f 2)])).1 h.swap;have h3:Ad W (Cy A 0 (f 0)::Cy A 1 x::Cy A 2 (f 2)::l):=h2.zP [0,1,0];exact h3
 . have h2:Ad W (Cy A 0 (f 0)::Cy A 1 (f 1)::Cy A 2 x::l):=(Ad.app (m:= [Cy A 0 (f 0),Cy A 1 (f 1)])).1 h.swap;exact h2
theorem Zy (A:WA) {j:Nat} (hj:j<3):(Zx A)[j]?=some (.pointer (some ⟨A.p j,0,none⟩)):=by
 have:j=0\/j=1\/j=2:=by omega
 rcases this with rfl | rfl | rfl <;> rfl
structure WS.Calm (S:WS) (n:Nat):Prop where
 msg:∀j,∀b∈(S.h j).M,b.length<=3000/\G8 b= []/\∀k∈Ij b,InT S.s.tab k
 one:∀j,(S.h j).M.length<=1/\(S.h j).E.length<=1
 few:S.P.length<=n
 all:S.M.all.length<=n
 log:S.log.length<=n
 tab:M0 S.s.tab
 ok:S.M.Ok
 keys:S.M.keys= []
 ops:S.M.opens= []
 bxs:∀k∈S.M.boxes,InT S.s.tab k
 stp:S.stp<=1000
theorem Jw:∀(L:List Aa) (M:Mi),M.Ok->(∀b∈L,G8 b= [])->M.keys= []->(L.foldl Mi.take M).Ok/\(L.foldl Mi.take M).keys= []/\(L.foldl Mi.take M).all.length=M.all.length+L.length
 | [],M,h,_,hk=>⟨h,hk,rfl⟩
 | x::L,M,h,hb,hk=>by
  obtain ⟨h1,h2,h3⟩:=Jw L (M.take x) (h.take x) (λ b hm=>hb b (aR _ hm)) (by show G8 x++M.keys= []; rw [hb x aC,hk]; rfl);refine ⟨h1,h2,h3.trans ?_⟩;show (M.all++ [x]).length+L.length=_
  simp only [aE,aS,List.length_nil];omega
theorem Ki (T:Sy):∀(L:List Aa) (M:Mi),(∀b∈L,∀k∈Ij b,InT T k)->(∀k∈M.boxes,InT T k)->(∀k∈(L.foldl Mi.take M).boxes,InT T k)/\(L.foldl Mi.take M).opens=M.opens
 | [],M,_,h=>⟨h,rfl⟩
 | x::L,M,hb,h=>Ki T L (M.take x) (λ b hm=>hb b (aR _ hm)) λ k hk=>(List.mem_append.1 hk).elim (hb x aC k) (h k)
theorem A3z (L:List Aa) {k:Nat} (hk:k<L.length) (M:Mi):(L.take (k+1)).foldl Mi.take M=((L.take k).foldl Mi.take M).take L[k]:=by
 rw [aT hk,List.foldl_append];rfl
theorem WS.Calm.aft1 {S:WS} {n:Nat} (h:S.Calm n) (j:Nat):(S.aft1 j).Calm (n+1) where
 msg:=by
  intro k b hb;by_cases e:k=j
  . subst e;simp only [WS.aft1,Eo] at hb
    cases hb
  . simp only [WS.aft1,Ec _ _ e] at hb;exact h.msg k b hb
 one:=by
  intro k;by_cases e:k=j
  . subst e;simp only [WS.aft1,Eo];decide
  . simp only [WS.aft1,Ec _ _ e];exact h.one k
 few:=by
  have h1:=h.few;have h2:=(h.one j).1;simp only [WS.aft1,aE];omega
 all:=by
  have h1:=h.all;have h2:=(h.one j).1;have h3:=(Jw (S.h j).M S.M h.ok (λ b hb=>(h.msg j b hb).2.1) h.keys).2.2;simp only [WS.aft1];omega
 log:=by
  have h1:=h.log;have h2:=(h.one j).2;simp only [WS.aft1,aE,aU];omega
 tab:=h.tab
 ok:=(Jw (S.h j).M S.M h.ok (λ b hb=>(h.msg j b hb).2.1) h.keys).1
 keys:=(Jw (S.h j).M S.M h.ok (λ b hb=>(h.msg j b hb).2.1) h.keys).2.1
 ops:=(Ki S.s.tab (S.h j).M S.M (λ b hb=>(h.msg j b hb).2.2) h.bxs).2.trans h.ops
 bxs:=(Ki S.s.tab (S.h j).M S.M (λ b hb=>(h.msg j b hb).2.2) h.bxs).1
 stp:=h.stp
theorem WS.Calm.aftN {S:WS} {n:Nat} (h:S.Calm n):∀j,(S.aftN j).Calm (n+j)
 | 0=>h
 | j+1=>(h.aftN j).aft1 j
theorem Vx {W:bF} {A:WA} {S:WS} {l:List Res} (h:Ad W (Ce A S::l)) (k:Nat):W.cell? ⟨A.wp,k,none⟩=(Co A.q A.mp A.sp A.rl (.slice (some ⟨A.hb,0,none⟩) 3 A.hc) (.slice none 0 0) A.uv (.slice (some ⟨A.zb,0,none⟩) 3 A.zc) (S.clk:Int) (S.stp:Int) (.slice none 0 0))[k]?\/k=5\/k=10:=by
 obtain ⟨pa,pc,la,lc,vs,h⟩:=Cf h;have c:=(h.zB A.wp).cell k;by_cases h5:k=5
 . exact .inr (.inl h5)
 by_cases h10:k=10
 . exact .inr (.inr h10)
 refine .inl (c.trans ?_);unfold Co
 match k,h5,h10 with
 | 0,_,_ | 1,_,_ | 2,_,_ | 3,_,_ | 4,_,_ | 6,_,_ | 7,_,_ | 8,_,_ | 9,_,_=>rfl
 | 5,h,_=>exact absurd rfl h
 | 10,_,h=>exact absurd rfl h
 | n+11,_,_=>rfl
theorem E6 {W:bF} {A:WA} {S:WS} {l:List Res} (h:Ad W (Ce A S::l)):W.cell? ⟨A.wp,4,none⟩=some (.slice (some ⟨A.hb,0,none⟩) 3 A.hc):=(Vx h 4).elim id (λ h=>by omega)
theorem A2z {W:bF} {A:WA} {S:WS} {l:List Res} (h:Ad W (Ce A S::l)):W.cell? ⟨A.wp,3,none⟩=some (.pointer (some ⟨A.rl,0,none⟩)):=(Vx h 3).elim id (λ h=>by omega)
theorem Ig {W:bF} {A:WA} {S:WS} {l:List Res} (h:Ad W (Ce A S::l)) {j:Nat} (hj:j<3):W.cell? ⟨A.hb,j,none⟩=some (.pointer (some ⟨A.p j,0,none⟩)):=by
 obtain ⟨pa,pc,la,lc,vs,h⟩:=Cf h;exact ((h.zB A.hb).cell j).trans (Zy A hj)
theorem A4c {W:bF} {A:WA} {S:WS} {l:List Res} (h:Ad W (Ce A S::l)):∃pa pc,W.cell? ⟨A.wp,10,none⟩=some (.slice pa S.P.length pc):=by
 obtain ⟨pa,pc,la,lc,vs,h⟩:=Cf h;exact ⟨pa,pc,(h.zB A.wp).cell 10⟩
theorem A0X {W:bF} {A:WA} {S:WS} {l:List Res} (h:Ad W (Ce A S::l)) {j:Nat} (hj:j<3): bG aA 15 #[.pointer (some ⟨A.p j,0,none⟩)] W λ e w'=>e=.returned (.string (tx (S.h j).nm))/\W=w':=by
 obtain ⟨pa,pc,la,lc,vs,h⟩:=Cf h;have h:=J0 hj h;unfold Cy at h;obtain ⟨hcp,hst,hsh,hcm,htm,aa,an,ac,ma,mc,ea,ec,ms,h⟩:=E7 h;exact Kk h.blk0
theorem Vw {W:bF} {A:WA} {S:WS} {l:List Res} (h:Ad W (Ce A S::l)) {j:Nat} (hj:j<3): bG aA 9 #[.pointer (some ⟨A.p j,0,none⟩)] W λ e w'=>e=.returned (.bool (S.h j).up)/\W=w':=by
 obtain ⟨pa,pc,la,lc,vs,h⟩:=Cf h;have h:=J0 hj h;unfold Cy at h;obtain ⟨hcp,hst,hsh,hcm,htm,aa,an,ac,ma,mc,ea,ec,ms,h⟩:=E7 h;exact A1J h.blk0
theorem A2y {W:bF} {A:WA} {S:WS} {l:List Res} (h:Ad W (Ce A S::l)) (s:ByteArray) (hs:s.size<=maxLen): bG aA 14 #[.pointer (some ⟨A.rl,0,none⟩),.string s] W λ e w'=>e=.returned (.int .i64 ((C4 S.box s []).length:Nat))/\W=w':=by
 obtain ⟨pa,pc,la,lc,vs,h⟩:=Cf h;exact A2c A.rl S.box s _ W (h.zP [10]) hs
theorem Ts {W:bF} {A:WA} {S:WS} {l:List Res} (h:Ad W (Ce A S::l)): bG aA 8 #[.pointer (some ⟨A.wp,0,none⟩)] W λ e w'=>e=.returned (.int .i64 (S.clk:Int))/\W=w':=by
 obtain ⟨pa,pc,la,lc,vs,h⟩:=Cf h;exact X0 A.wp A.q A.mp A.sp A.rl _ _ _ _ _ _ _ _ W (h.zP [1])
theorem A0k {pts:List Pt} (h:(pts.all λ p=>match p with | .s l=>decide (l.length<=4096) | .n x=>decide (0<=x/\x<=9223372036854775807) | .b l=>decide (l.length<=4096) | .t _=>true | .i t=>decide (t.1.length<=4096/\t.2.length<=4096) | .x _=>false)=true):∀p∈pts,Ii p:=by
 intro p hp;have h1:=List.all_eq_true.1 h p hp
 cases p with
 | s l=>simp only [decide_eq_true_eq] at h1; show _<=_; omega
 | n x=>simp only [decide_eq_true_eq] at h1; show _/\_; omega
 | b l=>simp only [decide_eq_true_eq] at h1; show _<=_; omega
 | t b=>trivial
 | i t=>simp only [decide_eq_true_eq] at h1; show _/\_; omega
 | x l=>simp at h1
def A8K (T:Sy):Bool:=decide (T.boxes.length<=1000)&&decide (T.keys.length<=1000)&&T.boxes.all λ bx=>decide (bx.body.length<=2000)
theorem A0J {T:Sy} (h:A8K T=true):M0 T:=by
 simp only [A8K,Bool.and_eq_true,decide_eq_true_eq] at h;refine ⟨by omega,by omega,λ bx hb=>?_⟩;have h1:=List.all_eq_true.1 h.2 bx hb;exact of_decide_eq_true h1
def A8Q (T:Sy) (L:List Aa):Bool:=L.all λ k=>(List.range T.boxes.length).any λ i=>decide (k=Bb 98 (i+1))
theorem A4K {T:Sy} {L:List Aa} (h:A8Q T L=true):∀k∈L,InT T k:=by
 intro k hk;obtain ⟨i,hi,h2⟩:=List.any_eq_true.1 (List.all_eq_true.1 h k hk);exact ⟨i,T.boxes[i]'(List.mem_range.1 hi),aH _,of_decide_eq_true h2⟩
def A7h (T:Jn):Bool:=decide (T.Pairwise (λ x y=>x.1≠y.1))&&decide (T.length<=32)&&T.all λ x=>decide (x.2.length<=16)&&x.2.all λ b=>decide (b.length<=500)
theorem U8 {T:Jn} (h:A7h T=true):Ih T:=by
 simp only [A7h,Bool.and_eq_true,decide_eq_true_eq] at h;refine ⟨h.1.1,h.1.2,λ x hx=>?_⟩;have h1:=List.all_eq_true.1 h.2 x hx;rw [Bool.and_eq_true,decide_eq_true_eq] at h1;exact ⟨h1.1,λ b hb=>of_decide_eq_true (List.all_eq_true.1 h1.2 b hb)⟩
def A8t (i:Ins):Bool:=decide (i.fl<=100)&&decide (i.key.length=16)&&decide (i.cl.length<=200)&&Au (tx i.cl)&&decide (i.fr<=100000)&&decide (i.un<=100000)&&decide (i.rn<=100000)
theorem A4M {i:Ins} (h:A8t i=true):i.Ok:=by
 simp only [A8t,Bool.and_eq_true,decide_eq_true_eq] at h;exact ⟨by omega,by omega,by omega,h.1.1.1.2,by omega,by omega,by omega⟩
theorem A6z (i:Nat):(s1 i).Opn (uk i) 1 (bx i) (As 5 [.n 1000,.n 1]):=(PS.gr_fresh _).opn (PS.shut_opn _ _ _ _)
theorem A6A (i:Nat):(s2 i).Opn (uk i) 3 (rp i) (As 3 ((in2 i).rep (no i) Ax)):=PS.shut_opn _ _ _ _
theorem A3I (i:Nat) (hi:i=0\/i=2):A1g i where
 three:=by omega
 sz0:=by decide+kernel
 sz1:=by rcases hi with rfl | rfl <;> decide+kernel
 sz2:=by rcases hi with rfl | rfl <;> decide+kernel
 nml:=by rcases hi with rfl | rfl <;> decide+kernel
 nmr:=by rcases hi with rfl | rfl <;> decide+kernel
 nmk:=by rcases hi with rfl | rfl <;> decide+kernel
 pwl:=by rcases hi with rfl | rfl <;> decide+kernel
 ukl:=by rcases hi with rfl | rfl <;> decide+kernel
 nol:=by rcases hi with rfl | rfl <;> decide+kernel
 ok1:=by rcases hi with rfl | rfl <;> exact A0k (by decide+kernel)
 all1:=by rcases hi with rfl | rfl <;> decide+kernel
 len1:=by rcases hi with rfl | rfl <;> decide+kernel
 w1:=by rcases hi with rfl | rfl <;> exact Kx (by decide+kernel) (Fm 11 _ (by decide+kernel)) (by decide+kernel)
 of1:=by rcases hi with rfl | rfl <;> kernel_rfl
 k1:=by rcases hi with rfl | rfl <;> decide+kernel
 b1:=by rcases hi with rfl | rfl <;> exact A4K (by decide+kernel)
 ok2:=by rcases hi with rfl | rfl <;> exact A0k (by decide+kernel)
 all2:=by rcases hi with rfl | rfl <;> decide+kernel
 len2:=by rcases hi with rfl | rfl <;> decide+kernel
 w2:=by rcases hi with rfl | rfl <;> exact Kx (by decide+kernel) (Fm 12 _ (by decide+kernel)) (by decide+kernel)
 of2:=by rcases hi with rfl | rfl <;> kernel_rfl
 k2:=by rcases hi with rfl | rfl <;> decide+kernel
 b2:=by rcases hi with rfl | rfl <;> exact A4K (by decide+kernel)
 sor:=by show aL _ _; decide+kernel
 Ll:=by decide+kernel
 get:=by rcases hi with rfl | rfl <;> kernel_rfl
 err:=by rcases hi with rfl | rfl <;> decide+kernel
 uke:=by rcases hi with rfl | rfl <;> decide+kernel
 Kl:=by decide+kernel
 opre:=A6z i
 ins:=by rcases hi with rfl | rfl <;> exact A4M (by decide+kernel)
 orep:=A6A i
 tab:=by rcases hi with rfl | rfl <;> exact ⟨A0J (by decide+kernel),A0J (by decide+kernel)⟩
 bxl:=by rcases hi with rfl | rfl <;> decide+kernel
 tkl:=by rcases hi with rfl | rfl <;> decide+kernel
 rpl:=by rcases hi with rfl | rfl <;> decide+kernel
 mail2:=by rcases hi with rfl | rfl <;> exact U8 (by decide+kernel)
 mail3:=by rcases hi with rfl | rfl <;> exact U8 (by decide+kernel)
 has:=by rcases hi with rfl | rfl <;> decide+kernel
 emp:=by rcases hi with rfl | rfl <;> decide+kernel
 got:=by rcases hi with rfl | rfl <;> decide+kernel
 put:=by rcases hi with rfl | rfl <;> decide+kernel
 P1:=by rcases hi with rfl | rfl <;> rfl
 P2:=by rcases hi with rfl | rfl <;> rfl
 h3:=by rcases hi with rfl | rfl <;> rfl
theorem Rm:A3 aA 58 4:=A3.mk Tryz.underlying58 rfl (by kernel_rfl)
theorem A7w:Cp aA 37 32 1 8 (.pointer none):=by
 refine Cp.mk Tryz.underlying37 (by kernel_rfl) rfl (by decide)
theorem Wm:Cp aA 39 58 4 48 (.agg #[.string ⟨#[]⟩,.string ⟨#[]⟩,.int .i64 0,.int .i64 0]):=by
 refine Cp.mk Tryz.underlying39 (by kernel_rfl) rfl (by decide)
def Gy (j:Nat):List bE:= [.string (tx (nmI j)),.string (pwI j),.int .i64 (lfI j:Int),.int .i64 (rnI j:Int)]
def Nq:List bE:=Gy 0++(Gy 1++Gy 2)
theorem A3Y {W:bF} {ub:Nat} {T:TypeId} {l:List Res} (h:Ad W (.blk ub Nq T::l)) {j:Nat} (hj:j<3):Ao W ub (j*4) (Gy j):=by
 have:j=0\/j=1\/j=2:=by omega
 rcases this with rfl | rfl | rfl
 . exact h.blk0.cellsAt 0 4
 . exact h.blk0.cellsAt 4 4
 . exact h.blk0.cellsAt 8 4
theorem A3X (j:Nat):∀u∈Gy j,u.oneCell'=true:=by
 intro u hu;simp only [Gy,aM,aN,or_false] at hu;rcases hu with rfl | rfl | rfl | rfl <;> rfl
theorem A3d (s:PS) (q:Nat):pvV s q=.iface 33 (.pointer (some ⟨q,0,none⟩)):=by cases s; rfl
structure A8i (j:Nat):Prop where
 sz:(sI j).sz<=100
 key:(usI j).key=ukI j
 sor:Fc (LI j)
 len:(LI j).length<=32
 nml:(nmI j).length<=200
 pwl:(pwI j).size<=1000
 add:(Jo (LI j) (usI j)).2=0
 box:(Yi j).length<=32
 kdc:((tx (nmI j)).toList== [107,100,99])=false
 knd:(sI j).knd=kdN
theorem A8V (j:Nat) (hj:j<3):A8i j:=by
 have:j=0\/j=1\/j=2:=by omega
 rcases this with rfl | rfl | rfl
 . exact ⟨by decide+kernel,by decide+kernel,List.Pairwise.nil,by decide+kernel,by decide+kernel,by decide+kernel,by decide+kernel,by decide+kernel,by decide+kernel,by decide+kernel⟩
 . exact ⟨by decide+kernel,by decide+kernel,by show aL _ _; decide+kernel,by decide+kernel,by decide+kernel,by decide+kernel,by decide+kernel,by decide+kernel,by decide+kernel,by decide+kernel⟩
 . exact ⟨by decide+kernel,by decide+kernel,by show aL _ _; decide+kernel,by decide+kernel,by decide+kernel,by decide+kernel,by decide+kernel,by decide+kernel,by decide+kernel,by decide+kernel⟩
theorem A7y {j:Nat} (ok:A8i j) (kp q bp:Nat) (l:List Res) (w:bF) (h:Ad w (Ck kp kdN q bp kN::Bg bp (LI j)::pvR q (sI j)::l)): bG aA 22 #[.pointer (some ⟨kp,0,none⟩),.string (tx (nmI j)),.string (pwI j),.int .i64 (lfI j:Int),.int .i64 (rnI j:Int),.bool true] w λ e w'=>e=.returned (.int .i64 0)/\Ad w' (Ck kp kdN q bp kN::Bg bp (LI (j+1))::pvR q (sI (j+1))::l):=by
 have hz:=ok.sz;have hn:(usI j).name=tx (nmI j):=Va _ _ _ _;have hnd:(usI j).name.data.toList=nmI j:=by rw [hn]; rfl
 have hsz:(usI j).name.size<=100000:=by rw [hn,Dq]; have:=ok.nml; omega
 have:=N8 kp q bp (sI j) kN (LI j) (usI j) (pwI j) l w (by rw [ok.knd]; exact h) (by omega) (by rw [hnd]; exact ok.key) ok.sor ok.len hsz (by have:=ok.pwl; omega);unfold Rh at this;rw [hnd,hn,show (usI j).life=(lfI j:Int) from U9 _ _ _ _,show (usI j).renew=(rnI j:Int) from So _ _ _ _,show (usI j).mesh=true from A3J _ _ _ _,ok.add,ok.knd] at this;exact this
def A6c (q j p:Nat):Res:=K7 p q kdN (tx (nmI j)) (Cli.new (tx (nmI j))) Bu false [] []
def Z0 (q:Nat):Nat->List Nat->Res
 | _, []=>.emp
 | j,p::ps=>(A6c q j p).star (Z0 q (j+1) ps)
theorem Sb {W:bF} {q:Nat} :∀ {ps:List Nat} {j k p:Nat} {l:List Res},j+ps.length=k->Ad W (Z0 q j ps::A6c q k p::l)->Ad W (Z0 q j (ps++ [p])::l)
 | [],j,k,p,l,e,h=>by
  have e:j=k:=by simpa using e
  subst e;exact Ad.star.2 h.swap
 | x::ps,j,k,p,l,e,h=>by
  have h1:=(Ad.star.1 h).push3;exact Ad.star.2 (Sb (k:=k) (by simp only [aS] at e; omega) h1).swap
theorem Yw (q mp sp rl:Nat):Tryz.prog.built 43 [(0,.pointer (some ⟨q,0,none⟩)),(1,.pointer (some ⟨mp,0,none⟩)),(2,.pointer (some ⟨sp,0,none⟩)),(3,.pointer (some ⟨rl,0,none⟩)),(8,.int .i64 1000)]=some (Co q mp sp rl (.slice none 0 0) (.slice none 0 0) (.slice none 0 0) (.slice none 0 0) 1000 0 (.slice none 0 0)).toArray:=by kernel_rfl
def pvs (ps:List Nat):List bE:=ps.map λ p=>.pointer (some ⟨p,0,none⟩)
theorem A5q (ps:List Nat) (p:Nat):pvs ps++ [.pointer (some ⟨p,0,none⟩)]=pvs (ps++ [p]):=by simp [pvs]
theorem Xz (ub:Nat) (l:List Res) (w:bF) (h:Ad w (.blk ub Nq 58::l)): bG aA 11 #[.slice (some ⟨ub,0,none⟩) 3 3] w λ e w'=>∃A,e=.returned (.tuple #[.pointer (some ⟨A.wp,0,none⟩),.int .i64 0])/\Ad w' (Ce A W0::l):=by
 have HC:=Ab h;clear h;go_enter Tryz.func11,Tryz.ntmps11;go_wp2_with fail;refine (Qe _ _ HC.o).mono ?_;rintro e w1 ⟨q,rfl,hc⟩;have HC:=Ab hc;clear hc;go_upto_region 2 with fail;refine An ?_;(iterate 2 refine zV ?_);refine Af (λ K hK=>?_);go_simp;refine (A3F q _ _ HC.o).mono ?_;rintro e w2 ⟨mp,kb,bb,ob,rfl,hc⟩;have HC:=Ab (hc.zP [1]);clear hc;refine zqp hK ?_;clear hK K;(iterate 2 refine zV ?_);refine Af (λ K hK=>?_);go_simp;have HKT:=Ab (Ps q (.sym .nil) _ _ HC.o (by decide));rw [A3d] at HKT;unfold A1i at HKT;refine HKT.o.mono ?_;rintro e w3 ⟨sp,kp,cp,bk,bp,rfl,hc⟩;have HC:Hq (Ad w3 (D0 sp kp cp bk::Bk cp [] 64::Ck kp kdN q bp kN::Bg bp (LI 0)::pvR q (sI 0)::Gb mp q kb bb ob .nil::.blk ub Nq 58::l)):=Ab hc;clear hc HKT;refine zqp hK ?_;clear hK K;refine Af (λ K hK=>?_);go_simp;refine (A2d _ _ HC.o).mono ?_;rintro e w4 ⟨rl,rfl,hc⟩;have HC:=Ab hc;clear hc;refine zqp hK ?_;clear hK K;refine zV ?_ (v:=.agg (Co q mp sp rl (.slice none 0 0) (.slice none 0 0) (.slice none 0 0) (.slice none 0 0) 1000 0 (.slice none 0 0)).toArray) (hr:=Gh (pv:= [(0,.pointer (some ⟨q,0,none⟩)),(1,.pointer (some ⟨mp,0,none⟩)),(2,.pointer (some ⟨sp,0,none⟩)),(3,.pointer (some ⟨rl,0,none⟩)),(8,.int .i64 1000)]) (by simp only [aV,aW,aO]; try rfl) (Yw q mp sp rl) _);refine Af (λ K hK=>?_);refine zNp (Co q mp sp rl (.slice none 0 0) (.slice none 0 0) (.slice none 0 0) (.slice none 0 0) 1000 0 (.slice none 0 0)) 43 HC.o ?_;intro wp w5 HC;refine zqp hK ?_;clear hK K;refine zV ?_;refine wpList_nil ?_;have HC:=Ab ((((((HC.o.addEmpX.addNil 2 1).addNil 58 4).addNil 32 1).zP [4,0,0,0,0,1,1,1,1,1,0,0,0])));go_wp2_with fail;go_loopw [21] (λ i wr=>∃(j:Nat) (ps:List Nat) (hv uv sv:bE) (uc:List bE),j<=3/\i=.int .i64 j/\ps.length=j/\Ad wr (.blk wp (Co q mp sp rl hv (.slice none 0 0) uv sv 1000 0 (.slice none 0 0)) 43::.own 32 1 hv j (pvs ps)::.own 58 4 uv j uc::.own 2 1 sv j (aX j (.int .i64 0))::Z0 q 0 ps::
  D0 sp kp cp bk::Bk cp [] 64::Ck kp kdN q bp kN::Bg bp (LI j)::pvR q (sI j)::Ip rl (Yi j)::Gb mp q kb bb ob .nil::.blk ub Nq 58::l)) (λ i _=>3- (intOf i).toNat)
 case atStart=>exact ⟨0, [],_,_,_, [],by omega,rfl,rfl,HC.o⟩
 case round=>
  obtain ⟨j,ps,hv,uv,sv,uc,hj,rfl,hps,hr⟩:=hrel;clear HC;unfold D0 at hr;by_cases hlt:j<3
  . have ok:=A8V j hlt;have HEN:=Ab (λ (l:List Res) (w:bF) (h:Ad w (Ck kp kdN q bp kN::Bg bp (LI j)::pvR q (sI j)::l))=>A7y ok kp q bp l w h);have HOP:=Ab (λ (l:List Res) (w:bF) (h:Ad w (Ip rl (Yi j)::l))=>A0o rl (Yi j) (tx (nmI j)) l w h (by rw [Dq]; have:=ok.nml; unfold maxLen; omega) ok.box);have HNW:=Ab (λ (l:List Res) (w:bF) (h:Ad w l)=>Zr q (sI j) (tx (nmI j)) l w h);rw [A3d,ok.knd] at HNW;have hkd:=ok.kdc;have HSN:=Ab (λ (W:bF) (p:Nat) (l:List Res) (h:Ad W (Z0 q 0 ps::A6c q j p::l))=>Sb (k:=j) (by rw [hps]; omega) h);have HPS:=Ab hps;have HCX:=Ab (A3Y (hr.zP [12]) hlt);have HUC:=Ab (A3X j);have HUL:Hq ((Gy j).length=4):=Ab rfl;have HBX:Hq (Yi (j+1)=(M9 (Yi j) (tx (nmI j))).1):=Ab rfl;obtain ⟨ha,hcp,rfl,_,_⟩:=hr.tail.slf;obtain ⟨ua,ucp,rfl,_,_⟩:=hr.tail.tail.slf;obtain ⟨za,zcp,rfl,_,_⟩:=hr.tail.tail.tail.slf;have HUE:Hq (Gy j= [.string (tx (nmI j)),.string (pwI j),.int .i64 (lfI j:Int),.int .i64 (rnI j:Int)]):=Ab rfl;have HN:Hq (A6c q j=λ p=>K7 p q kdN (tx (nmI j)) (Cli.new (tx (nmI j))) Bu false [] []):=Ab rfl;obtain ⟨NM,hNM⟩:∃x,x=tx (nmI j):=⟨_,rfl⟩
    obtain ⟨PW,hPW⟩:∃x,x=pwI j:=⟨_,rfl⟩
    obtain ⟨LF,hLF⟩:∃x:Int,x=(lfI j:Int):=⟨_,rfl⟩
    obtain ⟨RN,hRN⟩:∃x:Int,x=(rnI j:Int):=⟨_,rfl⟩
    obtain ⟨UC,hUC⟩:∃x,x=Gy j:=⟨_,rfl⟩
    rw [<-hNM,<-hPW,<-hLF,<-hRN] at HEN;rw [<-hNM] at HOP HNW hkd HBX HN;rw [<-hUC] at HCX HUC HUL;rw [<-hUC,<-hNM,<-hPW,<-hLF,<-hRN] at HUE;have HM1:Hq (j+1<=maxLen):=Ab (by unfold maxLen; omega);have HM2:Hq ((j+1)*8<=140737488355328):=Ab (by omega);have HM3:Hq ((j+1)*48<=140737488355328):=Ab (by omega);have hj0:(j:Int)<3:=by omega
    have HC:=Ab (hr.addBlkAt [.string ⟨#[]⟩,.string ⟨#[]⟩,.int .i64 0,.int .i64 0] 58 (b:=wr.heap.size) rfl);obtain ⟨B,hB⟩:∃B,B=wr.heap.size:=⟨_,rfl⟩
    rw [<-hB] at HC;have HBE:=Ab hB;clear hr ok hNM hPW hLF hRN hUC hB hps;go_wp2_with (first | ((with_reducible refine zw 24 ?_); refine Aj rfl (.tmp 23) Rm rfl rfl (cs:=UC) HUL.o HCX.o ?_) | ((with_reducible refine zws 7 24 ?_); rw [<-HBE.o]; refine Ag rfl (.tmp 7) (.tmp 24) Rm rfl rfl (vs:=UC) rfl HUL.o HC.o.blk0 (aI _) HUC.o ?_));intro w6 h6 k6;have HC:=Ab (HC.o.reblk h6 k6);clear h6 k6;have hb0:=(HC.o.zB B).cell 0;rw [HUE.o] at hb0;simp only [aF] at hb0;go_upto_region 8 with fail;clear hb0 hkd;refine B5 [] (λ b W=>W.cell? ⟨wp,2,none⟩=some (.pointer (some ⟨sp,0,none⟩))/\W.cell? ⟨sp,0,none⟩=some (.pointer (some ⟨kp,0,none⟩))/\W.cell? ⟨B,0,none⟩=some (.string NM)/\W.cell? ⟨B,1,none⟩=some (.string PW)/\W.cell? ⟨B,2,none⟩=some (.int .i64 LF)/\W.cell? ⟨B,3,none⟩=some (.int .i64 RN)) (by kernel_rfl) ?_;have HC:=Ab HC.o.drew;have HFC:Hq (∀(W:bF) (l:List Res),Ad W (.blk B UC 58::l)->W.cell? ⟨B,0,none⟩=some (.string NM)/\W.cell? ⟨B,1,none⟩=some (.string PW)/\W.cell? ⟨B,2,none⟩=some (.int .i64 LF)/\W.cell? ⟨B,3,none⟩=some (.int .i64 RN)):=Ab (λ W l h=>by
     have h:=h.blk0;rw [HUE.o] at h;exact ⟨h.cell 0,h.cell 1,h.cell 2,h.cell 3⟩)
    have HS:=Ab (aB (HC.o.zc (p:=wp) (k:=2) (v:=.pointer (some ⟨sp,0,none⟩))) (aB (show _=_ from (HC.o.zB sp).cell 0) (HFC.o _ _ HC.o)));refine zT 0 ?_;refine zT 1 ?_;refine zT 2 ?_;refine zT 3 ?_;refine zT 4 ?_;refine zT 5 ?_;refine zT 6 ?_;refine zT 7 ?_;refine zT 8 ?_;refine zT 9 ?_;refine zT 10 ?_;refine zT 11 ?_;refine zT 12 ?_;refine zT 13 ?_;refine zT 14 ?_;refine zJ 15 λ K hK=>?_
    go_simp;refine (HEN.o _ _ (HC.o.zP [8,8,8])).mono ?_;rintro e w7 ⟨rfl,hc⟩;have HC:=Ab (hc.zP [3]);clear hc HEN;have HS:=Ab (aB (HC.o.zc (p:=wp) (k:=2) (v:=.pointer (some ⟨sp,0,none⟩))) (aB (show _=_ from (HC.o.zB sp).cell 0) (HFC.o _ _ HC.o)));refine zq hK ?_;clear hK K;refine zT 16 ?_;refine zD ?_;go_upto_region 11 with fail;refine B5 [] (λ b W=>W.cell? ⟨wp,3,none⟩=some (.pointer (some ⟨rl,0,none⟩))/\W.cell? ⟨B,0,none⟩=some (.string NM)) (by kernel_rfl) ?_;have HC:=Ab HC.o.drew;have HS:=Ab (aB (HC.o.zc (p:=wp) (k:=3) (v:=.pointer (some ⟨rl,0,none⟩))) (HFC.o _ _ HC.o).1);refine zT 0 ?_;refine zT 1 ?_;refine zT 2 ?_;refine zT 3 ?_;refine zT 4 ?_;refine zT 5 ?_;refine zJ 6 λ K hK=>?_
    go_simp;refine (HOP.o _ _ (HC.o.zP [11])).mono ?_;rintro e w8 ⟨rfl,hc,_⟩;rw [<-HBX.o] at hc;have HC:=Ab (hc.zP [1]);clear hc HOP;have HS:=Ab (aB (HC.o.zc (p:=wp) (k:=3) (v:=.pointer (some ⟨rl,0,none⟩))) (HFC.o _ _ HC.o).1);refine zq hK ?_;clear hK K;refine zD ?_;go_upto_region 12 with fail;refine B5 [14] (λ b W=>W.cell? ⟨B,0,none⟩=some (.string NM)/\(b= [false]->W.cell? ⟨wp,4,none⟩=some (.slice ha j hcp))) (by kernel_rfl) ?_;have HC:=Ab HC.o.drew;have HS:=Ab (aB (HFC.o _ _ HC.o).1 (λ _: [false]= [false]=>HC.o.zc (p:=wp) (k:=4) (v:=.slice ha j hcp)));refine zT 0 ?_;refine zT 1 ?_;refine zT 2 ?_;refine zT 3 ?_;refine zTk 4 [14] ?_ (hr:=λ _ _ hk hW=>by have c:=hW.2 (Iy hk); go_simp; try rfl);refine zT 5 ?_;refine zT 6 ?_;refine zT 7 ?_;refine zT 8 ?_;refine zJ 9 λ K hK=>?_
    go_simp;refine (HNW.o _ _ HC.o).mono ?_;rintro e w9 ⟨hp,rfl,hc⟩;have HC:=Ab (hc.zP [1]);clear hc HNW;have HS:=Ab (aB (HFC.o _ _ HC.o).1 (λ _: [false]= [false]=>HC.o.zc (p:=wp) (k:=4) (v:=.slice ha j hcp)));refine zq hK ?_;clear hK K;refine zJ 10 λ K hK=>?_
    refine zN (λ b=>.slice (some ⟨b,0,none⟩) 1 1) [.pointer (some ⟨hp,0,none⟩)] 32 HC.o ?_;intro b64 w10 HC;have HS:=Ab (aB (HFC.o _ _ (HC.o.zP [1])).1 (λ _: [false]= [false]=>HC.o.zc (p:=wp) (k:=4) (v:=.slice ha j hcp)));refine zq hK ?_;clear hK K;refine zJ 11 λ K hK=>?_
    have HOW:=Ab ((HC.o.zP [8]).ownOf aC);refine D3 rfl (.tmp 58) (.tmp 64) A7w rfl 0 (v:=.slice ha j hcp) rfl HOW.o.1 HOW.o.2 rfl (HC.o.blk0.slS rfl (by intro u hu; simp only [aM,aN,or_false] at hu; rcases hu with rfl <;> rfl)) HM1.o HM2.o (aD _) ?_;intro v4 w4 ho hk hv4;obtain ⟨qa,qc,rfl,_,_⟩:=ho.sl.form;have hc:=(HC.o.zP [8]).append ho hk hv4;rw [A5q] at hc;have HC:=Ab hc;clear hc ho hk hv4 HOW;have HS:=Ab (aB (HFC.o _ _ (HC.o.zP [2])).1 (λ _: [false]= [false]=>HC.o.zc (p:=wp) (k:=4) (v:=.slice ha j hcp)));refine zq hK ?_;clear hK K;refine zT 12 ?_;refine zT 13 ?_;refine zJ 14 λ K hK=>?_
    refine zS1 (cs:=Co q mp sp rl (.slice qa (j+1) qc) (.slice none 0 0) (.slice ua j ucp) (.slice za j zcp) 1000 0 (.slice none 0 0)) (HC.o.zP [8]) ?_ (hf:=by simp [Co]) (hc:=rfl);intro w11 HC;refine zq hK ?_ (hS:=⟨(HFC.o _ _ (HC.o.zP [3])).1,λ h=>absurd h (by decide)⟩);clear hK K;refine zD ?_;go_upto_region 13 with fail;refine B5 [10] (λ b W=>Ao W B 0 UC/\(b= [false]->W.cell? ⟨wp,6,none⟩=some (.slice ua j ucp))) (by kernel_rfl) ?_;have HC:=Ab HC.o.drew;refine zT 0 ?_;refine zT 1 ?_;refine zT 2 ?_;refine zT 3 ?_;refine zTk 4 [10] ?_ (hr:=λ _ _ hk hW=>by have c:=hW.2 (Iy hk); go_simp; try rfl);refine zT 5 ?_ (hr:=λ _ _ _ hW=>ldJ Rm rfl HUL.o hW.1);refine zJ 6 λ K hK=>?_
    refine Is rfl (.tmp 73) Wm rfl rfl (by have:=HUL.o; simpa using this) (by decide) ?_;have HC:=Ab (HC.o.addBlk UC 58);refine zq hK ?_;clear hK K;refine zJ 7 λ K hK=>?_
    have HOW:=Ab ((HC.o.zP [10]).ownOf aC);refine D3 rfl (.tmp 72) (.tmp 74) Wm rfl 0 (v:=.slice ua j ucp) rfl HOW.o.1 HOW.o.2 rfl (HC.o.blk0.slS HUL.o HUC.o) HM1.o HM3.o (aD _) ?_;intro v5 w12 ho hk hv5;obtain ⟨ra,rc,rfl,_,_⟩:=ho.sl.form;have hc:=(HC.o.zP [10]).append ho hk hv5;have HC:=Ab hc;clear hc ho hk hv5 HOW;refine zq hK ?_;clear hK K;refine zT 8 ?_;refine zT 9 ?_;refine zJ 10 λ K hK=>?_
    refine zS1 (cs:=Co q mp sp rl (.slice qa (j+1) qc) (.slice none 0 0) (.slice ra (j+1) rc) (.slice za j zcp) 1000 0 (.slice none 0 0)) (HC.o.zP [2]) ?_ (hf:=by simp [Co]) (hc:=rfl);intro w13 HC;refine zq hK ?_;clear hK K;refine zD ?_;go_upto_region 14 with fail;refine An ?_;(iterate 4 refine zV ?_);refine zL ?_ (hc:=HC.o.zc (p:=wp) (k:=7) (v:=.slice za j zcp));refine Af (λ K hK=>?_);refine zN (λ b=>.slice (some ⟨b,0,none⟩) 1 1) [.int .i64 0] 2 HC.o ?_;intro b83 w14 HC;refine zqp hK ?_;clear hK K;refine Af (λ K hK=>?_);have HOW:=Ab ((HC.o.zP [12]).ownOf aC);refine D3 rfl (.tmp 82) (.tmp 83) N5 rfl 0 (v:=.slice za j zcp) rfl HOW.o.1 HOW.o.2 rfl (HC.o.blk0.slS rfl (by intro u hu; simp only [aM,aN,or_false] at hu; rcases hu with rfl <;> rfl)) HM1.o HM2.o (aD _) ?_;intro v6 w15 ho hk hv6;obtain ⟨sa,sc,rfl,_,_⟩:=ho.sl.form;have hc:=(HC.o.zP [12]).append ho hk hv6;rw [<-List.replicate_succ'] at hc;have HC:=Ab hc;clear hc ho hk hv6 HOW;refine zqp hK ?_;clear hK K;(iterate 2 refine zV ?_);refine Af (λ K hK=>?_);refine zS1 (cs:=Co q mp sp rl (.slice qa (j+1) qc) (.slice none 0 0) (.slice ra (j+1) rc) (.slice sa (j+1) sc) 1000 0 (.slice none 0 0)) (HC.o.zP [2]) ?_ (hf:=by simp [Co]) (hc:=rfl);intro w16 HC;refine zqp hK ?_;clear hK K;refine wpList_nil ?_;go_wp2_with fail;go_roundw
    case rel=>
     have h9:=(HC.o.zP [2,3,4,4]).tail.tail.tail.tail.zP [9,4];have e:=congrFun HN.o hp;rw [<-e] at h9;have h10:=(HSN.o _ hp _ h9).zP [1,3,2,1,0,4,4,1,1,1,0];exact ⟨j+1,ps++ [hp],_,_,_,_,by omega,by go_num,by rw [aE,HPS.o]; rfl,h10⟩
    case measure=>simp [intOf]; omega
  . obtain rfl:j=3:=by omega
    obtain ⟨p0,p1,p2,rfl⟩:∃a b c,ps= [a,b,c]:=by
     match ps,hps with
     | [a,b,c],_=>exact ⟨a,b,c,rfl⟩
    obtain ⟨hb,hcap,hcur,rfl,_,_,_,hct,hr⟩:=(hr.zP [1]).ownBlk (by decide);obtain ⟨zb,zcap,zcur,rfl,_,_,_,hzt,hr⟩:=(hr.zP [3]).ownBlk (by decide);obtain ⟨hz,rfl⟩:∃hz,hcur=.pointer (some ⟨p0,0,none⟩)::.pointer (some ⟨p1,0,none⟩)::.pointer (some ⟨p2,0,none⟩)::hz:=⟨hcur.drop 3,by
     have e:=(aY 3 hcur).symm;rw [show hcur.take 3=pvs [p0,p1,p2] from hct] at e;exact e⟩
    obtain ⟨zs,rfl⟩:∃zs,zcur=.int .i64 0::.int .i64 0::.int .i64 0::zs:=⟨zcur.drop 3,by
     have e:=(aY 3 zcur).symm;rw [show zcur.take 3=aX 3 (.int .i64 0) from hzt] at e;exact e⟩
    have h1:=(((hr.zP [3,11]).tail.tail.addEmpX.addNil 27 1).addNil 54 30).ownToZ.zP [6,5,1,1,9,7,3,3,3,3,3,1,1,0];have HW:=Ab (El (A:=⟨wp,q,mp,kb,bb,ob,sp,kp,cp,bk,bp,rl,zb,zcap,hb,hcap,zs,hz,uv,λ k=>if k=0 then p0 else if k=1 then p1 else p2⟩) (vs:= []) W0 h1);clear hr h1 hct hzt;go_wp2_with fail;go_ret2;exact ⟨_,rfl,HW.o⟩
theorem A4y:Cp aA 38 54 30 176 (.agg (.string ⟨#[]⟩::.int .i64 0::evC 0:List bE).toArray):=by
 refine Cp.mk Tryz.underlying38 (by kernel_rfl) rfl (by decide)
theorem A1r (s:ByteArray) (n k:Int):Tryz.prog.built 54 [(0,.string s),(1,.int .i64 n),(2,.agg (evC k).toArray)]=some (.string s::.int .i64 n::evC k:List bE).toArray:=by kernel_rfl
theorem A0d (L:List (Aa×Int×Int)) (x:Aa×Int×Int):Kp (L++ [x])=Kp L++Vd x:=by simp [Kp]
theorem A5s {W:bF} {l:List Res} {sa:Option Addr} {n sc:Nat} {vs:List bE} {L:List Aa} (h:Ad W (.ownZ 27 1 (.slice sa n sc) n vs::Bw vs L::l)) (hn:n=L.length) {k:Nat} (hk:k<n): ∃b o v,sa=some ⟨b,o,none⟩/\W.cell? ⟨b,o+k,none⟩=some v/\vs[k]?=some v:=by
 have hs:=(h.ownZOf (e:=27) (sz:=1) (n:=n) (v:=.slice sa n sc) (cs:=vs) aC).sl;have hl:vs.length=n:=by have:=hs.1; omega
 obtain ⟨b,o,hb,hc⟩:=hs.addr (by omega);have hv:vs[k]?=some (vs[k]'(by omega)):=aH (by omega);exact ⟨b,o,_,hb,hc k _ hv,hv⟩
theorem Tt (A:WA) (S0:WS) (hS0:S0.Calm 80) (l:List Res) (w:bF) (h:Ad w (Ce A S0::l)): bG aA 13 #[.pointer (some ⟨A.wp,0,none⟩)] w λ e w'=>e=.returned (.tuple #[])/\Ad w' (Ce A S0.aft::l):=by
 have HS0:=Ab hS0;have HC:=Ab h;obtain ⟨pa0,pc0,la0,lc0,vs0,h0⟩:=Cf h;have c4:=(h0.zB A.wp).cell 4;simp only [Co,aG,aF] at c4;clear h h0 hS0;go_enter Tryz.func13,Tryz.ntmps13;go_wp2_with fail;go_loopw [13] (λ i wr=>∃j:Nat,j<=3/\i=.int .i64 j/\Ad wr (Ce A (S0.aftN j)::l)) (λ i _=>3- (intOf i).toNat)
 case atStart=>exact ⟨0,by omega,rfl,HC.o⟩
 case round=>
  obtain ⟨j,hj,rfl,hr⟩:=hrel;clear c4 HC;by_cases hlt:j<3
  . have HSN:Hq (S0.aftN (j+1)=(S0.aftN j).aft1 j):=Ab rfl;have HCA:Hq ((S0.aftN j).Calm 90):=Ab (by
     have:=HS0.o.aftN j;exact ⟨this.msg,this.one,by have:=this.few; omega,by have:=this.all; omega,by have:=this.log; omega,this.tab,this.ok,this.keys,this.ops,this.bxs,this.stp⟩)
    obtain ⟨S,hS⟩:∃S,S=S0.aftN j:=⟨_,rfl⟩
    rw [<-hS] at hr HSN HCA;clear hS;obtain ⟨pa,pc,la,lc,vs,hr⟩:=Cf hr;have hr:=J0 hlt hr;unfold Cy at hr;obtain ⟨hcp,hst,hsh,hcm,htm,aa,an,ac,ma,mc,ea,ec,ms,hr⟩:=E7 hr;have HPT:=Ab (Zy A hlt);have cj:wr.cell? ⟨A.hb,j,none⟩=some (.pointer (some ⟨A.p j,0,none⟩)):=((hr.zB A.hb).cell j).trans HPT.o;have hj0:(0:Int)<=(j:Int):=by omega
    have hj1:(j:Int)<3:=by omega
    have HC:=Ab hr;have HMA:=Ab (Wq (hp:=A.p j) (l:=_) (ma:=ma) (mn:=(S.h j).M.length) (mc:=mc) rfl hr);have h7:=hr.tail.tail.tail.tail.tail.tail;obtain ⟨Mj,hMj⟩:∃x,x=(S.h j).M:=⟨_,rfl⟩
    obtain ⟨Ej,hEj⟩:∃x,x=(S.h j).E:=⟨_,rfl⟩
    have HM1:Hq (∀b∈Mj,b.length<=3000/\G8 b= []/\∀k∈Ij b,InT S.s.tab k):=Ab (by rw [hMj]; exact HCA.o.msg j);have hmn1:Mj.length<=1:=by rw [hMj]; exact (HCA.o.one j).1
    have hen1:Ej.length<=1:=by rw [hEj]; exact (HCA.o.one j).2
    rw [<-hMj,<-hEj] at HMA;have HMJ:=Ab hMj;have HEJ:=Ab hEj;obtain ⟨MN,hMN⟩:∃n,n=Mj.length:=⟨_,rfl⟩
    obtain ⟨EN,hEN⟩:∃n,n=Ej.length:=⟨_,rfl⟩
    rw [<-hMN,<-hEN] at HMA;rw [<-hMN] at hmn1;rw [<-hEN] at hen1;have HMN:=Ab hMN;have HEN:=Ab hEN;obtain ⟨PN,hPN⟩:∃n,n=S.P.length:=⟨_,rfl⟩
    clear hr h7 HC hMj hEj hMN hEN;go_wp2_with fail;refine HMA.o.mono ?_;rintro e w1 ⟨rfl,hc⟩;clear HMA cj;have HT:Hq (M0 S.s.tab):=Ab HCA.o.tab;rw [Q8] at hc;refine (?_:∀R1:List Res,R1=_->Ad w1 (.ownZ 27 1 (.slice ma MN mc) MN ms::Bw ms Mj::.blk A.wp (Co A.q A.mp A.sp A.rl (.slice (some ⟨A.hb,0,none⟩) 3 A.hc) (.slice la S.log.length lc) A.uv (.slice (some ⟨A.zb,0,none⟩) 3 A.zc) (S.clk:Int) (S.stp:Int) (.slice pa S.P.length pc)) 43::
     .own 27 1 (.slice pa S.P.length pc) S.P.length vs::Bw vs S.P::Gb A.mp A.q A.kb A.bb A.ob S.M::Dm A.q S.s.tab::R1)->_) _ rfl (hc.zP [6,6,8,8,8,8,8])
    intro R1 hR1 hc;have HR1:=Ab hR1;have HC:=Ab hc;clear hc hR1 hPN;go_wp2_with fail;go_loopw [20] (λ i wr=>∃(k:Nat) (pv:bE) (vs:List bE),k<=MN/\i=.int .i64 k/\Ad wr (.ownZ 27 1 (.slice ma MN mc) MN ms::Bw ms Mj::.blk A.wp (Co A.q A.mp A.sp A.rl (.slice (some ⟨A.hb,0,none⟩) 3 A.hc) (.slice la S.log.length lc) A.uv (.slice (some ⟨A.zb,0,none⟩) 3 A.zc) (S.clk:Int) (S.stp:Int) pv) 43::
     .own 27 1 pv (S.P++Mj.take k).length vs::Bw vs (S.P++Mj.take k)::Gb A.mp A.q A.kb A.bb A.ob ((Mj.take k).foldl Mi.take S.M)::Dm A.q S.s.tab::R1)) (λ i _=>MN- (intOf i).toNat)
    case atStart=>exact ⟨0,_,vs,aD _,rfl,by rw [aZ,bA]; exact HC.o⟩
    case round=>
     obtain ⟨k,pv,vs2,hk,rfl,hr2⟩:=hrel;clear HC;by_cases hkl:k<MN
     . obtain ⟨rb,ro,rv,rfl,hcell,hvk⟩:=A5s hr2 HMN.o hkl;have hkM:k<Mj.length:=by rw [<-HMN.o]; exact hkl
       have hrow:=L8 hr2.tail k hvk (aH hkM);have HF:=Ab (Jw (Mj.take k) S.M HCA.o.ok (λ b hb=>(HM1.o b (bB hb)).2.1) HCA.o.keys);have HFB:=Ab (Ki S.s.tab (Mj.take k) S.M (λ b hb=>(HM1.o b (bB hb)).2.2) HCA.o.bxs);have HB1:=HM1.o _ (List.getElem_mem hkM);have HPU:=Ab (Ot A.wp A.q A.mp A.sp A.rl _ _ _ _ pv (S.clk:Int) (S.stp:Int) A.q A.kb A.bb A.ob S.s.tab _ (S.P++Mj.take k) vs2 rv Mj[k] _ wr (hr2.zP [2,2,2,2,2]) (λ W hW=>L8 hW.tail k hvk (aH hkM)) HB1.1 (by
        have h1:=HCA.o.few;rw [aE,aP]
        omega) HT.o HF.o.1 (by
        have h1:=HCA.o.all;have h2:=HF.o.2.2;rw [aP] at h2
        omega) HF.o.2.1 HB1.2.1 (HFB.o.2.trans HCA.o.ops) (λ x hx=>(List.mem_append.1 hx).elim (HB1.2.2 x) (HFB.o.1 x)))
       have HX:Hq ((S.P++Mj.take k)++ [Mj[k]]=S.P++Mj.take (k+1)):=Ab (by rw [bC,aT hkM]);have HY:=Ab (A3z Mj hkM S.M);rw [HX.o,<-HY.o] at HPU;obtain ⟨rva,rvc,rfl,_,_⟩:=hrow.form;have hk0:(0:Int)<=(k:Int):=by omega
       have hk1:(k:Int)< (MN:Int):=by omega
       clear hr2 hrow hvk HB1 HF HFB HX HY;go_wp2_with fail;refine HPU.o.mono ?_;rintro e w2 ⟨rfl,pv3,vs3,hc⟩;have HC:=Ab (hc.zP [5,5]);clear hc HPU hcell;go_wp2_with fail;go_roundw
       case rel=>exact ⟨k+1,pv3,vs3,by omega,by go_num,HC.o⟩
       case measure=>simp [intOf]; omega
     . obtain rfl:k=MN:=by omega
       have HTK:Hq (Mj.take k=Mj):=Ab (by rw [HMN.o]; exact bD);rw [HTK.o,HR1.o] at hr2;obtain ⟨pa2,pc2,rfl,_,_⟩:=hr2.tail.tail.tail.slf;have hr3:=hr2.zP [7];have HEV:=Ab (R8 (hp:=A.p j) (l:=_) (ma:=ea) (mn:=EN) (mc:=ec) rfl hr3);clear hr2 hr3 HTK;go_wp2_with fail;refine HEV.o.mono ?_;rintro e w3 ⟨rfl,hc⟩;refine (?_:∀R2:List Res,R2=_->Ad w3 (.blk A.wp (Co A.q A.mp A.sp A.rl (.slice (some ⟨A.hb,0,none⟩) 3 A.hc) (.slice la S.log.length lc) A.uv (.slice (some ⟨A.zb,0,none⟩) 3 A.zc) (S.clk:Int) (S.stp:Int) (.slice pa2 (S.P++Mj).length pc2)) 43::
        .blk (A.p j) (Bn (pvI kdN A.q) (tx (S.h j).nm) hcp hsh (S.h j).up (.slice aa an ac) hcm htm (.slice none 0 0) (.slice none 0 0)) 69::.ownZ 52 28 (.slice ea EN ec) EN (Kg Ej)::.ownZ 54 30 (.slice la S.log.length lc) S.log.length (Kp S.log)::R2)->_) _ rfl (hc.zP [3,0,11,19])
       intro R2 hR2 hc;have HR2:=Ab hR2;have HC:=Ab hc;clear hc hR2;go_wp2_with fail;go_loopw [31] (λ i wr=>∃(k:Nat) (lv:bE),k<=EN/\i=.int .i64 k/\Ad wr (.blk A.wp (Co A.q A.mp A.sp A.rl (.slice (some ⟨A.hb,0,none⟩) 3 A.hc) lv A.uv (.slice (some ⟨A.zb,0,none⟩) 3 A.zc) (S.clk:Int) (S.stp:Int) (.slice pa2 (S.P++Mj).length pc2)) 43::
        .blk (A.p j) (Bn (pvI kdN A.q) (tx (S.h j).nm) hcp hsh (S.h j).up (.slice aa an ac) hcm htm (.slice none 0 0) (.slice none 0 0)) 69::.ownZ 52 28 (.slice ea EN ec) EN (Kg Ej)::.ownZ 54 30 lv (S.log++(Ej.take k).map λ e=>((S.h j).nm,(S.stp:Int),e)).length (Kp (S.log++(Ej.take k).map λ e=>((S.h j).nm,(S.stp:Int),e)))::R2)) (λ i _=>EN- (intOf i).toNat)
       case atStart=>exact ⟨0,_,aD _,rfl,by rw [aZ,aO,bA]; exact HC.o⟩
       case round=>
        obtain ⟨k,lv,hk,rfl,hr4⟩:=hrel;clear HC;by_cases hkl:k<EN
        . obtain ⟨ev,hev⟩:∃ev,Ej[k]?=some ev:=⟨_,aH (by rw [<-HEN.o]; exact hkl)⟩
          have hx:=(hr4.zP [2]).head.elim λ _ hF=>hF.1.sl
          obtain ⟨fb,fo,hfe,hcx⟩:=Kv evC Ej (λ x _=>rfl) hx hev (by decide);subst hfe;obtain ⟨L1,hL1⟩:∃L1,L1=S.log++(Ej.take k).map λ e=>((S.h j).nm,(S.stp:Int),e):=⟨_,rfl⟩
          have HL1:Hq (L1.length<=92):=Ab (by
           have h1:=HCA.o.log;rw [hL1,aE,aU,aP]
           omega)
          have HL2:Hq (S.log++(Ej.take (k+1)).map (λ e=>((S.h j).nm,(S.stp:Int),e))=L1++ [((S.h j).nm,(S.stp:Int),ev)]):=Ab (by
           rw [hL1,List.take_add_one,hev,List.map_append,bC]
           rfl)
          rw [<-hL1] at hr4;have HX2:=Ab (A0d L1 ((S.h j).nm,(S.stp:Int),ev));obtain ⟨LN,hLN⟩:∃n,n=L1.length:=⟨_,rfl⟩
          have HX3:Hq ((L1++ [((S.h j).nm,(S.stp:Int),ev)]).length=LN+1):=Ab (by rw [hLN]; simp);rw [<-hLN] at hr4 HL1;obtain ⟨xa,xc,rfl,_⟩:=((hr4.zP [3]).ownZOf aC).sl.form;have HM1':Hq (LN+1<=maxLen):=Ab (by have:=HL1.o; unfold maxLen; omega);have HM2':Hq ((LN+1)*176<=140737488355328):=Ab (by have:=HL1.o; omega);have HEL:Hq ((evC ev).length=28):=Ab rfl;have HEO:=Ab (Wn ev);have HNB:=Ab (A1r (tx (S.h j).nm) (S.stp:Int) ev);have HNO:Hq (∀u∈Vd ((S.h j).nm,(S.stp:Int),ev),u.oneCell'=true):=Ab (by
           intro u hu;rcases List.mem_cons.1 hu with rfl | hu
           . rfl
           rcases List.mem_cons.1 hu with rfl | hu
           . rfl
           exact Wn ev u hu)
          have HNC:Hq (Vd ((S.h j).nm,(S.stp:Int),ev)=(.string (tx (S.h j).nm)::.int .i64 (S.stp:Int)::evC ev:List bE)):=Ab rfl;obtain ⟨EV,hEV⟩:∃x,x=evC ev:=⟨_,rfl⟩
          obtain ⟨NC,hNC⟩:∃x,x=Vd ((S.h j).nm,(S.stp:Int),ev):=⟨_,rfl⟩
          rw [<-hEV] at hcx HEL HEO;rw [<-hNC] at HX2 HNO;have HNB:Hq (Tryz.prog.built 54 [(0,.string (tx (S.h j).nm)),(1,.int .i64 (S.stp:Int)),(2,.agg EV.toArray)]=some NC.toArray):=Ab (by rw [hNC,hEV]; exact HNB.o);have HNL:Hq (NC.length=30):=Ab (by rw [hNC]; rfl);have HCX:=Ab hcx;have hk0:(k:Int)<EN:=by omega
          have HC:=Ab (hr4.addBlkAt (evC 0) 52 (b:=wr.heap.size) rfl);obtain ⟨B,hB⟩:∃B,B=wr.heap.size:=⟨_,rfl⟩
          rw [<-hB] at HC;have HBE:=Ab hB;clear hr4 hx hcx hev hL1 hLN hEV hNC hB HNC;go_wp2_with (first | ((with_reducible refine zw 34 ?_); refine Aj rfl (.tmp 33) Nz rfl rfl (cs:=EV) HEL.o HCX.o ?_) | ((with_reducible refine zws 7 34 ?_); rw [<-HBE.o]; refine Ag rfl (.tmp 7) (.tmp 34) Nz rfl rfl (vs:=EV) rfl HEL.o HC.o.blk0 (aI _) HEO.o ?_));intro w6 h6 k6;have HC:=Ab (HC.o.stW (vs:=EV) h6 k6 rfl);clear h6 k6;go_upto_region 11 with fail;refine B5 [17] (λ b W=>Ao W B 0 EV/\W.cell? ⟨A.wp,9,none⟩=some (.int .i64 (S.stp:Int))/\(b= [false]->W.cell? ⟨A.wp,5,none⟩=some (.slice xa LN xc))) (by kernel_rfl) ?_;have HC:=Ab HC.o.drew;refine zT 0 ?_;refine zT 1 ?_;refine zT 2 ?_;refine zT 3 ?_;refine zTk 4 [17] ?_ (hr:=λ _ _ hk hW=>by have c:=hW.2.2 (Iy hk); go_simp; try rfl);refine zT 5 ?_;refine zT 7 ?_;refine zT 8 ?_;refine zT 9 ?_;refine zT 10 ?_;refine zT 11 ?_ (hr:=λ _ _ _ hW=>ldJ Nz rfl HEL.o hW.1);refine zJ 6 λ K hK=>?_
          go_simp;refine (Kk (HC.o.zB (A.p j))).mono ?_;rintro e w7 ⟨rfl,rfl⟩;refine zq hK ?_;clear hK K;refine zT 12 ?_ (v:=.agg NC.toArray) (hr:=λ l W hk hW=>Gh (pv:= [(0,.string (tx (S.h j).nm)),(1,.int .i64 (S.stp:Int)),(2,.agg EV.toArray)]) (by simp only [aV,aW,aO]; try rfl) (HNB.o) W);refine zJ 13 λ K hK=>?_
          refine Is rfl (.tmp 47) A4y rfl rfl (by have:=HNL.o; simpa using this) (by decide) ?_;have HC:=Ab (HC.o.addBlk NC 54);refine zq hK ?_;clear hK K;refine zJ 14 λ K hK=>?_
          refine Om rfl (.tmp 39) (.tmp 48) A4y rfl rfl rfl (HC.o.zP [5]) (HC.o.blk0.slS HNL.o HNO.o) (by decide) HM1'.o HM2'.o ?_;intro v8 w8 hc;obtain ⟨qg,qo,qn,rfl,_⟩:=(hc.ownZOf aC).form (by omega);have HC:=Ab hc;clear hc;refine zq hK ?_;clear hK K;refine zT 15 ?_;refine zT 16 ?_;refine zJ 17 λ K hK=>?_
          refine zS1 (cs:=Co A.q A.mp A.sp A.rl (.slice (some ⟨A.hb,0,none⟩) 3 A.hc) (.slice (some ⟨qg,qo,none⟩) (LN+1) qn) A.uv (.slice (some ⟨A.zb,0,none⟩) 3 A.zc) (S.clk:Int) (S.stp:Int) (.slice pa2 (S.P++Mj).length pc2)) (HC.o.zP [3]) ?_ (hf:=by simp [Co]) (hc:=rfl);intro w9 HC;refine zq hK ?_ (hS:=⟨HC.o.zca (p:=B),HC.o.zc (p:=A.wp) (k:=9) (v:=.int .i64 (S.stp:Int)),λ h=>absurd h (by decide)⟩);clear hK K;refine zD ?_;go_wp2_with fail;go_roundw
          case rel=>
           have h9:=(HC.o.zP [2,2,0,1,1,0]).tail.tail;exact ⟨k+1,_,by omega,by go_num,by rw [HL2.o,HX3.o,HX2.o]; exact h9⟩
          case measure=>simp [intOf]; omega
        . obtain rfl:k=EN:=by omega
          have HTE:Hq (Ej.take k=Ej):=Ab (by rw [HEN.o]; exact bD);rw [HTE.o,HR2.o] at hr4;have e1:=HMJ.o;have e2:=HEJ.o;subst e1 e2;have h5:=((((hr4.zP [2,3,3]).tail.tail.tail.addEmpX.addNil 27 1).ownToZ.addNil 52 28).ownToZ).zP [4,9,9,9,9,9,1,1,0];have h6:=(Ga (M:= []) (vs:= []) (E:= []) h5).zP [0,6];have h7:Ad wr (Cy A j { S.h j with M:= [],E:= [] } ::A7P A S.h j::_):=h6;have h8:=(Q3 hlt rfl h7).zP [0,0,1,1,1,1,1,1,1,1,1,1,1,0];rw [<-Q8] at h8;have HW:=Ab (El (S.aft1 j) h8);clear hr4 h5 h6 h7 h8;go_wp2_with fail;go_roundw
          case rel=>exact ⟨j+1,by omega,by go_num,by rw [HSN.o]; exact HW.o⟩
          case measure=>simp [intOf]; omega
  . obtain rfl:j=3:=by omega
    go_wp2_with fail;go_end0;exact ⟨rfl,hr⟩
section
theorem Vt {W:bF} {vs:List bE} {m:Aa} {l:List Res} (h:Ad W (Bw vs [m]::l)):∃x,vs= [x]/\Ad W (.row x m::l):=by
 match vs with
 | []=>exact (Ad.pure.1 h).1.elim
 | [x]=>
  refine ⟨x,rfl,?_⟩;have h2:Ad W (.all [.row x m]::l):=h;exact Ad.app.1 h2
 | x::y::r=>
  have h2:Ad W (.all [.row x m,.pure False]::l):=by
   refine h.weaken λ F hF=>?_
   obtain ⟨F1,F2,h1,h2,h3,h4⟩:=hF;exact (h2.1).elim
  exact ((Ad.pure.1 (Ad.app.1 h2).swap).1).elim
section
variable (A:WA)
theorem Vv (S S1:WS) (k ho n:Int) (pe tx:ByteArray) (r:Int) (hs:S.stp<=1000) (hc:S1.Calm 80) (l:List Res) (w:bF) (h:Ad w (Ce A S::l)) (hdo:∀W,Ad W (Ce A S.tick::l)->bG aA 12 #[.pointer (some ⟨A.wp,0,none⟩),.agg (Cq k ho n pe tx (.slice none 0 0)).toArray] W λ e w'=>e=.returned (.int .i64 r)/\Ad w' (Ce A S1::l)): bG aA 6 #[.pointer (some ⟨A.wp,0,none⟩),.agg (Cq k ho n pe tx (.slice none 0 0)).toArray] w λ e w'=>e=.returned (.int .i64 r)/\Ad w' (Ce A S1.aft::l):=by
 obtain ⟨pa,pc,la,lc,vs,h⟩:=Cf h;refine A0Z A.wp A.q A.mp A.sp A.rl _ _ _ _ _ _ _ k ho n pe tx _ w (λ W=>Ad W (Ce A S1::l)) _ r (by omega) (by omega) (h.zP [1]) (λ W hW=>hdo W (El S.tick (hW.zP [1]))) λ W hW=>Tt A S1 hc l W hW
theorem A4b (S:WS) (i:Nat) (hi:i<3) (l:List Res) (w:bF) (h:Ad w (Ce A S::l)) (hc:S.clk<=100000): bG aA 31 #[.pointer (some ⟨A.wp,0,none⟩),.int .i64 (i:Int)] w λ e w'=>e=.returned (.int .i64 (S.clk:Int))/\Ad w' (Ce A S::l):=by
 obtain ⟨pa,pc,la,lc,vs,h⟩:=Cf h;refine (A0Y A.wp A.q A.mp A.sp A.rl _ _ _ _ _ _ _ A.zb A.zc A.zs rfl i hi _ w (h.zP [1,10]) (by omega) (by omega)).mono ?_;rintro e w' ⟨rfl,hc⟩;exact ⟨rfl,El S (hc.zP [2,0,1,1,1,1,1,1,1,1,1,0])⟩
theorem Xy (S S1:WS) (k n:Int) (i:Nat) (hi:i<3) (hk0:0<k) (hk1:k<16) (pe tx:ByteArray) (r:Int) (hcl:S.clk<=100000) (l:List Res) (w:bF) (h:Ad w (Ce A S::l)) (hh:∀W x,Ad W (x::Ce A S::l)->bG aA 30 #[.pointer (some ⟨A.wp,0,none⟩),.agg (Cq k (i:Int) n pe tx (.slice none 0 0)).toArray,.pointer (some ⟨A.p i,0,none⟩),.int .i64 (S.clk:Int)] W λ e w'=>e=.returned (.int .i64 r)/\Ad w' (x::Ce A S1::l)) (hS:S1.clk=S.clk/\S1.stp=S.stp): bG aA 12 #[.pointer (some ⟨A.wp,0,none⟩),.agg (Cq k (i:Int) n pe tx (.slice none 0 0)).toArray] w λ e w'=>e=.returned (.int .i64 r)/\Ad w' (Ce A S1::l):=by
 have HA:=Ab (λ (S:WS) (hc:S.clk<=100000) (l:List Res) (w:bF) (h:Ad w (Ce A S::l))=>A4b A S i hi l w h hc);have HC:=Ab (h.addBlkAt (Cq k (i:Int) n pe tx (.slice none 0 0)) 29 (b:=w.heap.size) rfl);have HN:=Ab hh;have c0:=(HC.o.zB w.heap.size).cell 0;have c1:=(HC.o.zB w.heap.size).cell 1;have d4:=E6 HC.o.tail;have HKL:=Ab hcl;have HS1:=Ab hS;simp only [Cq,aG,aF] at c0 c1;obtain ⟨sb,hsb⟩:∃sb,sb=w.heap.size:=⟨_,rfl⟩
 rw [<-hsb] at HC c0 c1;have e0:¬k=0:=by omega
 have e1:¬(16:Int)<=k:=by omega
 have e2:¬k=19:=by omega
 have e3:¬k=20:=by omega
 have e4:¬k=23:=by omega
 have f0:¬(i:Int)<0:=by omega
 have f1:¬(3:Int)<=(i:Int):=by omega
 clear h hh hk0 hk1 hcl hS;unfold Cq at HC HN ⊢;go_enter Tryz.func12,Tryz.ntmps12;go_upto_region 14 with fail;clear c0 c1 d4 e0 e1 e2 e3 e4;rw [<-hsb];refine B5 [] (λ b W=>W.cell? ⟨sb,1,none⟩=some (.int .i64 (i:Int))/\W.cell? ⟨A.wp,4,none⟩=some (.slice (some ⟨A.hb,0,none⟩) 3 A.hc)) (by kernel_rfl) ?_;generalize hG:bF.drew _=W;have HC:=Ab (HC.o.drew.cast hG);clear hG hsb;have HS:=Ab (aB ((HC.o.zB sb).cell 1) (E6 HC.o.tail));refine zT 0 ?_;refine zT 1 ?_;refine zT 2 ?_ (v:=.bool false);refine zT 3 ?_;refine zT 4 ?_;refine zT 5 ?_;refine zT 6 ?_;refine zT 7 ?_;refine zT 8 ?_;refine zT 9 ?_;refine zT 10 ?_;refine zT 11 ?_ (v:=.bool false);refine zT 12 ?_;refine zT 13 ?_;refine zD ?_;go_upto_region 16 with fail;refine B5 [] (λ b W=>W.cell? ⟨sb,1,none⟩=some (.int .i64 (i:Int))/\W.cell? ⟨A.wp,4,none⟩=some (.slice (some ⟨A.hb,0,none⟩) 3 A.hc)/\W.cell? ⟨A.hb,i,none⟩=some (.pointer (some ⟨A.p i,0,none⟩))/\Ao W sb 0 [.int .i64 k,.int .i64 (i:Int),.int .i64 n,.string pe,.string tx,.slice none 0 0]) (by kernel_rfl) ?_;have HC:=Ab HC.o.drew;have HS:=Ab (aB ((HC.o.zB sb).cell 1) (aB (E6 HC.o.tail) (aB (Ig HC.o.tail hi) (HC.o.zB sb).cellsAll)));refine zT 0 ?_;refine zT 1 ?_ (hr:=λ _ _ _ hW=>ldJ V7 rfl rfl hW.2.2.2);refine zT 2 ?_;refine zT 3 ?_;refine zT 4 ?_;refine zT 5 ?_;refine zT 6 ?_;refine zT 7 ?_;refine zT 8 ?_ (v:=.pointer (some ⟨A.hb,i,none⟩));refine zT 9 ?_;refine zT 10 ?_;refine zT 11 ?_;refine zT 12 ?_;refine zJ 13 λ K hK=>?_
 go_simp;refine (HA.o S HKL.o _ _ HC.o.swap).mono ?_;rintro e w1 ⟨rfl,hcx⟩;have HC:=Ab hcx.swap;have HS:=Ab (aB ((HC.o.zB sb).cell 1) (aB (E6 HC.o.tail) (aB (Ig HC.o.tail hi) (HC.o.zB sb).cellsAll)));refine zq hK ?_;clear hK K hcx HA;refine zJ 14 λ K hK=>?_
 go_simp;refine (HN.o _ _ HC.o).mono ?_;rintro e w2 ⟨rfl,hcx⟩;have HC:=Ab hcx;have HS:=Ab (aB ((HC.o.zB sb).cell 1) (aB (E6 HC.o.tail) (aB (Ig HC.o.tail hi) (HC.o.zB sb).cellsAll)));refine zq hK ?_;clear hK K hcx;refine zT 15 ?_;refine zD ?_;go_wp2_with fail;go_ret;exact ⟨rfl,HC.o.tail⟩
end
end
section
theorem kd0:W0.s.knd=kdN:=by decide+kernel
theorem kd1 (i:Nat):(s1 i).knd=kdN:=by
 have e1:(s1 i).knd=(Dv W0.s (nmI i) (pwI i)).2.knd:=(PS.knd_fresh _).trans (PS.knd_shut _ _ _ _);rw [e1,show (Dv W0.s (nmI i) (pwI i)).2.knd=W0.s.knd from PS.knd_text _ _ _,kd0]
theorem kd2 (i:Nat):(s2 i).knd=kdN:=by
 have e1:(s2 i).knd=(s1 i).knd:=(PS.knd_shut _ _ _ _).trans ((PS.knd_shut _ _ _ _).trans (PS.knd_fresh _));rw [e1,kd1]
theorem Ny (j:Nat):(W0.h j).M= []/\(W0.h j).E= []:=⟨rfl,rfl⟩
theorem A2L {S:WS} {n:Nat} (hq:∀j,(S.h j).M= []/\(S.h j).E= []) (h1:S.P.length<=n) (h2:S.M.all.length<=n) (h3:S.log.length<=n) (h4:M0 S.s.tab) (h5:S.M.Ok) (h6:S.M.keys= []) (h8:S.M.opens= []) (h9:∀k∈S.M.boxes,InT S.s.tab k) (h7:S.stp<=1000):S.Calm n where
 msg:=λ j b hb=>by rw [(hq j).1] at hb; cases hb
 one:=λ j=>by rw [(hq j).1,(hq j).2]; exact ⟨aD _,aD _⟩
 few:=h1
 all:=h2
 log:=h3
 tab:=h4
 ok:=h5
 keys:=h6
 ops:=h8
 bxs:=h9
 stp:=h7
section
variable {i:Nat} (ok:A1g i)
include ok
theorem q1 (j:Nat):((W1 i).h j).M= []/\((W1 i).h j).E= []:=WS.quiet _ (λ j hj=>by
 have:j≠i:=by have:=ok.three; omega
 show ((upd W0.h i _) j).M= []/\((upd W0.h i _) j).E= []
 rw [Ec _ _ this];exact Ny j) j
theorem q2 (j:Nat):((W2 i).h j).M= []/\((W2 i).h j).E= []:=WS.quiet _ (λ j _=>q1 ok j) j
theorem q3 (j:Nat):((W3 i).h j).M= []/\((W3 i).h j).E= []:=WS.quiet _ (λ j _=>q2 ok j) j
theorem q4 (j:Nat):((W4 i).h j).M= []/\((W4 i).h j).E= []:=WS.quiet _ (λ j hj=>by
 have:j≠i:=by have:=ok.three; omega
 show ((upd (W3 i).h i _) j).M= []/\((upd (W3 i).h i _) j).E= []
 rw [Ec _ _ this];exact q3 ok j) j
theorem k1c:(W1a i).Calm 5 where
 msg:=by
  intro j b hb;by_cases e:j=i
  . subst e;have hb:b∈(upd W0.h j ⟨nmI j,c1 j,Bu,false, [m1 j], []⟩ j).M:=hb;rw [Eo] at hb;simp only [List.mem_singleton] at hb;subst hb;exact ⟨by have:=ok.len1; omega,ok.k1,ok.b1⟩
  . have hb:b∈(upd W0.h i ⟨nmI i,c1 i,Bu,false, [m1 i], []⟩ j).M:=hb;rw [Ec _ _ e,(Ny j).1] at hb
    cases hb
 one:=by
  intro j;show ((upd W0.h i ⟨nmI i,c1 i,Bu,false, [m1 i], []⟩) j).M.length<=1/\((upd W0.h i ⟨nmI i,c1 i,Bu,false, [m1 i], []⟩) j).E.length<=1
  by_cases e:j=i
  . subst e; rw [Eo]; exact ⟨aI _,aD _⟩
  . rw [Ec _ _ e,(Ny j).1,(Ny j).2]; exact ⟨aD _,aD _⟩
 few:=aD _
 all:=aD _
 log:=aD _
 tab:=ok.tab.1
 ok:=Mi.Ok.nil
 keys:=rfl
 ops:=rfl
 bxs:=λ k hk=>by cases hk
 stp:=by show 0+1<=1000; decide
theorem k1d:(W1 i).Calm 8:=(k1c ok).aftN 3
theorem k2c:(W2a i).Calm 10:=A2L (λ j=>q1 ok j) (by show 1<=10; decide) (by
 show ((W1 i).M.all++ [m2 i]).length<=10
 have:=(k1d ok).all;simp only [aE,List.length_singleton]
 omega) (by show (W1 i).log.length<=10; have:=(k1d ok).log; omega) ok.tab.2 ((k1d ok).ok.take _) (by show G8 (m2 i)++(W1 i).M.keys= []; rw [ok.k2,(k1d ok).keys]; rfl) (k1d ok).ops ok.b2 (by show 0+1+1<=1000; decide)
theorem k2d:(W2 i).Calm 13:=(k2c ok).aftN 3
theorem k3c:(W3a i).Calm 14:=A2L (λ j=>q2 ok j) (aD _) (by show (W2 i).M.all.length<=14; have:=(k2d ok).all; omega) (by show (W2 i).log.length<=14; have:=(k2d ok).log; omega) ok.tab.2 (k2d ok).ok (k2d ok).keys (k2d ok).ops (k2d ok).bxs (by show 0+1+1+1<=1000; decide)
theorem k3d:(W3 i).Calm 17:=(k3c ok).aftN 3
theorem k4c:(W4a i).Calm 18 where
 msg:=by
  intro j b hb;have hb:b∈((upd (W3 i).h i ⟨nmI i,(c1 i).ended,D4 i,true, [], [0]⟩) j).M:=hb;by_cases e:j=i
  . subst e;rw [Eo] at hb
    cases hb
  . rw [Ec _ _ e,(q3 ok j).1] at hb
    cases hb
 one:=by
  intro j;show ((upd (W3 i).h i ⟨nmI i,(c1 i).ended,D4 i,true, [], [0]⟩) j).M.length<=1/\((upd (W3 i).h i ⟨nmI i,(c1 i).ended,D4 i,true, [], [0]⟩) j).E.length<=1
  by_cases e:j=i
  . subst e; rw [Eo]; exact ⟨aD _,aI _⟩
  . rw [Ec _ _ e,(q3 ok j).1,(q3 ok j).2]; exact ⟨aD _,aD _⟩
 few:=by show (W3 i).P.length<=18; have:=(k3d ok).few; omega
 all:=by show (W3 i).M.all.length<=18; have:=(k3d ok).all; omega
 log:=by show (W3 i).log.length<=18; have:=(k3d ok).log; omega
 tab:=ok.tab.2
 ok:=(k3d ok).ok
 keys:=(k3d ok).keys
 ops:=(k3d ok).ops
 bxs:=(k3d ok).bxs
 stp:=by show 0+1+1+1+1<=1000; decide
theorem k4d:(W4 i).Calm 21:=(k4c ok).aftN 3
end
theorem WS.Calm.mono {S:WS} {n m:Nat} (h:S.Calm n) (hn:n<=m):S.Calm m:=⟨h.msg,h.one,aQ h.few hn,aQ h.all hn,aQ h.log hn,h.tab,h.ok,h.keys,h.ops,h.bxs,h.stp⟩
theorem Zz {s:PS} (e:s.knd=kdN) {W:bF} {A:WA} {j:Nat} {x:HS} {l:List Res} (h:Ad W (Cy A j x::l)):Ad W (K7 (A.p j) A.q s.knd (tx x.nm) x.c x.D x.up x.M x.E::l):=by rw [e]; exact h
theorem A4O {s:PS} (e:s.knd=kdN) {W:bF} {kp q bp:Nat} {K:Aa} {l:List Res} (h:Ad W (Ck kp kdN q bp K::l)):Ad W (Ck kp s.knd q bp K::l):=by rw [e]; exact h
section
variable {i:Nat} (ok:A1g i)
include ok
theorem A7R (x:bE) (W:bF) (hb:Bs W x (m1 i)):bG aA 110 #[x] W λ e w'=>∃pa pn pc,e=.returned (.tuple #[.iface 104 (.agg #[.string (tx (nmI i)),.int .i64 (no i:Int),.int .i64 1600,.slice pa pn pc]),.int .i64 0])/\Below W.heap.size W w'/\Bs w' (.slice pa pn pc) (bx i)/\∀k,0< (bx i).length->(bE.slice pa pn pc).ownBlock=some k->W.heap.size<=k:=by
 refine (Ko x (m1 i) _ _ W hb ok.w1 ok.of1 rfl (.inl rfl)).mono ?_;rintro e w' ⟨v,rfl,hbl,cs,rfl,a1,b1,rfl,rfl,a2,b2,rfl,rfl,a3,b3,rfl,rfl,a4,b4,rfl,⟨v4,rfl,hb4,hf4⟩,rfl⟩;obtain ⟨pa,pc,rfl,_,_⟩:=hb4.form;exact ⟨pa,_,pc,rfl,hbl,hb4,λ k h0 hk=>(hf4 h0 k hk).1⟩
theorem A6W (y:bE) (W:bF) (hy:Bs W y (bx i)):bG aA 92 #[.iface 104 (.agg #[.string (tx (nmI i)),.int .i64 (no i:Int),.int .i64 ((1000+600:Nat):Int),y])] W (Cx W (m1 i,0)):=by
 have hl:=ok.len1;unfold m1 at hl ⊢;unfold p1 at hl ⊢;exact Xc (nmI i) (no i) 1600 (bx i) y W hy ok.ok1 ok.all1 (by omega)
theorem A7S (x:bE) (W:bF) (hb:Bs W x (m2 i)):bG aA 110 #[x] W λ e w'=>∃v,e=.returned (.tuple #[v,.int .i64 0])/\Below W.heap.size W w'/\bG aA 111 #[v] w' λ e w2=>e=.returned (.string (tx (nmI i)))/\Below w'.heap.size w' w2:=by
 refine (Ko x (m2 i) _ _ W hb ok.w2 ok.of2 rfl (.inr rfl)).mono ?_;rintro e w' ⟨v,rfl,hbl,cs,rfl,a1,b1,rfl,rfl,a2,b2,rfl,⟨bv,rfl,hb2,hf2⟩,a3,b3,rfl,⟨v3,rfl,hb3,hf3⟩,rfl⟩;obtain ⟨ya,yc,rfl,_,_⟩:=hb2.form;obtain ⟨za,zc,rfl,_,_⟩:=hb3.form;exact ⟨_,rfl,hbl,Sq (nmI i) Ax ya _ yc za _ zc w'⟩
end
section
variable (A:WA) (S:WS) (l:List Res) (w:bF)
theorem A7F {i:Nat} (hi:i<3) (s0:PS) (nm m:Aa) (pw:ByteArray) (h:Ad w (Ce A S::l)) (hs:S.s=s0) (hkn:s0.knd=kdN) (hh:S.h i=HS.new nm) (hclk:S.clk=1000) (hstp:S.stp<=1000) (hz:s0.sz<=100) (hnl:nm.length<=200) (hpw:pw.size<=1000) (hw:∀y W,Bs W y (Gk s0 nm pw 1000 1).1->bG aA 92 #[.iface 104 (.agg #[.string (tx nm),.int .i64 (Fo (G9 s0 nm pw 1000 1).1:Int),.int .i64 ((1000+600:Nat):Int),y])] W (Cx W (m,0))) (S1:WS) (hS1:S1= { S.tick with s:=(G9 s0 nm pw 1000 1).2,h:=upd S.h i ⟨nm,(Cli.new (tx nm)).logged (Dv s0 nm pw).1 (Fo (G9 s0 nm pw 1000 1).1),Bu,false, [m], []⟩ }) (hc:S1.Calm 80): bG aA 6 #[.pointer (some ⟨A.wp,0,none⟩),.agg (Cq 2 (i:Int) 0 ⟨#[]⟩ pw (.slice none 0 0)).toArray] w λ e w'=>e=.returned (.int .i64 0)/\Ad w' (Ce A S1.aft::l):=by
 refine Vv A S S1 2 (i:Int) 0 ⟨#[]⟩ pw 0 hstp hc l w h λ W hW=>?_
 refine Xy A S.tick S1 2 0 i hi (by decide) (by decide) ⟨#[]⟩ pw 0 (by show S.clk<=_; omega) l W hW (λ W x hW=>?_) ⟨by rw [hS1],by rw [hS1]⟩;refine Qt A.wp (A.p i) (i:Int) 0 _ ⟨#[]⟩ pw _ W _ hW λ W hW=>?_
 obtain ⟨pa,pc,la,lc,vs,hW⟩:=Cf hW.swap;have h1:=(J0 hi hW).zP [0,5];rw [show S.tick.h i=HS.new nm from hh,show S.tick.s=s0 from hs] at h1
 have:=R9 (A.p i) A.q s0 (Cli.new (tx nm)) Bu nm pw 1000 [] [] m _ W (Zz hkn h1) (by omega) (by decide) rfl rfl hnl hpw rfl (by decide) (by show 0<_; decide) hw;rw [show ((1000:Nat):Int)=(S.tick.clk:Int) by rw [show S.tick.clk=S.clk from rfl,hclk]] at this;refine this.mono ?_;rintro e w' ⟨rfl,hd⟩;rw [hkn] at hd;have h3:=hd.zP [0,1];have h4:=(Q3 (A:=A) (f:=S.h) (x:=⟨nm,(Cli.new (tx nm)).logged (Dv s0 nm pw).1 (Fo (G9 s0 nm pw 1000 1).1),Bu,false, [m], []⟩) hi rfl h3).zP [0,1,1,1,1,0];subst hS1;exact ⟨rfl,(El { S.tick with s:=(G9 s0 nm pw 1000 1).2,h:=upd S.h i ⟨nm,(Cli.new (tx nm)).logged (Dv s0 nm pw).1 (Fo (G9 s0 nm pw 1000 1).1),Bu,false, [m], []⟩ } h4).swap⟩
theorem A8O {i:Nat} (ok:A1g i) (h:Ad w (Ce A S::l)) (hP:S.P= [m1 i]) (hs:S.s=s1 i) (hK:S.K=kN) (hL:S.L=LI 3) (hclk:S.clk=1000) (hk:S.Calm 60) (S1:WS) (hS1:S1= { S.tick with s:=s2 i,P:= [m2 i],M:=S.M.take (m2 i) }) (hc:S1.Calm 80):
 bG aA 6 #[.pointer (some ⟨A.wp,0,none⟩),.agg (Cq 16 0 0 ⟨#[]⟩ ⟨#[]⟩ (.slice none 0 0)).toArray] w λ e w'=>e=.returned (.int .i64 0)/\Ad w' (Ce A S1.aft::l):=by
 refine Vv A S S1 16 0 0 ⟨#[]⟩ ⟨#[]⟩ 0 hk.stp hc l w h λ W hW=>?_
 obtain ⟨pa,pc,la,lc,vs,hW⟩:=Cf hW;obtain ⟨ec,hec⟩:∃c:Int,c=((S.tick.clk:Nat):Int):=⟨_,rfl⟩
 rw [show S.tick.P= [m1 i] from hP,show [m1 i].length=1 from rfl,<-hec,show S.tick.K=kN from hK,show S.tick.L=LI 3 from hL,show S.tick.s=s1 i from hs] at hW;have hec2:ec=((1000:Nat):Int):=by rw [hec,show S.tick.clk=S.clk from rfl,hclk]
 obtain ⟨x,rfl,hx⟩:=Vt (hW.zP [3]);refine Qf A.wp 16 0 0 rfl ⟨#[]⟩ ⟨#[]⟩ _ W (λ w'=>Ad w' (Ce A S1::l)) 0 (hx.zP [2,2]) λ W hW=>?_
 refine Oq A.wp A.q A.mp A.sp A.rl _ _ _ _ _ _ _ 0 ⟨#[]⟩ ⟨#[]⟩ x _ W _ 0 hW λ W g c hW=>?_
 have hz:=ok.sz1;refine Y2 A.wp A.q A.mp A.sp A.rl _ _ _ _ _ ec _ A.kp A.cp A.bk (no i:Int) 1600 (nmI i) (nmI i) Ax (bx i) (m2 i) x (m1 i) _ W
  (λ y z l2=>(∀W,Ad W l2->Bs W y (tk i)/\Bs W z (rp i))/\∀W v,Ad W (.row v (m2 i)::.blk A.wp (Co A.q A.mp A.sp A.rl (.slice (some ⟨A.hb,0,none⟩) 3 A.hc) (.slice la S.tick.log.length lc) A.uv (.slice (some ⟨A.zb,0,none⟩) 3 A.zc) ec (S.tick.stp:Int) (.slice (some ⟨g,0,none⟩) 0 c)) 43::D0 A.sp A.kp A.cp A.bk::l2)->
   Ad W (.blk A.wp (Co A.q A.mp A.sp A.rl (.slice (some ⟨A.hb,0,none⟩) 3 A.hc) (.slice la S.tick.log.length lc) A.uv (.slice (some ⟨A.zb,0,none⟩) 3 A.zc) ec (S.tick.stp:Int) (.slice (some ⟨g,0,none⟩) 0 c)) 43::.own 27 1 (.slice (some ⟨g,0,none⟩) 0 c) 0 []::Gb A.mp A.q A.kb A.bb A.ob S.tick.M::pvR A.q (s2 i)::.row v (m2 i)::U6 A S.tick.h::
    D0 A.sp A.kp A.cp A.bk::Bk A.cp [] 64::Ck A.kp kdN A.q A.bp kN::Bg A.bp (LI 3)::Ip A.rl S.tick.box::.blk A.zb (.int .i64 0::.int .i64 0::.int .i64 0::A.zs) 2::.blk A.hb (Zx A) 32::.ownZ 54 30 (.slice la S.tick.log.length lc) S.tick.log.length (Kp S.tick.log)::l))
  (λ w'=>Ad w' (Ce A S1::l)) (hW.zP [0,5]) (hW.tail.tail.rowOf aC) ok.nmk (λ W hb=>A7R ok x W hb) ?_ ?_ ?_
 . intro pa pn pc W x2 hW;have h1:=hW.zP [10,10,8]
   have:=U7 A.kp A.q A.bp (s1 i) kN (LI 3) (usI i) (nmI i) (no i) 1000 1600 (lfI i) (rnI i) 1000 1 (.slice pa pn pc) (bx i) _ W (A4O (kd1 i) h1) (by omega) ok.Kl ok.sor ok.Ll ok.get ok.err (Va _ _ _ _) ok.nml ok.nmr (U9 _ _ _ _) (So _ _ _ _) (by rw [ok.uke]; exact ok.opre) (λ W hW=>hW.tail.tail.tail.rowOf aC) (by decide) (by decide) (by decide) (by decide) (by decide) ok.nol (by unfold lfI; split <;> (try split) <;> decide) (by unfold rnI; split <;> (try split) <;> decide) (by decide);rw [<-hec2] at this;refine this.mono ?_;rintro e w' ⟨y,z,rfl,hc⟩;rw [ok.uke,kd1] at hc;obtain ⟨ya,yc,rfl,_,_⟩:=(hc.rowOf aC).form;obtain ⟨za,zc,rfl,_,_⟩:=(hc.tail.rowOf aC).form;refine ⟨ya,_,yc,za,_,zc,_,rfl,hc.zP [5,5,5],λ W h=>⟨h.rowOf aC,h.tail.rowOf aC⟩,λ W v h=>?_⟩;exact (h.zP [3,3,6,7]).tail.tail.tail.tail.zP [1,5,6,4,0,3,0,2,0,0]
 . intro y z l2 W hR hW;exact Xd (nmI i) Ax (tk i) y (rp i) z W (hR.1 W hW).1 (hR.1 W hW).2 ok.ok2 ok.all2 (by have:=ok.len2; unfold m2 p2 at this; omega)
 . intro v y z l2 W hR hW;have h1:=(hR.2 W v hW).addEmpX.zP [1,1,0];rw [Q8] at h1
   have:=Ot A.wp A.q A.mp A.sp A.rl _ _ _ _ _ ec _ A.q A.kb A.bb A.ob (s2 i).tab S.tick.M [] [] v (m2 i) _ W h1 (λ W hW=>hW.rowOf aC) (by have:=ok.len2; omega) (by decide) ok.tab.2 hk.ok (by have:S.tick.M.all.length<=60:=hk.all; omega) hk.keys ok.k2 hk.ops (by have:=hc.bxs; rw [hS1] at this; exact this);refine this.mono ?_;rintro e w' ⟨rfl,pv',vs',hc⟩;rw [<-Q8,<-hK,<-hL,hec] at hc;have h9:=(hc.zP [5]).tail.zP [5];subst hS1;exact ⟨rfl,El { S.tick with s:=s2 i,P:= [m2 i],M:=S.M.take (m2 i) } h9⟩
theorem A8p (nm m:Aa) (h:Ad w (Ce A S::l)) (hP:S.P= [m]) (hm:m.length<=500) (hmail:Ih S.box) (hnl:nm.length<=200) (hnk:((tx nm).toList== [107,100,99])=false) (hhas:Cz S.box (tx nm)=true) (hemp:(C4 S.box (tx nm) []).length≠16) (hst:S.stp<=1000) (hr:∀x W,Bs W x m->bG aA 110 #[x] W λ e w'=>∃v,e=.returned (.tuple #[v,.int .i64 0])/\Below W.heap.size W w'/\bG aA 111 #[v] w' λ e w2=>e=.returned (.string (tx nm))/\Below w'.heap.size w' w2) (S1:WS) (hS1:S1= { S.tick with P:= [],box:=Dh S.box (tx nm) (C4 S.box (tx nm) []++ [m]) }) (hc:S1.Calm 80): bG aA 6 #[.pointer (some ⟨A.wp,0,none⟩),.agg (Cq 16 0 0 ⟨#[]⟩ ⟨#[]⟩ (.slice none 0 0)).toArray] w λ e w'=>e=.returned (.int .i64 0)/\Ad w' (Ce A S1.aft::l):=by
 refine Vv A S S1 16 0 0 ⟨#[]⟩ ⟨#[]⟩ 0 hst hc l w h λ W hW=>?_
 obtain ⟨pa,pc,la,lc,vs,hW⟩:=Cf hW;rw [show S.tick.P= [m] from hP,show [m].length=1 from rfl] at hW;obtain ⟨x,rfl,hx⟩:=Vt (hW.zP [3]);refine Qf A.wp 16 0 0 rfl ⟨#[]⟩ ⟨#[]⟩ _ W (λ w'=>Ad w' (Ce A S1::l)) 0 (hx.zP [2,2]) λ W hW=>?_
 refine Oq A.wp A.q A.mp A.sp A.rl _ _ _ _ _ _ _ 0 ⟨#[]⟩ ⟨#[]⟩ x _ W _ 0 hW λ W g c hW=>?_
 refine (Ud A.wp A.q A.mp A.sp A.rl _ _ _ _ _ _ _ S.tick.box x m (tx nm) _ W (hW.zP [0,9]) (λ W h=>h.tail.rowOf aC) hm hmail (by rw [Dq]; unfold maxLen; omega) hnk hhas hemp (λ W hb=>hr x W hb)).mono ?_;rintro e w' ⟨rfl,hd⟩;have h9:=(hd.zP [3]).tail.addEmpX.zP [4,1,2,0,1,1,1,1,1,1,0];subst hS1;exact ⟨rfl,El { S.tick with P:= [],box:=Dh S.box (tx nm) (C4 S.box (tx nm) []++ [m]) } (vs:= []) h9⟩
theorem A7z {i:Nat} (ok:A1g i) (h:Ad w (Ce A S::l)) (hs:S.s=s2 i) (hh:S.h i=⟨nmI i,c1 i,Bu,false, [], []⟩) (hclk:S.clk<=100000) (hstp:S.stp<=1000) (hmail:Ih S.box) (hgot:C4 S.box (tx (nmI i)) []= [m2 i]) (S1:WS) (hS1:S1= { S.tick with box:=Dh S.box (tx (nmI i)) [],h:=upd S.h i ⟨nmI i,(c1 i).ended,D4 i,true, [], [0]⟩ }) (hc:S1.Calm 80): bG aA 6 #[.pointer (some ⟨A.wp,0,none⟩),.agg (Cq 15 (i:Int) 0 ⟨#[]⟩ ⟨#[]⟩ (.slice none 0 0)).toArray] w λ e w'=>e=.returned (.int .i64 0)/\Ad w' (Ce A S1.aft::l):=by
 refine Vv A S S1 15 (i:Int) 0 ⟨#[]⟩ ⟨#[]⟩ 0 hstp hc l w h λ W hW=>?_
 refine Xy A S.tick S1 15 0 i ok.three (by decide) (by decide) ⟨#[]⟩ ⟨#[]⟩ 0 hclk l W hW (λ W x hW=>?_) ⟨by rw [hS1],by rw [hS1]⟩;obtain ⟨pa,pc,la,lc,vs,hW⟩:=Cf hW.swap;have h1:=J0 ok.three hW;rw [show S.tick.h i=⟨nmI i,c1 i,Bu,false, [], []⟩ from hh,show S.tick.s=s2 i from hs] at h1;unfold Cy at h1;obtain ⟨hcp,hst,hsh,hcm,htm,aa,an,ac,ma,mc,ea,ec,ms,h1⟩:=E7 h1;refine Qs A.wp A.q A.mp A.sp A.rl _ _ _ _ _ _ _ (A.p i) (i:Int) 0 _ ⟨#[]⟩ ⟨#[]⟩ S.tick.box (m2 i) [] _ _ _ _ (tx (nmI i)) hcp hsh hcm htm false _ W 0 _ (h1.zP [10,18,0]) (by rw [Dq]; have:=ok.nml; unfold maxLen; omega) hmail hgot λ W va vc hW hb=>?_
 have h2:=(Ga (M:= []) (E:= []) (hW.zP [2,2,2,2,2,2,2,2,2])).zP [0,6];have hz:=ok.sz2
 have:=Ug (A.p i) A.q (s2 i) (c1 i) Bu (in2 i) (no i) (nmI i) (tk i) (rp i) (m2 i) (S.tick.clk:Int) false [] [] va vc _ W (Zz (A:=A) (j:=i) (x:=⟨nmI i,c1 i,Bu,false, [], []⟩) (kd2 i) h2) hb (by omega) (by decide) ok.ukl ok.ins ok.nol rfl rfl ok.orep (by have:=ok.tkl; omega) ok.put rfl rfl ok.w2 ok.of2;refine this.mono ?_;rintro e w' ⟨rfl,hc⟩;rw [kd2] at hc;have h4:=hc.zP [0,3];have h5:=(Q3 (A:=A) (f:=S.h) (x:=⟨nmI i,(c1 i).ended,D4 i,true, [], [0]⟩) ok.three rfl h4).zP [0,1,2,2,2,0,1,1,1,1,0];subst hS1;rw [<-hs] at h5;exact ⟨rfl,(El { S.tick with box:=Dh S.box (tx (nmI i)) [],h:=upd S.h i ⟨nmI i,(c1 i).ended,D4 i,true, [], [0]⟩ } h5).swap⟩
end
section
variable (A:WA) {i:Nat} (ok:A1g i)
include ok
theorem A0W (l:List Res) (w:bF) (h:Ad w (Ce A W0::l)): bG aA 6 #[.pointer (some ⟨A.wp,0,none⟩),.agg (Cq 2 (i:Int) 0 ⟨#[]⟩ (pwI i) (.slice none 0 0)).toArray] w λ e w'=>e=.returned (.int .i64 0)/\Ad w' (Ce A (W1 i)::l):=
 A7F A W0 l w ok.three W0.s (nmI i) (m1 i) (pwI i) h rfl kd0 rfl rfl (by decide) ok.sz0 ok.nml ok.pwl (λ y W hy=>A6W ok y W hy) (W1a i) rfl ((k1c ok).mono (by decide))
theorem A7Z (l:List Res) (w:bF) (h:Ad w (Ce A (W1 i)::l)): bG aA 6 #[.pointer (some ⟨A.wp,0,none⟩),.agg (Cq 16 0 0 ⟨#[]⟩ ⟨#[]⟩ (.slice none 0 0)).toArray] w λ e w'=>e=.returned (.int .i64 0)/\Ad w' (Ce A (W2 i)::l):=
 A8O A (W1 i) l w ok h ok.P1 rfl rfl rfl rfl ((k1d ok).mono (by decide)) (W2a i) rfl ((k2c ok).mono (by decide))
theorem A6U (l:List Res) (w:bF) (h:Ad w (Ce A (W2 i)::l)): bG aA 6 #[.pointer (some ⟨A.wp,0,none⟩),.agg (Cq 16 0 0 ⟨#[]⟩ ⟨#[]⟩ (.slice none 0 0)).toArray] w λ e w'=>e=.returned (.int .i64 0)/\Ad w' (Ce A (W3 i)::l):=
 A8p A (W2 i) l w (nmI i) (m2 i) h ok.P2 ok.len2 ok.mail2 ok.nml ok.nmk ok.has (by rw [ok.emp]; decide) (k2d ok).stp (λ x W hb=>A7S ok x W hb) (W3a i) rfl ((k3c ok).mono (by decide))
theorem A5N (l:List Res) (w:bF) (h:Ad w (Ce A (W3 i)::l)): bG aA 6 #[.pointer (some ⟨A.wp,0,none⟩),.agg (Cq 15 (i:Int) 0 ⟨#[]⟩ ⟨#[]⟩ (.slice none 0 0)).toArray] w λ e w'=>e=.returned (.int .i64 0)/\Ad w' (Ce A (W4 i)::l):=
 A7z A (W3 i) l w ok h rfl ok.h3 (by show 1000<=100000; decide) (k3d ok).stp ok.mail3 ok.got (W4a i) rfl ((k4c ok).mono (by decide))
end
end
theorem A1u (k:Int):Tryz.prog.built 29 [(0,.int .i64 k)]=some (Cq k 0 0 ⟨#[]⟩ ⟨#[]⟩ (.slice none 0 0)).toArray:=by kernel_rfl
theorem Yr (k h:Int):Tryz.prog.built 29 [(0,.int .i64 k),(1,.int .i64 h)]=some (Cq k h 0 ⟨#[]⟩ ⟨#[]⟩ (.slice none 0 0)).toArray:=by kernel_rfl
def Jk (i k m:Nat):Nat:=if k=2/\m<=i then 2 else 3
def dnB (i k m:Nat):Bool:=decide (k=3\/m<=i)
theorem Qu (A:WA) (St:Nat->WS) (i:Nat) (hi:i<3) (l:List Res) (w:bF) (h:Ad w (Ce A (St 0)::l)) (hP:∀k,k<=3->(St k).P.length=if k<2 then 1 else 0) (hnm:∀k j,((St k).h j).nm.length<=200) (hbx:∀m,m<3->(C4 (St 2).box (tx ((St 2).h m).nm) []).length=if m=i then 1 else 0) (hb3:∀m,m<3->(C4 (St 3).box (tx ((St 3).h m).nm) []).length=0) (hdo:∀k,k<2->∀W l,Ad W (Ce A (St k)::l)->bG aA 6 #[.pointer (some ⟨A.wp,0,none⟩),.agg (Cq 16 0 0 ⟨#[]⟩ ⟨#[]⟩ (.slice none 0 0)).toArray] W λ e w'=>e=.returned (.int .i64 0)/\Ad w' (Ce A (St (k+1))::l)) (hfe:∀W l,Ad W (Ce A (St 2)::l)->bG aA 6 #[.pointer (some ⟨A.wp,0,none⟩),.agg (Cq 15 (i:Int) 0 ⟨#[]⟩ ⟨#[]⟩ (.slice none 0 0)).toArray] W λ e w'=>e=.returned (.int .i64 0)/\Ad w' (Ce A (St 3)::l)): bG aA 7 #[.pointer (some ⟨A.wp,0,none⟩),.int .i64 50] w λ e w'=>e=.returned (.tuple #[])/\Ad w' (Ce A (St 3)::l):=by
 have HC:=Ab h;have HP:=Ab hP;have HN:=Ab hnm;have HBX:=Ab hbx;have HB3:=Ab hb3;have HDO:=Ab hdo;have HFE:=Ab hfe;clear h hP hnm hbx hb3 hdo hfe;go_enter Tryz.func7,Tryz.ntmps7;go_wp2_with fail;go_loopw [8] (λ n wr=>∃k:Nat,k<=3/\n=.int .i64 k/\Ad wr (Ce A (St k)::l)) (λ n _=>4- (intOf n).toNat)
 case atStart=>exact ⟨0,by omega,rfl,HC.o⟩
 case round=>
  obtain ⟨k,hk,rfl,hr⟩:=hrel;clear HC;have hk50:(k:Int)<50:=by omega
  obtain ⟨pa,pc,c10⟩:=A4c hr;rw [HP.o k hk] at c10;have HC:=Ab hr;clear hr;by_cases hk2:k<2
  . rw [if_pos hk2] at c10;have HD:=Ab (HDO.o k hk2 wr l HC.o);go_upto_region 3 with fail;refine An ?_;refine zV ?_;refine zV ?_ (v:=.agg (Cq 16 0 0 ⟨#[]⟩ ⟨#[]⟩ (.slice none 0 0)).toArray) (hr:=by have e:=A1u 16; go_simp; try rfl);refine Af (λ K hK=>?_);go_simp;refine HD.o.mono ?_;rintro e w1 ⟨rfl,hc⟩;have HC:=Ab hc;clear hc HD c10;refine zqp hK ?_;clear hK K;refine wpList_nil ?_;go_wp2_with fail;go_roundw
    case rel=>exact ⟨k+1,by omega,by go_num,HC.o⟩
    case measure=>simp [intOf]; omega
  . rw [if_neg hk2] at c10;have c4:=E6 HC.o;go_wp2_with fail;clear c10;go_loopw [4,24] (λ d n wr2=>∃m:Nat,m<=3/\n=.int .i64 m/\d=.bool (dnB i k m)/\Ad wr2 (Ce A (St (Jk i k m))::l)) (λ _ n _=>3- (intOf n).toNat)
    case atStart=>
     refine ⟨0,by omega,rfl,by unfold dnB; simp,?_⟩
     have:Jk i k 0=k:=by unfold Jk; split <;> omega
     rw [this];exact HC.o
    case round=>
     obtain ⟨m,hm,rfl,rfl,hr2⟩:=hrel;clear HC c4;have HC:=Ab hr2;clear hr2;by_cases hm3:m<3
     . have hm0:(m:Int)<3:=by omega
       have cm:=Ig HC.o hm3;obtain ⟨N,hN⟩:∃N,N=(C4 (St (Jk i k m)).box (tx ((St (Jk i k m)).h m).nm) []).length:=⟨_,rfl⟩
       have hsz:(tx ((St (Jk i k m)).h m).nm).size<=maxLen:=by rw [Dq]; have:=HN.o (Jk i k m) m; unfold maxLen; omega
       have HLEN:=Ab (λ (W:bF) (h:Ad W (Ce A (St (Jk i k m))::l))=>A2y h _ hsz);rw [<-hN] at HLEN;have hN2:N=if k=2/\m=i then 1 else 0:=by
        rw [hN];by_cases h2:k=2/\m<=i
        . have e:Jk i k m=2:=by unfold Jk; rw [if_pos h2]
          rw [e,HBX.o m hm3];by_cases h3:m=i
          . rw [if_pos h3,if_pos ⟨h2.1,h3⟩]
          . rw [if_neg h3,if_neg (λ h=>h3 h.2)]
        . have e:Jk i k m=3:=by unfold Jk; rw [if_neg h2]
          rw [e,HB3.o m hm3,if_neg (λ h=>h2 ⟨h.1,by omega⟩)]
       clear hN hsz;go_upto_region 8 with fail;clear cm;refine B5 [] (λ b W=>W.cell? ⟨A.wp,3,none⟩=some (.pointer (some ⟨A.rl,0,none⟩))) (by kernel_rfl) ?_;have HC:=Ab HC.o.drew;have HS:=Ab (A2z HC.o);refine zT 0 ?_;refine zT 1 ?_;refine zT 2 ?_;refine zT 3 ?_;refine zT 4 ?_;refine zJ 5 λ K hK=>?_
       go_simp;refine (A0X HC.o hm3).mono ?_;rintro e w1 ⟨rfl,rfl⟩;refine zq hK ?_;clear hK K;refine zJ 6 λ K hK=>?_
       go_simp;refine (HLEN.o _ HC.o).mono ?_;rintro e w1 ⟨rfl,rfl⟩;refine zq hK ?_;clear hK K HLEN;by_cases hfi:k=2/\m=i
       . rw [if_pos hfi] at hN2;subst hN2;refine zT 7 ?_ (v:=.bool true);refine zD ?_;have e2:Jk i k m=2:=by unfold Jk; rw [if_pos ⟨hfi.1,Nat.le_of_eq hfi.2⟩]
         have h2:=HC.o;rw [e2] at h2;have hD:=HFE.o _ l h2;rw [<-hfi.2] at hD;have HD:=Ab hD;have HFI:=Ab hfi;clear HC h2 hD e2 hfi;go_upto_region 9 with fail;refine An ?_;(iterate 2 refine zV ?_);refine zV ?_ (v:=.agg (Cq 15 (m:Int) 0 ⟨#[]⟩ ⟨#[]⟩ (.slice none 0 0)).toArray) (hr:=by have e:=Yr 15 (m:Int); go_simp; try rfl);refine Af (λ K hK=>?_);go_simp;refine HD.o.mono ?_;rintro e w1 ⟨rfl,hc⟩;have HC:=Ab hc;clear hc HD;refine zqp hK ?_;clear hK K;refine wpList_nil ?_;go_wp2_with fail;go_roundw
         case rel=>
          have hfi:=HFI.o;refine ⟨m+1,by omega,by go_num,by unfold dnB; rw [decide_eq_false (by omega)],?_⟩
          have:Jk i k (m+1)=3:=by unfold Jk; rw [if_neg (by omega)]
          rw [this];exact HC.o
         case measure=>simp [intOf]; omega
       . rw [if_neg hfi] at hN2;subst hN2;refine zT 7 ?_ (v:=.bool false);refine zD ?_;have e2:Jk i k (m+1)=Jk i k m:=by
          unfold Jk;by_cases h2:k=2/\m<=i
          . have:m≠i:=λ h=>hfi ⟨h2.1,h⟩
            rw [if_pos h2,if_pos ⟨h2.1,by omega⟩]
          . rw [if_neg h2,if_neg (λ h=>h2 ⟨h.1,by omega⟩)]
         have e3:dnB i k m=dnB i k (m+1):=by
          unfold dnB;refine decide_eq_decide.2 ?_;constructor
          . rintro (h | h)
            . exact .inl h
            . by_cases h3:k=3
              . exact .inl h3
              . have:m≠i:=λ h=>hfi ⟨by omega,h⟩
                exact .inr (by omega)
          . rintro (h | h)
            . exact .inl h
            . exact .inr (by omega)
         have HE2:=Ab e2;rw [e3];clear e2 e3;go_wp2_with fail;go_roundw
         case rel=>exact ⟨m+1,by omega,by go_num,rfl,by rw [HE2.o]; exact HC.o⟩
         case measure=>simp [intOf]; omega
     . obtain rfl:m=3:=by omega
       have e3:Jk i k 3=3:=by unfold Jk; rw [if_neg (by omega)]
       rw [e3] at HC;by_cases hk3:k=3
       . have ed:dnB i k 3=true:=by unfold dnB; simp [hk3]
         rw [ed];go_wp2_with fail;refine bodyPost_ret (results_none rfl _ _ _) rfl ?_;exact ⟨rfl,HC.o⟩
       . have ed:dnB i k 3=false:=by unfold dnB; exact decide_eq_false (by omega)
         rw [ed];have hk2':k=2:=by omega
         go_wp2_with fail;go_roundw
         case rel=>exact ⟨3,by omega,rfl,HC.o⟩
         case measure=>simp [intOf]; omega
end Go.Proofs.YtcnfaghcjlhoiaaGreat
namespace Go.Proofs.YtcnfaghcjlhoiaaGreat
theorem A1Z (a:Act) (xs:List Operand):((xs.zipIdx 0).map λ x=>((x.2,x.1):Nat×Operand)).map (λ p=>(p.1,a.eval p.2))=((xs.map a.eval).zipIdx 0).map λ x=>(x.2,x.1):=by
 apply List.ext_getElem
 . simp
 . intro i h1 h2;simp
theorem A2A {P:Program} {ops:Array Oper} {rest:List Oper} {o:Oper} {a:Act} {w:bF} {Q:Exit->Act->bF->Prop} (hg:o.guard=none) (xs:List Operand) {t e:TypeId} {size bytes:Nat} {z:bE} (hE:Cp P t e size bytes z) {parts:Array (Nat×Operand)} {n:Nat} (ho:o.op=.buildSlice t n parts) (hp:parts.toList=(xs.zipIdx 0).map λ x=>(x.2,x.1)) (hn:xs.length=n) {cs:List (List bE)} (hev:xs.map a.eval=cs.map λ c=>.agg c.toArray) (h1:∀c∈cs,c.length=size) (hpos:0<n) (hs:n*size<=16777216) (h:wpList P ops Q rest (a.put o.dst (.slice (some ⟨w.heap.size,0,none⟩) n n)) (w.alloc (.cells cs.flatten.toArray e))):wpList P ops Q (o::rest) a w:=by
 obtain ⟨ht,i,hi,hz,hsize,hby,hzs,hsz⟩:=hE;have hcl:cs.length=n:=by
  have:=congrArg List.length hev;simp at this;omega
 have hmul:=Nat.mul_pos hpos hsz;refine wpList_buildSlice hg t e n parts ho _ i z ht hi hz (by rw [hsize]; omega) (by rw [hsize]; omega) ?_ h;have e1:(parts.map λ (i,x)=>(i,a.eval x)).toList=((cs.map λ c=>bE.agg c.toArray).zipIdx 0).map λ x=>(x.2,x.1):=by
  rw [Array.toList_map,hp,<-hev];exact A1Z a xs
 rw [e1,hsize];have e2:cs.flatten.toArray=((cs.map λ c=>bE.agg c.toArray).flatMap λ v=>v.cells.toList).toArray:=by
  congr 1;clear hev e1 h1 hcl h;induction cs with
  | nil=>rfl
  | cons c cs ih=>simp [bE.cells] at ih ⊢; exact ih
 rw [e2];exact Great.fill_whole hsz _ _ (by
  intro v hv;obtain ⟨c,hc,rfl⟩:=List.mem_map.1 hv;simp [bE.cells,h1 c hc]) (by simp [hcl])
end Go.Proofs.YtcnfaghcjlhoiaaGreat
