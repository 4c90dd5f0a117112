/- Texts of this proof, one behind the other: SyT, KeyOps, SyO, PvC, TkMk, MExtra, MTks, MMsg, MVCx, MVal. -/
import Derived.Test.YtcnfaghcjlhoiaaGreatWeA1
import Derived.Test.YtcnfaghcjlhoiaaGreatWeA3
import Derived.Test.YtcnfaghcjlhoiaaGreatWeA4
import Derived.Test.YtcnfaghcjlhoiaaGreatWeA5
import Derived.Test.YtcnfaghcjlhoiaaGreatWeA6
set_option linter.unusedSimpArgs false
set_option linter.unusedVariables false
set_option maxRecDepth 100000
set_option maxHeartbeats 16000000
open Go.Proofs.Tryz renaming prog -> aA, underlying144 -> aK, func122 -> aN, ntmps122 -> aO
open Nat renaming le_refl -> aB, zero_le -> aE, lt_or_ge -> aI, add_assoc -> aR
open Go.RowKit.Below renaming refl -> aC
open List renaming mem_of_getElem? -> aD, getElem_mem -> aF, getElem?_eq_getElem -> aG, getElem?_append -> aH, getD_eq_getElem?_getD -> aJ, length_map -> aL, length_append -> aM, drop_of_length_le -> aP, take_of_length_le -> aQ, takeWhile_cons -> aS, take_succ_cons -> aT, all_cons -> aU, drop_succ_cons -> aV, take_succ_eq_append_getElem -> aW
open Go renaming Value -> aX, World -> aY, TypeId -> aZ, Calls -> bA, IntKind -> bB, Oper -> bC
namespace Go.Proofs.YtcnfaghcjlhoiaaGreat
open Go.RowKit Go.Maps Go.MapKept Go.WideMaps
theorem Rs.three {w:aY} {T:aZ} {u1 u2 u3:aX} {r1 r2 r3:Aa} (h1:Bs w u1 r1) (h2:Bs w u2 r2) (h3:Bs w u3 r3):Rs (w.alloc (.cells #[u1,u2,u3] T)) (.slice (some ⟨w.heap.size,0,none⟩) 3 3) [r1,r2,r3]:=by
 obtain ⟨a1,c1,e1,_⟩:=h1.form;obtain ⟨a2,c2,e2,_⟩:=h2.form;obtain ⟨a3,c3,e3,_⟩:=h3.form;refine ⟨[u1,u2,u3],rfl,Sl.lit (cs:=#[u1,u2,u3]) rfl rfl (by simp [e1,e2,e3,aX.oneCell']) (by unfold maxLen; decide),λ j u r hu hr=>?_⟩
 match j,hu,hr with
 | 0,hu,hr=>simp at hu hr; subst hu hr; exact h1.alloc _
 | 1,hu,hr=>simp at hu hr; subst hu hr; exact h2.alloc _
 | 2,hu,hr=>simp at hu hr; subst hu hr; exact h3.alloc _
 | j+3,hu,hr=>simp at hu
theorem A6o (k:Nat) (hk:k<1099511627777) (w:aY):bA aA 121 #[.int .u8 107,.int .i64 ((k:Int)+1)] w (Qx w 107 (k+1)):=J2 107 (k+1) (by omega) w
theorem Oy.add {s:Sy} (h:Oy s) (f:Fk):Oy (s.add f).2:=⟨h.bx,h.kn⟩
theorem Oy.made {s:Sy} (h:Oy s) (f:Fk):Oy (s.made f).2:=by
 unfold Sy.made;split
 . exact h
 . refine ⟨h.bx,λ x hx=>?_⟩;rcases Sj hx with rfl | ⟨hx,_⟩
   . exact Ar _ _
   . exact h.kn x hx
theorem Ob {s:Sy} (h:Oy s) (f:Fk):(s.made f).1.length=16:=by
 unfold Sy.made;split
 . rename_i hh;exact h.kn _ (Gj hh _)
 . exact Ar _ _
theorem Th (q:Nat) (s:Sy) (f:Fk) (l:List Res) (w:aY) (h:Ad w (Dm q s::l)) (hn:s.keys.length<1099511627776): bA aA 209 #[.pointer (some ⟨q,0,none⟩),.agg f.cells.toArray] w λ e w'=>e=.returned (A1 (s.add f).1)/\Ad w' (Dm q (s.add f).2::l):=by
 obtain ⟨⟨kv,bv,sv,m,vs,bs⟩,hok,h⟩:=Cc.1 h;simp only at h hok;have HOK:=Ab hok;obtain ⟨a0,c0,rfl,hc0,hm0⟩:=h.swap.slf;have HN:=Ab hn;have HFL:=Ab f.cells_length;have HFO:=Ab f.cells_one;have HC:=Ab ((h.addBlkAt f.cells 261 (b:=w.heap.size) rfl).addBlkAt Bo 46 (b:=w.heap.size+1) (by simp));unfold maxLen at hm0;clear h hok hn;go_enter Tryz.func209,Tryz.ntmps209;go_wp2_with fail;refine B5 [10] (λ b W=>Ao W w.heap.size 0 f.cells/\(b= [false]->W.cell? ⟨q,0,none⟩=some (.slice a0 s.keys.length c0))) (by kernel_rfl) ?_;have HC:=Ab HC.o.drew;refine zT 0 ?_;refine zT 1 ?_;refine zT 2 ?_;refine zT 3 ?_;refine zTk 4 [10] ?_ (hr:=λ l W hk hW=>by have c:=hW.2 (Iy hk); go_simp; try rfl);refine zT 5 ?_ (hr:=λ _ _ _ hW=>ldJ Hu rfl HFL.o hW.1);refine zJ 6 λ K hK=>?_
 refine Is rfl (.tmp 10) A4x rfl rfl (by simpa using HFL.o) (by decide) ?_;have HC:=Ab (HC.o.addBlk f.cells 261);refine zq hK ?_;clear hK K;refine zJ 7 λ K hK=>?_
 have hown:=HC.o.ownOf (e:=261) (sz:=18) (v:=.slice a0 s.keys.length c0) (n:=s.keys.length) (cs:=frC s.keys) (by simp);have hsl:=(HC.o.head.elim λ _ hF=>hF.1.slS HFL.o HFO.o);refine D3 rfl (.tmp 9) (.tmp 11) A4x rfl 0 (v:=.slice a0 s.keys.length c0) rfl hown.1 hown.2 rfl hsl (by have:=HN.o; unfold maxLen; omega) (by have:=HN.o; omega) (aE _) ?_;intro v4 w4 ho hk hv;obtain ⟨a1,c1,rfl,_,_⟩:=ho.sl.form;have HC:=Ab (HC.o.tail.pull4.append ho hk hv);clear ho hk hv hown hsl;refine hK _ _ ⟨(HC.o.zB w.heap.size).cellsAll,λ _=>(HC.o.tail.tail.tail.head.elim λ _ hF=>hF.1.cell 0)⟩ ?_;clear hK K;try go_frame
 refine zT 8 ?_ (hS:=⟨(HC.o.zB w.heap.size).cellsAll,λ _=>(HC.o.tail.tail.tail.head.elim λ _ hF=>hF.1.cell 0)⟩);refine zT 9 ?_ (hS:=⟨(HC.o.zB w.heap.size).cellsAll,λ _=>(HC.o.tail.tail.tail.head.elim λ _ hF=>hF.1.cell 0)⟩);refine zJ 10 λ K hK=>?_
 have hblk:=HC.o.pull4.head.elim λ _ hF=>hF.1
 have cc:=hblk.cell 0;have cf:=hblk.frozen 0;have ch:=hblk.lt;have HC:=Ab (HC.o.pull4.set 0 (.slice a1 (s.keys.length+1) c1));go_simp;clear hblk cc cf ch;refine hK _ _ ⟨(HC.o.zB w.heap.size).cellsAll,λ h=>by simp [Er] at h⟩ ?_;clear hK K;try go_frame
 refine zD ?_;generalize aY.setCell _ _ _=w5 at HC ⊢;have c5:=HC.o.head.elim λ _ hF=>hF.1.cell 0
 go_wp2_with fail;refine (A6o s.keys.length (by have:=HN.o; omega) _).mono ?_;rintro e w7 ⟨rfl,hb⟩;have HC:=Ab ((HC.o.step hb).pull3);have HKL:Hq ((Ae (Bb 107 (s.keys.length+1))).length=16):=Ab (by rw [Ac,Ar]);unfold A1;clear hb c5;go_wp2_with ((with_reducible refine zws 4 20 ?_);refine Ag rfl (.tmp 4) (.tmp 20) Aq rfl rfl (vs:=Ae (Bb 107 (s.keys.length+1))) rfl HKL.o (HC.o.head.elim λ _ hF=>hF.1) (aB _) (Al _) ?_);intro w8 h8 k8;have h8':Blk w8 (w.heap.size+1) (Ae (Bb 107 (s.keys.length+1))) 46:=by simpa [Bo] using h8
 have HC:=Ab (HC.o.reblk h8' k8);clear h8 h8' k8;go_wp2_with fail;refine bodyPost_ret (Az rfl Aq rfl (cs:=Ae (Bb 107 (s.keys.length+1))) HKL.o (HC.o.head.elim λ _ hF=>hF.1.cellsAll)) rfl ⟨rfl,?_⟩;have e1:frC s.keys++f.cells=frC (s.add f).2.keys:=by simp [frC,Sy.add]
 have e2:s.keys.length+1=(s.add f).2.keys.length:=by simp [Sy.add]
 have h:=HC.o.tail;rw [e1,e2] at h;exact Cc.2 ⟨⟨_,bv,sv,m,vs,bs⟩,⟨HOK.o.1.add f,HOK.o.2⟩,h.pull3.tail⟩
theorem Gq {α:Type} [DecidableEq α] {kL:α->Lit} {P:Program} {w:aY} {ops:Array bC} {o:bC} {a:Act} {K':Act->aY->Prop} {Q:Exit->Act->aY->Prop} {E:Prop} (hgd:o.guard=none) (m x v:Operand) {t:aZ} (hop:o.op=Op.mapUpdate t m x v) (k e:aZ) (K:Keyed P k) (hk:J9 kL) (ht:P.underlying t=some (.map k e)) (b:Nat) (M:List (α×aX)) (hm:a.eval m=.map (some b)) (hown:C7 P k kL w b M) (hn:M.length<maxLen) (s:α) (hkey:keyOf P k (a.eval x)=some (kL s)) (h:∀w',C7 P k kL w' b (Dh M s (a.eval v))->Ai (λ k=>k=b\/w.heap.size<=k) w w'->w'.heap.size=w.heap.size->K' (a.put o.dst undef) w'):if Region.wanted o (yielded ops a.tmps)=true then bC.wp P o a w K' Q else E:=by
 have hw:Region.wanted o (yielded ops a.tmps)=true:=by simp [Region.wanted,hgd]
 rw [if_pos hw];obtain ⟨D,hd,ho⟩:=hown;obtain ⟨w',hrun,r1,r2⟩:=ho.store K ht (by rw [hd.size]; exact hn) hkey (val:=a.eval v) (d:=.held (a.eval v)) (ps:= []) rfl;unfold bC.wp;simp [execOp,hop,hm,hrun,Result.andThen];refine h w' ⟨_,hd.put hk s (a.eval v),Gp r1⟩ (I3 r2.grown) ?_;obtain ⟨es,clock,es',clock',e1,rfl⟩:=r2;simp [Go.ChangeMaps.setBlock]
theorem Qk {α:Type} [DecidableEq α] {kL:α->Lit} {P:Program} {w:aY} {o:bC} {a:Act} (m x:Operand) {t:aZ} (hop:o.op=Op.lookup t m x true) (k e:aZ) (K:Keyed P k) (hk:J9 kL) (ht:P.underlying t=some (.map k e)) {z:aX} (hz:(zeroValue e).run P w=.ok z w) (b:Nat) (M:List (α×aX)) (hm:a.eval m=.map (some b)) (hown:C7 P k kL w b M) (s:α) (hkey:keyOf P k (a.eval x)=some (kL s)):(execOp a.eval o).run P w=.ok (.value (.tuple #[C4 M s z,.bool (Cz M s)])) w:=by
 obtain ⟨D,hd,ho⟩:=hown;obtain ⟨v,ps,hrun,hv⟩:=ho.look_ok K ht hz (zd:=.held z) (zp:= []) rfl hkey;rw [hd.at hk] at hv;simp only [Nm,Option.some.injEq,Prod.mk.injEq,DataW.held.injEq] at hv;rw [hv.1,hd.has hk] at hrun;simp [execOp,hop,hm,hrun,Result.andThen]
theorem A1k (k:Aa) (lb:ByteArray) (hk:k.length=16):Tryz.prog.built 261 [(0,.agg (Ae k).toArray),(1,.string lb)]=some (Ae k++ [aX.string lb,aX.bool false]).toArray:=by
 obtain ⟨c0,c1,c2,c3,c4,c5,c6,c7,c8,c9,c10,c11,c12,c13,c14,c15,rfl⟩:=By k hk
 kernel_rfl
theorem A1l (lb:ByteArray):Tryz.prog.built 261 [(1,.string lb),(2,.bool true)]=some (Ae zk++ [aX.string lb,aX.bool true]).toArray:=by kernel_rfl
theorem A8L (w:aY):(zeroValue 46).run aA w=.ok (A1 zk) w:=by kernel_rfl
theorem A6h (s:Sy) (f:Fk):Cz (knM s) f=Cz s.known f:=Jz A1 _ _
theorem A6g (s:Sy) (f:Fk):C4 (knM s) f (A1 zk)=A1 (C4 s.known f zk):=R3 A1 _ _ _
theorem A6i (s:Sy) (f:Fk) (k:Aa):Dh (knM s) f (A1 k)=knM { s with known:=Dh s.known f k } :=Oh A1 _ _ _
theorem A4U {s:Sy} (h:Oy s) (f:Fk):(C4 s.known f zk).length=16:=by
 cases hh:Cz s.known f with
 | true=>exact h.kn _ (Gj hh _)
 | false=>rw [I2 hh]; exact Md
theorem Qd (q:Nat) (s:Sy) (f:Fk) (l:List Res) (w:aY) (h:Ad w (Dm q s::l)) (hn:s.keys.length<1099511627776) (hkn:s.known.length<1099511627776): bA aA 146 #[.pointer (some ⟨q,0,none⟩),.agg f.cells.toArray] w λ e w'=>e=.returned (A1 (s.made f).1)/\Ad w' (Dm q (s.made f).2::l):=by
 obtain ⟨⟨kv,bv,sv,m,vs,bs⟩,hok,h⟩:=Cc.1 h;simp only at h hok;have HOK:=Ab hok;have HN:=Ab hn;have HKN:=Ab hkn;have HFL:=Ab f.cells_length;have HFO:=Ab f.cells_one;obtain ⟨K,hK⟩:∃K,K=Cz s.known f:=⟨_,rfl⟩
 obtain ⟨g,hg⟩:∃g,g=C4 s.known f zk:=⟨_,rfl⟩
 have HV:Hq (Cz (knM s) f=K):=Ab (by rw [A6h,hK]);have HG:Hq (C4 (knM s) f (A1 zk)=A1 g):=Ab (by rw [A6g,hg]);have HGL:Hq ((Ae g).length=16):=Ab (by rw [Ac,hg]; exact A4U hok.1 f);have HGE:=Ab hg;have HKE:=Ab hK;have HC:=Ab ((h.addBlkAt f.cells 261 (b:=w.heap.size) rfl).addBlkAt Bo 46 (b:=w.heap.size+1) (by simp));clear h hok hn hkn hK hg;go_enter Tryz.func146,Tryz.ntmps146;go_wp2_with fail;refine B5 [] (λ b W=>Ao W w.heap.size 0 f.cells/\W.cell? ⟨q,3,none⟩=some (.map (some m))/\C7 aA 261 frL W m (knM s)) (by kernel_rfl) ?_;have HC:=Ab HC.o.drew;refine zT 0 ?_ (hS:=⟨(HC.o.zB w.heap.size).cellsAll,(HC.o.zB q).cell 3,(HC.o.mapVOf (P:=aA) (k:=261) (kL:=frL) (b:=m) (M:=knM s) (by simp))⟩);refine zT 1 ?_ (hS:=⟨(HC.o.zB w.heap.size).cellsAll,(HC.o.zB q).cell 3,(HC.o.mapVOf (P:=aA) (k:=261) (kL:=frL) (b:=m) (M:=knM s) (by simp))⟩);refine zT 2 ?_ (hS:=⟨(HC.o.zB w.heap.size).cellsAll,(HC.o.zB q).cell 3,(HC.o.mapVOf (P:=aA) (k:=261) (kL:=frL) (b:=m) (M:=knM s) (by simp))⟩);refine zT 3 ?_ (hS:=⟨(HC.o.zB w.heap.size).cellsAll,(HC.o.zB q).cell 3,(HC.o.mapVOf (P:=aA) (k:=261) (kL:=frL) (b:=m) (M:=knM s) (by simp))⟩);refine zT 4 ?_ (hr:=λ _ _ _ hW=>ldJ Hu rfl HFL.o hW.1) (hS:=⟨(HC.o.zB w.heap.size).cellsAll,(HC.o.zB q).cell 3,(HC.o.mapVOf (P:=aA) (k:=261) (kL:=frL) (b:=m) (M:=knM s) (by simp))⟩);refine zT 5 ?_ (v:=.tuple #[.agg (Ae g).toArray,.bool K]) (hr:=λ l W hk hW=>(Qk (.tmp 11) (.tmp 12) rfl 261 46 A2S A7c aK (A8L W) m (knM s) (by rfl) hW.2.2 f (by exact A7d f)).trans (by rw [HG.o,HV.o]; rfl)) (hS:=⟨(HC.o.zB w.heap.size).cellsAll,(HC.o.zB q).cell 3,(HC.o.mapVOf (P:=aA) (k:=261) (kL:=frL) (b:=m) (M:=knM s) (by simp))⟩);refine zT 6 ?_ (hS:=⟨(HC.o.zB w.heap.size).cellsAll,(HC.o.zB q).cell 3,(HC.o.mapVOf (P:=aA) (k:=261) (kL:=frL) (b:=m) (M:=knM s) (by simp))⟩);refine zT 7 ?_ (hS:=⟨(HC.o.zB w.heap.size).cellsAll,(HC.o.zB q).cell 3,(HC.o.mapVOf (P:=aA) (k:=261) (kL:=frL) (b:=m) (M:=knM s) (by simp))⟩);refine zT 8 ?_ (hS:=⟨(HC.o.zB w.heap.size).cellsAll,(HC.o.zB q).cell 3,(HC.o.mapVOf (P:=aA) (k:=261) (kL:=frL) (b:=m) (M:=knM s) (by simp))⟩);refine zJ 9 λ K hK=>?_
 go_simp;have HC:=Ab (HC.o.addBlkAt Bo 46 (b:=w.heap.size+1+1) (by simp));refine hK _ _ ⟨(HC.o.zB w.heap.size).cellsAll,(HC.o.zB q).cell 3,(HC.o.mapVOf (P:=aA) (k:=261) (kL:=frL) (b:=m) (M:=knM s) (by simp))⟩ ?_;clear hK K;try go_frame
 refine zJ 10 λ K hK=>?_
 refine Ea rfl (.tmp 5) (.tmp 14) Aq rfl rfl (vs:=Ae g) rfl HGL.o (HC.o.head.elim λ _ hF=>hF.1) (aB _) (Al _) ?_;intro w8 h8 k8;have h8':Blk w8 (w.heap.size+1+1) (Ae g) 46:=by simpa [Bo] using h8
 have HC:=Ab (HC.o.reblk h8' k8);clear h8 h8' k8;refine hK _ _ ⟨(HC.o.zB w.heap.size).cellsAll,(HC.o.zB q).cell 3,(HC.o.mapVOf (P:=aA) (k:=261) (kL:=frL) (b:=m) (M:=knM s) (by simp))⟩ ?_;clear hK K;try go_frame
 refine zT 11 ?_ (hS:=⟨(HC.o.zB w.heap.size).cellsAll,(HC.o.zB q).cell 3,(HC.o.mapVOf (P:=aA) (k:=261) (kL:=frL) (b:=m) (M:=knM s) (by simp))⟩);refine zD ?_
 cases K with
 | true=>
  go_wp2_with (first | ((with_reducible refine zw 27 ?_);refine Aj rfl (.tmp 5) Aq rfl rfl (cs:=Ae g) HGL.o (HC.o.head.elim λ _ hF=>hF.1.cellsAll) ?_) | ((with_reducible refine zws 4 27 ?_);refine Ag rfl (.tmp 4) (.tmp 27) Aq rfl rfl (vs:=Ae g) rfl HGL.o (HC.o.swap.head.elim λ _ hF=>hF.1) (aB _) (Al _) ?_));intro w9 h9 k9;have h9':Blk w9 (w.heap.size+1) (Ae g) 46:=by simpa [Bo] using h9
  have HC:=Ab (HC.o.swap.reblk h9' k9);clear h9 h9' k9;go_wp2_with fail;have e:s.made f=(g,s):=by rw [Sy.made,if_pos HKE.o.symm,HGE.o]
  rw [e];refine bodyPost_ret (Az rfl Aq rfl (cs:=Ae g) HGL.o (HC.o.head.elim λ _ hF=>hF.1.cellsAll)) rfl ⟨rfl,?_⟩;exact Cc.2 ⟨⟨kv,bv,sv,m,vs,bs⟩,HOK.o,HC.o.tail.tail.tail⟩
 | false=>
  obtain ⟨⟨ka,sa⟩,hp⟩:∃p,p=s.add f:=⟨_,rfl⟩
  have HP:=Ab hp;have hadd:=(Th q s f (.blk (w.heap.size+1+1) (Ae g) 46::.blk (w.heap.size+1) Bo 46::.blk w.heap.size f.cells 261::l) _ (Cc.2 ⟨⟨kv,bv,sv,m,vs,bs⟩,HOK.o,HC.o.front (m:= [.blk (w.heap.size+1+1) (Ae g) 46,.blk (w.heap.size+1) Bo 46,.blk w.heap.size f.cells 261,.blk q [kv,bv,sv,.map (some m)] 148,.own 261 18 kv s.keys.length (frC s.keys),.own 255 18 bv s.boxes.length (bxC s.boxes bs),Bw bs (s.boxes.map Bx.body),.own 27 1 sv s.sums.length vs,Bw vs s.sums,Cj aA 261 frL m (knM s)]) [3,4,5,6,7,8,9,0,1,2] 10 (by decide)⟩) HN.o);rw [<-hp] at hadd;have HADD:=Ab hadd;have HKA:Hq (ka.length=16):=Ab (by have:=congrArg Prod.fst hp; simp only at this; rw [this]; exact Ar _ _);clear hp hadd;go_wp2_with ((with_reducible refine zw 19 ?_);refine Aj rfl (.tmp 3) Hu rfl rfl (cs:=f.cells) HFL.o (HC.o.zB w.heap.size).cellsAll ?_);refine HADD.o.mono ?_;rintro e w9 ⟨rfl,hc⟩;have HKL:Hq ((Ae ka).length=16):=Ab (by rw [Ac]; exact HKA.o);have HC:=Ab hc.swap;unfold A1;clear hc HADD;go_wp2_with ((with_reducible refine zws 5 20 ?_);refine Ag rfl (.tmp 5) (.tmp 20) Aq rfl rfl (vs:=Ae ka) rfl HKL.o HC.o.blk0 (by rw [HGL.o]; decide) (Al _) ?_);intro w10 h10 k10;obtain ⟨⟨kv2,bv2,sv2,m2,vs2,bs2⟩,hok2,hc⟩:=Cc.1 (HC.o.stW (vs:=Ae ka) h10 k10 HGL.o).swap;simp only at hc hok2;have HOK2:=Ab hok2;have HC:=Ab hc;clear hc h10 k10 hok2;go_wp2_with fail;refine B5 [] (λ b W=>Ao W w.heap.size 0 f.cells/\W.cell? ⟨q,3,none⟩=some (.map (some m2))/\Ao W (w.heap.size+1+1) 0 (Ae ka)) (by kernel_rfl) ?_;have HC:=Ab HC.o.drew;refine zT 0 ?_;refine zT 1 ?_;refine zT 2 ?_;refine zT 3 ?_;refine zT 4 ?_ (hr:=λ _ _ _ hW=>ldJ Hu rfl HFL.o hW.1);refine zT 5 ?_ (hr:=λ _ _ _ hW=>ldJ Aq rfl HKL.o hW.2.2);refine zJ 6 λ K hK=>?_
  refine Gq rfl (.tmp 24) (.tmp 25) (.tmp 26) rfl 261 46 A2S A7c aK m2 (knM sa) (by rfl) (HC.o.mapVOf (by simp)) (by have:=HKN.o; unfold knM maxLen; rw [aL]; have:=congrArg Prod.snd HP.o; simp only at this; rw [this]; simp only [Sy.add]; omega) f (by exact A7d f) ?_;intro w11 hm11 hk11 hz11;have hm11:C7 aA 261 frL w11 m2 (Dh (knM sa) f (A1 ka)):=hm11;rw [A6i] at hm11;have HC:=Ab ((HC.o.pull7).mapVTurn hm11 hk11);clear hm11 hk11 hz11;refine zq hK ?_;clear hK K;refine zD ?_;go_wp2_with (first | ((with_reducible refine zw 27 ?_);refine Aj rfl (.tmp 5) Aq rfl rfl (cs:=Ae ka) HKL.o (HC.o.pull8.blk0.cellsAll) ?_) | ((with_reducible refine zws 4 27 ?_);refine Ag rfl (.tmp 4) (.tmp 27) Aq rfl rfl (vs:=Ae ka) rfl HKL.o HC.o.pull9.blk0 (aB _) (Al _) ?_));intro w12 h12 k12;have HC:=Ab (HC.o.pull9.stW (vs:=Ae ka) h12 k12 rfl);clear h12 k12;go_wp2_with fail;have ekn:sa.known=s.known:=by have:=congrArg Prod.snd HP.o; simp only at this; rw [this]; rfl
  have e:s.made f=(ka,{ sa with known:=Dh sa.known f ka }):=by rw [Sy.made,if_neg (by rw [<-HKE.o]; decide),<-HP.o]; simp only [ekn]
  have hok:=HOK.o.1.made f;rw [e] at hok ⊢;refine bodyPost_ret (Az rfl Aq rfl (cs:=Ae ka) HKL.o HC.o.blk0.cellsAll) rfl ⟨rfl,?_⟩;exact Cc.2 ⟨⟨kv2,bv2,sv2,m2,vs2,bs2⟩,⟨hok,HOK2.o.2⟩,HC.o.tail.pull8.tail.pull8.tail.push7⟩
theorem Xr (q:Nat) (s:Sy) (l:List Res) (w:aY) (h:Ad w (Dm q s::l)) (hn:s.keys.length<1099511627776): bA aA 321 #[.pointer (some ⟨q,0,none⟩)] w λ e w'=>e=.returned (A1 (s.add noF).1)/\Ad w' (Dm q (s.add noF).2::l):=by
 obtain ⟨⟨ka,sa⟩,hp⟩:∃p,p=s.add noF:=⟨_,rfl⟩
 have hl:(Ae ka).length=16:=by have:=congrArg Prod.fst hp; simp only at this; rw [this,Ac]; exact Ar _ _
 have HA:=Ab (Th q s noF (.blk w.heap.size Bo 46::l) _ (h.addBlkAt Bo 46 (b:=w.heap.size) rfl).swap hn);rw [<-hp] at HA ⊢;have HKL:=Ab hl;clear h hn hp hl;unfold A1 at HA ⊢;go_enter Tryz.func321,Tryz.ntmps321;go_wp2_with fail;refine HA.o.mono ?_;rintro e w1 ⟨rfl,hc⟩;have HC:=Ab hc.swap;clear hc HA;go_wp2_with ((with_reducible refine zws 2 5 ?_);refine Ag rfl (.tmp 2) (.tmp 5) Aq rfl rfl (vs:=Ae ka) rfl HKL.o HC.o.blk0 (aB _) (Al _) ?_);intro w2 h2 k2;have HC:=Ab (HC.o.stW (vs:=Ae ka) h2 k2 rfl);clear h2 k2;go_wp2_with fail;exact bodyPost_ret (Az rfl Aq rfl (cs:=Ae ka) HKL.o HC.o.blk0.cellsAll) rfl ⟨rfl,HC.o.tail⟩
theorem Ul (q:Nat) (s:Sy) (k:Aa) (lb:ByteArray) (l:List Res) (w:aY) (h:Ad w (Dm q s::l)) (hk:k.length=16) (hlb:lb.size<=maxLen) (hn:s.keys.length<1099511627776) (hkn:s.known.length<1099511627776): bA aA 319 #[.pointer (some ⟨q,0,none⟩),A1 k,.string lb] w λ e w'=>e=.returned (A1 (s.made (mkF k lb false)).1)/\Ad w' (Dm q (s.made (mkF k lb false)).2::l):=by
 have hok:=(Cc.1 h).elim λ _ hx=>hx.1.1
 obtain ⟨⟨ka,sa⟩,hp⟩:∃p,p=s.made (mkF k lb false):=⟨_,rfl⟩
 have hl:(Ae ka).length=16:=by have:=congrArg Prod.fst hp; simp only at this; rw [this,Ac]; exact Ob hok _
 have HA:=Ab (Qd q s (mkF k lb false) (.blk (w.heap.size+1) Bo 46::.blk w.heap.size (Ae k) 46::l) _ ((h.addBlkAt (Ae k) 46 (b:=w.heap.size) rfl).addBlkAt Bo 46 (b:=w.heap.size+1) (by simp)).pull3 hn hkn);have HK0:=Ab ((Blk.new w (Ae k) 46).alloc (.cells Bo.toArray 46));rw [<-hp] at HA ⊢;rw [A4X hk hlb] at HA;have HKL:=Ab hl;have HK1:Hq ((Ae k).length=16):=Ab (by rw [Ac,hk]);have e0:∀(h1:k.length=16) (h2:lb.size<=maxLen),(Fk.mk k lb false h1 h2).cells=Ae k++ [.string lb,.bool false]:=λ _ _=>rfl
 rw [e0] at HA;have HBF:=Ab (A1k k lb hk);clear h hn hkn hp hl hk hlb hok e0;unfold A1 at HA ⊢;go_enter Tryz.func319,Tryz.ntmps319;go_wp2_with (first | ((with_reducible refine zw 8 ?_);refine Aj rfl (.tmp 4) Aq rfl rfl (cs:=Ae k) HK1.o HK0.o.cellsAll ?_) | ((with_reducible refine zw 10 ?_);refine De rfl rfl (by simp [Act.eval]) HBF.o ?_));refine HA.o.mono ?_;rintro e w1 ⟨rfl,hc⟩;have HC:=Ab hc.swap;clear hc HA;go_wp2_with ((with_reducible refine zws 6 11 ?_);refine Ag rfl (.tmp 6) (.tmp 11) Aq rfl rfl (vs:=Ae ka) rfl HKL.o HC.o.blk0 (aB _) (Al _) ?_);intro w2 h2 k2;have HC:=Ab (HC.o.stW (vs:=Ae ka) h2 k2 rfl);clear h2 k2;go_wp2_with fail;exact bodyPost_ret (Az rfl Aq rfl (cs:=Ae ka) HKL.o HC.o.blk0.cellsAll) rfl ⟨rfl,HC.o.tail.swap.tail⟩
theorem A5C (pw salt tl:Aa) (h:tl= [Dw pw.length,pw,salt].flatten) (hl:(tx tl).size<=maxLen):PS.textF pw salt=Fk.mk zk (tx tl) true Md hl:=by
 subst h;unfold PS.textF;have e:(⟨(Dw pw.length++(pw++salt)).toArray⟩:ByteArray)=tx [Dw pw.length,pw,salt].flatten:=by simp [tx]
 rw [e];exact A4X Md hl
theorem A0I (q:Nat) (s:Sy) (pw salt:ByteArray) (l:List Res) (w:aY) (h:Ad w (Dm q s::l)) (hp1:pw.size<=100000) (hp2:salt.size<=100000) (hn:s.keys.length<1099511627776) (hkn:s.known.length<1099511627776): bA aA 81 #[.pointer (some ⟨q,0,none⟩),.string pw,.string salt] w λ e w'=>e=.returned (A1 (s.made (PS.textF pw.data.toList salt.data.toList)).1)/\Ad w' (Dm q (s.made (PS.textF pw.data.toList salt.data.toList)).2::l):=by
 have hok:=(Cc.1 h).elim λ _ hx=>hx.1.1
 have HH:=Ab (h.addBlkAt Bo 46 (b:=w.heap.size) rfl);obtain ⟨⟨ka,sa⟩,hp⟩:∃p,p=s.made (PS.textF pw.data.toList salt.data.toList):=⟨_,rfl⟩
 have HPP:=Ab hp;rw [<-hp];clear hp;unfold A1;have HN:=Ab hn;have HKN:=Ab hkn;have HP1:=Ab hp1;have HP2:=Ab hp2;have HOK:=Ab hok;have hw:bB.u64.wrap (pw.size:Int)=pw.size:=by rw [bB.wrap_u64]; omega
 clear h hn hkn hok hp1 hp2;go_enter Tryz.func81,Tryz.ntmps81;go_wp2_with fail;refine (Xh pw.size _).mono ?_;rintro e w1 ⟨rfl,ho,hb,_⟩;have hz:=hb.size;try simp at hz
 have HH:=Ab (HH.o.step hb);have e1:(w.alloc (.cells Bo.toArray 46)).heap.size=w.heap.size+1:=by simp
 have HB:Hq (Bs w1 (.slice (some ⟨w.heap.size+1,0,none⟩) 8 8) (Dw pw.size)):=Ab (by rw [<-e1]; exact ho.bs);clear hb ho e1;go_wp2_with ((with_reducible refine zw 13 ?_);refine Jd rfl (.tmp 12) rfl rfl (by have:=HP1.o; omega) ?_);intro c2 w2 hcv hb hz2;have HH:=Ab (HH.o.step hb);have HB:=Ab (HB.o.below hb);have HB2:=Ab (hcv.sl.bs rfl rfl);clear hb hcv hz2;go_wp2_with ((with_reducible refine zw 15 ?_);refine Jd rfl (.tmp 14) rfl rfl (by have:=HP2.o; omega) ?_);intro c3 w3 hcv hb hz3;have HH:=Ab (HH.o.step hb);have HB:=Ab (HB.o.below hb);have HB2:=Ab (HB2.o.below hb);have HB3:=Ab (hcv.sl.bs rfl rfl);have HRS:=Ab (Rs.three (T:=27) HB.o HB2.o HB3.o);clear hb hcv HB HB2 HB3 hz3;have hj:=Nf _ _ _ HRS.o (by have:=HP1.o; have:=HP2.o; simp [Ci]; omega);obtain ⟨tl,htl⟩:∃tl,tl= [Dw pw.size,pw.data.toList,salt.data.toList].flatten:=⟨_,rfl⟩
 rw [<-htl] at hj;have hts:tl.length<=1000000:=by have:=HP1.o; have:=HP2.o; rw [htl]; simp [Ci]; omega
 have HTS:=Ab hts;have HJ:=Ab hj;have hsz:(tx tl).size<=maxLen:=by rw [Dq]; unfold maxLen; omega
 have hf:=A5C pw.data.toList salt.data.toList tl htl hsz;have HF:=Ab hf;clear hj htl hts;go_wp2_with fail;refine HJ.o.mono ?_;rintro e w4 ⟨v4,rfl,ho,hb⟩;have HH:=Ab ((HH.o.alloc _).step hb);have HB4:=Ab ho.bs;obtain ⟨a4,c4,rfl,_,_⟩:=ho.sl.form;have hl:(Ae ka).length=16:=by have:=congrArg Prod.fst HPP.o; simp only at this; rw [this,Ac]; exact Ob HOK.o _
 have HKL:=Ab hl;have HA:=Ab (Qd q s (PS.textF pw.data.toList salt.data.toList) (.blk w.heap.size Bo 46::l) _ HH.o.swap HN.o HKN.o);rw [<-HPP.o,HF.o] at HA;have e0:∀(x:ByteArray) (h1:zk.length=16) (h2:x.size<=maxLen),(Fk.mk zk x true h1 h2).cells=Ae zk++ [.string x,.bool true]:=λ _ _ _=>rfl
 rw [e0] at HA;unfold A1 at HA;clear hb ho HRS HJ HH hl e0;go_wp2_with (first | ((with_reducible refine zw 18 ?_);refine X3 rfl (.tmp 17) rfl rfl HB4.o ?_) | ((with_reducible refine zw 19 ?_);refine De rfl rfl (by simp [Act.eval]) (A1l _) ?_));refine HA.o.mono ?_;rintro e w5 ⟨rfl,hc⟩;have HC:=Ab hc.swap;clear hc HA;go_wp2_with ((with_reducible refine zws 6 20 ?_);refine Ag rfl (.tmp 6) (.tmp 20) Aq rfl rfl (vs:=Ae ka) rfl HKL.o HC.o.blk0 (aB _) (Al _) ?_);intro w6 h2 k2;have HC:=Ab (HC.o.stW (vs:=Ae ka) h2 k2 rfl);clear h2 k2;go_wp2_with fail;exact bodyPost_ret (Az rfl Aq rfl (cs:=Ae ka) HKL.o HC.o.blk0.cellsAll) rfl ⟨rfl,HC.o.tail⟩
theorem Wa (k:Aa) (u:Int) {a:Option Addr} {n c:Nat} (hk:k.length=16):Tryz.prog.built 255 [(0,.agg (Ae k).toArray),(1,.int .i64 u),(2,.slice a n c)]=some (Ae k++ [aX.int .i64 u,aX.slice a n c]).toArray:=by
 obtain ⟨c0,c1,c2,c3,c4,c5,c6,c7,c8,c9,c10,c11,c12,c13,c14,c15,rfl⟩:=By k hk
 kernel_rfl
theorem A4s {bs:List Bx} {vs:List aX} (h:vs.length=bs.length) (b:Bx) (v:aX):bxC (bs++ [b]) (vs++ [v])=bxC bs vs++(Ae b.by_++ [.int .i64 b.usage,v]):=by
 unfold bxC;rw [List.zip_append h.symm];simp [Fu]
theorem Oy.shut {s:Sy} (h:Oy s) {b:Bx} (hb:b.by_.length=16):Oy (s.shut b).2:=⟨λ x hx=>by
 rcases List.mem_append.1 hx with hx | hx
 . exact h.bx x hx
 . rw [List.mem_singleton.1 hx]; exact hb,h.kn⟩
theorem A7H (k:Nat) (hk:k<1099511627777) (w:aY):bA aA 121 #[.int .u8 98,.int .i64 ((k:Int)+1)] w (Qx w 98 (k+1)):=J2 98 (k+1) (by omega) w
theorem A0H (q:Nat) (s:Sy) (k:Aa) (u:Int) (body:Aa) (v:aX) (l:List Res) (w:aY) (h:Ad w (Dm q s::l)) (hk:k.length=16) (hb:Bs w v body) (hbl:body.length<=1099511627776) (hn:s.boxes.length<1099511627776): bA aA 60 #[.pointer (some ⟨q,0,none⟩),A1 k,.int .i64 u,v] w (Kb q (.sym (s.shut ⟨k,u,body⟩).2) (s.shut ⟨k,u,body⟩).1 l):=by
 obtain ⟨⟨kv,bv,sv,m,vs,bs⟩,hok,h⟩:=Cc.1 h;simp only at h hok;have HOK:=Ab hok;obtain ⟨a0,c0,rfl,hc0,hm0⟩:=h.tail.tail.slf;obtain ⟨av,cv,rfl,hcv,hmv⟩:=hb.form;have HN:=Ab hn;have HBL:=Ab hbl;have HK1:Hq ((Ae k).length=16):=Ab (by rw [Ac,hk]);have HKK:=Ab hk;have HC:=Ab (h.addBlkAt (Ae k) 46 (b:=w.heap.size) rfl);have HBS:=Ab (hb.alloc (.cells (Ae k).toArray 46)).drew;unfold maxLen at hm0 hmv;clear h hok hn hbl hb hk;unfold A1;go_enter Tryz.func60,Tryz.ntmps60;go_wp2_with fail;refine B5 [14] (λ b W=>Ao W w.heap.size 0 (Ae k)/\(b= [false]->W.cell? ⟨q,1,none⟩=some (.slice a0 s.boxes.length c0))) (by kernel_rfl) ?_;have HC:=Ab HC.o.drew;refine zT 0 ?_;refine zT 1 ?_;refine zT 2 ?_;refine zT 3 ?_;refine zTk 4 [14] ?_ (hr:=λ l W hk hW=>by have c:=hW.2 (Iy hk); go_simp; try rfl);refine zT 5 ?_ (hr:=λ _ _ _ hW=>ldJ Aq rfl HK1.o hW.1);refine zT 6 ?_;refine zT 7 ?_;refine zJ 8 λ K hK=>?_
 go_simp;refine (G5 _ body _ HBS.o HBL.o).mono ?_;rintro e w3 ⟨cl,rfl,ho,hv,hb⟩;obtain ⟨a6,c6,rfl,_,_⟩:=ho.sl.form;have HC:=Ab (HC.o.addOwnB hb ho hv).ownRow;clear ho hv hb HBS;refine zq hK ?_;clear hK K;refine zT 9 ?_ (v:=.agg (Ae k++ [aX.int .i64 u,aX.slice a6 body.length c6]).toArray) (hr:=λ l W hk hW=>Gh (by simp [Act.eval]) (Wa k u HKK.o) W);have HEL:Hq ((Ae k++ [aX.int .i64 u,aX.slice a6 body.length c6]).length=18):=Ab (by rw [aM,HK1.o]; rfl);have HE1:Hq (∀x∈Ae k++ [aX.int .i64 u,aX.slice a6 body.length c6],x.oneCell'=true):=Ab (by intro x hx; rcases List.mem_append.1 hx with h | h; exact Al _ x h; simp at h; rcases h with rfl | rfl <;> rfl);refine zJ 10 λ K hK=>?_
 refine Is rfl (.tmp 19) Y8 rfl rfl (by simpa using HEL.o) (by decide) ?_;have HC:=Ab (HC.o.addBlk (Ae k++ [aX.int .i64 u,aX.slice a6 body.length c6]) 255);refine zq hK ?_;clear hK K;refine zJ 11 λ K hK=>?_
 have hown:=HC.o.ownOf (e:=255) (sz:=18) (v:=.slice a0 s.boxes.length c0) (n:=s.boxes.length) (cs:=bxC s.boxes bs) (by simp);have hsl:=(HC.o.blk0.slS HEL.o HE1.o);refine D3 rfl (.tmp 14) (.tmp 20) Y8 rfl 0 (v:=.slice a0 s.boxes.length c0) rfl hown.1 hown.2 rfl hsl (by have:=HN.o; unfold maxLen; omega) (by have:=HN.o; omega) (aE _) ?_;intro v4 w4 ho hk hv;obtain ⟨a1,c1,rfl,_,_⟩:=ho.sl.form;have HC:=Ab (HC.o.tail.pull5.append ho hk hv);clear ho hk hv hown hsl;refine zq hK ?_;clear hK K;refine zT 12 ?_;refine zT 13 ?_;refine zJ 14 λ K hK=>?_
 have hblk:=HC.o.pull4.blk0;have cc:=hblk.cell 1;have cf:=hblk.frozen 1;have ch:=hblk.lt;have HC:=Ab (HC.o.pull4.set 1 (.slice a1 (s.boxes.length+1) c1));go_simp;clear hblk cc cf ch;refine hK _ _ ⟨(HC.o.zB w.heap.size).cellsAll,λ h=>by simp [Er] at h⟩ ?_;clear hK K;try go_frame
 refine zD ?_;generalize aY.setCell _ _ _=w5 at HC ⊢;have c5:=HC.o.blk0.cell 1;go_wp2_with fail;refine (A7H s.boxes.length (by have:=HN.o; omega) _).mono ?_;rintro e w7 ⟨rfl,hb⟩;have HC:=Ab ((HC.o.step hb).addBlk Bo 46);have HKL:Hq ((Ae (Bb 98 (s.boxes.length+1))).length=16):=Ab (by rw [Ac,Ar]);unfold A1;clear hb c5;go_wp2_with ((with_reducible refine zws 9 29 ?_);refine Ag rfl (.tmp 9) (.tmp 29) Aq rfl rfl (vs:=Ae (Bb 98 (s.boxes.length+1))) rfl HKL.o HC.o.blk0 (aB _) (Al _) ?_);intro w8 h8 k8;have HC:=Ab ((HC.o.stW (vs:=Ae (Bb 98 (s.boxes.length+1))) h8 k8 rfl).blkRow (Ar _ _) (by unfold maxLen; decide));clear h8 k8;go_wp2_with fail;go_ret;refine ⟨_,rfl,?_⟩;have h:=HC.o;have e2:s.boxes.length+1=(s.shut ⟨k,u,body⟩).2.boxes.length:=by simp [Sy.shut]
 rw [e2] at h;have h:=Dt (h.zP [6,3,0,0,2]);have e3:bxC s.boxes bs++(Ae k++ [aX.int .i64 u,aX.slice a6 body.length c6])=bxC (s.shut ⟨k,u,body⟩).2.boxes (bs++ [.slice a6 body.length c6]):=(A4s HOK.o.2 ⟨k,u,body⟩ _).symm;have e4:s.boxes.map Bx.body++ [body]=(s.shut ⟨k,u,body⟩).2.boxes.map Bx.body:=by simp [Sy.shut]
 rw [e3,e4] at h;have h:Ad w8 (Dm q (s.shut ⟨k,u,body⟩).2::_):=Cc.2 ⟨A7t.mk kv (aX.slice a1 (s.shut ⟨k,u,body⟩).2.boxes.length c1) sv m vs (bs++ [aX.slice a6 body.length c6]),⟨HOK.o.1.shut HKK.o,by simp [Sy.shut,HOK.o.2]⟩,(h.zP [2,2,2,0,2,2,2])⟩;show Ad w8 (.row (.slice (some ⟨w7.heap.size,0,none⟩) 16 16) (Bb 98 (s.boxes.length+1))::Dm q (s.shut ⟨k,u,body⟩).2::l)
 rw [e2];exact (h.zP [1]).pull3.tail
end Go.Proofs.YtcnfaghcjlhoiaaGreat
namespace Go.Proofs.YtcnfaghcjlhoiaaGreat
open Go.RowKit
section
theorem U5:∀(k n:Nat),C5 (beB k n)=n % 256 ^ k
 | 0,n=>by simp [beB,C5,Nat.mod_one]
 | k+1,n=>by
  have h:n % 256 ^ (k+1)=n % 256+256*(n / 256 % 256 ^ k):=by rw [Nat.pow_succ,Nat.mul_comm (256 ^ k) 256,Nat.mod_mul]
  rw [h,beB,Jy,U5 k,UInt8.toNat_ofNat'];omega
theorem Zk (n:Nat) (h:n<256 ^ 8):Fi (Dw n)=(n,true):=by
 unfold Fi;rw [Ci,if_neg (by decide),A3b,U5,Nat.mod_eq_of_lt h]
theorem Oj (w:aY) (a b:Aa) (ha:a.length=16) (hb:b.length=16):(binOp .neq 46 (A1 a) (A1 b)).run aA w=.ok (.bool (!decide (a=b))) w:=by
 have h:=Xl w a b ha hb;unfold A1;unfold binOp;simp [go_sem,Op.equal,Op.maxDepth,h]
theorem R4 (op:BinOp) (x y:Operand) (a b:Aa) (w:aY):(eqGuard op 46 x y (A1 a) (A1 b)).run aA w=.ok () w:=
 run_eqGuard_agg w op _ x y _ _ (by kernel_rfl)
section
variable {ops:Array bC} {Q:Exit->Act->aY->Prop}
theorem A1c {rest:List bC} {o:bC} {a:Act} {w:aY} (hgd:Region.wanted o (yielded ops a.tmps)=true) (x y:Operand) {t:aZ} (ho:o.op=.binOp .neq 46 x y t) {k1 k2:Aa} (h1:a.eval x=A1 k1) (h2:a.eval y=A1 k2) (l1:k1.length=16) (l2:k2.length=16) {b:Bool} (hb:(!decide (k1=k2))=b) (h:wpList aA ops Q rest (a.put o.dst (.bool b)) w):wpList aA ops Q (o::rest) a w:=by
 subst hb;refine Bh hgd λ K hK=>?_
 unfold bC.wp execOp;simp only [ho,h1,h2,Sem.run_bind,Sem.run_pure,Result.andThen_ok,R4,Oj w k1 k2 l1 l2];exact hK _ _ h
theorem A3L {a:Act} (x y:Operand) {d:Option Tmp} {t t2:aZ} {pos:String} {aft:Array Edge} {g:Option (Nat×Bool)} {k1 k2:Aa} (h1:a.eval x=A1 k1) (h2:a.eval y=A1 k2) (l1:k1.length=16) (l2:k2.length=16) {b:Bool} (hb:(!decide (k1=k2))=b) (w:aY): (execOp a.eval ⟨d,.binOp .neq 46 x y t,t2,pos,aft,g⟩).run aA w=.ok (.value (.bool b)) w:=by
 subst hb;unfold execOp;simp only [h1,h2,Sem.run_bind,Sem.run_pure,Result.andThen_ok,R4,Oj w k1 k2 l1 l2]
end
end
end Go.Proofs.YtcnfaghcjlhoiaaGreat
namespace Go.Proofs.YtcnfaghcjlhoiaaGreat
open Go.RowKit Go.Maps
def A4J (l:Aa) (x:UInt8):Int:=if x∈l then (l.idxOf x:Int) else -1
theorem A3C (v:aX) (l:Aa) (x:UInt8) (w:aY) (h:Bs w v l): bA aA 172 #[v,.int .u8 x.toNat] w λ e w'=>e=.returned (.int .i64 (A4J l x))/\w=w':=by
 obtain ⟨ad,cap,rfl,hcap,hcm⟩:=h.form;have HA:=Ab h;clear h;unfold maxLen at hcm;go_enter Tryz.func172,Tryz.ntmps172;go_wp2_with fail;go_loop [5,8] (λ _ i=>∃k:Nat,k<=l.length/\i=.int .i64 k/\∀j,j<k->l.getD j 0≠x) (λ _ i=>l.length- (intOf i).toNat)
 case atStart=>exact ⟨0,aE _,rfl,λ j hj=>by omega⟩
 case round=>
  obtain ⟨k,hk,rfl,hno⟩:=hrel;have HNO:=Ab hno;clear hno;by_cases hlt:k<l.length
  . obtain ⟨b,off,rfl,hcell⟩:=HA.o.addr (by rw [Ac]; omega);have hc:w.cell? ⟨b,off+k,none⟩=some (.int .u8 (l[k]).toNat):=hcell k _ (by simp [Ae,bV,hlt]);clear hcell;by_cases he:l[k]=x
    . have he':((x.toNat:Int)==((l[k]).toNat:Int))=true:=by rw [he]; simp
      have HE:=Ab he;clear he;go_wp2_with fail;go_ret;have h1:x∈l:=by rw [<-HE.o]; exact aF _
      have h2:l.idxOf x=k:=by
       have hle:l.idxOf x<=k:=by
        rw [<-HE.o];rcases aI k (l.idxOf l[k]) with h | h
        . have:=List.not_of_lt_findIdx (p:=(· ==l[k])) h;simp at this
        . exact h
       rcases aI (l.idxOf x) k with h | h
       . exfalso
         have:=HNO.o _ h;rw [aJ,aG (by omega)] at this;exact this (by simp)
       . omega
      rw [A4J,if_pos h1,h2];exact ⟨rfl,rfl⟩
    . have he':((x.toNat:Int)==((l[k]).toNat:Int))=false:=by
       rw [beq_eq_false_iff_ne];intro h;exact he (UInt8.toNat_inj.1 (by omega))
      have HE:=Ab he;clear he;go_wp2_with fail;go_round
      case rel=>
       refine ⟨k+1,by omega,by go_num,λ j hj=>?_⟩;rcases aI j k with h | h
       . exact HNO.o j h
       . obtain rfl:j=k:=by omega
         rw [aJ,aG hlt];exact HE.o
      case measure=>simp [intOf]; omega
  . obtain rfl:k=l.length:=by omega
    go_wp2_with fail;go_ret;have h1:¬x∈l:=by
     intro hm;obtain ⟨j,hj,e⟩:=List.getElem_of_mem hm;refine HNO.o j hj ?_;rw [aJ,aG hj];exact e
    rw [A4J,if_neg h1];exact ⟨rfl,rfl⟩
theorem N1 (v:aX) (l:Aa) (x:UInt8) (w:aY) (h:Bs w v l): bA aA 122 #[v,.int .u8 x.toNat] w λ e w'=>e=.returned (.bool (decide (x∈l)))/\w=w':=by
 have hi:=A3C v l x w h;obtain ⟨ad,cap,rfl,hcap,hcm⟩:=h.form;clear h;by_cases hm:x∈l
 . have h0:(0:Int)<=(l.idxOf x:Int):=by omega
   rw [A4J,if_pos hm] at hi;have HI:=Ab hi;rw [decide_eq_true hm];clear hi hm;go_enter aN,aO;go_wp2_with fail;refine HI.o.mono ?_;rintro e w' ⟨rfl,rfl⟩;clear HI;go_wp2_with fail;go_ret;exact ⟨rfl,rfl⟩
 . rw [A4J,if_neg hm] at hi;have HI:=Ab hi;rw [decide_eq_false hm];clear hi hm;go_enter aN,aO;go_wp2_with fail;refine HI.o.mono ?_;rintro e w' ⟨rfl,rfl⟩;clear HI;go_wp2_with fail;go_ret;exact ⟨rfl,rfl⟩
def MkR (w:aY) (k:UInt8) (n:Nat) (e:Ending) (w':aY):Prop:=e=.returned (.tuple #[.int .u8 k.toNat,.int .i64 n,.bool true])/\Below w.heap.size w w'
theorem Jb (v:aX) (k:UInt8) (n:Nat) (w:aY) (h:Bs w v (Bb k n)) (hn:n<=1099511627776) (hk:k=107\/k=98\/k=100): bA aA 56 #[v] w (MkR w k n):=by
 have HKY:=Ab (Q4 v _ w h);obtain ⟨M,hM⟩:∃M,M=Bb k n:=⟨_,rfl⟩
 have HML:Hq (M.length=16):=Ab (by rw [hM]; exact Ar _ _);have e1:Hn (Bb k n)=(M,true):=by rw [Hn,if_pos (Ar _ _),hM]
 rw [e1] at HKY;have HBL:Hq ((Ae M).length=16):=Ab (by rw [Ac]; exact HML.o);have HM:=Ab hM;have HN:=Ab hn;have HK:=Ab hk;clear e1 h hn hM hk;unfold A1 at HKY;go_enter Tryz.func56,Tryz.ntmps56;go_wp2_with fail;refine HKY.o.mono ?_;rintro e w1 ⟨rfl,hb⟩;have HB:=Ab hb;have HC:=Ab (Blk.new w1 Bo 46);clear hb HKY;go_wp2_with ((with_reducible refine zws 5 12 ?_);refine Ag rfl (.tmp 5) (.tmp 12) Aq rfl rfl (vs:=Ae M) rfl HBL.o HC.o (aB _) (Al _) ?_);intro w2 h2 k2;have hb2:Below w.heap.size w w2:=HB.o.trans ((((aC _ _).alloc (aB _) _).trans (k2.below (by omega))).mono HB.o.size);have h2':Blk w2 w1.heap.size (Ae M) 46:=by simpa [Bo] using h2
 have HB:=Ab hb2;have HC:=Ab h2';have c0:w2.cell? ⟨w1.heap.size,0,none⟩=some (.int .u8 255):=by rw [h2'.cell 0,HM.o]; rfl
 have c1:w2.cell? ⟨w1.heap.size,1,none⟩=some (.int .u8 254):=by rw [h2'.cell 1,HM.o]; rfl
 clear h2 k2 hb2 h2';have hrow:Bs w2 (.slice (some ⟨w1.heap.size,8,none⟩) 8 8) (Dw n):=Sl.bs (HC.o.bs (off:=8) (n:=8) (cap:=8) (by rw [HML.o]; decide) (aB _) (by unfold maxLen; decide)) (by rw [HM.o,Bb,List.drop_append,aP (by simp)]; simp [Ci,aQ]) (Ci _);have hg:=Mf _ _ w2 hrow;rw [Zk n (by have:=HN.o; omega)] at hg;have HG:=Ab hg;clear hrow hg;go_wp2_with fail;refine HG.o.mono ?_;rintro e w3 ⟨rfl,rfl⟩;have cM:=HC.o.cell 2;have c2:w2.cell? ⟨w1.heap.size,2,none⟩=some (.int .u8 k.toNat):=by rw [cM,HM.o]; rfl
 have HC2:=Ab c2;clear HG cM c2 c0 c1;have hw:bB.i64.wrap (n:Int)=n:=by have:=HN.o; rw [bB.wrap_i64]; omega
 go_wp2_with fail;refine B5 [] (λ b W=>W.cell? ⟨w1.heap.size,2,none⟩=some (.int .u8 k.toNat)/\Ao W w1.heap.size 0 (Ae M)) (by kernel_rfl) ?_;have HC2:Hq (w2.drew.cell? ⟨w1.heap.size,2,none⟩=some (.int .u8 k.toNat)):=Ab HC2.o;have HC:Hq (Blk w2.drew w1.heap.size (Ae M) 46):=Ab HC.o;have HB:Hq (Below w.heap.size w w2.drew):=Ab HB.o.drew;refine zT 0 ?_ (hS:=⟨HC2.o,HC.o.cellsAll⟩);refine zT 1 ?_ (v:=.bool false) (hr:=λ _ _ _ hW=>by have:=HN.o; go_simp; omega) (hS:=⟨HC2.o,HC.o.cellsAll⟩);refine zT 2 ?_ (hS:=⟨HC2.o,HC.o.cellsAll⟩);refine zT 3 ?_ (hS:=⟨HC2.o,HC.o.cellsAll⟩);refine zT 4 ?_ (hS:=⟨HC2.o,HC.o.cellsAll⟩);refine zT 5 ?_ (hS:=⟨HC2.o,HC.o.cellsAll⟩);refine zT 6 ?_ (hS:=⟨HC2.o,HC.o.cellsAll⟩);refine zT 8 ?_ (hr:=λ _ _ _ hW=>ldJ Aq rfl HBL.o hW.2) (hS:=⟨HC2.o,HC.o.cellsAll⟩);refine zJ 7 λ K hK=>?_
 go_simp;refine (J2 k n (by have:=HN.o; omega) _).mono ?_;rintro e w4 ⟨rfl,hb⟩;have HC2:=Ab (Bj hb HC2.o);have HC:=Ab (HC.o.below hb HC.o.lt);have HB:=Ab (HB.o.trans (hb.mono HB.o.size));clear hb;refine hK _ _ ⟨HC2.o,HC.o.cellsAll⟩ ?_;clear hK K;try go_frame
 refine zT 9 ?_ (v:=.bool false) (hr:=λ l W hk hW=>A3L (.tmp 38) (.tmp 39) (k1:=Bb k n) (k2:=M) rfl rfl (Ar _ _) HML.o (by rw [HM.o]; simp) W) (hS:=⟨HC2.o,HC.o.cellsAll⟩);refine zT 10 ?_ (hS:=⟨HC2.o,HC.o.cellsAll⟩);refine zT 11 ?_ (hS:=⟨HC2.o,HC.o.cellsAll⟩);refine zT 13 ?_ (hS:=⟨HC2.o,HC.o.cellsAll⟩);refine zT 14 ?_ (hS:=⟨HC2.o,HC.o.cellsAll⟩);refine zJ 12 λ K hK=>?_
 go_simp;have HC2:=Ab (Bj ((aC _ _).alloc (aB _) (.cells #[.int .u8 107,.int .u8 98,.int .u8 100] 5)) HC2.o);have HR:Hq (Bs (w4.alloc (.cells #[.int .u8 107,.int .u8 98,.int .u8 100] 5)) (.slice (some ⟨w4.heap.size,0,none⟩) 3 3) [107,98,100]):=Ab (Sl.lit (cs:=#[.int .u8 107,.int .u8 98,.int .u8 100]) rfl rfl (by simp [aX.oneCell']) (by unfold maxLen; decide));have HC:=Ab (HC.o.alloc (.cells #[.int .u8 107,.int .u8 98,.int .u8 100] 5));have HB:=Ab (HB.o.alloc HB.o.size (.cells #[.int .u8 107,.int .u8 98,.int .u8 100] 5));refine hK _ _ ⟨HC2.o,HC.o.cellsAll⟩ ?_;clear hK K;try go_frame
 refine zJ 15 λ K hK=>?_
 go_simp;refine (N1 _ _ k _ HR.o).mono ?_;rintro e w5 ⟨rfl,rfl⟩;have HX:Hq (decide (k∈([107,98,100]:Aa))=true):=Ab (by rcases HK.o with rfl | rfl | rfl <;> decide);rw [HX.o];refine hK _ _ ⟨HC2.o,HC.o.cellsAll⟩ ?_;clear hK K;try go_frame
 refine zT 16 ?_ (hS:=⟨HC2.o,HC.o.cellsAll⟩);refine zT 17 ?_ (hS:=⟨HC2.o,HC.o.cellsAll⟩);refine zD ?_;have c2:=HC2.o;go_wp2_with fail
 go_ret3;exact ⟨rfl,HB.o⟩
theorem Kv {α:Type} {w:aY} {sz n c i:Nat} {a:Option Addr} (f:α->List aX) (l:List α) (hf:∀x∈l,(f x).length=sz) (h:Sl w sz (.slice a n c) n ((l.map f).flatten)) {x:α} (hi:l[i]?=some x) (hz:0<sz): ∃b off,a=some ⟨b,off,none⟩/\Ao w b (off+i*sz) (f x):=by
 obtain ⟨hil,hx⟩:=List.getElem?_eq_some_iff.1 hi;have hl:=Lj f l hf;obtain ⟨b,off,e,hc⟩:=h.addr (by rw [hl]; exact Nat.mul_pos (by omega) hz);refine ⟨b,off,e,λ j u hj=>?_⟩;have hjl:j<sz:=by rw [<-hf x (by rw [<-hx]; exact aF _)]; exact (List.getElem?_eq_some_iff.1 hj).1
 rw [aR];exact hc _ u (by rw [Ry f l hf i j hil hjl,hx]; exact hj)
def A1e:List aX:= [.int .u8 0,.int .u8 0,.int .u8 0,.int .u8 0,.int .u8 0,.int .u8 0,.int .u8 0,.int .u8 0,.int .u8 0,.int .u8 0,.int .u8 0,.int .u8 0,.int .u8 0,.int .u8 0,.int .u8 0,.int .u8 0,.int .i64 0,.slice none 0 0]
def A7m (q:Nat) (s:Sy) (bx:Bx) (l:List Res) (e:Ending) (w':aY):Prop:=∃x,e=.returned (.tuple #[.agg (Ae bx.by_++ [.int .i64 bx.usage,x]).toArray,.bool true])/\Ad w' (.row x bx.body::Dm q s::l)
theorem Ti (q:Nat) (s:Sy) (i:Nat) (bx:Bx) (v:aX) (l:List Res) (w:aY) (h:Ad w (Dm q s::l)) (hv:Bs w v (Bb 98 (i+1))) (hi:s.boxes[i]?=some bx) (hn:s.boxes.length<1099511627776) (hbl:bx.body.length<=1099511627776): bA aA 114 #[.pointer (some ⟨q,0,none⟩),v] w (A7m q s bx l):=by
 obtain ⟨⟨kv,bv,sv,m,vs,bs⟩,hok,h⟩:=Cc.1 h;simp only at h hok;have HOK:=Ab hok;obtain ⟨a0,c0,rfl,hc0,hm0⟩:=h.tail.tail.slf;obtain ⟨av,cv,rfl,hcv,hmv⟩:=hv.form;have hil:=(List.getElem?_eq_some_iff.1 hi).1;obtain ⟨xv,hxv⟩:∃xv,bs[i]?=some xv:=⟨bs[i]'(by omega),aG _⟩
 have hz:(s.boxes.zip bs)[i]?=some (bx,xv):=by rw [List.getElem?_zip_eq_some]; exact ⟨hi,hxv⟩
 have HZ:=Ab hz;have HXV:=Ab hxv;have HI:=Ab hi;have HN:=Ab hn;have HBL:=Ab hbl;have HB16:=Ab (hok.1.bx bx (aD hi));have HC:=Ab (h.addBlkAt A1e 255 (b:=w.heap.size) rfl);have HMK:=Ab (Jb _ 98 (i+1) _ (hv.alloc (.cells A1e.toArray 255)) (by omega) (by decide));have HF:Hq (∀x∈s.boxes.zip bs,(Fu x).length=18):=Ab (by
  intro x hx;obtain ⟨x1,x2⟩:=x;simp [Fu,Ac,hok.1.bx x1 (List.of_mem_zip hx).1])
 obtain ⟨b0,o0,rfl,_⟩:=Kv Fu (s.boxes.zip bs) HF.o (h.tail.tail.head.elim λ _ hF=>hF.1.sl) hz (by decide);have hi0:(0:Int)<=(i:Int):=by omega
 have hi1:(i:Int)< (s.boxes.length:Int):=by omega
 unfold maxLen at hm0;clear h hok hv hz hxv hi hbl;go_enter Tryz.func114,Tryz.ntmps114;go_wp2_with fail;refine HMK.o.mono ?_;rintro e w1 ⟨rfl,hb⟩;have HC:=Ab (HC.o.step hb);have c1:=(HC.o.zB q).cell 1;clear hb HMK;have h98:((98:UInt8).toNat:Int)=98:=by decide
 have hw:bB.i64.wrap ((i:Int)+1-1)=i:=by rw [bB.wrap_i64]; omega
 have hd1:decide ((i:Int)+1<1)=false:=by simp; omega
 have hd2:decide ((s.boxes.length:Int)< (i:Int)+1)=false:=by simp; omega
 have hcx:Ao w1 b0 (o0+i*18) (Fu (bx,xv)):=by
  obtain ⟨b1,o1,e,hc⟩:=Kv Fu (s.boxes.zip bs) HF.o (HC.o.pull4.head.elim λ _ hF=>hF.1.sl) HZ.o (by decide);simp only [Option.some.injEq,Addr.mk.injEq,and_true] at e;rw [e.1,e.2];exact hc
 have HCX:=Ab hcx;have HCL:Hq ((Fu (bx,xv)).length=18):=Ab (HF.o _ (aD HZ.o));have HXR:=Ab (L8 (HC.o.pull5) i HXV.o (by rw [List.getElem?_map,HI.o]; rfl));obtain ⟨xa,xc,hxe,_,_⟩:=HXR.o.form;have HC1:Hq (∀u∈Fu (bx,xv),u.oneCell'=true):=Ab (by
  intro u hu;rcases List.mem_append.1 hu with h | h
  . exact Al _ u h
  . simp at h; rcases h with rfl | rfl
    . rfl
    . rw [hxe]; rfl)
 have HXE:=Ab hxe;have HC:=Ab (HC.o.addBlk A1e 255);clear hcx hxe;go_wp2_with (first | ((with_reducible refine zw 43 ?_);refine Aj rfl (.tmp 42) F6 rfl rfl (cs:=Fu (bx,xv)) HCL.o HCX.o ?_) | ((with_reducible refine zws 9 43 ?_);refine Ag rfl (.tmp 9) (.tmp 43) F6 rfl rfl (vs:=Fu (bx,xv)) rfl HCL.o HC.o.blk0 (aB _) HC1.o ?_));intro w2 h2 k2;have HXR:=Ab (HXR.o.below (((aC _ _).alloc (aB _) _).trans (k2.below (by omega))));have HC:=Ab (HC.o.stW (vs:=Fu (bx,xv)) h2 k2 rfl);have c17:w2.cell? ⟨w1.heap.size,17,none⟩=some xv:=by
  rw [HC.o.blk0.cell 17]
  have:=HB16.o;simp [Fu,aH,Ac,this]
 have f17:=HC.o.blk0.frozen 17;rw [HXE.o] at HXR c17;clear h2 k2 c1;go_wp2_with fail;refine (G5 _ bx.body _ HXR.o HBL.o).mono ?_;rintro e w3 ⟨cl,rfl,ho,hv,hb⟩;obtain ⟨a6,c6,rfl,_,_⟩:=ho.sl.form;have HC:=Ab (HC.o.addOwnB hb ho hv).ownRow.swap;have hset:(Fu (bx,xv)).set 17 (.slice a6 bx.body.length c6)=Ae bx.by_++ [.int .i64 bx.usage,.slice a6 bx.body.length c6]:=by
  have:=HB16.o;show (Ae bx.by_++ [.int .i64 bx.usage,xv]).set 17 _=_
  rw [List.set_append_right _ _ (by rw [Ac]; omega),Ac,this];rfl
 have HS:=Ab hset;have hblk:=HC.o.blk0;have e17:=hblk.cell 17;have g17:=hblk.frozen 17;have ch:=hblk.lt;have HCS:=Ab (HC.o.set 17 (.slice a6 bx.body.length c6));rw [HS.o] at HCS;have d17:w3.cell? ⟨w1.heap.size,17,none⟩=some xv:=by
  rw [e17]
  have:=HB16.o;simp [Fu,aH,Ac,this]
 rw [HXE.o] at d17;have HCL2:Hq ((Ae bx.by_++ [aX.int .i64 bx.usage,aX.slice a6 bx.body.length c6]).length=18):=Ab (by have:=HB16.o; simp [Ac,this]);have HC2:Hq (∀u∈Ae bx.by_++ [aX.int .i64 bx.usage,aX.slice a6 bx.body.length c6],u.oneCell'=true):=Ab (by
  intro u hu;rcases List.mem_append.1 hu with h | h
  . exact Al _ u h
  . simp at h; rcases h with rfl | rfl <;> rfl)
 clear hb ho hv hblk hset c17 f17 e17;go_wp2_with (first | ((with_reducible refine zw 48 ?_);refine Aj rfl (.tmp 9) F6 rfl rfl (cs:=Ae bx.by_++ [aX.int .i64 bx.usage,aX.slice a6 bx.body.length c6]) HCL2.o HCS.o.blk0.cellsAll ?_) | ((with_reducible refine zws 4 48 ?_);refine Ag rfl (.tmp 4) (.tmp 48) F6 rfl rfl (vs:=Ae bx.by_++ [aX.int .i64 bx.usage,aX.slice a6 bx.body.length c6]) rfl HCL2.o HCS.o.pull3.blk0 (aB _) HC2.o ?_));intro w4 h4 k4;have h4':Blk w4 w.heap.size (Ae bx.by_++ [aX.int .i64 bx.usage,aX.slice a6 bx.body.length c6]) 255:=by simpa [A1e] using h4
 have HC:=Ab (HCS.o.pull3.reblk h4' k4);clear h4 h4' k4 ch d17 g17 HCS;go_wp2_with fail;refine bodyPost_ret (Ap rfl F6 rfl (cs:=Ae bx.by_++ [aX.int .i64 bx.usage,aX.slice a6 bx.body.length c6]) HCL2.o HC.o.blk0.cellsAll) rfl ⟨.slice a6 bx.body.length c6,rfl,?_⟩;have h:=HC.o.tail.tail;have h2:Ad w4 (Dm q s::_):=Cc.2 ⟨⟨kv,.slice (some ⟨b0,o0,none⟩) s.boxes.length c0,sv,m,vs,bs⟩,HOK.o,(h.zP [1,1,1,1,1,1,1])⟩;exact h2.swap
theorem A0G (q:Nat) (s:Sy) (i:Nat) (k:Aa) (u:Int) (b:Aa) (v:aX) (l:List Res) (w:aY) (h:Ad w (Dm q s::l)) (hv:Bs w v (Bb 98 (i+1))) (hi:s.boxes[i]?=some ⟨k,u,b⟩) (hn:s.boxes.length<1099511627776) (hbl:b.length<=1099511627776): bA aA 322 #[.pointer (some ⟨q,0,none⟩),A1 k,.int .i64 u,v] w (A4j q (.sym s) b l):=by
 have hk:k.length=16:=(Cc.1 h).elim λ _ hx=>hx.1.1.bx _ (aD hi)
 have HKK:=Ab hk;have HK1:Hq ((Ae k).length=16):=Ab (by rw [Ac,hk]);have HB:=Ab (Ti q s i _ v (.blk w.heap.size (Ae k) 46::l) _ (h.addBlkAt (Ae k) 46 (b:=w.heap.size) rfl).swap (hv.alloc _) hi hn hbl);obtain ⟨va,vc,rfl,_,_⟩:=hv.form;clear h hv hi hn hbl hk;unfold A1;go_enter Tryz.func322,Tryz.ntmps322;go_wp2_with fail;refine HB.o.mono ?_;rintro e w1 ⟨x,rfl,hc⟩;simp only at hc;have hbs:=(hc.rowOf (v:=x) (b:=b) (by simp));obtain ⟨xa,xc,rfl,_,_⟩:=hbs.form;have HCL:Hq ((Ae k++ [aX.int .i64 u,aX.slice xa b.length xc]).length=18):=Ab (by rw [aM,HK1.o]; rfl);have HC1:Hq (∀y∈Ae k++ [aX.int .i64 u,aX.slice xa b.length xc],y.oneCell'=true):=Ab (by
  intro y hy;rcases List.mem_append.1 hy with h | h
  . exact Al _ y h
  . simp at h; rcases h with rfl | rfl <;> rfl)
 have HC:=Ab (hc.addBlk A1e 255);clear hc hbs HB;go_wp2_with ((with_reducible refine zws 10 16 ?_);refine Ag rfl (.tmp 10) (.tmp 16) F6 rfl rfl (vs:=Ae k++ [aX.int .i64 u,aX.slice xa b.length xc]) rfl HCL.o HC.o.blk0 (aB _) HC1.o ?_);intro w2 h2 k2;have h2':Blk w2 w1.heap.size (Ae k++ [aX.int .i64 u,aX.slice xa b.length xc]) 255:=by simpa [A1e] using h2
 have HC:=Ab (HC.o.reblk h2' k2);have HKA:Hq (Ao w2 w1.heap.size 0 (Ae k)):=Ab (by
  have:=h2'.cellsAt 0 16
  rwa [List.drop_zero,List.take_left' HK1.o] at this)
 have HKB:Hq (Ao w2 w.heap.size 0 (Ae k)):=Ab (HC.o.pull4.blk0.cellsAll);have e16:w2.cell? ⟨w1.heap.size,16,none⟩=some (.int .i64 u):=by
  rw [h2'.cell 16];simp [aH,HK1.o]
 have e17:w2.cell? ⟨w1.heap.size,17,none⟩=some (.slice xa b.length xc):=by
  rw [h2'.cell 17];simp [aH,HK1.o]
 clear h2 h2' k2;go_wp2_with (first | ((with_reducible refine zw 22 ?_);refine Aj rfl (.tmp 21) Aq rfl rfl (cs:=Ae k) HK1.o HKA.o ?_) | ((with_reducible refine zw 23 ?_);refine Aj rfl (.tmp 5) Aq rfl rfl (cs:=Ae k) HK1.o HKB.o ?_) | ((with_reducible refine zw 24 ?_);refine A1c rfl (.tmp 22) (.tmp 23) rfl (k1:=k) (k2:=k) rfl rfl HKK.o HKK.o (b:=false) (by simp) ?_));go_ret2;exact ⟨_,rfl,HC.o.tail.pull3.tail⟩
theorem Ad.addEmpX {W:aY} {l:List Res} (h:Ad W l):Ad W (.emp::l):=h.new (aC _ _) (F:=λ _=>False) (λ _ h=>h) (λ _ h=>h.elim)
def A7s (l:List Res) (e:Ending) (w':aY):Prop:=∃q,e=.returned (.pointer (some ⟨q,0,none⟩))/\Ad w' (pvR q (.sym .nil)::l)
theorem Qe (l:List Res) (w:aY) (h:Ad w l):bA aA 17 #[] w (A7s l):=by
 have HC:=Ab h;clear h;have hmm:= @run_makeMap aA;go_enter Tryz.func17,Tryz.ntmps17;go_wp2_with fail;go_ret;refine ⟨w.heap.size+1,rfl,?_⟩;exact Cc.2 ⟨⟨.slice none 0 0,.slice none 0 0,.slice none 0 0,w.heap.size, [], []⟩,⟨⟨(λ _ h=>by cases h),(λ _ h=>by cases h)⟩,rfl⟩,((((((((HC.o.mapVMade aA 261 frL).addBlkAt [.slice none 0 0,.slice none 0 0,.slice none 0 0,.map (some w.heap.size)] 148 (by simp)).addEmpX).addNil 27 1).addEmpX).addNil 255 18).addNil 261 18)).zP [5]⟩
theorem A2o (q:Nat) (s:Sy) (v:aX) (b:Aa) (l:List Res) (w:aY) (h:Ad w (Dm q s::l)) (hb:Bs w v b) (hbl:b.length<=1099511627776) (hn:s.sums.length<1099511627776): bA aA 320 #[.pointer (some ⟨q,0,none⟩),v] w (Kb q (.sym (s.digest b).2) (s.digest b).1 l):=by
 obtain ⟨x,hok,h⟩:=Cc.1 h;have hd:=A1B q x.kv x.bv (.map (some x.m)) s.sums v b (.own 261 18 x.kv s.keys.length (frC s.keys)::.own 255 18 x.bv s.boxes.length (bxC s.boxes x.bs)::Bw x.bs (s.boxes.map Bx.body)::Cj aA 261 frL x.m (knM s)::l) w (If (h.zP [0,3,3])) hb hbl hn;refine hd.mono ?_;rintro e w' ⟨g,rfl,hc⟩;refine ⟨_,rfl,?_⟩;obtain ⟨sv,vs,hc⟩:=Vu hc;exact Ad.swap (Cc.2 ⟨⟨x.kv,x.bv,sv,x.m,vs,x.bs⟩,⟨⟨hok.1.bx,hok.1.kn⟩,hok.2⟩,hc.zP [0,3,3,3,0,0,1]⟩)
namespace PS
theorem sz_keys {s:Sy} {n:Nat} (h:(PS.sym s).sz<n):s.keys.length<n/\s.boxes.length<n/\s.sums.length<n/\s.known.length<n:=by
 simp only [sz] at h;omega
end PS
theorem Hl (q:Nat) (s:PS) (l:List Res) (w:aY) (h:Ad w (pvR q s::l)) (hn:s.sz<1099511627776): bA aA (Dc s) #[.pointer (some ⟨q,0,none⟩)] w λ e w'=>e=.returned (A1 s.fresh.1)/\Ad w' (pvR q s.fresh.2::l):=by
 cases s with
 | sym s=>(simp only [PS.fresh,PS.text,PS.derive,PS.lift,pvR,Dc,Io,Hi] at h ⊢); exact Xr q s l w h (PS.sz_keys hn).1
theorem Sz (q:Nat) (s:PS) (pw salt:ByteArray) (l:List Res) (w:aY) (h:Ad w (pvR q s::l)) (hp1:pw.size<=100000) (hp2:salt.size<=100000) (hn:s.sz<1099511627776): bA aA (Io s) #[.pointer (some ⟨q,0,none⟩),.string pw,.string salt] w λ e w'=>e=.returned (A1 (s.text pw.data.toList salt.data.toList).1)/\Ad w' (pvR q (s.text pw.data.toList salt.data.toList).2::l):=by
 cases s with
 | sym s=>(simp only [PS.fresh,PS.text,PS.derive,PS.lift,pvR,Dc,Io,Hi] at h ⊢); exact A0I q s pw salt l w h hp1 hp2 (PS.sz_keys hn).1 (PS.sz_keys hn).2.2.2
theorem Xj (q:Nat) (s:PS) (k:Aa) (lb:ByteArray) (l:List Res) (w:aY) (h:Ad w (pvR q s::l)) (hk:k.length=16) (hlb:lb.size<=100000) (hn:s.sz<1099511627776): bA aA (Hi s) #[.pointer (some ⟨q,0,none⟩),A1 k,.string lb] w λ e w'=>e=.returned (A1 (s.derive k lb).1)/\Ad w' (pvR q (s.derive k lb).2::l):=by
 cases s with
 | sym s=>(simp only [PS.fresh,PS.text,PS.derive,PS.lift,pvR,Dc,Io,Hi] at h ⊢); exact Ul q s k lb l w h hk (by unfold maxLen; omega) (PS.sz_keys hn).1 (PS.sz_keys hn).2.2.2
theorem A2a (q:Nat) (s:PS) (k:Aa) (u:Nat) (body:Aa) (v:aX) (l:List Res) (w:aY) (h:Ad w (pvR q s::l)) (hk:k.length=16) (hu:u<100) (hv:∀W,Ad W l->Bs W v body) (hbl:body.length<=100000) (hn:s.sz<1099511627776): bA aA (Rz s) #[.pointer (some ⟨q,0,none⟩),A1 k,.int .i64 u,v] w (Kb q (s.shut k u body).2 (s.shut k u body).1 l):=by
 cases s with
 | sym s=>exact A0H q s k u body v l w h hk (hv _ h.tail) (by omega) (PS.sz_keys hn).2.1
theorem Ks (q:Nat) (s:PS) (k:Aa) (u:Nat) (box body:Aa) (v:aX) (l:List Res) (w:aY) (h:Ad w (pvR q s::l)) (ho:s.Opn k u box body) (hk:k.length=16) (hu:u<100) (hv:∀W,Ad W l->Bs W v box) (hbl:body.length<=100000) (hn:s.sz<1099511627776): bA aA (In s) #[.pointer (some ⟨q,0,none⟩),A1 k,.int .i64 u,v] w (A4j q s body l):=by
 cases s with
 | sym s=>
  obtain ⟨i,hi,rfl⟩:=ho;exact A0G q s i k u body v l w h (hv _ h.tail) hi (PS.sz_keys hn).2.1 (by omega)
theorem Oi (q:Nat) (s:PS) (v:aX) (b:Aa) (l:List Res) (w:aY) (h:Ad w (pvR q s::l)) (hv:Bs w v b) (hbl:b.length<=1000000) (hn:s.sz<1099511627776): bA aA (Im s) #[.pointer (some ⟨q,0,none⟩),v] w (Kb q (s.digest b).2 (s.digest b).1 l):=by
 cases s with
 | sym s=>exact A2o q s v b l w h hv (by omega) (PS.sz_keys hn).2.2.1
end Go.Proofs.YtcnfaghcjlhoiaaGreat
namespace Go.Proofs.YtcnfaghcjlhoiaaGreat
open Go.RowKit
theorem D5 (n:Nat) (w:aY) (hn:n<=9223372036854775807):bA aA 260 #[.int .i64 (n:Int)] w (Ky w (.mk 0 0 n [] [])):=by
 have HN:=Ab (Blk.new w zs5 314);have HB0:Hq (Below w.heap.size w (w.alloc (.cells zs5.toArray 314))):=Ab ((aC _ _).alloc (aB _) _);have HSZ:Hq (∀o,(w.alloc o).heap.size=w.heap.size+1):=Ab (λ o=>by simp);have HRW:=Ab (Kq n (w.alloc (.cells zs5.toArray 314)));go_enter Tryz.func260,Tryz.ntmps260;go_wp2_with fail;refine HRW.o.mono ?_;rintro e w1 ⟨cs,rfl,h1,h2⟩;have HL:=Ab h1.length;have HO:=Ab h1.one;have h1':TvF w1 (λ b=>w.heap.size+1<=b) (.mk 0 0 n [] []) cs:=h1.mono (λ b hb=>by first | omega | (simp only [HSZ.o] at hb; omega) | (simp at hb; omega));have hbw:Below w.heap.size w w1:=HB0.o.trans (h2.mono (by first | omega | (simp; done)));have hr1:Blk w1 w.heap.size zs5 314:=HN.o.below h2 (by first | omega | (simp; done));have HT:=Ab h1';have HBW:=Ab hbw;have HR:=Ab hr1;clear h1 h1' h2 hbw hr1;go_wp2_with ((with_reducible refine zws 2 5 ?_);refine Ag rfl (.tmp 2) (.tmp 5) Ak rfl rfl (vs:=cs) rfl HL.o HR.o (aB _) HO.o ?_);intro w2 h2 k2;have H2:Hq (Blk w2 w.heap.size cs 314):=Ab (by simpa [zs5] using h2);have HB2:Hq (Below w.heap.size w w2):=Ab (HBW.o.trans (k2.below (by omega)));have HT2:Hq (TvF w2 (λ b=>w.heap.size<=b) (.mk 0 0 n [] []) cs):=Ab ((HT.o.keep k2 (λ b hb _ e=>by omega)).mono (λ b hb=>by omega));clear h2 k2;go_wp2_with fail;exact bodyPost_ret (Az rfl Ak rfl (cs:=cs) HL.o H2.o.cellsAll) rfl ⟨cs,rfl,HT2.o,HB2.o⟩
theorem To (k:Aa) (w:aY) (hk:k.length=16):bA aA 261 #[A1 k] w (Ky w (.mk 1 0 0 k [])):=by
 have HKB:=Ab (Blk.new w (Ae k) 46);have HN:=Ab (Blk.new (w.alloc (.cells (Ae k).toArray 46)) zs5 314);have HB0:Hq (Below w.heap.size w ((w.alloc (.cells (Ae k).toArray 46)).alloc (.cells zs5.toArray 314))):=Ab (((aC _ _).alloc (aB _) _).alloc (by simp) _);have hrow:Bs ((w.alloc (.cells (Ae k).toArray 46)).alloc (.cells zs5.toArray 314)) (.slice (some ⟨w.heap.size,0,none⟩) 16 16) k:=by
  have h:=(HKB.o.alloc (.cells zs5.toArray 314)).bs (off:=0) (n:=16) (cap:=16) (by omega) (aB _) (by unfold maxLen; decide);exact Sl.bs h (by simp [aQ,hk]) hk
 have HRW:=Ab (Di _ k _ hrow (by omega));clear hrow;unfold A1;go_enter Tryz.func261,Tryz.ntmps261;go_wp2_with fail;refine HRW.o.mono ?_;rintro e w1 ⟨cs,rfl,h1,h2⟩;have HL:=Ab h1.length;have HO:=Ab h1.one;have hr1:Blk w1 (w.heap.size+1) zs5 314:=(by simpa using HN.o:Blk _ (w.heap.size+1) zs5 314).below h2 (by simp);have hbw:Below w.heap.size w w1:=HB0.o.trans (h2.mono (by simp; omega));have HT:=Ab h1;have HBW:=Ab hbw;have HR:=Ab hr1;clear h1 h2 hbw hr1;go_wp2_with ((with_reducible refine zws 2 4 ?_);refine Ag rfl (.tmp 2) (.tmp 4) Ak rfl rfl (vs:=cs) rfl HL.o HR.o (aB _) HO.o ?_);intro w2 h2 k2;have H2:Hq (Blk w2 (w.heap.size+1) cs 314):=Ab (by simpa [zs5] using h2);have HB2:Hq (Below w.heap.size w w2):=Ab (HBW.o.trans (k2.below (by omega)));have HT2:Hq (TvF w2 (λ b=>w.heap.size<=b) (.mk 1 0 0 k []) cs):=Ab ((HT.o.keep k2 (λ b hb _ e=>by simp at hb; omega)).mono (λ b hb=>by simp at hb; omega));clear h2 k2;go_wp2_with fail;exact bodyPost_ret (Az rfl Ak rfl (cs:=cs) HL.o H2.o.cellsAll) rfl ⟨cs,rfl,HT2.o,HB2.o⟩
def Gz (w:aY) (F:Nat->Prop):List (Aa×Aa)->List aX->Prop
 | [],cs=>cs= []
 | t::l,cs=>∃bv rs,cs=.string (tx t.1)::bv::rs/\Bs w bv t.2/\(0<t.2.length->∀y,bv.ownBlock=some y->F y)/\Gz w F l rs
theorem Gz.keep {w w':aY} {F S:Nat->Prop} (hk:Ai S w w') (hs:∀b,F b->b<w.heap.size->¬S b):∀ {l:List (Aa×Aa)} {cs:List aX},Gz w F l cs->Gz w' F l cs
 | [],cs,h=>h
 | t::l,cs,h=>by
  obtain ⟨bv,rs,e,h1,h2,h3⟩:=h;exact ⟨bv,rs,e,h1.keepF hk h2 hs,h2,Gz.keep hk hs h3⟩
theorem Gz.below {w w':aY} {F:Nat->Prop} {l:List (Aa×Aa)} {cs:List aX} (h:Gz w F l cs) (hb:Below w.heap.size w w'):Gz w' F l cs:=
 Gz.keep (Ai.of_below hb) (λ _ _ hl hs=>by omega) h
def T5 (w:aY) (F:Nat->Prop) (l:List (Aa×Aa)) (v:aX):Prop:=
 ∃rows,Sl w 2 v l.length rows/\Gz w F l rows
def A8X (x:Tv):Aa×Aa:=(Eb x).getD ([], [])
def A8N (l:List Tv):Bool:=l.all (λ x=>(Eb x).isSome)
def A4z (rem:List Tv) (bad bad2:Bool):List (Aa×Aa)×List Tv×Bool×Bool:=
 ((Es 0 rem bad).1.l.map A8X,(Es 0 rem bad).2.1,(Es 0 rem bad).2.2,if A8N (Es 0 rem bad).1.l=true then (if 1< (Es 0 rem bad).1.l.length then true else bad2) else true)
def rT (t:Aa×Aa):Bool:=Au (tx t.1)
def Gt (l:List (Aa×Aa)):Tv:=.mk 2 0 0 [] ((l.takeWhile rT).map C6)
def Xt (l:List (Aa×Aa)):Bool:=l.all rT&&decide (l.length<=1)
theorem L9 {α:Type} (p:α->Bool):∀(l:List α) (j:Nat),(l.take j).all p=true->(∀h:j<l.length,p l[j]=false)->l.takeWhile p=l.take j
 | [],j,_,_=>by simp
 | x::l,0,_,h=>by
  rw [aS,List.take_zero]
  have:=h (by simp);simp only [List.getElem_cons_zero] at this;rw [this];rfl
 | x::l,j+1,ha,h=>by
  rw [aT,aU,Bool.and_eq_true] at ha;rw [aS,if_pos ha.1,aT,L9 p l j ha.2 (λ hj=>by
   have:=h (by simpa using hj);simpa using this)]
theorem Gz.at_ {w:aY} {F:Nat->Prop} :∀ {l:List (Aa×Aa)} {cs:List aX},Gz w F l cs->∀(k:Nat) (hk:k<l.length),∃bv,(cs.drop (k*2)).take 2= [.string (tx l[k].1),bv]/\Bs w bv l[k].2
 | [],cs,h,k,hk=>by simp at hk
 | t::l,cs,h,0,hk=>by
  obtain ⟨bv,rs,rfl,h1,h2,h3⟩:=h;exact ⟨bv,rfl,h1⟩
 | t::l,cs,h,k+1,hk=>by
  obtain ⟨bv,rs,rfl,h1,h2,h3⟩:=h;obtain ⟨b2,e,h4⟩:=Gz.at_ h3 k (by simpa using hk);refine ⟨b2,?_,h4⟩;rw [show (k+1)*2=k*2+1+1 by omega,aV,aV];exact e
structure TkL (w:aY) (q z:Nat) (l:List (Aa×Aa)) (wr:aY) (j:Nat) (lv:aX) (rows:List aX) (G:Nat->Prop):Prop where
 hq:Blk wr q zs5 314
 hz:Blk wr z [.int .i64 2,.int .i64 0,.int .u64 0,.slice none 0 0,lv] 314
 qz:q<z
 own:Own wr (z+1) 314 5 lv j rows
 tvs:Db wr G ((l.take j).map C6) rows
 g:∀x,G x->z+1<=x/\x<wr.heap.size/\lv.ownBlock≠some x
 v:∀x,lv.ownBlock=some x->z+1<=x/\x<wr.heap.size
 below:Below q w wr
 size:z+1<=wr.heap.size
 all:(l.take j).all rT=true
theorem TkL.tv {w wr:aY} {q z:Nat} {l:List (Aa×Aa)} {j:Nat} {lv:aX} {rows:List aX} {G:Nat->Prop} (h:TkL w q z l wr j lv rows G) (hs:∀h:j<l.length,rT l[j]=false) (hj:j<=l.length): TvF wr (λ b=>q<b) (Gt l) [.int .i64 2,.int .i64 0,.int .u64 0,.slice none 0 0,lv]:=by
 have hz:=h.qz;unfold Gt;rw [L9 rT l j h.all hs];refine TvF.mk (Sl.nil _ _ _) (by simp [aX.ownBlock]) ?_ (λ y hy=>by have:=h.v y hy; omega) (h.tvs.mono (λ b hb=>by have:=h.g b hb; omega))
 have:=h.own.sl;rw [show ((l.take j).map C6).length=j by rw [aL,List.length_take]; omega];exact this
theorem A0P (l:List (Aa×Aa)) (F0:Nat->Prop) (v:aX) (w:aY) (h:T5 w F0 l v) (hl:∀t∈l,t.1.length<=1099511627776/\t.2.length<=1099511627776) (hn:l.length<=1954687338211): bA aA 217 #[v] w (Gu w (Gt l) (Xt l)):=by
 obtain ⟨rows0,hs,hr⟩:=h;obtain ⟨a0,c0,rfl,hc0,hm0⟩:=hs.form;unfold maxLen at hm0;have HS:=Ab hs;have HR:=Ab hr;have HL:=Ab hl;obtain ⟨q,hq⟩:∃q,q=w.heap.size:=⟨_,rfl⟩
 have hqw:w.heap.size<=q:=by omega
 have hq0:Blk (w.alloc (.cells zs5.toArray 314)) q zs5 314:=by rw [hq]; exact Blk.new _ _ _
 have hb0:Below w.heap.size w (w.alloc (.cells zs5.toArray 314)):=(aC _ _).alloc (aB _) _;have hz0:(w.alloc (.cells zs5.toArray 314)).heap.size=q+1:=by rw [hq]; simp
 have HQ0:=Ab hq0;have HB0:=Ab hb0;have HZ0:=Ab hz0;have HSEQ:=Ab (Rt 0 (.slice none 0 0) 0 0 none rfl (w.alloc (.cells zs5.toArray 314)));have HQQ:=Ab hq;clear hs hr hl hq0 hb0 hz0;go_enter Tryz.func217,Tryz.ntmps217;clear hq;go_wp2_with fail;refine HSEQ.o.mono ?_;rintro e w1 ⟨rfl,hb⟩;obtain ⟨z,hz⟩:∃z,z=w1.heap.size:=⟨_,rfl⟩
 have hz1:=hb.size;rw [HZ0.o] at hz1;have hpl:TkL w q z l (w1.alloc (.cells #[.int .i64 2,.int .i64 0,.int .u64 0,.slice none 0 0,.slice none 0 0] 314)) 0 (.slice none 0 0) [] (λ _=>False):=by
  refine ⟨(HQ0.o.below hb (by rw [HZ0.o]; omega)).alloc _,by rw [hz]; exact Blk.at_ rfl,by omega,Own.nil _ _ _ _ _,rfl,λ _ h=>h.elim,by simp [aX.ownBlock],?_,by simp [hz],rfl⟩;rw [HQQ.o];exact (HB0.o.trans (hb.mono (by simp))).alloc (by omega) _
 have HPL:=Ab hpl;clear hb HSEQ hpl hz1 HB0 HQ0 HZ0;go_upto_region 2 with fail;generalize hW0:w1.alloc (.cells #[.int .i64 2,.int .i64 0,.int .u64 0,.slice none 0 0,.slice none 0 0] 314)=W0 at*;rw [<-hz,<-HQQ.o];clear hW0 hz;go_wp2_with fail;go_loopw [12] (λ i wr=>∃(j:Nat) (lv:aX) (rows:List aX) (G:Nat->Prop),j<=l.length/\i=.int .i64 j/\TkL w q z l wr j lv rows G) (λ i _=>l.length- (intOf i).toNat)
 case atStart=>exact ⟨0,_,_,_,aE _,rfl,HPL.o⟩
 case round=>
  obtain ⟨j,lv,rows,G,hj,rfl,hp⟩:=hrel;have HP:=Ab hp;have hszr:=hp.size;have hqz:=hp.qz;clear HPL;have hlf:∃a c,lv=.slice a j c:=by obtain ⟨a,c,e,_⟩:=hp.own.sl.form; exact ⟨a,c,e⟩
  obtain ⟨la,lc,rfl⟩:=hlf;by_cases hlt:j<l.length
  . obtain ⟨bl,ol,rfl,hcell⟩:=HS.o.addr (by rw [HS.o.1]; omega);obtain ⟨bv,hbe,hbv⟩:=HR.o.at_ j hlt;have hbw:Below w.heap.size w wr:=HP.o.below.mono hqw;have hcr:Ao wr bl (ol+j*2) [.string (tx l[j].1),bv]:=λ i u hi=>Bj hbw (by
     rw [<-hbe,List.getElem?_take] at hi;split at hi
     . rw [List.getElem?_drop] at hi;rw [aR];exact hcell _ u hi
     . simp at hi)
    obtain ⟨ab,cb,rfl,hcb,hmb⟩:=hbv.form;have hji:(j:Int)<l.length:=by omega
    have HCR:=Ab hcr;have HBV:=Ab (hbv.below hbw);have HLJ:=Ab (HL.o l[j] (aF hlt));have HSN:Hq (∀(w0:aY) (Gx:Nat->Prop) (rs:List aX) (cs2:List aX),Db w0 Gx ((l.take j).map C6) rs->TvF w0 Gx (C6 l[j]) cs2->Db w0 Gx ((l.take (j+1)).map C6) (rs++cs2)):=Ab (λ w0 Gx rs cs2 h1 h2=>by
     rw [aW hlt,List.map_append];exact h1.snoc h2)
    have HAL:Hq (rT l[j]=true->(l.take (j+1)).all rT=true):=Ab (λ h=>by
     rw [aW hlt,List.all_append,HP.o.all];simp [h])
    have HNO:Hq (rT l[j]=false->(∀h:j<l.length,rT l[j]=false)/\Xt l=false):=Ab (λ h=>⟨λ _=>h,by
     unfold Xt;rw [show l.all rT=false from List.all_eq_false.2 ⟨l[j],aF hlt,by rw [h]; simp⟩]
     rfl⟩)
    clear hcell hbe hbv hbw hcr hp;generalize hgt:l[j]=t at*;obtain ⟨t1,t2⟩:=t;simp only at*;have HG6:=Ab (Blk.new wr [.string (tx t1),.slice ab t2.length cb] 108);have HTV:=Ab (Fs (t1,t2) (.slice ab t2.length cb) (wr.alloc (.cells [.string (tx t1),.slice ab t2.length cb].toArray 108)) (HBV.o.alloc _) HLJ.o.1 HLJ.o.2);clear hgt;go_wp2_with (first | ((with_reducible refine zw 15 ?_);refine Aj rfl (.tmp 14) Bc rfl rfl (cs:= [.string (tx t1),.slice ab t2.length cb]) rfl HCR.o ?_) | ((with_reducible refine zw 17 ?_);refine Aj rfl (.tmp 6) Bc rfl rfl (cs:= [.string (tx t1),.slice ab t2.length cb]) rfl HG6.o.cellsAll ?_));refine HTV.o.mono ?_;rintro e w2 ⟨cs2,rfl,htv,hb2⟩;have hz2:=hb2.size;simp at hz2;have hbr:Below wr.heap.size wr w2:=(((aC _ _).alloc (aB _) _).trans (hb2.mono (by simp)));have HBR:=Ab hbr;have HCL:=Ab htv.length;have HC1:=Ab htv.one;have HTT:=Ab htv;have HN7:=Ab (Blk.new w2 zs5 314);have hrt:Au (tx (t1,t2).1)=rT (t1,t2):=rfl;rw [hrt];clear hb2 htv hbr HTV hrt;go_upto_region 6 with ((with_reducible refine zws 7 20 ?_);refine Ag rfl (.tmp 7) (.tmp 20) Ak rfl rfl (vs:=cs2) rfl HCL.o HN7.o (aB _) HC1.o ?_);intro w3 h3 k3;have h3':Blk w3 w2.heap.size cs2 314:=by
     rw [aP (by decide),List.append_nil] at h3;exact h3
    have hz3:=k3.size;simp at hz3;have hb3:Below w2.heap.size w2 w3:=((aC _ _).alloc (aB _) _).trans (k3.below (by omega));have HB3:Hq (Below wr.heap.size wr w3):=Ab (HBR.o.trans (hb3.mono (by omega)));have H3:=Ab h3';have HTT3:=Ab (HTT.o.keep (Ai.of_below hb3) (λ y _ hl h=>by omega));have hzq:=HP.o.hz.below HB3.o (by omega);have z4:w3.cell? ⟨z,4,none⟩=some (.slice la j lc):=by rw [hzq.cell]; rfl
    have HZ3:=Ab hzq;clear h3 k3 h3' hb3 HTT hzq HN7 HBR
    cases hrt:rT (t1,t2) with
    | false=>
     have HRT:=Ab hrt;clear hrt;have hq3:=HP.o.hq.below HB3.o (by omega);have HQ3:=Ab hq3;clear hq3;go_wp2_with (first | ((with_reducible refine zw 24 ?_);refine Aj rfl (.tmp 4) Ak rfl rfl (cs:= [.int .i64 2,.int .i64 0,.int .u64 0,.slice none 0 0,.slice la j lc]) rfl HZ3.o.cellsAll ?_) | ((with_reducible refine zws 2 24 ?_);refine Ag rfl (.tmp 2) (.tmp 24) Ak rfl rfl (vs:= [.int .i64 2,.int .i64 0,.int .u64 0,.slice none 0 0,.slice la j lc]) rfl rfl HQ3.o (aB _) (by intro u hu; simp at hu; rcases hu with rfl | rfl | rfl | rfl | rfl <;> rfl) ?_));intro w4 h4 k4;have H4:Hq (Blk w4 q [.int .i64 2,.int .i64 0,.int .u64 0,.slice none 0 0,.slice la j lc] 314):=Ab (by simpa [zs5] using h4);have HK4:=Ab k4;clear h4 k4;go_wp2_with fail;refine bodyPost_ret (Ap rfl Ak rfl (cs:= [.int .i64 2,.int .i64 0,.int .u64 0,.slice none 0 0,.slice la j lc]) rfl H4.o.cellsAll) rfl ⟨[.int .i64 2,.int .i64 0,.int .u64 0,.slice none 0 0,.slice la j lc],?_,?_,?_⟩
     . rw [(HNO.o HRT.o).2]; rfl
     . exact (((HP.o.tv (HNO.o HRT.o).1 hj).below HB3.o).keep HK4.o (λ b hb _ e=>by omega)).mono (λ b hb=>by omega)
     . exact (HP.o.below.trans (HB3.o.mono (by omega)) |>.trans (HK4.o.below (by omega))).mono hqw
    | true=>
     have HRT:=Ab hrt;clear hrt;have HO3:=Ab (HP.o.own.below HB3.o);go_wp2_with (first | ((with_reducible refine zw 27 ?_);refine Aj rfl (.tmp 7) Ak rfl rfl (cs:=cs2) HCL.o H3.o.cellsAll ?_) | ((with_reducible refine zw 28 ?_);refine Ns rfl (.tmp 27) Hs rfl rfl (by have:=HCL.o; simpa using this) (by decide) ?_) | ((with_reducible refine zw 29 ?_);refine Dr rfl (.tmp 26) (.tmp 28) Hs rfl (z+1) (HO3.o.alloc _) (λ b hb=>by have:=(HP.o.v b hb).2; simp; omega) (Sl.lit (n:=1) rfl (by simpa using HCL.o) HC1.o (by unfold maxLen; decide)) (by unfold maxLen; omega) (by omega) (by simp; omega) ?_));intro v7 w7 ho7 hk7 hv7;have hz7:=hk7.size;simp at hz7;obtain ⟨a7,c7,hv7f,_⟩:=ho7.sl.form;subst hv7f;have k37:Ai (λ b=>(aX.slice la j lc).ownBlock=some b\/w3.heap.size<=b) w3 w7:=by
      refine ((Ai.refl _ _).alloc _ (.inr (aB _))).trans (hk7.mono (λ b hb=>?_));rcases hb with hb | hb
      . exact .inl hb.1
      . exact .inr (by omega)
     have ka:Ai (λ b=>(aX.slice la j lc).ownBlock=some b\/wr.heap.size<=b) wr w7:=((Ai.of_below HB3.o).mono (λ b hb=>.inr hb)).trans (k37.mono (λ b hb=>by
      rcases hb with hb | hb
      . exact .inl hb
      . exact .inr (by omega)))
     have hvr:∀b,b<z+1->¬((aX.slice la j lc).ownBlock=some b\/wr.heap.size<=b):=by
      rintro b hb (h | h)
      . have:=(HP.o.v b h).1; omega
      . omega
     have hq7:=HP.o.hq.keep ka (hvr _ (by omega));have hz7':=HP.o.hz.keep ka (hvr _ (by omega));have z7:w7.cell? ⟨z,4,none⟩=some (.slice la j lc):=by rw [hz7'.cell]; rfl
     have zf7:=hz7'.frozen 4;have hb7:Below q w w7:=HP.o.below.trans (ka.below (by
      rintro b (h | h)
      . have:=(HP.o.v b h).1; omega
      . omega))
     have htvs7:Db w7 (λ y=>G y\/(wr.heap.size<=y/\y<w3.heap.size)) ((l.take (j+1)).map C6) (rows++cs2):=by
      refine HSN.o w7 _ _ _ ((HP.o.tvs.keep ka (λ y hy hl h=>?_)).mono (λ y hy=>.inl hy)) ?_
      . have hg:=HP.o.g y hy;rcases h with h | h
        . exact hg.2.2 h
        . omega
      . refine (((TvF.tight _ _ HTT3.o)).keep k37 (λ y hy hl h=>?_)).mono (λ y hy=>?_)
        . have hy1:=hy.1;simp at hy1;rcases h with h | h
          . have:=(HP.o.v y h).2; omega
          . omega
        . have hy1:=hy.1;simp at hy1;exact .inr ⟨by omega,hy.2⟩
     have hv8:∀b,(aX.slice a7 (j+1) c7).ownBlock=some b->z+1<=b/\b<w7.heap.size:=λ b hb=>by
      refine ⟨?_,(hv7 b hb).2⟩;rcases (hv7 b hb).1 with h | h
      . exact (HP.o.v b h).1
      . omega
     have HPn:Hq (TkL w q z l (w7.setCell ⟨z,4,none⟩ (.slice a7 (j+1) c7)) (j+1) (.slice a7 (j+1) c7) (rows++cs2) (λ y=>G y\/(wr.heap.size<=y/\y<w3.heap.size))):=Ab (by
      have ks:Ai (λ b=>b=z) w7 (w7.setCell ⟨z,4,none⟩ (.slice a7 (j+1) c7)):=Ai.one _ _ _ _;have hsz:(w7.setCell ⟨z,4,none⟩ (.slice a7 (j+1) c7)).heap.size=w7.heap.size:=by simp [aY.setCell]
      refine ⟨hq7.keep ks (by omega),hz7'.set 4 _,hqz,ho7.keep ks (λ b hb e=>by have:=(hv8 b hb).1; omega),htvs7.keep ks (λ y hy _ e=>?_),λ y hy=>?_,by rw [hsz]; exact hv8,hb7.trans (ks.below (by omega)),by rw [hsz]; omega,HAL.o HRT.o⟩
      . rcases hy with hy | hy
        . have:=HP.o.g y hy; omega
        . omega
      . rw [hsz];rcases hy with hy | hy
        . have hg:=HP.o.g y hy;refine ⟨hg.1,by omega,λ e=>?_⟩;rcases (hv7 y e).1 with h | h
          . exact hg.2.2 h
          . omega
        . refine ⟨by omega,by omega,λ e=>?_⟩;rcases (hv7 y e).1 with h | h
          . have:=(HP.o.v y h).2; omega
          . omega)
     clear ho7 hk7 hv7 k37 ka hvr hq7 hz7' hb7 htvs7 hv8 HB3 HO3 HTT3 HCL HC1 z4 HSN HAL HNO;go_wp2_with fail;go_roundw
     case rel=>exact ⟨j+1,_,_,_,by omega,by go_num,HPn.o⟩
     case measure=>simp [intOf]; omega
  . obtain rfl:j=l.length:=by omega
    have HA:Hq (Xt l=decide (l.length<=1)):=Ab (by
     have h:=HP.o.all;rw [List.take_length] at h;unfold Xt;rw [h,Bool.true_and])
    have HQ3:=Ab HP.o.hq;have HZ3:=Ab HP.o.hz;have HTV:=Ab (HP.o.tv (λ h=>by omega) (aB _));clear hp;obtain ⟨bb,hbb⟩:∃bb,bb=decide (l.length<=1):=⟨_,rfl⟩
    have hb2:decide ((l.length:Int)<=1)=bb:=by rw [hbb]; simp; omega
    have HBB:=Ab hbb;clear hbb;go_wp2_with (first | ((with_reducible refine zw 32 ?_);refine Aj rfl (.tmp 4) Ak rfl rfl (cs:= [.int .i64 2,.int .i64 0,.int .u64 0,.slice none 0 0,.slice la l.length lc]) rfl HZ3.o.cellsAll ?_) | ((with_reducible refine zws 2 32 ?_);refine Ag rfl (.tmp 2) (.tmp 32) Ak rfl rfl (vs:= [.int .i64 2,.int .i64 0,.int .u64 0,.slice none 0 0,.slice la l.length lc]) rfl rfl HQ3.o (aB _) (by intro u hu; simp at hu; rcases hu with rfl | rfl | rfl | rfl | rfl <;> rfl) ?_));intro w4 h4 k4;have H4:Hq (Blk w4 q [.int .i64 2,.int .i64 0,.int .u64 0,.slice none 0 0,.slice la l.length lc] 314):=Ab (by simpa [zs5] using h4);have HK4:=Ab k4;clear h4 k4;go_wp2_with fail;refine bodyPost_ret (Ap rfl Ak rfl (cs:= [.int .i64 2,.int .i64 0,.int .u64 0,.slice none 0 0,.slice la l.length lc]) rfl H4.o.cellsAll) rfl ⟨[.int .i64 2,.int .i64 0,.int .u64 0,.slice none 0 0,.slice la l.length lc],?_,?_,?_⟩
    . rw [HA.o,<-HBB.o]; rfl
    . exact (HTV.o.keep HK4.o (λ b hb _ e=>by omega)).mono (λ b hb=>by omega)
    . exact (HP.o.below.trans (HK4.o.below (by omega))).mono hqw
inductive Pt where
 | s (l:Aa)
 | n (x:Int)
 | b (l:Aa)
 | t (x:Bool)
 | i (t:Aa×Aa)
 | x (l:List (Aa×Aa))
inductive Kd where | s | n | b | t | i | x
abbrev St:Type:=List Tv×Bool×Bool
def A5z (k:Kd) (st:St):Pt×St:=
 match k with
 | .s=>(.s (Bq st.1 st.2.1).1,(Bq st.1 st.2.1).2.1,(Bq st.1 st.2.1).2.2,st.2.2)
 | .n=>(.n (Cs st.1 st.2.1).1,(Cs st.1 st.2.1).2.1,(Cs st.1 st.2.1).2.2,st.2.2)
 | .b=>(.b (Bv st.1 st.2.1).1,(Bv st.1 st.2.1).2.1,(Bv st.1 st.2.1).2.2,st.2.2)
 | .t=>(.t (Kw st.1 st.2.1).1,(Kw st.1 st.2.1).2.1,(Kw st.1 st.2.1).2.2,st.2.2)
 | .i=>(.i (Ht st.1 st.2.1 st.2.2).1,(Ht st.1 st.2.1 st.2.2).2)
 | .x=>(.x (A4z st.1 st.2.1 st.2.2).1,(A4z st.1 st.2.1 st.2.2).2)
def E9:List Kd->St->List Pt×St
 | [],st=>([],st)
 | k::ks,st=>((A5z k st).1::(E9 ks (A5z k st).2).1,(E9 ks (A5z k st).2).2)
def Dz (t:Int):List Kd:=
 if t=11 then [.s,.n,.n,.b] else if t=12 then [.s,.i,.b] else if t=13 then [.s,.n,.n,.t,.t,.i,.b,.x] else if t=14 then [.s,.i,.b]
 else if t=15 then [.s,.s,.n] else if t=16 then [.s,.s,.n,.i] else if t=17 then [.s,.s,.n,.i,.b] else if t=18 then [.s,.s,.n,.b]
 else if t=19 then [.s,.s,.n,.n,.n,.b] else if t=20 then [.s,.n,.n,.t,.i,.b] else if t=21 then [.s,.b] else if t=22 then [.s,.n,.n] else []
def A8Y (t:Int):aZ:=
 if t=11 then 104 else if t=12 then 110 else if t=13 then 121 else if t=14 then 124
 else if t=15 then 278 else if t=16 then 343 else if t=17 then 128 else if t=18 then 138
 else if t=19 then 296 else if t=20 then 323 else if t=21 then 205 else 209
def ofS (x:Tv):Option (List Pt):=
 if x.kind=2/\(Dz x.tag).isEmpty=false/\(E9 (Dz x.tag) (x.l,false,false)).2.2.2=false/\(E9 (Dz x.tag) (x.l,false,false)).2.2.1=false/\(E9 (Dz x.tag) (x.l,false,false)).2.1.isEmpty=true
 then some (E9 (Dz x.tag) (x.l,false,false)).1 else none
def PtV (w:aY) (F:Nat->Prop):Pt->List aX->Prop
 | .s l,cs=>cs= [.string (tx l)]
 | .n x,cs=>cs= [.int .i64 x]
 | .b l,cs=>∃v,cs= [v]/\Bs w v l/\(0<l.length->∀y,v.ownBlock=some y->F y)
 | .t x,cs=>cs= [.bool x]
 | .i t,cs=>∃bv,cs= [.string (tx t.1),bv]/\Bs w bv t.2/\(0<t.2.length->∀y,bv.ownBlock=some y->F y)
 | .x l,cs=>∃v,cs= [v]/\T5 w F l v
def Ka (w:aY) (F:Nat->Prop):List Pt->List aX->Prop
 | [],cs=>cs= []
 | p::l,cs=>∃a b,cs=a++b/\PtV w F p a/\Ka w F l b
def A3N:Pt->Bool | .x _=>false | _=>true
theorem PtV.keep {w w':aY} {F S:Nat->Prop} (hk:Ai S w w') (hs:∀b,F b->b<w.heap.size->¬S b):∀ {p:Pt} {cs:List aX},A3N p=true->PtV w F p cs->PtV w' F p cs
 | .s _,_,_,h=>h
 | .n _,_,_,h=>h
 | .t _,_,_,h=>h
 | .b l,_,_,⟨v,e,h1,h2⟩=>⟨v,e,h1.keepF hk h2 hs,h2⟩
 | .i t,_,_,⟨v,e,h1,h2⟩=>⟨v,e,h1.keepF hk h2 hs,h2⟩
 | .x _,_,hn,_=>by simp [A3N] at hn
theorem Ka.keep {w w':aY} {F S:Nat->Prop} (hk:Ai S w w') (hs:∀b,F b->b<w.heap.size->¬S b):∀ {l:List Pt} {cs:List aX},l.all A3N=true->Ka w F l cs->Ka w' F l cs
 | [],_,_,h=>h
 | p::l,_,hn,⟨a,b,e,h1,h2⟩=>by
  simp only [aU,Bool.and_eq_true] at hn;exact ⟨a,b,e,h1.keep hk hs hn.1,Ka.keep hk hs hn.2 h2⟩
theorem Ka.snoc {w:aY} {F:Nat->Prop} :∀ {l:List Pt} {cs:List aX} {p:Pt} {c:List aX},Ka w F l cs->PtV w F p c->Ka w F (l++ [p]) (cs++c)
 | [],cs,p,c,h,hp=>by
  rw [show cs= [] from h];exact ⟨c, [],by simp,hp,rfl⟩
 | q::l,cs,p,c,⟨a,b,e,h1,h2⟩,hp=>by
  subst e;exact ⟨a,b++c,by simp,h1,Ka.snoc h2 hp⟩
def T4 (w:aY) (F:Nat->Prop) (t:Int) (l:List Pt) (v:aX):Prop:=∃cs,v=.iface (A8Y t) (.agg cs.toArray)/\Ka w F l cs
theorem Tkn.hs {w:aY} {F:Nat->Prop} {pm p:Nat} {rem:List Tv} {bad bad2:Bool} (h:Tkn w F pm p rem bad bad2):∀b,F b->b<w.heap.size->¬Sm pm p w.heap.size b:=λ b hb hl e=>by
 rcases e with e | e | e
 . exact h.2.1.notF (by rw [<-e]; exact hb)
 . exact h.2.2.2.1 (by rw [<-e]; exact hb)
 . omega
theorem Tkn.drew {w:aY} {F:Nat->Prop} {pm p:Nat} {rem:List Tv} {bad bad2:Bool} (h:Tkn w F pm p rem bad bad2):Tkn w.drew F pm p rem bad bad2:=h.below (aC _ _).drew
theorem Tkn.ptr {w:aY} {F:Nat->Prop} {pm p:Nat} {rem:List Tv} {bad bad2:Bool} (h:Tkn w F pm p rem bad bad2):w.cell? ⟨pm,0,none⟩=some (.pointer (some ⟨p,0,none⟩)):=h.1.cell 0
theorem A5H {w w':aY} {F:Nat->Prop} {pm p:Nat} {rem:List Tv} {bad bad2:Bool} (h:Tkn w F pm p rem bad bad2) {v:aX} {r:List Tv×Bool} {e:Ending} (k:Ri w F p v r e w'):Rj w F pm p (r.1,r.2,bad2) e v w':=
 ⟨k.1,h.step k.2.1 k.2.2,A7k (aB _) k.2.2⟩
theorem Vb (rem:List Tv) (bad bad2:Bool) (pm p:Nat) (F:Nat->Prop) (w:aY) (h:Tkn w F pm p rem bad bad2): bA aA 225 #[.pointer (some ⟨p,0,none⟩)] w λ e w'=>Rj w F pm p ((Bq rem bad).2.1,(Bq rem bad).2.2,bad2) e (.string (tx (Bq rem bad).1)) w':=
 (Gl rem bad p F w h.2.1).mono λ _ _ k=>A5H h k
theorem A0e (rem:List Tv) (bad bad2:Bool) (pm p:Nat) (F:Nat->Prop) (w:aY) (h:Tkn w F pm p rem bad bad2): bA aA 226 #[.pointer (some ⟨p,0,none⟩)] w λ e w'=>Rj w F pm p ((Cs rem bad).2.1,(Cs rem bad).2.2,bad2) e (.int .i64 (Cs rem bad).1) w':=
 (Cb rem bad p F w h.2.1).mono λ _ _ k=>A5H h k
theorem Rp (rem:List Tv) (bad bad2:Bool) (pm p:Nat) (F:Nat->Prop) (w:aY) (h:Tkn w F pm p rem bad bad2): bA aA 227 #[.pointer (some ⟨p,0,none⟩)] w λ e w'=>∃v,Rj w F pm p ((Bv rem bad).2.1,(Bv rem bad).2.2,bad2) e v w'/\Bs w' v (Bv rem bad).1/\(0< (Bv rem bad).1.length->∀y,v.ownBlock=some y->F y):=
 (Jq rem bad p F w h.2.1).mono λ _ _ ⟨v,k,h1,h2⟩=>⟨v,A5H h k,h1,h2⟩
section
def A4V:Nat:=18446744073709551615
def E4:Int->Nat
 | .ofNat n=>n
 | .negSucc n=>A4V-n
def Ho:Pt->Tv
 | .s l=>.mk 1 0 0 l []
 | .n x=>.mk 0 0 (E4 x) [] []
 | .b l=>.mk 1 0 0 l []
 | .t b=>.mk 0 0 (if b then 1 else 0) [] []
 | .i t=>C6 t
 | .x l=>Gt l
def ptB:Pt->Bool
 | .s l=>Au (tx l)
 | .n x=>Bp x
 | .b _=>true
 | .t _=>true
 | .i t=>rT t
 | .x l=>Xt l
theorem A5i (n:Nat):E4 (n:Int)=n:=rfl
theorem A5h (x:Int) (m:Nat) (h:x<0) (hm:x+(A4V+1:Nat)=m):E4 x=m:=by
 cases x with
 | ofNat n=>exact absurd h (by simp)
 | negSucc n=>
  show A4V-n=m
  have:A4V=18446744073709551615:=rfl;omega
theorem Ie (x:Int) (w:aY) (h1: -9223372036854775808<=x) (h2:x<=9223372036854775807):bA aA 215 #[.int .i64 x] w (Ky w (.mk 0 0 (E4 x) [] [])):=by
 rcases (by omega:x<0\/0<=x) with h | h
 . obtain ⟨m,hm⟩:∃m:Nat,x+18446744073709551616=m:=⟨_,(Int.toNat_of_nonneg (by omega)).symm⟩
   rw [A5h x m h (by unfold A4V; omega)];exact A4Z x m w h h1 hm
 . obtain ⟨n,rfl⟩:=Int.eq_ofNat_of_zero_le h;rw [A5i];exact A4Y n w (by omega)
theorem E2 {P:Program} {o:bC} {a:Act} {W:aY} {ty:aZ} {m b off:Nat} {x:Operand} {cs:List aX} (ho:o.op=.load ty x) (hT:A3 P ty m) (hx:a.eval x=.pointer (some ⟨b,off,none⟩)) (hm:cs.length=m) (hc:Ao W b off cs): (execOp a.eval o).run P W=.ok (.value (.agg cs.toArray)) W:=by
 have h:=Ek hT hm hc;unfold execOp;simp only [ho,hx,Instr.loadAt,Instr.sureAddr,Sem.run_bind,Sem.run_pure,Result.andThen_ok,h]
structure VC (w:aY) (q:Nat) (blks:List (Nat×List aX×aZ)) (trees:List (Tv×List aX)) (rows:List (aX×Aa)) (W:aY):Prop where
 below:Below w.heap.size w W
 hq:q=w.heap.size
 lt:q<W.heap.size
 zq:Blk W q zs5 314
 blk:∀b∈blks,Blk W b.1 b.2.1 b.2.2/\q<b.1
 tree:∀t∈trees,TvF W (λ b=>q<b) t.1 t.2
 row:∀r∈rows,Bs W r.1 r.2/\(0<r.2.length->∀y,r.1.ownBlock=some y->y<q)
section
variable {w:aY} {q:Nat} {blks:List (Nat×List aX×aZ)} {trees:List (Tv×List aX)} {rows:List (aX×Aa)} {W W':aY}
theorem VC.step (h:VC w q blks trees rows W) (hb:Below W.heap.size W W'):VC w q blks trees rows W':=
 ⟨h.below.trans (hb.mono h.below.size),h.hq,Nat.lt_of_lt_of_le h.lt hb.size,h.zq.below hb h.lt,λ b hm=>⟨(h.blk b hm).1.below hb (h.blk b hm).1.lt,(h.blk b hm).2⟩,λ t hm=>(h.tree t hm).below hb,λ r hm=>⟨(h.row r hm).1.below hb,(h.row r hm).2⟩⟩
theorem VC.drew (h:VC w q blks trees rows W):VC w q blks trees rows W.drew:=h.step ((aC _ _).drew)
theorem VC.blkAt (h:VC w q blks trees rows W) (i:Nat) {b:Nat} {cs:List aX} {T:aZ} (hi:blks[i]?=some (b,cs,T)):Blk W b cs T:=(h.blk _ (aD hi)).1
theorem VC.rowAt (h:VC w q blks trees rows W) (i:Nat) {v:aX} {l:Aa} (hi:rows[i]?=some (v,l)):Bs W v l:=(h.row _ (aD hi)).1
theorem VC.addBlk (h:VC w q blks trees rows W) {b:Nat} {cs:List aX} {T:aZ} (hb:Blk W b cs T) (hq:q<b):VC w q (blks++ [(b,cs,T)]) trees rows W:=
 ⟨h.below,h.hq,h.lt,h.zq,λ x hm=>by
  rcases List.mem_append.1 hm with hm | hm
  . exact h.blk x hm
  . rw [List.mem_singleton.1 hm]; exact ⟨hb,hq⟩,h.tree,h.row⟩
theorem VC.addTree (h:VC w q blks trees rows W) {x:Tv} {cs:List aX} (ht:TvF W (λ b=>q<b) x cs):VC w q blks (trees++ [(x,cs)]) rows W:=
 ⟨h.below,h.hq,h.lt,h.zq,h.blk,λ t hm=>by
  rcases List.mem_append.1 hm with hm | hm
  . exact h.tree t hm
  . rw [List.mem_singleton.1 hm]; exact ht,h.row⟩
theorem VC.start (hr:∀r∈rows,Bs w r.1 r.2) (cs:List aX) (T:aZ):VC w w.heap.size [(w.heap.size+1,cs,T)] [] rows ((w.alloc (.cells zs5.toArray 314)).alloc (.cells cs.toArray T)):=by
 have h1:(w.alloc (.cells zs5.toArray 314)).heap.size=w.heap.size+1:=by simp
 have hb1:Below w.heap.size w (w.alloc (.cells zs5.toArray 314)):=(aC _ _).alloc (aB _) _;have hb2:Below w.heap.size w ((w.alloc (.cells zs5.toArray 314)).alloc (.cells cs.toArray T)):=hb1.alloc (by omega) _;refine ⟨hb2,rfl,by simp <;> omega,(Blk.new _ _ _).alloc _,λ b hm=>?_,λ t hm=>by simp at hm,λ r hm=>⟨(hr r hm).below hb2,λ hn y hy=>Sl.own_lt (hr r hm) (by decide) hn y hy⟩⟩;rw [List.mem_singleton.1 hm];exact ⟨by have:=Blk.new (w.alloc (.cells zs5.toArray 314)) cs T; rw [h1] at this; exact this,by omega⟩
structure VR (w:aY) (q:Nat) (blks:List (Nat×List aX×aZ)) (trees:List (Tv×List aX)) (rows:List (aX×Aa)) (W:aY):Prop where
 below:Below w.heap.size w W
 lt:q<W.heap.size
 len:A5O q W
 blk:∀b∈blks,Blk W b.1 b.2.1 b.2.2
 tree:∀t∈trees,TvF W (λ b=>q<b) t.1 t.2
 row:∀r∈rows,Bs W r.1 r.2
theorem VC.gv (h:VC w q blks trees rows W) {X:Tv} (g:GV (λ b=>q<b) q X W W'):VR w q blks trees rows W':=by
 have hz:=g.1.size;have hlt:=h.lt;refine ⟨h.below.trans (g.1.below (by have:=h.hq; rintro b (e | e) <;> omega)),by omega,g.2.2 ⟨_,h.zq,rfl⟩,λ b hm=>?_,λ t hm=>?_,λ r hm=>?_⟩
 . have:=h.blk b hm;exact this.1.keep g.1 (by have:=this.1.lt; rintro (e | e) <;> omega)
 . exact (h.tree t hm).keep g.1 (GV.not (Nat.lt_irrefl q))
 . have:=h.row r hm;exact this.1.keepF g.1 (F:=λ y=>y<q) this.2 (λ b hb hl e=>by
    have hb:b<q:=hb;rcases e with e | e <;> omega)
theorem VR.blkAt (h:VR w q blks trees rows W) (i:Nat) {b:Nat} {cs:List aX} {T:aZ} (hi:blks[i]?=some (b,cs,T)):Blk W b cs T:=h.blk _ (aD hi)
theorem VR.treeAt (h:VR w q blks trees rows W) (i:Nat) {x:Tv} {cs:List aX} (hi:trees[i]?=some (x,cs)):TvF W (λ b=>q<b) x cs:=h.tree _ (aD hi)
theorem VR.rowAt (h:VR w q blks trees rows W) (i:Nat) {v:aX} {l:Aa} (hi:rows[i]?=some (v,l)):Bs W v l:=h.row _ (aD hi)
end
end
theorem Tj {l:Aa} (h:l.length<=1099511627776):(tx l).size<=maxLen:=by rw [Dq]; unfold maxLen; omega
theorem Dp:B6 aA 214:=B6.mk Tryz.func214 (by kernel_rfl) (by kernel_rfl)
theorem F7:B6 aA 215:=B6.mk Tryz.func215 (by kernel_rfl) (by kernel_rfl)
theorem M5:B6 aA 218:=B6.mk Tryz.func218 (by kernel_rfl) (by kernel_rfl)
theorem Ei:B6 aA 216:=B6.mk Tryz.func216 (by kernel_rfl) (by kernel_rfl)
theorem Uw:Cp aA 102 9 1 16 (.string ⟨#[]⟩):=by
 refine Cp.mk Tryz.underlying102 ?_ rfl (by decide)
 kernel_rfl
theorem N5:Cp aA 40 2 1 8 (.int .i64 0):=by
 refine Cp.mk Tryz.underlying40 ?_ rfl (by decide)
 kernel_rfl
theorem Mr (W:aY):(zeroValue 104).run aA W=.ok (.agg #[.string ⟨#[]⟩,.int .i64 0,.int .i64 0,.slice none 0 0]) W:=by kernel_rfl
theorem Ms (W:aY):(zeroValue 110).run aA W=.ok (.agg #[.string ⟨#[]⟩,.string ⟨#[]⟩,.slice none 0 0,.slice none 0 0]) W:=by kernel_rfl
theorem Mu (W:aY):(zeroValue 121).run aA W=.ok (.agg #[.string ⟨#[]⟩,.int .i64 0,.int .i64 0,.bool false,.bool false,.string ⟨#[]⟩,.slice none 0 0,.slice none 0 0,.slice none 0 0]) W:=by kernel_rfl
theorem Ox (W:aY):(zeroValue 124).run aA W=.ok (.agg #[.string ⟨#[]⟩,.string ⟨#[]⟩,.slice none 0 0,.slice none 0 0]) W:=by kernel_rfl
theorem Rd (W:aY):(zeroValue 278).run aA W=.ok (.agg #[.string ⟨#[]⟩,.string ⟨#[]⟩,.int .i64 0]) W:=by kernel_rfl
theorem Re (W:aY):(zeroValue 343).run aA W=.ok (.agg #[.string ⟨#[]⟩,.string ⟨#[]⟩,.int .i64 0,.string ⟨#[]⟩,.slice none 0 0]) W:=by kernel_rfl
theorem X4 (W:aY):(zeroValue 128).run aA W=.ok (.agg #[.string ⟨#[]⟩,.string ⟨#[]⟩,.int .i64 0,.string ⟨#[]⟩,.slice none 0 0,.slice none 0 0]) W:=by kernel_rfl
theorem A3n (W:aY):(zeroValue 138).run aA W=.ok (.agg #[.string ⟨#[]⟩,.string ⟨#[]⟩,.int .i64 0,.slice none 0 0]) W:=by kernel_rfl
theorem A3o (W:aY):(zeroValue 296).run aA W=.ok (.agg #[.string ⟨#[]⟩,.string ⟨#[]⟩,.int .i64 0,.int .i64 0,.int .i64 0,.slice none 0 0]) W:=by kernel_rfl
theorem X6 (W:aY):(zeroValue 323).run aA W=.ok (.agg #[.string ⟨#[]⟩,.int .i64 0,.int .i64 0,.bool false,.string ⟨#[]⟩,.slice none 0 0,.slice none 0 0]) W:=by kernel_rfl
theorem X7 (W:aY):(zeroValue 205).run aA W=.ok (.agg #[.string ⟨#[]⟩,.slice none 0 0]) W:=by kernel_rfl
theorem A3p (W:aY):(zeroValue 209).run aA W=.ok (.agg #[.string ⟨#[]⟩,.int .i64 0,.int .i64 0]) W:=by kernel_rfl
end Go.Proofs.YtcnfaghcjlhoiaaGreat
