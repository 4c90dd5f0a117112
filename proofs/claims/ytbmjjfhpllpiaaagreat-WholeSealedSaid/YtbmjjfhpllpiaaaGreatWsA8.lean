/- Texts of this proof, one behind the other: SyT, KeyOps, SyO, PvC, TkMk. -/
import Derived.Test.YtbmjjfhpllpiaaaGreatWsA1
import Derived.Test.YtbmjjfhpllpiaaaGreatWsA3
import Derived.Test.YtbmjjfhpllpiaaaGreatWsA4
import Derived.Test.YtbmjjfhpllpiaaaGreatWsA5
import Derived.Test.YtbmjjfhpllpiaaaGreatWsA7
set_option linter.unusedSimpArgs false
set_option linter.unusedVariables false
set_option maxRecDepth 100000
set_option maxHeartbeats 16000000
open Go.Proofs.Tryz renaming prog -> aA, underlying56 -> aI, func80 -> aL, ntmps80 -> aM
open Nat renaming le_refl -> aB, zero_le -> aE, lt_or_ge -> aF
open List renaming getElem?_eq_getElem -> aC, getElem?_append -> aD, getD_eq_getElem?_getD -> aG, mem_of_getElem? -> aH, length_append -> aJ, getElem_mem -> aK, take_of_length_le -> aN
open Go renaming Value -> aO, World -> aP, TypeId -> aQ, Calls -> aR, IntKind -> aS, Oper -> aT
namespace Go.Proofs.YtbmjjfhpllpiaaaGreat
open Go.RowKit Go.Maps Go.MapKept Go.WideMaps
theorem Rs.three {w:aP} {T:aQ} {u1 u2 u3:aO} {r1 r2 r3:List UInt8} (h1:Bs w u1 r1) (h2:Bs w u2 r2) (h3:Bs w u3 r3):Rs (w.alloc (.cells #[u1,u2,u3] T)) (.slice (some ⟨w.heap.size,0,none⟩) 3 3) [r1,r2,r3]:=by
  obtain ⟨a1,c1,e1,_⟩:=h1.form;obtain ⟨a2,c2,e2,_⟩:=h2.form;obtain ⟨a3,c3,e3,_⟩:=h3.form;refine ⟨[u1,u2,u3],rfl,Sl.lit (cs:=#[u1,u2,u3]) rfl rfl (by simp [e1,e2,e3,aO.oneCell']) (by unfold maxLen; decide),λ j u r hu hr=>?_⟩
  match j,hu,hr with
  | 0,hu,hr=>simp at hu hr; subst hu hr; exact h1.alloc _
  | 1,hu,hr=>simp at hu hr; subst hu hr; exact h2.alloc _
  | 2,hu,hr=>simp at hu hr; subst hu hr; exact h3.alloc _
  | j+3,hu,hr=>simp at hu
theorem A3L (k:Nat) (hk:k<1099511627777) (w:aP):aR aA 79 #[.int .u8 107,.int .i64 ((k:Int)+1)] w (P1 w 107 (k+1)):=Je 107 (k+1) (by omega) w
theorem Nv.add {s:Sy} (h:Nv s) (f:Fk):Nv (s.add f).2:=⟨h.bx,h.kn⟩
theorem Nv.made {s:Sy} (h:Nv s) (f:Fk):Nv (s.made f).2:=by
  unfold Sy.made;split
  · exact h
  · refine ⟨h.bx,λ x hx=>?_⟩;rcases Ra hx with rfl | ⟨hx,_⟩
    · exact An _ _
    · exact h.kn x hx
theorem M4 {s:Sy} (h:Nv s) (f:Fk):(s.made f).1.length=16:=by
  unfold Sy.made;split
  · rename_i hh;exact h.kn _ (Gk hh _)
  · exact An _ _
theorem R1 (q:Nat) (s:Sy) (f:Fk) (l:List Res) (w:aP) (h:Ac w (B2 q s::l)) (hn:s.keys.length<1099511627776): aR aA 93 #[.pointer (some ⟨q,0,none⟩),.agg f.cells.toArray] w λ e w'=>e=.returned (Ay (s.add f).1)/\Ac w' (B2 q (s.add f).2::l):=by
  obtain ⟨⟨kv,bv,sv,m,vs,bs⟩,hok,h⟩:=Bo.1 h;simp only at h hok;have HOK:=hqZ hok;obtain ⟨a0,c0,rfl,hc0,hm0⟩:=h.swap.slf;have HN:=hqZ hn;have HFL:=hqZ f.cells_length;have HFO:=hqZ f.cells_one;have HC:=hqZ ((h.addBlkAt f.cells 142 (b:=w.heap.size) rfl).addBlkAt Bg 43 (b:=w.heap.size+1) (by simp));unfold maxLen at hm0;clear h hok hn;go_enter Tryz.func93,Tryz.ntmps93;go_wp2_with fail;refine Cx [10] (λ b W=>Al W w.heap.size 0 f.cells/\(b= [false]->W.cell? ⟨q,0,none⟩=some (.slice a0 s.keys.length c0))) (by kernel_rfl) ?_;have HC:=hqZ HC.o.drew;refine zT 0 ?_;refine zT 1 ?_;refine zT 2 ?_;refine zT 3 ?_;refine zTk 4 [10] ?_ (hr:=λ l W hk hW=>by have c:=hW.2 (A0G hk); go_simp; try rfl);refine zT 5 ?_ (hr:=λ _ _ _ hW=>ldJ Gz rfl HFL.o hW.1);refine zJ 6 λ K hK=>?_
  refine Nk rfl (.tmp 10) A2h rfl rfl (by simpa using HFL.o) (by decide) ?_;have HC:=hqZ (HC.o.addBlk f.cells 142);refine zq hK ?_;clear hK K;refine zJ 7 λ K hK=>?_
  have hown:=HC.o.ownOf (e:=142) (sz:=18) (v:=.slice a0 s.keys.length c0) (n:=s.keys.length) (cs:=frC s.keys) (by simp);have hsl:=(HC.o.head.elim λ _ hF=>hF.1.slS HFL.o HFO.o);refine Hj rfl (.tmp 9) (.tmp 11) A2h rfl 0 (v:=.slice a0 s.keys.length c0) rfl hown.1 hown.2 rfl hsl (by have:=HN.o; unfold maxLen; omega) (by have:=HN.o; omega) (aE _) ?_;intro v4 w4 ho hk hv;obtain ⟨a1,c1,rfl,_,_⟩:=ho.sl.form;have HC:=hqZ (HC.o.tail.pull4.append ho hk hv);clear ho hk hv hown hsl;refine hK _ _ ⟨(HC.o.zB w.heap.size).cellsAll,λ _=>(HC.o.tail.tail.tail.head.elim λ _ hF=>hF.1.cell 0)⟩ ?_;clear hK K;try go_frame
  refine zT 8 ?_ (hS:=⟨(HC.o.zB w.heap.size).cellsAll,λ _=>(HC.o.tail.tail.tail.head.elim λ _ hF=>hF.1.cell 0)⟩);refine zT 9 ?_ (hS:=⟨(HC.o.zB w.heap.size).cellsAll,λ _=>(HC.o.tail.tail.tail.head.elim λ _ hF=>hF.1.cell 0)⟩);refine zJ 10 λ K hK=>?_
  have hblk:=HC.o.pull4.head.elim λ _ hF=>hF.1
  have cc:=hblk.cell 0;have cf:=hblk.frozen 0;have ch:=hblk.lt;have HC:=hqZ (HC.o.pull4.set 0 (.slice a1 (s.keys.length+1) c1));go_simp;clear hblk cc cf ch;refine hK _ _ ⟨(HC.o.zB w.heap.size).cellsAll,λ h=>by simp [El] at h⟩ ?_;clear hK K;try go_frame
  refine zD ?_;generalize aP.setCell _ _ _=w5 at HC ⊢;have c5:=HC.o.head.elim λ _ hF=>hF.1.cell 0
  go_wp2_with fail;refine (A3L s.keys.length (by have:=HN.o; omega) _).mono ?_;rintro e w7 ⟨rfl,hb⟩;have HC:=hqZ ((HC.o.step hb).pull3);have HKL:Hq ((Ab (Ao 107 (s.keys.length+1))).length=16):=hqZ (by rw [Aa,An]);unfold Ay;clear hb c5;go_wp2_with ((with_reducible refine zws 4 20 ?_);refine Af rfl (.tmp 4) (.tmp 20) Am rfl rfl (vs:=Ab (Ao 107 (s.keys.length+1))) rfl HKL.o (HC.o.head.elim λ _ hF=>hF.1) (aB _) (Ak _) ?_);intro w8 h8 k8;have h8':Blk w8 (w.heap.size+1) (Ab (Ao 107 (s.keys.length+1))) 43:=by simpa [Bg] using h8
  have HC:=hqZ (HC.o.reblk h8' k8);clear h8 h8' k8;go_wp2_with fail;refine bodyPost_ret (A2 rfl Am rfl (cs:=Ab (Ao 107 (s.keys.length+1))) HKL.o (HC.o.head.elim λ _ hF=>hF.1.cellsAll)) rfl ⟨rfl,?_⟩;have e1:frC s.keys++f.cells=frC (s.add f).2.keys:=by simp [frC,Sy.add]
  have e2:s.keys.length+1=(s.add f).2.keys.length:=by simp [Sy.add]
  have h:=HC.o.tail;rw [e1,e2] at h;exact Bo.2 ⟨⟨_,bv,sv,m,vs,bs⟩,⟨HOK.o.1.add f,HOK.o.2⟩,h.pull3.tail⟩
theorem Nl {α:Type} [DecidableEq α] {kL:α->Lit} {P:Program} {w:aP} {ops:Array aT} {o:aT} {a:Act} {K':Act->aP->Prop} {Q:Exit->Act->aP->Prop} {E:Prop} (hgd:o.guard=none) (m x v:Operand) {t:aQ} (hop:o.op=Op.mapUpdate t m x v) (k e:aQ) (K:Keyed P k) (hk:Nu kL) (ht:P.underlying t=some (.map k e)) (b:Nat) (M:List (α×aO)) (hm:a.eval m=.map (some b)) (hown:Jy P k kL w b M) (hn:M.length<maxLen) (s:α) (hkey:keyOf P k (a.eval x)=some (kL s)) (h:∀w',Jy P k kL w' b (If M s (a.eval v))->Ai (λ k=>k=b\/w.heap.size<=k) w w'->w'.heap.size=w.heap.size->K' (a.put o.dst undef) w'):if Region.wanted o (yielded ops a.tmps)=true then aT.wp P o a w K' Q else E:=by
  have hw:Region.wanted o (yielded ops a.tmps)=true:=by simp [Region.wanted,hgd]
  rw [if_pos hw];obtain ⟨D,hd,ho⟩:=hown;obtain ⟨w',hrun,r1,r2⟩:=ho.store K ht (by rw [hd.size]; exact hn) hkey (val:=a.eval v) (d:=.held (a.eval v)) (ps:= []) rfl;unfold aT.wp;simp [execOp,hop,hm,hrun,Result.andThen];refine h w' ⟨_,hd.put hk s (a.eval v),Kt r1⟩ (O2 r2.grown) ?_;obtain ⟨es,clock,es',clock',e1,rfl⟩:=r2;simp [Go.ChangeMaps.setBlock]
theorem Ps {α:Type} [DecidableEq α] {kL:α->Lit} {P:Program} {w:aP} {o:aT} {a:Act} (m x:Operand) {t:aQ} (hop:o.op=Op.lookup t m x true) (k e:aQ) (K:Keyed P k) (hk:Nu kL) (ht:P.underlying t=some (.map k e)) {z:aO} (hz:(zeroValue e).run P w=.ok z w) (b:Nat) (M:List (α×aO)) (hm:a.eval m=.map (some b)) (hown:Jy P k kL w b M) (s:α) (hkey:keyOf P k (a.eval x)=some (kL s)):(execOp a.eval o).run P w=.ok (.value (.tuple #[G6 M s z,.bool (Ej M s)])) w:=by
  obtain ⟨D,hd,ho⟩:=hown;obtain ⟨v,ps,hrun,hv⟩:=ho.look_ok K ht hz (zd:=.held z) (zp:= []) rfl hkey;rw [hd.at hk] at hv;simp only [Pv,Option.some.injEq,Prod.mk.injEq,DataW.held.injEq] at hv;rw [hv.1,hd.has hk] at hrun;simp [execOp,hop,hm,hrun,Result.andThen]
theorem Y4 (k:List UInt8) (lb:ByteArray) (hk:k.length=16):Tryz.prog.built 142 [(0,.agg (Ab k).toArray),(1,.string lb)]=some (Ab k++ [aO.string lb,aO.bool false]).toArray:=by
  obtain ⟨c0,c1,c2,c3,c4,c5,c6,c7,c8,c9,c10,c11,c12,c13,c14,c15,rfl⟩:=Bm k hk
  kernel_rfl
theorem Y5 (lb:ByteArray):Tryz.prog.built 142 [(1,.string lb),(2,.bool true)]=some (Ab zk++ [aO.string lb,aO.bool true]).toArray:=by kernel_rfl
theorem A5P (w:aP):(zeroValue 43).run aA w=.ok (Ay zk) w:=by kernel_rfl
theorem A3E (s:Sy) (f:Fk):Ej (knM s) f=Ej s.known f:=Kk Ay _ _
theorem A3D (s:Sy) (f:Fk):G6 (knM s) f (Ay zk)=Ay (G6 s.known f zk):=A2s Ay _ _ _
theorem A3F (s:Sy) (f:Fk) (k:List UInt8):If (knM s) f (Ay k)=knM { s with known:=If s.known f k } :=Xr Ay _ _ _
theorem A2E {s:Sy} (h:Nv s) (f:Fk):(G6 s.known f zk).length=16:=by
  cases hh:Ej s.known f with
  | true=>exact h.kn _ (Gk hh _)
  | false=>rw [Mw hh]; exact K8
theorem Pm (q:Nat) (s:Sy) (f:Fk) (l:List Res) (w:aP) (h:Ac w (B2 q s::l)) (hn:s.keys.length<1099511627776) (hkn:s.known.length<1099511627776): aR aA 46 #[.pointer (some ⟨q,0,none⟩),.agg f.cells.toArray] w λ e w'=>e=.returned (Ay (s.made f).1)/\Ac w' (B2 q (s.made f).2::l):=by
  obtain ⟨⟨kv,bv,sv,m,vs,bs⟩,hok,h⟩:=Bo.1 h;simp only at h hok;have HOK:=hqZ hok;have HN:=hqZ hn;have HKN:=hqZ hkn;have HFL:=hqZ f.cells_length;have HFO:=hqZ f.cells_one;obtain ⟨K,hK⟩:∃K,K=Ej s.known f:=⟨_,rfl⟩
  obtain ⟨g,hg⟩:∃g,g=G6 s.known f zk:=⟨_,rfl⟩
  have HV:Hq (Ej (knM s) f=K):=hqZ (by rw [A3E,hK]);have HG:Hq (G6 (knM s) f (Ay zk)=Ay g):=hqZ (by rw [A3D,hg]);have HGL:Hq ((Ab g).length=16):=hqZ (by rw [Aa,hg]; exact A2E hok.1 f);have HGE:=hqZ hg;have HKE:=hqZ hK;have HC:=hqZ ((h.addBlkAt f.cells 142 (b:=w.heap.size) rfl).addBlkAt Bg 43 (b:=w.heap.size+1) (by simp));clear h hok hn hkn hK hg;go_enter Tryz.func46,Tryz.ntmps46;go_wp2_with fail;refine Cx [] (λ b W=>Al W w.heap.size 0 f.cells/\W.cell? ⟨q,3,none⟩=some (.map (some m))/\Jy aA 142 frL W m (knM s)) (by kernel_rfl) ?_;have HC:=hqZ HC.o.drew;refine zT 0 ?_ (hS:=⟨(HC.o.zB w.heap.size).cellsAll,(HC.o.zB q).cell 3,(HC.o.mapVOf (P:=aA) (k:=142) (kL:=frL) (b:=m) (M:=knM s) (by simp))⟩);refine zT 1 ?_ (hS:=⟨(HC.o.zB w.heap.size).cellsAll,(HC.o.zB q).cell 3,(HC.o.mapVOf (P:=aA) (k:=142) (kL:=frL) (b:=m) (M:=knM s) (by simp))⟩);refine zT 2 ?_ (hS:=⟨(HC.o.zB w.heap.size).cellsAll,(HC.o.zB q).cell 3,(HC.o.mapVOf (P:=aA) (k:=142) (kL:=frL) (b:=m) (M:=knM s) (by simp))⟩);refine zT 3 ?_ (hS:=⟨(HC.o.zB w.heap.size).cellsAll,(HC.o.zB q).cell 3,(HC.o.mapVOf (P:=aA) (k:=142) (kL:=frL) (b:=m) (M:=knM s) (by simp))⟩);refine zT 4 ?_ (hr:=λ _ _ _ hW=>ldJ Gz rfl HFL.o hW.1) (hS:=⟨(HC.o.zB w.heap.size).cellsAll,(HC.o.zB q).cell 3,(HC.o.mapVOf (P:=aA) (k:=142) (kL:=frL) (b:=m) (M:=knM s) (by simp))⟩);refine zT 5 ?_ (v:=.tuple #[.agg (Ab g).toArray,.bool K]) (hr:=λ l W hk hW=>(Ps (.tmp 11) (.tmp 12) rfl 142 43 A0P A4s aI (A5P W) m (knM s) (by rfl) hW.2.2 f (by exact A4t f)).trans (by rw [HG.o,HV.o]; rfl)) (hS:=⟨(HC.o.zB w.heap.size).cellsAll,(HC.o.zB q).cell 3,(HC.o.mapVOf (P:=aA) (k:=142) (kL:=frL) (b:=m) (M:=knM s) (by simp))⟩);refine zT 6 ?_ (hS:=⟨(HC.o.zB w.heap.size).cellsAll,(HC.o.zB q).cell 3,(HC.o.mapVOf (P:=aA) (k:=142) (kL:=frL) (b:=m) (M:=knM s) (by simp))⟩);refine zT 7 ?_ (hS:=⟨(HC.o.zB w.heap.size).cellsAll,(HC.o.zB q).cell 3,(HC.o.mapVOf (P:=aA) (k:=142) (kL:=frL) (b:=m) (M:=knM s) (by simp))⟩);refine zT 8 ?_ (hS:=⟨(HC.o.zB w.heap.size).cellsAll,(HC.o.zB q).cell 3,(HC.o.mapVOf (P:=aA) (k:=142) (kL:=frL) (b:=m) (M:=knM s) (by simp))⟩);refine zJ 9 λ K hK=>?_
  go_simp;have HC:=hqZ (HC.o.addBlkAt Bg 43 (b:=w.heap.size+1+1) (by simp));refine hK _ _ ⟨(HC.o.zB w.heap.size).cellsAll,(HC.o.zB q).cell 3,(HC.o.mapVOf (P:=aA) (k:=142) (kL:=frL) (b:=m) (M:=knM s) (by simp))⟩ ?_;clear hK K;try go_frame
  refine zJ 10 λ K hK=>?_
  refine D7 rfl (.tmp 5) (.tmp 14) Am rfl rfl (vs:=Ab g) rfl HGL.o (HC.o.head.elim λ _ hF=>hF.1) (aB _) (Ak _) ?_;intro w8 h8 k8;have h8':Blk w8 (w.heap.size+1+1) (Ab g) 43:=by simpa [Bg] using h8
  have HC:=hqZ (HC.o.reblk h8' k8);clear h8 h8' k8;refine hK _ _ ⟨(HC.o.zB w.heap.size).cellsAll,(HC.o.zB q).cell 3,(HC.o.mapVOf (P:=aA) (k:=142) (kL:=frL) (b:=m) (M:=knM s) (by simp))⟩ ?_;clear hK K;try go_frame
  refine zT 11 ?_ (hS:=⟨(HC.o.zB w.heap.size).cellsAll,(HC.o.zB q).cell 3,(HC.o.mapVOf (P:=aA) (k:=142) (kL:=frL) (b:=m) (M:=knM s) (by simp))⟩);refine zD ?_
  cases K with
  | true=>
    go_wp2_with (first | ((with_reducible refine zw 27 ?_);refine Ag rfl (.tmp 5) Am rfl rfl (cs:=Ab g) HGL.o (HC.o.head.elim λ _ hF=>hF.1.cellsAll) ?_) | ((with_reducible refine zws 4 27 ?_);refine Af rfl (.tmp 4) (.tmp 27) Am rfl rfl (vs:=Ab g) rfl HGL.o (HC.o.swap.head.elim λ _ hF=>hF.1) (aB _) (Ak _) ?_));intro w9 h9 k9;have h9':Blk w9 (w.heap.size+1) (Ab g) 43:=by simpa [Bg] using h9
    have HC:=hqZ (HC.o.swap.reblk h9' k9);clear h9 h9' k9;go_wp2_with fail;have e:s.made f=(g,s):=by rw [Sy.made,if_pos HKE.o.symm,HGE.o]
    rw [e];refine bodyPost_ret (A2 rfl Am rfl (cs:=Ab g) HGL.o (HC.o.head.elim λ _ hF=>hF.1.cellsAll)) rfl ⟨rfl,?_⟩;exact Bo.2 ⟨⟨kv,bv,sv,m,vs,bs⟩,HOK.o,HC.o.tail.tail.tail⟩
  | false=>
    obtain ⟨⟨ka,sa⟩,hp⟩:∃p,p=s.add f:=⟨_,rfl⟩
    have HP:=hqZ hp;have hadd:=(R1 q s f (.blk (w.heap.size+1+1) (Ab g) 43::.blk (w.heap.size+1) Bg 43::.blk w.heap.size f.cells 142::l) _ (Bo.2 ⟨⟨kv,bv,sv,m,vs,bs⟩,HOK.o,HC.o.front (m:= [.blk (w.heap.size+1+1) (Ab g) 43,.blk (w.heap.size+1) Bg 43,.blk w.heap.size f.cells 142,.blk q [kv,bv,sv,.map (some m)] 60,.own 142 18 kv s.keys.length (frC s.keys),.own 218 18 bv s.boxes.length (bxC s.boxes bs),Br bs (s.boxes.map Bx.body),.own 29 1 sv s.sums.length vs,Br vs s.sums,N5 aA 142 frL m (knM s)]) [3,4,5,6,7,8,9,0,1,2] 10 (by decide)⟩) HN.o);rw [<-hp] at hadd;have HADD:=hqZ hadd;have HKA:Hq (ka.length=16):=hqZ (by have:=congrArg Prod.fst hp; simp only at this; rw [this]; exact An _ _);clear hp hadd;go_wp2_with ((with_reducible refine zw 19 ?_);refine Ag rfl (.tmp 3) Gz rfl rfl (cs:=f.cells) HFL.o (HC.o.zB w.heap.size).cellsAll ?_);refine HADD.o.mono ?_;rintro e w9 ⟨rfl,hc⟩;have HKL:Hq ((Ab ka).length=16):=hqZ (by rw [Aa]; exact HKA.o);have HC:=hqZ hc.swap;unfold Ay;clear hc HADD;go_wp2_with ((with_reducible refine zws 5 20 ?_);refine Af rfl (.tmp 5) (.tmp 20) Am rfl rfl (vs:=Ab ka) rfl HKL.o HC.o.blk0 (by rw [HGL.o]; decide) (Ak _) ?_);intro w10 h10 k10;obtain ⟨⟨kv2,bv2,sv2,m2,vs2,bs2⟩,hok2,hc⟩:=Bo.1 (HC.o.stW (vs:=Ab ka) h10 k10 HGL.o).swap;simp only at hc hok2;have HOK2:=hqZ hok2;have HC:=hqZ hc;clear hc h10 k10 hok2;go_wp2_with fail;refine Cx [] (λ b W=>Al W w.heap.size 0 f.cells/\W.cell? ⟨q,3,none⟩=some (.map (some m2))/\Al W (w.heap.size+1+1) 0 (Ab ka)) (by kernel_rfl) ?_;have HC:=hqZ HC.o.drew;refine zT 0 ?_;refine zT 1 ?_;refine zT 2 ?_;refine zT 3 ?_;refine zT 4 ?_ (hr:=λ _ _ _ hW=>ldJ Gz rfl HFL.o hW.1);refine zT 5 ?_ (hr:=λ _ _ _ hW=>ldJ Am rfl HKL.o hW.2.2);refine zJ 6 λ K hK=>?_
    refine Nl rfl (.tmp 24) (.tmp 25) (.tmp 26) rfl 142 43 A0P A4s aI m2 (knM sa) (by rfl) (HC.o.mapVOf (by simp)) (by have:=HKN.o; unfold knM maxLen; rw [List.length_map]; have:=congrArg Prod.snd HP.o; simp only at this; rw [this]; simp only [Sy.add]; omega) f (by exact A4t f) ?_;intro w11 hm11 hk11 hz11;have hm11:Jy aA 142 frL w11 m2 (If (knM sa) f (Ay ka)):=hm11;rw [A3F] at hm11;have HC:=hqZ ((HC.o.pull7).mapVTurn hm11 hk11);clear hm11 hk11 hz11;refine zq hK ?_;clear hK K;refine zD ?_;go_wp2_with (first | ((with_reducible refine zw 27 ?_);refine Ag rfl (.tmp 5) Am rfl rfl (cs:=Ab ka) HKL.o (HC.o.pull8.blk0.cellsAll) ?_) | ((with_reducible refine zws 4 27 ?_);refine Af rfl (.tmp 4) (.tmp 27) Am rfl rfl (vs:=Ab ka) rfl HKL.o HC.o.pull9.blk0 (aB _) (Ak _) ?_));intro w12 h12 k12;have HC:=hqZ (HC.o.pull9.stW (vs:=Ab ka) h12 k12 rfl);clear h12 k12;go_wp2_with fail;have ekn:sa.known=s.known:=by have:=congrArg Prod.snd HP.o; simp only at this; rw [this]; rfl
    have e:s.made f=(ka,{ sa with known:=If sa.known f ka }):=by rw [Sy.made,if_neg (by rw [<-HKE.o]; decide),<-HP.o]; simp only [ekn]
    have hok:=HOK.o.1.made f;rw [e] at hok ⊢;refine bodyPost_ret (A2 rfl Am rfl (cs:=Ab ka) HKL.o HC.o.blk0.cellsAll) rfl ⟨rfl,?_⟩;exact Bo.2 ⟨⟨kv2,bv2,sv2,m2,vs2,bs2⟩,⟨hok,HOK2.o.2⟩,HC.o.tail.pull8.tail.pull8.tail.push7⟩
theorem Vi (q:Nat) (s:Sy) (l:List Res) (w:aP) (h:Ac w (B2 q s::l)) (hn:s.keys.length<1099511627776): aR aA 171 #[.pointer (some ⟨q,0,none⟩)] w λ e w'=>e=.returned (Ay (s.add noF).1)/\Ac w' (B2 q (s.add noF).2::l):=by
  obtain ⟨⟨ka,sa⟩,hp⟩:∃p,p=s.add noF:=⟨_,rfl⟩
  have hl:(Ab ka).length=16:=by have:=congrArg Prod.fst hp; simp only at this; rw [this,Aa]; exact An _ _
  have HA:=hqZ (R1 q s noF (.blk w.heap.size Bg 43::l) _ (h.addBlkAt Bg 43 (b:=w.heap.size) rfl).swap hn);rw [<-hp] at HA ⊢;have HKL:=hqZ hl;clear h hn hp hl;unfold Ay at HA ⊢;go_enter Tryz.func171,Tryz.ntmps171;go_wp2_with fail;refine HA.o.mono ?_;rintro e w1 ⟨rfl,hc⟩;have HC:=hqZ hc.swap;clear hc HA;go_wp2_with ((with_reducible refine zws 2 5 ?_);refine Af rfl (.tmp 2) (.tmp 5) Am rfl rfl (vs:=Ab ka) rfl HKL.o HC.o.blk0 (aB _) (Ak _) ?_);intro w2 h2 k2;have HC:=hqZ (HC.o.stW (vs:=Ab ka) h2 k2 rfl);clear h2 k2;go_wp2_with fail;exact bodyPost_ret (A2 rfl Am rfl (cs:=Ab ka) HKL.o HC.o.blk0.cellsAll) rfl ⟨rfl,HC.o.tail⟩
theorem S0 (q:Nat) (s:Sy) (k:List UInt8) (lb:ByteArray) (l:List Res) (w:aP) (h:Ac w (B2 q s::l)) (hk:k.length=16) (hlb:lb.size<=maxLen) (hn:s.keys.length<1099511627776) (hkn:s.known.length<1099511627776): aR aA 169 #[.pointer (some ⟨q,0,none⟩),Ay k,.string lb] w λ e w'=>e=.returned (Ay (s.made (mkF k lb false)).1)/\Ac w' (B2 q (s.made (mkF k lb false)).2::l):=by
  have hok:=(Bo.1 h).elim λ _ hx=>hx.1.1
  obtain ⟨⟨ka,sa⟩,hp⟩:∃p,p=s.made (mkF k lb false):=⟨_,rfl⟩
  have hl:(Ab ka).length=16:=by have:=congrArg Prod.fst hp; simp only at this; rw [this,Aa]; exact M4 hok _
  have HA:=hqZ (Pm q s (mkF k lb false) (.blk (w.heap.size+1) Bg 43::.blk w.heap.size (Ab k) 43::l) _ ((h.addBlkAt (Ab k) 43 (b:=w.heap.size) rfl).addBlkAt Bg 43 (b:=w.heap.size+1) (by simp)).pull3 hn hkn);have HK0:=hqZ ((Blk.new w (Ab k) 43).alloc (.cells Bg.toArray 43));rw [<-hp] at HA ⊢;rw [A0a hk hlb] at HA;have HKL:=hqZ hl;have HK1:Hq ((Ab k).length=16):=hqZ (by rw [Aa,hk]);have e0:∀(h1:k.length=16) (h2:lb.size<=maxLen),(Fk.mk k lb false h1 h2).cells=Ab k++ [.string lb,.bool false]:=λ _ _=>rfl
  rw [e0] at HA;have HBF:=hqZ (Y4 k lb hk);clear h hn hkn hp hl hk hlb hok e0;unfold Ay at HA ⊢;go_enter Tryz.func169,Tryz.ntmps169;go_wp2_with (first | ((with_reducible refine zw 8 ?_);refine Ag rfl (.tmp 4) Am rfl rfl (cs:=Ab k) HK1.o HK0.o.cellsAll ?_) | ((with_reducible refine zw 10 ?_);refine Cp rfl rfl (by simp [Act.eval]) HBF.o ?_));refine HA.o.mono ?_;rintro e w1 ⟨rfl,hc⟩;have HC:=hqZ hc.swap;clear hc HA;go_wp2_with ((with_reducible refine zws 6 11 ?_);refine Af rfl (.tmp 6) (.tmp 11) Am rfl rfl (vs:=Ab ka) rfl HKL.o HC.o.blk0 (aB _) (Ak _) ?_);intro w2 h2 k2;have HC:=hqZ (HC.o.stW (vs:=Ab ka) h2 k2 rfl);clear h2 k2;go_wp2_with fail;exact bodyPost_ret (A2 rfl Am rfl (cs:=Ab ka) HKL.o HC.o.blk0.cellsAll) rfl ⟨rfl,HC.o.tail.swap.tail⟩
theorem A3f (pw salt tl:List UInt8) (h:tl= [Db pw.length,pw,salt].flatten) (hl:(tx tl).size<=maxLen):PS.textF pw salt=Fk.mk zk (tx tl) true K8 hl:=by
  subst h;unfold PS.textF;have e:(⟨(Db pw.length++(pw++salt)).toArray⟩:ByteArray)=tx [Db pw.length,pw,salt].flatten:=by simp [tx]
  rw [e];exact A0a K8 hl
theorem Kz (q:Nat) (s:Sy) (pw salt:ByteArray) (l:List Res) (w:aP) (h:Ac w (B2 q s::l)) (hp1:pw.size<=100000) (hp2:salt.size<=100000) (hn:s.keys.length<1099511627776) (hkn:s.known.length<1099511627776): aR aA 15 #[.pointer (some ⟨q,0,none⟩),.string pw,.string salt] w λ e w'=>e=.returned (Ay (s.made (PS.textF pw.data.toList salt.data.toList)).1)/\Ac w' (B2 q (s.made (PS.textF pw.data.toList salt.data.toList)).2::l):=by
  have hok:=(Bo.1 h).elim λ _ hx=>hx.1.1
  have HH:=hqZ (h.addBlkAt Bg 43 (b:=w.heap.size) rfl);obtain ⟨⟨ka,sa⟩,hp⟩:∃p,p=s.made (PS.textF pw.data.toList salt.data.toList):=⟨_,rfl⟩
  have HPP:=hqZ hp;rw [<-hp];clear hp;unfold Ay;have HN:=hqZ hn;have HKN:=hqZ hkn;have HP1:=hqZ hp1;have HP2:=hqZ hp2;have HOK:=hqZ hok;have hw:aS.u64.wrap (pw.size:Int)=pw.size:=by rw [aS.wrap_u64]; omega
  clear h hn hkn hok hp1 hp2;go_enter Tryz.func15,Tryz.ntmps15;go_wp2_with fail;refine (U9 pw.size _).mono ?_;rintro e w1 ⟨rfl,ho,hb,_⟩;have hz:=hb.size;try simp at hz
  have HH:=hqZ (HH.o.step hb);have e1:(w.alloc (.cells Bg.toArray 43)).heap.size=w.heap.size+1:=by simp
  have HB:Hq (Bs w1 (.slice (some ⟨w.heap.size+1,0,none⟩) 8 8) (Db pw.size)):=hqZ (by rw [<-e1]; exact ho.bs);clear hb ho e1;go_wp2_with ((with_reducible refine zw 13 ?_);refine Is rfl (.tmp 12) rfl rfl (by have:=HP1.o; omega) ?_);intro c2 w2 hcv hb hz2;have HH:=hqZ (HH.o.step hb);have HB:=hqZ (HB.o.below hb);have HB2:=hqZ (hcv.sl.bs rfl rfl);clear hb hcv hz2;go_wp2_with ((with_reducible refine zw 15 ?_);refine Is rfl (.tmp 14) rfl rfl (by have:=HP2.o; omega) ?_);intro c3 w3 hcv hb hz3;have HH:=hqZ (HH.o.step hb);have HB:=hqZ (HB.o.below hb);have HB2:=hqZ (HB2.o.below hb);have HB3:=hqZ (hcv.sl.bs rfl rfl);have HRS:=hqZ (Rs.three (T:=29) HB.o HB2.o HB3.o);clear hb hcv HB HB2 HB3 hz3;have hj:=L9 _ _ _ HRS.o (by have:=HP1.o; have:=HP2.o; simp [Cc]; omega);obtain ⟨tl,htl⟩:∃tl,tl= [Db pw.size,pw.data.toList,salt.data.toList].flatten:=⟨_,rfl⟩
  rw [<-htl] at hj;have hts:tl.length<=1000000:=by have:=HP1.o; have:=HP2.o; rw [htl]; simp [Cc]; omega
  have HTS:=hqZ hts;have HJ:=hqZ hj;have hsz:(tx tl).size<=maxLen:=by rw [E7]; unfold maxLen; omega
  have hf:=A3f pw.data.toList salt.data.toList tl htl hsz;have HF:=hqZ hf;clear hj htl hts;go_wp2_with fail;refine HJ.o.mono ?_;rintro e w4 ⟨v4,rfl,ho,hb⟩;have HH:=hqZ ((HH.o.alloc _).step hb);have HB4:=hqZ ho.bs;obtain ⟨a4,c4,rfl,_,_⟩:=ho.sl.form;have hl:(Ab ka).length=16:=by have:=congrArg Prod.fst HPP.o; simp only at this; rw [this,Aa]; exact M4 HOK.o _
  have HKL:=hqZ hl;have HA:=hqZ (Pm q s (PS.textF pw.data.toList salt.data.toList) (.blk w.heap.size Bg 43::l) _ HH.o.swap HN.o HKN.o);rw [<-HPP.o,HF.o] at HA;have e0:∀(x:ByteArray) (h1:zk.length=16) (h2:x.size<=maxLen),(Fk.mk zk x true h1 h2).cells=Ab zk++ [.string x,.bool true]:=λ _ _ _=>rfl
  rw [e0] at HA;unfold Ay at HA;clear hb ho HRS HJ HH hl e0;go_wp2_with (first | ((with_reducible refine zw 18 ?_);refine Vn rfl (.tmp 17) rfl rfl HB4.o ?_) | ((with_reducible refine zw 19 ?_);refine Cp rfl rfl (by simp [Act.eval]) (Y5 _) ?_));refine HA.o.mono ?_;rintro e w5 ⟨rfl,hc⟩;have HC:=hqZ hc.swap;clear hc HA;go_wp2_with ((with_reducible refine zws 6 20 ?_);refine Af rfl (.tmp 6) (.tmp 20) Am rfl rfl (vs:=Ab ka) rfl HKL.o HC.o.blk0 (aB _) (Ak _) ?_);intro w6 h2 k2;have HC:=hqZ (HC.o.stW (vs:=Ab ka) h2 k2 rfl);clear h2 k2;go_wp2_with fail;exact bodyPost_ret (A2 rfl Am rfl (cs:=Ab ka) HKL.o HC.o.blk0.cellsAll) rfl ⟨rfl,HC.o.tail⟩
theorem Uf (k:List UInt8) (u:Int) {a:Option Addr} {n c:Nat} (hk:k.length=16):Tryz.prog.built 218 [(0,.agg (Ab k).toArray),(1,.int .i64 u),(2,.slice a n c)]=some (Ab k++ [aO.int .i64 u,aO.slice a n c]).toArray:=by
  obtain ⟨c0,c1,c2,c3,c4,c5,c6,c7,c8,c9,c10,c11,c12,c13,c14,c15,rfl⟩:=Bm k hk
  kernel_rfl
theorem A2c {bs:List Bx} {vs:List aO} (h:vs.length=bs.length) (b:Bx) (v:aO):bxC (bs++ [b]) (vs++ [v])=bxC bs vs++(Ab b.by_++ [.int .i64 b.usage,v]):=by
  unfold bxC;rw [List.zip_append h.symm];simp [E8]
theorem Nv.shut {s:Sy} (h:Nv s) {b:Bx} (hb:b.by_.length=16):Nv (s.shut b).2:=⟨λ x hx=>by
  rcases List.mem_append.1 hx with hx | hx
  · exact h.bx x hx
  · rw [List.mem_singleton.1 hx]; exact hb,h.kn⟩
theorem A4R (k:Nat) (hk:k<1099511627777) (w:aP):aR aA 79 #[.int .u8 98,.int .i64 ((k:Int)+1)] w (P1 w 98 (k+1)):=Je 98 (k+1) (by omega) w
theorem Yh (q:Nat) (s:Sy) (k:List UInt8) (u:Int) (body:List UInt8) (v:aO) (l:List Res) (w:aP) (h:Ac w (B2 q s::l)) (hk:k.length=16) (hb:Bs w v body) (hbl:body.length<=1099511627776) (hn:s.boxes.length<1099511627776): aR aA 173 #[.pointer (some ⟨q,0,none⟩),Ay k,.int .i64 u,v] w (Hm q (.sym (s.shut ⟨k,u,body⟩).2) (s.shut ⟨k,u,body⟩).1 l):=by
  obtain ⟨⟨kv,bv,sv,m,vs,bs⟩,hok,h⟩:=Bo.1 h;simp only at h hok;have HOK:=hqZ hok;obtain ⟨a0,c0,rfl,hc0,hm0⟩:=h.tail.tail.slf;obtain ⟨av,cv,rfl,hcv,hmv⟩:=hb.form;have HN:=hqZ hn;have HBL:=hqZ hbl;have HK1:Hq ((Ab k).length=16):=hqZ (by rw [Aa,hk]);have HKK:=hqZ hk;have HC:=hqZ (h.addBlkAt (Ab k) 43 (b:=w.heap.size) rfl);have HBS:=hqZ (hb.alloc (.cells (Ab k).toArray 43)).drew;unfold maxLen at hm0 hmv;clear h hok hn hbl hb hk;unfold Ay;go_enter Tryz.func173,Tryz.ntmps173;go_wp2_with fail;refine Cx [14] (λ b W=>Al W w.heap.size 0 (Ab k)/\(b= [false]->W.cell? ⟨q,1,none⟩=some (.slice a0 s.boxes.length c0))) (by kernel_rfl) ?_;have HC:=hqZ HC.o.drew;refine zT 0 ?_;refine zT 1 ?_;refine zT 2 ?_;refine zT 3 ?_;refine zTk 4 [14] ?_ (hr:=λ l W hk hW=>by have c:=hW.2 (A0G hk); go_simp; try rfl);refine zT 5 ?_ (hr:=λ _ _ _ hW=>ldJ Am rfl HK1.o hW.1);refine zT 6 ?_;refine zT 7 ?_;refine zJ 8 λ K hK=>?_
  go_simp;refine (Hg _ body _ HBS.o HBL.o).mono ?_;rintro e w3 ⟨cl,rfl,ho,hv,hb⟩;obtain ⟨a6,c6,rfl,_,_⟩:=ho.sl.form;have HC:=hqZ (HC.o.addOwnB hb ho hv).ownRow;clear ho hv hb HBS;refine zq hK ?_;clear hK K;refine zT 9 ?_ (v:=.agg (Ab k++ [aO.int .i64 u,aO.slice a6 body.length c6]).toArray) (hr:=λ l W hk hW=>Fx (by simp [Act.eval]) (Uf k u HKK.o) W);have HEL:Hq ((Ab k++ [aO.int .i64 u,aO.slice a6 body.length c6]).length=18):=hqZ (by rw [aJ,HK1.o]; rfl);have HE1:Hq (∀x∈Ab k++ [aO.int .i64 u,aO.slice a6 body.length c6],x.oneCell'=true):=hqZ (by intro x hx; rcases List.mem_append.1 hx with h | h; exact Ak _ x h; simp at h; rcases h with rfl | rfl <;> rfl);refine zJ 10 λ K hK=>?_
  refine Nk rfl (.tmp 19) Wp rfl rfl (by simpa using HEL.o) (by decide) ?_;have HC:=hqZ (HC.o.addBlk (Ab k++ [aO.int .i64 u,aO.slice a6 body.length c6]) 218);refine zq hK ?_;clear hK K;refine zJ 11 λ K hK=>?_
  have hown:=HC.o.ownOf (e:=218) (sz:=18) (v:=.slice a0 s.boxes.length c0) (n:=s.boxes.length) (cs:=bxC s.boxes bs) (by simp);have hsl:=(HC.o.blk0.slS HEL.o HE1.o);refine Hj rfl (.tmp 14) (.tmp 20) Wp rfl 0 (v:=.slice a0 s.boxes.length c0) rfl hown.1 hown.2 rfl hsl (by have:=HN.o; unfold maxLen; omega) (by have:=HN.o; omega) (aE _) ?_;intro v4 w4 ho hk hv;obtain ⟨a1,c1,rfl,_,_⟩:=ho.sl.form;have HC:=hqZ (HC.o.tail.pull5.append ho hk hv);clear ho hk hv hown hsl;refine zq hK ?_;clear hK K;refine zT 12 ?_;refine zT 13 ?_;refine zJ 14 λ K hK=>?_
  have hblk:=HC.o.pull4.blk0;have cc:=hblk.cell 1;have cf:=hblk.frozen 1;have ch:=hblk.lt;have HC:=hqZ (HC.o.pull4.set 1 (.slice a1 (s.boxes.length+1) c1));go_simp;clear hblk cc cf ch;refine hK _ _ ⟨(HC.o.zB w.heap.size).cellsAll,λ h=>by simp [El] at h⟩ ?_;clear hK K;try go_frame
  refine zD ?_;generalize aP.setCell _ _ _=w5 at HC ⊢;have c5:=HC.o.blk0.cell 1;go_wp2_with fail;refine (A4R s.boxes.length (by have:=HN.o; omega) _).mono ?_;rintro e w7 ⟨rfl,hb⟩;have HC:=hqZ ((HC.o.step hb).addBlk Bg 43);have HKL:Hq ((Ab (Ao 98 (s.boxes.length+1))).length=16):=hqZ (by rw [Aa,An]);unfold Ay;clear hb c5;go_wp2_with ((with_reducible refine zws 9 29 ?_);refine Af rfl (.tmp 9) (.tmp 29) Am rfl rfl (vs:=Ab (Ao 98 (s.boxes.length+1))) rfl HKL.o HC.o.blk0 (aB _) (Ak _) ?_);intro w8 h8 k8;have HC:=hqZ ((HC.o.stW (vs:=Ab (Ao 98 (s.boxes.length+1))) h8 k8 rfl).blkRow (An _ _) (by unfold maxLen; decide));clear h8 k8;go_wp2_with fail;go_ret;refine ⟨_,rfl,?_⟩;have h:=HC.o;have e2:s.boxes.length+1=(s.shut ⟨k,u,body⟩).2.boxes.length:=by simp [Sy.shut]
  rw [e2] at h;have h:=D8 (h.zP [6,3,0,0,2]);have e3:bxC s.boxes bs++(Ab k++ [aO.int .i64 u,aO.slice a6 body.length c6])=bxC (s.shut ⟨k,u,body⟩).2.boxes (bs++ [.slice a6 body.length c6]):=(A2c HOK.o.2 ⟨k,u,body⟩ _).symm;have e4:s.boxes.map Bx.body++ [body]=(s.shut ⟨k,u,body⟩).2.boxes.map Bx.body:=by simp [Sy.shut]
  rw [e3,e4] at h;have h:Ac w8 (B2 q (s.shut ⟨k,u,body⟩).2::_):=Bo.2 ⟨A4L.mk kv (aO.slice a1 (s.shut ⟨k,u,body⟩).2.boxes.length c1) sv m vs (bs++ [aO.slice a6 body.length c6]),⟨HOK.o.1.shut HKK.o,by simp [Sy.shut,HOK.o.2]⟩,(h.zP [2,2,2,0,2,2,2])⟩;show Ac w8 (.row (.slice (some ⟨w7.heap.size,0,none⟩) 16 16) (Ao 98 (s.boxes.length+1))::B2 q (s.shut ⟨k,u,body⟩).2::l)
  rw [e2];exact (h.zP [1]).pull3.tail
end Go.Proofs.YtbmjjfhpllpiaaaGreat
namespace Go.Proofs.YtbmjjfhpllpiaaaGreat
open Go.RowKit
section
theorem Tg:∀(k n:Nat),Ec (beB k n)=n % 256 ^ k
  | 0,n=>by simp [beB,Ec,Nat.mod_one]
  | k+1,n=>by
    have h:n % 256 ^ (k+1)=n % 256+256*(n / 256 % 256 ^ k):=by rw [Nat.pow_succ,Nat.mul_comm (256 ^ k) 256,Nat.mod_mul]
    rw [h,beB,Lf,Tg k,UInt8.toNat_ofNat'];omega
theorem Mv (n:Nat) (h:n<256 ^ 8):Fp (Db n)=(n,true):=by
  unfold Fp;rw [Cc,if_neg (by decide),A1b,Tg,Nat.mod_eq_of_lt h]
theorem A1G {a b:Nat} (ha:a<256 ^ 8) (hb:b<256 ^ 8) (h:Db a=Db b):a=b:=by
  have:=Mv a ha;rw [h,Mv b hb] at this;exact (congrArg Prod.fst this).symm
theorem Nh (w:aP) (a b:List UInt8) (ha:a.length=16) (hb:b.length=16):(binOp .neq 43 (Ay a) (Ay b)).run aA w=.ok (.bool (!decide (a=b))) w:=by
  have h:=Vd w a b ha hb;unfold Ay;unfold binOp;simp [go_sem,Op.equal,Op.maxDepth,h]
theorem Qy (op:BinOp) (x y:Operand) (a b:List UInt8) (w:aP):(eqGuard op 43 x y (Ay a) (Ay b)).run aA w=.ok () w:=
  run_eqGuard_agg w op _ x y _ _ (by kernel_rfl)
section
variable {ops:Array aT} {Q:Exit->Act->aP->Prop}
theorem Yz {rest:List aT} {o:aT} {a:Act} {w:aP} (hgd:Region.wanted o (yielded ops a.tmps)=true) (x y:Operand) {t:aQ} (ho:o.op=.binOp .neq 43 x y t) {k1 k2:List UInt8} (h1:a.eval x=Ay k1) (h2:a.eval y=Ay k2) (l1:k1.length=16) (l2:k2.length=16) {b:Bool} (hb:(!decide (k1=k2))=b) (h:wpList aA ops Q rest (a.put o.dst (.bool b)) w):wpList aA ops Q (o::rest) a w:=by
  subst hb;refine By hgd λ K hK=>?_
  unfold aT.wp execOp;simp only [ho,h1,h2,Sem.run_bind,Sem.run_pure,Result.andThen_ok,Qy,Nh w k1 k2 l1 l2];exact hK _ _ h
theorem A1A {a:Act} (x y:Operand) {d:Option Tmp} {t t2:aQ} {pos:String} {aft:Array Edge} {g:Option (Nat×Bool)} {k1 k2:List UInt8} (h1:a.eval x=Ay k1) (h2:a.eval y=Ay k2) (l1:k1.length=16) (l2:k2.length=16) {b:Bool} (hb:(!decide (k1=k2))=b) (w:aP): (execOp a.eval ⟨d,.binOp .neq 43 x y t,t2,pos,aft,g⟩).run aA w=.ok (.value (.bool b)) w:=by
  subst hb;unfold execOp;simp only [h1,h2,Sem.run_bind,Sem.run_pure,Result.andThen_ok,Qy,Nh w k1 k2 l1 l2]
end
end
end Go.Proofs.YtbmjjfhpllpiaaaGreat
namespace Go.Proofs.YtbmjjfhpllpiaaaGreat
open Go.RowKit Go.Maps
def A2u (l:List UInt8) (x:UInt8):Int:=if x∈l then (l.idxOf x:Int) else -1
theorem A1t (v:aO) (l:List UInt8) (x:UInt8) (w:aP) (h:Bs w v l): aR aA 106 #[v,.int .u8 x.toNat] w λ e w'=>e=.returned (.int .i64 (A2u l x))/\w=w':=by
  obtain ⟨ad,cap,rfl,hcap,hcm⟩:=h.form;have HA:=hqZ h;clear h;unfold maxLen at hcm;go_enter Tryz.func106,Tryz.ntmps106;go_wp2_with fail;go_loop [5,8] (λ _ i=>∃k:Nat,k<=l.length/\i=.int .i64 k/\∀j,j<k->l.getD j 0≠x) (λ _ i=>l.length- (intOf i).toNat)
  case atStart=>exact ⟨0,aE _,rfl,λ j hj=>by omega⟩
  case round=>
    obtain ⟨k,hk,rfl,hno⟩:=hrel;have HNO:=hqZ hno;clear hno;by_cases hlt:k<l.length
    · obtain ⟨b,off,rfl,hcell⟩:=HA.o.addr (by rw [Aa]; omega);have hc:w.cell? ⟨b,off+k,none⟩=some (.int .u8 (l[k]).toNat):=hcell k _ (by simp [Ab,bV,hlt]);clear hcell;by_cases he:l[k]=x
      · have he':((x.toNat:Int)==((l[k]).toNat:Int))=true:=by rw [he]; simp
        have HE:=hqZ he;clear he;go_wp2_with fail;go_ret;have h1:x∈l:=by rw [<-HE.o]; exact aK _
        have h2:l.idxOf x=k:=by
          have hle:l.idxOf x<=k:=by
            rw [<-HE.o];rcases aF k (l.idxOf l[k]) with h | h
            · have:=List.not_of_lt_findIdx (p:=(· ==l[k])) h;simp at this
            · exact h
          rcases aF (l.idxOf x) k with h | h
          · exfalso
            have:=HNO.o _ h;rw [aG,aC (by omega)] at this;exact this (by simp)
          · omega
        rw [A2u,if_pos h1,h2];exact ⟨rfl,rfl⟩
      · have he':((x.toNat:Int)==((l[k]).toNat:Int))=false:=by
          rw [beq_eq_false_iff_ne];intro h;exact he (UInt8.toNat_inj.1 (by omega))
        have HE:=hqZ he;clear he;go_wp2_with fail;go_round
        case rel=>
          refine ⟨k+1,by omega,by go_num,λ j hj=>?_⟩;rcases aF j k with h | h
          · exact HNO.o j h
          · obtain rfl:j=k:=by omega
            rw [aG,aC hlt];exact HE.o
        case measure=>simp [intOf]; omega
    · obtain rfl:k=l.length:=by omega
      go_wp2_with fail;go_ret;have h1:¬x∈l:=by
        intro hm;obtain ⟨j,hj,e⟩:=List.getElem_of_mem hm;refine HNO.o j hj ?_;rw [aG,aC hj];exact e
      rw [A2u,if_neg h1];exact ⟨rfl,rfl⟩
theorem Mm (v:aO) (l:List UInt8) (x:UInt8) (w:aP) (h:Bs w v l): aR aA 80 #[v,.int .u8 x.toNat] w λ e w'=>e=.returned (.bool (decide (x∈l)))/\w=w':=by
  have hi:=A1t v l x w h;obtain ⟨ad,cap,rfl,hcap,hcm⟩:=h.form;clear h;by_cases hm:x∈l
  · have h0:(0:Int)<=(l.idxOf x:Int):=by omega
    rw [A2u,if_pos hm] at hi;have HI:=hqZ hi;rw [decide_eq_true hm];clear hi hm;go_enter aL,aM;go_wp2_with fail;refine HI.o.mono ?_;rintro e w' ⟨rfl,rfl⟩;clear HI;go_wp2_with fail;go_ret;exact ⟨rfl,rfl⟩
  · rw [A2u,if_neg hm] at hi;have HI:=hqZ hi;rw [decide_eq_false hm];clear hi hm;go_enter aL,aM;go_wp2_with fail;refine HI.o.mono ?_;rintro e w' ⟨rfl,rfl⟩;clear HI;go_wp2_with fail;go_ret;exact ⟨rfl,rfl⟩
def MkR (w:aP) (k:UInt8) (n:Nat) (e:Ending) (w':aP):Prop:=e=.returned (.tuple #[.int .u8 k.toNat,.int .i64 n,.bool true])/\Below w.heap.size w w'
theorem Gt (v:aO) (k:UInt8) (n:Nat) (w:aP) (h:Bs w v (Ao k n)) (hn:n<=1099511627776) (hk:k=107\/k=98\/k=100): aR aA 32 #[v] w (MkR w k n):=by
  have HKY:=hqZ (P5 v _ w h);obtain ⟨M,hM⟩:∃M,M=Ao k n:=⟨_,rfl⟩
  have HML:Hq (M.length=16):=hqZ (by rw [hM]; exact An _ _);have e1:Ie (Ao k n)=(M,true):=by rw [Ie,if_pos (An _ _),hM]
  rw [e1] at HKY;have HBL:Hq ((Ab M).length=16):=hqZ (by rw [Aa]; exact HML.o);have HM:=hqZ hM;have HN:=hqZ hn;have HK:=hqZ hk;clear e1 h hn hM hk;unfold Ay at HKY;go_enter Tryz.func32,Tryz.ntmps32;go_wp2_with fail;refine HKY.o.mono ?_;rintro e w1 ⟨rfl,hb⟩;have HB:=hqZ hb;have HC:=hqZ (Blk.new w1 Bg 43);clear hb HKY;go_wp2_with ((with_reducible refine zws 5 12 ?_);refine Af rfl (.tmp 5) (.tmp 12) Am rfl rfl (vs:=Ab M) rfl HBL.o HC.o (aB _) (Ak _) ?_);intro w2 h2 k2;have hb2:Below w.heap.size w w2:=HB.o.trans ((((Below.refl _ _).alloc (aB _) _).trans (k2.below (by omega))).mono HB.o.size);have h2':Blk w2 w1.heap.size (Ab M) 43:=by simpa [Bg] using h2
  have HB:=hqZ hb2;have HC:=hqZ h2';have c0:w2.cell? ⟨w1.heap.size,0,none⟩=some (.int .u8 255):=by rw [h2'.cell 0,HM.o]; rfl
  have c1:w2.cell? ⟨w1.heap.size,1,none⟩=some (.int .u8 254):=by rw [h2'.cell 1,HM.o]; rfl
  clear h2 k2 hb2 h2';have hrow:Bs w2 (.slice (some ⟨w1.heap.size,8,none⟩) 8 8) (Db n):=Sl.bs (HC.o.bs (off:=8) (n:=8) (cap:=8) (by rw [HML.o]; decide) (aB _) (by unfold maxLen; decide)) (by rw [HM.o,Ao,List.drop_append,List.drop_of_length_le (by simp)]; simp [Cc,aN]) (Cc _);have hg:=Lg _ _ w2 hrow;rw [Mv n (by have:=HN.o; omega)] at hg;have HG:=hqZ hg;clear hrow hg;go_wp2_with fail;refine HG.o.mono ?_;rintro e w3 ⟨rfl,rfl⟩;have cM:=HC.o.cell 2;have c2:w2.cell? ⟨w1.heap.size,2,none⟩=some (.int .u8 k.toNat):=by rw [cM,HM.o]; rfl
  have HC2:=hqZ c2;clear HG cM c2 c0 c1;have hw:aS.i64.wrap (n:Int)=n:=by have:=HN.o; rw [aS.wrap_i64]; omega
  go_wp2_with fail;refine Cx [] (λ b W=>W.cell? ⟨w1.heap.size,2,none⟩=some (.int .u8 k.toNat)/\Al W w1.heap.size 0 (Ab M)) (by kernel_rfl) ?_;have HC2:Hq (w2.drew.cell? ⟨w1.heap.size,2,none⟩=some (.int .u8 k.toNat)):=hqZ HC2.o;have HC:Hq (Blk w2.drew w1.heap.size (Ab M) 43):=hqZ HC.o;have HB:Hq (Below w.heap.size w w2.drew):=hqZ HB.o.drew;refine zT 0 ?_ (hS:=⟨HC2.o,HC.o.cellsAll⟩);refine zT 1 ?_ (v:=.bool false) (hr:=λ _ _ _ hW=>by have:=HN.o; go_simp; omega) (hS:=⟨HC2.o,HC.o.cellsAll⟩);refine zT 2 ?_ (hS:=⟨HC2.o,HC.o.cellsAll⟩);refine zT 3 ?_ (hS:=⟨HC2.o,HC.o.cellsAll⟩);refine zT 4 ?_ (hS:=⟨HC2.o,HC.o.cellsAll⟩);refine zT 5 ?_ (hS:=⟨HC2.o,HC.o.cellsAll⟩);refine zT 6 ?_ (hS:=⟨HC2.o,HC.o.cellsAll⟩);refine zT 8 ?_ (hr:=λ _ _ _ hW=>ldJ Am rfl HBL.o hW.2) (hS:=⟨HC2.o,HC.o.cellsAll⟩);refine zJ 7 λ K hK=>?_
  go_simp;refine (Je k n (by have:=HN.o; omega) _).mono ?_;rintro e w4 ⟨rfl,hb⟩;have HC2:=hqZ (Bc hb HC2.o);have HC:=hqZ (HC.o.below hb HC.o.lt);have HB:=hqZ (HB.o.trans (hb.mono HB.o.size));clear hb;refine hK _ _ ⟨HC2.o,HC.o.cellsAll⟩ ?_;clear hK K;try go_frame
  refine zT 9 ?_ (v:=.bool false) (hr:=λ l W hk hW=>A1A (.tmp 38) (.tmp 39) (k1:=Ao k n) (k2:=M) rfl rfl (An _ _) HML.o (by rw [HM.o]; simp) W) (hS:=⟨HC2.o,HC.o.cellsAll⟩);refine zT 10 ?_ (hS:=⟨HC2.o,HC.o.cellsAll⟩);refine zT 11 ?_ (hS:=⟨HC2.o,HC.o.cellsAll⟩);refine zT 13 ?_ (hS:=⟨HC2.o,HC.o.cellsAll⟩);refine zT 14 ?_ (hS:=⟨HC2.o,HC.o.cellsAll⟩);refine zJ 12 λ K hK=>?_
  go_simp;have HC2:=hqZ (Bc ((Below.refl _ _).alloc (aB _) (.cells #[.int .u8 107,.int .u8 98,.int .u8 100] 5)) HC2.o);have HR:Hq (Bs (w4.alloc (.cells #[.int .u8 107,.int .u8 98,.int .u8 100] 5)) (.slice (some ⟨w4.heap.size,0,none⟩) 3 3) [107,98,100]):=hqZ (Sl.lit (cs:=#[.int .u8 107,.int .u8 98,.int .u8 100]) rfl rfl (by simp [aO.oneCell']) (by unfold maxLen; decide));have HC:=hqZ (HC.o.alloc (.cells #[.int .u8 107,.int .u8 98,.int .u8 100] 5));have HB:=hqZ (HB.o.alloc HB.o.size (.cells #[.int .u8 107,.int .u8 98,.int .u8 100] 5));refine hK _ _ ⟨HC2.o,HC.o.cellsAll⟩ ?_;clear hK K;try go_frame
  refine zJ 15 λ K hK=>?_
  go_simp;refine (Mm _ _ k _ HR.o).mono ?_;rintro e w5 ⟨rfl,rfl⟩;have HX:Hq (decide (k∈([107,98,100]:List UInt8))=true):=hqZ (by rcases HK.o with rfl | rfl | rfl <;> decide);rw [HX.o];refine hK _ _ ⟨HC2.o,HC.o.cellsAll⟩ ?_;clear hK K;try go_frame
  refine zT 16 ?_ (hS:=⟨HC2.o,HC.o.cellsAll⟩);refine zT 17 ?_ (hS:=⟨HC2.o,HC.o.cellsAll⟩);refine zD ?_;have c2:=HC2.o;go_wp2_with fail
  go_ret3;exact ⟨rfl,HB.o⟩
theorem Nj {α:Type} {w:aP} {sz n c i:Nat} {a:Option Addr} (f:α->List aO) (l:List α) (hf:∀x∈l,(f x).length=sz) (h:Sl w sz (.slice a n c) n ((l.map f).flatten)) {x:α} (hi:l[i]?=some x) (hz:0<sz): ∃b off,a=some ⟨b,off,none⟩/\Al w b (off+i*sz) (f x):=by
  obtain ⟨hil,hx⟩:=List.getElem?_eq_some_iff.1 hi;have hl:=Kh f l hf;obtain ⟨b,off,e,hc⟩:=h.addr (by rw [hl]; exact Nat.mul_pos (by omega) hz);refine ⟨b,off,e,λ j u hj=>?_⟩;have hjl:j<sz:=by rw [<-hf x (by rw [<-hx]; exact aK _)]; exact (List.getElem?_eq_some_iff.1 hj).1
  rw [Nat.add_assoc];exact hc _ u (by rw [Ms f l hf i j hil hjl,hx]; exact hj)
def Ig:List aO:= [.int .u8 0,.int .u8 0,.int .u8 0,.int .u8 0,.int .u8 0,.int .u8 0,.int .u8 0,.int .u8 0,.int .u8 0,.int .u8 0,.int .u8 0,.int .u8 0,.int .u8 0,.int .u8 0,.int .u8 0,.int .u8 0,.int .i64 0,.slice none 0 0]
def A4E (q:Nat) (s:Sy) (bx:Bx) (l:List Res) (e:Ending) (w':aP):Prop:=∃x,e=.returned (.tuple #[.agg (Ab bx.by_++ [.int .i64 bx.usage,x]).toArray,.bool true])/\Ac w' (.row x bx.body::B2 q s::l)
theorem R2 (q:Nat) (s:Sy) (i:Nat) (bx:Bx) (v:aO) (l:List Res) (w:aP) (h:Ac w (B2 q s::l)) (hv:Bs w v (Ao 98 (i+1))) (hi:s.boxes[i]?=some bx) (hn:s.boxes.length<1099511627776) (hbl:bx.body.length<=1099511627776): aR aA 89 #[.pointer (some ⟨q,0,none⟩),v] w (A4E q s bx l):=by
  obtain ⟨⟨kv,bv,sv,m,vs,bs⟩,hok,h⟩:=Bo.1 h;simp only at h hok;have HOK:=hqZ hok;obtain ⟨a0,c0,rfl,hc0,hm0⟩:=h.tail.tail.slf;obtain ⟨av,cv,rfl,hcv,hmv⟩:=hv.form;have hil:=(List.getElem?_eq_some_iff.1 hi).1;obtain ⟨xv,hxv⟩:∃xv,bs[i]?=some xv:=⟨bs[i]'(by omega),aC _⟩
  have hz:(s.boxes.zip bs)[i]?=some (bx,xv):=by rw [List.getElem?_zip_eq_some]; exact ⟨hi,hxv⟩
  have HZ:=hqZ hz;have HXV:=hqZ hxv;have HI:=hqZ hi;have HN:=hqZ hn;have HBL:=hqZ hbl;have HB16:=hqZ (hok.1.bx bx (aH hi));have HC:=hqZ (h.addBlkAt Ig 218 (b:=w.heap.size) rfl);have HMK:=hqZ (Gt _ 98 (i+1) _ (hv.alloc (.cells Ig.toArray 218)) (by omega) (by decide));have HF:Hq (∀x∈s.boxes.zip bs,(E8 x).length=18):=hqZ (by
    intro x hx;obtain ⟨x1,x2⟩:=x;simp [E8,Aa,hok.1.bx x1 (List.of_mem_zip hx).1])
  obtain ⟨b0,o0,rfl,_⟩:=Nj E8 (s.boxes.zip bs) HF.o (h.tail.tail.head.elim λ _ hF=>hF.1.sl) hz (by decide);have hi0:(0:Int)<=(i:Int):=by omega
  have hi1:(i:Int)< (s.boxes.length:Int):=by omega
  unfold maxLen at hm0;clear h hok hv hz hxv hi hbl;go_enter Tryz.func89,Tryz.ntmps89;go_wp2_with fail;refine HMK.o.mono ?_;rintro e w1 ⟨rfl,hb⟩;have HC:=hqZ (HC.o.step hb);have c1:=(HC.o.zB q).cell 1;clear hb HMK;have h98:((98:UInt8).toNat:Int)=98:=by decide
  have hw:aS.i64.wrap ((i:Int)+1-1)=i:=by rw [aS.wrap_i64]; omega
  have hd1:decide ((i:Int)+1<1)=false:=by simp; omega
  have hd2:decide ((s.boxes.length:Int)< (i:Int)+1)=false:=by simp; omega
  have hcx:Al w1 b0 (o0+i*18) (E8 (bx,xv)):=by
    obtain ⟨b1,o1,e,hc⟩:=Nj E8 (s.boxes.zip bs) HF.o (HC.o.pull4.head.elim λ _ hF=>hF.1.sl) HZ.o (by decide);simp only [Option.some.injEq,Addr.mk.injEq,and_true] at e;rw [e.1,e.2];exact hc
  have HCX:=hqZ hcx;have HCL:Hq ((E8 (bx,xv)).length=18):=hqZ (HF.o _ (aH HZ.o));have HXR:=hqZ (Gs (HC.o.pull5) i HXV.o (by rw [List.getElem?_map,HI.o]; rfl));obtain ⟨xa,xc,hxe,_,_⟩:=HXR.o.form;have HC1:Hq (∀u∈E8 (bx,xv),u.oneCell'=true):=hqZ (by
    intro u hu;rcases List.mem_append.1 hu with h | h
    · exact Ak _ u h
    · simp at h; rcases h with rfl | rfl
      · rfl
      · rw [hxe]; rfl)
  have HXE:=hqZ hxe;have HC:=hqZ (HC.o.addBlk Ig 218);clear hcx hxe;go_wp2_with (first | ((with_reducible refine zw 43 ?_);refine Ag rfl (.tmp 42) Dg rfl rfl (cs:=E8 (bx,xv)) HCL.o HCX.o ?_) | ((with_reducible refine zws 9 43 ?_);refine Af rfl (.tmp 9) (.tmp 43) Dg rfl rfl (vs:=E8 (bx,xv)) rfl HCL.o HC.o.blk0 (aB _) HC1.o ?_));intro w2 h2 k2;have HXR:=hqZ (HXR.o.below (((Below.refl _ _).alloc (aB _) _).trans (k2.below (by omega))));have HC:=hqZ (HC.o.stW (vs:=E8 (bx,xv)) h2 k2 rfl);have c17:w2.cell? ⟨w1.heap.size,17,none⟩=some xv:=by
    rw [HC.o.blk0.cell 17]
    have:=HB16.o;simp [E8,aD,Aa,this]
  have f17:=HC.o.blk0.frozen 17;rw [HXE.o] at HXR c17;clear h2 k2 c1;go_wp2_with fail;refine (Hg _ bx.body _ HXR.o HBL.o).mono ?_;rintro e w3 ⟨cl,rfl,ho,hv,hb⟩;obtain ⟨a6,c6,rfl,_,_⟩:=ho.sl.form;have HC:=hqZ (HC.o.addOwnB hb ho hv).ownRow.swap;have hset:(E8 (bx,xv)).set 17 (.slice a6 bx.body.length c6)=Ab bx.by_++ [.int .i64 bx.usage,.slice a6 bx.body.length c6]:=by
    have:=HB16.o;show (Ab bx.by_++ [.int .i64 bx.usage,xv]).set 17 _=_
    rw [List.set_append_right _ _ (by rw [Aa]; omega),Aa,this];rfl
  have HS:=hqZ hset;have hblk:=HC.o.blk0;have e17:=hblk.cell 17;have g17:=hblk.frozen 17;have ch:=hblk.lt;have HCS:=hqZ (HC.o.set 17 (.slice a6 bx.body.length c6));rw [HS.o] at HCS;have d17:w3.cell? ⟨w1.heap.size,17,none⟩=some xv:=by
    rw [e17]
    have:=HB16.o;simp [E8,aD,Aa,this]
  rw [HXE.o] at d17;have HCL2:Hq ((Ab bx.by_++ [aO.int .i64 bx.usage,aO.slice a6 bx.body.length c6]).length=18):=hqZ (by have:=HB16.o; simp [Aa,this]);have HC2:Hq (∀u∈Ab bx.by_++ [aO.int .i64 bx.usage,aO.slice a6 bx.body.length c6],u.oneCell'=true):=hqZ (by
    intro u hu;rcases List.mem_append.1 hu with h | h
    · exact Ak _ u h
    · simp at h; rcases h with rfl | rfl <;> rfl)
  clear hb ho hv hblk hset c17 f17 e17;go_wp2_with (first | ((with_reducible refine zw 48 ?_);refine Ag rfl (.tmp 9) Dg rfl rfl (cs:=Ab bx.by_++ [aO.int .i64 bx.usage,aO.slice a6 bx.body.length c6]) HCL2.o HCS.o.blk0.cellsAll ?_) | ((with_reducible refine zws 4 48 ?_);refine Af rfl (.tmp 4) (.tmp 48) Dg rfl rfl (vs:=Ab bx.by_++ [aO.int .i64 bx.usage,aO.slice a6 bx.body.length c6]) rfl HCL2.o HCS.o.pull3.blk0 (aB _) HC2.o ?_));intro w4 h4 k4;have h4':Blk w4 w.heap.size (Ab bx.by_++ [aO.int .i64 bx.usage,aO.slice a6 bx.body.length c6]) 218:=by simpa [Ig] using h4
  have HC:=hqZ (HCS.o.pull3.reblk h4' k4);clear h4 h4' k4 ch d17 g17 HCS;go_wp2_with fail;refine bodyPost_ret (Aj rfl Dg rfl (cs:=Ab bx.by_++ [aO.int .i64 bx.usage,aO.slice a6 bx.body.length c6]) HCL2.o HC.o.blk0.cellsAll) rfl ⟨.slice a6 bx.body.length c6,rfl,?_⟩;have h:=HC.o.tail.tail;have h2:Ac w4 (B2 q s::_):=Bo.2 ⟨⟨kv,.slice (some ⟨b0,o0,none⟩) s.boxes.length c0,sv,m,vs,bs⟩,HOK.o,(h.zP [1,1,1,1,1,1,1])⟩;exact h2.swap
theorem Yg (q:Nat) (s:Sy) (i:Nat) (k:List UInt8) (u:Int) (b:List UInt8) (v:aO) (l:List Res) (w:aP) (h:Ac w (B2 q s::l)) (hv:Bs w v (Ao 98 (i+1))) (hi:s.boxes[i]?=some ⟨k,u,b⟩) (hn:s.boxes.length<1099511627776) (hbl:b.length<=1099511627776): aR aA 172 #[.pointer (some ⟨q,0,none⟩),Ay k,.int .i64 u,v] w (T9 q (.sym s) b l):=by
  have hk:k.length=16:=(Bo.1 h).elim λ _ hx=>hx.1.1.bx _ (aH hi)
  have HKK:=hqZ hk;have HK1:Hq ((Ab k).length=16):=hqZ (by rw [Aa,hk]);have HB:=hqZ (R2 q s i _ v (.blk w.heap.size (Ab k) 43::l) _ (h.addBlkAt (Ab k) 43 (b:=w.heap.size) rfl).swap (hv.alloc _) hi hn hbl);obtain ⟨va,vc,rfl,_,_⟩:=hv.form;clear h hv hi hn hbl hk;unfold Ay;go_enter Tryz.func172,Tryz.ntmps172;go_wp2_with fail;refine HB.o.mono ?_;rintro e w1 ⟨x,rfl,hc⟩;simp only at hc;have hbs:=(hc.rowOf (v:=x) (b:=b) (by simp));obtain ⟨xa,xc,rfl,_,_⟩:=hbs.form;have HCL:Hq ((Ab k++ [aO.int .i64 u,aO.slice xa b.length xc]).length=18):=hqZ (by rw [aJ,HK1.o]; rfl);have HC1:Hq (∀y∈Ab k++ [aO.int .i64 u,aO.slice xa b.length xc],y.oneCell'=true):=hqZ (by
    intro y hy;rcases List.mem_append.1 hy with h | h
    · exact Ak _ y h
    · simp at h; rcases h with rfl | rfl <;> rfl)
  have HC:=hqZ (hc.addBlk Ig 218);clear hc hbs HB;go_wp2_with ((with_reducible refine zws 10 16 ?_);refine Af rfl (.tmp 10) (.tmp 16) Dg rfl rfl (vs:=Ab k++ [aO.int .i64 u,aO.slice xa b.length xc]) rfl HCL.o HC.o.blk0 (aB _) HC1.o ?_);intro w2 h2 k2;have h2':Blk w2 w1.heap.size (Ab k++ [aO.int .i64 u,aO.slice xa b.length xc]) 218:=by simpa [Ig] using h2
  have HC:=hqZ (HC.o.reblk h2' k2);have HKA:Hq (Al w2 w1.heap.size 0 (Ab k)):=hqZ (by
    have:=h2'.cellsAt 0 16
    rwa [List.drop_zero,List.take_left' HK1.o] at this)
  have HKB:Hq (Al w2 w.heap.size 0 (Ab k)):=hqZ (HC.o.pull4.blk0.cellsAll);have e16:w2.cell? ⟨w1.heap.size,16,none⟩=some (.int .i64 u):=by
    rw [h2'.cell 16];simp [aD,HK1.o]
  have e17:w2.cell? ⟨w1.heap.size,17,none⟩=some (.slice xa b.length xc):=by
    rw [h2'.cell 17];simp [aD,HK1.o]
  clear h2 h2' k2;go_wp2_with (first | ((with_reducible refine zw 22 ?_);refine Ag rfl (.tmp 21) Am rfl rfl (cs:=Ab k) HK1.o HKA.o ?_) | ((with_reducible refine zw 23 ?_);refine Ag rfl (.tmp 5) Am rfl rfl (cs:=Ab k) HK1.o HKB.o ?_) | ((with_reducible refine zw 24 ?_);refine Yz rfl (.tmp 22) (.tmp 23) rfl (k1:=k) (k2:=k) rfl rfl HKK.o HKK.o (b:=false) (by simp) ?_));go_ret2;exact ⟨_,rfl,HC.o.tail.pull3.tail⟩
theorem Ac.addEmpX {W:aP} {l:List Res} (h:Ac W l):Ac W (.emp::l):=h.new (Below.refl _ _) (F:=λ _=>False) (λ _ h=>h) (λ _ h=>h.elim)
def A4K (l:List Res) (e:Ending) (w':aP):Prop:=∃q,e=.returned (.pointer (some ⟨q,0,none⟩))/\Ac w' (pvR q (.sym .nil)::l)
theorem Pn (l:List Res) (w:aP) (h:Ac w l):aR aA 5 #[] w (A4K l):=by
  have HC:=hqZ h;clear h;have hmm:= @run_makeMap aA;go_enter Tryz.func5,Tryz.ntmps5;go_wp2_with fail;go_ret;refine ⟨w.heap.size+1,rfl,?_⟩;exact Bo.2 ⟨⟨.slice none 0 0,.slice none 0 0,.slice none 0 0,w.heap.size, [], []⟩,⟨⟨(λ _ h=>by cases h),(λ _ h=>by cases h)⟩,rfl⟩,((((((((HC.o.mapVMade aA 142 frL).addBlkAt [.slice none 0 0,.slice none 0 0,.slice none 0 0,.map (some w.heap.size)] 60 (by simp)).addEmpX).addNil 29 1).addEmpX).addNil 218 18).addNil 142 18)).zP [5]⟩
theorem A0o (q:Nat) (s:Sy) (v:aO) (b:List UInt8) (l:List Res) (w:aP) (h:Ac w (B2 q s::l)) (hb:Bs w v b) (hbl:b.length<=1099511627776) (hn:s.sums.length<1099511627776): aR aA 170 #[.pointer (some ⟨q,0,none⟩),v] w (Hm q (.sym (s.digest b).2) (s.digest b).1 l):=by
  obtain ⟨x,hok,h⟩:=Bo.1 h;have hd:=Zh q x.kv x.bv (.map (some x.m)) s.sums v b (.own 142 18 x.kv s.keys.length (frC s.keys)::.own 218 18 x.bv s.boxes.length (bxC s.boxes x.bs)::Br x.bs (s.boxes.map Bx.body)::N5 aA 142 frL x.m (knM s)::l) w (Hk (h.zP [0,3,3])) hb hbl hn;refine hd.mono ?_;rintro e w' ⟨g,rfl,hc⟩;refine ⟨_,rfl,?_⟩;obtain ⟨sv,vs,hc⟩:=T4 hc;exact Ac.swap (Bo.2 ⟨⟨x.kv,x.bv,sv,x.m,vs,x.bs⟩,⟨⟨hok.1.bx,hok.1.kn⟩,hok.2⟩,hc.zP [0,3,3,3,0,0,1]⟩)
namespace PS
theorem sz_keys {s:Sy} {n:Nat} (h:(PS.sym s).sz<n):s.keys.length<n/\s.boxes.length<n/\s.sums.length<n/\s.known.length<n:=by
  simp only [sz] at h;omega
end PS
theorem Gp (q:Nat) (s:PS) (l:List Res) (w:aP) (h:Ac w (pvR q s::l)) (hn:s.sz<1099511627776): aR aA (C7 s) #[.pointer (some ⟨q,0,none⟩)] w λ e w'=>e=.returned (Ay s.fresh.1)/\Ac w' (pvR q s.fresh.2::l):=by
  cases s with
  | sym s=>(simp only [PS.fresh,PS.text,PS.derive,PS.lift,pvR,C7,Hs,Eb] at h ⊢); exact Vi q s l w h (PS.sz_keys hn).1
theorem Rn (q:Nat) (s:PS) (pw salt:ByteArray) (l:List Res) (w:aP) (h:Ac w (pvR q s::l)) (hp1:pw.size<=100000) (hp2:salt.size<=100000) (hn:s.sz<1099511627776): aR aA (Hs s) #[.pointer (some ⟨q,0,none⟩),.string pw,.string salt] w λ e w'=>e=.returned (Ay (s.text pw.data.toList salt.data.toList).1)/\Ac w' (pvR q (s.text pw.data.toList salt.data.toList).2::l):=by
  cases s with
  | sym s=>(simp only [PS.fresh,PS.text,PS.derive,PS.lift,pvR,C7,Hs,Eb] at h ⊢); exact Kz q s pw salt l w h hp1 hp2 (PS.sz_keys hn).1 (PS.sz_keys hn).2.2.2
theorem Ju (q:Nat) (s:PS) (k:List UInt8) (lb:ByteArray) (l:List Res) (w:aP) (h:Ac w (pvR q s::l)) (hk:k.length=16) (hlb:lb.size<=100000) (hn:s.sz<1099511627776): aR aA (Eb s) #[.pointer (some ⟨q,0,none⟩),Ay k,.string lb] w λ e w'=>e=.returned (Ay (s.derive k lb).1)/\Ac w' (pvR q (s.derive k lb).2::l):=by
  cases s with
  | sym s=>(simp only [PS.fresh,PS.text,PS.derive,PS.lift,pvR,C7,Hs,Eb] at h ⊢); exact S0 q s k lb l w h hk (by unfold maxLen; omega) (PS.sz_keys hn).1 (PS.sz_keys hn).2.2.2
theorem Rm (q:Nat) (s:PS) (k:List UInt8) (u:Nat) (body:List UInt8) (v:aO) (l:List Res) (w:aP) (h:Ac w (pvR q s::l)) (hk:k.length=16) (hu:u<100) (hv:∀W,Ac W l->Bs W v body) (hbl:body.length<=100000) (hn:s.sz<1099511627776): aR aA (Iz s) #[.pointer (some ⟨q,0,none⟩),Ay k,.int .i64 u,v] w (Hm q (s.shut k u body).2 (s.shut k u body).1 l):=by
  cases s with
  | sym s=>exact Yh q s k u body v l w h hk (hv _ h.tail) (by omega) (PS.sz_keys hn).2.1
theorem Hx (q:Nat) (s:PS) (k:List UInt8) (u:Nat) (box body:List UInt8) (v:aO) (l:List Res) (w:aP) (h:Ac w (pvR q s::l)) (ho:s.Opn k u box body) (hk:k.length=16) (hu:u<100) (hv:∀W,Ac W l->Bs W v box) (hbl:body.length<=100000) (hn:s.sz<1099511627776): aR aA (E3 s) #[.pointer (some ⟨q,0,none⟩),Ay k,.int .i64 u,v] w (T9 q s body l):=by
  cases s with
  | sym s=>
    obtain ⟨i,hi,rfl⟩:=ho;exact Yg q s i k u body v l w h (hv _ h.tail) hi (PS.sz_keys hn).2.1 (by omega)
theorem Nb (q:Nat) (s:PS) (v:aO) (b:List UInt8) (l:List Res) (w:aP) (h:Ac w (pvR q s::l)) (hv:Bs w v b) (hbl:b.length<=1000000) (hn:s.sz<1099511627776): aR aA (Hr s) #[.pointer (some ⟨q,0,none⟩),v] w (Hm q (s.digest b).2 (s.digest b).1 l):=by
  cases s with
  | sym s=>exact A0o q s v b l w h hv (by omega) (PS.sz_keys hn).2.2.1
end Go.Proofs.YtbmjjfhpllpiaaaGreat
namespace Go.Proofs.YtbmjjfhpllpiaaaGreat
open Go.RowKit
theorem Dx (n:Nat) (w:aP) (hn:n<=9223372036854775807):aR aA 135 #[.int .i64 (n:Int)] w (Jz w (.mk 0 0 n [] [])):=by
  have HN:=hqZ (Blk.new w zs5 249);have HB0:Hq (Below w.heap.size w (w.alloc (.cells zs5.toArray 249))):=hqZ ((Below.refl _ _).alloc (aB _) _);have HSZ:Hq (∀o,(w.alloc o).heap.size=w.heap.size+1):=hqZ (λ o=>by simp);have HRW:=hqZ (Jt n (w.alloc (.cells zs5.toArray 249)));go_enter Tryz.func135,Tryz.ntmps135;go_wp2_with fail;refine HRW.o.mono ?_;rintro e w1 ⟨cs,rfl,h1,h2⟩;have HL:=hqZ h1.length;have HO:=hqZ h1.one;have h1':TvF w1 (λ b=>w.heap.size+1<=b) (.mk 0 0 n [] []) cs:=h1.mono (λ b hb=>by first | omega | (simp only [HSZ.o] at hb; omega) | (simp at hb; omega));have hbw:Below w.heap.size w w1:=HB0.o.trans (h2.mono (by first | omega | (simp; done)));have hr1:Blk w1 w.heap.size zs5 249:=HN.o.below h2 (by first | omega | (simp; done));have HT:=hqZ h1';have HBW:=hqZ hbw;have HR:=hqZ hr1;clear h1 h1' h2 hbw hr1;go_wp2_with ((with_reducible refine zws 2 5 ?_);refine Af rfl (.tmp 2) (.tmp 5) Aq rfl rfl (vs:=cs) rfl HL.o HR.o (aB _) HO.o ?_);intro w2 h2 k2;have H2:Hq (Blk w2 w.heap.size cs 249):=hqZ (by simpa [zs5] using h2);have HB2:Hq (Below w.heap.size w w2):=hqZ (HBW.o.trans (k2.below (by omega)));have HT2:Hq (TvF w2 (λ b=>w.heap.size<=b) (.mk 0 0 n [] []) cs):=hqZ ((HT.o.keep k2 (λ b hb _ e=>by omega)).mono (λ b hb=>by omega));clear h2 k2;go_wp2_with fail;exact bodyPost_ret (A2 rfl Aq rfl (cs:=cs) HL.o H2.o.cellsAll) rfl ⟨cs,rfl,HT2.o,HB2.o⟩
theorem R8 (k:List UInt8) (w:aP) (hk:k.length=16):aR aA 136 #[Ay k] w (Jz w (.mk 1 0 0 k [])):=by
  have HKB:=hqZ (Blk.new w (Ab k) 43);have HN:=hqZ (Blk.new (w.alloc (.cells (Ab k).toArray 43)) zs5 249);have HB0:Hq (Below w.heap.size w ((w.alloc (.cells (Ab k).toArray 43)).alloc (.cells zs5.toArray 249))):=hqZ (((Below.refl _ _).alloc (aB _) _).alloc (by simp) _);have hrow:Bs ((w.alloc (.cells (Ab k).toArray 43)).alloc (.cells zs5.toArray 249)) (.slice (some ⟨w.heap.size,0,none⟩) 16 16) k:=by
    have h:=(HKB.o.alloc (.cells zs5.toArray 249)).bs (off:=0) (n:=16) (cap:=16) (by omega) (aB _) (by unfold maxLen; decide);exact Sl.bs h (by simp [aN,hk]) hk
  have HRW:=hqZ (Cy _ k _ hrow (by omega));clear hrow;unfold Ay;go_enter Tryz.func136,Tryz.ntmps136;go_wp2_with fail;refine HRW.o.mono ?_;rintro e w1 ⟨cs,rfl,h1,h2⟩;have HL:=hqZ h1.length;have HO:=hqZ h1.one;have hr1:Blk w1 (w.heap.size+1) zs5 249:=(by simpa using HN.o:Blk _ (w.heap.size+1) zs5 249).below h2 (by simp);have hbw:Below w.heap.size w w1:=HB0.o.trans (h2.mono (by simp; omega));have HT:=hqZ h1;have HBW:=hqZ hbw;have HR:=hqZ hr1;clear h1 h2 hbw hr1;go_wp2_with ((with_reducible refine zws 2 4 ?_);refine Af rfl (.tmp 2) (.tmp 4) Aq rfl rfl (vs:=cs) rfl HL.o HR.o (aB _) HO.o ?_);intro w2 h2 k2;have H2:Hq (Blk w2 (w.heap.size+1) cs 249):=hqZ (by simpa [zs5] using h2);have HB2:Hq (Below w.heap.size w w2):=hqZ (HBW.o.trans (k2.below (by omega)));have HT2:Hq (TvF w2 (λ b=>w.heap.size<=b) (.mk 1 0 0 k []) cs):=hqZ ((HT.o.keep k2 (λ b hb _ e=>by simp at hb; omega)).mono (λ b hb=>by simp at hb; omega));clear h2 k2;go_wp2_with fail;exact bodyPost_ret (A2 rfl Aq rfl (cs:=cs) HL.o H2.o.cellsAll) rfl ⟨cs,rfl,HT2.o,HB2.o⟩
end Go.Proofs.YtbmjjfhpllpiaaaGreat
