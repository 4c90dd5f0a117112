/- Texts of this proof, one behind the other: Cred5, Log2, Log3, Ktgs1, MVsD, MValA, MValE, MPure2, MValue, MWr, Sum1. -/
import Derived.Test.YtcnfaghcjlhoiaaGreatWeA2
import Derived.Test.YtcnfaghcjlhoiaaGreatWeA3
import Derived.Test.YtcnfaghcjlhoiaaGreatWeA5
import Derived.Test.YtcnfaghcjlhoiaaGreatWeA7
import Derived.Test.YtcnfaghcjlhoiaaGreatWeA8
import Derived.Test.YtcnfaghcjlhoiaaGreatWeA10
import Derived.Deep.DeepCutAuto
set_option linter.unusedSimpArgs false
set_option linter.unusedVariables false
set_option maxRecDepth 100000
set_option maxHeartbeats 16000000
open Go.Proofs.Tryz renaming prog -> aA, func153 -> aI, ntmps153 -> aJ
open List renaming map_cons -> aB, map_nil -> aC, mem_cons -> aE, not_mem_nil -> aF, map_toArray -> aG, all_cons -> aK, all_nil -> aL, getElem_mem -> aN, append_assoc -> aO, drop_of_length_le -> aP, append_nil -> aQ
open Nat renaming le_refl -> aD, lt_of_lt_of_le -> aH, lt_irrefl -> aM
open Go renaming Value -> aR, World -> aS, Calls -> aT
namespace Go.Proofs.YtcnfaghcjlhoiaaGreat
open Go.RowKit
def Hp (L:List (Option Cr)) (s:ByteArray):Option Cr:=if Dy L s<0 then none else L.getD (Dy L s).toNat none
def A1f (w':aS) (B:Nat) (L:List (Option Cr)) (now:Int) (s:ByteArray) (c':Cr) (e:Int):Prop:=
 c'.key.length=16/\Bs w' c'.bv c'.box/\(∀b,c'.bv.ownBlock=some b->B<=b/\b<w'.heap.size)/\(c'.box= []\/∃g cap rest,c'.bv=.slice (some ⟨g,0,none⟩) c'.box.length cap/\Blk w' g (Ae c'.box++rest) 5)/\
 match Hp L s with
 | none=>c'=Cr.zero/\e=9
 | some c=>if c.fin<=now then c'=Cr.zero/\e=12 else c'.dat=c.dat/\e=0
def Fb:List aR:= [.string ⟨#[]⟩,.slice none 0 0,.int .u8 0,.int .u8 0,.int .u8 0,.int .u8 0,.int .u8 0,.int .u8 0,.int .u8 0,.int .u8 0,.int .u8 0,.int .u8 0,.int .u8 0,.int .u8 0,.int .u8 0,.int .u8 0,.int .u8 0,.int .u8 0,.int .i64 0,.int .i64 0,.int .i64 0]
theorem T3:∀u∈Fb,u.oneCell'=true:=Cr.one Cr.zero rfl
theorem Be.cells {w:aS} {F:Nat->Prop} {p:Nat} {L:List (Option Cr)} (h:Be w F p L) (k:Nat) (hk:k<L.length):Ao w p (k*21) (slC L[k]).cells:=by
 intro j u hj;have hkey:=H8 (λ c hc=>(h.2.2.2 c hc).1);have hj':j<21:=by
  have:=(List.getElem?_eq_some_iff.1 hj).1;rw [Cr.cells_length _ (hkey _ (aN hk))] at this;exact this
 rw [h.slot k j hk hj'];exact hj
theorem Lm (w':aS) (B:Nat) (L:List (Option Cr)) (now:Int) (s:ByteArray) (e:Int) (h:match Hp L s with | none=>e=9 | some c=>c.fin<=now/\e=12):A1f w' B L now s Cr.zero e:=by
 refine ⟨rfl,Sl.nil _ _ _,by simp [Cr.zero,aR.ownBlock],.inl rfl,?_⟩;split
 . rename_i heq;rw [heq] at h;exact ⟨rfl,h⟩
 . rename_i c heq;rw [heq] at h;rw [if_pos h.1];exact ⟨rfl,h.2⟩
theorem Pm (F:Nat->Prop) (p:Nat) (L:List (Option Cr)) (now:Int) (s:ByteArray) (w:aS) (h:Be w F p L) (hbx:∀c,some c∈L->c.box.length<=140737488351232): aT aA 39 #[.pointer (some ⟨p,0,none⟩),.int .i64 now,.string s] w λ e w'=>∃(c':Cr) (er:Int),e=.returned (.tuple #[.agg c'.cells.toArray,.int .i64 er])/\A1f w' w.heap.size L now s c' er/\Below w.heap.size w w':=by
 have hz:Tryz.prog.built 116 []=some Fb.toArray:=T2;have HZ:=Ab hz;have HBz:=Ab (Blk.new w Fb 116);have HH:=Ab (h.below ((Below.refl _ _).alloc (aD _) (.cells Fb.toArray 116)));have HL:=Ab h.2.1;have HBX:=Ab hbx;have hplt:=h.lt;have HBB:Hq (Below w.heap.size w (w.alloc (.cells Fb.toArray 116))):=Ab ((Below.refl _ _).alloc (aD _) _);clear hz h hbx;go_enter Tryz.func39,Tryz.ntmps39;go_wp2_with fail;refine (M2 F p L s _ HH.o).mono ?_;rintro e w1 ⟨rfl,hw1⟩;have HBz1:Hq (Blk w1 w.heap.size Fb 116):=Ab (by rw [<-hw1]; exact HBz.o);have HH1:Hq (Be w1 F p L):=Ab (by rw [<-hw1]; exact HH.o);have HB1:Hq (Below w.heap.size w w1):=Ab (by rw [<-hw1]; exact HBB.o);have hz1:w.heap.size+1<=w1.heap.size:=by rw [<-hw1]; simp
 clear hw1 HBz HH HBB;by_cases hneg:Dy L s<0
 . have hso:Hp L s=none:=by rw [Hp,if_pos hneg]
   have HR:=Ab (λ w'=>Lm w' w.heap.size L now s 9 (by rw [hso]));clear hso;go_wp2_with (first | ((with_reducible refine zw 25 ?_);refine Cl rfl rfl HZ.o ?_) | ((with_reducible refine zws 6 25 ?_);refine Ag rfl (.tmp 6) (.tmp 25) Do rfl rfl (vs:=Fb) rfl rfl HBz1.o (aD _) T3 ?_));intro w2 h2 k2;have h2':Blk w2 w.heap.size Fb 116:=by simpa [Fb] using h2
   have H2:=Ab h2';have HB2:Hq (Below w.heap.size w w2):=Ab (HB1.o.trans (k2.below (by omega)));clear h2 h2' k2;go_wp2_with fail;exact bodyPost_ret (Ap rfl Do rfl (cs:=Fb) rfl H2.o.cellsAll) rfl ⟨Cr.zero,9,rfl,HR.o _,HB2.o⟩
 . obtain ⟨k,hkk⟩:∃k:Nat,Dy L s=k:=⟨(Dy L s).toNat,by omega⟩
   have hk16:k<16:=by have:=Vh L s; rw [HL.o] at this; omega
   have hkL:k<L.length:=by rw [HL.o]; exact hk16
   rw [hkk] at hneg ⊢;have HKK:=Ab hkk;have hiu:=A1O p k hk16;have hia:=Wx p k hk16;have hcu:=HH1.o.usedC k hkL;have hg:L.getD k none=L[k]:=by simp [List.getD,hkL]
   cases ho:L[k] with
   | none=>
    have hso:Hp L s=none:=by rw [Hp,HKK.o,if_neg (by omega),Int.toNat_natCast,hg,ho]
    have HR:=Ab (λ w'=>Lm w' w.heap.size L now s 9 (by rw [hso]));have hcu2:w1.cell? ⟨p,336+k,none⟩=some (.bool false):=by rw [hcu,ho]; rfl
    clear hkk ho hg hcu hso;go_wp2_with (first | ((with_reducible refine zw 25 ?_);refine Cl rfl rfl HZ.o ?_) | ((with_reducible refine zws 6 25 ?_);refine Ag rfl (.tmp 6) (.tmp 25) Do rfl rfl (vs:=Fb) rfl rfl HBz1.o (aD _) T3 ?_));intro w2 h2 k2;have h2':Blk w2 w.heap.size Fb 116:=by simpa [Fb] using h2
    have H2:=Ab h2';have HB2:Hq (Below w.heap.size w w2):=Ab (HB1.o.trans (k2.below (by omega)));clear h2 h2' k2;go_wp2_with fail;exact bodyPost_ret (Ap rfl Do rfl (cs:=Fb) rfl H2.o.cellsAll) rfl ⟨Cr.zero,9,rfl,HR.o _,HB2.o⟩
   | some c=>
    have hmem:some c∈L:=by rw [<-ho]; exact aN hkL
    obtain ⟨hck,hcb,hcf⟩:=HH1.o.2.2.2 c hmem;have hcbl:=HBX.o c hmem;have hso:Hp L s=some c:=by rw [Hp,HKK.o,if_neg (by omega),Int.toNat_natCast,hg,ho]
    have hcu2:w1.cell? ⟨p,336+k,none⟩=some (.bool true):=by rw [hcu,ho]; rfl
    have hfin:w1.cell? ⟨p,k*21+19,none⟩=some (.int .i64 c.fin):=by
     rw [HH1.o.slot k 19 hkL (by decide),ho];exact Cr.c19 c hck
    have hcells:=HH1.o.cells k hkL;rw [ho] at hcells;have HCE:Hq (Ao w1 p (k*21) c.cells):=Ab hcells;have HSO:=Ab hso;have HCK:=Ab hck;have HCB:=Ab hcb;have HCF:=Ab hcf;clear hkk ho hg hcu hso hcells hck hcb hcf hmem;by_cases hf:c.fin<=now
    . have HR:=Ab (λ w'=>Lm w' w.heap.size L now s 12 (by rw [HSO.o]; exact ⟨hf,rfl⟩));go_wp2_with (first | ((with_reducible refine zw 36 ?_);refine Cl rfl rfl HZ.o ?_) | ((with_reducible refine zws 6 36 ?_);refine Ag rfl (.tmp 6) (.tmp 36) Do rfl rfl (vs:=Fb) rfl rfl HBz1.o (aD _) T3 ?_));intro w2 h2 k2;have h2':Blk w2 w.heap.size Fb 116:=by simpa [Fb] using h2
      have H2:=Ab h2';have HB2:Hq (Below w.heap.size w w2):=Ab (HB1.o.trans (k2.below (by omega)));clear h2 h2' k2;go_wp2_with fail;exact bodyPost_ret (Ap rfl Do rfl (cs:=Fb) rfl H2.o.cellsAll) rfl ⟨Cr.zero,12,rfl,HR.o _,HB2.o⟩
    . have hcl:=Cr.cells_length c HCK.o;obtain ⟨ab,cb,hbv,hcb2,hmb⟩:=HCB.o.form;have hc1:∀u∈c.cells,u.oneCell'=true:=Cr.one c (by rw [hbv]; rfl)
      have HCL:=Ab hcl;have HC1:=Ab hc1;have HBV:=Ab hbv;have HN:=Ab (Blk.new w1 Fb 116);unfold maxLen at hmb;clear hcl hc1 hbv;go_wp2_with (first | ((with_reducible refine zw 42 ?_);refine Aj rfl (.tmp 41) Do rfl rfl (cs:=c.cells) HCL.o HCE.o ?_) | ((with_reducible refine zws 9 42 ?_);refine Ag rfl (.tmp 9) (.tmp 42) Do rfl rfl (vs:=c.cells) rfl HCL.o HN.o (aD _) HC1.o ?_));intro w2 h2 k2;have h2':Blk w2 w1.heap.size c.cells 116:=by
       have:=h2;simpa [Fb,Cr.cells] using this
      have hz2:=k2.size;simp at hz2;have HB2:Hq (Below w.heap.size w w2):=Ab ((HB1.o.alloc (by omega) _).trans (k2.below (by omega)));have HR2:Hq (Blk w2 w.heap.size Fb 116):=Ab ((HBz1.o.alloc _).keep k2 (by omega));have HCB2:Hq (Bs w2 c.bv c.box):=Ab (Sl.keep' (HCB.o.alloc _) k2 (λ b hb hl e=>by have:=(HCF.o b hb).2.2; omega));have x1:w2.cell? ⟨w1.heap.size,1,none⟩=some (.slice ab c.box.length cb):=by rw [h2'.cell,<-HBV.o]; rfl
      have H2:=Ab h2';rw [HBV.o] at HCB2;clear h2 h2' k2 HN HCE;go_wp2_with ((with_reducible refine zw 46 ?_);refine Mb rfl (.const (.slice none 0 0)) (.tmp 45) D8 rfl rfl HCB2.o (by unfold maxLen; omega) (by omega) ?_);intro v3 w3 ho3 hk3 hvb3;have hb3:Bs w3 v3 c.box:=ho3.sl;have hz3:=hk3.size;have hb23:=H2.o.keep hk3 (by omega);have y1:w3.cell? ⟨w1.heap.size,1,none⟩=some (.slice ab c.box.length cb):=by rw [hb23.cell,<-HBV.o]; rfl
      have g1:=hb23.frozen 1;have hfresh:c.box= []\/∃g cap rest,v3=.slice (some ⟨g,0,none⟩) c.box.length cap/\w2.heap.size<=g/\Blk w3 g (Ae c.box++rest) 5:=by
       by_cases hbe:c.box= []
       . exact .inl hbe
       . obtain ⟨g,cap,rest,e1,e2,e3,_⟩:=Du.blk (show Du w3 w2.heap.size v3 c.box from ho3) (List.length_pos_iff.2 hbe);exact .inr ⟨g,cap,rest,e1,e2,e3⟩
      obtain ⟨a3,c3,hv3f,_⟩:=hb3.form;have hvb3':=hvb3;subst hv3f;obtain ⟨c',hc'⟩:∃c':Cr,c'= { c with bv:=.slice a3 c.box.length c3 } :=⟨_,rfl⟩
      have hb4:Blk (w3.setCell ⟨w1.heap.size,1,none⟩ (.slice a3 c.box.length c3)) w1.heap.size c'.cells 116:=by
       have:=hb23.set 1 (.slice a3 c.box.length c3);rw [hc'];exact this
      have hbs4:Bs (w3.setCell ⟨w1.heap.size,1,none⟩ (.slice a3 c.box.length c3)) (.slice a3 c.box.length c3) c.box:=Sl.setCell hb3 (by intro e; have:=(hvb3 _ e).1; simp at this; omega) _;have hB4:Below w.heap.size w (w3.setCell ⟨w1.heap.size,1,none⟩ (.slice a3 c.box.length c3)):=(HB2.o.trans (hk3.below (λ j hj=>by omega))).setCell (by simp; omega) _;have hR4:Blk (w3.setCell ⟨w1.heap.size,1,none⟩ (.slice a3 c.box.length c3)) w.heap.size Fb 116:=(HR2.o.keep hk3 (by omega)).set_other (by simp; omega) _;have hf4:c.box= []\/∃g cap rest,aR.slice a3 c.box.length c3=.slice (some ⟨g,0,none⟩) c.box.length cap/\w2.heap.size<=g/\Blk (w3.setCell ⟨w1.heap.size,1,none⟩ (.slice a3 c.box.length c3)) g (Ae c.box++rest) 5:=by
       rcases hfresh with h | ⟨g,cap,rest,e1,e2,e3⟩
       . exact .inl h
       . exact .inr ⟨g,cap,rest,e1,e2,e3.set_other (by simp; omega) _⟩
      have hc'l:=Cr.cells_length c' (by rw [hc']; exact HCK.o);have hc'1:∀u∈c'.cells,u.oneCell'=true:=Cr.one c' (by rw [hc']; rfl)
      have H4:=Ab hb4;have HBS4:=Ab hbs4;have HB4:=Ab hB4;have HR4:=Ab hR4;have HF4:=Ab hf4;have HC':=Ab hc';have HCL':=Ab hc'l;have HC1':=Ab hc'1;have HVB:=Ab hvb3';clear ho3 hk3 hvb3 hvb3' hb3 hb23 hfresh hb4 hbs4 hB4 hR4 hf4 hc' hc'l hc'1 x1;go_wp2_with (first | ((with_reducible refine zw 49 ?_);refine Aj rfl (.tmp 9) Do rfl rfl (cs:=c'.cells) HCL'.o H4.o.cellsAll ?_) | ((with_reducible refine zws 6 49 ?_);refine Ag rfl (.tmp 6) (.tmp 49) Do rfl rfl (vs:=c'.cells) rfl HCL'.o HR4.o (aD _) HC1'.o ?_));intro w5 h5 k5;have h5':Blk w5 w.heap.size c'.cells 116:=by
       have:=h5;simpa [Fb,Cr.cells] using this
      have H5:=Ab h5';have hB5:Below w.heap.size w w5:=HB4.o.trans (k5.below (by omega));have hz5:=k5.size;simp at hz5;have hres:A1f w5 w.heap.size L now s c' 0:=by
       refine ⟨by rw [HC'.o]; exact HCK.o,?_,?_,?_,?_⟩
       . rw [HC'.o];exact Sl.keep HBS4.o k5 (λ b hb e=>by have:=(HVB.o b hb).1; omega)
       . intro b hb;rw [HC'.o] at hb
         have:=HVB.o b hb;omega
       . rw [HC'.o];rcases HF4.o with h | ⟨g,cap,rest,e1,e2,e3⟩
         . exact .inl h
         . exact .inr ⟨g,cap,rest,e1,e3.keep k5 (by omega)⟩
       . rw [HSO.o];simp only;rw [if_neg (by omega),HC'.o];exact ⟨by first | trivial | rfl,by first | trivial | rfl⟩
      have HRES:=Ab hres;have HB5:=Ab hB5;clear h5 h5' k5 hB5 hres;go_wp2_with fail;exact bodyPost_ret (Ap rfl Do rfl (cs:=c'.cells) HCL'.o H5.o.cellsAll) rfl ⟨c',0,rfl,HRES.o,HB5.o⟩
end Go.Proofs.YtcnfaghcjlhoiaaGreat
namespace Go.Proofs.YtcnfaghcjlhoiaaGreat
open Go.RowKit Go.Maps
abbrev CrD:=ByteArray×Aa×Aa×Int×Int×Int
def Aw (p:Nat) (D:List (Option CrD)):Res where
 holds W F:=(∃L:List (Option Cr),L.map (λ c=>c.map Cr.dat)=D/\Be W F p L)/\∀b,F b->b<W.heap.size
 frame:=by
  rintro W W' F S ⟨⟨L,e,h⟩,hl⟩ hk hS;exact ⟨⟨L,e,h.keep hk (λ k hk _=>hS k hk)⟩,λ b hb=>aH (hl b hb) hk.size⟩
 lt h hb:=h.2 _ hb
def Bu:List (Option CrD):=I7.map λ c=>c.map Cr.dat
theorem Wg (l:List Res) (w:aS) (h:Ad w l):aT aA 82 #[] w λ e w'=>∃p,e=.returned (.pointer (some ⟨p,0,none⟩))/\Ad w' (Aw p Bu::l):=by
 refine (Yz w).mono ?_;rintro e w' ⟨rfl,hs,hb⟩;exact ⟨w.heap.size,rfl,h.new hb (F:=λ k=>k=w.heap.size) ⟨⟨I7,rfl,hs⟩,λ b hb=>by subst hb; exact hs.lt⟩ (λ b hb=>by omega)⟩
structure Cli where
 nm:ByteArray
 seq:Nat
 step:Int
 no:Int
 pal:ByteArray
 key:Aa
 fa:Int
 fb:ByteArray
 fc:Bool
 fd:Int
def Cli.cells (c:Cli) (b:Bool) (q st:Nat):List aR:= [pvI b q,.string c.nm,.pointer (some ⟨st,0,none⟩),.int .i64 (c.seq:Int),.int .i64 c.step,.int .i64 c.no,.string c.pal]++(Ae c.key++ [.int .i64 c.fa,.string c.fb,.bool c.fc,.int .i64 c.fd])
def Bd (cp:Nat) (b:Bool) (q st:Nat) (c:Cli):Res:=.blk cp (c.cells b q st) 101
def Cli.new (nm:ByteArray):Cli:=⟨nm,0,0,0,⟨#[]⟩,zk,0,⟨#[]⟩,false,0⟩
theorem Wb (b:Bool) (q st:Nat) (nm:ByteArray):Tryz.prog.built 101 [(0,pvI b q),(1,.string nm),(2,.pointer (some ⟨st,0,none⟩))]=some ((Cli.new nm).cells b q st).toArray:=by
 unfold pvI Cli.cells
 kernel_rfl
theorem Oa (q:Nat) (s:PS) (nm:ByteArray) (l:List Res) (w:aS) (h:Ad w l): aT aA 34 #[pvV s q,.string nm] w λ e w'=>∃cp st,e=.returned (.pointer (some ⟨cp,0,none⟩))/\Ad w' (Bd cp s.knd q st (Cli.new nm)::Aw st Bu::l):=by
 have HC:=Ab h;have HV:Hq (pvV s q=pvI s.knd q):=Ab (Bf rfl q).symm;clear h;rw [HV.o];obtain ⟨PVv,hPV⟩:∃x,x=pvI s.knd q:=⟨_,rfl⟩
 have HB:=Ab (Wb s.knd q);unfold Bd Cli.cells;rw [<-hPV] at HB ⊢;unfold Cli.cells at HB;rw [<-hPV] at HB;clear HV hPV;go_enter Tryz.func34,Tryz.ntmps34;go_wp2_with fail;refine (Wg _ _ HC.o).mono ?_;rintro e w1 ⟨st,rfl,hc⟩;have HC:=Ab hc;clear hc;go_wp2_with ((with_reducible refine zw 8 ?_);refine De rfl rfl (pv:= [(0,PVv),(1,.string nm),(2,.pointer (some ⟨st,0,none⟩))]) (by simp only [aG,aB,aC]; rfl) (HB.o st nm) ?_);go_ret;exact ⟨w1.heap.size,st,rfl,HC.o.addBlkAt _ 101 rfl⟩
theorem W6 (cp:Nat) (b:Bool) (q st:Nat) (c:Cli) (l:List Res) (w:aS) (h:Ad w (Bd cp b q st c::l)): aT aA 99 #[.pointer (some ⟨cp,0,none⟩)] w λ r w'=>r=.returned (.int .i64 (c.seq:Int))/\w=w':=by
 have c0:w.cell? ⟨cp,3,none⟩=some (.int .i64 (c.seq:Int)):=h.blk0.cell 3;clear h;go_enter Tryz.func99,Tryz.ntmps99;go_wp2_with fail;go_ret;exact ⟨rfl,rfl⟩
theorem Cli.cells_length (c:Cli) (b:Bool) (q st:Nat) (h:c.key.length=16):(c.cells b q st).length=27:=by simp [Cli.cells,Ac,h]
def Cli.begun (c:Cli) (step:Int) (pal:ByteArray) (key:Aa) (no:Int):Cli:= { c with step:=step,pal:=pal,key:=key,no:=no }
theorem Lt (cp:Nat) (b:Bool) (q st:Nat) (c:Cli) (step:Int) (pal:ByteArray) (k:Aa) (no:Int) (l:List Res) (w:aS) (h:Ad w (Bd cp b q st c::l)) (hck:c.key.length=16) (hk:k.length=16): aT aA 84 #[.pointer (some ⟨cp,0,none⟩),.int .i64 step,.string pal,A1 k,.int .i64 no] w λ e w'=>e=.returned (.tuple #[])/\Ad w' (Bd cp b q st (c.begun step pal k no)::l):=by
 have HKB:Hq ((Ae k).length=16):=Ab (by rw [Ac,hk]);have HC:=Ab (h.addBlkAt (Ae k) 46 (b:=w.heap.size) rfl).swap;obtain ⟨X1,hX1⟩:∃x,x=((c.cells b q st).set 4 (.int .i64 step)).set 6 (.string pal):=⟨_,rfl⟩
 have HX1:=Ab hX1;have HXL:Hq (X1.length=27):=Ab (by rw [hX1]; simp [Cli.cells_length c b q st hck]);have HF:Hq ((X1.take 7++(Ae k++X1.drop (7+16))).set 5 (.int .i64 no)=(c.begun step pal k no).cells b q st):=Ab (by
  obtain ⟨c0,c1,c2,c3,c4,c5,c6,c7,c8,c9,c10,c11,c12,c13,c14,c15,rfl⟩:=By k hk;obtain ⟨nm,seq,step0,no0,pal0,key0,fa,fb,fc,fd⟩:=c;obtain ⟨d0,d1,d2,d3,d4,d5,d6,d7,d8,d9,d10,d11,d12,d13,d14,d15,rfl⟩:=By key0 hck;rw [hX1];simp [Cli.cells,Cli.begun,Ae])
 have H4:Hq ((c.cells b q st)[4]?=some (.int .i64 c.step)):=Ab rfl;have H6:Hq (((c.cells b q st).set 4 (.int .i64 step))[6]?=some (.string c.pal)):=Ab rfl;have H5:Hq ((X1.take 7++(Ae k++X1.drop (7+16)))[5]?=some (.int .i64 c.no)):=Ab (by rw [hX1]; rfl);clear h hck hk hX1;unfold A1 Bd at*;obtain ⟨CC,hCC⟩:∃x,x=c.cells b q st:=⟨_,rfl⟩
 rw [<-hCC] at HC H4 H6 HX1;clear hCC;go_enter Tryz.func84,Tryz.ntmps84;go_upto_region 1 with fail;refine zG (λ b W=>Ao W w.heap.size 0 (Ae k)) HC.o λ W hc=>?_
 have HC:=Ab hc;clear hc;refine zT 0 ?_ (hS:=HC.o.tail.blk0.cellsAll);refine zT 1 ?_ (hS:=HC.o.tail.blk0.cellsAll);refine zT 2 ?_ (hS:=HC.o.tail.blk0.cellsAll);refine zT 3 ?_ (hS:=HC.o.tail.blk0.cellsAll);refine zT 4 ?_ (hS:=HC.o.tail.blk0.cellsAll);refine zT 5 ?_ (hS:=HC.o.tail.blk0.cellsAll);refine zT 6 ?_ (hr:=λ _ _ _ hW=>ldJ Aq rfl HKB.o hW) (hS:=HC.o.tail.blk0.cellsAll);refine zT 7 ?_ (hS:=HC.o.tail.blk0.cellsAll);refine zT 8 ?_ (hS:=HC.o.tail.blk0.cellsAll);refine zT 9 ?_ (hS:=HC.o.tail.blk0.cellsAll);refine zJ 10 λ K hK=>?_
 have hb:=HC.o.blk0;have c4:=(hb.cell 4).trans H4.o;have f4:=hb.frozen 4;have l4:=hb.lt;go_simp;have HC:=Ab (HC.o.set 4 (.int .i64 step));clear hb c4 f4 l4;refine hK _ _ HC.o.tail.blk0.cellsAll ?_;clear hK K;try go_frame
 refine zT 11 ?_ (hS:=HC.o.tail.blk0.cellsAll);refine zT 12 ?_ (hS:=HC.o.tail.blk0.cellsAll);refine zJ 13 λ K hK=>?_
 have hb:=HC.o.blk0;have c4:=(hb.cell 6).trans H6.o;have f4:=hb.frozen 6;have l4:=hb.lt;go_simp;have HC:=Ab (HC.o.set 6 (.string pal));clear hb c4 f4 l4;rw [<-HX1.o] at HC;refine hK _ _ HC.o.tail.blk0.cellsAll ?_;clear hK K;try go_frame
 refine zT 14 ?_ (hS:=HC.o.tail.blk0.cellsAll);refine zT 15 ?_ (hS:=HC.o.tail.blk0.cellsAll);refine zJ 16 λ K hK=>?_
 refine Ea rfl (.tmp 23) (.tmp 16) Aq rfl rfl (vs:=Ae k) rfl HKB.o HC.o.blk0 (by rw [HXL.o]; decide) (Al _) ?_;intro w3 h3 k3;rw [aO] at h3;have HC:=Ab (HC.o.reblk h3 k3);clear h3 k3;refine hK _ _ HC.o.tail.blk0.cellsAll ?_;clear hK K;try go_frame
 refine zT 17 ?_ (hS:=HC.o.tail.blk0.cellsAll);refine zT 18 ?_ (hS:=HC.o.tail.blk0.cellsAll);refine zJ 19 λ K hK=>?_
 have hb:=HC.o.blk0;have c4:=(hb.cell 5).trans H5.o;have f4:=hb.frozen 5;have l4:=hb.lt;go_simp;have HC:=Ab (HC.o.set 5 (.int .i64 no));clear hb c4 f4 l4;rw [HF.o] at HC;refine hK _ _ HC.o.tail.blk0.cellsAll ?_;clear hK K;try go_frame
 refine zD ?_;go_wp2_with fail;go_end0;exact ⟨rfl,HC.o.drop2⟩
def Cli.ended (c:Cli):Cli:= { c with step:=0,pal:=⟨#[]⟩,key:=zk }
theorem N9 (cp:Nat) (b:Bool) (q st:Nat) (c:Cli) (l:List Res) (w:aS) (h:Ad w (Bd cp b q st c::l)) (hck:c.key.length=16): aT aA 91 #[.pointer (some ⟨cp,0,none⟩)] w λ e w'=>e=.returned (.tuple #[])/\Ad w' (Bd cp b q st c.ended::l):=by
 have HC:=Ab h;obtain ⟨X,hX⟩:∃X,X=(c.cells b q st).take 7++List.replicate 16 (aR.int .u8 0)++(c.cells b q st).drop (7+16):=⟨_,rfl⟩
 have HXE:=Ab hX;have HF:Hq ((X.set 4 (.int .i64 0)).set 6 (.string ⟨#[]⟩)=c.ended.cells b q st):=Ab (by
  obtain ⟨nm,seq,step0,no0,pal0,key0,fa,fb,fc,fd⟩:=c;obtain ⟨d0,d1,d2,d3,d4,d5,d6,d7,d8,d9,d10,d11,d12,d13,d14,d15,rfl⟩:=By key0 hck;rw [hX];simp [Cli.cells,Cli.ended,Ae,zk]
  rfl)
 have H4:Hq (X[4]?=some (.int .i64 c.step)):=Ab (by rw [hX]; rfl);have H6:Hq (X[6]?=some (.string c.pal)):=Ab (by rw [hX]; rfl);have HL:Hq ((c.cells b q st).length=27):=Ab (Cli.cells_length c b q st hck);clear h hck hX;unfold Bd at*;obtain ⟨CC,hCC⟩:∃x,x=c.cells b q st:=⟨_,rfl⟩
 rw [<-hCC] at HC HL HXE;clear hCC;go_enter Tryz.func91,Tryz.ntmps91;go_wp2_with ((with_reducible show wpList _ _ _ (⟨none,.call _,_,_,_,_⟩::_) _ _); refine Tx rfl (.tmp 5) D8 rfl rfl rfl HC.o.blk0 (by rw [HL.o]; decide) ?_);intro w2 h2 k2;have h2':Blk w2 cp X 101:=by rw [HXE.o,aO]; exact h2
 have HC:=Ab (HC.o.reblk h2' k2);have c4:=(h2'.cell 4).trans H4.o;have c6:=(h2'.cell 6).trans H6.o;have f4:=h2'.frozen 4;have f6:=h2'.frozen 6;have l4:=h2'.lt;clear h2 k2 h2';go_wp2_with fail;go_end0;have h5:=(HC.o.set 4 (.int .i64 0)).set 6 (.string ⟨#[]⟩);rw [HF.o] at h5;exact ⟨rfl,h5⟩
def Bk (p:Nat) (L:List Sh) (m:Int):Res where
 holds W F:=∃va:aR,(L= []->va=.slice none 0 0)/\Blk W p [va,.int .i64 m] 232/\Sl W 3 va L.length (Ct L)/\va.ownBlock≠some p/\∀b,F b↔(b=p\/va.ownBlock=some b)
 frame:=by
  rintro W W' F S ⟨va,h0,hb,hs,hne,hf⟩ hk hS;exact ⟨va,h0,hb.keep hk (hS p ((hf p).2 (.inl rfl))),Sl.keepF (F:=F) hs hk (λ hn x hx=>(hf x).2 (.inr hx)) (λ b hb _=>hS b hb),hne,hf⟩
 lt:=by
  rintro W F b ⟨va,h0,hb,hs,hne,hf⟩ hF;rcases (hf b).1 hF with rfl | h
  . exact hb.lt
  . cases L with
    | nil=>rw [h0 rfl] at h; simp [aR.ownBlock] at h
    | cons x L=>exact hs.own_lt (by decide) (by simp) b h
theorem Ji (l:List Res) (w:aS) (h:Ad w l):aT aA 44 #[.int .i64 64] w λ e w'=>∃p,e=.returned (.pointer (some ⟨p,0,none⟩))/\Ad w' (Bk p [] 64::l):=by
 have HC:=Ab h;clear h;go_enter Tryz.func44,Tryz.ntmps44;go_wp2_with fail;go_ret;exact ⟨w.heap.size,rfl,HC.o.new ((Below.refl _ _).alloc (aD _) _) (F:=λ b=>b=w.heap.size) ⟨.slice none 0 0,λ _=>rfl,Blk.new w [.slice none 0 0,.int .i64 64] _,Sl.nil _ _ _,by simp [aR.ownBlock],λ b=>by simp [aR.ownBlock]⟩ (λ b hb=>by omega)⟩
theorem Ld (p:Nat) (L:List Sh) (m now:Int) (x:Sh) (l:List Res) (w:aS) (h:Ad w (Bk p L m::l)) (hl:L.length<=64) (hne:(Ch L m now x).1≠ []): aT aA 104 #[.pointer (some ⟨p,0,none⟩),.int .i64 now,.string x.1,.int .i64 x.2.1,.int .i64 x.2.2] w λ e w'=>e=.returned (.int .i64 (Ch L m now x).2)/\Ad w' (Bk p (Ch L m now x).1 m::l):=by
 obtain ⟨F,va,h0,hb,hs,hn,hf⟩:=h.head;refine (T8 (λ k=>k=p\/va.ownBlock=some k) p L m now x w ⟨.inl rfl,va,hb,hs,hn,λ b hb=>.inr hb⟩ hl).mono ?_;rintro e w' ⟨rfl,⟨_,va',hb',hs',hn',hf'⟩,hk⟩;refine ⟨rfl,h.turn λ F2 hF2=>?_⟩;obtain ⟨va2,_,hb2,_,_,hf2⟩:=hF2;obtain rfl:va=va2:=by
  have h1:=hb2.cell 0;have h2:=hb.cell 0;rw [h1] at h2;simpa using h2.symm
 refine ⟨λ b=>b=p\/va'.ownBlock=some b,⟨va',λ e=>absurd e hne,hb',hs',hn',λ b=>Iff.rfl⟩,?_,hk.mono λ k hk=>?_⟩
 . rintro b (rfl | hb)
   . exact .inl ((hf2 b).2 (.inl rfl))
   . exact (hf' b hb).imp (hf2 b).2 id
 . exact hk.imp (λ e=>(hf2 k).2 (.inl e)) id
theorem Wc (kp cp bp:Nat):Tryz.prog.built 86 [(0,.pointer (some ⟨kp,0,none⟩)),(1,.pointer (some ⟨cp,0,none⟩)),(2,.pointer (some ⟨bp,0,none⟩))]=some #[.pointer (some ⟨kp,0,none⟩),.pointer (some ⟨cp,0,none⟩),.pointer (some ⟨bp,0,none⟩)]:=by kernel_rfl
theorem V9 (l:List Res) (w:aS) (h:Ad w l):aT aA 49 #[] w λ e w'=>∃p,e=.returned (.pointer (some ⟨p,0,none⟩))/\Ad w' l:=by
 have HC:=Ab h;clear h;have hmm:= @run_makeMap aA;go_enter Tryz.func49,Tryz.ntmps49;go_wp2_with fail;go_ret;exact ⟨_,rfl,(HC.o.alloc _).alloc _⟩
def D0 (sp kp cp ob:Nat):Res:=.blk sp [.pointer (some ⟨kp,0,none⟩),.pointer (some ⟨cp,0,none⟩),.pointer (some ⟨ob,0,none⟩)] 86
def A1i (q:Nat) (s:PS) (l:List Res) (e:Ending) (w':aS):Prop:=
 ∃sp kp cp ob bp,e=.returned (.pointer (some ⟨sp,0,none⟩))/\Ad w' (D0 sp kp cp ob::Bk cp [] 64::Ck kp s.knd q bp s.fresh.1::Bg bp []::pvR q s.fresh.2::l)
theorem Ps (q:Nat) (s:PS) (l:List Res) (w:aS) (h:Ad w (pvR q s::l)) (hs:s.sz<1099511627776): aT aA 20 #[pvV s q] w (A1i q s l):=by
 have HK:=Ab (A1P q s l w h hs);clear h hs;unfold pvV at*;go_enter Tryz.func20,Tryz.ntmps20;go_wp2_with fail;refine HK.o.mono ?_;rintro e w1 ⟨kp,bp,rfl,hc⟩;have HC:=Ab hc;clear hc HK;go_wp2_with fail;refine (Ji _ _ HC.o).mono ?_;rintro e w2 ⟨cp,rfl,hc⟩;have HC:=Ab hc;clear hc;go_wp2_with fail;refine (V9 _ _ HC.o).mono ?_;rintro e w3 ⟨ob,rfl,hc⟩;have HC:=Ab hc;clear hc;go_wp2_with ((with_reducible refine zw 7 ?_);refine De rfl rfl (pv:= [(0,.pointer (some ⟨kp,0,none⟩)),(1,.pointer (some ⟨cp,0,none⟩)),(2,.pointer (some ⟨ob,0,none⟩))]) (by simp only [aG,aB,aC]; rfl) (Wc _ _ _) ?_);go_ret;exact ⟨w3.heap.size,kp,cp,ob,bp,rfl,HC.o.addBlkAt [.pointer (some ⟨kp,0,none⟩),.pointer (some ⟨cp,0,none⟩),.pointer (some ⟨ob,0,none⟩)] 86 rfl⟩
end Go.Proofs.YtcnfaghcjlhoiaaGreat
namespace Go.Proofs.YtcnfaghcjlhoiaaGreat
open Go.RowKit
theorem Oe (F0:Nat->Prop) (l1:Aa) (l2:Aa) (x3:Int) (l4 m4:Aa) (v4:aR) (l5:Aa) (v5:aR) (w:aS) (hz1:l1.length<=1099511627776) (hz2:l2.length<=1099511627776) (hz3: -9223372036854775808<=x3/\x3<=9223372036854775807) (hb4:Bs w v4 m4) (hz4:l4.length<=1099511627776/\m4.length<=1099511627776) (hb5:Bs w v5 l5) (hz5:l5.length<=1099511627776) (hT22:rT (l4,m4)=true): aT aA 153 #[.iface 128 (.agg #[.string (tx l1),.string (tx l2),.int .i64 x3,.string (tx l4),v4,v5])] w (Gu w (.mk 2 17 0 [] ([.s l1,.s l2,.n x3,.i (l4,m4),.b l5].map Ho)) ([.s l1,.s l2,.n x3,.i (l4,m4),.b l5].all ptB)):=by
 obtain ⟨a4,c4,rfl,hc4,hm4⟩:=hb4.form;obtain ⟨a5,c5,rfl,hc5,hm5⟩:=hb5.form;have HC:Hq (VC w w.heap.size [(w.heap.size+1, [.string (tx l1),.string (tx l2),.int .i64 x3,.string (tx l4),.slice a4 m4.length c4,.slice a5 l5.length c5],128)] [] [(.slice a4 m4.length c4,m4),(.slice a5 l5.length c5,l5)] ((w.alloc (.cells zs5.toArray 314)).alloc (.cells [.string (tx l1),.string (tx l2),.int .i64 x3,.string (tx l4),.slice a4 m4.length c4,.slice a5 l5.length c5].toArray 128))):=Ab (VC.start (by intro r hr; simp only [aE,aF,or_false] at hr; rcases hr with rfl | rfl; exact hb4; exact hb5) _ _);have HSZ:Hq (∀u∈ [tx l1,tx l2],u.size<=maxLen):=Ab (by intro u hu; simp only [aE,aF,or_false] at hu; rcases hu with rfl | rfl; exact Tj hz1; exact Tj hz2);have HZ1:=Ab hz1;clear hz1;have HZ2:=Ab hz2;clear hz2;have HZ3:=Ab hz3;clear hz3;have HZ4:=Ab hz4;clear hz4;have HZ5:=Ab hz5;clear hz5;clear hb4;clear hb5;obtain ⟨z11,hta11⟩:∃z,∀W,(Instr.typeAssert (.iface 128 (.agg #[.string (tx l1),.string (tx l2),.int .i64 x3,.string (tx l4),.slice a4 m4.length c4,.slice a5 l5.length c5])) 20 104 true).run aA W=.ok (.tuple #[z,.bool false]) W:=⟨_,λ W=>A9 _ _ _ _ (by kernel_rfl) Mr (.inr ⟨_,_,rfl,by decide⟩) W⟩
 obtain ⟨z12,hta12⟩:∃z,∀W,(Instr.typeAssert (.iface 128 (.agg #[.string (tx l1),.string (tx l2),.int .i64 x3,.string (tx l4),.slice a4 m4.length c4,.slice a5 l5.length c5])) 20 110 true).run aA W=.ok (.tuple #[z,.bool false]) W:=⟨_,λ W=>A9 _ _ _ _ (by kernel_rfl) Ms (.inr ⟨_,_,rfl,by decide⟩) W⟩
 obtain ⟨z13,hta13⟩:∃z,∀W,(Instr.typeAssert (.iface 128 (.agg #[.string (tx l1),.string (tx l2),.int .i64 x3,.string (tx l4),.slice a4 m4.length c4,.slice a5 l5.length c5])) 20 121 true).run aA W=.ok (.tuple #[z,.bool false]) W:=⟨_,λ W=>A9 _ _ _ _ (by kernel_rfl) Mu (.inr ⟨_,_,rfl,by decide⟩) W⟩
 obtain ⟨z14,hta14⟩:∃z,∀W,(Instr.typeAssert (.iface 128 (.agg #[.string (tx l1),.string (tx l2),.int .i64 x3,.string (tx l4),.slice a4 m4.length c4,.slice a5 l5.length c5])) 20 124 true).run aA W=.ok (.tuple #[z,.bool false]) W:=⟨_,λ W=>A9 _ _ _ _ (by kernel_rfl) Ox (.inr ⟨_,_,rfl,by decide⟩) W⟩
 obtain ⟨z15,hta15⟩:∃z,∀W,(Instr.typeAssert (.iface 128 (.agg #[.string (tx l1),.string (tx l2),.int .i64 x3,.string (tx l4),.slice a4 m4.length c4,.slice a5 l5.length c5])) 20 278 true).run aA W=.ok (.tuple #[z,.bool false]) W:=⟨_,λ W=>A9 _ _ _ _ (by kernel_rfl) Rd (.inr ⟨_,_,rfl,by decide⟩) W⟩
 obtain ⟨z16,hta16⟩:∃z,∀W,(Instr.typeAssert (.iface 128 (.agg #[.string (tx l1),.string (tx l2),.int .i64 x3,.string (tx l4),.slice a4 m4.length c4,.slice a5 l5.length c5])) 20 343 true).run aA W=.ok (.tuple #[z,.bool false]) W:=⟨_,λ W=>A9 _ _ _ _ (by kernel_rfl) Re (.inr ⟨_,_,rfl,by decide⟩) W⟩
 have hta:∀W,(Instr.typeAssert (.iface 128 (.agg #[.string (tx l1),.string (tx l2),.int .i64 x3,.string (tx l4),.slice a4 m4.length c4,.slice a5 l5.length c5])) 20 128 true).run aA W=.ok (.tuple #[.agg #[.string (tx l1),.string (tx l2),.int .i64 x3,.string (tx l4),.slice a4 m4.length c4,.slice a5 l5.length c5],.bool true]) W:=λ W=>Et _ _ _ (by kernel_rfl) W
 obtain ⟨B,hB⟩:∃B,B= [.s l1,.s l2,.n x3,.i (l4,m4),.b l5].all ptB:=⟨_,rfl⟩
 obtain ⟨X,hX⟩:∃X:Tv,X=.mk 2 17 0 [] ([.s l1,.s l2,.n x3,.i (l4,m4),.b l5].map Ho):=⟨_,rfl⟩
 rw [<-hB,<-hX];have HB:=Ab hB;have HX2:=Ab hX;clear hB hX;go_enter aI,aJ;go_upto_region 27 with fail;clear hta hta11 hta12 hta13 hta14 hta15 hta16;show Code.wp _ _ _ _ ((w.alloc (.cells zs5.toArray 314)).alloc (.cells [.string (tx l1),.string (tx l2),.int .i64 x3,.string (tx l4),.slice a4 m4.length c4,.slice a5 l5.length c5].toArray 128))
 obtain ⟨W0,hW0⟩:∃W0,W0=(w.alloc (.cells zs5.toArray 314)).alloc (.cells [.string (tx l1),.string (tx l2),.int .i64 x3,.string (tx l4),.slice a4 m4.length c4,.slice a5 l5.length c5].toArray 128):=⟨_,rfl⟩
 rw [<-hW0] at HC ⊢;clear hW0;obtain ⟨p,hp⟩:∃p,p=w.heap.size+1:=⟨_,rfl⟩
 obtain ⟨q,hq⟩:∃q,q=w.heap.size:=⟨_,rfl⟩
 rw [<-hp,<-hq] at HC ⊢;clear hp hq;have HTV1:=Ab (Fs (l4,m4) (.slice a4 m4.length c4) W0 (HC.o.rowAt 0 rfl) HZ4.o.1 HZ4.o.2);have HM1:=Ab (HC.o.blkAt 0 rfl);rw [show Au (tx (l4,m4).1)=rT (l4,m4) from rfl] at HTV1;go_wp2_with ((with_reducible refine zw 224 ?_);refine Aj rfl (.tmp 223) Bc rfl rfl (cs:= [.string (tx l4),.slice a4 m4.length c4]) rfl (HM1.o.cellsAt 3 2) ?_);refine HTV1.o.mono ?_;rintro e wa1 ⟨cs1,rfl,htv,hb⟩;have HCa1:=Ab (HC.o.step hb);have HTT1:Hq (TvF wa1 (λ b=>q<b) (C6 (l4,m4)) cs1):=Ab (htv.mono (λ b hb=>by have:=HC.o.lt; omega));have HCL1:=Ab htv.length;have HCO1:=Ab htv.one;have HN1:=Ab (Blk.new wa1 zs5 314);clear htv hb HTV1;go_upto_region 28 with ((with_reducible refine zws 21 227 ?_);refine Ag rfl (.tmp 21) (.tmp 227) Ak rfl rfl (vs:=cs1) rfl HCL1.o HN1.o (aD _) HCO1.o ?_);intro wb1 h2 k2;have h2':Blk wb1 wa1.heap.size cs1 314:=by
  rw [aP (by decide),aQ] at h2;exact h2
 have hb2:Below wa1.heap.size wa1 wb1:=((Below.refl _ _).alloc (aD _) _).trans (k2.below (by omega));have HCb1:=Ab (((HCa1.o.addTree HTT1.o).step hb2).addBlk h2' HCa1.o.lt);obtain ⟨p1,hp1⟩:∃p1,p1=wa1.heap.size:=⟨_,rfl⟩
 rw [<-hp1] at HCb1 ⊢;clear h2 k2 h2' hb2 hp1 HCa1 HTT1 HN1 HCO1;go_upto_region 28 with fail
 cases hok22:rT (l4,m4) with
 | false=>exact absurd hok22 (by rw [hT22]; decide)
 | true=>
  have HOK22:=Ab hok22;clear hok22;have HBE:Hq (B=([tx l1,tx l2].all Au&& [x3].all Bp)):=Ab (by rw [HB.o]; simp only [aK,aL,ptB,HOK22.o,Bool.and_true,Bool.true_and,Bool.and_false,Bool.false_and,Bool.and_assoc]; first | done | ac_rfl);obtain ⟨wd,hwd⟩:∃wd,wd=aS.drew wb1:=⟨_,rfl⟩
  have hvd:VC w q [(p, [.string (tx l1),.string (tx l2),.int .i64 x3,.string (tx l4),.slice a4 m4.length c4,.slice a5 l5.length c5],128),(p1,cs1,314)] [(C6 (l4,m4),cs1)] [(.slice a4 m4.length c4,m4),(.slice a5 l5.length c5,l5)] wd:=by rw [hwd]; exact HCb1.o.drew
  have HXE:Hq (X=.mk 2 17 0 [] [.mk 1 0 0 l1 [],.mk 1 0 0 l2 [],.mk 0 0 (E4 x3) [] [],C6 (l4,m4),.mk 1 0 0 l5 []]):=Ab HX2.o;have HR:Hq (∀W,GV (λ b=>q<b) q X wd W->VR w q [(p, [.string (tx l1),.string (tx l2),.int .i64 x3,.string (tx l4),.slice a4 m4.length c4,.slice a5 l5.length c5],128),(p1,cs1,314)] [(C6 (l4,m4),cs1)] [(.slice a4 m4.length c4,m4),(.slice a5 l5.length c5,l5)] W):=Ab (λ W h=>hvd.gv h);have HZD:Hq (∀W,GV (λ b=>q<b) q X wd W->q<W.heap.size/\∀b,W.heap.size<=b->q<b):=Ab (λ W h=>⟨(HR.o W h).lt,λ b hb=>aH (HR.o W h).lt hb⟩);have HFq:Hq (¬(λ b=>q<b) q):=Ab (aM q);have HQW:Hq (w.heap.size=q):=Ab hvd.hq.symm;clear hvd HCb1;refine wp_region_held (S:=λ W=>GV (λ b=>q<b) q X wd W) (by kernel_rfl) ?_;change wpAnyH _ _ _ _ _ _ _ _ (aS.drew _);rw [<-hwd];clear hwd;refine zH 0 ?_;refine zH 1 ?_ (hr:=λ W hW=>by have hc:=((HR.o W hW).blkAt 0 rfl).cell 0; go_simp; try rfl);refine zH 3 ?_;refine zH 4 ?_ (hr:=λ W hW=>by have hc:=((HR.o W hW).blkAt 0 rfl).cell 1; go_simp; try rfl);refine zH 6 ?_;refine zH 7 ?_ (hr:=λ W hW=>by have hc:=((HR.o W hW).blkAt 0 rfl).cell 2; go_simp; try rfl);refine zH 9 ?_ (v:=.agg cs1.toArray) (hr:=λ W hW=>by exact E2 rfl Ak rfl HCL1.o ((HR.o W hW).blkAt 1 rfl).cellsAll);refine zH 10 ?_;refine zH 11 ?_ (hr:=λ W hW=>by have hc:=((HR.o W hW).blkAt 0 rfl).cell 5; go_simp; try rfl);refine zH 15 ?_;refine Df (G:=GV (λ b=>q<b) q X) (Post:=L5 (λ b=>q<b) q X [.any,.any,.val (.mk 1 0 0 l1 []),.any,.any,.val (.mk 1 0 0 l2 []),.any,.any,.val (.mk 0 0 (E4 x3) [] []),.any,.any,.any,.val (.mk 1 0 0 l5 []),.vals [.mk 1 0 0 l1 [],.mk 1 0 0 l2 [],.mk 0 0 (E4 x3) [] [],C6 (l4,m4),.mk 1 0 0 l5 []],.val (.mk 2 17 0 [] [.mk 1 0 0 l1 [],.mk 1 0 0 l2 [],.mk 0 0 (E4 x3) [] [],C6 (l4,m4),.mk 1 0 0 l5 []]),.any,.is (.bool true),.is (.pointer (some ⟨p,0,none⟩)),.is (.string (tx l1)),.is (.pointer (some ⟨p,1,none⟩)),.is (.string (tx l2)),.row [.string (tx l1),.string (tx l2)],.is (.pointer (some ⟨p,2,none⟩)),.is (.int .i64 x3),.row [.int .i64 x3],.is (.bool ([tx l1,tx l2].all Au&& [x3].all Bp)),.is (.bool ([tx l1,tx l2].all Au&& [x3].all Bp)),.fin,.is (.bool ([tx l1,tx l2].all Au&& [x3].all Bp))]) (ds:= [231,234,237,241,242,243,245,246,247,248,249,250,251,252,253,254,255,3]) (GV.refl _ _ _) GV.trans (λ W W' h g=>GV.trans _ _ _ h g) (λ i v W W' h g=>PK.stable HFq.o h g) [2,5,8,12,13,14,16,17,18,19,20,21,22,23,24,25,26,27,28] 397 rfl (by decide+kernel) (by decide+kernel) ?_ ?_ (GV.refl _ _ _ _) (by decide+kernel)
  . refine zA (λ a W hf hS hd K hK=>?_) ?_
    . have e230:a.eval (.tmp 230)=.string (tx l1):=hf.lit 230 (by decide) rfl;exact A2 (Ah rfl) rfl Dp (vs:=#[.string (tx l1)]) (by simp [e230]) (Gc l1 W HZ1.o) (HZD.o W hS).1 (HZD.o W hS).2 hK
    refine zA (λ a W hf hS hd K hK=>?_) ?_
    . have e233:a.eval (.tmp 233)=.string (tx l2):=hf.lit 233 (by decide) rfl;exact A2 (Ah rfl) rfl Dp (vs:=#[.string (tx l2)]) (by simp [e233]) (Gc l2 W HZ2.o) (HZD.o W hS).1 (HZD.o W hS).2 hK
    refine zA (λ a W hf hS hd K hK=>?_) ?_
    . have e236:a.eval (.tmp 236)=.int .i64 x3:=hf.lit 236 (by decide) rfl;exact A2 (Ah rfl) rfl F7 (vs:=#[.int .i64 x3]) (by simp [e236]) (Ie x3 W HZ3.o.1 HZ3.o.2) (HZD.o W hS).1 (HZD.o W hS).2 hK
    refine zA (λ a W hf hS hd K hK=>?_) ?_
    . have e240:a.eval (.tmp 240)=.slice a5 l5.length c5:=hf.lit 240 (by decide) rfl;exact A2 (Ah rfl) rfl Ez (vs:=#[.slice a5 l5.length c5]) (by simp [e240]) (Di _ l5 W ((HR.o W hS).rowAt 1 rfl) HZ5.o) (HZD.o W hS).1 (HZD.o W hS).2 hK
    refine zA (λ a W hf hS hd K hK=>?_) ?_
    . have d231:=(hd 2 (by decide+kernel)).get (s:=231) rfl;have d234:=(hd 5 (by decide+kernel)).get (s:=234) rfl;have d237:=(hd 8 (by decide+kernel)).get (s:=237) rfl;have e238:a.eval (.tmp 238)=.agg cs1.toArray:=hf.lit 238 (by decide) rfl;have d241:=(hd 12 (by decide+kernel)).get (s:=241) rfl;exact Dk (Ah rfl) rfl Hs (ps:= [.tmp 231,.tmp 234,.tmp 237,.tmp 238,.tmp 241]) rfl (l:= [.mk 1 0 0 l1 [],.mk 1 0 0 l2 [],.mk 0 0 (E4 x3) [] [],C6 (l4,m4),.mk 1 0 0 l5 []]) ⟨d231,d234,d237,⟨_,e238,(HR.o W hS).treeAt 0 rfl⟩,d241,trivial⟩ rfl (by decide) (by decide) (HZD.o W hS).1 (HZD.o W hS).2 hK
    refine zA (λ a W hf hS hd K hK=>?_) ?_
    . have d242:=(hd 13 (by decide+kernel)).get (s:=242) rfl;exact D2 (Ah rfl) rfl Dg d242 (HZD.o W hS).1 (λ v w1 h1 h2=>hK v w1 h1 h2) HFq.o
    refine zA (λ a W hf hS hd K hK=>A6 (v:=.bool true) (Ah rfl) (Ib rfl (show a.eval (.tmp 244)=.bool true from hf.lit 244 (by decide) rfl)) (hK _ _ (GV.refl _ _ _ _) rfl)) ?_;refine zA (λ a W hf hS hd K hK=>?_) ?_
    . have e245:a.eval (.tmp 245)=.bool true:=(hd 16 (by decide+kernel)).get (s:=245) rfl;have e20:a.eval (.tmp 20)=.pointer (some ⟨p,0,none⟩):=hf.lit 20 (by decide) rfl;exact A6 (v:=.pointer (some ⟨p,0,none⟩)) (A5 rfl rfl e245) (E0 rfl e20 (by go_simp)) (hK _ _ (GV.refl _ _ _ _) rfl)
    refine zA (λ a W hf hS hd K hK=>?_) ?_
    . have e245:a.eval (.tmp 245)=.bool true:=(hd 16 (by decide+kernel)).get (s:=245) rfl;have e246:a.eval (.tmp 246)=.pointer (some ⟨p,0,none⟩):=(hd 17 (by decide+kernel)).get (s:=246) rfl;have hc:W.cell? ⟨p,0,none⟩=some (.string (tx l1)):=((HR.o W hS).blkAt 0 rfl).cell 0;exact A6 (v:=.string (tx l1)) (A5 rfl rfl e245) (F8 rfl e246 (by go_simp)) (hK _ _ (GV.refl _ _ _ _) rfl)
    refine zA (λ a W hf hS hd K hK=>?_) ?_
    . have e245:a.eval (.tmp 245)=.bool true:=(hd 16 (by decide+kernel)).get (s:=245) rfl;have e20:a.eval (.tmp 20)=.pointer (some ⟨p,0,none⟩):=hf.lit 20 (by decide) rfl;exact A6 (v:=.pointer (some ⟨p,1,none⟩)) (A5 rfl rfl e245) (E0 rfl e20 (by go_simp)) (hK _ _ (GV.refl _ _ _ _) rfl)
    refine zA (λ a W hf hS hd K hK=>?_) ?_
    . have e245:a.eval (.tmp 245)=.bool true:=(hd 16 (by decide+kernel)).get (s:=245) rfl;have e248:a.eval (.tmp 248)=.pointer (some ⟨p,1,none⟩):=(hd 19 (by decide+kernel)).get (s:=248) rfl;have hc:W.cell? ⟨p,1,none⟩=some (.string (tx l2)):=((HR.o W hS).blkAt 0 rfl).cell 1;exact A6 (v:=.string (tx l2)) (A5 rfl rfl e245) (F8 rfl e248 (by go_simp)) (hK _ _ (GV.refl _ _ _ _) rfl)
    refine zA (λ a W hf hS hd K hK=>?_) ?_
    . have e245:a.eval (.tmp 245)=.bool true:=(hd 16 (by decide+kernel)).get (s:=245) rfl;have e247:a.eval (.tmp 247)=.string (tx l1):=(hd 18 (by decide+kernel)).get (s:=247) rfl;have e249:a.eval (.tmp 249)=.string (tx l2):=(hd 20 (by decide+kernel)).get (s:=249) rfl;exact C8 (A5 rfl rfl e245) rfl Uw (ps:= [.tmp 247,.tmp 249]) rfl (cs:= [.string (tx l1),.string (tx l2)]) (by simp only [aB,aC,e247,e249]) (by intro u hu; simp only [aE,aF,or_false] at hu; rcases hu with rfl | rfl <;> exact ⟨rfl,rfl⟩) rfl (by decide) (by decide) (HZD.o W hS).1 (HZD.o W hS).2 hK
    refine zA (λ a W hf hS hd K hK=>?_) ?_
    . have e245:a.eval (.tmp 245)=.bool true:=(hd 16 (by decide+kernel)).get (s:=245) rfl;have e20:a.eval (.tmp 20)=.pointer (some ⟨p,0,none⟩):=hf.lit 20 (by decide) rfl;exact A6 (v:=.pointer (some ⟨p,2,none⟩)) (A5 rfl rfl e245) (E0 rfl e20 (by go_simp)) (hK _ _ (GV.refl _ _ _ _) rfl)
    refine zA (λ a W hf hS hd K hK=>?_) ?_
    . have e245:a.eval (.tmp 245)=.bool true:=(hd 16 (by decide+kernel)).get (s:=245) rfl;have e251:a.eval (.tmp 251)=.pointer (some ⟨p,2,none⟩):=(hd 22 (by decide+kernel)).get (s:=251) rfl;have hc:W.cell? ⟨p,2,none⟩=some (.int .i64 x3):=((HR.o W hS).blkAt 0 rfl).cell 2;exact A6 (v:=.int .i64 x3) (A5 rfl rfl e245) (F8 rfl e251 (by go_simp)) (hK _ _ (GV.refl _ _ _ _) rfl)
    refine zA (λ a W hf hS hd K hK=>?_) ?_
    . have e245:a.eval (.tmp 245)=.bool true:=(hd 16 (by decide+kernel)).get (s:=245) rfl;have e252:a.eval (.tmp 252)=.int .i64 x3:=(hd 23 (by decide+kernel)).get (s:=252) rfl;exact C8 (A5 rfl rfl e245) rfl N5 (ps:= [.tmp 252]) rfl (cs:= [.int .i64 x3]) (by simp only [aB,aC,e252]) (by intro u hu; simp only [aE,aF,or_false] at hu; rcases hu with rfl <;> exact ⟨rfl,rfl⟩) rfl (by decide) (by decide) (HZD.o W hS).1 (HZD.o W hS).2 hK
    refine zA (λ a W hf hS hd K hK=>?_) ?_
    . have e245:a.eval (.tmp 245)=.bool true:=(hd 16 (by decide+kernel)).get (s:=245) rfl;have d250:=(hd 21 (by decide+kernel)).get (s:=250) rfl;have d253:=(hd 24 (by decide+kernel)).get (s:=253) rfl;exact E5 (A5 rfl rfl e245) rfl Ei (vs:=#[a.eval (.tmp 250),a.eval (.tmp 253)]) (by first | (simp only [aG,aB,aC]; done) | (simp only [aG,aB,aC]; rfl)) (u:=(.bool ([tx l1,tx l2].all Au&& [x3].all Bp))) (Ha [tx l1,tx l2] [x3] _ _ W d250.1 d253.1 HSZ.o) (HZD.o W hS).1 hK
    refine zA (λ a W hf hS hd K hK=>?_) ?_
    . have e245:a.eval (.tmp 245)=.bool true:=(hd 16 (by decide+kernel)).get (s:=245) rfl;have d254:=(hd 25 (by decide+kernel)).get (s:=254) rfl;exact A6 (Ah rfl) (Il rfl e245 rfl) (hK _ _ (GV.refl _ _ _ _) d254)
    refine zA (λ a W hf hS hd K hK=>?_) ?_
    . have e2:a.eval (.tmp 2)=.pointer (some ⟨q,0,none⟩):=hf.lit 2 (by decide) rfl;have d243:=(hd 14 (by decide+kernel)).get (s:=243) rfl;obtain ⟨cur,hc1,hc2⟩:=(HR.o W hS).len;rw [<-HXE.o] at d243;exact D1 (Ah rfl) rfl e2 d243 hc1 hc2 HFq.o hK
    refine zA (λ a W hf hS hd K hK=>?_) ?_
    . have d255:=(hd 26 (by decide+kernel)).get (s:=255) rfl;exact A6 (Ah rfl) (Jt rfl rfl) (hK _ _ (GV.refl _ _ _ _) d255)
    exact Cm.nil
  . intro a W hf hS hp;have h3:=(hp 28 (by decide)).get (s:=3) rfl;obtain ⟨v,cs,h5,h6⟩:=(hp 27 (by decide)).fin;have e2:a.eval (.tmp 2)=.pointer (some ⟨q,0,none⟩):=hf.lit 2 (by decide) rfl;go_wp2_with fail;refine bodyPost_ret (Ap rfl Ak (show a.tmps.getD 2 undef=_ from e2) h6.length h5.cellsAll) hf.defers ⟨cs,?_,?_,(HR.o W hS).below⟩
    . rw [HBE.o,show a.tmps.getD 3 undef=.bool ([tx l1,tx l2].all Au&& [x3].all Bp) from h3]
    . exact h6.mono (λ b hb=>by have:=HQW.o; omega)
theorem A0b (F0:Nat->Prop) (l1:Aa) (x2:Int) (x3:Int) (l4:Aa) (v4:aR) (w:aS) (hz1:l1.length<=1099511627776) (hz2: -9223372036854775808<=x2/\x2<=9223372036854775807) (hz3: -9223372036854775808<=x3/\x3<=9223372036854775807) (hb4:Bs w v4 l4) (hz4:l4.length<=1099511627776): aT aA 153 #[.iface 104 (.agg #[.string (tx l1),.int .i64 x2,.int .i64 x3,v4])] w (Gu w (.mk 2 11 0 [] ([.s l1,.n x2,.n x3,.b l4].map Ho)) ([.s l1,.n x2,.n x3,.b l4].all ptB)):=by
 obtain ⟨a4,c4,rfl,hc4,hm4⟩:=hb4.form;have HC:Hq (VC w w.heap.size [(w.heap.size+1, [.string (tx l1),.int .i64 x2,.int .i64 x3,.slice a4 l4.length c4],104)] [] [(.slice a4 l4.length c4,l4)] ((w.alloc (.cells zs5.toArray 314)).alloc (.cells [.string (tx l1),.int .i64 x2,.int .i64 x3,.slice a4 l4.length c4].toArray 104))):=Ab (VC.start (by intro r hr; simp only [aE,aF,or_false] at hr; rcases hr with rfl; exact hb4) _ _);have HSZ:Hq (∀u∈ [tx l1],u.size<=maxLen):=Ab (by intro u hu; simp only [aE,aF,or_false] at hu; rcases hu with rfl; exact Tj hz1);have HZ1:=Ab hz1;clear hz1;have HZ2:=Ab hz2;clear hz2;have HZ3:=Ab hz3;clear hz3;have HZ4:=Ab hz4;clear hz4;clear hb4;have hta:∀W,(Instr.typeAssert (.iface 104 (.agg #[.string (tx l1),.int .i64 x2,.int .i64 x3,.slice a4 l4.length c4])) 20 104 true).run aA W=.ok (.tuple #[.agg #[.string (tx l1),.int .i64 x2,.int .i64 x3,.slice a4 l4.length c4],.bool true]) W:=λ W=>Et _ _ _ (by kernel_rfl) W
 obtain ⟨B,hB⟩:∃B,B= [.s l1,.n x2,.n x3,.b l4].all ptB:=⟨_,rfl⟩
 obtain ⟨X,hX⟩:∃X:Tv,X=.mk 2 11 0 [] ([.s l1,.n x2,.n x3,.b l4].map Ho):=⟨_,rfl⟩
 rw [<-hB,<-hX];have HB:=Ab hB;have HX2:=Ab hX;clear hB hX;go_enter aI,aJ;go_upto_region 4 with fail;clear hta;show Code.wp _ _ _ _ ((w.alloc (.cells zs5.toArray 314)).alloc (.cells [.string (tx l1),.int .i64 x2,.int .i64 x3,.slice a4 l4.length c4].toArray 104))
 obtain ⟨W0,hW0⟩:∃W0,W0=(w.alloc (.cells zs5.toArray 314)).alloc (.cells [.string (tx l1),.int .i64 x2,.int .i64 x3,.slice a4 l4.length c4].toArray 104):=⟨_,rfl⟩
 rw [<-hW0] at HC ⊢;clear hW0;obtain ⟨p,hp⟩:∃p,p=w.heap.size+1:=⟨_,rfl⟩
 obtain ⟨q,hq⟩:∃q,q=w.heap.size:=⟨_,rfl⟩
 rw [<-hp,<-hq] at HC ⊢;clear hp hq;have HBE:Hq (B=([tx l1].all Au&& [x2,x3].all Bp)):=Ab (by rw [HB.o]; simp only [aK,aL,ptB,Bool.and_true,Bool.true_and,Bool.and_false,Bool.false_and,Bool.and_assoc]; first | done | ac_rfl);obtain ⟨wd,hwd⟩:∃wd,wd=aS.drew W0:=⟨_,rfl⟩
 have hvd:VC w q [(p, [.string (tx l1),.int .i64 x2,.int .i64 x3,.slice a4 l4.length c4],104)] [] [(.slice a4 l4.length c4,l4)] wd:=by rw [hwd]; exact HC.o.drew
 have HXE:Hq (X=.mk 2 11 0 [] [.mk 1 0 0 l1 [],.mk 0 0 (E4 x2) [] [],.mk 0 0 (E4 x3) [] [],.mk 1 0 0 l4 []]):=Ab HX2.o;have HR:Hq (∀W,GV (λ b=>q<b) q X wd W->VR w q [(p, [.string (tx l1),.int .i64 x2,.int .i64 x3,.slice a4 l4.length c4],104)] [] [(.slice a4 l4.length c4,l4)] W):=Ab (λ W h=>hvd.gv h);have HZD:Hq (∀W,GV (λ b=>q<b) q X wd W->q<W.heap.size/\∀b,W.heap.size<=b->q<b):=Ab (λ W h=>⟨(HR.o W h).lt,λ b hb=>aH (HR.o W h).lt hb⟩);have HFq:Hq (¬(λ b=>q<b) q):=Ab (aM q);have HQW:Hq (w.heap.size=q):=Ab hvd.hq.symm;clear hvd HC;refine wp_region_held (S:=λ W=>GV (λ b=>q<b) q X wd W) (by kernel_rfl) ?_;change wpAnyH _ _ _ _ _ _ _ _ (aS.drew _);rw [<-hwd];clear hwd;refine zH 0 ?_;refine zH 1 ?_ (hr:=λ W hW=>by have hc:=((HR.o W hW).blkAt 0 rfl).cell 0; go_simp; try rfl);refine zH 3 ?_;refine zH 4 ?_ (hr:=λ W hW=>by have hc:=((HR.o W hW).blkAt 0 rfl).cell 1; go_simp; try rfl);refine zH 6 ?_;refine zH 7 ?_ (hr:=λ W hW=>by have hc:=((HR.o W hW).blkAt 0 rfl).cell 2; go_simp; try rfl);refine zH 9 ?_;refine zH 10 ?_ (hr:=λ W hW=>by have hc:=((HR.o W hW).blkAt 0 rfl).cell 3; go_simp; try rfl);refine zH 14 ?_;refine zH 15 ?_ (hr:=λ W hW=>by have hc:=((HR.o W hW).blkAt 0 rfl).cell 0; go_simp; try rfl);refine zH 17 ?_;refine zH 18 ?_ (hr:=λ W hW=>by have hc:=((HR.o W hW).blkAt 0 rfl).cell 1; go_simp; try rfl);refine zH 19 ?_;refine zH 20 ?_ (hr:=λ W hW=>by have hc:=((HR.o W hW).blkAt 0 rfl).cell 2; go_simp; try rfl);refine Df (G:=GV (λ b=>q<b) q X) (Post:=L5 (λ b=>q<b) q X [.any,.any,.val (.mk 1 0 0 l1 []),.any,.any,.val (.mk 0 0 (E4 x2) [] []),.any,.any,.val (.mk 0 0 (E4 x3) [] []),.any,.any,.val (.mk 1 0 0 l4 []),.vals [.mk 1 0 0 l1 [],.mk 0 0 (E4 x2) [] [],.mk 0 0 (E4 x3) [] [],.mk 1 0 0 l4 []],.val (.mk 2 11 0 [] [.mk 1 0 0 l1 [],.mk 0 0 (E4 x2) [] [],.mk 0 0 (E4 x3) [] [],.mk 1 0 0 l4 []]),.any,.any,.row [.string (tx l1)],.any,.any,.any,.any,.row [.int .i64 x2,.int .i64 x3],.is (.bool ([tx l1].all Au&& [x2,x3].all Bp)),.fin,.is (.bool ([tx l1].all Au&& [x2,x3].all Bp))]) (ds:= [36,39,42,45,46,47,50,55,56,3]) (GV.refl _ _ _) GV.trans (λ W W' h g=>GV.trans _ _ _ h g) (λ i v W W' h g=>PK.stable HFq.o h g) [2,5,8,11,12,13,16,21,22,23,24] 397 rfl (by decide+kernel) (by decide+kernel) ?_ ?_ (GV.refl _ _ _ _) (by decide+kernel)
 . refine zA (λ a W hf hS hd K hK=>?_) ?_
   . have e35:a.eval (.tmp 35)=.string (tx l1):=hf.lit 35 (by decide) rfl;exact A2 (Ah rfl) rfl Dp (vs:=#[.string (tx l1)]) (by simp [e35]) (Gc l1 W HZ1.o) (HZD.o W hS).1 (HZD.o W hS).2 hK
   refine zA (λ a W hf hS hd K hK=>?_) ?_
   . have e38:a.eval (.tmp 38)=.int .i64 x2:=hf.lit 38 (by decide) rfl;exact A2 (Ah rfl) rfl F7 (vs:=#[.int .i64 x2]) (by simp [e38]) (Ie x2 W HZ2.o.1 HZ2.o.2) (HZD.o W hS).1 (HZD.o W hS).2 hK
   refine zA (λ a W hf hS hd K hK=>?_) ?_
   . have e41:a.eval (.tmp 41)=.int .i64 x3:=hf.lit 41 (by decide) rfl;exact A2 (Ah rfl) rfl F7 (vs:=#[.int .i64 x3]) (by simp [e41]) (Ie x3 W HZ3.o.1 HZ3.o.2) (HZD.o W hS).1 (HZD.o W hS).2 hK
   refine zA (λ a W hf hS hd K hK=>?_) ?_
   . have e44:a.eval (.tmp 44)=.slice a4 l4.length c4:=hf.lit 44 (by decide) rfl;exact A2 (Ah rfl) rfl Ez (vs:=#[.slice a4 l4.length c4]) (by simp [e44]) (Di _ l4 W ((HR.o W hS).rowAt 0 rfl) HZ4.o) (HZD.o W hS).1 (HZD.o W hS).2 hK
   refine zA (λ a W hf hS hd K hK=>?_) ?_
   . have d36:=(hd 2 (by decide+kernel)).get (s:=36) rfl;have d39:=(hd 5 (by decide+kernel)).get (s:=39) rfl;have d42:=(hd 8 (by decide+kernel)).get (s:=42) rfl;have d45:=(hd 11 (by decide+kernel)).get (s:=45) rfl;exact Dk (Ah rfl) rfl Hs (ps:= [.tmp 36,.tmp 39,.tmp 42,.tmp 45]) rfl (l:= [.mk 1 0 0 l1 [],.mk 0 0 (E4 x2) [] [],.mk 0 0 (E4 x3) [] [],.mk 1 0 0 l4 []]) ⟨d36,d39,d42,d45,trivial⟩ rfl (by decide) (by decide) (HZD.o W hS).1 (HZD.o W hS).2 hK
   refine zA (λ a W hf hS hd K hK=>?_) ?_
   . have d46:=(hd 12 (by decide+kernel)).get (s:=46) rfl;exact D2 (Ah rfl) rfl Dg d46 (HZD.o W hS).1 (λ v w1 h1 h2=>hK v w1 h1 h2) HFq.o
   refine zA (λ a W hf hS hd K hK=>?_) ?_
   . have e49:a.eval (.tmp 49)=.string (tx l1):=hf.lit 49 (by decide) rfl;exact C8 (Ah rfl) rfl Uw (ps:= [.tmp 49]) rfl (cs:= [.string (tx l1)]) (by simp only [aB,aC,e49]) (by intro u hu; simp only [aE,aF,or_false] at hu; rcases hu with rfl <;> exact ⟨rfl,rfl⟩) rfl (by decide) (by decide) (HZD.o W hS).1 (HZD.o W hS).2 hK
   refine zA (λ a W hf hS hd K hK=>?_) ?_
   . have e52:a.eval (.tmp 52)=.int .i64 x2:=hf.lit 52 (by decide) rfl;have e54:a.eval (.tmp 54)=.int .i64 x3:=hf.lit 54 (by decide) rfl;exact C8 (Ah rfl) rfl N5 (ps:= [.tmp 52,.tmp 54]) rfl (cs:= [.int .i64 x2,.int .i64 x3]) (by simp only [aB,aC,e52,e54]) (by intro u hu; simp only [aE,aF,or_false] at hu; rcases hu with rfl | rfl <;> exact ⟨rfl,rfl⟩) rfl (by decide) (by decide) (HZD.o W hS).1 (HZD.o W hS).2 hK
   refine zA (λ a W hf hS hd K hK=>?_) ?_
   . have d50:=(hd 16 (by decide+kernel)).get (s:=50) rfl;have d55:=(hd 21 (by decide+kernel)).get (s:=55) rfl;exact E5 (Ah rfl) rfl Ei (vs:=#[a.eval (.tmp 50),a.eval (.tmp 55)]) (by first | (simp only [aG,aB,aC]; done) | (simp only [aG,aB,aC]; rfl)) (u:=(.bool ([tx l1].all Au&& [x2,x3].all Bp))) (Ha [tx l1] [x2,x3] _ _ W d50.1 d55.1 HSZ.o) (HZD.o W hS).1 hK
   refine zA (λ a W hf hS hd K hK=>?_) ?_
   . have e2:a.eval (.tmp 2)=.pointer (some ⟨q,0,none⟩):=hf.lit 2 (by decide) rfl;have d47:=(hd 13 (by decide+kernel)).get (s:=47) rfl;obtain ⟨cur,hc1,hc2⟩:=(HR.o W hS).len;rw [<-HXE.o] at d47;exact D1 (Ah rfl) rfl e2 d47 hc1 hc2 HFq.o hK
   refine zA (λ a W hf hS hd K hK=>?_) ?_
   . have d56:=(hd 22 (by decide+kernel)).get (s:=56) rfl;exact A6 (Ah rfl) (Jt rfl rfl) (hK _ _ (GV.refl _ _ _ _) d56)
   exact Cm.nil
 . intro a W hf hS hp;have h3:=(hp 24 (by decide)).get (s:=3) rfl;obtain ⟨v,cs,h5,h6⟩:=(hp 23 (by decide)).fin;have e2:a.eval (.tmp 2)=.pointer (some ⟨q,0,none⟩):=hf.lit 2 (by decide) rfl;go_wp2_with fail;refine bodyPost_ret (Ap rfl Ak (show a.tmps.getD 2 undef=_ from e2) h6.length h5.cellsAll) hf.defers ⟨cs,?_,?_,(HR.o W hS).below⟩
   . rw [HBE.o,show a.tmps.getD 3 undef=.bool ([tx l1].all Au&& [x2,x3].all Bp) from h3]
   . exact h6.mono (λ b hb=>by have:=HQW.o; omega)
theorem A0c (F0:Nat->Prop) (l1:Aa) (l2:Aa) (x3:Int) (l4:Aa) (v4:aR) (w:aS) (hz1:l1.length<=1099511627776) (hz2:l2.length<=1099511627776) (hz3: -9223372036854775808<=x3/\x3<=9223372036854775807) (hb4:Bs w v4 l4) (hz4:l4.length<=1099511627776): aT aA 153 #[.iface 138 (.agg #[.string (tx l1),.string (tx l2),.int .i64 x3,v4])] w (Gu w (.mk 2 18 0 [] ([.s l1,.s l2,.n x3,.b l4].map Ho)) ([.s l1,.s l2,.n x3,.b l4].all ptB)):=by
 obtain ⟨a4,c4,rfl,hc4,hm4⟩:=hb4.form;have HC:Hq (VC w w.heap.size [(w.heap.size+1, [.string (tx l1),.string (tx l2),.int .i64 x3,.slice a4 l4.length c4],138)] [] [(.slice a4 l4.length c4,l4)] ((w.alloc (.cells zs5.toArray 314)).alloc (.cells [.string (tx l1),.string (tx l2),.int .i64 x3,.slice a4 l4.length c4].toArray 138))):=Ab (VC.start (by intro r hr; simp only [aE,aF,or_false] at hr; rcases hr with rfl; exact hb4) _ _);have HSZ:Hq (∀u∈ [tx l1,tx l2],u.size<=maxLen):=Ab (by intro u hu; simp only [aE,aF,or_false] at hu; rcases hu with rfl | rfl; exact Tj hz1; exact Tj hz2);have HZ1:=Ab hz1;clear hz1;have HZ2:=Ab hz2;clear hz2;have HZ3:=Ab hz3;clear hz3;have HZ4:=Ab hz4;clear hz4;clear hb4;obtain ⟨z11,hta11⟩:∃z,∀W,(Instr.typeAssert (.iface 138 (.agg #[.string (tx l1),.string (tx l2),.int .i64 x3,.slice a4 l4.length c4])) 20 104 true).run aA W=.ok (.tuple #[z,.bool false]) W:=⟨_,λ W=>A9 _ _ _ _ (by kernel_rfl) Mr (.inr ⟨_,_,rfl,by decide⟩) W⟩
 obtain ⟨z12,hta12⟩:∃z,∀W,(Instr.typeAssert (.iface 138 (.agg #[.string (tx l1),.string (tx l2),.int .i64 x3,.slice a4 l4.length c4])) 20 110 true).run aA W=.ok (.tuple #[z,.bool false]) W:=⟨_,λ W=>A9 _ _ _ _ (by kernel_rfl) Ms (.inr ⟨_,_,rfl,by decide⟩) W⟩
 obtain ⟨z13,hta13⟩:∃z,∀W,(Instr.typeAssert (.iface 138 (.agg #[.string (tx l1),.string (tx l2),.int .i64 x3,.slice a4 l4.length c4])) 20 121 true).run aA W=.ok (.tuple #[z,.bool false]) W:=⟨_,λ W=>A9 _ _ _ _ (by kernel_rfl) Mu (.inr ⟨_,_,rfl,by decide⟩) W⟩
 obtain ⟨z14,hta14⟩:∃z,∀W,(Instr.typeAssert (.iface 138 (.agg #[.string (tx l1),.string (tx l2),.int .i64 x3,.slice a4 l4.length c4])) 20 124 true).run aA W=.ok (.tuple #[z,.bool false]) W:=⟨_,λ W=>A9 _ _ _ _ (by kernel_rfl) Ox (.inr ⟨_,_,rfl,by decide⟩) W⟩
 obtain ⟨z15,hta15⟩:∃z,∀W,(Instr.typeAssert (.iface 138 (.agg #[.string (tx l1),.string (tx l2),.int .i64 x3,.slice a4 l4.length c4])) 20 278 true).run aA W=.ok (.tuple #[z,.bool false]) W:=⟨_,λ W=>A9 _ _ _ _ (by kernel_rfl) Rd (.inr ⟨_,_,rfl,by decide⟩) W⟩
 obtain ⟨z16,hta16⟩:∃z,∀W,(Instr.typeAssert (.iface 138 (.agg #[.string (tx l1),.string (tx l2),.int .i64 x3,.slice a4 l4.length c4])) 20 343 true).run aA W=.ok (.tuple #[z,.bool false]) W:=⟨_,λ W=>A9 _ _ _ _ (by kernel_rfl) Re (.inr ⟨_,_,rfl,by decide⟩) W⟩
 obtain ⟨z17,hta17⟩:∃z,∀W,(Instr.typeAssert (.iface 138 (.agg #[.string (tx l1),.string (tx l2),.int .i64 x3,.slice a4 l4.length c4])) 20 128 true).run aA W=.ok (.tuple #[z,.bool false]) W:=⟨_,λ W=>A9 _ _ _ _ (by kernel_rfl) X4 (.inr ⟨_,_,rfl,by decide⟩) W⟩
 have hta:∀W,(Instr.typeAssert (.iface 138 (.agg #[.string (tx l1),.string (tx l2),.int .i64 x3,.slice a4 l4.length c4])) 20 138 true).run aA W=.ok (.tuple #[.agg #[.string (tx l1),.string (tx l2),.int .i64 x3,.slice a4 l4.length c4],.bool true]) W:=λ W=>Et _ _ _ (by kernel_rfl) W
 obtain ⟨B,hB⟩:∃B,B= [.s l1,.s l2,.n x3,.b l4].all ptB:=⟨_,rfl⟩
 obtain ⟨X,hX⟩:∃X:Tv,X=.mk 2 18 0 [] ([.s l1,.s l2,.n x3,.b l4].map Ho):=⟨_,rfl⟩
 rw [<-hB,<-hX];have HB:=Ab hB;have HX2:=Ab hX;clear hB hX;go_enter aI,aJ;go_upto_region 31 with fail;clear hta hta11 hta12 hta13 hta14 hta15 hta16 hta17;show Code.wp _ _ _ _ ((w.alloc (.cells zs5.toArray 314)).alloc (.cells [.string (tx l1),.string (tx l2),.int .i64 x3,.slice a4 l4.length c4].toArray 138))
 obtain ⟨W0,hW0⟩:∃W0,W0=(w.alloc (.cells zs5.toArray 314)).alloc (.cells [.string (tx l1),.string (tx l2),.int .i64 x3,.slice a4 l4.length c4].toArray 138):=⟨_,rfl⟩
 rw [<-hW0] at HC ⊢;clear hW0;obtain ⟨p,hp⟩:∃p,p=w.heap.size+1:=⟨_,rfl⟩
 obtain ⟨q,hq⟩:∃q,q=w.heap.size:=⟨_,rfl⟩
 rw [<-hp,<-hq] at HC ⊢;clear hp hq;have HBE:Hq (B=([tx l1,tx l2].all Au&& [x3].all Bp)):=Ab (by rw [HB.o]; simp only [aK,aL,ptB,Bool.and_true,Bool.true_and,Bool.and_false,Bool.false_and,Bool.and_assoc]; first | done | ac_rfl);obtain ⟨wd,hwd⟩:∃wd,wd=aS.drew W0:=⟨_,rfl⟩
 have hvd:VC w q [(p, [.string (tx l1),.string (tx l2),.int .i64 x3,.slice a4 l4.length c4],138)] [] [(.slice a4 l4.length c4,l4)] wd:=by rw [hwd]; exact HC.o.drew
 have HXE:Hq (X=.mk 2 18 0 [] [.mk 1 0 0 l1 [],.mk 1 0 0 l2 [],.mk 0 0 (E4 x3) [] [],.mk 1 0 0 l4 []]):=Ab HX2.o;have HR:Hq (∀W,GV (λ b=>q<b) q X wd W->VR w q [(p, [.string (tx l1),.string (tx l2),.int .i64 x3,.slice a4 l4.length c4],138)] [] [(.slice a4 l4.length c4,l4)] W):=Ab (λ W h=>hvd.gv h);have HZD:Hq (∀W,GV (λ b=>q<b) q X wd W->q<W.heap.size/\∀b,W.heap.size<=b->q<b):=Ab (λ W h=>⟨(HR.o W h).lt,λ b hb=>aH (HR.o W h).lt hb⟩);have HFq:Hq (¬(λ b=>q<b) q):=Ab (aM q);have HQW:Hq (w.heap.size=q):=Ab hvd.hq.symm;clear hvd HC;refine wp_region_held (S:=λ W=>GV (λ b=>q<b) q X wd W) (by kernel_rfl) ?_;change wpAnyH _ _ _ _ _ _ _ _ (aS.drew _);rw [<-hwd];clear hwd;refine zH 0 ?_;refine zH 1 ?_ (hr:=λ W hW=>by have hc:=((HR.o W hW).blkAt 0 rfl).cell 0; go_simp; try rfl);refine zH 3 ?_;refine zH 4 ?_ (hr:=λ W hW=>by have hc:=((HR.o W hW).blkAt 0 rfl).cell 1; go_simp; try rfl);refine zH 6 ?_;refine zH 7 ?_ (hr:=λ W hW=>by have hc:=((HR.o W hW).blkAt 0 rfl).cell 2; go_simp; try rfl);refine zH 9 ?_;refine zH 10 ?_ (hr:=λ W hW=>by have hc:=((HR.o W hW).blkAt 0 rfl).cell 3; go_simp; try rfl);refine zH 14 ?_;refine zH 15 ?_ (hr:=λ W hW=>by have hc:=((HR.o W hW).blkAt 0 rfl).cell 0; go_simp; try rfl);refine zH 16 ?_;refine zH 17 ?_ (hr:=λ W hW=>by have hc:=((HR.o W hW).blkAt 0 rfl).cell 1; go_simp; try rfl);refine zH 19 ?_;refine zH 20 ?_ (hr:=λ W hW=>by have hc:=((HR.o W hW).blkAt 0 rfl).cell 2; go_simp; try rfl);refine Df (G:=GV (λ b=>q<b) q X) (Post:=L5 (λ b=>q<b) q X [.any,.any,.val (.mk 1 0 0 l1 []),.any,.any,.val (.mk 1 0 0 l2 []),.any,.any,.val (.mk 0 0 (E4 x3) [] []),.any,.any,.val (.mk 1 0 0 l4 []),.vals [.mk 1 0 0 l1 [],.mk 1 0 0 l2 [],.mk 0 0 (E4 x3) [] [],.mk 1 0 0 l4 []],.val (.mk 2 18 0 [] [.mk 1 0 0 l1 [],.mk 1 0 0 l2 [],.mk 0 0 (E4 x3) [] [],.mk 1 0 0 l4 []]),.any,.any,.any,.any,.row [.string (tx l1),.string (tx l2)],.any,.any,.row [.int .i64 x3],.is (.bool ([tx l1,tx l2].all Au&& [x3].all Bp)),.fin,.is (.bool ([tx l1,tx l2].all Au&& [x3].all Bp))]) (ds:= [261,264,267,270,271,272,277,280,281,3]) (GV.refl _ _ _) GV.trans (λ W W' h g=>GV.trans _ _ _ h g) (λ i v W W' h g=>PK.stable HFq.o h g) [2,5,8,11,12,13,18,21,22,23,24] 397 rfl (by decide+kernel) (by decide+kernel) ?_ ?_ (GV.refl _ _ _ _) (by decide+kernel)
 . refine zA (λ a W hf hS hd K hK=>?_) ?_
   . have e260:a.eval (.tmp 260)=.string (tx l1):=hf.lit 260 (by decide) rfl;exact A2 (Ah rfl) rfl Dp (vs:=#[.string (tx l1)]) (by simp [e260]) (Gc l1 W HZ1.o) (HZD.o W hS).1 (HZD.o W hS).2 hK
   refine zA (λ a W hf hS hd K hK=>?_) ?_
   . have e263:a.eval (.tmp 263)=.string (tx l2):=hf.lit 263 (by decide) rfl;exact A2 (Ah rfl) rfl Dp (vs:=#[.string (tx l2)]) (by simp [e263]) (Gc l2 W HZ2.o) (HZD.o W hS).1 (HZD.o W hS).2 hK
   refine zA (λ a W hf hS hd K hK=>?_) ?_
   . have e266:a.eval (.tmp 266)=.int .i64 x3:=hf.lit 266 (by decide) rfl;exact A2 (Ah rfl) rfl F7 (vs:=#[.int .i64 x3]) (by simp [e266]) (Ie x3 W HZ3.o.1 HZ3.o.2) (HZD.o W hS).1 (HZD.o W hS).2 hK
   refine zA (λ a W hf hS hd K hK=>?_) ?_
   . have e269:a.eval (.tmp 269)=.slice a4 l4.length c4:=hf.lit 269 (by decide) rfl;exact A2 (Ah rfl) rfl Ez (vs:=#[.slice a4 l4.length c4]) (by simp [e269]) (Di _ l4 W ((HR.o W hS).rowAt 0 rfl) HZ4.o) (HZD.o W hS).1 (HZD.o W hS).2 hK
   refine zA (λ a W hf hS hd K hK=>?_) ?_
   . have d261:=(hd 2 (by decide+kernel)).get (s:=261) rfl;have d264:=(hd 5 (by decide+kernel)).get (s:=264) rfl;have d267:=(hd 8 (by decide+kernel)).get (s:=267) rfl;have d270:=(hd 11 (by decide+kernel)).get (s:=270) rfl;exact Dk (Ah rfl) rfl Hs (ps:= [.tmp 261,.tmp 264,.tmp 267,.tmp 270]) rfl (l:= [.mk 1 0 0 l1 [],.mk 1 0 0 l2 [],.mk 0 0 (E4 x3) [] [],.mk 1 0 0 l4 []]) ⟨d261,d264,d267,d270,trivial⟩ rfl (by decide) (by decide) (HZD.o W hS).1 (HZD.o W hS).2 hK
   refine zA (λ a W hf hS hd K hK=>?_) ?_
   . have d271:=(hd 12 (by decide+kernel)).get (s:=271) rfl;exact D2 (Ah rfl) rfl Dg d271 (HZD.o W hS).1 (λ v w1 h1 h2=>hK v w1 h1 h2) HFq.o
   refine zA (λ a W hf hS hd K hK=>?_) ?_
   . have e274:a.eval (.tmp 274)=.string (tx l1):=hf.lit 274 (by decide) rfl;have e276:a.eval (.tmp 276)=.string (tx l2):=hf.lit 276 (by decide) rfl;exact C8 (Ah rfl) rfl Uw (ps:= [.tmp 274,.tmp 276]) rfl (cs:= [.string (tx l1),.string (tx l2)]) (by simp only [aB,aC,e274,e276]) (by intro u hu; simp only [aE,aF,or_false] at hu; rcases hu with rfl | rfl <;> exact ⟨rfl,rfl⟩) rfl (by decide) (by decide) (HZD.o W hS).1 (HZD.o W hS).2 hK
   refine zA (λ a W hf hS hd K hK=>?_) ?_
   . have e279:a.eval (.tmp 279)=.int .i64 x3:=hf.lit 279 (by decide) rfl;exact C8 (Ah rfl) rfl N5 (ps:= [.tmp 279]) rfl (cs:= [.int .i64 x3]) (by simp only [aB,aC,e279]) (by intro u hu; simp only [aE,aF,or_false] at hu; rcases hu with rfl <;> exact ⟨rfl,rfl⟩) rfl (by decide) (by decide) (HZD.o W hS).1 (HZD.o W hS).2 hK
   refine zA (λ a W hf hS hd K hK=>?_) ?_
   . have d277:=(hd 18 (by decide+kernel)).get (s:=277) rfl;have d280:=(hd 21 (by decide+kernel)).get (s:=280) rfl;exact E5 (Ah rfl) rfl Ei (vs:=#[a.eval (.tmp 277),a.eval (.tmp 280)]) (by first | (simp only [aG,aB,aC]; done) | (simp only [aG,aB,aC]; rfl)) (u:=(.bool ([tx l1,tx l2].all Au&& [x3].all Bp))) (Ha [tx l1,tx l2] [x3] _ _ W d277.1 d280.1 HSZ.o) (HZD.o W hS).1 hK
   refine zA (λ a W hf hS hd K hK=>?_) ?_
   . have e2:a.eval (.tmp 2)=.pointer (some ⟨q,0,none⟩):=hf.lit 2 (by decide) rfl;have d272:=(hd 13 (by decide+kernel)).get (s:=272) rfl;obtain ⟨cur,hc1,hc2⟩:=(HR.o W hS).len;rw [<-HXE.o] at d272;exact D1 (Ah rfl) rfl e2 d272 hc1 hc2 HFq.o hK
   refine zA (λ a W hf hS hd K hK=>?_) ?_
   . have d281:=(hd 22 (by decide+kernel)).get (s:=281) rfl;exact A6 (Ah rfl) (Jt rfl rfl) (hK _ _ (GV.refl _ _ _ _) d281)
   exact Cm.nil
 . intro a W hf hS hp;have h3:=(hp 24 (by decide)).get (s:=3) rfl;obtain ⟨v,cs,h5,h6⟩:=(hp 23 (by decide)).fin;have e2:a.eval (.tmp 2)=.pointer (some ⟨q,0,none⟩):=hf.lit 2 (by decide) rfl;go_wp2_with fail;refine bodyPost_ret (Ap rfl Ak (show a.tmps.getD 2 undef=_ from e2) h6.length h5.cellsAll) hf.defers ⟨cs,?_,?_,(HR.o W hS).below⟩
   . rw [HBE.o,show a.tmps.getD 3 undef=.bool ([tx l1,tx l2].all Au&& [x3].all Bp) from h3]
   . exact h6.mono (λ b hb=>by have:=HQW.o; omega)
def Fl (t:Int) (pts:List Pt):Tv:=.mk 2 t 0 [] (pts.map Ho)
/-! ### The other way -/
theorem A3U (x:Int):Bp x=true↔0<=x/\x<=1099511627776:=by simp [Bp]
def Ii:Pt->Prop
 | .s l=>l.length<=1099511627776
 | .n x=> -9223372036854775808<=x/\x<=9223372036854775807
 | .b l=>l.length<=1099511627776
 | .t _=>True
 | .i t=>t.1.length<=1099511627776/\t.2.length<=1099511627776
 | .x l=>(∀t∈l,t.1.length<=1099511627776/\t.2.length<=1099511627776)/\l.length<=1954687338211
theorem Fm (t:Int) (pts:List Pt) (h:pts.all ptB=true):Nw (Fl t pts):=by
 refine ⟨by decide,NsW.of λ x hx=>?_⟩;obtain ⟨p,hp,rfl⟩:=List.mem_map.1 hx;have hb:=List.all_eq_true.1 h p hp;have htk:∀t,Nw (C6 t):=λ t=>⟨by decide,⟨by decide,trivial⟩,⟨by decide,trivial⟩,trivial⟩
 cases p with
 | s l=>exact ⟨by decide,trivial⟩
 | n x=>
  obtain ⟨h0,h1⟩:=(A3U x).1 hb;obtain ⟨n,rfl⟩:=Int.eq_ofNat_of_zero_le h0;exact ⟨by show n<_; omega,trivial⟩
 | b l=>exact ⟨by decide,trivial⟩
 | t b=>cases b <;> exact ⟨by decide,trivial⟩
 | i t=>exact htk t
 | x l=>
  refine ⟨by decide,NsW.of λ y hy=>?_⟩;obtain ⟨t,ht,rfl⟩:=List.mem_map.1 hy;exact htk t
theorem P5 (v:aR) (x:Tv) (b:Bool) (w:aS) (hval:aT aA 153 #[v] w (Gu w x b)) (hn:b=true->Nw x/\(Ba x).length<=1073741824): aT aA 92 #[v] w (A2I w (if b=true then wrS x else ([],7))):=by
 have HV:=Ab hval;have HN:=Ab hn;obtain ⟨r,hr⟩:∃r,r=(if b=true then wrS x else ([],7)):=⟨_,rfl⟩
 rw [<-hr];have HR:=Ab hr;clear hval hn hr;go_enter Tryz.func92,Tryz.ntmps92;go_wp2_with fail;refine HV.o.mono ?_;rintro e w1 ⟨cs,rfl,ht,hb⟩;have HT:=Ab ht;have HB:=Ab hb;have HL:=Ab ht.length;have HO:=Ab ht.one;have HN4:=Ab (Blk.new w1 zs5 314);clear ht hb HV;go_upto_region 2 with ((with_reducible refine zws 4 9 ?_);refine Ag rfl (.tmp 4) (.tmp 9) Ak rfl rfl (vs:=cs) rfl HL.o HN4.o (aD _) HO.o ?_);intro w2 h2 k2;have h2':Blk w2 w1.heap.size cs 314:=by
  rw [aP (by decide),aQ] at h2;exact h2
 have hb2:Below w1.heap.size w1 w2:=((Below.refl _ _).alloc (aD _) _).trans (k2.below (by omega));have H2:=Ab h2';have HT2:=Ab (HT.o.below hb2);have HB2:Hq (Below w.heap.size w w2):=Ab (HB.o.trans (hb2.mono HB.o.size));clear h2 k2 h2' hb2
 cases b with
 | false=>
  go_wp2_with fail;go_ret2;rw [show r=([],7) from HR.o];exact ⟨_,rfl,Sl.nil _ _ _,HB2.o⟩
 | true=>
  have HWR:=Ab (Ru x _ cs w2 HT2.o (HN.o rfl).1 (λ _=>(HN.o rfl).2));go_wp2_with ((with_reducible refine zw 13 ?_);refine Aj rfl (.tmp 4) Ak rfl rfl (cs:=cs) HL.o H2.o.cellsAll ?_);refine HWR.o.mono ?_;rintro e w3 ⟨v3,rfl,hbs,hb3⟩;obtain ⟨a3,c3,rfl,_⟩:=hbs.form;have HBS:=Ab hbs;have HB3:Hq (Below w.heap.size w w3):=Ab (HB2.o.trans (hb3.mono HB2.o.size));clear hbs hb3;go_wp2_with fail;go_ret2;rw [show r=wrS x from HR.o];exact ⟨_,rfl,HBS.o,HB3.o⟩
end Go.Proofs.YtcnfaghcjlhoiaaGreat
namespace Go.Proofs.YtcnfaghcjlhoiaaGreat
open Go.RowKit Go.Maps
def Ep (l1 l2:Aa) (x3:Int) (l4 m4 l5:Aa):List Pt:= [.s l1,.s l2,.n x3,.i (l4,m4),.b l5]
def A8 (t:Int) (pts:List Pt):Aa:=Ba (Fl t pts)
theorem Sf (q:Nat) (s:PS) (l1 l2:Aa) (x3:Int) (l4 m4:Aa) (v4:aR) (a5:Option Addr) (n5 c5:Nat) (l:List Res) (w:aS) (h:Ad w (pvR q s::l)) (hs:s.sz<1099511627776) (hall:(Ep l1 l2 x3 l4 m4 []).all ptB=true) (hok:∀p∈Ep l1 l2 x3 l4 m4 [],Ii p) (hlen:(A8 17 (Ep l1 l2 x3 l4 m4 [])).length<=4096) (hv4:∀W,Ad W l->Bs W v4 m4): aT aA 103 #[pvV s q,.iface 128 (.agg #[.string (tx l1),.string (tx l2),.int .i64 x3,.string (tx l4),v4,.slice a5 n5 c5])] w (Kb q (s.digest (A8 17 (Ep l1 l2 x3 l4 m4 []))).2 (s.digest (A8 17 (Ep l1 l2 x3 l4 m4 []))).1 l):=by
 obtain ⟨a4,c4,rfl,_,_⟩:=(hv4 _ h.tail).form;have HV4:=Ab hv4;obtain ⟨B,hB⟩:∃B,B=A8 17 (Ep l1 l2 x3 l4 m4 []):=⟨_,rfl⟩
 have HWR:Hq (∀W,Ad W l->aT aA 92 #[.iface 128 (.agg #[.string (tx l1),.string (tx l2),.int .i64 x3,.string (tx l4),.slice a4 m4.length c4,.slice none 0 0])] W (A2I W (B,0))):=Ab (λ W hW=>by
  have h1:=hok (.s l1) (by simp [Ep]);have h2:=hok (.s l2) (by simp [Ep]);have h3:=hok (.n x3) (by simp [Ep]);have h4:=hok (.i (l4,m4)) (by simp [Ep]);have hval:=Oe (λ _=>True) l1 l2 x3 l4 m4 (.slice a4 m4.length c4) [] (.slice none 0 0) W h1 h2 h3 (hv4 W hW) h4 (Bs.none _ _ _ (by simp) (by decide)) (by decide) (by have:=List.all_eq_true.1 hall (.i (l4,m4)) (by simp [Ep]); simpa [ptB] using this);have hw:=P5 _ _ _ W hval (λ _=>⟨Fm 17 _ hall,by unfold A8 at hlen; exact Nat.le_trans hlen (by decide)⟩);rw [show ([Pt.s l1,.s l2,.n x3,.i (l4,m4),.b []].all ptB)=true from hall,if_pos rfl] at hw;have hr:wrS (Fl 17 (Ep l1 l2 x3 l4 m4 []))=(B,0):=by
   rw [wrS,if_neg,if_neg (by unfold A8 at hlen; omega),hB]
   . rfl
   . simp [Fl,Ep,A4,Ho,C6]
  rw [<-hr];exact hw)
 have HDG:=Ab (λ (v:aR) (w:aS) (l:List Res) (h:Ad w (pvR q s::l)) (hv:Bs w v B)=>Oi q s v B l w h hv (by rw [hB]; omega) hs);rw [<-hB];obtain ⟨z1,hta1⟩:∃z,∀W,(Instr.typeAssert (.iface 128 (.agg #[.string (tx l1),.string (tx l2),.int .i64 x3,.string (tx l4),.slice a4 m4.length c4,.slice a5 n5 c5])) 20 121 true).run aA W=.ok (.tuple #[z,.bool false]) W:=⟨_,λ W=>A9 _ _ _ _ (by kernel_rfl) Mu (.inr ⟨_,_,rfl,by decide⟩) W⟩
 obtain ⟨z2,hta2⟩:∃z,∀W,(Instr.typeAssert (.iface 128 (.agg #[.string (tx l1),.string (tx l2),.int .i64 x3,.string (tx l4),.slice a4 m4.length c4,.slice a5 n5 c5])) 20 323 true).run aA W=.ok (.tuple #[z,.bool false]) W:=⟨_,λ W=>A9 _ _ _ _ (by kernel_rfl) X6 (.inr ⟨_,_,rfl,by decide⟩) W⟩
 have hta:∀W,(Instr.typeAssert (.iface 128 (.agg #[.string (tx l1),.string (tx l2),.int .i64 x3,.string (tx l4),.slice a4 m4.length c4,.slice a5 n5 c5])) 20 128 true).run aA W=.ok (.tuple #[.agg #[.string (tx l1),.string (tx l2),.int .i64 x3,.string (tx l4),.slice a4 m4.length c4,.slice a5 n5 c5],.bool true]) W:=λ W=>Et _ _ _ (by kernel_rfl) W
 have HC:=Ab h;have g1:=λ j a w=>Fy s j a "Digest" (by simp) w
 have g2:=λ j a w=>Vj s j a w
 have g3:∀(args:Array aR) (w:aS),(callFunc (Im s) args).run aA w=.ok (.enter (Im s) args) w:=Ux s
 clear h hs hall hok hlen hv4 hB;unfold pvV at*;go_enter Tryz.func103,Tryz.ntmps103;go_wp2_with fail;refine (HWR.o _ (HC.o.alloc _).tail).mono ?_;rintro e w1 ⟨v,rfl,hb,hw⟩;obtain ⟨va,vc,rfl,_,_⟩:=hb.form;have HC:=Ab ((HC.o.alloc _).step hw);have HB:=Ab hb;clear hb hw;go_wp2_with fail;refine (HDG.o _ _ _ HC.o HB.o).mono ?_;rintro e w2 ⟨x,rfl,hc⟩;go_wp2_with fail;go_ret;exact ⟨x,rfl,hc⟩
end Go.Proofs.YtcnfaghcjlhoiaaGreat
