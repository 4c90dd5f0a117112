/- Texts of this proof, one behind the other: Base, ByteC, Slices, Flat, Res, HReg, Pull, RegJ, StJ, Base3. -/
import Derived.WalkKit
import Derived.ProofKit
import Derived.OpenShut
import Derived.Laws.CopyOwn
import Derived.Deep.Draws
import Derived.Deep.QuietTactic
import Derived.BigQuiet
import Derived.Lib.Hide
import Derived.Deep.RegionLawGrows
import Derived.Deep.RegionHeld3
import Derived.ChangeAlike
import Derived.RegionTactic
import Derived.WalkSmall
import Derived.Test.YtcnfaghcjlhoiaaGreatProg
import Derived.Outline
import Derived.Great.BuildSlice
import Derived.OrdersHeld
import Derived.StillTail
set_option linter.unusedSimpArgs false
set_option linter.unusedVariables false
set_option maxRecDepth 100000
set_option maxHeartbeats 16000000
open List renaming map_cons -> aA, perm_middle -> aD, map_toArray -> aF, map_nil -> aG, getElem?_take -> aH, flatten_cons -> aJ, eq_nil_of_length_eq_zero -> aL, replicate -> aM, length_take -> aO, getElem?_drop -> aP, range -> aQ, length_drop -> aU, length_cons -> aW, length_append -> aY, mem_of_mem_take -> bA, getElem?_map -> bB
open Nat renaming le_refl -> aB, zero_add -> aC, add_mul -> aI, zero_le -> aK, lt_or_ge -> aR, add_zero -> aT, zero_mul -> aV, le_trans -> aX, mul_pos -> aZ, add_assoc -> bC, lt_of_lt_of_le -> bE
open Go.RowKit.Below renaming refl -> aE
open Array renaming getElem?_eq_none -> aN, getElem?_toList -> aS, getElem?_setIfInBounds -> bD
open Go renaming Value -> bF, World -> bG, TypeId -> bH, Program -> bI, Oper -> bJ
namespace Go.Proofs.YtcnfaghcjlhoiaaGreat
open Go.RowKit
structure Hq (p:Prop):Prop where
  o:p
theorem Ab {p:Prop} (h:p):Hq p:=⟨h⟩
abbrev Aa:=List UInt8
theorem P7 (a:Option Addr) (n c n' c':Nat):(bF.slice a n c).ownBlock=(bF.slice a n' c').ownBlock:=by cases a <;> rfl
structure Ai (S:Nat->Prop) (w w':bG):Prop where
 os:w'.os=w.os
 tape:w'.tape=w.tape
 output:w'.output=w.output
 size:w.heap.size<=w'.heap.size
 block:∀k,¬S k->w'.heap[k]?=w.heap[k]?
theorem Ai.refl (S:Nat->Prop) (w:bG):Ai S w w:=⟨rfl,rfl,rfl,aB _,λ _ _=>rfl⟩
theorem Ai.trans {S:Nat->Prop} {a b c:bG} (h:Ai S a b) (k:Ai S b c):Ai S a c:=
 ⟨k.os.trans h.os,k.tape.trans h.tape,k.output.trans h.output,aX h.size k.size,λ i hi=>(k.block i hi).trans (h.block i hi)⟩
theorem Ai.mono {S T:Nat->Prop} {w w':bG} (h:Ai S w w') (hs:∀k,S k->T k):Ai T w w':=
 ⟨h.os,h.tape,h.output,h.size,λ k hk=>h.block k (λ x=>hk (hs k x))⟩
theorem Ai.of_below {B:Nat} {w w':bG} (h:Below B w w'):Ai (λ k=>B<=k) w w':=
 ⟨h.os,h.tape,h.output,h.size,λ k hk=>h.block k (by omega)⟩
theorem Ai.below {B:Nat} {S:Nat->Prop} {w w':bG} (h:Ai S w w') (hs:∀k,S k->B<=k):Below B w w':=
 ⟨h.os,h.tape,h.output,h.size,λ k hk=>h.block k (λ x=>by have:=hs k x; omega)⟩
theorem Ai.drew {S:Nat->Prop} {a w:bG} (h:Ai S a w):Ai S a w.drew:=⟨h.os,h.tape,h.output,h.size,h.block⟩
theorem Ai.drewN {S:Nat->Prop} {a w:bG} (h:Ai S a w) (n:Nat):Ai S a (w.drewN n):=⟨h.os,h.tape,h.output,h.size,h.block⟩
theorem Ai.alloc {S:Nat->Prop} {a w:bG} (h:Ai S a w) (o:Obj) (hs:S w.heap.size):Ai S a (w.alloc o):=
 h.trans ⟨rfl,rfl,rfl,by simp,λ k hk=>by
  show (w.heap.push o)[k]?=_
  rw [Array.getElem?_push,if_neg (by rintro rfl; exact hk hs)]⟩
theorem Ai.setCell {S:Nat->Prop} {a w:bG} (h:Ai S a w) {p:Addr} (hs:S p.block) (u:bF):Ai S a (w.setCell p u):=
 h.trans ⟨rfl,rfl,rfl,by simp [bG.setCell],λ k hk=>Below.heap_setCell _ _ _ _ (by rintro rfl; exact hk hs)⟩
theorem Ai.one (w:bG) (p o:Nat) (u:bF):Ai (λ k=>k=p) w (w.setCell ⟨p,o,none⟩ u):=Ai.setCell (S:=λ k=>k=p) (p:=⟨p,o,none⟩) (Ai.refl _ _) rfl u
theorem Ai.setRow {S:Nat->Prop} {a w:bG} (h:Ai S a w) {g:Nat} (hs:S g) (cs:Array bF):Ai S a (w.setRow g cs):=
 h.trans ⟨rfl,rfl,rfl,by simp,λ k hk=>setRow_other w g k cs (by rintro rfl; exact hk hs)⟩
theorem Ai.oneRow (w:bG) (g:Nat) (cs:Array bF):Ai (λ k=>k=g) w (w.setRow g cs):=Ai.setRow (S:=λ k=>k=g) (g:=g) (Ai.refl _ _) rfl cs
theorem Ai.grown {S:Nat->Prop} {a w w':bG} {row:Option Nat} (h:Ai S a w) (hg:w.grownBy w' row) (hn:∀k,w.heap.size<=k->S k) (hr:∀k,row=some k->S k):Ai S a w':=
 h.trans ⟨hg.os,hg.tape,hg.output,hg.size,λ k hk=>by
  rcases aR k w.heap.size with hl | hl
  . exact hg.block k hl (λ e=>hk (hr k e.symm))
  . exact absurd (hn k hl) hk⟩
theorem Ai.cell {S:Nat->Prop} {w w':bG} (h:Ai S w w') {p:Addr} (hp:¬S p.block):w'.cell? p=w.cell? p:=bG.cell?_of_block (w:=w) (h.block p.block hp)
theorem Bj {w w':bG} (h:Below w.heap.size w w') {p:Addr} {v:bF} (hp:w.cell? p=some v):w'.cell? p=some v:=
 (h.cell (bG.block_lt_of_cell? w p hp)).trans hp
theorem Hg {w:bG} {b:Nat} {o:Obj} (h:w.heap[b]?=some o):b<w.heap.size:=by
 rcases aR b w.heap.size with h' | h'
 . exact h'
 . simp [aN h'] at h
def Blk (w:bG) (b:Nat) (cs:List bF) (T:bH):Prop:=w.heap[b]?=some (.cells cs.toArray T (0,0))
theorem Blk.lt {w:bG} {b:Nat} {cs:List bF} {T:bH} (h:Blk w b cs T):b<w.heap.size:=Hg h
theorem Blk.cell {w:bG} {b:Nat} {cs:List bF} {T:bH} (h:Blk w b cs T) (o:Nat):w.cell? ⟨b,o,none⟩=cs[o]?:=by simp [bG.cell?,show w.heap[b]?=_ from h]
theorem Blk.frozen {w:bG} {b:Nat} {cs:List bF} {T:bH} (h:Blk w b cs T) (o:Nat):w.frozen? ⟨b,o,none⟩=false:=by simp [bG.frozen?,show w.heap[b]?=_ from h]
theorem Blk.keep {w w':bG} {b:Nat} {cs:List bF} {T:bH} (h:Blk w b cs T) {S:Nat->Prop} (hk:Ai S w w') (hb:¬S b):Blk w' b cs T:=(hk.block b hb).trans h
theorem Blk.below {w w':bG} {b:Nat} {cs:List bF} {T:bH} (h:Blk w b cs T) {B:Nat} (hk:Below B w w') (hb:b<B):Blk w' b cs T:=(hk.block b hb).trans h
theorem Blk.drew {w:bG} {b:Nat} {cs:List bF} {T:bH} (h:Blk w b cs T):Blk w.drew b cs T:=h
theorem Blk.alloc {w:bG} {b:Nat} {cs:List bF} {T:bH} (h:Blk w b cs T) (o:Obj):Blk (w.alloc o) b cs T:=(Below.heap_alloc w o b h.lt).trans h
theorem Blk.new (w:bG) (cs:List bF) (T:bH):Blk (w.alloc (.cells cs.toArray T)) w.heap.size cs T:=heap_alloc_new w _
theorem Blk.at_ {w:bG} {b:Nat} {cs:Array bF} {T:bH} (h:w.heap.size=b):Blk (w.alloc (.cells cs T)) b cs.toList T:=by subst h; exact heap_alloc_new w _
theorem Blk.set {w:bG} {b:Nat} {cs:List bF} {T:bH} (h:Blk w b cs T) (o:Nat) (v:bF):Blk (w.setCell ⟨b,o,none⟩ v) b (cs.set o v) T:=by
 unfold Blk;rw [heap_setCell_same w b o cs.toArray T v h];simp
theorem Blk.set_other {w:bG} {b:Nat} {cs:List bF} {T:bH} (h:Blk w b cs T) {p:Addr} (hp:b≠p.block) (v:bF):Blk (w.setCell p v) b cs T:=
 (heap_setCell_other w p b v hp).trans h
def At (w:bG) (a:Option Addr) (cs:List bF):Prop:=
 cs= []\/∃b off,a=some ⟨b,off,none⟩/\∀j u,cs[j]?=some u->w.cell? ⟨b,off+j,none⟩=some u
def Sl (w:bG) (sz:Nat) (v:bF) (n:Nat) (cs:List bF):Prop:=
 cs.length=n*sz/\(∀u∈cs,u.oneCell'=true)/\∃a cap,v=.slice a n cap/\n<=cap/\cap<=maxLen/\(a=none->cap=0)/\At w a cs
theorem At.mono {w w':bG} {a:Option Addr} {cs:List bF} (h:At w a cs) (hc:∀b o u,(∃x,a=some x/\x.block=b)->w.cell? ⟨b,o,none⟩=some u->w'.cell? ⟨b,o,none⟩=some u):At w' a cs:=by
 rcases h with h | ⟨b,off,rfl,h⟩
 . exact .inl h
 . exact .inr ⟨b,off,rfl,λ j u hj=>hc b _ u ⟨_,rfl,rfl⟩ (h j u hj)⟩
theorem Sl.mono {w w':bG} {sz:Nat} {v:bF} {n:Nat} {cs:List bF} (h:Sl w sz v n cs) (hc:∀b o u,v.ownBlock=some b->w.cell? ⟨b,o,none⟩=some u->w'.cell? ⟨b,o,none⟩=some u):Sl w' sz v n cs:=by
 obtain ⟨h1,h2,a,cap,rfl,h3,h4,h5,h6⟩:=h;refine ⟨h1,h2,a,cap,rfl,h3,h4,h5,h6.mono λ b o u ⟨x,e1,e2⟩=>hc b o u ?_⟩;subst e1;simp [bF.ownBlock,e2]
theorem Sl.keep {w w':bG} {sz:Nat} {v:bF} {n:Nat} {cs:List bF} {S:Nat->Prop} (h:Sl w sz v n cs) (hk:Ai S w w') (hb:∀b,v.ownBlock=some b->¬S b):Sl w' sz v n cs:=
 h.mono λ b o _ e hc=>(hk.cell (p:=⟨b,o,none⟩) (hb b e)).trans hc
theorem Sl.keep' {w w':bG} {sz:Nat} {v:bF} {n:Nat} {cs:List bF} {S:Nat->Prop} (h:Sl w sz v n cs) (hk:Ai S w w') (hb:∀b,v.ownBlock=some b->b<w.heap.size->¬S b):Sl w' sz v n cs:=
 h.mono λ b o _ e hc=>(hk.cell (p:=⟨b,o,none⟩) (hb b e (bG.block_lt_of_cell? w ⟨b,o,none⟩ hc))).trans hc
theorem Sl.below {w w':bG} {sz:Nat} {v:bF} {n:Nat} {cs:List bF} (h:Sl w sz v n cs) (hk:Below w.heap.size w w'):Sl w' sz v n cs:=
 h.mono λ _ _ _ _ hc=>Bj hk hc
theorem Sl.drew {w:bG} {sz:Nat} {v:bF} {n:Nat} {cs:List bF} (h:Sl w sz v n cs):Sl w.drew sz v n cs:=h.mono λ _ _ _ _ hc=>hc
theorem Sl.alloc {w:bG} {sz:Nat} {v:bF} {n:Nat} {cs:List bF} (h:Sl w sz v n cs) (o:Obj):Sl (w.alloc o) sz v n cs:=
 h.below ((aE _ _).alloc (aB _) _)
theorem Sl.setCell {w:bG} {sz:Nat} {v:bF} {n:Nat} {cs:List bF} (h:Sl w sz v n cs) {p:Addr} (hp:v.ownBlock≠some p.block) (u:bF):Sl (w.setCell p u) sz v n cs:=
 h.keep (S:=λ k=>k=p.block) (Ai.setCell (Ai.refl (λ k=>k=p.block) w) (p:=p) rfl u) (λ b hb e=>hp (by rw [hb,e]))
theorem Sl.nil (w:bG) (sz:Nat) (a:Option Addr):Sl w sz (.slice a 0 0) 0 []:=⟨by simp,by simp,a,0,rfl,aB _,aK _,λ _=>rfl,.inl rfl⟩
theorem Sl.form {w:bG} {sz:Nat} {v:bF} {n:Nat} {cs:List bF} (h:Sl w sz v n cs):∃a cap,v=.slice a n cap/\n<=cap/\cap<=maxLen:=
 let ⟨_,_,a,cap,e,h1,h2,_⟩:=h; ⟨a,cap,e,h1,h2⟩
theorem Sl.addr {w:bG} {sz:Nat} {a:Option Addr} {n cap:Nat} {cs:List bF} (h:Sl w sz (.slice a n cap) n cs) (hpos:0<cs.length): ∃b off,a=some ⟨b,off,none⟩/\∀j u,cs[j]?=some u->w.cell? ⟨b,off+j,none⟩=some u:=by
 obtain ⟨_,_,a',cap',e,_,_,_,h0 | h⟩:=h
 . subst h0; simp at hpos
 . injection e with e1 e2 e3;subst e1;exact h
def Own (w:bG) (B:Nat) (e:bH) (sz:Nat) (v:bF) (n:Nat) (cs:List bF):Prop:=
 cs.length=n*sz/\(∀u∈cs,u.oneCell'=true)/\
 ((∃a,v=.slice a 0 0/\n=0)\/
  ∃g cap cur,v=.slice (some ⟨g,0,none⟩) n cap/\B<=g/\w.heap[g]?=some (.cells cur e (0,0))/\n<=cap/\cap<=maxLen/\cur.size=cap*sz/\cur.toList.take (n*sz)=cs)
theorem Own.of_row {w:bG} {B:Nat} {e:bH} {sz:Nat} {v:bF} {n:Nat} {cs:List bF} (h:w.ownsRow B e sz v n cs) (h1:∀u∈cs,u.oneCell'=true):Own w B e sz v n cs:=by
 obtain ⟨h0,h2⟩:=h;refine ⟨h0,h1,?_⟩;rcases h2 with ⟨h2,h3⟩ | h2
 . exact .inl ⟨none,h2,h3⟩
 . exact .inr h2
theorem Own.sl {w:bG} {B:Nat} {e:bH} {sz:Nat} {v:bF} {n:Nat} {cs:List bF} (h:Own w B e sz v n cs):Sl w sz v n cs:=by
 obtain ⟨h0,h1,⟨a,rfl,rfl⟩ | ⟨g,cap,cur,rfl,h2,h3,h4,h5,h6,h7⟩⟩:=h
 . exact ⟨h0,h1,a,0,rfl,aB _,aK _,λ _=>rfl,.inl (aL (by simpa using h0))⟩
 . refine ⟨h0,h1,_,cap,rfl,h4,h5,λ h=>by simp at h,.inr ⟨g,0,rfl,λ j u hj=>?_⟩⟩;have hjl:j<n*sz:=by have:=(List.getElem?_eq_some_iff.1 hj).1; omega
   rw [<-h7,aH,if_pos hjl] at hj;rw [aC,cell_of_row w g j cur e (0,0) h3,<-aS];exact hj
theorem Own.base {w:bG} {B B':Nat} {e:bH} {sz:Nat} {v:bF} {n:Nat} {cs:List bF} (h:Own w B e sz v n cs) (hB:B'<=B):Own w B' e sz v n cs:=by
 obtain ⟨h0,h1,h2 | ⟨g,cap,cur,hv,h2,hr⟩⟩:=h
 . exact ⟨h0,h1,.inl h2⟩
 . exact ⟨h0,h1,.inr ⟨g,cap,cur,hv,by omega,hr⟩⟩
theorem Own.keep {w w':bG} {B:Nat} {e:bH} {sz:Nat} {v:bF} {n:Nat} {cs:List bF} {S:Nat->Prop} (h:Own w B e sz v n cs) (hk:Ai S w w') (hb:∀b,v.ownBlock=some b->¬S b):Own w' B e sz v n cs:=by
 obtain ⟨h0,h1,h2 | ⟨g,cap,cur,rfl,h2,h3,hr⟩⟩:=h
 . exact ⟨h0,h1,.inl h2⟩
 . exact ⟨h0,h1,.inr ⟨g,cap,cur,rfl,h2,(hk.block g (hb g rfl)).trans h3,hr⟩⟩
theorem Own.below {w w':bG} {B:Nat} {e:bH} {sz:Nat} {v:bF} {n:Nat} {cs:List bF} (h:Own w B e sz v n cs) (hk:Below w.heap.size w w'):Own w' B e sz v n cs:=by
 obtain ⟨h0,h1,h2 | ⟨g,cap,cur,rfl,h2,h3,hr⟩⟩:=h
 . exact ⟨h0,h1,.inl h2⟩
 . exact ⟨h0,h1,.inr ⟨g,cap,cur,rfl,h2,(hk.block g (Hg h3)).trans h3,hr⟩⟩
theorem Own.alloc {w:bG} {B:Nat} {e:bH} {sz:Nat} {v:bF} {n:Nat} {cs:List bF} (h:Own w B e sz v n cs) (o:Obj):Own (w.alloc o) B e sz v n cs:=
 h.below ((aE _ _).alloc (aB _) _)
theorem Own.drew {w:bG} {B:Nat} {e:bH} {sz:Nat} {v:bF} {n:Nat} {cs:List bF} (h:Own w B e sz v n cs):Own w.drew B e sz v n cs:=
 h.below ((aE _ _).drew)
theorem Own.nil (w:bG) (B:Nat) (e:bH) (sz:Nat) (a:Option Addr):Own w B e sz (.slice a 0 0) 0 []:=⟨by simp,by simp,.inl ⟨a,rfl,rfl⟩⟩
theorem Jr (a b:ByteArray):a.toList=b.toList↔a=b:=by
 rw [ByteArray.toList_eq,ByteArray.toList_eq];obtain ⟨⟨x⟩⟩:=a;obtain ⟨⟨y⟩⟩:=b;simp
def Cp (P:bI) (t e:bH) (size bytes:Nat) (z:bF):Prop:=
 P.underlying t=some (.slice e)/\∃i,P.info? e=some i/\i.zero=some z/\i.size=size/\i.bytes=bytes/\z.cells.size=size/\0<size
theorem Cp.mk {P:bI} {t e:bH} {z:bF} {size bytes:Nat} (h:P.underlying t=some (.slice e)) (h2:(P.info? e).map (λ i=>(i.zero,i.size,i.bytes))=some (some z,size,bytes)) (h3:z.cells.size=size) (h4:0<size):Cp P t e size bytes z:=by
 obtain ⟨i,hi,hz0,hz1,hz2⟩:=info_parts h2;exact ⟨h,i,hi,hz0,hz1,hz2,h3,h4⟩
theorem At.one {w:bG} {b:Nat} {cs:Array bF} {T:bH} {fz:Nat×Nat} (h:w.heap[b]?=some (.cells cs T fz)):At w (some ⟨b,0,none⟩) cs.toList:=by
 refine .inr ⟨b,0,rfl,λ j u hj=>?_⟩;rw [aC,cell_of_row w b j cs T fz h,<-aS];exact hj
theorem Sl.lit {w:bG} {cs:Array bF} {T:bH} {sz n b:Nat} (hb:w.heap.size=b) (hl:cs.toList.length=n*sz) (h1:∀u∈cs.toList,u.oneCell'=true) (hn:n<=maxLen): Sl (w.alloc (.cells cs T)) sz (.slice (some ⟨b,0,none⟩) n n) n cs.toList:=by
 subst hb;exact ⟨hl,h1,_,n,rfl,aB _,hn,λ h=>by simp at h,At.one (heap_alloc_new w _)⟩
theorem I8 {α:Type} (x:α) (l:List α) (k:Nat) (h:k<l.length) (h1:x∉l.take k) (h2:l[k]≠x):x∉l.take (k+1):=by
 rw [List.take_succ_eq_append_getElem h,List.mem_append];rintro (h3 | h3)
 . exact h1 h3
 . exact h2 (List.mem_singleton.1 h3).symm
theorem Ra {P:bI} {w:bG} {t ty e:bH} {size bytes:Nat} {z:bF} (hE:Cp P t e size bytes z) {B:Nat} {v:bF} {n:Nat} {cs:List bF} (hown:Own w B e size v n cs) {x:bF} {m:Nat} {ds:List bF} (hsl:Sl w size x m ds) (h63:n+m<=maxLen) (hbytes:(n+m)*bytes<=140737488355328) (hbase:B<=w.heap.size): ∃v' w',(Builtin.append_ #[t,t] ty #[v,x]).run P w=.ok v' w'/\Own w' B e size v' (n+m) (cs++ds)/\Ai (λ k=>v.ownBlock=some k/\B<=k\/w.heap.size<=k) w w'/\(∀b,v'.ownBlock=some b->v.ownBlock=some b\/w.heap.size<=b):=by
 obtain ⟨ht,i,hi,hz,hsize,hby,hzs,hsz⟩:=hE;obtain ⟨hdl,hd1,a,c,rfl,hmc,hcm,hanone,hat⟩:=hsl;obtain ⟨hcl,hc1,hform⟩:=hown;have hall:∀u∈cs++ds,u.oneCell'=true:=by
  intro u hu;rcases List.mem_append.1 hu with h | h
  . exact hc1 u h
  . exact hd1 u h
 have hlen:(cs++ds).length=(n+m)*size:=by rw [aY,hcl,hdl,aI]
 by_cases hm0:m=0
 ·
  subst hm0;obtain rfl:ds= []:=aL (by simpa using hdl);have hfc:(Builtin.firstCells size 0 (.slice a 0 c)).run P w=.ok #[] w:=by
   cases a <;> simp [Builtin.firstCells,loadCells,loadCellsFrom]
  refine ⟨v,w,?_,⟨by simpa using hcl,by simpa using hc1,by simpa using hform⟩,Ai.refl _ _,λ b h=>.inl h⟩;rcases hform with ⟨a0,rfl,rfl⟩ | ⟨g,cap,cur,rfl,_,_,hnc,_⟩
  . cases a0 <;> simp [Builtin.append_,run_underlying ht,sizeOf,typeInfo,hi,Builtin.lenOf,hsize,hfc,storeCells]
  . simp [Builtin.append_,run_underlying ht,sizeOf,typeInfo,hi,Builtin.lenOf,hsize,hfc,hnc,storeCells]
 . have hdpos:0<ds.length:=by rw [hdl]; exact aZ (by omega) hsz
   obtain ⟨b,off,rfl,hcell⟩:∃b off,a=some ⟨b,off,none⟩/\∀j u,ds[j]?=some u->w.cell? ⟨b,off+j,none⟩=some u:=by
    rcases hat with h | h
    . subst h; simp at hdpos
    . exact h
   have hnews:∀j u,ds[j]?=some u->w.cell? ((⟨b,off,none⟩:Addr).add j)=some u:=λ j u hj=>by rw [Addr.add_lit]; exact hcell j u hj
   have fresh:∀(v':bF) (w':bG),w'.ownsRow w.heap.size e size v' (n+m) (cs++ds)->w.grownBy w' none->
    Own w' B e size v' (n+m) (cs++ds)/\Ai (λ k=>v.ownBlock=some k/\B<=k\/w.heap.size<=k) w w'/\(∀b,v'.ownBlock=some b->v.ownBlock=some b\/w.heap.size<=b):=by
    intro v' w' h1 h2;refine ⟨(Own.of_row h1 hall).base hbase,(Ai.refl _ _).grown h2 (λ k hk=>Or.inr hk) (by simp),λ b hb=>.inr (h1.lt b hb).1⟩
   rcases hform with ⟨a0,rfl,rfl⟩ | ⟨g,cap,cur,rfl,hbg,hg,hnc,hcm',hcs,htake⟩
   . obtain rfl:cs= []:=aL (by simpa using hcl)
     cases a0 with
     | none=>
      obtain ⟨v',w',hr,h1,h2,_⟩:=run_append_own (P:=P) w w.heap.size t ty e i z size bytes ht hi hz hsize hby hzs hsz (.slice none 0 0) 0 [] (bG.ownsRow_nil w _ e size) ⟨b,off,none⟩ m c ds hdl hnews hd1 h63 hbytes (aB _);exact ⟨v',w',hr,fresh v' w' h1 h2⟩
     | some b0=>
      obtain ⟨v',w',hr,h1,h2⟩:=run_append_arg_grows (P:=P) w t ty e i z size bytes ht hi hz hsize hby hzs hsz b0 0 0 [] (by simp) (by simp) ⟨b,off,none⟩ m c ds hdl hnews (by omega) h63 hbytes;exact ⟨v',w',hr,fresh v' w' h1 h2⟩
   . by_cases hroom:n+m<=cap
     . obtain ⟨w',hr,h1,h2⟩:=run_append_fits (P:=P) w B t ty e i size ht hi hsize g n cap cs ⟨hcl,.inr ⟨g,cap,cur,rfl,hbg,hg,hnc,hcm',hcs,htake⟩⟩ ⟨b,off,none⟩ m c ds hdl hnews hd1 hroom;exact ⟨_,w',hr,Own.of_row h1 hall,(Ai.refl _ _).grown h2 (λ k hk=>Or.inr hk) (λ k hk=>by simp only [Option.some.injEq] at hk; subst hk; exact .inl ⟨rfl,hbg⟩),λ b hb=>.inl hb⟩
     . have holds:∀j u,cs[j]?=some u->w.cell? ((⟨g,0,none⟩:Addr).add j)=some u:=by
        intro j u hj;have hjl:j<n*size:=by have:=(List.getElem?_eq_some_iff.1 hj).1; omega
        rw [<-htake,aH,if_pos hjl] at hj;rw [Addr.add_lit,aC,cell_of_row w g j cur e (0,0) hg,<-aS];exact hj
       obtain ⟨v',w',hr,h1,h2⟩:=run_append_arg_grows (P:=P) w t ty e i z size bytes ht hi hz hsize hby hzs hsz ⟨g,0,none⟩ n cap cs hcl holds ⟨b,off,none⟩ m c ds hdl hnews (by omega) h63 hbytes;exact ⟨v',w',hr,fresh v' w' h1 h2⟩
theorem Bh {P:bI} {ops:Array bJ} {rest:List bJ} {o:bJ} {a:Act} {w:bG} {Q:Exit->Act->bG->Prop} (hw:Region.wanted o (yielded ops a.tmps)=true) (h:∀K:Act->bG->Prop,(∀a w,wpList P ops Q rest a w->K a w)->o.wp P a w K Q):wpList P ops Q (o::rest) a w:=
 wpList_step λ K hK=>by rw [if_pos hw]; exact h K hK
theorem Nr {P:bI} {w:bG} {ops:Array bJ} {rest:List bJ} {o:bJ} {a:Act} {Q:Exit->Act->bG->Prop} (hgd:Region.wanted o (yielded ops a.tmps)=true) (s x:Operand) {t e:bH} {size bytes:Nat} {z:bF} (hE:Cp P t e size bytes z) (ho:o.op=.call { callee:=.builtin .append,args:=#[s,x],argTypes:=#[t,t] }) (B:Nat) {n:Nat} {cs:List bF} (hown:Own w B e size (a.eval s) n cs) {m:Nat} {ds:List bF} (hsl:Sl w size (a.eval x) m ds) (h63:n+m<=maxLen) (hbytes:(n+m)*bytes<=140737488355328) (hbase:B<=w.heap.size) (h:∀v' w',Own w' B e size v' (n+m) (cs++ds)->Ai (λ k=>(a.eval s).ownBlock=some k/\B<=k\/w.heap.size<=k) w w'->(∀b,v'.ownBlock=some b->(a.eval s).ownBlock=some b\/w.heap.size<=b)->wpList P ops Q rest (a.put o.dst v') w'):wpList P ops Q (o::rest) a w:=by
 obtain ⟨v',w',hr,h2,h3,h4⟩:=Ra (P:=P) (ty:=o.type) hE hown hsl h63 hbytes hbase;refine Bh hgd λ K hK=>?_
 unfold bJ.wp execOp;simp only [ho,resolve,invoke,builtin,Sem.run_bind,Sem.run_pure,Result.andThen_ok,aF,aA,aG,hr];exact hK _ _ (h v' w' h2 h3 h4)
theorem A5A {P:bI} {ops:Array bJ} {o:bJ} {a:Act} {w:bG} {K:Act->bG->Prop} {Q:Exit->Act->bG->Prop} {E:Prop} (hgd:o.guard=none) (s x:Operand) {t e:bH} {size bytes:Nat} {z:bF} (hE:Cp P t e size bytes z) (ho:o.op=.call { callee:=.builtin .append,args:=#[s,x],argTypes:=#[t,t] }) (B:Nat) {v:bF} (hv:a.eval s=v) {n:Nat} {cs:List bF} (hown:Own w B e size v n cs) {u:bF} (hu:a.eval x=u) {m:Nat} {ds:List bF} (hsl:Sl w size u m ds) (h63:n+m<=maxLen) (hbytes:(n+m)*bytes<=140737488355328) (hbase:B<=w.heap.size) (h:∀v' w',Own w' B e size v' (n+m) (cs++ds)->Ai (λ k=>v.ownBlock=some k/\B<=k\/w.heap.size<=k) w w'->(∀b,v'.ownBlock=some b->v.ownBlock=some b\/w.heap.size<=b)->K (a.put o.dst v') w'): if Region.wanted o (yielded ops a.tmps)=true then bJ.wp P o a w K Q else E:=by
 have hw:Region.wanted o (yielded ops a.tmps)=true:=by simp [Region.wanted,hgd]
 rw [if_pos hw];obtain ⟨v',w',hr,h2,h3,h4⟩:=Ra (P:=P) (ty:=o.type) hE hown hsl h63 hbytes hbase;unfold bJ.wp execOp;simp only [ho,resolve,invoke,builtin,Sem.run_bind,Sem.run_pure,Result.andThen_ok,aF,aA,aG,hv,hu,hr];exact h v' w' h2 h3 h4
theorem A5t {P:bI} {w:bG} {dT sT ty e:bH} {bytes:Nat} {z:bF} (hE:Cp P dT e 1 bytes z) {g o dLen dCap:Nat} {cur:List bF} {T:bH} (hb:Blk w g cur T) {v:bF} {n:Nat} {cs:List bF} (hsl:Sl w 1 v n cs) (hfit:o+min n dLen<=cur.length): ∃w',(Builtin.copy_ #[dT,sT] ty #[.slice (some ⟨g,o,none⟩) dLen dCap,v]).run P w=.ok (.int .i64 (min n dLen:Nat)) w'/\ Blk w' g (cur.take o++cs.take (min n dLen)++cur.drop (o+min n dLen)) T/\Ai (λ k=>k=g) w w':=by
 obtain ⟨ht,i,hi,hz,hsize,hby,hzs,hsz⟩:=hE;obtain ⟨hcl,hc1,a,cap,rfl,hnc,hcm,hanone,hat⟩:=hsl;have hl:(cs.take (min n dLen)).length=min n dLen:=by rw [aO]; omega
 cases a with
 | none=>
  have hc0:=hanone rfl;obtain rfl:n=0:=by omega
  subst hc0;refine ⟨w,?_,?_,Ai.refl _ _⟩
  . simp [Builtin.copy_,run_underlying ht,Builtin.lenOf,Builtin.firstCells,sizeOf,typeInfo,hi,storeCells,goInt]
  . simpa using hb
 | some ad=>
  have hsrc:∀j v,(cs.take (min n dLen))[j]?=some v->w.cell? (ad.add j)=some v:=by
   intro j v hj;rw [aH] at hj;split at hj
   . rcases hat with h | ⟨b,off,e,h⟩
     . subst h; simp at hj
     . simp only [Option.some.injEq] at e;subst e;rw [Addr.add_lit];exact h j v hj
   . simp at hj
  have hr:=run_copy_row (P:=P) w dT sT ty e g o dLen dCap ad n cap cur.toArray T (cs.take (min n dLen)) ht (by simp [hi,hsize]) hb hl hsrc (by rw [hl]; simpa using hfit) (λ v hv=>hc1 v (bA hv));rw [hl] at hr;refine ⟨_,hr,?_,Ai.oneRow _ _ _⟩;unfold Blk;rw [setRow_heap w g cur.toArray _ T _ hb]
theorem Vz {P:bI} {w:bG} {ops:Array bJ} {rest:List bJ} {o:bJ} {a:Act} {Q:Exit->Act->bG->Prop} (hgd:Region.wanted o (yielded ops a.tmps)=true) (d s:Operand) {dT sT e:bH} {bytes:Nat} {z:bF} (hE:Cp P dT e 1 bytes z) (ho:o.op=.call { callee:=.builtin .copy,args:=#[d,s],argTypes:=#[dT,sT] }) {g off dLen dCap:Nat} (hd:a.eval d=.slice (some ⟨g,off,none⟩) dLen dCap) {cur:List bF} {T:bH} (hb:Blk w g cur T) {u:bF} (hu:a.eval s=u) {n:Nat} {cs:List bF} (hsl:Sl w 1 u n cs) (hfit:off+min n dLen<=cur.length) (h:∀w',Blk w' g (cur.take off++cs.take (min n dLen)++cur.drop (off+min n dLen)) T->Ai (λ k=>k=g) w w'->wpList P ops Q rest (a.put o.dst (.int .i64 (min n dLen:Nat))) w'):wpList P ops Q (o::rest) a w:=by
 obtain ⟨w',hr,h2,h3⟩:=A5t (P:=P) (sT:=sT) (ty:=o.type) (dCap:=dCap) hE hb hsl hfit;refine Bh hgd λ K hK=>?_
 unfold bJ.wp execOp;simp only [ho,resolve,invoke,builtin,Sem.run_bind,Sem.run_pure,Result.andThen_ok,aF,aA,aG,hd,hu,hr];exact hK _ _ (h w' h2 h3)
theorem A6G {P:bI} {w:bG} {t ty e:bH} {bytes:Nat} {z:bF} (hE:Cp P t e 1 bytes z) (hz1:z.oneCell'=true) {g o n cap:Nat} {cur:List bF} {T:bH} (hb:Blk w g cur T) (hfit:o+n<=cur.length): ∃w',(Builtin.clear_ #[t] ty #[.slice (some ⟨g,o,none⟩) n cap]).run P w=.ok (.tuple #[]) w'/\Blk w' g (cur.take o++aM n z++cur.drop (o+n)) T/\Ai (λ k=>k=g) w w':=by
 obtain ⟨ht,i,hi,hz,hsize,hby,hzs,hsz⟩:=hE
 cases n with
 | zero=>exact ⟨w,by simp [Builtin.clear_,run_underlying ht],by simpa using hb,Ai.refl _ _⟩
 | succ n=>
  have hzc:z.cells=#[z]:=by cases z <;> simp_all [bF.cells,bF.oneCell']
  have hzl:(Builtin.zeroCells z.cells (n+1)).toList=aM (n+1) z:=by
   rw [hzc];apply List.ext_getElem?;intro j;by_cases hj:j<n+1 <;> simp [Builtin.zeroCells,hj,Nat.mod_one]
  have hst:=run_storeCells_at P g o T (aM (n+1) z) 0 cur.toArray w hb (by simp; omega) (λ v hv=>by rw [List.eq_of_mem_replicate hv]; exact hz1);simp only [aT,List.length_replicate] at hst;refine ⟨w.setRow g (cur.take o++aM (n+1) z++cur.drop (o+(n+1))).toArray,?_,?_,Ai.oneRow _ _ _⟩
  . simp only [Builtin.clear_];simp [run_underlying ht,zeroValue,typeInfo,hi,hz,hzl,hst]
  . unfold Blk;rw [setRow_heap w g cur.toArray _ T _ hb]
theorem Tx {P:bI} {w:bG} {ops:Array bJ} {rest:List bJ} {o:bJ} {a:Act} {Q:Exit->Act->bG->Prop} (hgd:Region.wanted o (yielded ops a.tmps)=true) (d:Operand) {t e:bH} {bytes:Nat} {z:bF} (hE:Cp P t e 1 bytes z) (hz1:z.oneCell'=true) (ho:o.op=.call { callee:=.builtin .clear,args:=#[d],argTypes:=#[t] }) {g off n cap:Nat} (hd:a.eval d=.slice (some ⟨g,off,none⟩) n cap) {cur:List bF} {T:bH} (hb:Blk w g cur T) (hfit:off+n<=cur.length) (h:∀w',Blk w' g (cur.take off++aM n z++cur.drop (off+n)) T->Ai (λ k=>k=g) w w'->wpList P ops Q rest (a.put o.dst (.tuple #[])) w'):wpList P ops Q (o::rest) a w:=by
 obtain ⟨w',hr,h2,h3⟩:=A6G (P:=P) (ty:=o.type) (cap:=cap) hE hz1 hb hfit;refine Bh hgd λ K hK=>?_
 unfold bJ.wp execOp;simp only [ho,resolve,invoke,builtin,Sem.run_bind,Sem.run_pure,Result.andThen_ok,aF,aA,aG,hd,hr];exact hK _ _ (h w' h2 h3)
def A1M:TypeDesc->Bool
 | .struct _=>true
 | .array _ _=>true
 | _=>false
def A3 (P:bI) (ty:bH) (m:Nat):Prop:=∃d i,P.underlying ty=some d/\A1M d=true/\P.info? ty=some i/\i.size=m
theorem A3.mk {P:bI} {ty:bH} {m:Nat} {d:TypeDesc} (h1:P.underlying ty=some d) (h2:A1M d=true) (h3:(P.info? ty).map (·.size)=some m):A3 P ty m:=by
 cases hq:P.info? ty with
 | none=>simp [hq] at h3
 | some i=>exact ⟨d,i,h1,h2,hq,by simpa [hq] using h3⟩
def Ao (w:bG) (b o:Nat) (cs:List bF):Prop:=∀j u,cs[j]?=some u->w.cell? ⟨b,o+j,none⟩=some u
theorem Blk.cellsAt {w:bG} {b:Nat} {cs:List bF} {T:bH} (h:Blk w b cs T) (o m:Nat):Ao w b o ((cs.drop o).take m):=by
 intro j u hj;rw [h.cell];rw [aH] at hj;split at hj
 . rwa [aP] at hj
 . simp at hj
theorem Blk.cellsAll {w:bG} {b:Nat} {cs:List bF} {T:bH} (h:Blk w b cs T):Ao w b 0 cs:=by
 intro j u hj;rw [h.cell,aC];exact hj
theorem Ek {P:bI} {w:bG} {ty:bH} {m b o:Nat} {cs:List bF} (hT:A3 P ty m) (hm:cs.length=m) (hc:Ao w b o cs):(loadVar ty ⟨b,o,none⟩).run P w=.ok (.agg cs.toArray) w:=by
 obtain ⟨d,i,hu,hd,hi,hs⟩:=hT;have hl:=run_loadCells_list (P:=P) w ⟨b,o,none⟩ cs (λ j v hv=>by rw [Addr.add_lit]; exact hc j v hv);have hagg:(isAgg ty).run P w=.ok true w:=by
  unfold isAgg;rw [Sem.run_bind,run_underlying hu w]
  cases d <;> simp_all [A1M]
 simp [loadVar,Sem.run_bind,hagg,sizeOf,typeInfo,hi,hs,<-hm,hl]
theorem Aj {P:bI} {ops:Array bJ} {rest:List bJ} {o:bJ} {a:Act} {w:bG} {Q:Exit->Act->bG->Prop} (hgd:Region.wanted o (yielded ops a.tmps)=true) (x:Operand) {ty:bH} {m:Nat} (hT:A3 P ty m) (ho:o.op=.load ty x) {b off:Nat} (hx:a.eval x=.pointer (some ⟨b,off,none⟩)) {cs:List bF} (hm:cs.length=m) (hc:Ao w b off cs) (h:wpList P ops Q rest (a.put o.dst (.agg cs.toArray)) w):wpList P ops Q (o::rest) a w:=by
 refine Bh hgd λ K hK=>?_
 unfold bJ.wp execOp;simp only [ho,hx,Instr.loadAt,Instr.sureAddr,Sem.run_bind,Sem.run_pure,Result.andThen_ok,Ek hT hm hc];exact hK _ _ h
theorem O6 {P:bI} {w:bG} {ty:bH} {m g o:Nat} {cur vs:List bF} {T:bH} (hT:A3 P ty m) (hm:vs.length=m) (hb:Blk w g cur T) (hfit:o+m<=cur.length) (h1:∀v∈vs,v.oneCell'=true): ∃w',(storeVar ty ⟨g,o,none⟩ (.agg vs.toArray)).run P w=.ok () w'/\Blk w' g (cur.take o++vs++cur.drop (o+m)) T/\Ai (λ k=>k=g) w w':=by
 obtain ⟨d,i,hu,hd,hi,hs⟩:=hT;have hst:=run_storeCells_at P g o T vs 0 cur.toArray w hb (by simp; omega) h1;simp only [aT] at hst;refine ⟨_,?_,?_,Ai.oneRow w g (cur.take o++vs++cur.drop (o+m)).toArray⟩
 . simp [storeVar,bF.cells,sizeOf,typeInfo,hi,hs,hm,hst]
 . unfold Blk;rw [setRow_heap w g cur.toArray _ T _ hb]
theorem Ag {P:bI} {ops:Array bJ} {rest:List bJ} {o:bJ} {a:Act} {w:bG} {Q:Exit->Act->bG->Prop} (hgd:Region.wanted o (yielded ops a.tmps)=true) (x y:Operand) {ty:bH} {m:Nat} (hT:A3 P ty m) (ho:o.op=.store ty x y) {g off:Nat} (hx:a.eval x=.pointer (some ⟨g,off,none⟩)) {vs:List bF} (hy:a.eval y=.agg vs.toArray) (hm:vs.length=m) {cur:List bF} {T:bH} (hb:Blk w g cur T) (hfit:off+m<=cur.length) (h1:∀v∈vs,v.oneCell'=true) (h:∀w',Blk w' g (cur.take off++vs++cur.drop (off+m)) T->Ai (λ k=>k=g) w w'->wpList P ops Q rest (a.put o.dst undef) w'):wpList P ops Q (o::rest) a w:=by
 obtain ⟨w',hr,h2,h3⟩:=O6 hT hm hb hfit h1;refine Bh hgd λ K hK=>?_
 unfold bJ.wp execOp;simp only [ho,hx,hy,Instr.storeAt,Instr.sureAddr,Sem.run_bind,Sem.run_pure,Result.andThen_ok,hr];exact hK _ _ (h w' h2 h3)
theorem Ap {P:bI} {fn:Func} {p u:Tmp} {ty:bH} {m:Nat} (hr:fn.results=#[.cell p ty,.tmp u]) (hT:A3 P ty m) {tmps:Array bF} {w:bG} {b o:Nat} (hp:tmps.getD p undef=.pointer (some ⟨b,o,none⟩)) {cs:List bF} (hm:cs.length=m) (hc:Ao w b o cs): (results fn tmps).run P w=.ok (.tuple #[.agg cs.toArray,tmps.getD u undef]) w:=by
 rw [results_cell_tmp hr,hp];simp [asAddr,Ek hT hm hc,Result.andThen]
theorem Az {P:bI} {fn:Func} {p:Tmp} {ty:bH} {m:Nat} (hr:fn.results=#[.cell p ty]) (hT:A3 P ty m) {tmps:Array bF} {w:bG} {b o:Nat} (hp:tmps.getD p undef=.pointer (some ⟨b,o,none⟩)) {cs:List bF} (hm:cs.length=m) (hc:Ao w b o cs): (results fn tmps).run P w=.ok (.agg cs.toArray) w:=by
 have hp':tmps[p]?.getD undef=.pointer (some ⟨b,o,none⟩):=by simpa using hp
 simp [results,hr,hp',asAddr,Ek hT hm hc]
def bV (x:UInt8):bF:=.int .u8 x.toNat
def Ae (l:Aa):List bF:=l.map bV
def Bs (w:bG) (v:bF) (l:Aa):Prop:=Sl w 1 v l.length (Ae l)
def Du (w:bG) (B:Nat) (v:bF) (l:Aa):Prop:=Own w B 5 1 v l.length (Ae l)
theorem Lb (x:Nat) (h:x<256):bV (UInt8.ofNat x)=.int .u8 x:=by
 simp only [bV,UInt8.toNat_ofNat'];rw [Nat.mod_eq_of_lt (by simpa using h)]
theorem Ac (l:Aa):(Ae l).length=l.length:=by simp [Ae]
theorem Jh (a b:Aa):Ae (a++b)=Ae a++Ae b:=by simp [Ae]
theorem Al (l:Aa):∀u∈Ae l,u.oneCell'=true:=by
 intro u hu;obtain ⟨x,_,rfl⟩:=List.mem_map.1 hu;rfl
theorem Ex (l:Aa) (k:Nat) (h:k<l.length):(Ae l)[k]?=some (bV l[k]):=by simp [Ae,h]
theorem Blk.own {w:bG} {b B:Nat} {cs:List bF} {T:bH} (h:Blk w b cs T) (hb:B<=b) (h1:∀u∈cs,u.oneCell'=true) (hm:cs.length<=maxLen):Own w B T 1 (.slice (some ⟨b,0,none⟩) cs.length cs.length) cs.length cs:=
 ⟨by omega,h1,.inr ⟨b,cs.length,cs.toArray,rfl,hb,h,aB _,hm,by simp,by simp⟩⟩
theorem Bs.lit {w:bG} {cs:Array bF} {b:Nat} (l:Aa) (hb:w.heap.size=b) (hc:cs.toList=Ae l) (hn:l.length<=maxLen):Bs (w.alloc (.cells cs 5)) (.slice (some ⟨b,0,none⟩) l.length l.length) l:=by
 have:=Sl.lit (w:=w) (cs:=cs) (T:=5) (sz:=1) (n:=l.length) hb (by rw [hc,Ac]; omega) (by rw [hc]; exact Al _) hn;rw [hc] at this;exact this
theorem Bs.below {w w':bG} {v:bF} {l:Aa} (h:Bs w v l) (hk:Below w.heap.size w w'):Bs w' v l:=Sl.below h hk
theorem Bs.alloc {w:bG} {v:bF} {l:Aa} (h:Bs w v l) (o:Obj):Bs (w.alloc o) v l:=Sl.alloc h o
theorem Du.bs {w:bG} {B:Nat} {v:bF} {l:Aa} (h:Du w B v l):Bs w v l:=Own.sl h
theorem Blk.bs {w:bG} {b:Nat} {l:Aa} {T:bH} (h:Blk w b (Ae l) T) {off n cap:Nat} (hf:off+n<=l.length) (hc:n<=cap) (hm:cap<=maxLen): Sl w 1 (.slice (some ⟨b,off,none⟩) n cap) n (Ae ((l.drop off).take n)):=by
 have hl:(Ae ((l.drop off).take n)).length=n:=by rw [Ac,aO,aU]; omega
 refine ⟨by rw [hl]; omega,Al _,some ⟨b,off,none⟩,cap,rfl,hc,hm,(λ h=>by cases h),.inr ⟨b,off,rfl,λ j u hj=>?_⟩⟩;have hj':j<n:=by have:=(List.getElem?_eq_some_iff.1 hj).1; omega
 rw [h.cell];simp only [Ae,bB,aH,aP,hj',if_true] at hj ⊢;exact hj
theorem Sl.bs {w:bG} {v:bF} {n:Nat} {l l':Aa} (h:Sl w 1 v n (Ae l)) (he:l=l') (hn:l'.length=n):Bs w v l':=by subst he hn; exact h
theorem Sl.mid {w:bG} {b o cap0 n0:Nat} {l:Aa} (h:Sl w 1 (.slice (some ⟨b,o,none⟩) n0 cap0) n0 (Ae l)) {off n cap:Nat} (hf:off+n<=n0) (hc:n<=cap) (hm:cap<=maxLen): Sl w 1 (.slice (some ⟨b,o+off,none⟩) n cap) n (Ae ((l.drop off).take n)):=by
 have hll:l.length=n0:=by have:=h.1; rw [Ac] at this; omega
 have hl:(Ae ((l.drop off).take n)).length=n:=by rw [Ac,aO,aU]; omega
 refine ⟨by rw [hl]; omega,Al _,some ⟨b,o+off,none⟩,cap,rfl,hc,hm,(λ h=>by cases h),?_⟩;by_cases hn:n=0
 . exact .inl (aL (by omega))
 . obtain ⟨b',o',e,hcell⟩:=h.addr (by rw [Ac]; omega);injection e with e;injection e with e1 e2 e3;subst e1 e2;refine .inr ⟨b,o+off,rfl,λ j u hj=>?_⟩;have hj':j<n:=by have:=(List.getElem?_eq_some_iff.1 hj).1; omega
   rw [bC];refine hcell _ _ ?_;simp only [Ae,bB,aH,aP,hj',if_true] at hj ⊢;exact hj
theorem Du.blk {w:bG} {B:Nat} {v:bF} {l:Aa} (h:Du w B v l) (hl:0<l.length): ∃g cap rest,v=.slice (some ⟨g,0,none⟩) l.length cap/\B<=g/\Blk w g (Ae l++rest) 5/\l.length<=cap/\cap<=maxLen:=by
 obtain ⟨h0,h1,⟨a,_,hn⟩ | ⟨g,cap,cur,rfl,h2,h3,h4,h5,h6,h7⟩⟩:=h
 . omega
 . refine ⟨g,cap,cur.toList.drop (l.length*1),rfl,h2,?_,h4,h5⟩;rw [<-h7,List.take_append_drop];exact h3
theorem Bs.none (w:bG) (a:Option Addr) (cap:Nat) (h:a=.none->cap=0) (hm:cap<=maxLen):Bs w (.slice a 0 cap) []:=
 ⟨by simp [Ae],by simp [Ae],a,cap,rfl,aK _,hm,h,.inl rfl⟩
theorem Sl.lt {w:bG} {sz b o n cap:Nat} {cs:List bF} (h:Sl w sz (.slice (some ⟨b,o,none⟩) n cap) n cs) (hpos:0<cs.length):b<w.heap.size:=by
 obtain ⟨b',o',e,hc⟩:=h.addr hpos;injection e with e;injection e with e1 e2 e3;subst e1;obtain ⟨u,hu⟩:∃u,cs[0]?=some u:=⟨_,List.getElem?_eq_getElem hpos⟩
 exact bG.block_lt_of_cell? w _ (hc 0 u hu)
theorem Own.form' {w:bG} {B:Nat} {e:bH} {sz:Nat} {v:bF} {n:Nat} {cs:List bF} (h:Own w B e sz v n cs) (hn:0<n): ∃g cap cur,v=.slice (some ⟨g,0,none⟩) n cap/\B<=g/\w.heap[g]?=some (.cells cur e (0,0))/\n<=cap/\cap<=maxLen/\cur.size=cap*sz/\cur.toList.take (n*sz)=cs:=by
 obtain ⟨_,_,⟨a,_,h0⟩ | h⟩:=h
 . omega
 . exact h
theorem Sl.keepF {w w':bG} {sz:Nat} {v:bF} {n:Nat} {cs:List bF} {F S:Nat->Prop} (h:Sl w sz v n cs) (hk:Ai S w w') (hf:0<n->∀x,v.ownBlock=some x->F x) (hs:∀b,F b->b<w.heap.size->¬S b):Sl w' sz v n cs:=by
 by_cases hn:0<n
 . exact Sl.keep' h hk (λ x hx hl=>hs x (hf hn x hx) hl)
 . obtain ⟨h1,h2,a,cap,e,h3,h4,h5,_⟩:=h
   have:cs= []:=aL (by rw [h1,show n=0 by omega,aV]);exact ⟨h1,h2,a,cap,e,h3,h4,h5,.inl this⟩
theorem Sl.own_lt {w:bG} {sz:Nat} {v:bF} {n:Nat} {cs:List bF} (h:Sl w sz v n cs) (hsz:0<sz) (hn:0<n):∀x,v.ownBlock=some x->x<w.heap.size:=by
 intro x hx;obtain ⟨a,c,rfl,_⟩:=h.form;have hpos:0<cs.length:=by rw [h.1]; exact aZ hn hsz
 obtain ⟨b,o,rfl,_⟩:=h.addr hpos;simp [bF.ownBlock] at hx;subst hx;exact Sl.lt h hpos
theorem Bs.litM {w:bG} {cs:Array bF} {b:Nat} {fz:Nat×Nat} (l:Aa) (hb:w.heap.size=b) (hc:cs.toList=Ae l) (hn:l.length<=maxLen):Bs (w.alloc (.cells cs 5 fz)) (.slice (some ⟨b,0,Option.none⟩) l.length l.length) l:=by
 subst hb;refine ⟨by rw [Ac]; omega,Al _,_,_,rfl,aB _,hn,(λ h=>by cases h),?_⟩;rw [<-hc];exact At.one (heap_alloc_new w _)
theorem Lj {α:Type} {n:Nat} (f:α->List bF):∀(l:List α),(∀x∈l,(f x).length=n)->((l.map f).flatten).length=l.length*n
 | [],_=>by simp
 | x::l,h=>by
  rw [aA,aJ,aY,Lj f l (λ y hy=>h y (by simp [hy])),h x (by simp),aW,aI];omega
theorem U3 {α:Type} {n:Nat} (f:α->List bF):∀(l:List α),(∀x∈l,(f x).length=n)->∀k,((l.map f).flatten).take (k*n)=((l.take k).map f).flatten
 | [],_,k=>by simp
 | x::l,h,0=>by simp
 | x::l,h,k+1=>by
  have hx:=h x (by simp);rw [aA,aJ,List.take_succ_cons,aA,aJ,<-U3 f l (λ y hy=>h y (by simp [hy])) k,show (k+1)*n=(f x).length+k*n by rw [aI]; omega,List.take_length_add_append]
theorem U2 {α:Type} {n:Nat} (f:α->List bF):∀(l:List α),(∀x∈l,(f x).length=n)->∀k,((l.map f).flatten).drop (k*n)=((l.drop k).map f).flatten
 | [],_,k=>by simp
 | x::l,h,0=>by simp
 | x::l,h,k+1=>by
  have hx:=h x (by simp);rw [aA,aJ,List.drop_succ_cons,<-U2 f l (λ y hy=>h y (by simp [hy])) k,show (k+1)*n=(f x).length+k*n by rw [aI]; omega,List.drop_length_add_append]
theorem Sl.sub {w:bG} {sz b o n cap:Nat} {cs:List bF} (h:Sl w sz (.slice (some ⟨b,o,none⟩) n cap) n cs) (j m cap':Nat) (hj:j+m<=n) (hc:m<=cap') (hm:cap'<=maxLen): Sl w sz (.slice (some ⟨b,o+j*sz,none⟩) m cap') m ((cs.drop (j*sz)).take (m*sz)):=by
 obtain ⟨h1,h2,a,c,e,h3,h4,h5,h6⟩:=h;simp only [bF.slice.injEq,true_and] at e;obtain ⟨rfl,rfl⟩:=e;have hl:j*sz+m*sz<=n*sz:=by rw [<-aI]; exact Nat.mul_le_mul_right _ hj
 refine ⟨by simp only [aO,aU,h1]; omega,λ u hu=>h2 u (List.mem_of_mem_drop (bA hu)),_,cap',rfl,hc,hm,by simp,?_⟩;rcases h6 with h6 | ⟨b',o',e,h6⟩
 . subst h6;exact .inl (by simp)
 . simp only [Option.some.injEq,Addr.mk.injEq,and_true] at e;obtain ⟨rfl,rfl⟩:=e;refine .inr ⟨b,_,rfl,λ i u hi=>?_⟩;rw [aH] at hi;split at hi
   . rw [aP] at hi;rw [bC];exact h6 _ u hi
   . simp at hi
theorem Nn {P:bI} {t e:bH} {sz:Nat} (ht:P.underlying t=some (.slice e)) (hs:∀w,(sizeOf e).run P w=.ok sz w) (g n cap j:Nat) (hj:j<=cap) (W:bG): (Instr.sliceAt t (.slice (some ⟨g,0,none⟩) n cap) none (some (.int .i64 j)) none).run P W=.ok (.slice (some ⟨g,0,none⟩) j cap) W:=by
 have h2:¬((j:Int)<0):=by omega
 have h3:¬(cap<j):=by omega
 simp [Instr.sliceAt,Instr.slice,Instr.sliceBounds,Instr.sliceBound,run_underlying ht,asIntOf,hs,h2,h3,hj];exact λ _=>by rw [Addr.add_lit]
def Hr (g cap i sz:Nat):Option Addr:=if cap=i then some ⟨g,0,none⟩ else some ⟨g,i*sz,none⟩
theorem Fz {P:bI} {t e:bH} {sz:Nat} (ht:P.underlying t=some (.slice e)) (hs:∀w,(sizeOf e).run P w=.ok sz w) (g n cap i:Nat) (hi:i<=n) (hc:n<=cap) (W:bG): (Instr.sliceAt t (.slice (some ⟨g,0,none⟩) n cap) (some (.int .i64 i)) none none).run P W=.ok (.slice (Hr g cap i sz) (n-i) (cap-i)) W:=by
 have h2:¬((i:Int)<0):=by omega
 have h3:¬(n<i):=by omega
 by_cases h:cap=i
 . subst h;simp [Instr.sliceAt,Instr.slice,Instr.sliceBounds,Instr.sliceBound,run_underlying ht,asIntOf,hs,h2,h3,hi,Hr]
 . have h5:¬cap-i=0:=by omega
   have h6:¬cap<=i:=by omega
   simp [Instr.sliceAt,Instr.slice,Instr.sliceBounds,Instr.sliceBound,run_underlying ht,asIntOf,hs,h2,h3,hi,Hr,h,h5,h6,Addr.add_lit]
theorem A0r {P:bI} {w:bG} {t ty e:bH} {size bytes:Nat} {z:bF} (hE:Cp P t e size bytes z) {B:Nat} {v:bF} {n:Nat} {cs:List bF} (hown:Own w B e size v n cs) (hlt:∀b,v.ownBlock=some b->b<w.heap.size) {x:bF} {m:Nat} {ds:List bF} (hsl:Sl w size x m ds) (h63:n+m<=maxLen) (hbytes:(n+m)*bytes<=140737488355328) (hbase:B<=w.heap.size): ∃v' w',(Builtin.append_ #[t,t] ty #[v,x]).run P w=.ok v' w'/\Own w' B e size v' (n+m) (cs++ds)/\Ai (λ k=>v.ownBlock=some k/\B<=k\/w.heap.size<=k) w w'/\(∀b,v'.ownBlock=some b->(v.ownBlock=some b\/w.heap.size<=b)/\b<w'.heap.size):=by
 obtain ⟨v',w',hr,h1,h2,h3⟩:=Ra (ty:=ty) hE hown hsl h63 hbytes hbase;refine ⟨v',w',hr,h1,h2,λ b hb=>⟨h3 b hb,?_⟩⟩;by_cases h0:0<n+m
 . obtain ⟨h4,h5,⟨a,e1,e2⟩ | ⟨g,cap,cur,e1,e2,e3,_⟩⟩:=h1
   . omega
   . rw [e1] at hb;simp [bF.ownBlock] at hb;subst hb;exact Hg e3
 . obtain rfl:m=0:=by omega
   obtain ⟨ht,i,hi,hz,hsize,hby,hzs,hsz⟩:=hE;obtain ⟨hdl,hd1,a,c,rfl,hmc,hcm,hanone,hat⟩:=hsl;have hfc:(Builtin.firstCells size 0 (.slice a 0 c)).run P w=.ok #[] w:=by
    cases a <;> simp [Builtin.firstCells,loadCells,loadCellsFrom]
   have hr':(Builtin.append_ #[t,t] ty #[v,.slice a 0 c]).run P w=.ok v w:=by
    obtain ⟨_,_,⟨a0,rfl,rfl⟩ | ⟨g,cap,cur,rfl,_,_,hnc,_⟩⟩:=hown
    . cases a0 <;> simp [Builtin.append_,run_underlying ht,sizeOf,typeInfo,hi,Builtin.lenOf,hsize,hfc,storeCells]
    . simp [Builtin.append_,run_underlying ht,sizeOf,typeInfo,hi,Builtin.lenOf,hsize,hfc,hnc,storeCells]
   rw [hr] at hr';simp only [Result.ok.injEq] at hr';obtain ⟨rfl,rfl⟩:=hr';exact hlt b hb
theorem D3 {P:bI} {ops:Array bJ} {o:bJ} {a:Act} {w:bG} {K:Act->bG->Prop} {Q:Exit->Act->bG->Prop} {E:Prop} (hgd:o.guard=none) (s x:Operand) {t e:bH} {size bytes:Nat} {z:bF} (hE:Cp P t e size bytes z) (ho:o.op=.call { callee:=.builtin .append,args:=#[s,x],argTypes:=#[t,t] }) (B:Nat) {v:bF} (hv:a.eval s=v) {n:Nat} {cs:List bF} (hown:Own w B e size v n cs) (hlt:∀b,v.ownBlock=some b->b<w.heap.size) {u:bF} (hu:a.eval x=u) {m:Nat} {ds:List bF} (hsl:Sl w size u m ds) (h63:n+m<=maxLen) (hbytes:(n+m)*bytes<=140737488355328) (hbase:B<=w.heap.size) (h:∀v' w',Own w' B e size v' (n+m) (cs++ds)->Ai (λ k=>v.ownBlock=some k/\B<=k\/w.heap.size<=k) w w'->(∀b,v'.ownBlock=some b->(v.ownBlock=some b\/w.heap.size<=b)/\b<w'.heap.size)->K (a.put o.dst v') w'): if Region.wanted o (yielded ops a.tmps)=true then bJ.wp P o a w K Q else E:=by
 have hw:Region.wanted o (yielded ops a.tmps)=true:=by simp [Region.wanted,hgd]
 rw [if_pos hw];obtain ⟨v',w',hr,h2,h3,h4⟩:=A0r (P:=P) (ty:=o.type) hE hown hlt hsl h63 hbytes hbase;unfold bJ.wp execOp;simp only [ho,resolve,invoke,builtin,Sem.run_bind,Sem.run_pure,Result.andThen_ok,aF,aA,aG,hv,hu,hr];exact h v' w' h2 h3 h4
theorem Dr {P:bI} {w:bG} {ops:Array bJ} {rest:List bJ} {o:bJ} {a:Act} {Q:Exit->Act->bG->Prop} (hgd:Region.wanted o (yielded ops a.tmps)=true) (s x:Operand) {t e:bH} {size bytes:Nat} {z:bF} (hE:Cp P t e size bytes z) (ho:o.op=.call { callee:=.builtin .append,args:=#[s,x],argTypes:=#[t,t] }) (B:Nat) {n:Nat} {cs:List bF} (hown:Own w B e size (a.eval s) n cs) (hlt:∀b,(a.eval s).ownBlock=some b->b<w.heap.size) {m:Nat} {ds:List bF} (hsl:Sl w size (a.eval x) m ds) (h63:n+m<=maxLen) (hbytes:(n+m)*bytes<=140737488355328) (hbase:B<=w.heap.size) (h:∀v' w',Own w' B e size v' (n+m) (cs++ds)->Ai (λ k=>(a.eval s).ownBlock=some k/\B<=k\/w.heap.size<=k) w w'->(∀b,v'.ownBlock=some b->((a.eval s).ownBlock=some b\/w.heap.size<=b)/\b<w'.heap.size)->wpList P ops Q rest (a.put o.dst v') w'):wpList P ops Q (o::rest) a w:=by
 obtain ⟨v',w',hr,h2,h3,h4⟩:=A0r (P:=P) (ty:=o.type) hE hown hlt hsl h63 hbytes hbase;refine Bh hgd λ K hK=>?_
 unfold bJ.wp execOp;simp only [ho,resolve,invoke,builtin,Sem.run_bind,Sem.run_pure,Result.andThen_ok,aF,aA,aG,hr];exact hK _ _ (h v' w' h2 h3 h4)
theorem M6:∀(l:List bF) (i:Nat) (cs:Array bF) (k:Nat),i+l.length<=cs.size-> ((l.zipIdx i).foldl (λ cs (x:bF×Nat)=>cs.setIfInBounds (0+x.2) x.1) cs)[k]?=if i<=k/\k<i+l.length then l[k-i]? else cs[k]?
 | [],i,cs,k,_=>by simp; omega
 | x::l,i,cs,k,h=>by
  simp only [aW] at h;rw [List.zipIdx_cons,List.foldl_cons,M6 l (i+1) _ k (by simp; omega)];simp only [aW,aC];by_cases hk:k=i
  . subst hk;rw [if_neg (by omega),if_pos (by omega),Nat.sub_self];simp [bD,show k<cs.size by omega]
  . by_cases h2:i+1<=k/\k<i+1+l.length
    . rw [if_pos h2,if_pos (by omega),show k-i=(k- (i+1))+1 by omega,List.getElem?_cons_succ]
    . rw [if_neg h2,if_neg (by omega)];simp [bD,Ne.symm hk]
theorem Zc (X:Array bF) (size:Nat) (cells:Array bF) (hX:X.size=size) (hc:cells.size=size):Instr.fill (λ i=>some (i*size,size)) cells [(0,.agg X)]=some X:=by
 have hf:(X.zipIdx.foldl (λ cs (x:bF×Nat)=>cs.setIfInBounds (0+x.2) x.1) cells)=X:=by
  rw [<-Array.foldl_toList,Array.toList_zipIdx];apply Array.ext_getElem?;intro k;rw [M6 X.toList 0 cells k (by simp; omega)];by_cases hk:k<X.size
  . rw [if_pos (by simp; omega)]; simp
  . rw [if_neg (by simp; omega),aN (by omega),aN (by omega)]
 unfold Instr.fill;simp only [bF.cells,aV,aC];rw [if_neg (by simp [hX,hc])];unfold Instr.fill;have e:(X.zipIdx.foldl (λ cs x=>match x with | (c,j)=>cs.setIfInBounds (0+j) c) cells)=X:=hf;simp only [aC] at e;exact congrArg some e
theorem Ns {P:bI} {ops:Array bJ} {rest:List bJ} {o:bJ} {a:Act} {w:bG} {Q:Exit->Act->bG->Prop} (hg:o.guard=none) (x:Operand) {t e:bH} {size bytes:Nat} {z:bF} (hE:Cp P t e size bytes z) (ho:o.op=.buildSlice t 1 #[(0,x)]) {X:Array bF} (hx:a.eval x=.agg X) (hX:X.size=size) (hs:size<=16777216) (h:wpList P ops Q rest (a.put o.dst (.slice (some ⟨w.heap.size,0,none⟩) 1 1)) (w.alloc (.cells X e))):wpList P ops Q (o::rest) a w:=by
 obtain ⟨ht,i,hi,hz,hsize,hby,hzs,hsz⟩:=hE;refine wpList_buildSlice hg t e 1 #[(0,x)] ho X i z ht hi hz (by omega) (by omega) ?_ h;rw [hsize];simp only [aF,aA,aG,hx];exact Zc X size _ hX (by simp)
theorem Is {P:bI} {ops:Array bJ} {o:bJ} {a:Act} {w:bG} {K:Act->bG->Prop} {Q:Exit->Act->bG->Prop} {E:Prop} (hgd:o.guard=none) (x:Operand) {t e:bH} {size bytes:Nat} {z:bF} (hE:Cp P t e size bytes z) (ho:o.op=.buildSlice t 1 #[(0,x)]) {X:Array bF} (hx:a.eval x=.agg X) (hX:X.size=size) (hs:size<=16777216) (h:K (a.put o.dst (.slice (some ⟨w.heap.size,0,none⟩) 1 1)) (w.alloc (.cells X e))): if Region.wanted o (yielded ops a.tmps)=true then bJ.wp P o a w K Q else E:=by
 have hw:Region.wanted o (yielded ops a.tmps)=true:=by simp [Region.wanted,hgd]
 rw [if_pos hw];obtain ⟨ht,i,hi,hz,hsize,hby,hzs,hsz⟩:=hE;refine wp_buildSlice t e 1 #[(0,x)] ho X i z ht hi hz (by omega) (by omega) ?_ h;rw [hsize];simp only [aF,aA,aG,hx];exact Zc X size _ hX (by simp)
theorem Ry {α:Type} {n:Nat} (f:α->List bF):∀(l:List α),(∀x∈l,(f x).length=n)->∀(k j:Nat) (h:k<l.length),j<n->((l.map f).flatten)[k*n+j]?=(f l[k])[j]?
 | [],_,k,j,h,_=>by simp at h
 | x::l,hf,0,j,h,hj=>by
  simp only [aA,aJ,aV,aC,List.getElem_cons_zero];rw [List.getElem?_append_left (by rw [hf x (by simp)]; exact hj)]
 | x::l,hf,k+1,j,h,hj=>by
  simp only [aA,aJ,List.getElem_cons_succ];rw [List.getElem?_append_right (by rw [hf x (by simp),aI]; omega),hf x (by simp),show (k+1)*n+j-n=k*n+j by rw [aI]; omega];exact Ry f l (λ y hy=>hf y (by simp [hy])) k j (by simpa using h) hj
structure Res where
 holds:bG->(Nat->Prop)->Prop
 frame:∀ {W W':bG} {F S:Nat->Prop},holds W F->Ai S W W'->(∀b,F b->¬S b)->holds W' F
 lt:∀ {W:bG} {F:Nat->Prop} {b:Nat},holds W F->F b->b<W.heap.size
namespace Res
def emp:Res where
 holds _ F:=∀b,¬F b
 frame h _ _:=h
 lt h hb:=absurd hb (h _)
def star (a c:Res):Res where
 holds W F:=∃F1 F2,a.holds W F1/\c.holds W F2/\(∀b,F1 b->F2 b->False)/\∀b,F b↔F1 b\/F2 b
 frame:=by
  rintro W W' F S ⟨F1,F2,h1,h2,h3,h4⟩ hk hs;exact ⟨F1,F2,a.frame h1 hk (λ b hb=>hs b ((h4 b).2 (.inl hb))),c.frame h2 hk (λ b hb=>hs b ((h4 b).2 (.inr hb))),h3,h4⟩
 lt:=by
  rintro W F b ⟨F1,F2,h1,h2,h3,h4⟩ hb;rcases (h4 b).1 hb with h | h
  . exact a.lt h1 h
  . exact c.lt h2 h
def pure (P:Prop):Res where
 holds _ F:=P/\∀b,¬F b
 frame h _ _:=h
 lt h hb:=absurd hb (h.2 _)
def ex {α:Type} (f:α->Res):Res where
 holds W F:=∃x,(f x).holds W F
 frame:=by
  rintro W W' F S ⟨x,h⟩ hk hs;exact ⟨x,(f x).frame h hk hs⟩
 lt:=by
  rintro W F b ⟨x,h⟩ hb;exact (f x).lt h hb
def all:List Res->Res
 | []=>emp
 | r::l=>star r (all l)
def blk (p:Nat) (cs:List bF) (T:bH):Res where
 holds W F:=Blk W p cs T/\∀b,F b↔b=p
 frame:=by
  rintro W W' F S ⟨h,hf⟩ hk hs;exact ⟨h.keep hk (hs p ((hf p).2 rfl)),hf⟩
 lt:=by
  rintro W F b ⟨h,hf⟩ hb;rw [(hf b).1 hb];exact h.lt
def sl (sz:Nat) (v:bF) (n:Nat) (cs:List bF):Res where
 holds W F:=Sl W sz v n cs/\0<sz/\∀b,F b↔0<n/\v.ownBlock=some b
 frame:=by
  rintro W W' F S ⟨h,hz,hf⟩ hk hs;exact ⟨Sl.keepF (F:=F) h hk (λ hn x hx=>(hf x).2 ⟨hn,hx⟩) (λ b hb _=>hs b hb),hz,hf⟩
 lt:=by
  rintro W F b ⟨h,hz,hf⟩ hb;obtain ⟨hn,hv⟩:=(hf b).1 hb;exact h.own_lt hz hn b hv
def row (v:bF) (l:Aa):Res:=sl 1 v l.length (Ae l)
def own (e:bH) (sz:Nat) (v:bF) (n:Nat) (cs:List bF):Res where
 holds W F:=Own W 0 e sz v n cs/\(∀b,v.ownBlock=some b->b<W.heap.size)/\∀b,F b↔v.ownBlock=some b
 frame:=by
  rintro W W' F S ⟨h,hl,hf⟩ hk hs;exact ⟨h.keep hk (λ b hb=>hs b ((hf b).2 hb)),λ b hb=>bE (hl b hb) hk.size,hf⟩
 lt:=by
  rintro W F b ⟨h,hl,hf⟩ hb;exact hl b ((hf b).1 hb)
def ownB (v:bF) (l:Aa):Res:=own 5 1 v l.length (Ae l)
def base (w0:bG):Res where
 holds W F:=Below w0.heap.size w0 W/\∀b,F b↔b<w0.heap.size
 frame:=by
  rintro W W' F S ⟨h,hf⟩ hk hs;exact ⟨⟨hk.os.trans h.os,hk.tape.trans h.tape,hk.output.trans h.output,aX h.size hk.size,λ b hb=>(hk.block b (hs b ((hf b).2 hb))).trans (h.block b hb)⟩,hf⟩
 lt:=by
  rintro W F b ⟨h,hf⟩ hb;exact bE ((hf b).1 hb) h.size
end Res
def Ad (W:bG) (l:List Res):Prop:=∃F,(Res.all l).holds W F
theorem Ad.start (W:bG):Ad W [.base W]:=⟨λ b=>b<W.heap.size,λ b=>b<W.heap.size,λ _=>False,⟨aE _ _,λ _=>Iff.rfl⟩,λ _ h=>h,λ _ _ h=>h,λ b=>⟨.inl,λ h=>h.elim id False.elim⟩⟩
theorem Ad.cons {W:bG} {r:Res} {l:List Res} :Ad W (r::l)↔∃F1 F2,r.holds W F1/\(Res.all l).holds W F2/\∀b,F1 b->F2 b->False:=
 ⟨λ ⟨_,F1,F2,h1,h2,h3,_⟩=>⟨F1,F2,h1,h2,h3⟩,λ ⟨F1,F2,h1,h2,h3⟩=>⟨λ b=>F1 b\/F2 b,F1,F2,h1,h2,h3,λ _=>Iff.rfl⟩⟩
theorem Ad.tail {W:bG} {r:Res} {l:List Res} (h:Ad W (r::l)):Ad W l:=by
 obtain ⟨F1,F2,_,h2,_⟩:=Ad.cons.1 h;exact ⟨F2,h2⟩
theorem Ad.head {W:bG} {r:Res} {l:List Res} (h:Ad W (r::l)):∃F,r.holds W F:=by
 obtain ⟨F1,F2,h1,_,_⟩:=Ad.cons.1 h;exact ⟨F1,h1⟩
theorem Ad.get {W:bG} {r:Res} :∀ {l:List Res},Ad W l->r∈l->∃F,r.holds W F
 | [],_,hm=>by simp at hm
 | a::l,h,hm=>by
  rcases List.mem_cons.1 hm with e | hm
  . rw [e]; exact h.head
  . exact h.tail.get hm
theorem Res.all_star {W:bG} {a c:Res} {l:List Res} {F:Nat->Prop} :(Res.all (a.star c::l)).holds W F↔(Res.all (a::c::l)).holds W F:=by
 constructor
 . rintro ⟨F1,F2,⟨G1,G2,g1,g2,g3,g4⟩,h2,h3,h4⟩;refine ⟨G1,λ b=>G2 b\/F2 b,g1,⟨G2,F2,g2,h2,λ b hb hc=>h3 b ((g4 b).2 (.inr hb)) hc,λ _=>Iff.rfl⟩,?_,?_⟩
   . rintro b hb (hc | hc)
     . exact g3 b hb hc
     . exact h3 b ((g4 b).2 (.inl hb)) hc
   . intro b;rw [h4 b,g4 b,or_assoc]
 . rintro ⟨G1,H,g1,⟨G2,F2,g2,h2,h3,h4⟩,h5,h6⟩;refine ⟨λ b=>G1 b\/G2 b,F2,⟨G1,G2,g1,g2,λ b hb hc=>h5 b hb ((h4 b).2 (.inl hc)),λ _=>Iff.rfl⟩,h2,?_,?_⟩
   . rintro b (hb | hb) hc
     . exact h5 b hb ((h4 b).2 (.inr hc))
     . exact h3 b hb hc
   . intro b;rw [h6 b,h4 b,or_assoc]
theorem Ad.star {W:bG} {a c:Res} {l:List Res} :Ad W (a.star c::l)↔Ad W (a::c::l):=
 ⟨λ ⟨F,h⟩=>⟨F,Res.all_star.1 h⟩,λ ⟨F,h⟩=>⟨F,Res.all_star.2 h⟩⟩
theorem Res.star_comm {W:bG} {a c:Res} {F:Nat->Prop} (h:(a.star c).holds W F):(c.star a).holds W F:=by
 obtain ⟨F1,F2,h1,h2,h3,h4⟩:=h;exact ⟨F2,F1,h2,h1,λ b x y=>h3 b y x,λ b=>by rw [h4 b,or_comm]⟩
theorem Res.all_perm {W:bG} {l l':List Res} (hp:l.Perm l'):∀ {F:Nat->Prop},(Res.all l).holds W F->(Res.all l').holds W F:=by
 induction hp with
 | nil=>exact λ h=>h
 | cons x _ ih=>
  rintro F ⟨F1,F2,h1,h2,h3⟩;exact ⟨F1,F2,h1,ih h2,h3⟩
 | swap x y l=>
  intro F h;refine Res.all_star.1 ?_;obtain ⟨F1,F2,h1,h2,h3,h4⟩:=Res.all_star.2 h;exact ⟨F1,F2,Res.star_comm h1,h2,h3,h4⟩
 | trans _ _ ih1 ih2=>exact λ h=>ih2 (ih1 h)
theorem Ad.perm {W:bG} {l l':List Res} (h:Ad W l) (hp:l.Perm l'):Ad W l':=by
 obtain ⟨F,h⟩:=h;exact ⟨F,Res.all_perm hp h⟩
theorem A5m {α:Type} (d:α) (l:List α) (is:List Nat) (h:is.Perm (aQ l.length)):l.Perm (is.map λ i=>l.getD i d):=by
 have e:l=(aQ l.length).map λ i=>l.getD i d:=by
  apply List.ext_getElem
  . simp
  . intro i h1 h2;simp [List.getD_eq_getElem?_getD,h1]
 have:=h.symm.map λ i=>l.getD i d
 rwa [<-e] at this
theorem Ad.ex {W:bG} {α:Type} {f:α->Res} {l:List Res} :Ad W (Res.ex f::l)↔∃x,Ad W (f x::l):=by
 simp only [Ad.cons];constructor
 . rintro ⟨F1,F2,⟨x,h1⟩,h2,h3⟩;exact ⟨x,F1,F2,h1,h2,h3⟩
 . rintro ⟨x,F1,F2,h1,h2,h3⟩;exact ⟨F1,F2,⟨x,h1⟩,h2,h3⟩
theorem Ad.pure {W:bG} {P:Prop} {l:List Res} :Ad W (Res.pure P::l)↔P/\Ad W l:=by
 rw [Ad.cons];constructor
 . rintro ⟨F1,F2,h1,h2,h3⟩;exact ⟨h1.1,F2,h2⟩
 . rintro ⟨h1,F,h2⟩;exact ⟨λ _=>False,F,⟨h1,λ _ h=>h⟩,h2,λ _ h _=>h⟩
theorem Ad.app {W:bG} :∀ {m l:List Res},Ad W (Res.all m::l)↔Ad W (m++l)
 | [],l=>by
  show Ad W (Res.emp::l)↔Ad W l
  refine ⟨Ad.tail,λ ⟨F,h⟩=>Ad.cons.2 ⟨λ _=>False,F,λ _ h=>h,h,λ _ h _=>h⟩⟩
 | r::m,l=>by
  show Ad W (r.star (Res.all m)::l)↔Ad W (r::(m++l))
  rw [Ad.star,Ad.cons,Ad.cons];constructor
  . rintro ⟨F1,F2,h1,h2,h3⟩
    have:=(Ad.app (m:=m) (l:=l)).1 ⟨F2,h2⟩;obtain ⟨F3,F4,g1,g2,g3,g4⟩:=h2;refine ⟨F1,λ b=>F3 b\/F4 b,h1,?_,?_⟩
    . clear this h3 h1 g4;induction m generalizing F3 F4 with
      | nil=>exact (Res.all l).frame (F:=λ b=>F3 b\/F4 b) (S:=λ _=>False) (by
       have:(λ b=>F3 b\/F4 b)=F4:=by
        funext b;exact propext ⟨λ h=>h.elim (λ h=>absurd h (g1 b)) id,.inr⟩
       rw [this];exact g2) (Ai.refl _ _) (λ _ _ h=>h)
      | cons a m ih=>
       obtain ⟨G1,G2,k1,k2,k3,k4⟩:=g1;refine ⟨G1,λ b=>G2 b\/F4 b,k1,ih G2 F4 k2 g2 (λ b hb hc=>g3 b ((k4 b).2 (.inr hb)) hc),?_,?_⟩
       . rintro b hb (hc | hc)
         . exact k3 b hb hc
         . exact g3 b ((k4 b).2 (.inl hb)) hc
       . intro b;show F3 b\/F4 b↔G1 b\/(G2 b\/F4 b)
         rw [k4 b,or_assoc]
    . rintro b hb hc;exact h3 b hb ((g4 b).2 hc)
  . rintro ⟨F1,F2,h1,h2,h3⟩
    suffices h:(Res.all (Res.all m::l)).holds W F2 from ⟨F1,F2,h1,h,h3⟩
    clear h3 h1;induction m generalizing F2 with
    | nil=>exact ⟨λ _=>False,F2,λ _ h=>h,h2,λ _ h _=>h,λ b=>⟨.inr,λ h=>h.elim False.elim id⟩⟩
    | cons a m ih=>
     obtain ⟨G1,G2,k1,k2,k3,k4⟩:=h2;obtain ⟨G3,G4,j1,j2,j3,j4⟩:=ih G2 k2;refine ⟨λ b=>G1 b\/G3 b,G4,⟨G1,G3,k1,j1,λ b hb hc=>k3 b hb ((j4 b).2 (.inl hc)),λ _=>Iff.rfl⟩,j2,?_,?_⟩
     . rintro b (hb | hb) hc
       . exact k3 b hb ((j4 b).2 (.inr hc))
       . exact j3 b hb hc
     . intro b;rw [k4 b,j4 b,or_assoc]
theorem Ad.step {W W':bG} {l:List Res} (h:Ad W l) (hb:Below W.heap.size W W'):Ad W' l:=by
 obtain ⟨F,h⟩:=h;exact ⟨F,(Res.all l).frame h (Ai.of_below hb) (λ b hb' hc=>by have:=(Res.all l).lt h hb'; omega)⟩
theorem Ad.drew {W:bG} {l:List Res} (h:Ad W l):Ad W.drew l:=h.step ((aE _ _).drew)
theorem Ad.alloc {W:bG} {l:List Res} (h:Ad W l) (o:Obj):Ad (W.alloc o) l:=h.step ((aE _ _).alloc (aB _) _)
theorem Ad.turn {W W':bG} {r r':Res} {l:List Res} (h:Ad W (r::l)) (ht:∀F,r.holds W F->∃F',r'.holds W' F'/\(∀b,F' b->F b\/W.heap.size<=b)/\Ai (λ b=>F b\/W.heap.size<=b) W W'):Ad W' (r'::l):=by
 obtain ⟨F1,F2,h1,h2,h3⟩:=Ad.cons.1 h;obtain ⟨F',g1,g2,g3⟩:=ht F1 h1;refine Ad.cons.2 ⟨F',F2,g1,(Res.all l).frame h2 g3 ?_,?_⟩
 . rintro b hb (hc | hc)
   . exact h3 b hc hb
   . have:=(Res.all l).lt h2 hb;omega
 . intro b hb hc;rcases g2 b hb with h | h
   . exact h3 b h hc
   . have:=(Res.all l).lt h2 hc;omega
theorem Ad.new {W W':bG} {r:Res} {l:List Res} (h:Ad W l) (hb:Below W.heap.size W W') {F:Nat->Prop} (hr:r.holds W' F) (hf:∀b,F b->W.heap.size<=b):Ad W' (r::l):=by
 obtain ⟨F2,h2⟩:=h;refine Ad.cons.2 ⟨F,F2,hr,(Res.all l).frame h2 (Ai.of_below hb) (λ b hb' hc=>by have:=(Res.all l).lt h2 hb'; omega),?_⟩;intro b hb' hc
 have:=(Res.all l).lt h2 hc
 have:=hf b hb';omega
theorem Ad.weaken {W:bG} {r r':Res} {l:List Res} (h:Ad W (r::l)) (ht:∀F,r.holds W F->∃F',r'.holds W F'/\∀b,F' b->F b):Ad W (r'::l):=by
 refine h.turn λ F hF=>?_
 obtain ⟨F',h1,h2⟩:=ht F hF;exact ⟨F',h1,λ b hb=>.inl (h2 b hb),(Ai.refl _ _)⟩
theorem Ad.blkOf {W:bG} {l:List Res} (h:Ad W l) {p:Nat} {cs:List bF} {T:bH} (hm:Res.blk p cs T∈l):Blk W p cs T:=by
 obtain ⟨F,hr⟩:=h.get hm;exact hr.1
theorem Ad.rowOf {W:bG} {l:List Res} (h:Ad W l) {v:bF} {b:Aa} (hm:Res.row v b∈l):Bs W v b:=by
 obtain ⟨F,hr⟩:=h.get hm;exact hr.1
theorem Ad.ownOf {W:bG} {l:List Res} (h:Ad W l) {e:bH} {sz n:Nat} {v:bF} {cs:List bF} (hm:Res.own e sz v n cs∈l):Own W 0 e sz v n cs/\∀b,v.ownBlock=some b->b<W.heap.size:=by
 obtain ⟨F,hr⟩:=h.get hm;exact ⟨hr.1,hr.2.1⟩
theorem Ad.baseOf {W:bG} {l:List Res} (h:Ad W l) {w0:bG} (hm:Res.base w0∈l):Below w0.heap.size w0 W:=by
 obtain ⟨F,hr⟩:=h.get hm;exact hr.1
theorem Ad.addBlk {W:bG} {l:List Res} (h:Ad W l) (cs:List bF) (T:bH):Ad (W.alloc (.cells cs.toArray T)) (.blk W.heap.size cs T::l):=
 h.new ((aE _ _).alloc (aB _) _) (F:=λ b=>b=W.heap.size) ⟨Blk.new W cs T,λ _=>Iff.rfl⟩ (λ b hb=>by omega)
theorem Ad.set {W:bG} {l:List Res} {p:Nat} {cs:List bF} {T:bH} (h:Ad W (.blk p cs T::l)) (o:Nat) (v:bF):Ad (W.setCell ⟨p,o,none⟩ v) (.blk p (cs.set o v) T::l):=by
 refine h.turn λ F hF=>⟨F,⟨hF.1.set o v,hF.2⟩,λ b hb=>.inl hb,?_⟩
 exact (Ai.one W p o v).mono λ k hk=>.inl ((hF.2 k).2 hk)
theorem Ad.addRow {W W':bG} {l:List Res} (h:Ad W l) (hb:Below W.heap.size W W') {v:bF} {b:Aa} (hr:Bs W' v b) (hv:∀k,0<b.length->v.ownBlock=some k->W.heap.size<=k):Ad W' (.row v b::l):=
 h.new hb (F:=λ k=>0<b.length/\v.ownBlock=some k) ⟨hr,by decide,λ _=>Iff.rfl⟩ (λ k hk=>hv k hk.1 hk.2)
theorem Ad.addOwn {W W':bG} {l:List Res} (h:Ad W l) (hb:Below W.heap.size W W') {e:bH} {sz n:Nat} {v:bF} {cs:List bF} {B:Nat} (hr:Own W' B e sz v n cs) (hv:∀k,v.ownBlock=some k->W.heap.size<=k/\k<W'.heap.size):Ad W' (.own e sz v n cs::l):=
 h.new hb (F:=λ k=>v.ownBlock=some k) ⟨hr.base (aK _),λ k hk=>(hv k hk).2,λ _=>Iff.rfl⟩ (λ k hk=>(hv k hk).1)
theorem Ad.addOwnB {W W':bG} {l:List Res} (h:Ad W l) (hb:Below W.heap.size W W') {v:bF} {b:Aa} {B:Nat} (hr:Du W' B v b) (hv:∀k,v.ownBlock=some k->W.heap.size<=k/\k<W'.heap.size):Ad W' (.ownB v b::l):=
 h.addOwn hb hr hv
theorem Ad.ownRow {W:bG} {l:List Res} {v:bF} {b:Aa} (h:Ad W (.ownB v b::l)):Ad W (.row v b::l):=
 h.weaken λ F hF=>⟨λ k=>0<b.length/\v.ownBlock=some k,⟨hF.1.sl,by decide,λ _=>Iff.rfl⟩,λ k hk=>(hF.2.2 k).2 hk.2⟩
theorem Ad.addNil {W:bG} {l:List Res} (h:Ad W l) (e:bH) (sz:Nat):Ad W (.own e sz (.slice none 0 0) 0 []::l):=
 h.new (aE _ _) (F:=λ _=>False) ⟨Own.nil _ _ _ _ _,λ b hb=>by simp [bF.ownBlock] at hb,λ b=>by simp [bF.ownBlock]⟩ (λ _ h=>h.elim)
theorem Ad.append {W W':bG} {l:List Res} {e:bH} {sz n:Nat} {v:bF} {cs:List bF} (h:Ad W (.own e sz v n cs::l)) {v':bF} {n':Nat} {cs':List bF} {B:Nat} (hr:Own W' B e sz v' n' cs') (hk:Ai (λ k=>v.ownBlock=some k/\B<=k\/W.heap.size<=k) W W') (hv:∀b,v'.ownBlock=some b->(v.ownBlock=some b\/W.heap.size<=b)/\b<W'.heap.size):Ad W' (.own e sz v' n' cs'::l):=by
 refine h.turn λ F hF=>⟨λ k=>v'.ownBlock=some k,⟨hr.base (aK _),λ b hb=>(hv b hb).2,λ _=>Iff.rfl⟩,λ b hb=>?_,hk.mono λ k hk=>?_⟩
 . rcases (hv b hb).1 with h | h
   . exact .inl ((hF.2.2 b).2 h)
   . exact .inr h
 . rcases hk with h | h
   . exact .inl ((hF.2.2 k).2 h.1)
   . exact .inr h
theorem Ad.swap {W:bG} {a b:Res} {l:List Res} (h:Ad W (a::b::l)):Ad W (b::a::l):=h.perm (.swap _ _ _)
theorem Ad.pull3 {W:bG} {a b c:Res} {l:List Res} (h:Ad W (a::b::c::l)):Ad W (c::a::b::l):=h.perm (aD (l₁:= [a,b]))
theorem Ad.push3 {W:bG} {a b c:Res} {l:List Res} (h:Ad W (c::a::b::l)):Ad W (a::b::c::l):=h.perm (aD (l₁:= [a,b])).symm
theorem Ad.pull4 {W:bG} {a b c d:Res} {l:List Res} (h:Ad W (a::b::c::d::l)):Ad W (d::a::b::c::l):=h.perm (aD (l₁:= [a,b,c]))
theorem Ad.push4 {W:bG} {a b c d:Res} {l:List Res} (h:Ad W (d::a::b::c::l)):Ad W (a::b::c::d::l):=h.perm (aD (l₁:= [a,b,c])).symm
theorem Ad.pull5 {W:bG} {a b c d e:Res} {l:List Res} (h:Ad W (a::b::c::d::e::l)):Ad W (e::a::b::c::d::l):=h.perm (aD (l₁:= [a,b,c,d]))
theorem Ad.front {W:bG} {m l:List Res} (h:Ad W (m++l)) (is:List Nat) (n:Nat) (hp:is.Perm (aQ n)) (hn:m.length=n:=by rfl):Ad W ((is.map λ i=>m.getD i .emp)++l):=h.perm ((A5m _ m is (by rw [hn]; exact hp)).append_right l)
theorem Ad.addBlkAt {W:bG} {l:List Res} (h:Ad W l) (cs:List bF) (T:bH) {b:Nat} (hb:W.heap.size=b):Ad (W.alloc (.cells cs.toArray T)) (.blk b cs T::l):=by
 subst hb;exact h.addBlk cs T
end Go.Proofs.YtcnfaghcjlhoiaaGreat
namespace Go.Proofs.YtcnfaghcjlhoiaaGreat
section
section
variable {P:bI} {ops:Array bJ} {Q:Exit->Act->bG->Prop} {md:Region.Mode} {S:bG->Prop}
def Av (P:bI) (md:Region.Mode) (ops:Array bJ) (Q:Exit->Act->bG->Prop) (S:bG->Prop) (fuel:Nat) (listed:Array Bool) (a:Act) (w:bG) (rs:List Nat):Prop:=
 ∀i∈rs,wpOp P ops Q i (λ a' w'=>S w'/\wpAnyH P md ops Q S fuel (listed.setIfInBounds i true) a' w') a w
theorem Av.nil {fuel:Nat} {listed:Array Bool} {a:Act} {w:bG} :Av P md ops Q S fuel listed a w []:=λ _ h=>by cases h
theorem Av.cons {fuel:Nat} {listed:Array Bool} {a:Act} {w:bG} {i:Nat} {o:bJ} {rs:List Nat} (ho:ops[i]?=some o) (h:∀K':Act->bG->Prop,(∀a w,S w->wpAnyH P md ops Q S fuel (listed.setIfInBounds i true) a w->K' a w)->if Region.wanted o (yielded ops a.tmps)=true then bJ.wp P o a w K' Q else K' (a.put o.dst undef) w) (hs:Av P md ops Q S fuel listed a w rs):Av P md ops Q S fuel listed a w (i::rs):=λ j hj=>by
 rcases List.mem_cons.1 hj with rfl | hj
 . exact wpOp_step ho (λ K' hK=>h K' (λ a w h1 h2=>hK a w ⟨h1,h2⟩))
 . exact hs j hj
theorem Bl {rs:List Nat} {fuel:Nat} {listed:Array Bool} {a:Act} {w:bG} (hr:Region.ready md ops listed=rs) (hne:rs≠ []) (h:Av P md ops Q S fuel listed a w rs):wpAnyH P md ops Q S (fuel+1) listed a w:=wpAnyH_all hr hne h
theorem tkH (i d:Nat) (g:Option (Nat×Bool)) (v:bF) {op:Op} {ty:bH} {pos:String} {aft:Array Edge} {fuel:Nat} {listed:Array Bool} {a:Act} {w:bG} (hi:ops[i]?=some ⟨some d,op,ty,pos,aft,g⟩) (hb:(Region.noSelect ops&&Region.free md ops listed i&&(Region.ready md ops listed).contains i)=true) (hQ:∀c a w,Q (.panic c) (a.put (some d) v) w->Q (.panic c) a w) (hw:Region.wanted ⟨some d,op,ty,pos,aft,g⟩ (yielded ops a.tmps)=true) (hr:∀w,S w->(execOp a.eval ⟨some d,op,ty,pos,aft,g⟩).run P w=.ok (.value v) w) (hS:S w) (h:wpAnyH P md ops Q S fuel (listed.setIfInBounds i true) (a.put (some d) v) w):wpAnyH P md ops Q S (fuel+1) listed a w:=by
 simp only [Bool.and_eq_true] at hb;exact wpAnyH_take hi hb.1.1 hb.1.2 hb.2 hQ (.inl ⟨hw,hr⟩) hS h
end
end
theorem Ad.pull7 {W:bG} {a b c d e f g:Res} {l:List Res} (hh:Ad W (a::b::c::d::e::f::g::l)):Ad W (g::a::b::c::d::e::f::l):=hh.perm (aD (l₁:= [a,b,c,d,e,f]))
theorem Ad.push7 {W:bG} {a b c d e f g:Res} {l:List Res} (hh:Ad W (g::a::b::c::d::e::f::l)):Ad W (a::b::c::d::e::f::g::l):=hh.perm (aD (l₁:= [a,b,c,d,e,f])).symm
theorem Ad.pull8 {W:bG} {a b c d e f g h:Res} {l:List Res} (hh:Ad W (a::b::c::d::e::f::g::h::l)):Ad W (h::a::b::c::d::e::f::g::l):=hh.perm (aD (l₁:= [a,b,c,d,e,f,g]))
theorem Ad.pull9 {W:bG} {a b c d e f g h i:Res} {l:List Res} (hh:Ad W (a::b::c::d::e::f::g::h::i::l)):Ad W (i::a::b::c::d::e::f::g::h::l):=hh.perm (aD (l₁:= [a,b,c,d,e,f,g,h]))
theorem Ad.drop2 {W:bG} {a b:Res} {l:List Res} (h:Ad W (a::b::l)):Ad W (a::l):=h.swap.tail
theorem Ad.cast {W W':bG} {l:List Res} (h:Ad W l) (e:W=W'):Ad W' l:=e▸h
theorem Ad.p2 {W:bG} {x0 x1:Res} {l:List Res} (h:Ad W (x0::x1::l)) (is:List Nat) (hp:is.Perm (aQ 2):=by decide):Ad W ((is.map λ i=> [x0,x1].getD i .emp)++l):=Ad.front (m:= [x0,x1]) h is 2 hp
end Go.Proofs.YtcnfaghcjlhoiaaGreat
namespace Go.Proofs.YtcnfaghcjlhoiaaGreat
open Go.RowKit
section
section
variable {P:bI} {ops:Array bJ} {Q:Exit->Act->bG->Prop} {md:Region.Mode} {ks0:List Nat} {T:List Bool->bG->Prop}
def Er (ks0:List Nat) (l:Array Bool):List Bool:=ks0.map λ k=>l.getD k true
theorem O0 {ks0:List Nat} {i:Nat} (h:ks0.contains i=false) (l:Array Bool):Er ks0 (l.setIfInBounds i true)=Er ks0 l:=by
 unfold Er;refine List.map_congr_left λ k hk=>getD_set_ne true ?_
 rintro rfl
 have:ks0.contains i=true:=by simpa using hk
 rw [h] at this
 cases this
def Dd (P:bI) (md:Region.Mode) (ops:Array bJ) (Q:Exit->Act->bG->Prop) (ks0:List Nat) (T:List Bool->bG->Prop):Nat->Array Bool->Act->bG->Prop
 | 0,listed,a,w=>Region.ready md ops listed= []/\Q .normal a w
 | fuel+1,listed,a,w=>
  (Region.ready md ops listed= []->Q .normal a w)/\
  ∀i∈Region.ready md ops listed,wpOp P ops Q i (λ a' w'=>T (Er ks0 (listed.setIfInBounds i true)) w'/\Dd P md ops Q ks0 T fuel (listed.setIfInBounds i true) a' w') a w
theorem Tw:∀(fuel:Nat) (listed:Array Bool) (a:Act) (w:bG),Dd P md ops Q ks0 T fuel listed a w->wpAny P md ops Q fuel listed a w
 | 0,_,_,_,h=>h
 | fuel+1,_,_,_,h=>⟨h.1,λ i hi=>wpOp_mono (λ a' w' h'=>Tw fuel _ a' w' h'.2) (h.2 i hi)⟩
def Ft (P:bI) (ops:Array bJ) (ks0:List Nat) (T:List Bool->bG->Prop) (ks:List Nat) (o:bJ) (v:bF) (a:Act):Prop:=
 (Region.wanted o (yielded ops a.tmps)=true/\∀l w,(∀k∈ks,l.getD k true=false)->T (Er ks0 l) w->(execOp a.eval o).run P w=.ok (.value v) w)\/
 (Region.wanted o (yielded ops a.tmps)=false/\v=undef)
theorem Ft.at {ks:List Nat} {o:bJ} {v:bF} {a:Act} (h:Ft P ops ks0 T ks o v a) {l:Array Bool} (hl:∀k∈ks,l.getD k true=false):YieldsIf P ops (T (Er ks0 l)) o v a:=
 h.imp (λ ⟨hw,hv⟩=>⟨hw,λ w hS=>hv l w hl hS⟩) id
theorem Ft.of_same {ks:List Nat} {o:bJ} {v:bF} {a a':Act} (hy:Ft P ops ks0 T ks o v a) (he:execOp a'.eval o=execOp a.eval o) (hw:Region.wanted o (yielded ops a'.tmps)=Region.wanted o (yielded ops a.tmps)):Ft P ops ks0 T ks o v a':=by
 unfold Ft at*;rw [he,hw];exact hy
theorem A4d {ks:List Nat} {j:Nat} {oi oj:bJ} {v:bF} (hj:ops[j]?=some oj) (hap:oi.apart ops oj=true) (hsi:∀cs b,oi.op≠ .select cs b) (hsj:∀cs b,oj.op≠ .select cs b) (hQ:∀c a w,Q (.panic c) (a.put oi.dst v) w->Q (.panic c) a w) {K:Act->bG->Prop} {a:Act} {w:bG} (hy:Ft P ops ks0 T ks oi v a) (h:wpOp P ops Q j K (a.put oi.dst v) w): wpOp P ops Q j (λ a' w'=>Ft P ops ks0 T ks oi v a'/\K (a'.put oi.dst v) w') a w:=by
 obtain ⟨h1,h2,h3⟩:=bJ.apart_spec hap;have keep:∀(a:Act),Ft P ops ks0 T ks oi v a->∀u,Ft P ops ks0 T ks oi v (a.put oj.dst u):=λ a hy u=>
  hy.of_same (execOp_put oi hsi a oj.dst u h3) (wanted_put oi a oj.dst u h3)
 have keepD:∀d,Ft P ops ks0 T ks oi v { a with defers:=d::a.defers } :=λ d=>hy.of_same rfl rfl
 unfold wpOp at*;simp only [hj] at*;rw [wanted_put oj a oi.dst v h1] at h;split
 . rename_i hw;simp only [hw,if_true] at h;rcases h with h | ⟨hasks,hlets⟩
   case inr=>exact .inr ⟨by unfold bJ.asks at*; rw [execOp_put oj hsj a oi.dst v h1] at hasks; exact hasks,hlets⟩
   refine .inl ?_;unfold bJ.wp at*;rw [execOp_put oj hsj a oi.dst v h1] at h;generalize (execOp a.eval oj).run P w=r at*
   cases r with
   | ok n w'=>
    cases n <;> simp only [bJ.upon] at h ⊢
    case value u=>exact ⟨keep a hy u,by rw [<-Act.put_comm a v u h2]; exact h⟩
    case skip=>exact ⟨keep a hy _,by rw [<-Act.put_comm a v undef h2]; exact h⟩
    case defer d=>
     refine ⟨keep _ (keepD d) _,?_⟩;rw [<-Act.put_comm _ v undef h2,<-Act.put_defers];exact h
    case enter f args=>
     refine Calls.mono h λ e w'' he=>?_
     cases e with
     | returned u=>exact ⟨keep a hy u,by rw [<-Act.put_comm a v u h2]; exact he⟩
     | panicked c=>exact hQ _ _ _ he
     | outgrown=>exact he
    case row row args=>exact Rows.mono h λ u w'' he=>⟨keep a hy u,by rw [<-Act.put_comm a v u h2]; exact he⟩
   | halt x w'=>
    cases x <;> simp only [bJ.upon] at h ⊢
    case panic u=>exact hQ _ _ _ h
 . rename_i hw;simp only [hw] at h;exact ⟨keep a hy _,by rw [<-Act.put_comm a v undef h2]; exact h⟩
theorem Ou {ks:List Nat} {i:Nat} {oi:bJ} {v:bF} (hi:ops[i]?=some oi) (hsel:∀(j:Nat) (o:bJ) cs b,ops[j]?=some o->o.op≠ .select cs b) (hQ:∀c a w,Q (.panic c) (a.put oi.dst v) w->Q (.panic c) a w) (hks:∀k∈ks,Region.waitsFor md ops k i=true) (hi0:ks0.contains i=false): ∀(fuel:Nat) (listed:Array Bool) (a:Act) (w:bG), (∀j oj,ops[j]?=some oj->j≠i->listed.getD j true=false->(∀e∈oj.after,Region.binds md e=true->e.on≠i)->oi.apart ops oj=true)-> i∈Region.ready md ops listed->(∀k∈ks,listed.getD k true=false)->Ft P ops ks0 T ks oi v a->T (Er ks0 listed) w-> Dd P md ops Q ks0 T fuel (listed.setIfInBounds i true) (a.put oi.dst v) w->Dd P md ops Q ks0 T (fuel+1) listed a w:=by
 intro fuel;induction fuel with
 | zero=>
  intro listed a w _ hr hk hy hS H;refine ⟨λ h=>(by rw [h] at hr; cases hr),λ j hj=>?_⟩;by_cases hji:j=i
  . subst hji; exact (hy.at hk).wpOp hi hS ⟨by rw [O0 hi0]; exact hS,H⟩
  . have:=ready_mono hj hji;rw [H.1] at this
    cases this
 | succ fuel ih=>
  intro listed a w hfree hr hk hy hS H;refine ⟨λ h=>(by rw [h] at hr; cases hr),λ j hj=>?_⟩;by_cases hji:j=i
  . subst hji; exact (hy.at hk).wpOp hi hS ⟨by rw [O0 hi0]; exact hS,H⟩
  . have h1:=H.2 j (ready_mono hj hji);obtain ⟨hjun,oj,hoj,hall⟩:=mem_ready.1 hj;have hnot:∀e∈oj.after,Region.binds md e=true->e.on≠i:=λ e he hb heq=>by
     have h1:=hall e he hb;have h0:=(mem_ready.1 hr).1;rw [heq] at h1;rcases aR i listed.size with h' | h'
     . simp [h'] at h0 h1; rw [h0] at h1; cases h1
     . simp [aN h'] at h1
    have h2:=A4d hoj (hfree j oj hoj hji hjun hnot) (λ cs b=>hsel i oi cs b hi) (λ cs b=>hsel j oj cs b hoj) hQ hy h1;have hfree':∀k ok,ops[k]?=some ok->k≠i->(listed.setIfInBounds j true).getD k true=false->
     (∀e∈ok.after,Region.binds md e=true->e.on≠i)->oi.apart ops ok=true:=λ k ok hk hki hun hno=>by
     refine hfree k ok hk hki ?_ hno;by_cases hjk:j=k
     . subst hjk; exact hjun
     . rw [getD_set_ne true hjk] at hun; exact hun
    have hk':∀k∈ks,(listed.setIfInBounds j true).getD k true=false:=λ k hkk=>by
     have hjk:j≠k:=by
      rintro rfl;obtain ⟨ok,hok,e,he,hb,heq⟩:=Region.waitsFor_spec (hks j hkk);rw [hoj] at hok;injection hok with hok;subst hok;exact hnot e he hb heq
     rw [getD_set_ne true hjk];exact hk k hkk
    have hcm:(listed.setIfInBounds i true).setIfInBounds j true=(listed.setIfInBounds j true).setIfInBounds i true:=Array.setIfInBounds_comm _ _ (Ne.symm hji);rw [hcm] at h2;refine wpOp_mono (λ a' w' h3=>?_) h2;have hS':T (Er ks0 (listed.setIfInBounds j true)) w':=by
     have:=h3.2.1
     rwa [O0 hi0] at this
    exact ⟨hS',ih (listed.setIfInBounds j true) a' w' hfree' (ready_mono hr (Ne.symm hji)) hk' h3.1 hS' h3.2.2⟩
theorem tkJ (i d:Nat) (g:Option (Nat×Bool)) (v:bF) (ks:List Nat) {op:Op} {ty:bH} {pos:String} {aft:Array Edge} {fuel:Nat} {listed:Array Bool} {a:Act} {w:bG} (hi:ops[i]?=some ⟨some d,op,ty,pos,aft,g⟩) (hb:(Region.noSelect ops&&Region.free md ops listed i&&(Region.ready md ops listed).contains i&&(!ks0.contains i)&&ks.all λ k=>Region.waitsFor md ops k i&& !listed.getD k true)=true) (hQ:∀c a w,Q (.panic c) (a.put (some d) v) w->Q (.panic c) a w) (hw:Region.wanted ⟨some d,op,ty,pos,aft,g⟩ (yielded ops a.tmps)=true) (hr:∀l w,(∀k∈ks,l.getD k true=false)->T (Er ks0 l) w->(execOp a.eval ⟨some d,op,ty,pos,aft,g⟩).run P w=.ok (.value v) w) (hS:T (Er ks0 listed) w) (h:Dd P md ops Q ks0 T fuel (listed.setIfInBounds i true) (a.put (some d) v) w):Dd P md ops Q ks0 T (fuel+1) listed a w:=by
 simp only [Bool.and_eq_true,List.all_eq_true,Bool.not_eq_true'] at hb;exact Ou hi (Region.noSelect_spec hb.1.1.1.1) hQ (λ k hk=>(hb.2 k hk).1) hb.1.2 fuel listed a w (Region.free_spec hi hb.1.1.1.2) (by simpa using hb.1.1.2) (λ k hk=>(hb.2 k hk).2) (.inl ⟨hw,hr⟩) hS h
theorem skJ (i d:Nat) (g:Option (Nat×Bool)) {op:Op} {ty:bH} {pos:String} {aft:Array Edge} {fuel:Nat} {listed:Array Bool} {a:Act} {w:bG} (hi:ops[i]?=some ⟨some d,op,ty,pos,aft,g⟩) (hb:(Region.noSelect ops&&Region.free md ops listed i&&(Region.ready md ops listed).contains i&& !ks0.contains i)=true) (hQ:∀c a w,Q (.panic c) (a.put (some d) undef) w->Q (.panic c) a w) (hw:Region.wanted ⟨some d,op,ty,pos,aft,g⟩ (yielded ops a.tmps)=false) (hS:T (Er ks0 listed) w) (h:Dd P md ops Q ks0 T fuel (listed.setIfInBounds i true) (a.put (some d) undef) w):Dd P md ops Q ks0 T (fuel+1) listed a w:=by
 simp only [Bool.and_eq_true,Bool.not_eq_true'] at hb;exact Ou (ks:= []) hi (Region.noSelect_spec hb.1.1.1) hQ (λ k hk=>by cases hk) hb.2 fuel listed a w (Region.free_spec hi hb.1.1.2) (by simpa using hb.1.2) (λ k hk=>by cases hk) (.inr ⟨hw,rfl⟩) hS h
def H9 (P:bI) (md:Region.Mode) (ops:Array bJ) (Q:Exit->Act->bG->Prop) (ks0:List Nat) (T:List Bool->bG->Prop) (fuel:Nat) (listed:Array Bool) (a:Act) (w:bG) (rs:List Nat):Prop:=
 ∀i∈rs,wpOp P ops Q i (λ a' w'=>T (Er ks0 (listed.setIfInBounds i true)) w'/\Dd P md ops Q ks0 T fuel (listed.setIfInBounds i true) a' w') a w
theorem En {fuel:Nat} {listed:Array Bool} {a:Act} {w:bG} :H9 P md ops Q ks0 T fuel listed a w []:=λ _ h=>by cases h
theorem A7f {fuel:Nat} {listed:Array Bool} {a:Act} {w:bG} {i:Nat} {o:bJ} {rs:List Nat} (ho:ops[i]?=some o) (h:∀K':Act->bG->Prop,(∀a w,T (Er ks0 (listed.setIfInBounds i true)) w->Dd P md ops Q ks0 T fuel (listed.setIfInBounds i true) a w->K' a w)->if Region.wanted o (yielded ops a.tmps)=true then bJ.wp P o a w K' Q else K' (a.put o.dst undef) w) (hs:H9 P md ops Q ks0 T fuel listed a w rs):H9 P md ops Q ks0 T fuel listed a w (i::rs):=λ j hj=>by
 rcases List.mem_cons.1 hj with rfl | hj
 . exact wpOp_step ho (λ K' hK=>h K' (λ a w h1 h2=>hK a w ⟨h1,h2⟩))
 . exact hs j hj
theorem Ca {rs:List Nat} {fuel:Nat} {listed:Array Bool} {a:Act} {w:bG} (hr:Region.ready md ops listed=rs) (hne:rs≠ []) (h:H9 P md ops Q ks0 T fuel listed a w rs):Dd P md ops Q ks0 T (fuel+1) listed a w:=⟨λ h0=>absurd (hr▸h0) hne,hr▸h⟩
theorem A8u {listed:Array Bool} {a:Act} {w:bG} (hr:Region.ready md ops listed= []) (h:Q .normal a w): ∀fuel,Dd P md ops Q ks0 T fuel listed a w
 | 0=>⟨hr,h⟩
 | _+1=>⟨λ _=>h,by rw [hr]; simp⟩
theorem B5 (ks0:List Nat) (T:List Bool->bG->Prop) {id:Nat} {a:Act} {w:bG} (hm:P.follows .mixedOrders=true) (h:Dd P .any ops Q ks0 T ops.size (Array.replicate ops.size false) a w.drew):(Code.region id ops true).wp P Q a w:=wp_region_any hm (Tw _ _ _ _ h)
theorem ldJ {a:Act} {ty:bH} {m b off:Nat} {x:Operand} {cs:List bF} {d:Option Tmp} {t2:bH} {pos:String} {aft:Array Edge} {g:Option (Nat×Bool)} (hT:A3 P ty m) (hx:a.eval x=.pointer (some ⟨b,off,none⟩)) (hm:cs.length=m) {w:bG} (hc:Ao w b off cs): (execOp a.eval ⟨d,.load ty x,t2,pos,aft,g⟩).run P w=.ok (.value (.agg cs.toArray)) w:=by
 have h:=Ek hT hm hc;unfold execOp;simp only [hx,Instr.loadAt,Instr.sureAddr,Sem.run_bind,Sem.run_pure,Result.andThen_ok,h]
theorem Gh {a:Act} {ty:bH} {parts:Array (Nat×Operand)} {d:Option Tmp} {t2:bH} {pos:String} {aft:Array Edge} {g:Option (Nat×Bool)} {pv:List (Nat×bF)} (hp:(parts.map λ p=>(p.1,a.eval p.2))=pv.toArray) {cells:Array bF} (hb:P.built ty pv=some cells) (w:bG): (execOp a.eval ⟨d,.build ty parts,t2,pos,aft,g⟩).run P w=.ok (.value (.agg cells)) w:=by
 have hr:=run_build (P:=P) w ty pv.toArray cells (by simpa using hb);unfold execOp;simp only [hp,Sem.run_bind,Sem.run_pure,Result.andThen_ok,hr]
theorem De {rest:List bJ} {o:bJ} {a:Act} {w:bG} (hgd:Region.wanted o (yielded ops a.tmps)=true) {ty:bH} {parts:Array (Nat×Operand)} (ho:o.op=.build ty parts) {pv:List (Nat×bF)} (hp:(parts.map λ p=>(p.1,a.eval p.2))=pv.toArray) {cells:Array bF} (hb:P.built ty pv=some cells) (h:wpList P ops Q rest (a.put o.dst (.agg cells)) w):wpList P ops Q (o::rest) a w:=by
 refine Bh hgd λ K hK=>?_
 unfold bJ.wp execOp;have hr:=run_build (P:=P) w ty pv.toArray cells (by simpa using hb);simp only [ho,hp,Sem.run_bind,Sem.run_pure,Result.andThen_ok,hr];exact hK _ _ h
end
theorem By (l:Aa) (h:l.length=16):∃c0 c1 c2 c3 c4 c5 c6 c7 c8 c9 c10 c11 c12 c13 c14 c15,l= [c0,c1,c2,c3,c4,c5,c6,c7,c8,c9,c10,c11,c12,c13,c14,c15]:=by
 match l,h with
 | [a0,a1,a2,a3,a4,a5,a6,a7,a8,a9,a10,a11,a12,a13,a14,a15],_=>exact ⟨_,_,_,_,_,_,_,_,_,_,_,_,_,_,_,_,rfl⟩
theorem Iy {i:Nat} {l:Array Bool} (hk:∀k∈ [i],l.getD k true=false):Er [i] l= [false]:=by
 unfold Er;rw [aA,hk i (by simp)];rfl
theorem Ad.reblk {W W':bG} {g:Nat} {cur cs:List bF} {T:bH} {l:List Res} (h:Ad W (.blk g cur T::l)) (hb:Blk W' g cs T) (hk:Ai (λ k=>k=g) W W'):Ad W' (.blk g cs T::l):=
 h.turn λ F hF=>⟨F,⟨hb,hF.2⟩,λ b hb=>.inl hb,hk.mono λ k hk=>.inl ((hF.2 k).2 hk)⟩
theorem Ad.stW {W W':bG} {g m:Nat} {cur vs:List bF} {T:bH} {l:List Res} (h:Ad W (.blk g cur T::l)) (hb:Blk W' g (cur.take 0++vs++cur.drop (0+m)) T) (hk:Ai (λ k=>k=g) W W') (hl:cur.length=m):Ad W' (.blk g vs T::l):=by
 refine h.reblk ?_ hk;rw [List.drop_of_length_le (by omega)] at hb;simpa using hb
theorem Ad.blk0 {W:bG} {g:Nat} {cs:List bF} {T:bH} {l:List Res} (h:Ad W (.blk g cs T::l)):Blk W g cs T:=h.head.elim λ _ hF=>hF.1
theorem Ad.slf {W:bG} {sz n:Nat} {v:bF} {cs:List bF} {e:bH} {l:List Res} (h:Ad W (.own e sz v n cs::l)):∃a c,v=.slice a n c/\n<=c/\c<=maxLen:=h.head.elim λ _ hF=>hF.1.sl.form
theorem Ad.blkRow {W:bG} {g n:Nat} {b:Aa} {T:bH} {l:List Res} (h:Ad W (.blk g (Ae b) T::l)) (hn:b.length=n) (hm:n<=maxLen):Ad W (.row (.slice (some ⟨g,0,none⟩) n n) b::l):=
 h.weaken λ F hF=>⟨λ k=>0<b.length/\(bF.slice (some ⟨g,0,none⟩) n n).ownBlock=some k,⟨by
  have:=hF.1.bs (off:=0) (n:=n) (cap:=n) (by omega) (aB _) hm;exact Sl.bs this (by rw [List.drop_zero,List.take_of_length_le (by omega)]) hn,by decide,λ _=>Iff.rfl⟩,λ k hk=>(hF.2 k).2 (by have h:=hk.2; simp only [bF.ownBlock,Option.map_some,Option.some.injEq] at h; exact h.symm)⟩
theorem Ad.freshRow {W W':bG} {l:List Res} (h:Ad W l) (hb:Below W.heap.size W W') {x:bF} {b:Aa} (ho:Du W' W.heap.size x b):Ad W' (.row x b::l):=
 h.addRow hb ho.bs λ k hn hk=>by
  obtain ⟨g,cap,cur,rfl,hg,_⟩:=Own.form' ho hn;simp only [bF.ownBlock,Option.map_some,Option.some.injEq] at hk;omega
theorem Blk.slS {w:bG} {g sz:Nat} {cs:List bF} {T:bH} (h:Blk w g cs T) (hl:cs.length=sz) (h1:∀u∈cs,u.oneCell'=true):Sl w sz (.slice (some ⟨g,0,none⟩) 1 1) 1 cs:=
 ⟨by omega,h1,_,1,rfl,aB _,by unfold maxLen; decide,λ h=>by simp at h,.inr ⟨g,0,rfl,λ j u hj=>by rw [aC,h.cell]; exact hj⟩⟩
end
def Pe (P:bI) (ty:bH):Prop:=∃i,P.info? ty=some i/\i.size=1
theorem Pe.mk {P:bI} {ty:bH} (h:(P.info? ty).map (·.size)=some 1):Pe P ty:=by
 cases hq:P.info? ty with
 | none=>simp [hq] at h
 | some i=>exact ⟨i,hq,by simpa [hq] using h⟩
theorem Ua {v:bF} (h:v.oneCell'=true):v.cells=#[v]:=by
 cases v <;> first | rfl | simp [bF.oneCell'] at h
theorem A2j {l:List bF} {o:Nat} (h:o<l.length) (v:bF):l.take o++ [v]++l.drop (o+1)=l.set o v:=by
 rw [List.set_eq_take_append_cons_drop,if_pos h]; simp
theorem A6H {P:bI} {w:bG} {ty:bH} {g o:Nat} {cur:List bF} {v:bF} {T:bH} (hT:Pe P ty) (hb:Blk w g cur T) (hfit:o<cur.length) (h1:v.oneCell'=true): ∃w',(storeVar ty ⟨g,o,none⟩ v).run P w=.ok () w'/\Blk w' g (cur.set o v) T/\Ai (λ k=>k=g) w w':=by
 obtain ⟨i,hi,hs⟩:=hT;have hst:=run_storeCells_at P g o T [v] 0 cur.toArray w hb (by simp; omega) (by simpa using h1);simp only [aT] at hst;refine ⟨_,?_,?_,Ai.oneRow w g (cur.take o++ [v]++cur.drop (o+1)).toArray⟩
 . simp [storeVar,Ua h1,sizeOf,typeInfo,hi,hs,hst]
 . unfold Blk;rw [setRow_heap w g cur.toArray _ T _ hb,A2j hfit]
theorem Tg {P:bI} {ops:Array bJ} {o:bJ} {a:Act} {w:bG} {K:Act->bG->Prop} {Q:Exit->Act->bG->Prop} {E:Prop} (hgd:o.guard=none) (x y:Operand) {ty:bH} (hT:Pe P ty) (ho:o.op=.store ty x y) {g off:Nat} (hx:a.eval x=.pointer (some ⟨g,off,none⟩)) {v:bF} (hy:a.eval y=v) {cur:List bF} {T:bH} (hb:Blk w g cur T) (hfit:off<cur.length) (h1:v.oneCell'=true) (h:∀w',Blk w' g (cur.set off v) T->Ai (λ k=>k=g) w w'->K (a.put o.dst undef) w'):if Region.wanted o (yielded ops a.tmps)=true then bJ.wp P o a w K Q else E:=by
 have hw:Region.wanted o (yielded ops a.tmps)=true:=by simp [Region.wanted,hgd]
 rw [if_pos hw];obtain ⟨w',hr,h2,h3⟩:=A6H hT hb hfit h1;unfold bJ.wp execOp;simp only [ho,hx,hy,Instr.storeAt,Instr.sureAddr,Sem.run_bind,Sem.run_pure,Result.andThen_ok,hr];exact h w' h2 h3
theorem A0C {P:bI} {ops:Array bJ} {o:bJ} {a:Act} {w:bG} {K:Act->bG->Prop} {Q:Exit->Act->bG->Prop} {E:Prop} (f:Nat->bF) (cs:List bF) (T:bH) {l:List Res} (hgd:o.guard=none) (hr:(execOp a.eval o).run P w=.ok (.value (f w.heap.size)) (w.alloc (.cells cs.toArray T))) (hC:Ad w l) (h:∀b w',Ad w' (.blk b cs T::l)->K (a.put o.dst (f b)) w'):if Region.wanted o (yielded ops a.tmps)=true then bJ.wp P o a w K Q else E:=by
 have hw:Region.wanted o (yielded ops a.tmps)=true:=by simp [Region.wanted,hgd]
 rw [if_pos hw];unfold bJ.wp;rw [hr];exact h _ _ (hC.addBlk cs T)
theorem Nt {P:bI} {ops:Array bJ} {rest:List bJ} {a:Act} {w:bG} {Q:Exit->Act->bG->Prop} (d:Nat) (v:bF) {op:Op} {ty:bH} {pos:String} {aft:Array Edge} {g:Option (Nat×Bool)} (hw:Region.wanted ⟨some d,op,ty,pos,aft,g⟩ (yielded ops a.tmps)=true) (hr:(execOp a.eval ⟨some d,op,ty,pos,aft,g⟩).run P w=.ok (.value v) w) (h:wpList P ops Q rest (a.put (some d) v) w):wpList P ops Q (⟨some d,op,ty,pos,aft,g⟩::rest) a w:=by
 refine Bh hw λ K hK=>?_
 unfold bJ.wp;rw [hr];exact hK _ _ h
theorem Af {P:bI} {ops:Array bJ} {rest:List bJ} {o:bJ} {a:Act} {w:bG} {Q:Exit->Act->bG->Prop} (h:∀K:Act->bG->Prop,(∀a w,wpList P ops Q rest a w->K a w)->if Region.wanted o (yielded ops a.tmps)=true then bJ.wp P o a w K Q else K (a.put o.dst undef) w):wpList P ops Q (o::rest) a w:=wpList_step h
theorem An {P:bI} {Q:Exit->Act->bG->Prop} {id:Nat} {l:List bJ} {a:Act} {w:bG} (h:wpList P l.toArray Q l a w):(Code.region id l.toArray false).wp P Q a w:=wp_region_lit h
theorem Ad.st1 {W W':bG} {g off:Nat} {cur:List bF} {v:bF} {T:bH} {l:List Res} (h:Ad W (.blk g cur T::l)) (hb:Blk W' g (cur.set off v) T) (hk:Ai (λ k=>k=g) W W'):Ad W' (.blk g (cur.set off v) T::l):=h.reblk hb hk
theorem Ku {l vs:List bF} {o m:Nat} (hm:vs.length=m) (hf:o+m<=l.length):((l.take o++vs++l.drop (o+m)).drop o).take m=vs:=by
 have h1:(l.take o).length=o:=by simp; omega
 rw [List.append_assoc];have h2:(l.take o++(vs++l.drop (o+m))).drop o=vs++l.drop (o+m):=by
  have:=List.drop_left (l₁:=l.take o) (l₂:=vs++l.drop (o+m));rw [h1] at this;exact this
 rw [h2,<-hm,List.take_left]
theorem Km {l vs:List bF} {o m:Nat} (hm:vs.length=m) (hf:o+m<=l.length):(l.take o++vs++l.drop (o+m)).length=l.length:=by
 simp [hm]; omega
theorem A2n {P:bI} {ops:Array bJ} {o:bJ} {a:Act} {w:bG} {K:Act->bG->Prop} {Q:Exit->Act->bG->Prop} {E:Prop} (hgd:o.guard=none) (x:Operand) {ty:bH} {m:Nat} (hT:A3 P ty m) (ho:o.op=.load ty x) {b off:Nat} (hx:a.eval x=.pointer (some ⟨b,off,none⟩)) {cs:List bF} (hm:cs.length=m) (hc:Ao w b off cs) (h:K (a.put o.dst (.agg cs.toArray)) w):if Region.wanted o (yielded ops a.tmps)=true then bJ.wp P o a w K Q else E:=by
 have hw:Region.wanted o (yielded ops a.tmps)=true:=by simp [Region.wanted,hgd]
 rw [if_pos hw];unfold bJ.wp execOp;simp only [ho,hx,Instr.loadAt,Instr.sureAddr,Sem.run_bind,Sem.run_pure,Result.andThen_ok,Ek hT hm hc];exact h
theorem Ea {P:bI} {ops:Array bJ} {o:bJ} {a:Act} {w:bG} {K:Act->bG->Prop} {Q:Exit->Act->bG->Prop} {E:Prop} (hgd:o.guard=none) (x y:Operand) {ty:bH} {m:Nat} (hT:A3 P ty m) (ho:o.op=.store ty x y) {g off:Nat} (hx:a.eval x=.pointer (some ⟨g,off,none⟩)) {vs:List bF} (hy:a.eval y=.agg vs.toArray) (hm:vs.length=m) {cur:List bF} {T:bH} (hb:Blk w g cur T) (hfit:off+m<=cur.length) (h1:∀v∈vs,v.oneCell'=true) (h:∀w',Blk w' g (cur.take off++vs++cur.drop (off+m)) T->Ai (λ k=>k=g) w w'->K (a.put o.dst undef) w'):if Region.wanted o (yielded ops a.tmps)=true then bJ.wp P o a w K Q else E:=by
 have hw:Region.wanted o (yielded ops a.tmps)=true:=by simp [Region.wanted,hgd]
 rw [if_pos hw];obtain ⟨w',hr,h2,h3⟩:=O6 hT hm hb hfit h1;unfold bJ.wp execOp;simp only [ho,hx,hy,Instr.storeAt,Instr.sureAddr,Sem.run_bind,Sem.run_pure,Result.andThen_ok,hr];exact h w' h2 h3
end Go.Proofs.YtcnfaghcjlhoiaaGreat
