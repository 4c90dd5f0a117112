/- Texts of this proof, one behind the other: Base, ByteC, Slices, Flat, Res, HReg, Pull, RegJ, StJ. -/
import Derived.WalkKit
import Derived.ProofKit
import Derived.OpenShut
import Derived.Laws.CopyOwn
import Derived.Deep.Draws
import Derived.Deep.QuietTactic
import Derived.BigQuiet
import Derived.Lib.Hide
import Derived.Deep.RegionLawGrows
import Derived.Deep.RegionHeld3
import Derived.ChangeAlike
import Derived.RegionTactic
import Derived.WalkSmall
import Derived.Test.YtnihelcjmahmnaaGreatProg
import Derived.Outline
import Derived.Great.BuildSlice
import Derived.OrdersHeld
import Derived.StillTail
set_option linter.unusedSimpArgs false
set_option linter.unusedVariables false
set_option maxRecDepth 100000
set_option maxHeartbeats 16000000
open Nat renaming le_refl -> aA, zero_add -> aE, add_mul -> aJ, zero_le -> aM, lt_or_ge -> aS, add_zero -> aU, zero_mul -> aW, le_trans -> aY, mul_pos -> bA, add_assoc -> bD, lt_of_lt_of_le -> bF
open List renaming map_cons -> aC, perm_middle -> aF, map_toArray -> aG, map_nil -> aH, getElem?_take -> aI, range -> aK, flatten_cons -> aL, eq_nil_of_length_eq_zero -> aN, replicate -> aO, length_take -> aQ, getElem?_drop -> aR, length_drop -> aV, length_cons -> aX, length_append -> aZ, mem_of_mem_take -> bB, getElem?_map -> bC
open Go.RowKit.Below renaming refl -> aD
open Array renaming getElem?_eq_none -> aP, getElem?_toList -> aT, getElem?_setIfInBounds -> bE
open Go renaming Value -> bG, World -> bH, TypeId -> bI, Program -> bJ, Oper -> bK
namespace Go.Proofs.YtnihelcjmahmnaaGreat
open Go.RowKit
structure Hq (p:Prop):Prop where
  o:p
theorem hqZ {p:Prop} (h:p):Hq p:=⟨h⟩
theorem P6 (a:Option Addr) (n c n' c':Nat):(bG.slice a n c).ownBlock=(bG.slice a n' c').ownBlock:=by cases a <;> rfl
structure Ai (S:Nat->Prop) (w w':bH):Prop where
  os:w'.os=w.os
  tape:w'.tape=w.tape
  output:w'.output=w.output
  size:w.heap.size<=w'.heap.size
  block:∀k,¬S k->w'.heap[k]?=w.heap[k]?
theorem Ai.refl (S:Nat->Prop) (w:bH):Ai S w w:=⟨rfl,rfl,rfl,aA _,λ _ _=>rfl⟩
theorem Ai.trans {S:Nat->Prop} {a b c:bH} (h:Ai S a b) (k:Ai S b c):Ai S a c:=
  ⟨k.os.trans h.os,k.tape.trans h.tape,k.output.trans h.output,aY h.size k.size,λ i hi=>(k.block i hi).trans (h.block i hi)⟩
theorem Ai.mono {S T:Nat->Prop} {w w':bH} (h:Ai S w w') (hs:∀k,S k->T k):Ai T w w':=
  ⟨h.os,h.tape,h.output,h.size,λ k hk=>h.block k (λ x=>hk (hs k x))⟩
theorem Ai.of_below {B:Nat} {w w':bH} (h:Below B w w'):Ai (λ k=>B<=k) w w':=
  ⟨h.os,h.tape,h.output,h.size,λ k hk=>h.block k (by omega)⟩
theorem Ai.below {B:Nat} {S:Nat->Prop} {w w':bH} (h:Ai S w w') (hs:∀k,S k->B<=k):Below B w w':=
  ⟨h.os,h.tape,h.output,h.size,λ k hk=>h.block k (λ x=>by have:=hs k x; omega)⟩
theorem Ai.drew {S:Nat->Prop} {a w:bH} (h:Ai S a w):Ai S a w.drew:=⟨h.os,h.tape,h.output,h.size,h.block⟩
theorem Ai.drewN {S:Nat->Prop} {a w:bH} (h:Ai S a w) (n:Nat):Ai S a (w.drewN n):=⟨h.os,h.tape,h.output,h.size,h.block⟩
theorem Ai.alloc {S:Nat->Prop} {a w:bH} (h:Ai S a w) (o:Obj) (hs:S w.heap.size):Ai S a (w.alloc o):=
  h.trans ⟨rfl,rfl,rfl,by simp,λ k hk=>by
    show (w.heap.push o)[k]?=_
    rw [Array.getElem?_push,if_neg (by rintro rfl; exact hk hs)]⟩
theorem Ai.setCell {S:Nat->Prop} {a w:bH} (h:Ai S a w) {p:Addr} (hs:S p.block) (u:bG):Ai S a (w.setCell p u):=
  h.trans ⟨rfl,rfl,rfl,by simp [bH.setCell],λ k hk=>Below.heap_setCell _ _ _ _ (by rintro rfl; exact hk hs)⟩
theorem Ai.one (w:bH) (p o:Nat) (u:bG):Ai (λ k=>k=p) w (w.setCell ⟨p,o,none⟩ u):=Ai.setCell (S:=λ k=>k=p) (p:=⟨p,o,none⟩) (Ai.refl _ _) rfl u
theorem Ai.setRow {S:Nat->Prop} {a w:bH} (h:Ai S a w) {g:Nat} (hs:S g) (cs:Array bG):Ai S a (w.setRow g cs):=
  h.trans ⟨rfl,rfl,rfl,by simp,λ k hk=>setRow_other w g k cs (by rintro rfl; exact hk hs)⟩
theorem Ai.oneRow (w:bH) (g:Nat) (cs:Array bG):Ai (λ k=>k=g) w (w.setRow g cs):=Ai.setRow (S:=λ k=>k=g) (g:=g) (Ai.refl _ _) rfl cs
theorem Ai.grown {S:Nat->Prop} {a w w':bH} {row:Option Nat} (h:Ai S a w) (hg:w.grownBy w' row) (hn:∀k,w.heap.size<=k->S k) (hr:∀k,row=some k->S k):Ai S a w':=
  h.trans ⟨hg.os,hg.tape,hg.output,hg.size,λ k hk=>by
    rcases aS k w.heap.size with hl | hl
    · exact hg.block k hl (λ e=>hk (hr k e.symm))
    · exact absurd (hn k hl) hk⟩
theorem Ai.cell {S:Nat->Prop} {w w':bH} (h:Ai S w w') {p:Addr} (hp:¬S p.block):w'.cell? p=w.cell? p:=bH.cell?_of_block (w:=w) (h.block p.block hp)
theorem Bc {w w':bH} (h:Below w.heap.size w w') {p:Addr} {v:bG} (hp:w.cell? p=some v):w'.cell? p=some v:=
  (h.cell (bH.block_lt_of_cell? w p hp)).trans hp
theorem F7 {w:bH} {b:Nat} {o:Obj} (h:w.heap[b]?=some o):b<w.heap.size:=by
  rcases aS b w.heap.size with h' | h'
  · exact h'
  · simp [aP h'] at h
def Blk (w:bH) (b:Nat) (cs:List bG) (T:bI):Prop:=w.heap[b]?=some (.cells cs.toArray T (0,0))
theorem Blk.lt {w:bH} {b:Nat} {cs:List bG} {T:bI} (h:Blk w b cs T):b<w.heap.size:=F7 h
theorem Blk.cell {w:bH} {b:Nat} {cs:List bG} {T:bI} (h:Blk w b cs T) (o:Nat):w.cell? ⟨b,o,none⟩=cs[o]?:=by simp [bH.cell?,show w.heap[b]?=_ from h]
theorem Blk.frozen {w:bH} {b:Nat} {cs:List bG} {T:bI} (h:Blk w b cs T) (o:Nat):w.frozen? ⟨b,o,none⟩=false:=by simp [bH.frozen?,show w.heap[b]?=_ from h]
theorem Blk.keep {w w':bH} {b:Nat} {cs:List bG} {T:bI} (h:Blk w b cs T) {S:Nat->Prop} (hk:Ai S w w') (hb:¬S b):Blk w' b cs T:=(hk.block b hb).trans h
theorem Blk.below {w w':bH} {b:Nat} {cs:List bG} {T:bI} (h:Blk w b cs T) {B:Nat} (hk:Below B w w') (hb:b<B):Blk w' b cs T:=(hk.block b hb).trans h
theorem Blk.drew {w:bH} {b:Nat} {cs:List bG} {T:bI} (h:Blk w b cs T):Blk w.drew b cs T:=h
theorem Blk.alloc {w:bH} {b:Nat} {cs:List bG} {T:bI} (h:Blk w b cs T) (o:Obj):Blk (w.alloc o) b cs T:=(Below.heap_alloc w o b h.lt).trans h
theorem Blk.new (w:bH) (cs:List bG) (T:bI):Blk (w.alloc (.cells cs.toArray T)) w.heap.size cs T:=heap_alloc_new w _
theorem Blk.at_ {w:bH} {b:Nat} {cs:Array bG} {T:bI} (h:w.heap.size=b):Blk (w.alloc (.cells cs T)) b cs.toList T:=by subst h; exact heap_alloc_new w _
theorem Blk.set {w:bH} {b:Nat} {cs:List bG} {T:bI} (h:Blk w b cs T) (o:Nat) (v:bG):Blk (w.setCell ⟨b,o,none⟩ v) b (cs.set o v) T:=by
  unfold Blk;rw [heap_setCell_same w b o cs.toArray T v h];simp
theorem Blk.set_other {w:bH} {b:Nat} {cs:List bG} {T:bI} (h:Blk w b cs T) {p:Addr} (hp:b≠p.block) (v:bG):Blk (w.setCell p v) b cs T:=
  (heap_setCell_other w p b v hp).trans h
def At (w:bH) (a:Option Addr) (cs:List bG):Prop:=
  cs= []\/∃b off,a=some ⟨b,off,none⟩/\∀j u,cs[j]?=some u->w.cell? ⟨b,off+j,none⟩=some u
def Sl (w:bH) (sz:Nat) (v:bG) (n:Nat) (cs:List bG):Prop:=
  cs.length=n*sz/\(∀u∈cs,u.oneCell'=true)/\∃a cap,v=.slice a n cap/\n<=cap/\cap<=maxLen/\(a=none->cap=0)/\At w a cs
theorem At.mono {w w':bH} {a:Option Addr} {cs:List bG} (h:At w a cs) (hc:∀b o u,(∃x,a=some x/\x.block=b)->w.cell? ⟨b,o,none⟩=some u->w'.cell? ⟨b,o,none⟩=some u):At w' a cs:=by
  rcases h with h | ⟨b,off,rfl,h⟩
  · exact .inl h
  · exact .inr ⟨b,off,rfl,λ j u hj=>hc b _ u ⟨_,rfl,rfl⟩ (h j u hj)⟩
theorem Sl.mono {w w':bH} {sz:Nat} {v:bG} {n:Nat} {cs:List bG} (h:Sl w sz v n cs) (hc:∀b o u,v.ownBlock=some b->w.cell? ⟨b,o,none⟩=some u->w'.cell? ⟨b,o,none⟩=some u):Sl w' sz v n cs:=by
  obtain ⟨h1,h2,a,cap,rfl,h3,h4,h5,h6⟩:=h;refine ⟨h1,h2,a,cap,rfl,h3,h4,h5,h6.mono λ b o u ⟨x,e1,e2⟩=>hc b o u ?_⟩;subst e1;simp [bG.ownBlock,e2]
theorem Sl.keep {w w':bH} {sz:Nat} {v:bG} {n:Nat} {cs:List bG} {S:Nat->Prop} (h:Sl w sz v n cs) (hk:Ai S w w') (hb:∀b,v.ownBlock=some b->¬S b):Sl w' sz v n cs:=
  h.mono λ b o _ e hc=>(hk.cell (p:=⟨b,o,none⟩) (hb b e)).trans hc
theorem Sl.keep' {w w':bH} {sz:Nat} {v:bG} {n:Nat} {cs:List bG} {S:Nat->Prop} (h:Sl w sz v n cs) (hk:Ai S w w') (hb:∀b,v.ownBlock=some b->b<w.heap.size->¬S b):Sl w' sz v n cs:=
  h.mono λ b o _ e hc=>(hk.cell (p:=⟨b,o,none⟩) (hb b e (bH.block_lt_of_cell? w ⟨b,o,none⟩ hc))).trans hc
theorem Sl.below {w w':bH} {sz:Nat} {v:bG} {n:Nat} {cs:List bG} (h:Sl w sz v n cs) (hk:Below w.heap.size w w'):Sl w' sz v n cs:=
  h.mono λ _ _ _ _ hc=>Bc hk hc
theorem Sl.drew {w:bH} {sz:Nat} {v:bG} {n:Nat} {cs:List bG} (h:Sl w sz v n cs):Sl w.drew sz v n cs:=h.mono λ _ _ _ _ hc=>hc
theorem Sl.alloc {w:bH} {sz:Nat} {v:bG} {n:Nat} {cs:List bG} (h:Sl w sz v n cs) (o:Obj):Sl (w.alloc o) sz v n cs:=
  h.below ((aD _ _).alloc (aA _) _)
theorem Sl.setCell {w:bH} {sz:Nat} {v:bG} {n:Nat} {cs:List bG} (h:Sl w sz v n cs) {p:Addr} (hp:v.ownBlock≠some p.block) (u:bG):Sl (w.setCell p u) sz v n cs:=
  h.keep (S:=λ k=>k=p.block) (Ai.setCell (Ai.refl (λ k=>k=p.block) w) (p:=p) rfl u) (λ b hb e=>hp (by rw [hb,e]))
theorem Sl.nil (w:bH) (sz:Nat) (a:Option Addr):Sl w sz (.slice a 0 0) 0 []:=⟨by simp,by simp,a,0,rfl,aA _,aM _,λ _=>rfl,.inl rfl⟩
theorem Sl.form {w:bH} {sz:Nat} {v:bG} {n:Nat} {cs:List bG} (h:Sl w sz v n cs):∃a cap,v=.slice a n cap/\n<=cap/\cap<=maxLen:=
  let ⟨_,_,a,cap,e,h1,h2,_⟩:=h; ⟨a,cap,e,h1,h2⟩
theorem Sl.addr {w:bH} {sz:Nat} {a:Option Addr} {n cap:Nat} {cs:List bG} (h:Sl w sz (.slice a n cap) n cs) (hpos:0<cs.length): ∃b off,a=some ⟨b,off,none⟩/\∀j u,cs[j]?=some u->w.cell? ⟨b,off+j,none⟩=some u:=by
  obtain ⟨_,_,a',cap',e,_,_,_,h0 | h⟩:=h
  · subst h0; simp at hpos
  · injection e with e1 e2 e3;subst e1;exact h
def Own (w:bH) (B:Nat) (e:bI) (sz:Nat) (v:bG) (n:Nat) (cs:List bG):Prop:=
  cs.length=n*sz/\(∀u∈cs,u.oneCell'=true)/\
  ((∃a,v=.slice a 0 0/\n=0)\/
   ∃g cap cur,v=.slice (some ⟨g,0,none⟩) n cap/\B<=g/\w.heap[g]?=some (.cells cur e (0,0))/\n<=cap/\cap<=maxLen/\cur.size=cap*sz/\cur.toList.take (n*sz)=cs)
theorem Own.of_row {w:bH} {B:Nat} {e:bI} {sz:Nat} {v:bG} {n:Nat} {cs:List bG} (h:w.ownsRow B e sz v n cs) (h1:∀u∈cs,u.oneCell'=true):Own w B e sz v n cs:=by
  obtain ⟨h0,h2⟩:=h;refine ⟨h0,h1,?_⟩;rcases h2 with ⟨h2,h3⟩ | h2
  · exact .inl ⟨none,h2,h3⟩
  · exact .inr h2
theorem Own.sl {w:bH} {B:Nat} {e:bI} {sz:Nat} {v:bG} {n:Nat} {cs:List bG} (h:Own w B e sz v n cs):Sl w sz v n cs:=by
  obtain ⟨h0,h1,⟨a,rfl,rfl⟩ | ⟨g,cap,cur,rfl,h2,h3,h4,h5,h6,h7⟩⟩:=h
  · exact ⟨h0,h1,a,0,rfl,aA _,aM _,λ _=>rfl,.inl (aN (by simpa using h0))⟩
  · refine ⟨h0,h1,_,cap,rfl,h4,h5,λ h=>by simp at h,.inr ⟨g,0,rfl,λ j u hj=>?_⟩⟩;have hjl:j<n*sz:=by have:=(List.getElem?_eq_some_iff.1 hj).1; omega
    rw [<-h7,aI,if_pos hjl] at hj;rw [aE,cell_of_row w g j cur e (0,0) h3,<-aT];exact hj
theorem Own.base {w:bH} {B B':Nat} {e:bI} {sz:Nat} {v:bG} {n:Nat} {cs:List bG} (h:Own w B e sz v n cs) (hB:B'<=B):Own w B' e sz v n cs:=by
  obtain ⟨h0,h1,h2 | ⟨g,cap,cur,hv,h2,hr⟩⟩:=h
  · exact ⟨h0,h1,.inl h2⟩
  · exact ⟨h0,h1,.inr ⟨g,cap,cur,hv,by omega,hr⟩⟩
theorem Own.keep {w w':bH} {B:Nat} {e:bI} {sz:Nat} {v:bG} {n:Nat} {cs:List bG} {S:Nat->Prop} (h:Own w B e sz v n cs) (hk:Ai S w w') (hb:∀b,v.ownBlock=some b->¬S b):Own w' B e sz v n cs:=by
  obtain ⟨h0,h1,h2 | ⟨g,cap,cur,rfl,h2,h3,hr⟩⟩:=h
  · exact ⟨h0,h1,.inl h2⟩
  · exact ⟨h0,h1,.inr ⟨g,cap,cur,rfl,h2,(hk.block g (hb g rfl)).trans h3,hr⟩⟩
theorem Own.below {w w':bH} {B:Nat} {e:bI} {sz:Nat} {v:bG} {n:Nat} {cs:List bG} (h:Own w B e sz v n cs) (hk:Below w.heap.size w w'):Own w' B e sz v n cs:=by
  obtain ⟨h0,h1,h2 | ⟨g,cap,cur,rfl,h2,h3,hr⟩⟩:=h
  · exact ⟨h0,h1,.inl h2⟩
  · exact ⟨h0,h1,.inr ⟨g,cap,cur,rfl,h2,(hk.block g (F7 h3)).trans h3,hr⟩⟩
theorem Own.alloc {w:bH} {B:Nat} {e:bI} {sz:Nat} {v:bG} {n:Nat} {cs:List bG} (h:Own w B e sz v n cs) (o:Obj):Own (w.alloc o) B e sz v n cs:=
  h.below ((aD _ _).alloc (aA _) _)
theorem Own.drew {w:bH} {B:Nat} {e:bI} {sz:Nat} {v:bG} {n:Nat} {cs:List bG} (h:Own w B e sz v n cs):Own w.drew B e sz v n cs:=
  h.below ((aD _ _).drew)
theorem Blk.drewN {w:bH} {b:Nat} {cs:List bG} {T:bI} (h:Blk w b cs T) (q:Nat):Blk (w.drewN q) b cs T:=h
theorem Own.nil (w:bH) (B:Nat) (e:bI) (sz:Nat) (a:Option Addr):Own w B e sz (.slice a 0 0) 0 []:=⟨by simp,by simp,.inl ⟨a,rfl,rfl⟩⟩
theorem Own.lit (w:bH) (cs:List bG) (e:bI) (sz n:Nat) (hs:cs.length=n*sz) (h1:∀u∈cs,u.oneCell'=true) (hm:n<=maxLen): Own (w.alloc (.cells cs.toArray e)) w.heap.size e sz (.slice (some ⟨w.heap.size,0,none⟩) n n) n cs:=
  ⟨hs,h1,.inr ⟨w.heap.size,n,cs.toArray,rfl,aA _,heap_alloc_new w _,aA _,hm,by simpa using hs,by simp [<-hs]⟩⟩
theorem Own.at_ {w:bH} {cs:Array bG} {e:bI} {sz n b B:Nat} (hb:w.heap.size=b) (hB:B<=b) (hl:cs.toList.length=n*sz) (h1:∀u∈cs.toList,u.oneCell'=true) (hm:n<=maxLen): Own (w.alloc (.cells cs e)) B e sz (.slice (some ⟨b,0,none⟩) n n) n cs.toList:=by
  subst hb;exact (Own.lit w cs.toList e sz n hl h1 hm).base hB
theorem Jl (a b:ByteArray):a.toList=b.toList↔a=b:=by
  rw [ByteArray.toList_eq,ByteArray.toList_eq];obtain ⟨⟨x⟩⟩:=a;obtain ⟨⟨y⟩⟩:=b;simp
def Cz (P:bJ) (t e:bI) (size bytes:Nat) (z:bG):Prop:=
  P.underlying t=some (.slice e)/\∃i,P.info? e=some i/\i.zero=some z/\i.size=size/\i.bytes=bytes/\z.cells.size=size/\0<size
theorem Cz.mk {P:bJ} {t e:bI} {z:bG} {size bytes:Nat} (h:P.underlying t=some (.slice e)) (h2:(P.info? e).map (λ i=>(i.zero,i.size,i.bytes))=some (some z,size,bytes)) (h3:z.cells.size=size) (h4:0<size):Cz P t e size bytes z:=by
  obtain ⟨i,hi,hz0,hz1,hz2⟩:=info_parts h2;exact ⟨h,i,hi,hz0,hz1,hz2,h3,h4⟩
theorem At.one {w:bH} {b:Nat} {cs:Array bG} {T:bI} {fz:Nat×Nat} (h:w.heap[b]?=some (.cells cs T fz)):At w (some ⟨b,0,none⟩) cs.toList:=by
  refine .inr ⟨b,0,rfl,λ j u hj=>?_⟩;rw [aE,cell_of_row w b j cs T fz h,<-aT];exact hj
theorem Sl.lit {w:bH} {cs:Array bG} {T:bI} {sz n b:Nat} (hb:w.heap.size=b) (hl:cs.toList.length=n*sz) (h1:∀u∈cs.toList,u.oneCell'=true) (hn:n<=maxLen): Sl (w.alloc (.cells cs T)) sz (.slice (some ⟨b,0,none⟩) n n) n cs.toList:=by
  subst hb;exact ⟨hl,h1,_,n,rfl,aA _,hn,λ h=>by simp at h,At.one (heap_alloc_new w _)⟩
theorem I5 {α:Type} (x:α) (l:List α) (k:Nat) (h:k<l.length) (h1:x∉l.take k) (h2:l[k]≠x):x∉l.take (k+1):=by
  rw [List.take_succ_eq_append_getElem h,List.mem_append];rintro (h3 | h3)
  · exact h1 h3
  · exact h2 (List.mem_singleton.1 h3).symm
theorem N5 {P:bJ} {w:bH} {t ty e:bI} {size bytes:Nat} {z:bG} (hE:Cz P t e size bytes z) {B:Nat} {v:bG} {n:Nat} {cs:List bG} (hown:Own w B e size v n cs) {x:bG} {m:Nat} {ds:List bG} (hsl:Sl w size x m ds) (h63:n+m<=maxLen) (hbytes:(n+m)*bytes<=140737488355328) (hbase:B<=w.heap.size): ∃v' w',(Builtin.append_ #[t,t] ty #[v,x]).run P w=.ok v' w'/\Own w' B e size v' (n+m) (cs++ds)/\Ai (λ k=>v.ownBlock=some k/\B<=k\/w.heap.size<=k) w w'/\(∀b,v'.ownBlock=some b->v.ownBlock=some b\/w.heap.size<=b):=by
  obtain ⟨ht,i,hi,hz,hsize,hby,hzs,hsz⟩:=hE;obtain ⟨hdl,hd1,a,c,rfl,hmc,hcm,hanone,hat⟩:=hsl;obtain ⟨hcl,hc1,hform⟩:=hown;have hall:∀u∈cs++ds,u.oneCell'=true:=by
    intro u hu;rcases List.mem_append.1 hu with h | h
    · exact hc1 u h
    · exact hd1 u h
  have hlen:(cs++ds).length=(n+m)*size:=by rw [aZ,hcl,hdl,aJ]
  by_cases hm0:m=0
  ·
    subst hm0;obtain rfl:ds= []:=aN (by simpa using hdl);have hfc:(Builtin.firstCells size 0 (.slice a 0 c)).run P w=.ok #[] w:=by
      cases a <;> simp [Builtin.firstCells,loadCells,loadCellsFrom]
    refine ⟨v,w,?_,⟨by simpa using hcl,by simpa using hc1,by simpa using hform⟩,Ai.refl _ _,λ b h=>.inl h⟩;rcases hform with ⟨a0,rfl,rfl⟩ | ⟨g,cap,cur,rfl,_,_,hnc,_⟩
    · cases a0 <;> simp [Builtin.append_,run_underlying ht,sizeOf,typeInfo,hi,Builtin.lenOf,hsize,hfc,storeCells]
    · simp [Builtin.append_,run_underlying ht,sizeOf,typeInfo,hi,Builtin.lenOf,hsize,hfc,hnc,storeCells]
  · have hdpos:0<ds.length:=by rw [hdl]; exact bA (by omega) hsz
    obtain ⟨b,off,rfl,hcell⟩:∃b off,a=some ⟨b,off,none⟩/\∀j u,ds[j]?=some u->w.cell? ⟨b,off+j,none⟩=some u:=by
      rcases hat with h | h
      · subst h; simp at hdpos
      · exact h
    have hnews:∀j u,ds[j]?=some u->w.cell? ((⟨b,off,none⟩:Addr).add j)=some u:=λ j u hj=>by rw [Addr.add_lit]; exact hcell j u hj
    have fresh:∀(v':bG) (w':bH),w'.ownsRow w.heap.size e size v' (n+m) (cs++ds)->w.grownBy w' none->
        Own w' B e size v' (n+m) (cs++ds)/\Ai (λ k=>v.ownBlock=some k/\B<=k\/w.heap.size<=k) w w'/\(∀b,v'.ownBlock=some b->v.ownBlock=some b\/w.heap.size<=b):=by
      intro v' w' h1 h2;refine ⟨(Own.of_row h1 hall).base hbase,(Ai.refl _ _).grown h2 (λ k hk=>Or.inr hk) (by simp),λ b hb=>.inr (h1.lt b hb).1⟩
    rcases hform with ⟨a0,rfl,rfl⟩ | ⟨g,cap,cur,rfl,hbg,hg,hnc,hcm',hcs,htake⟩
    · obtain rfl:cs= []:=aN (by simpa using hcl)
      cases a0 with
      | none=>
        obtain ⟨v',w',hr,h1,h2,_⟩:=run_append_own (P:=P) w w.heap.size t ty e i z size bytes ht hi hz hsize hby hzs hsz (.slice none 0 0) 0 [] (bH.ownsRow_nil w _ e size) ⟨b,off,none⟩ m c ds hdl hnews hd1 h63 hbytes (aA _);exact ⟨v',w',hr,fresh v' w' h1 h2⟩
      | some b0=>
        obtain ⟨v',w',hr,h1,h2⟩:=run_append_arg_grows (P:=P) w t ty e i z size bytes ht hi hz hsize hby hzs hsz b0 0 0 [] (by simp) (by simp) ⟨b,off,none⟩ m c ds hdl hnews (by omega) h63 hbytes;exact ⟨v',w',hr,fresh v' w' h1 h2⟩
    · by_cases hroom:n+m<=cap
      · obtain ⟨w',hr,h1,h2⟩:=run_append_fits (P:=P) w B t ty e i size ht hi hsize g n cap cs ⟨hcl,.inr ⟨g,cap,cur,rfl,hbg,hg,hnc,hcm',hcs,htake⟩⟩ ⟨b,off,none⟩ m c ds hdl hnews hd1 hroom;exact ⟨_,w',hr,Own.of_row h1 hall,(Ai.refl _ _).grown h2 (λ k hk=>Or.inr hk) (λ k hk=>by simp only [Option.some.injEq] at hk; subst hk; exact .inl ⟨rfl,hbg⟩),λ b hb=>.inl hb⟩
      · have holds:∀j u,cs[j]?=some u->w.cell? ((⟨g,0,none⟩:Addr).add j)=some u:=by
          intro j u hj;have hjl:j<n*size:=by have:=(List.getElem?_eq_some_iff.1 hj).1; omega
          rw [<-htake,aI,if_pos hjl] at hj;rw [Addr.add_lit,aE,cell_of_row w g j cur e (0,0) hg,<-aT];exact hj
        obtain ⟨v',w',hr,h1,h2⟩:=run_append_arg_grows (P:=P) w t ty e i z size bytes ht hi hz hsize hby hzs hsz ⟨g,0,none⟩ n cap cs hcl holds ⟨b,off,none⟩ m c ds hdl hnews (by omega) h63 hbytes;exact ⟨v',w',hr,fresh v' w' h1 h2⟩
theorem By {P:bJ} {ops:Array bK} {rest:List bK} {o:bK} {a:Act} {w:bH} {Q:Exit->Act->bH->Prop} (hw:Region.wanted o (yielded ops a.tmps)=true) (h:∀K:Act->bH->Prop,(∀a w,wpList P ops Q rest a w->K a w)->o.wp P a w K Q):wpList P ops Q (o::rest) a w:=
  wpList_step λ K hK=>by rw [if_pos hw]; exact h K hK
theorem Iy {P:bJ} {w:bH} {ops:Array bK} {rest:List bK} {o:bK} {a:Act} {Q:Exit->Act->bH->Prop} (hgd:Region.wanted o (yielded ops a.tmps)=true) (s x:Operand) {t e:bI} {size bytes:Nat} {z:bG} (hE:Cz P t e size bytes z) (ho:o.op=.call { callee:=.builtin .append,args:=#[s,x],argTypes:=#[t,t] }) (B:Nat) {n:Nat} {cs:List bG} (hown:Own w B e size (a.eval s) n cs) {m:Nat} {ds:List bG} (hsl:Sl w size (a.eval x) m ds) (h63:n+m<=maxLen) (hbytes:(n+m)*bytes<=140737488355328) (hbase:B<=w.heap.size) (h:∀v' w',Own w' B e size v' (n+m) (cs++ds)->Ai (λ k=>(a.eval s).ownBlock=some k/\B<=k\/w.heap.size<=k) w w'->(∀b,v'.ownBlock=some b->(a.eval s).ownBlock=some b\/w.heap.size<=b)->wpList P ops Q rest (a.put o.dst v') w'):wpList P ops Q (o::rest) a w:=by
  obtain ⟨v',w',hr,h2,h3,h4⟩:=N5 (P:=P) (ty:=o.type) hE hown hsl h63 hbytes hbase;refine By hgd λ K hK=>?_
  unfold bK.wp execOp;simp only [ho,resolve,invoke,builtin,Sem.run_bind,Sem.run_pure,Result.andThen_ok,aG,aC,aH,hr];exact hK _ _ (h v' w' h2 h3 h4)
theorem A4b {P:bJ} {ops:Array bK} {o:bK} {a:Act} {w:bH} {K:Act->bH->Prop} {Q:Exit->Act->bH->Prop} {E:Prop} (hgd:o.guard=none) (s x:Operand) {t e:bI} {size bytes:Nat} {z:bG} (hE:Cz P t e size bytes z) (ho:o.op=.call { callee:=.builtin .append,args:=#[s,x],argTypes:=#[t,t] }) (B:Nat) {v:bG} (hv:a.eval s=v) {n:Nat} {cs:List bG} (hown:Own w B e size v n cs) {u:bG} (hu:a.eval x=u) {m:Nat} {ds:List bG} (hsl:Sl w size u m ds) (h63:n+m<=maxLen) (hbytes:(n+m)*bytes<=140737488355328) (hbase:B<=w.heap.size) (h:∀v' w',Own w' B e size v' (n+m) (cs++ds)->Ai (λ k=>v.ownBlock=some k/\B<=k\/w.heap.size<=k) w w'->(∀b,v'.ownBlock=some b->v.ownBlock=some b\/w.heap.size<=b)->K (a.put o.dst v') w'): if Region.wanted o (yielded ops a.tmps)=true then bK.wp P o a w K Q else E:=by
  have hw:Region.wanted o (yielded ops a.tmps)=true:=by simp [Region.wanted,hgd]
  rw [if_pos hw];obtain ⟨v',w',hr,h2,h3,h4⟩:=N5 (P:=P) (ty:=o.type) hE hown hsl h63 hbytes hbase;unfold bK.wp execOp;simp only [ho,resolve,invoke,builtin,Sem.run_bind,Sem.run_pure,Result.andThen_ok,aG,aC,aH,hv,hu,hr];exact h v' w' h2 h3 h4
theorem A1a {P:bJ} {w:bH} {dT sT ty e:bI} {bytes:Nat} {z:bG} (hE:Cz P dT e 1 bytes z) {g o dLen dCap:Nat} {cur:List bG} {T:bI} (hb:Blk w g cur T) {v:bG} {n:Nat} {cs:List bG} (hsl:Sl w 1 v n cs) (hfit:o+min n dLen<=cur.length): ∃w',(Builtin.copy_ #[dT,sT] ty #[.slice (some ⟨g,o,none⟩) dLen dCap,v]).run P w=.ok (.int .i64 (min n dLen:Nat)) w'/\ Blk w' g (cur.take o++cs.take (min n dLen)++cur.drop (o+min n dLen)) T/\Ai (λ k=>k=g) w w':=by
  obtain ⟨ht,i,hi,hz,hsize,hby,hzs,hsz⟩:=hE;obtain ⟨hcl,hc1,a,cap,rfl,hnc,hcm,hanone,hat⟩:=hsl;have hl:(cs.take (min n dLen)).length=min n dLen:=by rw [aQ]; omega
  cases a with
  | none=>
    have hc0:=hanone rfl;obtain rfl:n=0:=by omega
    subst hc0;refine ⟨w,?_,?_,Ai.refl _ _⟩
    · simp [Builtin.copy_,run_underlying ht,Builtin.lenOf,Builtin.firstCells,sizeOf,typeInfo,hi,storeCells,goInt]
    · simpa using hb
  | some ad=>
    have hsrc:∀j v,(cs.take (min n dLen))[j]?=some v->w.cell? (ad.add j)=some v:=by
      intro j v hj;rw [aI] at hj;split at hj
      · rcases hat with h | ⟨b,off,e,h⟩
        · subst h; simp at hj
        · simp only [Option.some.injEq] at e;subst e;rw [Addr.add_lit];exact h j v hj
      · simp at hj
    have hr:=run_copy_row (P:=P) w dT sT ty e g o dLen dCap ad n cap cur.toArray T (cs.take (min n dLen)) ht (by simp [hi,hsize]) hb hl hsrc (by rw [hl]; simpa using hfit) (λ v hv=>hc1 v (bB hv));rw [hl] at hr;refine ⟨_,hr,?_,Ai.oneRow _ _ _⟩;unfold Blk;rw [setRow_heap w g cur.toArray _ T _ hb]
theorem Pf {P:bJ} {w:bH} {ops:Array bK} {rest:List bK} {o:bK} {a:Act} {Q:Exit->Act->bH->Prop} (hgd:Region.wanted o (yielded ops a.tmps)=true) (d s:Operand) {dT sT e:bI} {bytes:Nat} {z:bG} (hE:Cz P dT e 1 bytes z) (ho:o.op=.call { callee:=.builtin .copy,args:=#[d,s],argTypes:=#[dT,sT] }) {g off dLen dCap:Nat} (hd:a.eval d=.slice (some ⟨g,off,none⟩) dLen dCap) {cur:List bG} {T:bI} (hb:Blk w g cur T) {u:bG} (hu:a.eval s=u) {n:Nat} {cs:List bG} (hsl:Sl w 1 u n cs) (hfit:off+min n dLen<=cur.length) (h:∀w',Blk w' g (cur.take off++cs.take (min n dLen)++cur.drop (off+min n dLen)) T->Ai (λ k=>k=g) w w'->wpList P ops Q rest (a.put o.dst (.int .i64 (min n dLen:Nat))) w'):wpList P ops Q (o::rest) a w:=by
  obtain ⟨w',hr,h2,h3⟩:=A1a (P:=P) (sT:=sT) (ty:=o.type) (dCap:=dCap) hE hb hsl hfit;refine By hgd λ K hK=>?_
  unfold bK.wp execOp;simp only [ho,resolve,invoke,builtin,Sem.run_bind,Sem.run_pure,Result.andThen_ok,aG,aC,aH,hd,hu,hr];exact hK _ _ (h w' h2 h3)
theorem A5g {P:bJ} {w:bH} {t ty e:bI} {bytes:Nat} {z:bG} (hE:Cz P t e 1 bytes z) (hz1:z.oneCell'=true) {g o n cap:Nat} {cur:List bG} {T:bI} (hb:Blk w g cur T) (hfit:o+n<=cur.length): ∃w',(Builtin.clear_ #[t] ty #[.slice (some ⟨g,o,none⟩) n cap]).run P w=.ok (.tuple #[]) w'/\Blk w' g (cur.take o++aO n z++cur.drop (o+n)) T/\Ai (λ k=>k=g) w w':=by
  obtain ⟨ht,i,hi,hz,hsize,hby,hzs,hsz⟩:=hE
  cases n with
  | zero=>exact ⟨w,by simp [Builtin.clear_,run_underlying ht],by simpa using hb,Ai.refl _ _⟩
  | succ n=>
    have hzc:z.cells=#[z]:=by cases z <;> simp_all [bG.cells,bG.oneCell']
    have hzl:(Builtin.zeroCells z.cells (n+1)).toList=aO (n+1) z:=by
      rw [hzc];apply List.ext_getElem?;intro j;by_cases hj:j<n+1 <;> simp [Builtin.zeroCells,hj,Nat.mod_one]
    have hst:=run_storeCells_at P g o T (aO (n+1) z) 0 cur.toArray w hb (by simp; omega) (λ v hv=>by rw [List.eq_of_mem_replicate hv]; exact hz1);simp only [aU,List.length_replicate] at hst;refine ⟨w.setRow g (cur.take o++aO (n+1) z++cur.drop (o+(n+1))).toArray,?_,?_,Ai.oneRow _ _ _⟩
    · simp only [Builtin.clear_];simp [run_underlying ht,zeroValue,typeInfo,hi,hz,hzl,hst]
    · unfold Blk;rw [setRow_heap w g cur.toArray _ T _ hb]
theorem M8 {P:bJ} {w:bH} {ops:Array bK} {rest:List bK} {o:bK} {a:Act} {Q:Exit->Act->bH->Prop} (hgd:Region.wanted o (yielded ops a.tmps)=true) (d:Operand) {t e:bI} {bytes:Nat} {z:bG} (hE:Cz P t e 1 bytes z) (hz1:z.oneCell'=true) (ho:o.op=.call { callee:=.builtin .clear,args:=#[d],argTypes:=#[t] }) {g off n cap:Nat} (hd:a.eval d=.slice (some ⟨g,off,none⟩) n cap) {cur:List bG} {T:bI} (hb:Blk w g cur T) (hfit:off+n<=cur.length) (h:∀w',Blk w' g (cur.take off++aO n z++cur.drop (off+n)) T->Ai (λ k=>k=g) w w'->wpList P ops Q rest (a.put o.dst (.tuple #[])) w'):wpList P ops Q (o::rest) a w:=by
  obtain ⟨w',hr,h2,h3⟩:=A5g (P:=P) (ty:=o.type) (cap:=cap) hE hz1 hb hfit;refine By hgd λ K hK=>?_
  unfold bK.wp execOp;simp only [ho,resolve,invoke,builtin,Sem.run_bind,Sem.run_pure,Result.andThen_ok,aG,aC,aH,hd,hr];exact hK _ _ (h w' h2 h3)
def A0I:TypeDesc->Bool
  | .struct _=>true
  | .array _ _=>true
  | _=>false
def A7 (P:bJ) (ty:bI) (m:Nat):Prop:=∃d i,P.underlying ty=some d/\A0I d=true/\P.info? ty=some i/\i.size=m
theorem A7.mk {P:bJ} {ty:bI} {m:Nat} {d:TypeDesc} (h1:P.underlying ty=some d) (h2:A0I d=true) (h3:(P.info? ty).map (·.size)=some m):A7 P ty m:=by
  cases hq:P.info? ty with
  | none=>simp [hq] at h3
  | some i=>exact ⟨d,i,h1,h2,hq,by simpa [hq] using h3⟩
def Ao (w:bH) (b o:Nat) (cs:List bG):Prop:=∀j u,cs[j]?=some u->w.cell? ⟨b,o+j,none⟩=some u
theorem Blk.cellsAt {w:bH} {b:Nat} {cs:List bG} {T:bI} (h:Blk w b cs T) (o m:Nat):Ao w b o ((cs.drop o).take m):=by
  intro j u hj;rw [h.cell];rw [aI] at hj;split at hj
  · rwa [aR] at hj
  · simp at hj
theorem Blk.cellsAll {w:bH} {b:Nat} {cs:List bG} {T:bI} (h:Blk w b cs T):Ao w b 0 cs:=by
  intro j u hj;rw [h.cell,aE];exact hj
theorem Ei {P:bJ} {w:bH} {ty:bI} {m b o:Nat} {cs:List bG} (hT:A7 P ty m) (hm:cs.length=m) (hc:Ao w b o cs):(loadVar ty ⟨b,o,none⟩).run P w=.ok (.agg cs.toArray) w:=by
  obtain ⟨d,i,hu,hd,hi,hs⟩:=hT;have hl:=run_loadCells_list (P:=P) w ⟨b,o,none⟩ cs (λ j v hv=>by rw [Addr.add_lit]; exact hc j v hv);have hagg:(isAgg ty).run P w=.ok true w:=by
    unfold isAgg;rw [Sem.run_bind,run_underlying hu w]
    cases d <;> simp_all [A0I]
  simp [loadVar,Sem.run_bind,hagg,sizeOf,typeInfo,hi,hs,<-hm,hl]
theorem Ah {P:bJ} {ops:Array bK} {rest:List bK} {o:bK} {a:Act} {w:bH} {Q:Exit->Act->bH->Prop} (hgd:Region.wanted o (yielded ops a.tmps)=true) (x:Operand) {ty:bI} {m:Nat} (hT:A7 P ty m) (ho:o.op=.load ty x) {b off:Nat} (hx:a.eval x=.pointer (some ⟨b,off,none⟩)) {cs:List bG} (hm:cs.length=m) (hc:Ao w b off cs) (h:wpList P ops Q rest (a.put o.dst (.agg cs.toArray)) w):wpList P ops Q (o::rest) a w:=by
  refine By hgd λ K hK=>?_
  unfold bK.wp execOp;simp only [ho,hx,Instr.loadAt,Instr.sureAddr,Sem.run_bind,Sem.run_pure,Result.andThen_ok,Ei hT hm hc];exact hK _ _ h
theorem O5 {P:bJ} {w:bH} {ty:bI} {m g o:Nat} {cur vs:List bG} {T:bI} (hT:A7 P ty m) (hm:vs.length=m) (hb:Blk w g cur T) (hfit:o+m<=cur.length) (h1:∀v∈vs,v.oneCell'=true): ∃w',(storeVar ty ⟨g,o,none⟩ (.agg vs.toArray)).run P w=.ok () w'/\Blk w' g (cur.take o++vs++cur.drop (o+m)) T/\Ai (λ k=>k=g) w w':=by
  obtain ⟨d,i,hu,hd,hi,hs⟩:=hT;have hst:=run_storeCells_at P g o T vs 0 cur.toArray w hb (by simp; omega) h1;simp only [aU] at hst;refine ⟨_,?_,?_,Ai.oneRow w g (cur.take o++vs++cur.drop (o+m)).toArray⟩
  · simp [storeVar,bG.cells,sizeOf,typeInfo,hi,hs,hm,hst]
  · unfold Blk;rw [setRow_heap w g cur.toArray _ T _ hb]
theorem Af {P:bJ} {ops:Array bK} {rest:List bK} {o:bK} {a:Act} {w:bH} {Q:Exit->Act->bH->Prop} (hgd:Region.wanted o (yielded ops a.tmps)=true) (x y:Operand) {ty:bI} {m:Nat} (hT:A7 P ty m) (ho:o.op=.store ty x y) {g off:Nat} (hx:a.eval x=.pointer (some ⟨g,off,none⟩)) {vs:List bG} (hy:a.eval y=.agg vs.toArray) (hm:vs.length=m) {cur:List bG} {T:bI} (hb:Blk w g cur T) (hfit:off+m<=cur.length) (h1:∀v∈vs,v.oneCell'=true) (h:∀w',Blk w' g (cur.take off++vs++cur.drop (off+m)) T->Ai (λ k=>k=g) w w'->wpList P ops Q rest (a.put o.dst undef) w'):wpList P ops Q (o::rest) a w:=by
  obtain ⟨w',hr,h2,h3⟩:=O5 hT hm hb hfit h1;refine By hgd λ K hK=>?_
  unfold bK.wp execOp;simp only [ho,hx,hy,Instr.storeAt,Instr.sureAddr,Sem.run_bind,Sem.run_pure,Result.andThen_ok,hr];exact hK _ _ (h w' h2 h3)
theorem An {P:bJ} {fn:Func} {p u:Tmp} {ty:bI} {m:Nat} (hr:fn.results=#[.cell p ty,.tmp u]) (hT:A7 P ty m) {tmps:Array bG} {w:bH} {b o:Nat} (hp:tmps.getD p undef=.pointer (some ⟨b,o,none⟩)) {cs:List bG} (hm:cs.length=m) (hc:Ao w b o cs): (results fn tmps).run P w=.ok (.tuple #[.agg cs.toArray,tmps.getD u undef]) w:=by
  rw [results_cell_tmp hr,hp];simp [asAddr,Ei hT hm hc,Result.andThen]
theorem Aw {P:bJ} {fn:Func} {p:Tmp} {ty:bI} {m:Nat} (hr:fn.results=#[.cell p ty]) (hT:A7 P ty m) {tmps:Array bG} {w:bH} {b o:Nat} (hp:tmps.getD p undef=.pointer (some ⟨b,o,none⟩)) {cs:List bG} (hm:cs.length=m) (hc:Ao w b o cs): (results fn tmps).run P w=.ok (.agg cs.toArray) w:=by
  have hp':tmps[p]?.getD undef=.pointer (some ⟨b,o,none⟩):=by simpa using hp
  simp [results,hr,hp',asAddr,Ei hT hm hc]
def bV (x:UInt8):bG:=.int .u8 x.toNat
def Ab (l:List UInt8):List bG:=l.map bV
def Bs (w:bH) (v:bG) (l:List UInt8):Prop:=Sl w 1 v l.length (Ab l)
def B6 (w:bH) (B:Nat) (v:bG) (l:List UInt8):Prop:=Own w B 5 1 v l.length (Ab l)
theorem Ky (x:Nat) (h:x<256):bV (UInt8.ofNat x)=.int .u8 x:=by
  simp only [bV,UInt8.toNat_ofNat'];rw [Nat.mod_eq_of_lt (by simpa using h)]
theorem Aa (l:List UInt8):(Ab l).length=l.length:=by simp [Ab]
theorem Dr (a b:List UInt8):Ab (a++b)=Ab a++Ab b:=by simp [Ab]
theorem Aj (l:List UInt8):∀u∈Ab l,u.oneCell'=true:=by
  intro u hu;obtain ⟨x,_,rfl⟩:=List.mem_map.1 hu;rfl
theorem C3 (l:List UInt8) (k:Nat) (h:k<l.length):(Ab l)[k]?=some (bV l[k]):=by simp [Ab,h]
theorem Blk.own {w:bH} {b B:Nat} {cs:List bG} {T:bI} (h:Blk w b cs T) (hb:B<=b) (h1:∀u∈cs,u.oneCell'=true) (hm:cs.length<=maxLen):Own w B T 1 (.slice (some ⟨b,0,none⟩) cs.length cs.length) cs.length cs:=
  ⟨by omega,h1,.inr ⟨b,cs.length,cs.toArray,rfl,hb,h,aA _,hm,by simp,by simp⟩⟩
theorem Bs.lit {w:bH} {cs:Array bG} {b:Nat} (l:List UInt8) (hb:w.heap.size=b) (hc:cs.toList=Ab l) (hn:l.length<=maxLen):Bs (w.alloc (.cells cs 5)) (.slice (some ⟨b,0,none⟩) l.length l.length) l:=by
  have:=Sl.lit (w:=w) (cs:=cs) (T:=5) (sz:=1) (n:=l.length) hb (by rw [hc,Aa]; omega) (by rw [hc]; exact Aj _) hn;rw [hc] at this;exact this
theorem Bs.below {w w':bH} {v:bG} {l:List UInt8} (h:Bs w v l) (hk:Below w.heap.size w w'):Bs w' v l:=Sl.below h hk
theorem Bs.alloc {w:bH} {v:bG} {l:List UInt8} (h:Bs w v l) (o:Obj):Bs (w.alloc o) v l:=Sl.alloc h o
theorem B6.bs {w:bH} {B:Nat} {v:bG} {l:List UInt8} (h:B6 w B v l):Bs w v l:=Own.sl h
theorem Blk.bs {w:bH} {b:Nat} {l:List UInt8} {T:bI} (h:Blk w b (Ab l) T) {off n cap:Nat} (hf:off+n<=l.length) (hc:n<=cap) (hm:cap<=maxLen): Sl w 1 (.slice (some ⟨b,off,none⟩) n cap) n (Ab ((l.drop off).take n)):=by
  have hl:(Ab ((l.drop off).take n)).length=n:=by rw [Aa,aQ,aV]; omega
  refine ⟨by rw [hl]; omega,Aj _,some ⟨b,off,none⟩,cap,rfl,hc,hm,(λ h=>by cases h),.inr ⟨b,off,rfl,λ j u hj=>?_⟩⟩;have hj':j<n:=by have:=(List.getElem?_eq_some_iff.1 hj).1; omega
  rw [h.cell];simp only [Ab,bC,aI,aR,hj',if_true] at hj ⊢;exact hj
theorem Sl.bs {w:bH} {v:bG} {n:Nat} {l l':List UInt8} (h:Sl w 1 v n (Ab l)) (he:l=l') (hn:l'.length=n):Bs w v l':=by subst he hn; exact h
theorem Sl.mid {w:bH} {b o cap0 n0:Nat} {l:List UInt8} (h:Sl w 1 (.slice (some ⟨b,o,none⟩) n0 cap0) n0 (Ab l)) {off n cap:Nat} (hf:off+n<=n0) (hc:n<=cap) (hm:cap<=maxLen): Sl w 1 (.slice (some ⟨b,o+off,none⟩) n cap) n (Ab ((l.drop off).take n)):=by
  have hll:l.length=n0:=by have:=h.1; rw [Aa] at this; omega
  have hl:(Ab ((l.drop off).take n)).length=n:=by rw [Aa,aQ,aV]; omega
  refine ⟨by rw [hl]; omega,Aj _,some ⟨b,o+off,none⟩,cap,rfl,hc,hm,(λ h=>by cases h),?_⟩;by_cases hn:n=0
  · exact .inl (aN (by omega))
  · obtain ⟨b',o',e,hcell⟩:=h.addr (by rw [Aa]; omega);injection e with e;injection e with e1 e2 e3;subst e1 e2;refine .inr ⟨b,o+off,rfl,λ j u hj=>?_⟩;have hj':j<n:=by have:=(List.getElem?_eq_some_iff.1 hj).1; omega
    rw [bD];refine hcell _ _ ?_;simp only [Ab,bC,aI,aR,hj',if_true] at hj ⊢;exact hj
theorem B6.blk {w:bH} {B:Nat} {v:bG} {l:List UInt8} (h:B6 w B v l) (hl:0<l.length): ∃g cap rest,v=.slice (some ⟨g,0,none⟩) l.length cap/\B<=g/\Blk w g (Ab l++rest) 5/\l.length<=cap/\cap<=maxLen:=by
  obtain ⟨h0,h1,⟨a,_,hn⟩ | ⟨g,cap,cur,rfl,h2,h3,h4,h5,h6,h7⟩⟩:=h
  · omega
  · refine ⟨g,cap,cur.toList.drop (l.length*1),rfl,h2,?_,h4,h5⟩;rw [<-h7,List.take_append_drop];exact h3
theorem Bs.none (w:bH) (a:Option Addr) (cap:Nat) (h:a=.none->cap=0) (hm:cap<=maxLen):Bs w (.slice a 0 cap) []:=
  ⟨by simp [Ab],by simp [Ab],a,cap,rfl,aM _,hm,h,.inl rfl⟩
theorem Sl.lt {w:bH} {sz b o n cap:Nat} {cs:List bG} (h:Sl w sz (.slice (some ⟨b,o,none⟩) n cap) n cs) (hpos:0<cs.length):b<w.heap.size:=by
  obtain ⟨b',o',e,hc⟩:=h.addr hpos;injection e with e;injection e with e1 e2 e3;subst e1;obtain ⟨u,hu⟩:∃u,cs[0]?=some u:=⟨_,List.getElem?_eq_getElem hpos⟩
  exact bH.block_lt_of_cell? w _ (hc 0 u hu)
theorem Own.form' {w:bH} {B:Nat} {e:bI} {sz:Nat} {v:bG} {n:Nat} {cs:List bG} (h:Own w B e sz v n cs) (hn:0<n): ∃g cap cur,v=.slice (some ⟨g,0,none⟩) n cap/\B<=g/\w.heap[g]?=some (.cells cur e (0,0))/\n<=cap/\cap<=maxLen/\cur.size=cap*sz/\cur.toList.take (n*sz)=cs:=by
  obtain ⟨_,_,⟨a,_,h0⟩ | h⟩:=h
  · omega
  · exact h
theorem Own.frozen {w:bH} {B:Nat} {e:bI} {sz g cap n:Nat} {cs:List bG} (h:Own w B e sz (.slice (some ⟨g,0,none⟩) n cap) n cs) (hn:0<n) (i:Nat):w.frozen? ⟨g,i,none⟩=false:=by
  obtain ⟨g',cap',cur,e,_,h2,_⟩:=h.form' hn;injection e with e1 e2 e3;injection e1 with e1;injection e1 with e1;subst e1;simp [bH.frozen?,h2]
theorem Own.set {w:bH} {B:Nat} {e:bI} {sz g cap n:Nat} {cs:List bG} (h:Own w B e sz (.slice (some ⟨g,0,none⟩) n cap) n cs) (hn:0<n) (i:Nat) (u:bG) (hu:u.oneCell'=true): Own (w.setCell ⟨g,i,none⟩ u) B e sz (.slice (some ⟨g,0,none⟩) n cap) n (cs.set i u):=by
  obtain ⟨g',cap',cur,e,hg,h2,h3,h4,h5,h6⟩:=h.form' hn;injection e with e1 e2 e3;injection e1 with e1;injection e1 with e1;subst e1 e3;refine ⟨by rw [List.length_set]; exact h.1,λ x hx=>?_,.inr ⟨g,cap,cur.setIfInBounds i u,rfl,hg,?_,h3,h4,by rw [Array.size_setIfInBounds]; exact h5,?_⟩⟩
  · rcases List.mem_or_eq_of_mem_set hx with hx | rfl
    · exact h.2.1 x hx
    · exact hu
  · have hb:Blk w g cur.toList e:=by unfold Blk; simpa using h2
    have:=hb.set i u;unfold Blk at this;rw [this];exact congrArg some (congrArg (λ c=>Obj.cells c e (0,0)) (Array.ext' (by simp)))
  · rw [Array.toList_setIfInBounds,<-h6,List.take_set]
theorem Sl.keepF {w w':bH} {sz:Nat} {v:bG} {n:Nat} {cs:List bG} {F S:Nat->Prop} (h:Sl w sz v n cs) (hk:Ai S w w') (hf:0<n->∀x,v.ownBlock=some x->F x) (hs:∀b,F b->b<w.heap.size->¬S b):Sl w' sz v n cs:=by
  by_cases hn:0<n
  · exact Sl.keep' h hk (λ x hx hl=>hs x (hf hn x hx) hl)
  · obtain ⟨h1,h2,a,cap,e,h3,h4,h5,_⟩:=h
    have:cs= []:=aN (by rw [h1,show n=0 by omega,aW]);exact ⟨h1,h2,a,cap,e,h3,h4,h5,.inl this⟩
theorem Sl.own_lt {w:bH} {sz:Nat} {v:bG} {n:Nat} {cs:List bG} (h:Sl w sz v n cs) (hsz:0<sz) (hn:0<n):∀x,v.ownBlock=some x->x<w.heap.size:=by
  intro x hx;obtain ⟨a,c,rfl,_⟩:=h.form;have hpos:0<cs.length:=by rw [h.1]; exact bA hn hsz
  obtain ⟨b,o,rfl,_⟩:=h.addr hpos;simp [bG.ownBlock] at hx;subst hx;exact Sl.lt h hpos
theorem Bs.litM {w:bH} {cs:Array bG} {b:Nat} {fz:Nat×Nat} (l:List UInt8) (hb:w.heap.size=b) (hc:cs.toList=Ab l) (hn:l.length<=maxLen):Bs (w.alloc (.cells cs 5 fz)) (.slice (some ⟨b,0,Option.none⟩) l.length l.length) l:=by
  subst hb;refine ⟨by rw [Aa]; omega,Aj _,_,_,rfl,aA _,hn,(λ h=>by cases h),?_⟩;rw [<-hc];exact At.one (heap_alloc_new w _)
theorem Ld {α:Type} {n:Nat} (f:α->List bG):∀(l:List α),(∀x∈l,(f x).length=n)->((l.map f).flatten).length=l.length*n
  | [],_=>by simp
  | x::l,h=>by
    rw [aC,aL,aZ,Ld f l (λ y hy=>h y (by simp [hy])),h x (by simp),aX,aJ];omega
theorem Uh {α:Type} {n:Nat} (f:α->List bG):∀(l:List α),(∀x∈l,(f x).length=n)->∀k,((l.map f).flatten).take (k*n)=((l.take k).map f).flatten
  | [],_,k=>by simp
  | x::l,h,0=>by simp
  | x::l,h,k+1=>by
    have hx:=h x (by simp);rw [aC,aL,List.take_succ_cons,aC,aL,<-Uh f l (λ y hy=>h y (by simp [hy])) k,show (k+1)*n=(f x).length+k*n by rw [aJ]; omega,List.take_length_add_append]
theorem Ug {α:Type} {n:Nat} (f:α->List bG):∀(l:List α),(∀x∈l,(f x).length=n)->∀k,((l.map f).flatten).drop (k*n)=((l.drop k).map f).flatten
  | [],_,k=>by simp
  | x::l,h,0=>by simp
  | x::l,h,k+1=>by
    have hx:=h x (by simp);rw [aC,aL,List.drop_succ_cons,<-Ug f l (λ y hy=>h y (by simp [hy])) k,show (k+1)*n=(f x).length+k*n by rw [aJ]; omega,List.drop_length_add_append]
theorem Sl.sub {w:bH} {sz b o n cap:Nat} {cs:List bG} (h:Sl w sz (.slice (some ⟨b,o,none⟩) n cap) n cs) (j m cap':Nat) (hj:j+m<=n) (hc:m<=cap') (hm:cap'<=maxLen): Sl w sz (.slice (some ⟨b,o+j*sz,none⟩) m cap') m ((cs.drop (j*sz)).take (m*sz)):=by
  obtain ⟨h1,h2,a,c,e,h3,h4,h5,h6⟩:=h;simp only [bG.slice.injEq,true_and] at e;obtain ⟨rfl,rfl⟩:=e;have hl:j*sz+m*sz<=n*sz:=by rw [<-aJ]; exact Nat.mul_le_mul_right _ hj
  refine ⟨by simp only [aQ,aV,h1]; omega,λ u hu=>h2 u (List.mem_of_mem_drop (bB hu)),_,cap',rfl,hc,hm,by simp,?_⟩;rcases h6 with h6 | ⟨b',o',e,h6⟩
  · subst h6;exact .inl (by simp)
  · simp only [Option.some.injEq,Addr.mk.injEq,and_true] at e;obtain ⟨rfl,rfl⟩:=e;refine .inr ⟨b,_,rfl,λ i u hi=>?_⟩;rw [aI] at hi;split at hi
    · rw [aR] at hi;rw [bD];exact h6 _ u hi
    · simp at hi
theorem Sq {P:bJ} {t e:bI} {sz:Nat} (ht:P.underlying t=some (.slice e)) (hs:∀w,(sizeOf e).run P w=.ok sz w) (g n cap j:Nat) (hj:j<=cap) (W:bH): (Instr.sliceAt t (.slice (some ⟨g,0,none⟩) n cap) none (some (.int .i64 j)) none).run P W=.ok (.slice (some ⟨g,0,none⟩) j cap) W:=by
  have h2:¬((j:Int)<0):=by omega
  have h3:¬(cap<j):=by omega
  simp [Instr.sliceAt,Instr.slice,Instr.sliceBounds,Instr.sliceBound,run_underlying ht,asIntOf,hs,h2,h3,hj];exact λ _=>by rw [Addr.add_lit]
def I1 (g cap i sz:Nat):Option Addr:=if cap=i then some ⟨g,0,none⟩ else some ⟨g,i*sz,none⟩
theorem Gs {P:bJ} {t e:bI} {sz:Nat} (ht:P.underlying t=some (.slice e)) (hs:∀w,(sizeOf e).run P w=.ok sz w) (g n cap i:Nat) (hi:i<=n) (hc:n<=cap) (W:bH): (Instr.sliceAt t (.slice (some ⟨g,0,none⟩) n cap) (some (.int .i64 i)) none none).run P W=.ok (.slice (I1 g cap i sz) (n-i) (cap-i)) W:=by
  have h2:¬((i:Int)<0):=by omega
  have h3:¬(n<i):=by omega
  by_cases h:cap=i
  · subst h;simp [Instr.sliceAt,Instr.slice,Instr.sliceBounds,Instr.sliceBound,run_underlying ht,asIntOf,hs,h2,h3,hi,I1]
  · have h5:¬cap-i=0:=by omega
    have h6:¬cap<=i:=by omega
    simp [Instr.sliceAt,Instr.slice,Instr.sliceBounds,Instr.sliceBound,run_underlying ht,asIntOf,hs,h2,h3,hi,I1,h,h5,h6,Addr.add_lit]
theorem Y5 {P:bJ} {w:bH} {t ty e:bI} {size bytes:Nat} {z:bG} (hE:Cz P t e size bytes z) {B:Nat} {v:bG} {n:Nat} {cs:List bG} (hown:Own w B e size v n cs) (hlt:∀b,v.ownBlock=some b->b<w.heap.size) {x:bG} {m:Nat} {ds:List bG} (hsl:Sl w size x m ds) (h63:n+m<=maxLen) (hbytes:(n+m)*bytes<=140737488355328) (hbase:B<=w.heap.size): ∃v' w',(Builtin.append_ #[t,t] ty #[v,x]).run P w=.ok v' w'/\Own w' B e size v' (n+m) (cs++ds)/\Ai (λ k=>v.ownBlock=some k/\B<=k\/w.heap.size<=k) w w'/\(∀b,v'.ownBlock=some b->(v.ownBlock=some b\/w.heap.size<=b)/\b<w'.heap.size):=by
  obtain ⟨v',w',hr,h1,h2,h3⟩:=N5 (ty:=ty) hE hown hsl h63 hbytes hbase;refine ⟨v',w',hr,h1,h2,λ b hb=>⟨h3 b hb,?_⟩⟩;by_cases h0:0<n+m
  · obtain ⟨h4,h5,⟨a,e1,e2⟩ | ⟨g,cap,cur,e1,e2,e3,_⟩⟩:=h1
    · omega
    · rw [e1] at hb;simp [bG.ownBlock] at hb;subst hb;exact F7 e3
  · obtain rfl:m=0:=by omega
    obtain ⟨ht,i,hi,hz,hsize,hby,hzs,hsz⟩:=hE;obtain ⟨hdl,hd1,a,c,rfl,hmc,hcm,hanone,hat⟩:=hsl;have hfc:(Builtin.firstCells size 0 (.slice a 0 c)).run P w=.ok #[] w:=by
      cases a <;> simp [Builtin.firstCells,loadCells,loadCellsFrom]
    have hr':(Builtin.append_ #[t,t] ty #[v,.slice a 0 c]).run P w=.ok v w:=by
      obtain ⟨_,_,⟨a0,rfl,rfl⟩ | ⟨g,cap,cur,rfl,_,_,hnc,_⟩⟩:=hown
      · cases a0 <;> simp [Builtin.append_,run_underlying ht,sizeOf,typeInfo,hi,Builtin.lenOf,hsize,hfc,storeCells]
      · simp [Builtin.append_,run_underlying ht,sizeOf,typeInfo,hi,Builtin.lenOf,hsize,hfc,hnc,storeCells]
    rw [hr] at hr';simp only [Result.ok.injEq] at hr';obtain ⟨rfl,rfl⟩:=hr';exact hlt b hb
theorem Hz {P:bJ} {ops:Array bK} {o:bK} {a:Act} {w:bH} {K:Act->bH->Prop} {Q:Exit->Act->bH->Prop} {E:Prop} (hgd:o.guard=none) (s x:Operand) {t e:bI} {size bytes:Nat} {z:bG} (hE:Cz P t e size bytes z) (ho:o.op=.call { callee:=.builtin .append,args:=#[s,x],argTypes:=#[t,t] }) (B:Nat) {v:bG} (hv:a.eval s=v) {n:Nat} {cs:List bG} (hown:Own w B e size v n cs) (hlt:∀b,v.ownBlock=some b->b<w.heap.size) {u:bG} (hu:a.eval x=u) {m:Nat} {ds:List bG} (hsl:Sl w size u m ds) (h63:n+m<=maxLen) (hbytes:(n+m)*bytes<=140737488355328) (hbase:B<=w.heap.size) (h:∀v' w',Own w' B e size v' (n+m) (cs++ds)->Ai (λ k=>v.ownBlock=some k/\B<=k\/w.heap.size<=k) w w'->(∀b,v'.ownBlock=some b->(v.ownBlock=some b\/w.heap.size<=b)/\b<w'.heap.size)->K (a.put o.dst v') w'): if Region.wanted o (yielded ops a.tmps)=true then bK.wp P o a w K Q else E:=by
  have hw:Region.wanted o (yielded ops a.tmps)=true:=by simp [Region.wanted,hgd]
  rw [if_pos hw];obtain ⟨v',w',hr,h2,h3,h4⟩:=Y5 (P:=P) (ty:=o.type) hE hown hlt hsl h63 hbytes hbase;unfold bK.wp execOp;simp only [ho,resolve,invoke,builtin,Sem.run_bind,Sem.run_pure,Result.andThen_ok,aG,aC,aH,hv,hu,hr];exact h v' w' h2 h3 h4
theorem Df {P:bJ} {w:bH} {ops:Array bK} {rest:List bK} {o:bK} {a:Act} {Q:Exit->Act->bH->Prop} (hgd:Region.wanted o (yielded ops a.tmps)=true) (s x:Operand) {t e:bI} {size bytes:Nat} {z:bG} (hE:Cz P t e size bytes z) (ho:o.op=.call { callee:=.builtin .append,args:=#[s,x],argTypes:=#[t,t] }) (B:Nat) {n:Nat} {cs:List bG} (hown:Own w B e size (a.eval s) n cs) (hlt:∀b,(a.eval s).ownBlock=some b->b<w.heap.size) {m:Nat} {ds:List bG} (hsl:Sl w size (a.eval x) m ds) (h63:n+m<=maxLen) (hbytes:(n+m)*bytes<=140737488355328) (hbase:B<=w.heap.size) (h:∀v' w',Own w' B e size v' (n+m) (cs++ds)->Ai (λ k=>(a.eval s).ownBlock=some k/\B<=k\/w.heap.size<=k) w w'->(∀b,v'.ownBlock=some b->((a.eval s).ownBlock=some b\/w.heap.size<=b)/\b<w'.heap.size)->wpList P ops Q rest (a.put o.dst v') w'):wpList P ops Q (o::rest) a w:=by
  obtain ⟨v',w',hr,h2,h3,h4⟩:=Y5 (P:=P) (ty:=o.type) hE hown hlt hsl h63 hbytes hbase;refine By hgd λ K hK=>?_
  unfold bK.wp execOp;simp only [ho,resolve,invoke,builtin,Sem.run_bind,Sem.run_pure,Result.andThen_ok,aG,aC,aH,hr];exact hK _ _ (h v' w' h2 h3 h4)
theorem Mo:∀(l:List bG) (i:Nat) (cs:Array bG) (k:Nat),i+l.length<=cs.size-> ((l.zipIdx i).foldl (λ cs (x:bG×Nat)=>cs.setIfInBounds (0+x.2) x.1) cs)[k]?=if i<=k/\k<i+l.length then l[k-i]? else cs[k]?
  | [],i,cs,k,_=>by simp; omega
  | x::l,i,cs,k,h=>by
    simp only [aX] at h;rw [List.zipIdx_cons,List.foldl_cons,Mo l (i+1) _ k (by simp; omega)];simp only [aX,aE];by_cases hk:k=i
    · subst hk;rw [if_neg (by omega),if_pos (by omega),Nat.sub_self];simp [bE,show k<cs.size by omega]
    · by_cases h2:i+1<=k/\k<i+1+l.length
      · rw [if_pos h2,if_pos (by omega),show k-i=(k- (i+1))+1 by omega,List.getElem?_cons_succ]
      · rw [if_neg h2,if_neg (by omega)];simp [bE,Ne.symm hk]
theorem Xy (X:Array bG) (size:Nat) (cells:Array bG) (hX:X.size=size) (hc:cells.size=size):Instr.fill (λ i=>some (i*size,size)) cells [(0,.agg X)]=some X:=by
  have hf:(X.zipIdx.foldl (λ cs (x:bG×Nat)=>cs.setIfInBounds (0+x.2) x.1) cells)=X:=by
    rw [<-Array.foldl_toList,Array.toList_zipIdx];apply Array.ext_getElem?;intro k;rw [Mo X.toList 0 cells k (by simp; omega)];by_cases hk:k<X.size
    · rw [if_pos (by simp; omega)]; simp
    · rw [if_neg (by simp; omega),aP (by omega),aP (by omega)]
  unfold Instr.fill;simp only [bG.cells,aW,aE];rw [if_neg (by simp [hX,hc])];unfold Instr.fill;have e:(X.zipIdx.foldl (λ cs x=>match x with | (c,j)=>cs.setIfInBounds (0+j) c) cells)=X:=hf;simp only [aE] at e;exact congrArg some e
theorem Tc {P:bJ} {ops:Array bK} {rest:List bK} {o:bK} {a:Act} {w:bH} {Q:Exit->Act->bH->Prop} (hg:o.guard=none) (x:Operand) {t e:bI} {size bytes:Nat} {z:bG} (hE:Cz P t e size bytes z) (ho:o.op=.buildSlice t 1 #[(0,x)]) {X:Array bG} (hx:a.eval x=.agg X) (hX:X.size=size) (hs:size<=16777216) (h:wpList P ops Q rest (a.put o.dst (.slice (some ⟨w.heap.size,0,none⟩) 1 1)) (w.alloc (.cells X e))):wpList P ops Q (o::rest) a w:=by
  obtain ⟨ht,i,hi,hz,hsize,hby,hzs,hsz⟩:=hE;refine wpList_buildSlice hg t e 1 #[(0,x)] ho X i z ht hi hz (by omega) (by omega) ?_ h;rw [hsize];simp only [aG,aC,aH,hx];exact Xy X size _ hX (by simp)
theorem Oa {P:bJ} {ops:Array bK} {o:bK} {a:Act} {w:bH} {K:Act->bH->Prop} {Q:Exit->Act->bH->Prop} {E:Prop} (hgd:o.guard=none) (x:Operand) {t e:bI} {size bytes:Nat} {z:bG} (hE:Cz P t e size bytes z) (ho:o.op=.buildSlice t 1 #[(0,x)]) {X:Array bG} (hx:a.eval x=.agg X) (hX:X.size=size) (hs:size<=16777216) (h:K (a.put o.dst (.slice (some ⟨w.heap.size,0,none⟩) 1 1)) (w.alloc (.cells X e))): if Region.wanted o (yielded ops a.tmps)=true then bK.wp P o a w K Q else E:=by
  have hw:Region.wanted o (yielded ops a.tmps)=true:=by simp [Region.wanted,hgd]
  rw [if_pos hw];obtain ⟨ht,i,hi,hz,hsize,hby,hzs,hsz⟩:=hE;refine wp_buildSlice t e 1 #[(0,x)] ho X i z ht hi hz (by omega) (by omega) ?_ h;rw [hsize];simp only [aG,aC,aH,hx];exact Xy X size _ hX (by simp)
theorem Nj {α:Type} {n:Nat} (f:α->List bG):∀(l:List α),(∀x∈l,(f x).length=n)->∀(k j:Nat) (h:k<l.length),j<n->((l.map f).flatten)[k*n+j]?=(f l[k])[j]?
  | [],_,k,j,h,_=>by simp at h
  | x::l,hf,0,j,h,hj=>by
    simp only [aC,aL,aW,aE,List.getElem_cons_zero];rw [List.getElem?_append_left (by rw [hf x (by simp)]; exact hj)]
  | x::l,hf,k+1,j,h,hj=>by
    simp only [aC,aL,List.getElem_cons_succ];rw [List.getElem?_append_right (by rw [hf x (by simp),aJ]; omega),hf x (by simp),show (k+1)*n+j-n=k*n+j by rw [aJ]; omega];exact Nj f l (λ y hy=>hf y (by simp [hy])) k j (by simpa using h) hj
structure Res where
  holds:bH->(Nat->Prop)->Prop
  frame:∀ {W W':bH} {F S:Nat->Prop},holds W F->Ai S W W'->(∀b,F b->¬S b)->holds W' F
  lt:∀ {W:bH} {F:Nat->Prop} {b:Nat},holds W F->F b->b<W.heap.size
namespace Res
def emp:Res where
  holds _ F:=∀b,¬F b
  frame h _ _:=h
  lt h hb:=absurd hb (h _)
def star (a c:Res):Res where
  holds W F:=∃F1 F2,a.holds W F1/\c.holds W F2/\(∀b,F1 b->F2 b->False)/\∀b,F b↔F1 b\/F2 b
  frame:=by
    rintro W W' F S ⟨F1,F2,h1,h2,h3,h4⟩ hk hs;exact ⟨F1,F2,a.frame h1 hk (λ b hb=>hs b ((h4 b).2 (.inl hb))),c.frame h2 hk (λ b hb=>hs b ((h4 b).2 (.inr hb))),h3,h4⟩
  lt:=by
    rintro W F b ⟨F1,F2,h1,h2,h3,h4⟩ hb;rcases (h4 b).1 hb with h | h
    · exact a.lt h1 h
    · exact c.lt h2 h
def pure (P:Prop):Res where
  holds _ F:=P/\∀b,¬F b
  frame h _ _:=h
  lt h hb:=absurd hb (h.2 _)
def ex {α:Type} (f:α->Res):Res where
  holds W F:=∃x,(f x).holds W F
  frame:=by
    rintro W W' F S ⟨x,h⟩ hk hs;exact ⟨x,(f x).frame h hk hs⟩
  lt:=by
    rintro W F b ⟨x,h⟩ hb;exact (f x).lt h hb
def all:List Res->Res
  | []=>emp
  | r::l=>star r (all l)
def blk (p:Nat) (cs:List bG) (T:bI):Res where
  holds W F:=Blk W p cs T/\∀b,F b↔b=p
  frame:=by
    rintro W W' F S ⟨h,hf⟩ hk hs;exact ⟨h.keep hk (hs p ((hf p).2 rfl)),hf⟩
  lt:=by
    rintro W F b ⟨h,hf⟩ hb;rw [(hf b).1 hb];exact h.lt
def sl (sz:Nat) (v:bG) (n:Nat) (cs:List bG):Res where
  holds W F:=Sl W sz v n cs/\0<sz/\∀b,F b↔0<n/\v.ownBlock=some b
  frame:=by
    rintro W W' F S ⟨h,hz,hf⟩ hk hs;exact ⟨Sl.keepF (F:=F) h hk (λ hn x hx=>(hf x).2 ⟨hn,hx⟩) (λ b hb _=>hs b hb),hz,hf⟩
  lt:=by
    rintro W F b ⟨h,hz,hf⟩ hb;obtain ⟨hn,hv⟩:=(hf b).1 hb;exact h.own_lt hz hn b hv
def row (v:bG) (l:List UInt8):Res:=sl 1 v l.length (Ab l)
def own (e:bI) (sz:Nat) (v:bG) (n:Nat) (cs:List bG):Res where
  holds W F:=Own W 0 e sz v n cs/\(∀b,v.ownBlock=some b->b<W.heap.size)/\∀b,F b↔v.ownBlock=some b
  frame:=by
    rintro W W' F S ⟨h,hl,hf⟩ hk hs;exact ⟨h.keep hk (λ b hb=>hs b ((hf b).2 hb)),λ b hb=>bF (hl b hb) hk.size,hf⟩
  lt:=by
    rintro W F b ⟨h,hl,hf⟩ hb;exact hl b ((hf b).1 hb)
def ownB (v:bG) (l:List UInt8):Res:=own 5 1 v l.length (Ab l)
def base (w0:bH):Res where
  holds W F:=Below w0.heap.size w0 W/\∀b,F b↔b<w0.heap.size
  frame:=by
    rintro W W' F S ⟨h,hf⟩ hk hs;exact ⟨⟨hk.os.trans h.os,hk.tape.trans h.tape,hk.output.trans h.output,aY h.size hk.size,λ b hb=>(hk.block b (hs b ((hf b).2 hb))).trans (h.block b hb)⟩,hf⟩
  lt:=by
    rintro W F b ⟨h,hf⟩ hb;exact bF ((hf b).1 hb) h.size
end Res
def Ac (W:bH) (l:List Res):Prop:=∃F,(Res.all l).holds W F
theorem Ac.start (W:bH):Ac W [.base W]:=⟨λ b=>b<W.heap.size,λ b=>b<W.heap.size,λ _=>False,⟨aD _ _,λ _=>Iff.rfl⟩,λ _ h=>h,λ _ _ h=>h,λ b=>⟨.inl,λ h=>h.elim id False.elim⟩⟩
theorem Ac.cons {W:bH} {r:Res} {l:List Res} :Ac W (r::l)↔∃F1 F2,r.holds W F1/\(Res.all l).holds W F2/\∀b,F1 b->F2 b->False:=
  ⟨λ ⟨_,F1,F2,h1,h2,h3,_⟩=>⟨F1,F2,h1,h2,h3⟩,λ ⟨F1,F2,h1,h2,h3⟩=>⟨λ b=>F1 b\/F2 b,F1,F2,h1,h2,h3,λ _=>Iff.rfl⟩⟩
theorem Ac.tail {W:bH} {r:Res} {l:List Res} (h:Ac W (r::l)):Ac W l:=by
  obtain ⟨F1,F2,_,h2,_⟩:=Ac.cons.1 h;exact ⟨F2,h2⟩
theorem Ac.head {W:bH} {r:Res} {l:List Res} (h:Ac W (r::l)):∃F,r.holds W F:=by
  obtain ⟨F1,F2,h1,_,_⟩:=Ac.cons.1 h;exact ⟨F1,h1⟩
theorem Ac.get {W:bH} {r:Res} :∀ {l:List Res},Ac W l->r∈l->∃F,r.holds W F
  | [],_,hm=>by simp at hm
  | a::l,h,hm=>by
    rcases List.mem_cons.1 hm with e | hm
    · rw [e]; exact h.head
    · exact h.tail.get hm
theorem Res.all_star {W:bH} {a c:Res} {l:List Res} {F:Nat->Prop} :(Res.all (a.star c::l)).holds W F↔(Res.all (a::c::l)).holds W F:=by
  constructor
  · rintro ⟨F1,F2,⟨G1,G2,g1,g2,g3,g4⟩,h2,h3,h4⟩;refine ⟨G1,λ b=>G2 b\/F2 b,g1,⟨G2,F2,g2,h2,λ b hb hc=>h3 b ((g4 b).2 (.inr hb)) hc,λ _=>Iff.rfl⟩,?_,?_⟩
    · rintro b hb (hc | hc)
      · exact g3 b hb hc
      · exact h3 b ((g4 b).2 (.inl hb)) hc
    · intro b;rw [h4 b,g4 b,or_assoc]
  · rintro ⟨G1,H,g1,⟨G2,F2,g2,h2,h3,h4⟩,h5,h6⟩;refine ⟨λ b=>G1 b\/G2 b,F2,⟨G1,G2,g1,g2,λ b hb hc=>h5 b hb ((h4 b).2 (.inl hc)),λ _=>Iff.rfl⟩,h2,?_,?_⟩
    · rintro b (hb | hb) hc
      · exact h5 b hb ((h4 b).2 (.inr hc))
      · exact h3 b hb hc
    · intro b;rw [h6 b,h4 b,or_assoc]
theorem Ac.star {W:bH} {a c:Res} {l:List Res} :Ac W (a.star c::l)↔Ac W (a::c::l):=
  ⟨λ ⟨F,h⟩=>⟨F,Res.all_star.1 h⟩,λ ⟨F,h⟩=>⟨F,Res.all_star.2 h⟩⟩
theorem Res.star_comm {W:bH} {a c:Res} {F:Nat->Prop} (h:(a.star c).holds W F):(c.star a).holds W F:=by
  obtain ⟨F1,F2,h1,h2,h3,h4⟩:=h;exact ⟨F2,F1,h2,h1,λ b x y=>h3 b y x,λ b=>by rw [h4 b,or_comm]⟩
theorem Res.all_perm {W:bH} {l l':List Res} (hp:l.Perm l'):∀ {F:Nat->Prop},(Res.all l).holds W F->(Res.all l').holds W F:=by
  induction hp with
  | nil=>exact λ h=>h
  | cons x _ ih=>
    rintro F ⟨F1,F2,h1,h2,h3⟩;exact ⟨F1,F2,h1,ih h2,h3⟩
  | swap x y l=>
    intro F h;refine Res.all_star.1 ?_;obtain ⟨F1,F2,h1,h2,h3,h4⟩:=Res.all_star.2 h;exact ⟨F1,F2,Res.star_comm h1,h2,h3,h4⟩
  | trans _ _ ih1 ih2=>exact λ h=>ih2 (ih1 h)
theorem Ac.perm {W:bH} {l l':List Res} (h:Ac W l) (hp:l.Perm l'):Ac W l':=by
  obtain ⟨F,h⟩:=h;exact ⟨F,Res.all_perm hp h⟩
theorem A3P {α:Type} (d:α) (l:List α) (is:List Nat) (h:is.Perm (aK l.length)):l.Perm (is.map λ i=>l.getD i d):=by
  have e:l=(aK l.length).map λ i=>l.getD i d:=by
    apply List.ext_getElem
    · simp
    · intro i h1 h2;simp [List.getD_eq_getElem?_getD,h1]
  have:=h.symm.map λ i=>l.getD i d
  rwa [<-e] at this
theorem Ac.ex {W:bH} {α:Type} {f:α->Res} {l:List Res} :Ac W (Res.ex f::l)↔∃x,Ac W (f x::l):=by
  simp only [Ac.cons];constructor
  · rintro ⟨F1,F2,⟨x,h1⟩,h2,h3⟩;exact ⟨x,F1,F2,h1,h2,h3⟩
  · rintro ⟨x,F1,F2,h1,h2,h3⟩;exact ⟨F1,F2,⟨x,h1⟩,h2,h3⟩
theorem Ac.pure {W:bH} {P:Prop} {l:List Res} :Ac W (Res.pure P::l)↔P/\Ac W l:=by
  rw [Ac.cons];constructor
  · rintro ⟨F1,F2,h1,h2,h3⟩;exact ⟨h1.1,F2,h2⟩
  · rintro ⟨h1,F,h2⟩;exact ⟨λ _=>False,F,⟨h1,λ _ h=>h⟩,h2,λ _ h _=>h⟩
theorem Ac.app {W:bH} :∀ {m l:List Res},Ac W (Res.all m::l)↔Ac W (m++l)
  | [],l=>by
    show Ac W (Res.emp::l)↔Ac W l
    refine ⟨Ac.tail,λ ⟨F,h⟩=>Ac.cons.2 ⟨λ _=>False,F,λ _ h=>h,h,λ _ h _=>h⟩⟩
  | r::m,l=>by
    show Ac W (r.star (Res.all m)::l)↔Ac W (r::(m++l))
    rw [Ac.star,Ac.cons,Ac.cons];constructor
    · rintro ⟨F1,F2,h1,h2,h3⟩
      have:=(Ac.app (m:=m) (l:=l)).1 ⟨F2,h2⟩;obtain ⟨F3,F4,g1,g2,g3,g4⟩:=h2;refine ⟨F1,λ b=>F3 b\/F4 b,h1,?_,?_⟩
      · clear this h3 h1 g4;induction m generalizing F3 F4 with
        | nil=>exact (Res.all l).frame (F:=λ b=>F3 b\/F4 b) (S:=λ _=>False) (by
            have:(λ b=>F3 b\/F4 b)=F4:=by
              funext b;exact propext ⟨λ h=>h.elim (λ h=>absurd h (g1 b)) id,.inr⟩
            rw [this];exact g2) (Ai.refl _ _) (λ _ _ h=>h)
        | cons a m ih=>
          obtain ⟨G1,G2,k1,k2,k3,k4⟩:=g1;refine ⟨G1,λ b=>G2 b\/F4 b,k1,ih G2 F4 k2 g2 (λ b hb hc=>g3 b ((k4 b).2 (.inr hb)) hc),?_,?_⟩
          · rintro b hb (hc | hc)
            · exact k3 b hb hc
            · exact g3 b ((k4 b).2 (.inl hb)) hc
          · intro b;show F3 b\/F4 b↔G1 b\/(G2 b\/F4 b)
            rw [k4 b,or_assoc]
      · rintro b hb hc;exact h3 b hb ((g4 b).2 hc)
    · rintro ⟨F1,F2,h1,h2,h3⟩
      suffices h:(Res.all (Res.all m::l)).holds W F2 from ⟨F1,F2,h1,h,h3⟩
      clear h3 h1;induction m generalizing F2 with
      | nil=>exact ⟨λ _=>False,F2,λ _ h=>h,h2,λ _ h _=>h,λ b=>⟨.inr,λ h=>h.elim False.elim id⟩⟩
      | cons a m ih=>
        obtain ⟨G1,G2,k1,k2,k3,k4⟩:=h2;obtain ⟨G3,G4,j1,j2,j3,j4⟩:=ih G2 k2;refine ⟨λ b=>G1 b\/G3 b,G4,⟨G1,G3,k1,j1,λ b hb hc=>k3 b hb ((j4 b).2 (.inl hc)),λ _=>Iff.rfl⟩,j2,?_,?_⟩
        · rintro b (hb | hb) hc
          · exact k3 b hb ((j4 b).2 (.inr hc))
          · exact j3 b hb hc
        · intro b;rw [k4 b,j4 b,or_assoc]
theorem Ac.step {W W':bH} {l:List Res} (h:Ac W l) (hb:Below W.heap.size W W'):Ac W' l:=by
  obtain ⟨F,h⟩:=h;exact ⟨F,(Res.all l).frame h (Ai.of_below hb) (λ b hb' hc=>by have:=(Res.all l).lt h hb'; omega)⟩
theorem Ac.drew {W:bH} {l:List Res} (h:Ac W l):Ac W.drew l:=h.step ((aD _ _).drew)
theorem Ac.drewN {W:bH} {l:List Res} (h:Ac W l) (n:Nat):Ac (W.drewN n) l:=h.step (below_drewN (aD _ _) n)
theorem Ac.alloc {W:bH} {l:List Res} (h:Ac W l) (o:Obj):Ac (W.alloc o) l:=h.step ((aD _ _).alloc (aA _) _)
theorem Ac.turn {W W':bH} {r r':Res} {l:List Res} (h:Ac W (r::l)) (ht:∀F,r.holds W F->∃F',r'.holds W' F'/\(∀b,F' b->F b\/W.heap.size<=b)/\Ai (λ b=>F b\/W.heap.size<=b) W W'):Ac W' (r'::l):=by
  obtain ⟨F1,F2,h1,h2,h3⟩:=Ac.cons.1 h;obtain ⟨F',g1,g2,g3⟩:=ht F1 h1;refine Ac.cons.2 ⟨F',F2,g1,(Res.all l).frame h2 g3 ?_,?_⟩
  · rintro b hb (hc | hc)
    · exact h3 b hc hb
    · have:=(Res.all l).lt h2 hb;omega
  · intro b hb hc;rcases g2 b hb with h | h
    · exact h3 b h hc
    · have:=(Res.all l).lt h2 hc;omega
theorem Ac.new {W W':bH} {r:Res} {l:List Res} (h:Ac W l) (hb:Below W.heap.size W W') {F:Nat->Prop} (hr:r.holds W' F) (hf:∀b,F b->W.heap.size<=b):Ac W' (r::l):=by
  obtain ⟨F2,h2⟩:=h;refine Ac.cons.2 ⟨F,F2,hr,(Res.all l).frame h2 (Ai.of_below hb) (λ b hb' hc=>by have:=(Res.all l).lt h2 hb'; omega),?_⟩;intro b hb' hc
  have:=(Res.all l).lt h2 hc
  have:=hf b hb';omega
theorem Ac.weaken {W:bH} {r r':Res} {l:List Res} (h:Ac W (r::l)) (ht:∀F,r.holds W F->∃F',r'.holds W F'/\∀b,F' b->F b):Ac W (r'::l):=by
  refine h.turn λ F hF=>?_
  obtain ⟨F',h1,h2⟩:=ht F hF;exact ⟨F',h1,λ b hb=>.inl (h2 b hb),(Ai.refl _ _)⟩
theorem Ac.blkOf {W:bH} {l:List Res} (h:Ac W l) {p:Nat} {cs:List bG} {T:bI} (hm:Res.blk p cs T∈l):Blk W p cs T:=by
  obtain ⟨F,hr⟩:=h.get hm;exact hr.1
theorem Ac.rowOf {W:bH} {l:List Res} (h:Ac W l) {v:bG} {b:List UInt8} (hm:Res.row v b∈l):Bs W v b:=by
  obtain ⟨F,hr⟩:=h.get hm;exact hr.1
theorem Ac.ownOf {W:bH} {l:List Res} (h:Ac W l) {e:bI} {sz n:Nat} {v:bG} {cs:List bG} (hm:Res.own e sz v n cs∈l):Own W 0 e sz v n cs/\∀b,v.ownBlock=some b->b<W.heap.size:=by
  obtain ⟨F,hr⟩:=h.get hm;exact ⟨hr.1,hr.2.1⟩
theorem Ac.ownBOf {W:bH} {l:List Res} (h:Ac W l) {v:bG} {b:List UInt8} (hm:Res.ownB v b∈l):B6 W 0 v b/\∀k,v.ownBlock=some k->k<W.heap.size:=by
  obtain ⟨F,hr⟩:=h.get hm;exact ⟨hr.1,hr.2.1⟩
theorem Ac.baseOf {W:bH} {l:List Res} (h:Ac W l) {w0:bH} (hm:Res.base w0∈l):Below w0.heap.size w0 W:=by
  obtain ⟨F,hr⟩:=h.get hm;exact hr.1
theorem Ac.addBlk {W:bH} {l:List Res} (h:Ac W l) (cs:List bG) (T:bI):Ac (W.alloc (.cells cs.toArray T)) (.blk W.heap.size cs T::l):=
  h.new ((aD _ _).alloc (aA _) _) (F:=λ b=>b=W.heap.size) ⟨Blk.new W cs T,λ _=>Iff.rfl⟩ (λ b hb=>by omega)
theorem Ac.set {W:bH} {l:List Res} {p:Nat} {cs:List bG} {T:bI} (h:Ac W (.blk p cs T::l)) (o:Nat) (v:bG):Ac (W.setCell ⟨p,o,none⟩ v) (.blk p (cs.set o v) T::l):=by
  refine h.turn λ F hF=>⟨F,⟨hF.1.set o v,hF.2⟩,λ b hb=>.inl hb,?_⟩
  exact (Ai.one W p o v).mono λ k hk=>.inl ((hF.2 k).2 hk)
theorem Ac.addRow {W W':bH} {l:List Res} (h:Ac W l) (hb:Below W.heap.size W W') {v:bG} {b:List UInt8} (hr:Bs W' v b) (hv:∀k,0<b.length->v.ownBlock=some k->W.heap.size<=k):Ac W' (.row v b::l):=
  h.new hb (F:=λ k=>0<b.length/\v.ownBlock=some k) ⟨hr,by decide,λ _=>Iff.rfl⟩ (λ k hk=>hv k hk.1 hk.2)
theorem Ac.addOwn {W W':bH} {l:List Res} (h:Ac W l) (hb:Below W.heap.size W W') {e:bI} {sz n:Nat} {v:bG} {cs:List bG} {B:Nat} (hr:Own W' B e sz v n cs) (hv:∀k,v.ownBlock=some k->W.heap.size<=k/\k<W'.heap.size):Ac W' (.own e sz v n cs::l):=
  h.new hb (F:=λ k=>v.ownBlock=some k) ⟨hr.base (aM _),λ k hk=>(hv k hk).2,λ _=>Iff.rfl⟩ (λ k hk=>(hv k hk).1)
theorem Ac.addOwnB {W W':bH} {l:List Res} (h:Ac W l) (hb:Below W.heap.size W W') {v:bG} {b:List UInt8} {B:Nat} (hr:B6 W' B v b) (hv:∀k,v.ownBlock=some k->W.heap.size<=k/\k<W'.heap.size):Ac W' (.ownB v b::l):=
  h.addOwn hb hr hv
theorem Ac.ownRow {W:bH} {l:List Res} {v:bG} {b:List UInt8} (h:Ac W (.ownB v b::l)):Ac W (.row v b::l):=
  h.weaken λ F hF=>⟨λ k=>0<b.length/\v.ownBlock=some k,⟨hF.1.sl,by decide,λ _=>Iff.rfl⟩,λ k hk=>(hF.2.2 k).2 hk.2⟩
theorem Ac.addNil {W:bH} {l:List Res} (h:Ac W l) (e:bI) (sz:Nat):Ac W (.own e sz (.slice none 0 0) 0 []::l):=
  h.new (aD _ _) (F:=λ _=>False) ⟨Own.nil _ _ _ _ _,λ b hb=>by simp [bG.ownBlock] at hb,λ b=>by simp [bG.ownBlock]⟩ (λ _ h=>h.elim)
theorem Ac.append {W W':bH} {l:List Res} {e:bI} {sz n:Nat} {v:bG} {cs:List bG} (h:Ac W (.own e sz v n cs::l)) {v':bG} {n':Nat} {cs':List bG} {B:Nat} (hr:Own W' B e sz v' n' cs') (hk:Ai (λ k=>v.ownBlock=some k/\B<=k\/W.heap.size<=k) W W') (hv:∀b,v'.ownBlock=some b->(v.ownBlock=some b\/W.heap.size<=b)/\b<W'.heap.size):Ac W' (.own e sz v' n' cs'::l):=by
  refine h.turn λ F hF=>⟨λ k=>v'.ownBlock=some k,⟨hr.base (aM _),λ b hb=>(hv b hb).2,λ _=>Iff.rfl⟩,λ b hb=>?_,hk.mono λ k hk=>?_⟩
  · rcases (hv b hb).1 with h | h
    · exact .inl ((hF.2.2 b).2 h)
    · exact .inr h
  · rcases hk with h | h
    · exact .inl ((hF.2.2 k).2 h.1)
    · exact .inr h
theorem Ac.swap {W:bH} {a b:Res} {l:List Res} (h:Ac W (a::b::l)):Ac W (b::a::l):=h.perm (.swap _ _ _)
theorem Ac.pull3 {W:bH} {a b c:Res} {l:List Res} (h:Ac W (a::b::c::l)):Ac W (c::a::b::l):=h.perm (aF (l₁:= [a,b]))
theorem Ac.push3 {W:bH} {a b c:Res} {l:List Res} (h:Ac W (c::a::b::l)):Ac W (a::b::c::l):=h.perm (aF (l₁:= [a,b])).symm
theorem Ac.pull4 {W:bH} {a b c d:Res} {l:List Res} (h:Ac W (a::b::c::d::l)):Ac W (d::a::b::c::l):=h.perm (aF (l₁:= [a,b,c]))
theorem Ac.push4 {W:bH} {a b c d:Res} {l:List Res} (h:Ac W (d::a::b::c::l)):Ac W (a::b::c::d::l):=h.perm (aF (l₁:= [a,b,c])).symm
theorem Ac.pull5 {W:bH} {a b c d e:Res} {l:List Res} (h:Ac W (a::b::c::d::e::l)):Ac W (e::a::b::c::d::l):=h.perm (aF (l₁:= [a,b,c,d]))
theorem Ac.front {W:bH} {m l:List Res} (h:Ac W (m++l)) (is:List Nat) (n:Nat) (hp:is.Perm (aK n)) (hn:m.length=n:=by rfl):Ac W ((is.map λ i=>m.getD i .emp)++l):=h.perm ((A3P _ m is (by rw [hn]; exact hp)).append_right l)
theorem Ac.addBlkAt {W:bH} {l:List Res} (h:Ac W l) (cs:List bG) (T:bI) {b:Nat} (hb:W.heap.size=b):Ac (W.alloc (.cells cs.toArray T)) (.blk b cs T::l):=by
  subst hb;exact h.addBlk cs T
end Go.Proofs.YtnihelcjmahmnaaGreat
namespace Go.Proofs.YtnihelcjmahmnaaGreat
section
section
variable {P:bJ} {ops:Array bK} {Q:Exit->Act->bH->Prop} {md:Region.Mode} {S:bH->Prop}
def Bn (P:bJ) (md:Region.Mode) (ops:Array bK) (Q:Exit->Act->bH->Prop) (S:bH->Prop) (fuel:Nat) (listed:Array Bool) (a:Act) (w:bH) (rs:List Nat):Prop:=
  ∀i∈rs,wpOp P ops Q i (λ a' w'=>S w'/\wpAnyH P md ops Q S fuel (listed.setIfInBounds i true) a' w') a w
theorem Bn.nil {fuel:Nat} {listed:Array Bool} {a:Act} {w:bH} :Bn P md ops Q S fuel listed a w []:=λ _ h=>by cases h
theorem Bn.cons {fuel:Nat} {listed:Array Bool} {a:Act} {w:bH} {i:Nat} {o:bK} {rs:List Nat} (ho:ops[i]?=some o) (h:∀K':Act->bH->Prop,(∀a w,S w->wpAnyH P md ops Q S fuel (listed.setIfInBounds i true) a w->K' a w)->if Region.wanted o (yielded ops a.tmps)=true then bK.wp P o a w K' Q else K' (a.put o.dst undef) w) (hs:Bn P md ops Q S fuel listed a w rs):Bn P md ops Q S fuel listed a w (i::rs):=λ j hj=>by
  rcases List.mem_cons.1 hj with rfl | hj
  · exact wpOp_step ho (λ K' hK=>h K' (λ a w h1 h2=>hK a w ⟨h1,h2⟩))
  · exact hs j hj
theorem D7 {rs:List Nat} {fuel:Nat} {listed:Array Bool} {a:Act} {w:bH} (hr:Region.ready md ops listed=rs) (hne:rs≠ []) (h:Bn P md ops Q S fuel listed a w rs):wpAnyH P md ops Q S (fuel+1) listed a w:=wpAnyH_all hr hne h
theorem tkH (i d:Nat) (g:Option (Nat×Bool)) (v:bG) {op:Op} {ty:bI} {pos:String} {aft:Array Edge} {fuel:Nat} {listed:Array Bool} {a:Act} {w:bH} (hi:ops[i]?=some ⟨some d,op,ty,pos,aft,g⟩) (hb:(Region.noSelect ops&&Region.free md ops listed i&&(Region.ready md ops listed).contains i)=true) (hQ:∀c a w,Q (.panic c) (a.put (some d) v) w->Q (.panic c) a w) (hw:Region.wanted ⟨some d,op,ty,pos,aft,g⟩ (yielded ops a.tmps)=true) (hr:∀w,S w->(execOp a.eval ⟨some d,op,ty,pos,aft,g⟩).run P w=.ok (.value v) w) (hS:S w) (h:wpAnyH P md ops Q S fuel (listed.setIfInBounds i true) (a.put (some d) v) w):wpAnyH P md ops Q S (fuel+1) listed a w:=by
  simp only [Bool.and_eq_true] at hb;exact wpAnyH_take hi hb.1.1 hb.1.2 hb.2 hQ (.inl ⟨hw,hr⟩) hS h
end
end
theorem Ac.pull7 {W:bH} {a b c d e f g:Res} {l:List Res} (hh:Ac W (a::b::c::d::e::f::g::l)):Ac W (g::a::b::c::d::e::f::l):=hh.perm (aF (l₁:= [a,b,c,d,e,f]))
theorem Ac.push7 {W:bH} {a b c d e f g:Res} {l:List Res} (hh:Ac W (g::a::b::c::d::e::f::l)):Ac W (a::b::c::d::e::f::g::l):=hh.perm (aF (l₁:= [a,b,c,d,e,f])).symm
theorem Ac.pull8 {W:bH} {a b c d e f g h:Res} {l:List Res} (hh:Ac W (a::b::c::d::e::f::g::h::l)):Ac W (h::a::b::c::d::e::f::g::l):=hh.perm (aF (l₁:= [a,b,c,d,e,f,g]))
theorem Ac.pull9 {W:bH} {a b c d e f g h i:Res} {l:List Res} (hh:Ac W (a::b::c::d::e::f::g::h::i::l)):Ac W (i::a::b::c::d::e::f::g::h::l):=hh.perm (aF (l₁:= [a,b,c,d,e,f,g,h]))
theorem Ac.p3 {W:bH} {x0 x1 x2:Res} {l:List Res} (h:Ac W (x0::x1::x2::l)) (is:List Nat) (hp:is.Perm (aK 3):=by decide):Ac W ((is.map λ i=> [x0,x1,x2].getD i .emp)++l):=Ac.front (m:= [x0,x1,x2]) h is 3 hp
theorem Ac.p4 {W:bH} {x0 x1 x2 x3:Res} {l:List Res} (h:Ac W (x0::x1::x2::x3::l)) (is:List Nat) (hp:is.Perm (aK 4):=by decide):Ac W ((is.map λ i=> [x0,x1,x2,x3].getD i .emp)++l):=Ac.front (m:= [x0,x1,x2,x3]) h is 4 hp
theorem Ac.p9 {W:bH} {x0 x1 x2 x3 x4 x5 x6 x7 x8:Res} {l:List Res} (h:Ac W (x0::x1::x2::x3::x4::x5::x6::x7::x8::l)) (is:List Nat) (hp:is.Perm (aK 9):=by decide):Ac W ((is.map λ i=> [x0,x1,x2,x3,x4,x5,x6,x7,x8].getD i .emp)++l):=Ac.front (m:= [x0,x1,x2,x3,x4,x5,x6,x7,x8]) h is 9 hp
theorem Ac.drop2 {W:bH} {a b:Res} {l:List Res} (h:Ac W (a::b::l)):Ac W (a::l):=h.swap.tail
theorem Ac.cast {W W':bH} {l:List Res} (h:Ac W l) (e:W=W'):Ac W' l:=e▸h
theorem Ac.p2 {W:bH} {x0 x1:Res} {l:List Res} (h:Ac W (x0::x1::l)) (is:List Nat) (hp:is.Perm (aK 2):=by decide):Ac W ((is.map λ i=> [x0,x1].getD i .emp)++l):=Ac.front (m:= [x0,x1]) h is 2 hp
end Go.Proofs.YtnihelcjmahmnaaGreat
namespace Go.Proofs.YtnihelcjmahmnaaGreat
open Go.RowKit
section
section
variable {P:bJ} {ops:Array bK} {Q:Exit->Act->bH->Prop} {md:Region.Mode} {ks0:List Nat} {T:List Bool->bH->Prop}
def D3 (ks0:List Nat) (l:Array Bool):List Bool:=ks0.map λ k=>l.getD k true
theorem On {ks0:List Nat} {i:Nat} (h:ks0.contains i=false) (l:Array Bool):D3 ks0 (l.setIfInBounds i true)=D3 ks0 l:=by
  unfold D3;refine List.map_congr_left λ k hk=>getD_set_ne true ?_
  rintro rfl
  have:ks0.contains i=true:=by simpa using hk
  rw [h] at this
  cases this
def Dd (P:bJ) (md:Region.Mode) (ops:Array bK) (Q:Exit->Act->bH->Prop) (ks0:List Nat) (T:List Bool->bH->Prop):Nat->Array Bool->Act->bH->Prop
  | 0,listed,a,w=>Region.ready md ops listed= []/\Q .normal a w
  | fuel+1,listed,a,w=>
    (Region.ready md ops listed= []->Q .normal a w)/\
    ∀i∈Region.ready md ops listed,wpOp P ops Q i (λ a' w'=>T (D3 ks0 (listed.setIfInBounds i true)) w'/\Dd P md ops Q ks0 T fuel (listed.setIfInBounds i true) a' w') a w
theorem Ta:∀(fuel:Nat) (listed:Array Bool) (a:Act) (w:bH),Dd P md ops Q ks0 T fuel listed a w->wpAny P md ops Q fuel listed a w
  | 0,_,_,_,h=>h
  | fuel+1,_,_,_,h=>⟨h.1,λ i hi=>wpOp_mono (λ a' w' h'=>Ta fuel _ a' w' h'.2) (h.2 i hi)⟩
def Fj (P:bJ) (ops:Array bK) (ks0:List Nat) (T:List Bool->bH->Prop) (ks:List Nat) (o:bK) (v:bG) (a:Act):Prop:=
  (Region.wanted o (yielded ops a.tmps)=true/\∀l w,(∀k∈ks,l.getD k true=false)->T (D3 ks0 l) w->(execOp a.eval o).run P w=.ok (.value v) w)\/
  (Region.wanted o (yielded ops a.tmps)=false/\v=undef)
theorem Fj.at {ks:List Nat} {o:bK} {v:bG} {a:Act} (h:Fj P ops ks0 T ks o v a) {l:Array Bool} (hl:∀k∈ks,l.getD k true=false):YieldsIf P ops (T (D3 ks0 l)) o v a:=
  h.imp (λ ⟨hw,hv⟩=>⟨hw,λ w hS=>hv l w hl hS⟩) id
theorem Fj.of_same {ks:List Nat} {o:bK} {v:bG} {a a':Act} (hy:Fj P ops ks0 T ks o v a) (he:execOp a'.eval o=execOp a.eval o) (hw:Region.wanted o (yielded ops a'.tmps)=Region.wanted o (yielded ops a.tmps)):Fj P ops ks0 T ks o v a':=by
  unfold Fj at*;rw [he,hw];exact hy
theorem A2H {ks:List Nat} {j:Nat} {oi oj:bK} {v:bG} (hj:ops[j]?=some oj) (hap:oi.apart ops oj=true) (hsi:∀cs b,oi.op≠ .select cs b) (hsj:∀cs b,oj.op≠ .select cs b) (hQ:∀c a w,Q (.panic c) (a.put oi.dst v) w->Q (.panic c) a w) {K:Act->bH->Prop} {a:Act} {w:bH} (hy:Fj P ops ks0 T ks oi v a) (h:wpOp P ops Q j K (a.put oi.dst v) w): wpOp P ops Q j (λ a' w'=>Fj P ops ks0 T ks oi v a'/\K (a'.put oi.dst v) w') a w:=by
  obtain ⟨h1,h2,h3⟩:=bK.apart_spec hap;have keep:∀(a:Act),Fj P ops ks0 T ks oi v a->∀u,Fj P ops ks0 T ks oi v (a.put oj.dst u):=λ a hy u=>
    hy.of_same (execOp_put oi hsi a oj.dst u h3) (wanted_put oi a oj.dst u h3)
  have keepD:∀d,Fj P ops ks0 T ks oi v { a with defers:=d::a.defers } :=λ d=>hy.of_same rfl rfl
  unfold wpOp at*;simp only [hj] at*;rw [wanted_put oj a oi.dst v h1] at h;split
  · rename_i hw;simp only [hw,if_true] at h;rcases h with h | ⟨hasks,hlets⟩
    case inr=>exact .inr ⟨by unfold bK.asks at*; rw [execOp_put oj hsj a oi.dst v h1] at hasks; exact hasks,hlets⟩
    refine .inl ?_;unfold bK.wp at*;rw [execOp_put oj hsj a oi.dst v h1] at h;generalize (execOp a.eval oj).run P w=r at*
    cases r with
    | ok n w'=>
      cases n <;> simp only [bK.upon] at h ⊢
      case value u=>exact ⟨keep a hy u,by rw [<-Act.put_comm a v u h2]; exact h⟩
      case skip=>exact ⟨keep a hy _,by rw [<-Act.put_comm a v undef h2]; exact h⟩
      case defer d=>
        refine ⟨keep _ (keepD d) _,?_⟩;rw [<-Act.put_comm _ v undef h2,<-Act.put_defers];exact h
      case enter f args=>
        refine Calls.mono h λ e w'' he=>?_
        cases e with
        | returned u=>exact ⟨keep a hy u,by rw [<-Act.put_comm a v u h2]; exact he⟩
        | panicked c=>exact hQ _ _ _ he
        | outgrown=>exact he
      case row row args=>exact Rows.mono h λ u w'' he=>⟨keep a hy u,by rw [<-Act.put_comm a v u h2]; exact he⟩
    | halt x w'=>
      cases x <;> simp only [bK.upon] at h ⊢
      case panic u=>exact hQ _ _ _ h
  · rename_i hw;simp only [hw] at h;exact ⟨keep a hy _,by rw [<-Act.put_comm a v undef h2]; exact h⟩
theorem Of {ks:List Nat} {i:Nat} {oi:bK} {v:bG} (hi:ops[i]?=some oi) (hsel:∀(j:Nat) (o:bK) cs b,ops[j]?=some o->o.op≠ .select cs b) (hQ:∀c a w,Q (.panic c) (a.put oi.dst v) w->Q (.panic c) a w) (hks:∀k∈ks,Region.waitsFor md ops k i=true) (hi0:ks0.contains i=false): ∀(fuel:Nat) (listed:Array Bool) (a:Act) (w:bH), (∀j oj,ops[j]?=some oj->j≠i->listed.getD j true=false->(∀e∈oj.after,Region.binds md e=true->e.on≠i)->oi.apart ops oj=true)-> i∈Region.ready md ops listed->(∀k∈ks,listed.getD k true=false)->Fj P ops ks0 T ks oi v a->T (D3 ks0 listed) w-> Dd P md ops Q ks0 T fuel (listed.setIfInBounds i true) (a.put oi.dst v) w->Dd P md ops Q ks0 T (fuel+1) listed a w:=by
  intro fuel;induction fuel with
  | zero=>
    intro listed a w _ hr hk hy hS H;refine ⟨λ h=>(by rw [h] at hr; cases hr),λ j hj=>?_⟩;by_cases hji:j=i
    · subst hji; exact (hy.at hk).wpOp hi hS ⟨by rw [On hi0]; exact hS,H⟩
    · have:=ready_mono hj hji;rw [H.1] at this
      cases this
  | succ fuel ih=>
    intro listed a w hfree hr hk hy hS H;refine ⟨λ h=>(by rw [h] at hr; cases hr),λ j hj=>?_⟩;by_cases hji:j=i
    · subst hji; exact (hy.at hk).wpOp hi hS ⟨by rw [On hi0]; exact hS,H⟩
    · have h1:=H.2 j (ready_mono hj hji);obtain ⟨hjun,oj,hoj,hall⟩:=mem_ready.1 hj;have hnot:∀e∈oj.after,Region.binds md e=true->e.on≠i:=λ e he hb heq=>by
        have h1:=hall e he hb;have h0:=(mem_ready.1 hr).1;rw [heq] at h1;rcases aS i listed.size with h' | h'
        · simp [h'] at h0 h1; rw [h0] at h1; cases h1
        · simp [aP h'] at h1
      have h2:=A2H hoj (hfree j oj hoj hji hjun hnot) (λ cs b=>hsel i oi cs b hi) (λ cs b=>hsel j oj cs b hoj) hQ hy h1;have hfree':∀k ok,ops[k]?=some ok->k≠i->(listed.setIfInBounds j true).getD k true=false->
          (∀e∈ok.after,Region.binds md e=true->e.on≠i)->oi.apart ops ok=true:=λ k ok hk hki hun hno=>by
        refine hfree k ok hk hki ?_ hno;by_cases hjk:j=k
        · subst hjk; exact hjun
        · rw [getD_set_ne true hjk] at hun; exact hun
      have hk':∀k∈ks,(listed.setIfInBounds j true).getD k true=false:=λ k hkk=>by
        have hjk:j≠k:=by
          rintro rfl;obtain ⟨ok,hok,e,he,hb,heq⟩:=Region.waitsFor_spec (hks j hkk);rw [hoj] at hok;injection hok with hok;subst hok;exact hnot e he hb heq
        rw [getD_set_ne true hjk];exact hk k hkk
      have hcm:(listed.setIfInBounds i true).setIfInBounds j true=(listed.setIfInBounds j true).setIfInBounds i true:=Array.setIfInBounds_comm _ _ (Ne.symm hji);rw [hcm] at h2;refine wpOp_mono (λ a' w' h3=>?_) h2;have hS':T (D3 ks0 (listed.setIfInBounds j true)) w':=by
        have:=h3.2.1
        rwa [On hi0] at this
      exact ⟨hS',ih (listed.setIfInBounds j true) a' w' hfree' (ready_mono hr (Ne.symm hji)) hk' h3.1 hS' h3.2.2⟩
theorem tkJ (i d:Nat) (g:Option (Nat×Bool)) (v:bG) (ks:List Nat) {op:Op} {ty:bI} {pos:String} {aft:Array Edge} {fuel:Nat} {listed:Array Bool} {a:Act} {w:bH} (hi:ops[i]?=some ⟨some d,op,ty,pos,aft,g⟩) (hb:(Region.noSelect ops&&Region.free md ops listed i&&(Region.ready md ops listed).contains i&&(!ks0.contains i)&&ks.all λ k=>Region.waitsFor md ops k i&& !listed.getD k true)=true) (hQ:∀c a w,Q (.panic c) (a.put (some d) v) w->Q (.panic c) a w) (hw:Region.wanted ⟨some d,op,ty,pos,aft,g⟩ (yielded ops a.tmps)=true) (hr:∀l w,(∀k∈ks,l.getD k true=false)->T (D3 ks0 l) w->(execOp a.eval ⟨some d,op,ty,pos,aft,g⟩).run P w=.ok (.value v) w) (hS:T (D3 ks0 listed) w) (h:Dd P md ops Q ks0 T fuel (listed.setIfInBounds i true) (a.put (some d) v) w):Dd P md ops Q ks0 T (fuel+1) listed a w:=by
  simp only [Bool.and_eq_true,List.all_eq_true,Bool.not_eq_true'] at hb;exact Of hi (Region.noSelect_spec hb.1.1.1.1) hQ (λ k hk=>(hb.2 k hk).1) hb.1.2 fuel listed a w (Region.free_spec hi hb.1.1.1.2) (by simpa using hb.1.1.2) (λ k hk=>(hb.2 k hk).2) (.inl ⟨hw,hr⟩) hS h
theorem skJ (i d:Nat) (g:Option (Nat×Bool)) {op:Op} {ty:bI} {pos:String} {aft:Array Edge} {fuel:Nat} {listed:Array Bool} {a:Act} {w:bH} (hi:ops[i]?=some ⟨some d,op,ty,pos,aft,g⟩) (hb:(Region.noSelect ops&&Region.free md ops listed i&&(Region.ready md ops listed).contains i&& !ks0.contains i)=true) (hQ:∀c a w,Q (.panic c) (a.put (some d) undef) w->Q (.panic c) a w) (hw:Region.wanted ⟨some d,op,ty,pos,aft,g⟩ (yielded ops a.tmps)=false) (hS:T (D3 ks0 listed) w) (h:Dd P md ops Q ks0 T fuel (listed.setIfInBounds i true) (a.put (some d) undef) w):Dd P md ops Q ks0 T (fuel+1) listed a w:=by
  simp only [Bool.and_eq_true,Bool.not_eq_true'] at hb;exact Of (ks:= []) hi (Region.noSelect_spec hb.1.1.1) hQ (λ k hk=>by cases hk) hb.2 fuel listed a w (Region.free_spec hi hb.1.1.2) (by simpa using hb.1.2) (λ k hk=>by cases hk) (.inr ⟨hw,rfl⟩) hS h
def Hu (P:bJ) (md:Region.Mode) (ops:Array bK) (Q:Exit->Act->bH->Prop) (ks0:List Nat) (T:List Bool->bH->Prop) (fuel:Nat) (listed:Array Bool) (a:Act) (w:bH) (rs:List Nat):Prop:=
  ∀i∈rs,wpOp P ops Q i (λ a' w'=>T (D3 ks0 (listed.setIfInBounds i true)) w'/\Dd P md ops Q ks0 T fuel (listed.setIfInBounds i true) a' w') a w
theorem Dq {fuel:Nat} {listed:Array Bool} {a:Act} {w:bH} :Hu P md ops Q ks0 T fuel listed a w []:=λ _ h=>by cases h
theorem A5D {fuel:Nat} {listed:Array Bool} {a:Act} {w:bH} {i:Nat} {o:bK} {rs:List Nat} (ho:ops[i]?=some o) (h:∀K':Act->bH->Prop,(∀a w,T (D3 ks0 (listed.setIfInBounds i true)) w->Dd P md ops Q ks0 T fuel (listed.setIfInBounds i true) a w->K' a w)->if Region.wanted o (yielded ops a.tmps)=true then bK.wp P o a w K' Q else K' (a.put o.dst undef) w) (hs:Hu P md ops Q ks0 T fuel listed a w rs):Hu P md ops Q ks0 T fuel listed a w (i::rs):=λ j hj=>by
  rcases List.mem_cons.1 hj with rfl | hj
  · exact wpOp_step ho (λ K' hK=>h K' (λ a w h1 h2=>hK a w ⟨h1,h2⟩))
  · exact hs j hj
theorem Bq {rs:List Nat} {fuel:Nat} {listed:Array Bool} {a:Act} {w:bH} (hr:Region.ready md ops listed=rs) (hne:rs≠ []) (h:Hu P md ops Q ks0 T fuel listed a w rs):Dd P md ops Q ks0 T (fuel+1) listed a w:=⟨λ h0=>absurd (hr▸h0) hne,hr▸h⟩
theorem A6v {listed:Array Bool} {a:Act} {w:bH} (hr:Region.ready md ops listed= []) (h:Q .normal a w): ∀fuel,Dd P md ops Q ks0 T fuel listed a w
  | 0=>⟨hr,h⟩
  | _+1=>⟨λ _=>h,by rw [hr]; simp⟩
theorem Ev (ks0:List Nat) (T:List Bool->bH->Prop) {id:Nat} {a:Act} {w:bH} (hm:P.follows .mixedOrders=true) (h:Dd P .any ops Q ks0 T ops.size (Array.replicate ops.size false) a w.drew):(Code.region id ops true).wp P Q a w:=wp_region_any hm (Ta _ _ _ _ h)
theorem ldJ {a:Act} {ty:bI} {m b off:Nat} {x:Operand} {cs:List bG} {d:Option Tmp} {t2:bI} {pos:String} {aft:Array Edge} {g:Option (Nat×Bool)} (hT:A7 P ty m) (hx:a.eval x=.pointer (some ⟨b,off,none⟩)) (hm:cs.length=m) {w:bH} (hc:Ao w b off cs): (execOp a.eval ⟨d,.load ty x,t2,pos,aft,g⟩).run P w=.ok (.value (.agg cs.toArray)) w:=by
  have h:=Ei hT hm hc;unfold execOp;simp only [hx,Instr.loadAt,Instr.sureAddr,Sem.run_bind,Sem.run_pure,Result.andThen_ok,h]
theorem Ge {a:Act} {ty:bI} {parts:Array (Nat×Operand)} {d:Option Tmp} {t2:bI} {pos:String} {aft:Array Edge} {g:Option (Nat×Bool)} {pv:List (Nat×bG)} (hp:(parts.map λ p=>(p.1,a.eval p.2))=pv.toArray) {cells:Array bG} (hb:P.built ty pv=some cells) (w:bH): (execOp a.eval ⟨d,.build ty parts,t2,pos,aft,g⟩).run P w=.ok (.value (.agg cells)) w:=by
  have hr:=run_build (P:=P) w ty pv.toArray cells (by simpa using hb);unfold execOp;simp only [hp,Sem.run_bind,Sem.run_pure,Result.andThen_ok,hr]
theorem Dg {rest:List bK} {o:bK} {a:Act} {w:bH} (hgd:Region.wanted o (yielded ops a.tmps)=true) {ty:bI} {parts:Array (Nat×Operand)} (ho:o.op=.build ty parts) {pv:List (Nat×bG)} (hp:(parts.map λ p=>(p.1,a.eval p.2))=pv.toArray) {cells:Array bG} (hb:P.built ty pv=some cells) (h:wpList P ops Q rest (a.put o.dst (.agg cells)) w):wpList P ops Q (o::rest) a w:=by
  refine By hgd λ K hK=>?_
  unfold bK.wp execOp;have hr:=run_build (P:=P) w ty pv.toArray cells (by simpa using hb);simp only [ho,hp,Sem.run_bind,Sem.run_pure,Result.andThen_ok,hr];exact hK _ _ h
end
theorem Br (l:List UInt8) (h:l.length=16):∃c0 c1 c2 c3 c4 c5 c6 c7 c8 c9 c10 c11 c12 c13 c14 c15,l= [c0,c1,c2,c3,c4,c5,c6,c7,c8,c9,c10,c11,c12,c13,c14,c15]:=by
  match l,h with
  | [a0,a1,a2,a3,a4,a5,a6,a7,a8,a9,a10,a11,a12,a13,a14,a15],_=>exact ⟨_,_,_,_,_,_,_,_,_,_,_,_,_,_,_,_,rfl⟩
theorem W3 {i:Nat} {l:Array Bool} (hk:∀k∈ [i],l.getD k true=false):D3 [i] l= [false]:=by
  unfold D3;rw [aC,hk i (by simp)];rfl
theorem Ac.reblk {W W':bH} {g:Nat} {cur cs:List bG} {T:bI} {l:List Res} (h:Ac W (.blk g cur T::l)) (hb:Blk W' g cs T) (hk:Ai (λ k=>k=g) W W'):Ac W' (.blk g cs T::l):=
  h.turn λ F hF=>⟨F,⟨hb,hF.2⟩,λ b hb=>.inl hb,hk.mono λ k hk=>.inl ((hF.2 k).2 hk)⟩
theorem Ac.stW {W W':bH} {g m:Nat} {cur vs:List bG} {T:bI} {l:List Res} (h:Ac W (.blk g cur T::l)) (hb:Blk W' g (cur.take 0++vs++cur.drop (0+m)) T) (hk:Ai (λ k=>k=g) W W') (hl:cur.length=m):Ac W' (.blk g vs T::l):=by
  refine h.reblk ?_ hk;rw [List.drop_of_length_le (by omega)] at hb;simpa using hb
theorem Ac.blk0 {W:bH} {g:Nat} {cs:List bG} {T:bI} {l:List Res} (h:Ac W (.blk g cs T::l)):Blk W g cs T:=h.head.elim λ _ hF=>hF.1
theorem Ac.slf {W:bH} {sz n:Nat} {v:bG} {cs:List bG} {e:bI} {l:List Res} (h:Ac W (.own e sz v n cs::l)):∃a c,v=.slice a n c/\n<=c/\c<=maxLen:=h.head.elim λ _ hF=>hF.1.sl.form
theorem Ac.blkRow {W:bH} {g n:Nat} {b:List UInt8} {T:bI} {l:List Res} (h:Ac W (.blk g (Ab b) T::l)) (hn:b.length=n) (hm:n<=maxLen):Ac W (.row (.slice (some ⟨g,0,none⟩) n n) b::l):=
  h.weaken λ F hF=>⟨λ k=>0<b.length/\(bG.slice (some ⟨g,0,none⟩) n n).ownBlock=some k,⟨by
    have:=hF.1.bs (off:=0) (n:=n) (cap:=n) (by omega) (aA _) hm;exact Sl.bs this (by rw [List.drop_zero,List.take_of_length_le (by omega)]) hn,by decide,λ _=>Iff.rfl⟩,λ k hk=>(hF.2 k).2 (by have h:=hk.2; simp only [bG.ownBlock,Option.map_some,Option.some.injEq] at h; exact h.symm)⟩
theorem Ac.freshRow {W W':bH} {l:List Res} (h:Ac W l) (hb:Below W.heap.size W W') {x:bG} {b:List UInt8} (ho:B6 W' W.heap.size x b):Ac W' (.row x b::l):=
  h.addRow hb ho.bs λ k hn hk=>by
    obtain ⟨g,cap,cur,rfl,hg,_⟩:=Own.form' ho hn;simp only [bG.ownBlock,Option.map_some,Option.some.injEq] at hk;omega
theorem Blk.slS {w:bH} {g sz:Nat} {cs:List bG} {T:bI} (h:Blk w g cs T) (hl:cs.length=sz) (h1:∀u∈cs,u.oneCell'=true):Sl w sz (.slice (some ⟨g,0,none⟩) 1 1) 1 cs:=
  ⟨by omega,h1,_,1,rfl,aA _,by unfold maxLen; decide,λ h=>by simp at h,.inr ⟨g,0,rfl,λ j u hj=>by rw [aE,h.cell]; exact hj⟩⟩
end
def Pk (P:bJ) (ty:bI):Prop:=∃i,P.info? ty=some i/\i.size=1
theorem Pk.mk {P:bJ} {ty:bI} (h:(P.info? ty).map (·.size)=some 1):Pk P ty:=by
  cases hq:P.info? ty with
  | none=>simp [hq] at h
  | some i=>exact ⟨i,hq,by simpa [hq] using h⟩
theorem Tn {v:bG} (h:v.oneCell'=true):v.cells=#[v]:=by
  cases v <;> first | rfl | simp [bG.oneCell'] at h
theorem A1e {l:List bG} {o:Nat} (h:o<l.length) (v:bG):l.take o++ [v]++l.drop (o+1)=l.set o v:=by
  rw [List.set_eq_take_append_cons_drop,if_pos h]; simp
theorem A5h {P:bJ} {w:bH} {ty:bI} {g o:Nat} {cur:List bG} {v:bG} {T:bI} (hT:Pk P ty) (hb:Blk w g cur T) (hfit:o<cur.length) (h1:v.oneCell'=true): ∃w',(storeVar ty ⟨g,o,none⟩ v).run P w=.ok () w'/\Blk w' g (cur.set o v) T/\Ai (λ k=>k=g) w w':=by
  obtain ⟨i,hi,hs⟩:=hT;have hst:=run_storeCells_at P g o T [v] 0 cur.toArray w hb (by simp; omega) (by simpa using h1);simp only [aU] at hst;refine ⟨_,?_,?_,Ai.oneRow w g (cur.take o++ [v]++cur.drop (o+1)).toArray⟩
  · simp [storeVar,Tn h1,sizeOf,typeInfo,hi,hs,hst]
  · unfold Blk;rw [setRow_heap w g cur.toArray _ T _ hb,A1e hfit]
theorem Sz {P:bJ} {ops:Array bK} {o:bK} {a:Act} {w:bH} {K:Act->bH->Prop} {Q:Exit->Act->bH->Prop} {E:Prop} (hgd:o.guard=none) (x y:Operand) {ty:bI} (hT:Pk P ty) (ho:o.op=.store ty x y) {g off:Nat} (hx:a.eval x=.pointer (some ⟨g,off,none⟩)) {v:bG} (hy:a.eval y=v) {cur:List bG} {T:bI} (hb:Blk w g cur T) (hfit:off<cur.length) (h1:v.oneCell'=true) (h:∀w',Blk w' g (cur.set off v) T->Ai (λ k=>k=g) w w'->K (a.put o.dst undef) w'):if Region.wanted o (yielded ops a.tmps)=true then bK.wp P o a w K Q else E:=by
  have hw:Region.wanted o (yielded ops a.tmps)=true:=by simp [Region.wanted,hgd]
  rw [if_pos hw];obtain ⟨w',hr,h2,h3⟩:=A5h hT hb hfit h1;unfold bK.wp execOp;simp only [ho,hx,hy,Instr.storeAt,Instr.sureAddr,Sem.run_bind,Sem.run_pure,Result.andThen_ok,hr];exact h w' h2 h3
theorem Zr {P:bJ} {ops:Array bK} {o:bK} {a:Act} {w:bH} {K:Act->bH->Prop} {Q:Exit->Act->bH->Prop} {E:Prop} (f:Nat->bG) (cs:List bG) (T:bI) {l:List Res} (hgd:o.guard=none) (hr:(execOp a.eval o).run P w=.ok (.value (f w.heap.size)) (w.alloc (.cells cs.toArray T))) (hC:Ac w l) (h:∀b w',Ac w' (.blk b cs T::l)->K (a.put o.dst (f b)) w'):if Region.wanted o (yielded ops a.tmps)=true then bK.wp P o a w K Q else E:=by
  have hw:Region.wanted o (yielded ops a.tmps)=true:=by simp [Region.wanted,hgd]
  rw [if_pos hw];unfold bK.wp;rw [hr];exact h _ _ (hC.addBlk cs T)
theorem M9 {P:bJ} {ops:Array bK} {rest:List bK} {a:Act} {w:bH} {Q:Exit->Act->bH->Prop} (d:Nat) (v:bG) {op:Op} {ty:bI} {pos:String} {aft:Array Edge} {g:Option (Nat×Bool)} (hw:Region.wanted ⟨some d,op,ty,pos,aft,g⟩ (yielded ops a.tmps)=true) (hr:(execOp a.eval ⟨some d,op,ty,pos,aft,g⟩).run P w=.ok (.value v) w) (h:wpList P ops Q rest (a.put (some d) v) w):wpList P ops Q (⟨some d,op,ty,pos,aft,g⟩::rest) a w:=by
  refine By hw λ K hK=>?_
  unfold bK.wp;rw [hr];exact hK _ _ h
theorem A1r {P:bJ} {ops:Array bK} {rest:List bK} {a:Act} {w:bH} {Q:Exit->Act->bH->Prop} (d:Nat) {op:Op} {ty:bI} {pos:String} {aft:Array Edge} {g:Option (Nat×Bool)} (hw:Region.wanted ⟨some d,op,ty,pos,aft,g⟩ (yielded ops a.tmps)=false) (h:wpList P ops Q rest (a.put (some d) undef) w):wpList P ops Q (⟨some d,op,ty,pos,aft,g⟩::rest) a w:=by
  refine wpList_step λ K hK=>?_
  rw [if_neg (by rw [hw]; decide)];exact hK _ _ h
theorem Ad {P:bJ} {ops:Array bK} {rest:List bK} {o:bK} {a:Act} {w:bH} {Q:Exit->Act->bH->Prop} (h:∀K:Act->bH->Prop,(∀a w,wpList P ops Q rest a w->K a w)->if Region.wanted o (yielded ops a.tmps)=true then bK.wp P o a w K Q else K (a.put o.dst undef) w):wpList P ops Q (o::rest) a w:=wpList_step h
theorem Ak {P:bJ} {Q:Exit->Act->bH->Prop} {id:Nat} {l:List bK} {a:Act} {w:bH} (h:wpList P l.toArray Q l a w):(Code.region id l.toArray false).wp P Q a w:=wp_region_lit h
theorem Ac.st1 {W W':bH} {g off:Nat} {cur:List bG} {v:bG} {T:bI} {l:List Res} (h:Ac W (.blk g cur T::l)) (hb:Blk W' g (cur.set off v) T) (hk:Ai (λ k=>k=g) W W'):Ac W' (.blk g (cur.set off v) T::l):=h.reblk hb hk
theorem Kd {l vs:List bG} {o m:Nat} (hm:vs.length=m) (hf:o+m<=l.length):((l.take o++vs++l.drop (o+m)).drop o).take m=vs:=by
  have h1:(l.take o).length=o:=by simp; omega
  rw [List.append_assoc];have h2:(l.take o++(vs++l.drop (o+m))).drop o=vs++l.drop (o+m):=by
    have:=List.drop_left (l₁:=l.take o) (l₂:=vs++l.drop (o+m));rw [h1] at this;exact this
  rw [h2,<-hm,List.take_left]
theorem J6 {l vs:List bG} {o m:Nat} (hm:vs.length=m) (hf:o+m<=l.length):(l.take o++vs++l.drop (o+m)).length=l.length:=by
  simp [hm]; omega
end Go.Proofs.YtnihelcjmahmnaaGreat
