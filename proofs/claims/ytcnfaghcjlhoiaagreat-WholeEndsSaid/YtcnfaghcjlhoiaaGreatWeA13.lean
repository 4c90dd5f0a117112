/- Texts of this proof, one behind the other: RelT, RelC, Ws1, Wk1, Wk2, Mind, SyM, Wk5, KnA, KnC, KnZ. -/
import Derived.Test.YtcnfaghcjlhoiaaGreatWeA1
import Derived.Test.YtcnfaghcjlhoiaaGreatWeA2
import Derived.Test.YtcnfaghcjlhoiaaGreatWeA4
import Derived.Test.YtcnfaghcjlhoiaaGreatWeA5
import Derived.Test.YtcnfaghcjlhoiaaGreatWeA6
import Derived.Test.YtcnfaghcjlhoiaaGreatWeA7
import Derived.Deep.DeepCutAuto
import Derived.Lib.SliceRun
import Derived.Deep.LoopGhost
set_option linter.unusedSimpArgs false
set_option linter.unusedVariables false
set_option maxRecDepth 100000
set_option maxHeartbeats 16000000
open Go.Proofs.Tryz renaming prog -> aA, underlying95 -> aG, underlying46 -> aH, underlying41 -> aP, func23 -> aQ, ntmps23 -> aR, underlying153 -> aW, underlying9 -> aZ, underlying27 -> bB, func58 -> bC, ntmps58 -> bD, func166 -> bE, ntmps166 -> bF, func56 -> bI, ntmps56 -> bJ
open Nat renaming le_refl -> aB, zero_le -> aI, add_sub_cancel_left -> bO
open And renaming intro -> aC
open Go.RowKit.Below renaming refl -> aD
open List renaming take_of_length_le -> aE, length_drop -> aF, drop_zero -> aJ, mem_cons_self -> aK, replicate -> aL, filter_append -> aM, filter_cons -> aN, getElem?_cons_zero -> aO, range -> aS, getElem?_eq_getElem -> aT, mem_cons -> aU, length_map -> aV, drop_succ_cons -> aX, mem_of_getElem? -> aY, eq_nil_of_length_eq_zero -> bA, pairwise_map -> bG, length_range -> bH, range_succ -> bK, map_append -> bL, length_take -> bM, not_mem_nil -> bN, mem_of_mem_take -> bP, take_append_of_le_length -> bQ
open Go renaming Value -> bR, World -> bS, TypeId -> bT, Calls -> bU, IntKind -> bW, Program -> bX
namespace Go.Proofs.YtcnfaghcjlhoiaaGreat
open Go.RowKit Go.Maps Go.MapKept Go.WideMaps
abbrev Jn:=List (ByteArray×List Aa)
theorem Sl.restZ {w:bS} {sz b o n cap:Nat} {cs:List bR} (h:Sl w sz (.slice (some ⟨b,o,none⟩) n cap) n cs) (i:Nat) (hi:i<=n): Sl w sz (.slice (G6 b o cap i sz) (n-i) (cap-i)) (n-i) (cs.drop (i*sz)):=by
 obtain ⟨a,c,e,h3,h4⟩:=h.form;have hl:=h.1;simp only [bR.slice.injEq,true_and] at e;obtain ⟨rfl,rfl⟩:=e;unfold G6;split
 . rename_i hc;have hn:n-i=0:=by omega
   rw [hn,show cap-i=0 by omega,List.drop_of_length_le (by rw [hl]; exact Nat.mul_le_mul_right _ (by omega))];exact Sl.nil _ _ _
 . have:=h.sub i (n-i) (cap-i) (by omega) (by omega) (by omega);rw [aE (by rw [aF,hl,Nat.sub_mul]; exact aB _)] at this;exact this
def La (w:bS) (G:Nat->Prop):List Aa->List bR->Prop
 | [],cs=>cs= []
 | b::L,cs=>∃v rs,cs=v::rs/\Bs w v b/\(0<b.length->∀y,v.ownBlock=some y->G y)/\La w G L rs
theorem La.keep {w w':bS} {G G' S:Nat->Prop} (hk:Ai S w w') (hs:∀b,G b->b<w.heap.size->¬S b) (hg:∀b,G b->G' b):∀ {L:List Aa} {cs:List bR},La w G L cs->La w' G' L cs
 | [],cs,h=>h
 | b::L,cs,h=>by
  obtain ⟨v,rs,e,h1,h2,h3⟩:=h;exact ⟨v,rs,e,h1.keepF hk h2 hs,λ h y hy=>hg y (h2 h y hy),La.keep hk hs hg h3⟩
theorem La.snoc {w:bS} {G:Nat->Prop} :∀ {L:List Aa} {cs:List bR} {b:Aa} {v:bR},La w G L cs->Bs w v b->(0<b.length->∀y,v.ownBlock=some y->G y)->La w G (L++ [b]) (cs++ [v])
 | [],cs,b,v,h,h1,h2=>by
  rw [show cs= [] from h];exact ⟨v, [],rfl,h1,h2,rfl⟩
 | a::L,cs,b,v,h,h1,h2=>by
  obtain ⟨u,rs,rfl,h3,h4,h5⟩:=h;exact ⟨u,rs++ [v],by simp,h3,h4,La.snoc h5 h1 h2⟩
def Box (w:bS) (G:Nat->Prop) (v:bR) (L:List Aa):Prop:=
 ∃rows,Sl w 1 v L.length rows/\(0<L.length->∀y,v.ownBlock=some y->G y)/\La w G L rows
theorem Box.nil (w:bS) (G:Nat->Prop):Box w G (.slice none 0 0) []:=⟨[],Sl.nil _ _ _,by simp,rfl⟩
theorem Box.keep {w w':bS} {G G' S:Nat->Prop} {v:bR} {L:List Aa} (h:Box w G v L) (hk:Ai S w w') (hs:∀b,G b->b<w.heap.size->¬S b) (hg:∀b,G b->G' b):Box w' G' v L:=by
 obtain ⟨rows,h1,h2,h3⟩:=h;exact ⟨rows,h1.keepF hk h2 hs,λ h y hy=>hg y (h2 h y hy),h3.keep hk hs hg⟩
theorem Box.form {w:bS} {G:Nat->Prop} {v:bR} {L:List Aa} (h:Box w G v L):∃a c,v=.slice a L.length c/\L.length<=c/\c<=maxLen:=by
 obtain ⟨rows,h1,_⟩:=h;exact h1.form
theorem Box.first {w:bS} {G:Nat->Prop} {a:Option Addr} {n c:Nat} {b:Aa} {L:List Aa} (h:Box w G (.slice a n c) (b::L)): ∃g o v,a=some ⟨g,o,none⟩/\w.cell? ⟨g,o,none⟩=some v/\Bs w v b/\Box w G (.slice (G6 g o c 1 1) L.length (c-1)) L/\G g/\(0<b.length->∀y,v.ownBlock=some y->G y):=by
 obtain ⟨rows,h1,h2,v,rs,rfl,h3,h4,h5⟩:=h;obtain ⟨a',c',e,hc,hm⟩:=h1.form;simp only [bR.slice.injEq] at e;obtain ⟨rfl,rfl,rfl⟩:=e;obtain ⟨g,o,rfl,hcell⟩:=h1.addr (by rw [h1.1]; simp);refine ⟨g,o,v,rfl,by have:=hcell 0 v rfl; simpa using this,h3,⟨rs,?_,λ hn y hy=>?_,h5⟩,h2 (by simp) g rfl,h4⟩
 . have:=h1.restZ 1 (by simp);simpa using this
 . rw [A4v] at hy;exact h2 (by simp) y (by simpa [bR.ownBlock] using hy)
def kS (s:ByteArray):Lit:=.string s.data.toList
theorem Ds:J9 kS:=A7V
theorem Fq:Maps.Keyed aA 9:=Maps.string_keyed aZ
theorem Wy {s:ByteArray} (h:s.size<=maxLen):keyOf aA 9 (.string s)=some (kS s):=keyOf_string_mk aZ h
theorem Qh (w:bS):(zeroValue 41).run aA w=.ok (.slice none 0 0) w:=by kernel_rfl
abbrev C0:=List (ByteArray×bR×List Aa)
def C0.mail (X:C0):Jn:=X.map λ x=>(x.1,x.2.2)
def C0.vals (X:C0):List (ByteArray×bR):=X.map λ x=>(x.1,x.2.1)
theorem C0.look {w:bS} {G:Nat->Prop} {X:C0} (h:∀x∈X,Box w G x.2.1 x.2.2) (s:ByteArray):Box w G (C4 X.vals s (.slice none 0 0)) (C4 X.mail s []):=by
 have e1:=R3 (λ y:bR×List Aa=>y.1) X s (.slice none 0 0, []);have e2:=R3 (λ y:bR×List Aa=>y.2) X s (.slice none 0 0, []);rw [show C4 X.vals s (.slice none 0 0)=_ from e1,show C4 X.mail s []=_ from e2]
 cases hh:Cz X s with
 | false=>rw [I2 hh]; exact Box.nil _ _
 | true=>exact h _ (Gj hh _)
theorem C0.has (X:C0) (s:ByteArray):Cz X.vals s=Cz X.mail s:=by
 rw [show Cz X.vals s=_ from Jz (λ y:bR×List Aa=>y.1) X s,show Cz X.mail s=_ from Jz (λ y:bR×List Aa=>y.2) X s]
theorem C0.put_mail (X:C0) (s:ByteArray) (v:bR) (L:List Aa):C0.mail (Dh X s (v,L))=Dh X.mail s L:=(Oh (λ y:bR×List Aa=>y.2) X s (v,L)).symm
theorem C0.put_vals (X:C0) (s:ByteArray) (v:bR) (L:List Aa):C0.vals (Dh X s (v,L))=Dh X.vals s v:=(Oh (λ y:bR×List Aa=>y.1) X s (v,L)).symm
structure Bxs (w:bS) (G:Nat->Prop) (b:Nat) (X:C0):Prop where
 map:C7 aA 9 kS w b X.vals
 box:∀x∈X,Box w G x.2.1 x.2.2
 not:¬G b
 lt:∀y,G y->y<w.heap.size
def Ip (p:Nat) (T:Jn):Res where
 holds W F:=∃b G X,T=C0.mail X/\Blk W p [.map (some b)] 97/\p≠b/\¬G p/\Bxs W G b X/\∀y,F y↔y=p\/y=b\/G y
 frame:=by
  rintro W W' F S ⟨b,G,X,rfl,h1,h2,h3,⟨h4,h5,h6,h7⟩,hf⟩ hk hs;have hg:∀y,G y->y<W.heap.size->¬S y:=λ y hy _=>hs y ((hf y).2 (.inr (.inr hy)))
  exact ⟨b,G,X,rfl,h1.keep hk (hs p ((hf p).2 (.inl rfl))),h2,h3,⟨h4.keep hk (hs b ((hf b).2 (.inr (.inl rfl)))),λ x hx=>(h5 x hx).keep hk hg (λ _ h=>h),h6,λ y hy=>Nat.lt_of_lt_of_le (h7 y hy) hk.size⟩,hf⟩
 lt:=by
  rintro W F y ⟨b,G,X,rfl,h1,h2,h3,⟨h4,h5,h6,h7⟩,hf⟩ hy;rcases (hf y).1 hy with rfl | rfl | hy
  . exact h1.lt
  . exact h4.lt
  . exact h7 y hy
theorem Ml {W:bS} {p:Nat} {T:Jn} {l:List Res} (h:Ad W (Ip p T::l)):∃b G X,T=C0.mail X/\Blk W p [.map (some b)] 97/\p≠b/\p<W.heap.size/\Bxs W G b X/\ ∀W' G' X',Bxs W' G' b X'->(∀y,G' y->G y\/W.heap.size<=y)->Ai (λ y=>y=b\/W.heap.size<=y) W W'->Ad W' (Ip p (C0.mail X')::l):=by
 obtain ⟨F1,F2,⟨b,G,X,rfl,h1,h2,h3,h4,hf⟩,k2,k3⟩:=Ad.cons.1 h;refine ⟨b,G,X,rfl,h1,h2,h1.lt,h4,λ W' G' X' h5 h6 h7=>?_⟩;refine Ad.cons.2 ⟨λ y=>y=p\/y=b\/G' y,F2,⟨b,G',X',rfl,h1.keep h7 (λ e=>?_),h2,λ hg=>?_,h5,λ _=>Iff.rfl⟩,(Res.all l).frame k2 h7 ?_,?_⟩
 . have:=h1.lt;omega
 . rcases h6 p hg with h | h
   . exact h3 h
   . have:=h1.lt;omega
 . rintro y hy (rfl | hc)
   . exact k3 y ((hf y).2 (.inr (.inl rfl))) hy
   . have:=(Res.all l).lt k2 hy;omega
 . rintro y (rfl | rfl | hy) hc
   . exact k3 y ((hf y).2 (.inl rfl)) hc
   . exact k3 y ((hf y).2 (.inr (.inl rfl))) hc
   . rcases h6 y hy with h | h
     . exact k3 y ((hf y).2 (.inr (.inr h))) hc
     . have:=(Res.all l).lt k2 hc;omega
theorem A5r {W:bS} {l:List Res} (h:Ad W l):Ad ((W.alloc (.map #[] 0)).alloc (.cells #[.map (some W.heap.size)] 97)) (Ip (W.heap.size+1) []::l):=by
 have hb:Below W.heap.size W ((W.alloc (.map #[] 0)).alloc (.cells #[.map (some W.heap.size)] 97)):=((aD _ _).alloc (aB _) _).alloc (by simp) _;refine h.new hb (F:=λ y=>y=W.heap.size+1\/y=W.heap.size) ?_ (λ y hy=>by omega);have hm:C7 aA 9 kS (W.alloc (.map #[] 0)) W.heap.size []:=⟨.map [],Je.nil,bS.ownsMap_made W aA 9 Nm⟩;refine ⟨W.heap.size,λ _=>False, [],rfl,Blk.at_ (by simp),by omega,λ h=>h,⟨hm.keep (Ai.of_below ((aD _ _).alloc (aB _) _)) (by simp),by simp,λ h=>h,λ y h=>h.elim⟩,λ y=>by simp⟩
def KB (w w':bS):Prop:=∀b o u,w.cell? ⟨b,o,none⟩=some u->w'.cell? ⟨b,o,none⟩=some u
theorem KB.refl (w:bS):KB w w:=λ _ _ _ h=>h
theorem KB.trans {a b c:bS} (h:KB a b) (k:KB b c):KB a c:=λ x o u hb=>k x o u (h x o u hb)
theorem KB.below {w w':bS} (h:Below w.heap.size w w'):KB w w':=λ _ _ _ hb=>Bj h hb
theorem KB.map {α:Type} {kL:α->Lit} {P:bX} {k:bT} {w w':bS} {b:Nat} {M:List (α×bR)} (hm:C7 P k kL w b M) (hk:Ai (λ y=>y=b\/w.heap.size<=y) w w'):KB w w':=by
 intro y o u hc;obtain ⟨D,_,es,clock,hmap,_⟩:=hm;have hlt:y<w.heap.size:=by
  rcases Nat.lt_or_ge y w.heap.size with h | h
  . exact h
  . simp [bS.cell?,Array.getElem?_eq_none h] at hc
 refine (hk.cell (p:=⟨y,o,none⟩) ?_).trans hc;rintro (e | e)
 . have e:y=b:=e;subst e;simp [bS.cell?,hmap] at hc
 . have e:w.heap.size<=y:=e;omega
theorem Bxs.put {W W':bS} {G G':Nat->Prop} {b:Nat} {X:C0} {s:ByteArray} {v:bR} {L:List Aa} (h:Bxs W G b X) (hm:C7 aA 9 kS W' b (Dh X.vals s v)) (hk:Ai (λ y=>y=b\/W.heap.size<=y) W W') (hg:∀y,G y->G' y) (hn:Box W' G' v L) (hb:¬G' b) (hl:∀y,G' y->y<W'.heap.size):Bxs W' G' b (Dh X s (v,L)):=by
 refine ⟨by rw [C0.put_vals]; exact hm,λ x hx=>?_,hb,hl⟩;rcases Sj hx with rfl | ⟨hx,_⟩
 . exact hn
 . exact (h.box x hx).keep hk (λ y hy hlt=>by
    rintro (rfl | hc)
    . exact h.not hy
    . omega) hg
theorem Sl.noneE {w:bS} {sz n c:Nat} {cs:List bR} (h:Sl w sz (.slice none n c) n cs):n=0/\c=0/\cs= []:=by
 obtain ⟨h1,_,a,cap,e,h2,_,h3,_⟩:=h;simp only [bR.slice.injEq,true_and] at e;obtain ⟨rfl,rfl⟩:=e
 have:=h3 rfl;obtain rfl:n=0:=by omega
 exact ⟨rfl,by omega,bA (by simpa using h1)⟩
theorem Vf (w:bS) (T e:bT) (sz:Nat):Own (w.alloc (.cells #[] T)) w.heap.size e sz (.slice (some ⟨w.heap.size,0,none⟩) 0 0) 0 []:=Own.nil _ _ _ _ _
theorem A1y (v:bR) (b:Aa) (w:bS) (h:Bs w v b) (hl:b.length<=1099511627776): bU aA 58 #[v] w λ e w'=>∃v',e=.returned v'/\Bs w' v' b/\(∀y,v'.ownBlock=some y->w.heap.size<=y/\y<w'.heap.size)/\Below w.heap.size w w':=by
 obtain ⟨a,c,rfl,hc,hm⟩:=h.form
 cases a with
 | none=>
  obtain ⟨h1,rfl,h2⟩:=Sl.noneE h;obtain rfl:b= []:=bA h1;clear h hc hm h1 h2;have qn:∀(w:bS) (a:Option Addr) (n c n' c':Nat),(binOp .eql 27 (.slice a n c) (.slice none n' c')).run aA w=.ok (.bool a.isNone) w:=λ w a n c n' c'=>Lib.run_eql_slice_nil w _ _ a n c n' c' bB
  go_enter bC,bD;go_wp2_with fail;go_ret;exact ⟨_,rfl,Sl.nil _ _ _,by simp [bR.ownBlock],aD _ _⟩
 | some a=>
  have HB:=Ab (h.alloc (.cells #[] 5));have HL:=Ab hl;clear h hl;have qn:∀(w:bS) (a:Option Addr) (n c n' c':Nat),(binOp .eql 27 (.slice a n c) (.slice none n' c')).run aA w=.ok (.bool a.isNone) w:=λ w a n c n' c'=>Lib.run_eql_slice_nil w _ _ a n c n' c' bB
  go_enter bC,bD;go_wp2_with (at_builtin; refine Dr rfl _ _ D8 rfl w.heap.size (Vf w 5 5 1) (by show ∀y,(bR.slice (some ⟨w.heap.size,0,none⟩) 0 0).ownBlock=some y->_; intro y hy; simp [bR.ownBlock] at hy; simp; omega) HB.o (by have:=HL.o; unfold maxLen; omega) (by have:=HL.o; omega) (by simp) ?_);intro v' w' ho hk hv;have HO:=Ab ho;have HK:=Ab hk;have HV:=Ab hv;clear ho hk hv;go_wp2_with fail;go_ret;refine ⟨_,rfl,by have:=HO.o.sl; exact this,λ y hy=>?_,((aD _ _).alloc (aB _) _).trans (HK.o.below (λ k hk=>?_))⟩
  . have h1:=HV.o y hy;simp [bR.ownBlock] at h1;omega
  . simp [bR.ownBlock] at hk;omega
theorem A1z (v:bR) (n:Nat) (rows:List bR) (w:bS) (h:Sl w 1 v n rows) (hl:n<=1099511627776): bU aA 166 #[v] w λ e w'=>∃v',e=.returned v'/\Own w' w.heap.size 27 1 v' n rows/\(∀y,v'.ownBlock=some y->w.heap.size<=y/\y<w'.heap.size)/\Below w.heap.size w w':=by
 obtain ⟨a,c,rfl,hc,hm⟩:=h.form
 cases a with
 | none=>
  obtain ⟨rfl,rfl,rfl⟩:=Sl.noneE h;clear h hc hm;have qn:∀(w:bS) (a:Option Addr) (n c n' c':Nat),(binOp .eql 41 (.slice a n c) (.slice none n' c')).run aA w=.ok (.bool a.isNone) w:=λ w a n c n' c'=>Lib.run_eql_slice_nil w _ _ a n c n' c' aP
  go_enter bE,bF;go_wp2_with fail;go_ret;exact ⟨_,rfl,Own.nil _ _ _ _ _,by simp [bR.ownBlock],aD _ _⟩
 | some a=>
  have HB:=Ab (h.alloc (.cells #[] 27));have HL:=Ab hl;clear h hl;have qn:∀(w:bS) (a:Option Addr) (n c n' c':Nat),(binOp .eql 41 (.slice a n c) (.slice none n' c')).run aA w=.ok (.bool a.isNone) w:=λ w a n c n' c'=>Lib.run_eql_slice_nil w _ _ a n c n' c' aP
  go_enter bE,bF;go_wp2_with (at_builtin; refine Dr rfl _ _ Gi rfl w.heap.size (Vf w 27 27 1) (by show ∀y,(bR.slice (some ⟨w.heap.size,0,none⟩) 0 0).ownBlock=some y->_; intro y hy; simp [bR.ownBlock] at hy; simp; omega) HB.o (by have:=HL.o; unfold maxLen; omega) (by have:=HL.o; omega) (by simp) ?_);intro v' w' ho hk hv;have HO:=Ab ho;have HK:=Ab hk;have HV:=Ab hv;clear ho hk hv;go_wp2_with fail;go_ret;refine ⟨_,rfl,by have:=HO.o; simpa using this,λ y hy=>?_,((aD _ _).alloc (aB _) _).trans (HK.o.below (λ k hk=>?_))⟩
  . have h1:=HV.o y hy;simp [bR.ownBlock] at h1;omega
  . simp [bR.ownBlock] at hk;omega
theorem A2d (l:List Res) (w:bS) (h:Ad w l):bU aA 21 #[] w λ e w'=>∃p,e=.returned (.pointer (some ⟨p,0,none⟩))/\Ad w' (Ip p []::l):=by
 have HC:=Ab (A5r h);clear h;go_enter Tryz.func21,Tryz.ntmps21;have hmm:= @run_makeMap aA;go_wp2_with fail;go_ret;exact ⟨_,rfl,HC.o⟩
structure Ih (T:Jn):Prop where
 keys:T.Pairwise (λ x y=>x.1≠y.1)
 few:T.length<=32
 box:∀x∈T,x.2.length<=16/\∀b∈x.2,b.length<=500
theorem Ih.get {T:Jn} (h:Ih T) (s:ByteArray):(C4 T s []).length<=16/\∀b∈C4 T s [],b.length<=500:=by
 cases hh:Cz T s with
 | false=>rw [I2 hh]; simp
 | true=>exact h.box _ (Gj hh _)
def M9 (T:Jn) (s:ByteArray):Jn×Int:=if Cz T s=true then (T,10) else if T.length=32 then (T,8) else (Dh T s [],0)
theorem A0o (p:Nat) (T:Jn) (s:ByteArray) (l:List Res) (w:bS) (h:Ad w (Ip p T::l)) (hs:s.size<=maxLen) (hT:T.length<=32): bU aA 23 #[.pointer (some ⟨p,0,none⟩),.string s] w λ e w'=>e=.returned (.int .i64 (M9 T s).2)/\Ad w' (Ip p (M9 T s).1::l)/\KB w w':=by
 have HC0:=Ab h;obtain ⟨b,G,X,rfl,hp,hpb,hpl,hx,hend⟩:=Ml h;have c0:w.cell? ⟨p,0,none⟩=some (.map (some b)):=hp.cell 0;have HX:=Ab hx;have HE:=Ab hend;have HK:=Ab (Wy hs);have HXL:Hq (X.vals.length=X.mail.length):=Ab (by simp [C0.vals,C0.mail]);have HT:=Ab hT;clear h hp hx hend hs hT;obtain ⟨K,hK⟩:∃K,K=Cz X.mail s:=⟨_,rfl⟩
 have HKN:=Ab hK;have HV:Hq (Cz X.vals s=K):=Ab (by rw [C0.has,hK]);clear hK
 cases K with
 | true=>
  have HR:Hq (M9 X.mail s=(X.mail,10)):=Ab (by rw [M9,if_pos HKN.o.symm]);go_enter aQ,aR;go_wp2_with (at_lookup; refine Cu _ rfl _ _ _ rfl 9 41 Fq Ds aG (Qh _) b _ rfl HX.o.map s HK.o ?_; rw [HV.o]);go_ret;rw [HR.o];exact ⟨rfl,HC0.o,KB.refl _⟩
 | false=>
  by_cases hfull:X.mail.length=32
  . have HR:Hq (M9 X.mail s=(X.mail,8)):=Ab (by rw [M9,if_neg (by rw [<-HKN.o]; decide),if_pos hfull]);have h32:((X.vals.length:Nat):Int)=32:=by rw [HXL.o,hfull]; rfl
    clear hfull;go_enter aQ,aR;go_wp2_with (first | (at_lookup; refine Cu _ rfl _ _ _ rfl 9 41 Fq Ds aG (Qh _) b _ rfl HX.o.map s HK.o ?_; rw [HV.o]) | ((with_reducible refine zw 23 ?_);refine Qg _ rfl _ _ rfl 9 41 aG b _ rfl HX.o.map ?_; rw [h32]));go_ret;rw [HR.o];exact ⟨rfl,HC0.o,KB.refl _⟩
  . have HR:Hq (M9 X.mail s=(Dh X.mail s [],0)):=Ab (by rw [M9,if_neg (by rw [<-HKN.o]; decide),if_neg hfull]);have h32:(((X.vals.length:Nat):Int)==32)=false:=by
     rw [HXL.o];simp only [beq_eq_false_iff_ne,ne_eq];omega
    have HML:Hq (X.vals.length<maxLen):=Ab (by rw [HXL.o]; have:=HT.o; unfold maxLen; omega);clear hfull;go_enter aQ,aR;go_wp2_with (first | (at_lookup; refine Cu _ rfl _ _ _ rfl 9 41 Fq Ds aG (Qh _) b _ rfl HX.o.map s HK.o ?_; rw [HV.o]) | ((with_reducible refine zw 23 ?_);refine Qg _ rfl _ _ rfl 9 41 aG b _ rfl HX.o.map ?_) | (at_mapUpdate; refine T0 _ rfl _ _ _ _ rfl 9 41 Fq Ds aG b _ rfl HX.o.map HML.o s HK.o ?_));intro w' hm hk hz;have hbx:Bxs w' G b (Dh X s (.slice none 0 0, [])):=HX.o.put hm hk (λ _ h=>h) (Box.nil _ _) HX.o.not (λ y hy=>by have:=HX.o.lt y hy; omega);have HKB:=Ab (KB.map HX.o.map hk);have HE2:=Ab (HE.o w' G _ hbx (λ _ h=>.inl h) hk);clear hm hk hz hbx;go_wp2_with fail;go_ret;rw [HR.o];exact ⟨rfl,by have:=HE2.o; rw [C0.put_mail] at this; exact this,HKB.o⟩
def A1H (T:Jn) (s:ByteArray):Aa×Jn×Int:=match C4 T s [] with
 | []=>([],T,9)
 | b::L=>(b,Dh T s L,0)
theorem A6M:∀w,(sizeOf 27).run aA w=.ok 1 w:=by
 intro w;obtain ⟨_,i,hi,_,hs,_⟩:=Gi;simp [sizeOf,typeInfo,hi,hs]
def A8e (p:Nat) (l:List Res) (w:bS) (r:Aa×Jn×Int) (e:Ending) (w':bS):Prop:=
 ∃v,e=.returned (.tuple #[v,.int .i64 r.2.2])/\Bs w' v r.1/\Ad w' (Ip p r.2.1::l)/\KB w w'
theorem A2c (p:Nat) (T:Jn) (s:ByteArray) (l:List Res) (w:bS) (h:Ad w (Ip p T::l)) (hs:s.size<=maxLen): bU aA 14 #[.pointer (some ⟨p,0,none⟩),.string s] w λ e w'=>e=.returned (.int .i64 ((C4 T s []).length:Nat))/\w=w':=by
 obtain ⟨b,G,X,rfl,hp,hpb,hpl,hx,hend⟩:=Ml h;have c0:w.cell? ⟨p,0,none⟩=some (.map (some b)):=hp.cell 0;have HX:=Ab hx;have HK:=Ab (Wy hs);obtain ⟨a,c,hv,_⟩:=(C0.look hx.box s).form;have HV:=Ab hv;obtain ⟨n,hn⟩:∃n,n=(C4 X.mail s []).length:=⟨_,rfl⟩
 rw [<-hn] at HV ⊢;clear h hp hx hend hs hv hn;go_enter Tryz.func14,Tryz.ntmps14;go_wp2_with (at_lookup; refine Tz _ rfl _ _ _ rfl 9 41 Fq Ds aG (Qh _) b _ rfl HX.o.map s HK.o ?_; rw [HV.o]);go_ret;exact ⟨rfl,rfl⟩
end Go.Proofs.YtcnfaghcjlhoiaaGreat
namespace Go.Proofs.YtcnfaghcjlhoiaaGreat
def Fx (b:Aa):Option (UInt8×Nat):=
 if b=Bb (b.getD 2 0) (C5 (b.drop 8))/\C5 (b.drop 8)<=1099511627776/\(b.getD 2 0=107\/b.getD 2 0=98\/b.getD 2 0=100) then some (b.getD 2 0,C5 (b.drop 8)) else none
theorem A4I (n:Nat) (h:n<256 ^ 8):C5 (Dw n)=n:=by
 have:=Zk n h;unfold Fi at this;rw [Ci,if_neg (by decide)] at this;exact (Prod.mk.inj this).1
theorem Ng {b:Aa} {k:UInt8} {n:Nat} :Fx b=some (k,n)↔b=Bb k n/\n<=1099511627776/\(k=107\/k=98\/k=100):=by
 constructor
 . intro h;unfold Fx at h;split at h
   . rename_i hc;simp only [Option.some.injEq,Prod.mk.injEq] at h;obtain ⟨rfl,rfl⟩:=h;exact hc
   . cases h
 . rintro ⟨rfl,h2,h3⟩;have e1:(Bb k n).getD 2 0=k:=rfl;have e2:C5 ((Bb k n).drop 8)=n:=A4I n (by omega);unfold Fx;rw [e1,e2,if_pos ⟨rfl,h2,h3⟩]
theorem A1U {b:Aa} (h:(Fx b).isSome=true):b.length=16:=by
 obtain ⟨⟨k,n⟩,h⟩:=Option.isSome_iff_exists.1 h;rw [(Ng.1 h).1,Ar]
def Ju:Aa->List Aa
 | []=> []
 | x::xs=>if (Fx ((x::xs).take 16)).isSome=true then (x::xs).take 16::Ju xs else Ju xs
theorem Jv {m:Aa} :∀ {b:Aa},m∈Ju b->∃k n,m=Bb k n/\n<=1099511627776/\(k=107\/k=98\/k=100)
 | [],h=>by cases h
 | x::xs,h=>by
  unfold Ju at h;split at h
  . rename_i hs;rcases List.mem_cons.1 h with rfl | h
    . obtain ⟨⟨k,n⟩,hk⟩:=Option.isSome_iff_exists.1 hs;exact ⟨k,n,Ng.1 hk⟩
    . exact Jv h
  . exact Jv h
def G8 (b:Aa):List Aa:=(Ju b).filter λ m=>decide (m.getD 2 0=107)
def Ij (b:Aa):List Aa:=(Ju b).filter λ m=>decide (m.getD 2 0=98)
structure Mi where
 keys:List Aa
 boxes:List Aa
 opens:List Aa
 all:List Aa
def Mi.nil:Mi:=⟨[], [], [], []⟩
def Mi.take (M:Mi) (b:Aa):Mi:=⟨G8 b++M.keys,Ij b++M.boxes,M.opens,M.all++ [b]⟩
end Go.Proofs.YtcnfaghcjlhoiaaGreat
namespace Go.Proofs.YtcnfaghcjlhoiaaGreat
open Go.RowKit Go.Maps
theorem A7g:46<Tryz.prog.types.size:=of_decide_eq_true (by kernel_rfl)
theorem A8x:WideMaps.KeyLaw aA 46:=deep_law (m:=2) (by omega) (by kernel_rfl) (by kernel_rfl) (by rw [aH])
theorem Q5:Keyed aA 46:=Keyed.of_law A8x
abbrev KK:= {l:Aa // l.length=16}
def A7D (k:Aa):List Lit:=k.map λ b=>.int .u8 (b.toNat:Int)
def kkL (k:KK):Lit:=.string (keyBytes (A7D k.1))
def kkV (k:KK):bR:=.agg (Ae k.1).toArray
theorem A4S (k:KK):keyOf aA 46 (kkV k)=some (kkL k):=by
 have hkt:Tryz.prog.keyType 46=true:=by kernel_rfl
 have hsz:Tryz.prog.cellsOf 46=16:=by kernel_rfl
 obtain ⟨m,hm⟩:∃m,Tryz.prog.types.size=m+1:=⟨Tryz.prog.types.size-1,by have:=A7g; omega⟩
 have hlc:(Ae k.1).length=16:=by rw [Ac,k.2]
 unfold keyOf kkV;simp only [aH];rw [if_pos (by simp [hkt,bR.formed,aH,hsz,hlc]),hm];simp only [bR.cells];rw [I5 m k.1 k.2];rfl
theorem Z9 {α β:Type} {f:α->Option β} :∀ {l:List α} {r:List β},l.mapM f=some r->∀x∈l,∃y,f x=some y
 | [],_,_,x,hx=>by cases hx
 | a::l,r,h,x,hx=>by
  rw [List.mapM_cons] at h
  cases ha:f a with
  | none=>simp [ha] at h
  | some y=>
   cases hl:l.mapM f with
   | none=>simp [ha,hl] at h
   | some s=>
    rcases List.mem_cons.1 hx with rfl | hx
    . exact ⟨y,ha⟩
    . exact Z9 hl x hx
theorem Pl:∀cs:List bR,(∀i,i<cs.length->∃b:UInt8,cs[i]?=some (bV b))->∃k,cs=Ae k
 | [],_=>⟨[],rfl⟩
 | c::cs,h=>by
  obtain ⟨b,hb⟩:=h 0 (by simp);obtain ⟨k,rfl⟩:=Pl cs λ i hi=>by
   obtain ⟨b,hb⟩:=h (i+1) (by simp; omega);exact ⟨b,by simpa using hb⟩
  simp at hb;exact ⟨b::k,by rw [hb]; rfl⟩
theorem A6R {m:Nat} {c:bR} {ls:List Lit} (h:Tryz.prog.keyLits (m+1) 5 [c]=some ls):∃b:UInt8,c=bV b:=by
 unfold bX.keyLits at h;simp only [Tryz.underlying5] at h
 cases c with
 | int q n=>
  simp only at h;by_cases hw:q=bW.u8/\(Lit.int .u8 n).wf=true
  . obtain ⟨rfl,hw⟩:=hw;have hw2:0<=n/\n<=255:=by
     have e1:bW.u8.min=0:=rfl;have e2:bW.u8.max=255:=by decide
     rw [Lit.wf,Bool.and_eq_true,decide_eq_true_eq,decide_eq_true_eq,e1,e2] at hw;exact hw
    refine ⟨UInt8.ofNat n.toNat,?_⟩;unfold bV;congr 1;rw [UInt8.toNat_ofNat'];omega
  . rw [if_neg hw] at h
    cases h
 | _=>cases h
theorem A7E {key:bR} {kl:Lit} (h:keyOf aA 46 key=some kl):∃s:KK,key=kkV s/\kl=kkL s:=by
 have hsz:Tryz.prog.cellsOf 46=16:=by kernel_rfl
 have c1:Tryz.prog.cellsOf 5=1:=by kernel_rfl
 obtain ⟨m,hm⟩:∃m,Tryz.prog.types.size=m+1:=⟨Tryz.prog.types.size-1,by have:=A7g; omega⟩
 suffices hk:∃k:Aa,k.length=16/\key=.agg (Ae k).toArray by
  obtain ⟨k,hl,rfl⟩:=hk;refine ⟨⟨k,hl⟩,rfl,?_⟩
  have:=A4S ⟨k,hl⟩;unfold kkV at this;rw [this] at h;exact (Option.some.inj h).symm
 have h2:=h;unfold keyOf at h2;simp only [aH] at h2;split at h2
 . rename_i hf;simp only [Bool.and_eq_true] at hf;obtain ⟨_,hf⟩:=hf
   cases key with
   | agg cs=>
    simp only [bR.formed,aH,hsz,beq_iff_eq] at hf;rw [hm] at h2;simp only [bR.cells] at h2;unfold bX.keyLits at h2;simp only [aH] at h2;rw [if_pos (by rw [hsz]; simpa using hf)] at h2;simp only [c1] at h2;have hl:cs.toList.length=16:=by simpa using hf
    cases hmm:(aS 16).mapM λ i=>Tryz.prog.keyLits (m+1) 5 ((cs.toList.drop (i*1)).take 1) with
    | none=>
     rw [hmm] at h2
     cases h2
    | some r=>
     have hall:=Z9 hmm;obtain ⟨k,hk⟩:=Pl cs.toList λ i hi=>by
      obtain ⟨y,hy⟩:=hall i (List.mem_range.2 (by omega));rw [Nat.mul_one,List.drop_eq_getElem_cons hi] at hy;obtain ⟨b,hb⟩:=A6R hy;exact ⟨b,by rw [aT hi,hb]⟩
     exact ⟨k,by rw [<-Ac,<-hk]; exact hl,by rw [<-hk]⟩
   | _=>simp [bR.formed,aH] at hf
 . cases h2
theorem A6f {a b:KK} (e:kkL a=kkL b):a=b:=by
 have e2:=keyLits_inj (I5 0 a.1 a.2) (I5 0 b.1 b.2) (by unfold kkL at e; injection e);refine Subtype.ext ((List.map_inj_right (λ x y hxy=>?_)).1 e2);simp only [Lit.int.injEq,true_and] at hxy;exact UInt8.toNat_inj.1 (by omega)
theorem A2W:J9 kkL:=by
 intro a b;by_cases h:a=b
 . subst h;simp [Lit.sameKey,kkL]
 . have:¬kkL a=kkL b:=λ e=>h (A6f e)
   simp only [h,decide_false];unfold kkL at this ⊢;simp only [Lit.string.injEq] at this;simp [Lit.sameKey,this]
def ksM (U:List (KK×Unit)):List (KK×bR):=U.map λ x=>(x.1,bR.bool true)
theorem A6j (U:List (KK×Unit)) (k:KK):C4 (ksM U) k (.bool false)=.bool (Cz U k):=by
 cases h:Cz U k with
 | true=>
  have h2:Cz (ksM U) k=true:=by rw [ksM,Jz (λ _=>bR.bool true)]; exact h
  have:=Gj h2 (.bool false);unfold ksM at this ⊢;obtain ⟨x,_,hx⟩:=List.mem_map.1 this;injection hx with _ hx;exact hx.symm
 | false=>
  have h2:Cz (ksM U) k=false:=by rw [ksM,Jz (λ _=>bR.bool true)]; exact h
  rw [I2 h2]
theorem A6l (U:List (KK×Unit)) (k:KK):Dh (ksM U) k (.bool true)=ksM (Dh U k ()):=Oh (λ _=>bR.bool true) U k ()
def InS (U:List (KK×Unit)) (S:List Aa):Prop:=∀k:KK,Cz U k=true↔k.1∈S
theorem InS.get {U:List (KK×Unit)} {S:List Aa} (h:InS U S) (k:KK):C4 (ksM U) k (.bool false)=.bool (decide (k.1∈S)):=by
 rw [A6j];congr 1
 have:=h k;by_cases hk:k.1∈S
 . simp [hk,this.2 hk]
 . simp [hk]
   cases hh:Cz U k with
   | false=>rfl
   | true=>exact absurd (this.1 hh) hk
theorem InS.put {U:List (KK×Unit)} {S:List Aa} (h:InS U S) (k:KK):InS (Dh U k ()) (k.1::S):=by
 intro j;rw [R7,Bool.or_eq_true,decide_eq_true_eq,h j,aU];exact ⟨λ h=>h.imp (λ e=>by rw [e]) id,λ h=>h.imp (λ e=>Subtype.ext e.symm) id⟩
theorem InS.congr {U:List (KK×Unit)} {S S':List Aa} (h:InS U S) (hs:∀k:KK,k.1∈S↔k.1∈S'):InS U S':=λ k=>(h k).trans (hs k)
def Few (S:List Aa):Prop:=∃K:List Aa,K.length<maxLen/\∀k∈S,k∈K
theorem Vc {α:Type} [DecidableEq α]:∀ {l K:List α},l.Nodup->(∀x∈l,x∈K)->l.length<=K.length
 | [],_,_,_=>aI _
 | a::l,K,hd,hs=>by
  have ha:=hs a aK;have h1:=List.nodup_cons.1 hd
  have:=Vc (l:=l) (K:=K.erase a) h1.2 λ x hx=>(List.mem_erase_of_ne (λ e=>h1.1 (by rw [<-e]; exact hx))).2 (hs x (List.mem_cons_of_mem _ hx))
  rw [List.length_erase_of_mem ha] at this;have hp:0<K.length:=List.length_pos_of_mem ha;simp only [List.length_cons];omega
theorem InS.few {U:List (KK×Unit)} {S:List Aa} (h:InS U S) (hd:(ksM U).Pairwise λ x y=>x.1≠y.1) (hf:Few S):(ksM U).length<maxLen:=by
 obtain ⟨K,h1,h2⟩:=hf;have hn:(U.map λ x=>x.1.1).Nodup:=by
  unfold ksM at hd;rw [bG] at hd;unfold List.Nodup;rw [bG];exact hd.imp λ hxy e=>hxy (Subtype.ext e)
 have:=Vc hn (K:=K) λ x hx=>by
  obtain ⟨y,hy,rfl⟩:=List.mem_map.1 hx;exact h2 _ ((h y.1).1 (by unfold Cz; exact List.any_eq_true.2 ⟨y,hy,by simp⟩))
 unfold ksM;rw [aV] at this ⊢;omega
def Fe (b:Nat) (S:List Aa):Res:=.ex λ U:List (KK×Unit)=>.all [.pure (InS U S),Cj aA 46 kkL b (ksM U)]
theorem Hm {W:bS} {b:Nat} {S:List Aa} {l:List Res} :Ad W (Fe b S::l)↔∃U:List (KK×Unit),InS U S/\Ad W (Cj aA 46 kkL b (ksM U)::l):=by
 unfold Fe;rw [Ad.ex];refine exists_congr λ x=>?_
 rw [Ad.app];exact Ad.pure
theorem S7 {W:bS} {b:Nat} {S S':List Aa} {l:List Res} (h:Ad W (Fe b S::l)) (hs:∀k:KK,k.1∈S↔k.1∈S'):Ad W (Fe b S'::l):=by
 obtain ⟨U,h1,h2⟩:=Hm.1 h;exact Hm.2 ⟨U,h1.congr hs,h2⟩
theorem A3T {W:bS} {l:List Res} (h:Ad W l):Ad (W.alloc (.map #[] 0)) (Fe W.heap.size []::l):=
 Hm.2 ⟨[],λ k=>by simp [Cz],h.mapVMade _ _ _⟩
theorem C7.pw {P:bX} {α:Type} {kL:α->Lit} {k:bT} {W:bS} {b:Nat} {M:List (α×bR)} (h:C7 P k kL W b M):M.Pairwise λ x y=>x.1≠y.1:=by
 obtain ⟨D,hd,_⟩:=h;exact hd.1
theorem A8a (u:bS):(zeroValue 4).run aA u=.ok (.bool false) u:=by kernel_rfl
end Go.Proofs.YtcnfaghcjlhoiaaGreat
namespace Go.Proofs.YtcnfaghcjlhoiaaGreat
def V2 (c:UInt8) (k:Aa):Prop:=∃n,n<=1099511627776/\k=Bb c n
theorem A7A {c:UInt8} {S:List Aa} (h:∀k∈S,V2 c k):Few S:=
 ⟨(aS 1099511627777).map (Bb c),by rw [aV,bH]; unfold maxLen; decide,λ k hk=>by
  obtain ⟨n,hn,rfl⟩:=h k hk;exact List.mem_map.2 ⟨n,List.mem_range.2 (by omega),rfl⟩⟩
theorem A3E {b k:Aa} (h:k∈G8 b):V2 107 k:=by
 unfold G8 at h;obtain ⟨h1,h2⟩:=List.mem_filter.1 h;obtain ⟨c,n,rfl,hn,_⟩:=Jv h1;exact ⟨n,hn,by rw [show c=107 from of_decide_eq_true h2]⟩
theorem A3s {b k:Aa} (h:k∈Ij b):V2 98 k:=by
 unfold Ij at h;obtain ⟨h1,h2⟩:=List.mem_filter.1 h;obtain ⟨c,n,rfl,hn,_⟩:=Jv h1;exact ⟨n,hn,by rw [show c=98 from of_decide_eq_true h2]⟩
structure Mi.Ok (M:Mi):Prop where
 keys:∀k∈M.keys,V2 107 k
 boxes:∀k∈M.boxes,V2 98 k
 opens:∀k∈M.opens,V2 98 k
theorem Mi.Ok.nil:Mi.Ok .nil:=⟨λ _ h=>(by cases h),λ _ h=>(by cases h),λ _ h=>(by cases h)⟩
theorem Mi.Ok.take {M:Mi} (h:M.Ok) (b:Aa):(M.take b).Ok:=
 ⟨λ k hk=>(List.mem_append.1 hk).elim A3E (h.keys k),λ k hk=>(List.mem_append.1 hk).elim A3s (h.boxes k),h.opens⟩
end Go.Proofs.YtcnfaghcjlhoiaaGreat
namespace Go.Proofs.YtcnfaghcjlhoiaaGreat
open Go.RowKit Go.Maps
def I6 (q kb bb ob:Nat) (av:bR):List bR:= [.pointer (some ⟨q,0,none⟩),.map (some kb),.map (some bb),.map (some ob),av]
def P0 (p q kb bb ob:Nat) (M:Mi):Res:=
 .ex λ av=>.ex λ vs=>.all [.blk p (I6 q kb bb ob av) 155,Fe kb M.keys,Fe ob M.opens,.ownZ 27 1 av M.all.length vs,Bw vs M.all]
theorem Kn {W:bS} {p q kb bb ob:Nat} {M:Mi} {l:List Res} (h:Ad W (P0 p q kb bb ob M::l)): ∃sa sc vs,Ad W (.blk p (I6 q kb bb ob (.slice sa M.all.length sc)) 155::Fe kb M.keys::Fe ob M.opens::.ownZ 27 1 (.slice sa M.all.length sc) M.all.length vs::Bw vs M.all::l):=by
 obtain ⟨av,h⟩:=Ad.ex.1 h;obtain ⟨vs,h⟩:=Ad.ex.1 h;have h:=Ad.app.1 h;obtain ⟨sa,sc,rfl,_⟩:=((h.tail.tail.tail).ownZOf (e:=27) (sz:=1) (n:=M.all.length) (v:=av) (cs:=vs) (by simp)).sl.form;exact ⟨sa,sc,vs,h⟩
theorem Nh {W:bS} {p q kb bb ob:Nat} {M:Mi} {l:List Res} {av:bR} {vs:List bR} (h:Ad W (.blk p (I6 q kb bb ob av) 155::Fe kb M.keys::Fe ob M.opens::.ownZ 27 1 av M.all.length vs::Bw vs M.all::l)): Ad W (P0 p q kb bb ob M::l):=Ad.ex.2 ⟨av,Ad.ex.2 ⟨vs,Ad.app.2 h⟩⟩
def Gb (p q kb bb ob:Nat) (M:Mi):Res:=.all [P0 p q kb bb ob M,Fe bb M.boxes]
theorem Ic {W:bS} {p q kb bb ob:Nat} {M:Mi} {l:List Res} :Ad W (Gb p q kb bb ob M::l)↔Ad W (P0 p q kb bb ob M::Fe bb M.boxes::l):=Ad.app (m:= [_,_])
def Up (W:bS) (b:Nat) (S:List Aa):Prop:=∃U:List (KK×Unit),InS U S/\C7 aA 46 kkL W b (ksM U)
theorem Ad.setAt0 {W:bS} {b:Nat} {S:List Aa} {l:List Res} (h:Ad W (Fe b S::l)):Up W b S:=by
 obtain ⟨U,h1,h2⟩:=Hm.1 h;exact ⟨U,h1,h2.mapVOf (b:=b) (M:=ksM U) aK⟩
theorem Ad.setAt {W:bS} {b:Nat} {S:List Aa} {l:List Res} (h:Ad W l) (hm:Fe b S∈l):Up W b S:=by
 obtain ⟨l1,l2,rfl⟩:=List.append_of_mem hm;exact (h.perm (List.perm_middle (l₁:=l1))).setAt0
theorem Wo {α:Type} [DecidableEq α] {kL:α->Lit} {P:bX} {w:bS} {o:Oper} {a:Act} (m x:Operand) {t:bT} (hop:o.op=Op.lookup t m x false) (k e:bT) (K:Keyed P k) (hk:J9 kL) (ht:P.underlying t=some (.map k e)) {z:bR} (hz:(zeroValue e).run P w=.ok z w) (b:Nat) (M:List (α×bR)) (hm:a.eval m=.map (some b)) (hown:C7 P k kL w b M) (s:α) (hkey:keyOf P k (a.eval x)=some (kL s)):(execOp a.eval o).run P w=.ok (.value (C4 M s z)) w:=by
 obtain ⟨D,hd,ho⟩:=hown;obtain ⟨v,ps,hrun,hv⟩:=ho.lookup K ht hz (zd:=.held z) (zp:= []) rfl hkey;rw [hd.at hk] at hv;simp only [Nm,Option.some.injEq,Prod.mk.injEq,DataW.held.injEq] at hv;rw [hv.1] at hrun;simp [execOp,hop,hm,hrun,Result.andThen]
theorem Kh {w:bS} {a:Act} (m x:Operand) {d:Option Tmp} {ty:bT} {pos:String} {aft:Array Edge} {g:Option (Nat×Bool)} {b:Nat} {S:List Aa} (hm:a.eval m=.map (some b)) (h:Up w b S) {k:Aa} (hk:k.length=16) (hx:a.eval x=.agg (Ae k).toArray) {r:Bool} (hr:decide (k∈S)=r): (execOp a.eval ⟨d,.lookup 153 m x false,ty,pos,aft,g⟩).run aA w=.ok (.value (.bool r)) w:=by
 obtain ⟨U,h1,h2⟩:=h
 have:=Wo (o:=⟨d,.lookup 153 m x false,ty,pos,aft,g⟩) m x rfl 46 4 Q5 A2W aW (A8a w) b _ hm h2 ⟨k,hk⟩ (by rw [hx]; exact A4S ⟨k,hk⟩);rw [this,h1.get,hr]
theorem Tf {ops:Array Oper} {o:Oper} {a:Act} {w:bS} {K':Act->bS->Prop} {Q:Exit->Act->bS->Prop} {E:Prop} (hgd:o.guard=none) (m x v:Operand) (hop:o.op=.mapUpdate 153 m x v) {b:Nat} {S:List Aa} {l:List Res} (hH:Ad w (Fe b S::l)) (hm:a.eval m=.map (some b)) (hf:Few S) {k:Aa} (hk:k.length=16) (hx:a.eval x=.agg (Ae k).toArray) (hv:a.eval v=.bool true) (h:∀w',Hq (Ad w' (Fe b (k::S)::l))->K' (a.put o.dst undef) w'):if Region.wanted o (yielded ops a.tmps)=true then Oper.wp aA o a w K' Q else E:=by
 obtain ⟨U,h1,h2⟩:=Hm.1 hH;have hat:=h2.mapVOf (b:=b) (M:=ksM U) aK;refine Gq hgd m x v hop 46 4 Q5 A2W aW b (ksM U) hm hat (h1.few hat.pw hf) ⟨k,hk⟩ (by rw [hx]; exact A4S ⟨k,hk⟩) λ w' r1 r2 r3=>?_
 rw [hv,A6l] at r1;exact h w' (Ab (Hm.2 ⟨_,h1.put ⟨k,hk⟩,h2.mapVTurn r1 r2⟩))
theorem Om {P:bX} {ops:Array Oper} {o:Oper} {a:Act} {w:bS} {K:Act->bS->Prop} {Q:Exit->Act->bS->Prop} {E:Prop} (hgd:o.guard=none) (s x:Operand) {t e:bT} {size bytes:Nat} {z:bR} (hE:Cp P t e size bytes z) (ho:o.op=.call { callee:=.builtin .append,args:=#[s,x],argTypes:=#[t,t] }) {v:bR} (hv:a.eval s=v) {u:bR} (hu:a.eval x=u) {n:Nat} {cs:List bR} {l:List Res} (hH:Ad w (.ownZ e size v n cs::l)) {m:Nat} {ds:List bR} (hsl:Sl w size u m ds) (hm0:0<m) (h63:n+m<=maxLen) (hbytes:(n+m)*bytes<=140737488355328) (h:∀v' w',Ad w' (.ownZ e size v' (n+m) (cs++ds)::l)->K (a.put o.dst v') w'):if Region.wanted o (yielded ops a.tmps)=true then Oper.wp P o a w K Q else E:=by
 have hw:Region.wanted o (yielded ops a.tmps)=true:=by simp [Region.wanted,hgd]
 rw [if_pos hw];obtain ⟨v',w',hr,h2,h3,h4⟩:=A0s (P:=P) (ty:=o.type) (B:=0) hE (hH.ownZOf (e:=e) (sz:=size) (n:=n) (v:=v) (cs:=cs) (by simp)) hsl hm0 h63 hbytes (aI _);unfold Oper.wp execOp;simp only [ho,resolve,invoke,builtin,Sem.run_bind,Sem.run_pure,Result.andThen_ok,List.map_toArray,List.map_cons,List.map_nil,hv,hu,hr];exact h _ _ (hH.appendZ h2 h3 h4)
def A8h (w:bS) (e:Ending) (w':bS):Prop:=e=.returned (.tuple #[.int .u8 0,.int .i64 0,.bool false])/\Below w.heap.size w w'
theorem A2p (v:bR) (b:Aa) (w:bS) (h:Bs w v b) (hno:Fx b=none):bU aA 56 #[v] w (A8h w):=by
 have HKY:=Ab (Q4 v _ w h);by_cases hl:b.length=16
 . have e1:Hn b=(b,true):=by rw [Hn,if_pos hl]
   rw [e1] at HKY;have HML:=Ab hl;have HBL:Hq ((Ae b).length=16):=Ab (by rw [Ac]; exact hl);obtain ⟨M,hM⟩:∃M,M=b:=⟨_,rfl⟩
   rw [<-hM] at HKY HML HBL hno;obtain ⟨b0,hb0⟩:∃x,x=M.getD 0 0:=⟨_,rfl⟩
   obtain ⟨b1,hb1⟩:∃x,x=M.getD 1 0:=⟨_,rfl⟩
   obtain ⟨b2,hb2⟩:∃x,x=M.getD 2 0:=⟨_,rfl⟩
   obtain ⟨n,hn⟩:∃n,n=C5 (M.drop 8):=⟨_,rfl⟩
   have hnlt:n<18446744073709551616:=by
    have:=I1 (M.drop 8);rw [<-hn,aF,HML.o] at this;simpa using this
   have gc:∀k,k<16->(Ae M)[k]?=some (.int .u8 (M.getD k 0).toNat):=λ k hk=>by
    have hk2:k<M.length:=by rw [HML.o]; exact hk
    simp [Ae,bV,hk2,List.getD]
   have HNO:Hq (¬(M=Bb b2 n/\n<=1099511627776/\(b2=107\/b2=98\/b2=100))):=Ab (by
    intro hc;rw [hb2,hn] at hc;rw [Fx,if_pos hc] at hno
    cases hno)
   have HG0:Hq ((Ae M)[0]?=some (.int .u8 b0.toNat)):=Ab (by rw [hb0]; exact gc 0 (by decide));have HG1:Hq ((Ae M)[1]?=some (.int .u8 b1.toNat)):=Ab (by rw [hb1]; exact gc 1 (by decide));have HG2:Hq ((Ae M)[2]?=some (.int .u8 b2.toNat)):=Ab (by rw [hb2]; exact gc 2 (by decide));have HGN:Hq (Fi (M.drop 8)=(n,true)):=Ab (by
    rw [Fi,if_neg (by rw [aF,HML.o]; decide),hn])
   have HNL:=Ab hnlt;clear e1 h hl hno hM hb0 hb1 hb2 hn gc hnlt;unfold A1 at HKY;go_enter bI,bJ;go_wp2_with fail;refine HKY.o.mono ?_;rintro e w1 ⟨rfl,hb⟩;have HB:=Ab hb;have HC:=Ab (Blk.new w1 Bo 46);clear hb HKY;go_wp2_with ((with_reducible refine zws 5 12 ?_);refine Ag rfl (.tmp 5) (.tmp 12) Aq rfl rfl (vs:=Ae M) rfl HBL.o HC.o (aB _) (Al _) ?_);intro w2 h2 k2;have hb2:Below w.heap.size w w2:=HB.o.trans ((((aD _ _).alloc (aB _) _).trans (k2.below (by omega))).mono HB.o.size);have h2':Blk w2 w1.heap.size (Ae M) 46:=by simpa [Bo] using h2
   have HB:=Ab hb2;have HC:=Ab h2';have c0:w2.cell? ⟨w1.heap.size,0,none⟩=some (.int .u8 b0.toNat):=by rw [h2'.cell 0,HG0.o]
   have c1:w2.cell? ⟨w1.heap.size,1,none⟩=some (.int .u8 b1.toNat):=by rw [h2'.cell 1,HG1.o]
   clear h2 k2 hb2 h2';by_cases h0:(b0.toNat:Int)=255
   . by_cases h1:(b1.toNat:Int)=254
     . have hrow:Bs w2 (.slice (some ⟨w1.heap.size,8,none⟩) 8 8) (M.drop 8):=Sl.bs (HC.o.bs (off:=8) (n:=8) (cap:=8) (by rw [HML.o]; decide) (aB _) (by unfold maxLen; decide)) (by rw [aE (by rw [aF,HML.o]; decide)]) (by rw [aF,HML.o]);have hg:=Mf _ _ w2 hrow;rw [HGN.o] at hg;have HG:=Ab hg;clear hrow hg;go_wp2_with fail;refine HG.o.mono ?_;rintro e w3 ⟨rfl,rfl⟩;have HC2:Hq (w2.cell? ⟨w1.heap.size,2,none⟩=some (.int .u8 b2.toNat)):=Ab (by rw [HC.o.cell 2,HG2.o]);clear HG c0 c1 h0 h1;by_cases hbig:n<=1099511627776
       . have hw:bW.i64.wrap (n:Int)=n:=by rw [bW.wrap_i64]; omega
         have HBG:=Ab hbig;clear hbig;go_wp2_with fail;refine B5 [] (λ b W=>W.cell? ⟨w1.heap.size,2,none⟩=some (.int .u8 b2.toNat)/\Ao W w1.heap.size 0 (Ae M)) (by kernel_rfl) ?_;have HC2:Hq (w2.drew.cell? ⟨w1.heap.size,2,none⟩=some (.int .u8 b2.toNat)):=Ab HC2.o;have HC:Hq (Blk w2.drew w1.heap.size (Ae M) 46):=Ab HC.o;have HB:Hq (Below w.heap.size w w2.drew):=Ab HB.o.drew;have HS:=Ab (aC HC2.o HC.o.cellsAll);refine zT 0 ?_;refine zT 1 ?_ (v:=.bool false) (hr:=λ l W hk hW=>by have:=HBG.o; go_simp; omega);refine zT 2 ?_;refine zT 3 ?_;refine zT 4 ?_;refine zT 5 ?_;refine zT 6 ?_ (v:=.int .i64 n) (hr:=λ l W hk hW=>by go_simp);refine zT 8 ?_ (hr:=λ l W hk hW=>ldJ Aq rfl HBL.o hW.2);refine zJ 7 λ K hK=>?_
         go_simp;refine (J2 b2 n (by have:=HBG.o; omega) _).mono ?_;rintro e w4 ⟨rfl,hb⟩;have HC2:=Ab (Bj hb HC2.o);have HC:=Ab (HC.o.below hb HC.o.lt);have HB:=Ab (HB.o.trans (hb.mono HB.o.size));clear hb;have HS:=Ab (aC HC2.o HC.o.cellsAll);refine zq hK ?_;clear hK K;try go_frame
         by_cases hmk:Bb b2 n=M
         . refine zT 9 ?_ (v:=.bool false) (hr:=λ l W hk hW=>A3L (.tmp 38) (.tmp 39) (k1:=Bb b2 n) (k2:=M) rfl rfl (Ar _ _) HML.o (by rw [hmk]; simp) W);refine zT 10 ?_;refine zT 11 ?_;refine zT 13 ?_;refine zT 14 ?_;refine zJ 12 λ K hK=>?_
           go_simp;have HC2:=Ab (Bj ((aD _ _).alloc (aB _) (.cells #[.int .u8 107,.int .u8 98,.int .u8 100] 5)) HC2.o);have HR:Hq (Bs (w4.alloc (.cells #[.int .u8 107,.int .u8 98,.int .u8 100] 5)) (.slice (some ⟨w4.heap.size,0,none⟩) 3 3) [107,98,100]):=Ab (Sl.lit (cs:=#[.int .u8 107,.int .u8 98,.int .u8 100]) rfl rfl (by simp [bR.oneCell']) (by unfold maxLen; decide));have HC:=Ab (HC.o.alloc (.cells #[.int .u8 107,.int .u8 98,.int .u8 100] 5));have HB:=Ab (HB.o.alloc HB.o.size (.cells #[.int .u8 107,.int .u8 98,.int .u8 100] 5));have HS:=Ab (aC HC2.o HC.o.cellsAll);refine zq hK ?_;clear hK K;try go_frame
           refine zJ 15 λ K hK=>?_
           go_simp;refine (N1 _ _ b2 _ HR.o).mono ?_;rintro e w5 ⟨rfl,rfl⟩;have HX:Hq (decide (b2∈([107,98,100]:Aa))=false):=Ab (by
            rw [decide_eq_false_iff_not];intro hm;exact HNO.o ⟨hmk.symm,HBG.o,by simpa using hm⟩)
           rw [HX.o];refine zq hK ?_;clear hK K;try go_frame
           refine zT 16 ?_;refine zT 17 ?_;refine zD ?_;go_wp2_with fail
           go_ret3;exact ⟨rfl,HB.o⟩
         . refine zT 9 ?_ (v:=.bool true) (hr:=λ l W hk hW=>A3L (.tmp 38) (.tmp 39) (k1:=Bb b2 n) (k2:=M) rfl rfl (Ar _ _) HML.o (by simp [hmk]) W);refine zT 10 ?_;refine zT 11 ?_;refine zS 12 ?_;refine zS 13 ?_;refine zS 14 ?_;refine zS 15 ?_;refine zS 16 ?_;refine zT 17 ?_;refine zD ?_;go_wp2_with fail
           go_ret3;exact ⟨rfl,HB.o⟩
       . have HBG:=Ab hbig;clear hbig;go_wp2_with fail;refine B5 [] (λ b W=>True) (by kernel_rfl) ?_;have HB:Hq (Below w.heap.size w w2.drew):=Ab HB.o.drew;refine zT 0 ?_;refine zT 1 ?_ (v:=.bool true) (hr:=λ l W hk hW=>by have:=HBG.o; go_simp; omega);refine zT 2 ?_;refine zS 3 ?_;refine zS 4 ?_;refine zS 5 ?_;refine zS 6 ?_;refine zS 7 ?_;refine zS 8 ?_;refine zS 9 ?_;refine zT 10 ?_;refine zT 11 ?_;refine zS 12 ?_;refine zS 13 ?_;refine zS 14 ?_;refine zS 15 ?_;refine zS 16 ?_;refine zT 17 ?_;refine zD ?_;go_wp2_with fail
         go_ret3;exact ⟨rfl,HB.o⟩
     . go_wp2_with fail
       go_ret3;exact ⟨rfl,HB.o⟩
   . go_wp2_with fail
     go_ret3;exact ⟨rfl,HB.o⟩
 . have e1:Hn b=(aL 16 0,false):=by rw [Hn,if_neg hl]
   rw [e1] at HKY;have HBL:Hq ((Ae (aL 16 0)).length=16):=Ab (by rw [Ac]; simp);clear e1 h hl hno;unfold A1 at HKY;go_enter bI,bJ;go_wp2_with fail;refine HKY.o.mono ?_;rintro e w1 ⟨rfl,hb⟩;have HB:=Ab hb;have HC:=Ab (Blk.new w1 Bo 46);clear hb HKY;go_wp2_with ((with_reducible refine zws 5 12 ?_);refine Ag rfl (.tmp 5) (.tmp 12) Aq rfl rfl (vs:=Ae (aL 16 0)) rfl HBL.o HC.o (aB _) (Al _) ?_);intro w2 h2 k2;have hb2:Below w.heap.size w w2:=HB.o.trans ((((aD _ _).alloc (aB _) _).trans (k2.below (by omega))).mono HB.o.size);have HB:=Ab hb2;clear h2 k2 hb2 HC;go_wp2_with fail
   go_ret3;exact ⟨rfl,HB.o⟩
end Go.Proofs.YtcnfaghcjlhoiaaGreat
namespace Go.Proofs.YtcnfaghcjlhoiaaGreat
def C3 (b:Aa) (n:Nat):List Aa:=((aS n).filter λ i=>(Fx ((b.drop i).take 16)).isSome).map λ i=>(b.drop i).take 16
theorem Ze (b:Aa):C3 b 0= []:=rfl
theorem Iz {b:Aa} {n:Nat} (h:(Fx ((b.drop n).take 16)).isSome=true):C3 b (n+1)=C3 b n++ [(b.drop n).take 16]:=by
 unfold C3;rw [bK,aM,bL,aN,if_pos h];rfl
theorem F9 {b:Aa} {n:Nat} (h:Fx ((b.drop n).take 16)=none):C3 b (n+1)=C3 b n:=by
 unfold C3;rw [bK,aM,bL,aN,if_neg (by rw [h]; simp)];simp
theorem Pp (x:UInt8) (b:Aa):∀n,C3 (x::b) (n+1)=C3 (x::b) 1++C3 b n
 | 0=>by rw [Ze,List.append_nil]
 | n+1=>by
  have ih:=Pp x b n
  cases h:Fx ((b.drop n).take 16) with
  | none=>rw [F9 (b:=x::b) (n:=n+1) (by rw [aX]; exact h),ih,F9 h]
  | some y=>rw [Iz (b:=x::b) (n:=n+1) (by rw [aX,h]; rfl),ih,Iz (b:=b) (n:=n) (by rw [h]; rfl),aX,List.append_assoc]
theorem Rx:∀ {b:Aa} {n:Nat},b.length<=n->C3 b n=Ju b
 | [],n,_=>by
  induction n with
  | zero=>rfl
  | succ n ih=>rw [F9 (by rw [List.drop_nil,List.take_nil]; rfl),ih (aI _)]
 | x::b,0,h=>by simp at h
 | x::b,n+1,h=>by
  rw [Pp,Rx (b:=b) (n:=n) (by simpa using h),Ju]
  cases hm:Fx ((x::b).take 16) with
  | none=>
   rw [F9 (b:=x::b) (n:=0) (by rw [aJ]; exact hm),if_neg (by simp)];rfl
  | some y=>
   rw [Iz (b:=x::b) (n:=0) (by rw [aJ,hm]; rfl),if_pos (by rfl)];rfl
theorem A1V {b:Aa} {n:Nat} (h:b.length<n+16):Fx ((b.drop n).take 16)=none:=by
 cases hm:Fx ((b.drop n).take 16) with
 | none=>rfl
 | some y=>
  have:=A1U (by rw [hm]; rfl);rw [bM,aF] at this;omega
theorem A1D {b:Aa} {n:Nat} (h:b.length<n+16):C3 b n=Ju b:=by
 have:∀d,C3 b (n+d)=C3 b n:=by
  intro d;induction d with
  | zero=>rfl
  | succ d ih=>rw [<-Nat.add_assoc,F9 (A1V (by omega)),ih]
 rw [<-this b.length,Rx (by omega)]
theorem A1E (b:Aa) (n:Nat):(C3 b n).length<=n:=by
 unfold C3;rw [aV];exact Nat.le_trans (List.length_filter_le _ _) (by rw [bH]; exact aB _)
def Gm (c:UInt8) (ms:List Aa):List Aa:=ms.filter λ m=>decide (m.getD 2 0=c)
theorem Lz {c:UInt8} {ms:List Aa} {m:Aa} (h:m.getD 2 0=c):Gm c (ms++ [m])=Gm c ms++ [m]:=by
 unfold Gm;rw [aM,aN,if_pos (decide_eq_true h)];rfl
theorem Gn {c:UInt8} {ms:List Aa} {m:Aa} (h:¬m.getD 2 0=c):Gm c (ms++ [m])=Gm c ms:=by
 unfold Gm;rw [aM,aN,if_neg (by simpa using h)];simp
theorem A0m {A B:List Aa} {m:Aa} (k:KK):(k.1∈m::(A++B))↔k.1∈(A++ [m])++B:=by
 simp only [aU,List.mem_append,bN,or_false];constructor
 . rintro (h | h | h)
   . exact .inl (.inr h)
   . exact .inl (.inl h)
   . exact .inr h
 . rintro ((h | h) | h)
   . exact .inr (.inl h)
   . exact .inl h
   . exact .inr (.inr h)
end Go.Proofs.YtcnfaghcjlhoiaaGreat
namespace Go.Proofs.YtcnfaghcjlhoiaaGreat
open Go.RowKit Go.Maps
theorem A0F (q:Nat) (s:Sy) (l:List Res) (w:bS) (h:Ad w (Dm q s::l)): bU aA 116 #[.pointer (some ⟨q,0,none⟩)] w λ e w'=>e=.returned (.int .i64 s.keys.length)/\w=w':=by
 obtain ⟨⟨kv,bv,sv,m,vs,bs⟩,hok,h⟩:=Cc.1 h;simp only at h;obtain ⟨a0,c0,rfl,hc0,hm0⟩:=h.tail.slf;have c:=h.blk0.cell 0;simp only [aO] at c;clear h hok;go_enter Tryz.func116,Tryz.ntmps116;go_wp2_with fail;go_ret;exact ⟨rfl,rfl⟩
theorem A2q (q n:Nat) (hn:n<=1099511627776) (w:bS): bU aA 117 #[.pointer (some ⟨q,0,none⟩),.int .i64 n] w λ e w'=>e=.returned (A1 (Bb 107 n))/\Below w.heap.size w w':=by
 have HM:=Ab (J2 107 n (by omega) (w.alloc (.cells Bo.toArray 46)));have HC:=Ab (Blk.new w Bo 46);have HKL:Hq ((Ae (Bb 107 n)).length=16):=Ab (by rw [Ac,Ar]);go_enter Tryz.func117,Tryz.ntmps117;go_wp2_with fail;refine HM.o.mono ?_;rintro e w1 ⟨rfl,hb⟩;have HB:Hq (Below w.heap.size w w1):=Ab (((aD _ _).alloc (aB _) _).trans (hb.mono (by simp)));have HC:=Ab (HC.o.below hb (by simp));unfold A1;clear hb HM;go_wp2_with ((with_reducible refine zws 4 6 ?_);refine Ag rfl (.tmp 4) (.tmp 6) Aq rfl rfl (vs:=Ae (Bb 107 n)) rfl HKL.o HC.o (aB _) (Al _) ?_);intro w2 h2 k2;have h2':Blk w2 w.heap.size (Ae (Bb 107 n)) 46:=by simpa [Bo] using h2
 have HB:=Ab (HB.o.trans (k2.below (by omega)));have HC:=Ab h2';clear h2 k2 h2';go_wp2_with fail;exact bodyPost_ret (Az rfl Aq rfl (cs:=Ae (Bb 107 n)) HKL.o HC.o.cellsAll) rfl ⟨rfl,HB.o⟩
def A8b:List bR:= [.int .u8 0,.int .u8 0,.int .u8 0,.int .u8 0,.int .u8 0,.int .u8 0,.int .u8 0,.int .u8 0,.int .u8 0,.int .u8 0,.int .u8 0,.int .u8 0,.int .u8 0,.int .u8 0,.int .u8 0,.int .u8 0,.string ⟨#[]⟩,.bool false]
theorem A0D (q:Nat) (s:Sy) (j:Nat) (f:Fk) (l:List Res) (w:bS) (h:Ad w (Dm q s::l)) (hj:s.keys[j]?=some f) (hn:s.keys.length<1099511627776): bU aA 118 #[.pointer (some ⟨q,0,none⟩),A1 (Bb 107 (j+1))] w λ e w'=>e=.returned (.tuple #[.agg f.cells.toArray,.bool true])/\Ad w' (Dm q s::l):=by
 obtain ⟨⟨kv,bv,sv,m,vs,bs⟩,hok,h⟩:=Cc.1 h;simp only at h hok;have HOK:=Ab hok;obtain ⟨a0,c0,rfl,hc0,hm0⟩:=h.tail.slf;have hjl:=(List.getElem?_eq_some_iff.1 hj).1;have HJ:=Ab hj;have HFL:=Ab f.cells_length;have HFO:=Ab f.cells_one;have HF:Hq (∀x∈s.keys,(Fk.cells x).length=18):=Ab (λ x _=>x.cells_length);obtain ⟨b0,o0,rfl,_⟩:=Kv Fk.cells s.keys HF.o (h.tail.head.elim λ _ hF=>hF.1.sl) hj (by decide);have hmb:(Ae (Bb 107 (j+1))).length=16:=by rw [Ac,Ar]
 have HC:=Ab ((h.addBlkAt (Ae (Bb 107 (j+1))) 46 (b:=w.heap.size) rfl).addBlkAt A8b 261 (b:=w.heap.size+1) (by simp));have HMK:=Ab (Jb (.slice (some ⟨w.heap.size,0,none⟩) 16 16) 107 (j+1) _ (by
  have:=HC.o.swap.blk0.bs (off:=0) (n:=16) (cap:=16) (by rw [Ar]; decide) (aB _) (by unfold maxLen; decide);exact Sl.bs this (by rw [aJ,aE (by rw [Ar]; decide)]) (Ar _ _)) (by omega) (by decide))
 have hj0:(0:Int)<=(j:Int):=by omega
 have hj1:(j:Int)< (s.keys.length:Int):=by omega
 unfold maxLen at hm0;unfold A1;clear h hok hj;go_enter Tryz.func118,Tryz.ntmps118;go_wp2_with fail;refine HMK.o.mono ?_;rintro e w1 ⟨rfl,hb⟩;have HC:=Ab (HC.o.step hb);have c1:=(HC.o.zB q).cell 0;simp only [aO] at c1;clear hb HMK;have h107:((107:UInt8).toNat:Int)=107:=by decide
 have hw:bW.i64.wrap ((j:Int)+1-1)=j:=by rw [bW.wrap_i64]; omega
 have hd1:decide ((j:Int)+1<1)=false:=by simp; omega
 have hd2:decide ((s.keys.length:Int)< (j:Int)+1)=false:=by simp; omega
 have hcx:Ao w1 b0 (o0+j*18) (Fk.cells f):=by
  obtain ⟨b1,o1,e,hc⟩:=Kv Fk.cells s.keys HF.o (HC.o.pull4.head.elim λ _ hF=>hF.1.sl) HJ.o (by decide);simp only [Option.some.injEq,Addr.mk.injEq,and_true] at e;rw [e.1,e.2];exact hc
 have HCX:=Ab hcx;clear hcx;go_wp2_with (first | ((with_reducible refine zw 42 ?_); refine Aj rfl (.tmp 41) Hu rfl rfl (cs:=Fk.cells f) HFL.o HCX.o ?_) | ((with_reducible refine zws 4 42 ?_); refine Ag rfl (.tmp 4) (.tmp 42) Hu rfl rfl (vs:=Fk.cells f) rfl HFL.o HC.o.blk0 (aB _) HFO.o ?_));intro w2 h2 k2;have HC:=Ab (HC.o.stW (vs:=Fk.cells f) h2 k2 rfl);clear h2 k2 c1;go_wp2_with fail;refine bodyPost_ret (Ap rfl Hu rfl (cs:=Fk.cells f) HFL.o HC.o.blk0.cellsAll) rfl ⟨rfl,?_⟩;exact Cc.2 ⟨⟨.slice (some ⟨b0,o0,none⟩) s.keys.length c0,bv,sv,m,vs,bs⟩,HOK.o,HC.o.tail.tail⟩
theorem A7b:Cp aA 167 46 16 16 (.agg (aL 16 (bR.int .u8 0)).toArray):=by
 refine Cp.mk Tryz.underlying167 (by kernel_rfl) rfl (by decide)
def kyC (ks:List Aa):List bR:=(ks.map Ae).flatten
theorem A4T (ks:List Aa) (k:Aa):kyC (ks++ [k])=kyC ks++Ae k:=by simp [kyC]
theorem A0E (v:bR) (b:Aa) (l:List Res) (w:bS) (h:Ad w l) (hv:∀W,Ad W l->Bs W v b) (hb:b.length<=1000000): bU aA 55 #[v] w λ e w'=>∃x,e=.returned x/\Ad w' (.own 46 16 x (Ju b).length (kyC (Ju b))::l):=by
 obtain ⟨va,vc,rfl,hvc,hvm⟩:=(hv w h).form;have HV:=Ab hv;have HC:=Ab (h.addNil 46 16);unfold maxLen at hvm;clear h hv;go_enter Tryz.func55,Tryz.ntmps55;go_wp2_with fail;go_loopw [3,4] (λ x i wr=>∃(k:Nat),k<=b.length+1/\i=.int .i64 k/\Ad wr (.own 46 16 x (C3 b k).length (kyC (C3 b k))::l)) (λ _ i _=>b.length+2- (intOf i).toNat)
 case atStart=>exact ⟨0,aI _,rfl,HC.o⟩
 case round=>
  obtain ⟨k,hk,rfl,hr⟩:=hrel;obtain ⟨xa,xc,rfl,_,_⟩:=hr.slf;have HR:=Ab hr;clear hr HC;by_cases hlt:k+16<=b.length
  . have hlt1:(k:Int)+16<=(b.length:Int):=by omega
    obtain ⟨A,hA⟩:∃A,A=Kf va vc k:=⟨_,rfl⟩
    obtain ⟨C,hC⟩:∃C,C=vc-k:=⟨_,rfl⟩
    have hcut:∀W,(Instr.sliceAt 27 (.slice va b.length vc) (some (.int .i64 (k:Int))) (some (.int .i64 ((k:Int)+16))) none).run aA W=.ok (.slice A 16 C) W:=λ W=>by
     have:=S6 va b.length vc k (k+16) (by omega) (by omega) W;rw [bO,<-hA,<-hC] at this;exact this
    obtain ⟨M,hM⟩:∃M,M=(b.drop k).take 16:=⟨_,rfl⟩
    have HCUT:Hq (∀W,Ad W l->Bs W (.slice A 16 C) M):=Ab (λ W hW=>by
     have:=(HV.o W hW).cut k (k+16) (by omega) hlt;rw [bO,<-hA,<-hC,<-hM] at this;exact this)
    have HML:Hq (M.length=16):=Ab (by rw [hM,bM,aF]; omega);have HM:=Ab hM;have hmk:=hM;clear hA hC hM
    cases hmr:Fx M with
    | none=>
     have HF:Hq (C3 b (k+1)=C3 b k):=Ab (F9 (by rw [<-HM.o]; exact hmr));have HMK:=Ab (A2p _ M wr (HCUT.o wr HR.o.tail) hmr);unfold A8h at HMK;clear hmr hmk;go_wp2_with fail;refine HMK.o.mono ?_;rintro e w1 ⟨rfl,hb⟩;have HR:=Ab (HR.o.step hb);clear hb HMK;go_wp2_with fail;go_roundw
     case rel=>exact ⟨k+1,by omega,by go_num,by rw [HF.o]; exact HR.o⟩
     case measure=>simp [intOf]; omega
    | some y=>
     obtain ⟨kd,n⟩:=y;obtain ⟨e1,e2,e3⟩:=Ng.1 hmr;have HF:Hq (C3 b (k+1)=C3 b k++ [M]):=Ab (by rw [Iz (by rw [<-HM.o,hmr]; rfl),<-HM.o]);have HMK:=Ab (Jb _ kd n wr (by rw [<-e1]; exact HCUT.o wr HR.o.tail) e2 e3);have HKY:Hq (∀W,Ad W l->bU aA 119 #[.slice A 16 C] W λ e w'=>e=.returned (.tuple #[.agg (Ae M).toArray,.bool true])/\Below W.heap.size W w'):=Ab (λ W hW=>by
      have:=Q4 _ _ W (HCUT.o W hW);rw [Hn,if_pos HML.o] at this;exact this)
     have HBL:Hq ((Ae M).length=16):=Ab (by rw [Ac]; exact HML.o);have HN:Hq ((C3 b k).length<=1000001):=Ab (by have:=A1E b k; omega);obtain ⟨N,hN⟩:∃N,N=(C3 b k).length:=⟨_,rfl⟩
     obtain ⟨CS,hCS⟩:∃CS,CS=kyC (C3 b k):=⟨_,rfl⟩
     rw [<-hN] at HR HN ⊢;rw [<-hCS] at HR;have HNN:=Ab hN;have HCS:=Ab hCS;unfold MkR at HMK;clear hmr hmk e1 e2 e3 hN hCS;go_wp2_with fail;refine HMK.o.mono ?_;rintro e w1 ⟨rfl,hb⟩;have HR:=Ab (HR.o.step hb);clear hb HMK;go_wp2_with fail;refine (HKY.o w1 HR.o.tail).mono ?_;rintro e w2 ⟨rfl,hb⟩;have HR:=Ab ((HR.o.step hb).addBlk Bo 46);clear hb HKY;go_wp2_with ((with_reducible refine zws 8 35 ?_); refine Ag rfl (.tmp 8) (.tmp 35) Aq rfl rfl (vs:=Ae M) rfl HBL.o HR.o.blk0 (aB _) (Al _) ?_);intro w3 h3 k3;have HR:=Ab (HR.o.stW (vs:=Ae M) h3 k3 rfl);clear h3 k3;have HR2:=Ab (HR.o.addBlk (Ae M) 46);have hown:=HR2.o.tail.tail.head.elim λ _ hF=>(aC hF.1 hF.2.1)
     have HOW:=Ab hown;clear hown;go_wp2_with (first | ((with_reducible refine zw 38 ?_); refine Aj rfl (.tmp 8) Aq rfl rfl (cs:=Ae M) HBL.o HR.o.blk0.cellsAll ?_) | ((with_reducible refine zw 39 ?_); refine Ns rfl (.tmp 38) A7b rfl rfl (by have:=HBL.o; simpa using this) (by decide) ?_) | ((with_reducible refine zw 40 ?_); refine Dr rfl (.tmp 37) (.tmp 39) A7b rfl 0 HOW.o.1 HOW.o.2 (HR2.o.blk0.slS HBL.o (Al _)) (by have:=HN.o; unfold maxLen; omega) (by have:=HN.o; omega) (aI _) ?_));intro v4 w4 ho hk4 hv4;obtain ⟨a4,c4,rfl,_,_⟩:=ho.sl.form;have HR4:=Ab ((HR2.o.zP [2]).append ho (by simpa using hk4) (by simpa using hv4));clear ho hk4 hv4;go_wp2_with fail;go_roundw
     case rel=>
      refine ⟨k+1,by omega,by go_num,?_⟩;have h5:=HR4.o.drop2.drop2;rw [HF.o,List.length_append,<-HNN.o,A4T,<-HCS.o];exact h5
     case measure=>simp [intOf]; omega
  . have hlt1:¬(k:Int)+16<=(b.length:Int):=by omega
    have HF:Hq (C3 b k=Ju b):=Ab (A1D (by omega));go_wp2_with fail;go_ret;have h5:=HR.o;rw [HF.o] at h5;exact ⟨_,by rw [HF.o]; rfl,h5⟩
theorem Ve {c:UInt8} {ms:List Aa} (h:∀m∈ms,∃kd n,m=Bb kd n/\n<=1099511627776/\(kd=107\/kd=98\/kd=100)) {m:Aa} (hm:m∈Gm c ms):V2 c m:=by
 obtain ⟨h1,h2⟩:=List.mem_filter.1 hm;obtain ⟨kd,n,rfl,hn,_⟩:=h m h1;exact ⟨n,hn,by rw [show kd=c from of_decide_eq_true h2]⟩
theorem A2Q {c:UInt8} {A B:List Aa} (h1:∀k∈A,V2 c k) (h2:∀k∈B,V2 c k):Few (A++B):=A7A (c:=c) λ k hk=>(List.mem_append.1 hk).elim (h1 k) (h2 k)
theorem A1R (p q kb bb ob:Nat) (M:Mi) (Y:List Aa->Res) (v:bR) (b:Aa) (l:List Res) (w:bS) (h:Ad w (P0 p q kb bb ob M::Y M.boxes::l)) (hv:∀W,Ad W l->Bs W v b) (hY:Ij b= []\/Y=Fe bb) (hok:M.Ok) (hal:M.all.length<=1000000) (hbl:b.length<=1000000): bU aA 115 #[.pointer (some ⟨p,0,none⟩),v] w λ e w'=>e=.returned (.tuple #[])/\Ad w' (P0 p q kb bb ob (M.take b)::Y (M.take b).boxes::l):=by
 obtain ⟨sa,sc,vs,h⟩:=Kn h;obtain ⟨n,hn⟩:∃n,n=M.all.length:=⟨_,rfl⟩
 rw [<-hn] at h;have HN:=Ab hn;have HB1:Hq (n+1<=maxLen):=Ab (by unfold maxLen; omega);have HB2:Hq ((n+1)*24<=140737488355328):=Ab (by omega);obtain ⟨ba,bc,rfl,_,_⟩:=(hv w h.tail.tail.tail.tail.tail.tail).form;have HV:=Ab hv;have HBL:=Ab hbl;have HOK:=Ab hok;have HY:=Ab hY;have HC:=Ab h;clear h hv hbl hn hal hok hY;go_enter Tryz.func115,Tryz.ntmps115;go_upto_region 0 with fail;refine B5 [11] (λ b W=>b= [false]->W.cell? ⟨p,4,none⟩=some (.slice sa n sc)) (by kernel_rfl) ?_;have HC:=Ab HC.o.drew;refine zT 0 ?_;refine zT 1 ?_;refine zT 2 ?_;refine zT 3 ?_;refine zTk 4 [11] ?_ (hr:=λ _ _ hk hW=>by have c:=hW (Iy hk); go_simp; try rfl);refine zT 5 ?_;refine zJ 6 λ K hK=>?_
 go_simp;refine (G5 _ b _ (HV.o _ HC.o.tail.tail.tail.tail.tail.tail) (by have:=HBL.o; omega)).mono ?_;rintro e w1 ⟨x,rfl,ho,_,hb⟩;obtain ⟨xa,xc,rfl,_,_⟩:=ho.sl.form;have HC:=Ab (HC.o.freshRow hb ho);clear ho hb;refine zq hK ?_;clear hK K;refine zJ 7 λ K hK=>?_
 refine zN (λ b=>.slice (some ⟨b,0,none⟩) 1 1) [.slice xa b.length xc] 27 HC.o ?_;intro b18 w2 HC;refine zq hK ?_;clear hK K;refine zJ 8 λ K hK=>?_
 refine Om rfl (.tmp 13) (.tmp 16) Gi rfl rfl rfl (HC.o.zP [5]) (HC.o.blk0.slS rfl (by intro u hu; simp only [aU,bN,or_false] at hu; rcases hu with rfl <;> rfl)) (by decide) HB1.o HB2.o ?_;intro v3 w3 hc;obtain ⟨qg,qo,qn,rfl,_⟩:=(hc.ownZOf (e:=27) (sz:=1) (v:=v3) (n:=n+1) (cs:=vs++ [.slice xa b.length xc]) (by simp)).form (by omega);have HC:=Ab hc;clear hc;refine zq hK ?_;clear hK K;refine zT 9 ?_;refine zT 10 ?_;refine zJ 11 λ K hK=>?_
 refine zS1 (cs:=I6 q kb bb ob (.slice (some ⟨qg,qo,none⟩) (n+1) qn)) (HC.o.zP [3]) ?_ (hf:=by simp [I6]) (hc:=rfl);intro w4 HC;refine zq hK ?_;clear hK K;refine zD ?_;have HC:=Ab ((Dt (HC.o.zP [2,5,2,0,1,2,1]).tail).zP [1,1,1,1,1]);obtain ⟨AV,hAV⟩:∃AV,AV=bR.slice (some ⟨qg,qo,none⟩) (n+1) qn:=⟨_,rfl⟩
 rw [<-hAV] at HC;obtain ⟨VS,hVS⟩:∃VS,VS=vs++ [bR.slice xa b.length xc]:=⟨_,rfl⟩
 rw [<-hVS] at HC;have HC:Hq (Ad w4 (.blk p (I6 q kb bb ob AV) 155::Fe kb M.keys::Y M.boxes::Fe ob M.opens::.ownZ 27 1 AV (n+1) VS::Bw VS (M.all++ [b])::l)):=HC;have HFI:=Ab (A0E (.slice ba b.length bc) b _ w4 HC.o (λ W hW=>HV.o W hW.tail.tail.tail.tail.tail.tail) HBL.o);obtain ⟨FSq,hFS⟩:∃FSq,FSq=Ju b:=⟨_,rfl⟩
 rw [<-hFS] at HFI;have HMK:Hq (∀m∈FSq,∃kd n,m=Bb kd n/\n<=1099511627776/\(kd=107\/kd=98\/kd=100)):=Ab (λ m hm=>Jv (by rw [<-hFS]; exact hm));have HFK:Hq (Gm 107 FSq=G8 b/\Gm 98 FSq=Ij b):=Ab (by rw [hFS]; exact ⟨rfl,rfl⟩);clear hFS hAV hVS HC;go_wp2_with fail;refine HFI.o.mono ?_;rintro e w5 ⟨x,rfl,hc⟩;obtain ⟨fa,fc,rfl,hfc,hfm⟩:=hc.slf;obtain ⟨N,hNF⟩:∃N,N=FSq.length:=⟨_,rfl⟩
 rw [<-hNF] at hc hfc;rw [<-hNF];have HNF:=Ab hNF;have HC:=Ab hc;unfold maxLen at hfm;clear hc HFI hNF;go_wp2_with fail;go_loopw [23] (λ i wr=>∃(k:Nat),k<=N/\i=.int .i64 k/\Ad wr (.own 46 16 (.slice fa N fc) N (kyC FSq)::.blk p (I6 q kb bb ob AV) 155::Fe kb (Gm 107 (FSq.take k)++M.keys)::Y (Gm 98 (FSq.take k)++M.boxes)::Fe ob M.opens::.ownZ 27 1 AV (n+1) VS::Bw VS (M.all++ [b])::l)) (λ i _=>N- (intOf i).toNat)
 case atStart=>exact ⟨0,aI _,rfl,HC.o⟩
 case round=>
  obtain ⟨k,hk,rfl,hr⟩:=hrel;have HC:=Ab hr;clear hr;by_cases hlt:k<N
  . obtain ⟨m,hm⟩:∃m,FSq[k]?=some m:=⟨_,aT (by rw [<-HNF.o]; exact hlt)⟩
    have hmem:=aY hm;obtain ⟨kd,mn,hme,hmn,hkd⟩:=HMK.o m hmem;have HM16:Hq (m.length=16):=Ab (by rw [hme]; exact Ar _ _);have HM2:Hq (m.getD 2 0=kd):=Ab (by rw [hme]; rfl);have HTK:Hq (FSq.take (k+1)=FSq.take k++ [m]):=Ab (by rw [List.take_add_one,hm]; rfl);have HFEWK:Hq (Few (Gm 107 (FSq.take k)++M.keys)):=Ab (A2Q (c:=107) (λ x hx=>Ve (λ y hy=>HMK.o y (bP hy)) hx) HOK.o.keys);have HFEWB:Hq (Few (Gm 98 (FSq.take k)++M.boxes)):=Ab (A2Q (c:=98) (λ x hx=>Ve (λ y hy=>HMK.o y (bP hy)) hx) HOK.o.boxes);have HMEM:=Ab hmem;have HBM:Hq ((Ae m).length=16):=Ab (by rw [Ac]; exact HM16.o);obtain ⟨fb,fo,hfe,hcx⟩:=Kv Ae FSq (λ x hx=>by obtain ⟨_,_,e,_⟩:=HMK.o x hx; rw [Ac,e]; exact Ar _ _) (HC.o.head.elim λ _ hF=>hF.1.sl) hm (by decide);subst hfe;have HCX:=Ab hcx;have hk0:(k:Int)<N:=by omega
    have HME:=Ab hme;have HKD:=Ab hkd;have HMN:=Ab hmn;have HC:=Ab (HC.o.addBlk Bo 46);clear hm hmem hcx hme hkd hmn;go_wp2_with (first | ((with_reducible refine zw 26 ?_); refine Aj rfl (.tmp 25) Aq rfl rfl (cs:=Ae m) HBM.o HCX.o ?_) | ((with_reducible refine zws 5 26 ?_); refine Ag rfl (.tmp 5) (.tmp 26) Aq rfl rfl (vs:=Ae m) rfl HBM.o HC.o.blk0 (aB _) (Al _) ?_));intro w6 h6 k6;have HC:=Ab (HC.o.stW (vs:=Ae m) h6 k6 rfl);have HMKC:=Ab (Jb (.slice (some ⟨wr.heap.size,0,none⟩) 16 16) kd mn w6 (by
     have:=HC.o.blk0.bs (off:=0) (n:=16) (cap:=16) (by rw [HM16.o]; decide) (aB _) (by unfold maxLen; decide);rw [<-HME.o];exact Sl.bs this (by rw [aJ,aE (by rw [HM16.o]; decide)]) HM16.o) HMN.o HKD.o)
    obtain ⟨B,hB⟩:∃B,B=wr.heap.size:=⟨_,rfl⟩
    rw [<-hB] at HC HMKC;rw [<-hB];clear h6 k6 hB;go_wp2_with fail;refine HMKC.o.mono ?_;rintro e w7 ⟨rfl,hb⟩;have HC:=Ab (HC.o.step hb);clear hb HMKC;rcases HKD.o with rfl | rfl | rfl
    . have h107:((107:UInt8).toNat:Int)=107:=by decide
      go_upto_region 7 with fail;refine B5 [] (λ b W=>W.cell? ⟨p,1,none⟩=some (.map (some kb))/\Ao W B 0 (Ae m)) (by kernel_rfl) ?_;have HC:=Ab HC.o.drew;refine zT 0 ?_;refine zT 1 ?_;refine zT 2 ?_;refine zT 3 ?_;refine zT 4 ?_ (hr:=λ _ _ _ hW=>ldJ Aq rfl HBM.o hW.2);refine zJ 5 λ K hK=>?_
      refine Tf rfl _ _ _ rfl (HC.o.zP [3]) rfl HFEWK.o HM16.o rfl rfl ?_;intro w8 HC;refine zq hK ?_;clear hK K;refine zD ?_;go_wp2_with fail;go_roundw
      case rel=>
       refine ⟨k+1,by omega,by go_num,?_⟩;rw [HTK.o,Lz (c:=107) HM2.o,Gn (c:=98) (by rw [HM2.o]; decide)];exact ((S7 HC.o A0m).zP [1]).tail.zP [1,1]
      case measure=>simp [intOf]; omega
    . have h98:((98:UInt8).toNat:Int)=98:=by decide
      rcases HY.o with hb0 | rfl
      . exfalso
        have:m∈Gm 98 FSq:=List.mem_filter.2 ⟨HMEM.o,decide_eq_true HM2.o⟩;rw [HFK.o.2,hb0] at this
        cases this
      go_upto_region 9 with fail;refine B5 [] (λ b W=>W.cell? ⟨p,2,none⟩=some (.map (some bb))/\Ao W B 0 (Ae m)) (by kernel_rfl) ?_;have HC:=Ab HC.o.drew;refine zT 0 ?_;refine zT 1 ?_;refine zT 2 ?_;refine zT 3 ?_;refine zT 4 ?_ (hr:=λ _ _ _ hW=>ldJ Aq rfl HBM.o hW.2);refine zJ 5 λ K hK=>?_
      refine Tf rfl _ _ _ rfl (HC.o.zP [4]) rfl HFEWB.o HM16.o rfl rfl ?_;intro w8 HC;refine zq hK ?_;clear hK K;refine zD ?_;go_wp2_with fail;go_roundw
      case rel=>
       refine ⟨k+1,by omega,by go_num,?_⟩;rw [HTK.o,Lz (c:=98) HM2.o,Gn (c:=107) (by rw [HM2.o]; decide)];exact ((S7 HC.o A0m).zP [1]).tail.zP [1,1,1]
      case measure=>simp [intOf]; omega
    . have h100:((100:UInt8).toNat:Int)=100:=by decide
      go_wp2_with fail;go_roundw
      case rel=>
       refine ⟨k+1,by omega,by go_num,?_⟩;rw [HTK.o,Gn (c:=98) (by rw [HM2.o]; decide),Gn (c:=107) (by rw [HM2.o]; decide)];exact HC.o.tail
      case measure=>simp [intOf]; omega
  . obtain rfl:k=N:=by omega
    go_wp2_with fail;go_end0;have h9:=HC.o.tail;rw [aE (by rw [<-HNF.o]; exact aB _),HFK.o.1,HFK.o.2] at h9;refine ⟨rfl,Nh (M:=M.take b) (av:=AV) (vs:=VS) ?_⟩;rw [show (M.take b).all.length=n+1 by rw [HN.o]; show (M.all++ [b]).length=_; simp];exact h9.zP [0,0,1,1,1]
theorem A6k {U:List (KK×Unit)} {s:KK} {v:bR} (h:(s,v)∈ksM U):Cz U s=true:=by
 obtain ⟨y,hy,e⟩:=List.mem_map.1 h;injection e with e1 e2;exact List.any_eq_true.2 ⟨y,hy,by simp [e1]⟩
structure M0 (T:Sy):Prop where
 nb:T.boxes.length<=100000
 nk:T.keys.length<=100000
 body:∀bx∈T.boxes,bx.body.length<=2000
def InT (T:Sy) (k:Aa):Prop:=∃i bx,T.boxes[i]?=some bx/\k=Bb 98 (i+1)
theorem Ni {W:bS} {p q kb bb ob:Nat} {M:Mi} {l:List Res} {av:bR} {vs:List bR} (h:Ad W (.blk p (I6 q kb bb ob av) 155::Fe kb M.keys::Fe ob M.opens::.ownZ 27 1 av M.all.length vs::Bw vs M.all::Fe bb M.boxes::l)): Ad W (Gb p q kb bb ob M::l):=Ic.2 (Nh h)
theorem A5j (f:Fk):(f.cells.drop 0).take 16=Ae f.of_:=by
 have:=f.hof;rw [aJ,Fk.cells,bQ (by rw [Ac]; omega),aE (by rw [Ac]; omega)]
theorem Z4 (p q kb bb ob:Nat) (M:Mi) (T:Sy) (l:List Res) (w:bS) (h:Ad w (Gb p q kb bb ob M::Dm q T::l)) (hT:M0 T) (hk:M.keys= []) (ho:M.opens= []) (hin:∀k∈M.boxes,InT T k): bU aA 54 #[.pointer (some ⟨p,0,none⟩)] w λ e w'=>e=.returned (.tuple #[])/\Ad w' (Gb p q kb bb ob M::Dm q T::l):=by
 have HT:=Ab hT;have HKS:Hq (∀k,¬k∈M.keys):=Ab (λ k h=>by rw [hk] at h; cases h);have HOS:Hq (∀k,¬k∈M.opens):=Ab (λ k h=>by rw [ho] at h; cases h);have HIN:=Ab hin;have HC:=Ab h;clear h hT hk ho hin;go_enter Tryz.func54,Tryz.ntmps54;go_wp2_with fail
 go_loopg [2] 1 (λ k again wr=>∃(ag:Bool),again=.bool ag/\(if ag=true then 1 else 0)<=k/\Ad wr (Gb p q kb bb ob M::Dm q T::l))
 case atStart=>exact ⟨true,rfl,aB _,HC.o⟩
 case round=>
  obtain ⟨ag,rfl,hlt,hr⟩:=hrel;have HLT:=Ab hlt;have HC:=Ab hr;clear hlt hr
  cases ag with
  | false=>
   go_wp2_with fail;go_end0;exact ⟨rfl,HC.o⟩
  | true=>
   have HLT1:Hq (1<=gk):=Ab (by have:=HLT.o; rw [if_pos rfl] at this; exact this);obtain ⟨U,hU,h2⟩:=Hm.1 (Ic.1 HC.o).swap;have HU:=Ab hU;have HM:=Ab (h2.mapVOf (b:=bb) (M:=ksM U) aK);obtain ⟨sa,sc,vs,h3⟩:=Kn h2.swap;have cb:=h3.blk0.cell 2;have HC2:=Ab h2;simp only [I6,List.getElem?_cons_succ,aO] at cb;clear h2 h3 hU HC;go_wp2_with (at_range; refine Em _ rfl _ 153 rfl 46 4 Q5 A2W aW bb _ rfl HM.o ?_);intro w2 left0 hleft hrg hbel;have HC:=Ab (HC2.o.rngVStart hrg hbel);obtain ⟨r,hr⟩:∃r,r=wr.heap.size:=⟨_,rfl⟩
   rw [<-hr] at HC;rw [<-hr];clear hrg hbel hleft HM HC2 hr cb;go_wp2_with fail;go_loopw [2] (λ a2 wr=>∃(left:Lit->Bool) (cnt:Nat),a2=.bool false/\Ad wr (Qr aA 46 kkL bb r (ksM U) left cnt::P0 p q kb bb ob M::Dm q T::l)) (λ _ wr=>wr.rangeLeft bb r)
   case atStart=>exact ⟨left0,_,rfl,HC.o⟩
   case round=>
    obtain ⟨left,cnt,rfl,hr⟩:=hrel;have HRG:=Ab hr.rngVOf;have HC:=Ab hr;clear hr;go_wp2_with (at_next; refine Fa _ rfl _ rfl 46 Q5 A2W kkV (λ _ _ h=>A7E h) bb r _ left cnt rfl HRG.o ?_ ?_)
    . intro hc0 hl0;have HC:=Ab (Ic.2 (Hm.2 ⟨U,HU.o,HC.o.rngVEnd⟩:Ad wr (Fe bb M.boxes::P0 p q kb bb ob M::Dm q T::l)).swap);clear hc0 hl0 HRG;go_wp2_with fail;go_loopw [2,6] (λ a2 i wr=>∃(n:Nat),a2=.bool false/\i=.int .i64 ((n:Int)+1)/\n<=T.keys.length/\Ad wr (Gb p q kb bb ob M::Dm q T::l)) (λ _ i _=>T.keys.length+2- (intOf i).toNat)
      case atStart=>exact ⟨0,rfl,by simp,aI _,HC.o⟩
      case round=>
       obtain ⟨n,rfl,rfl,hn,hr⟩:=hrel;have HNT:Hq (T.keys.length<=100000):=Ab HT.o.nk;have hnk:=HNT.o;obtain ⟨sa,sc,vs,h3⟩:=Kn (Ic.1 hr);have ct:=h3.blk0.cell 0;simp only [I6,aO] at ct;obtain ⟨NK,hNK⟩:∃NK,NK=T.keys.length:=⟨_,rfl⟩
       have HKE:=Ab (A0F q T _ wr (h3.zP [6]));rw [<-hNK] at HKE hn hnk ⊢;have HNKE:=Ab hNK;clear HC;have HC:=Ab h3;have HR:=Ab hr;clear h3 hr hNK;by_cases hlt:n<NK
       . obtain ⟨f,hf⟩:∃f,T.keys[n]?=some f:=⟨_,aT (by rw [<-HNKE.o]; exact hlt)⟩
         have HF:=Ab hf;have hle:(n:Int)+1<=NK:=by omega
         obtain ⟨K,hK⟩:∃K,K=Bb 107 (n+1):=⟨_,rfl⟩
         have HKD:=Ab hK;have HK16:Hq (K.length=16):=Ab (by rw [hK]; exact Ar _ _);have HKL:Hq ((Ae K).length=16):=Ab (by rw [Ac]; exact HK16.o);have HNTH:Hq (∀W,bU aA 117 #[.pointer (some ⟨q,0,none⟩),.int .i64 ((n:Int)+1)] W λ e w'=>e=.returned (.agg (Ae K).toArray)/\Below W.heap.size W w'):=Ab (λ W=>by rw [hK]; exact A2q q (n+1) (by omega) W);have HCAME:Hq (∀W l,Ad W (Dm q T::l)->bU aA 118 #[.pointer (some ⟨q,0,none⟩),.agg (Ae K).toArray] W λ e w'=>e=.returned (.tuple #[.agg f.cells.toArray,.bool true])/\Ad w' (Dm q T::l)):=Ab (λ W l h=>by rw [hK]; exact A0D q T n f l W h hf (by have:=HNT.o; omega));have HFL:=Ab f.cells_length;have HFO:=Ab f.cells_one;have HOF:=Ab (A5j f);have HO16:=Ab f.hof;have HOL:Hq ((Ae f.of_).length=16):=Ab (by rw [Ac]; exact f.hof);clear hf hK;go_wp2_with fail;refine HKE.o.mono ?_;rintro e w4 ⟨rfl,rfl⟩;clear HKE;go_wp2_with fail;refine (HNTH.o _).mono ?_;rintro e w4 ⟨rfl,hb⟩;have HC:=Ab ((HC.o.step hb).addBlk Bo 46);clear hb HNTH ct HR;go_wp2_with ((with_reducible refine zws 7 71 ?_); refine Ag rfl (.tmp 7) (.tmp 71) Aq rfl rfl (vs:=Ae K) rfl HKL.o HC.o.blk0 (aB _) (Al _) ?_);intro w5 h5 k5;have HC:=Ab (HC.o.stW (vs:=Ae K) h5 k5 rfl);obtain ⟨B7,hB7⟩:∃B,B=w4.heap.size:=⟨_,rfl⟩
         rw [<-hB7] at HC;rw [<-hB7];clear h5 k5 hB7;go_upto_region 15 with fail;go_cut [8,9] from 72 to 81 (λ v8 v9 wx=>∃B8,v8=.pointer (some ⟨B8,0,none⟩)/\v9=.bool true/\Ad wx (.blk B8 f.cells 261::.blk B7 (Ae K) 46::.blk p (I6 q kb bb ob (.slice sa M.all.length sc)) 155::Fe kb M.keys::Fe ob M.opens::.ownZ 27 1 (.slice sa M.all.length sc) M.all.length vs::Bw vs M.all::Fe bb M.boxes::Dm q T::l))
         case first=>
          refine B5 [] (λ b W=>W.cell? ⟨p,0,none⟩=some (.pointer (some ⟨q,0,none⟩))/\Ao W B7 0 (Ae K)) (by kernel_rfl) ?_;have HC:=Ab HC.o.drew;refine zT 0 ?_;refine zT 1 ?_;refine zT 2 ?_;refine zT 3 ?_;refine zT 4 ?_ (hr:=λ _ _ _ hW=>ldJ Aq rfl HKL.o hW.2);refine Ca (rs:= [5,9]) (by decide+kernel) (by simp) ?_;refine zC (λ K' hK=>?_) (zC (λ K' hK=>?_) En)
          . go_simp;refine (HCAME.o _ _ (HC.o.zP [7])).mono ?_;rintro e w6 ⟨rfl,hc⟩;have HC:=Ab hc;clear hc;refine zq hK ?_;clear hK K';refine zT 6 ?_;refine zT 7 ?_;refine zT 8 ?_;refine zJ 9 λ K' hK=>?_
            refine zNp A8b 261 HC.o ?_;intro B8 w7 HC;refine zq hK ?_;clear hK K';refine zJ 10 λ K' hK=>?_
            refine zWo Hu HFO.o HC.o ?_ (hm:=HFL.o);intro w8 HC;refine zq hK ?_;clear hK K';refine zT 11 ?_;refine zD ?_;go_wp2_with fail;go_meet;exact ⟨_,rfl,rfl,HC.o.zP [0,1,1,1,1,1,1,1,0]⟩
          . refine zNp A8b 261 HC.o ?_;intro B8 w7 HC;refine zq hK ?_;clear hK K';refine zJ 5 λ K' hK=>?_
            go_simp;refine (HCAME.o _ _ (HC.o.zP [8])).mono ?_;rintro e w6 ⟨rfl,hc⟩;have HC:=Ab hc;clear hc;refine zq hK ?_;clear hK K';refine zT 6 ?_;refine zT 7 ?_;refine zT 8 ?_;refine zJ 10 λ K' hK=>?_
            refine zWo Hu HFO.o (HC.o.zP [1]) ?_ (hm:=HFL.o);intro w8 HC;refine zq hK ?_;clear hK K';refine zT 11 ?_;refine zD ?_;go_wp2_with fail;go_meet;exact ⟨_,rfl,rfl,HC.o.zP [0,1,1,1,1,1,1,1,0]⟩
         case rest=>
          obtain ⟨B8,rfl,rfl,hc⟩:=hcut;have HC:=Ab hc;clear hc;go_upto_region 16 with fail;refine B5 [] (λ b W=>W.cell? ⟨p,1,none⟩=some (.map (some kb))/\Up W kb M.keys/\Ao W B7 0 (Ae K)/\Ao W B8 0 (Ae f.of_)) (by kernel_rfl) ?_;have HC:=Ab HC.o.drew;have HS:=Ab (aC (HC.o.zc (p:=p) (k:=1) (v:=.map (some kb))) (aC (HC.o.setAt (b:=kb) (S:=M.keys) (by simp)) (aC (HC.o.zca (p:=B7)) (HC.o.zr (p:=B8) (o:=0) (vs:=Ae f.of_) HOF.o))));refine zT 0 ?_;refine zT 1 ?_;refine zT 2 ?_;refine zT 3 ?_;refine zT 4 ?_ (hr:=λ _ _ _ hW=>ldJ Aq rfl HKL.o hW.2.2.1);refine zT 5 ?_ (v:=.bool false) (hr:=λ l W hk hW=>Kh (.tmp 84) (.tmp 85) rfl hW.2.1 HK16.o rfl (decide_eq_false (HKS.o _)));refine zT 6 ?_;refine zT 7 ?_;refine zT 8 ?_;refine zT 9 ?_ (hr:=λ _ _ _ hW=>ldJ Aq rfl HOL.o hW.2.2.2);refine zT 10 ?_ (v:=A1 zk);by_cases hz:f.of_=zk
          . refine zT 11 ?_ (v:=.bool false) (hr:=λ l W hk hW=>A3L (.tmp 90) (.tmp 91) (k1:=f.of_) (k2:=zk) rfl rfl HO16.o Md (by simp [hz]) W);clear hz;refine zT 12 ?_;refine zT 13 ?_;refine zS 14 ?_;refine zS 15 ?_;refine zS 16 ?_;refine zS 17 ?_;refine zS 18 ?_;refine zS 19 ?_;refine zS 20 ?_;refine zT 21 ?_;refine zD ?_;go_wp2_with fail;go_roundw
            case rel=>
             exact ⟨n+1,rfl,by go_num,by omega,Ni HC.o.tail.tail⟩
            case measure=>simp [intOf]; omega
          . refine zT 11 ?_ (v:=.bool true) (hr:=λ l W hk hW=>A3L (.tmp 90) (.tmp 91) (k1:=f.of_) (k2:=zk) rfl rfl HO16.o Md (by simp [hz]) W);clear hz;refine zT 12 ?_;refine zT 13 ?_;refine zT 14 ?_;refine zT 15 ?_;refine zT 16 ?_;refine zT 17 ?_;refine zT 18 ?_;refine zT 19 ?_ (hr:=λ _ _ _ hW=>ldJ Aq rfl HOL.o hW.2.2.2);refine zT 20 ?_ (v:=.bool false) (hr:=λ l W hk hW=>Kh (.tmp 98) (.tmp 100) rfl hW.2.1 HO16.o rfl (decide_eq_false (HKS.o _)));refine zT 21 ?_;refine zD ?_;go_wp2_with fail;go_roundw
            case rel=>
             exact ⟨n+1,rfl,by go_num,by omega,Ni HC.o.tail.tail⟩
            case measure=>simp [intOf]; omega
       . obtain rfl:n=NK:=by omega
         have hle:¬(n:Int)+1<=n:=by omega
         go_wp2_with fail;refine HKE.o.mono ?_;rintro e w4 ⟨rfl,rfl⟩;go_wp2_with fail
         go_roundg 0
         case measure=>have:=HLT1.o; omega
         case rel=>exact ⟨false,rfl,by simp,HR.o⟩
    . intro K hK16 v w3 cnt2 hsv hls hrg hcc hkp hsz hen;have hen2:(Instr.entry (.pointer (some ⟨r,0,none⟩))).run aA w3=.ok (.tuple #[.agg (Ae K).toArray,v]) w3:=hen;obtain ⟨ix,bx,hbi,hbk⟩:=HIN.o K ((HU.o ⟨K,hK16⟩).1 (A6k hsv));have HK16:=Ab hK16;have HKL:Hq ((Ae K).length=16):=Ab (by rw [Ac]; exact hK16);have hb16:bx.by_.length=16:=by
       obtain ⟨y,hok,_⟩:=Cc.1 (HC.o.zP [2]);exact hok.1.bx bx (aY hbi)
      have HBYL:Hq ((Ae bx.by_).length=16):=Ab (by rw [Ac]; exact hb16);have HB16:=Ab hb16;have HBOX:Hq (∀v W l,Ad W (Dm q T::l)->Bs W v K->bU aA 114 #[.pointer (some ⟨q,0,none⟩),v] W λ e w'=>∃BC:List bR,e=.returned (.tuple #[.agg BC.toArray,.bool true])/\BC.length=18/\(∀u∈BC,u.oneCell'=true)/\(BC.drop 0).take 16=Ae bx.by_/\Ad w' (Dm q T::l)):=Ab (λ v W l h hv=>by
       refine (Ti q T ix bx v l W h (by rw [<-hbk]; exact hv) hbi (by have:=HT.o.nb; omega) (by have:=HT.o.body bx (aY hbi); omega)).mono ?_;rintro e w' ⟨x,rfl,hc⟩;obtain ⟨xa,xc,rfl,_,_⟩:=(hc.rowOf (v:=x) (b:=bx.body) (by simp)).form;refine ⟨_,rfl,?_,?_,?_,hc.tail⟩
       . simp [Ac,hb16]
       . intro u hu;rcases List.mem_append.1 hu with h | h
         . exact Al _ u h
         . simp at h; rcases h with rfl | rfl <;> rfl
       . rw [aJ,bQ (by rw [Ac]; omega),aE (by rw [Ac]; omega)])
      have h3:=HC.o.rngVTurn hrg hkp;obtain ⟨sa,sc,vs,h4⟩:=Kn h3.swap;have HCC:Hq (cnt2<cnt):=Ab hcc;have HLE:Hq (wr.rangeLeft bb r=cnt):=Ab HRG.o.left_eq;have HC:=Ab (h4.addBlk Bo 46);clear hen hbi hbk hb16 hrg hkp hsz hsv hls hcc h3 h4 HRG;go_wp2_with ((with_reducible refine zws 3 19 ?_); refine Ag rfl (.tmp 3) (.tmp 19) Aq rfl rfl (vs:=Ae K) rfl HKL.o HC.o.blk0 (aB _) (Al _) ?_);intro w5 h5 k5;have HC:=Ab (HC.o.stW (vs:=Ae K) h5 k5 rfl);obtain ⟨B3,hB3⟩:∃B,B=w3.heap.size:=⟨_,rfl⟩
      rw [<-hB3] at HC;rw [<-hB3];clear h5 k5 hB3 hen2;have HKB:Hq (∀W l,Ad W (.blk B3 (Ae K) 46::l)->Bs W (.slice (some ⟨B3,0,none⟩) 16 16) K):=Ab (λ W l h=>by
       have:=h.blk0.bs (off:=0) (n:=16) (cap:=16) (by rw [HK16.o]; decide) (aB _) (by unfold maxLen; decide);exact Sl.bs this (by rw [aJ,aE (by rw [HK16.o]; decide)]) HK16.o)
      go_upto_region 6 with fail;go_cut [4,5] from 20 to 29 (λ v4 v5 wx=>∃(B4:Nat) (BC:List bR),v4=.pointer (some ⟨B4,0,none⟩)/\v5=.bool true/\(BC.drop 0).take 16=Ae bx.by_/\Ad wx (.blk B4 BC 255::.blk B3 (Ae K) 46::.blk p (I6 q kb bb ob (.slice sa M.all.length sc)) 155::Fe kb M.keys::Fe ob M.opens::.ownZ 27 1 (.slice sa M.all.length sc) M.all.length vs::Bw vs M.all::Qr aA 46 kkL bb r (ksM U) (λ z=>left z&& !z.sameKey (kkL ⟨K,hK16⟩)) cnt2::Dm q T::l))
      case first=>
       refine B5 [] (λ b W=>W.cell? ⟨p,0,none⟩=some (.pointer (some ⟨q,0,none⟩))/\Ao W B3 0 (Ae K)) (by kernel_rfl) ?_;have HC:=Ab HC.o.drew;refine zT 0 ?_;refine zT 1 ?_;refine zT 2 ?_;refine zT 3 ?_;refine zT 4 ?_;refine Ca (rs:= [5,9]) (by decide+kernel) (by simp) ?_;refine zC (λ K' hK=>?_) (zC (λ K' hK=>?_) En)
       . go_simp;refine (HBOX.o _ _ _ (HC.o.zP [7]) (HKB.o _ _ (HC.o.zP [0]))).mono ?_;rintro e w6 ⟨BC,rfl,hxl,hx1,hby,hc⟩;have HXL:=Ab hxl;have HX1:=Ab hx1;have HBY:=Ab hby;have HC:=Ab hc;clear hc hxl hx1 hby;refine zq hK ?_;clear hK K';refine zT 6 ?_;refine zT 7 ?_;refine zT 8 ?_;refine zJ 9 λ K' hK=>?_
         refine zNp A1e 255 HC.o ?_;intro B4 w7 HC;refine zq hK ?_;clear hK K';refine zJ 10 λ K' hK=>?_
         refine zWo F6 HX1.o HC.o ?_ (hm:=HXL.o);intro w8 HC;refine zq hK ?_;clear hK K';refine zT 11 ?_;refine zD ?_;go_wp2_with fail;go_meet;exact ⟨_,_,rfl,rfl,HBY.o,HC.o.zP [0,1,1,1,1,1,1,1,0]⟩
       . refine zNp A1e 255 HC.o ?_;intro B4 w7 HC;refine zq hK ?_;clear hK K';refine zJ 5 λ K' hK=>?_
         go_simp;refine (HBOX.o _ _ _ (HC.o.zP [8]) (HKB.o _ _ (HC.o.zP [1]))).mono ?_;rintro e w6 ⟨BC,rfl,hxl,hx1,hby,hc⟩;have HXL:=Ab hxl;have HX1:=Ab hx1;have HBY:=Ab hby;have HC:=Ab hc;clear hc hxl hx1 hby;refine zq hK ?_;clear hK K';refine zT 6 ?_;refine zT 7 ?_;refine zT 8 ?_;refine zJ 10 λ K' hK=>?_
         refine zWo F6 HX1.o (HC.o.zP [1]) ?_ (hm:=HXL.o);intro w8 HC;refine zq hK ?_;clear hK K';refine zT 11 ?_;refine zD ?_;go_wp2_with fail;go_meet;exact ⟨_,_,rfl,rfl,HBY.o,HC.o.zP [0,1,1,1,1,1,1,1,0]⟩
      case rest=>
       obtain ⟨B4,BC,rfl,rfl,hby,hc⟩:=hcut;have HBY:=Ab hby;have HC:=Ab hc;clear hc hby HBOX;go_upto_region 7 with fail;refine B5 [] (λ b W=>W.cell? ⟨p,3,none⟩=some (.map (some ob))/\W.cell? ⟨p,1,none⟩=some (.map (some kb))/\Up W ob M.opens/\Up W kb M.keys/\Ao W B3 0 (Ae K)/\Ao W B4 0 (Ae bx.by_)) (by kernel_rfl) ?_;have HC:=Ab HC.o.drew;have HS:=Ab (aC (HC.o.zc (p:=p) (k:=3) (v:=.map (some ob))) (aC (HC.o.zc (p:=p) (k:=1) (v:=.map (some kb))) (aC (HC.o.setAt (b:=ob) (S:=M.opens) (by simp)) (aC (HC.o.setAt (b:=kb) (S:=M.keys) (by simp)) (aC (HC.o.zca (p:=B3)) (HC.o.zr (p:=B4) (o:=0) (vs:=Ae bx.by_) HBY.o))))));refine zT 0 ?_;refine zT 1 ?_;refine zT 2 ?_;refine zT 3 ?_;refine zT 4 ?_;refine zT 5 ?_;refine zT 6 ?_ (hr:=λ _ _ _ hW=>ldJ Aq rfl HKL.o hW.2.2.2.2.1);refine zT 7 ?_ (v:=.bool false) (hr:=λ l W hk hW=>Kh (.tmp 34) (.tmp 35) rfl hW.2.2.1 HK16.o rfl (decide_eq_false (HOS.o _)));refine zT 8 ?_;refine zT 9 ?_;refine zT 10 ?_;refine zT 11 ?_;refine zT 12 ?_;refine zT 13 ?_;refine zT 14 ?_;refine zT 15 ?_;refine zT 16 ?_ (hr:=λ _ _ _ hW=>ldJ Aq rfl HBYL.o hW.2.2.2.2.2);refine zT 17 ?_ (v:=.bool false) (hr:=λ l W hk hW=>Kh (.tmp 43) (.tmp 45) rfl hW.2.2.2.1 HB16.o rfl (decide_eq_false (HKS.o _)));refine zT 18 ?_;refine zD ?_;have HSH:=Ab (Ad.swap (Nh HC.o.tail.tail));go_wp2_with fail;go_roundw
       case rel=>exact ⟨_,cnt2,rfl,HSH.o⟩
       case measure=>
        have h1:=HSH.o.rngVOf.left_eq;have h2:=HLE.o;have h3:=HCC.o;omega
end Go.Proofs.YtcnfaghcjlhoiaaGreat
