/- Texts of this proof, one behind the other: MapV, FrKey, Mark, TabR, Pv, DigIdx, Digest, PvR. -/
import Derived.Test.YtcnfaghcjlhoiaaGreatWeA1
import Derived.Test.YtcnfaghcjlhoiaaGreatWeA2
import Derived.Test.YtcnfaghcjlhoiaaGreatWeA3
import Derived.Test.YtcnfaghcjlhoiaaGreatWeA4
import Derived.Test.YtcnfaghcjlhoiaaGreatWeA5
import Derived.StringKeys
import Derived.Sort.MapsRangeIn
import Derived.DeepKeys4
import Derived.WideKeyEntry
import Derived.WalkSpells
set_option linter.unusedSimpArgs false
set_option linter.unusedVariables false
set_option maxRecDepth 100000
set_option maxHeartbeats 16000000
open Go.Proofs.Tryz renaming prog -> aA, underlying261 -> aF, func58 -> aR, ntmps58 -> aS
open Nat renaming le_refl -> aB, zero_le -> aD
open Go.RowKit.Below renaming refl -> aC
open List renaming take_of_length_le -> aE, find?_cons -> aG, any_eq_true -> aH, replicate -> aI, idxOf_append -> aJ, find?_some -> aK, mem_of_find?_eq_some -> aL, filter_map -> aM, mem_singleton -> aN, map_append -> aO, mapM_cons -> aP, append_inj -> aQ, getElem?_eq_getElem -> aT, idxOf_cons_self -> aU
open Go renaming Value -> aV, World -> aW, TypeId -> aX, Calls -> aY, IntKind -> aZ, Program -> bA, Oper -> bB
namespace Go.Proofs.YtcnfaghcjlhoiaaGreat
open Go.RowKit Go.Maps Go.MapKept Go.WideMaps
section
def Nm (v:aV):Option (DataW aV×List MemPlace):=some (.held v, [])
section
variable {α:Type} {kL:α->Lit}
def Za (kL:α->Lit) (x:α×aV):Lit×DataW aV:=(kL x.1,.held x.2)
def J9 [DecidableEq α] (kL:α->Lit):Prop:=∀a b,(kL a).sameKey (kL b)=decide (a=b)
def Je (kL:α->Lit) (D:DataW aV) (M:List (α×aV)):Prop:=M.Pairwise (λ x y=>x.1≠y.1)/\∃es,D=.map es/\es.Perm (M.map (Za kL))
theorem Je.nil:Je kL (.map []) []:=⟨.nil, [],rfl,.refl _⟩
def Cz [DecidableEq α] {β:Type} (M:List (α×β)) (s:α):Bool:=M.any λ x=>decide (x.1=s)
def K6 [DecidableEq α] {β:Type} (M:List (α×β)) (s:α):List (α×β):=M.filter λ x=>decide (x.1≠s)
def Dh [DecidableEq α] {β:Type} (M:List (α×β)) (s:α) (v:β):List (α×β):=K6 M s++ [(s,v)]
def C4 [DecidableEq α] {β:Type} (M:List (α×β)) (s:α) (z:β):β:=match M.find? λ x=>decide (x.1=s) with | some x=>x.2 | none=>z
theorem Je.has [DecidableEq α] {D:DataW aV} {M:List (α×aV)} (h:Je kL D M) (hk:J9 kL) (s:α):Maps.has D (kL s)=Cz M s:=by
 obtain ⟨_,es,rfl,hp⟩:=h;rw [Maps.has_eq];unfold Cz;rw [Bool.eq_iff_iff,aH,aH];constructor
 . rintro ⟨p,hp1,hp2⟩;obtain ⟨x,hx,rfl⟩:=List.mem_map.1 (hp.mem_iff.1 hp1);exact ⟨x,hx,by rw [<-hp2]; exact (hk _ _).symm⟩
 . rintro ⟨x,hx,h2⟩;exact ⟨Za kL x,hp.mem_iff.2 (List.mem_map.2 ⟨x,hx,rfl⟩),by rw [<-h2]; exact hk _ _⟩
theorem Je.size {D:DataW aV} {M:List (α×aV)} (h:Je kL D M):Maps.size D=M.length:=by
 obtain ⟨_,es,rfl,hp⟩:=h;rw [Maps.size_eq,hp.length_eq,List.length_map]
theorem A4R {β:Type} {M:List (α×β)} (h:M.Pairwise (λ x y=>x.1≠y.1)):∀ {x y:α×β},x∈M->y∈M->x.1=y.1->x=y:=by
 induction M with
 | nil=>intro x y hx; cases hx
 | cons a M ih=>
  obtain ⟨h1,h2⟩:=List.pairwise_cons.1 h;intro x y hx hy he;rcases List.mem_cons.1 hx with e1 | hx2
  . rcases List.mem_cons.1 hy with e2 | hy2
    . rw [e1,e2]
    . exact (h1 y hy2 (by rw [<-e1]; exact he)).elim
  . rcases List.mem_cons.1 hy with e2 | hy2
    . exact (h1 x hx2 (by rw [<-e2]; exact he.symm)).elim
    . exact ih h2 hx2 hy2 he
theorem Je.at_mem [DecidableEq α] {D:DataW aV} {M:List (α×aV)} (h:Je kL D M) (hk:J9 kL) {x:α×aV} (hx:x∈M) (z:DataW aV):D.atKey (kL x.1) z=.held x.2:=by
 obtain ⟨hd,es,rfl,hp⟩:=h;unfold DataW.atKey;simp only
 cases hf:es.find? λ p=>p.1.sameKey (kL x.1) with
 | none=>
  have:=List.find?_eq_none.1 hf (Za kL x) (hp.mem_iff.2 (List.mem_map.2 ⟨x,hx,rfl⟩));rw [show (Za kL x).1=kL x.1 from rfl,hk] at this;simp at this
 | some p=>
  have h1:=aK hf;have h2:=aL hf;obtain ⟨y,hy,rfl⟩:=List.mem_map.1 (hp.mem_iff.1 h2);rw [show (Za kL y).1=kL y.1 from rfl,hk] at h1;rw [A4R hd hx hy (by simpa using (of_decide_eq_true h1).symm)];rfl
theorem Je.at_no [DecidableEq α] {D:DataW aV} {M:List (α×aV)} (h:Je kL D M) (hk:J9 kL) {s:α} (hs:Cz M s=false) (z:DataW aV):D.atKey (kL s) z=z:=by
 have hh:=h.has hk s;obtain ⟨hd,es,rfl,hp⟩:=h;rw [hs,Maps.has_eq] at hh;unfold DataW.atKey;simp only;rw [List.find?_eq_none.2 λ p hp2=>by
  have:=List.any_eq_false.1 hh p hp2;simpa using this]
theorem Gj [DecidableEq α] {β:Type} {M:List (α×β)} {s:α} (h:Cz M s=true) (z:β):(s,C4 M s z)∈M:=by
 unfold Cz at h;unfold C4
 cases hf:M.find? λ x=>decide (x.1=s) with
 | none=>
  obtain ⟨x,hx,hs⟩:=List.any_eq_true.1 h;exact (List.find?_eq_none.1 hf x hx hs).elim
 | some x=>
  have h1:=aK hf;have h2:=aL hf
  have:x.1=s:=by simpa using h1
  subst this;exact h2
theorem I2 [DecidableEq α] {β:Type} {M:List (α×β)} {s:α} (h:Cz M s=false) (z:β):C4 M s z=z:=by
 unfold C4;rw [List.find?_eq_none.2 λ x hx=>by
  have:=List.any_eq_false.1 h x hx;simpa using this]
theorem Je.at [DecidableEq α] {D:DataW aV} {M:List (α×aV)} (h:Je kL D M) (hk:J9 kL) (s:α) (z:aV):D.atKey (kL s) (.held z)=.held (C4 M s z):=by
 cases hs:Cz M s with
 | false=>rw [h.at_no hk hs,I2 hs]
 | true=>exact h.at_mem hk (Gj hs z) _
theorem Zd [DecidableEq α] (hk:J9 kL) (M:List (α×aV)) (s:α):(M.map (Za kL)).filter (λ p=> !p.1.sameKey (kL s))=(K6 M s).map (Za kL):=by
 unfold K6;rw [aM];congr 1;apply List.filter_congr;intro x _;simp only [Function.comp,Za,hk _ _];by_cases h:x.1=s <;> simp [h]
theorem Je.put [DecidableEq α] {D:DataW aV} {M:List (α×aV)} (h:Je kL D M) (hk:J9 kL) (s:α) (v:aV):Je kL (D.put (kL s) (.held v)) (Dh M s v):=by
 obtain ⟨hd,es,rfl,hp⟩:=h;refine ⟨?_,_,rfl,(WideShapes.insert_perm _ _).trans ?_⟩
 . unfold Dh;rw [List.pairwise_append];refine ⟨hd.filter _,by simp,λ x hx y hy=>?_⟩;simp only [aN] at hy;subst hy;simpa using (List.mem_filter.1 hx).2
 . unfold Dh;rw [aO,<-Zd hk];refine .trans ?_ List.perm_append_comm;exact (hp.filter _).cons _
theorem A0l [DecidableEq α] {β:Type} (M:List (α×β)) (s:α) (v:β):(Dh M s v).length<=M.length+1:=by
 unfold Dh K6
 have:=List.length_filter_le (λ x:α×β=>decide (x.1≠s)) M;rw [List.length_append,List.length_singleton];omega
theorem A4a [DecidableEq α] {β γ:Type} (f:β->γ) (M:List (α×β)) (s:α):K6 (M.map λ x=>(x.1,f x.2)) s=(K6 M s).map λ x=>(x.1,f x.2):=by
 unfold K6;rw [aM];rfl
theorem Oh [DecidableEq α] {β γ:Type} (f:β->γ) (M:List (α×β)) (s:α) (v:β):Dh (M.map λ x=>(x.1,f x.2)) s (f v)=(Dh M s v).map λ x=>(x.1,f x.2):=by
 unfold Dh;rw [A4a,aO];rfl
theorem Jz [DecidableEq α] {β γ:Type} (f:β->γ) (M:List (α×β)) (s:α):Cz (M.map λ x=>(x.1,f x.2)) s=Cz M s:=by
 unfold Cz;rw [List.any_map];rfl
theorem R3 [DecidableEq α] {β γ:Type} (f:β->γ) (M:List (α×β)) (s:α) (z:β):C4 (M.map λ x=>(x.1,f x.2)) s (f z)=f (C4 M s z):=by
 cases h:Cz M s with
 | false=>rw [I2 h,I2 (by rw [Jz]; exact h)]
 | true=>
  unfold C4;rw [List.find?_map];have h1:∃x,(M.find? λ x=>decide (x.1=s))=some x:=by
   cases hf:M.find? λ x=>decide (x.1=s) with
   | none=>
    obtain ⟨x,hx,hs⟩:=List.any_eq_true.1 h;exact (List.find?_eq_none.1 hf x hx hs).elim
   | some x=>exact ⟨x,rfl⟩
  obtain ⟨x,hx⟩:=h1
  have:(M.find? ((λ x:α×γ=>decide (x.1=s))∘λ x:α×β=>(x.1,f x.2)))=some x:=hx;rw [this,hx];rfl
theorem R7 [DecidableEq α] {β:Type} (M:List (α×β)) (s t:α) (v:β):Cz (Dh M s v) t=(decide (s=t)||Cz M t):=by
 unfold Dh Cz K6;rw [List.any_append,Bool.eq_iff_iff];simp only [Bool.or_eq_true,aH,List.mem_filter,aN,decide_eq_true_eq];constructor
 . rintro (⟨x,⟨h1,h2⟩,h3⟩ | ⟨x,rfl,h⟩)
   . exact .inr ⟨x,h1,h3⟩
   . exact .inl h
 . rintro (h | ⟨x,h1,h2⟩)
   . exact .inr ⟨_,rfl,h⟩
   . by_cases e:x.1=s
     . exact .inr ⟨_,rfl,e.symm.trans h2⟩
     . exact .inl ⟨x,⟨h1,e⟩,h2⟩
theorem U0 [DecidableEq α] {β:Type} {s t:α} (h:¬s=t):∀M:List (α×β),((K6 M s).find? λ x=>decide (x.1=t))=M.find? λ x=>decide (x.1=t)
 | []=>rfl
 | x::M=>by
  unfold K6;rw [List.filter_cons];have ih:=U0 h M;unfold K6 at ih;by_cases e:x.1=s
  . have e3:decide (x.1=t)=false:=by simp; exact λ e2=>h (e.symm.trans e2)
    rw [if_neg (by simp [e]),ih,aG,e3]
  . simp only [ne_eq,e,not_false_eq_true,decide_true,if_true,aG];rw [ih]
theorem Zl [DecidableEq α] {β:Type} (M:List (α×β)) (s t:α) (v z:β):C4 (Dh M s v) t z=if s=t then v else C4 M t z:=by
 unfold C4 Dh;rw [List.find?_append];by_cases h:s=t
 . subst h
   have:((K6 M s).find? λ x=>decide (x.1=s))=none:=by
    rw [List.find?_eq_none];intro x hx
    have:=(List.mem_filter.1 hx).2;simpa using this
   simp [this,aG]
 . rw [U0 h,if_neg h]
   cases M.find? λ x=>decide (x.1=t) with
   | some x=>rfl
   | none=>simp [aG,h]
theorem Sj [DecidableEq α] {β:Type} {M:List (α×β)} {s:α} {v:β} {x:α×β} (h:x∈Dh M s v):x=(s,v)\/x∈M/\x.1≠s:=by
 rcases List.mem_append.1 h with h | h
 . exact .inr ⟨(List.mem_filter.1 h).1,by simpa using (List.mem_filter.1 h).2⟩
 . exact .inl (List.mem_singleton.1 h)
def Cj (P:bA) (k:aX) (kL:α->Lit) (b:Nat) (M:List (α×aV)):Res where
 holds W F:=(∃D,Je kL D M/\W.ownsMap P k Nm b (Maps.size D) D)/\∀x,F x↔x=b
 frame:=by
  rintro W W' F S ⟨⟨D,h1,h2⟩,hf⟩ hk hs;exact ⟨⟨D,h1,Of h2 hk (hs b ((hf b).2 rfl))⟩,hf⟩
 lt:=by
  rintro W F x ⟨⟨D,_,⟨es,clock,h1,_⟩⟩,hf⟩ hx;rw [(hf x).1 hx];exact Hg h1
theorem Gp {P:bA} {k:aX} {w:aW} {b n:Nat} {D:DataW aV} (h:w.ownsMap P k Nm b n D):w.ownsMap P k Nm b (Maps.size D) D:=by
 obtain ⟨es,clock,h1,h2,h3,rfl⟩:=h;exact ⟨es,clock,h1,h2,by rw [Maps.size_eq,length_read]; exact aB _,rfl⟩
def C7 (P:bA) (k:aX) (kL:α->Lit) (W:aW) (b:Nat) (M:List (α×aV)):Prop:=∃D,Je kL D M/\W.ownsMap P k Nm b (Maps.size D) D
theorem Ad.mapVOf {W:aW} {l:List Res} (h:Ad W l) {P:bA} {k:aX} {b:Nat} {M:List (α×aV)} (hm:Cj P k kL b M∈l):C7 P k kL W b M:=by
 obtain ⟨F,hr⟩:=h.get hm;exact hr.1
theorem C7.keep {P:bA} {k:aX} {W W':aW} {b:Nat} {M:List (α×aV)} {S:Nat->Prop} (h:C7 P k kL W b M) (hk:Ai S W W') (hb:¬S b):C7 P k kL W' b M:=by
 obtain ⟨D,h1,h2⟩:=h;exact ⟨D,h1,Of h2 hk hb⟩
theorem C7.lt {P:bA} {k:aX} {W:aW} {b:Nat} {M:List (α×aV)} (h:C7 P k kL W b M):b<W.heap.size:=by
 obtain ⟨D,_,h2⟩:=h;exact h2.lt
theorem Ad.mapVTurn {W W':aW} {l:List Res} {P:bA} {k:aX} {b:Nat} {M M':List (α×aV)} (h:Ad W (Cj P k kL b M::l)) (ho:C7 P k kL W' b M') (ht:Ai (λ k=>k=b\/W.heap.size<=k) W W'):Ad W' (Cj P k kL b M'::l):=
 h.turn λ F hF=>⟨F,⟨ho,hF.2⟩,λ b hb=>.inl hb,ht.mono λ k hk=>hk.elim (λ e=>.inl ((hF.2 k).2 e)) .inr⟩
theorem Ad.mapVMade {W:aW} {l:List Res} (h:Ad W l) (P:bA) (k:aX) (kL:α->Lit):Ad (W.alloc (.map #[] 0)) (Cj P k kL W.heap.size []::l):=
 h.new ((aC _ _).alloc (aB _) _) (F:=λ x=>x=W.heap.size) ⟨⟨.map [],Je.nil,aW.ownsMap_made W P k Nm⟩,λ _=>Iff.rfl⟩ (λ b hb=>by omega)
section
variable {P:bA} (w:aW) {ops:Array bB} {rest:List bB} {o:bB} {a:Act} {Q:Exit->Act->aW->Prop}
theorem Cu [DecidableEq α] (hgd:Region.wanted o (yielded ops a.tmps)=true) (m x:Operand) (t:aX) (hop:o.op=Op.lookup t m x true) (k e:aX) (K:Keyed P k) (hk:J9 kL) (ht:P.underlying t=some (.map k e)) {z:aV} (hz:(zeroValue e).run P w=.ok z w) (b:Nat) (M:List (α×aV)) (hm:a.eval m=.map (some b)) (hown:C7 P k kL w b M) (s:α) (hkey:keyOf P k (a.eval x)=some (kL s)) (h:wpList P ops Q rest (a.put o.dst (.tuple #[C4 M s z,.bool (Cz M s)])) w):wpList P ops Q (o::rest) a w:=by
 refine Bh hgd λ K' hK'=>?_
 obtain ⟨D,hd,ho⟩:=hown;obtain ⟨v,ps,hrun,hv⟩:=ho.look_ok K ht hz (zd:=.held z) (zp:= []) rfl hkey;rw [hd.at hk] at hv;simp only [Nm,Option.some.injEq,Prod.mk.injEq,DataW.held.injEq] at hv;rw [hv.1,hd.has hk] at hrun;unfold bB.wp;simp [execOp,hop,hm,hrun,Result.andThen];exact hK' _ _ h
theorem Tz [DecidableEq α] (hgd:Region.wanted o (yielded ops a.tmps)=true) (m x:Operand) (t:aX) (hop:o.op=Op.lookup t m x false) (k e:aX) (K:Keyed P k) (hk:J9 kL) (ht:P.underlying t=some (.map k e)) {z:aV} (hz:(zeroValue e).run P w=.ok z w) (b:Nat) (M:List (α×aV)) (hm:a.eval m=.map (some b)) (hown:C7 P k kL w b M) (s:α) (hkey:keyOf P k (a.eval x)=some (kL s)) (h:wpList P ops Q rest (a.put o.dst (C4 M s z)) w):wpList P ops Q (o::rest) a w:=by
 refine Bh hgd λ K' hK'=>?_
 obtain ⟨D,hd,ho⟩:=hown;obtain ⟨v,ps,hrun,hv⟩:=ho.lookup K ht hz (zd:=.held z) (zp:= []) rfl hkey;rw [hd.at hk] at hv;simp only [Nm,Option.some.injEq,Prod.mk.injEq,DataW.held.injEq] at hv;rw [hv.1] at hrun;unfold bB.wp;simp [execOp,hop,hm,hrun,Result.andThen];exact hK' _ _ h
theorem T0 [DecidableEq α] (hgd:Region.wanted o (yielded ops a.tmps)=true) (m x v:Operand) (t:aX) (hop:o.op=Op.mapUpdate t m x v) (k e:aX) (K:Keyed P k) (hk:J9 kL) (ht:P.underlying t=some (.map k e)) (b:Nat) (M:List (α×aV)) (hm:a.eval m=.map (some b)) (hown:C7 P k kL w b M) (hn:M.length<maxLen) (s:α) (hkey:keyOf P k (a.eval x)=some (kL s)) (h:∀w',C7 P k kL w' b (Dh M s (a.eval v))->Ai (λ k=>k=b\/w.heap.size<=k) w w'->w'.heap.size=w.heap.size->wpList P ops Q rest (a.put o.dst undef) w'):wpList P ops Q (o::rest) a w:=by
 refine Bh hgd λ K' hK'=>?_
 obtain ⟨D,hd,ho⟩:=hown;obtain ⟨w',hrun,r1,r2⟩:=ho.store K ht (by rw [hd.size]; exact hn) hkey (val:=a.eval v) (d:=.held (a.eval v)) (ps:= []) rfl;unfold bB.wp;simp [execOp,hop,hm,hrun,Result.andThen];refine hK' _ _ (h w' ⟨_,hd.put hk s (a.eval v),Gp r1⟩ (I3 r2.grown) ?_);obtain ⟨es,clock,es',clock',e1,rfl⟩:=r2;simp [Go.ChangeMaps.setBlock]
theorem Qg [DecidableEq α] (hgd:Region.wanted o (yielded ops a.tmps)=true) (m:Operand) (t:aX) (hop:o.op=Op.call { callee:=Callee.builtin Builtin.len,args:=#[m],argTypes:=#[t] }) (k e:aX) (ht:P.underlying t=some (.map k e)) (b:Nat) (M:List (α×aV))
 (hm:a.eval m=.map (some b)) (hown:C7 P k kL w b M) (h:wpList P ops Q rest (a.put o.dst (.int .i64 (M.length:Int))) w):wpList P ops Q (o::rest) a w:=by
 refine Bh hgd λ K' hK'=>?_
 obtain ⟨D,hd,ho⟩:=hown;unfold bB.wp;simp [execOp,hop,resolve,invoke,builtin,hm,ho.len ht o.type,Result.andThen];rw [hd.size];exact hK' _ _ h
end
def Qr (P:bA) (k:aX) (kL:α->Lit) (b r:Nat) (M:List (α×aV)) (left:Lit->Bool) (cnt:Nat):Res where
 holds W F:=(∃n D,Je kL D M/\W.ranges P k Nm b r n D left cnt)/\∀x,F x↔x=b\/x=r
 frame:=by
  rintro W W' F S ⟨⟨n,D,hd,⟨es,clock,since,seen,c0,h1,h2,h3,h4,h5,h6⟩⟩,hf⟩ hk hs;exact ⟨⟨n,D,hd,⟨es,clock,since,seen,c0,by rw [hk.block b (hs b ((hf b).2 (.inl rfl)))]; exact h1,h2,h3,h4,by rw [hk.block r (hs r ((hf r).2 (.inr rfl)))]; exact h5,h6⟩⟩,hf⟩
 lt:=by
  rintro W F x ⟨⟨n,D,_,h⟩,hf⟩ hx;rcases (hf x).1 hx with rfl | rfl
  . obtain ⟨es,clock,since,seen,c0,h1,_⟩:=h;exact Hg h1
  . exact h.lt
def Pf (P:bA) (k:aX) (kL:α->Lit) (W:aW) (b r:Nat) (M:List (α×aV)) (left:Lit->Bool) (cnt:Nat):Prop:=∃n D,Je kL D M/\W.ranges P k Nm b r n D left cnt
theorem Pf.left_eq {P:bA} {k:aX} {W:aW} {b r:Nat} {M:List (α×aV)} {left:Lit->Bool} {cnt:Nat} (h:Pf P k kL W b r M left cnt):W.rangeLeft b r=cnt:=by
 obtain ⟨n,D,_,h⟩:=h;exact h.left_eq
theorem Ad.rngVOf {W:aW} {l:List Res} {P:bA} {k:aX} {b r:Nat} {M:List (α×aV)} {left:Lit->Bool} {cnt:Nat} (h:Ad W (Qr P k kL b r M left cnt::l)):Pf P k kL W b r M left cnt:=by
 obtain ⟨F,hr⟩:=h.head;exact hr.1
theorem Ad.rngVTurn {W W':aW} {l:List Res} {P:bA} {k:aX} {b r:Nat} {M:List (α×aV)} {left left':Lit->Bool} {cnt cnt':Nat} (h:Ad W (Qr P k kL b r M left cnt::l)) (hr:Pf P k kL W' b r M left' cnt') (hg:Ai (λ k=>k=r\/W.heap.size<=k) W W'):Ad W' (Qr P k kL b r M left' cnt'::l):=
 h.turn λ F hF=>⟨F,⟨hr,hF.2⟩,λ b hb=>.inl hb,hg.mono λ k hk=>hk.elim (λ e=>.inl ((hF.2 k).2 (.inr e))) .inr⟩
theorem Ad.rngVStart {W W':aW} {l:List Res} {P:bA} {k:aX} {b:Nat} {M:List (α×aV)} {left:Lit->Bool} {cnt:Nat} (h:Ad W (Cj P k kL b M::l)) (hr:Pf P k kL W' b W.heap.size M left cnt) (hg:Below W.heap.size W W'):Ad W' (Qr P k kL b W.heap.size M left cnt::l):=
 h.turn λ F hF=>⟨λ x=>x=b\/x=W.heap.size,⟨hr,λ _=>Iff.rfl⟩,λ x hx=>hx.elim (λ e=>.inl ((hF.2 x).2 e)) (λ e=>.inr (by rw [e]; exact aB _)),(Ai.of_below hg).mono λ k hk=>.inr hk⟩
theorem Ad.rngVEnd {W:aW} {l:List Res} {P:bA} {k:aX} {b r:Nat} {M:List (α×aV)} {left:Lit->Bool} {cnt:Nat} (h:Ad W (Qr P k kL b r M left cnt::l)):Ad W (Cj P k kL b M::l):=
 h.weaken λ F hF=>⟨λ x=>x=b,⟨by obtain ⟨n,D,hd,hr⟩:=hF.1; exact ⟨D,hd,Gp hr.owns⟩,λ _=>Iff.rfl⟩,λ x hx=>(hF.2 x).2 (.inl hx)⟩
theorem Yg {w w':aW} (hg:w.grownBy w' none):Below w.heap.size w w':=
 ⟨hg.os,hg.tape,hg.output,hg.size,λ b hb=>hg.block b hb (by simp)⟩
section
variable {P:bA} (w:aW) {ops:Array bB} {rest:List bB} {o:bB} {a:Act} {Q:Exit->Act->aW->Prop}
theorem Em [DecidableEq α] (hg:o.guard=none) (m:Operand) (t:aX) (hop:o.op=Op.range t m) (k e:aX) (K:Keyed P k) (hk:J9 kL) (ht:P.underlying t=some (.map k e)) (b:Nat) (M:List (α×aV)) (hm:a.eval m=.map (some b)) (hown:C7 P k kL w b M) (h:∀w' left,(∀s,left (kL s)=Cz M s)->Pf P k kL w' b w.heap.size M left M.length->Below w.heap.size w w'->wpList P ops Q rest (a.put o.dst (.pointer (some ⟨w.heap.size,0,none⟩))) w'):wpList P ops Q (o::rest) a w:=by
 obtain ⟨D,hd,ho⟩:=hown;refine wpList_range_own w hg m t hop k e K ht Nm b _ D hm ho λ w' r1 r2 r3=>?_
 rw [hd.size] at r1;exact h w' (Maps.has D) (λ s=>hd.has hk s) ⟨_,D,hd,r1⟩ (Yg r2)
theorem Fa [DecidableEq α] (hg:o.guard=none) (it:Operand) (hop:o.op=Op.next it false) (k:aX) (K:Keyed P k) (hk:J9 kL) (kV:α->aV) (hkV:∀key kl,keyOf P k key=some kl->∃s,key=kV s/\kl=kL s) (b r:Nat) (M:List (α×aV)) (left:Lit->Bool) (cnt:Nat) (hit:a.eval it=.pointer (some ⟨r,0,none⟩)) (h:Pf P k kL w b r M left cnt) (hDone:cnt=0->(∀kl,left kl=false)->wpList P ops Q rest (a.put o.dst (.tuple #[.bool false])) w) (hMore:∀(s:α) (v:aV) (w':aW) (cnt':Nat),(s,v)∈M->left (kL s)=true->Pf P k kL w' b r M (λ z=>left z&& !z.sameKey (kL s)) cnt'->cnt'<cnt->Ai (λ k=>k=r\/w.heap.size<=k) w w'->w'.heap.size=w.heap.size-> (Instr.entry (.pointer (some ⟨r,0,none⟩))).run P w'=.ok (.tuple #[kV s,v]) w'->wpList P ops Q rest (a.put o.dst (.tuple #[.bool true,kV s,v])) w'):wpList P ops Q (o::rest) a w:=by
 obtain ⟨n,D,hd,hr⟩:=h;refine wpList_next_ranges w hg it hop k K Nm kV id (λ key kl h=>by obtain ⟨s,h1,_⟩:=hkV key kl h; exact ⟨s,h1⟩) (λ v y _=>⟨v,rfl⟩) b r n D left cnt hit hr hDone ?_;intro s v kl y w' cnt' hkey hl hv hat hr' hlt hgr hsz hen;obtain ⟨s',hs1,hs2⟩:=hkV _ _ hkey;rw [hs2] at hr' hl hat;have hsome:(s',v)∈M:=by
  simp only [Nm,id,Option.some.injEq] at hv;have hy:y.1=.held v:=by rw [<-hv]
  cases hh:Cz M s' with
  | false=>
   have h1:=hat (.map []);rw [hd.at_no hk hh,hy] at h1
   cases h1
  | true=>
   have h1:=hat (.held v);rw [hd.at_mem hk (Gj hh v),hy] at h1;simp only [DataW.held.injEq] at h1
   have:=Gj hh v;rw [h1] at this;exact this
 rw [hs1];rw [hs1] at hen;exact hMore s' v w' cnt' hsome hl ⟨n,D,hd,hr'⟩ hlt (I3 hgr) hsz hen
end
end
theorem A7V:J9 (λ s:ByteArray=>(Lit.string s.data.toList)):=by
 intro a b;unfold Lit.sameKey;by_cases h:a=b
 . subst h; simp
 . have:¬a.data.toList=b.data.toList:=λ e=>h (by
    obtain ⟨a⟩:=a;obtain ⟨b⟩:=b;exact congrArg ByteArray.mk (Array.toList_inj.1 e))
   simp [h];intro e;exact this (by rw [e])
end
end Go.Proofs.YtcnfaghcjlhoiaaGreat
namespace Go.Proofs.YtcnfaghcjlhoiaaGreat
open Go.RowKit Go.Maps
theorem A8r:WideMaps.KeyLaw aA 261:=deep_law (m:=3) (by omega) (by kernel_rfl) (by kernel_rfl) (by rw [aF])
theorem A2S:Keyed aA 261:=Keyed.of_law A8r
structure Fk where
 of_:Aa
 label:ByteArray
 text:Bool
 hof:of_.length=16
 hlab:label.size<=maxLen
def Fk.cells (f:Fk):List aV:=Ae f.of_++ [.string f.label,.bool f.text]
def Fk.lits (f:Fk):List Lit:=f.of_.map (λ b=>Lit.int .u8 (b.toNat:Int))++ [.string f.label.data.toList,.bool f.text]
def frL (f:Fk):Lit:=.string (keyBytes f.lits)
instance:DecidableEq Fk:=λ a b=>decidable_of_iff (a.of_=b.of_/\a.label=b.label/\a.text=b.text) ⟨λ h=>by cases a; cases b; simp_all,λ h=>by subst h; simp⟩
theorem A8s:261<Tryz.prog.types.size:=of_decide_eq_true (by kernel_rfl)
theorem I5 (m:Nat) (k:Aa) (hk:k.length=16):Tryz.prog.keyLits (m+2) 46 (Ae k)=some (k.map λ b=>Lit.int .u8 (b.toNat:Int)):=by
 have hsz:Tryz.prog.cellsOf 46=16:=by kernel_rfl
 have c1:Tryz.prog.cellsOf 5=1:=by kernel_rfl
 have hl:(Ae k).length=16:=by rw [Ac,hk]
 have one:∀b:UInt8,Tryz.prog.keyLits (m+1) 5 [.int .u8 (b.toNat:Int)]=some [.int .u8 (b.toNat:Int)]:=by
  intro b;unfold bA.keyLits;simp only [Tryz.underlying5];have hlt:=b.toNat_lt;have hwf:(Lit.int .u8 (b.toNat:Int)).wf=true:=by
   simp only [Lit.wf,Bool.and_eq_true,decide_eq_true_eq];rw [show aZ.u8.min=0 from rfl,show aZ.u8.max=255 by decide];omega
  simp only [hwf,and_self,if_true]
 unfold bA.keyLits;simp only [Tryz.underlying46];rw [if_pos (by rw [hsz]; exact hl)];simp only [c1]
 match k,hk with
 | [a0,a1,a2,a3,a4,a5,a6,a7,a8,a9,a10,a11,a12,a13,a14,a15],_=>
  simp [List.range,List.range.loop,Ae,bV,one,aP]
theorem A1F (m:Nat) (f:Fk):Tryz.prog.keyLits (m+3) 261 f.cells=some f.lits:=by
 have hsz:Tryz.prog.cellsOf 261=18:=by kernel_rfl
 have s1:Tryz.prog.cellsOf 46=16:=by kernel_rfl
 have s2:Tryz.prog.cellsOf 9=1:=by kernel_rfl
 have s3:Tryz.prog.cellsOf 4=1:=by kernel_rfl
 have hl:(Ae f.of_).length=16:=by rw [Ac,f.hof]
 have hlc:f.cells.length=18:=by simp [Fk.cells,hl]
 have h2:Tryz.prog.keyLits (m+2) 9 [.string f.label]=some [.string f.label.data.toList]:=by
  unfold bA.keyLits;simp only [Tryz.underlying9,if_pos f.hlab]
 have h3:Tryz.prog.keyLits (m+2) 4 [.bool f.text]=some [.bool f.text]:=by
  unfold bA.keyLits;simp only [Tryz.underlying4]
 have e1:f.cells.take 16=Ae f.of_:=by simp [Fk.cells,<-hl]
 have e2:(f.cells.drop 16).take 1= [.string f.label]:=by simp [Fk.cells,<-hl]
 have e3:(f.cells.drop 17).take 1= [.bool f.text]:=by
  rw [Fk.cells,List.drop_append,List.drop_of_length_le (by omega),hl];rfl
 unfold bA.keyLits;simp only [aF];rw [if_pos ⟨by rw [hsz]; exact hlc,by decide+kernel⟩];simp [aP,s1,s2,s3,e1,e2,e3,h2,h3,I5 m f.of_ f.hof,Fk.lits]
theorem A7d (f:Fk):keyOf aA 261 (.agg f.cells.toArray)=some (frL f):=by
 have hkt:Tryz.prog.keyType 261=true:=by kernel_rfl
 have hsz:Tryz.prog.cellsOf 261=18:=by kernel_rfl
 obtain ⟨m,hm⟩:∃m,Tryz.prog.types.size=m+2:=⟨Tryz.prog.types.size-2,by have:=A8s; omega⟩
 have hlc:f.cells.length=18:=by simp [Fk.cells,Ac,f.hof]
 unfold keyOf;simp only [aF];rw [if_pos (by simp [hkt,aV.formed,aF,hsz,hlc]),hm];simp only [aV.cells];rw [A1F m f];rfl
theorem Fk.eq {a b:Fk} (h1:a.of_=b.of_) (h2:a.label=b.label) (h3:a.text=b.text):a=b:=by
 cases a
 cases b
 simp_all
theorem A6b {a b:Fk} (e:frL a=frL b):a=b:=by
 have e2:=keyLits_inj (A1F 0 a) (A1F 0 b) (by unfold frL at e; injection e);have hs:(a.of_.map (λ b=>Lit.int .u8 (b.toNat:Int))).length=(b.of_.map (λ b=>Lit.int .u8 (b.toNat:Int))).length:=by simp [a.hof,b.hof]
 have hm:=(aQ e2 hs).1;have ht:=(aQ e2 hs).2;simp only [List.cons.injEq,Lit.string.injEq,Lit.bool.injEq,and_true] at ht;have ho:a.of_=b.of_:=by
  refine (List.map_inj_right (λ x y hxy=>?_)).1 hm;simp only [Lit.int.injEq,true_and] at hxy;exact UInt8.toNat_inj.1 (by omega)
 refine Fk.eq ho ?_ ht.2;have hl:=ht.1
 cases ha:a.label
 cases hb:b.label
 rw [ha,hb] at hl;exact congrArg ByteArray.mk (Array.toList_inj.1 hl)
theorem A7c:J9 frL:=by
 intro a b;by_cases h:a=b
 . subst h;simp [Lit.sameKey,frL]
 . have:¬frL a=frL b:=λ e=>h (A6b e)
   simp only [h,decide_false];unfold frL at this ⊢;simp only [Lit.string.injEq] at this;simp [Lit.sameKey,this]
end Go.Proofs.YtcnfaghcjlhoiaaGreat
namespace Go.Proofs.YtcnfaghcjlhoiaaGreat
open Go.RowKit
def Bb (k:UInt8) (n:Nat):Aa:= [255,254,k,0,0,0,0,0]++Dw n
theorem Ar (k:UInt8) (n:Nat):(Bb k n).length=16:=by simp [Bb,Ci]
theorem A4u (n:Nat) (hn:n<9223372036854775808) (w:aW):aZ.u64.wrap (n:Int)=n:=by
 rw [aZ.wrap_u64];omega
def Qx (w:aW) (k:UInt8) (n:Nat) (e:Ending) (w':aW):Prop:=e=.returned (A1 (Bb k n))/\Below w.heap.size w w'
theorem J2 (k:UInt8) (n:Nat) (hn:n<9223372036854775808) (w:aW): aY aA 121 #[.int .u8 k.toNat,.int .i64 n] w (Qx w k n):=by
 have B0:=Ab (((Blk.new w Bo 46).alloc (.cells Bo.toArray 46)).alloc (.cells #[.int .u8 255,.int .u8 254,.int .u8 k.toNat] 5));have B1:Hq (Blk (((w.alloc (.cells Bo.toArray 46)).alloc (.cells Bo.toArray 46)).alloc (.cells #[.int .u8 255,.int .u8 254,.int .u8 k.toNat] 5)) (w.heap.size+1) Bo 46):=Ab ((Blk.at_ (cs:=Bo.toArray) (by simp)).alloc _);have HS:Hq (Bs (((w.alloc (.cells Bo.toArray 46)).alloc (.cells Bo.toArray 46)).alloc (.cells #[.int .u8 255,.int .u8 254,.int .u8 k.toNat] 5)) (.slice (some ⟨w.heap.size+1+1,0,none⟩) 3 3) [255,254,k]):=Ab (Bs.lit [255,254,k] (by simp) rfl (by simp [maxLen]));have HB:Hq (Below w.heap.size w (((w.alloc (.cells Bo.toArray 46)).alloc (.cells Bo.toArray 46)).alloc (.cells #[.int .u8 255,.int .u8 254,.int .u8 k.toNat] 5))):=Ab ((((aC _ _).alloc (aB _) _).alloc (by simp) _).alloc (by simp; omega) _);have HN:=Ab hn;have HW:=Ab (A4u n hn w);clear hn;go_enter Tryz.func121,Tryz.ntmps121;go_wp2_with ((with_reducible refine zw 9 ?_);refine Vz rfl (.tmp 6) (.tmp 8) D8 rfl rfl B1.o rfl HS.o (by simp [Bo]) ?_);intro w1 h1 k1;have h1':Blk w1 (w.heap.size+1) (Ae [255,254,k,0,0,0,0,0,0,0,0,0,0,0,0,0]) 46:=by simpa [Bo,Ae,bV] using h1
 have B0':=Ab ((B0.o.keep k1 (by omega)).drew);have H1:=Ab h1'.drew;have hsz:w.heap.size+1<w1.heap.size:=h1'.lt;have HB1:Hq (Below w.heap.size w w1.drew):=Ab ((HB.o.trans (k1.below (by omega))).drew);clear h1 h1' k1 B0 B1 HB;go_wp2_with fail;refine wp_region_any (by kernel_rfl) ?_;change wpAny _ _ _ _ _ _ _ (aW.drew _);refine wpAny_take (i:=0) (oi:=⟨some 10,_,_,_,_,none⟩) (v:=.slice (some ⟨w.heap.size+1,8,none⟩) 8 8) rfl (by kernel_rfl) (by kernel_rfl) (by kernel_rfl) (λ _ _ _ h=>h) (Or.inl ⟨by rfl,by intro w; go_simp⟩) ?_;try go_frame
 refine wpAny_take (i:=1) (oi:=⟨some 11,_,_,_,_,none⟩) (v:=.int .i64 n) rfl (by kernel_rfl) (by kernel_rfl) (by kernel_rfl) (λ _ _ _ h=>h) (Or.inl ⟨by rfl,by intro w; go_simp⟩) ?_;try go_frame
 refine wpAny_take (i:=2) (oi:=⟨some 12,_,_,_,_,none⟩) (v:=.int .u64 n) rfl (by kernel_rfl) (by kernel_rfl) (by kernel_rfl) (λ _ _ _ h=>h) (Or.inl ⟨by rfl,by intro w; go_simp; exact HW.o⟩) ?_;try go_frame
 refine wpAny_ready (rs:= [3]) (by decide+kernel) (by simp) ?_;refine AllReady.cons (o:=⟨some 13,.call { callee:=.value (.func 148),args:=#[.tmp 12],argTypes:=#[150] },_,_,_,none⟩) rfl (λ K hK=>?_) AllReady.nil;go_simp;refine (Xh n _).mono ?_;rintro e w2 ⟨rfl,ho,hb,_⟩;have hz2:=hb.size;try simp at hz2
 have B0':=Ab (B0'.o.below hb (by simp; omega));have H1:=Ab (H1.o.below hb (by simp; omega));have HB1:Hq (Below w.heap.size w w2):=Ab (HB1.o.trans (hb.mono (by simp; omega)));have HP:=Ab ho.bs;clear ho hb;refine zqp hK ?_;clear hK K;refine wpAny_ready (rs:= [4]) (by decide+kernel) (by simp) ?_;refine AllReady.cons (o:=⟨some 14,.call { callee:=.builtin .copy,args:=#[.tmp 10,.tmp 13],argTypes:=#[27,27] },_,_,_,none⟩) rfl (λ K hK=>?_) AllReady.nil;refine A6K rfl (.tmp 10) (.tmp 13) D8 rfl H1.o rfl rfl HP.o (by rw [Ci]; simp [Ae]) ?_;intro w3 h3 k3;have h3':Blk w3 (w.heap.size+1) (Ae (Bb k n)) 46:=by
  have e:(Ae (Dw n)).take (min (Dw n).length 8)=Ae (Dw n):=aE (by rw [Ac,Ci]; decide);rw [e,Ci] at h3;rw [Bb,Jh];simpa [Ae] using h3
 have B0':=Ab (B0'.o.keep k3 (by omega));have H1:=Ab h3';have HB1:Hq (Below w.heap.size w w3):=Ab (HB1.o.trans (k3.below (by omega)));have hz3:=k3.size;clear h3 h3' k3;refine zqp hK ?_;clear hK K;refine wpAny_done (by decide+kernel) ?_ _;have HBL:Hq ((Ae (Bb k n)).length=16):=Ab (by rw [Ac,Ar]);go_wp2_with (first | ((with_reducible refine zw 15 ?_);refine Aj rfl (.tmp 5) Aq rfl rfl (cs:=Ae (Bb k n)) HBL.o H1.o.cellsAll ?_) | ((with_reducible refine zws 4 15 ?_);refine Ag rfl (.tmp 4) (.tmp 15) Aq rfl rfl (vs:=Ae (Bb k n)) rfl HBL.o B0'.o (aB _) (Al _) ?_));intro w5 h5 k5;have h5':Blk w5 w.heap.size (Ae (Bb k n)) 46:=by simpa [Bo] using h5
 have H5:=Ab h5';have HB5:Hq (Below w.heap.size w w5):=Ab (HB1.o.trans (k5.below (by omega)));clear h5 h5' k5;go_wp2_with fail;exact bodyPost_ret (Az rfl Aq rfl (cs:=Ae (Bb k n)) HBL.o H5.o.cellsAll) rfl ⟨rfl,HB5.o⟩
def A4g (w:aW) (b:Aa) (e:Ending) (w':aW):Prop:=
 ∃v,e=.returned v/\Du w' w.heap.size v b/\(∀i,v.ownBlock=some i->w.heap.size<=i/\i<w'.heap.size)/\Below w.heap.size w w'
theorem G5 (v:aV) (b:Aa) (w:aW) (h:Bs w v b) (hl:b.length<=1099511627776): aY aA 58 #[v] w (A4g w b):=by
 obtain ⟨a,c,rfl,hc,hm⟩:=h.form;have q22:∀(w:aW) (a:Option Addr) (n c n' c':Nat),(binOp .eql 27 (.slice a n c) (.slice none n' c')).run aA w=.ok (.bool a.isNone) w:=λ w a n c n' c'=>Lib.run_eql_slice_nil w _ _ a n c n' c' Tryz.underlying27
 have HS:Hq (Bs (w.alloc (.cells #[] 5)) (.slice a b.length c) b):=Ab (h.alloc _);have HLIT:Hq (∀i,(aV.slice (some ⟨w.heap.size,0,none⟩) 0 0).ownBlock=some i->i< (w.alloc (.cells #[] 5)).heap.size):=Ab (λ i hi=>by simp [aV.ownBlock] at hi; simp; omega);by_cases ha:a=none
 . subst ha;obtain rfl:b= []:=by
    obtain ⟨_,_,a',c',e,h3,_,h5,_⟩:=h;simp only [aV.slice.injEq,true_and] at e;obtain ⟨rfl,rfl⟩:=e
    have:=h5 rfl;exact List.eq_nil_of_length_eq_zero (by omega)
   clear h;go_enter aR,aS;go_wp2_with fail;go_ret;exact ⟨_,rfl,Own.nil _ _ _ _ _,λ i hi=>by simp [aV.ownBlock] at hi,aC _ _⟩
 . obtain ⟨⟨p,o,sp⟩,rfl⟩:=Option.ne_none_iff_exists'.1 ha;clear h ha;go_enter aR,aS;go_wp2_with ((with_reducible refine zw 7 ?_);refine Dr rfl (.tmp 5) (.tmp 6) D8 rfl w.heap.size (Own.nil _ _ _ _ _) HLIT.o HS.o (by unfold maxLen; omega) (by omega) (by simp) ?_);intro v1 w1 ho hk hv;have hb1:Below w.heap.size w w1:=((aC _ _).alloc (aB _) _).trans (hk.below (by
    rintro i (h | h)
    . exact h.2
    . try simp at h
      omega))
   have HO:Hq (Du w1 w.heap.size v1 b):=Ab (by unfold Du; simpa using ho);have HV:Hq (∀i,v1.ownBlock=some i->w.heap.size<=i/\i<w1.heap.size):=Ab (λ i hi=>⟨by
    rcases (hv i hi).1 with h | h
    . simp [aV.ownBlock] at h; omega
    . try simp at h
      omega,(hv i hi).2⟩)
   have HB:=Ab hb1;obtain ⟨a1,c1,rfl,_,_⟩:=ho.sl.form;clear ho hk hv hb1;go_wp2_with fail;go_ret;exact ⟨_,rfl,HO.o,HV.o,HB.o⟩
theorem Gi:Cp aA 41 27 1 24 (.slice none 0 0):=by
 refine Cp.mk Tryz.underlying41 ?_ rfl (by decide)
 kernel_rfl
def Bw:List aV->List Aa->Res
 | [], []=>.emp
 | v::vs,r::rs=>(Res.row v r).star (Bw vs rs)
 | _,_=>.pure False
theorem L8 {W:aW} :∀ {vs:List aV} {rs:List Aa} {l:List Res},Ad W (Bw vs rs::l)->∀(j:Nat) {v:aV} {r:Aa},vs[j]?=some v->rs[j]?=some r->Bs W v r
 | [],_,_,_,j,_,_,hv,_=>by simp at hv
 | _::_, [],_,_,j,_,_,_,hr=>by simp at hr
 | u::vs,s::rs,l,h,0,v,r,hv,hr=>by
  have h:=Ad.star.1 h;simp at hv hr;subst hv hr;exact h.rowOf (by simp)
 | u::vs,s::rs,l,h,j+1,v,r,hv,hr=>by
  have h:=Ad.star.1 h;exact L8 h.tail j (by simpa using hv) (by simpa using hr)
theorem Dt {W:aW} :∀ {vs:List aV} {rs:List Aa} {v:aV} {r:Aa} {l:List Res},Ad W (Bw vs rs::.row v r::l)->Ad W (Bw (vs++ [v]) (rs++ [r])::l)
 | [], [],v,r,l,h=>Ad.star.2 (h.perm (.swap _ _ _))
 | [],_::_,_,_,_,h=>(Ad.pure.1 h).1.elim
 | _::_, [],_,_,_,h=>(Ad.pure.1 h).1.elim
 | u::vs,s::rs,v,r,l,h=>by
  have h:=(Ad.star.1 h).push3;exact Ad.star.2 (Dt h).swap
def A6N (p:Nat) (kv bv mp:aV) (sums:List Aa):Res:=
 .ex λ sv=>.ex λ vs=>.all [.blk p [kv,bv,sv,mp] 148,.own 27 1 sv sums.length vs,Bw vs sums]
theorem Vu {W:aW} {p:Nat} {kv bv mp:aV} {sums:List Aa} {l:List Res} (h:Ad W (A6N p kv bv mp sums::l)): ∃sv vs,Ad W (.blk p [kv,bv,sv,mp] 148::.own 27 1 sv sums.length vs::Bw vs sums::l):=by
 obtain ⟨sv,h⟩:=Ad.ex.1 h;obtain ⟨vs,h⟩:=Ad.ex.1 h;exact ⟨sv,vs,Ad.app.1 h⟩
theorem If {W:aW} {p:Nat} {kv bv sv mp:aV} {vs:List aV} {sums:List Aa} {l:List Res} (h:Ad W (.blk p [kv,bv,sv,mp] 148::.own 27 1 sv sums.length vs::Bw vs sums::l)): Ad W (A6N p kv bv mp sums::l):=
 Ad.ex.2 ⟨sv,Ad.ex.2 ⟨vs,Ad.app.2 h⟩⟩
def Rw (sums:List Aa) (b:Aa):List Aa:=if b∈sums then sums else sums++ [b]
def Wl (sums:List Aa) (b:Aa):Aa:=Bb 100 ((Rw sums b).idxOf b+1)
def zk:Aa:=aI 16 0
theorem Md:zk.length=16:=by simp [zk]
def mkF (k:Aa) (l:ByteArray) (t:Bool):Fk:=if h:k.length=16/\l.size<=maxLen then ⟨k,l,t,h.1,h.2⟩ else ⟨zk,⟨#[]⟩,false,Md,by decide⟩
theorem A4X {k:Aa} {l:ByteArray} {t:Bool} (h1:k.length=16) (h2:l.size<=maxLen):mkF k l t=⟨k,l,t,h1,h2⟩:=by rw [mkF,dif_pos ⟨h1,h2⟩]
def noF:Fk:=⟨zk,⟨#[]⟩,false,Md,by decide⟩
structure Bx where
 by_:Aa
 usage:Int
 body:Aa
structure Sy where
 keys:List Fk
 boxes:List Bx
 sums:List Aa
 known:List (Fk×Aa)
def Sy.nil:Sy:=⟨[], [], [], []⟩
def Sy.add (s:Sy) (f:Fk):Aa×Sy:=(Bb 107 (s.keys.length+1),{ s with keys:=s.keys++ [f] })
def Sy.made (s:Sy) (f:Fk):Aa×Sy:=
 if Cz s.known f=true then (C4 s.known f zk,s)
 else ((s.add f).1,{ (s.add f).2 with known:=Dh s.known f (s.add f).1 })
def Sy.shut (s:Sy) (b:Bx):Aa×Sy:=(Bb 98 (s.boxes.length+1),{ s with boxes:=s.boxes++ [b] })
def Sy.digest (s:Sy) (b:Aa):Aa×Sy:=(Wl s.sums b,{ s with sums:=Rw s.sums b })
def A8w (pw salt:Aa):Aa:=pw
def A2M (k l:Aa):Aa:=k
inductive PS where
 | sym (s:Sy)
namespace PS
def lift {α:Type} (x:α×Sy):α×PS:=(x.1,.sym x.2)
def fresh:PS->Aa×PS
 | .sym s=>lift (s.add noF)
def textF (pw salt:Aa):Fk:=mkF zk ⟨(Dw pw.length++(pw++salt)).toArray⟩ true
def text (pw salt:Aa):PS->Aa×PS
 | .sym s=>lift (s.made (textF pw salt))
def derive (k:Aa) (l:ByteArray):PS->Aa×PS
 | .sym s=>lift (s.made (mkF k l false))
def shut (k:Aa) (u:Nat) (b:Aa):PS->Aa×PS
 | .sym s=>lift (s.shut ⟨k,u,b⟩)
def digest (b:Aa):PS->Aa×PS
 | .sym s=>lift (s.digest b)
def sz:PS->Nat
 | .sym s=>s.keys.length+s.boxes.length+s.sums.length+s.known.length
def Opn (s:PS) (k:Aa) (u:Nat) (box b:Aa):Prop:=
 match s with
 | .sym s=>∃i,s.boxes[i]?=some ⟨k,u,b⟩/\box=Bb 98 (i+1)
def Dig (s:PS) (b d:Aa):Prop:=
 match s with
 | .sym s=>b∈s.sums/\d=Bb 100 (s.sums.idxOf b+1)
def Mde (s:PS) (f:Fk) (k r:Aa):Prop:=
 match s with
 | .sym s=>Cz s.known f=true/\C4 s.known f zk=k
structure Gr (n:Nat) (s t:PS):Prop where
 opn:∀ {k u x b},Opn s k u x b->Opn t k u x b
 dig:∀ {b d},Dig s b d->Dig t b d
 mde:∀ {f k r},Mde s f k r->Mde t f k r
 sz:t.sz<=s.sz+n
theorem Gr.refl (s:PS):Gr 0 s s:=⟨λ h=>h,λ h=>h,λ h=>h,aB _⟩
theorem Gr.trans {n m:Nat} {a b c:PS} (h:Gr n a b) (k:Gr m b c):Gr (n+m) a c:=
 ⟨λ x=>k.opn (h.opn x),λ x=>k.dig (h.dig x),λ x=>k.mde (h.mde x),by have:=h.sz; have:=k.sz; omega⟩
theorem Gr.mono {n m:Nat} {a b:PS} (h:Gr n a b) (hn:n<=m):Gr m a b:=⟨h.opn,h.dig,h.mde,by have:=h.sz; omega⟩
theorem fresh_len (s:PS):s.fresh.1.length=16:=by
 cases s with
 | sym s=>exact Ar _ _
theorem A7B (s:Sy) (f:Fk):Gr 1 (.sym s) (.sym (s.add f).2):=
 ⟨λ h=>h,λ h=>h,λ h=>h,by simp [sz,Sy.add]; omega⟩
theorem gr_fresh (s:PS):Gr 1 s s.fresh.2:=by
 cases s with
 | sym s=>exact A7B s _
theorem A2U (s:Sy) (f:Fk):Gr 2 (.sym s) (.sym (s.made f).2):=by
 unfold Sy.made;split
 . exact (Gr.refl _).mono (by omega)
 . rename_i hh;refine ⟨λ h=>h,λ h=>h,?_,by have:=A0l s.known f (s.add f).1; simp [sz,Sy.add] at this ⊢; omega⟩;rintro f' k r ⟨h1,h2⟩;have hne:¬f=f':=by rintro rfl; exact hh h1
   exact ⟨by simp only [R7,h1,Bool.or_true],by simp only [Zl,if_neg hne]; exact h2⟩
theorem Z8 (s:Sy) (f:Fk) (r:Aa):Mde (.sym (s.made f).2) f (s.made f).1 r:=by
 unfold Sy.made;split
 . rename_i hh;exact ⟨hh,rfl⟩
 . exact ⟨by simp [R7],by simp [Zl]⟩
theorem gr_text (s:PS) (pw salt:Aa):Gr 2 s (s.text pw salt).2:=by
 cases s with
 | sym s=>exact A2U s _
theorem gr_derive (s:PS) (k:Aa) (l:ByteArray):Gr 2 s (s.derive k l).2:=by
 cases s with
 | sym s=>exact A2U s _
theorem text_mde (s:PS) (pw salt:Aa):Mde (s.text pw salt).2 (textF pw salt) (s.text pw salt).1 (A8w pw salt):=by
 cases s with
 | sym s=>exact Z8 s _ _
theorem derive_mde (s:PS) (k:Aa) (l:ByteArray):Mde (s.derive k l).2 (mkF k l false) (s.derive k l).1 (A2M k l.data.toList):=by
 cases s with
 | sym s=>exact Z8 s _ _
theorem text_of {s:PS} {pw salt k:Aa} (h:Mde s (textF pw salt) k (A8w pw salt)):s.text pw salt=(k,s):=by
 cases s with
 | sym s=>
  obtain ⟨h1,h2⟩:=h;simp [text,lift,Sy.made,h1,h2]
theorem derive_of {s:PS} {k:Aa} {l:ByteArray} {x:Aa} (h:Mde s (mkF k l false) x (A2M k l.data.toList)):s.derive k l=(x,s):=by
 cases s with
 | sym s=>
  obtain ⟨h1,h2⟩:=h;simp [derive,lift,Sy.made,h1,h2]
theorem gr_shut (s:PS) (k:Aa) (u:Nat) (b:Aa):Gr 1 s (s.shut k u b).2:=by
 cases s with
 | sym s=>
  refine ⟨?_,λ h=>h,λ h=>h,by simp [sz,shut,lift,Sy.shut]; omega⟩;rintro k u x b ⟨i,h1,h2⟩;refine ⟨i,?_,h2⟩
  have:=(List.getElem?_eq_some_iff.1 h1).1;show (s.boxes++ [_])[i]?=_
  rw [List.getElem?_append_left this];exact h1
theorem shut_opn (s:PS) (k:Aa) (u:Nat) (b:Aa):Opn (s.shut k u b).2 k u (s.shut k u b).1 b:=by
 cases s with
 | sym s=>exact ⟨s.boxes.length,(by show (s.boxes++ [_])[s.boxes.length]?=_; simp),rfl⟩
theorem A1K {l:List Aa} {b:Aa} (h:b∈l) (m:List Aa):(l++m).idxOf b=l.idxOf b:=by
 rw [aJ,if_pos h]
theorem gr_digest (s:PS) (b:Aa):Gr 1 s (s.digest b).2:=by
 cases s with
 | sym s=>
  refine ⟨λ h=>h,?_,λ h=>h,?_⟩
  . rintro b' d ⟨h1,h2⟩;simp only [digest,lift,Sy.digest,Rw,Dig];split
    . exact ⟨h1,h2⟩
    . exact ⟨by simp [h1],by rw [A1K h1]; exact h2⟩
  . simp only [sz,digest,lift,Sy.digest,Rw];split
    . omega
    . simp; omega
theorem digest_dig (s:PS) (b:Aa):Dig (s.digest b).2 b (s.digest b).1:=by
 cases s with
 | sym s=>
  simp only [digest,lift,Sy.digest,Dig,Wl];refine ⟨?_,trivial⟩;unfold Rw;by_cases h:b∈s.sums
  . rw [if_pos h]; exact h
  . rw [if_neg h]; simp
theorem digest_of {s:PS} {b d:Aa} (h:Dig s b d):s.digest b=(d,s):=by
 cases s with
 | sym s=>
  obtain ⟨h1,h2⟩:=h;simp [digest,lift,Sy.digest,Rw,Wl,h1,h2]
end PS
theorem Y7 (v u:aV) (a b:Aa) (q:Nat) (w:aW) (ha:Bs w v a) (hb:Bs w u b) (hq:w.cell? ⟨q,0,none⟩=some u): aY aA 324 #[v,.pointer (some ⟨q,0,none⟩)] w λ e w'=>e=.returned (.bool (decide (a=b)))/\w=w':=by
 have HE:=Ab (O1 v u a b w ha hb);obtain ⟨a1,c1,rfl,_,_⟩:=ha.form;obtain ⟨a2,c2,rfl,_,_⟩:=hb.form;clear ha hb;go_enter Tryz.func324,Tryz.ntmps324;go_wp2_with fail;refine HE.o.mono ?_;rintro e w' ⟨rfl,rfl⟩;go_wp2_with fail;go_ret;exact ⟨rfl,rfl⟩
def A7o (w:aW) (sums:List Aa) (b:Aa) (e:Ending) (w':aW):Prop:=
 e=.returned (.int .i64 (if b∈sums then (sums.idxOf b:Int) else -1))/\w=w'
theorem Wk (sv u:aV) (vs:List aV) (sums:List Aa) (b:Aa) (q:Nat) (w:aW) (hs:Sl w 1 sv sums.length vs) (hr:∀(j:Nat) v r,vs[j]?=some v->sums[j]?=some r->Bs w v r) (hb:Bs w u b) (hq:w.cell? ⟨q,0,none⟩=some u): aY aA 323 #[sv,.func (Fn.func 324) #[] #[.pointer (some ⟨q,0,none⟩)]] w (A7o w sums b):=by
 obtain ⟨a,c,rfl,hc,hm⟩:=hs.form;have HS:=Ab hs;have HR:=Ab hr;have HB:=Ab hb;have HQ:=Ab hq;unfold maxLen at hm;clear hs hr hb hq;go_enter Tryz.func323,Tryz.ntmps323;go_wp2_with fail;go_loop [5,8] (λ _ i=>∃k:Nat,k<=sums.length/\i=.int .i64 k/\b∉sums.take k) (λ _ i=>sums.length- (intOf i).toNat)
 case atStart=>exact ⟨0,aD _,rfl,by simp⟩
 case round=>
  obtain ⟨k,hk,rfl,hn⟩:=hrel;have HN:=Ab hn;clear hn;by_cases hlt:k<sums.length
  . obtain ⟨g,o,rfl,hcell⟩:=HS.o.addr (by rw [HS.o.1]; omega);have hkl:k<vs.length:=by rw [HS.o.1]; omega
    obtain ⟨v,hv⟩:∃v,vs[k]?=some v:=⟨_,aT hkl⟩
    have hck:w.cell? ⟨g,o+k,none⟩=some v:=hcell k v hv;have hrow:=HR.o k v sums[k] hv (aT hlt);have HC:=Ab (Y7 v u sums[k] b q w hrow HB.o HQ.o);obtain ⟨a1,c1,rfl,_,_⟩:=hrow.form;clear hcell hrow hv;by_cases he:sums[k]=b
    . have HF:Hq ((if b∈sums then (sums.idxOf b:Int) else -1)=k):=Ab (by
       have hm:b∈sums:=he▸List.getElem_mem hlt;rw [if_pos hm];have hnb:=HN.o
       have:sums.idxOf b=k:=by
        have e1:sums=sums.take k++sums.drop k:=(List.take_append_drop _ _).symm;rw [e1,aJ,if_neg hnb,List.drop_eq_getElem_cons hlt,he,aU]
        simp; omega
       rw [this])
      have HE:Hq (decide (sums[k]=b)=true):=Ab (by simpa using he);rw [HE.o] at HC;clear he;go_wp2_with fail;refine HC.o.mono ?_;rintro e w' ⟨rfl,rfl⟩;go_wp2_with fail;go_ret;exact ⟨by rw [HF.o]; rfl,rfl⟩
    . have HE:Hq (decide (sums[k]=b)=false):=Ab (by simpa using he);rw [HE.o] at HC;have HT:Hq (b∉sums.take (k+1)):=Ab (I8 b sums k hlt HN.o he);clear he;go_wp2_with fail;refine HC.o.mono ?_;rintro e w' ⟨rfl,rfl⟩;go_wp2_with fail;go_round
      case rel=>exact ⟨k+1,by omega,by go_num,HT.o⟩
      case measure=>simp [intOf]; omega
  . obtain rfl:k=sums.length:=by omega
    have HF:Hq ((if b∈sums then (sums.idxOf b:Int) else -1)= -1):=Ab (by
     have hnb:=HN.o;rw [List.take_length] at hnb;rw [if_neg hnb])
    go_wp2_with fail;go_ret;exact ⟨by rw [HF.o]; rfl,rfl⟩
def A7n (p:Nat) (kv bv mp:aV) (sums:List Aa) (b:Aa) (l:List Res) (e:Ending) (w':aW):Prop:=
 ∃q,e=.returned (.slice (some ⟨q,0,none⟩) 16 16)/\Ad w' (A6N p kv bv mp (Rw sums b)::.row (.slice (some ⟨q,0,none⟩) 16 16) (Wl sums b)::l)
theorem Oc (k:Nat) (hk:k<1099511627777) (w:aW):aY aA 121 #[.int .u8 100,.int .i64 ((k:Int)+1)] w (Qx w 100 (k+1)):=J2 100 (k+1) (by omega) w
theorem A1B (p:Nat) (kv bv mp:aV) (sums:List Aa) (v:aV) (b:Aa) (l:List Res) (w:aW) (h:Ad w (A6N p kv bv mp sums::l)) (hb:Bs w v b) (hbl:b.length<=1099511627776) (hn:sums.length<1099511627776): aY aA 320 #[.pointer (some ⟨p,0,none⟩),v] w (A7n p kv bv mp sums b l):=by
 obtain ⟨sv,vs,h⟩:=Vu h;obtain ⟨av,cv,rfl,hcv,hmv⟩:=hb.form;obtain ⟨a0,c0,rfl,hc0,hm0⟩:=(h.ownOf (e:=27) (sz:=1) (v:=sv) (n:=sums.length) (cs:=vs) (by simp)).1.sl.form;unfold maxLen at hm0;have hp:=(h.zB p).lt;have HC:Hq (Ad (w.alloc (.cells #[.slice av b.length cv] 27)) (.blk w.heap.size [.slice av b.length cv] 27::.blk p [kv,bv,.slice a0 sums.length c0,mp] 148::.own 27 1 (.slice a0 sums.length c0) sums.length vs::Bw vs sums::l)):=Ab (h.addBlk [.slice av b.length cv] 27);have c2:w.cell? ⟨p,2,none⟩=some (.slice a0 sums.length c0):=(h.zB p).cell 2;have HSV:Hq (Sl w 1 (.slice a0 sums.length c0) sums.length vs):=Ab ((h.ownOf (e:=27) (sz:=1) (v:=.slice a0 sums.length c0) (n:=sums.length) (cs:=vs) (by simp)).1.sl);have HIX:=Ab (Wk (.slice a0 sums.length c0) (.slice av b.length cv) vs sums b w.heap.size _ ((h.ownOf (e:=27) (sz:=1) (v:=.slice a0 sums.length c0) (n:=sums.length) (cs:=vs) (by simp)).1.sl.alloc _) (λ j u r hu hr=>(L8 h.tail.tail j hu hr).alloc _) (hb.alloc (.cells #[.slice av b.length cv] 27)) ((Blk.new w [.slice av b.length cv] 27).cell 0));have HBS:=Ab (hb.alloc (.cells #[.slice av b.length cv] 27));unfold maxLen at hmv;clear h hb;go_enter Tryz.func320,Tryz.ntmps320;go_wp2_with fail;refine HIX.o.mono ?_;rintro e w1 ⟨rfl,rfl⟩;clear HIX;by_cases hm:b∈sums
 . have HT:Hq (Rw sums b=sums):=Ab (by rw [Rw,if_pos hm]);have HI:Hq ((if b∈sums then (sums.idxOf b:Int) else -1)=(sums.idxOf b:Nat)):=Ab (by rw [if_pos hm]);have hk:sums.idxOf b<sums.length:=List.idxOf_lt_length_of_mem hm;have HM:Hq (Wl sums b=Bb 100 (sums.idxOf b+1)):=Ab (by rw [Wl,HT.o]);rw [HI.o];obtain ⟨k,hkk⟩:∃k,k=sums.idxOf b:=⟨_,rfl⟩
   rw [<-hkk] at HM hk ⊢;have hk2:k<1099511627777:=by omega
   have HC:=Ab HC.o.tail;clear hm hkk HI;go_wp2_with fail;refine (Oc k (by omega) _).mono ?_;rintro e w7 ⟨rfl,hb⟩;have HN:=Ab (Blk.new w7 Bo 46);have HC:=Ab (HC.o.step hb);have HKL:Hq ((Ae (Bb 100 (k+1))).length=16):=Ab (by rw [Ac,Ar]);unfold A1;clear hb;go_wp2_with ((with_reducible refine zws 6 34 ?_);refine Ag rfl (.tmp 6) (.tmp 34) Aq rfl rfl (vs:=Ae (Bb 100 (k+1))) rfl HKL.o HN.o (aB _) (Al _) ?_);intro w8 h8 k8;have hb8:Below w7.heap.size w7 w8:=((aC _ _).alloc (aB _) _).trans (k8.below (by omega));have h8':Blk w8 w7.heap.size (Ae (Bb 100 (k+1))) 46:=by simpa [Bo] using h8
   have hrow:Bs w8 (.slice (some ⟨w7.heap.size,0,none⟩) 16 16) (Bb 100 (k+1)):=by
    have:=h8'.bs (off:=0) (n:=16) (cap:=16) (by rw [Ar]; decide) (aB _) (by unfold maxLen; decide);exact Sl.bs this (by simp [aE,Ar]) (Ar _ _)
   have HC:=Ab (HC.o.addRow hb8 hrow (λ k _ hk=>by simp [aV.ownBlock] at hk; omega));clear h8 h8' k8 hb8 hrow HN HKL;go_wp2_with fail;go_ret;refine ⟨w7.heap.size,rfl,?_⟩;rw [HT.o,HM.o];exact If (sv:=.slice a0 sums.length c0) (vs:=vs) HC.o.push4
 . have HI:Hq ((if b∈sums then (sums.idxOf b:Int) else -1)= -1):=Ab (by rw [if_neg hm]);have HT:Hq (Rw sums b=sums++ [b]):=Ab (by rw [Rw,if_neg hm]);have HM:Hq (Wl sums b=Bb 100 (sums.length+1)):=Ab (by
    rw [Wl,HT.o,aJ,if_neg hm,aU,Nat.zero_add])
   rw [HI.o];clear hm HI;have HC:=Ab HC.o.drew;have HBS:=Ab (Bs.below HBS.o ((aC _ _).drew));obtain ⟨q,hq⟩:∃q,q=w.heap.size:=⟨_,rfl⟩
   rw [<-hq] at HC hp;clear HSV c2;go_wp2_with fail;rw [<-hq];clear hq;refine wp_region_any (by kernel_rfl) ?_;change wpAny _ _ _ _ _ _ _ (aW.drew _);refine wpAny_take (i:=0) (oi:=⟨some 15,_,_,_,_,none⟩) (v:=.pointer (some ⟨p,0,none⟩)) rfl (by kernel_rfl) (by kernel_rfl) (by kernel_rfl) (λ _ _ _ h=>h) (Or.inl ⟨by rfl,by intro w; go_simp⟩) ?_;try go_frame
   refine wpAny_take (i:=1) (oi:=⟨some 16,_,_,_,_,none⟩) (v:=.pointer (some ⟨p,0,none⟩)) rfl (by kernel_rfl) (by kernel_rfl) (by kernel_rfl) (λ _ _ _ h=>h) (Or.inl ⟨by rfl,by intro w; go_simp⟩) ?_;try go_frame
   refine wpAny_take (i:=2) (oi:=⟨some 17,_,_,_,_,none⟩) (v:=.pointer (some ⟨p,0,none⟩)) rfl (by kernel_rfl) (by kernel_rfl) (by kernel_rfl) (λ _ _ _ h=>h) (Or.inl ⟨by rfl,by intro w; go_simp⟩) ?_;try go_frame
   refine wpAny_take (i:=3) (oi:=⟨some 18,_,_,_,_,none⟩) (v:=.pointer (some ⟨p,2,none⟩)) rfl (by kernel_rfl) (by kernel_rfl) (by kernel_rfl) (λ _ _ _ h=>h) (Or.inl ⟨by rfl,by intro w; go_simp⟩) ?_;try go_frame
   refine wpAny_ready (rs:= [4,5]) (by decide+kernel) (by simp) ?_;refine AllReady.cons (o:=⟨some 19,.load 41 (.tmp 18),_,_,_,none⟩) rfl (λ K hK=>?_) (AllReady.cons (o:=⟨some 20,.load 27 (.tmp 3),_,_,_,none⟩) rfl (λ K hK=>?_) AllReady.nil)
   . have cc:=(HC.o.zB p).cell 2;go_simp;refine zqp hK ?_;clear hK K;refine wpAny_ready (rs:= [5]) (by decide+kernel) (by simp) ?_;refine AllReady.cons (o:=⟨some 20,.load 27 (.tmp 3),_,_,_,none⟩) rfl (λ K hK=>?_) AllReady.nil;have cc:=(HC.o.zB q).cell 0;go_simp;refine zqp hK ?_;clear hK K;refine wpAny_ready (rs:= [6]) (by decide+kernel) (by simp) ?_;refine AllReady.cons (o:=⟨some 21,.call { callee:=.value (.func 58),args:=#[.tmp 20],argTypes:=#[27] },_,_,_,none⟩) rfl (λ K hK=>?_) AllReady.nil;go_simp;refine (G5 _ b _ HBS.o (by omega)).mono ?_;rintro e w3 ⟨cl,rfl,ho,hv,hb⟩;obtain ⟨a6,c6,rfl,_,_⟩:=ho.sl.form;have HC:=Ab (HC.o.addOwnB hb ho hv).ownRow;clear ho hv hb;refine zqp hK ?_;clear hK K;refine wpAny_ready (rs:= [7]) (by decide+kernel) (by simp) ?_;refine AllReady.cons (o:=⟨some 22,.buildSlice 41 1 #[(0,.tmp 21)],_,_,_,none⟩) rfl (λ K hK=>?_) AllReady.nil;go_simp;have HC:=Ab (HC.o.addBlk [.slice a6 b.length c6] 27);refine zqp hK ?_;clear hK K;refine wpAny_ready (rs:= [8]) (by decide+kernel) (by simp) ?_;refine AllReady.cons (o:=⟨some 23,.call { callee:=.builtin .append,args:=#[.tmp 19,.tmp 22],argTypes:=#[41,41] },_,_,_,none⟩) rfl (λ K hK=>?_) AllReady.nil;have hown:=HC.o.ownOf (e:=27) (sz:=1) (v:=.slice a0 sums.length c0) (n:=sums.length) (cs:=vs) (by simp);have hsl:Sl _ 1 (.slice (some ⟨w3.heap.size,0,none⟩) 1 1) 1 [.slice a6 b.length c6]:=((HC.o.zB w3.heap.size).own (aD _) (by simp [aV.oneCell']) (by unfold maxLen; simp)).sl;refine D3 rfl (.tmp 19) (.tmp 22) Gi rfl 0 (v:=.slice a0 sums.length c0) (by simp [Act.eval]) hown.1 hown.2 (u:=.slice (some ⟨w3.heap.size,0,none⟩) 1 1) (by simp [Act.eval]) hsl (by unfold maxLen; omega) (by omega) (aD _) ?_;intro v4 w4 ho hk hv;obtain ⟨a4,c4,rfl,_,_⟩:=ho.sl.form;have HC:=Ab (HC.o.pull5.append ho hk hv);clear ho hk hv hown hsl;refine zqp hK ?_;clear hK K;refine wpAny_take (i:=9) (oi:=⟨some 24,_,_,_,_,none⟩) (v:=.pointer (some ⟨p,0,none⟩)) rfl (by kernel_rfl) (by kernel_rfl) (by kernel_rfl) (λ _ _ _ h=>h) (Or.inl ⟨by rfl,by intro w; go_simp⟩) ?_;try go_frame
     refine wpAny_take (i:=10) (oi:=⟨some 25,_,_,_,_,none⟩) (v:=.pointer (some ⟨p,2,none⟩)) rfl (by kernel_rfl) (by kernel_rfl) (by kernel_rfl) (λ _ _ _ h=>h) (Or.inl ⟨by rfl,by intro w; go_simp⟩) ?_;try go_frame
     refine wpAny_ready (rs:= [11]) (by decide+kernel) (by simp) ?_;refine AllReady.cons (o:=⟨none,.store 41 (.tmp 25) (.tmp 23),_,_,_,none⟩) rfl (λ K hK=>?_) AllReady.nil;have hblk:=HC.o.zB p;have cc:=hblk.cell 2;have cf:=hblk.frozen 2;have ch:=hblk.lt;have HC:=Ab (HC.o.pull5.set 2 (.slice a4 (sums.length+1) c4));clear hblk;go_simp;refine zqp hK ?_;clear hK K;refine wpAny_done (by decide+kernel) ?_ _;have HC:=Ab (Dt (HC.o.front (m:= [.blk p [kv,bv,.slice a4 (sums.length+1) c4,mp] 148,.own 27 1 (.slice a4 (sums.length+1) c4) (sums.length+1) (vs++ [.slice a6 b.length c6]),.blk w3.heap.size [.slice a6 b.length c6] 27,.row (.slice a6 b.length c6) b,.blk q [.slice av b.length cv] 27,Bw vs sums]) [2,4,5,3,0,1] 6 (by decide)).tail.tail).push3;have HE:Hq ((sums++ [b]).length=sums.length+1):=Ab (by simp);go_wp2_with fail;refine (Oc sums.length (by omega) _).mono ?_;rintro e w7 ⟨rfl,hb⟩;have HN:=Ab (Blk.new w7 Bo 46);have HC:=Ab (HC.o.step hb);have HKL:Hq ((Ae (Bb 100 (sums.length+1))).length=16):=Ab (by rw [Ac,Ar]);unfold A1;clear hb;go_wp2_with ((with_reducible refine zws 6 34 ?_);refine Ag rfl (.tmp 6) (.tmp 34) Aq rfl rfl (vs:=Ae (Bb 100 (sums.length+1))) rfl HKL.o HN.o (aB _) (Al _) ?_);intro w8 h8 k8;have hb8:Below w7.heap.size w7 w8:=((aC _ _).alloc (aB _) _).trans (k8.below (by omega));have h8':Blk w8 w7.heap.size (Ae (Bb 100 (sums.length+1))) 46:=by simpa [Bo] using h8
     have hrow:Bs w8 (.slice (some ⟨w7.heap.size,0,none⟩) 16 16) (Bb 100 (sums.length+1)):=by
      have:=h8'.bs (off:=0) (n:=16) (cap:=16) (by rw [Ar]; decide) (aB _) (by unfold maxLen; decide);exact Sl.bs this (by simp [aE,Ar]) (Ar _ _)
     have HC:=Ab (HC.o.addRow hb8 hrow (λ k _ hk=>by simp [aV.ownBlock] at hk; omega));clear h8 h8' k8 hb8 hrow HN HKL;go_wp2_with fail;go_ret;refine ⟨w7.heap.size,rfl,?_⟩;rw [HT.o,HM.o];refine If (sv:=.slice a4 (sums.length+1) c4) (vs:=vs++ [.slice a6 b.length c6]) ?_;rw [HE.o];exact HC.o.push4
   . have cc:=(HC.o.zB q).cell 0;go_simp;refine zqp hK ?_;clear hK K;refine wpAny_ready (rs:= [4,6]) (by decide+kernel) (by simp) ?_;refine AllReady.cons (o:=⟨some 19,.load 41 (.tmp 18),_,_,_,none⟩) rfl (λ K hK=>?_) (AllReady.cons (o:=⟨some 21,.call { callee:=.value (.func 58),args:=#[.tmp 20],argTypes:=#[27] },_,_,_,none⟩) rfl (λ K hK=>?_) AllReady.nil)
     . have cc:=(HC.o.zB p).cell 2;go_simp;refine zqp hK ?_;clear hK K;refine wpAny_ready (rs:= [6]) (by decide+kernel) (by simp) ?_;refine AllReady.cons (o:=⟨some 21,.call { callee:=.value (.func 58),args:=#[.tmp 20],argTypes:=#[27] },_,_,_,none⟩) rfl (λ K hK=>?_) AllReady.nil;go_simp;refine (G5 _ b _ HBS.o (by omega)).mono ?_;rintro e w3 ⟨cl,rfl,ho,hv,hb⟩;obtain ⟨a6,c6,rfl,_,_⟩:=ho.sl.form;have HC:=Ab (HC.o.addOwnB hb ho hv).ownRow;clear ho hv hb;refine zqp hK ?_;clear hK K;refine wpAny_ready (rs:= [7]) (by decide+kernel) (by simp) ?_;refine AllReady.cons (o:=⟨some 22,.buildSlice 41 1 #[(0,.tmp 21)],_,_,_,none⟩) rfl (λ K hK=>?_) AllReady.nil;go_simp;have HC:=Ab (HC.o.addBlk [.slice a6 b.length c6] 27);refine zqp hK ?_;clear hK K;refine wpAny_ready (rs:= [8]) (by decide+kernel) (by simp) ?_;refine AllReady.cons (o:=⟨some 23,.call { callee:=.builtin .append,args:=#[.tmp 19,.tmp 22],argTypes:=#[41,41] },_,_,_,none⟩) rfl (λ K hK=>?_) AllReady.nil;have hown:=HC.o.ownOf (e:=27) (sz:=1) (v:=.slice a0 sums.length c0) (n:=sums.length) (cs:=vs) (by simp);have hsl:Sl _ 1 (.slice (some ⟨w3.heap.size,0,none⟩) 1 1) 1 [.slice a6 b.length c6]:=((HC.o.zB w3.heap.size).own (aD _) (by simp [aV.oneCell']) (by unfold maxLen; simp)).sl;refine D3 rfl (.tmp 19) (.tmp 22) Gi rfl 0 (v:=.slice a0 sums.length c0) (by simp [Act.eval]) hown.1 hown.2 (u:=.slice (some ⟨w3.heap.size,0,none⟩) 1 1) (by simp [Act.eval]) hsl (by unfold maxLen; omega) (by omega) (aD _) ?_;intro v4 w4 ho hk hv;obtain ⟨a4,c4,rfl,_,_⟩:=ho.sl.form;have HC:=Ab (HC.o.pull5.append ho hk hv);clear ho hk hv hown hsl;refine zqp hK ?_;clear hK K;refine wpAny_take (i:=9) (oi:=⟨some 24,_,_,_,_,none⟩) (v:=.pointer (some ⟨p,0,none⟩)) rfl (by kernel_rfl) (by kernel_rfl) (by kernel_rfl) (λ _ _ _ h=>h) (Or.inl ⟨by rfl,by intro w; go_simp⟩) ?_;try go_frame
       refine wpAny_take (i:=10) (oi:=⟨some 25,_,_,_,_,none⟩) (v:=.pointer (some ⟨p,2,none⟩)) rfl (by kernel_rfl) (by kernel_rfl) (by kernel_rfl) (λ _ _ _ h=>h) (Or.inl ⟨by rfl,by intro w; go_simp⟩) ?_;try go_frame
       refine wpAny_ready (rs:= [11]) (by decide+kernel) (by simp) ?_;refine AllReady.cons (o:=⟨none,.store 41 (.tmp 25) (.tmp 23),_,_,_,none⟩) rfl (λ K hK=>?_) AllReady.nil;have hblk:=HC.o.zB p;have cc:=hblk.cell 2;have cf:=hblk.frozen 2;have ch:=hblk.lt;have HC:=Ab (HC.o.pull5.set 2 (.slice a4 (sums.length+1) c4));clear hblk;go_simp;refine zqp hK ?_;clear hK K;refine wpAny_done (by decide+kernel) ?_ _;have HC:=Ab (Dt (HC.o.front (m:= [.blk p [kv,bv,.slice a4 (sums.length+1) c4,mp] 148,.own 27 1 (.slice a4 (sums.length+1) c4) (sums.length+1) (vs++ [.slice a6 b.length c6]),.blk w3.heap.size [.slice a6 b.length c6] 27,.row (.slice a6 b.length c6) b,.blk q [.slice av b.length cv] 27,Bw vs sums]) [2,4,5,3,0,1] 6 (by decide)).tail.tail).push3;have HE:Hq ((sums++ [b]).length=sums.length+1):=Ab (by simp);go_wp2_with fail;refine (Oc sums.length (by omega) _).mono ?_;rintro e w7 ⟨rfl,hb⟩;have HN:=Ab (Blk.new w7 Bo 46);have HC:=Ab (HC.o.step hb);have HKL:Hq ((Ae (Bb 100 (sums.length+1))).length=16):=Ab (by rw [Ac,Ar]);unfold A1;clear hb;go_wp2_with ((with_reducible refine zws 6 34 ?_);refine Ag rfl (.tmp 6) (.tmp 34) Aq rfl rfl (vs:=Ae (Bb 100 (sums.length+1))) rfl HKL.o HN.o (aB _) (Al _) ?_);intro w8 h8 k8;have hb8:Below w7.heap.size w7 w8:=((aC _ _).alloc (aB _) _).trans (k8.below (by omega));have h8':Blk w8 w7.heap.size (Ae (Bb 100 (sums.length+1))) 46:=by simpa [Bo] using h8
       have hrow:Bs w8 (.slice (some ⟨w7.heap.size,0,none⟩) 16 16) (Bb 100 (sums.length+1)):=by
        have:=h8'.bs (off:=0) (n:=16) (cap:=16) (by rw [Ar]; decide) (aB _) (by unfold maxLen; decide);exact Sl.bs this (by simp [aE,Ar]) (Ar _ _)
       have HC:=Ab (HC.o.addRow hb8 hrow (λ k _ hk=>by simp [aV.ownBlock] at hk; omega));clear h8 h8' k8 hb8 hrow HN HKL;go_wp2_with fail;go_ret;refine ⟨w7.heap.size,rfl,?_⟩;rw [HT.o,HM.o];refine If (sv:=.slice a4 (sums.length+1) c4) (vs:=vs++ [.slice a6 b.length c6]) ?_;rw [HE.o];exact HC.o.push4
     . go_simp;refine (G5 _ b _ HBS.o (by omega)).mono ?_;rintro e w3 ⟨cl,rfl,ho,hv,hb⟩;obtain ⟨a6,c6,rfl,_,_⟩:=ho.sl.form;have HC:=Ab (HC.o.addOwnB hb ho hv).ownRow;clear ho hv hb;refine zqp hK ?_;clear hK K;refine wpAny_ready (rs:= [4,7]) (by decide+kernel) (by simp) ?_;refine AllReady.cons (o:=⟨some 19,.load 41 (.tmp 18),_,_,_,none⟩) rfl (λ K hK=>?_) (AllReady.cons (o:=⟨some 22,.buildSlice 41 1 #[(0,.tmp 21)],_,_,_,none⟩) rfl (λ K hK=>?_) AllReady.nil)
       . have cc:=(HC.o.zB p).cell 2;go_simp;refine zqp hK ?_;clear hK K;refine wpAny_ready (rs:= [7]) (by decide+kernel) (by simp) ?_;refine AllReady.cons (o:=⟨some 22,.buildSlice 41 1 #[(0,.tmp 21)],_,_,_,none⟩) rfl (λ K hK=>?_) AllReady.nil;go_simp;have HC:=Ab (HC.o.addBlk [.slice a6 b.length c6] 27);refine zqp hK ?_;clear hK K;refine wpAny_ready (rs:= [8]) (by decide+kernel) (by simp) ?_;refine AllReady.cons (o:=⟨some 23,.call { callee:=.builtin .append,args:=#[.tmp 19,.tmp 22],argTypes:=#[41,41] },_,_,_,none⟩) rfl (λ K hK=>?_) AllReady.nil;have hown:=HC.o.ownOf (e:=27) (sz:=1) (v:=.slice a0 sums.length c0) (n:=sums.length) (cs:=vs) (by simp);have hsl:Sl _ 1 (.slice (some ⟨w3.heap.size,0,none⟩) 1 1) 1 [.slice a6 b.length c6]:=((HC.o.zB w3.heap.size).own (aD _) (by simp [aV.oneCell']) (by unfold maxLen; simp)).sl;refine D3 rfl (.tmp 19) (.tmp 22) Gi rfl 0 (v:=.slice a0 sums.length c0) (by simp [Act.eval]) hown.1 hown.2 (u:=.slice (some ⟨w3.heap.size,0,none⟩) 1 1) (by simp [Act.eval]) hsl (by unfold maxLen; omega) (by omega) (aD _) ?_;intro v4 w4 ho hk hv;obtain ⟨a4,c4,rfl,_,_⟩:=ho.sl.form;have HC:=Ab (HC.o.pull5.append ho hk hv);clear ho hk hv hown hsl;refine zqp hK ?_;clear hK K;refine wpAny_take (i:=9) (oi:=⟨some 24,_,_,_,_,none⟩) (v:=.pointer (some ⟨p,0,none⟩)) rfl (by kernel_rfl) (by kernel_rfl) (by kernel_rfl) (λ _ _ _ h=>h) (Or.inl ⟨by rfl,by intro w; go_simp⟩) ?_;try go_frame
         refine wpAny_take (i:=10) (oi:=⟨some 25,_,_,_,_,none⟩) (v:=.pointer (some ⟨p,2,none⟩)) rfl (by kernel_rfl) (by kernel_rfl) (by kernel_rfl) (λ _ _ _ h=>h) (Or.inl ⟨by rfl,by intro w; go_simp⟩) ?_;try go_frame
         refine wpAny_ready (rs:= [11]) (by decide+kernel) (by simp) ?_;refine AllReady.cons (o:=⟨none,.store 41 (.tmp 25) (.tmp 23),_,_,_,none⟩) rfl (λ K hK=>?_) AllReady.nil;have hblk:=HC.o.zB p;have cc:=hblk.cell 2;have cf:=hblk.frozen 2;have ch:=hblk.lt;have HC:=Ab (HC.o.pull5.set 2 (.slice a4 (sums.length+1) c4));clear hblk;go_simp;refine zqp hK ?_;clear hK K;refine wpAny_done (by decide+kernel) ?_ _;have HC:=Ab (Dt (HC.o.front (m:= [.blk p [kv,bv,.slice a4 (sums.length+1) c4,mp] 148,.own 27 1 (.slice a4 (sums.length+1) c4) (sums.length+1) (vs++ [.slice a6 b.length c6]),.blk w3.heap.size [.slice a6 b.length c6] 27,.row (.slice a6 b.length c6) b,.blk q [.slice av b.length cv] 27,Bw vs sums]) [2,4,5,3,0,1] 6 (by decide)).tail.tail).push3;have HE:Hq ((sums++ [b]).length=sums.length+1):=Ab (by simp);go_wp2_with fail;refine (Oc sums.length (by omega) _).mono ?_;rintro e w7 ⟨rfl,hb⟩;have HN:=Ab (Blk.new w7 Bo 46);have HC:=Ab (HC.o.step hb);have HKL:Hq ((Ae (Bb 100 (sums.length+1))).length=16):=Ab (by rw [Ac,Ar]);unfold A1;clear hb;go_wp2_with ((with_reducible refine zws 6 34 ?_);refine Ag rfl (.tmp 6) (.tmp 34) Aq rfl rfl (vs:=Ae (Bb 100 (sums.length+1))) rfl HKL.o HN.o (aB _) (Al _) ?_);intro w8 h8 k8;have hb8:Below w7.heap.size w7 w8:=((aC _ _).alloc (aB _) _).trans (k8.below (by omega));have h8':Blk w8 w7.heap.size (Ae (Bb 100 (sums.length+1))) 46:=by simpa [Bo] using h8
         have hrow:Bs w8 (.slice (some ⟨w7.heap.size,0,none⟩) 16 16) (Bb 100 (sums.length+1)):=by
          have:=h8'.bs (off:=0) (n:=16) (cap:=16) (by rw [Ar]; decide) (aB _) (by unfold maxLen; decide);exact Sl.bs this (by simp [aE,Ar]) (Ar _ _)
         have HC:=Ab (HC.o.addRow hb8 hrow (λ k _ hk=>by simp [aV.ownBlock] at hk; omega));clear h8 h8' k8 hb8 hrow HN HKL;go_wp2_with fail;go_ret;refine ⟨w7.heap.size,rfl,?_⟩;rw [HT.o,HM.o];refine If (sv:=.slice a4 (sums.length+1) c4) (vs:=vs++ [.slice a6 b.length c6]) ?_;rw [HE.o];exact HC.o.push4
       . go_simp;have HC:=Ab (HC.o.addBlk [.slice a6 b.length c6] 27);refine zqp hK ?_;clear hK K;refine wpAny_ready (rs:= [4]) (by decide+kernel) (by simp) ?_;refine AllReady.cons (o:=⟨some 19,.load 41 (.tmp 18),_,_,_,none⟩) rfl (λ K hK=>?_) AllReady.nil;have cc:=(HC.o.zB p).cell 2;go_simp;refine zqp hK ?_;clear hK K;refine wpAny_ready (rs:= [8]) (by decide+kernel) (by simp) ?_;refine AllReady.cons (o:=⟨some 23,.call { callee:=.builtin .append,args:=#[.tmp 19,.tmp 22],argTypes:=#[41,41] },_,_,_,none⟩) rfl (λ K hK=>?_) AllReady.nil;have hown:=HC.o.ownOf (e:=27) (sz:=1) (v:=.slice a0 sums.length c0) (n:=sums.length) (cs:=vs) (by simp);have hsl:Sl _ 1 (.slice (some ⟨w3.heap.size,0,none⟩) 1 1) 1 [.slice a6 b.length c6]:=((HC.o.zB w3.heap.size).own (aD _) (by simp [aV.oneCell']) (by unfold maxLen; simp)).sl;refine D3 rfl (.tmp 19) (.tmp 22) Gi rfl 0 (v:=.slice a0 sums.length c0) (by simp [Act.eval]) hown.1 hown.2 (u:=.slice (some ⟨w3.heap.size,0,none⟩) 1 1) (by simp [Act.eval]) hsl (by unfold maxLen; omega) (by omega) (aD _) ?_;intro v4 w4 ho hk hv;obtain ⟨a4,c4,rfl,_,_⟩:=ho.sl.form;have HC:=Ab (HC.o.pull5.append ho hk hv);clear ho hk hv hown hsl;refine zqp hK ?_;clear hK K;refine wpAny_take (i:=9) (oi:=⟨some 24,_,_,_,_,none⟩) (v:=.pointer (some ⟨p,0,none⟩)) rfl (by kernel_rfl) (by kernel_rfl) (by kernel_rfl) (λ _ _ _ h=>h) (Or.inl ⟨by rfl,by intro w; go_simp⟩) ?_;try go_frame
         refine wpAny_take (i:=10) (oi:=⟨some 25,_,_,_,_,none⟩) (v:=.pointer (some ⟨p,2,none⟩)) rfl (by kernel_rfl) (by kernel_rfl) (by kernel_rfl) (λ _ _ _ h=>h) (Or.inl ⟨by rfl,by intro w; go_simp⟩) ?_;try go_frame
         refine wpAny_ready (rs:= [11]) (by decide+kernel) (by simp) ?_;refine AllReady.cons (o:=⟨none,.store 41 (.tmp 25) (.tmp 23),_,_,_,none⟩) rfl (λ K hK=>?_) AllReady.nil;have hblk:=HC.o.zB p;have cc:=hblk.cell 2;have cf:=hblk.frozen 2;have ch:=hblk.lt;have HC:=Ab (HC.o.pull5.set 2 (.slice a4 (sums.length+1) c4));clear hblk;go_simp;refine zqp hK ?_;clear hK K;refine wpAny_done (by decide+kernel) ?_ _;have HC:=Ab (Dt (HC.o.front (m:= [.blk p [kv,bv,.slice a4 (sums.length+1) c4,mp] 148,.own 27 1 (.slice a4 (sums.length+1) c4) (sums.length+1) (vs++ [.slice a6 b.length c6]),.blk w3.heap.size [.slice a6 b.length c6] 27,.row (.slice a6 b.length c6) b,.blk q [.slice av b.length cv] 27,Bw vs sums]) [2,4,5,3,0,1] 6 (by decide)).tail.tail).push3;have HE:Hq ((sums++ [b]).length=sums.length+1):=Ab (by simp);go_wp2_with fail;refine (Oc sums.length (by omega) _).mono ?_;rintro e w7 ⟨rfl,hb⟩;have HN:=Ab (Blk.new w7 Bo 46);have HC:=Ab (HC.o.step hb);have HKL:Hq ((Ae (Bb 100 (sums.length+1))).length=16):=Ab (by rw [Ac,Ar]);unfold A1;clear hb;go_wp2_with ((with_reducible refine zws 6 34 ?_);refine Ag rfl (.tmp 6) (.tmp 34) Aq rfl rfl (vs:=Ae (Bb 100 (sums.length+1))) rfl HKL.o HN.o (aB _) (Al _) ?_);intro w8 h8 k8;have hb8:Below w7.heap.size w7 w8:=((aC _ _).alloc (aB _) _).trans (k8.below (by omega));have h8':Blk w8 w7.heap.size (Ae (Bb 100 (sums.length+1))) 46:=by simpa [Bo] using h8
         have hrow:Bs w8 (.slice (some ⟨w7.heap.size,0,none⟩) 16 16) (Bb 100 (sums.length+1)):=by
          have:=h8'.bs (off:=0) (n:=16) (cap:=16) (by rw [Ar]; decide) (aB _) (by unfold maxLen; decide);exact Sl.bs this (by simp [aE,Ar]) (Ar _ _)
         have HC:=Ab (HC.o.addRow hb8 hrow (λ k _ hk=>by simp [aV.ownBlock] at hk; omega));clear h8 h8' k8 hb8 hrow HN HKL;go_wp2_with fail;go_ret;refine ⟨w7.heap.size,rfl,?_⟩;rw [HT.o,HM.o];refine If (sv:=.slice a4 (sums.length+1) c4) (vs:=vs++ [.slice a6 b.length c6]) ?_;rw [HE.o];exact HC.o.push4
end Go.Proofs.YtcnfaghcjlhoiaaGreat
namespace Go.Proofs.YtcnfaghcjlhoiaaGreat
open Go.RowKit Go.Maps
theorem A4x:Cp aA 145 261 18 40 (.agg (aI 16 (aV.int .u8 0)++ [aV.string ⟨#[]⟩,aV.bool false]).toArray):=by
 refine Cp.mk Tryz.underlying145 ?_ rfl (by decide)
 kernel_rfl
theorem Y8:Cp aA 146 255 18 48 (.agg (aI 16 (aV.int .u8 0)++ [aV.int .i64 0,aV.slice none 0 0]).toArray):=by
 refine Cp.mk Tryz.underlying146 ?_ rfl (by decide)
 kernel_rfl
theorem Hu:A3 aA 261 18:=A3.mk aF rfl (by kernel_rfl)
theorem F6:A3 aA 255 18:=A3.mk Tryz.underlying255 rfl (by kernel_rfl)
theorem Fk.cells_length (f:Fk):f.cells.length=18:=by simp [Fk.cells,Ac,f.hof]
theorem Fk.cells_one (f:Fk):∀u∈f.cells,u.oneCell'=true:=by
 intro u hu;rcases List.mem_append.1 hu with h | h
 . exact Al _ u h
 . simp at h; rcases h with rfl | rfl <;> rfl
def frC (ks:List Fk):List aV:=(ks.map Fk.cells).flatten
def Fu (p:Bx×aV):List aV:=Ae p.1.by_++ [.int .i64 p.1.usage,p.2]
def bxC (bs:List Bx) (vs:List aV):List aV:=((bs.zip vs).map Fu).flatten
structure A7t where
 kv:aV
 bv:aV
 sv:aV
 m:Nat
 vs:List aV
 bs:List aV
structure Oy (s:Sy):Prop where
 bx:∀b∈s.boxes,b.by_.length=16
 kn:∀x∈s.known,x.2.length=16
def knM (s:Sy):List (Fk×aV):=s.known.map λ x=>(x.1,A1 x.2)
def Dm (q:Nat) (s:Sy):Res:=.ex λ x:A7t=>.all [.pure (Oy s/\x.bs.length=s.boxes.length),.blk q [x.kv,x.bv,x.sv,.map (some x.m)] 148,.own 261 18 x.kv s.keys.length (frC s.keys),
 .own 255 18 x.bv s.boxes.length (bxC s.boxes x.bs),Bw x.bs (s.boxes.map Bx.body),.own 27 1 x.sv s.sums.length x.vs,Bw x.vs s.sums,Cj aA 261 frL x.m (knM s)]
theorem Cc {W:aW} {q:Nat} {s:Sy} {l:List Res} :Ad W (Dm q s::l)↔∃x:A7t,(Oy s/\x.bs.length=s.boxes.length)/\Ad W (.blk q [x.kv,x.bv,x.sv,.map (some x.m)] 148::.own 261 18 x.kv s.keys.length (frC s.keys):: .own 255 18 x.bv s.boxes.length (bxC s.boxes x.bs)::Bw x.bs (s.boxes.map Bx.body)::.own 27 1 x.sv s.sums.length x.vs::Bw x.vs s.sums::Cj aA 261 frL x.m (knM s)::l):=by
 unfold Dm;rw [Ad.ex];refine exists_congr λ x=>?_
 rw [Ad.app];exact Ad.pure
def pvR (q:Nat):PS->Res
 | .sym s=>Dm q s
def Kb (q:Nat) (s:PS) (b:Aa) (l:List Res) (e:Ending) (w':aW):Prop:=∃x,e=.returned x/\Ad w' (.row x b::pvR q s::l)
def A4j (q:Nat) (s:PS) (b:Aa) (l:List Res) (e:Ending) (w':aW):Prop:=∃x,e=.returned (.tuple #[x,.bool true])/\Ad w' (.row x b::pvR q s::l)
def pvT:PS->aX
 | .sym _=>33
def pvV (s:PS) (q:Nat):aV:=.iface (pvT s) (.pointer (some ⟨q,0,none⟩))
theorem Fy (s:PS) (k:Nat) (a:Addr) (n:String) (hn:n= "Fresh" \/n= "Text" \/n= "Derive" \/n= "Seal" \/n= "Open" \/n= "Digest") (w:aW):(nilAhead (k+1) (pvT s) (.pointer (some a)) n).run aA w=.ok (some false) w:=by
 rcases hn with rfl | rfl | rfl | rfl | rfl | rfl <;> cases s <;> kernel_rfl
def Dc:PS->FuncId | .sym _=>321
def Io:PS->FuncId | .sym _=>81
def Hi:PS->FuncId | .sym _=>319
def Rz:PS->FuncId | .sym _=>60
def In:PS->FuncId | .sym _=>322
def Im:PS->FuncId | .sym _=>320
theorem L6 (s:PS) (k:Nat) (a:Addr) (w:aW):(method (k+1) (pvT s) (.pointer (some a)) "Fresh").run aA w=.ok (Dc s,.pointer (some a)) w:=by cases s <;> kernel_rfl
theorem A3e (s:PS) (k:Nat) (a:Addr) (w:aW):(method (k+1) (pvT s) (.pointer (some a)) "Text").run aA w=.ok (Io s,.pointer (some a)) w:=by cases s <;> kernel_rfl
theorem A3S (s:PS) (k:Nat) (a:Addr) (w:aW):(method (k+1) (pvT s) (.pointer (some a)) "Derive").run aA w=.ok (Hi s,.pointer (some a)) w:=by cases s <;> kernel_rfl
theorem A6D (s:PS) (k:Nat) (a:Addr) (w:aW):(method (k+1) (pvT s) (.pointer (some a)) "Seal").run aA w=.ok (Rz s,.pointer (some a)) w:=by cases s <;> kernel_rfl
theorem Q9 (s:PS) (k:Nat) (a:Addr) (w:aW):(method (k+1) (pvT s) (.pointer (some a)) "Open").run aA w=.ok (In s,.pointer (some a)) w:=by cases s <;> kernel_rfl
theorem Vj (s:PS) (k:Nat) (a:Addr) (w:aW):(method (k+1) (pvT s) (.pointer (some a)) "Digest").run aA w=.ok (Im s,.pointer (some a)) w:=by cases s <;> kernel_rfl
end Go.Proofs.YtcnfaghcjlhoiaaGreat
