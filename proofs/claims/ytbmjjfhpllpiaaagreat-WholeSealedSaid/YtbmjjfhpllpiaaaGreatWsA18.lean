/- Texts of this proof, one behind the other: Top10, Ws1, Wk1, Wk2, Wk3, Mind, SyM, Wk5, KnA, KnC, KnD0. -/
import Derived.Test.YtbmjjfhpllpiaaaGreatWsA1
import Derived.Test.YtbmjjfhpllpiaaaGreatWsA2
import Derived.Test.YtbmjjfhpllpiaaaGreatWsA4
import Derived.Test.YtbmjjfhpllpiaaaGreatWsA7
import Derived.Test.YtbmjjfhpllpiaaaGreatWsA8
import Derived.Test.YtbmjjfhpllpiaaaGreatWsA15
import Derived.Test.YtbmjjfhpllpiaaaGreatWsA17
import Derived.Lib.SlBytesConst
import Derived.Deep.DeepCutAuto
set_option linter.unusedSimpArgs false
set_option linter.unusedVariables false
set_option maxRecDepth 100000
set_option maxHeartbeats 16000000
open Go.Proofs.Tryz renaming prog -> aA, underlying43 -> aE, underlying5 -> aY, underlying132 -> bF, func32 -> bG, ntmps32 -> bH
open Nat renaming le_refl -> aB, zero_le -> aH, le_trans -> bD, lt_of_lt_of_le -> bE, add_sub_cancel_left -> bM
open List renaming range -> aC, filter_cons -> aD, mem_cons_of_mem -> aF, mem_cons_self -> aG, length_cons -> aI, length_drop -> aJ, getElem?_eq_getElem -> aK, mem_of_getElem? -> aL, take_of_length_le -> aM, replicate -> aN, filter_append -> aO, drop_zero -> aP, mem_append_right -> aQ, mem_append_left -> aR, mem_cons -> aS, length_map -> aT, length_range -> aU, length_filter_le -> aV, getElem?_cons_zero -> aW, drop_succ_cons -> aX, cons_append -> aZ, append_nil -> bA, prefix_rfl -> bB, pairwise_map -> bC, range_succ -> bI, map_append -> bJ, length_take -> bK, not_mem_nil -> bL, mem_of_mem_take -> bN
open Go renaming Value -> bO, World -> bP, TypeId -> bQ, Calls -> bR, IntKind -> bS, Program -> bT, Oper -> bU
namespace Go.Proofs.YtbmjjfhpllpiaaaGreat
open Go.RowKit Go.Maps
theorem Cd {P:bT} {ops:Array bU} {o:bU} {a:Act} {w:bP} {K:Act->bP->Prop} {Q:Exit->Act->bP->Prop} {E:Prop} (v:bO) (w':bP) (hw:Region.wanted o (yielded ops a.tmps)=true) (hr:(execOp a.eval o).run P w=.ok (.value v) w') (h:K (a.put o.dst v) w'):if Region.wanted o (yielded ops a.tmps)=true then bU.wp P o a w K Q else E:=by
  rw [if_pos hw];unfold bU.wp;rw [hr];exact h
def hiB:List UInt8:= [104,105]
theorem Vk (l:List Res) (w:bP) (h:Ac w l): bR aA 4 #[] w λ e w'=>e=.returned (.bool true)/\Ac w' l:=by
  obtain ⟨s,hs⟩:∃s,s=PS.sym .nil:=⟨_,rfl⟩
  obtain ⟨m,hm⟩:∃m,m=Ga s:=⟨_,rfl⟩
  have hz:s.sz<=900:=by rw [hs]; decide
  have hsub:=(A0W s).subl;have hkn:=(A0W s).k9;rw [<-hm] at hsub hkn;have HSY:Hq (∀(W:bP) (l:List Res),Ac W l->bR aA 5 #[] W λ e w'=>∃q,e=.returned (.pointer (some ⟨q,0,none⟩))/\Ac w' (pvR q s::l)):=hqZ (λ W l h=>by
    rw [hs];exact Pn l W h)
  have HME:Hq (∀(q:Nat) (W:bP) (l:List Res),Ac W (pvR q s::l)->bR aA 6 #[.iface 24 (.pointer (some ⟨q,0,none⟩))] W λ e w'=>∃pp,e=.returned (.pointer (some ⟨pp,0,none⟩))/\Ac w' (Jm pp q m.sub m.talk::l)):=hqZ (λ q W l h=>by
    have:=Pp q s l W h hz;rw [<-hm] at this;rw [show pvV s q=.iface 24 (.pointer (some ⟨q,0,none⟩)) by rw [hs]; rfl] at this;exact this)
  have HPU:=hqZ (λ (p q o ii:Nat) (qa:Option Addr) (qc:Nat) (v:bO) (W:bP) (l:List Res) (h:Ac W (.blk p (Bf m.talk.s.knd q Av Aw 5 o ii (.slice qa 0 qc) 0 0 (.pointer none)) 205::.ownZ 145 2 (.slice qa 0 qc) 0 []::l)) (hv:∀W,Ac W l->Bs W v hiB)=>Nd p q o ii m.talk.s Av Aw 5 0 0 qa qc (.pointer none) v hiB l W h hv (by decide));have HSUB:=hqZ hsub;have HC:=hqZ h;have HSN:Hq (m.talk.L.length=8):=hqZ rfl;clear h hs hm hz hsub hkn;go_enter Tryz.func4,Tryz.ntmps4;go_upto_region 0 with fail;refine Ah ?_;refine zV ?_;refine wpList_nil ?_;go_upto_region 1 with fail;refine Ah ?_;refine Ad (λ K' k'=>?_);go_simp;refine (HSY.o _ _ (HC.o)).mono ?_;rintro e w1 ⟨q,rfl,hc⟩;have HC:=hqZ hc;clear hc;refine zqp k' ?_;clear k' K';refine zV ?_;refine Ad (λ K' k'=>?_);go_simp;refine (HME.o _ _ _ (HC.o)).mono ?_;rintro e w2 ⟨pp,rfl,hc⟩;have HC:=hqZ hc;clear hc;refine zqp k' ?_;clear k' K';refine zV ?_;refine wpList_nil ?_;obtain ⟨⟨ps,c0,c1,p0,p1,o0,i0,o1,i1⟩,qa,ra,qc,rc,h5⟩:=Md HC.o;simp only at h5;obtain ⟨sa,sc,vs,h5⟩:=Hw h5;rw [HSN.o] at h5;obtain ⟨PX,hPX⟩:∃x,x=Da ps c0 c1 (.pointer (some ⟨p0,0,none⟩)) (.pointer (some ⟨p1,0,none⟩)) m.sub (.slice sa 8 sc):=⟨_,rfl⟩
  rw [<-hPX] at h5;have HPXL:=hqZ (show PX.length=22 by rw [hPX]; exact G9 _ _ _ _ _ HSUB.o _);have HP3:Hq (PX[3]?=some (.pointer (some ⟨p0,0,none⟩))):=hqZ (by rw [hPX]; rfl);have HP21:Hq (PX[21]?=some (.slice sa 8 sc)):=hqZ (by rw [hPX]; exact Rk _ _ _ _ _ HSUB.o _);have HC:=hqZ h5;clear h5 hPX;go_upto_region 2 with fail;refine Ah ?_;(iterate 6 refine zV ?_);refine zL ?_;(iterate 8 refine zV ?_);refine zL ?_;refine Ad (λ K' k'=>?_);refine Cd (.slice (some ⟨w2.heap.size,0,none⟩) 2 2) (w2.alloc (.cells #[.int .u8 104,.int .u8 105] 5)) rfl (by go_simp; try rfl) ?_;refine zqp k' ?_;clear k' K';refine Ad (λ K' k'=>?_);refine Cd (.slice (some ⟨w2.heap.size,0,none⟩) 2 2) (w2.alloc (.cells #[.int .u8 104,.int .u8 105] 5 (2,3))) rfl (by have c:=Lib.run_convert_bytes_const (P:=aA) w2 29 5 #[.int .u8 104,.int .u8 105] 2 2 Tryz.underlying29 aY; unfold execOp; go_simp) ?_;have hbs:Bs (w2.alloc (.cells #[.int .u8 104,.int .u8 105] 5 (2,3))) (.slice (some ⟨w2.heap.size,0,none⟩) 2 2) hiB:=Bs.litM hiB rfl rfl (by simp [hiB,maxLen]);have HC:=hqZ (HC.o.addRow ((Below.refl w2.heap.size w2).alloc (aB _) _) hbs (λ k _ hk=>by simp [bO.ownBlock] at hk; omega));clear hbs;refine zqp k' ?_;clear k' K';refine Ad (λ K' k'=>?_);go_simp;refine (HPU.o _ _ _ _ _ _ _ _ _ (HC.o.zP [4,4]) (λ W hW=>hW.rowOf (by simp))).mono ?_;rintro e w3 ⟨qg,qo,qn,xa,xc,rfl,hc⟩;have HC:=hqZ hc;clear hc;refine zqp k' ?_;clear k' K';(iterate 3 refine zV ?_);refine wpList_nil ?_;go_wp2_with fail;go_ret;exact ⟨rfl,HC.o.tail.tail.tail.tail.tail.tail.tail.tail.tail.tail.tail.tail.tail.tail⟩
end Go.Proofs.YtbmjjfhpllpiaaaGreat
namespace Go.Proofs.YtbmjjfhpllpiaaaGreat
def Fa (b:List UInt8):Option (UInt8×Nat):=
  if b=Ao (b.getD 2 0) (Ec (b.drop 8))/\Ec (b.drop 8)<=1099511627776/\(b.getD 2 0=107\/b.getD 2 0=98\/b.getD 2 0=100) then some (b.getD 2 0,Ec (b.drop 8)) else none
theorem A2r (n:Nat) (h:n<256 ^ 8):Ec (Db n)=n:=by
  have:=Mv n h;unfold Fp at this;rw [Cc,if_neg (by decide)] at this;exact (Prod.mk.inj this).1
theorem F8 {b:List UInt8} {k:UInt8} {n:Nat} :Fa b=some (k,n)↔b=Ao k n/\n<=1099511627776/\(k=107\/k=98\/k=100):=by
  constructor
  · intro h;unfold Fa at h;split at h
    · rename_i hc;simp only [Option.some.injEq,Prod.mk.injEq] at h;obtain ⟨rfl,rfl⟩:=h;exact hc
    · cases h
  · rintro ⟨rfl,h2,h3⟩;have e1:(Ao k n).getD 2 0=k:=rfl;have e2:Ec ((Ao k n).drop 8)=n:=A2r n (by omega);unfold Fa;rw [e1,e2,if_pos ⟨rfl,h2,h3⟩]
theorem Z8 {b:List UInt8} (h:(Fa b).isSome=true):b.length=16:=by
  obtain ⟨⟨k,n⟩,h⟩:=Option.isSome_iff_exists.1 h;rw [(F8.1 h).1,An]
def C1:List UInt8->List (List UInt8)
  | []=> []
  | x::xs=>if (Fa ((x::xs).take 16)).isSome=true then (x::xs).take 16::C1 xs else C1 xs
theorem Jb {m:List UInt8} :∀ {b:List UInt8},m∈C1 b->∃k n,m=Ao k n/\n<=1099511627776/\(k=107\/k=98\/k=100)
  | [],h=>by cases h
  | x::xs,h=>by
    unfold C1 at h;split at h
    · rename_i hs;rcases List.mem_cons.1 h with rfl | h
      · obtain ⟨⟨k,n⟩,hk⟩:=Option.isSome_iff_exists.1 hs;exact ⟨k,n,F8.1 hk⟩
      · exact Jb h
    · exact Jb h
theorem E9 {x:UInt8} {xs:List UInt8} (h:¬(x=255/\xs.head?=some 254)):C1 (x::xs)=C1 xs:=by
  rw [C1,if_neg];intro hs;obtain ⟨⟨k,n⟩,hk⟩:=Option.isSome_iff_exists.1 hs;have e:=(F8.1 hk).1
  cases xs with
  | nil=>simp [Ao] at e
  | cons y ys=>
    simp [Ao] at e;exact h ⟨e.1,by simp [e.2.1]⟩
def Hu (b:List UInt8):List (List UInt8):=(C1 b).filter λ m=>decide (m.getD 2 0=107)
def De (b:List UInt8):List (List UInt8):=(C1 b).filter λ m=>decide (m.getD 2 0=98)
def Ey:List UInt8->Bool
  | []=>true
  | x::xs=>(decide (x≠255)||(decide (xs.head?=some 254)&&(decide (xs.tail.head?=some 98)||decide (xs.tail.head?=some 100))))&&Ey xs
theorem Po:∀ {b:List UInt8},Ey b=true->Hu b= []
  | [],_=>rfl
  | x::xs,h=>by
    unfold Ey at h;simp only [Bool.and_eq_true,Bool.or_eq_true,decide_eq_true_eq] at h;have ih:=Po h.2;unfold Hu at ih ⊢;unfold C1;split
    · rename_i hs;obtain ⟨⟨k,n⟩,hk⟩:=Option.isSome_iff_exists.1 hs;have e:=(F8.1 hk).1;rw [aD,if_neg,ih];rw [e];show ¬decide (k=107)=true
      intro hk7;have hk7:k=107:=of_decide_eq_true hk7
      match xs,e,h.1 with
      | [],e,_=>simp [Ao] at e
      | [_],e,_=>simp [Ao] at e
      | y::z::ys,e,h1=>
        simp [Ao] at e;rcases h1 with h1 | ⟨_,h1⟩
        · exact h1 e.1
        · have hz:z=k:=e.2.2.1;rw [hk7] at hz;simp [hz] at h1
    · exact ih
theorem Yi {a b:List UInt8} (h:∀x∈a,x≠255):Ey (a++b)=Ey b:=by
  induction a with
  | nil=>rfl
  | cons x a ih=>
    rw [aZ,Ey,ih λ y hy=>h y (aF _ hy)];simp [h x aG]
theorem A1L {a:List UInt8} (h:∀x∈a,x≠255):Ey a=true:=by
  rw [<-bA a,Yi h];rfl
theorem Yk:∀ {u v:List UInt8},Ey (u++255::255::v)=false
  | [],v=>by simp [Ey]
  | x::u,v=>by rw [aZ,Ey,Yk,Bool.and_false]
structure Mi where
  keys:List (List UInt8)
  boxes:List (List UInt8)
  opens:List (List UInt8)
  all:List (List UInt8)
def Mi.nil:Mi:=⟨[], [], [], []⟩
def Mi.take (M:Mi) (b:List UInt8):Mi:=⟨Hu b++M.keys,De b++M.boxes,M.opens,M.all++ [b]⟩
def Mi.opened (M:Mi) (i:Nat) (bx:Bx):Mi:=({ M with opens:=Ao 98 (i+1)::M.opens }).take bx.body
inductive Mi.Step (T:Sy):Mi->Mi->Prop
  | box {M:Mi} (i:Nat) (bx:Bx) (hb:T.boxes[i]?=some bx) (h1:Ao 98 (i+1)∈M.boxes) (h2:Ao 98 (i+1)∉M.opens) (h3:bx.by_∈M.keys):Mi.Step T M (M.opened i bx)
  | key {M:Mi} (j:Nat) (f:Fk) (hf:T.keys[j]?=some f) (h1:Ao 107 (j+1)∉M.keys) (h2:f.of_≠zk) (h3:f.of_∈M.keys):Mi.Step T M { M with keys:=Ao 107 (j+1)::M.keys }
inductive Mi.Steps (T:Sy):Mi->Mi->Prop
  | refl (M:Mi):Mi.Steps T M M
  | tail {M M' M'':Mi} (h:Mi.Steps T M M') (s:Mi.Step T M' M''):Mi.Steps T M M''
theorem Mi.Steps.trans {T:Sy} {M M' M'':Mi} (h:Mi.Steps T M M') (k:Mi.Steps T M' M''):Mi.Steps T M M'':=by
  induction k with
  | refl=>exact h
  | tail _ s ih=>exact ih.tail s
structure Mi.Closed (T:Sy) (M:Mi):Prop where
  box:∀(i:Nat) (bx:Bx),T.boxes[i]?=some bx->Ao 98 (i+1)∈M.boxes->bx.by_∈M.keys->Ao 98 (i+1)∈M.opens
  key:∀(j:Nat) (f:Fk),T.keys[j]?=some f->f.of_≠zk->f.of_∈M.keys->Ao 107 (j+1)∈M.keys
structure Mi.Le (M M':Mi):Prop where
  keys:∀k,k∈M.keys->k∈M'.keys
  boxes:∀k,k∈M.boxes->k∈M'.boxes
  opens:∀k,k∈M.opens->k∈M'.opens
  all:∀k,k∈M.all->k∈M'.all
theorem Mi.Le.refl (M:Mi):M.Le M:=⟨λ _ h=>h,λ _ h=>h,λ _ h=>h,λ _ h=>h⟩
theorem Mi.Le.trans {A B C:Mi} (h:A.Le B) (k:B.Le C):A.Le C:=⟨λ x hx=>k.keys x (h.keys x hx),λ x hx=>k.boxes x (h.boxes x hx),λ x hx=>k.opens x (h.opens x hx),λ x hx=>k.all x (h.all x hx)⟩
theorem Mi.take_le (M:Mi) (b:List UInt8):M.Le (M.take b):=
  ⟨λ _ h=>aQ _ h,λ _ h=>aQ _ h,λ _ h=>h,λ _ h=>aR _ h⟩
theorem Mi.opened_le (M:Mi) (i:Nat) (bx:Bx):M.Le (M.opened i bx):=
  Mi.Le.trans (B:= { M with opens:=Ao 98 (i+1)::M.opens }) ⟨λ _ h=>h,λ _ h=>h,λ _ h=>aF _ h,λ _ h=>h⟩ (Mi.take_le { M with opens:=Ao 98 (i+1)::M.opens } bx.body)
theorem Mi.Step.le {T:Sy} {M M':Mi} (h:Mi.Step T M M'):M.Le M':=by
  cases h with
  | box i bx _ _ _ _=>exact M.opened_le i bx
  | key j f _ _ _ _=>exact ⟨λ _ h=>aF _ h,λ _ h=>h,λ _ h=>h,λ _ h=>h⟩
theorem Mi.Steps.le {T:Sy} {M M':Mi} (h:Mi.Steps T M M'):M.Le M':=by
  induction h with
  | refl=>exact Mi.Le.refl _
  | tail _ s ih=>exact ih.trans s.le
def Mi.Inv (T:Sy) (M:Mi):Prop:=∀(i:Nat) (bx:Bx),T.boxes[i]?=some bx->Ao 98 (i+1)∈M.opens->bx.body∈M.all/\(∀k,k∈Hu bx.body->k∈M.keys)/\∀k,k∈De bx.body->k∈M.boxes
theorem Ma {k:UInt8} {a b:Nat} (ha:a<256 ^ 8) (hb:b<256 ^ 8) (h:Ao k a=Ao k b):a=b:=by
  unfold Ao at h;exact A1G ha hb (by simpa using h)
theorem Mi.Step.inv {T:Sy} {M M':Mi} (h:Mi.Step T M M') (hT:T.boxes.length<1099511627776) (hi:M.Inv T):M'.Inv T:=by
  have hle:=h.le;have mono:∀(i:Nat) (bx:Bx),T.boxes[i]?=some bx->Ao 98 (i+1)∈M.opens->bx.body∈M'.all/\(∀k,k∈Hu bx.body->k∈M'.keys)/\∀k,k∈De bx.body->k∈M'.boxes:=λ i bx hb hm=>
    ⟨hle.all _ (hi i bx hb hm).1,λ k hk=>hle.keys _ ((hi i bx hb hm).2.1 k hk),λ k hk=>hle.boxes _ ((hi i bx hb hm).2.2 k hk)⟩
  cases h with
  | box i bx hb h1 h2 h3=>
    intro i' bx' hb' hm;have hm:Ao 98 (i'+1)∈Ao 98 (i+1)::M.opens:=hm;rcases List.mem_cons.1 hm with e | hm
    · have l1:=(List.getElem?_eq_some_iff.1 hb).1;have l2:=(List.getElem?_eq_some_iff.1 hb').1
      have:=Ma (by omega) (by omega) e;obtain rfl:i'=i:=by omega
      rw [hb] at hb';obtain rfl:=Option.some.inj hb';exact ⟨aQ _ (List.mem_singleton.2 rfl),λ k hk=>aR _ hk,λ k hk=>aR _ hk⟩
    · exact mono i' bx' hb' hm
  | key j f _ _ _ _=>
    intro i' bx' hb' hm;exact mono i' bx' hb' hm
theorem Mi.Steps.inv {T:Sy} {M M':Mi} (h:Mi.Steps T M M') (hT:T.boxes.length<1099511627776) (hi:M.Inv T):M'.Inv T:=by
  induction h with
  | refl=>exact hi
  | tail _ s ih=>exact s.inv hT ih
theorem Mi.Steps.none {T:Sy} {M M':Mi} (h:Mi.Steps T M M') (hk:M.keys= []):M'=M:=by
  induction h with
  | refl=>rfl
  | tail _ s ih=>
    subst ih
    cases s with
    | box i bx _ _ _ h3=>rw [hk] at h3; cases h3
    | key j f _ _ _ h3=>rw [hk] at h3; cases h3
inductive Kn (T:Sy) (B:List (List UInt8)) (k0:List UInt8):List UInt8->Prop
  | base:Kn T B k0 k0
  | der (j:Nat) (f:Fk) (hf:T.keys[j]?=some f) (hz:f.of_≠zk) (h:Kn T B k0 f.of_):Kn T B k0 (Ao 107 (j+1))
  | box (i:Nat) (bx:Bx) (k:List UInt8) (hb:T.boxes[i]?=some bx) (hm:Ao 98 (i+1)∈B) (h:Kn T B k0 bx.by_) (hk:k∈Hu bx.body):Kn T B k0 k
theorem Kn.known {T:Sy} {B:List (List UInt8)} {k0 k:List UInt8} {M:Mi} (h:Kn T B k0 k) (hc:M.Closed T) (hi:M.Inv T) (hB:∀m∈B,m∈M.boxes) (h0:k0∈M.keys):k∈M.keys:=by
  induction h with
  | base=>exact h0
  | der j f hf hz _ ih=>exact hc.key j f hf hz ih
  | box i bx k hb hm _ hk ih=>exact (hi i bx hb (hc.box i bx hb (hB _ hm) ih)).2.1 k hk
theorem Kn.heard {T:Sy} {B:List (List UInt8)} {k0:List UInt8} {M:Mi} {i:Nat} {bx:Bx} (hb:T.boxes[i]?=some bx) (hm:Ao 98 (i+1)∈B) (h:Kn T B k0 bx.by_) (hc:M.Closed T) (hi:M.Inv T) (hB:∀m∈B,m∈M.boxes) (h0:k0∈M.keys):bx.body∈M.all:=
  (hi i bx hb (hc.box i bx hb (hB _ hm) (h.known hc hi hB h0))).1
structure Sy.Le (T T':Sy):Prop where
  keys:T.keys <+:T'.keys
  boxes:T.boxes <+:T'.boxes
theorem Sy.Le.refl (T:Sy):T.Le T:=⟨bB,bB⟩
theorem Sy.Le.trans {A B C:Sy} (h:A.Le B) (k:B.Le C):A.Le C:=⟨h.keys.trans k.keys,h.boxes.trans k.boxes⟩
theorem Ht {α:Type} {a b:List α} (h:a <+:b) {i:Nat} {x:α} (hx:a[i]?=some x):b[i]?=some x:=by
  obtain ⟨c,rfl⟩:=h;rw [List.getElem?_append_left (List.getElem?_eq_some_iff.1 hx).1];exact hx
theorem Kn.mono {T T':Sy} {B B':List (List UInt8)} {k0 k:List UInt8} (h:Kn T B k0 k) (hT:T.Le T') (hB:∀m∈B,m∈B'):Kn T' B' k0 k:=by
  induction h with
  | base=>exact .base
  | der j f hf hz _ ih=>exact .der j f (Ht hT.keys hf) hz ih
  | box i bx k hb hm _ hk ih=>exact .box i bx k (Ht hT.boxes hb) (hB _ hm) ih hk
end Go.Proofs.YtbmjjfhpllpiaaaGreat
namespace Go.Proofs.YtbmjjfhpllpiaaaGreat
open Go.RowKit Go.Maps
theorem A4w:43<Tryz.prog.types.size:=of_decide_eq_true (by kernel_rfl)
theorem A5y:WideMaps.KeyLaw aA 43:=deep_law (m:=2) (by omega) (by kernel_rfl) (by kernel_rfl) (by rw [aE])
theorem P6:Keyed aA 43:=Keyed.of_law A5y
abbrev KK:= {l:List UInt8 // l.length=16}
def A4P (k:List UInt8):List Lit:=k.map λ b=>.int .u8 (b.toNat:Int)
def kkL (k:KK):Lit:=.string (keyBytes (A4P k.1))
def kkV (k:KK):bO:=.agg (Ab k.1).toArray
theorem A2B (k:KK):keyOf aA 43 (kkV k)=some (kkL k):=by
  have hkt:Tryz.prog.keyType 43=true:=by kernel_rfl
  have hsz:Tryz.prog.cellsOf 43=16:=by kernel_rfl
  obtain ⟨m,hm⟩:∃m,Tryz.prog.types.size=m+1:=⟨Tryz.prog.types.size-1,by have:=A4w; omega⟩
  have hlc:(Ab k.1).length=16:=by rw [Aa,k.2]
  unfold keyOf kkV;simp only [aE];rw [if_pos (by simp [hkt,bO.formed,aE,hsz,hlc]),hm];simp only [bO.cells];rw [Im m k.1 k.2];rfl
theorem Xg {α β:Type} {f:α->Option β} :∀ {l:List α} {r:List β},l.mapM f=some r->∀x∈l,∃y,f x=some y
  | [],_,_,x,hx=>by cases hx
  | a::l,r,h,x,hx=>by
    rw [List.mapM_cons] at h
    cases ha:f a with
    | none=>simp [ha] at h
    | some y=>
      cases hl:l.mapM f with
      | none=>simp [ha,hl] at h
      | some s=>
        rcases List.mem_cons.1 hx with rfl | hx
        · exact ⟨y,ha⟩
        · exact Xg hl x hx
theorem Ow:∀cs:List bO,(∀i,i<cs.length->∃b:UInt8,cs[i]?=some (bV b))->∃k,cs=Ab k
  | [],_=>⟨[],rfl⟩
  | c::cs,h=>by
    obtain ⟨b,hb⟩:=h 0 (by simp);obtain ⟨k,rfl⟩:=Ow cs λ i hi=>by
      obtain ⟨b,hb⟩:=h (i+1) (by simp; omega);exact ⟨b,by simpa using hb⟩
    simp at hb;exact ⟨b::k,by rw [hb]; rfl⟩
theorem A4k {m:Nat} {c:bO} {ls:List Lit} (h:Tryz.prog.keyLits (m+1) 5 [c]=some ls):∃b:UInt8,c=bV b:=by
  unfold bT.keyLits at h;simp only [aY] at h
  cases c with
  | int q n=>
    simp only at h;by_cases hw:q=bS.u8/\(Lit.int .u8 n).wf=true
    · obtain ⟨rfl,hw⟩:=hw;have hw2:0<=n/\n<=255:=by
        have e1:bS.u8.min=0:=rfl;have e2:bS.u8.max=255:=by decide
        rw [Lit.wf,Bool.and_eq_true,decide_eq_true_eq,decide_eq_true_eq,e1,e2] at hw;exact hw
      refine ⟨UInt8.ofNat n.toNat,?_⟩;unfold bV;congr 1;rw [UInt8.toNat_ofNat'];omega
    · rw [if_neg hw] at h
      cases h
  | _=>cases h
theorem A4Q {key:bO} {kl:Lit} (h:keyOf aA 43 key=some kl):∃s:KK,key=kkV s/\kl=kkL s:=by
  have hsz:Tryz.prog.cellsOf 43=16:=by kernel_rfl
  have c1:Tryz.prog.cellsOf 5=1:=by kernel_rfl
  obtain ⟨m,hm⟩:∃m,Tryz.prog.types.size=m+1:=⟨Tryz.prog.types.size-1,by have:=A4w; omega⟩
  suffices hk:∃k:List UInt8,k.length=16/\key=.agg (Ab k).toArray by
    obtain ⟨k,hl,rfl⟩:=hk;refine ⟨⟨k,hl⟩,rfl,?_⟩
    have:=A2B ⟨k,hl⟩;unfold kkV at this;rw [this] at h;exact (Option.some.inj h).symm
  have h2:=h;unfold keyOf at h2;simp only [aE] at h2;split at h2
  · rename_i hf;simp only [Bool.and_eq_true] at hf;obtain ⟨_,hf⟩:=hf
    cases key with
    | agg cs=>
      simp only [bO.formed,aE,hsz,beq_iff_eq] at hf;rw [hm] at h2;simp only [bO.cells] at h2;unfold bT.keyLits at h2;simp only [aE] at h2;rw [if_pos (by rw [hsz]; simpa using hf)] at h2;simp only [c1] at h2;have hl:cs.toList.length=16:=by simpa using hf
      cases hmm:(aC 16).mapM λ i=>Tryz.prog.keyLits (m+1) 5 ((cs.toList.drop (i*1)).take 1) with
      | none=>
        rw [hmm] at h2
        cases h2
      | some r=>
        have hall:=Xg hmm;obtain ⟨k,hk⟩:=Ow cs.toList λ i hi=>by
          obtain ⟨y,hy⟩:=hall i (List.mem_range.2 (by omega));rw [Nat.mul_one,List.drop_eq_getElem_cons hi] at hy;obtain ⟨b,hb⟩:=A4k hy;exact ⟨b,by rw [aK hi,hb]⟩
        exact ⟨k,by rw [<-Aa,<-hk]; exact hl,by rw [<-hk]⟩
    | _=>simp [bO.formed,aE] at hf
  · cases h2
theorem A3C {a b:KK} (e:kkL a=kkL b):a=b:=by
  have e2:=keyLits_inj (Im 0 a.1 a.2) (Im 0 b.1 b.2) (by unfold kkL at e; injection e);refine Subtype.ext ((List.map_inj_right (λ x y hxy=>?_)).1 e2);simp only [Lit.int.injEq,true_and] at hxy;exact UInt8.toNat_inj.1 (by omega)
theorem W8:Nu kkL:=by
  intro a b;by_cases h:a=b
  · subst h;simp [Lit.sameKey,kkL]
  · have:¬kkL a=kkL b:=λ e=>h (A3C e)
    simp only [h,decide_false];unfold kkL at this ⊢;simp only [Lit.string.injEq] at this;simp [Lit.sameKey,this]
def ksM (U:List (KK×Unit)):List (KK×bO):=U.map λ x=>(x.1,bO.bool true)
theorem A3G (U:List (KK×Unit)) (k:KK):G6 (ksM U) k (.bool false)=.bool (Ej U k):=by
  cases h:Ej U k with
  | true=>
    have h2:Ej (ksM U) k=true:=by rw [ksM,Kk (λ _=>bO.bool true)]; exact h
    have:=Gk h2 (.bool false);unfold ksM at this ⊢;obtain ⟨x,_,hx⟩:=List.mem_map.1 this;injection hx with _ hx;exact hx.symm
  | false=>
    have h2:Ej (ksM U) k=false:=by rw [ksM,Kk (λ _=>bO.bool true)]; exact h
    rw [Mw h2]
theorem A3I (U:List (KK×Unit)) (k:KK):If (ksM U) k (.bool true)=ksM (If U k ()):=Xr (λ _=>bO.bool true) U k ()
theorem A3H (U:List (KK×Unit)) (k:KK):Ej (ksM U) k=Ej U k:=Kk (λ _=>bO.bool true) U k
def InS (U:List (KK×Unit)) (S:List (List UInt8)):Prop:=∀k:KK,Ej U k=true↔k.1∈S
theorem InS.get {U:List (KK×Unit)} {S:List (List UInt8)} (h:InS U S) (k:KK):G6 (ksM U) k (.bool false)=.bool (decide (k.1∈S)):=by
  rw [A3G];congr 1
  have:=h k;by_cases hk:k.1∈S
  · simp [hk,this.2 hk]
  · simp [hk]
    cases hh:Ej U k with
    | false=>rfl
    | true=>exact absurd (this.1 hh) hk
theorem InS.put {U:List (KK×Unit)} {S:List (List UInt8)} (h:InS U S) (k:KK):InS (If U k ()) (k.1::S):=by
  intro j;rw [Q2,Bool.or_eq_true,decide_eq_true_eq,h j,aS];exact ⟨λ h=>h.imp (λ e=>by rw [e]) id,λ h=>h.imp (λ e=>Subtype.ext e.symm) id⟩
theorem InS.congr {U:List (KK×Unit)} {S S':List (List UInt8)} (h:InS U S) (hs:∀k:KK,k.1∈S↔k.1∈S'):InS U S':=λ k=>(h k).trans (hs k)
def Few (S:List (List UInt8)):Prop:=∃K:List (List UInt8),K.length<maxLen/\∀k∈S,k∈K
theorem Tj {α:Type} [DecidableEq α]:∀ {l K:List α},l.Nodup->(∀x∈l,x∈K)->l.length<=K.length
  | [],_,_,_=>aH _
  | a::l,K,hd,hs=>by
    have ha:=hs a aG;have h1:=List.nodup_cons.1 hd
    have:=Tj (l:=l) (K:=K.erase a) h1.2 λ x hx=>(List.mem_erase_of_ne (λ e=>h1.1 (by rw [<-e]; exact hx))).2 (hs x (aF _ hx))
    rw [List.length_erase_of_mem ha] at this;have hp:0<K.length:=List.length_pos_of_mem ha;simp only [aI];omega
theorem InS.few {U:List (KK×Unit)} {S:List (List UInt8)} (h:InS U S) (hd:(ksM U).Pairwise λ x y=>x.1≠y.1) (hf:Few S):(ksM U).length<maxLen:=by
  obtain ⟨K,h1,h2⟩:=hf;have hn:(U.map λ x=>x.1.1).Nodup:=by
    unfold ksM at hd;rw [bC] at hd;unfold List.Nodup;rw [bC];exact hd.imp λ hxy e=>hxy (Subtype.ext e)
  have:=Tj hn (K:=K) λ x hx=>by
    obtain ⟨y,hy,rfl⟩:=List.mem_map.1 hx;exact h2 _ ((h y.1).1 (by unfold Ej; exact List.any_eq_true.2 ⟨y,hy,by simp⟩))
  unfold ksM;rw [aT] at this ⊢;omega
def D5 (b:Nat) (S:List (List UInt8)):Res:=.ex λ U:List (KK×Unit)=>.all [.pure (InS U S),N5 aA 43 kkL b (ksM U)]
theorem Gq {W:bP} {b:Nat} {S:List (List UInt8)} {l:List Res} :Ac W (D5 b S::l)↔∃U:List (KK×Unit),InS U S/\Ac W (N5 aA 43 kkL b (ksM U)::l):=by
  unfold D5;rw [Ac.ex];refine exists_congr λ x=>?_
  rw [Ac.app];exact Ac.pure
theorem Rv {W:bP} {b:Nat} {S S':List (List UInt8)} {l:List Res} (h:Ac W (D5 b S::l)) (hs:∀k:KK,k.1∈S↔k.1∈S'):Ac W (D5 b S'::l):=by
  obtain ⟨U,h1,h2⟩:=Gq.1 h;exact Gq.2 ⟨U,h1.congr hs,h2⟩
theorem A1J {W:bP} {l:List Res} (h:Ac W l):Ac (W.alloc (.map #[] 0)) (D5 W.heap.size []::l):=
  Gq.2 ⟨[],λ k=>by simp [Ej],h.mapVMade _ _ _⟩
theorem Jy.pw {P:bT} {α:Type} {kL:α->Lit} {k:bQ} {W:bP} {b:Nat} {M:List (α×bO)} (h:Jy P k kL W b M):M.Pairwise λ x y=>x.1≠y.1:=by
  obtain ⟨D,hd,_⟩:=h;exact hd.1
theorem A5i (u:bP):(zeroValue 4).run aA u=.ok (.bool false) u:=by kernel_rfl
end Go.Proofs.YtbmjjfhpllpiaaaGreat
namespace Go.Proofs.YtbmjjfhpllpiaaaGreat
def Pq (c:UInt8) (k:List UInt8):Prop:=∃n,n<=1099511627776/\k=Ao c n
theorem Ur {c:UInt8} {S:List (List UInt8)} (h:∀k∈S,Pq c k):Few S:=
  ⟨(aC 1099511627777).map (Ao c),by rw [aT,aU]; unfold maxLen; decide,λ k hk=>by
    obtain ⟨n,hn,rfl⟩:=h k hk;exact List.mem_map.2 ⟨n,List.mem_range.2 (by omega),rfl⟩⟩
theorem A1u {b k:List UInt8} (h:k∈Hu b):Pq 107 k:=by
  unfold Hu at h;obtain ⟨h1,h2⟩:=List.mem_filter.1 h;obtain ⟨c,n,rfl,hn,_⟩:=Jb h1;exact ⟨n,hn,by rw [show c=107 from of_decide_eq_true h2]⟩
theorem A1n {b k:List UInt8} (h:k∈De b):Pq 98 k:=by
  unfold De at h;obtain ⟨h1,h2⟩:=List.mem_filter.1 h;obtain ⟨c,n,rfl,hn,_⟩:=Jb h1;exact ⟨n,hn,by rw [show c=98 from of_decide_eq_true h2]⟩
structure Mi.Ok (M:Mi):Prop where
  keys:∀k∈M.keys,Pq 107 k
  boxes:∀k∈M.boxes,Pq 98 k
  opens:∀k∈M.opens,Pq 98 k
theorem Mi.Ok.nil:Mi.Ok .nil:=⟨λ _ h=>(by cases h),λ _ h=>(by cases h),λ _ h=>(by cases h)⟩
theorem Mi.Ok.take {M:Mi} (h:M.Ok) (b:List UInt8):(M.take b).Ok:=
  ⟨λ k hk=>(List.mem_append.1 hk).elim A1u (h.keys k),λ k hk=>(List.mem_append.1 hk).elim A1n (h.boxes k),h.opens⟩
theorem Mi.Ok.learn {M:Mi} (h:M.Ok) {k:List UInt8} (hk:Pq 107 k):Mi.Ok { M with keys:=k::M.keys } :=
  ⟨λ x hx=>(List.mem_cons.1 hx).elim (λ e=>by rw [e]; exact hk) (h.keys x),h.boxes,h.opens⟩
theorem Mi.Ok.opened {M:Mi} (h:M.Ok) {i:Nat} (hi:i<1099511627776) (bx:Bx):(M.opened i bx).Ok:=
  Mi.Ok.take (M:= { M with opens:=Ao 98 (i+1)::M.opens }) ⟨h.keys,h.boxes,λ x hx=>(List.mem_cons.1 hx).elim (λ e=>⟨i+1,by omega,e⟩) (h.opens x)⟩ _
theorem Mi.Step.ok {T:Sy} {M M':Mi} (s:Mi.Step T M M') (h:M.Ok) (hb:T.boxes.length<1099511627776) (hk:T.keys.length<1099511627776):M'.Ok:=by
  cases s with
  | box i bx h0 _ _ _=>exact h.opened (by have:=(List.getElem?_eq_some_iff.1 h0).1; omega) bx
  | key j f h0 _ _ _=>exact h.learn ⟨j+1,by have:=(List.getElem?_eq_some_iff.1 h0).1; omega,rfl⟩
theorem Mi.Steps.ok {T:Sy} {M M':Mi} (s:Mi.Steps T M M') (h:M.Ok) (hb:T.boxes.length<1099511627776) (hk:T.keys.length<1099511627776):M'.Ok:=by
  induction s with
  | refl=>exact h
  | tail _ s ih=>exact s.ok ih hb hk
theorem Mi.Steps.boxes {T:Sy} {M M':Mi} (s:Mi.Steps T M M') (hn:∀bx∈T.boxes,De bx.body= []):M'.boxes=M.boxes:=by
  induction s with
  | refl=>rfl
  | tail _ s ih=>
    rw [<-ih]
    cases s with
    | box i bx h0 _ _ _=>
      show De bx.body++_=_
      rw [hn bx (aL h0)];rfl
    | key j f h0 _ _ _=>rfl
def Mi.left (T:Sy) (M:Mi):Nat:=((aC T.boxes.length).filter λ i=>decide (Ao 98 (i+1)∉M.opens)).length+((aC T.keys.length).filter λ j=>decide (Ao 107 (j+1)∉M.keys)).length
theorem Lb {α:Type} {p q:α->Bool} :∀ {l:List α},(∀x∈l,p x=true->q x=true)->(l.filter p).length<=(l.filter q).length
  | [],_=>aB _
  | a::l,h=>by
    have ih:=Lb (l:=l) λ x hx=>h x (aF _ hx)
    have ha:=h a aG;rw [aD,aD]
    cases hp:p a with
    | true=>
      rw [ha hp,if_pos rfl,if_pos rfl];simp only [aI];omega
    | false=>
      rw [if_neg (by simp)];split
      · simp only [aI]; omega
      · exact ih
theorem N2 {α:Type} {p q:α->Bool} :∀ {l:List α},(∀x∈l,p x=true->q x=true)->(∃x∈l,p x=false/\q x=true)->(l.filter p).length< (l.filter q).length
  | [],_,⟨_,hx,_⟩=>by cases hx
  | a::l,h,⟨x,hx,h1,h2⟩=>by
    have hl:∀x∈l,p x=true->q x=true:=λ x hx=>h x (aF _ hx)
    have ha:=h a aG;rw [aD,aD];rcases List.mem_cons.1 hx with rfl | hx
    · rw [h1,h2,if_neg (by simp),if_pos rfl]
      have:=Lb hl;simp only [aI];omega
    · have ih:=N2 hl ⟨x,hx,h1,h2⟩
      cases hp:p a with
      | true=>
        rw [ha hp,if_pos rfl,if_pos rfl];simp only [aI];omega
      | false=>
        rw [if_neg (by simp)];split
        · simp only [aI]; omega
        · exact ih
theorem Mi.Step.left {T:Sy} {M M':Mi} (s:Mi.Step T M M'):M'.left T<M.left T:=by
  have h:=s.le;unfold Mi.left;have h1:=Lb (l:=aC T.boxes.length) (p:=λ i=>decide (Ao 98 (i+1)∉M'.opens)) (q:=λ i=>decide (Ao 98 (i+1)∉M.opens)) λ i _ hi=>by
    simp only [decide_eq_true_eq] at hi ⊢;exact λ hm=>hi (h.opens _ hm)
  have h2:=Lb (l:=aC T.keys.length) (p:=λ i=>decide (Ao 107 (i+1)∉M'.keys)) (q:=λ i=>decide (Ao 107 (i+1)∉M.keys)) λ i _ hi=>by
    simp only [decide_eq_true_eq] at hi ⊢;exact λ hm=>hi (h.keys _ hm)
  cases s with
  | box i bx h0 a1 a2 a3=>
    have:=N2 (l:=aC T.boxes.length) (p:=λ x=>decide (Ao 98 (x+1)∉(M.opened i bx).opens)) (q:=λ x=>decide (Ao 98 (x+1)∉M.opens)) (λ x _ hi=>by
      simp only [decide_eq_true_eq] at hi ⊢;exact λ hm=>hi (h.opens _ hm)) ⟨i,List.mem_range.2 (List.getElem?_eq_some_iff.1 h0).1,by simp [Mi.opened,Mi.take],by simp [a2]⟩
    omega
  | key j f h0 a1 a2 a3=>
    have:=N2 (l:=aC T.keys.length) (p:=λ x=>decide (Ao 107 (x+1)∉Ao 107 (j+1)::M.keys)) (q:=λ x=>decide (Ao 107 (x+1)∉M.keys)) (λ x _ hi=>by
      simp only [decide_eq_true_eq] at hi ⊢;exact λ hm=>hi (h.keys _ hm)) ⟨j,List.mem_range.2 (List.getElem?_eq_some_iff.1 h0).1,by simp,by simp [a1]⟩
    have e:({ M with keys:=Ao 107 (j+1)::M.keys } :Mi).keys=Ao 107 (j+1)::M.keys:=rfl;simp only at h1 h2 ⊢;omega
theorem Mi.Steps.left {T:Sy} {M M':Mi} (s:Mi.Steps T M M'):M'.left T<=M.left T:=by
  induction s with
  | refl=>exact aB _
  | tail _ s ih=>exact bD (Nat.le_of_lt s.left) ih
theorem Mi.opened_all (M:Mi) (i:Nat) (bx:Bx):(M.opened i bx).all.length=M.all.length+1:=by
  show (M.all++ [bx.body]).length=_
  simp
theorem Mi.Steps.all {T:Sy} {M M':Mi} (s:Mi.Steps T M M'):M'.all.length+M'.left T<=M.all.length+M.left T:=by
  induction s with
  | refl=>exact aB _
  | tail _ s ih=>
    have hl:=s.left
    cases s with
    | box i bx _ _ _ _=>
      rw [Mi.opened_all];omega
    | key j f _ _ _ _=>
      simp only at hl ⊢;omega
theorem Mi.left_most (T:Sy) (M:Mi):M.left T<=T.boxes.length+T.keys.length:=by
  unfold Mi.left;have h1:=aV (λ i=>decide (Ao 98 (i+1)∉M.opens)) (aC T.boxes.length);have h2:=aV (λ i=>decide (Ao 107 (i+1)∉M.keys)) (aC T.keys.length);rw [aU] at h1 h2;omega
theorem Mi.Closed.steps {T:Sy} {M M':Mi} (h:M.Closed T) (s:Mi.Steps T M M'):M'=M:=by
  induction s with
  | refl=>rfl
  | tail _ s ih=>
    subst ih
    cases s with
    | box i bx hb h1 h2 h3=>exact absurd (h.box i bx hb h1 h3) h2
    | key j f hf h1 h2 h3=>exact absurd (h.key j f hf h2 h3) h1
def Mi.Chk (T:Sy) (M:Mi) (k:List UInt8):Prop:=∀i bx,T.boxes[i]?=some bx->k=Ao 98 (i+1)->bx.by_∈M.keys->k∈M.opens
structure Rd1 (T:Sy) (M0 M:Mi) (again:Bool) (left:KK->Bool):Prop where
  st:Mi.Steps T M0 M
  lt:again=true->M.left T<M0.left T
  no:again=false->M=M0/\∀k:KK,k.1∈M0.boxes->left k=false->M0.Chk T k.1
theorem Rd1.start {T:Sy} {M:Mi} {left:KK->Bool} (h:∀k:KK,k.1∈M.boxes->left k=true):Rd1 T M M false left:=
  ⟨.refl _,λ h=>(by cases h),λ _=>⟨rfl,λ k hk hl=>(by rw [h k hk] at hl; cases hl)⟩⟩
theorem Rd1.open {T:Sy} {M0 M:Mi} {again:Bool} {left left':KK->Bool} (h:Rd1 T M0 M again left) {i:Nat} {bx:Bx} (hb:T.boxes[i]?=some bx) (h1:Ao 98 (i+1)∈M.boxes) (h2:Ao 98 (i+1)∉M.opens) (h3:bx.by_∈M.keys):Rd1 T M0 (M.opened i bx) true left':=
  have s:Mi.Step T M (M.opened i bx):=.box i bx hb h1 h2 h3
  ⟨h.st.tail s,λ _=>bE s.left h.st.left,λ h=>by cases h⟩
theorem Rd1.pass {T:Sy} {M0 M:Mi} {again:Bool} {left left':KK->Bool} (h:Rd1 T M0 M again left) (k:KK) (hk:M.Chk T k.1) (hl:∀j:KK,left' j=false->left j=false\/j=k):Rd1 T M0 M again left':=
  ⟨h.st,h.lt,λ ha=>by
    obtain ⟨e,hc⟩:=h.no ha;refine ⟨e,λ j hj hf=>?_⟩;rcases hl j hf with hf | rfl
    · exact hc j hj hf
    · rw [<-e]; exact hk⟩
structure Rd2 (T:Sy) (M0 M:Mi) (again:Bool) (n:Nat):Prop where
  st:Mi.Steps T M0 M
  lt:again=true->M.left T<M0.left T
  no:again=false->M=M0/\(∀k:KK,k.1∈M0.boxes->M0.Chk T k.1)/\∀(j:Nat) (f:Fk),j<n->T.keys[j]?=some f->f.of_≠zk->f.of_∈M0.keys->Ao 107 (j+1)∈M0.keys
theorem Rd1.done {T:Sy} {M0 M:Mi} {again:Bool} {left:KK->Bool} (h:Rd1 T M0 M again left) (hl:∀k:KK,left k=false):Rd2 T M0 M again 0:=
  ⟨h.st,h.lt,λ ha=>⟨(h.no ha).1,λ k hk=>(h.no ha).2 k hk (hl k),λ j f hj=>absurd hj (Nat.not_lt_zero j)⟩⟩
theorem Rd2.gain {T:Sy} {M0 M:Mi} {again:Bool} {n:Nat} (h:Rd2 T M0 M again n) {f:Fk} (hf:T.keys[n]?=some f) (h1:Ao 107 (n+1)∉M.keys) (h2:f.of_≠zk) (h3:f.of_∈M.keys):Rd2 T M0 { M with keys:=Ao 107 (n+1)::M.keys } true (n+1):=
  have s:Mi.Step T M { M with keys:=Ao 107 (n+1)::M.keys } :=.key n f hf h1 h2 h3
  ⟨h.st.tail s,λ _=>bE s.left h.st.left,λ h=>by cases h⟩
theorem Rd2.pass {T:Sy} {M0 M:Mi} {again:Bool} {n:Nat} (h:Rd2 T M0 M again n) {f:Fk} (hf:T.keys[n]?=some f) (hk:Ao 107 (n+1)∈M.keys\/f.of_=zk\/f.of_∉M.keys):Rd2 T M0 M again (n+1):=
  ⟨h.st,h.lt,λ ha=>by
    obtain ⟨e,hb,hc⟩:=h.no ha;refine ⟨e,hb,λ j g hj hg hz hm=>?_⟩;by_cases hjn:j<n
    · exact hc j g hjn hg hz hm
    · obtain rfl:j=n:=by omega
      rw [hf] at hg;obtain rfl:=Option.some.inj hg;rw [e] at hk;rcases hk with hk | hk | hk
      · exact hk
      · exact absurd hk hz
      · exact absurd hm hk⟩
theorem Rd2.closed {T:Sy} {M0 M:Mi} {n:Nat} (h:Rd2 T M0 M false n) (hn:T.keys.length<=n):M=M0/\M.Closed T:=by
  obtain ⟨e,hb,hc⟩:=h.no rfl;refine ⟨e,?_⟩;rw [e];exact ⟨λ i bx h1 h2 h3=>hb ⟨Ao 98 (i+1),An _ _⟩ h2 i bx h1 rfl h3,λ j f hf hz hm=>hc j f (by have:=(List.getElem?_eq_some_iff.1 hf).1; omega) hf hz hm⟩
theorem A4N {T:Sy} {M:Mi} {n:Nat} (hn:n<=1099511627776) (hT:T.boxes.length<1099511627776) (h:n=0\/T.boxes.length<n):M.Chk T (Ao 98 n):=by
  intro i bx h1 h2 _
  have:=Ma (by omega) (by have:=(List.getElem?_eq_some_iff.1 h1).1; omega) h2
  have:=(List.getElem?_eq_some_iff.1 h1).1;omega
theorem A2e {T:Sy} {M:Mi} {i:Nat} {bx:Bx} (hb:T.boxes[i]?=some bx) (hT:T.boxes.length<1099511627776) (h:Ao 98 (i+1)∈M.opens\/bx.by_∉M.keys):M.Chk T (Ao 98 (i+1)):=by
  intro j bx' h1 h2 h3;have l1:=(List.getElem?_eq_some_iff.1 hb).1;have l2:=(List.getElem?_eq_some_iff.1 h1).1
  have:=Ma (by omega) (by omega) h2;obtain rfl:j=i:=by omega
  rw [hb] at h1;obtain rfl:=Option.some.inj h1;rcases h with h | h
  · exact h
  · exact absurd h3 h
def Fw (x b:List UInt8):Bool:=(aC (x.length+1-b.length)).any λ i=>decide ((x.drop i).take b.length=b)
def Ru (all:List (List UInt8)) (b:List UInt8):Bool:=all.any λ x=>Fw x b
end Go.Proofs.YtbmjjfhpllpiaaaGreat
namespace Go.Proofs.YtbmjjfhpllpiaaaGreat
open Go.RowKit Go.Maps
def Fs (q kb bb ob:Nat) (av:bO):List bO:= [.pointer (some ⟨q,0,none⟩),.map (some kb),.map (some bb),.map (some ob),av]
def Jf (p q kb bb ob:Nat) (M:Mi):Res:=
  .ex λ av=>.ex λ vs=>.all [.blk p (Fs q kb bb ob av) 134,D5 kb M.keys,D5 ob M.opens,.ownZ 29 1 av M.all.length vs,Br vs M.all]
theorem Ev {W:bP} {p q kb bb ob:Nat} {M:Mi} {l:List Res} (h:Ac W (Jf p q kb bb ob M::l)): ∃sa sc vs,Ac W (.blk p (Fs q kb bb ob (.slice sa M.all.length sc)) 134::D5 kb M.keys::D5 ob M.opens::.ownZ 29 1 (.slice sa M.all.length sc) M.all.length vs::Br vs M.all::l):=by
  obtain ⟨av,h⟩:=Ac.ex.1 h;obtain ⟨vs,h⟩:=Ac.ex.1 h;have h:=Ac.app.1 h;obtain ⟨sa,sc,rfl,_⟩:=((h.tail.tail.tail).ownZOf (e:=29) (sz:=1) (n:=M.all.length) (v:=av) (cs:=vs) (by simp)).sl.form;exact ⟨sa,sc,vs,h⟩
theorem F9 {W:bP} {p q kb bb ob:Nat} {M:Mi} {l:List Res} {av:bO} {vs:List bO} (h:Ac W (.blk p (Fs q kb bb ob av) 134::D5 kb M.keys::D5 ob M.opens::.ownZ 29 1 av M.all.length vs::Br vs M.all::l)): Ac W (Jf p q kb bb ob M::l):=Ac.ex.2 ⟨av,Ac.ex.2 ⟨vs,Ac.app.2 h⟩⟩
def En (p q kb bb ob:Nat) (M:Mi):Res:=.all [Jf p q kb bb ob M,D5 bb M.boxes]
theorem Ef {W:bP} {p q kb bb ob:Nat} {M:Mi} {l:List Res} :Ac W (En p q kb bb ob M::l)↔Ac W (Jf p q kb bb ob M::D5 bb M.boxes::l):=Ac.app (m:= [_,_])
def Oq (W:bP) (b:Nat) (S:List (List UInt8)):Prop:=∃U:List (KK×Unit),InS U S/\Jy aA 43 kkL W b (ksM U)
theorem Ac.setAt0 {W:bP} {b:Nat} {S:List (List UInt8)} {l:List Res} (h:Ac W (D5 b S::l)):Oq W b S:=by
  obtain ⟨U,h1,h2⟩:=Gq.1 h;exact ⟨U,h1,h2.mapVOf (b:=b) (M:=ksM U) aG⟩
theorem Ac.setAt {W:bP} {b:Nat} {S:List (List UInt8)} {l:List Res} (h:Ac W l) (hm:D5 b S∈l):Oq W b S:=by
  obtain ⟨l1,l2,rfl⟩:=List.append_of_mem hm;exact (h.perm (List.perm_middle (l₁:=l1))).setAt0
theorem Uq {α:Type} [DecidableEq α] {kL:α->Lit} {P:bT} {w:bP} {o:bU} {a:Act} (m x:Operand) {t:bQ} (hop:o.op=Op.lookup t m x false) (k e:bQ) (K:Keyed P k) (hk:Nu kL) (ht:P.underlying t=some (.map k e)) {z:bO} (hz:(zeroValue e).run P w=.ok z w) (b:Nat) (M:List (α×bO)) (hm:a.eval m=.map (some b)) (hown:Jy P k kL w b M) (s:α) (hkey:keyOf P k (a.eval x)=some (kL s)):(execOp a.eval o).run P w=.ok (.value (G6 M s z)) w:=by
  obtain ⟨D,hd,ho⟩:=hown;obtain ⟨v,ps,hrun,hv⟩:=ho.lookup K ht hz (zd:=.held z) (zp:= []) rfl hkey;rw [hd.at hk] at hv;simp only [Pv,Option.some.injEq,Prod.mk.injEq,DataW.held.injEq] at hv;rw [hv.1] at hrun;simp [execOp,hop,hm,hrun,Result.andThen]
theorem Dq {w:bP} {a:Act} (m x:Operand) {d:Option Tmp} {ty:bQ} {pos:String} {aft:Array Edge} {g:Option (Nat×Bool)} {b:Nat} {S:List (List UInt8)} (hm:a.eval m=.map (some b)) (h:Oq w b S) {k:List UInt8} (hk:k.length=16) (hx:a.eval x=.agg (Ab k).toArray) {r:Bool} (hr:decide (k∈S)=r): (execOp a.eval ⟨d,.lookup 132 m x false,ty,pos,aft,g⟩).run aA w=.ok (.value (.bool r)) w:=by
  obtain ⟨U,h1,h2⟩:=h
  have:=Uq (o:=⟨d,.lookup 132 m x false,ty,pos,aft,g⟩) m x rfl 43 4 P6 W8 bF (A5i w) b _ hm h2 ⟨k,hk⟩ (by rw [hx]; exact A2B ⟨k,hk⟩);rw [this,h1.get,hr]
theorem H8 {ops:Array bU} {o:bU} {a:Act} {w:bP} {K':Act->bP->Prop} {Q:Exit->Act->bP->Prop} {E:Prop} (hgd:o.guard=none) (m x v:Operand) (hop:o.op=.mapUpdate 132 m x v) {b:Nat} {S:List (List UInt8)} {l:List Res} (hH:Ac w (D5 b S::l)) (hm:a.eval m=.map (some b)) (hf:Few S) {k:List UInt8} (hk:k.length=16) (hx:a.eval x=.agg (Ab k).toArray) (hv:a.eval v=.bool true) (h:∀w',Hq (Ac w' (D5 b (k::S)::l))->K' (a.put o.dst undef) w'):if Region.wanted o (yielded ops a.tmps)=true then bU.wp aA o a w K' Q else E:=by
  obtain ⟨U,h1,h2⟩:=Gq.1 hH;have hat:=h2.mapVOf (b:=b) (M:=ksM U) aG;refine Nl hgd m x v hop 43 4 P6 W8 bF b (ksM U) hm hat (h1.few hat.pw hf) ⟨k,hk⟩ (by rw [hx]; exact A2B ⟨k,hk⟩) λ w' r1 r2 r3=>?_
  rw [hv,A3I] at r1;exact h w' (hqZ (Gq.2 ⟨_,h1.put ⟨k,hk⟩,h2.mapVTurn r1 r2⟩))
theorem Yb {P:bT} {ops:Array bU} {o:bU} {a:Act} {w:bP} {K:Act->bP->Prop} {Q:Exit->Act->bP->Prop} {E:Prop} (hgd:o.guard=none) (s x:Operand) {t e:bQ} {size bytes:Nat} {z:bO} (hE:C5 P t e size bytes z) (ho:o.op=.call { callee:=.builtin .append,args:=#[s,x],argTypes:=#[t,t] }) {v:bO} (hv:a.eval s=v) {u:bO} (hu:a.eval x=u) {n:Nat} {cs:List bO} {l:List Res} (hH:Ac w (.ownZ e size v n cs::l)) {m:Nat} {ds:List bO} (hsl:Sl w size u m ds) (hm0:0<m) (h63:n+m<=maxLen) (hbytes:(n+m)*bytes<=140737488355328) (h:∀v' w',Ac w' (.ownZ e size v' (n+m) (cs++ds)::l)->K (a.put o.dst v') w'):if Region.wanted o (yielded ops a.tmps)=true then bU.wp P o a w K Q else E:=by
  have hw:Region.wanted o (yielded ops a.tmps)=true:=by simp [Region.wanted,hgd]
  rw [if_pos hw];obtain ⟨v',w',hr,h2,h3,h4⟩:=Xw (P:=P) (ty:=o.type) (B:=0) hE (hH.ownZOf (e:=e) (sz:=size) (n:=n) (v:=v) (cs:=cs) (by simp)) hsl hm0 h63 hbytes (aH _);unfold bU.wp execOp;simp only [ho,resolve,invoke,builtin,Sem.run_bind,Sem.run_pure,Result.andThen_ok,List.map_toArray,List.map_cons,List.map_nil,hv,hu,hr];exact h _ _ (hH.appendZ h2 h3 h4)
def A5o (w:bP) (e:Ending) (w':bP):Prop:=e=.returned (.tuple #[.int .u8 0,.int .i64 0,.bool false])/\Below w.heap.size w w'
theorem A0p (v:bO) (b:List UInt8) (w:bP) (h:Bs w v b) (hno:Fa b=none):bR aA 32 #[v] w (A5o w):=by
  have HKY:=hqZ (P5 v _ w h);by_cases hl:b.length=16
  · have e1:Ie b=(b,true):=by rw [Ie,if_pos hl]
    rw [e1] at HKY;have HML:=hqZ hl;have HBL:Hq ((Ab b).length=16):=hqZ (by rw [Aa]; exact hl);obtain ⟨M,hM⟩:∃M,M=b:=⟨_,rfl⟩
    rw [<-hM] at HKY HML HBL hno;obtain ⟨b0,hb0⟩:∃x,x=M.getD 0 0:=⟨_,rfl⟩
    obtain ⟨b1,hb1⟩:∃x,x=M.getD 1 0:=⟨_,rfl⟩
    obtain ⟨b2,hb2⟩:∃x,x=M.getD 2 0:=⟨_,rfl⟩
    obtain ⟨n,hn⟩:∃n,n=Ec (M.drop 8):=⟨_,rfl⟩
    have hnlt:n<18446744073709551616:=by
      have:=Ld (M.drop 8);rw [<-hn,aJ,HML.o] at this;simpa using this
    have gc:∀k,k<16->(Ab M)[k]?=some (.int .u8 (M.getD k 0).toNat):=λ k hk=>by
      have hk2:k<M.length:=by rw [HML.o]; exact hk
      simp [Ab,bV,hk2,List.getD]
    have HNO:Hq (¬(M=Ao b2 n/\n<=1099511627776/\(b2=107\/b2=98\/b2=100))):=hqZ (by
      intro hc;rw [hb2,hn] at hc;rw [Fa,if_pos hc] at hno
      cases hno)
    have HG0:Hq ((Ab M)[0]?=some (.int .u8 b0.toNat)):=hqZ (by rw [hb0]; exact gc 0 (by decide));have HG1:Hq ((Ab M)[1]?=some (.int .u8 b1.toNat)):=hqZ (by rw [hb1]; exact gc 1 (by decide));have HG2:Hq ((Ab M)[2]?=some (.int .u8 b2.toNat)):=hqZ (by rw [hb2]; exact gc 2 (by decide));have HGN:Hq (Fp (M.drop 8)=(n,true)):=hqZ (by
      rw [Fp,if_neg (by rw [aJ,HML.o]; decide),hn])
    have HNL:=hqZ hnlt;clear e1 h hl hno hM hb0 hb1 hb2 hn gc hnlt;unfold Ay at HKY;go_enter bG,bH;go_wp2_with fail;refine HKY.o.mono ?_;rintro e w1 ⟨rfl,hb⟩;have HB:=hqZ hb;have HC:=hqZ (Blk.new w1 Bg 43);clear hb HKY;go_wp2_with ((with_reducible refine zws 5 12 ?_);refine Af rfl (.tmp 5) (.tmp 12) Am rfl rfl (vs:=Ab M) rfl HBL.o HC.o (aB _) (Ak _) ?_);intro w2 h2 k2;have hb2:Below w.heap.size w w2:=HB.o.trans ((((Below.refl _ _).alloc (aB _) _).trans (k2.below (by omega))).mono HB.o.size);have h2':Blk w2 w1.heap.size (Ab M) 43:=by simpa [Bg] using h2
    have HB:=hqZ hb2;have HC:=hqZ h2';have c0:w2.cell? ⟨w1.heap.size,0,none⟩=some (.int .u8 b0.toNat):=by rw [h2'.cell 0,HG0.o]
    have c1:w2.cell? ⟨w1.heap.size,1,none⟩=some (.int .u8 b1.toNat):=by rw [h2'.cell 1,HG1.o]
    clear h2 k2 hb2 h2';by_cases h0:(b0.toNat:Int)=255
    · by_cases h1:(b1.toNat:Int)=254
      · have hrow:Bs w2 (.slice (some ⟨w1.heap.size,8,none⟩) 8 8) (M.drop 8):=Sl.bs (HC.o.bs (off:=8) (n:=8) (cap:=8) (by rw [HML.o]; decide) (aB _) (by unfold maxLen; decide)) (by rw [aM (by rw [aJ,HML.o]; decide)]) (by rw [aJ,HML.o]);have hg:=Lg _ _ w2 hrow;rw [HGN.o] at hg;have HG:=hqZ hg;clear hrow hg;go_wp2_with fail;refine HG.o.mono ?_;rintro e w3 ⟨rfl,rfl⟩;have HC2:Hq (w2.cell? ⟨w1.heap.size,2,none⟩=some (.int .u8 b2.toNat)):=hqZ (by rw [HC.o.cell 2,HG2.o]);clear HG c0 c1 h0 h1;by_cases hbig:n<=1099511627776
        · have hw:bS.i64.wrap (n:Int)=n:=by rw [bS.wrap_i64]; omega
          have HBG:=hqZ hbig;clear hbig;go_wp2_with fail;refine Cx [] (λ b W=>W.cell? ⟨w1.heap.size,2,none⟩=some (.int .u8 b2.toNat)/\Al W w1.heap.size 0 (Ab M)) (by kernel_rfl) ?_;have HC2:Hq (w2.drew.cell? ⟨w1.heap.size,2,none⟩=some (.int .u8 b2.toNat)):=hqZ HC2.o;have HC:Hq (Blk w2.drew w1.heap.size (Ab M) 43):=hqZ HC.o;have HB:Hq (Below w.heap.size w w2.drew):=hqZ HB.o.drew;have HS:=hqZ (And.intro HC2.o HC.o.cellsAll);refine zT 0 ?_;refine zT 1 ?_ (v:=.bool false) (hr:=λ l W hk hW=>by have:=HBG.o; go_simp; omega);refine zT 2 ?_;refine zT 3 ?_;refine zT 4 ?_;refine zT 5 ?_;refine zT 6 ?_ (v:=.int .i64 n) (hr:=λ l W hk hW=>by go_simp);refine zT 8 ?_ (hr:=λ l W hk hW=>ldJ Am rfl HBL.o hW.2);refine zJ 7 λ K hK=>?_
          go_simp;refine (Je b2 n (by have:=HBG.o; omega) _).mono ?_;rintro e w4 ⟨rfl,hb⟩;have HC2:=hqZ (Bc hb HC2.o);have HC:=hqZ (HC.o.below hb HC.o.lt);have HB:=hqZ (HB.o.trans (hb.mono HB.o.size));clear hb;have HS:=hqZ (And.intro HC2.o HC.o.cellsAll);refine zq hK ?_;clear hK K;try go_frame
          by_cases hmk:Ao b2 n=M
          · refine zT 9 ?_ (v:=.bool false) (hr:=λ l W hk hW=>A1A (.tmp 38) (.tmp 39) (k1:=Ao b2 n) (k2:=M) rfl rfl (An _ _) HML.o (by rw [hmk]; simp) W);refine zT 10 ?_;refine zT 11 ?_;refine zT 13 ?_;refine zT 14 ?_;refine zJ 12 λ K hK=>?_
            go_simp;have HC2:=hqZ (Bc ((Below.refl _ _).alloc (aB _) (.cells #[.int .u8 107,.int .u8 98,.int .u8 100] 5)) HC2.o);have HR:Hq (Bs (w4.alloc (.cells #[.int .u8 107,.int .u8 98,.int .u8 100] 5)) (.slice (some ⟨w4.heap.size,0,none⟩) 3 3) [107,98,100]):=hqZ (Sl.lit (cs:=#[.int .u8 107,.int .u8 98,.int .u8 100]) rfl rfl (by simp [bO.oneCell']) (by unfold maxLen; decide));have HC:=hqZ (HC.o.alloc (.cells #[.int .u8 107,.int .u8 98,.int .u8 100] 5));have HB:=hqZ (HB.o.alloc HB.o.size (.cells #[.int .u8 107,.int .u8 98,.int .u8 100] 5));have HS:=hqZ (And.intro HC2.o HC.o.cellsAll);refine zq hK ?_;clear hK K;try go_frame
            refine zJ 15 λ K hK=>?_
            go_simp;refine (Mm _ _ b2 _ HR.o).mono ?_;rintro e w5 ⟨rfl,rfl⟩;have HX:Hq (decide (b2∈([107,98,100]:List UInt8))=false):=hqZ (by
              rw [decide_eq_false_iff_not];intro hm;exact HNO.o ⟨hmk.symm,HBG.o,by simpa using hm⟩)
            rw [HX.o];refine zq hK ?_;clear hK K;try go_frame
            refine zT 16 ?_;refine zT 17 ?_;refine zD ?_;go_wp2_with fail
            go_ret3;exact ⟨rfl,HB.o⟩
          · refine zT 9 ?_ (v:=.bool true) (hr:=λ l W hk hW=>A1A (.tmp 38) (.tmp 39) (k1:=Ao b2 n) (k2:=M) rfl rfl (An _ _) HML.o (by simp [hmk]) W);refine zT 10 ?_;refine zT 11 ?_;refine zS 12 ?_;refine zS 13 ?_;refine zS 14 ?_;refine zS 15 ?_;refine zS 16 ?_;refine zT 17 ?_;refine zD ?_;go_wp2_with fail
            go_ret3;exact ⟨rfl,HB.o⟩
        · have HBG:=hqZ hbig;clear hbig;go_wp2_with fail;refine Cx [] (λ b W=>True) (by kernel_rfl) ?_;have HB:Hq (Below w.heap.size w w2.drew):=hqZ HB.o.drew;refine zT 0 ?_;refine zT 1 ?_ (v:=.bool true) (hr:=λ l W hk hW=>by have:=HBG.o; go_simp; omega);refine zT 2 ?_;refine zS 3 ?_;refine zS 4 ?_;refine zS 5 ?_;refine zS 6 ?_;refine zS 7 ?_;refine zS 8 ?_;refine zS 9 ?_;refine zT 10 ?_;refine zT 11 ?_;refine zS 12 ?_;refine zS 13 ?_;refine zS 14 ?_;refine zS 15 ?_;refine zS 16 ?_;refine zT 17 ?_;refine zD ?_;go_wp2_with fail
          go_ret3;exact ⟨rfl,HB.o⟩
      · go_wp2_with fail
        go_ret3;exact ⟨rfl,HB.o⟩
    · go_wp2_with fail
      go_ret3;exact ⟨rfl,HB.o⟩
  · have e1:Ie b=(aN 16 0,false):=by rw [Ie,if_neg hl]
    rw [e1] at HKY;have HBL:Hq ((Ab (aN 16 0)).length=16):=hqZ (by rw [Aa]; simp);clear e1 h hl hno;unfold Ay at HKY;go_enter bG,bH;go_wp2_with fail;refine HKY.o.mono ?_;rintro e w1 ⟨rfl,hb⟩;have HB:=hqZ hb;have HC:=hqZ (Blk.new w1 Bg 43);clear hb HKY;go_wp2_with ((with_reducible refine zws 5 12 ?_);refine Af rfl (.tmp 5) (.tmp 12) Am rfl rfl (vs:=Ab (aN 16 0)) rfl HBL.o HC.o (aB _) (Ak _) ?_);intro w2 h2 k2;have hb2:Below w.heap.size w w2:=HB.o.trans ((((Below.refl _ _).alloc (aB _) _).trans (k2.below (by omega))).mono HB.o.size);have HB:=hqZ hb2;clear h2 k2 hb2 HC;go_wp2_with fail
    go_ret3;exact ⟨rfl,HB.o⟩
theorem Lr:Tryz.prog.built 218 []=some Ig.toArray:=by kernel_rfl
theorem Sf:∀u∈Ig,u.oneCell'=true:=by
  intro u hu
  have:(Ig.all λ v=>v.oneCell')=true:=by rfl
  exact List.all_eq_true.1 this u hu
def A5Q (q:Nat) (s:Sy) (l:List Res) (e:Ending) (w':bP):Prop:=e=.returned (.tuple #[.agg Ig.toArray,.bool false])/\Ac w' (B2 q s::l)
theorem A1K (q:Nat) (s:Sy) (n:Nat) (v:bO) (l:List Res) (w:bP) (h:Ac w (B2 q s::l)) (hv:Bs w v (Ao 98 n)) (hn:n<=1099511627776) (hs:s.boxes.length<1099511627776) (hno:n=0\/s.boxes.length<n): bR aA 89 #[.pointer (some ⟨q,0,none⟩),v] w (A5Q q s l):=by
  obtain ⟨⟨kv,bv,sv,m,vs,bs⟩,hok,h⟩:=Bo.1 h;simp only at h hok;have HOK:=hqZ hok;obtain ⟨a0,c0,rfl,hc0,hm0⟩:=h.tail.tail.slf;obtain ⟨av,cv,rfl,hcv,hmv⟩:=hv.form;have HC:=hqZ (h.addBlkAt Ig 218 (b:=w.heap.size) rfl);have HMK:=hqZ (Gt _ 98 n _ (hv.alloc (.cells Ig.toArray 218)) hn (by decide));have HNO:=hqZ hno;clear h hok hv hno;go_enter Tryz.func89,Tryz.ntmps89;go_wp2_with fail;refine HMK.o.mono ?_;rintro e w1 ⟨rfl,hb⟩;have HC:=hqZ (HC.o.step hb);have c1:=(HC.o.zB q).cell 1;simp only [List.getElem?_cons_succ,aW] at c1;clear hb HMK;have h98:((98:UInt8).toNat:Int)=98:=by decide
  have HB:Hq (Ac w1 (.blk w.heap.size Ig 218::.blk q [kv,.slice a0 s.boxes.length c0,sv,.map (some m)] 60::.own 142 18 kv s.keys.length (frC s.keys)::.own 218 18 (.slice a0 s.boxes.length c0) s.boxes.length (bxC s.boxes bs)::Br bs (s.boxes.map Bx.body)::.own 29 1 sv s.sums.length vs::Br vs s.sums::N5 aA 142 frL m (knM s)::l)):=HC;by_cases h0:n=0
  · have h1:(n:Int)<1:=by omega
    clear h0 HNO;go_wp2_with (first | ((with_reducible refine zw 35 ?_); refine Cp rfl rfl (by simp [Act.eval]) Lr ?_) | ((with_reducible refine zws 4 35 ?_); refine Af rfl (.tmp 4) (.tmp 35) Dg rfl rfl (vs:=Ig) rfl rfl HC.o.blk0 (aB _) Sf ?_));intro w2 h2 k2;have HC:=hqZ (HC.o.stW (vs:=Ig) h2 k2 rfl);clear h2 k2 c1 HB;go_wp2_with fail;refine bodyPost_ret (Aj rfl Dg rfl (cs:=Ig) rfl HC.o.blk0.cellsAll) rfl ⟨rfl,?_⟩;exact Bo.2 ⟨⟨kv,.slice a0 s.boxes.length c0,sv,m,vs,bs⟩,HOK.o,HC.o.tail⟩
  · have h1:¬(n:Int)<1:=by omega
    have h2:(s.boxes.length:Int)< (n:Int):=by have:=HNO.o; omega
    clear h0 HNO;go_wp2_with (first | ((with_reducible refine zw 35 ?_); refine Cp rfl rfl (by simp [Act.eval]) Lr ?_) | ((with_reducible refine zws 4 35 ?_); refine Af rfl (.tmp 4) (.tmp 35) Dg rfl rfl (vs:=Ig) rfl rfl HC.o.blk0 (aB _) Sf ?_));intro w2 h2 k2;have HC:=hqZ (HC.o.stW (vs:=Ig) h2 k2 rfl);clear h2 k2 c1 HB;go_wp2_with fail;refine bodyPost_ret (Aj rfl Dg rfl (cs:=Ig) rfl HC.o.blk0.cellsAll) rfl ⟨rfl,?_⟩;exact Bo.2 ⟨⟨kv,.slice a0 s.boxes.length c0,sv,m,vs,bs⟩,HOK.o,HC.o.tail⟩
end Go.Proofs.YtbmjjfhpllpiaaaGreat
namespace Go.Proofs.YtbmjjfhpllpiaaaGreat
def Cn (b:List UInt8) (n:Nat):List (List UInt8):=((aC n).filter λ i=>(Fa ((b.drop i).take 16)).isSome).map λ i=>(b.drop i).take 16
theorem Ww (b:List UInt8):Cn b 0= []:=rfl
theorem Ik {b:List UInt8} {n:Nat} (h:(Fa ((b.drop n).take 16)).isSome=true):Cn b (n+1)=Cn b n++ [(b.drop n).take 16]:=by
  unfold Cn;rw [bI,aO,bJ,aD,if_pos h];rfl
theorem Fe {b:List UInt8} {n:Nat} (h:Fa ((b.drop n).take 16)=none):Cn b (n+1)=Cn b n:=by
  unfold Cn;rw [bI,aO,bJ,aD,if_neg (by rw [h]; simp)];simp
theorem Oz (x:UInt8) (b:List UInt8):∀n,Cn (x::b) (n+1)=Cn (x::b) 1++Cn b n
  | 0=>by rw [Ww,bA]
  | n+1=>by
    have ih:=Oz x b n
    cases h:Fa ((b.drop n).take 16) with
    | none=>rw [Fe (b:=x::b) (n:=n+1) (by rw [aX]; exact h),ih,Fe h]
    | some y=>rw [Ik (b:=x::b) (n:=n+1) (by rw [aX,h]; rfl),ih,Ik (b:=b) (n:=n) (by rw [h]; rfl),aX,List.append_assoc]
theorem Qt:∀ {b:List UInt8} {n:Nat},b.length<=n->Cn b n=C1 b
  | [],n,_=>by
    induction n with
    | zero=>rfl
    | succ n ih=>rw [Fe (by rw [List.drop_nil,List.take_nil]; rfl),ih (aH _)]
  | x::b,0,h=>by simp at h
  | x::b,n+1,h=>by
    rw [Oz,Qt (b:=b) (n:=n) (by simpa using h),C1]
    cases hm:Fa ((x::b).take 16) with
    | none=>
      rw [Fe (b:=x::b) (n:=0) (by rw [aP]; exact hm),if_neg (by simp)];rfl
    | some y=>
      rw [Ik (b:=x::b) (n:=0) (by rw [aP,hm]; rfl),if_pos (by rfl)];rfl
theorem Z9 {b:List UInt8} {n:Nat} (h:b.length<n+16):Fa ((b.drop n).take 16)=none:=by
  cases hm:Fa ((b.drop n).take 16) with
  | none=>rfl
  | some y=>
    have:=Z8 (by rw [hm]; rfl);rw [bK,aJ] at this;omega
theorem Zl {b:List UInt8} {n:Nat} (h:b.length<n+16):Cn b n=C1 b:=by
  have:∀d,Cn b (n+d)=Cn b n:=by
    intro d;induction d with
    | zero=>rfl
    | succ d ih=>rw [<-Nat.add_assoc,Fe (Z9 (by omega)),ih]
  rw [<-this b.length,Qt (by omega)]
theorem Zm (b:List UInt8) (n:Nat):(Cn b n).length<=n:=by
  unfold Cn;rw [aT];exact bD (aV _ _) (by rw [aU]; exact aB _)
def Fu (c:UInt8) (ms:List (List UInt8)):List (List UInt8):=ms.filter λ m=>decide (m.getD 2 0=c)
theorem Kr {c:UInt8} {ms:List (List UInt8)} {m:List UInt8} (h:m.getD 2 0=c):Fu c (ms++ [m])=Fu c ms++ [m]:=by
  unfold Fu;rw [aO,aD,if_pos (decide_eq_true h)];rfl
theorem Fv {c:UInt8} {ms:List (List UInt8)} {m:List UInt8} (h:¬m.getD 2 0=c):Fu c (ms++ [m])=Fu c ms:=by
  unfold Fu;rw [aO,aD,if_neg (by simpa using h)];simp
theorem Xs {A B:List (List UInt8)} {m:List UInt8} (k:KK):(k.1∈m::(A++B))↔k.1∈(A++ [m])++B:=by
  simp only [aS,List.mem_append,bL,or_false];constructor
  · rintro (h | h | h)
    · exact .inl (.inr h)
    · exact .inl (.inl h)
    · exact .inr h
  · rintro ((h | h) | h)
    · exact .inr (.inl h)
    · exact .inl h
    · exact .inr (.inr h)
end Go.Proofs.YtbmjjfhpllpiaaaGreat
namespace Go.Proofs.YtbmjjfhpllpiaaaGreat
open Go.RowKit Go.Maps
theorem Pk (q:Nat) (s:Sy) (l:List Res) (w:bP) (h:Ac w (B2 q s::l)): bR aA 41 #[.pointer (some ⟨q,0,none⟩)] w λ e w'=>e=.returned (.int .i64 s.keys.length)/\w=w':=by
  obtain ⟨⟨kv,bv,sv,m,vs,bs⟩,hok,h⟩:=Bo.1 h;simp only at h;obtain ⟨a0,c0,rfl,hc0,hm0⟩:=h.tail.slf;have c:=h.blk0.cell 0;simp only [aW] at c;clear h hok;go_enter Tryz.func41,Tryz.ntmps41;go_wp2_with fail;go_ret;exact ⟨rfl,rfl⟩
theorem R3 (q n:Nat) (hn:n<=1099511627776) (w:bP): bR aA 42 #[.pointer (some ⟨q,0,none⟩),.int .i64 n] w λ e w'=>e=.returned (Ay (Ao 107 n))/\Below w.heap.size w w':=by
  have HM:=hqZ (Je 107 n (by omega) (w.alloc (.cells Bg.toArray 43)));have HC:=hqZ (Blk.new w Bg 43);have HKL:Hq ((Ab (Ao 107 n)).length=16):=hqZ (by rw [Aa,An]);go_enter Tryz.func42,Tryz.ntmps42;go_wp2_with fail;refine HM.o.mono ?_;rintro e w1 ⟨rfl,hb⟩;have HB:Hq (Below w.heap.size w w1):=hqZ (((Below.refl _ _).alloc (aB _) _).trans (hb.mono (by simp)));have HC:=hqZ (HC.o.below hb (by simp));unfold Ay;clear hb HM;go_wp2_with ((with_reducible refine zws 4 6 ?_);refine Af rfl (.tmp 4) (.tmp 6) Am rfl rfl (vs:=Ab (Ao 107 n)) rfl HKL.o HC.o (aB _) (Ak _) ?_);intro w2 h2 k2;have h2':Blk w2 w.heap.size (Ab (Ao 107 n)) 43:=by simpa [Bg] using h2
  have HB:=hqZ (HB.o.trans (k2.below (by omega)));have HC:=hqZ h2';clear h2 k2 h2';go_wp2_with fail;exact bodyPost_ret (A2 rfl Am rfl (cs:=Ab (Ao 107 n)) HKL.o HC.o.cellsAll) rfl ⟨rfl,HB.o⟩
def A5j:List bO:= [.int .u8 0,.int .u8 0,.int .u8 0,.int .u8 0,.int .u8 0,.int .u8 0,.int .u8 0,.int .u8 0,.int .u8 0,.int .u8 0,.int .u8 0,.int .u8 0,.int .u8 0,.int .u8 0,.int .u8 0,.int .u8 0,.string ⟨#[]⟩,.bool false]
theorem Yf (q:Nat) (s:Sy) (j:Nat) (f:Fk) (l:List Res) (w:bP) (h:Ac w (B2 q s::l)) (hj:s.keys[j]?=some f) (hn:s.keys.length<1099511627776): bR aA 90 #[.pointer (some ⟨q,0,none⟩),Ay (Ao 107 (j+1))] w λ e w'=>e=.returned (.tuple #[.agg f.cells.toArray,.bool true])/\Ac w' (B2 q s::l):=by
  obtain ⟨⟨kv,bv,sv,m,vs,bs⟩,hok,h⟩:=Bo.1 h;simp only at h hok;have HOK:=hqZ hok;obtain ⟨a0,c0,rfl,hc0,hm0⟩:=h.tail.slf;have hjl:=(List.getElem?_eq_some_iff.1 hj).1;have HJ:=hqZ hj;have HFL:=hqZ f.cells_length;have HFO:=hqZ f.cells_one;have HF:Hq (∀x∈s.keys,(Fk.cells x).length=18):=hqZ (λ x _=>x.cells_length);obtain ⟨b0,o0,rfl,_⟩:=Nj Fk.cells s.keys HF.o (h.tail.head.elim λ _ hF=>hF.1.sl) hj (by decide);have hmb:(Ab (Ao 107 (j+1))).length=16:=by rw [Aa,An]
  have HC:=hqZ ((h.addBlkAt (Ab (Ao 107 (j+1))) 43 (b:=w.heap.size) rfl).addBlkAt A5j 142 (b:=w.heap.size+1) (by simp));have HMK:=hqZ (Gt (.slice (some ⟨w.heap.size,0,none⟩) 16 16) 107 (j+1) _ (by
    have:=HC.o.swap.blk0.bs (off:=0) (n:=16) (cap:=16) (by rw [An]; decide) (aB _) (by unfold maxLen; decide);exact Sl.bs this (by rw [aP,aM (by rw [An]; decide)]) (An _ _)) (by omega) (by decide))
  have hj0:(0:Int)<=(j:Int):=by omega
  have hj1:(j:Int)< (s.keys.length:Int):=by omega
  unfold maxLen at hm0;unfold Ay;clear h hok hj;go_enter Tryz.func90,Tryz.ntmps90;go_wp2_with fail;refine HMK.o.mono ?_;rintro e w1 ⟨rfl,hb⟩;have HC:=hqZ (HC.o.step hb);have c1:=(HC.o.zB q).cell 0;simp only [aW] at c1;clear hb HMK;have h107:((107:UInt8).toNat:Int)=107:=by decide
  have hw:bS.i64.wrap ((j:Int)+1-1)=j:=by rw [bS.wrap_i64]; omega
  have hd1:decide ((j:Int)+1<1)=false:=by simp; omega
  have hd2:decide ((s.keys.length:Int)< (j:Int)+1)=false:=by simp; omega
  have hcx:Al w1 b0 (o0+j*18) (Fk.cells f):=by
    obtain ⟨b1,o1,e,hc⟩:=Nj Fk.cells s.keys HF.o (HC.o.pull4.head.elim λ _ hF=>hF.1.sl) HJ.o (by decide);simp only [Option.some.injEq,Addr.mk.injEq,and_true] at e;rw [e.1,e.2];exact hc
  have HCX:=hqZ hcx;clear hcx;go_wp2_with (first | ((with_reducible refine zw 42 ?_); refine Ag rfl (.tmp 41) Gz rfl rfl (cs:=Fk.cells f) HFL.o HCX.o ?_) | ((with_reducible refine zws 4 42 ?_); refine Af rfl (.tmp 4) (.tmp 42) Gz rfl rfl (vs:=Fk.cells f) rfl HFL.o HC.o.blk0 (aB _) HFO.o ?_));intro w2 h2 k2;have HC:=hqZ (HC.o.stW (vs:=Fk.cells f) h2 k2 rfl);clear h2 k2 c1;go_wp2_with fail;refine bodyPost_ret (Aj rfl Gz rfl (cs:=Fk.cells f) HFL.o HC.o.blk0.cellsAll) rfl ⟨rfl,?_⟩;exact Bo.2 ⟨⟨.slice (some ⟨b0,o0,none⟩) s.keys.length c0,bv,sv,m,vs,bs⟩,HOK.o,HC.o.tail.tail⟩
theorem A4r:C5 aA 32 43 16 16 (.agg (aN 16 (bO.int .u8 0)).toArray):=by
  refine C5.mk Tryz.underlying32 (by kernel_rfl) rfl (by decide)
def kyC (ks:List (List UInt8)):List bO:=(ks.map Ab).flatten
theorem A2C (ks:List (List UInt8)) (k:List UInt8):kyC (ks++ [k])=kyC ks++Ab k:=by simp [kyC]
theorem Pj (v:bO) (b:List UInt8) (l:List Res) (w:bP) (h:Ac w l) (hv:∀W,Ac W l->Bs W v b) (hb:b.length<=1000000): bR aA 7 #[v] w λ e w'=>∃x,e=.returned x/\Ac w' (.own 43 16 x (C1 b).length (kyC (C1 b))::l):=by
  obtain ⟨va,vc,rfl,hvc,hvm⟩:=(hv w h).form;have HV:=hqZ hv;have HC:=hqZ (h.addNil 43 16);unfold maxLen at hvm;clear h hv;go_enter Tryz.func7,Tryz.ntmps7;go_wp2_with fail;go_loopw [3,4] (λ x i wr=>∃(k:Nat),k<=b.length+1/\i=.int .i64 k/\Ac wr (.own 43 16 x (Cn b k).length (kyC (Cn b k))::l)) (λ _ i _=>b.length+2- (intOf i).toNat)
  case atStart=>exact ⟨0,aH _,rfl,HC.o⟩
  case round=>
    obtain ⟨k,hk,rfl,hr⟩:=hrel;obtain ⟨xa,xc,rfl,_,_⟩:=hr.slf;have HR:=hqZ hr;clear hr HC;by_cases hlt:k+16<=b.length
    · have hlt1:(k:Int)+16<=(b.length:Int):=by omega
      obtain ⟨A,hA⟩:∃A,A=I9 va vc k:=⟨_,rfl⟩
      obtain ⟨C,hC⟩:∃C,C=vc-k:=⟨_,rfl⟩
      have hcut:∀W,(Instr.sliceAt 29 (.slice va b.length vc) (some (.int .i64 (k:Int))) (some (.int .i64 ((k:Int)+16))) none).run aA W=.ok (.slice A 16 C) W:=λ W=>by
        have:=Ng va b.length vc k (k+16) (by omega) (by omega) W;rw [bM,<-hA,<-hC] at this;exact this
      obtain ⟨M,hM⟩:∃M,M=(b.drop k).take 16:=⟨_,rfl⟩
      have HCUT:Hq (∀W,Ac W l->Bs W (.slice A 16 C) M):=hqZ (λ W hW=>by
        have:=(HV.o W hW).cut k (k+16) (by omega) hlt;rw [bM,<-hA,<-hC,<-hM] at this;exact this)
      have HML:Hq (M.length=16):=hqZ (by rw [hM,bK,aJ]; omega);have HM:=hqZ hM;have hmk:=hM;clear hA hC hM
      cases hmr:Fa M with
      | none=>
        have HF:Hq (Cn b (k+1)=Cn b k):=hqZ (Fe (by rw [<-HM.o]; exact hmr));have HMK:=hqZ (A0p _ M wr (HCUT.o wr HR.o.tail) hmr);unfold A5o at HMK;clear hmr hmk;go_wp2_with fail;refine HMK.o.mono ?_;rintro e w1 ⟨rfl,hb⟩;have HR:=hqZ (HR.o.step hb);clear hb HMK;go_wp2_with fail;go_roundw
        case rel=>exact ⟨k+1,by omega,by go_num,by rw [HF.o]; exact HR.o⟩
        case measure=>simp [intOf]; omega
      | some y=>
        obtain ⟨kd,n⟩:=y;obtain ⟨e1,e2,e3⟩:=F8.1 hmr;have HF:Hq (Cn b (k+1)=Cn b k++ [M]):=hqZ (by rw [Ik (by rw [<-HM.o,hmr]; rfl),<-HM.o]);have HMK:=hqZ (Gt _ kd n wr (by rw [<-e1]; exact HCUT.o wr HR.o.tail) e2 e3);have HKY:Hq (∀W,Ac W l->bR aA 33 #[.slice A 16 C] W λ e w'=>e=.returned (.tuple #[.agg (Ab M).toArray,.bool true])/\Below W.heap.size W w'):=hqZ (λ W hW=>by
          have:=P5 _ _ W (HCUT.o W hW);rw [Ie,if_pos HML.o] at this;exact this)
        have HBL:Hq ((Ab M).length=16):=hqZ (by rw [Aa]; exact HML.o);have HN:Hq ((Cn b k).length<=1000001):=hqZ (by have:=Zm b k; omega);obtain ⟨N,hN⟩:∃N,N=(Cn b k).length:=⟨_,rfl⟩
        obtain ⟨CS,hCS⟩:∃CS,CS=kyC (Cn b k):=⟨_,rfl⟩
        rw [<-hN] at HR HN ⊢;rw [<-hCS] at HR;have HNN:=hqZ hN;have HCS:=hqZ hCS;unfold MkR at HMK;clear hmr hmk e1 e2 e3 hN hCS;go_wp2_with fail;refine HMK.o.mono ?_;rintro e w1 ⟨rfl,hb⟩;have HR:=hqZ (HR.o.step hb);clear hb HMK;go_wp2_with fail;refine (HKY.o w1 HR.o.tail).mono ?_;rintro e w2 ⟨rfl,hb⟩;have HR:=hqZ ((HR.o.step hb).addBlk Bg 43);clear hb HKY;go_wp2_with ((with_reducible refine zws 8 35 ?_); refine Af rfl (.tmp 8) (.tmp 35) Am rfl rfl (vs:=Ab M) rfl HBL.o HR.o.blk0 (aB _) (Ak _) ?_);intro w3 h3 k3;have HR:=hqZ (HR.o.stW (vs:=Ab M) h3 k3 rfl);clear h3 k3;have HR2:=hqZ (HR.o.addBlk (Ab M) 43);have hown:=HR2.o.tail.tail.head.elim λ _ hF=>(And.intro hF.1 hF.2.1)
        have HOW:=hqZ hown;clear hown;go_wp2_with (first | ((with_reducible refine zw 38 ?_); refine Ag rfl (.tmp 8) Am rfl rfl (cs:=Ab M) HBL.o HR.o.blk0.cellsAll ?_) | ((with_reducible refine zw 39 ?_); refine Mf rfl (.tmp 38) A4r rfl rfl (by have:=HBL.o; simpa using this) (by decide) ?_) | ((with_reducible refine zw 40 ?_); refine Do rfl (.tmp 37) (.tmp 39) A4r rfl 0 HOW.o.1 HOW.o.2 (HR2.o.blk0.slS HBL.o (Ak _)) (by have:=HN.o; unfold maxLen; omega) (by have:=HN.o; omega) (aH _) ?_));intro v4 w4 ho hk4 hv4;obtain ⟨a4,c4,rfl,_,_⟩:=ho.sl.form;have HR4:=hqZ ((HR2.o.zP [2]).append ho (by simpa using hk4) (by simpa using hv4));clear ho hk4 hv4;go_wp2_with fail;go_roundw
        case rel=>
          refine ⟨k+1,by omega,by go_num,?_⟩;have h5:=HR4.o.drop2.drop2;rw [HF.o,List.length_append,<-HNN.o,A2C,<-HCS.o];exact h5
        case measure=>simp [intOf]; omega
    · have hlt1:¬(k:Int)+16<=(b.length:Int):=by omega
      have HF:Hq (Cn b k=C1 b):=hqZ (Zl (by omega));go_wp2_with fail;go_ret;have h5:=HR.o;rw [HF.o] at h5;exact ⟨_,by rw [HF.o]; rfl,h5⟩
theorem Tl {c:UInt8} {ms:List (List UInt8)} (h:∀m∈ms,∃kd n,m=Ao kd n/\n<=1099511627776/\(kd=107\/kd=98\/kd=100)) {m:List UInt8} (hm:m∈Fu c ms):Pq c m:=by
  obtain ⟨h1,h2⟩:=List.mem_filter.1 hm;obtain ⟨kd,n,rfl,hn,_⟩:=h m h1;exact ⟨n,hn,by rw [show kd=c from of_decide_eq_true h2]⟩
theorem A0L {c:UInt8} {A B:List (List UInt8)} (h1:∀k∈A,Pq c k) (h2:∀k∈B,Pq c k):Few (A++B):=Ur (c:=c) λ k hk=>(List.mem_append.1 hk).elim (h1 k) (h2 k)
theorem Q5 (p q kb bb ob:Nat) (M:Mi) (Y:List (List UInt8)->Res) (v:bO) (b:List UInt8) (l:List Res) (w:bP) (h:Ac w (Jf p q kb bb ob M::Y M.boxes::l)) (hv:∀W,Ac W l->Bs W v b) (hY:De b= []\/Y=D5 bb) (hok:M.Ok) (hal:M.all.length<=1000000) (hbl:b.length<=1000000): bR aA 39 #[.pointer (some ⟨p,0,none⟩),v] w λ e w'=>e=.returned (.tuple #[])/\Ac w' (Jf p q kb bb ob (M.take b)::Y (M.take b).boxes::l):=by
  obtain ⟨sa,sc,vs,h⟩:=Ev h;obtain ⟨n,hn⟩:∃n,n=M.all.length:=⟨_,rfl⟩
  rw [<-hn] at h;have HN:=hqZ hn;have HB1:Hq (n+1<=maxLen):=hqZ (by unfold maxLen; omega);have HB2:Hq ((n+1)*24<=140737488355328):=hqZ (by omega);obtain ⟨ba,bc,rfl,_,_⟩:=(hv w h.tail.tail.tail.tail.tail.tail).form;have HV:=hqZ hv;have HBL:=hqZ hbl;have HOK:=hqZ hok;have HY:=hqZ hY;have HC:=hqZ h;clear h hv hbl hn hal hok hY;go_enter Tryz.func39,Tryz.ntmps39;go_upto_region 0 with fail;refine Cx [11] (λ b W=>b= [false]->W.cell? ⟨p,4,none⟩=some (.slice sa n sc)) (by kernel_rfl) ?_;have HC:=hqZ HC.o.drew;refine zT 0 ?_;refine zT 1 ?_;refine zT 2 ?_;refine zT 3 ?_;refine zTk 4 [11] ?_ (v:=.slice sa n sc) (hr:=λ l W hk hW=>by have c:=hW (A0G hk); go_simp);refine zT 5 ?_;refine zJ 6 λ K hK=>?_
  go_simp;refine (Hg _ b _ (HV.o _ HC.o.tail.tail.tail.tail.tail.tail) (by have:=HBL.o; omega)).mono ?_;rintro e w1 ⟨x,rfl,ho,_,hb⟩;obtain ⟨xa,xc,rfl,_,_⟩:=ho.sl.form;have HC:=hqZ (HC.o.freshRow hb ho);clear ho hb;refine zq hK ?_;clear hK K;refine zJ 7 λ K hK=>?_
  refine zN (λ b=>.slice (some ⟨b,0,none⟩) 1 1) [.slice xa b.length xc] 29 HC.o ?_;intro b18 w2 HC;refine zq hK ?_;clear hK K;refine zJ 8 λ K hK=>?_
  refine Yb rfl (.tmp 13) (.tmp 16) L7 rfl rfl rfl (HC.o.zP [5]) (HC.o.blk0.slS rfl (by intro u hu; simp only [aS,bL,or_false] at hu; rcases hu with rfl <;> rfl)) (by decide) HB1.o HB2.o ?_;intro v3 w3 hc;obtain ⟨qg,qo,qn,rfl,_⟩:=(hc.ownZOf (e:=29) (sz:=1) (v:=v3) (n:=n+1) (cs:=vs++ [.slice xa b.length xc]) (by simp)).form (by omega);have HC:=hqZ hc;clear hc;refine zq hK ?_;clear hK K;refine zT 9 ?_;refine zT 10 ?_;refine zJ 11 λ K hK=>?_
  refine zS1 (cs:=Fs q kb bb ob (.slice (some ⟨qg,qo,none⟩) (n+1) qn)) (HC.o.zP [3]) ?_ (hf:=by simp [Fs]) (hc:=rfl);intro w4 HC;refine zq hK ?_;clear hK K;refine zD ?_;have HC:=hqZ ((D8 (HC.o.zP [2,5,2,0,1,2,1]).tail).zP [1,1,1,1,1]);obtain ⟨AV,hAV⟩:∃AV,AV=bO.slice (some ⟨qg,qo,none⟩) (n+1) qn:=⟨_,rfl⟩
  rw [<-hAV] at HC;obtain ⟨VS,hVS⟩:∃VS,VS=vs++ [bO.slice xa b.length xc]:=⟨_,rfl⟩
  rw [<-hVS] at HC;have HC:Hq (Ac w4 (.blk p (Fs q kb bb ob AV) 134::D5 kb M.keys::Y M.boxes::D5 ob M.opens::.ownZ 29 1 AV (n+1) VS::Br VS (M.all++ [b])::l)):=HC;have HFI:=hqZ (Pj (.slice ba b.length bc) b _ w4 HC.o (λ W hW=>HV.o W hW.tail.tail.tail.tail.tail.tail) HBL.o);obtain ⟨FSq,hFS⟩:∃FSq,FSq=C1 b:=⟨_,rfl⟩
  rw [<-hFS] at HFI;have HMK:Hq (∀m∈FSq,∃kd n,m=Ao kd n/\n<=1099511627776/\(kd=107\/kd=98\/kd=100)):=hqZ (λ m hm=>Jb (by rw [<-hFS]; exact hm));have HFK:Hq (Fu 107 FSq=Hu b/\Fu 98 FSq=De b):=hqZ (by rw [hFS]; exact ⟨rfl,rfl⟩);clear hFS hAV hVS HC;go_wp2_with fail;refine HFI.o.mono ?_;rintro e w5 ⟨x,rfl,hc⟩;obtain ⟨fa,fc,rfl,hfc,hfm⟩:=hc.slf;obtain ⟨N,hNF⟩:∃N,N=FSq.length:=⟨_,rfl⟩
  rw [<-hNF] at hc hfc;rw [<-hNF];have HNF:=hqZ hNF;have HC:=hqZ hc;unfold maxLen at hfm;clear hc HFI hNF;go_wp2_with fail;go_loopw [23] (λ i wr=>∃(k:Nat),k<=N/\i=.int .i64 k/\Ac wr (.own 43 16 (.slice fa N fc) N (kyC FSq)::.blk p (Fs q kb bb ob AV) 134::D5 kb (Fu 107 (FSq.take k)++M.keys)::Y (Fu 98 (FSq.take k)++M.boxes)::D5 ob M.opens::.ownZ 29 1 AV (n+1) VS::Br VS (M.all++ [b])::l)) (λ i _=>N- (intOf i).toNat)
  case atStart=>exact ⟨0,aH _,rfl,HC.o⟩
  case round=>
    obtain ⟨k,hk,rfl,hr⟩:=hrel;have HC:=hqZ hr;clear hr;by_cases hlt:k<N
    · obtain ⟨m,hm⟩:∃m,FSq[k]?=some m:=⟨_,aK (by rw [<-HNF.o]; exact hlt)⟩
      have hmem:=aL hm;obtain ⟨kd,mn,hme,hmn,hkd⟩:=HMK.o m hmem;have HM16:Hq (m.length=16):=hqZ (by rw [hme]; exact An _ _);have HM2:Hq (m.getD 2 0=kd):=hqZ (by rw [hme]; rfl);have HTK:Hq (FSq.take (k+1)=FSq.take k++ [m]):=hqZ (by rw [List.take_add_one,hm]; rfl);have HFEWK:Hq (Few (Fu 107 (FSq.take k)++M.keys)):=hqZ (A0L (c:=107) (λ x hx=>Tl (λ y hy=>HMK.o y (bN hy)) hx) HOK.o.keys);have HFEWB:Hq (Few (Fu 98 (FSq.take k)++M.boxes)):=hqZ (A0L (c:=98) (λ x hx=>Tl (λ y hy=>HMK.o y (bN hy)) hx) HOK.o.boxes);have HMEM:=hqZ hmem;have HBM:Hq ((Ab m).length=16):=hqZ (by rw [Aa]; exact HM16.o);obtain ⟨fb,fo,hfe,hcx⟩:=Nj Ab FSq (λ x hx=>by obtain ⟨_,_,e,_⟩:=HMK.o x hx; rw [Aa,e]; exact An _ _) (HC.o.head.elim λ _ hF=>hF.1.sl) hm (by decide);subst hfe;have HCX:=hqZ hcx;have hk0:(k:Int)<N:=by omega
      have HME:=hqZ hme;have HKD:=hqZ hkd;have HMN:=hqZ hmn;have HC:=hqZ (HC.o.addBlk Bg 43);clear hm hmem hcx hme hkd hmn;go_wp2_with (first | ((with_reducible refine zw 26 ?_); refine Ag rfl (.tmp 25) Am rfl rfl (cs:=Ab m) HBM.o HCX.o ?_) | ((with_reducible refine zws 5 26 ?_); refine Af rfl (.tmp 5) (.tmp 26) Am rfl rfl (vs:=Ab m) rfl HBM.o HC.o.blk0 (aB _) (Ak _) ?_));intro w6 h6 k6;have HC:=hqZ (HC.o.stW (vs:=Ab m) h6 k6 rfl);have HMKC:=hqZ (Gt (.slice (some ⟨wr.heap.size,0,none⟩) 16 16) kd mn w6 (by
        have:=HC.o.blk0.bs (off:=0) (n:=16) (cap:=16) (by rw [HM16.o]; decide) (aB _) (by unfold maxLen; decide);rw [<-HME.o];exact Sl.bs this (by rw [aP,aM (by rw [HM16.o]; decide)]) HM16.o) HMN.o HKD.o)
      obtain ⟨B,hB⟩:∃B,B=wr.heap.size:=⟨_,rfl⟩
      rw [<-hB] at HC HMKC;rw [<-hB];clear h6 k6 hB;go_wp2_with fail;refine HMKC.o.mono ?_;rintro e w7 ⟨rfl,hb⟩;have HC:=hqZ (HC.o.step hb);clear hb HMKC;rcases HKD.o with rfl | rfl | rfl
      · have h107:((107:UInt8).toNat:Int)=107:=by decide
        go_upto_region 7 with fail;refine Cx [] (λ b W=>W.cell? ⟨p,1,none⟩=some (.map (some kb))/\Al W B 0 (Ab m)) (by kernel_rfl) ?_;have HC:=hqZ HC.o.drew;have HS:=hqZ (And.intro (HC.o.zc (p:=p) (k:=1) (v:=.map (some kb))) (HC.o.zca (p:=B)));refine zT 0 ?_;refine zT 1 ?_;refine zT 2 ?_;refine zT 3 ?_ (v:=.map (some kb)) (hr:=λ l W hk hW=>by have c:=hW.1; go_simp);refine zT 4 ?_ (v:=.agg (Ab m).toArray) (hr:=λ l W hk hW=>ldJ Am rfl HBM.o hW.2);refine zJ 5 λ K hK=>?_
        refine H8 rfl _ _ _ rfl (HC.o.zP [3]) rfl HFEWK.o HM16.o rfl rfl ?_;intro w8 HC;refine zq hK ?_ (hS:=And.intro (HC.o.zc (p:=p) (k:=1) (v:=.map (some kb))) (HC.o.zca (p:=B)));clear hK K HS;refine zD ?_;go_wp2_with fail;go_roundw
        case rel=>
          refine ⟨k+1,by omega,by go_num,?_⟩;rw [HTK.o,Kr (c:=107) HM2.o,Fv (c:=98) (by rw [HM2.o]; decide)];exact ((Rv HC.o Xs).zP [1]).tail.zP [1,1]
        case measure=>simp [intOf]; omega
      · have h98:((98:UInt8).toNat:Int)=98:=by decide
        rcases HY.o with hb0 | rfl
        · exfalso
          have:m∈Fu 98 FSq:=List.mem_filter.2 ⟨HMEM.o,decide_eq_true HM2.o⟩;rw [HFK.o.2,hb0] at this
          cases this
        go_upto_region 9 with fail;refine Cx [] (λ b W=>W.cell? ⟨p,2,none⟩=some (.map (some bb))/\Al W B 0 (Ab m)) (by kernel_rfl) ?_;have HC:=hqZ HC.o.drew;have HS:=hqZ (And.intro (HC.o.zc (p:=p) (k:=2) (v:=.map (some bb))) (HC.o.zca (p:=B)));refine zT 0 ?_;refine zT 1 ?_;refine zT 2 ?_;refine zT 3 ?_ (v:=.map (some bb)) (hr:=λ l W hk hW=>by have c:=hW.1; go_simp);refine zT 4 ?_ (v:=.agg (Ab m).toArray) (hr:=λ l W hk hW=>ldJ Am rfl HBM.o hW.2);refine zJ 5 λ K hK=>?_
        refine H8 rfl _ _ _ rfl (HC.o.zP [4]) rfl HFEWB.o HM16.o rfl rfl ?_;intro w8 HC;refine zq hK ?_ (hS:=And.intro (HC.o.zc (p:=p) (k:=2) (v:=.map (some bb))) (HC.o.zca (p:=B)));clear hK K HS;refine zD ?_;go_wp2_with fail;go_roundw
        case rel=>
          refine ⟨k+1,by omega,by go_num,?_⟩;rw [HTK.o,Kr (c:=98) HM2.o,Fv (c:=107) (by rw [HM2.o]; decide)];exact ((Rv HC.o Xs).zP [1]).tail.zP [1,1,1]
        case measure=>simp [intOf]; omega
      · have h100:((100:UInt8).toNat:Int)=100:=by decide
        go_wp2_with fail;go_roundw
        case rel=>
          refine ⟨k+1,by omega,by go_num,?_⟩;rw [HTK.o,Fv (c:=98) (by rw [HM2.o]; decide),Fv (c:=107) (by rw [HM2.o]; decide)];exact HC.o.tail
        case measure=>simp [intOf]; omega
    · obtain rfl:k=N:=by omega
      go_wp2_with fail;go_end0;have h9:=HC.o.tail;rw [aM (by rw [<-HNF.o]; exact aB _),HFK.o.1,HFK.o.2] at h9;refine ⟨rfl,F9 (M:=M.take b) (av:=AV) (vs:=VS) ?_⟩;rw [show (M.take b).all.length=n+1 by rw [HN.o]; show (M.all++ [b]).length=_; simp];exact h9.zP [0,0,1,1,1]
def A5l (T:Sy) (n:Nat) (o:Option Bx):Prop:=(o=none/\(n=0\/T.boxes.length<n))\/∃i bx,n=i+1/\T.boxes[i]?=some bx/\o=some bx
theorem A3v (T:Sy) (n:Nat):∃o,A5l T n o:=by
  by_cases h:n=0\/T.boxes.length<n
  · exact ⟨none,.inl ⟨rfl,h⟩⟩
  · exact ⟨T.boxes[n-1]?,.inr ⟨n-1,T.boxes[n-1]'(by omega),by omega,aK _,aK _⟩⟩
def bxO (o:Option Bx) (x:bO):List bO:=match o with | none=>Ig | some bx=>Ab bx.by_++ [.int .i64 bx.usage,x]
def A2V (o:Option Bx) (x:bO):Res:=match o with | none=>.emp | some bx=>.row x bx.body
def A4D (q:Nat) (T:Sy) (o:Option Bx) (l:List Res) (e:Ending) (w':bP):Prop:=
  ∃x,e=.returned (.tuple #[.agg (bxO o x).toArray,.bool o.isSome])/\(bxO o x).length=18/\(∀u∈bxO o x,u.oneCell'=true)/\Ac w' (A2V o x::B2 q T::l)
theorem Ye (q:Nat) (T:Sy) (n:Nat) (o:Option Bx) (v:bO) (l:List Res) (w:bP) (h:Ac w (B2 q T::l)) (hv:Bs w v (Ao 98 n)) (hn:n<=1099511627776) (hT:T.boxes.length<1099511627776) (hb:∀bx∈T.boxes,bx.body.length<=2000) (ho:A5l T n o): bR aA 89 #[.pointer (some ⟨q,0,none⟩),v] w (A4D q T o l):=by
  rcases ho with ⟨rfl,h0⟩ | ⟨i,bx,rfl,hi,rfl⟩
  · refine (A1K q T n v l w h hv hn hT h0).mono ?_;rintro e w' ⟨rfl,hc⟩;exact ⟨.bool false,rfl,rfl,Sf,hc.addEmpX⟩
  · have h16:bx.by_.length=16:=by
      obtain ⟨x,hok,_⟩:=Bo.1 h;exact hok.1.bx bx (aL hi)
    refine (R2 q T i bx v l w h hv hi hT (by have:=hb bx (aL hi); omega)).mono ?_;rintro e w' ⟨x,rfl,hc⟩;obtain ⟨xa,xc,rfl,_,_⟩:=(hc.rowOf (v:=x) (b:=bx.body) (by simp)).form;refine ⟨_,rfl,?_,?_,hc⟩
    · simp [bxO,Aa,h16]
    · intro u hu;rcases List.mem_append.1 hu with h | h
      · exact Ak _ u h
      · simp at h; rcases h with rfl | rfl <;> rfl
structure Qh (T:Sy):Prop where
  nb:T.boxes.length<=100000
  nk:T.keys.length<=100000
  body:∀bx∈T.boxes,De bx.body= []/\bx.body.length<=2000
theorem Uv {left:Lit->Bool} {s j:KK} (h:(left (kkL j)&& !(kkL j).sameKey (kkL s))=false):left (kkL j)=false\/j=s:=by
  rw [Bool.and_eq_false_iff] at h;rcases h with h | h
  · exact .inl h
  · refine .inr ?_;rw [Bool.not_eq_false',W8,decide_eq_true_eq] at h;exact h
theorem A0T {U:List (KK×Unit)} {s:KK} {v:bO} (h:(s,v)∈ksM U):Ej U s=true:=by
  obtain ⟨y,hy,e⟩:=List.mem_map.1 h;injection e with e1 e2;exact List.any_eq_true.2 ⟨y,hy,by simp [e1]⟩
end Go.Proofs.YtbmjjfhpllpiaaaGreat
