/- Texts of this proof, one behind the other: RowBase, RegInv, Base, ByteC, Bytes, Slices, Flat, Tv, OctetPut, OctetEq, Octet, DerSpec, Cut, DerSize. -/
import Derived.Test.YtpjkidcfidmfaaaRows
import Derived.WalkKit
import Derived.ProofKit
import Derived.OpenShut
import Derived.ShutString
import Derived.ChangeOld
import Derived.Below
import Derived.JoinedCond
import Derived.OrdersHeld
import Derived.Laws.CopyOwn
import Derived.Deep.Draws
import Derived.Deep.QuietTactic
import Derived.BigQuiet
import Derived.Lib.Hide
import Derived.Deep.RegionLawGrows
import Derived.Deep.RegionHeld3
import Derived.ChangeAlike
import Derived.RegionTactic
import Derived.WalkSmall
import Derived.Test.YtpjkidcfidmfaaaProg
import Derived.Outline
import Derived.Great.BuildSlice
namespace Go.Proofs.Ytpjkidcfidmfaaa
set_option linter.unusedSimpArgs false
set_option linter.unusedVariables false
open Go.ChangeShapes Go.WideShapes Go.ChangeAt Go.RowKit
theorem hqZ {p : Prop} (h : p) : Go.RowKit.Hid p := h
theorem rowOwn : ownKnob Try.prog.godebug = none := by kernel_rfl
theorem rowLaidOut : laidOutB Try.prog = true := by kernel_rfl
theorem trodAll_below {H : Type} {enc : TypeId × Value → H} {P : Program} (hl : laidOutB P = true) {W W' : World} (hb : Below W.heap.size W W') : ∀ {ts : List TypeId} {vs : List Value} {ds : List (DataW H)} {ps : List MemPlace},
    (ts.all fun t => P.readableRec t && decide (t < P.types.size)) = true → DataW.TrodAll enc P W 0 (fun _ => true) true ts vs ds ps →
    DataW.TrodAll enc P W' 0 (fun b => decide (b < W.heap.size)) true ts vs ds ps
  | [], [], [], ps, _, h => h
  | t :: ts, v :: vs, d :: ds, ps, hr, h => by
    obtain ⟨p, q, h1, h2, rfl⟩ := h
    simp only [List.all_cons, Bool.and_eq_true, decide_eq_true_eq] at hr
    exact ⟨p, q, Below.trod hl hr.1.1 hr.1.2 h1 hb (by obtain ⟨m, hm⟩ := h1; exact DataW.trod_lt m _ _ _ hm), trodAll_below hl hb hr.2 h2, rfl⟩
  | [], _ :: _, _, _, _, h => h.elim
  | [], [], _ :: _, _, _, h => h.elim
  | _ :: _, [], _, _, _, h => h.elim
  | _ :: _, _ :: _, [], _, _, h => h.elim
end Go.Proofs.Ytpjkidcfidmfaaa
namespace Go.Proofs.Ytpjkidcfidmfaaa
set_option linter.unusedSimpArgs false
set_option linter.unusedVariables false
section
structure Fr (a0 a : Act) (ds : List Nat) : Prop where
  defers : a.defers = a0.defers
  size : a.tmps.size = a0.tmps.size
  same : ∀ s, s ∉ ds → a.tmps[s]? = a0.tmps[s]?
theorem Fr.refl (a : Act) (ds : List Nat) : Fr a a ds := ⟨rfl, rfl, fun _ _ => rfl⟩
theorem Fr.eval {a0 a : Act} {ds : List Nat} (h : Fr a0 a ds) (s : Nat) (hs : ds.contains s = false) : a.eval (.tmp s) = a0.eval (.tmp s) := by
  have h1 := h.same s (by simpa using hs)
  simp only [Act.eval]
  rw [Array.getD_eq_getD_getElem?, Array.getD_eq_getD_getElem?, h1]
theorem Fr.put {a0 a : Act} {ds : List Nat} (h : Fr a0 a ds) (d : Option Tmp) (v : Value) (hd : ∀ s, d = some s → s ∈ ds) : Fr a0 (a.put d v) ds := by
  cases d with
  | none => exact h
  | some s =>
    refine ⟨h.defers, by simp [Act.put, h.size], fun t ht => ?_⟩
    have hne : s ≠ t := fun e => ht (e ▸ hd s rfl)
    simp only [Act.put]
    rw [Array.getElem?_setIfInBounds_ne hne]
    exact h.same t ht
section
variable (P : Program) (md : Region.Mode) (ops : Array Oper) (Q : Exit → Act → World → Prop) (S : World → Prop) (G : World → World → Prop) (Post : Nat → Value → World → Prop)
def dstOf (i : Nat) : Option Tmp := (ops[i]?).bind (·.dst)
def PostAt (i : Nat) (a : Act) (w : World) : Prop := ∃ v, Post i v w ∧ ∀ s, dstOf ops i = some s → a.tmps.getD s undef = v
def depB (listed0 : Array Bool) (i d : Nat) : Bool := ((ops[i]?).map fun o => o.after.toList.any fun e => Region.binds md e && e.on == d).getD false && !listed0.getD d true
def invOk (listed0 : Array Bool) (ds : List Nat) (n : Nat) : Bool :=
  listed0.size == ops.size && ((List.range ops.size).all fun i => ((ops[i]?).map fun o => o.after.all fun e => !Region.binds md e || decide (e.on < i)).getD true) &&
  ((List.range ops.size).all fun i => listed0.getD i true || (match dstOf ops i with | none => true | some s => ds.contains s && decide (s < n) && (List.range ops.size).all fun j => i == j || listed0.getD j true || dstOf ops j != some s))
def StepAt (listed0 : Array Bool) (ds : List Nat) (a0 : Act) (w0 : World) (i : Nat) : Prop :=
  ∀ o, ops[i]? = some o → ∀ a w, Fr a0 a ds → G w0 w → S w → (∀ d, depB md ops listed0 i d = true → PostAt ops Post d a w) → ∀ K : Act → World → Prop, (∀ v w', G w w' → Post i v w' → K (a.put o.dst v) w') →
    if Region.wanted o (yielded ops a.tmps) = true then Oper.wp P o a w K Q else K (a.put o.dst undef) w
end
theorem getD_le {l : Array Bool} {i : Nat} (h : l.getD i true = false) : i < l.size := by
  rcases Nat.lt_or_ge i l.size with h' | h'
  · exact h'
  · rw [Array.getD_eq_getD_getElem?, Array.getElem?_eq_none h'] at h
    cases h
theorem getD_ff {l : Array Bool} {i : Nat} (h : i < l.size) (b c : Bool) : l.getD i b = l.getD i c := by
  rw [Array.getD_eq_getD_getElem?, Array.getD_eq_getD_getElem?, Array.getElem?_eq_getElem h]; rfl
theorem getD_setB {l : Array Bool} {i j : Nat} (b : Bool) : (l.setIfInBounds i true).getD j b = if i = j ∧ i < l.size then true else l.getD j b := by
  rw [Array.getD_eq_getD_getElem?, Array.getElem?_setIfInBounds, Array.getD_eq_getD_getElem?]
  by_cases h : i = j
  · subst h
    by_cases h2 : i < l.size
    · simp [h2]
    · simp [h2]
  · simp [h]
def leftN (n : Nat) (l : Array Bool) : Nat := ((List.range n).filter fun i => !l.getD i true).length
theorem leftN_set {n : Nat} {l : Array Bool} {i : Nat} (hi : l.getD i true = false) (hn : i < n) : leftN n (l.setIfInBounds i true) < leftN n l := by
  have hil := getD_le hi
  unfold leftN
  rw [← List.countP_eq_length_filter, ← List.countP_eq_length_filter]
  have key : ∀ L : List Nat, i ∈ L → L.countP (fun j => !(l.setIfInBounds i true).getD j true) < L.countP (fun j => !l.getD j true) := by
    have le : ∀ L : List Nat, L.countP (fun j => !(l.setIfInBounds i true).getD j true) ≤ L.countP (fun j => !l.getD j true) := fun L => List.countP_mono_left (fun j _ h => by
      rw [getD_setB] at h
      split at h
      · simp at h
      · exact h)
    intro L hL
    induction L with
    | nil => simp at hL
    | cons x L ih =>
      rw [List.countP_cons, List.countP_cons]
      by_cases hx : i = x
      · subst hx
        have h1 : (!(l.setIfInBounds i true).getD i true) = false := by rw [getD_setB, if_pos ⟨rfl, hil⟩]; rfl
        have h2 : (!l.getD i true) = true := by rw [hi]; rfl
        rw [h1, h2]
        have := le L
        rw [if_neg Bool.false_ne_true, if_pos rfl]
        omega
      · have h1 := ih ((List.mem_cons.1 hL).resolve_left hx)
        have h2 : (l.setIfInBounds i true).getD x true = l.getD x true := by rw [getD_setB, if_neg (fun h => hx h.1)]
        rw [h2]
        omega
  exact key _ (List.mem_range.2 hn)
section
variable {P : Program} {md : Region.Mode} {ops : Array Oper} {Q : Exit → Act → World → Prop} {S : World → Prop} {G : World → World → Prop} {Post : Nat → Value → World → Prop}
theorem anyH_inv (hr : ∀ w, G w w) (ht : ∀ a b c, G a b → G b c → G a c) (hS : ∀ w w', S w → G w w' → S w') (hst : ∀ i v w w', Post i v w → G w w' → Post i v w')
    {listed0 : Array Bool} {ds : List Nat} {a0 : Act} {w0 : World} (hok : invOk md ops listed0 ds a0.tmps.size = true)
    (hstep : ∀ i, i < ops.size → listed0.getD i true = false → StepAt P md ops Q S G Post listed0 ds a0 w0 i)
    (hfin : ∀ a w, Fr a0 a ds → G w0 w → S w → (∀ i, i < ops.size → listed0.getD i true = false → PostAt ops Post i a w) → Q .normal a w) (hS0 : S w0) {fuel : Nat} (hfuel : leftN ops.size listed0 ≤ fuel) :
    wpAnyH P md ops Q S fuel listed0 a0 w0 := by
  unfold invOk at hok
  simp only [Bool.and_eq_true, beq_iff_eq, List.all_eq_true, List.mem_range] at hok
  obtain ⟨⟨hsz, hback⟩, hdst⟩ := hok
  have hd1 : ∀ i s, i < ops.size → listed0.getD i true = false → dstOf ops i = some s → s ∈ ds ∧ s < a0.tmps.size ∧ ∀ j, j < ops.size → listed0.getD j true = false → i ≠ j → dstOf ops j ≠ some s := by
    intro i s hi hl hs
    have h := hdst i hi
    rw [hl, hs] at h
    simp only [Bool.false_or, Bool.and_eq_true, List.contains_iff_mem, decide_eq_true_eq, List.all_eq_true, List.mem_range, Bool.or_eq_true, beq_iff_eq, bne_iff_ne] at h
    refine ⟨h.1.1, h.1.2, fun j hj hjl hne hjs => ?_⟩
    rcases h.2 j hj with (h' | h') | h'
    · exact hne h'
    · rw [hjl] at h'; cases h'
    · exact h' hjs
  suffices hh : ∀ (fuel : Nat) (listed : Array Bool) (a : Act) (w : World), listed.size = ops.size → (∀ i, listed0.getD i true = true → listed.getD i true = true) → leftN ops.size listed ≤ fuel → Fr a0 a ds → G w0 w → S w →
      (∀ i, i < ops.size → listed0.getD i true = false → listed.getD i true = true → PostAt ops Post i a w) → wpAnyH P md ops Q S fuel listed a w from
    hh fuel listed0 a0 w0 hsz (fun _ h => h) hfuel (Fr.refl _ _) (hr _) hS0 (fun i _ h0 h1 => by rw [h0] at h1; cases h1)
  have allL : ∀ (listed : Array Bool), listed.size = ops.size → Region.ready md ops listed = [] → ∀ j, j < ops.size → listed.getD j true = true := by
    intro listed hl hr j
    induction j using Nat.strongRecOn with
    | _ j ih =>
      intro hj
      cases hv : listed.getD j true with
      | true => rfl
      | false =>
        exfalso
        have : j ∈ Region.ready md ops listed := by
          refine mem_ready.2 ⟨hv, ops[j], by simp [hj], fun e he hbe => ?_⟩
          have hb := hback j hj
          rw [Array.getElem?_eq_getElem hj] at hb
          simp only [Option.map_some, Option.getD_some, Array.all_eq_true_iff_forall_mem] at hb
          have hlt := hb e he
          rw [hbe] at hlt
          simp only [Bool.not_true, Bool.false_or, decide_eq_true_eq] at hlt
          rw [getD_ff (by rw [hl]; omega) false true]
          exact ih e.on hlt (by omega)
        rw [hr] at this
        cases this
  intro fuel
  induction fuel with
  | zero =>
    intro listed a w hl hsub hc hf hg hs hp
    have hall : ∀ j, j < ops.size → listed.getD j true = true := by
      intro j hj
      cases hv : listed.getD j true with
      | true => rfl
      | false =>
        exfalso
        have : 0 < leftN ops.size listed := by
          unfold leftN
          exact List.length_pos_of_mem (a := j) (List.mem_filter.2 ⟨List.mem_range.2 hj, by rw [hv]; rfl⟩)
        omega
    refine ⟨?_, hfin a w hf hg hs (fun i hi h0 => hp i hi h0 (hall i hi))⟩
    rw [List.eq_nil_iff_forall_not_mem]
    intro j hj
    have h1 := (mem_ready.1 hj).1
    have h2 := hall j (by rw [← hl]; exact getD_le h1)
    rw [h1] at h2
    cases h2
  | succ fuel ih =>
    intro listed a w hl hsub hc hf hg hs hp
    refine ⟨fun hre => hfin a w hf hg hs (fun i hi h0 => hp i hi h0 (allL listed hl hre i hi)), fun i hi => ?_⟩
    obtain ⟨hiu, o, ho, hall⟩ := mem_ready.1 hi
    have hin : i < ops.size := by rw [← hl]; exact getD_le hiu
    have hi0 : listed0.getD i true = false := by
      cases hv : listed0.getD i true with
      | false => rfl
      | true => rw [hsub i hv] at hiu; cases hiu
    have hdo : dstOf ops i = o.dst := by unfold dstOf; rw [ho]; rfl
    have hK : ∀ v w', G w w' → Post i v w' → S w' ∧ wpAnyH P md ops Q S fuel (listed.setIfInBounds i true) (a.put o.dst v) w' := by
      intro v w' hgw hpv
      have hs' := hS _ _ hs hgw
      refine ⟨hs', ih _ _ _ (by simp [hl]) (fun j hj => ?_) (by have := leftN_set hiu hin; omega) (hf.put _ _ (fun s hs => (hd1 i s hin hi0 (hdo.trans hs)).1)) (ht _ _ _ hg hgw) hs' (fun j hj hj0 hjl => ?_)⟩
      · rw [getD_setB]
        split
        · rfl
        · exact hsub j hj
      · by_cases hij : i = j
        · subst hij
          refine ⟨v, hpv, fun s hs => ?_⟩
          have h1 := (hd1 i s hin hi0 hs).2.1
          rw [hdo] at hs
          rw [hs]
          simp only [Act.put]
          rw [Array.getD_eq_getD_getElem?, Array.getElem?_setIfInBounds_self_of_lt (by rw [hf.size]; exact h1)]
          rfl
        · rw [getD_setB, if_neg (fun h => hij h.1)] at hjl
          obtain ⟨u, hu, hus⟩ := hp j hj hj0 hjl
          refine ⟨u, hst _ _ _ _ hu hgw, fun s hs => ?_⟩
          have h1 := hus s hs
          cases hod : o.dst with
          | none => exact h1
          | some t =>
            have hne : t ≠ s := fun e => (hd1 i t hin hi0 (hdo.trans hod)).2.2 j hj hj0 hij (by rw [hs, e])
            simp only [Act.put]
            rw [Array.getD_eq_getD_getElem?, Array.getElem?_setIfInBounds_ne hne, ← Array.getD_eq_getD_getElem?]
            exact h1
    have hst1 := hstep i hin hi0 o ho a w hf hg hs (fun d hd => by
      unfold depB at hd
      rw [ho] at hd
      simp only [Option.map_some, Option.getD_some, Bool.and_eq_true, List.any_eq_true, beq_iff_eq, Bool.not_eq_true'] at hd
      obtain ⟨⟨e, he, hb, rfl⟩, hd0⟩ := hd
      have he : e ∈ o.after := by simpa using he
      have hlt : e.on < ops.size := by rw [← hsz]; exact getD_le hd0
      exact hp e.on hlt hd0 (by rw [← getD_ff (by rw [hl]; exact hlt) false true]; exact hall e he hb)) (fun a' w' => S w' ∧ wpAnyH P md ops Q S fuel (listed.setIfInBounds i true) a' w') hK
    unfold wpOp
    simp only [ho]
    split
    · rename_i hw
      rw [if_pos hw] at hst1
      exact .inl hst1
    · rename_i hw
      rw [if_neg hw] at hst1
      exact hst1
end
end
end Go.Proofs.Ytpjkidcfidmfaaa
namespace Go.Proofs.Ytpjkidcfidmfaaa
set_option linter.unusedSimpArgs false
set_option linter.unusedVariables false
open Go.RowKit
structure Keeps (S : Nat → Prop) (w w' : World) : Prop where
  os : w'.os = w.os
  tape : w'.tape = w.tape
  output : w'.output = w.output
  size : w.heap.size ≤ w'.heap.size
  block : ∀ k, ¬ S k → w'.heap[k]? = w.heap[k]?
theorem Keeps.refl (S : Nat → Prop) (w : World) : Keeps S w w := ⟨rfl, rfl, rfl, Nat.le_refl _, fun _ _ => rfl⟩
theorem Keeps.trans {S : Nat → Prop} {a b c : World} (h : Keeps S a b) (k : Keeps S b c) : Keeps S a c :=
  ⟨k.os.trans h.os, k.tape.trans h.tape, k.output.trans h.output, Nat.le_trans h.size k.size, fun i hi => (k.block i hi).trans (h.block i hi)⟩
theorem Keeps.mono {S T : Nat → Prop} {w w' : World} (h : Keeps S w w') (hs : ∀ k, S k → T k) : Keeps T w w' :=
  ⟨h.os, h.tape, h.output, h.size, fun k hk => h.block k (fun x => hk (hs k x))⟩
theorem Keeps.of_below {B : Nat} {w w' : World} (h : Below B w w') : Keeps (fun k => B ≤ k) w w' :=
  ⟨h.os, h.tape, h.output, h.size, fun k hk => h.block k (by omega)⟩
theorem Keeps.below {B : Nat} {S : Nat → Prop} {w w' : World} (h : Keeps S w w') (hs : ∀ k, S k → B ≤ k) : Below B w w' :=
  ⟨h.os, h.tape, h.output, h.size, fun k hk => h.block k (fun x => by have := hs k x; omega)⟩
theorem Keeps.drew {S : Nat → Prop} {a w : World} (h : Keeps S a w) : Keeps S a w.drew := ⟨h.os, h.tape, h.output, h.size, h.block⟩
theorem Keeps.drewN {S : Nat → Prop} {a w : World} (h : Keeps S a w) (n : Nat) : Keeps S a (w.drewN n) := ⟨h.os, h.tape, h.output, h.size, h.block⟩
theorem Keeps.alloc {S : Nat → Prop} {a w : World} (h : Keeps S a w) (o : Obj) (hs : S w.heap.size) : Keeps S a (w.alloc o) :=
  h.trans ⟨rfl, rfl, rfl, by simp, fun k hk => by
    show (w.heap.push o)[k]? = _
    rw [Array.getElem?_push, if_neg (by rintro rfl; exact hk hs)]⟩
theorem Keeps.setCell {S : Nat → Prop} {a w : World} (h : Keeps S a w) {p : Addr} (hs : S p.block) (u : Value) : Keeps S a (w.setCell p u) :=
  h.trans ⟨rfl, rfl, rfl, by simp [World.setCell], fun k hk => Below.heap_setCell _ _ _ _ (by rintro rfl; exact hk hs)⟩
theorem Keeps.one (w : World) (p o : Nat) (u : Value) : Keeps (fun k => k = p) w (w.setCell ⟨p, o, none⟩ u) := Keeps.setCell (S := fun k => k = p) (p := ⟨p, o, none⟩) (Keeps.refl _ _) rfl u
theorem Keeps.setRow {S : Nat → Prop} {a w : World} (h : Keeps S a w) {g : Nat} (hs : S g) (cs : Array Value) : Keeps S a (w.setRow g cs) :=
  h.trans ⟨rfl, rfl, rfl, by simp, fun k hk => setRow_other w g k cs (by rintro rfl; exact hk hs)⟩
theorem Keeps.oneRow (w : World) (g : Nat) (cs : Array Value) : Keeps (fun k => k = g) w (w.setRow g cs) := Keeps.setRow (S := fun k => k = g) (g := g) (Keeps.refl _ _) rfl cs
theorem Keeps.grown {S : Nat → Prop} {a w w' : World} {row : Option Nat} (h : Keeps S a w) (hg : w.grownBy w' row) (hn : ∀ k, w.heap.size ≤ k → S k) (hr : ∀ k, row = some k → S k) : Keeps S a w' :=
  h.trans ⟨hg.os, hg.tape, hg.output, hg.size, fun k hk => by
    rcases Nat.lt_or_ge k w.heap.size with hl | hl
    · exact hg.block k hl (fun e => hk (hr k e.symm))
    · exact absurd (hn k hl) hk⟩
theorem Keeps.cell {S : Nat → Prop} {w w' : World} (h : Keeps S w w') {p : Addr} (hp : ¬ S p.block) : w'.cell? p = w.cell? p := World.cell?_of_block (w := w) (h.block p.block hp)
theorem Keeps.frozen {S : Nat → Prop} {w w' : World} (h : Keeps S w w') {p : Addr} (hp : ¬ S p.block) : w'.frozen? p = w.frozen? p := World.frozen?_of_block (w := w) (h.block p.block hp)
theorem below_cell {w w' : World} (h : Below w.heap.size w w') {p : Addr} {v : Value} (hp : w.cell? p = some v) : w'.cell? p = some v :=
  (h.cell (World.block_lt_of_cell? w p hp)).trans hp
theorem block_lt {w : World} {b : Nat} {o : Obj} (h : w.heap[b]? = some o) : b < w.heap.size := by
  rcases Nat.lt_or_ge b w.heap.size with h' | h'
  · exact h'
  · simp [Array.getElem?_eq_none h'] at h
def Blk (w : World) (b : Nat) (cs : List Value) (T : TypeId) : Prop := w.heap[b]? = some (.cells cs.toArray T (0, 0))
theorem Blk.lt {w : World} {b : Nat} {cs : List Value} {T : TypeId} (h : Blk w b cs T) : b < w.heap.size := block_lt h
theorem Blk.cell {w : World} {b : Nat} {cs : List Value} {T : TypeId} (h : Blk w b cs T) (o : Nat) : w.cell? ⟨b, o, none⟩ = cs[o]? := by simp [World.cell?, show w.heap[b]? = _ from h]
theorem Blk.frozen {w : World} {b : Nat} {cs : List Value} {T : TypeId} (h : Blk w b cs T) (o : Nat) : w.frozen? ⟨b, o, none⟩ = false := by simp [World.frozen?, show w.heap[b]? = _ from h]
theorem Blk.keep {w w' : World} {b : Nat} {cs : List Value} {T : TypeId} (h : Blk w b cs T) {S : Nat → Prop} (hk : Keeps S w w') (hb : ¬ S b) : Blk w' b cs T := (hk.block b hb).trans h
theorem Blk.below {w w' : World} {b : Nat} {cs : List Value} {T : TypeId} (h : Blk w b cs T) {B : Nat} (hk : Below B w w') (hb : b < B) : Blk w' b cs T := (hk.block b hb).trans h
theorem Blk.drew {w : World} {b : Nat} {cs : List Value} {T : TypeId} (h : Blk w b cs T) : Blk w.drew b cs T := h
theorem Blk.alloc {w : World} {b : Nat} {cs : List Value} {T : TypeId} (h : Blk w b cs T) (o : Obj) : Blk (w.alloc o) b cs T := (Below.heap_alloc w o b h.lt).trans h
theorem Blk.new (w : World) (cs : List Value) (T : TypeId) : Blk (w.alloc (.cells cs.toArray T)) w.heap.size cs T := heap_alloc_new w _
theorem Blk.at_ {w : World} {b : Nat} {cs : Array Value} {T : TypeId} (h : w.heap.size = b) : Blk (w.alloc (.cells cs T)) b cs.toList T := by subst h; exact heap_alloc_new w _
theorem Blk.set {w : World} {b : Nat} {cs : List Value} {T : TypeId} (h : Blk w b cs T) (o : Nat) (v : Value) : Blk (w.setCell ⟨b, o, none⟩ v) b (cs.set o v) T := by
  unfold Blk
  rw [heap_setCell_same w b o cs.toArray T v h]
  simp
theorem Blk.set_other {w : World} {b : Nat} {cs : List Value} {T : TypeId} (h : Blk w b cs T) {p : Addr} (hp : b ≠ p.block) (v : Value) : Blk (w.setCell p v) b cs T :=
  (heap_setCell_other w p b v hp).trans h
def At (w : World) (a : Option Addr) (cs : List Value) : Prop :=
  cs = [] ∨ ∃ b off, a = some ⟨b, off, none⟩ ∧ ∀ j u, cs[j]? = some u → w.cell? ⟨b, off + j, none⟩ = some u
def Sl (w : World) (sz : Nat) (v : Value) (n : Nat) (cs : List Value) : Prop :=
  cs.length = n * sz ∧ (∀ u ∈ cs, u.oneCell' = true) ∧ ∃ a cap, v = .slice a n cap ∧ n ≤ cap ∧ cap ≤ maxLen ∧ (a = none → cap = 0) ∧ At w a cs
theorem At.mono {w w' : World} {a : Option Addr} {cs : List Value} (h : At w a cs) (hc : ∀ b o u, (∃ x, a = some x ∧ x.block = b) → w.cell? ⟨b, o, none⟩ = some u → w'.cell? ⟨b, o, none⟩ = some u) : At w' a cs := by
  rcases h with h | ⟨b, off, rfl, h⟩
  · exact .inl h
  · exact .inr ⟨b, off, rfl, fun j u hj => hc b _ u ⟨_, rfl, rfl⟩ (h j u hj)⟩
theorem Sl.mono {w w' : World} {sz : Nat} {v : Value} {n : Nat} {cs : List Value} (h : Sl w sz v n cs) (hc : ∀ b o u, v.ownBlock = some b → w.cell? ⟨b, o, none⟩ = some u → w'.cell? ⟨b, o, none⟩ = some u) : Sl w' sz v n cs := by
  obtain ⟨h1, h2, a, cap, rfl, h3, h4, h5, h6⟩ := h
  refine ⟨h1, h2, a, cap, rfl, h3, h4, h5, h6.mono fun b o u ⟨x, e1, e2⟩ => hc b o u ?_⟩
  subst e1
  simp [Value.ownBlock, e2]
theorem Sl.keep {w w' : World} {sz : Nat} {v : Value} {n : Nat} {cs : List Value} {S : Nat → Prop} (h : Sl w sz v n cs) (hk : Keeps S w w') (hb : ∀ b, v.ownBlock = some b → ¬ S b) : Sl w' sz v n cs :=
  h.mono fun b o _ e hc => (hk.cell (p := ⟨b, o, none⟩) (hb b e)).trans hc
theorem Sl.keep' {w w' : World} {sz : Nat} {v : Value} {n : Nat} {cs : List Value} {S : Nat → Prop} (h : Sl w sz v n cs) (hk : Keeps S w w') (hb : ∀ b, v.ownBlock = some b → b < w.heap.size → ¬ S b) : Sl w' sz v n cs :=
  h.mono fun b o _ e hc => (hk.cell (p := ⟨b, o, none⟩) (hb b e (World.block_lt_of_cell? w ⟨b, o, none⟩ hc))).trans hc
theorem Sl.below {w w' : World} {sz : Nat} {v : Value} {n : Nat} {cs : List Value} (h : Sl w sz v n cs) (hk : Below w.heap.size w w') : Sl w' sz v n cs :=
  h.mono fun _ _ _ _ hc => below_cell hk hc
theorem Sl.drew {w : World} {sz : Nat} {v : Value} {n : Nat} {cs : List Value} (h : Sl w sz v n cs) : Sl w.drew sz v n cs := h.mono fun _ _ _ _ hc => hc
theorem Sl.alloc {w : World} {sz : Nat} {v : Value} {n : Nat} {cs : List Value} (h : Sl w sz v n cs) (o : Obj) : Sl (w.alloc o) sz v n cs :=
  h.below ((Below.refl _ _).alloc (Nat.le_refl _) _)
theorem Sl.setCell {w : World} {sz : Nat} {v : Value} {n : Nat} {cs : List Value} (h : Sl w sz v n cs) {p : Addr} (hp : v.ownBlock ≠ some p.block) (u : Value) : Sl (w.setCell p u) sz v n cs :=
  h.keep (S := fun k => k = p.block) (Keeps.setCell (Keeps.refl (fun k => k = p.block) w) (p := p) rfl u) (fun b hb e => hp (by rw [hb, e]))
theorem Sl.nil (w : World) (sz : Nat) (a : Option Addr) : Sl w sz (.slice a 0 0) 0 [] := ⟨by simp, by simp, a, 0, rfl, Nat.le_refl _, Nat.zero_le _, fun _ => rfl, .inl rfl⟩
theorem Sl.form {w : World} {sz : Nat} {v : Value} {n : Nat} {cs : List Value} (h : Sl w sz v n cs) : ∃ a cap, v = .slice a n cap ∧ n ≤ cap ∧ cap ≤ maxLen :=
  let ⟨_, _, a, cap, e, h1, h2, _⟩ := h; ⟨a, cap, e, h1, h2⟩
theorem Sl.addr {w : World} {sz : Nat} {a : Option Addr} {n cap : Nat} {cs : List Value} (h : Sl w sz (.slice a n cap) n cs) (hpos : 0 < cs.length) :
    ∃ b off, a = some ⟨b, off, none⟩ ∧ ∀ j u, cs[j]? = some u → w.cell? ⟨b, off + j, none⟩ = some u := by
  obtain ⟨_, _, a', cap', e, _, _, _, h0 | h⟩ := h
  · subst h0; simp at hpos
  · injection e with e1 e2 e3
    subst e1
    exact h
def Own (w : World) (B : Nat) (e : TypeId) (sz : Nat) (v : Value) (n : Nat) (cs : List Value) : Prop :=
  cs.length = n * sz ∧ (∀ u ∈ cs, u.oneCell' = true) ∧
  ((∃ a, v = .slice a 0 0 ∧ n = 0) ∨
   ∃ g cap cur, v = .slice (some ⟨g, 0, none⟩) n cap ∧ B ≤ g ∧ w.heap[g]? = some (.cells cur e (0, 0)) ∧ n ≤ cap ∧ cap ≤ maxLen ∧ cur.size = cap * sz ∧ cur.toList.take (n * sz) = cs)
theorem Own.of_row {w : World} {B : Nat} {e : TypeId} {sz : Nat} {v : Value} {n : Nat} {cs : List Value} (h : w.ownsRow B e sz v n cs) (h1 : ∀ u ∈ cs, u.oneCell' = true) : Own w B e sz v n cs := by
  obtain ⟨h0, h2⟩ := h
  refine ⟨h0, h1, ?_⟩
  rcases h2 with ⟨h2, h3⟩ | h2
  · exact .inl ⟨none, h2, h3⟩
  · exact .inr h2
theorem Own.sl {w : World} {B : Nat} {e : TypeId} {sz : Nat} {v : Value} {n : Nat} {cs : List Value} (h : Own w B e sz v n cs) : Sl w sz v n cs := by
  obtain ⟨h0, h1, ⟨a, rfl, rfl⟩ | ⟨g, cap, cur, rfl, h2, h3, h4, h5, h6, h7⟩⟩ := h
  · exact ⟨h0, h1, a, 0, rfl, Nat.le_refl _, Nat.zero_le _, fun _ => rfl, .inl (List.eq_nil_of_length_eq_zero (by simpa using h0))⟩
  · refine ⟨h0, h1, _, cap, rfl, h4, h5, fun h => by simp at h, .inr ⟨g, 0, rfl, fun j u hj => ?_⟩⟩
    have hjl : j < n * sz := by have := (List.getElem?_eq_some_iff.1 hj).1; omega
    rw [← h7, List.getElem?_take, if_pos hjl] at hj
    rw [Nat.zero_add, cell_of_row w g j cur e (0, 0) h3, ← Array.getElem?_toList]
    exact hj
theorem Own.base {w : World} {B B' : Nat} {e : TypeId} {sz : Nat} {v : Value} {n : Nat} {cs : List Value} (h : Own w B e sz v n cs) (hB : B' ≤ B) : Own w B' e sz v n cs := by
  obtain ⟨h0, h1, h2 | ⟨g, cap, cur, hv, h2, hr⟩⟩ := h
  · exact ⟨h0, h1, .inl h2⟩
  · exact ⟨h0, h1, .inr ⟨g, cap, cur, hv, by omega, hr⟩⟩
theorem Own.keep {w w' : World} {B : Nat} {e : TypeId} {sz : Nat} {v : Value} {n : Nat} {cs : List Value} {S : Nat → Prop} (h : Own w B e sz v n cs) (hk : Keeps S w w') (hb : ∀ b, v.ownBlock = some b → ¬ S b) : Own w' B e sz v n cs := by
  obtain ⟨h0, h1, h2 | ⟨g, cap, cur, rfl, h2, h3, hr⟩⟩ := h
  · exact ⟨h0, h1, .inl h2⟩
  · exact ⟨h0, h1, .inr ⟨g, cap, cur, rfl, h2, (hk.block g (hb g rfl)).trans h3, hr⟩⟩
theorem Own.below {w w' : World} {B : Nat} {e : TypeId} {sz : Nat} {v : Value} {n : Nat} {cs : List Value} (h : Own w B e sz v n cs) (hk : Below w.heap.size w w') : Own w' B e sz v n cs := by
  obtain ⟨h0, h1, h2 | ⟨g, cap, cur, rfl, h2, h3, hr⟩⟩ := h
  · exact ⟨h0, h1, .inl h2⟩
  · exact ⟨h0, h1, .inr ⟨g, cap, cur, rfl, h2, (hk.block g (block_lt h3)).trans h3, hr⟩⟩
theorem Own.alloc {w : World} {B : Nat} {e : TypeId} {sz : Nat} {v : Value} {n : Nat} {cs : List Value} (h : Own w B e sz v n cs) (o : Obj) : Own (w.alloc o) B e sz v n cs :=
  h.below ((Below.refl _ _).alloc (Nat.le_refl _) _)
theorem Own.drew {w : World} {B : Nat} {e : TypeId} {sz : Nat} {v : Value} {n : Nat} {cs : List Value} (h : Own w B e sz v n cs) : Own w.drew B e sz v n cs :=
  h.below ((Below.refl _ _).drew)
theorem Own.drewN {w : World} {B : Nat} {e : TypeId} {sz : Nat} {v : Value} {n : Nat} {cs : List Value} (h : Own w B e sz v n cs) (q : Nat) : Own (w.drewN q) B e sz v n cs :=
  h.below (below_drewN (Below.refl _ _) q)
theorem Sl.drewN {w : World} {sz : Nat} {v : Value} {n : Nat} {cs : List Value} (h : Sl w sz v n cs) (q : Nat) : Sl (w.drewN q) sz v n cs := h.below (below_drewN (Below.refl _ _) q)
theorem Blk.drewN {w : World} {b : Nat} {cs : List Value} {T : TypeId} (h : Blk w b cs T) (q : Nat) : Blk (w.drewN q) b cs T := h
theorem Own.nil (w : World) (B : Nat) (e : TypeId) (sz : Nat) (a : Option Addr) : Own w B e sz (.slice a 0 0) 0 [] := ⟨by simp, by simp, .inl ⟨a, rfl, rfl⟩⟩
theorem Own.lit (w : World) (cs : List Value) (e : TypeId) (sz n : Nat) (hs : cs.length = n * sz) (h1 : ∀ u ∈ cs, u.oneCell' = true) (hm : n ≤ maxLen) :
    Own (w.alloc (.cells cs.toArray e)) w.heap.size e sz (.slice (some ⟨w.heap.size, 0, none⟩) n n) n cs :=
  ⟨hs, h1, .inr ⟨w.heap.size, n, cs.toArray, rfl, Nat.le_refl _, heap_alloc_new w _, Nat.le_refl _, hm, by simpa using hs, by simp [← hs]⟩⟩
theorem Own.at_ {w : World} {cs : Array Value} {e : TypeId} {sz n b B : Nat} (hb : w.heap.size = b) (hB : B ≤ b) (hl : cs.toList.length = n * sz) (h1 : ∀ u ∈ cs.toList, u.oneCell' = true) (hm : n ≤ maxLen) :
    Own (w.alloc (.cells cs e)) B e sz (.slice (some ⟨b, 0, none⟩) n n) n cs.toList := by
  subst hb
  exact (Own.lit w cs.toList e sz n hl h1 hm).base hB
def Elem (P : Program) (t e : TypeId) (size bytes : Nat) (z : Value) : Prop :=
  P.underlying t = some (.slice e) ∧ ∃ i, P.info? e = some i ∧ i.zero = some z ∧ i.size = size ∧ i.bytes = bytes ∧ z.cells.size = size ∧ 0 < size
theorem Elem.mk {P : Program} {t e : TypeId} {z : Value} {size bytes : Nat} (h : P.underlying t = some (.slice e)) (h2 : (P.info? e).map (fun i => (i.zero, i.size, i.bytes)) = some (some z, size, bytes)) (h3 : z.cells.size = size) (h4 : 0 < size) : Elem P t e size bytes z := by
  obtain ⟨i, hi, hz0, hz1, hz2⟩ := info_parts h2
  exact ⟨h, i, hi, hz0, hz1, hz2, h3, h4⟩
theorem At.one {w : World} {b : Nat} {cs : Array Value} {T : TypeId} {fz : Nat × Nat} (h : w.heap[b]? = some (.cells cs T fz)) : At w (some ⟨b, 0, none⟩) cs.toList := by
  refine .inr ⟨b, 0, rfl, fun j u hj => ?_⟩
  rw [Nat.zero_add, cell_of_row w b j cs T fz h, ← Array.getElem?_toList]
  exact hj
theorem Sl.lit {w : World} {cs : Array Value} {T : TypeId} {sz n b : Nat} (hb : w.heap.size = b) (hl : cs.toList.length = n * sz) (h1 : ∀ u ∈ cs.toList, u.oneCell' = true) (hn : n ≤ maxLen) :
    Sl (w.alloc (.cells cs T)) sz (.slice (some ⟨b, 0, none⟩) n n) n cs.toList := by
  subst hb
  exact ⟨hl, h1, _, n, rfl, Nat.le_refl _, hn, fun h => by simp at h, At.one (heap_alloc_new w _)⟩
theorem run_app {P : Program} {w : World} {t ty e : TypeId} {size bytes : Nat} {z : Value} (hE : Elem P t e size bytes z) {B : Nat}
    {v : Value} {n : Nat} {cs : List Value} (hown : Own w B e size v n cs) {x : Value} {m : Nat} {ds : List Value} (hsl : Sl w size x m ds)
    (h63 : n + m ≤ maxLen) (hbytes : (n + m) * bytes ≤ 140737488355328) (hbase : B ≤ w.heap.size) :
    ∃ v' w', (Builtin.append_ #[t, t] ty #[v, x]).run P w = .ok v' w' ∧ Own w' B e size v' (n + m) (cs ++ ds) ∧ Keeps (fun k => v.ownBlock = some k ∧ B ≤ k ∨ w.heap.size ≤ k) w w' ∧ (∀ b, v'.ownBlock = some b → v.ownBlock = some b ∨ w.heap.size ≤ b) := by
  obtain ⟨ht, i, hi, hz, hsize, hby, hzs, hsz⟩ := hE
  obtain ⟨hdl, hd1, a, c, rfl, hmc, hcm, hanone, hat⟩ := hsl
  obtain ⟨hcl, hc1, hform⟩ := hown
  have hall : ∀ u ∈ cs ++ ds, u.oneCell' = true := by
    intro u hu
    rcases List.mem_append.1 hu with h | h
    · exact hc1 u h
    · exact hd1 u h
  have hlen : (cs ++ ds).length = (n + m) * size := by rw [List.length_append, hcl, hdl, Nat.add_mul]
  by_cases hm0 : m = 0
  · -- nothing is appended
    subst hm0
    obtain rfl : ds = [] := List.eq_nil_of_length_eq_zero (by simpa using hdl)
    have hfc : (Builtin.firstCells size 0 (.slice a 0 c)).run P w = .ok #[] w := by
      cases a <;> simp [Builtin.firstCells, loadCells, loadCellsFrom]
    refine ⟨v, w, ?_, ⟨by simpa using hcl, by simpa using hc1, by simpa using hform⟩, Keeps.refl _ _, fun b h => .inl h⟩
    rcases hform with ⟨a0, rfl, rfl⟩ | ⟨g, cap, cur, rfl, _, _, hnc, _⟩
    · cases a0 <;> simp [Builtin.append_, run_underlying ht, sizeOf, typeInfo, hi, Builtin.lenOf, hsize, hfc, storeCells]
    · simp [Builtin.append_, run_underlying ht, sizeOf, typeInfo, hi, Builtin.lenOf, hsize, hfc, hnc, storeCells]
  · have hdpos : 0 < ds.length := by rw [hdl]; exact Nat.mul_pos (by omega) hsz
    obtain ⟨b, off, rfl, hcell⟩ : ∃ b off, a = some ⟨b, off, none⟩ ∧ ∀ j u, ds[j]? = some u → w.cell? ⟨b, off + j, none⟩ = some u := by
      rcases hat with h | h
      · subst h; simp at hdpos
      · exact h
    have hnews : ∀ j u, ds[j]? = some u → w.cell? ((⟨b, off, none⟩ : Addr).add j) = some u := fun j u hj => by rw [Addr.add_lit]; exact hcell j u hj
    have fresh : ∀ (v' : Value) (w' : World), w'.ownsRow w.heap.size e size v' (n + m) (cs ++ ds) → w.grownBy w' none →
        Own w' B e size v' (n + m) (cs ++ ds) ∧ Keeps (fun k => v.ownBlock = some k ∧ B ≤ k ∨ w.heap.size ≤ k) w w' ∧ (∀ b, v'.ownBlock = some b → v.ownBlock = some b ∨ w.heap.size ≤ b) := by
      intro v' w' h1 h2
      refine ⟨(Own.of_row h1 hall).base hbase, (Keeps.refl _ _).grown h2 (fun k hk => Or.inr hk) (by simp), fun b hb => .inr (h1.lt b hb).1⟩
    rcases hform with ⟨a0, rfl, rfl⟩ | ⟨g, cap, cur, rfl, hbg, hg, hnc, hcm', hcs, htake⟩
    · obtain rfl : cs = [] := List.eq_nil_of_length_eq_zero (by simpa using hcl)
      cases a0 with
      | none =>
        obtain ⟨v', w', hr, h1, h2, _⟩ := run_append_own (P := P) w w.heap.size t ty e i z size bytes ht hi hz hsize hby hzs hsz (.slice none 0 0) 0 [] (World.ownsRow_nil w _ e size) ⟨b, off, none⟩ m c ds hdl hnews hd1 h63 hbytes (Nat.le_refl _)
        exact ⟨v', w', hr, fresh v' w' h1 h2⟩
      | some b0 =>
        obtain ⟨v', w', hr, h1, h2⟩ := run_append_arg_grows (P := P) w t ty e i z size bytes ht hi hz hsize hby hzs hsz b0 0 0 [] (by simp) (by simp) ⟨b, off, none⟩ m c ds hdl hnews (by omega) h63 hbytes
        exact ⟨v', w', hr, fresh v' w' h1 h2⟩
    · by_cases hroom : n + m ≤ cap
      · obtain ⟨w', hr, h1, h2⟩ := run_append_fits (P := P) w B t ty e i size ht hi hsize g n cap cs ⟨hcl, .inr ⟨g, cap, cur, rfl, hbg, hg, hnc, hcm', hcs, htake⟩⟩ ⟨b, off, none⟩ m c ds hdl hnews hd1 hroom
        exact ⟨_, w', hr, Own.of_row h1 hall, (Keeps.refl _ _).grown h2 (fun k hk => Or.inr hk) (fun k hk => by simp only [Option.some.injEq] at hk; subst hk; exact .inl ⟨rfl, hbg⟩), fun b hb => .inl hb⟩
      · have holds : ∀ j u, cs[j]? = some u → w.cell? ((⟨g, 0, none⟩ : Addr).add j) = some u := by
          intro j u hj
          have hjl : j < n * size := by have := (List.getElem?_eq_some_iff.1 hj).1; omega
          rw [← htake, List.getElem?_take, if_pos hjl] at hj
          rw [Addr.add_lit, Nat.zero_add, cell_of_row w g j cur e (0, 0) hg, ← Array.getElem?_toList]
          exact hj
        obtain ⟨v', w', hr, h1, h2⟩ := run_append_arg_grows (P := P) w t ty e i z size bytes ht hi hz hsize hby hzs hsz ⟨g, 0, none⟩ n cap cs hcl holds ⟨b, off, none⟩ m c ds hdl hnews (by omega) h63 hbytes
        exact ⟨v', w', hr, fresh v' w' h1 h2⟩
theorem wpList_want {P : Program} {ops : Array Oper} {rest : List Oper} {o : Oper} {a : Act} {w : World} {Q : Exit → Act → World → Prop} (hw : Region.wanted o (yielded ops a.tmps) = true)
    (h : ∀ K : Act → World → Prop, (∀ a w, wpList P ops Q rest a w → K a w) → o.wp P a w K Q) : wpList P ops Q (o :: rest) a w :=
  wpList_step fun K hK => by rw [if_pos hw]; exact h K hK
theorem run_cp {P : Program} {w : World} {dT sT ty e : TypeId} {bytes : Nat} {z : Value} (hE : Elem P dT e 1 bytes z) {g o dLen dCap : Nat} {cur : List Value} {T : TypeId} (hb : Blk w g cur T)
    {v : Value} {n : Nat} {cs : List Value} (hsl : Sl w 1 v n cs) (hfit : o + min n dLen ≤ cur.length) :
    ∃ w', (Builtin.copy_ #[dT, sT] ty #[.slice (some ⟨g, o, none⟩) dLen dCap, v]).run P w = .ok (.int .i64 (min n dLen : Nat)) w' ∧
      Blk w' g (cur.take o ++ cs.take (min n dLen) ++ cur.drop (o + min n dLen)) T ∧ Keeps (fun k => k = g) w w' := by
  obtain ⟨ht, i, hi, hz, hsize, hby, hzs, hsz⟩ := hE
  obtain ⟨hcl, hc1, a, cap, rfl, hnc, hcm, hanone, hat⟩ := hsl
  have hl : (cs.take (min n dLen)).length = min n dLen := by rw [List.length_take]; omega
  cases a with
  | none =>
    have hc0 := hanone rfl
    obtain rfl : n = 0 := by omega
    subst hc0
    refine ⟨w, ?_, ?_, Keeps.refl _ _⟩
    · simp [Builtin.copy_, run_underlying ht, Builtin.lenOf, Builtin.firstCells, sizeOf, typeInfo, hi, storeCells, goInt]
    · simpa using hb
  | some ad =>
    have hsrc : ∀ j v, (cs.take (min n dLen))[j]? = some v → w.cell? (ad.add j) = some v := by
      intro j v hj
      rw [List.getElem?_take] at hj
      split at hj
      · rcases hat with h | ⟨b, off, e, h⟩
        · subst h; simp at hj
        · simp only [Option.some.injEq] at e
          subst e
          rw [Addr.add_lit]
          exact h j v hj
      · simp at hj
    have hr := run_copy_row (P := P) w dT sT ty e g o dLen dCap ad n cap cur.toArray T (cs.take (min n dLen)) ht (by simp [hi, hsize]) hb hl hsrc (by rw [hl]; simpa using hfit) (fun v hv => hc1 v (List.mem_of_mem_take hv))
    rw [hl] at hr
    refine ⟨_, hr, ?_, Keeps.oneRow _ _ _⟩
    unfold Blk
    rw [setRow_heap w g cur.toArray _ T _ hb]
theorem wpList_cp {P : Program} {w : World} {ops : Array Oper} {rest : List Oper} {o : Oper} {a : Act} {Q : Exit → Act → World → Prop} (hgd : Region.wanted o (yielded ops a.tmps) = true) (d s : Operand) {dT sT e : TypeId} {bytes : Nat} {z : Value}
    (hE : Elem P dT e 1 bytes z) (ho : o.op = .call { callee := .builtin .copy, args := #[d, s], argTypes := #[dT, sT] }) {g off dLen dCap : Nat} (hd : a.eval d = .slice (some ⟨g, off, none⟩) dLen dCap)
    {cur : List Value} {T : TypeId} (hb : Blk w g cur T) {u : Value} (hu : a.eval s = u) {n : Nat} {cs : List Value} (hsl : Sl w 1 u n cs) (hfit : off + min n dLen ≤ cur.length)
    (h : ∀ w', Blk w' g (cur.take off ++ cs.take (min n dLen) ++ cur.drop (off + min n dLen)) T → Keeps (fun k => k = g) w w' → wpList P ops Q rest (a.put o.dst (.int .i64 (min n dLen : Nat))) w') : wpList P ops Q (o :: rest) a w := by
  obtain ⟨w', hr, h2, h3⟩ := run_cp (P := P) (sT := sT) (ty := o.type) (dCap := dCap) hE hb hsl hfit
  refine wpList_want hgd fun K hK => ?_
  unfold Oper.wp execOp
  simp only [ho, resolve, invoke, builtin, Sem.run_bind, Sem.run_pure, Result.andThen_ok, List.map_toArray, List.map_cons, List.map_nil, hd, hu, hr]
  exact hK _ _ (h w' h2 h3)
def isAggD : TypeDesc → Bool
  | .struct _ => true
  | .array _ _ => true
  | _ => false
def AggTy (P : Program) (ty : TypeId) (m : Nat) : Prop := ∃ d i, P.underlying ty = some d ∧ isAggD d = true ∧ P.info? ty = some i ∧ i.size = m
theorem AggTy.mk {P : Program} {ty : TypeId} {m : Nat} {d : TypeDesc} (h1 : P.underlying ty = some d) (h2 : isAggD d = true) (h3 : (P.info? ty).map (·.size) = some m) : AggTy P ty m := by
  cases hq : P.info? ty with
  | none => simp [hq] at h3
  | some i => exact ⟨d, i, h1, h2, hq, by simpa [hq] using h3⟩
def CellsAt (w : World) (b o : Nat) (cs : List Value) : Prop := ∀ j u, cs[j]? = some u → w.cell? ⟨b, o + j, none⟩ = some u
theorem Blk.cellsAt {w : World} {b : Nat} {cs : List Value} {T : TypeId} (h : Blk w b cs T) (o m : Nat) : CellsAt w b o ((cs.drop o).take m) := by
  intro j u hj
  rw [h.cell]
  rw [List.getElem?_take] at hj
  split at hj
  · rwa [List.getElem?_drop] at hj
  · simp at hj
theorem Blk.cellsAll {w : World} {b : Nat} {cs : List Value} {T : TypeId} (h : Blk w b cs T) : CellsAt w b 0 cs := by
  intro j u hj
  rw [h.cell, Nat.zero_add]
  exact hj
theorem run_ldAgg {P : Program} {w : World} {ty : TypeId} {m b o : Nat} {cs : List Value} (hT : AggTy P ty m) (hm : cs.length = m) (hc : CellsAt w b o cs) : (loadVar ty ⟨b, o, none⟩).run P w = .ok (.agg cs.toArray) w := by
  obtain ⟨d, i, hu, hd, hi, hs⟩ := hT
  have hl := run_loadCells_list (P := P) w ⟨b, o, none⟩ cs (fun j v hv => by rw [Addr.add_lit]; exact hc j v hv)
  have hagg : (isAgg ty).run P w = .ok true w := by
    unfold isAgg
    rw [Sem.run_bind, run_underlying hu w]
    cases d <;> simp_all [isAggD]
  simp [loadVar, Sem.run_bind, hagg, sizeOf, typeInfo, hi, hs, ← hm, hl]
theorem wpList_ldAgg {P : Program} {ops : Array Oper} {rest : List Oper} {o : Oper} {a : Act} {w : World} {Q : Exit → Act → World → Prop} (hgd : Region.wanted o (yielded ops a.tmps) = true) (x : Operand) {ty : TypeId} {m : Nat} (hT : AggTy P ty m) (ho : o.op = .load ty x)
    {b off : Nat} (hx : a.eval x = .pointer (some ⟨b, off, none⟩)) {cs : List Value} (hm : cs.length = m) (hc : CellsAt w b off cs)
    (h : wpList P ops Q rest (a.put o.dst (.agg cs.toArray)) w) : wpList P ops Q (o :: rest) a w := by
  refine wpList_want hgd fun K hK => ?_
  unfold Oper.wp execOp
  simp only [ho, hx, Instr.loadAt, Instr.sureAddr, Sem.run_bind, Sem.run_pure, Result.andThen_ok, run_ldAgg hT hm hc]
  exact hK _ _ h
theorem run_stAgg {P : Program} {w : World} {ty : TypeId} {m g o : Nat} {cur vs : List Value} {T : TypeId} (hT : AggTy P ty m) (hm : vs.length = m) (hb : Blk w g cur T) (hfit : o + m ≤ cur.length) (h1 : ∀ v ∈ vs, v.oneCell' = true) :
    ∃ w', (storeVar ty ⟨g, o, none⟩ (.agg vs.toArray)).run P w = .ok () w' ∧ Blk w' g (cur.take o ++ vs ++ cur.drop (o + m)) T ∧ Keeps (fun k => k = g) w w' := by
  obtain ⟨d, i, hu, hd, hi, hs⟩ := hT
  have hst := run_storeCells_at P g o T vs 0 cur.toArray w hb (by simp; omega) h1
  simp only [Nat.add_zero] at hst
  refine ⟨_, ?_, ?_, Keeps.oneRow w g (cur.take o ++ vs ++ cur.drop (o + m)).toArray⟩
  · simp [storeVar, Value.cells, sizeOf, typeInfo, hi, hs, hm, hst]
  · unfold Blk
    rw [setRow_heap w g cur.toArray _ T _ hb]
theorem wpList_stAgg {P : Program} {ops : Array Oper} {rest : List Oper} {o : Oper} {a : Act} {w : World} {Q : Exit → Act → World → Prop} (hgd : Region.wanted o (yielded ops a.tmps) = true) (x y : Operand) {ty : TypeId} {m : Nat} (hT : AggTy P ty m) (ho : o.op = .store ty x y)
    {g off : Nat} (hx : a.eval x = .pointer (some ⟨g, off, none⟩)) {vs : List Value} (hy : a.eval y = .agg vs.toArray) (hm : vs.length = m) {cur : List Value} {T : TypeId} (hb : Blk w g cur T) (hfit : off + m ≤ cur.length) (h1 : ∀ v ∈ vs, v.oneCell' = true)
    (h : ∀ w', Blk w' g (cur.take off ++ vs ++ cur.drop (off + m)) T → Keeps (fun k => k = g) w w' → wpList P ops Q rest (a.put o.dst undef) w') : wpList P ops Q (o :: rest) a w := by
  obtain ⟨w', hr, h2, h3⟩ := run_stAgg hT hm hb hfit h1
  refine wpList_want hgd fun K hK => ?_
  unfold Oper.wp execOp
  simp only [ho, hx, hy, Instr.storeAt, Instr.sureAddr, Sem.run_bind, Sem.run_pure, Result.andThen_ok, hr]
  exact hK _ _ (h w' h2 h3)
theorem results_agg_tmp {P : Program} {fn : Func} {p u : Tmp} {ty : TypeId} {m : Nat} (hr : fn.results = #[.cell p ty, .tmp u]) (hT : AggTy P ty m) {tmps : Array Value} {w : World} {b o : Nat} (hp : tmps.getD p undef = .pointer (some ⟨b, o, none⟩)) {cs : List Value} (hm : cs.length = m) (hc : CellsAt w b o cs) :
    (results fn tmps).run P w = .ok (.tuple #[.agg cs.toArray, tmps.getD u undef]) w := by
  rw [results_cell_tmp hr, hp]
  simp [asAddr, run_ldAgg hT hm hc, Result.andThen]
theorem results_agg {P : Program} {fn : Func} {p : Tmp} {ty : TypeId} {m : Nat} (hr : fn.results = #[.cell p ty]) (hT : AggTy P ty m) {tmps : Array Value} {w : World} {b o : Nat} (hp : tmps.getD p undef = .pointer (some ⟨b, o, none⟩)) {cs : List Value} (hm : cs.length = m) (hc : CellsAt w b o cs) :
    (results fn tmps).run P w = .ok (.agg cs.toArray) w := by
  have hp' : tmps[p]?.getD undef = .pointer (some ⟨b, o, none⟩) := by simpa using hp
  simp [results, hr, hp', asAddr, run_ldAgg hT hm hc]
def bV (x : UInt8) : Value := .int .u8 x.toNat
def bCells (l : List UInt8) : List Value := l.map bV
def Bs (w : World) (v : Value) (l : List UInt8) : Prop := Sl w 1 v l.length (bCells l)
def OwnBs (w : World) (B : Nat) (v : Value) (l : List UInt8) : Prop := Own w B 5 1 v l.length (bCells l)
theorem bV_ofNat (x : Nat) (h : x < 256) : bV (UInt8.ofNat x) = .int .u8 x := by
  simp only [bV, UInt8.toNat_ofNat']
  rw [Nat.mod_eq_of_lt (by simpa using h)]
theorem bCells_length (l : List UInt8) : (bCells l).length = l.length := by simp [bCells]
theorem bCells_append (a b : List UInt8) : bCells (a ++ b) = bCells a ++ bCells b := by simp [bCells]
theorem bCells_one (l : List UInt8) : ∀ u ∈ bCells l, u.oneCell' = true := by
  intro u hu
  obtain ⟨x, _, rfl⟩ := List.mem_map.1 hu
  rfl
theorem bCells_get (l : List UInt8) (k : Nat) (h : k < l.length) : (bCells l)[k]? = some (bV l[k]) := by simp [bCells, h]
theorem Blk.own {w : World} {b B : Nat} {cs : List Value} {T : TypeId} (h : Blk w b cs T) (hb : B ≤ b) (h1 : ∀ u ∈ cs, u.oneCell' = true) (hm : cs.length ≤ maxLen) : Own w B T 1 (.slice (some ⟨b, 0, none⟩) cs.length cs.length) cs.length cs :=
  ⟨by omega, h1, .inr ⟨b, cs.length, cs.toArray, rfl, hb, h, Nat.le_refl _, hm, by simp, by simp⟩⟩
theorem elBytes : Elem Try.prog 22 5 1 1 (.int .u8 0) := by
  refine Elem.mk Try.underlying22 ?_ rfl (by decide)
  kernel_rfl
theorem mkBytes (w : World) (n : Nat) (C : Int) (hC : C = n) (hn : n ≤ 281474976710656) :
    (Instr.makeSlice 22 (.int .i64 C) (.int .i64 C)).run Try.prog w = .ok (.slice (some ⟨w.heap.size, 0, none⟩) n n) (w.alloc (.cells (List.replicate n (.int .u8 0)).toArray 5)) := by
  obtain ⟨ht, i, hi, hz, hsize, hby, hzs, hsz⟩ := elBytes
  subst hC
  rw [run_make w _ _ i _ ht hi hz .i64 .i64 n n (by omega) (Int.le_refl _) (by rw [hby]; omega) (by omega), hsize]
  simp only [Int.toNat_natCast, Nat.mul_one]
  rw [← toList_madeCells_one]
  rfl
theorem Bs.lit {w : World} {cs : Array Value} {b : Nat} (l : List UInt8) (hb : w.heap.size = b) (hc : cs.toList = bCells l) (hn : l.length ≤ maxLen) : Bs (w.alloc (.cells cs 5)) (.slice (some ⟨b, 0, none⟩) l.length l.length) l := by
  have := Sl.lit (w := w) (cs := cs) (T := 5) (sz := 1) (n := l.length) hb (by rw [hc, bCells_length]; omega) (by rw [hc]; exact bCells_one _) hn
  rw [hc] at this
  exact this
theorem Bs.below {w w' : World} {v : Value} {l : List UInt8} (h : Bs w v l) (hk : Below w.heap.size w w') : Bs w' v l := Sl.below h hk
theorem Bs.alloc {w : World} {v : Value} {l : List UInt8} (h : Bs w v l) (o : Obj) : Bs (w.alloc o) v l := Sl.alloc h o
theorem OwnBs.bs {w : World} {B : Nat} {v : Value} {l : List UInt8} (h : OwnBs w B v l) : Bs w v l := Own.sl h
theorem Blk.bs {w : World} {b : Nat} {l : List UInt8} {T : TypeId} (h : Blk w b (bCells l) T) {off n cap : Nat} (hf : off + n ≤ l.length) (hc : n ≤ cap) (hm : cap ≤ maxLen) :
    Sl w 1 (.slice (some ⟨b, off, none⟩) n cap) n (bCells ((l.drop off).take n)) := by
  have hl : (bCells ((l.drop off).take n)).length = n := by rw [bCells_length, List.length_take, List.length_drop]; omega
  refine ⟨by rw [hl]; omega, bCells_one _, some ⟨b, off, none⟩, cap, rfl, hc, hm, (fun h => by cases h), .inr ⟨b, off, rfl, fun j u hj => ?_⟩⟩
  have hj' : j < n := by have := (List.getElem?_eq_some_iff.1 hj).1; omega
  rw [h.cell]
  simp only [bCells, List.getElem?_map, List.getElem?_take, List.getElem?_drop, hj', if_true] at hj ⊢
  exact hj
theorem Sl.bs {w : World} {v : Value} {n : Nat} {l l' : List UInt8} (h : Sl w 1 v n (bCells l)) (he : l = l') (hn : l'.length = n) : Bs w v l' := by subst he hn; exact h
theorem Sl.mid {w : World} {b o cap0 n0 : Nat} {l : List UInt8} (h : Sl w 1 (.slice (some ⟨b, o, none⟩) n0 cap0) n0 (bCells l)) {off n cap : Nat} (hf : off + n ≤ n0) (hc : n ≤ cap) (hm : cap ≤ maxLen) :
    Sl w 1 (.slice (some ⟨b, o + off, none⟩) n cap) n (bCells ((l.drop off).take n)) := by
  have hll : l.length = n0 := by have := h.1; rw [bCells_length] at this; omega
  have hl : (bCells ((l.drop off).take n)).length = n := by rw [bCells_length, List.length_take, List.length_drop]; omega
  refine ⟨by rw [hl]; omega, bCells_one _, some ⟨b, o + off, none⟩, cap, rfl, hc, hm, (fun h => by cases h), ?_⟩
  by_cases hn : n = 0
  · exact .inl (List.eq_nil_of_length_eq_zero (by omega))
  · obtain ⟨b', o', e, hcell⟩ := h.addr (by rw [bCells_length]; omega)
    injection e with e
    injection e with e1 e2 e3
    subst e1 e2
    refine .inr ⟨b, o + off, rfl, fun j u hj => ?_⟩
    have hj' : j < n := by have := (List.getElem?_eq_some_iff.1 hj).1; omega
    rw [Nat.add_assoc]
    refine hcell _ _ ?_
    simp only [bCells, List.getElem?_map, List.getElem?_take, List.getElem?_drop, hj', if_true] at hj ⊢
    exact hj
theorem OwnBs.blk {w : World} {B : Nat} {v : Value} {l : List UInt8} (h : OwnBs w B v l) (hl : 0 < l.length) :
    ∃ g cap rest, v = .slice (some ⟨g, 0, none⟩) l.length cap ∧ B ≤ g ∧ Blk w g (bCells l ++ rest) 5 ∧ l.length ≤ cap ∧ cap ≤ maxLen := by
  obtain ⟨h0, h1, ⟨a, _, hn⟩ | ⟨g, cap, cur, rfl, h2, h3, h4, h5, h6, h7⟩⟩ := h
  · omega
  · refine ⟨g, cap, cur.toList.drop (l.length * 1), rfl, h2, ?_, h4, h5⟩
    rw [← h7, List.take_append_drop]
    exact h3
theorem Bs.none (w : World) (a : Option Addr) (cap : Nat) (h : a = .none → cap = 0) (hm : cap ≤ maxLen) : Bs w (.slice a 0 cap) [] :=
  ⟨by simp [bCells], by simp [bCells], a, cap, rfl, Nat.zero_le _, hm, h, .inl rfl⟩
theorem Sl.lt {w : World} {sz b o n cap : Nat} {cs : List Value} (h : Sl w sz (.slice (some ⟨b, o, none⟩) n cap) n cs) (hpos : 0 < cs.length) : b < w.heap.size := by
  obtain ⟨b', o', e, hc⟩ := h.addr hpos
  injection e with e
  injection e with e1 e2 e3
  subst e1
  obtain ⟨u, hu⟩ : ∃ u, cs[0]? = some u := ⟨_, List.getElem?_eq_getElem hpos⟩
  exact World.block_lt_of_cell? w _ (hc 0 u hu)
theorem Own.form' {w : World} {B : Nat} {e : TypeId} {sz : Nat} {v : Value} {n : Nat} {cs : List Value} (h : Own w B e sz v n cs) (hn : 0 < n) :
    ∃ g cap cur, v = .slice (some ⟨g, 0, none⟩) n cap ∧ B ≤ g ∧ w.heap[g]? = some (.cells cur e (0, 0)) ∧ n ≤ cap ∧ cap ≤ maxLen ∧ cur.size = cap * sz ∧ cur.toList.take (n * sz) = cs := by
  obtain ⟨_, _, ⟨a, _, h0⟩ | h⟩ := h
  · omega
  · exact h
theorem Own.frozen {w : World} {B : Nat} {e : TypeId} {sz g cap n : Nat} {cs : List Value} (h : Own w B e sz (.slice (some ⟨g, 0, none⟩) n cap) n cs) (hn : 0 < n) (i : Nat) : w.frozen? ⟨g, i, none⟩ = false := by
  obtain ⟨g', cap', cur, e, _, h2, _⟩ := h.form' hn
  injection e with e1 e2 e3
  injection e1 with e1
  injection e1 with e1
  subst e1
  simp [World.frozen?, h2]
theorem Own.set {w : World} {B : Nat} {e : TypeId} {sz g cap n : Nat} {cs : List Value} (h : Own w B e sz (.slice (some ⟨g, 0, none⟩) n cap) n cs) (hn : 0 < n) (i : Nat) (u : Value) (hu : u.oneCell' = true) :
    Own (w.setCell ⟨g, i, none⟩ u) B e sz (.slice (some ⟨g, 0, none⟩) n cap) n (cs.set i u) := by
  obtain ⟨g', cap', cur, e, hg, h2, h3, h4, h5, h6⟩ := h.form' hn
  injection e with e1 e2 e3
  injection e1 with e1
  injection e1 with e1
  subst e1 e3
  refine ⟨by rw [List.length_set]; exact h.1, fun x hx => ?_, .inr ⟨g, cap, cur.setIfInBounds i u, rfl, hg, ?_, h3, h4, by rw [Array.size_setIfInBounds]; exact h5, ?_⟩⟩
  · rcases List.mem_or_eq_of_mem_set hx with hx | rfl
    · exact h.2.1 x hx
    · exact hu
  · have hb : Blk w g cur.toList e := by unfold Blk; simpa using h2
    have := hb.set i u
    unfold Blk at this
    rw [this]
    exact congrArg some (congrArg (fun c => Obj.cells c e (0, 0)) (Array.ext' (by simp)))
  · rw [Array.toList_setIfInBounds, ← h6, List.take_set]
theorem Sl.keepF {w w' : World} {sz : Nat} {v : Value} {n : Nat} {cs : List Value} {F S : Nat → Prop} (h : Sl w sz v n cs) (hk : Keeps S w w') (hf : 0 < n → ∀ x, v.ownBlock = some x → F x) (hs : ∀ b, F b → b < w.heap.size → ¬ S b) : Sl w' sz v n cs := by
  by_cases hn : 0 < n
  · exact Sl.keep' h hk (fun x hx hl => hs x (hf hn x hx) hl)
  · obtain ⟨h1, h2, a, cap, e, h3, h4, h5, _⟩ := h
    have : cs = [] := List.eq_nil_of_length_eq_zero (by rw [h1, show n = 0 by omega, Nat.zero_mul])
    exact ⟨h1, h2, a, cap, e, h3, h4, h5, .inl this⟩
theorem Sl.own_lt {w : World} {sz : Nat} {v : Value} {n : Nat} {cs : List Value} (h : Sl w sz v n cs) (hsz : 0 < sz) (hn : 0 < n) : ∀ x, v.ownBlock = some x → x < w.heap.size := by
  intro x hx
  obtain ⟨a, c, rfl, _⟩ := h.form
  have hpos : 0 < cs.length := by rw [h.1]; exact Nat.mul_pos hn hsz
  obtain ⟨b, o, rfl, _⟩ := h.addr hpos
  simp [Value.ownBlock] at hx
  subst hx
  exact Sl.lt h hpos
theorem Own.open_ {w : World} {B : Nat} {e : TypeId} {sz g cap n : Nat} {cs : List Value} (h : Own w B e sz (.slice (some ⟨g, 0, none⟩) n cap) n cs) (hn : 0 < n) :
    ∃ cur : List Value, Blk w g cur e ∧ B ≤ g ∧ n * sz ≤ cur.length ∧ ∀ (w' : World) (j : Nat) (vs : List Value), j < n → vs.length = sz → (∀ u ∈ vs, u.oneCell' = true) → Blk w' g (cur.take (j * sz) ++ vs ++ cur.drop (j * sz + sz)) e →
      Own w' B e sz (.slice (some ⟨g, 0, none⟩) n cap) n (cs.take (j * sz) ++ vs ++ cs.drop (j * sz + sz)) := by
  obtain ⟨h0, h1, ⟨a, hv, h2⟩ | ⟨g', cap', cur, hv, h2, h3, h4, h5, h6, h7⟩⟩ := h
  · omega
  · simp only [Value.slice.injEq, Option.some.injEq, Addr.mk.injEq, and_true, true_and] at hv
    obtain ⟨rfl, rfl⟩ := hv
    have hfit : n * sz ≤ cap * sz := Nat.mul_le_mul_right _ h4
    refine ⟨cur.toList, by simpa [Blk] using h3, h2, by simpa [h6] using hfit, fun w' j vs hj hvs hv1 hb => ?_⟩
    have hjn : j * sz + sz ≤ n * sz := by
      have := Nat.mul_le_mul_right sz (show j + 1 ≤ n by omega)
      rwa [Nat.add_mul, Nat.one_mul] at this
    have hcl : cur.toList.length = cap * sz := by simpa using h6
    refine ⟨?_, fun u hu => ?_, .inr ⟨g, cap, _, rfl, h2, hb, h4, h5, ?_, ?_⟩⟩
    · simp only [List.length_append, List.length_take, List.length_drop, h0, hvs]
      omega
    · rcases List.mem_append.1 hu with hu | hu
      · rcases List.mem_append.1 hu with hu | hu
        · exact h1 u (List.mem_of_mem_take hu)
        · exact hv1 u hu
      · exact h1 u (List.mem_of_mem_drop hu)
    · simp only [List.size_toArray, List.length_append, List.length_take, List.length_drop, hcl, hvs]
      omega
    · subst h7
      simp only []
      apply List.ext_getElem?
      intro i
      simp only [List.getElem?_take, List.getElem?_append, List.length_append, List.length_take, hcl, hvs, List.getElem?_drop]
      by_cases hi : i < n * sz
      · rw [if_pos hi]
        by_cases h8 : i < j * sz
        · have e1 : i < min (j * sz) (cap * sz) + sz := by omega
          have e2 : i < min (j * sz) (cap * sz) := by omega
          have e3 : i < min (j * sz) (min (n * sz) (cap * sz)) + sz := by omega
          have e4 : i < min (j * sz) (min (n * sz) (cap * sz)) := by omega
          simp only [e1, e2, e3, e4, if_true, h8, hi]
        · have e0 : min (j * sz) (cap * sz) = j * sz := by omega
          have e0' : min (j * sz) (min (n * sz) (cap * sz)) = j * sz := by omega
          rw [e0, e0']
          by_cases h9 : i < j * sz + sz
          · simp only [h9, h8, if_true, if_false]
          · have e5 : j * sz + sz + (i - (j * sz + sz)) < n * sz := by omega
            simp only [h9, if_false, e5, if_true]
      · rw [if_neg hi]
        have e0' : min (j * sz) (min (n * sz) (cap * sz)) = j * sz := by omega
        rw [e0']
        have e1 : ¬ i < j * sz + sz := by omega
        have e5 : ¬ j * sz + sz + (i - (j * sz + sz)) < n * sz := by omega
        simp only [e1, if_false, e5]
theorem Sl.sub {w : World} {sz b o n cap : Nat} {cs : List Value} (h : Sl w sz (.slice (some ⟨b, o, none⟩) n cap) n cs) (j m cap' : Nat) (hj : j + m ≤ n) (hc : m ≤ cap') (hm : cap' ≤ maxLen) :
    Sl w sz (.slice (some ⟨b, o + j * sz, none⟩) m cap') m ((cs.drop (j * sz)).take (m * sz)) := by
  obtain ⟨h1, h2, a, c, e, h3, h4, h5, h6⟩ := h
  simp only [Value.slice.injEq, true_and] at e
  obtain ⟨rfl, rfl⟩ := e
  have hl : j * sz + m * sz ≤ n * sz := by rw [← Nat.add_mul]; exact Nat.mul_le_mul_right _ hj
  refine ⟨by simp only [List.length_take, List.length_drop, h1]; omega, fun u hu => h2 u (List.mem_of_mem_drop (List.mem_of_mem_take hu)), _, cap', rfl, hc, hm, by simp, ?_⟩
  rcases h6 with h6 | ⟨b', o', e, h6⟩
  · subst h6
    exact .inl (by simp)
  · simp only [Option.some.injEq, Addr.mk.injEq, and_true] at e
    obtain ⟨rfl, rfl⟩ := e
    refine .inr ⟨b, _, rfl, fun i u hi => ?_⟩
    rw [List.getElem?_take] at hi
    split at hi
    · rw [List.getElem?_drop] at hi
      rw [Nat.add_assoc]
      exact h6 _ u hi
    · simp at hi
def cutAt (g cap i sz : Nat) : Option Addr := if cap = i then some ⟨g, 0, none⟩ else some ⟨g, i * sz, none⟩
theorem Sl.left {w : World} {sz g n cap : Nat} {cs : List Value} (h : Sl w sz (.slice (some ⟨g, 0, none⟩) n cap) n cs) (j : Nat) (hj : j ≤ n) :
    Sl w sz (.slice (some ⟨g, 0, none⟩) j cap) j (cs.take (j * sz)) := by
  obtain ⟨a, c, e, h3, h4⟩ := h.form
  simp only [Value.slice.injEq, true_and] at e
  obtain ⟨rfl, rfl⟩ := e
  have := h.sub 0 j cap (by omega) (by omega) h4
  simpa using this
theorem Sl.right {w : World} {sz g n cap : Nat} {cs : List Value} (h : Sl w sz (.slice (some ⟨g, 0, none⟩) n cap) n cs) (i : Nat) (hi : i ≤ n) :
    Sl w sz (.slice (cutAt g cap i sz) (n - i) (cap - i)) (n - i) (cs.drop (i * sz)) := by
  obtain ⟨a, c, e, h3, h4⟩ := h.form
  have hl := h.1
  simp only [Value.slice.injEq, true_and] at e
  obtain ⟨rfl, rfl⟩ := e
  unfold cutAt
  split
  · rename_i hc
    have hn : n - i = 0 := by omega
    rw [hn, show cap - i = 0 by omega, List.drop_of_length_le (by rw [hl]; exact Nat.mul_le_mul_right _ (by omega))]
    exact Sl.nil _ _ _
  · have := h.sub i (n - i) (cap - i) (by omega) (by omega) (by omega)
    rw [List.take_of_length_le (by rw [List.length_drop, hl, Nat.sub_mul]; exact Nat.le_refl _)] at this
    simpa using this
theorem run_app2 {P : Program} {w : World} {t ty e : TypeId} {size bytes : Nat} {z : Value} (hE : Elem P t e size bytes z) {B : Nat}
    {v : Value} {n : Nat} {cs : List Value} (hown : Own w B e size v n cs) (hlt : ∀ b, v.ownBlock = some b → b < w.heap.size) {x : Value} {m : Nat} {ds : List Value} (hsl : Sl w size x m ds)
    (h63 : n + m ≤ maxLen) (hbytes : (n + m) * bytes ≤ 140737488355328) (hbase : B ≤ w.heap.size) :
    ∃ v' w', (Builtin.append_ #[t, t] ty #[v, x]).run P w = .ok v' w' ∧ Own w' B e size v' (n + m) (cs ++ ds) ∧ Keeps (fun k => v.ownBlock = some k ∧ B ≤ k ∨ w.heap.size ≤ k) w w' ∧ (∀ b, v'.ownBlock = some b → (v.ownBlock = some b ∨ w.heap.size ≤ b) ∧ b < w'.heap.size) := by
  obtain ⟨v', w', hr, h1, h2, h3⟩ := run_app (ty := ty) hE hown hsl h63 hbytes hbase
  refine ⟨v', w', hr, h1, h2, fun b hb => ⟨h3 b hb, ?_⟩⟩
  by_cases h0 : 0 < n + m
  · obtain ⟨h4, h5, ⟨a, e1, e2⟩ | ⟨g, cap, cur, e1, e2, e3, _⟩⟩ := h1
    · omega
    · rw [e1] at hb
      simp [Value.ownBlock] at hb
      subst hb
      exact block_lt e3
  · obtain rfl : m = 0 := by omega
    obtain ⟨ht, i, hi, hz, hsize, hby, hzs, hsz⟩ := hE
    obtain ⟨hdl, hd1, a, c, rfl, hmc, hcm, hanone, hat⟩ := hsl
    have hfc : (Builtin.firstCells size 0 (.slice a 0 c)).run P w = .ok #[] w := by
      cases a <;> simp [Builtin.firstCells, loadCells, loadCellsFrom]
    have hr' : (Builtin.append_ #[t, t] ty #[v, .slice a 0 c]).run P w = .ok v w := by
      obtain ⟨_, _, ⟨a0, rfl, rfl⟩ | ⟨g, cap, cur, rfl, _, _, hnc, _⟩⟩ := hown
      · cases a0 <;> simp [Builtin.append_, run_underlying ht, sizeOf, typeInfo, hi, Builtin.lenOf, hsize, hfc, storeCells]
      · simp [Builtin.append_, run_underlying ht, sizeOf, typeInfo, hi, Builtin.lenOf, hsize, hfc, hnc, storeCells]
    rw [hr] at hr'
    simp only [Result.ok.injEq] at hr'
    obtain ⟨rfl, rfl⟩ := hr'
    exact hlt b hb
theorem wpList_app2 {P : Program} {w : World} {ops : Array Oper} {rest : List Oper} {o : Oper} {a : Act} {Q : Exit → Act → World → Prop} (hgd : Region.wanted o (yielded ops a.tmps) = true) (s x : Operand) {t e : TypeId} {size bytes : Nat} {z : Value}
    (hE : Elem P t e size bytes z) (ho : o.op = .call { callee := .builtin .append, args := #[s, x], argTypes := #[t, t] }) (B : Nat)
    {n : Nat} {cs : List Value} (hown : Own w B e size (a.eval s) n cs) (hlt : ∀ b, (a.eval s).ownBlock = some b → b < w.heap.size) {m : Nat} {ds : List Value} (hsl : Sl w size (a.eval x) m ds)
    (h63 : n + m ≤ maxLen) (hbytes : (n + m) * bytes ≤ 140737488355328) (hbase : B ≤ w.heap.size)
    (h : ∀ v' w', Own w' B e size v' (n + m) (cs ++ ds) → Keeps (fun k => (a.eval s).ownBlock = some k ∧ B ≤ k ∨ w.heap.size ≤ k) w w' → (∀ b, v'.ownBlock = some b → ((a.eval s).ownBlock = some b ∨ w.heap.size ≤ b) ∧ b < w'.heap.size) → wpList P ops Q rest (a.put o.dst v') w') : wpList P ops Q (o :: rest) a w := by
  obtain ⟨v', w', hr, h2, h3, h4⟩ := run_app2 (P := P) (ty := o.type) hE hown hlt hsl h63 hbytes hbase
  refine wpList_want hgd fun K hK => ?_
  unfold Oper.wp execOp
  simp only [ho, resolve, invoke, builtin, Sem.run_bind, Sem.run_pure, Result.andThen_ok, List.map_toArray, List.map_cons, List.map_nil, hr]
  exact hK _ _ (h v' w' h2 h3 h4)
theorem foldl_set_get : ∀ (l : List Value) (i : Nat) (cs : Array Value) (k : Nat), i + l.length ≤ cs.size →
    ((l.zipIdx i).foldl (fun cs (x : Value × Nat) => cs.setIfInBounds (0 + x.2) x.1) cs)[k]? = if i ≤ k ∧ k < i + l.length then l[k - i]? else cs[k]?
  | [], i, cs, k, _ => by simp; omega
  | x :: l, i, cs, k, h => by
    simp only [List.length_cons] at h
    rw [List.zipIdx_cons, List.foldl_cons, foldl_set_get l (i + 1) _ k (by simp; omega)]
    simp only [List.length_cons, Nat.zero_add]
    by_cases hk : k = i
    · subst hk
      rw [if_neg (by omega), if_pos (by omega), Nat.sub_self]
      simp [Array.getElem?_setIfInBounds, show k < cs.size by omega]
    · by_cases h2 : i + 1 ≤ k ∧ k < i + 1 + l.length
      · rw [if_pos h2, if_pos (by omega), show k - i = (k - (i + 1)) + 1 by omega, List.getElem?_cons_succ]
      · rw [if_neg h2, if_neg (by omega)]
        simp [Array.getElem?_setIfInBounds, Ne.symm hk]
theorem fill_one (X : Array Value) (size : Nat) (cells : Array Value) (hX : X.size = size) (hc : cells.size = size) : Instr.fill (fun i => some (i * size, size)) cells [(0, .agg X)] = some X := by
  have hf : (X.zipIdx.foldl (fun cs (x : Value × Nat) => cs.setIfInBounds (0 + x.2) x.1) cells) = X := by
    rw [← Array.foldl_toList, Array.toList_zipIdx]
    apply Array.ext_getElem?
    intro k
    rw [foldl_set_get X.toList 0 cells k (by simp; omega)]
    by_cases hk : k < X.size
    · rw [if_pos (by simp; omega)]; simp
    · rw [if_neg (by simp; omega), Array.getElem?_eq_none (by omega), Array.getElem?_eq_none (by omega)]
  unfold Instr.fill
  simp only [Value.cells, Nat.zero_mul, Nat.zero_add]
  rw [if_neg (by simp [hX, hc])]
  unfold Instr.fill
  have e : (X.zipIdx.foldl (fun cs x => match x with | (c, j) => cs.setIfInBounds (0 + j) c) cells) = X := hf
  simp only [Nat.zero_add] at e
  exact congrArg some e
theorem wpList_bs1 {P : Program} {ops : Array Oper} {rest : List Oper} {o : Oper} {a : Act} {w : World} {Q : Exit → Act → World → Prop} (hg : o.guard = none) (x : Operand) {t e : TypeId} {size bytes : Nat} {z : Value} (hE : Elem P t e size bytes z) (ho : o.op = .buildSlice t 1 #[(0, x)])
    {X : Array Value} (hx : a.eval x = .agg X) (hX : X.size = size) (hs : size ≤ 16777216)
    (h : wpList P ops Q rest (a.put o.dst (.slice (some ⟨w.heap.size, 0, none⟩) 1 1)) (w.alloc (.cells X e))) : wpList P ops Q (o :: rest) a w := by
  obtain ⟨ht, i, hi, hz, hsize, hby, hzs, hsz⟩ := hE
  refine wpList_buildSlice hg t e 1 #[(0, x)] ho X i z ht hi hz (by omega) (by omega) ?_ h
  rw [hsize]
  simp only [List.map_toArray, List.map_cons, List.map_nil, hx]
  exact fill_one X size _ hX (by simp)
inductive Tv where
  | mk (kind tag : Int) (n : Nat) (b : List UInt8) (l : List Tv)
def Tv.kind : Tv → Int | .mk k _ _ _ _ => k
def Tv.tag : Tv → Int | .mk _ t _ _ _ => t
def Tv.n : Tv → Nat | .mk _ _ n _ _ => n
def Tv.b : Tv → List UInt8 | .mk _ _ _ b _ => b
def Tv.l : Tv → List Tv | .mk _ _ _ _ l => l
def Tv.zero : Tv := .mk 0 0 0 [] []
mutual
def TvF (w : World) (F : Nat → Prop) : Tv → List Value → Prop
  | .mk k t n b l, cs => ∃ (bv lv : Value) (rows : List Value), cs = [.int .i64 k, .int .i64 t, .int .u64 (n : Int), bv, lv] ∧ Bs w bv b ∧ (0 < b.length → ∀ x, bv.ownBlock = some x → F x) ∧
      Sl w 5 lv l.length rows ∧ (0 < l.length → ∀ x, lv.ownBlock = some x → F x) ∧ TvsF w F l rows
def TvsF (w : World) (F : Nat → Prop) : List Tv → List Value → Prop
  | [], cs => cs = []
  | x :: l, cs => ∃ r rs, cs = r ++ rs ∧ TvF w F x r ∧ TvsF w F l rs
end
theorem TvF.length {w : World} {F : Nat → Prop} : ∀ {x : Tv} {cs : List Value}, TvF w F x cs → cs.length = 5
  | .mk _ _ _ _ _, cs, h => by
    obtain ⟨bv, lv, rows, rfl, _⟩ := h
    rfl
theorem TvF.one {w : World} {F : Nat → Prop} : ∀ {x : Tv} {cs : List Value}, TvF w F x cs → ∀ u ∈ cs, u.oneCell' = true
  | .mk _ _ _ _ _, cs, h => by
    obtain ⟨bv, lv, rows, rfl, hb, _, hl, _⟩ := h
    obtain ⟨a, c, e, _⟩ := hb.form
    obtain ⟨a2, c2, e2, _⟩ := hl.form
    subst e e2
    intro u hu
    simp only [List.mem_cons, List.not_mem_nil, or_false] at hu
    rcases hu with rfl | rfl | rfl | rfl | rfl <;> rfl
mutual
theorem TvF.keep' {w w' : World} {F G S : Nat → Prop} (hk : Keeps S w w') (hs : ∀ b, F b → b < w.heap.size → ¬ S b) (hg : ∀ b, F b → G b) : ∀ (x : Tv) (cs : List Value), TvF w F x cs → TvF w' G x cs
  | .mk k t n b l, cs, h => by
    obtain ⟨bv, lv, rows, e, h1, h2, h3, h4, h5⟩ := h
    exact ⟨bv, lv, rows, e, Sl.keepF h1 hk h2 hs, fun hp x hx => hg x (h2 hp x hx), Sl.keepF h3 hk h4 hs, fun hp x hx => hg x (h4 hp x hx), TvsF.keep' hk hs hg l rows h5⟩
theorem TvsF.keep' {w w' : World} {F G S : Nat → Prop} (hk : Keeps S w w') (hs : ∀ b, F b → b < w.heap.size → ¬ S b) (hg : ∀ b, F b → G b) : ∀ (l : List Tv) (cs : List Value), TvsF w F l cs → TvsF w' G l cs
  | [], cs, h => h
  | x :: l, cs, h => by
    obtain ⟨r, rs, e, h1, h2⟩ := h
    exact ⟨r, rs, e, TvF.keep' hk hs hg x r h1, TvsF.keep' hk hs hg l rs h2⟩
end
theorem TvF.below {w w' : World} {F : Nat → Prop} {x : Tv} {cs : List Value} (h : TvF w F x cs) (hb : Below w.heap.size w w') : TvF w' F x cs :=
  TvF.keep' (Keeps.of_below hb) (fun _ _ hl hs => by omega) (fun _ h => h) x cs h
theorem TvsF.below {w w' : World} {F : Nat → Prop} {l : List Tv} {cs : List Value} (h : TvsF w F l cs) (hb : Below w.heap.size w w') : TvsF w' F l cs :=
  TvsF.keep' (Keeps.of_below hb) (fun _ _ hl hs => by omega) (fun _ h => h) l cs h
theorem TvF.keep {w w' : World} {F S : Nat → Prop} {x : Tv} {cs : List Value} (h : TvF w F x cs) (hk : Keeps S w w') (hs : ∀ b, F b → b < w.heap.size → ¬ S b) : TvF w' F x cs :=
  TvF.keep' hk hs (fun _ h => h) x cs h
theorem TvsF.keep {w w' : World} {F S : Nat → Prop} {l : List Tv} {cs : List Value} (h : TvsF w F l cs) (hk : Keeps S w w') (hs : ∀ b, F b → b < w.heap.size → ¬ S b) : TvsF w' F l cs :=
  TvsF.keep' hk hs (fun _ h => h) l cs h
theorem TvF.mono {w : World} {F G : Nat → Prop} {x : Tv} {cs : List Value} (h : TvF w F x cs) (hg : ∀ b, F b → G b) : TvF w G x cs :=
  TvF.keep' (Keeps.refl (fun _ => False) w) (fun _ _ _ h => h) hg x cs h
theorem TvsF.mono {w : World} {F G : Nat → Prop} {l : List Tv} {cs : List Value} (h : TvsF w F l cs) (hg : ∀ b, F b → G b) : TvsF w G l cs :=
  TvsF.keep' (Keeps.refl (fun _ => False) w) (fun _ _ _ h => h) hg l cs h
theorem TvsF.length {w : World} {F : Nat → Prop} : ∀ {l : List Tv} {cs : List Value}, TvsF w F l cs → cs.length = l.length * 5
  | [], cs, h => by rw [show cs = [] from h]; rfl
  | x :: l, cs, h => by
    obtain ⟨r, rs, rfl, h1, h2⟩ := h
    rw [List.length_append, h1.length, TvsF.length h2, List.length_cons]
    omega
theorem TvsF.snoc {w : World} {F : Nat → Prop} : ∀ {l : List Tv} {cs : List Value} {x : Tv} {r : List Value}, TvsF w F l cs → TvF w F x r → TvsF w F (l ++ [x]) (cs ++ r)
  | [], cs, x, r, h, hx => by
    rw [show cs = [] from h]
    exact ⟨r, [], by simp, hx, rfl⟩
  | y :: l, cs, x, r, h, hx => by
    obtain ⟨r1, rs, rfl, h1, h2⟩ := h
    exact ⟨r1, rs ++ r, by simp, h1, TvsF.snoc h2 hx⟩
theorem TvsF.at_ {w : World} {F : Nat → Prop} : ∀ {l : List Tv} {cs : List Value}, TvsF w F l cs → ∀ (k : Nat) (hk : k < l.length), TvF w F l[k] ((cs.drop (k * 5)).take 5)
  | [], cs, h, k, hk => by simp at hk
  | x :: l, cs, h, 0, hk => by
    obtain ⟨r, rs, rfl, h1, h2⟩ := h
    rw [Nat.zero_mul, List.drop_zero, List.take_append_of_le_length (by rw [h1.length]; exact Nat.le_refl _), List.take_of_length_le (by rw [h1.length]; exact Nat.le_refl _)]
    exact h1
  | x :: l, cs, h, k + 1, hk => by
    obtain ⟨r, rs, rfl, h1, h2⟩ := h
    rw [show (k + 1) * 5 = r.length + k * 5 by rw [h1.length]; omega, List.drop_length_add_append]
    exact TvsF.at_ h2 k (by simpa using hk)
theorem TvsF.cells {w : World} {F : Nat → Prop} {l : List Tv} {cs : List Value} (h : TvsF w F l cs) {b o cap : Nat} (hs : Sl w 5 (.slice (some ⟨b, o, none⟩) l.length cap) l.length cs) (k : Nat) (hk : k < l.length) :
    ∃ r, TvF w F l[k] r ∧ CellsAt w b (o + k * 5) r := by
  refine ⟨_, h.at_ k hk, fun j u hj => ?_⟩
  obtain ⟨b', o', e, hc⟩ := hs.addr (by rw [hs.1]; omega)
  simp only [Option.some.injEq, Addr.mk.injEq, and_true] at e
  obtain ⟨rfl, rfl⟩ := e
  rw [List.getElem?_take] at hj
  split at hj
  · rw [List.getElem?_drop] at hj
    rw [Nat.add_assoc]
    exact hc _ u hj
  · simp at hj
theorem TvF.open_ {w : World} {F : Nat → Prop} {x : Tv} {cs : List Value} (h : TvF w F x cs) : ∃ (bv lv : Value) (rows : List Value), cs = [.int .i64 x.kind, .int .i64 x.tag, .int .u64 (x.n : Int), bv, lv] ∧ Bs w bv x.b ∧ (0 < x.b.length → ∀ y, bv.ownBlock = some y → F y) ∧
      Sl w 5 lv x.l.length rows ∧ (0 < x.l.length → ∀ y, lv.ownBlock = some y → F y) ∧ TvsF w F x.l rows := by
  cases x
  exact h
theorem TvF.mk {w : World} {F : Nat → Prop} {k t : Int} {n : Nat} {b : List UInt8} {l : List Tv} {bv lv : Value} {rows : List Value} (h1 : Bs w bv b) (h2 : ∀ y, bv.ownBlock = some y → F y) (h3 : Sl w 5 lv l.length rows) (h4 : ∀ y, lv.ownBlock = some y → F y) (h5 : TvsF w F l rows) :
    TvF w F (.mk k t n b l) [.int .i64 k, .int .i64 t, .int .u64 (n : Int), bv, lv] := ⟨bv, lv, rows, rfl, h1, fun _ => h2, h3, fun _ => h4, h5⟩
theorem TvF.zero (w : World) (F : Nat → Prop) : TvF w F Tv.zero [.int .i64 0, .int .i64 0, .int .u64 0, .slice none 0 0, .slice none 0 0] :=
  TvF.mk (Sl.nil _ _ _) (by simp [Value.ownBlock]) (Sl.nil _ _ _) (by simp [Value.ownBlock]) rfl
mutual
theorem TvF.tight {w : World} {F : Nat → Prop} : ∀ (x : Tv) (cs : List Value), TvF w F x cs → TvF w (fun y => F y ∧ y < w.heap.size) x cs
  | .mk k t n b l, cs, h => by
    obtain ⟨bv, lv, rows, e, h1, h2, h3, h4, h5⟩ := h
    exact ⟨bv, lv, rows, e, h1, fun hp x hx => ⟨h2 hp x hx, Sl.own_lt h1 (by decide) hp x hx⟩, h3, fun hp x hx => ⟨h4 hp x hx, Sl.own_lt h3 (by decide) hp x hx⟩, TvsF.tight l rows h5⟩
theorem TvsF.tight {w : World} {F : Nat → Prop} : ∀ (l : List Tv) (cs : List Value), TvsF w F l cs → TvsF w (fun y => F y ∧ y < w.heap.size) l cs
  | [], cs, h => h
  | x :: l, cs, h => by
    obtain ⟨r, rs, e, h1, h2⟩ := h
    exact ⟨r, rs, e, TvF.tight x r h1, TvsF.tight l rs h2⟩
end
mutual
theorem tv_ind {P : Tv → Prop} (h : ∀ k t n b l, (∀ x ∈ l, P x) → P (.mk k t n b l)) : ∀ x : Tv, P x
  | .mk k t n b l => h k t n b l (tvs_ind h l)
theorem tvs_ind {P : Tv → Prop} (h : ∀ k t n b l, (∀ x ∈ l, P x) → P (.mk k t n b l)) : ∀ l : List Tv, ∀ x ∈ l, P x
  | [], x, hx => by simp at hx
  | y :: l, x, hx => by
    rcases List.mem_cons.1 hx with e | hx
    · rw [e]; exact tv_ind h y
    · exact tvs_ind h l x hx
end
def putB (n : Nat) : List UInt8 := (List.range 8).map fun i => UInt8.ofNat (n / 2 ^ (56 - 8 * i) % 256)
theorem putB_length (n : Nat) : (putB n).length = 8 := by simp [putB]
theorem putB_get (n k : Nat) (h : k < 8) : (putB n)[k]? = some (UInt8.ofNat (n / 2 ^ (56 - 8 * k) % 256)) := by simp [putB, h]
set_option maxRecDepth 100000 in
theorem put_any (n : Nat) (w : World) :
    Calls Try.prog 71 #[.int .u64 n] w fun e w' => e = .returned (.slice (some ⟨w.heap.size, 0, none⟩) 8 8) ∧ OwnBs w' w.heap.size (.slice (some ⟨w.heap.size, 0, none⟩) 8 8) (putB n) ∧ Below w.heap.size w w' ∧ Blk w' w.heap.size (bCells (putB n)) 5 := by
  have hmk := fun w => mkBytes w 8 8 rfl (by decide)
  simp only [List.replicate, List.toArray] at hmk
  have hpl := putB_length n
  go_enter Try.func71, Try.ntmps71
  go_wp2
  go_loopw [8] (fun i wr => ∃ k : Nat, k ≤ 8 ∧ i = .int .i64 k ∧ Blk wr w.heap.size ((bCells (putB n)).take k ++ List.replicate (8 - k) (.int .u8 0)) 5 ∧ Below w.heap.size w wr) (fun i _ => 8 - (intOf i).toNat)
  case atStart => exact ⟨0, by omega, rfl, Blk.new w (List.replicate 8 (.int .u8 0)) _, (Below.refl _ _).alloc (Nat.le_refl _) _⟩
  case round =>
    obtain ⟨k, hk, rfl, hb, hbel⟩ := hrel
    have HB := hqZ hb
    by_cases hlt : k < 8
    · have h1 : (k : Int) < 8 := by omega
      have hf := hb.frozen k
      have hc : wr.cell? ⟨w.heap.size, k, none⟩ = some (.int .u8 0) := by
        rw [hb.cell, List.getElem?_append_right (by simp [bCells_length]; omega)]
        rw [List.length_take, bCells_length, hpl, show k - min k 8 = 0 by omega, show 8 - k = (7 - k) + 1 by omega]
        rfl
      have hst : Hid (Blk (wr.setCell ⟨w.heap.size, k, none⟩ (.int .u8 ((n : Int) / 2 ^ (56 - 8 * k) % 256))) w.heap.size ((bCells (putB n)).take (k + 1) ++ List.replicate (8 - (k + 1)) (.int .u8 0)) 5) := by
        have := hb.set k (.int .u8 ((n : Int) / 2 ^ (56 - 8 * k) % 256))
        refine hqZ ?_
        have e : ((bCells (putB n)).take k ++ List.replicate (8 - k) (Value.int .u8 0)).set k (.int .u8 ((n : Int) / 2 ^ (56 - 8 * k) % 256)) = (bCells (putB n)).take (k + 1) ++ List.replicate (8 - (k + 1)) (.int .u8 0) := by
          have hkl : k < (bCells (putB n)).length := by rw [bCells_length]; omega
          rw [List.set_append_right _ _ (by simp [bCells_length]; omega), List.take_succ_eq_append_getElem hkl]
          have hg : (bCells (putB n))[k] = .int .u8 ((n : Int) / 2 ^ (56 - 8 * k) % 256) := by
            have h2 := bCells_get (putB n) k (by omega)
            rw [List.getElem?_eq_getElem hkl, Option.some.injEq] at h2
            have h3 := putB_get n k hlt
            rw [List.getElem?_eq_getElem (by omega), Option.some.injEq] at h3
            rw [h2, h3, bV_ofNat _ (Nat.mod_lt _ (by decide))]
            simp
          rw [hg, List.append_assoc]
          congr 1
          rw [show k - ((bCells (putB n)).take k).length = 0 by simp [bCells_length]; omega, show 8 - k = (8 - (k + 1)) + 1 by omega]
          rfl
        rw [← e]
        exact this
      clear hb
      go_wp2
      go_roundw
      case rel => exact ⟨k + 1, by omega, by go_num, hst.out, hbel.setCell (Nat.le_refl _) _⟩
      case measure => simp [intOf]; omega
    · obtain rfl : k = 8 := by omega
      have hb8 : Blk wr w.heap.size (bCells (putB n)) 5 := by
        have := hb
        rw [List.take_of_length_le (by rw [bCells_length]; omega)] at this
        simpa using this
      have HB8 := hqZ hb8
      clear hb hb8
      go_wp2
      go_ret
      have ho := HB8.out.own (B := w.heap.size) (Nat.le_refl _) (bCells_one _) (by rw [bCells_length, hpl]; decide)
      rw [bCells_length, hpl] at ho
      refine ⟨rfl, ?_, hbel, HB8.out⟩
      unfold OwnBs
      rw [hpl]
      exact ho
theorem bV_zero (x : UInt8) : (x.toNat : Int) = 0 ↔ x = 0 := by
  constructor
  · intro h
    exact UInt8.toNat_inj.1 (by simpa using h)
  · rintro rfl; rfl
def getN (l : List UInt8) : Nat := l.foldl (fun n c => n * 256 + c.toNat) 0
theorem getN_snoc (l : List UInt8) (c : UInt8) : getN (l ++ [c]) = getN l * 256 + c.toNat := by simp [getN]
theorem getN_lt (l : List UInt8) : getN l < 256 ^ l.length := by
  suffices ∀ (l : List UInt8) (n k : Nat), n < 256 ^ k → l.foldl (fun n c => n * 256 + c.toNat) n < 256 ^ (k + l.length) from by simpa [getN] using this l 0 0 (by decide)
  intro l
  induction l with
  | nil => intro n k h; simpa using h
  | cons c l ih =>
    intro n k h
    have := ih (n * 256 + c.toNat) (k + 1) (by have := c.toNat_lt; rw [Nat.pow_succ]; omega)
    simpa [Nat.add_assoc, Nat.add_comm 1] using this
theorem nat_or256 (n c : Nat) (hc : c < 256) : (n * 256) ||| c = n * 256 + c := by
  have := Nat.shiftLeft_add_eq_or_of_lt (b := c) (i := 8) (by simpa using hc) n
  rw [Nat.shiftLeft_eq] at this
  simpa using this.symm
set_option maxRecDepth 100000 in
theorem bits_or_u64 (n c : Nat) (hc : c < 256) (h : n * 256 + c < 18446744073709551616) : bits BinOp.or IntKind.u64 (IntKind.u64.wrap ((n : Int) * 256)) (IntKind.u64.wrap (c : Int)) = ((n * 256 + c : Nat) : Int) := by
  have e1 : IntKind.u64.wrap ((n : Int) * 256) = ((n * 256 : Nat) : Int) := by rw [IntKind.wrap_u64]; omega
  have e2 : IntKind.u64.wrap (c : Int) = (c : Int) := by rw [IntKind.wrap_u64]; omega
  rw [e1, e2, u64_or_nat _ _ (by omega) (by omega), nat_or256 n c hc]
def getB (l : List UInt8) : Nat × Bool := if l.length = 0 ∨ 8 < l.length then (0, false) else (getN l, true)
set_option maxRecDepth 100000 in
theorem get_any (v : Value) (l : List UInt8) (w : World) (h : Bs w v l) :
    Calls Try.prog 55 #[v] w fun e w' => e = .returned (.tuple #[.int .u64 (getB l).1, .bool (getB l).2]) ∧ w = w' := by
  obtain ⟨a, cap, rfl, hcap, hcm⟩ := h.form
  unfold maxLen at hcm
  by_cases h0 : l.length = 0
  · have h0' : ((l.length : Int) == 0) = true := by simp [h0]
    have HG : Hid (getB l = (0, false)) := hqZ (by simp [getB, h0])
    clear h0
    go_enter Try.func55, Try.ntmps55
    go_wp2
    go_ret2
    rw [HG.out]
    exact ⟨rfl, rfl⟩
  · have h0' : ((l.length : Int) == 0) = false := by simp; intro e; exact h0 (by simp [e])
    by_cases h8 : (8 : Int) < l.length
    · have HG : Hid (getB l = (0, false)) := hqZ (by simp only [getB]; rw [if_pos (by omega)])
      go_enter Try.func55, Try.ntmps55
      go_wp2
      go_ret2
      rw [HG.out]
      exact ⟨rfl, rfl⟩
    · have HG : Hid (getB l = (getN l, true)) := hqZ (by simp only [getB]; rw [if_neg (by omega)])
      obtain ⟨b, off, rfl, hc⟩ := h.addr (by rw [bCells_length]; omega)
      have HC := hqZ hc
      clear hc h
      go_enter Try.func55, Try.ntmps55
      go_wp2
      go_loop [4, 17] (fun n i => ∃ k : Nat, k ≤ l.length ∧ i = .int .i64 k ∧ n = .int .u64 (getN (l.take k))) (fun _ i => l.length - (intOf i).toNat)
      case atStart => exact ⟨0, Nat.zero_le _, rfl, rfl⟩
      case round =>
        obtain ⟨k, hk, rfl, rfl⟩ := hrel
        by_cases hlt : k < l.length
        · have c0 : w.cell? ⟨b, off + k, none⟩ = some (.int .u8 l[k].toNat) := HC.out k _ (bCells_get l k hlt)
          have hL : l.length ≤ 8 := by omega
          have hX : Hid (Value.int .u64 (bits .or .u64 (IntKind.u64.wrap ((getN (l.take k) : Int) * 256)) (IntKind.u64.wrap (l[k].toNat : Int))) = .int .u64 (getN (l.take (k + 1)))) := by
            refine hqZ ?_
            rw [List.take_succ_eq_append_getElem hlt, getN_snoc, bits_or_u64 _ _ l[k].toNat_lt]
            have h1 := getN_lt (l.take k)
            have h2 : (l.take k).length ≤ 7 := by rw [List.length_take]; omega
            have h3 : (256 : Nat) ^ (l.take k).length ≤ 256 ^ 7 := Nat.pow_le_pow_right (by decide) h2
            have := l[k].toNat_lt
            omega
          clear hL
          go_wp2
          go_round
          case rel => exact ⟨k + 1, by omega, by go_num, hX.out⟩
          case measure => simp [intOf]; omega
        · obtain rfl : k = l.length := by omega
          go_wp2
          go_ret2
          rw [HG.out]
          exact ⟨by simp, rfl⟩
def stripZ : List UInt8 → List UInt8
  | [] => []
  | [x] => [x]
  | x :: y :: l => if x = 0 then stripZ (y :: l) else x :: y :: l
def shortB (n : Nat) : List UInt8 := stripZ (putB n)
theorem stripZ_drop_zero (l : List UInt8) (j : Nat) (h : j + 1 < l.length) (h0 : l[j] = 0) : stripZ (l.drop j) = stripZ (l.drop (j + 1)) := by
  rw [List.drop_eq_getElem_cons (by omega : j < l.length), List.drop_eq_getElem_cons h, h0]
  simp [stripZ]
theorem stripZ_drop_stop (l : List UInt8) (j : Nat) (h : j < l.length) (h0 : j + 1 = l.length ∨ l[j] ≠ 0) : stripZ (l.drop j) = l.drop j := by
  rw [List.drop_eq_getElem_cons h]
  rcases Nat.lt_or_ge (j + 1) l.length with h1 | h1
  · rw [List.drop_eq_getElem_cons h1]
    have : l[j] ≠ 0 := h0.resolve_left (by omega)
    simp [stripZ, this]
  · rw [List.drop_eq_nil_of_le h1]
    rfl
set_option maxRecDepth 100000 in
theorem short_any (n : Nat) (w : World) :
    Calls Try.prog 69 #[.int .u64 n] w fun e w' => ∃ v, e = .returned v ∧ Bs w' v (shortB n) ∧ Below w.heap.size w w' ∧ v.ownBlock = some w.heap.size := by
  have hpl := putB_length n
  go_enter Try.func69, Try.ntmps69
  go_wp2_with fail
  refine (put_any n w).mono ?_
  rintro e w1 ⟨rfl, _, hb1, hblk⟩
  have HB := hqZ hblk
  clear hblk
  go_wp2_with fail
  go_loop [3] (fun v => ∃ j : Nat, j ≤ 7 ∧ v = .slice (some ⟨w.heap.size, j, none⟩) (8 - j) (8 - j) ∧ shortB n = stripZ ((putB n).drop j)) (fun v => match v with | .slice _ n _ => n | _ => 0)
  case atStart => exact ⟨0, by omega, rfl, rfl⟩
  case round =>
    obtain ⟨j, hj, rfl, hs⟩ := hrel
    have HS := hqZ hs
    clear hs
    have hget : w1.cell? ⟨w.heap.size, j, none⟩ = some (.int .u8 ((putB n)[j]'(by omega)).toNat) := by rw [HB.out.cell]; exact bCells_get _ _ _
    have fin : shortB n = (putB n).drop j → Bs w1 (.slice (some ⟨w.heap.size, j, none⟩) (8 - j) (8 - j)) (shortB n) := by
      intro e
      rw [e]
      have hl : ((putB n).drop j).length = 8 - j := by rw [List.length_drop, hpl]
      unfold Bs
      rw [hl]
      refine ⟨by rw [bCells_length, hl]; omega, bCells_one _, _, 8 - j, rfl, Nat.le_refl _, by unfold maxLen; omega, fun h => by simp at h, .inr ⟨_, _, rfl, fun i u hi => ?_⟩⟩
      rw [HB.out.cell]
      simp only [bCells, List.map_drop, List.getElem?_drop] at hi ⊢
      exact hi
    have FIN := hqZ fin
    clear fin
    by_cases hj7 : j = 7
    · subst hj7
      have h1 : Hid (shortB n = (putB n).drop 7) := hqZ (by rw [HS.out, stripZ_drop_stop _ _ (by omega) (.inl (by omega))])
      clear hget
      go_wp2
      go_ret
      exact ⟨_, rfl, FIN.out h1.out, hb1, rfl⟩
    · have hj' : 1 < ((8 - j : Nat) : Int) := by omega
      have hj0 : (0 : Int) < ((8 - j : Nat) : Int) := by omega
      have hj0' : 0 < 8 - j := by omega
      have hjn : ¬ 8 - j = 1 := by omega
      by_cases hz : (putB n)[j]'(by omega) = 0
      · have hz' : ((((putB n)[j]'(by omega)).toNat : Int) == 0) = true := by rw [hz]; rfl
        have h1 : Hid (shortB n = stripZ ((putB n).drop (j + 1))) := hqZ (by rw [HS.out, stripZ_drop_zero _ _ (by omega) hz])
        clear hz
        go_wp2
        go_round
        case rel => exact ⟨j + 1, by omega, by rw [show 8 - (j + 1) = 8 - j - 1 by omega], h1.out⟩
        case measure => simp; omega
      · have hz' : ((((putB n)[j]'(by omega)).toNat : Int) == 0) = false := by
          rw [beq_eq_false_iff_ne]
          intro e
          exact hz ((bV_zero _).1 e)
        have h1 : Hid (shortB n = (putB n).drop j) := hqZ (by rw [HS.out, stripZ_drop_stop _ _ (by omega) (.inr hz)])
        clear hz
        go_wp2
        go_ret
        exact ⟨_, rfl, FIN.out h1.out, hb1, rfl⟩
end Go.Proofs.Ytpjkidcfidmfaaa
namespace Go.Proofs.Ytpjkidcfidmfaaa
set_option linter.unusedSimpArgs false
set_option linter.unusedVariables false
def sizeS (b : List UInt8) : Nat × Nat × Int :=
  if b.length < 2 then (0, 0, 1)
  else if (b.getD 1 0).toNat < 128 then (if b.length - 2 < (b.getD 1 0).toNat then (0, 0, 1) else ((b.getD 1 0).toNat, 2, 0))
  else if (b.getD 1 0).toNat = 128 ∨ 130 < (b.getD 1 0).toNat then (0, 0, 3)
  else if b.length < (b.getD 1 0).toNat - 126 then (0, 0, 1)
  else if getN ((b.drop 2).take ((b.getD 1 0).toNat - 128)) < 128 ∨ ((b.getD 1 0).toNat = 130 ∧ getN ((b.drop 2).take ((b.getD 1 0).toNat - 128)) < 256) then (0, 0, 3)
  else if b.length - ((b.getD 1 0).toNat - 126) < getN ((b.drop 2).take ((b.getD 1 0).toNat - 128)) then (0, 0, 1)
  else (getN ((b.drop 2).take ((b.getD 1 0).toNat - 128)), (b.getD 1 0).toNat - 126, 0)
theorem sizeS_ok {b : List UInt8} {n at' : Nat} (h : sizeS b = (n, at', 0)) : 2 ≤ at' ∧ at' + n ≤ b.length ∧ at' ≤ 4 := by
  unfold sizeS at h
  split at h
  · simp at h
  · split at h
    · split at h
      · simp at h
      · simp only [Prod.mk.injEq] at h; omega
    · split at h
      · simp at h
      · split at h
        · simp at h
        · split at h
          · simp at h
          · split at h
            · simp at h
            · simp only [Prod.mk.injEq] at h; omega
def listS (rd : List UInt8 → Tv × Nat × Int) : Nat → List UInt8 → List Tv × Int
  | _, [] => ([], 0)
  | 0, _ => ([], 0)
  | f + 1, b => match rd b with
    | (x, k, e) => if e = 0 then (match listS rd f (b.drop k) with | (l, e') => (x :: l, e')) else ([], e)
def readS : Nat → List UInt8 → Tv × Nat × Int
  | 0, _ => (.zero, 0, 4)
  | d + 1, b => match sizeS b with
    | (n, at', e) =>
      if e ≠ 0 then (.zero, 0, e)
      else if 2 < (b.getD 0 0).toNat / 64 ∨ 30 < (b.getD 0 0).toNat % 64 then (.zero, 0, 2)
      else if (b.getD 0 0).toNat / 64 = 0 then
        (if (getB ((b.drop at').take n)).2 = false ∨ (1 < n ∧ (b.drop at').getD 0 0 = 0) then (.zero, 0, 4)
         else (.mk 0 ((b.getD 0 0).toNat % 64 : Nat) (getB ((b.drop at').take n)).1 [] [], at' + n, 0))
      else if (b.getD 0 0).toNat / 64 = 1 then (.mk 1 ((b.getD 0 0).toNat % 64 : Nat) 0 ((b.drop at').take n) [], at' + n, 0)
      else match listS (readS d) n ((b.drop at').take n) with
        | (l, e) => if e = 0 then (.mk 2 ((b.getD 0 0).toNat % 64 : Nat) 0 [] l, at' + n, 0) else (.zero, 0, e)
def Takes (rd : List UInt8 → Tv × Nat × Int) : Prop := ∀ b x k, rd b = (x, k, 0) → 2 ≤ k ∧ k ≤ b.length
theorem readS_takes (d : Nat) : Takes (readS d) := by
  intro b x k h
  cases d with
  | zero => simp [readS] at h
  | succ d =>
    rw [readS] at h
    obtain ⟨n, at', e, hs⟩ : ∃ n at' e, sizeS b = (n, at', e) := ⟨_, _, _, rfl⟩
    rw [hs] at h
    simp only at h
    split at h
    · simp at h; omega
    · rename_i he
      have he0 : e = 0 := by simpa using he
      subst he0
      have hok := sizeS_ok hs
      split at h
      · simp at h
      · split at h
        · split at h
          · simp at h
          · simp at h; omega
        · split at h
          · simp at h; omega
          · split at h
            · simp at h; omega
            · simp at h; omega
theorem listS_nil (rd : List UInt8 → Tv × Nat × Int) (f : Nat) : listS rd f [] = ([], 0) := by cases f <;> rfl
theorem listS_ok {rd : List UInt8 → Tv × Nat × Int} {f : Nat} {b : List UInt8} {x : Tv} {k : Nat} (hb : b ≠ []) (h : rd b = (x, k, 0)) : listS rd (f + 1) b = (x :: (listS rd f (b.drop k)).1, (listS rd f (b.drop k)).2) := by
  cases b with
  | nil => exact absurd rfl hb
  | cons c b => simp [listS, h]
theorem listS_bad {rd : List UInt8 → Tv × Nat × Int} {f : Nat} {b : List UInt8} {x : Tv} {k : Nat} {e : Int} (hb : b ≠ []) (h : rd b = (x, k, e)) (he : e ≠ 0) : listS rd (f + 1) b = ([], e) := by
  cases b with
  | nil => exact absurd rfl hb
  | cons c b => simp [listS, h, he]
theorem listS_fuel {rd : List UInt8 → Tv × Nat × Int} (ht : Takes rd) : ∀ (f g : Nat) (b : List UInt8), b.length ≤ f → b.length ≤ g → listS rd f b = listS rd g b
  | f, g, [], _, _ => by rw [listS_nil, listS_nil]
  | 0, g, c :: b, h, _ => by simp at h
  | f + 1, 0, c :: b, _, h => by simp at h
  | f + 1, g + 1, c :: b, hf, hg => by
    obtain ⟨x, k, e, hr⟩ : ∃ x k e, rd (c :: b) = (x, k, e) := ⟨_, _, _, rfl⟩
    by_cases he : e = 0
    · subst he
      have hk := ht _ _ _ hr
      rw [listS_ok (by simp) hr, listS_ok (by simp) hr, listS_fuel ht f g _ (by rw [List.length_drop]; simp at hf hk ⊢; omega) (by rw [List.length_drop]; simp at hg hk ⊢; omega)]
    · rw [listS_bad (by simp) hr he, listS_bad (by simp) hr he]
def wholeS (b : List UInt8) : Tv × Int :=
  if 4096 < b.length then (.zero, 20)
  else match readS 8 b with
    | (v, n, e) => if e ≠ 0 then (.zero, e) else if n < b.length then (.zero, 5) else (v, 0)
end Go.Proofs.Ytpjkidcfidmfaaa
namespace Go.Proofs.Ytpjkidcfidmfaaa
set_option linter.unusedSimpArgs false
set_option linter.unusedVariables false
open Go.RowKit
def cutA (a : Option Addr) (cap i : Nat) : Option Addr := if cap = i then a else a.map (·.add i)
theorem runSizeU8 (w : World) : (sizeOf 5).run Try.prog w = .ok 1 w := by kernel_rfl
theorem run_cut2 (a : Option Addr) (n cap i j : Nat) (hi : i ≤ j) (hj : j ≤ cap) (W : World) :
    (Instr.sliceAt 22 (.slice a n cap) (some (.int .i64 i)) (some (.int .i64 j)) none).run Try.prog W = .ok (.slice (cutA a cap i) (j - i) (cap - i)) W := by
  have h1 : ¬ ((i : Int) < 0) := by omega
  have h2 : ¬ ((j : Int) < 0) := by omega
  have h3 : ¬ (cap < j) := by omega
  have h4 : ¬ (j < i) := by omega
  simp [Instr.sliceAt, Instr.slice, Instr.sliceBounds, Instr.sliceBound, run_underlying Try.underlying22, asIntOf, runSizeU8, cutA, h1, h2, h3, h4, hi, hj]
theorem run_cut1 (a : Option Addr) (n cap i : Nat) (hi : i ≤ n) (W : World) :
    (Instr.sliceAt 22 (.slice a n cap) (some (.int .i64 i)) none none).run Try.prog W = .ok (.slice (cutA a cap i) (n - i) (cap - i)) W := by
  have h1 : ¬ ((i : Int) < 0) := by omega
  have h4 : ¬ (n < i) := by omega
  simp [Instr.sliceAt, Instr.slice, Instr.sliceBounds, Instr.sliceBound, run_underlying Try.underlying22, asIntOf, runSizeU8, cutA, h1, h4, hi]
theorem Bs.cut {w : World} {a : Option Addr} {cap : Nat} {b : List UInt8} (h : Bs w (.slice a b.length cap) b) (i j : Nat) (hi : i ≤ j) (hj : j ≤ b.length) : Bs w (.slice (cutA a cap i) (j - i) (cap - i)) ((b.drop i).take (j - i)) := by
  obtain ⟨a', cap', he, hc, hm⟩ := h.form
  simp only [Value.slice.injEq, true_and] at he
  obtain ⟨rfl, rfl⟩ := he
  have hna : a = Option.none → cap = 0 := by
    obtain ⟨_, _, a', c', he, _, _, h5, _⟩ := h
    simp only [Value.slice.injEq, true_and] at he
    obtain ⟨rfl, rfl⟩ := he
    exact h5
  by_cases hz : j - i = 0
  · rw [hz, List.take_zero]
    refine Bs.none _ _ _ (fun e => ?_) (by omega)
    unfold cutA at e
    split at e
    · have := hna e; omega
    · cases a with
      | none => have := hna rfl; omega
      | some x => simp at e
  · obtain ⟨bb, off, rfl, _⟩ := h.addr (by rw [bCells_length]; omega)
    have h1 := Sl.mid h (off := i) (n := j - i) (cap := cap - i) (by omega) (by omega) (by omega)
    have he : cutA (some ⟨bb, off, Option.none⟩) cap i = some ⟨bb, off + i, Option.none⟩ := by
      unfold cutA
      rw [if_neg (by omega)]
      simp [Addr.add_lit]
    rw [he]
    exact h1.bs rfl (by simp; omega)
set_option maxRecDepth 100000 in
theorem derSize_any (v : Value) (b : List UInt8) (w : World) (h : Bs w v b) :
    Calls Try.prog 54 #[v] w fun e w' => e = .returned (.tuple #[.int .i64 (sizeS b).1, .int .i64 (sizeS b).2.1, .int .i64 (sizeS b).2.2]) ∧ w = w' := by
  obtain ⟨a, cap, rfl, hcap, hcm⟩ := h.form
  have hmx := hcm
  unfold maxLen at hcm
  by_cases h2 : b.length < 2
  · have HS : Hid (sizeS b = (0, 0, 1)) := hqZ (by unfold sizeS; rw [if_pos h2])
    have h2' : (b.length : Int) < 2 := by omega
    clear h2 h
    go_enter Try.func54, Try.ntmps54
    go_wp2_with fail
    go_ret3
    rw [HS.out]
    exact ⟨rfl, rfl⟩
  · obtain ⟨bb, off, rfl, hc⟩ := h.addr (by rw [bCells_length]; omega)
    have hb1 : b[1]'(by omega) = b.getD 1 0 := by rw [List.getD_eq_getElem?_getD, List.getElem?_eq_getElem (by omega)]; rfl
    have c1 : w.cell? ⟨bb, off + 1, none⟩ = some (.int .u8 (b.getD 1 0).toNat) := by rw [← hb1]; exact hc 1 _ (bCells_get b 1 (by omega))
    have hlt := (b.getD 1 0).toNat_lt
    have HB := hqZ h
    have hcutr := fun j hj hj2 => run_cut2 (some ⟨bb, off, none⟩) b.length cap 2 j hj hj2
    have HCUT := hqZ hcutr
    have h2' : ¬ (b.length : Int) < 2 := by omega
    clear hc hb1 h hcutr
    have hS : sizeS b = if (b.getD 1 0).toNat < 128 then (if b.length - 2 < (b.getD 1 0).toNat then (0, 0, 1) else ((b.getD 1 0).toNat, 2, 0))
  else if (b.getD 1 0).toNat = 128 ∨ 130 < (b.getD 1 0).toNat then (0, 0, 3)
  else if b.length < (b.getD 1 0).toNat - 126 then (0, 0, 1)
  else if getN ((b.drop 2).take ((b.getD 1 0).toNat - 128)) < 128 ∨ ((b.getD 1 0).toNat = 130 ∧ getN ((b.drop 2).take ((b.getD 1 0).toNat - 128)) < 256) then (0, 0, 3)
  else if b.length - ((b.getD 1 0).toNat - 126) < getN ((b.drop 2).take ((b.getD 1 0).toNat - 128)) then (0, 0, 1)
  else (getN ((b.drop 2).take ((b.getD 1 0).toNat - 128)), (b.getD 1 0).toNat - 126, 0) := by unfold sizeS; rw [if_neg h2]
    generalize (b.getD 1 0).toNat = c at c1 hlt hS
    rcases (by omega : c < 128 ∨ c = 128 ∨ c = 129 ∨ c = 130 ∨ 130 < c) with k | rfl | rfl | rfl | k
    · rw [if_pos k] at hS
      have k' : ¬ (128 : Int) ≤ (c : Int) := by omega
      by_cases hl : b.length - 2 < c
      · rw [if_pos hl] at hS
        have HS := hqZ hS
        have hl' : (b.length : Int) - 2 < (c : Int) := by omega
        clear hS
        go_enter Try.func54, Try.ntmps54
        go_wp2_with fail
        go_ret3
        rw [HS.out]
        exact ⟨rfl, rfl⟩
      · rw [if_neg hl] at hS
        have HS := hqZ hS
        have hl' : ¬ (b.length : Int) - 2 < (c : Int) := by omega
        clear hS
        go_enter Try.func54, Try.ntmps54
        go_wp2_with fail
        go_ret3
        rw [HS.out]
        exact ⟨rfl, rfl⟩
    · rw [if_neg (by omega), if_pos (.inl rfl)] at hS
      have HS := hqZ hS
      clear hS
      go_enter Try.func54, Try.ntmps54
      go_wp2_with fail
      go_ret3
      rw [HS.out]
      exact ⟨rfl, rfl⟩
    · rw [if_neg (by omega), if_neg (by omega)] at hS
      by_cases hl : b.length < 3
      · rw [if_pos (by omega)] at hS
        have HS := hqZ hS
        have hl' : (b.length : Int) < 3 := by omega
        clear hS
        go_enter Try.func54, Try.ntmps54
        go_wp2_with fail
        go_ret3
        rw [HS.out]
        exact ⟨rfl, rfl⟩
      · rw [if_neg (by omega)] at hS
        have hl' : ¬ (b.length : Int) < 3 := by omega
        have hrun : ∀ W, (Instr.sliceAt 22 (.slice (some ⟨bb, off, none⟩) b.length cap) (some (.int .i64 2)) (some (.int .i64 3)) none).run Try.prog W = .ok (.slice (cutA (some ⟨bb, off, none⟩) cap 2) 1 (cap - 2)) W := fun W => HCUT.out 3 (by omega) (by omega) W
        have hbs : Bs w (.slice (cutA (some ⟨bb, off, none⟩) cap 2) 1 (cap - 2)) ((b.drop 2).take 1) := HB.out.cut 2 3 (by omega) (by omega)
        rw [show 129 - 128 = 1 from rfl, show 129 - 126 = 3 from rfl] at hS
        have hll : ((b.drop 2).take 1).length = 1 := by rw [List.length_take, List.length_drop]; omega
        have hgl := getN_lt ((b.drop 2).take 1)
        rw [hll] at hgl
        have HG := hqZ (get_any _ _ w hbs)
        have hgb : getB ((b.drop 2).take 1) = (getN ((b.drop 2).take 1), true) := by unfold getB; rw [if_neg (by omega)]
        rw [hgb] at HG
        generalize getN ((b.drop 2).take 1) = n at HG hS hgl
        have hn : n < 256 := by omega
        clear hll hgl hgb hbs
        rcases (by omega : n < 128 ∨ (128 ≤ n ∧ n < 256) ∨ 256 ≤ n) with hq | ⟨hq, hq2⟩ | hq
        · rw [if_pos (.inl hq)] at hS
          have HS := hqZ hS
          have hq' : (n : Int) < 128 := by omega
          clear hS
          go_enter Try.func54, Try.ntmps54
          go_wp2_with fail
          refine HG.out.mono ?_
          rintro e w' ⟨rfl, rfl⟩
          go_wp2_with fail
          go_ret3
          rw [HS.out]
          exact ⟨rfl, rfl⟩
        · have hq' : ¬ (n : Int) < 128 := by omega
          have hq2' : (n : Int) < 256 := by omega
          rw [if_neg (by omega)] at hS
          by_cases hr : b.length - 3 < n
          · rw [if_pos hr] at hS
            have HS := hqZ hS
            have hr' : (b.length : Int) - 3 < (n : Int) := by omega
            clear hS
            go_enter Try.func54, Try.ntmps54
            go_wp2_with fail
            refine HG.out.mono ?_
            rintro e w' ⟨rfl, rfl⟩
            go_wp2_with fail
            go_ret3
            rw [HS.out]
            exact ⟨rfl, rfl⟩
          · rw [if_neg hr] at hS
            have HS := hqZ hS
            have hr' : ¬ (b.length : Int) - 3 < (n : Int) := by omega
            clear hS
            go_enter Try.func54, Try.ntmps54
            go_wp2_with fail
            refine HG.out.mono ?_
            rintro e w' ⟨rfl, rfl⟩
            go_wp2_with fail
            go_ret3
            rw [HS.out]
            exact ⟨rfl, rfl⟩
        · omega
    · rw [if_neg (by omega), if_neg (by omega)] at hS
      by_cases hl : b.length < 4
      · rw [if_pos (by omega)] at hS
        have HS := hqZ hS
        have hl' : (b.length : Int) < 4 := by omega
        clear hS
        go_enter Try.func54, Try.ntmps54
        go_wp2_with fail
        go_ret3
        rw [HS.out]
        exact ⟨rfl, rfl⟩
      · rw [if_neg (by omega)] at hS
        have hl' : ¬ (b.length : Int) < 4 := by omega
        have hrun : ∀ W, (Instr.sliceAt 22 (.slice (some ⟨bb, off, none⟩) b.length cap) (some (.int .i64 2)) (some (.int .i64 4)) none).run Try.prog W = .ok (.slice (cutA (some ⟨bb, off, none⟩) cap 2) 2 (cap - 2)) W := fun W => HCUT.out 4 (by omega) (by omega) W
        have hbs : Bs w (.slice (cutA (some ⟨bb, off, none⟩) cap 2) 2 (cap - 2)) ((b.drop 2).take 2) := HB.out.cut 2 4 (by omega) (by omega)
        rw [show 130 - 128 = 2 from rfl, show 130 - 126 = 4 from rfl] at hS
        have hll : ((b.drop 2).take 2).length = 2 := by rw [List.length_take, List.length_drop]; omega
        have hgl := getN_lt ((b.drop 2).take 2)
        rw [hll] at hgl
        have HG := hqZ (get_any _ _ w hbs)
        have hgb : getB ((b.drop 2).take 2) = (getN ((b.drop 2).take 2), true) := by unfold getB; rw [if_neg (by omega)]
        rw [hgb] at HG
        generalize getN ((b.drop 2).take 2) = n at HG hS hgl
        have hn : n < 65536 := by omega
        clear hll hgl hgb hbs
        rcases (by omega : n < 128 ∨ (128 ≤ n ∧ n < 256) ∨ 256 ≤ n) with hq | ⟨hq, hq2⟩ | hq
        · rw [if_pos (.inl hq)] at hS
          have HS := hqZ hS
          have hq' : (n : Int) < 128 := by omega
          clear hS
          go_enter Try.func54, Try.ntmps54
          go_wp2_with fail
          refine HG.out.mono ?_
          rintro e w' ⟨rfl, rfl⟩
          go_wp2_with fail
          go_ret3
          rw [HS.out]
          exact ⟨rfl, rfl⟩
        · have hq' : ¬ (n : Int) < 128 := by omega
          have hq2' : (n : Int) < 256 := by omega
          rw [if_pos (.inr ⟨rfl, hq2⟩)] at hS
          have HS := hqZ hS
          clear hS
          go_enter Try.func54, Try.ntmps54
          go_wp2_with fail
          refine HG.out.mono ?_
          rintro e w' ⟨rfl, rfl⟩
          go_wp2_with fail
          go_ret3
          rw [HS.out]
          exact ⟨rfl, rfl⟩
        · have hq' : ¬ (n : Int) < 128 := by omega
          have hq2' : ¬ (n : Int) < 256 := by omega
          rw [if_neg (by omega)] at hS
          by_cases hr : b.length - 4 < n
          · rw [if_pos hr] at hS
            have HS := hqZ hS
            have hr' : (b.length : Int) - 4 < (n : Int) := by omega
            clear hS
            go_enter Try.func54, Try.ntmps54
            go_wp2_with fail
            refine HG.out.mono ?_
            rintro e w' ⟨rfl, rfl⟩
            go_wp2_with fail
            go_ret3
            rw [HS.out]
            exact ⟨rfl, rfl⟩
          · rw [if_neg hr] at hS
            have HS := hqZ hS
            have hr' : ¬ (b.length : Int) - 4 < (n : Int) := by omega
            clear hS
            go_enter Try.func54, Try.ntmps54
            go_wp2_with fail
            refine HG.out.mono ?_
            rintro e w' ⟨rfl, rfl⟩
            go_wp2_with fail
            go_ret3
            rw [HS.out]
            exact ⟨rfl, rfl⟩
    · rw [if_neg (by omega), if_pos (.inr k)] at hS
      have HS := hqZ hS
      have k' : (128 : Int) ≤ (c : Int) := by omega
      have k2 : (2 : Int) < (c : Int) - 128 := by omega
      have k3 : ¬ (c : Int) - 128 < 1 := by omega
      clear hS
      go_enter Try.func54, Try.ntmps54
      go_wp2_with fail
      go_ret3
      rw [HS.out]
      exact ⟨rfl, rfl⟩
end Go.Proofs.Ytpjkidcfidmfaaa
