/- Texts of this proof, one behind the other: RowBase, Base, ByteC, Slices, Flat, Res, MapT, MapV, Bytes, Base2. -/
import Derived.Test.YtiplepdmkbiehaaRows
import Derived.WalkKit
import Derived.ProofKit
import Derived.OpenShut
import Derived.ShutString
import Derived.ChangeOld
import Derived.Below
import Derived.JoinedCond
import Derived.Laws.CopyOwn
import Derived.Deep.Draws
import Derived.Deep.QuietTactic
import Derived.BigQuiet
import Derived.Lib.Hide
import Derived.Deep.RegionLawGrows
import Derived.Deep.RegionHeld3
import Derived.ChangeAlike
import Derived.RegionTactic
import Derived.WalkSmall
import Derived.Test.YtiplepdmkbiehaaProg
import Derived.Outline
import Derived.Great.BuildSlice
import Derived.Maps.RangeWalk
import Derived.DeepKeys4
import Derived.WideKeyEntry
import Derived.StringKeys
import Derived.Sort.MapsRangeIn
namespace Go.Proofs.Ytiplepdmkbiehaa
set_option linter.unusedSimpArgs false
set_option linter.unusedVariables false
open Go.ChangeShapes Go.WideShapes Go.ChangeAt Go.RowKit
theorem hI {p : Prop} (h : p) : Go.RowKit.Hid p := h
theorem rowOwn : ownKnob Try.prog.godebug = none := by kernel_rfl
theorem rowLaidOut : laidOutB Try.prog = true := by kernel_rfl
theorem trodAll_below {H : Type} {enc : TypeId × Value → H} {P : Program} (hl : laidOutB P = true) {W W' : World} (hb : Below W.heap.size W W') : ∀ {ts : List TypeId} {vs : List Value} {ds : List (DataW H)} {ps : List MemPlace},
    (ts.all fun t => P.readableRec t && decide (t < P.types.size)) = true → DataW.TrodAll enc P W 0 (fun _ => true) true ts vs ds ps →
    DataW.TrodAll enc P W' 0 (fun b => decide (b < W.heap.size)) true ts vs ds ps
  | [], [], [], ps, _, h => h
  | t :: ts, v :: vs, d :: ds, ps, hr, h => by
    obtain ⟨p, q, h1, h2, rfl⟩ := h
    simp only [List.all_cons, Bool.and_eq_true, decide_eq_true_eq] at hr
    exact ⟨p, q, Below.trod hl hr.1.1 hr.1.2 h1 hb (by obtain ⟨m, hm⟩ := h1; exact DataW.trod_lt m _ _ _ hm), trodAll_below hl hb hr.2 h2, rfl⟩
  | [], _ :: _, _, _, _, h => h.elim
  | [], [], _ :: _, _, _, h => h.elim
  | _ :: _, [], _, _, _, h => h.elim
  | _ :: _, _ :: _, [], _, _, h => h.elim
end Go.Proofs.Ytiplepdmkbiehaa
namespace Go.Proofs.Ytiplepdmkbiehaa
set_option linter.unusedSimpArgs false
set_option linter.unusedVariables false
open Go.RowKit
/-- Only blocks of S may have changed; the streams are as they were. -/
structure Keeps (S : Nat → Prop) (w w' : World) : Prop where
  os : w'.os = w.os
  tape : w'.tape = w.tape
  output : w'.output = w.output
  size : w.heap.size ≤ w'.heap.size
  block : ∀ k, ¬ S k → w'.heap[k]? = w.heap[k]?
theorem Keeps.refl (S : Nat → Prop) (w : World) : Keeps S w w := ⟨rfl, rfl, rfl, Nat.le_refl _, fun _ _ => rfl⟩
theorem Keeps.trans {S : Nat → Prop} {a b c : World} (h : Keeps S a b) (k : Keeps S b c) : Keeps S a c :=
  ⟨k.os.trans h.os, k.tape.trans h.tape, k.output.trans h.output, Nat.le_trans h.size k.size, fun i hi => (k.block i hi).trans (h.block i hi)⟩
theorem Keeps.mono {S T : Nat → Prop} {w w' : World} (h : Keeps S w w') (hs : ∀ k, S k → T k) : Keeps T w w' :=
  ⟨h.os, h.tape, h.output, h.size, fun k hk => h.block k (fun x => hk (hs k x))⟩
theorem Keeps.of_below {B : Nat} {w w' : World} (h : Below B w w') : Keeps (fun k => B ≤ k) w w' :=
  ⟨h.os, h.tape, h.output, h.size, fun k hk => h.block k (by omega)⟩
theorem Keeps.below {B : Nat} {S : Nat → Prop} {w w' : World} (h : Keeps S w w') (hs : ∀ k, S k → B ≤ k) : Below B w w' :=
  ⟨h.os, h.tape, h.output, h.size, fun k hk => h.block k (fun x => by have := hs k x; omega)⟩
theorem Keeps.drew {S : Nat → Prop} {a w : World} (h : Keeps S a w) : Keeps S a w.drew := ⟨h.os, h.tape, h.output, h.size, h.block⟩
theorem Keeps.drewN {S : Nat → Prop} {a w : World} (h : Keeps S a w) (n : Nat) : Keeps S a (w.drewN n) := ⟨h.os, h.tape, h.output, h.size, h.block⟩
theorem Keeps.alloc {S : Nat → Prop} {a w : World} (h : Keeps S a w) (o : Obj) (hs : S w.heap.size) : Keeps S a (w.alloc o) :=
  h.trans ⟨rfl, rfl, rfl, by simp, fun k hk => by
    show (w.heap.push o)[k]? = _
    rw [Array.getElem?_push, if_neg (by rintro rfl; exact hk hs)]⟩
theorem Keeps.setCell {S : Nat → Prop} {a w : World} (h : Keeps S a w) {p : Addr} (hs : S p.block) (u : Value) : Keeps S a (w.setCell p u) :=
  h.trans ⟨rfl, rfl, rfl, by simp [World.setCell], fun k hk => Below.heap_setCell _ _ _ _ (by rintro rfl; exact hk hs)⟩
theorem Keeps.one (w : World) (p o : Nat) (u : Value) : Keeps (fun k => k = p) w (w.setCell ⟨p, o, none⟩ u) := Keeps.setCell (S := fun k => k = p) (p := ⟨p, o, none⟩) (Keeps.refl _ _) rfl u
theorem Keeps.setRow {S : Nat → Prop} {a w : World} (h : Keeps S a w) {g : Nat} (hs : S g) (cs : Array Value) : Keeps S a (w.setRow g cs) :=
  h.trans ⟨rfl, rfl, rfl, by simp, fun k hk => setRow_other w g k cs (by rintro rfl; exact hk hs)⟩
theorem Keeps.oneRow (w : World) (g : Nat) (cs : Array Value) : Keeps (fun k => k = g) w (w.setRow g cs) := Keeps.setRow (S := fun k => k = g) (g := g) (Keeps.refl _ _) rfl cs
theorem Keeps.grown {S : Nat → Prop} {a w w' : World} {row : Option Nat} (h : Keeps S a w) (hg : w.grownBy w' row) (hn : ∀ k, w.heap.size ≤ k → S k) (hr : ∀ k, row = some k → S k) : Keeps S a w' :=
  h.trans ⟨hg.os, hg.tape, hg.output, hg.size, fun k hk => by
    rcases Nat.lt_or_ge k w.heap.size with hl | hl
    · exact hg.block k hl (fun e => hk (hr k e.symm))
    · exact absurd (hn k hl) hk⟩
theorem Keeps.cell {S : Nat → Prop} {w w' : World} (h : Keeps S w w') {p : Addr} (hp : ¬ S p.block) : w'.cell? p = w.cell? p := World.cell?_of_block (w := w) (h.block p.block hp)
theorem Keeps.frozen {S : Nat → Prop} {w w' : World} (h : Keeps S w w') {p : Addr} (hp : ¬ S p.block) : w'.frozen? p = w.frozen? p := World.frozen?_of_block (w := w) (h.block p.block hp)
/-- Below, seen from the heap's size: every cell that was there is there. -/
theorem below_cell {w w' : World} (h : Below w.heap.size w w') {p : Addr} {v : Value} (hp : w.cell? p = some v) : w'.cell? p = some v :=
  (h.cell (World.block_lt_of_cell? w p hp)).trans hp
theorem block_lt {w : World} {b : Nat} {o : Obj} (h : w.heap[b]? = some o) : b < w.heap.size := by
  rcases Nat.lt_or_ge b w.heap.size with h' | h'
  · exact h'
  · simp [Array.getElem?_eq_none h'] at h
/-- Block b holds just these cells, not frozen. -/
def Blk (w : World) (b : Nat) (cs : List Value) (T : TypeId) : Prop := w.heap[b]? = some (.cells cs.toArray T (0, 0))
theorem Blk.lt {w : World} {b : Nat} {cs : List Value} {T : TypeId} (h : Blk w b cs T) : b < w.heap.size := block_lt h
theorem Blk.cell {w : World} {b : Nat} {cs : List Value} {T : TypeId} (h : Blk w b cs T) (o : Nat) : w.cell? ⟨b, o, none⟩ = cs[o]? := by simp [World.cell?, show w.heap[b]? = _ from h]
theorem Blk.frozen {w : World} {b : Nat} {cs : List Value} {T : TypeId} (h : Blk w b cs T) (o : Nat) : w.frozen? ⟨b, o, none⟩ = false := by simp [World.frozen?, show w.heap[b]? = _ from h]
theorem Blk.keep {w w' : World} {b : Nat} {cs : List Value} {T : TypeId} (h : Blk w b cs T) {S : Nat → Prop} (hk : Keeps S w w') (hb : ¬ S b) : Blk w' b cs T := (hk.block b hb).trans h
theorem Blk.below {w w' : World} {b : Nat} {cs : List Value} {T : TypeId} (h : Blk w b cs T) {B : Nat} (hk : Below B w w') (hb : b < B) : Blk w' b cs T := (hk.block b hb).trans h
theorem Blk.drew {w : World} {b : Nat} {cs : List Value} {T : TypeId} (h : Blk w b cs T) : Blk w.drew b cs T := h
theorem Blk.alloc {w : World} {b : Nat} {cs : List Value} {T : TypeId} (h : Blk w b cs T) (o : Obj) : Blk (w.alloc o) b cs T := (Below.heap_alloc w o b h.lt).trans h
theorem Blk.new (w : World) (cs : List Value) (T : TypeId) : Blk (w.alloc (.cells cs.toArray T)) w.heap.size cs T := heap_alloc_new w _
theorem Blk.at_ {w : World} {b : Nat} {cs : Array Value} {T : TypeId} (h : w.heap.size = b) : Blk (w.alloc (.cells cs T)) b cs.toList T := by subst h; exact heap_alloc_new w _
theorem Blk.set {w : World} {b : Nat} {cs : List Value} {T : TypeId} (h : Blk w b cs T) (o : Nat) (v : Value) : Blk (w.setCell ⟨b, o, none⟩ v) b (cs.set o v) T := by
  unfold Blk
  rw [heap_setCell_same w b o cs.toArray T v h]
  simp
theorem Blk.set_other {w : World} {b : Nat} {cs : List Value} {T : TypeId} (h : Blk w b cs T) {p : Addr} (hp : b ≠ p.block) (v : Value) : Blk (w.setCell p v) b cs T :=
  (heap_setCell_other w p b v hp).trans h
/-- The cells cs stand from an address on (of no cells nothing is asked). -/
def At (w : World) (a : Option Addr) (cs : List Value) : Prop :=
  cs = [] ∨ ∃ b off, a = some ⟨b, off, none⟩ ∧ ∀ j u, cs[j]? = some u → w.cell? ⟨b, off + j, none⟩ = some u
/-- A slice value of n elements, sz cells each, that reads as these cells. -/
def Sl (w : World) (sz : Nat) (v : Value) (n : Nat) (cs : List Value) : Prop :=
  cs.length = n * sz ∧ (∀ u ∈ cs, u.oneCell' = true) ∧ ∃ a cap, v = .slice a n cap ∧ n ≤ cap ∧ cap ≤ maxLen ∧ (a = none → cap = 0) ∧ At w a cs
theorem At.mono {w w' : World} {a : Option Addr} {cs : List Value} (h : At w a cs) (hc : ∀ b o u, (∃ x, a = some x ∧ x.block = b) → w.cell? ⟨b, o, none⟩ = some u → w'.cell? ⟨b, o, none⟩ = some u) : At w' a cs := by
  rcases h with h | ⟨b, off, rfl, h⟩
  · exact .inl h
  · exact .inr ⟨b, off, rfl, fun j u hj => hc b _ u ⟨_, rfl, rfl⟩ (h j u hj)⟩
theorem Sl.mono {w w' : World} {sz : Nat} {v : Value} {n : Nat} {cs : List Value} (h : Sl w sz v n cs) (hc : ∀ b o u, v.ownBlock = some b → w.cell? ⟨b, o, none⟩ = some u → w'.cell? ⟨b, o, none⟩ = some u) : Sl w' sz v n cs := by
  obtain ⟨h1, h2, a, cap, rfl, h3, h4, h5, h6⟩ := h
  refine ⟨h1, h2, a, cap, rfl, h3, h4, h5, h6.mono fun b o u ⟨x, e1, e2⟩ => hc b o u ?_⟩
  subst e1
  simp [Value.ownBlock, e2]
theorem Sl.keep {w w' : World} {sz : Nat} {v : Value} {n : Nat} {cs : List Value} {S : Nat → Prop} (h : Sl w sz v n cs) (hk : Keeps S w w') (hb : ∀ b, v.ownBlock = some b → ¬ S b) : Sl w' sz v n cs :=
  h.mono fun b o _ e hc => (hk.cell (p := ⟨b, o, none⟩) (hb b e)).trans hc
theorem Sl.keep' {w w' : World} {sz : Nat} {v : Value} {n : Nat} {cs : List Value} {S : Nat → Prop} (h : Sl w sz v n cs) (hk : Keeps S w w') (hb : ∀ b, v.ownBlock = some b → b < w.heap.size → ¬ S b) : Sl w' sz v n cs :=
  h.mono fun b o _ e hc => (hk.cell (p := ⟨b, o, none⟩) (hb b e (World.block_lt_of_cell? w ⟨b, o, none⟩ hc))).trans hc
theorem Sl.below {w w' : World} {sz : Nat} {v : Value} {n : Nat} {cs : List Value} (h : Sl w sz v n cs) (hk : Below w.heap.size w w') : Sl w' sz v n cs :=
  h.mono fun _ _ _ _ hc => below_cell hk hc
theorem Sl.drew {w : World} {sz : Nat} {v : Value} {n : Nat} {cs : List Value} (h : Sl w sz v n cs) : Sl w.drew sz v n cs := h.mono fun _ _ _ _ hc => hc
theorem Sl.alloc {w : World} {sz : Nat} {v : Value} {n : Nat} {cs : List Value} (h : Sl w sz v n cs) (o : Obj) : Sl (w.alloc o) sz v n cs :=
  h.below ((Below.refl _ _).alloc (Nat.le_refl _) _)
theorem Sl.setCell {w : World} {sz : Nat} {v : Value} {n : Nat} {cs : List Value} (h : Sl w sz v n cs) {p : Addr} (hp : v.ownBlock ≠ some p.block) (u : Value) : Sl (w.setCell p u) sz v n cs :=
  h.keep (S := fun k => k = p.block) (Keeps.setCell (Keeps.refl (fun k => k = p.block) w) (p := p) rfl u) (fun b hb e => hp (by rw [hb, e]))
theorem Sl.nil (w : World) (sz : Nat) (a : Option Addr) : Sl w sz (.slice a 0 0) 0 [] := ⟨by simp, by simp, a, 0, rfl, Nat.le_refl _, Nat.zero_le _, fun _ => rfl, .inl rfl⟩
theorem Sl.form {w : World} {sz : Nat} {v : Value} {n : Nat} {cs : List Value} (h : Sl w sz v n cs) : ∃ a cap, v = .slice a n cap ∧ n ≤ cap ∧ cap ≤ maxLen :=
  let ⟨_, _, a, cap, e, h1, h2, _⟩ := h; ⟨a, cap, e, h1, h2⟩
/-- Where there is a cell, the address is there. -/
theorem Sl.addr {w : World} {sz : Nat} {a : Option Addr} {n cap : Nat} {cs : List Value} (h : Sl w sz (.slice a n cap) n cs) (hpos : 0 < cs.length) :
    ∃ b off, a = some ⟨b, off, none⟩ ∧ ∀ j u, cs[j]? = some u → w.cell? ⟨b, off + j, none⟩ = some u := by
  obtain ⟨_, _, a', cap', e, _, _, _, h0 | h⟩ := h
  · subst h0; simp at hpos
  · injection e with e1 e2 e3
    subst e1
    exact h
/-- A slice that the call owns: it may be appended to, and nothing else turns by it. -/
def Own (w : World) (B : Nat) (e : TypeId) (sz : Nat) (v : Value) (n : Nat) (cs : List Value) : Prop :=
  cs.length = n * sz ∧ (∀ u ∈ cs, u.oneCell' = true) ∧
  ((∃ a, v = .slice a 0 0 ∧ n = 0) ∨
   ∃ g cap cur, v = .slice (some ⟨g, 0, none⟩) n cap ∧ B ≤ g ∧ w.heap[g]? = some (.cells cur e (0, 0)) ∧ n ≤ cap ∧ cap ≤ maxLen ∧ cur.size = cap * sz ∧ cur.toList.take (n * sz) = cs)
theorem Own.of_row {w : World} {B : Nat} {e : TypeId} {sz : Nat} {v : Value} {n : Nat} {cs : List Value} (h : w.ownsRow B e sz v n cs) (h1 : ∀ u ∈ cs, u.oneCell' = true) : Own w B e sz v n cs := by
  obtain ⟨h0, h2⟩ := h
  refine ⟨h0, h1, ?_⟩
  rcases h2 with ⟨h2, h3⟩ | h2
  · exact .inl ⟨none, h2, h3⟩
  · exact .inr h2
theorem Own.sl {w : World} {B : Nat} {e : TypeId} {sz : Nat} {v : Value} {n : Nat} {cs : List Value} (h : Own w B e sz v n cs) : Sl w sz v n cs := by
  obtain ⟨h0, h1, ⟨a, rfl, rfl⟩ | ⟨g, cap, cur, rfl, h2, h3, h4, h5, h6, h7⟩⟩ := h
  · exact ⟨h0, h1, a, 0, rfl, Nat.le_refl _, Nat.zero_le _, fun _ => rfl, .inl (List.eq_nil_of_length_eq_zero (by simpa using h0))⟩
  · refine ⟨h0, h1, _, cap, rfl, h4, h5, fun h => by simp at h, .inr ⟨g, 0, rfl, fun j u hj => ?_⟩⟩
    have hjl : j < n * sz := by have := (List.getElem?_eq_some_iff.1 hj).1; omega
    rw [← h7, List.getElem?_take, if_pos hjl] at hj
    rw [Nat.zero_add, cell_of_row w g j cur e (0, 0) h3, ← Array.getElem?_toList]
    exact hj
theorem Own.base {w : World} {B B' : Nat} {e : TypeId} {sz : Nat} {v : Value} {n : Nat} {cs : List Value} (h : Own w B e sz v n cs) (hB : B' ≤ B) : Own w B' e sz v n cs := by
  obtain ⟨h0, h1, h2 | ⟨g, cap, cur, hv, h2, hr⟩⟩ := h
  · exact ⟨h0, h1, .inl h2⟩
  · exact ⟨h0, h1, .inr ⟨g, cap, cur, hv, by omega, hr⟩⟩
theorem Own.keep {w w' : World} {B : Nat} {e : TypeId} {sz : Nat} {v : Value} {n : Nat} {cs : List Value} {S : Nat → Prop} (h : Own w B e sz v n cs) (hk : Keeps S w w') (hb : ∀ b, v.ownBlock = some b → ¬ S b) : Own w' B e sz v n cs := by
  obtain ⟨h0, h1, h2 | ⟨g, cap, cur, rfl, h2, h3, hr⟩⟩ := h
  · exact ⟨h0, h1, .inl h2⟩
  · exact ⟨h0, h1, .inr ⟨g, cap, cur, rfl, h2, (hk.block g (hb g rfl)).trans h3, hr⟩⟩
theorem Own.below {w w' : World} {B : Nat} {e : TypeId} {sz : Nat} {v : Value} {n : Nat} {cs : List Value} (h : Own w B e sz v n cs) (hk : Below w.heap.size w w') : Own w' B e sz v n cs := by
  obtain ⟨h0, h1, h2 | ⟨g, cap, cur, rfl, h2, h3, hr⟩⟩ := h
  · exact ⟨h0, h1, .inl h2⟩
  · exact ⟨h0, h1, .inr ⟨g, cap, cur, rfl, h2, (hk.block g (block_lt h3)).trans h3, hr⟩⟩
theorem Own.alloc {w : World} {B : Nat} {e : TypeId} {sz : Nat} {v : Value} {n : Nat} {cs : List Value} (h : Own w B e sz v n cs) (o : Obj) : Own (w.alloc o) B e sz v n cs :=
  h.below ((Below.refl _ _).alloc (Nat.le_refl _) _)
theorem Own.drew {w : World} {B : Nat} {e : TypeId} {sz : Nat} {v : Value} {n : Nat} {cs : List Value} (h : Own w B e sz v n cs) : Own w.drew B e sz v n cs :=
  h.below ((Below.refl _ _).drew)
theorem Own.drewN {w : World} {B : Nat} {e : TypeId} {sz : Nat} {v : Value} {n : Nat} {cs : List Value} (h : Own w B e sz v n cs) (q : Nat) : Own (w.drewN q) B e sz v n cs :=
  h.below (below_drewN (Below.refl _ _) q)
theorem Sl.drewN {w : World} {sz : Nat} {v : Value} {n : Nat} {cs : List Value} (h : Sl w sz v n cs) (q : Nat) : Sl (w.drewN q) sz v n cs := h.below (below_drewN (Below.refl _ _) q)
theorem Blk.drewN {w : World} {b : Nat} {cs : List Value} {T : TypeId} (h : Blk w b cs T) (q : Nat) : Blk (w.drewN q) b cs T := h
theorem Own.nil (w : World) (B : Nat) (e : TypeId) (sz : Nat) (a : Option Addr) : Own w B e sz (.slice a 0 0) 0 [] := ⟨by simp, by simp, .inl ⟨a, rfl, rfl⟩⟩
/-- A literal, all of whose cells are laid. -/
theorem Own.lit (w : World) (cs : List Value) (e : TypeId) (sz n : Nat) (hs : cs.length = n * sz) (h1 : ∀ u ∈ cs, u.oneCell' = true) (hm : n ≤ maxLen) :
    Own (w.alloc (.cells cs.toArray e)) w.heap.size e sz (.slice (some ⟨w.heap.size, 0, none⟩) n n) n cs :=
  ⟨hs, h1, .inr ⟨w.heap.size, n, cs.toArray, rfl, Nat.le_refl _, heap_alloc_new w _, Nat.le_refl _, hm, by simpa using hs, by simp [← hs]⟩⟩
theorem Own.at_ {w : World} {cs : Array Value} {e : TypeId} {sz n b B : Nat} (hb : w.heap.size = b) (hB : B ≤ b) (hl : cs.toList.length = n * sz) (h1 : ∀ u ∈ cs.toList, u.oneCell' = true) (hm : n ≤ maxLen) :
    Own (w.alloc (.cells cs e)) B e sz (.slice (some ⟨b, 0, none⟩) n n) n cs.toList := by
  subst hb
  exact (Own.lit w cs.toList e sz n hl h1 hm).base hB
/-- The table's row of a slice's elements. -/
def Elem (P : Program) (t e : TypeId) (size bytes : Nat) (z : Value) : Prop :=
  P.underlying t = some (.slice e) ∧ ∃ i, P.info? e = some i ∧ i.zero = some z ∧ i.size = size ∧ i.bytes = bytes ∧ z.cells.size = size ∧ 0 < size
theorem Elem.mk {P : Program} {t e : TypeId} {z : Value} {size bytes : Nat} (h : P.underlying t = some (.slice e)) (h2 : (P.info? e).map (fun i => (i.zero, i.size, i.bytes)) = some (some z, size, bytes)) (h3 : z.cells.size = size) (h4 : 0 < size) : Elem P t e size bytes z := by
  obtain ⟨i, hi, hz0, hz1, hz2⟩ := info_parts h2
  exact ⟨h, i, hi, hz0, hz1, hz2, h3, h4⟩
theorem At.one {w : World} {b : Nat} {cs : Array Value} {T : TypeId} {fz : Nat × Nat} (h : w.heap[b]? = some (.cells cs T fz)) : At w (some ⟨b, 0, none⟩) cs.toList := by
  refine .inr ⟨b, 0, rfl, fun j u hj => ?_⟩
  rw [Nat.zero_add, cell_of_row w b j cs T fz h, ← Array.getElem?_toList]
  exact hj
/-- a literal of n elements that has just been laid -/
theorem Sl.lit {w : World} {cs : Array Value} {T : TypeId} {sz n b : Nat} (hb : w.heap.size = b) (hl : cs.toList.length = n * sz) (h1 : ∀ u ∈ cs.toList, u.oneCell' = true) (hn : n ≤ maxLen) :
    Sl (w.alloc (.cells cs T)) sz (.slice (some ⟨b, 0, none⟩) n n) n cs.toList := by
  subst hb
  exact ⟨hl, h1, _, n, rfl, Nat.le_refl _, hn, fun h => by simp at h, At.one (heap_alloc_new w _)⟩
theorem not_mem_take_succ {α : Type} (x : α) (l : List α) (k : Nat) (h : k < l.length) (h1 : x ∉ l.take k) (h2 : l[k] ≠ x) : x ∉ l.take (k + 1) := by
  rw [List.take_succ_eq_append_getElem h, List.mem_append]
  rintro (h3 | h3)
  · exact h1 h3
  · exact h2 (List.mem_singleton.1 h3).symm
/-- append, target the call's own, source any. -/
theorem run_app {P : Program} {w : World} {t ty e : TypeId} {size bytes : Nat} {z : Value} (hE : Elem P t e size bytes z) {B : Nat}
    {v : Value} {n : Nat} {cs : List Value} (hown : Own w B e size v n cs) {x : Value} {m : Nat} {ds : List Value} (hsl : Sl w size x m ds)
    (h63 : n + m ≤ maxLen) (hbytes : (n + m) * bytes ≤ 140737488355328) (hbase : B ≤ w.heap.size) :
    ∃ v' w', (Builtin.append_ #[t, t] ty #[v, x]).run P w = .ok v' w' ∧ Own w' B e size v' (n + m) (cs ++ ds) ∧ Keeps (fun k => v.ownBlock = some k ∧ B ≤ k ∨ w.heap.size ≤ k) w w' ∧ (∀ b, v'.ownBlock = some b → v.ownBlock = some b ∨ w.heap.size ≤ b) := by
  obtain ⟨ht, i, hi, hz, hsize, hby, hzs, hsz⟩ := hE
  obtain ⟨hdl, hd1, a, c, rfl, hmc, hcm, hanone, hat⟩ := hsl
  obtain ⟨hcl, hc1, hform⟩ := hown
  have hall : ∀ u ∈ cs ++ ds, u.oneCell' = true := by
    intro u hu
    rcases List.mem_append.1 hu with h | h
    · exact hc1 u h
    · exact hd1 u h
  have hlen : (cs ++ ds).length = (n + m) * size := by rw [List.length_append, hcl, hdl, Nat.add_mul]
  by_cases hm0 : m = 0
  · -- nothing is appended
    subst hm0
    obtain rfl : ds = [] := List.eq_nil_of_length_eq_zero (by simpa using hdl)
    have hfc : (Builtin.firstCells size 0 (.slice a 0 c)).run P w = .ok #[] w := by
      cases a <;> simp [Builtin.firstCells, loadCells, loadCellsFrom]
    refine ⟨v, w, ?_, ⟨by simpa using hcl, by simpa using hc1, by simpa using hform⟩, Keeps.refl _ _, fun b h => .inl h⟩
    rcases hform with ⟨a0, rfl, rfl⟩ | ⟨g, cap, cur, rfl, _, _, hnc, _⟩
    · cases a0 <;> simp [Builtin.append_, run_underlying ht, sizeOf, typeInfo, hi, Builtin.lenOf, hsize, hfc, storeCells]
    · simp [Builtin.append_, run_underlying ht, sizeOf, typeInfo, hi, Builtin.lenOf, hsize, hfc, hnc, storeCells]
  · have hdpos : 0 < ds.length := by rw [hdl]; exact Nat.mul_pos (by omega) hsz
    obtain ⟨b, off, rfl, hcell⟩ : ∃ b off, a = some ⟨b, off, none⟩ ∧ ∀ j u, ds[j]? = some u → w.cell? ⟨b, off + j, none⟩ = some u := by
      rcases hat with h | h
      · subst h; simp at hdpos
      · exact h
    have hnews : ∀ j u, ds[j]? = some u → w.cell? ((⟨b, off, none⟩ : Addr).add j) = some u := fun j u hj => by rw [Addr.add_lit]; exact hcell j u hj
    have fresh : ∀ (v' : Value) (w' : World), w'.ownsRow w.heap.size e size v' (n + m) (cs ++ ds) → w.grownBy w' none →
        Own w' B e size v' (n + m) (cs ++ ds) ∧ Keeps (fun k => v.ownBlock = some k ∧ B ≤ k ∨ w.heap.size ≤ k) w w' ∧ (∀ b, v'.ownBlock = some b → v.ownBlock = some b ∨ w.heap.size ≤ b) := by
      intro v' w' h1 h2
      refine ⟨(Own.of_row h1 hall).base hbase, (Keeps.refl _ _).grown h2 (fun k hk => Or.inr hk) (by simp), fun b hb => .inr (h1.lt b hb).1⟩
    rcases hform with ⟨a0, rfl, rfl⟩ | ⟨g, cap, cur, rfl, hbg, hg, hnc, hcm', hcs, htake⟩
    · obtain rfl : cs = [] := List.eq_nil_of_length_eq_zero (by simpa using hcl)
      cases a0 with
      | none =>
        obtain ⟨v', w', hr, h1, h2, _⟩ := run_append_own (P := P) w w.heap.size t ty e i z size bytes ht hi hz hsize hby hzs hsz (.slice none 0 0) 0 [] (World.ownsRow_nil w _ e size) ⟨b, off, none⟩ m c ds hdl hnews hd1 h63 hbytes (Nat.le_refl _)
        exact ⟨v', w', hr, fresh v' w' h1 h2⟩
      | some b0 =>
        obtain ⟨v', w', hr, h1, h2⟩ := run_append_arg_grows (P := P) w t ty e i z size bytes ht hi hz hsize hby hzs hsz b0 0 0 [] (by simp) (by simp) ⟨b, off, none⟩ m c ds hdl hnews (by omega) h63 hbytes
        exact ⟨v', w', hr, fresh v' w' h1 h2⟩
    · by_cases hroom : n + m ≤ cap
      · obtain ⟨w', hr, h1, h2⟩ := run_append_fits (P := P) w B t ty e i size ht hi hsize g n cap cs ⟨hcl, .inr ⟨g, cap, cur, rfl, hbg, hg, hnc, hcm', hcs, htake⟩⟩ ⟨b, off, none⟩ m c ds hdl hnews hd1 hroom
        exact ⟨_, w', hr, Own.of_row h1 hall, (Keeps.refl _ _).grown h2 (fun k hk => Or.inr hk) (fun k hk => by simp only [Option.some.injEq] at hk; subst hk; exact .inl ⟨rfl, hbg⟩), fun b hb => .inl hb⟩
      · have holds : ∀ j u, cs[j]? = some u → w.cell? ((⟨g, 0, none⟩ : Addr).add j) = some u := by
          intro j u hj
          have hjl : j < n * size := by have := (List.getElem?_eq_some_iff.1 hj).1; omega
          rw [← htake, List.getElem?_take, if_pos hjl] at hj
          rw [Addr.add_lit, Nat.zero_add, cell_of_row w g j cur e (0, 0) hg, ← Array.getElem?_toList]
          exact hj
        obtain ⟨v', w', hr, h1, h2⟩ := run_append_arg_grows (P := P) w t ty e i z size bytes ht hi hz hsize hby hzs hsz ⟨g, 0, none⟩ n cap cs hcl holds ⟨b, off, none⟩ m c ds hdl hnews (by omega) h63 hbytes
        exact ⟨v', w', hr, fresh v' w' h1 h2⟩
/-- An operation that runs: it has no guard, or its guard lets it. -/
theorem wpList_want {P : Program} {ops : Array Oper} {rest : List Oper} {o : Oper} {a : Act} {w : World} {Q : Exit → Act → World → Prop} (hw : Region.wanted o (yielded ops a.tmps) = true)
    (h : ∀ K : Act → World → Prop, (∀ a w, wpList P ops Q rest a w → K a w) → o.wp P a w K Q) : wpList P ops Q (o :: rest) a w :=
  wpList_step fun K hK => by rw [if_pos hw]; exact h K hK
theorem wpList_app {P : Program} {w : World} {ops : Array Oper} {rest : List Oper} {o : Oper} {a : Act} {Q : Exit → Act → World → Prop} (hgd : Region.wanted o (yielded ops a.tmps) = true) (s x : Operand) {t e : TypeId} {size bytes : Nat} {z : Value}
    (hE : Elem P t e size bytes z) (ho : o.op = .call { callee := .builtin .append, args := #[s, x], argTypes := #[t, t] }) (B : Nat)
    {n : Nat} {cs : List Value} (hown : Own w B e size (a.eval s) n cs) {m : Nat} {ds : List Value} (hsl : Sl w size (a.eval x) m ds)
    (h63 : n + m ≤ maxLen) (hbytes : (n + m) * bytes ≤ 140737488355328) (hbase : B ≤ w.heap.size)
    (h : ∀ v' w', Own w' B e size v' (n + m) (cs ++ ds) → Keeps (fun k => (a.eval s).ownBlock = some k ∧ B ≤ k ∨ w.heap.size ≤ k) w w' → (∀ b, v'.ownBlock = some b → (a.eval s).ownBlock = some b ∨ w.heap.size ≤ b) → wpList P ops Q rest (a.put o.dst v') w') : wpList P ops Q (o :: rest) a w := by
  obtain ⟨v', w', hr, h2, h3, h4⟩ := run_app (P := P) (ty := o.type) hE hown hsl h63 hbytes hbase
  refine wpList_want hgd fun K hK => ?_
  unfold Oper.wp execOp
  simp only [ho, resolve, invoke, builtin, Sem.run_bind, Sem.run_pure, Result.andThen_ok, List.map_toArray, List.map_cons, List.map_nil, hr]
  exact hK _ _ (h v' w' h2 h3 h4)
/-- copy into a block, source any. -/
theorem run_cp {P : Program} {w : World} {dT sT ty e : TypeId} {bytes : Nat} {z : Value} (hE : Elem P dT e 1 bytes z) {g o dLen dCap : Nat} {cur : List Value} {T : TypeId} (hb : Blk w g cur T)
    {v : Value} {n : Nat} {cs : List Value} (hsl : Sl w 1 v n cs) (hfit : o + min n dLen ≤ cur.length) :
    ∃ w', (Builtin.copy_ #[dT, sT] ty #[.slice (some ⟨g, o, none⟩) dLen dCap, v]).run P w = .ok (.int .i64 (min n dLen : Nat)) w' ∧
      Blk w' g (cur.take o ++ cs.take (min n dLen) ++ cur.drop (o + min n dLen)) T ∧ Keeps (fun k => k = g) w w' := by
  obtain ⟨ht, i, hi, hz, hsize, hby, hzs, hsz⟩ := hE
  obtain ⟨hcl, hc1, a, cap, rfl, hnc, hcm, hanone, hat⟩ := hsl
  have hl : (cs.take (min n dLen)).length = min n dLen := by rw [List.length_take]; omega
  cases a with
  | none =>
    have hc0 := hanone rfl
    obtain rfl : n = 0 := by omega
    subst hc0
    refine ⟨w, ?_, ?_, Keeps.refl _ _⟩
    · simp [Builtin.copy_, run_underlying ht, Builtin.lenOf, Builtin.firstCells, sizeOf, typeInfo, hi, storeCells, goInt]
    · simpa using hb
  | some ad =>
    have hsrc : ∀ j v, (cs.take (min n dLen))[j]? = some v → w.cell? (ad.add j) = some v := by
      intro j v hj
      rw [List.getElem?_take] at hj
      split at hj
      · rcases hat with h | ⟨b, off, e, h⟩
        · subst h; simp at hj
        · simp only [Option.some.injEq] at e
          subst e
          rw [Addr.add_lit]
          exact h j v hj
      · simp at hj
    have hr := run_copy_row (P := P) w dT sT ty e g o dLen dCap ad n cap cur.toArray T (cs.take (min n dLen)) ht (by simp [hi, hsize]) hb hl hsrc (by rw [hl]; simpa using hfit) (fun v hv => hc1 v (List.mem_of_mem_take hv))
    rw [hl] at hr
    refine ⟨_, hr, ?_, Keeps.oneRow _ _ _⟩
    unfold Blk
    rw [setRow_heap w g cur.toArray _ T _ hb]
theorem wpList_cp {P : Program} {w : World} {ops : Array Oper} {rest : List Oper} {o : Oper} {a : Act} {Q : Exit → Act → World → Prop} (hgd : Region.wanted o (yielded ops a.tmps) = true) (d s : Operand) {dT sT e : TypeId} {bytes : Nat} {z : Value}
    (hE : Elem P dT e 1 bytes z) (ho : o.op = .call { callee := .builtin .copy, args := #[d, s], argTypes := #[dT, sT] }) {g off dLen dCap : Nat} (hd : a.eval d = .slice (some ⟨g, off, none⟩) dLen dCap)
    {cur : List Value} {T : TypeId} (hb : Blk w g cur T) {u : Value} (hu : a.eval s = u) {n : Nat} {cs : List Value} (hsl : Sl w 1 u n cs) (hfit : off + min n dLen ≤ cur.length)
    (h : ∀ w', Blk w' g (cur.take off ++ cs.take (min n dLen) ++ cur.drop (off + min n dLen)) T → Keeps (fun k => k = g) w w' → wpList P ops Q rest (a.put o.dst (.int .i64 (min n dLen : Nat))) w') : wpList P ops Q (o :: rest) a w := by
  obtain ⟨w', hr, h2, h3⟩ := run_cp (P := P) (sT := sT) (ty := o.type) (dCap := dCap) hE hb hsl hfit
  refine wpList_want hgd fun K hK => ?_
  unfold Oper.wp execOp
  simp only [ho, resolve, invoke, builtin, Sem.run_bind, Sem.run_pure, Result.andThen_ok, List.map_toArray, List.map_cons, List.map_nil, hd, hu, hr]
  exact hK _ _ (h w' h2 h3)
def isAggD : TypeDesc → Bool
  | .struct _ => true
  | .array _ _ => true
  | _ => false
/-- A struct's or array's type of m cells. -/
def AggTy (P : Program) (ty : TypeId) (m : Nat) : Prop := ∃ d i, P.underlying ty = some d ∧ isAggD d = true ∧ P.info? ty = some i ∧ i.size = m
theorem AggTy.mk {P : Program} {ty : TypeId} {m : Nat} {d : TypeDesc} (h1 : P.underlying ty = some d) (h2 : isAggD d = true) (h3 : (P.info? ty).map (·.size) = some m) : AggTy P ty m := by
  cases hq : P.info? ty with
  | none => simp [hq] at h3
  | some i => exact ⟨d, i, h1, h2, hq, by simpa [hq] using h3⟩
/-- The cells cs stand from ⟨b, o⟩ on. -/
def CellsAt (w : World) (b o : Nat) (cs : List Value) : Prop := ∀ j u, cs[j]? = some u → w.cell? ⟨b, o + j, none⟩ = some u
theorem Blk.cellsAll {w : World} {b : Nat} {cs : List Value} {T : TypeId} (h : Blk w b cs T) : CellsAt w b 0 cs := by
  intro j u hj
  rw [h.cell, Nat.zero_add]
  exact hj
theorem run_ldAgg {P : Program} {w : World} {ty : TypeId} {m b o : Nat} {cs : List Value} (hT : AggTy P ty m) (hm : cs.length = m) (hc : CellsAt w b o cs) : (loadVar ty ⟨b, o, none⟩).run P w = .ok (.agg cs.toArray) w := by
  obtain ⟨d, i, hu, hd, hi, hs⟩ := hT
  have hl := run_loadCells_list (P := P) w ⟨b, o, none⟩ cs (fun j v hv => by rw [Addr.add_lit]; exact hc j v hv)
  have hagg : (isAgg ty).run P w = .ok true w := by
    unfold isAgg
    rw [Sem.run_bind, run_underlying hu w]
    cases d <;> simp_all [isAggD]
  simp [loadVar, Sem.run_bind, hagg, sizeOf, typeInfo, hi, hs, ← hm, hl]
theorem wpList_ldAgg {P : Program} {ops : Array Oper} {rest : List Oper} {o : Oper} {a : Act} {w : World} {Q : Exit → Act → World → Prop} (hgd : Region.wanted o (yielded ops a.tmps) = true) (x : Operand) {ty : TypeId} {m : Nat} (hT : AggTy P ty m) (ho : o.op = .load ty x)
    {b off : Nat} (hx : a.eval x = .pointer (some ⟨b, off, none⟩)) {cs : List Value} (hm : cs.length = m) (hc : CellsAt w b off cs)
    (h : wpList P ops Q rest (a.put o.dst (.agg cs.toArray)) w) : wpList P ops Q (o :: rest) a w := by
  refine wpList_want hgd fun K hK => ?_
  unfold Oper.wp execOp
  simp only [ho, hx, Instr.loadAt, Instr.sureAddr, Sem.run_bind, Sem.run_pure, Result.andThen_ok, run_ldAgg hT hm hc]
  exact hK _ _ h
theorem run_stAgg {P : Program} {w : World} {ty : TypeId} {m g o : Nat} {cur vs : List Value} {T : TypeId} (hT : AggTy P ty m) (hm : vs.length = m) (hb : Blk w g cur T) (hfit : o + m ≤ cur.length) (h1 : ∀ v ∈ vs, v.oneCell' = true) :
    ∃ w', (storeVar ty ⟨g, o, none⟩ (.agg vs.toArray)).run P w = .ok () w' ∧ Blk w' g (cur.take o ++ vs ++ cur.drop (o + m)) T ∧ Keeps (fun k => k = g) w w' := by
  obtain ⟨d, i, hu, hd, hi, hs⟩ := hT
  have hst := run_storeCells_at P g o T vs 0 cur.toArray w hb (by simp; omega) h1
  simp only [Nat.add_zero] at hst
  refine ⟨_, ?_, ?_, Keeps.oneRow w g (cur.take o ++ vs ++ cur.drop (o + m)).toArray⟩
  · simp [storeVar, Value.cells, sizeOf, typeInfo, hi, hs, hm, hst]
  · unfold Blk
    rw [setRow_heap w g cur.toArray _ T _ hb]
theorem wpList_stAgg {P : Program} {ops : Array Oper} {rest : List Oper} {o : Oper} {a : Act} {w : World} {Q : Exit → Act → World → Prop} (hgd : Region.wanted o (yielded ops a.tmps) = true) (x y : Operand) {ty : TypeId} {m : Nat} (hT : AggTy P ty m) (ho : o.op = .store ty x y)
    {g off : Nat} (hx : a.eval x = .pointer (some ⟨g, off, none⟩)) {vs : List Value} (hy : a.eval y = .agg vs.toArray) (hm : vs.length = m) {cur : List Value} {T : TypeId} (hb : Blk w g cur T) (hfit : off + m ≤ cur.length) (h1 : ∀ v ∈ vs, v.oneCell' = true)
    (h : ∀ w', Blk w' g (cur.take off ++ vs ++ cur.drop (off + m)) T → Keeps (fun k => k = g) w w' → wpList P ops Q rest (a.put o.dst undef) w') : wpList P ops Q (o :: rest) a w := by
  obtain ⟨w', hr, h2, h3⟩ := run_stAgg hT hm hb hfit h1
  refine wpList_want hgd fun K hK => ?_
  unfold Oper.wp execOp
  simp only [ho, hx, hy, Instr.storeAt, Instr.sureAddr, Sem.run_bind, Sem.run_pure, Result.andThen_ok, hr]
  exact hK _ _ (h w' h2 h3)
theorem results_agg_tmp {P : Program} {fn : Func} {p u : Tmp} {ty : TypeId} {m : Nat} (hr : fn.results = #[.cell p ty, .tmp u]) (hT : AggTy P ty m) {tmps : Array Value} {w : World} {b o : Nat} (hp : tmps.getD p undef = .pointer (some ⟨b, o, none⟩)) {cs : List Value} (hm : cs.length = m) (hc : CellsAt w b o cs) :
    (results fn tmps).run P w = .ok (.tuple #[.agg cs.toArray, tmps.getD u undef]) w := by
  rw [results_cell_tmp hr, hp]
  simp [asAddr, run_ldAgg hT hm hc, Result.andThen]
theorem results_agg {P : Program} {fn : Func} {p : Tmp} {ty : TypeId} {m : Nat} (hr : fn.results = #[.cell p ty]) (hT : AggTy P ty m) {tmps : Array Value} {w : World} {b o : Nat} (hp : tmps.getD p undef = .pointer (some ⟨b, o, none⟩)) {cs : List Value} (hm : cs.length = m) (hc : CellsAt w b o cs) :
    (results fn tmps).run P w = .ok (.agg cs.toArray) w := by
  have hp' : tmps[p]?.getD undef = .pointer (some ⟨b, o, none⟩) := by simpa using hp
  simp [results, hr, hp', asAddr, run_ldAgg hT hm hc]
/-- A byte, as a cell. -/
def bV (x : UInt8) : Value := .int .u8 x.toNat
def bCells (l : List UInt8) : List Value := l.map bV
/-- A slice value that reads as bytes. -/
def Bs (w : World) (v : Value) (l : List UInt8) : Prop := Sl w 1 v l.length (bCells l)
/-- Bytes of the call's own. -/
def OwnBs (w : World) (B : Nat) (v : Value) (l : List UInt8) : Prop := Own w B 5 1 v l.length (bCells l)
theorem bV_ofNat (x : Nat) (h : x < 256) : bV (UInt8.ofNat x) = .int .u8 x := by
  simp only [bV, UInt8.toNat_ofNat']
  rw [Nat.mod_eq_of_lt (by simpa using h)]
theorem bCells_length (l : List UInt8) : (bCells l).length = l.length := by simp [bCells]
theorem bCells_append (a b : List UInt8) : bCells (a ++ b) = bCells a ++ bCells b := by simp [bCells]
theorem bCells_one (l : List UInt8) : ∀ u ∈ bCells l, u.oneCell' = true := by
  intro u hu
  obtain ⟨x, _, rfl⟩ := List.mem_map.1 hu
  rfl
theorem bCells_get (l : List UInt8) (k : Nat) (h : k < l.length) : (bCells l)[k]? = some (bV l[k]) := by simp [bCells, h]
theorem Blk.own {w : World} {b B : Nat} {cs : List Value} {T : TypeId} (h : Blk w b cs T) (hb : B ≤ b) (h1 : ∀ u ∈ cs, u.oneCell' = true) (hm : cs.length ≤ maxLen) : Own w B T 1 (.slice (some ⟨b, 0, none⟩) cs.length cs.length) cs.length cs :=
  ⟨by omega, h1, .inr ⟨b, cs.length, cs.toArray, rfl, hb, h, Nat.le_refl _, hm, by simp, by simp⟩⟩
theorem Bs.lit {w : World} {cs : Array Value} {b : Nat} (l : List UInt8) (hb : w.heap.size = b) (hc : cs.toList = bCells l) (hn : l.length ≤ maxLen) : Bs (w.alloc (.cells cs 5)) (.slice (some ⟨b, 0, none⟩) l.length l.length) l := by
  have := Sl.lit (w := w) (cs := cs) (T := 5) (sz := 1) (n := l.length) hb (by rw [hc, bCells_length]; omega) (by rw [hc]; exact bCells_one _) hn
  rw [hc] at this
  exact this
theorem Bs.below {w w' : World} {v : Value} {l : List UInt8} (h : Bs w v l) (hk : Below w.heap.size w w') : Bs w' v l := Sl.below h hk
theorem Bs.alloc {w : World} {v : Value} {l : List UInt8} (h : Bs w v l) (o : Obj) : Bs (w.alloc o) v l := Sl.alloc h o
theorem OwnBs.bs {w : World} {B : Nat} {v : Value} {l : List UInt8} (h : OwnBs w B v l) : Bs w v l := Own.sl h
theorem Blk.bs {w : World} {b : Nat} {l : List UInt8} {T : TypeId} (h : Blk w b (bCells l) T) {off n cap : Nat} (hf : off + n ≤ l.length) (hc : n ≤ cap) (hm : cap ≤ maxLen) :
    Sl w 1 (.slice (some ⟨b, off, none⟩) n cap) n (bCells ((l.drop off).take n)) := by
  have hl : (bCells ((l.drop off).take n)).length = n := by rw [bCells_length, List.length_take, List.length_drop]; omega
  refine ⟨by rw [hl]; omega, bCells_one _, some ⟨b, off, none⟩, cap, rfl, hc, hm, (fun h => by cases h), .inr ⟨b, off, rfl, fun j u hj => ?_⟩⟩
  have hj' : j < n := by have := (List.getElem?_eq_some_iff.1 hj).1; omega
  rw [h.cell]
  simp only [bCells, List.getElem?_map, List.getElem?_take, List.getElem?_drop, hj', if_true] at hj ⊢
  exact hj
theorem Sl.bs {w : World} {v : Value} {n : Nat} {l l' : List UInt8} (h : Sl w 1 v n (bCells l)) (he : l = l') (hn : l'.length = n) : Bs w v l' := by subst he hn; exact h
theorem Sl.mid {w : World} {b o cap0 n0 : Nat} {l : List UInt8} (h : Sl w 1 (.slice (some ⟨b, o, none⟩) n0 cap0) n0 (bCells l)) {off n cap : Nat} (hf : off + n ≤ n0) (hc : n ≤ cap) (hm : cap ≤ maxLen) :
    Sl w 1 (.slice (some ⟨b, o + off, none⟩) n cap) n (bCells ((l.drop off).take n)) := by
  have hll : l.length = n0 := by have := h.1; rw [bCells_length] at this; omega
  have hl : (bCells ((l.drop off).take n)).length = n := by rw [bCells_length, List.length_take, List.length_drop]; omega
  refine ⟨by rw [hl]; omega, bCells_one _, some ⟨b, o + off, none⟩, cap, rfl, hc, hm, (fun h => by cases h), ?_⟩
  by_cases hn : n = 0
  · exact .inl (List.eq_nil_of_length_eq_zero (by omega))
  · obtain ⟨b', o', e, hcell⟩ := h.addr (by rw [bCells_length]; omega)
    injection e with e
    injection e with e1 e2 e3
    subst e1 e2
    refine .inr ⟨b, o + off, rfl, fun j u hj => ?_⟩
    have hj' : j < n := by have := (List.getElem?_eq_some_iff.1 hj).1; omega
    rw [Nat.add_assoc]
    refine hcell _ _ ?_
    simp only [bCells, List.getElem?_map, List.getElem?_take, List.getElem?_drop, hj', if_true] at hj ⊢
    exact hj
/-- The block behind bytes of the call's own. -/
theorem OwnBs.blk {w : World} {B : Nat} {v : Value} {l : List UInt8} (h : OwnBs w B v l) (hl : 0 < l.length) :
    ∃ g cap rest, v = .slice (some ⟨g, 0, none⟩) l.length cap ∧ B ≤ g ∧ Blk w g (bCells l ++ rest) 5 ∧ l.length ≤ cap ∧ cap ≤ maxLen := by
  obtain ⟨h0, h1, ⟨a, _, hn⟩ | ⟨g, cap, cur, rfl, h2, h3, h4, h5, h6, h7⟩⟩ := h
  · omega
  · refine ⟨g, cap, cur.toList.drop (l.length * 1), rfl, h2, ?_, h4, h5⟩
    rw [← h7, List.take_append_drop]
    exact h3
theorem Bs.none (w : World) (a : Option Addr) (cap : Nat) (h : a = .none → cap = 0) (hm : cap ≤ maxLen) : Bs w (.slice a 0 cap) [] :=
  ⟨by simp [bCells], by simp [bCells], a, cap, rfl, Nat.zero_le _, hm, h, .inl rfl⟩
theorem Sl.lt {w : World} {sz b o n cap : Nat} {cs : List Value} (h : Sl w sz (.slice (some ⟨b, o, none⟩) n cap) n cs) (hpos : 0 < cs.length) : b < w.heap.size := by
  obtain ⟨b', o', e, hc⟩ := h.addr hpos
  injection e with e
  injection e with e1 e2 e3
  subst e1
  obtain ⟨u, hu⟩ : ∃ u, cs[0]? = some u := ⟨_, List.getElem?_eq_getElem hpos⟩
  exact World.block_lt_of_cell? w _ (hc 0 u hu)
theorem Own.form' {w : World} {B : Nat} {e : TypeId} {sz : Nat} {v : Value} {n : Nat} {cs : List Value} (h : Own w B e sz v n cs) (hn : 0 < n) :
    ∃ g cap cur, v = .slice (some ⟨g, 0, none⟩) n cap ∧ B ≤ g ∧ w.heap[g]? = some (.cells cur e (0, 0)) ∧ n ≤ cap ∧ cap ≤ maxLen ∧ cur.size = cap * sz ∧ cur.toList.take (n * sz) = cs := by
  obtain ⟨_, _, ⟨a, _, h0⟩ | h⟩ := h
  · omega
  · exact h
theorem Own.frozen {w : World} {B : Nat} {e : TypeId} {sz g cap n : Nat} {cs : List Value} (h : Own w B e sz (.slice (some ⟨g, 0, none⟩) n cap) n cs) (hn : 0 < n) (i : Nat) : w.frozen? ⟨g, i, none⟩ = false := by
  obtain ⟨g', cap', cur, e, _, h2, _⟩ := h.form' hn
  injection e with e1 e2 e3
  injection e1 with e1
  injection e1 with e1
  subst e1
  simp [World.frozen?, h2]
theorem Own.set {w : World} {B : Nat} {e : TypeId} {sz g cap n : Nat} {cs : List Value} (h : Own w B e sz (.slice (some ⟨g, 0, none⟩) n cap) n cs) (hn : 0 < n) (i : Nat) (u : Value) (hu : u.oneCell' = true) :
    Own (w.setCell ⟨g, i, none⟩ u) B e sz (.slice (some ⟨g, 0, none⟩) n cap) n (cs.set i u) := by
  obtain ⟨g', cap', cur, e, hg, h2, h3, h4, h5, h6⟩ := h.form' hn
  injection e with e1 e2 e3
  injection e1 with e1
  injection e1 with e1
  subst e1 e3
  refine ⟨by rw [List.length_set]; exact h.1, fun x hx => ?_, .inr ⟨g, cap, cur.setIfInBounds i u, rfl, hg, ?_, h3, h4, by rw [Array.size_setIfInBounds]; exact h5, ?_⟩⟩
  · rcases List.mem_or_eq_of_mem_set hx with hx | rfl
    · exact h.2.1 x hx
    · exact hu
  · have hb : Blk w g cur.toList e := by unfold Blk; simpa using h2
    have := hb.set i u
    unfold Blk at this
    rw [this]
    exact congrArg some (congrArg (fun c => Obj.cells c e (0, 0)) (Array.ext' (by simp)))
  · rw [Array.toList_setIfInBounds, ← h6, List.take_set]
/-- Of an empty slice nothing is asked. -/
theorem Sl.keepF {w w' : World} {sz : Nat} {v : Value} {n : Nat} {cs : List Value} {F S : Nat → Prop} (h : Sl w sz v n cs) (hk : Keeps S w w') (hf : 0 < n → ∀ x, v.ownBlock = some x → F x) (hs : ∀ b, F b → b < w.heap.size → ¬ S b) : Sl w' sz v n cs := by
  by_cases hn : 0 < n
  · exact Sl.keep' h hk (fun x hx hl => hs x (hf hn x hx) hl)
  · obtain ⟨h1, h2, a, cap, e, h3, h4, h5, _⟩ := h
    have : cs = [] := List.eq_nil_of_length_eq_zero (by rw [h1, show n = 0 by omega, Nat.zero_mul])
    exact ⟨h1, h2, a, cap, e, h3, h4, h5, .inl this⟩
theorem Sl.own_lt {w : World} {sz : Nat} {v : Value} {n : Nat} {cs : List Value} (h : Sl w sz v n cs) (hsz : 0 < sz) (hn : 0 < n) : ∀ x, v.ownBlock = some x → x < w.heap.size := by
  intro x hx
  obtain ⟨a, c, rfl, _⟩ := h.form
  have hpos : 0 < cs.length := by rw [h.1]; exact Nat.mul_pos hn hsz
  obtain ⟨b, o, rfl, _⟩ := h.addr hpos
  simp [Value.ownBlock] at hx
  subst hx
  exact Sl.lt h hpos
theorem Bs.litM {w : World} {cs : Array Value} {b : Nat} {fz : Nat × Nat} (l : List UInt8) (hb : w.heap.size = b) (hc : cs.toList = bCells l) (hn : l.length ≤ maxLen) : Bs (w.alloc (.cells cs 5 fz)) (.slice (some ⟨b, 0, Option.none⟩) l.length l.length) l := by
  subst hb
  refine ⟨by rw [bCells_length]; omega, bCells_one _, _, _, rfl, Nat.le_refl _, hn, (fun h => by cases h), ?_⟩
  rw [← hc]
  exact At.one (heap_alloc_new w _)
/-- A row of the call's own, opened: an element may be stored anew. -/
theorem Own.open_ {w : World} {B : Nat} {e : TypeId} {sz g cap n : Nat} {cs : List Value} (h : Own w B e sz (.slice (some ⟨g, 0, none⟩) n cap) n cs) (hn : 0 < n) :
    ∃ cur : List Value, Blk w g cur e ∧ B ≤ g ∧ n * sz ≤ cur.length ∧ ∀ (w' : World) (j : Nat) (vs : List Value), j < n → vs.length = sz → (∀ u ∈ vs, u.oneCell' = true) → Blk w' g (cur.take (j * sz) ++ vs ++ cur.drop (j * sz + sz)) e →
      Own w' B e sz (.slice (some ⟨g, 0, none⟩) n cap) n (cs.take (j * sz) ++ vs ++ cs.drop (j * sz + sz)) := by
  obtain ⟨h0, h1, ⟨a, hv, h2⟩ | ⟨g', cap', cur, hv, h2, h3, h4, h5, h6, h7⟩⟩ := h
  · omega
  · simp only [Value.slice.injEq, Option.some.injEq, Addr.mk.injEq, and_true, true_and] at hv
    obtain ⟨rfl, rfl⟩ := hv
    have hfit : n * sz ≤ cap * sz := Nat.mul_le_mul_right _ h4
    refine ⟨cur.toList, by simpa [Blk] using h3, h2, by simpa [h6] using hfit, fun w' j vs hj hvs hv1 hb => ?_⟩
    have hjn : j * sz + sz ≤ n * sz := by
      have := Nat.mul_le_mul_right sz (show j + 1 ≤ n by omega)
      rwa [Nat.add_mul, Nat.one_mul] at this
    have hcl : cur.toList.length = cap * sz := by simpa using h6
    refine ⟨?_, fun u hu => ?_, .inr ⟨g, cap, _, rfl, h2, hb, h4, h5, ?_, ?_⟩⟩
    · simp only [List.length_append, List.length_take, List.length_drop, h0, hvs]
      omega
    · rcases List.mem_append.1 hu with hu | hu
      · rcases List.mem_append.1 hu with hu | hu
        · exact h1 u (List.mem_of_mem_take hu)
        · exact hv1 u hu
      · exact h1 u (List.mem_of_mem_drop hu)
    · simp only [List.size_toArray, List.length_append, List.length_take, List.length_drop, hcl, hvs]
      omega
    · subst h7
      simp only []
      apply List.ext_getElem?
      intro i
      simp only [List.getElem?_take, List.getElem?_append, List.length_append, List.length_take, hcl, hvs, List.getElem?_drop]
      by_cases hi : i < n * sz
      · rw [if_pos hi]
        by_cases h8 : i < j * sz
        · have e1 : i < min (j * sz) (cap * sz) + sz := by omega
          have e2 : i < min (j * sz) (cap * sz) := by omega
          have e3 : i < min (j * sz) (min (n * sz) (cap * sz)) + sz := by omega
          have e4 : i < min (j * sz) (min (n * sz) (cap * sz)) := by omega
          simp only [e1, e2, e3, e4, if_true, h8, hi]
        · have e0 : min (j * sz) (cap * sz) = j * sz := by omega
          have e0' : min (j * sz) (min (n * sz) (cap * sz)) = j * sz := by omega
          rw [e0, e0']
          by_cases h9 : i < j * sz + sz
          · simp only [h9, h8, if_true, if_false]
          · have e5 : j * sz + sz + (i - (j * sz + sz)) < n * sz := by omega
            simp only [h9, if_false, e5, if_true]
      · rw [if_neg hi]
        have e0' : min (j * sz) (min (n * sz) (cap * sz)) = j * sz := by omega
        rw [e0']
        have e1 : ¬ i < j * sz + sz := by omega
        have e5 : ¬ j * sz + sz + (i - (j * sz + sz)) < n * sz := by omega
        simp only [e1, if_false, e5]
/-- A slice of a row that reads: its elements from j on, m of them. -/
theorem Sl.sub {w : World} {sz b o n cap : Nat} {cs : List Value} (h : Sl w sz (.slice (some ⟨b, o, none⟩) n cap) n cs) (j m cap' : Nat) (hj : j + m ≤ n) (hc : m ≤ cap') (hm : cap' ≤ maxLen) :
    Sl w sz (.slice (some ⟨b, o + j * sz, none⟩) m cap') m ((cs.drop (j * sz)).take (m * sz)) := by
  obtain ⟨h1, h2, a, c, e, h3, h4, h5, h6⟩ := h
  simp only [Value.slice.injEq, true_and] at e
  obtain ⟨rfl, rfl⟩ := e
  have hl : j * sz + m * sz ≤ n * sz := by rw [← Nat.add_mul]; exact Nat.mul_le_mul_right _ hj
  refine ⟨by simp only [List.length_take, List.length_drop, h1]; omega, fun u hu => h2 u (List.mem_of_mem_drop (List.mem_of_mem_take hu)), _, cap', rfl, hc, hm, by simp, ?_⟩
  rcases h6 with h6 | ⟨b', o', e, h6⟩
  · subst h6
    exact .inl (by simp)
  · simp only [Option.some.injEq, Addr.mk.injEq, and_true] at e
    obtain ⟨rfl, rfl⟩ := e
    refine .inr ⟨b, _, rfl, fun i u hi => ?_⟩
    rw [List.getElem?_take] at hi
    split at hi
    · rw [List.getElem?_drop] at hi
      rw [Nat.add_assoc]
      exact h6 _ u hi
    · simp at hi
/-- Where 's[i:]' begins: at the very end of the capacity the address stays. -/
def cutAt (g cap i sz : Nat) : Option Addr := if cap = i then some ⟨g, 0, none⟩ else some ⟨g, i * sz, none⟩
theorem Sl.left {w : World} {sz g n cap : Nat} {cs : List Value} (h : Sl w sz (.slice (some ⟨g, 0, none⟩) n cap) n cs) (j : Nat) (hj : j ≤ n) :
    Sl w sz (.slice (some ⟨g, 0, none⟩) j cap) j (cs.take (j * sz)) := by
  obtain ⟨a, c, e, h3, h4⟩ := h.form
  simp only [Value.slice.injEq, true_and] at e
  obtain ⟨rfl, rfl⟩ := e
  have := h.sub 0 j cap (by omega) (by omega) h4
  simpa using this
theorem Sl.right {w : World} {sz g n cap : Nat} {cs : List Value} (h : Sl w sz (.slice (some ⟨g, 0, none⟩) n cap) n cs) (i : Nat) (hi : i ≤ n) :
    Sl w sz (.slice (cutAt g cap i sz) (n - i) (cap - i)) (n - i) (cs.drop (i * sz)) := by
  obtain ⟨a, c, e, h3, h4⟩ := h.form
  have hl := h.1
  simp only [Value.slice.injEq, true_and] at e
  obtain ⟨rfl, rfl⟩ := e
  unfold cutAt
  split
  · rename_i hc
    have hn : n - i = 0 := by omega
    rw [hn, show cap - i = 0 by omega, List.drop_of_length_le (by rw [hl]; exact Nat.mul_le_mul_right _ (by omega))]
    exact Sl.nil _ _ _
  · have := h.sub i (n - i) (cap - i) (by omega) (by omega) (by omega)
    rw [List.take_of_length_le (by rw [List.length_drop, hl, Nat.sub_mul]; exact Nat.le_refl _)] at this
    simpa using this
/-- append, with the block of what it gives: it is there. -/
theorem run_app2 {P : Program} {w : World} {t ty e : TypeId} {size bytes : Nat} {z : Value} (hE : Elem P t e size bytes z) {B : Nat}
    {v : Value} {n : Nat} {cs : List Value} (hown : Own w B e size v n cs) (hlt : ∀ b, v.ownBlock = some b → b < w.heap.size) {x : Value} {m : Nat} {ds : List Value} (hsl : Sl w size x m ds)
    (h63 : n + m ≤ maxLen) (hbytes : (n + m) * bytes ≤ 140737488355328) (hbase : B ≤ w.heap.size) :
    ∃ v' w', (Builtin.append_ #[t, t] ty #[v, x]).run P w = .ok v' w' ∧ Own w' B e size v' (n + m) (cs ++ ds) ∧ Keeps (fun k => v.ownBlock = some k ∧ B ≤ k ∨ w.heap.size ≤ k) w w' ∧ (∀ b, v'.ownBlock = some b → (v.ownBlock = some b ∨ w.heap.size ≤ b) ∧ b < w'.heap.size) := by
  obtain ⟨v', w', hr, h1, h2, h3⟩ := run_app (ty := ty) hE hown hsl h63 hbytes hbase
  refine ⟨v', w', hr, h1, h2, fun b hb => ⟨h3 b hb, ?_⟩⟩
  by_cases h0 : 0 < n + m
  · obtain ⟨h4, h5, ⟨a, e1, e2⟩ | ⟨g, cap, cur, e1, e2, e3, _⟩⟩ := h1
    · omega
    · rw [e1] at hb
      simp [Value.ownBlock] at hb
      subst hb
      exact block_lt e3
  · obtain rfl : m = 0 := by omega
    obtain ⟨ht, i, hi, hz, hsize, hby, hzs, hsz⟩ := hE
    obtain ⟨hdl, hd1, a, c, rfl, hmc, hcm, hanone, hat⟩ := hsl
    have hfc : (Builtin.firstCells size 0 (.slice a 0 c)).run P w = .ok #[] w := by
      cases a <;> simp [Builtin.firstCells, loadCells, loadCellsFrom]
    have hr' : (Builtin.append_ #[t, t] ty #[v, .slice a 0 c]).run P w = .ok v w := by
      obtain ⟨_, _, ⟨a0, rfl, rfl⟩ | ⟨g, cap, cur, rfl, _, _, hnc, _⟩⟩ := hown
      · cases a0 <;> simp [Builtin.append_, run_underlying ht, sizeOf, typeInfo, hi, Builtin.lenOf, hsize, hfc, storeCells]
      · simp [Builtin.append_, run_underlying ht, sizeOf, typeInfo, hi, Builtin.lenOf, hsize, hfc, hnc, storeCells]
    rw [hr] at hr'
    simp only [Result.ok.injEq] at hr'
    obtain ⟨rfl, rfl⟩ := hr'
    exact hlt b hb
theorem step_app2 {P : Program} {ops : Array Oper} {o : Oper} {a : Act} {w : World} {K : Act → World → Prop} {Q : Exit → Act → World → Prop} {E : Prop} (hgd : o.guard = none) (s x : Operand) {t e : TypeId} {size bytes : Nat} {z : Value}
    (hE : Elem P t e size bytes z) (ho : o.op = .call { callee := .builtin .append, args := #[s, x], argTypes := #[t, t] }) (B : Nat) {v : Value} (hv : a.eval s = v)
    {n : Nat} {cs : List Value} (hown : Own w B e size v n cs) (hlt : ∀ b, v.ownBlock = some b → b < w.heap.size) {u : Value} (hu : a.eval x = u) {m : Nat} {ds : List Value} (hsl : Sl w size u m ds)
    (h63 : n + m ≤ maxLen) (hbytes : (n + m) * bytes ≤ 140737488355328) (hbase : B ≤ w.heap.size)
    (h : ∀ v' w', Own w' B e size v' (n + m) (cs ++ ds) → Keeps (fun k => v.ownBlock = some k ∧ B ≤ k ∨ w.heap.size ≤ k) w w' → (∀ b, v'.ownBlock = some b → (v.ownBlock = some b ∨ w.heap.size ≤ b) ∧ b < w'.heap.size) → K (a.put o.dst v') w') :
    if Region.wanted o (yielded ops a.tmps) = true then Oper.wp P o a w K Q else E := by
  have hw : Region.wanted o (yielded ops a.tmps) = true := by simp [Region.wanted, hgd]
  rw [if_pos hw]
  obtain ⟨v', w', hr, h2, h3, h4⟩ := run_app2 (P := P) (ty := o.type) hE hown hlt hsl h63 hbytes hbase
  unfold Oper.wp execOp
  simp only [ho, resolve, invoke, builtin, Sem.run_bind, Sem.run_pure, Result.andThen_ok, List.map_toArray, List.map_cons, List.map_nil, hv, hu, hr]
  exact h v' w' h2 h3 h4
theorem wpList_app2 {P : Program} {w : World} {ops : Array Oper} {rest : List Oper} {o : Oper} {a : Act} {Q : Exit → Act → World → Prop} (hgd : Region.wanted o (yielded ops a.tmps) = true) (s x : Operand) {t e : TypeId} {size bytes : Nat} {z : Value}
    (hE : Elem P t e size bytes z) (ho : o.op = .call { callee := .builtin .append, args := #[s, x], argTypes := #[t, t] }) (B : Nat)
    {n : Nat} {cs : List Value} (hown : Own w B e size (a.eval s) n cs) (hlt : ∀ b, (a.eval s).ownBlock = some b → b < w.heap.size) {m : Nat} {ds : List Value} (hsl : Sl w size (a.eval x) m ds)
    (h63 : n + m ≤ maxLen) (hbytes : (n + m) * bytes ≤ 140737488355328) (hbase : B ≤ w.heap.size)
    (h : ∀ v' w', Own w' B e size v' (n + m) (cs ++ ds) → Keeps (fun k => (a.eval s).ownBlock = some k ∧ B ≤ k ∨ w.heap.size ≤ k) w w' → (∀ b, v'.ownBlock = some b → ((a.eval s).ownBlock = some b ∨ w.heap.size ≤ b) ∧ b < w'.heap.size) → wpList P ops Q rest (a.put o.dst v') w') : wpList P ops Q (o :: rest) a w := by
  obtain ⟨v', w', hr, h2, h3, h4⟩ := run_app2 (P := P) (ty := o.type) hE hown hlt hsl h63 hbytes hbase
  refine wpList_want hgd fun K hK => ?_
  unfold Oper.wp execOp
  simp only [ho, resolve, invoke, builtin, Sem.run_bind, Sem.run_pure, Result.andThen_ok, List.map_toArray, List.map_cons, List.map_nil, hr]
  exact hK _ _ (h v' w' h2 h3 h4)
theorem foldl_set_get : ∀ (l : List Value) (i : Nat) (cs : Array Value) (k : Nat), i + l.length ≤ cs.size →
    ((l.zipIdx i).foldl (fun cs (x : Value × Nat) => cs.setIfInBounds (0 + x.2) x.1) cs)[k]? = if i ≤ k ∧ k < i + l.length then l[k - i]? else cs[k]?
  | [], i, cs, k, _ => by simp; omega
  | x :: l, i, cs, k, h => by
    simp only [List.length_cons] at h
    rw [List.zipIdx_cons, List.foldl_cons, foldl_set_get l (i + 1) _ k (by simp; omega)]
    simp only [List.length_cons, Nat.zero_add]
    by_cases hk : k = i
    · subst hk
      rw [if_neg (by omega), if_pos (by omega), Nat.sub_self]
      simp [Array.getElem?_setIfInBounds, show k < cs.size by omega]
    · by_cases h2 : i + 1 ≤ k ∧ k < i + 1 + l.length
      · rw [if_pos h2, if_pos (by omega), show k - i = (k - (i + 1)) + 1 by omega, List.getElem?_cons_succ]
      · rw [if_neg h2, if_neg (by omega)]
        simp [Array.getElem?_setIfInBounds, Ne.symm hk]
theorem fill_one (X : Array Value) (size : Nat) (cells : Array Value) (hX : X.size = size) (hc : cells.size = size) : Instr.fill (fun i => some (i * size, size)) cells [(0, .agg X)] = some X := by
  have hf : (X.zipIdx.foldl (fun cs (x : Value × Nat) => cs.setIfInBounds (0 + x.2) x.1) cells) = X := by
    rw [← Array.foldl_toList, Array.toList_zipIdx]
    apply Array.ext_getElem?
    intro k
    rw [foldl_set_get X.toList 0 cells k (by simp; omega)]
    by_cases hk : k < X.size
    · rw [if_pos (by simp; omega)]; simp
    · rw [if_neg (by simp; omega), Array.getElem?_eq_none (by omega), Array.getElem?_eq_none (by omega)]
  unfold Instr.fill
  simp only [Value.cells, Nat.zero_mul, Nat.zero_add]
  rw [if_neg (by simp [hX, hc])]
  unfold Instr.fill
  have e : (X.zipIdx.foldl (fun cs x => match x with | (c, j) => cs.setIfInBounds (0 + j) c) cells) = X := hf
  simp only [Nat.zero_add] at e
  exact congrArg some e
/-- A slice literal of one struct or array. -/
theorem wpList_bs1 {P : Program} {ops : Array Oper} {rest : List Oper} {o : Oper} {a : Act} {w : World} {Q : Exit → Act → World → Prop} (hg : o.guard = none) (x : Operand) {t e : TypeId} {size bytes : Nat} {z : Value} (hE : Elem P t e size bytes z) (ho : o.op = .buildSlice t 1 #[(0, x)])
    {X : Array Value} (hx : a.eval x = .agg X) (hX : X.size = size) (hs : size ≤ 16777216)
    (h : wpList P ops Q rest (a.put o.dst (.slice (some ⟨w.heap.size, 0, none⟩) 1 1)) (w.alloc (.cells X e))) : wpList P ops Q (o :: rest) a w := by
  obtain ⟨ht, i, hi, hz, hsize, hby, hzs, hsz⟩ := hE
  refine wpList_buildSlice hg t e 1 #[(0, x)] ho X i z ht hi hz (by omega) (by omega) ?_ h
  rw [hsize]
  simp only [List.map_toArray, List.map_cons, List.map_nil, hx]
  exact fill_one X size _ hX (by simp)
theorem flatC_at {α : Type} {n : Nat} (f : α → List Value) : ∀ (l : List α), (∀ x ∈ l, (f x).length = n) → ∀ (k j : Nat) (h : k < l.length), j < n → ((l.map f).flatten)[k * n + j]? = (f l[k])[j]?
  | [], _, k, j, h, _ => by simp at h
  | x :: l, hf, 0, j, h, hj => by
    simp only [List.map_cons, List.flatten_cons, Nat.zero_mul, Nat.zero_add, List.getElem_cons_zero]
    rw [List.getElem?_append_left (by rw [hf x (by simp)]; exact hj)]
  | x :: l, hf, k + 1, j, h, hj => by
    simp only [List.map_cons, List.flatten_cons, List.getElem_cons_succ]
    rw [List.getElem?_append_right (by rw [hf x (by simp), Nat.add_mul]; omega), hf x (by simp), show (k + 1) * n + j - n = k * n + j by rw [Nat.add_mul]; omega]
    exact flatC_at f l (fun y hy => hf y (by simp [hy])) k j (by simpa using h) hj
/-- A thing in memory: what it says of a world and of the blocks that are its own. -/
structure Res where
  holds : World → (Nat → Prop) → Prop
  frame : ∀ {W W' : World} {F S : Nat → Prop}, holds W F → Keeps S W W' → (∀ b, F b → ¬ S b) → holds W' F
  lt : ∀ {W : World} {F : Nat → Prop} {b : Nat}, holds W F → F b → b < W.heap.size
namespace Res
def emp : Res where
  holds _ F := ∀ b, ¬ F b
  frame h _ _ := h
  lt h hb := absurd hb (h _)
def star (a c : Res) : Res where
  holds W F := ∃ F1 F2, a.holds W F1 ∧ c.holds W F2 ∧ (∀ b, F1 b → F2 b → False) ∧ ∀ b, F b ↔ F1 b ∨ F2 b
  frame := by
    rintro W W' F S ⟨F1, F2, h1, h2, h3, h4⟩ hk hs
    exact ⟨F1, F2, a.frame h1 hk (fun b hb => hs b ((h4 b).2 (.inl hb))), c.frame h2 hk (fun b hb => hs b ((h4 b).2 (.inr hb))), h3, h4⟩
  lt := by
    rintro W F b ⟨F1, F2, h1, h2, h3, h4⟩ hb
    rcases (h4 b).1 hb with h | h
    · exact a.lt h1 h
    · exact c.lt h2 h
def pure (P : Prop) : Res where
  holds _ F := P ∧ ∀ b, ¬ F b
  frame h _ _ := h
  lt h hb := absurd hb (h.2 _)
def ex {α : Type} (f : α → Res) : Res where
  holds W F := ∃ x, (f x).holds W F
  frame := by
    rintro W W' F S ⟨x, h⟩ hk hs
    exact ⟨x, (f x).frame h hk hs⟩
  lt := by
    rintro W F b ⟨x, h⟩ hb
    exact (f x).lt h hb
def all : List Res → Res
  | [] => emp
  | r :: l => star r (all l)
/-- A block that is known whole. -/
def blk (p : Nat) (cs : List Value) (T : TypeId) : Res where
  holds W F := Blk W p cs T ∧ ∀ b, F b ↔ b = p
  frame := by
    rintro W W' F S ⟨h, hf⟩ hk hs
    exact ⟨h.keep hk (hs p ((hf p).2 rfl)), hf⟩
  lt := by
    rintro W F b ⟨h, hf⟩ hb
    rw [(hf b).1 hb]
    exact h.lt
/-- A slice that reads as these cells, and is not written. -/
def sl (sz : Nat) (v : Value) (n : Nat) (cs : List Value) : Res where
  holds W F := Sl W sz v n cs ∧ 0 < sz ∧ ∀ b, F b ↔ 0 < n ∧ v.ownBlock = some b
  frame := by
    rintro W W' F S ⟨h, hz, hf⟩ hk hs
    exact ⟨Sl.keepF (F := F) h hk (fun hn x hx => (hf x).2 ⟨hn, hx⟩) (fun b hb _ => hs b hb), hz, hf⟩
  lt := by
    rintro W F b ⟨h, hz, hf⟩ hb
    obtain ⟨hn, hv⟩ := (hf b).1 hb
    exact h.own_lt hz hn b hv
/-- Bytes that are read, not written. -/
def row (v : Value) (l : List UInt8) : Res := sl 1 v l.length (bCells l)
/-- A slice of the call's own: it may be appended to. -/
def own (e : TypeId) (sz : Nat) (v : Value) (n : Nat) (cs : List Value) : Res where
  holds W F := Own W 0 e sz v n cs ∧ (∀ b, v.ownBlock = some b → b < W.heap.size) ∧ ∀ b, F b ↔ v.ownBlock = some b
  frame := by
    rintro W W' F S ⟨h, hl, hf⟩ hk hs
    exact ⟨h.keep hk (fun b hb => hs b ((hf b).2 hb)), fun b hb => Nat.lt_of_lt_of_le (hl b hb) hk.size, hf⟩
  lt := by
    rintro W F b ⟨h, hl, hf⟩ hb
    exact hl b ((hf b).1 hb)
def ownB (v : Value) (l : List UInt8) : Res := own 5 1 v l.length (bCells l)
/-- All that was there at a world stands as it was. -/
def base (w0 : World) : Res where
  holds W F := Below w0.heap.size w0 W ∧ ∀ b, F b ↔ b < w0.heap.size
  frame := by
    rintro W W' F S ⟨h, hf⟩ hk hs
    exact ⟨⟨hk.os.trans h.os, hk.tape.trans h.tape, hk.output.trans h.output, Nat.le_trans h.size hk.size, fun b hb => (hk.block b (hs b ((hf b).2 hb))).trans (h.block b hb)⟩, hf⟩
  lt := by
    rintro W F b ⟨h, hf⟩ hb
    exact Nat.lt_of_lt_of_le ((hf b).1 hb) h.size
end Res
/-- A world holds these things, side by side. -/
def Hold (W : World) (l : List Res) : Prop := ∃ F, (Res.all l).holds W F
theorem Hold.nil (W : World) : Hold W [] := ⟨fun _ => False, fun _ h => h⟩
theorem Hold.start (W : World) : Hold W [.base W] := ⟨fun b => b < W.heap.size, fun b => b < W.heap.size, fun _ => False, ⟨Below.refl _ _, fun _ => Iff.rfl⟩, fun _ h => h, fun _ _ h => h, fun b => ⟨.inl, fun h => h.elim id False.elim⟩⟩
theorem Hold.cons {W : World} {r : Res} {l : List Res} : Hold W (r :: l) ↔ ∃ F1 F2, r.holds W F1 ∧ (Res.all l).holds W F2 ∧ ∀ b, F1 b → F2 b → False :=
  ⟨fun ⟨_, F1, F2, h1, h2, h3, _⟩ => ⟨F1, F2, h1, h2, h3⟩, fun ⟨F1, F2, h1, h2, h3⟩ => ⟨fun b => F1 b ∨ F2 b, F1, F2, h1, h2, h3, fun _ => Iff.rfl⟩⟩
theorem Hold.tail {W : World} {r : Res} {l : List Res} (h : Hold W (r :: l)) : Hold W l := by
  obtain ⟨F1, F2, _, h2, _⟩ := Hold.cons.1 h
  exact ⟨F2, h2⟩
theorem Hold.head {W : World} {r : Res} {l : List Res} (h : Hold W (r :: l)) : ∃ F, r.holds W F := by
  obtain ⟨F1, F2, h1, _, _⟩ := Hold.cons.1 h
  exact ⟨F1, h1⟩
theorem Hold.get {W : World} {r : Res} : ∀ {l : List Res}, Hold W l → r ∈ l → ∃ F, r.holds W F
  | [], _, hm => by simp at hm
  | a :: l, h, hm => by
    rcases List.mem_cons.1 hm with e | hm
    · rw [e]; exact h.head
    · exact h.tail.get hm
theorem Res.all_star {W : World} {a c : Res} {l : List Res} {F : Nat → Prop} : (Res.all (a.star c :: l)).holds W F ↔ (Res.all (a :: c :: l)).holds W F := by
  constructor
  · rintro ⟨F1, F2, ⟨G1, G2, g1, g2, g3, g4⟩, h2, h3, h4⟩
    refine ⟨G1, fun b => G2 b ∨ F2 b, g1, ⟨G2, F2, g2, h2, fun b hb hc => h3 b ((g4 b).2 (.inr hb)) hc, fun _ => Iff.rfl⟩, ?_, ?_⟩
    · rintro b hb (hc | hc)
      · exact g3 b hb hc
      · exact h3 b ((g4 b).2 (.inl hb)) hc
    · intro b
      rw [h4 b, g4 b, or_assoc]
  · rintro ⟨G1, H, g1, ⟨G2, F2, g2, h2, h3, h4⟩, h5, h6⟩
    refine ⟨fun b => G1 b ∨ G2 b, F2, ⟨G1, G2, g1, g2, fun b hb hc => h5 b hb ((h4 b).2 (.inl hc)), fun _ => Iff.rfl⟩, h2, ?_, ?_⟩
    · rintro b (hb | hb) hc
      · exact h5 b hb ((h4 b).2 (.inr hc))
      · exact h3 b hb hc
    · intro b
      rw [h6 b, h4 b, or_assoc]
theorem Hold.star {W : World} {a c : Res} {l : List Res} : Hold W (a.star c :: l) ↔ Hold W (a :: c :: l) :=
  ⟨fun ⟨F, h⟩ => ⟨F, Res.all_star.1 h⟩, fun ⟨F, h⟩ => ⟨F, Res.all_star.2 h⟩⟩
theorem Res.star_comm {W : World} {a c : Res} {F : Nat → Prop} (h : (a.star c).holds W F) : (c.star a).holds W F := by
  obtain ⟨F1, F2, h1, h2, h3, h4⟩ := h
  exact ⟨F2, F1, h2, h1, fun b x y => h3 b y x, fun b => by rw [h4 b, or_comm]⟩
theorem Res.all_perm {W : World} {l l' : List Res} (hp : l.Perm l') : ∀ {F : Nat → Prop}, (Res.all l).holds W F → (Res.all l').holds W F := by
  induction hp with
  | nil => exact fun h => h
  | cons x _ ih =>
    rintro F ⟨F1, F2, h1, h2, h3⟩
    exact ⟨F1, F2, h1, ih h2, h3⟩
  | swap x y l =>
    intro F h
    refine Res.all_star.1 ?_
    obtain ⟨F1, F2, h1, h2, h3, h4⟩ := Res.all_star.2 h
    exact ⟨F1, F2, Res.star_comm h1, h2, h3, h4⟩
  | trans _ _ ih1 ih2 => exact fun h => ih2 (ih1 h)
theorem Hold.perm {W : World} {l l' : List Res} (h : Hold W l) (hp : l.Perm l') : Hold W l' := by
  obtain ⟨F, h⟩ := h
  exact ⟨F, Res.all_perm hp h⟩
theorem perm_idx {α : Type} (d : α) (l : List α) (is : List Nat) (h : is.Perm (List.range l.length)) : l.Perm (is.map fun i => l.getD i d) := by
  have e : l = (List.range l.length).map fun i => l.getD i d := by
    apply List.ext_getElem
    · simp
    · intro i h1 h2
      simp [List.getD_eq_getElem?_getD, h1]
  have := h.symm.map fun i => l.getD i d
  rwa [← e] at this
theorem Hold.ex {W : World} {α : Type} {f : α → Res} {l : List Res} : Hold W (Res.ex f :: l) ↔ ∃ x, Hold W (f x :: l) := by
  simp only [Hold.cons]
  constructor
  · rintro ⟨F1, F2, ⟨x, h1⟩, h2, h3⟩
    exact ⟨x, F1, F2, h1, h2, h3⟩
  · rintro ⟨x, F1, F2, h1, h2, h3⟩
    exact ⟨F1, F2, ⟨x, h1⟩, h2, h3⟩
theorem Hold.pure {W : World} {P : Prop} {l : List Res} : Hold W (Res.pure P :: l) ↔ P ∧ Hold W l := by
  rw [Hold.cons]
  constructor
  · rintro ⟨F1, F2, h1, h2, h3⟩
    exact ⟨h1.1, F2, h2⟩
  · rintro ⟨h1, F, h2⟩
    exact ⟨fun _ => False, F, ⟨h1, fun _ h => h⟩, h2, fun _ h _ => h⟩
theorem Hold.app {W : World} : ∀ {m l : List Res}, Hold W (Res.all m :: l) ↔ Hold W (m ++ l)
  | [], l => by
    show Hold W (Res.emp :: l) ↔ Hold W l
    refine ⟨Hold.tail, fun ⟨F, h⟩ => Hold.cons.2 ⟨fun _ => False, F, fun _ h => h, h, fun _ h _ => h⟩⟩
  | r :: m, l => by
    show Hold W (r.star (Res.all m) :: l) ↔ Hold W (r :: (m ++ l))
    rw [Hold.star, Hold.cons, Hold.cons]
    constructor
    · rintro ⟨F1, F2, h1, h2, h3⟩
      have := (Hold.app (m := m) (l := l)).1 ⟨F2, h2⟩
      -- the same blocks
      obtain ⟨F3, F4, g1, g2, g3, g4⟩ := h2
      refine ⟨F1, fun b => F3 b ∨ F4 b, h1, ?_, ?_⟩
      · clear this h3 h1 g4
        induction m generalizing F3 F4 with
        | nil => exact (Res.all l).frame (F := fun b => F3 b ∨ F4 b) (S := fun _ => False) (by
            have : (fun b => F3 b ∨ F4 b) = F4 := by
              funext b
              exact propext ⟨fun h => h.elim (fun h => absurd h (g1 b)) id, .inr⟩
            rw [this]
            exact g2) (Keeps.refl _ _) (fun _ _ h => h)
        | cons a m ih =>
          obtain ⟨G1, G2, k1, k2, k3, k4⟩ := g1
          refine ⟨G1, fun b => G2 b ∨ F4 b, k1, ih G2 F4 k2 g2 (fun b hb hc => g3 b ((k4 b).2 (.inr hb)) hc), ?_, ?_⟩
          · rintro b hb (hc | hc)
            · exact k3 b hb hc
            · exact g3 b ((k4 b).2 (.inl hb)) hc
          · intro b
            show F3 b ∨ F4 b ↔ G1 b ∨ (G2 b ∨ F4 b)
            rw [k4 b, or_assoc]
      · rintro b hb hc
        exact h3 b hb ((g4 b).2 hc)
    · rintro ⟨F1, F2, h1, h2, h3⟩
      suffices h : (Res.all (Res.all m :: l)).holds W F2 from ⟨F1, F2, h1, h, h3⟩
      clear h3 h1
      induction m generalizing F2 with
      | nil => exact ⟨fun _ => False, F2, fun _ h => h, h2, fun _ h _ => h, fun b => ⟨.inr, fun h => h.elim False.elim id⟩⟩
      | cons a m ih =>
        obtain ⟨G1, G2, k1, k2, k3, k4⟩ := h2
        obtain ⟨G3, G4, j1, j2, j3, j4⟩ := ih G2 k2
        refine ⟨fun b => G1 b ∨ G3 b, G4, ⟨G1, G3, k1, j1, fun b hb hc => k3 b hb ((j4 b).2 (.inl hc)), fun _ => Iff.rfl⟩, j2, ?_, ?_⟩
        · rintro b (hb | hb) hc
          · exact k3 b hb ((j4 b).2 (.inr hc))
          · exact j3 b hb hc
        · intro b
          rw [k4 b, j4 b, or_assoc]
/-- Where only new memory is made all stands. -/
theorem Hold.step {W W' : World} {l : List Res} (h : Hold W l) (hb : Below W.heap.size W W') : Hold W' l := by
  obtain ⟨F, h⟩ := h
  exact ⟨F, (Res.all l).frame h (Keeps.of_below hb) (fun b hb' hc => by have := (Res.all l).lt h hb'; omega)⟩
theorem Hold.drew {W : World} {l : List Res} (h : Hold W l) : Hold W.drew l := h.step ((Below.refl _ _).drew)
theorem Hold.drewN {W : World} {l : List Res} (h : Hold W l) (n : Nat) : Hold (W.drewN n) l := h.step (below_drewN (Below.refl _ _) n)
theorem Hold.alloc {W : World} {l : List Res} (h : Hold W l) (o : Obj) : Hold (W.alloc o) l := h.step ((Below.refl _ _).alloc (Nat.le_refl _) _)
/-- One thing turns; what it has besides is new. -/
theorem Hold.turn {W W' : World} {r r' : Res} {l : List Res} (h : Hold W (r :: l))
    (ht : ∀ F, r.holds W F → ∃ F', r'.holds W' F' ∧ (∀ b, F' b → F b ∨ W.heap.size ≤ b) ∧ Keeps (fun b => F b ∨ W.heap.size ≤ b) W W') : Hold W' (r' :: l) := by
  obtain ⟨F1, F2, h1, h2, h3⟩ := Hold.cons.1 h
  obtain ⟨F', g1, g2, g3⟩ := ht F1 h1
  refine Hold.cons.2 ⟨F', F2, g1, (Res.all l).frame h2 g3 ?_, ?_⟩
  · rintro b hb (hc | hc)
    · exact h3 b hc hb
    · have := (Res.all l).lt h2 hb
      omega
  · intro b hb hc
    rcases g2 b hb with h | h
    · exact h3 b h hc
    · have := (Res.all l).lt h2 hc
      omega
/-- Something new. -/
theorem Hold.new {W W' : World} {r : Res} {l : List Res} (h : Hold W l) (hb : Below W.heap.size W W') {F : Nat → Prop} (hr : r.holds W' F) (hf : ∀ b, F b → W.heap.size ≤ b) : Hold W' (r :: l) := by
  obtain ⟨F2, h2⟩ := h
  refine Hold.cons.2 ⟨F, F2, hr, (Res.all l).frame h2 (Keeps.of_below hb) (fun b hb' hc => by have := (Res.all l).lt h2 hb'; omega), ?_⟩
  intro b hb' hc
  have := (Res.all l).lt h2 hc
  have := hf b hb'
  omega
/-- What is said of a thing may be weakened. -/
theorem Hold.weaken {W : World} {r r' : Res} {l : List Res} (h : Hold W (r :: l)) (ht : ∀ F, r.holds W F → ∃ F', r'.holds W F' ∧ ∀ b, F' b → F b) : Hold W (r' :: l) := by
  refine h.turn fun F hF => ?_
  obtain ⟨F', h1, h2⟩ := ht F hF
  exact ⟨F', h1, fun b hb => .inl (h2 b hb), (Keeps.refl _ _)⟩
theorem Hold.blkOf {W : World} {l : List Res} (h : Hold W l) {p : Nat} {cs : List Value} {T : TypeId} (hm : Res.blk p cs T ∈ l) : Blk W p cs T := by
  obtain ⟨F, hr⟩ := h.get hm
  exact hr.1
theorem Hold.rowOf {W : World} {l : List Res} (h : Hold W l) {v : Value} {b : List UInt8} (hm : Res.row v b ∈ l) : Bs W v b := by
  obtain ⟨F, hr⟩ := h.get hm
  exact hr.1
theorem Hold.ownOf {W : World} {l : List Res} (h : Hold W l) {e : TypeId} {sz n : Nat} {v : Value} {cs : List Value} (hm : Res.own e sz v n cs ∈ l) : Own W 0 e sz v n cs ∧ ∀ b, v.ownBlock = some b → b < W.heap.size := by
  obtain ⟨F, hr⟩ := h.get hm
  exact ⟨hr.1, hr.2.1⟩
theorem Hold.ownBOf {W : World} {l : List Res} (h : Hold W l) {v : Value} {b : List UInt8} (hm : Res.ownB v b ∈ l) : OwnBs W 0 v b ∧ ∀ k, v.ownBlock = some k → k < W.heap.size := by
  obtain ⟨F, hr⟩ := h.get hm
  exact ⟨hr.1, hr.2.1⟩
theorem Hold.baseOf {W : World} {l : List Res} (h : Hold W l) {w0 : World} (hm : Res.base w0 ∈ l) : Below w0.heap.size w0 W := by
  obtain ⟨F, hr⟩ := h.get hm
  exact hr.1
/-- A block is laid. -/
theorem Hold.addBlk {W : World} {l : List Res} (h : Hold W l) (cs : List Value) (T : TypeId) : Hold (W.alloc (.cells cs.toArray T)) (.blk W.heap.size cs T :: l) :=
  h.new ((Below.refl _ _).alloc (Nat.le_refl _) _) (F := fun b => b = W.heap.size) ⟨Blk.new W cs T, fun _ => Iff.rfl⟩ (fun b hb => by omega)
/-- A cell is written. -/
theorem Hold.set {W : World} {l : List Res} {p : Nat} {cs : List Value} {T : TypeId} (h : Hold W (.blk p cs T :: l)) (o : Nat) (v : Value) : Hold (W.setCell ⟨p, o, none⟩ v) (.blk p (cs.set o v) T :: l) := by
  refine h.turn fun F hF => ⟨F, ⟨hF.1.set o v, hF.2⟩, fun b hb => .inl hb, ?_⟩
  exact (Keeps.one W p o v).mono fun k hk => .inl ((hF.2 k).2 hk)
/-- Bytes that the call has made. -/
theorem Hold.addRow {W W' : World} {l : List Res} (h : Hold W l) (hb : Below W.heap.size W W') {v : Value} {b : List UInt8} (hr : Bs W' v b) (hv : ∀ k, 0 < b.length → v.ownBlock = some k → W.heap.size ≤ k) : Hold W' (.row v b :: l) :=
  h.new hb (F := fun k => 0 < b.length ∧ v.ownBlock = some k) ⟨hr, by decide, fun _ => Iff.rfl⟩ (fun k hk => hv k hk.1 hk.2)
theorem Hold.addOwn {W W' : World} {l : List Res} (h : Hold W l) (hb : Below W.heap.size W W') {e : TypeId} {sz n : Nat} {v : Value} {cs : List Value} {B : Nat} (hr : Own W' B e sz v n cs) (hv : ∀ k, v.ownBlock = some k → W.heap.size ≤ k ∧ k < W'.heap.size) : Hold W' (.own e sz v n cs :: l) :=
  h.new hb (F := fun k => v.ownBlock = some k) ⟨hr.base (Nat.zero_le _), fun k hk => (hv k hk).2, fun _ => Iff.rfl⟩ (fun k hk => (hv k hk).1)
theorem Hold.addOwnB {W W' : World} {l : List Res} (h : Hold W l) (hb : Below W.heap.size W W') {v : Value} {b : List UInt8} {B : Nat} (hr : OwnBs W' B v b) (hv : ∀ k, v.ownBlock = some k → W.heap.size ≤ k ∧ k < W'.heap.size) : Hold W' (.ownB v b :: l) :=
  h.addOwn hb hr hv
/-- What is one's own may be read alone. -/
theorem Hold.ownRow {W : World} {l : List Res} {v : Value} {b : List UInt8} (h : Hold W (.ownB v b :: l)) : Hold W (.row v b :: l) :=
  h.weaken fun F hF => ⟨fun k => 0 < b.length ∧ v.ownBlock = some k, ⟨hF.1.sl, by decide, fun _ => Iff.rfl⟩, fun k hk => (hF.2.2 k).2 hk.2⟩
/-- Nothing, as a slice of the call's own. -/
theorem Hold.addNil {W : World} {l : List Res} (h : Hold W l) (e : TypeId) (sz : Nat) : Hold W (.own e sz (.slice none 0 0) 0 [] :: l) :=
  h.new (Below.refl _ _) (F := fun _ => False) ⟨Own.nil _ _ _ _ _, fun b hb => by simp [Value.ownBlock] at hb, fun b => by simp [Value.ownBlock]⟩ (fun _ h => h.elim)
theorem Hold.addNilRow {W : World} {l : List Res} (h : Hold W l) : Hold W (.row (.slice none 0 0) [] :: l) :=
  h.new (Below.refl _ _) (F := fun _ => False) ⟨Sl.nil _ _ _, by decide, fun b => by simp⟩ (fun _ h => h.elim)
/-- What an append to a slice of the call's own leaves (the law wpList_app2 and its kin). -/
theorem Hold.append {W W' : World} {l : List Res} {e : TypeId} {sz n : Nat} {v : Value} {cs : List Value} (h : Hold W (.own e sz v n cs :: l)) {v' : Value} {n' : Nat} {cs' : List Value} {B : Nat} (hr : Own W' B e sz v' n' cs')
    (hk : Keeps (fun k => v.ownBlock = some k ∧ B ≤ k ∨ W.heap.size ≤ k) W W') (hv : ∀ b, v'.ownBlock = some b → (v.ownBlock = some b ∨ W.heap.size ≤ b) ∧ b < W'.heap.size) : Hold W' (.own e sz v' n' cs' :: l) := by
  refine h.turn fun F hF => ⟨fun k => v'.ownBlock = some k, ⟨hr.base (Nat.zero_le _), fun b hb => (hv b hb).2, fun _ => Iff.rfl⟩, fun b hb => ?_, hk.mono fun k hk => ?_⟩
  · rcases (hv b hb).1 with h | h
    · exact .inl ((hF.2.2 b).2 h)
    · exact .inr h
  · rcases hk with h | h
    · exact .inl ((hF.2.2 k).2 h.1)
    · exact .inr h
theorem Hold.swap {W : World} {a b : Res} {l : List Res} (h : Hold W (a :: b :: l)) : Hold W (b :: a :: l) := h.perm (.swap _ _ _)
theorem Hold.pull3 {W : World} {a b c : Res} {l : List Res} (h : Hold W (a :: b :: c :: l)) : Hold W (c :: a :: b :: l) := h.perm (List.perm_middle (l₁ := [a, b]))
theorem Hold.push3 {W : World} {a b c : Res} {l : List Res} (h : Hold W (c :: a :: b :: l)) : Hold W (a :: b :: c :: l) := h.perm (List.perm_middle (l₁ := [a, b])).symm
theorem Hold.pull4 {W : World} {a b c d : Res} {l : List Res} (h : Hold W (a :: b :: c :: d :: l)) : Hold W (d :: a :: b :: c :: l) := h.perm (List.perm_middle (l₁ := [a, b, c]))
theorem Hold.push4 {W : World} {a b c d : Res} {l : List Res} (h : Hold W (d :: a :: b :: c :: l)) : Hold W (a :: b :: c :: d :: l) := h.perm (List.perm_middle (l₁ := [a, b, c])).symm
theorem Hold.pull5 {W : World} {a b c d e : Res} {l : List Res} (h : Hold W (a :: b :: c :: d :: e :: l)) : Hold W (e :: a :: b :: c :: d :: l) := h.perm (List.perm_middle (l₁ := [a, b, c, d]))
theorem Hold.push5 {W : World} {a b c d e : Res} {l : List Res} (h : Hold W (e :: a :: b :: c :: d :: l)) : Hold W (a :: b :: c :: d :: e :: l) := h.perm (List.perm_middle (l₁ := [a, b, c, d])).symm
/-- The first things in another order, by their places. -/
theorem Hold.front {W : World} {m l : List Res} (h : Hold W (m ++ l)) (is : List Nat) (n : Nat) (hp : is.Perm (List.range n)) (hn : m.length = n := by rfl) : Hold W ((is.map fun i => m.getD i .emp) ++ l) := h.perm ((perm_idx _ m is (by rw [hn]; exact hp)).append_right l)
theorem Hold.addBlkAt {W : World} {l : List Res} (h : Hold W l) (cs : List Value) (T : TypeId) {b : Nat} (hb : W.heap.size = b) : Hold (W.alloc (.cells cs.toArray T)) (.blk b cs T :: l) := by
  subst hb
  exact h.addBlk cs T
/-- A literal of nothing. -/
theorem Hold.addEmpty {W : World} {l : List Res} (h : Hold W l) (T : TypeId) (sz : Nat) {b : Nat} (hb : W.heap.size = b) : Hold (W.alloc (.cells #[] T)) (.own T sz (.slice (some ⟨b, 0, none⟩) 0 0) 0 [] :: l) := by
  subst hb
  exact h.new ((Below.refl _ _).alloc (Nat.le_refl _) _) (F := fun k => k = W.heap.size) ⟨Own.nil _ _ _ _ _, fun b hb => by simp [Value.ownBlock] at hb; simp; omega, fun b => by simp [Value.ownBlock, eq_comm]⟩ (fun b hb => by omega)
end Go.Proofs.Ytiplepdmkbiehaa
namespace Go.Proofs.Ytiplepdmkbiehaa
set_option linter.unusedSimpArgs false
set_option linter.unusedVariables false
open Go.RowKit Go.Maps
section
section
open Go.WideElems Go.MapKept Go.ChangeMaps Go.ChangeShapes Go.WideShapes
variable {P : Program} {w : World} {t k e : TypeId}
end
open Go.MapKept
theorem ownsMap_keep {H : Type} {P : Program} {k : TypeId} {R : Value → Option (DataW H × List MemPlace)} {w w' : World} {b n : Nat} {D : DataW H} {S : Nat → Prop} (h : w.ownsMap P k R b n D) (hk : Keeps S w w') (hb : ¬ S b) : w'.ownsMap P k R b n D := by
  obtain ⟨es, clock, h1, hr⟩ := h
  exact ⟨es, clock, (hk.block b hb).trans h1, hr⟩
theorem keeps_grown {w w' : World} {b : Nat} (hg : w.grownBy w' (some b)) : Keeps (fun k => k = b ∨ w.heap.size ≤ k) w w' :=
  (Keeps.refl _ _).grown hg (fun k hk => .inr hk) (fun k hk => by simp only [Option.some.injEq] at hk; exact .inl hk.symm)
end
end Go.Proofs.Ytiplepdmkbiehaa
namespace Go.Proofs.Ytiplepdmkbiehaa
set_option linter.unusedSimpArgs false
set_option linter.unusedVariables false
open Go.RowKit Go.Maps Go.MapKept Go.WideMaps
section
/-- An element, as it stands. -/
def rawR (v : Value) : Option (DataW Value × List MemPlace) := some (.held v, [])
section
variable {α : Type} {kL : α → Lit}
def entV (kL : α → Lit) (x : α × Value) : Lit × DataW Value := (kL x.1, .held x.2)
/-- Keys are told apart. -/
def KInj [DecidableEq α] (kL : α → Lit) : Prop := ∀ a b, (kL a).sameKey (kL b) = decide (a = b)
/-- A map's datum bears these entries. -/
def MapL (kL : α → Lit) (D : DataW Value) (M : List (α × Value)) : Prop := M.Pairwise (fun x y => x.1 ≠ y.1) ∧ ∃ es, D = .map es ∧ es.Perm (M.map (entV kL))
theorem MapL.nil : MapL kL (.map []) [] := ⟨.nil, [], rfl, .refl _⟩
def hasV [DecidableEq α] {β : Type} (M : List (α × β)) (s : α) : Bool := M.any fun x => decide (x.1 = s)
def wipeV [DecidableEq α] {β : Type} (M : List (α × β)) (s : α) : List (α × β) := M.filter fun x => decide (x.1 ≠ s)
def putV [DecidableEq α] {β : Type} (M : List (α × β)) (s : α) (v : β) : List (α × β) := wipeV M s ++ [(s, v)]
def getV [DecidableEq α] {β : Type} (M : List (α × β)) (s : α) (z : β) : β := match M.find? fun x => decide (x.1 = s) with | some x => x.2 | none => z
theorem MapL.has [DecidableEq α] {D : DataW Value} {M : List (α × Value)} (h : MapL kL D M) (hk : KInj kL) (s : α) : Maps.has D (kL s) = hasV M s := by
  obtain ⟨_, es, rfl, hp⟩ := h
  rw [Maps.has_eq]
  unfold hasV
  rw [Bool.eq_iff_iff, List.any_eq_true, List.any_eq_true]
  constructor
  · rintro ⟨p, hp1, hp2⟩
    obtain ⟨x, hx, rfl⟩ := List.mem_map.1 (hp.mem_iff.1 hp1)
    exact ⟨x, hx, by rw [← hp2]; exact (hk _ _).symm⟩
  · rintro ⟨x, hx, h2⟩
    exact ⟨entV kL x, hp.mem_iff.2 (List.mem_map.2 ⟨x, hx, rfl⟩), by rw [← h2]; exact hk _ _⟩
theorem MapL.size {D : DataW Value} {M : List (α × Value)} (h : MapL kL D M) : Maps.size D = M.length := by
  obtain ⟨_, es, rfl, hp⟩ := h
  rw [Maps.size_eq, hp.length_eq, List.length_map]
theorem keyV_inj {β : Type} {M : List (α × β)} (h : M.Pairwise (fun x y => x.1 ≠ y.1)) : ∀ {x y : α × β}, x ∈ M → y ∈ M → x.1 = y.1 → x = y := by
  induction M with
  | nil => intro x y hx; cases hx
  | cons a M ih =>
    obtain ⟨h1, h2⟩ := List.pairwise_cons.1 h
    intro x y hx hy he
    rcases List.mem_cons.1 hx with e1 | hx2
    · rcases List.mem_cons.1 hy with e2 | hy2
      · rw [e1, e2]
      · exact (h1 y hy2 (by rw [← e1]; exact he)).elim
    · rcases List.mem_cons.1 hy with e2 | hy2
      · exact (h1 x hx2 (by rw [← e2]; exact he.symm)).elim
      · exact ih h2 hx2 hy2 he
theorem MapL.at_mem [DecidableEq α] {D : DataW Value} {M : List (α × Value)} (h : MapL kL D M) (hk : KInj kL) {x : α × Value} (hx : x ∈ M) (z : DataW Value) : D.atKey (kL x.1) z = .held x.2 := by
  obtain ⟨hd, es, rfl, hp⟩ := h
  unfold DataW.atKey
  simp only
  cases hf : es.find? fun p => p.1.sameKey (kL x.1) with
  | none =>
    have := List.find?_eq_none.1 hf (entV kL x) (hp.mem_iff.2 (List.mem_map.2 ⟨x, hx, rfl⟩))
    rw [show (entV kL x).1 = kL x.1 from rfl, hk] at this
    simp at this
  | some p =>
    have h1 := List.find?_some hf
    have h2 := List.mem_of_find?_eq_some hf
    obtain ⟨y, hy, rfl⟩ := List.mem_map.1 (hp.mem_iff.1 h2)
    rw [show (entV kL y).1 = kL y.1 from rfl, hk] at h1
    rw [keyV_inj hd hx hy (by simpa using (of_decide_eq_true h1).symm)]
    rfl
theorem MapL.at_no [DecidableEq α] {D : DataW Value} {M : List (α × Value)} (h : MapL kL D M) (hk : KInj kL) {s : α} (hs : hasV M s = false) (z : DataW Value) : D.atKey (kL s) z = z := by
  have hh := h.has hk s
  obtain ⟨hd, es, rfl, hp⟩ := h
  rw [hs, Maps.has_eq] at hh
  unfold DataW.atKey
  simp only
  rw [List.find?_eq_none.2 fun p hp2 => by
    have := List.any_eq_false.1 hh p hp2
    simpa using this]
theorem getV_mem [DecidableEq α] {β : Type} {M : List (α × β)} {s : α} (h : hasV M s = true) (z : β) : (s, getV M s z) ∈ M := by
  unfold hasV at h
  unfold getV
  cases hf : M.find? fun x => decide (x.1 = s) with
  | none =>
    obtain ⟨x, hx, hs⟩ := List.any_eq_true.1 h
    exact (List.find?_eq_none.1 hf x hx hs).elim
  | some x =>
    have h1 := List.find?_some hf
    have h2 := List.mem_of_find?_eq_some hf
    have : x.1 = s := by simpa using h1
    subst this
    exact h2
theorem getV_no [DecidableEq α] {β : Type} {M : List (α × β)} {s : α} (h : hasV M s = false) (z : β) : getV M s z = z := by
  unfold getV
  rw [List.find?_eq_none.2 fun x hx => by
    have := List.any_eq_false.1 h x hx
    simpa using this]
theorem MapL.at [DecidableEq α] {D : DataW Value} {M : List (α × Value)} (h : MapL kL D M) (hk : KInj kL) (s : α) (z : Value) : D.atKey (kL s) (.held z) = .held (getV M s z) := by
  cases hs : hasV M s with
  | false => rw [h.at_no hk hs, getV_no hs]
  | true => exact h.at_mem hk (getV_mem hs z) _
theorem filterV_del [DecidableEq α] (hk : KInj kL) (M : List (α × Value)) (s : α) : (M.map (entV kL)).filter (fun p => !p.1.sameKey (kL s)) = (wipeV M s).map (entV kL) := by
  unfold wipeV
  rw [List.filter_map]
  congr 1
  apply List.filter_congr
  intro x _
  simp only [Function.comp, entV, hk _ _]
  by_cases h : x.1 = s <;> simp [h]
theorem MapL.put [DecidableEq α] {D : DataW Value} {M : List (α × Value)} (h : MapL kL D M) (hk : KInj kL) (s : α) (v : Value) : MapL kL (D.put (kL s) (.held v)) (putV M s v) := by
  obtain ⟨hd, es, rfl, hp⟩ := h
  refine ⟨?_, _, rfl, (WideShapes.insert_perm _ _).trans ?_⟩
  · unfold putV
    rw [List.pairwise_append]
    refine ⟨hd.filter _, by simp, fun x hx y hy => ?_⟩
    simp only [List.mem_singleton] at hy
    subst hy
    simpa using (List.mem_filter.1 hx).2
  · unfold putV
    rw [List.map_append, ← filterV_del hk]
    refine .trans ?_ List.perm_append_comm
    exact (hp.filter _).cons _
theorem putV_length [DecidableEq α] {β : Type} (M : List (α × β)) (s : α) (v : β) : (putV M s v).length ≤ M.length + 1 := by
  unfold putV wipeV
  have := List.length_filter_le (fun x : α × β => decide (x.1 ≠ s)) M
  rw [List.length_append, List.length_singleton]
  omega
theorem wipeV_map [DecidableEq α] {β γ : Type} (f : β → γ) (M : List (α × β)) (s : α) : wipeV (M.map fun x => (x.1, f x.2)) s = (wipeV M s).map fun x => (x.1, f x.2) := by
  unfold wipeV
  rw [List.filter_map]
  rfl
theorem putV_map [DecidableEq α] {β γ : Type} (f : β → γ) (M : List (α × β)) (s : α) (v : β) : putV (M.map fun x => (x.1, f x.2)) s (f v) = (putV M s v).map fun x => (x.1, f x.2) := by
  unfold putV
  rw [wipeV_map, List.map_append]
  rfl
theorem hasV_map [DecidableEq α] {β γ : Type} (f : β → γ) (M : List (α × β)) (s : α) : hasV (M.map fun x => (x.1, f x.2)) s = hasV M s := by
  unfold hasV
  rw [List.any_map]
  rfl
theorem getV_map [DecidableEq α] {β γ : Type} (f : β → γ) (M : List (α × β)) (s : α) (z : β) : getV (M.map fun x => (x.1, f x.2)) s (f z) = f (getV M s z) := by
  cases h : hasV M s with
  | false => rw [getV_no h, getV_no (by rw [hasV_map]; exact h)]
  | true =>
    unfold getV
    rw [List.find?_map]
    have h1 : ∃ x, (M.find? fun x => decide (x.1 = s)) = some x := by
      cases hf : M.find? fun x => decide (x.1 = s) with
      | none =>
        obtain ⟨x, hx, hs⟩ := List.any_eq_true.1 h
        exact (List.find?_eq_none.1 hf x hx hs).elim
      | some x => exact ⟨x, rfl⟩
    obtain ⟨x, hx⟩ := h1
    have : (M.find? ((fun x : α × γ => decide (x.1 = s)) ∘ fun x : α × β => (x.1, f x.2))) = some x := hx
    rw [this, hx]
    rfl
theorem find_wipe [DecidableEq α] {β : Type} {s t : α} (h : ¬ s = t) : ∀ M : List (α × β), ((wipeV M s).find? fun x => decide (x.1 = t)) = M.find? fun x => decide (x.1 = t)
  | [] => rfl
  | x :: M => by
    unfold wipeV
    rw [List.filter_cons]
    have ih := find_wipe h M
    unfold wipeV at ih
    by_cases e : x.1 = s
    · have e3 : decide (x.1 = t) = false := by simp; exact fun e2 => h (e.symm.trans e2)
      rw [if_neg (by simp [e]), ih, List.find?_cons, e3]
    · simp only [ne_eq, e, not_false_eq_true, decide_true, if_true, List.find?_cons]
      rw [ih]
theorem getV_put [DecidableEq α] {β : Type} (M : List (α × β)) (s t : α) (v z : β) : getV (putV M s v) t z = if s = t then v else getV M t z := by
  unfold getV putV
  rw [List.find?_append]
  by_cases h : s = t
  · subst h
    have : ((wipeV M s).find? fun x => decide (x.1 = s)) = none := by
      rw [List.find?_eq_none]
      intro x hx
      have := (List.mem_filter.1 hx).2
      simpa using this
    simp [this, List.find?_cons]
  · rw [find_wipe h, if_neg h]
    cases M.find? fun x => decide (x.1 = t) with
    | some x => rfl
    | none => simp [List.find?_cons, h]
theorem putV_hasnt [DecidableEq α] {β : Type} {M : List (α × β)} {s : α} (h : hasV M s = false) (v : β) : putV M s v = M ++ [(s, v)] := by
  unfold putV wipeV
  rw [List.filter_eq_self.2]
  intro x hx
  have := List.any_eq_false.1 h x hx
  simpa using this
/-- A map, in memory. -/
def mapV (P : Program) (k : TypeId) (kL : α → Lit) (b : Nat) (M : List (α × Value)) : Res where
  holds W F := (∃ D, MapL kL D M ∧ W.ownsMap P k rawR b (Maps.size D) D) ∧ ∀ x, F x ↔ x = b
  frame := by
    rintro W W' F S ⟨⟨D, h1, h2⟩, hf⟩ hk hs
    exact ⟨⟨D, h1, ownsMap_keep h2 hk (hs b ((hf b).2 rfl))⟩, hf⟩
  lt := by
    rintro W F x ⟨⟨D, _, ⟨es, clock, h1, _⟩⟩, hf⟩ hx
    rw [(hf x).1 hx]
    exact block_lt h1
theorem ownsMapV_tight {P : Program} {k : TypeId} {w : World} {b n : Nat} {D : DataW Value} (h : w.ownsMap P k rawR b n D) : w.ownsMap P k rawR b (Maps.size D) D := by
  obtain ⟨es, clock, h1, h2, h3, rfl⟩ := h
  exact ⟨es, clock, h1, h2, by rw [Maps.size_eq, length_read]; exact Nat.le_refl _, rfl⟩
/-- That a map stands in block b: what its laws ask. -/
def MapAt (P : Program) (k : TypeId) (kL : α → Lit) (W : World) (b : Nat) (M : List (α × Value)) : Prop := ∃ D, MapL kL D M ∧ W.ownsMap P k rawR b (Maps.size D) D
theorem Hold.mapVOf {W : World} {l : List Res} (h : Hold W l) {P : Program} {k : TypeId} {b : Nat} {M : List (α × Value)} (hm : mapV P k kL b M ∈ l) : MapAt P k kL W b M := by
  obtain ⟨F, hr⟩ := h.get hm
  exact hr.1
theorem MapAt.keep {P : Program} {k : TypeId} {W W' : World} {b : Nat} {M : List (α × Value)} {S : Nat → Prop} (h : MapAt P k kL W b M) (hk : Keeps S W W') (hb : ¬ S b) : MapAt P k kL W' b M := by
  obtain ⟨D, h1, h2⟩ := h
  exact ⟨D, h1, ownsMap_keep h2 hk hb⟩
theorem MapAt.lt {P : Program} {k : TypeId} {W : World} {b : Nat} {M : List (α × Value)} (h : MapAt P k kL W b M) : b < W.heap.size := by
  obtain ⟨D, _, h2⟩ := h
  exact h2.lt
theorem Hold.mapVTurn {W W' : World} {l : List Res} {P : Program} {k : TypeId} {b : Nat} {M M' : List (α × Value)} (h : Hold W (mapV P k kL b M :: l)) (ho : MapAt P k kL W' b M') (ht : Keeps (fun k => k = b ∨ W.heap.size ≤ k) W W') : Hold W' (mapV P k kL b M' :: l) :=
  h.turn fun F hF => ⟨F, ⟨ho, hF.2⟩, fun b hb => .inl hb, ht.mono fun k hk => hk.elim (fun e => .inl ((hF.2 k).2 e)) .inr⟩
theorem Hold.mapVMade {W : World} {l : List Res} (h : Hold W l) (P : Program) (k : TypeId) (kL : α → Lit) : Hold (W.alloc (.map #[] 0)) (mapV P k kL W.heap.size [] :: l) :=
  h.new ((Below.refl _ _).alloc (Nat.le_refl _) _) (F := fun x => x = W.heap.size) ⟨⟨.map [], MapL.nil, World.ownsMap_made W P k rawR⟩, fun _ => Iff.rfl⟩ (fun b hb => by omega)
section
variable {P : Program} (w : World) {ops : Array Oper} {rest : List Oper} {o : Oper} {a : Act} {Q : Exit → Act → World → Prop}
/-- 'v, ok := m[k]'. -/
theorem wpList_lookupV_ok [DecidableEq α] (hgd : Region.wanted o (yielded ops a.tmps) = true) (m x : Operand) (t : TypeId) (hop : o.op = Op.lookup t m x true) (k e : TypeId) (K : Keyed P k) (hk : KInj kL) (ht : P.underlying t = some (.map k e)) {z : Value} (hz : (zeroValue e).run P w = .ok z w) (b : Nat) (M : List (α × Value))
    (hm : a.eval m = .map (some b)) (hown : MapAt P k kL w b M) (s : α) (hkey : keyOf P k (a.eval x) = some (kL s))
    (h : wpList P ops Q rest (a.put o.dst (.tuple #[getV M s z, .bool (hasV M s)])) w) : wpList P ops Q (o :: rest) a w := by
  refine wpList_want hgd fun K' hK' => ?_
  obtain ⟨D, hd, ho⟩ := hown
  obtain ⟨v, ps, hrun, hv⟩ := ho.look_ok K ht hz (zd := .held z) (zp := []) rfl hkey
  rw [hd.at hk] at hv
  simp only [rawR, Option.some.injEq, Prod.mk.injEq, DataW.held.injEq] at hv
  rw [hv.1, hd.has hk] at hrun
  unfold Oper.wp
  simp [execOp, hop, hm, hrun, Result.andThen]
  exact hK' _ _ h
/-- 'm[k]'. -/
theorem wpList_lookupV [DecidableEq α] (hgd : Region.wanted o (yielded ops a.tmps) = true) (m x : Operand) (t : TypeId) (hop : o.op = Op.lookup t m x false) (k e : TypeId) (K : Keyed P k) (hk : KInj kL) (ht : P.underlying t = some (.map k e)) {z : Value} (hz : (zeroValue e).run P w = .ok z w) (b : Nat) (M : List (α × Value))
    (hm : a.eval m = .map (some b)) (hown : MapAt P k kL w b M) (s : α) (hkey : keyOf P k (a.eval x) = some (kL s))
    (h : wpList P ops Q rest (a.put o.dst (getV M s z)) w) : wpList P ops Q (o :: rest) a w := by
  refine wpList_want hgd fun K' hK' => ?_
  obtain ⟨D, hd, ho⟩ := hown
  obtain ⟨v, ps, hrun, hv⟩ := ho.lookup K ht hz (zd := .held z) (zp := []) rfl hkey
  rw [hd.at hk] at hv
  simp only [rawR, Option.some.injEq, Prod.mk.injEq, DataW.held.injEq] at hv
  rw [hv.1] at hrun
  unfold Oper.wp
  simp [execOp, hop, hm, hrun, Result.andThen]
  exact hK' _ _ h
/-- 'm[k] = v'. -/
theorem wpList_updateV [DecidableEq α] (hgd : Region.wanted o (yielded ops a.tmps) = true) (m x v : Operand) (t : TypeId) (hop : o.op = Op.mapUpdate t m x v) (k e : TypeId) (K : Keyed P k) (hk : KInj kL) (ht : P.underlying t = some (.map k e)) (b : Nat) (M : List (α × Value))
    (hm : a.eval m = .map (some b)) (hown : MapAt P k kL w b M) (hn : M.length < maxLen) (s : α) (hkey : keyOf P k (a.eval x) = some (kL s))
    (h : ∀ w', MapAt P k kL w' b (putV M s (a.eval v)) → Keeps (fun k => k = b ∨ w.heap.size ≤ k) w w' → w'.heap.size = w.heap.size → wpList P ops Q rest (a.put o.dst undef) w') : wpList P ops Q (o :: rest) a w := by
  refine wpList_want hgd fun K' hK' => ?_
  obtain ⟨D, hd, ho⟩ := hown
  obtain ⟨w', hrun, r1, r2⟩ := ho.store K ht (by rw [hd.size]; exact hn) hkey (val := a.eval v) (d := .held (a.eval v)) (ps := []) rfl
  unfold Oper.wp
  simp [execOp, hop, hm, hrun, Result.andThen]
  refine hK' _ _ (h w' ⟨_, hd.put hk s (a.eval v), ownsMapV_tight r1⟩ (keeps_grown r2.grown) ?_)
  obtain ⟨es, clock, es', clock', e1, rfl⟩ := r2
  simp [Go.ChangeMaps.setBlock]
/-- 'len(m)'. -/
theorem wpList_lenV [DecidableEq α] (hgd : Region.wanted o (yielded ops a.tmps) = true) (m : Operand) (t : TypeId) (hop : o.op = Op.call { callee := Callee.builtin Builtin.len, args := #[m], argTypes := #[t] }) (k e : TypeId) (ht : P.underlying t = some (.map k e)) (b : Nat) (M : List (α × Value))
    (hm : a.eval m = .map (some b)) (hown : MapAt P k kL w b M) (h : wpList P ops Q rest (a.put o.dst (.int .i64 (M.length : Int))) w) : wpList P ops Q (o :: rest) a w := by
  refine wpList_want hgd fun K' hK' => ?_
  obtain ⟨D, hd, ho⟩ := hown
  unfold Oper.wp
  simp [execOp, hop, resolve, invoke, builtin, hm, ho.len ht o.type, Result.andThen]
  rw [hd.size]
  exact hK' _ _ h
end
/-- A map over which a loop goes: 'left' says which keys are still to come. -/
def rngV (P : Program) (k : TypeId) (kL : α → Lit) (b r : Nat) (M : List (α × Value)) (left : Lit → Bool) (cnt : Nat) : Res where
  holds W F := (∃ n D, MapL kL D M ∧ W.ranges P k rawR b r n D left cnt) ∧ ∀ x, F x ↔ x = b ∨ x = r
  frame := by
    rintro W W' F S ⟨⟨n, D, hd, ⟨es, clock, since, seen, c0, h1, h2, h3, h4, h5, h6⟩⟩, hf⟩ hk hs
    exact ⟨⟨n, D, hd, ⟨es, clock, since, seen, c0, by rw [hk.block b (hs b ((hf b).2 (.inl rfl)))]; exact h1, h2, h3, h4, by rw [hk.block r (hs r ((hf r).2 (.inr rfl)))]; exact h5, h6⟩⟩, hf⟩
  lt := by
    rintro W F x ⟨⟨n, D, _, h⟩, hf⟩ hx
    rcases (hf x).1 hx with rfl | rfl
    · obtain ⟨es, clock, since, seen, c0, h1, _⟩ := h
      exact block_lt h1
    · exact h.lt
def RngAt (P : Program) (k : TypeId) (kL : α → Lit) (W : World) (b r : Nat) (M : List (α × Value)) (left : Lit → Bool) (cnt : Nat) : Prop := ∃ n D, MapL kL D M ∧ W.ranges P k rawR b r n D left cnt
theorem RngAt.left_eq {P : Program} {k : TypeId} {W : World} {b r : Nat} {M : List (α × Value)} {left : Lit → Bool} {cnt : Nat} (h : RngAt P k kL W b r M left cnt) : W.rangeLeft b r = cnt := by
  obtain ⟨n, D, _, h⟩ := h
  exact h.left_eq
theorem Hold.rngVOf {W : World} {l : List Res} {P : Program} {k : TypeId} {b r : Nat} {M : List (α × Value)} {left : Lit → Bool} {cnt : Nat} (h : Hold W (rngV P k kL b r M left cnt :: l)) : RngAt P k kL W b r M left cnt := by
  obtain ⟨F, hr⟩ := h.head
  exact hr.1
theorem Hold.rngVTurn {W W' : World} {l : List Res} {P : Program} {k : TypeId} {b r : Nat} {M : List (α × Value)} {left left' : Lit → Bool} {cnt cnt' : Nat} (h : Hold W (rngV P k kL b r M left cnt :: l)) (hr : RngAt P k kL W' b r M left' cnt') (hg : Keeps (fun k => k = r ∨ W.heap.size ≤ k) W W') : Hold W' (rngV P k kL b r M left' cnt' :: l) :=
  h.turn fun F hF => ⟨F, ⟨hr, hF.2⟩, fun b hb => .inl hb, hg.mono fun k hk => hk.elim (fun e => .inl ((hF.2 k).2 (.inr e))) .inr⟩
theorem Hold.rngVStart {W W' : World} {l : List Res} {P : Program} {k : TypeId} {b : Nat} {M : List (α × Value)} {left : Lit → Bool} {cnt : Nat} (h : Hold W (mapV P k kL b M :: l)) (hr : RngAt P k kL W' b W.heap.size M left cnt) (hg : Below W.heap.size W W') : Hold W' (rngV P k kL b W.heap.size M left cnt :: l) :=
  h.turn fun F hF => ⟨fun x => x = b ∨ x = W.heap.size, ⟨hr, fun _ => Iff.rfl⟩, fun x hx => hx.elim (fun e => .inl ((hF.2 x).2 e)) (fun e => .inr (by rw [e]; exact Nat.le_refl _)), (Keeps.of_below hg).mono fun k hk => .inr hk⟩
theorem Hold.rngVEnd {W : World} {l : List Res} {P : Program} {k : TypeId} {b r : Nat} {M : List (α × Value)} {left : Lit → Bool} {cnt : Nat} (h : Hold W (rngV P k kL b r M left cnt :: l)) : Hold W (mapV P k kL b M :: l) :=
  h.weaken fun F hF => ⟨fun x => x = b, ⟨by obtain ⟨n, D, hd, hr⟩ := hF.1; exact ⟨D, hd, ownsMapV_tight hr.owns⟩, fun _ => Iff.rfl⟩, fun x hx => (hF.2 x).2 (.inl hx)⟩
theorem below_grown {w w' : World} (hg : w.grownBy w' none) : Below w.heap.size w w' :=
  ⟨hg.os, hg.tape, hg.output, hg.size, fun b hb => hg.block b hb (by simp)⟩
section
variable {P : Program} (w : World) {ops : Array Oper} {rest : List Oper} {o : Oper} {a : Act} {Q : Exit → Act → World → Prop}
/-- 'range m'. -/
theorem wpList_rangeV [DecidableEq α] (hg : o.guard = none) (m : Operand) (t : TypeId) (hop : o.op = Op.range t m) (k e : TypeId) (K : Keyed P k) (hk : KInj kL) (ht : P.underlying t = some (.map k e)) (b : Nat) (M : List (α × Value))
    (hm : a.eval m = .map (some b)) (hown : MapAt P k kL w b M)
    (h : ∀ w' left, (∀ s, left (kL s) = hasV M s) → RngAt P k kL w' b w.heap.size M left M.length → Below w.heap.size w w' → wpList P ops Q rest (a.put o.dst (.pointer (some ⟨w.heap.size, 0, none⟩))) w') : wpList P ops Q (o :: rest) a w := by
  obtain ⟨D, hd, ho⟩ := hown
  refine wpList_range_own w hg m t hop k e K ht rawR b _ D hm ho fun w' r1 r2 r3 => ?_
  rw [hd.size] at r1
  exact h w' (Maps.has D) (fun s => hd.has hk s) ⟨_, D, hd, r1⟩ (below_grown r2)
/-- The loop's step. -/
theorem wpList_nextV [DecidableEq α] (hg : o.guard = none) (it : Operand) (hop : o.op = Op.next it false) (k : TypeId) (K : Keyed P k) (hk : KInj kL) (kV : α → Value) (hkV : ∀ key kl, keyOf P k key = some kl → ∃ s, key = kV s ∧ kl = kL s) (b r : Nat) (M : List (α × Value)) (left : Lit → Bool) (cnt : Nat)
    (hit : a.eval it = .pointer (some ⟨r, 0, none⟩)) (h : RngAt P k kL w b r M left cnt)
    (hDone : cnt = 0 → (∀ kl, left kl = false) → wpList P ops Q rest (a.put o.dst (.tuple #[.bool false])) w)
    (hMore : ∀ (s : α) (v : Value) (w' : World) (cnt' : Nat), (s, v) ∈ M → left (kL s) = true → RngAt P k kL w' b r M (fun z => left z && !z.sameKey (kL s)) cnt' → cnt' < cnt → Keeps (fun k => k = r ∨ w.heap.size ≤ k) w w' → w'.heap.size = w.heap.size →
      (Instr.entry (.pointer (some ⟨r, 0, none⟩))).run P w' = .ok (.tuple #[kV s, v]) w' → wpList P ops Q rest (a.put o.dst (.tuple #[.bool true, kV s, v])) w') : wpList P ops Q (o :: rest) a w := by
  obtain ⟨n, D, hd, hr⟩ := h
  refine wpList_next_ranges w hg it hop k K rawR kV id (fun key kl h => by obtain ⟨s, h1, _⟩ := hkV key kl h; exact ⟨s, h1⟩) (fun v y _ => ⟨v, rfl⟩) b r n D left cnt hit hr hDone ?_
  intro s v kl y w' cnt' hkey hl hv hat hr' hlt hgr hsz hen
  obtain ⟨s', hs1, hs2⟩ := hkV _ _ hkey
  rw [hs2] at hr' hl hat
  have hsome : (s', v) ∈ M := by
    simp only [rawR, id, Option.some.injEq] at hv
    have hy : y.1 = .held v := by rw [← hv]
    cases hh : hasV M s' with
    | false =>
      have h1 := hat (.map [])
      rw [hd.at_no hk hh, hy] at h1
      cases h1
    | true =>
      have h1 := hat (.held v)
      rw [hd.at_mem hk (getV_mem hh v), hy] at h1
      simp only [DataW.held.injEq] at h1
      have := getV_mem hh v
      rw [h1] at this
      exact this
  rw [hs1]
  rw [hs1] at hen
  exact hMore s' v w' cnt' hsome hl ⟨n, D, hd, hr'⟩ hlt (keeps_grown hgr) hsz hen
end
end
theorem intInj (q : IntKind) : KInj (fun n : Int => (Lit.int q n)) := by
  intro a b
  unfold Lit.sameKey
  by_cases h : a = b
  · subst h; simp
  · simp [h]
end
end Go.Proofs.Ytiplepdmkbiehaa
namespace Go.Proofs.Ytiplepdmkbiehaa
set_option linter.unusedSimpArgs false
set_option linter.unusedVariables false
open Go.RowKit
theorem elBytes : Elem Try.prog 40 5 1 1 (.int .u8 0) := by
  refine Elem.mk Try.underlying40 ?_ rfl (by decide)
  kernel_rfl
theorem mkBytes (w : World) (n : Nat) (C : Int) (hC : C = n) (hn : n ≤ 281474976710656) :
    (Instr.makeSlice 40 (.int .i64 C) (.int .i64 C)).run Try.prog w = .ok (.slice (some ⟨w.heap.size, 0, none⟩) n n) (w.alloc (.cells (List.replicate n (.int .u8 0)).toArray 5)) := by
  obtain ⟨ht, i, hi, hz, hsize, hby, hzs, hsz⟩ := elBytes
  subst hC
  rw [run_make w _ _ i _ ht hi hz .i64 .i64 n n (by omega) (Int.le_refl _) (by rw [hby]; omega) (by omega), hsize]
  simp only [Int.toNat_natCast, Nat.mul_one]
  rw [← toList_madeCells_one]
  rfl
/-- A slice of one cell each that the call owns, from some place of its block on to the block's end: it may be appended to. -/
def OwnO (w : World) (B : Nat) (e : TypeId) (v : Value) (n : Nat) (cs : List Value) : Prop :=
  cs.length = n ∧ (∀ u ∈ cs, u.oneCell' = true) ∧
  ((∃ a, v = .slice a 0 0 ∧ n = 0) ∨
   ∃ g o cap cur, v = .slice (some ⟨g, o, none⟩) n cap ∧ B ≤ g ∧ w.heap[g]? = some (.cells cur e (0, 0)) ∧ n ≤ cap ∧ cap ≤ maxLen ∧ cur.size = o + cap ∧ (cur.toList.drop o).take n = cs)
theorem OwnO.of_own {w : World} {B : Nat} {e : TypeId} {v : Value} {n : Nat} {cs : List Value} (h : Own w B e 1 v n cs) : OwnO w B e v n cs := by
  obtain ⟨h0, h1, h2 | ⟨g, cap, cur, hv, h2, h3, h4, h5, h6, h7⟩⟩ := h
  · exact ⟨by omega, h1, .inl h2⟩
  · exact ⟨by omega, h1, .inr ⟨g, 0, cap, cur, hv, h2, h3, h4, h5, by omega, by simpa using h7⟩⟩
theorem OwnO.sl {w : World} {B : Nat} {e : TypeId} {v : Value} {n : Nat} {cs : List Value} (h : OwnO w B e v n cs) : Sl w 1 v n cs := by
  obtain ⟨h0, h1, ⟨a, rfl, rfl⟩ | ⟨g, o, cap, cur, rfl, h2, h3, h4, h5, h6, h7⟩⟩ := h
  · exact ⟨by omega, h1, a, 0, rfl, Nat.le_refl _, Nat.zero_le _, fun _ => rfl, .inl (List.eq_nil_of_length_eq_zero (by omega))⟩
  · refine ⟨by omega, h1, _, cap, rfl, h4, h5, fun h => by simp at h, .inr ⟨g, o, rfl, fun j u hj => ?_⟩⟩
    have hjl : j < n := by have := (List.getElem?_eq_some_iff.1 hj).1; omega
    rw [← h7, List.getElem?_take, if_pos hjl, List.getElem?_drop] at hj
    rw [cell_of_row w g (o + j) cur e (0, 0) h3, ← Array.getElem?_toList]
    exact hj
theorem OwnO.base {w : World} {B B' : Nat} {e : TypeId} {v : Value} {n : Nat} {cs : List Value} (h : OwnO w B e v n cs) (hB : B' ≤ B) : OwnO w B' e v n cs := by
  obtain ⟨h0, h1, h2 | ⟨g, o, cap, cur, hv, h2, hr⟩⟩ := h
  · exact ⟨h0, h1, .inl h2⟩
  · exact ⟨h0, h1, .inr ⟨g, o, cap, cur, hv, by omega, hr⟩⟩
theorem OwnO.keep {w w' : World} {B : Nat} {e : TypeId} {v : Value} {n : Nat} {cs : List Value} {S : Nat → Prop} (h : OwnO w B e v n cs) (hk : Keeps S w w') (hb : ∀ b, v.ownBlock = some b → ¬ S b) : OwnO w' B e v n cs := by
  obtain ⟨h0, h1, h2 | ⟨g, o, cap, cur, rfl, h2, h3, hr⟩⟩ := h
  · exact ⟨h0, h1, .inl h2⟩
  · exact ⟨h0, h1, .inr ⟨g, o, cap, cur, rfl, h2, (hk.block g (hb g rfl)).trans h3, hr⟩⟩
theorem OwnO.below {w w' : World} {B : Nat} {e : TypeId} {v : Value} {n : Nat} {cs : List Value} (h : OwnO w B e v n cs) (hk : Below w.heap.size w w') : OwnO w' B e v n cs := by
  obtain ⟨h0, h1, h2 | ⟨g, o, cap, cur, rfl, h2, h3, hr⟩⟩ := h
  · exact ⟨h0, h1, .inl h2⟩
  · exact ⟨h0, h1, .inr ⟨g, o, cap, cur, rfl, h2, (hk.block g (block_lt h3)).trans h3, hr⟩⟩
theorem OwnO.alloc {w : World} {B : Nat} {e : TypeId} {v : Value} {n : Nat} {cs : List Value} (h : OwnO w B e v n cs) (o : Obj) : OwnO (w.alloc o) B e v n cs := h.below ((Below.refl _ _).alloc (Nat.le_refl _) _)
theorem OwnO.drew {w : World} {B : Nat} {e : TypeId} {v : Value} {n : Nat} {cs : List Value} (h : OwnO w B e v n cs) : OwnO w.drew B e v n cs := h
theorem OwnO.drewN {w : World} {B : Nat} {e : TypeId} {v : Value} {n : Nat} {cs : List Value} (h : OwnO w B e v n cs) (q : Nat) : OwnO (w.drewN q) B e v n cs := h
theorem OwnO.nil (w : World) (B : Nat) (e : TypeId) (a : Option Addr) : OwnO w B e (.slice a 0 0) 0 [] := ⟨rfl, by simp, .inl ⟨a, rfl, rfl⟩⟩
theorem OwnO.form {w : World} {B : Nat} {e : TypeId} {v : Value} {n : Nat} {cs : List Value} (h : OwnO w B e v n cs) (hn : 0 < n) : ∃ g o cap, v = .slice (some ⟨g, o, none⟩) n cap ∧ B ≤ g ∧ n ≤ cap ∧ cap ≤ maxLen := by
  obtain ⟨h0, h1, ⟨a, rfl, rfl⟩ | ⟨g, o, cap, cur, rfl, h2, h3, h4, h5, h6, h7⟩⟩ := h
  · omega
  · exact ⟨g, o, cap, rfl, h2, h4, h5⟩
/-- Cut in front. -/
theorem OwnO.cut {w : World} {B : Nat} {e : TypeId} {g o n cap : Nat} {cs : List Value} (h : OwnO w B e (.slice (some ⟨g, o, none⟩) n cap) n cs) (k : Nat) (hk : k ≤ n) :
    OwnO w B e (.slice (some ⟨g, o + k, none⟩) (n - k) (cap - k)) (n - k) (cs.drop k) := by
  obtain ⟨h0, h1, ⟨a, hv, rfl⟩ | ⟨g', o', cap', cur, hv, h2, h3, h4, h5, h6, h7⟩⟩ := h
  · simp only [Value.slice.injEq] at hv
    obtain ⟨rfl, _, rfl⟩ := hv
    exact ⟨by simp; omega, fun u hu => h1 u (List.mem_of_mem_drop hu), .inl ⟨some ⟨g, o + k, none⟩, by simp, by omega⟩⟩
  · simp only [Value.slice.injEq, Option.some.injEq, Addr.mk.injEq, and_true, true_and] at hv
    obtain ⟨⟨rfl, rfl⟩, rfl⟩ := hv
    refine ⟨by simp; omega, fun u hu => h1 u (List.mem_of_mem_drop hu), .inr ⟨g, o + k, cap - k, cur, rfl, h2, h3, by omega, by omega, by omega, ?_⟩⟩
    rw [← h7, List.drop_take, List.drop_drop]
theorem run_append_roomO {P : Program} (w : World) (t ty e : TypeId) (i : TypeInfo) (ht : P.underlying t = some (.slice e)) (hi : P.info? e = some i)
    (g o sLen sCap : Nat) (cur : Array Value) (hg : w.heap[g]? = some (.cells cur e (0, 0)))
    (a : Addr) (m c : Nat) (news : List Value) (hl : news.length = m * i.size) (hnews : ∀ j u, news[j]? = some u → w.cell? (a.add j) = some u) (h1 : ∀ u ∈ news, u.oneCell' = true)
    (hroom : sLen + m ≤ sCap) (hfit : o + sLen * i.size + news.length ≤ cur.size) :
    (Builtin.append_ #[t, t] ty #[.slice (some ⟨g, o, none⟩) sLen sCap, .slice (some a) m c]).run P w =
      .ok (.slice (some ⟨g, o, none⟩) (sLen + m) sCap) (w.setRow g (cur.toList.take (o + sLen * i.size) ++ news ++ cur.toList.drop (o + sLen * i.size + news.length)).toArray) := by
  have hf := run_firstCells_some (P := P) w i.size m a m c news hl hnews
  have hst := run_storeCells_at P g (o + sLen * i.size) e news 0 cur w hg (by simpa using hfit) h1
  simp only [Nat.add_zero] at hst
  simp [Builtin.append_, run_underlying ht, sizeOf, typeInfo, hi, Builtin.lenOf, hroom, hf, Addr.add_lit, hst]
/-- copy, as one step of a region that draws its order. -/
theorem step_cp {P : Program} {ops : Array Oper} {o : Oper} {a : Act} {w : World} {K : Act → World → Prop} {Q : Exit → Act → World → Prop} {E : Prop} (hgd : o.guard = none) (d s : Operand) {dT sT e : TypeId} {bytes : Nat} {z : Value}
    (hE : Elem P dT e 1 bytes z) (ho : o.op = .call { callee := .builtin .copy, args := #[d, s], argTypes := #[dT, sT] }) {g off dLen dCap : Nat} {cur : List Value} {T : TypeId} (hb : Blk w g cur T)
    (hd : a.eval d = .slice (some ⟨g, off, none⟩) dLen dCap) {u : Value} (hu : a.eval s = u) {n : Nat} {cs : List Value} (hsl : Sl w 1 u n cs) (hfit : off + min n dLen ≤ cur.length)
    (h : ∀ w', Blk w' g (cur.take off ++ cs.take (min n dLen) ++ cur.drop (off + min n dLen)) T → Keeps (fun k => k = g) w w' → K (a.put o.dst (.int .i64 (min n dLen : Nat))) w') :
    if Region.wanted o (yielded ops a.tmps) = true then Oper.wp P o a w K Q else E := by
  have hw : Region.wanted o (yielded ops a.tmps) = true := by simp [Region.wanted, hgd]
  rw [if_pos hw]
  obtain ⟨w', hr, h2, h3⟩ := run_cp (P := P) (sT := sT) (ty := o.type) hE hb (dLen := dLen) (dCap := dCap) hsl hfit
  unfold Oper.wp execOp
  simp only [ho, resolve, invoke, builtin, Sem.run_bind, Sem.run_pure, Result.andThen_ok, List.map_toArray, List.map_cons, List.map_nil, hd, hu, hr]
  exact h w' h2 h3
end Go.Proofs.Ytiplepdmkbiehaa
