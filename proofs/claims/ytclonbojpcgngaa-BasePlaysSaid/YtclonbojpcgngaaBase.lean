/- Base lemmas, no program: what a world keeps, slices that read as lists, append and its kin for slices of the call's own. -/
import Derived.WalkKit
import Derived.ProofKit
import Derived.OpenShut
import Derived.Laws.CopyOwn
import Derived.Deep.Draws
import Derived.Deep.QuietTactic
import Derived.BigQuiet
import Derived.Lib.Hide
import Derived.Deep.RegionLawGrows
import Derived.Deep.RegionHeld3
import Derived.ChangeAlike
import Derived.RegionTactic
import Derived.WalkSmall
namespace Go.Proofs.Ytclonbojpcgngaa
set_option linter.unusedSimpArgs false
set_option linter.unusedVariables false
open Go.RowKit

theorem ownBlock_eq (a : Option Addr) (n c n' c' : Nat) : (Value.slice a n c).ownBlock = (Value.slice a n' c').ownBlock := by cases a <;> rfl

/-- Only blocks of S may have changed; the streams are as they were. -/
structure Keeps (S : Nat → Prop) (w w' : World) : Prop where
  os : w'.os = w.os
  tape : w'.tape = w.tape
  output : w'.output = w.output
  size : w.heap.size ≤ w'.heap.size
  block : ∀ k, ¬ S k → w'.heap[k]? = w.heap[k]?

theorem Keeps.refl (S : Nat → Prop) (w : World) : Keeps S w w := ⟨rfl, rfl, rfl, Nat.le_refl _, fun _ _ => rfl⟩

theorem Keeps.trans {S : Nat → Prop} {a b c : World} (h : Keeps S a b) (k : Keeps S b c) : Keeps S a c :=
  ⟨k.os.trans h.os, k.tape.trans h.tape, k.output.trans h.output, Nat.le_trans h.size k.size, fun i hi => (k.block i hi).trans (h.block i hi)⟩

theorem Keeps.mono {S T : Nat → Prop} {w w' : World} (h : Keeps S w w') (hs : ∀ k, S k → T k) : Keeps T w w' :=
  ⟨h.os, h.tape, h.output, h.size, fun k hk => h.block k (fun x => hk (hs k x))⟩

theorem Keeps.of_below {B : Nat} {w w' : World} (h : Below B w w') : Keeps (fun k => B ≤ k) w w' :=
  ⟨h.os, h.tape, h.output, h.size, fun k hk => h.block k (by omega)⟩

theorem Keeps.below {B : Nat} {S : Nat → Prop} {w w' : World} (h : Keeps S w w') (hs : ∀ k, S k → B ≤ k) : Below B w w' :=
  ⟨h.os, h.tape, h.output, h.size, fun k hk => h.block k (fun x => by have := hs k x; omega)⟩

theorem Keeps.drew {S : Nat → Prop} {a w : World} (h : Keeps S a w) : Keeps S a w.drew := ⟨h.os, h.tape, h.output, h.size, h.block⟩

theorem Keeps.drewN {S : Nat → Prop} {a w : World} (h : Keeps S a w) (n : Nat) : Keeps S a (w.drewN n) := ⟨h.os, h.tape, h.output, h.size, h.block⟩

theorem Keeps.alloc {S : Nat → Prop} {a w : World} (h : Keeps S a w) (o : Obj) (hs : S w.heap.size) : Keeps S a (w.alloc o) :=
  h.trans ⟨rfl, rfl, rfl, by simp, fun k hk => by
    show (w.heap.push o)[k]? = _
    rw [Array.getElem?_push, if_neg (by rintro rfl; exact hk hs)]⟩

theorem Keeps.setCell {S : Nat → Prop} {a w : World} (h : Keeps S a w) {p : Addr} (hs : S p.block) (u : Value) : Keeps S a (w.setCell p u) :=
  h.trans ⟨rfl, rfl, rfl, by simp [World.setCell], fun k hk => Below.heap_setCell _ _ _ _ (by rintro rfl; exact hk hs)⟩

theorem Keeps.one (w : World) (p o : Nat) (u : Value) : Keeps (fun k => k = p) w (w.setCell ⟨p, o, none⟩ u) := Keeps.setCell (S := fun k => k = p) (p := ⟨p, o, none⟩) (Keeps.refl _ _) rfl u

theorem Keeps.setRow {S : Nat → Prop} {a w : World} (h : Keeps S a w) {g : Nat} (hs : S g) (cs : Array Value) : Keeps S a (w.setRow g cs) :=
  h.trans ⟨rfl, rfl, rfl, by simp, fun k hk => setRow_other w g k cs (by rintro rfl; exact hk hs)⟩

theorem Keeps.oneRow (w : World) (g : Nat) (cs : Array Value) : Keeps (fun k => k = g) w (w.setRow g cs) := Keeps.setRow (S := fun k => k = g) (g := g) (Keeps.refl _ _) rfl cs

theorem Keeps.grown {S : Nat → Prop} {a w w' : World} {row : Option Nat} (h : Keeps S a w) (hg : w.grownBy w' row) (hn : ∀ k, w.heap.size ≤ k → S k) (hr : ∀ k, row = some k → S k) : Keeps S a w' :=
  h.trans ⟨hg.os, hg.tape, hg.output, hg.size, fun k hk => by
    rcases Nat.lt_or_ge k w.heap.size with hl | hl
    · exact hg.block k hl (fun e => hk (hr k e.symm))
    · exact absurd (hn k hl) hk⟩

theorem Keeps.cell {S : Nat → Prop} {w w' : World} (h : Keeps S w w') {p : Addr} (hp : ¬ S p.block) : w'.cell? p = w.cell? p := World.cell?_of_block (w := w) (h.block p.block hp)

theorem Keeps.frozen {S : Nat → Prop} {w w' : World} (h : Keeps S w w') {p : Addr} (hp : ¬ S p.block) : w'.frozen? p = w.frozen? p := World.frozen?_of_block (w := w) (h.block p.block hp)

/-- Below, seen from the heap's size: every cell that was there is there. -/
theorem below_cell {w w' : World} (h : Below w.heap.size w w') {p : Addr} {v : Value} (hp : w.cell? p = some v) : w'.cell? p = some v :=
  (h.cell (World.block_lt_of_cell? w p hp)).trans hp

theorem block_lt {w : World} {b : Nat} {o : Obj} (h : w.heap[b]? = some o) : b < w.heap.size := by
  rcases Nat.lt_or_ge b w.heap.size with h' | h'
  · exact h'
  · simp [Array.getElem?_eq_none h'] at h

/-- Block b holds just these cells, not frozen. -/
def Blk (w : World) (b : Nat) (cs : List Value) (T : TypeId) : Prop := w.heap[b]? = some (.cells cs.toArray T (0, 0))

theorem Blk.lt {w : World} {b : Nat} {cs : List Value} {T : TypeId} (h : Blk w b cs T) : b < w.heap.size := block_lt h
theorem Blk.cell {w : World} {b : Nat} {cs : List Value} {T : TypeId} (h : Blk w b cs T) (o : Nat) : w.cell? ⟨b, o, none⟩ = cs[o]? := by simp [World.cell?, show w.heap[b]? = _ from h]
theorem Blk.frozen {w : World} {b : Nat} {cs : List Value} {T : TypeId} (h : Blk w b cs T) (o : Nat) : w.frozen? ⟨b, o, none⟩ = false := by simp [World.frozen?, show w.heap[b]? = _ from h]
theorem Blk.keep {w w' : World} {b : Nat} {cs : List Value} {T : TypeId} (h : Blk w b cs T) {S : Nat → Prop} (hk : Keeps S w w') (hb : ¬ S b) : Blk w' b cs T := (hk.block b hb).trans h
theorem Blk.below {w w' : World} {b : Nat} {cs : List Value} {T : TypeId} (h : Blk w b cs T) {B : Nat} (hk : Below B w w') (hb : b < B) : Blk w' b cs T := (hk.block b hb).trans h
theorem Blk.drew {w : World} {b : Nat} {cs : List Value} {T : TypeId} (h : Blk w b cs T) : Blk w.drew b cs T := h
theorem Blk.alloc {w : World} {b : Nat} {cs : List Value} {T : TypeId} (h : Blk w b cs T) (o : Obj) : Blk (w.alloc o) b cs T := (Below.heap_alloc w o b h.lt).trans h
theorem Blk.new (w : World) (cs : List Value) (T : TypeId) : Blk (w.alloc (.cells cs.toArray T)) w.heap.size cs T := heap_alloc_new w _
theorem Blk.at_ {w : World} {b : Nat} {cs : Array Value} {T : TypeId} (h : w.heap.size = b) : Blk (w.alloc (.cells cs T)) b cs.toList T := by subst h; exact heap_alloc_new w _
theorem Blk.set {w : World} {b : Nat} {cs : List Value} {T : TypeId} (h : Blk w b cs T) (o : Nat) (v : Value) : Blk (w.setCell ⟨b, o, none⟩ v) b (cs.set o v) T := by
  unfold Blk
  rw [heap_setCell_same w b o cs.toArray T v h]
  simp
theorem Blk.set_other {w : World} {b : Nat} {cs : List Value} {T : TypeId} (h : Blk w b cs T) {p : Addr} (hp : b ≠ p.block) (v : Value) : Blk (w.setCell p v) b cs T :=
  (heap_setCell_other w p b v hp).trans h

/-- The cells cs stand from an address on (of no cells nothing is asked). -/
def At (w : World) (a : Option Addr) (cs : List Value) : Prop :=
  cs = [] ∨ ∃ b off, a = some ⟨b, off, none⟩ ∧ ∀ j u, cs[j]? = some u → w.cell? ⟨b, off + j, none⟩ = some u

/-- A slice value of n elements, sz cells each, that reads as these cells. -/
def Sl (w : World) (sz : Nat) (v : Value) (n : Nat) (cs : List Value) : Prop :=
  cs.length = n * sz ∧ (∀ u ∈ cs, u.oneCell' = true) ∧ ∃ a cap, v = .slice a n cap ∧ n ≤ cap ∧ cap ≤ maxLen ∧ (a = none → cap = 0) ∧ At w a cs

theorem At.mono {w w' : World} {a : Option Addr} {cs : List Value} (h : At w a cs) (hc : ∀ b o u, (∃ x, a = some x ∧ x.block = b) → w.cell? ⟨b, o, none⟩ = some u → w'.cell? ⟨b, o, none⟩ = some u) : At w' a cs := by
  rcases h with h | ⟨b, off, rfl, h⟩
  · exact .inl h
  · exact .inr ⟨b, off, rfl, fun j u hj => hc b _ u ⟨_, rfl, rfl⟩ (h j u hj)⟩

theorem Sl.mono {w w' : World} {sz : Nat} {v : Value} {n : Nat} {cs : List Value} (h : Sl w sz v n cs) (hc : ∀ b o u, v.ownBlock = some b → w.cell? ⟨b, o, none⟩ = some u → w'.cell? ⟨b, o, none⟩ = some u) : Sl w' sz v n cs := by
  obtain ⟨h1, h2, a, cap, rfl, h3, h4, h5, h6⟩ := h
  refine ⟨h1, h2, a, cap, rfl, h3, h4, h5, h6.mono fun b o u ⟨x, e1, e2⟩ => hc b o u ?_⟩
  subst e1
  simp [Value.ownBlock, e2]

theorem Sl.keep {w w' : World} {sz : Nat} {v : Value} {n : Nat} {cs : List Value} {S : Nat → Prop} (h : Sl w sz v n cs) (hk : Keeps S w w') (hb : ∀ b, v.ownBlock = some b → ¬ S b) : Sl w' sz v n cs :=
  h.mono fun b o _ e hc => (hk.cell (p := ⟨b, o, none⟩) (hb b e)).trans hc

theorem Sl.keep' {w w' : World} {sz : Nat} {v : Value} {n : Nat} {cs : List Value} {S : Nat → Prop} (h : Sl w sz v n cs) (hk : Keeps S w w') (hb : ∀ b, v.ownBlock = some b → b < w.heap.size → ¬ S b) : Sl w' sz v n cs :=
  h.mono fun b o _ e hc => (hk.cell (p := ⟨b, o, none⟩) (hb b e (World.block_lt_of_cell? w ⟨b, o, none⟩ hc))).trans hc

theorem Sl.below {w w' : World} {sz : Nat} {v : Value} {n : Nat} {cs : List Value} (h : Sl w sz v n cs) (hk : Below w.heap.size w w') : Sl w' sz v n cs :=
  h.mono fun _ _ _ _ hc => below_cell hk hc

theorem Sl.drew {w : World} {sz : Nat} {v : Value} {n : Nat} {cs : List Value} (h : Sl w sz v n cs) : Sl w.drew sz v n cs := h.mono fun _ _ _ _ hc => hc

theorem Sl.alloc {w : World} {sz : Nat} {v : Value} {n : Nat} {cs : List Value} (h : Sl w sz v n cs) (o : Obj) : Sl (w.alloc o) sz v n cs :=
  h.below ((Below.refl _ _).alloc (Nat.le_refl _) _)

theorem Sl.setCell {w : World} {sz : Nat} {v : Value} {n : Nat} {cs : List Value} (h : Sl w sz v n cs) {p : Addr} (hp : v.ownBlock ≠ some p.block) (u : Value) : Sl (w.setCell p u) sz v n cs :=
  h.keep (S := fun k => k = p.block) (Keeps.setCell (Keeps.refl (fun k => k = p.block) w) (p := p) rfl u) (fun b hb e => hp (by rw [hb, e]))

theorem Sl.nil (w : World) (sz : Nat) (a : Option Addr) : Sl w sz (.slice a 0 0) 0 [] := ⟨by simp, by simp, a, 0, rfl, Nat.le_refl _, Nat.zero_le _, fun _ => rfl, .inl rfl⟩

theorem Sl.form {w : World} {sz : Nat} {v : Value} {n : Nat} {cs : List Value} (h : Sl w sz v n cs) : ∃ a cap, v = .slice a n cap ∧ n ≤ cap ∧ cap ≤ maxLen :=
  let ⟨_, _, a, cap, e, h1, h2, _⟩ := h; ⟨a, cap, e, h1, h2⟩

/-- Where there is a cell, the address is there. -/
theorem Sl.addr {w : World} {sz : Nat} {a : Option Addr} {n cap : Nat} {cs : List Value} (h : Sl w sz (.slice a n cap) n cs) (hpos : 0 < cs.length) :
    ∃ b off, a = some ⟨b, off, none⟩ ∧ ∀ j u, cs[j]? = some u → w.cell? ⟨b, off + j, none⟩ = some u := by
  obtain ⟨_, _, a', cap', e, _, _, _, h0 | h⟩ := h
  · subst h0; simp at hpos
  · injection e with e1 e2 e3
    subst e1
    exact h

/-- A slice that the call owns: it may be appended to, and nothing else turns by it. -/
def Own (w : World) (B : Nat) (e : TypeId) (sz : Nat) (v : Value) (n : Nat) (cs : List Value) : Prop :=
  cs.length = n * sz ∧ (∀ u ∈ cs, u.oneCell' = true) ∧
  ((∃ a, v = .slice a 0 0 ∧ n = 0) ∨
   ∃ g cap cur, v = .slice (some ⟨g, 0, none⟩) n cap ∧ B ≤ g ∧ w.heap[g]? = some (.cells cur e (0, 0)) ∧ n ≤ cap ∧ cap ≤ maxLen ∧ cur.size = cap * sz ∧ cur.toList.take (n * sz) = cs)

theorem Own.of_row {w : World} {B : Nat} {e : TypeId} {sz : Nat} {v : Value} {n : Nat} {cs : List Value} (h : w.ownsRow B e sz v n cs) (h1 : ∀ u ∈ cs, u.oneCell' = true) : Own w B e sz v n cs := by
  obtain ⟨h0, h2⟩ := h
  refine ⟨h0, h1, ?_⟩
  rcases h2 with ⟨h2, h3⟩ | h2
  · exact .inl ⟨none, h2, h3⟩
  · exact .inr h2

theorem Own.sl {w : World} {B : Nat} {e : TypeId} {sz : Nat} {v : Value} {n : Nat} {cs : List Value} (h : Own w B e sz v n cs) : Sl w sz v n cs := by
  obtain ⟨h0, h1, ⟨a, rfl, rfl⟩ | ⟨g, cap, cur, rfl, h2, h3, h4, h5, h6, h7⟩⟩ := h
  · exact ⟨h0, h1, a, 0, rfl, Nat.le_refl _, Nat.zero_le _, fun _ => rfl, .inl (List.eq_nil_of_length_eq_zero (by simpa using h0))⟩
  · refine ⟨h0, h1, _, cap, rfl, h4, h5, fun h => by simp at h, .inr ⟨g, 0, rfl, fun j u hj => ?_⟩⟩
    have hjl : j < n * sz := by have := (List.getElem?_eq_some_iff.1 hj).1; omega
    rw [← h7, List.getElem?_take, if_pos hjl] at hj
    rw [Nat.zero_add, cell_of_row w g j cur e (0, 0) h3, ← Array.getElem?_toList]
    exact hj

theorem Own.base {w : World} {B B' : Nat} {e : TypeId} {sz : Nat} {v : Value} {n : Nat} {cs : List Value} (h : Own w B e sz v n cs) (hB : B' ≤ B) : Own w B' e sz v n cs := by
  obtain ⟨h0, h1, h2 | ⟨g, cap, cur, hv, h2, hr⟩⟩ := h
  · exact ⟨h0, h1, .inl h2⟩
  · exact ⟨h0, h1, .inr ⟨g, cap, cur, hv, by omega, hr⟩⟩

theorem Own.keep {w w' : World} {B : Nat} {e : TypeId} {sz : Nat} {v : Value} {n : Nat} {cs : List Value} {S : Nat → Prop} (h : Own w B e sz v n cs) (hk : Keeps S w w') (hb : ∀ b, v.ownBlock = some b → ¬ S b) : Own w' B e sz v n cs := by
  obtain ⟨h0, h1, h2 | ⟨g, cap, cur, rfl, h2, h3, hr⟩⟩ := h
  · exact ⟨h0, h1, .inl h2⟩
  · exact ⟨h0, h1, .inr ⟨g, cap, cur, rfl, h2, (hk.block g (hb g rfl)).trans h3, hr⟩⟩

theorem Own.below {w w' : World} {B : Nat} {e : TypeId} {sz : Nat} {v : Value} {n : Nat} {cs : List Value} (h : Own w B e sz v n cs) (hk : Below w.heap.size w w') : Own w' B e sz v n cs := by
  obtain ⟨h0, h1, h2 | ⟨g, cap, cur, rfl, h2, h3, hr⟩⟩ := h
  · exact ⟨h0, h1, .inl h2⟩
  · exact ⟨h0, h1, .inr ⟨g, cap, cur, rfl, h2, (hk.block g (block_lt h3)).trans h3, hr⟩⟩

theorem Own.alloc {w : World} {B : Nat} {e : TypeId} {sz : Nat} {v : Value} {n : Nat} {cs : List Value} (h : Own w B e sz v n cs) (o : Obj) : Own (w.alloc o) B e sz v n cs :=
  h.below ((Below.refl _ _).alloc (Nat.le_refl _) _)

theorem Own.drew {w : World} {B : Nat} {e : TypeId} {sz : Nat} {v : Value} {n : Nat} {cs : List Value} (h : Own w B e sz v n cs) : Own w.drew B e sz v n cs :=
  h.below ((Below.refl _ _).drew)

theorem Own.drewN {w : World} {B : Nat} {e : TypeId} {sz : Nat} {v : Value} {n : Nat} {cs : List Value} (h : Own w B e sz v n cs) (q : Nat) : Own (w.drewN q) B e sz v n cs :=
  h.below (below_drewN (Below.refl _ _) q)
theorem Sl.drewN {w : World} {sz : Nat} {v : Value} {n : Nat} {cs : List Value} (h : Sl w sz v n cs) (q : Nat) : Sl (w.drewN q) sz v n cs := h.below (below_drewN (Below.refl _ _) q)
theorem Blk.drewN {w : World} {b : Nat} {cs : List Value} {T : TypeId} (h : Blk w b cs T) (q : Nat) : Blk (w.drewN q) b cs T := h

theorem Own.nil (w : World) (B : Nat) (e : TypeId) (sz : Nat) (a : Option Addr) : Own w B e sz (.slice a 0 0) 0 [] := ⟨by simp, by simp, .inl ⟨a, rfl, rfl⟩⟩

/-- A literal, all of whose cells are laid. -/
theorem Own.lit (w : World) (cs : List Value) (e : TypeId) (sz n : Nat) (hs : cs.length = n * sz) (h1 : ∀ u ∈ cs, u.oneCell' = true) (hm : n ≤ maxLen) :
    Own (w.alloc (.cells cs.toArray e)) w.heap.size e sz (.slice (some ⟨w.heap.size, 0, none⟩) n n) n cs :=
  ⟨hs, h1, .inr ⟨w.heap.size, n, cs.toArray, rfl, Nat.le_refl _, heap_alloc_new w _, Nat.le_refl _, hm, by simpa using hs, by simp [← hs]⟩⟩

theorem Own.at_ {w : World} {cs : Array Value} {e : TypeId} {sz n b B : Nat} (hb : w.heap.size = b) (hB : B ≤ b) (hl : cs.toList.length = n * sz) (h1 : ∀ u ∈ cs.toList, u.oneCell' = true) (hm : n ≤ maxLen) :
    Own (w.alloc (.cells cs e)) B e sz (.slice (some ⟨b, 0, none⟩) n n) n cs.toList := by
  subst hb
  exact (Own.lit w cs.toList e sz n hl h1 hm).base hB

theorem bytes_toList_inj (a b : ByteArray) : a.toList = b.toList ↔ a = b := by
  rw [ByteArray.toList_eq, ByteArray.toList_eq]
  obtain ⟨⟨x⟩⟩ := a
  obtain ⟨⟨y⟩⟩ := b
  simp

/-- The table's row of a slice's elements. -/
def Elem (P : Program) (t e : TypeId) (size bytes : Nat) (z : Value) : Prop :=
  P.underlying t = some (.slice e) ∧ ∃ i, P.info? e = some i ∧ i.zero = some z ∧ i.size = size ∧ i.bytes = bytes ∧ z.cells.size = size ∧ 0 < size

theorem Elem.mk {P : Program} {t e : TypeId} {z : Value} {size bytes : Nat} (h : P.underlying t = some (.slice e)) (h2 : (P.info? e).map (fun i => (i.zero, i.size, i.bytes)) = some (some z, size, bytes)) (h3 : z.cells.size = size) (h4 : 0 < size) : Elem P t e size bytes z := by
  obtain ⟨i, hi, hz0, hz1, hz2⟩ := info_parts h2
  exact ⟨h, i, hi, hz0, hz1, hz2, h3, h4⟩

theorem At.one {w : World} {b : Nat} {cs : Array Value} {T : TypeId} {fz : Nat × Nat} (h : w.heap[b]? = some (.cells cs T fz)) : At w (some ⟨b, 0, none⟩) cs.toList := by
  refine .inr ⟨b, 0, rfl, fun j u hj => ?_⟩
  rw [Nat.zero_add, cell_of_row w b j cs T fz h, ← Array.getElem?_toList]
  exact hj

/-- a literal of n elements that has just been laid -/
theorem Sl.lit {w : World} {cs : Array Value} {T : TypeId} {sz n b : Nat} (hb : w.heap.size = b) (hl : cs.toList.length = n * sz) (h1 : ∀ u ∈ cs.toList, u.oneCell' = true) (hn : n ≤ maxLen) :
    Sl (w.alloc (.cells cs T)) sz (.slice (some ⟨b, 0, none⟩) n n) n cs.toList := by
  subst hb
  exact ⟨hl, h1, _, n, rfl, Nat.le_refl _, hn, fun h => by simp at h, At.one (heap_alloc_new w _)⟩

theorem not_mem_take_succ {α : Type} (x : α) (l : List α) (k : Nat) (h : k < l.length) (h1 : x ∉ l.take k) (h2 : l[k] ≠ x) : x ∉ l.take (k + 1) := by
  rw [List.take_succ_eq_append_getElem h, List.mem_append]
  rintro (h3 | h3)
  · exact h1 h3
  · exact h2 (List.mem_singleton.1 h3).symm

/-- append, target the call's own, source any. -/
theorem run_app {P : Program} {w : World} {t ty e : TypeId} {size bytes : Nat} {z : Value} (hE : Elem P t e size bytes z) {B : Nat}
    {v : Value} {n : Nat} {cs : List Value} (hown : Own w B e size v n cs) {x : Value} {m : Nat} {ds : List Value} (hsl : Sl w size x m ds)
    (h63 : n + m ≤ maxLen) (hbytes : (n + m) * bytes ≤ 140737488355328) (hbase : B ≤ w.heap.size) :
    ∃ v' w', (Builtin.append_ #[t, t] ty #[v, x]).run P w = .ok v' w' ∧ Own w' B e size v' (n + m) (cs ++ ds) ∧ Keeps (fun k => v.ownBlock = some k ∧ B ≤ k ∨ w.heap.size ≤ k) w w' ∧ (∀ b, v'.ownBlock = some b → v.ownBlock = some b ∨ w.heap.size ≤ b) := by
  obtain ⟨ht, i, hi, hz, hsize, hby, hzs, hsz⟩ := hE
  obtain ⟨hdl, hd1, a, c, rfl, hmc, hcm, hanone, hat⟩ := hsl
  obtain ⟨hcl, hc1, hform⟩ := hown
  have hall : ∀ u ∈ cs ++ ds, u.oneCell' = true := by
    intro u hu
    rcases List.mem_append.1 hu with h | h
    · exact hc1 u h
    · exact hd1 u h
  have hlen : (cs ++ ds).length = (n + m) * size := by rw [List.length_append, hcl, hdl, Nat.add_mul]
  by_cases hm0 : m = 0
  · -- nothing is appended
    subst hm0
    obtain rfl : ds = [] := List.eq_nil_of_length_eq_zero (by simpa using hdl)
    have hfc : (Builtin.firstCells size 0 (.slice a 0 c)).run P w = .ok #[] w := by
      cases a <;> simp [Builtin.firstCells, loadCells, loadCellsFrom]
    refine ⟨v, w, ?_, ⟨by simpa using hcl, by simpa using hc1, by simpa using hform⟩, Keeps.refl _ _, fun b h => .inl h⟩
    rcases hform with ⟨a0, rfl, rfl⟩ | ⟨g, cap, cur, rfl, _, _, hnc, _⟩
    · cases a0 <;> simp [Builtin.append_, run_underlying ht, sizeOf, typeInfo, hi, Builtin.lenOf, hsize, hfc, storeCells]
    · simp [Builtin.append_, run_underlying ht, sizeOf, typeInfo, hi, Builtin.lenOf, hsize, hfc, hnc, storeCells]
  · have hdpos : 0 < ds.length := by rw [hdl]; exact Nat.mul_pos (by omega) hsz
    obtain ⟨b, off, rfl, hcell⟩ : ∃ b off, a = some ⟨b, off, none⟩ ∧ ∀ j u, ds[j]? = some u → w.cell? ⟨b, off + j, none⟩ = some u := by
      rcases hat with h | h
      · subst h; simp at hdpos
      · exact h
    have hnews : ∀ j u, ds[j]? = some u → w.cell? ((⟨b, off, none⟩ : Addr).add j) = some u := fun j u hj => by rw [Addr.add_lit]; exact hcell j u hj
    have fresh : ∀ (v' : Value) (w' : World), w'.ownsRow w.heap.size e size v' (n + m) (cs ++ ds) → w.grownBy w' none →
        Own w' B e size v' (n + m) (cs ++ ds) ∧ Keeps (fun k => v.ownBlock = some k ∧ B ≤ k ∨ w.heap.size ≤ k) w w' ∧ (∀ b, v'.ownBlock = some b → v.ownBlock = some b ∨ w.heap.size ≤ b) := by
      intro v' w' h1 h2
      refine ⟨(Own.of_row h1 hall).base hbase, (Keeps.refl _ _).grown h2 (fun k hk => Or.inr hk) (by simp), fun b hb => .inr (h1.lt b hb).1⟩
    rcases hform with ⟨a0, rfl, rfl⟩ | ⟨g, cap, cur, rfl, hbg, hg, hnc, hcm', hcs, htake⟩
    · obtain rfl : cs = [] := List.eq_nil_of_length_eq_zero (by simpa using hcl)
      cases a0 with
      | none =>
        obtain ⟨v', w', hr, h1, h2, _⟩ := run_append_own (P := P) w w.heap.size t ty e i z size bytes ht hi hz hsize hby hzs hsz (.slice none 0 0) 0 [] (World.ownsRow_nil w _ e size) ⟨b, off, none⟩ m c ds hdl hnews hd1 h63 hbytes (Nat.le_refl _)
        exact ⟨v', w', hr, fresh v' w' h1 h2⟩
      | some b0 =>
        obtain ⟨v', w', hr, h1, h2⟩ := run_append_arg_grows (P := P) w t ty e i z size bytes ht hi hz hsize hby hzs hsz b0 0 0 [] (by simp) (by simp) ⟨b, off, none⟩ m c ds hdl hnews (by omega) h63 hbytes
        exact ⟨v', w', hr, fresh v' w' h1 h2⟩
    · by_cases hroom : n + m ≤ cap
      · obtain ⟨w', hr, h1, h2⟩ := run_append_fits (P := P) w B t ty e i size ht hi hsize g n cap cs ⟨hcl, .inr ⟨g, cap, cur, rfl, hbg, hg, hnc, hcm', hcs, htake⟩⟩ ⟨b, off, none⟩ m c ds hdl hnews hd1 hroom
        exact ⟨_, w', hr, Own.of_row h1 hall, (Keeps.refl _ _).grown h2 (fun k hk => Or.inr hk) (fun k hk => by simp only [Option.some.injEq] at hk; subst hk; exact .inl ⟨rfl, hbg⟩), fun b hb => .inl hb⟩
      · have holds : ∀ j u, cs[j]? = some u → w.cell? ((⟨g, 0, none⟩ : Addr).add j) = some u := by
          intro j u hj
          have hjl : j < n * size := by have := (List.getElem?_eq_some_iff.1 hj).1; omega
          rw [← htake, List.getElem?_take, if_pos hjl] at hj
          rw [Addr.add_lit, Nat.zero_add, cell_of_row w g j cur e (0, 0) hg, ← Array.getElem?_toList]
          exact hj
        obtain ⟨v', w', hr, h1, h2⟩ := run_append_arg_grows (P := P) w t ty e i z size bytes ht hi hz hsize hby hzs hsz ⟨g, 0, none⟩ n cap cs hcl holds ⟨b, off, none⟩ m c ds hdl hnews (by omega) h63 hbytes
        exact ⟨v', w', hr, fresh v' w' h1 h2⟩

/-- An operation that runs: it has no guard, or its guard lets it. -/
theorem wpList_want {P : Program} {ops : Array Oper} {rest : List Oper} {o : Oper} {a : Act} {w : World} {Q : Exit → Act → World → Prop} (hw : Region.wanted o (yielded ops a.tmps) = true)
    (h : ∀ K : Act → World → Prop, (∀ a w, wpList P ops Q rest a w → K a w) → o.wp P a w K Q) : wpList P ops Q (o :: rest) a w :=
  wpList_step fun K hK => by rw [if_pos hw]; exact h K hK

theorem wpList_app {P : Program} {w : World} {ops : Array Oper} {rest : List Oper} {o : Oper} {a : Act} {Q : Exit → Act → World → Prop} (hgd : Region.wanted o (yielded ops a.tmps) = true) (s x : Operand) {t e : TypeId} {size bytes : Nat} {z : Value}
    (hE : Elem P t e size bytes z) (ho : o.op = .call { callee := .builtin .append, args := #[s, x], argTypes := #[t, t] }) (B : Nat)
    {n : Nat} {cs : List Value} (hown : Own w B e size (a.eval s) n cs) {m : Nat} {ds : List Value} (hsl : Sl w size (a.eval x) m ds)
    (h63 : n + m ≤ maxLen) (hbytes : (n + m) * bytes ≤ 140737488355328) (hbase : B ≤ w.heap.size)
    (h : ∀ v' w', Own w' B e size v' (n + m) (cs ++ ds) → Keeps (fun k => (a.eval s).ownBlock = some k ∧ B ≤ k ∨ w.heap.size ≤ k) w w' → (∀ b, v'.ownBlock = some b → (a.eval s).ownBlock = some b ∨ w.heap.size ≤ b) → wpList P ops Q rest (a.put o.dst v') w') : wpList P ops Q (o :: rest) a w := by
  obtain ⟨v', w', hr, h2, h3, h4⟩ := run_app (P := P) (ty := o.type) hE hown hsl h63 hbytes hbase
  refine wpList_want hgd fun K hK => ?_
  unfold Oper.wp execOp
  simp only [ho, resolve, invoke, builtin, Sem.run_bind, Sem.run_pure, Result.andThen_ok, List.map_toArray, List.map_cons, List.map_nil, hr]
  exact hK _ _ (h v' w' h2 h3 h4)

/-- append, as one step of a region that draws its order. -/
theorem step_app {P : Program} {ops : Array Oper} {o : Oper} {a : Act} {w : World} {K : Act → World → Prop} {Q : Exit → Act → World → Prop} {E : Prop} (hgd : o.guard = none) (s x : Operand) {t e : TypeId} {size bytes : Nat} {z : Value}
    (hE : Elem P t e size bytes z) (ho : o.op = .call { callee := .builtin .append, args := #[s, x], argTypes := #[t, t] }) (B : Nat) {v : Value} (hv : a.eval s = v)
    {n : Nat} {cs : List Value} (hown : Own w B e size v n cs) {u : Value} (hu : a.eval x = u) {m : Nat} {ds : List Value} (hsl : Sl w size u m ds)
    (h63 : n + m ≤ maxLen) (hbytes : (n + m) * bytes ≤ 140737488355328) (hbase : B ≤ w.heap.size)
    (h : ∀ v' w', Own w' B e size v' (n + m) (cs ++ ds) → Keeps (fun k => v.ownBlock = some k ∧ B ≤ k ∨ w.heap.size ≤ k) w w' → (∀ b, v'.ownBlock = some b → v.ownBlock = some b ∨ w.heap.size ≤ b) → K (a.put o.dst v') w') :
    if Region.wanted o (yielded ops a.tmps) = true then Oper.wp P o a w K Q else E := by
  have hw : Region.wanted o (yielded ops a.tmps) = true := by simp [Region.wanted, hgd]
  rw [if_pos hw]
  obtain ⟨v', w', hr, h2, h3, h4⟩ := run_app (P := P) (ty := o.type) hE hown hsl h63 hbytes hbase
  unfold Oper.wp execOp
  simp only [ho, resolve, invoke, builtin, Sem.run_bind, Sem.run_pure, Result.andThen_ok, List.map_toArray, List.map_cons, List.map_nil, hv, hu, hr]
  exact h v' w' h2 h3 h4

/-- copy into a block, source any. -/
theorem run_cp {P : Program} {w : World} {dT sT ty e : TypeId} {bytes : Nat} {z : Value} (hE : Elem P dT e 1 bytes z) {g o dLen dCap : Nat} {cur : List Value} {T : TypeId} (hb : Blk w g cur T)
    {v : Value} {n : Nat} {cs : List Value} (hsl : Sl w 1 v n cs) (hfit : o + min n dLen ≤ cur.length) :
    ∃ w', (Builtin.copy_ #[dT, sT] ty #[.slice (some ⟨g, o, none⟩) dLen dCap, v]).run P w = .ok (.int .i64 (min n dLen : Nat)) w' ∧
      Blk w' g (cur.take o ++ cs.take (min n dLen) ++ cur.drop (o + min n dLen)) T ∧ Keeps (fun k => k = g) w w' := by
  obtain ⟨ht, i, hi, hz, hsize, hby, hzs, hsz⟩ := hE
  obtain ⟨hcl, hc1, a, cap, rfl, hnc, hcm, hanone, hat⟩ := hsl
  have hl : (cs.take (min n dLen)).length = min n dLen := by rw [List.length_take]; omega
  cases a with
  | none =>
    have hc0 := hanone rfl
    obtain rfl : n = 0 := by omega
    subst hc0
    refine ⟨w, ?_, ?_, Keeps.refl _ _⟩
    · simp [Builtin.copy_, run_underlying ht, Builtin.lenOf, Builtin.firstCells, sizeOf, typeInfo, hi, storeCells, goInt]
    · simpa using hb
  | some ad =>
    have hsrc : ∀ j v, (cs.take (min n dLen))[j]? = some v → w.cell? (ad.add j) = some v := by
      intro j v hj
      rw [List.getElem?_take] at hj
      split at hj
      · rcases hat with h | ⟨b, off, e, h⟩
        · subst h; simp at hj
        · simp only [Option.some.injEq] at e
          subst e
          rw [Addr.add_lit]
          exact h j v hj
      · simp at hj
    have hr := run_copy_row (P := P) w dT sT ty e g o dLen dCap ad n cap cur.toArray T (cs.take (min n dLen)) ht (by simp [hi, hsize]) hb hl hsrc (by rw [hl]; simpa using hfit) (fun v hv => hc1 v (List.mem_of_mem_take hv))
    rw [hl] at hr
    refine ⟨_, hr, ?_, Keeps.oneRow _ _ _⟩
    unfold Blk
    rw [setRow_heap w g cur.toArray _ T _ hb]

theorem wpList_cp {P : Program} {w : World} {ops : Array Oper} {rest : List Oper} {o : Oper} {a : Act} {Q : Exit → Act → World → Prop} (hgd : Region.wanted o (yielded ops a.tmps) = true) (d s : Operand) {dT sT e : TypeId} {bytes : Nat} {z : Value}
    (hE : Elem P dT e 1 bytes z) (ho : o.op = .call { callee := .builtin .copy, args := #[d, s], argTypes := #[dT, sT] }) {g off dLen dCap : Nat} (hd : a.eval d = .slice (some ⟨g, off, none⟩) dLen dCap)
    {cur : List Value} {T : TypeId} (hb : Blk w g cur T) {u : Value} (hu : a.eval s = u) {n : Nat} {cs : List Value} (hsl : Sl w 1 u n cs) (hfit : off + min n dLen ≤ cur.length)
    (h : ∀ w', Blk w' g (cur.take off ++ cs.take (min n dLen) ++ cur.drop (off + min n dLen)) T → Keeps (fun k => k = g) w w' → wpList P ops Q rest (a.put o.dst (.int .i64 (min n dLen : Nat))) w') : wpList P ops Q (o :: rest) a w := by
  obtain ⟨w', hr, h2, h3⟩ := run_cp (P := P) (sT := sT) (ty := o.type) (dCap := dCap) hE hb hsl hfit
  refine wpList_want hgd fun K hK => ?_
  unfold Oper.wp execOp
  simp only [ho, resolve, invoke, builtin, Sem.run_bind, Sem.run_pure, Result.andThen_ok, List.map_toArray, List.map_cons, List.map_nil, hd, hu, hr]
  exact hK _ _ (h w' h2 h3)

/-- clear of a slice in a block. -/
theorem run_clr {P : Program} {w : World} {t ty e : TypeId} {bytes : Nat} {z : Value} (hE : Elem P t e 1 bytes z) (hz1 : z.oneCell' = true) {g o n cap : Nat} {cur : List Value} {T : TypeId} (hb : Blk w g cur T) (hfit : o + n ≤ cur.length) :
    ∃ w', (Builtin.clear_ #[t] ty #[.slice (some ⟨g, o, none⟩) n cap]).run P w = .ok (.tuple #[]) w' ∧ Blk w' g (cur.take o ++ List.replicate n z ++ cur.drop (o + n)) T ∧ Keeps (fun k => k = g) w w' := by
  obtain ⟨ht, i, hi, hz, hsize, hby, hzs, hsz⟩ := hE
  cases n with
  | zero => exact ⟨w, by simp [Builtin.clear_, run_underlying ht], by simpa using hb, Keeps.refl _ _⟩
  | succ n =>
    have hzc : z.cells = #[z] := by cases z <;> simp_all [Value.cells, Value.oneCell']
    have hzl : (Builtin.zeroCells z.cells (n + 1)).toList = List.replicate (n + 1) z := by
      rw [hzc]
      apply List.ext_getElem?
      intro j
      by_cases hj : j < n + 1 <;> simp [Builtin.zeroCells, hj, Nat.mod_one]
    have hst := run_storeCells_at P g o T (List.replicate (n + 1) z) 0 cur.toArray w hb (by simp; omega) (fun v hv => by rw [List.eq_of_mem_replicate hv]; exact hz1)
    simp only [Nat.add_zero, List.length_replicate] at hst
    refine ⟨w.setRow g (cur.take o ++ List.replicate (n + 1) z ++ cur.drop (o + (n + 1))).toArray, ?_, ?_, Keeps.oneRow _ _ _⟩
    · simp only [Builtin.clear_]
      simp [run_underlying ht, zeroValue, typeInfo, hi, hz, hzl, hst]
    · unfold Blk
      rw [setRow_heap w g cur.toArray _ T _ hb]

theorem wpList_clr {P : Program} {w : World} {ops : Array Oper} {rest : List Oper} {o : Oper} {a : Act} {Q : Exit → Act → World → Prop} (hgd : Region.wanted o (yielded ops a.tmps) = true) (d : Operand) {t e : TypeId} {bytes : Nat} {z : Value}
    (hE : Elem P t e 1 bytes z) (hz1 : z.oneCell' = true) (ho : o.op = .call { callee := .builtin .clear, args := #[d], argTypes := #[t] }) {g off n cap : Nat} (hd : a.eval d = .slice (some ⟨g, off, none⟩) n cap)
    {cur : List Value} {T : TypeId} (hb : Blk w g cur T) (hfit : off + n ≤ cur.length)
    (h : ∀ w', Blk w' g (cur.take off ++ List.replicate n z ++ cur.drop (off + n)) T → Keeps (fun k => k = g) w w' → wpList P ops Q rest (a.put o.dst (.tuple #[])) w') : wpList P ops Q (o :: rest) a w := by
  obtain ⟨w', hr, h2, h3⟩ := run_clr (P := P) (ty := o.type) (cap := cap) hE hz1 hb hfit
  refine wpList_want hgd fun K hK => ?_
  unfold Oper.wp execOp
  simp only [ho, resolve, invoke, builtin, Sem.run_bind, Sem.run_pure, Result.andThen_ok, List.map_toArray, List.map_cons, List.map_nil, hd, hr]
  exact hK _ _ (h w' h2 h3)

def isAggD : TypeDesc → Bool
  | .struct _ => true
  | .array _ _ => true
  | _ => false

/-- A struct's or array's type of m cells. -/
def AggTy (P : Program) (ty : TypeId) (m : Nat) : Prop := ∃ d i, P.underlying ty = some d ∧ isAggD d = true ∧ P.info? ty = some i ∧ i.size = m

theorem AggTy.mk {P : Program} {ty : TypeId} {m : Nat} {d : TypeDesc} (h1 : P.underlying ty = some d) (h2 : isAggD d = true) (h3 : (P.info? ty).map (·.size) = some m) : AggTy P ty m := by
  cases hq : P.info? ty with
  | none => simp [hq] at h3
  | some i => exact ⟨d, i, h1, h2, hq, by simpa [hq] using h3⟩

/-- The cells cs stand from ⟨b, o⟩ on. -/
def CellsAt (w : World) (b o : Nat) (cs : List Value) : Prop := ∀ j u, cs[j]? = some u → w.cell? ⟨b, o + j, none⟩ = some u

theorem Blk.cellsAt {w : World} {b : Nat} {cs : List Value} {T : TypeId} (h : Blk w b cs T) (o m : Nat) : CellsAt w b o ((cs.drop o).take m) := by
  intro j u hj
  rw [h.cell]
  rw [List.getElem?_take] at hj
  split at hj
  · rwa [List.getElem?_drop] at hj
  · simp at hj

theorem Blk.cellsAll {w : World} {b : Nat} {cs : List Value} {T : TypeId} (h : Blk w b cs T) : CellsAt w b 0 cs := by
  intro j u hj
  rw [h.cell, Nat.zero_add]
  exact hj

theorem run_ldAgg {P : Program} {w : World} {ty : TypeId} {m b o : Nat} {cs : List Value} (hT : AggTy P ty m) (hm : cs.length = m) (hc : CellsAt w b o cs) : (loadVar ty ⟨b, o, none⟩).run P w = .ok (.agg cs.toArray) w := by
  obtain ⟨d, i, hu, hd, hi, hs⟩ := hT
  have hl := run_loadCells_list (P := P) w ⟨b, o, none⟩ cs (fun j v hv => by rw [Addr.add_lit]; exact hc j v hv)
  have hagg : (isAgg ty).run P w = .ok true w := by
    unfold isAgg
    rw [Sem.run_bind, run_underlying hu w]
    cases d <;> simp_all [isAggD]
  simp [loadVar, Sem.run_bind, hagg, sizeOf, typeInfo, hi, hs, ← hm, hl]

theorem wpList_ldAgg {P : Program} {ops : Array Oper} {rest : List Oper} {o : Oper} {a : Act} {w : World} {Q : Exit → Act → World → Prop} (hgd : Region.wanted o (yielded ops a.tmps) = true) (x : Operand) {ty : TypeId} {m : Nat} (hT : AggTy P ty m) (ho : o.op = .load ty x)
    {b off : Nat} (hx : a.eval x = .pointer (some ⟨b, off, none⟩)) {cs : List Value} (hm : cs.length = m) (hc : CellsAt w b off cs)
    (h : wpList P ops Q rest (a.put o.dst (.agg cs.toArray)) w) : wpList P ops Q (o :: rest) a w := by
  refine wpList_want hgd fun K hK => ?_
  unfold Oper.wp execOp
  simp only [ho, hx, Instr.loadAt, Instr.sureAddr, Sem.run_bind, Sem.run_pure, Result.andThen_ok, run_ldAgg hT hm hc]
  exact hK _ _ h

theorem run_stAgg {P : Program} {w : World} {ty : TypeId} {m g o : Nat} {cur vs : List Value} {T : TypeId} (hT : AggTy P ty m) (hm : vs.length = m) (hb : Blk w g cur T) (hfit : o + m ≤ cur.length) (h1 : ∀ v ∈ vs, v.oneCell' = true) :
    ∃ w', (storeVar ty ⟨g, o, none⟩ (.agg vs.toArray)).run P w = .ok () w' ∧ Blk w' g (cur.take o ++ vs ++ cur.drop (o + m)) T ∧ Keeps (fun k => k = g) w w' := by
  obtain ⟨d, i, hu, hd, hi, hs⟩ := hT
  have hst := run_storeCells_at P g o T vs 0 cur.toArray w hb (by simp; omega) h1
  simp only [Nat.add_zero] at hst
  refine ⟨_, ?_, ?_, Keeps.oneRow w g (cur.take o ++ vs ++ cur.drop (o + m)).toArray⟩
  · simp [storeVar, Value.cells, sizeOf, typeInfo, hi, hs, hm, hst]
  · unfold Blk
    rw [setRow_heap w g cur.toArray _ T _ hb]

theorem wpList_stAgg {P : Program} {ops : Array Oper} {rest : List Oper} {o : Oper} {a : Act} {w : World} {Q : Exit → Act → World → Prop} (hgd : Region.wanted o (yielded ops a.tmps) = true) (x y : Operand) {ty : TypeId} {m : Nat} (hT : AggTy P ty m) (ho : o.op = .store ty x y)
    {g off : Nat} (hx : a.eval x = .pointer (some ⟨g, off, none⟩)) {vs : List Value} (hy : a.eval y = .agg vs.toArray) (hm : vs.length = m) {cur : List Value} {T : TypeId} (hb : Blk w g cur T) (hfit : off + m ≤ cur.length) (h1 : ∀ v ∈ vs, v.oneCell' = true)
    (h : ∀ w', Blk w' g (cur.take off ++ vs ++ cur.drop (off + m)) T → Keeps (fun k => k = g) w w' → wpList P ops Q rest (a.put o.dst undef) w') : wpList P ops Q (o :: rest) a w := by
  obtain ⟨w', hr, h2, h3⟩ := run_stAgg hT hm hb hfit h1
  refine wpList_want hgd fun K hK => ?_
  unfold Oper.wp execOp
  simp only [ho, hx, hy, Instr.storeAt, Instr.sureAddr, Sem.run_bind, Sem.run_pure, Result.andThen_ok, hr]
  exact hK _ _ (h w' h2 h3)

theorem results_agg_tmp {P : Program} {fn : Func} {p u : Tmp} {ty : TypeId} {m : Nat} (hr : fn.results = #[.cell p ty, .tmp u]) (hT : AggTy P ty m) {tmps : Array Value} {w : World} {b o : Nat} (hp : tmps.getD p undef = .pointer (some ⟨b, o, none⟩)) {cs : List Value} (hm : cs.length = m) (hc : CellsAt w b o cs) :
    (results fn tmps).run P w = .ok (.tuple #[.agg cs.toArray, tmps.getD u undef]) w := by
  rw [results_cell_tmp hr, hp]
  simp [asAddr, run_ldAgg hT hm hc, Result.andThen]

theorem results_agg {P : Program} {fn : Func} {p : Tmp} {ty : TypeId} {m : Nat} (hr : fn.results = #[.cell p ty]) (hT : AggTy P ty m) {tmps : Array Value} {w : World} {b o : Nat} (hp : tmps.getD p undef = .pointer (some ⟨b, o, none⟩)) {cs : List Value} (hm : cs.length = m) (hc : CellsAt w b o cs) :
    (results fn tmps).run P w = .ok (.agg cs.toArray) w := by
  have hp' : tmps[p]?.getD undef = .pointer (some ⟨b, o, none⟩) := by simpa using hp
  simp [results, hr, hp', asAddr, run_ldAgg hT hm hc]

end Go.Proofs.Ytclonbojpcgngaa
