/- Things in memory, each with the blocks that are its own: what a world holds, side by side. No program's function is walked here. -/
import Derived.Test.YtclonbojpcgngaaSlices
import Derived.Test.YtclonbojpcgngaaFlat
namespace Go.Proofs.Ytclonbojpcgngaa
set_option linter.unusedSimpArgs false
set_option linter.unusedVariables false
open Go.RowKit

/-- A thing in memory: what it says of a world and of the blocks that are its own. -/
structure Res where
  holds : World → (Nat → Prop) → Prop
  frame : ∀ {W W' : World} {F S : Nat → Prop}, holds W F → Keeps S W W' → (∀ b, F b → ¬ S b) → holds W' F
  lt : ∀ {W : World} {F : Nat → Prop} {b : Nat}, holds W F → F b → b < W.heap.size

namespace Res
def emp : Res where
  holds _ F := ∀ b, ¬ F b
  frame h _ _ := h
  lt h hb := absurd hb (h _)

def star (a c : Res) : Res where
  holds W F := ∃ F1 F2, a.holds W F1 ∧ c.holds W F2 ∧ (∀ b, F1 b → F2 b → False) ∧ ∀ b, F b ↔ F1 b ∨ F2 b
  frame := by
    rintro W W' F S ⟨F1, F2, h1, h2, h3, h4⟩ hk hs
    exact ⟨F1, F2, a.frame h1 hk (fun b hb => hs b ((h4 b).2 (.inl hb))), c.frame h2 hk (fun b hb => hs b ((h4 b).2 (.inr hb))), h3, h4⟩
  lt := by
    rintro W F b ⟨F1, F2, h1, h2, h3, h4⟩ hb
    rcases (h4 b).1 hb with h | h
    · exact a.lt h1 h
    · exact c.lt h2 h

def pure (P : Prop) : Res where
  holds _ F := P ∧ ∀ b, ¬ F b
  frame h _ _ := h
  lt h hb := absurd hb (h.2 _)

def ex {α : Type} (f : α → Res) : Res where
  holds W F := ∃ x, (f x).holds W F
  frame := by
    rintro W W' F S ⟨x, h⟩ hk hs
    exact ⟨x, (f x).frame h hk hs⟩
  lt := by
    rintro W F b ⟨x, h⟩ hb
    exact (f x).lt h hb

def all : List Res → Res
  | [] => emp
  | r :: l => star r (all l)

/-- A block that is known whole. -/
def blk (p : Nat) (cs : List Value) (T : TypeId) : Res where
  holds W F := Blk W p cs T ∧ ∀ b, F b ↔ b = p
  frame := by
    rintro W W' F S ⟨h, hf⟩ hk hs
    exact ⟨h.keep hk (hs p ((hf p).2 rfl)), hf⟩
  lt := by
    rintro W F b ⟨h, hf⟩ hb
    rw [(hf b).1 hb]
    exact h.lt

/-- A slice that reads as these cells, and is not written. -/
def sl (sz : Nat) (v : Value) (n : Nat) (cs : List Value) : Res where
  holds W F := Sl W sz v n cs ∧ 0 < sz ∧ ∀ b, F b ↔ 0 < n ∧ v.ownBlock = some b
  frame := by
    rintro W W' F S ⟨h, hz, hf⟩ hk hs
    exact ⟨Sl.keepF (F := F) h hk (fun hn x hx => (hf x).2 ⟨hn, hx⟩) (fun b hb _ => hs b hb), hz, hf⟩
  lt := by
    rintro W F b ⟨h, hz, hf⟩ hb
    obtain ⟨hn, hv⟩ := (hf b).1 hb
    exact h.own_lt hz hn b hv

/-- Bytes that are read, not written. -/
def row (v : Value) (l : List UInt8) : Res := sl 1 v l.length (bCells l)

/-- A slice of the call's own: it may be appended to. -/
def own (e : TypeId) (sz : Nat) (v : Value) (n : Nat) (cs : List Value) : Res where
  holds W F := Own W 0 e sz v n cs ∧ (∀ b, v.ownBlock = some b → b < W.heap.size) ∧ ∀ b, F b ↔ v.ownBlock = some b
  frame := by
    rintro W W' F S ⟨h, hl, hf⟩ hk hs
    exact ⟨h.keep hk (fun b hb => hs b ((hf b).2 hb)), fun b hb => Nat.lt_of_lt_of_le (hl b hb) hk.size, hf⟩
  lt := by
    rintro W F b ⟨h, hl, hf⟩ hb
    exact hl b ((hf b).1 hb)

def ownB (v : Value) (l : List UInt8) : Res := own 5 1 v l.length (bCells l)

/-- All that was there at a world stands as it was. -/
def base (w0 : World) : Res where
  holds W F := Below w0.heap.size w0 W ∧ ∀ b, F b ↔ b < w0.heap.size
  frame := by
    rintro W W' F S ⟨h, hf⟩ hk hs
    exact ⟨⟨hk.os.trans h.os, hk.tape.trans h.tape, hk.output.trans h.output, Nat.le_trans h.size hk.size, fun b hb => (hk.block b (hs b ((hf b).2 hb))).trans (h.block b hb)⟩, hf⟩
  lt := by
    rintro W F b ⟨h, hf⟩ hb
    exact Nat.lt_of_lt_of_le ((hf b).1 hb) h.size
end Res

/-- A world holds these things, side by side. -/
def Hold (W : World) (l : List Res) : Prop := ∃ F, (Res.all l).holds W F

theorem Hold.nil (W : World) : Hold W [] := ⟨fun _ => False, fun _ h => h⟩

theorem Hold.start (W : World) : Hold W [.base W] := ⟨fun b => b < W.heap.size, fun b => b < W.heap.size, fun _ => False, ⟨Below.refl _ _, fun _ => Iff.rfl⟩, fun _ h => h, fun _ _ h => h, fun b => ⟨.inl, fun h => h.elim id False.elim⟩⟩

theorem Hold.cons {W : World} {r : Res} {l : List Res} : Hold W (r :: l) ↔ ∃ F1 F2, r.holds W F1 ∧ (Res.all l).holds W F2 ∧ ∀ b, F1 b → F2 b → False :=
  ⟨fun ⟨_, F1, F2, h1, h2, h3, _⟩ => ⟨F1, F2, h1, h2, h3⟩, fun ⟨F1, F2, h1, h2, h3⟩ => ⟨fun b => F1 b ∨ F2 b, F1, F2, h1, h2, h3, fun _ => Iff.rfl⟩⟩

theorem Hold.tail {W : World} {r : Res} {l : List Res} (h : Hold W (r :: l)) : Hold W l := by
  obtain ⟨F1, F2, _, h2, _⟩ := Hold.cons.1 h
  exact ⟨F2, h2⟩

theorem Hold.head {W : World} {r : Res} {l : List Res} (h : Hold W (r :: l)) : ∃ F, r.holds W F := by
  obtain ⟨F1, F2, h1, _, _⟩ := Hold.cons.1 h
  exact ⟨F1, h1⟩

theorem Hold.get {W : World} {r : Res} : ∀ {l : List Res}, Hold W l → r ∈ l → ∃ F, r.holds W F
  | [], _, hm => by simp at hm
  | a :: l, h, hm => by
    rcases List.mem_cons.1 hm with e | hm
    · rw [e]; exact h.head
    · exact h.tail.get hm

theorem Res.all_star {W : World} {a c : Res} {l : List Res} {F : Nat → Prop} : (Res.all (a.star c :: l)).holds W F ↔ (Res.all (a :: c :: l)).holds W F := by
  constructor
  · rintro ⟨F1, F2, ⟨G1, G2, g1, g2, g3, g4⟩, h2, h3, h4⟩
    refine ⟨G1, fun b => G2 b ∨ F2 b, g1, ⟨G2, F2, g2, h2, fun b hb hc => h3 b ((g4 b).2 (.inr hb)) hc, fun _ => Iff.rfl⟩, ?_, ?_⟩
    · rintro b hb (hc | hc)
      · exact g3 b hb hc
      · exact h3 b ((g4 b).2 (.inl hb)) hc
    · intro b
      rw [h4 b, g4 b, or_assoc]
  · rintro ⟨G1, H, g1, ⟨G2, F2, g2, h2, h3, h4⟩, h5, h6⟩
    refine ⟨fun b => G1 b ∨ G2 b, F2, ⟨G1, G2, g1, g2, fun b hb hc => h5 b hb ((h4 b).2 (.inl hc)), fun _ => Iff.rfl⟩, h2, ?_, ?_⟩
    · rintro b (hb | hb) hc
      · exact h5 b hb ((h4 b).2 (.inr hc))
      · exact h3 b hb hc
    · intro b
      rw [h6 b, h4 b, or_assoc]

theorem Hold.star {W : World} {a c : Res} {l : List Res} : Hold W (a.star c :: l) ↔ Hold W (a :: c :: l) :=
  ⟨fun ⟨F, h⟩ => ⟨F, Res.all_star.1 h⟩, fun ⟨F, h⟩ => ⟨F, Res.all_star.2 h⟩⟩

theorem Res.star_comm {W : World} {a c : Res} {F : Nat → Prop} (h : (a.star c).holds W F) : (c.star a).holds W F := by
  obtain ⟨F1, F2, h1, h2, h3, h4⟩ := h
  exact ⟨F2, F1, h2, h1, fun b x y => h3 b y x, fun b => by rw [h4 b, or_comm]⟩

theorem Res.all_perm {W : World} {l l' : List Res} (hp : l.Perm l') : ∀ {F : Nat → Prop}, (Res.all l).holds W F → (Res.all l').holds W F := by
  induction hp with
  | nil => exact fun h => h
  | cons x _ ih =>
    rintro F ⟨F1, F2, h1, h2, h3⟩
    exact ⟨F1, F2, h1, ih h2, h3⟩
  | swap x y l =>
    intro F h
    refine Res.all_star.1 ?_
    obtain ⟨F1, F2, h1, h2, h3, h4⟩ := Res.all_star.2 h
    exact ⟨F1, F2, Res.star_comm h1, h2, h3, h4⟩
  | trans _ _ ih1 ih2 => exact fun h => ih2 (ih1 h)

theorem Hold.perm {W : World} {l l' : List Res} (h : Hold W l) (hp : l.Perm l') : Hold W l' := by
  obtain ⟨F, h⟩ := h
  exact ⟨F, Res.all_perm hp h⟩

theorem perm_idx {α : Type} (d : α) (l : List α) (is : List Nat) (h : is.Perm (List.range l.length)) : l.Perm (is.map fun i => l.getD i d) := by
  have e : l = (List.range l.length).map fun i => l.getD i d := by
    apply List.ext_getElem
    · simp
    · intro i h1 h2
      simp [List.getD_eq_getElem?_getD, h1]
  have := h.symm.map fun i => l.getD i d
  rwa [← e] at this

/-- The same things in another order, by their places. -/
theorem Hold.sort {W : World} {l : List Res} (h : Hold W l) (is : List Nat) (hp : is.Perm (List.range l.length)) : Hold W (is.map fun i => l.getD i .emp) := h.perm (perm_idx _ l is hp)

theorem Hold.ex {W : World} {α : Type} {f : α → Res} {l : List Res} : Hold W (Res.ex f :: l) ↔ ∃ x, Hold W (f x :: l) := by
  simp only [Hold.cons]
  constructor
  · rintro ⟨F1, F2, ⟨x, h1⟩, h2, h3⟩
    exact ⟨x, F1, F2, h1, h2, h3⟩
  · rintro ⟨x, F1, F2, h1, h2, h3⟩
    exact ⟨F1, F2, ⟨x, h1⟩, h2, h3⟩

theorem Hold.pure {W : World} {P : Prop} {l : List Res} : Hold W (Res.pure P :: l) ↔ P ∧ Hold W l := by
  rw [Hold.cons]
  constructor
  · rintro ⟨F1, F2, h1, h2, h3⟩
    exact ⟨h1.1, F2, h2⟩
  · rintro ⟨h1, F, h2⟩
    exact ⟨fun _ => False, F, ⟨h1, fun _ h => h⟩, h2, fun _ h _ => h⟩

theorem Hold.app {W : World} : ∀ {m l : List Res}, Hold W (Res.all m :: l) ↔ Hold W (m ++ l)
  | [], l => by
    show Hold W (Res.emp :: l) ↔ Hold W l
    refine ⟨Hold.tail, fun ⟨F, h⟩ => Hold.cons.2 ⟨fun _ => False, F, fun _ h => h, h, fun _ h _ => h⟩⟩
  | r :: m, l => by
    show Hold W (r.star (Res.all m) :: l) ↔ Hold W (r :: (m ++ l))
    rw [Hold.star, Hold.cons, Hold.cons]
    constructor
    · rintro ⟨F1, F2, h1, h2, h3⟩
      have := (Hold.app (m := m) (l := l)).1 ⟨F2, h2⟩
      -- the same blocks
      obtain ⟨F3, F4, g1, g2, g3, g4⟩ := h2
      refine ⟨F1, fun b => F3 b ∨ F4 b, h1, ?_, ?_⟩
      · clear this h3 h1 g4
        induction m generalizing F3 F4 with
        | nil => exact (Res.all l).frame (F := fun b => F3 b ∨ F4 b) (S := fun _ => False) (by
            have : (fun b => F3 b ∨ F4 b) = F4 := by
              funext b
              exact propext ⟨fun h => h.elim (fun h => absurd h (g1 b)) id, .inr⟩
            rw [this]
            exact g2) (Keeps.refl _ _) (fun _ _ h => h)
        | cons a m ih =>
          obtain ⟨G1, G2, k1, k2, k3, k4⟩ := g1
          refine ⟨G1, fun b => G2 b ∨ F4 b, k1, ih G2 F4 k2 g2 (fun b hb hc => g3 b ((k4 b).2 (.inr hb)) hc), ?_, ?_⟩
          · rintro b hb (hc | hc)
            · exact k3 b hb hc
            · exact g3 b ((k4 b).2 (.inl hb)) hc
          · intro b
            show F3 b ∨ F4 b ↔ G1 b ∨ (G2 b ∨ F4 b)
            rw [k4 b, or_assoc]
      · rintro b hb hc
        exact h3 b hb ((g4 b).2 hc)
    · rintro ⟨F1, F2, h1, h2, h3⟩
      suffices h : (Res.all (Res.all m :: l)).holds W F2 from ⟨F1, F2, h1, h, h3⟩
      clear h3 h1
      induction m generalizing F2 with
      | nil => exact ⟨fun _ => False, F2, fun _ h => h, h2, fun _ h _ => h, fun b => ⟨.inr, fun h => h.elim False.elim id⟩⟩
      | cons a m ih =>
        obtain ⟨G1, G2, k1, k2, k3, k4⟩ := h2
        obtain ⟨G3, G4, j1, j2, j3, j4⟩ := ih G2 k2
        refine ⟨fun b => G1 b ∨ G3 b, G4, ⟨G1, G3, k1, j1, fun b hb hc => k3 b hb ((j4 b).2 (.inl hc)), fun _ => Iff.rfl⟩, j2, ?_, ?_⟩
        · rintro b (hb | hb) hc
          · exact k3 b hb ((j4 b).2 (.inr hc))
          · exact j3 b hb hc
        · intro b
          rw [k4 b, j4 b, or_assoc]

/-- Where only new memory is made all stands. -/
theorem Hold.step {W W' : World} {l : List Res} (h : Hold W l) (hb : Below W.heap.size W W') : Hold W' l := by
  obtain ⟨F, h⟩ := h
  exact ⟨F, (Res.all l).frame h (Keeps.of_below hb) (fun b hb' hc => by have := (Res.all l).lt h hb'; omega)⟩
theorem Hold.drew {W : World} {l : List Res} (h : Hold W l) : Hold W.drew l := h.step ((Below.refl _ _).drew)
theorem Hold.drewN {W : World} {l : List Res} (h : Hold W l) (n : Nat) : Hold (W.drewN n) l := h.step (below_drewN (Below.refl _ _) n)
theorem Hold.alloc {W : World} {l : List Res} (h : Hold W l) (o : Obj) : Hold (W.alloc o) l := h.step ((Below.refl _ _).alloc (Nat.le_refl _) _)

/-- One thing turns; what it has besides is new. -/
theorem Hold.turn {W W' : World} {r r' : Res} {l : List Res} (h : Hold W (r :: l))
    (ht : ∀ F, r.holds W F → ∃ F', r'.holds W' F' ∧ (∀ b, F' b → F b ∨ W.heap.size ≤ b) ∧ Keeps (fun b => F b ∨ W.heap.size ≤ b) W W') : Hold W' (r' :: l) := by
  obtain ⟨F1, F2, h1, h2, h3⟩ := Hold.cons.1 h
  obtain ⟨F', g1, g2, g3⟩ := ht F1 h1
  refine Hold.cons.2 ⟨F', F2, g1, (Res.all l).frame h2 g3 ?_, ?_⟩
  · rintro b hb (hc | hc)
    · exact h3 b hc hb
    · have := (Res.all l).lt h2 hb
      omega
  · intro b hb hc
    rcases g2 b hb with h | h
    · exact h3 b h hc
    · have := (Res.all l).lt h2 hc
      omega

/-- Something new. -/
theorem Hold.new {W W' : World} {r : Res} {l : List Res} (h : Hold W l) (hb : Below W.heap.size W W') {F : Nat → Prop} (hr : r.holds W' F) (hf : ∀ b, F b → W.heap.size ≤ b) : Hold W' (r :: l) := by
  obtain ⟨F2, h2⟩ := h
  refine Hold.cons.2 ⟨F, F2, hr, (Res.all l).frame h2 (Keeps.of_below hb) (fun b hb' hc => by have := (Res.all l).lt h2 hb'; omega), ?_⟩
  intro b hb' hc
  have := (Res.all l).lt h2 hc
  have := hf b hb'
  omega

/-- What is said of a thing may be weakened. -/
theorem Hold.weaken {W : World} {r r' : Res} {l : List Res} (h : Hold W (r :: l)) (ht : ∀ F, r.holds W F → ∃ F', r'.holds W F' ∧ ∀ b, F' b → F b) : Hold W (r' :: l) := by
  refine h.turn fun F hF => ?_
  obtain ⟨F', h1, h2⟩ := ht F hF
  exact ⟨F', h1, fun b hb => .inl (h2 b hb), (Keeps.refl _ _)⟩

theorem Hold.blkOf {W : World} {l : List Res} (h : Hold W l) {p : Nat} {cs : List Value} {T : TypeId} (hm : Res.blk p cs T ∈ l) : Blk W p cs T := by
  obtain ⟨F, hr⟩ := h.get hm
  exact hr.1
theorem Hold.slOf {W : World} {l : List Res} (h : Hold W l) {sz n : Nat} {v : Value} {cs : List Value} (hm : Res.sl sz v n cs ∈ l) : Sl W sz v n cs := by
  obtain ⟨F, hr⟩ := h.get hm
  exact hr.1
theorem Hold.rowOf {W : World} {l : List Res} (h : Hold W l) {v : Value} {b : List UInt8} (hm : Res.row v b ∈ l) : Bs W v b := by
  obtain ⟨F, hr⟩ := h.get hm
  exact hr.1
theorem Hold.ownOf {W : World} {l : List Res} (h : Hold W l) {e : TypeId} {sz n : Nat} {v : Value} {cs : List Value} (hm : Res.own e sz v n cs ∈ l) : Own W 0 e sz v n cs ∧ ∀ b, v.ownBlock = some b → b < W.heap.size := by
  obtain ⟨F, hr⟩ := h.get hm
  exact ⟨hr.1, hr.2.1⟩
theorem Hold.ownBOf {W : World} {l : List Res} (h : Hold W l) {v : Value} {b : List UInt8} (hm : Res.ownB v b ∈ l) : OwnBs W 0 v b ∧ ∀ k, v.ownBlock = some k → k < W.heap.size := by
  obtain ⟨F, hr⟩ := h.get hm
  exact ⟨hr.1, hr.2.1⟩
theorem Hold.baseOf {W : World} {l : List Res} (h : Hold W l) {w0 : World} (hm : Res.base w0 ∈ l) : Below w0.heap.size w0 W := by
  obtain ⟨F, hr⟩ := h.get hm
  exact hr.1

/-- A block is laid. -/
theorem Hold.addBlk {W : World} {l : List Res} (h : Hold W l) (cs : List Value) (T : TypeId) : Hold (W.alloc (.cells cs.toArray T)) (.blk W.heap.size cs T :: l) :=
  h.new ((Below.refl _ _).alloc (Nat.le_refl _) _) (F := fun b => b = W.heap.size) ⟨Blk.new W cs T, fun _ => Iff.rfl⟩ (fun b hb => by omega)

/-- A cell is written. -/
theorem Hold.set {W : World} {l : List Res} {p : Nat} {cs : List Value} {T : TypeId} (h : Hold W (.blk p cs T :: l)) (o : Nat) (v : Value) : Hold (W.setCell ⟨p, o, none⟩ v) (.blk p (cs.set o v) T :: l) := by
  refine h.turn fun F hF => ⟨F, ⟨hF.1.set o v, hF.2⟩, fun b hb => .inl hb, ?_⟩
  exact (Keeps.one W p o v).mono fun k hk => .inl ((hF.2 k).2 hk)

/-- Bytes that the call has made. -/
theorem Hold.addRow {W W' : World} {l : List Res} (h : Hold W l) (hb : Below W.heap.size W W') {v : Value} {b : List UInt8} (hr : Bs W' v b) (hv : ∀ k, 0 < b.length → v.ownBlock = some k → W.heap.size ≤ k) : Hold W' (.row v b :: l) :=
  h.new hb (F := fun k => 0 < b.length ∧ v.ownBlock = some k) ⟨hr, by decide, fun _ => Iff.rfl⟩ (fun k hk => hv k hk.1 hk.2)
theorem Hold.addOwn {W W' : World} {l : List Res} (h : Hold W l) (hb : Below W.heap.size W W') {e : TypeId} {sz n : Nat} {v : Value} {cs : List Value} {B : Nat} (hr : Own W' B e sz v n cs) (hv : ∀ k, v.ownBlock = some k → W.heap.size ≤ k ∧ k < W'.heap.size) : Hold W' (.own e sz v n cs :: l) :=
  h.new hb (F := fun k => v.ownBlock = some k) ⟨hr.base (Nat.zero_le _), fun k hk => (hv k hk).2, fun _ => Iff.rfl⟩ (fun k hk => (hv k hk).1)
theorem Hold.addOwnB {W W' : World} {l : List Res} (h : Hold W l) (hb : Below W.heap.size W W') {v : Value} {b : List UInt8} {B : Nat} (hr : OwnBs W' B v b) (hv : ∀ k, v.ownBlock = some k → W.heap.size ≤ k ∧ k < W'.heap.size) : Hold W' (.ownB v b :: l) :=
  h.addOwn hb hr hv
/-- What is one's own may be read alone. -/
theorem Hold.ownRow {W : World} {l : List Res} {v : Value} {b : List UInt8} (h : Hold W (.ownB v b :: l)) : Hold W (.row v b :: l) :=
  h.weaken fun F hF => ⟨fun k => 0 < b.length ∧ v.ownBlock = some k, ⟨hF.1.sl, by decide, fun _ => Iff.rfl⟩, fun k hk => (hF.2.2 k).2 hk.2⟩
/-- Nothing, as a slice of the call's own. -/
theorem Hold.addNil {W : World} {l : List Res} (h : Hold W l) (e : TypeId) (sz : Nat) : Hold W (.own e sz (.slice none 0 0) 0 [] :: l) :=
  h.new (Below.refl _ _) (F := fun _ => False) ⟨Own.nil _ _ _ _ _, fun b hb => by simp [Value.ownBlock] at hb, fun b => by simp [Value.ownBlock]⟩ (fun _ h => h.elim)
theorem Hold.addNilRow {W : World} {l : List Res} (h : Hold W l) : Hold W (.row (.slice none 0 0) [] :: l) :=
  h.new (Below.refl _ _) (F := fun _ => False) ⟨Sl.nil _ _ _, by decide, fun b => by simp⟩ (fun _ h => h.elim)

/-- What an append to a slice of the call's own leaves (the law wpList_app2 and its kin). -/
theorem Hold.append {W W' : World} {l : List Res} {e : TypeId} {sz n : Nat} {v : Value} {cs : List Value} (h : Hold W (.own e sz v n cs :: l)) {v' : Value} {n' : Nat} {cs' : List Value} {B : Nat} (hr : Own W' B e sz v' n' cs')
    (hk : Keeps (fun k => v.ownBlock = some k ∧ B ≤ k ∨ W.heap.size ≤ k) W W') (hv : ∀ b, v'.ownBlock = some b → (v.ownBlock = some b ∨ W.heap.size ≤ b) ∧ b < W'.heap.size) : Hold W' (.own e sz v' n' cs' :: l) := by
  refine h.turn fun F hF => ⟨fun k => v'.ownBlock = some k, ⟨hr.base (Nat.zero_le _), fun b hb => (hv b hb).2, fun _ => Iff.rfl⟩, fun b hb => ?_, hk.mono fun k hk => ?_⟩
  · rcases (hv b hb).1 with h | h
    · exact .inl ((hF.2.2 b).2 h)
    · exact .inr h
  · rcases hk with h | h
    · exact .inl ((hF.2.2 k).2 h.1)
    · exact .inr h

theorem Hold.swap {W : World} {a b : Res} {l : List Res} (h : Hold W (a :: b :: l)) : Hold W (b :: a :: l) := h.perm (.swap _ _ _)
theorem Hold.pull3 {W : World} {a b c : Res} {l : List Res} (h : Hold W (a :: b :: c :: l)) : Hold W (c :: a :: b :: l) := h.perm (List.perm_middle (l₁ := [a, b]))
theorem Hold.push3 {W : World} {a b c : Res} {l : List Res} (h : Hold W (c :: a :: b :: l)) : Hold W (a :: b :: c :: l) := h.perm (List.perm_middle (l₁ := [a, b])).symm
theorem Hold.pull4 {W : World} {a b c d : Res} {l : List Res} (h : Hold W (a :: b :: c :: d :: l)) : Hold W (d :: a :: b :: c :: l) := h.perm (List.perm_middle (l₁ := [a, b, c]))
theorem Hold.push4 {W : World} {a b c d : Res} {l : List Res} (h : Hold W (d :: a :: b :: c :: l)) : Hold W (a :: b :: c :: d :: l) := h.perm (List.perm_middle (l₁ := [a, b, c])).symm
theorem Hold.pull5 {W : World} {a b c d e : Res} {l : List Res} (h : Hold W (a :: b :: c :: d :: e :: l)) : Hold W (e :: a :: b :: c :: d :: l) := h.perm (List.perm_middle (l₁ := [a, b, c, d]))
theorem Hold.push5 {W : World} {a b c d e : Res} {l : List Res} (h : Hold W (e :: a :: b :: c :: d :: l)) : Hold W (a :: b :: c :: d :: e :: l) := h.perm (List.perm_middle (l₁ := [a, b, c, d])).symm
/-- The first things in another order, by their places. -/
theorem Hold.front {W : World} {m l : List Res} (h : Hold W (m ++ l)) (is : List Nat) (n : Nat) (hp : is.Perm (List.range n)) (hn : m.length = n := by rfl) : Hold W ((is.map fun i => m.getD i .emp) ++ l) := h.perm ((perm_idx _ m is (by rw [hn]; exact hp)).append_right l)

theorem Hold.addBlkAt {W : World} {l : List Res} (h : Hold W l) (cs : List Value) (T : TypeId) {b : Nat} (hb : W.heap.size = b) : Hold (W.alloc (.cells cs.toArray T)) (.blk b cs T :: l) := by
  subst hb
  exact h.addBlk cs T

/-- A literal of nothing. -/
theorem Hold.addEmpty {W : World} {l : List Res} (h : Hold W l) (T : TypeId) (sz : Nat) {b : Nat} (hb : W.heap.size = b) : Hold (W.alloc (.cells #[] T)) (.own T sz (.slice (some ⟨b, 0, none⟩) 0 0) 0 [] :: l) := by
  subst hb
  exact h.new ((Below.refl _ _).alloc (Nat.le_refl _) _) (F := fun k => k = W.heap.size) ⟨Own.nil _ _ _ _ _, fun b hb => by simp [Value.ownBlock] at hb; simp; omega, fun b => by simp [Value.ownBlock, eq_comm]⟩ (fun b hb => by omega)

/-- As Hold.append, where the law was taken at the base 0. -/
theorem Hold.append0 {W W' : World} {l : List Res} {e : TypeId} {sz n : Nat} {v : Value} {cs : List Value} (h : Hold W (.own e sz v n cs :: l)) {v' : Value} {n' : Nat} {cs' : List Value} {B : Nat} (hr : Own W' B e sz v' n' cs')
    (hk : Keeps (fun k => v.ownBlock = some k ∨ W.heap.size ≤ k) W W') (hv : ∀ b, v'.ownBlock = some b → (v.ownBlock = some b ∨ W.heap.size ≤ b) ∧ b < W'.heap.size) : Hold W' (.own e sz v' n' cs' :: l) :=
  h.append (B := 0) (hr.base (Nat.zero_le _)) (hk.mono fun k h => h.elim (fun h => .inl ⟨h, Nat.zero_le _⟩) .inr) hv
end Go.Proofs.Ytclonbojpcgngaa
