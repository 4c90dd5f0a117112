/- Texts of this proof, one behind the other: RelT, HReg, RelC, SlZ, RelG, RegInv, Tv, OctetPut, OctetEq, Octet, DerSpec, Cut, DerSize. -/
import Derived.Test.YtofmkkcbfeadgaaRpA1
import Derived.OrdersHeld
import Derived.Deep.DeepCutAuto
import Derived.Lib.SliceRun
import Derived.Laws.CopyRow
import Derived.Outline
namespace Go.Proofs.Ytofmkkcbfeadgaa
set_option linter.unusedSimpArgs false
set_option linter.unusedVariables false
open Go.RowKit Go.Maps Go.MapKept Go.WideMaps
abbrev Mail := List (ByteArray × List (List UInt8))
theorem elRows : Elem Try.prog 30 27 1 24 (.slice none 0 0) := by
  refine Elem.mk Try.underlying30 ?_ rfl (by decide)
  kernel_rfl
/-- The rest of a row behind its first elements. -/
theorem Sl.restZ {w : World} {sz b o n cap : Nat} {cs : List Value} (h : Sl w sz (.slice (some ⟨b, o, none⟩) n cap) n cs) (i : Nat) (hi : i ≤ n) :
    Sl w sz (.slice (cutZ b o cap i sz) (n - i) (cap - i)) (n - i) (cs.drop (i * sz)) := by
  obtain ⟨a, c, e, h3, h4⟩ := h.form
  have hl := h.1
  simp only [Value.slice.injEq, true_and] at e
  obtain ⟨rfl, rfl⟩ := e
  unfold cutZ
  split
  · rename_i hc
    have hn : n - i = 0 := by omega
    rw [hn, show cap - i = 0 by omega, List.drop_of_length_le (by rw [hl]; exact Nat.mul_le_mul_right _ (by omega))]
    exact Sl.nil _ _ _
  · have := h.sub i (n - i) (cap - i) (by omega) (by omega) (by omega)
    rw [List.take_of_length_le (by rw [List.length_drop, hl, Nat.sub_mul]; exact Nat.le_refl _)] at this
    exact this
/-- Rows of bytes, a cell each. -/
def RowsB (w : World) (G : Nat → Prop) : List (List UInt8) → List Value → Prop
  | [], cs => cs = []
  | b :: L, cs => ∃ v rs, cs = v :: rs ∧ Bs w v b ∧ (0 < b.length → ∀ y, v.ownBlock = some y → G y) ∧ RowsB w G L rs
theorem RowsB.keep {w w' : World} {G G' S : Nat → Prop} (hk : Keeps S w w') (hs : ∀ b, G b → b < w.heap.size → ¬ S b) (hg : ∀ b, G b → G' b) : ∀ {L : List (List UInt8)} {cs : List Value}, RowsB w G L cs → RowsB w' G' L cs
  | [], cs, h => h
  | b :: L, cs, h => by
    obtain ⟨v, rs, e, h1, h2, h3⟩ := h
    exact ⟨v, rs, e, h1.keepF hk h2 hs, fun h y hy => hg y (h2 h y hy), RowsB.keep hk hs hg h3⟩
theorem RowsB.snoc {w : World} {G : Nat → Prop} : ∀ {L : List (List UInt8)} {cs : List Value} {b : List UInt8} {v : Value}, RowsB w G L cs → Bs w v b → (0 < b.length → ∀ y, v.ownBlock = some y → G y) → RowsB w G (L ++ [b]) (cs ++ [v])
  | [], cs, b, v, h, h1, h2 => by
    rw [show cs = [] from h]
    exact ⟨v, [], rfl, h1, h2, rfl⟩
  | a :: L, cs, b, v, h, h1, h2 => by
    obtain ⟨u, rs, rfl, h3, h4, h5⟩ := h
    exact ⟨u, rs ++ [v], by simp, h3, h4, RowsB.snoc h5 h1 h2⟩
/-- A box: its messages' bytes, one behind the other. -/
def Box (w : World) (G : Nat → Prop) (v : Value) (L : List (List UInt8)) : Prop :=
  ∃ rows, Sl w 1 v L.length rows ∧ (0 < L.length → ∀ y, v.ownBlock = some y → G y) ∧ RowsB w G L rows
theorem Box.nil (w : World) (G : Nat → Prop) : Box w G (.slice none 0 0) [] := ⟨[], Sl.nil _ _ _, by simp, rfl⟩
theorem Box.keep {w w' : World} {G G' S : Nat → Prop} {v : Value} {L : List (List UInt8)} (h : Box w G v L) (hk : Keeps S w w') (hs : ∀ b, G b → b < w.heap.size → ¬ S b) (hg : ∀ b, G b → G' b) : Box w' G' v L := by
  obtain ⟨rows, h1, h2, h3⟩ := h
  exact ⟨rows, h1.keepF hk h2 hs, fun h y hy => hg y (h2 h y hy), h3.keep hk hs hg⟩
theorem Box.form {w : World} {G : Nat → Prop} {v : Value} {L : List (List UInt8)} (h : Box w G v L) : ∃ a c, v = .slice a L.length c ∧ L.length ≤ c ∧ c ≤ maxLen := by
  obtain ⟨rows, h1, _⟩ := h
  exact h1.form
/-- The first message of a box, where it lies; the box without it. -/
theorem Box.first {w : World} {G : Nat → Prop} {a : Option Addr} {n c : Nat} {b : List UInt8} {L : List (List UInt8)} (h : Box w G (.slice a n c) (b :: L)) :
    ∃ g o v, a = some ⟨g, o, none⟩ ∧ w.cell? ⟨g, o, none⟩ = some v ∧ Bs w v b ∧ Box w G (.slice (cutZ g o c 1 1) L.length (c - 1)) L ∧ G g ∧ (0 < b.length → ∀ y, v.ownBlock = some y → G y) := by
  obtain ⟨rows, h1, h2, v, rs, rfl, h3, h4, h5⟩ := h
  obtain ⟨a', c', e, hc, hm⟩ := h1.form
  simp only [Value.slice.injEq] at e
  obtain ⟨rfl, rfl, rfl⟩ := e
  obtain ⟨g, o, rfl, hcell⟩ := h1.addr (by rw [h1.1]; simp)
  refine ⟨g, o, v, rfl, by have := hcell 0 v rfl; simpa using this, h3, ⟨rs, ?_, fun hn y hy => ?_, h5⟩, h2 (by simp) g rfl, h4⟩
  · have := h1.restZ 1 (by simp)
    simpa using this
  · rw [cutZ_own] at hy
    exact h2 (by simp) y (by simpa [Value.ownBlock] using hy)
def kS (s : ByteArray) : Lit := .string s.data.toList
theorem kS_inj : KInj kS := strInj
theorem strKV : Maps.Keyed Try.prog 9 := Maps.string_keyed Try.underlying9
theorem kS_key {s : ByteArray} (h : s.size ≤ maxLen) : keyOf Try.prog 9 (.string s) = some (kS s) := keyOf_string_mk Try.underlying9 h
theorem zRows (w : World) : (zeroValue 30).run Try.prog w = .ok (.slice none 0 0) w := by kernel_rfl
abbrev MailX := List (ByteArray × Value × List (List UInt8))
def MailX.mail (X : MailX) : Mail := X.map fun x => (x.1, x.2.2)
def MailX.vals (X : MailX) : List (ByteArray × Value) := X.map fun x => (x.1, x.2.1)
theorem MailX.look {w : World} {G : Nat → Prop} {X : MailX} (h : ∀ x ∈ X, Box w G x.2.1 x.2.2) (s : ByteArray) : Box w G (getV X.vals s (.slice none 0 0)) (getV X.mail s []) := by
  have e1 := getV_map (fun y : Value × List (List UInt8) => y.1) X s (.slice none 0 0, [])
  have e2 := getV_map (fun y : Value × List (List UInt8) => y.2) X s (.slice none 0 0, [])
  rw [show getV X.vals s (.slice none 0 0) = _ from e1, show getV X.mail s [] = _ from e2]
  cases hh : hasV X s with
  | false => rw [getV_no hh]; exact Box.nil _ _
  | true => exact h _ (getV_mem hh _)
theorem MailX.has (X : MailX) (s : ByteArray) : hasV X.vals s = hasV X.mail s := by
  rw [show hasV X.vals s = _ from hasV_map (fun y : Value × List (List UInt8) => y.1) X s, show hasV X.mail s = _ from hasV_map (fun y : Value × List (List UInt8) => y.2) X s]
theorem MailX.put_mail (X : MailX) (s : ByteArray) (v : Value) (L : List (List UInt8)) : MailX.mail (putV X s (v, L)) = putV X.mail s L := (putV_map (fun y : Value × List (List UInt8) => y.2) X s (v, L)).symm
theorem MailX.put_vals (X : MailX) (s : ByteArray) (v : Value) (L : List (List UInt8)) : MailX.vals (putV X s (v, L)) = putV X.vals s v := (putV_map (fun y : Value × List (List UInt8) => y.1) X s (v, L)).symm
/-- Boxes, in memory: block b is the map; G: the blocks that its boxes lie in. -/
structure Bxs (w : World) (G : Nat → Prop) (b : Nat) (X : MailX) : Prop where
  map : MapAt Try.prog 9 kS w b X.vals
  box : ∀ x ∈ X, Box w G x.2.1 x.2.2
  not : ¬ G b
  lt : ∀ y, G y → y < w.heap.size
/-- A relay, in memory. -/
def relR (p : Nat) (T : Mail) : Res where
  holds W F := ∃ b G X, T = MailX.mail X ∧ Blk W p [.map (some b)] 60 ∧ p ≠ b ∧ ¬ G p ∧ Bxs W G b X ∧ ∀ y, F y ↔ y = p ∨ y = b ∨ G y
  frame := by
    rintro W W' F S ⟨b, G, X, rfl, h1, h2, h3, ⟨h4, h5, h6, h7⟩, hf⟩ hk hs
    have hg : ∀ y, G y → y < W.heap.size → ¬ S y := fun y hy _ => hs y ((hf y).2 (.inr (.inr hy)))
    exact ⟨b, G, X, rfl, h1.keep hk (hs p ((hf p).2 (.inl rfl))), h2, h3, ⟨h4.keep hk (hs b ((hf b).2 (.inr (.inl rfl)))), fun x hx => (h5 x hx).keep hk hg (fun _ h => h), h6, fun y hy => Nat.lt_of_lt_of_le (h7 y hy) hk.size⟩, hf⟩
  lt := by
    rintro W F y ⟨b, G, X, rfl, h1, h2, h3, ⟨h4, h5, h6, h7⟩, hf⟩ hy
    rcases (hf y).1 hy with rfl | rfl | hy
    · exact h1.lt
    · exact h4.lt
    · exact h7 y hy
theorem relR_open {W : World} {p : Nat} {T : Mail} {l : List Res} (h : Hold W (relR p T :: l)) : ∃ b G X, T = MailX.mail X ∧ Blk W p [.map (some b)] 60 ∧ p ≠ b ∧ p < W.heap.size ∧ Bxs W G b X ∧
    ∀ W' G' X', Bxs W' G' b X' → (∀ y, G' y → G y ∨ W.heap.size ≤ y) → Keeps (fun y => y = b ∨ W.heap.size ≤ y) W W' → Hold W' (relR p (MailX.mail X') :: l) := by
  obtain ⟨F1, F2, ⟨b, G, X, rfl, h1, h2, h3, h4, hf⟩, k2, k3⟩ := Hold.cons.1 h
  refine ⟨b, G, X, rfl, h1, h2, h1.lt, h4, fun W' G' X' h5 h6 h7 => ?_⟩
  refine Hold.cons.2 ⟨fun y => y = p ∨ y = b ∨ G' y, F2, ⟨b, G', X', rfl, h1.keep h7 (fun e => ?_), h2, fun hg => ?_, h5, fun _ => Iff.rfl⟩, (Res.all l).frame k2 h7 ?_, ?_⟩
  · have := h1.lt
    omega
  · rcases h6 p hg with h | h
    · exact h3 h
    · have := h1.lt
      omega
  · rintro y hy (rfl | hc)
    · exact k3 y ((hf y).2 (.inr (.inl rfl))) hy
    · have := (Res.all l).lt k2 hy
      omega
  · rintro y (rfl | rfl | hy) hc
    · exact k3 y ((hf y).2 (.inl rfl)) hc
    · exact k3 y ((hf y).2 (.inr (.inl rfl))) hc
    · rcases h6 y hy with h | h
      · exact k3 y ((hf y).2 (.inr (.inr h))) hc
      · have := (Res.all l).lt k2 hc
        omega
theorem relR_new {W : World} {l : List Res} (h : Hold W l) : Hold ((W.alloc (.map #[] 0)).alloc (.cells #[.map (some W.heap.size)] 60)) (relR (W.heap.size + 1) [] :: l) := by
  have hb : Below W.heap.size W ((W.alloc (.map #[] 0)).alloc (.cells #[.map (some W.heap.size)] 60)) := ((Below.refl _ _).alloc (Nat.le_refl _) _).alloc (by simp) _
  refine h.new hb (F := fun y => y = W.heap.size + 1 ∨ y = W.heap.size) ?_ (fun y hy => by omega)
  have hm : MapAt Try.prog 9 kS (W.alloc (.map #[] 0)) W.heap.size [] := ⟨.map [], MapL.nil, World.ownsMap_made W Try.prog 9 rawR⟩
  refine ⟨W.heap.size, fun _ => False, [], rfl, Blk.at_ (by simp), by omega, fun h => h, ⟨hm.keep (Keeps.of_below ((Below.refl _ _).alloc (Nat.le_refl _) _)) (by simp), by simp, fun h => h, fun y h => h.elim⟩, fun y => by simp⟩
/-- Boxes of one's own that may hold rows of what was there at the world w0. -/
def lawR (w0 : World) (b : Nat) (T : Mail) : Res where
  holds W F := ∃ G X, T = MailX.mail X ∧ Below w0.heap.size w0 W ∧ (∀ y, y < w0.heap.size → G y) ∧ Bxs W G b X ∧ ∀ y, F y ↔ y = b ∨ G y
  frame := by
    rintro W W' F S ⟨G, X, rfl, h1, h2, ⟨h4, h5, h6, h7⟩, hf⟩ hk hs
    have hg : ∀ y, G y → y < W.heap.size → ¬ S y := fun y hy _ => hs y ((hf y).2 (.inr hy))
    refine ⟨G, X, rfl, ⟨hk.os.trans h1.os, hk.tape.trans h1.tape, hk.output.trans h1.output, Nat.le_trans h1.size hk.size, fun y hy => (hk.block y (hs y ((hf y).2 (.inr (h2 y hy))))).trans (h1.block y hy)⟩, h2, ⟨h4.keep hk (hs b ((hf b).2 (.inl rfl))), fun x hx => (h5 x hx).keep hk hg (fun _ h => h), h6, fun y hy => Nat.lt_of_lt_of_le (h7 y hy) hk.size⟩, hf⟩
  lt := by
    rintro W F y ⟨G, X, rfl, h1, h2, ⟨h4, h5, h6, h7⟩, hf⟩ hy
    rcases (hf y).1 hy with rfl | hy
    · exact h4.lt
    · exact h7 y hy
theorem Hold.lawBase {W w0 : World} {b : Nat} {T : Mail} {l : List Res} (h : Hold W l) (hm : lawR w0 b T ∈ l) : Below w0.heap.size w0 W := by
  obtain ⟨F, G, X, _, h1, _⟩ := h.get hm
  exact h1
/-- The boxes of the law, made: nothing but what was there before is held. -/
theorem lawR_new {W w0 : World} {l : List Res} (h : Hold W (.base w0 :: l)) : Hold (W.alloc (.map #[] 0)) (lawR w0 W.heap.size [] :: l) := by
  have hb : Below W.heap.size W (W.alloc (.map #[] 0)) := (Below.refl _ _).alloc (Nat.le_refl _) _
  have h0 : Below w0.heap.size w0 W := h.baseOf (by simp)
  have hz := h0.size
  refine h.turn fun F hF => ⟨fun y => y = W.heap.size ∨ y < w0.heap.size, ⟨fun y => y < w0.heap.size, [], rfl, h0.trans (hb.mono hz), fun _ h => h, ⟨⟨.map [], MapL.nil, World.ownsMap_made W Try.prog 9 rawR⟩, by simp, by omega, fun y hy => by simp; omega⟩, fun _ => Iff.rfl⟩, fun y hy => ?_, (Keeps.of_below hb).mono fun k hk => .inr hk⟩
  rcases hy with rfl | hy
  · exact .inr (Nat.le_refl _)
  · exact .inl ((hF.2 y).2 hy)
/-- What could be read still can. -/
def KB (w w' : World) : Prop := ∀ b o u, w.cell? ⟨b, o, none⟩ = some u → w'.cell? ⟨b, o, none⟩ = some u
theorem KB.refl (w : World) : KB w w := fun _ _ _ h => h
theorem KB.trans {a b c : World} (h : KB a b) (k : KB b c) : KB a c := fun x o u hb => k x o u (h x o u hb)
theorem KB.below {w w' : World} (h : Below w.heap.size w w') : KB w w' := fun _ _ _ hb => below_cell h hb
theorem KB.sl {w w' : World} (h : KB w w') {sz n : Nat} {v : Value} {cs : List Value} (hs : Sl w sz v n cs) : Sl w' sz v n cs := hs.mono fun b o u _ hc => h b o u hc
theorem KB.bs {w w' : World} (h : KB w w') {v : Value} {l : List UInt8} (hs : Bs w v l) : Bs w' v l := h.sl hs
theorem KB.rows {w w' : World} (h : KB w w') {G : Nat → Prop} : ∀ {L : List (List UInt8)} {cs : List Value}, RowsB w G L cs → RowsB w' G L cs
  | [], cs, hr => hr
  | b :: L, cs, hr => by
    obtain ⟨v, rs, e, h1, h2, h3⟩ := hr
    exact ⟨v, rs, e, h.bs h1, h2, h.rows h3⟩
theorem KB.box {w w' : World} (h : KB w w') {G : Nat → Prop} {v : Value} {L : List (List UInt8)} (hb : Box w G v L) : Box w' G v L := by
  obtain ⟨rows, h1, h2, h3⟩ := hb
  exact ⟨rows, h.sl h1, h2, h.rows h3⟩
theorem KB.map {α : Type} {kL : α → Lit} {P : Program} {k : TypeId} {w w' : World} {b : Nat} {M : List (α × Value)} (hm : MapAt P k kL w b M) (hk : Keeps (fun y => y = b ∨ w.heap.size ≤ y) w w') : KB w w' := by
  intro y o u hc
  obtain ⟨D, _, es, clock, hmap, _⟩ := hm
  have hlt : y < w.heap.size := by
    rcases Nat.lt_or_ge y w.heap.size with h | h
    · exact h
    · simp [World.cell?, Array.getElem?_eq_none h] at hc
  refine (hk.cell (p := ⟨y, o, none⟩) ?_).trans hc
  rintro (e | e)
  · have e : y = b := e
    subst e
    simp [World.cell?, hmap] at hc
  · have e : w.heap.size ≤ y := e
    omega
/-- A box is laid. -/
theorem Bxs.put {W W' : World} {G G' : Nat → Prop} {b : Nat} {X : MailX} {s : ByteArray} {v : Value} {L : List (List UInt8)} (h : Bxs W G b X) (hm : MapAt Try.prog 9 kS W' b (putV X.vals s v)) (hk : Keeps (fun y => y = b ∨ W.heap.size ≤ y) W W')
    (hg : ∀ y, G y → G' y) (hn : Box W' G' v L) (hb : ¬ G' b) (hl : ∀ y, G' y → y < W'.heap.size) : Bxs W' G' b (putV X s (v, L)) := by
  refine ⟨by rw [MailX.put_vals]; exact hm, fun x hx => ?_, hb, hl⟩
  rcases mem_putV hx with rfl | ⟨hx, _⟩
  · exact hn
  · exact (h.box x hx).keep hk (fun y hy hlt => by
      rintro (rfl | hc)
      · exact h.not hy
      · omega) hg
end Go.Proofs.Ytofmkkcbfeadgaa
namespace Go.Proofs.Ytofmkkcbfeadgaa
set_option linter.unusedSimpArgs false
set_option linter.unusedVariables false
section
variable {P : Program} {ops : Array Oper} {Q : Exit → Act → World → Prop} {md : Region.Mode} {S : World → Prop}
/-- One operation that may come up, as the walk wants it. -/
def AllReadyH (P : Program) (md : Region.Mode) (ops : Array Oper) (Q : Exit → Act → World → Prop) (S : World → Prop) (fuel : Nat) (listed : Array Bool) (a : Act) (w : World) (rs : List Nat) : Prop :=
  ∀ i ∈ rs, wpOp P ops Q i (fun a' w' => S w' ∧ wpAnyH P md ops Q S fuel (listed.setIfInBounds i true) a' w') a w
theorem AllReadyH.nil {fuel : Nat} {listed : Array Bool} {a : Act} {w : World} : AllReadyH P md ops Q S fuel listed a w [] := fun _ h => by cases h
theorem AllReadyH.cons {fuel : Nat} {listed : Array Bool} {a : Act} {w : World} {i : Nat} {o : Oper} {rs : List Nat} (ho : ops[i]? = some o)
    (h : ∀ K' : Act → World → Prop, (∀ a w, S w → wpAnyH P md ops Q S fuel (listed.setIfInBounds i true) a w → K' a w) → if Region.wanted o (yielded ops a.tmps) = true then Oper.wp P o a w K' Q else K' (a.put o.dst undef) w)
    (hs : AllReadyH P md ops Q S fuel listed a w rs) : AllReadyH P md ops Q S fuel listed a w (i :: rs) := fun j hj => by
  rcases List.mem_cons.1 hj with rfl | hj
  · exact wpOp_step ho (fun K' hK => h K' (fun a w h1 h2 => hK a w ⟨h1, h2⟩))
  · exact hs j hj
theorem anyH_ready {rs : List Nat} {fuel : Nat} {listed : Array Bool} {a : Act} {w : World} (hr : Region.ready md ops listed = rs) (hne : rs ≠ [])
    (h : AllReadyH P md ops Q S fuel listed a w rs) : wpAnyH P md ops Q S (fuel + 1) listed a w := wpAnyH_all hr hne h
/-- Short forms (the hand-in's texts have a limit). -/
theorem tkH (i d : Nat) (g : Option (Nat × Bool)) (v : Value) {op : Op} {ty : TypeId} {pos : String} {aft : Array Edge} {fuel : Nat} {listed : Array Bool} {a : Act} {w : World} (hi : ops[i]? = some ⟨some d, op, ty, pos, aft, g⟩)
    (hb : (Region.noSelect ops && Region.free md ops listed i && (Region.ready md ops listed).contains i) = true) (hQ : ∀ c a w, Q (.panic c) (a.put (some d) v) w → Q (.panic c) a w)
    (hw : Region.wanted ⟨some d, op, ty, pos, aft, g⟩ (yielded ops a.tmps) = true) (hr : ∀ w, S w → (execOp a.eval ⟨some d, op, ty, pos, aft, g⟩).run P w = .ok (.value v) w) (hS : S w)
    (h : wpAnyH P md ops Q S fuel (listed.setIfInBounds i true) (a.put (some d) v) w) : wpAnyH P md ops Q S (fuel + 1) listed a w := by
  simp only [Bool.and_eq_true] at hb
  exact wpAnyH_take hi hb.1.1 hb.1.2 hb.2 hQ (.inl ⟨hw, hr⟩) hS h
theorem skH (i d : Nat) (g : Option (Nat × Bool)) {op : Op} {ty : TypeId} {pos : String} {aft : Array Edge} {fuel : Nat} {listed : Array Bool} {a : Act} {w : World} (hi : ops[i]? = some ⟨some d, op, ty, pos, aft, g⟩)
    (hb : (Region.noSelect ops && Region.free md ops listed i && (Region.ready md ops listed).contains i) = true) (hQ : ∀ c a w, Q (.panic c) (a.put (some d) undef) w → Q (.panic c) a w)
    (hw : Region.wanted ⟨some d, op, ty, pos, aft, g⟩ (yielded ops a.tmps) = false) (hS : S w)
    (h : wpAnyH P md ops Q S fuel (listed.setIfInBounds i true) (a.put (some d) undef) w) : wpAnyH P md ops Q S (fuel + 1) listed a w := by
  simp only [Bool.and_eq_true] at hb
  exact wpAnyH_take hi hb.1.1 hb.1.2 hb.2 hQ (.inr ⟨hw, rfl⟩) hS h
end
theorem q1 (l : List Value) (i : Nat) (v : Value) : l.toArray.setIfInBounds i v = (l.set i v).toArray := List.setIfInBounds_toArray ..
theorem q2 (l : List Value) (x v : Value) : (x :: l).set 0 v = v :: l := rfl
theorem q3 (l : List Value) (i : Nat) (x v : Value) : (x :: l).set (i + 1) v = x :: l.set i v := rfl
end Go.Proofs.Ytofmkkcbfeadgaa
namespace Go.Proofs.Ytofmkkcbfeadgaa
set_option linter.unusedSimpArgs false
set_option linter.unusedVariables false
open Go.RowKit Go.Maps Go.MapKept Go.WideMaps
theorem Sl.noneE {w : World} {sz n c : Nat} {cs : List Value} (h : Sl w sz (.slice none n c) n cs) : n = 0 ∧ c = 0 ∧ cs = [] := by
  obtain ⟨h1, _, a, cap, e, h2, _, h3, _⟩ := h
  simp only [Value.slice.injEq, true_and] at e
  obtain ⟨rfl, rfl⟩ := e
  have := h3 rfl
  obtain rfl : n = 0 := by omega
  exact ⟨rfl, by omega, List.eq_nil_of_length_eq_zero (by simpa using h1)⟩
/-- append of a row to an empty slice literal. -/
theorem own_empty (w : World) (T e : TypeId) (sz : Nat) : Own (w.alloc (.cells #[] T)) w.heap.size e sz (.slice (some ⟨w.heap.size, 0, none⟩) 0 0) 0 [] := Own.nil _ _ _ _ _
set_option maxRecDepth 100000 in
set_option maxHeartbeats 1000000 in
theorem cloneB_any (v : Value) (b : List UInt8) (w : World) (h : Bs w v b) (hl : b.length ≤ 1099511627776) :
    Calls Try.prog 24 #[v] w fun e w' => ∃ v', e = .returned v' ∧ Bs w' v' b ∧ (∀ y, v'.ownBlock = some y → w.heap.size ≤ y ∧ y < w'.heap.size) ∧ Below w.heap.size w w' := by
  obtain ⟨a, c, rfl, hc, hm⟩ := h.form
  cases a with
  | none =>
    obtain ⟨h1, rfl, h2⟩ := Sl.noneE h
    obtain rfl : b = [] := List.eq_nil_of_length_eq_zero h1
    clear h hc hm h1 h2
    have qn : ∀ (w : World) (a : Option Addr) (n c n' c' : Nat), (binOp .eql 27 (.slice a n c) (.slice none n' c')).run Try.prog w = .ok (.bool a.isNone) w := fun w a n c n' c' => Lib.run_eql_slice_nil w _ _ a n c n' c' Try.underlying27
    go_enter Try.func24, Try.ntmps24
    go_wp2_with fail
    go_ret
    exact ⟨_, rfl, Sl.nil _ _ _, by simp [Value.ownBlock], Below.refl _ _⟩
  | some a =>
    have HB := hI (h.alloc (.cells #[] 5))
    have HL := hI hl
    clear h hl
    have qn : ∀ (w : World) (a : Option Addr) (n c n' c' : Nat), (binOp .eql 27 (.slice a n c) (.slice none n' c')).run Try.prog w = .ok (.bool a.isNone) w := fun w a n c n' c' => Lib.run_eql_slice_nil w _ _ a n c n' c' Try.underlying27
    go_enter Try.func24, Try.ntmps24
    go_wp2_with (at_builtin; refine wpList_app2 rfl _ _ elBytes rfl w.heap.size (own_empty w 5 5 1) (by show ∀ y, (Value.slice (some ⟨w.heap.size, 0, none⟩) 0 0).ownBlock = some y → _; intro y hy; simp [Value.ownBlock] at hy; simp; omega) HB.out (by have := HL.out; unfold maxLen; omega) (by have := HL.out; omega) (by simp) ?_)
    intro v' w' ho hk hv
    have HO := hI ho
    have HK := hI hk
    have HV := hI hv
    clear ho hk hv
    go_wp2_with fail
    go_ret
    refine ⟨_, rfl, by have := HO.out.sl; exact this, fun y hy => ?_, ((Below.refl _ _).alloc (Nat.le_refl _) _).trans (HK.out.below (fun k hk => ?_))⟩
    · have h1 := HV.out y hy
      simp [Value.ownBlock] at h1
      omega
    · simp [Value.ownBlock] at hk
      omega
set_option maxRecDepth 100000 in
set_option maxHeartbeats 1000000 in
theorem cloneR_any (v : Value) (n : Nat) (rows : List Value) (w : World) (h : Sl w 1 v n rows) (hl : n ≤ 1099511627776) :
    Calls Try.prog 23 #[v] w fun e w' => ∃ v', e = .returned v' ∧ Own w' w.heap.size 27 1 v' n rows ∧ (∀ y, v'.ownBlock = some y → w.heap.size ≤ y ∧ y < w'.heap.size) ∧ Below w.heap.size w w' := by
  obtain ⟨a, c, rfl, hc, hm⟩ := h.form
  cases a with
  | none =>
    obtain ⟨rfl, rfl, rfl⟩ := Sl.noneE h
    clear h hc hm
    have qn : ∀ (w : World) (a : Option Addr) (n c n' c' : Nat), (binOp .eql 30 (.slice a n c) (.slice none n' c')).run Try.prog w = .ok (.bool a.isNone) w := fun w a n c n' c' => Lib.run_eql_slice_nil w _ _ a n c n' c' Try.underlying30
    go_enter Try.func23, Try.ntmps23
    go_wp2_with fail
    go_ret
    exact ⟨_, rfl, Own.nil _ _ _ _ _, by simp [Value.ownBlock], Below.refl _ _⟩
  | some a =>
    have HB := hI (h.alloc (.cells #[] 27))
    have HL := hI hl
    clear h hl
    have qn : ∀ (w : World) (a : Option Addr) (n c n' c' : Nat), (binOp .eql 30 (.slice a n c) (.slice none n' c')).run Try.prog w = .ok (.bool a.isNone) w := fun w a n c n' c' => Lib.run_eql_slice_nil w _ _ a n c n' c' Try.underlying30
    go_enter Try.func23, Try.ntmps23
    go_wp2_with (at_builtin; refine wpList_app2 rfl _ _ elRows rfl w.heap.size (own_empty w 27 27 1) (by show ∀ y, (Value.slice (some ⟨w.heap.size, 0, none⟩) 0 0).ownBlock = some y → _; intro y hy; simp [Value.ownBlock] at hy; simp; omega) HB.out (by have := HL.out; unfold maxLen; omega) (by have := HL.out; omega) (by simp) ?_)
    intro v' w' ho hk hv
    have HO := hI ho
    have HK := hI hk
    have HV := hI hv
    clear ho hk hv
    go_wp2_with fail
    go_ret
    refine ⟨_, rfl, by have := HO.out; simpa using this, fun y hy => ?_, ((Below.refl _ _).alloc (Nat.le_refl _) _).trans (HK.out.below (fun k hk => ?_))⟩
    · have h1 := HV.out y hy
      simp [Value.ownBlock] at h1
      omega
    · simp [Value.ownBlock] at hk
      omega
set_option maxRecDepth 100000 in
theorem relNew_any (l : List Res) (w : World) (h : Hold w l) : Calls Try.prog 6 #[] w fun e w' => ∃ p, e = .returned (.pointer (some ⟨p, 0, none⟩)) ∧ Hold w' (relR p [] :: l) := by
  have HC := hI (relR_new h)
  clear h
  go_enter Try.func6, Try.ntmps6
  have hmm := @run_makeMap Try.prog
  go_wp2_with fail
  go_ret
  exact ⟨_, rfl, HC.out⟩
/-- Mail as a relay keeps it: few names, each once, few messages. -/
structure MailOk (T : Mail) : Prop where
  keys : T.Pairwise (fun x y => x.1 ≠ y.1)
  few : T.length ≤ 32
  box : ∀ x ∈ T, x.2.length ≤ 16 ∧ ∀ b ∈ x.2, b.length ≤ 500
theorem MailOk.get {T : Mail} (h : MailOk T) (s : ByteArray) : (getV T s []).length ≤ 16 ∧ ∀ b ∈ getV T s [], b.length ≤ 500 := by
  cases hh : hasV T s with
  | false => rw [getV_no hh]; simp
  | true => exact h.box _ (getV_mem hh _)
theorem MailOk.put {T : Mail} (h : MailOk T) (s : ByteArray) (L : List (List UInt8)) (hT : hasV T s = true ∨ T.length < 32) (hL : L.length ≤ 16 ∧ ∀ b ∈ L, b.length ≤ 500) : MailOk (putV T s L) := by
  refine ⟨putV_keys h.keys s L, ?_, fun x hx => ?_⟩
  · rcases hT with hT | hT
    · rw [putV_has h.keys hT]; exact h.few
    · have := putV_length T s L; omega
  · rcases mem_putV hx with rfl | ⟨hx, _⟩
    · exact hL
    · exact h.box x hx
def openS (T : Mail) (s : ByteArray) : Mail × Int := if hasV T s = true then (T, 10) else if T.length = 32 then (T, 8) else (putV T s [], 0)
set_option maxRecDepth 100000 in
set_option maxHeartbeats 1000000 in
theorem relOpen_any (p : Nat) (T : Mail) (s : ByteArray) (l : List Res) (w : World) (h : Hold w (relR p T :: l)) (hs : s.size ≤ maxLen) (hT : T.length ≤ 32) :
    Calls Try.prog 7 #[.pointer (some ⟨p, 0, none⟩), .string s] w fun e w' => e = .returned (.int .i64 (openS T s).2) ∧ Hold w' (relR p (openS T s).1 :: l) ∧ KB w w' := by
  have HC0 := hI h
  obtain ⟨b, G, X, rfl, hp, hpb, hpl, hx, hend⟩ := relR_open h
  have c0 : w.cell? ⟨p, 0, none⟩ = some (.map (some b)) := hp.cell 0
  have HX := hI hx
  have HE := hI hend
  have HK := hI (kS_key hs)
  have HXL : Hid (X.vals.length = X.mail.length) := hI (by simp [MailX.vals, MailX.mail])
  have HT := hI hT
  clear h hp hx hend hs hT
  obtain ⟨K, hK⟩ : ∃ K, K = hasV X.mail s := ⟨_, rfl⟩
  have HKN := hI hK
  have HV : Hid (hasV X.vals s = K) := hI (by rw [MailX.has, hK])
  clear hK
  cases K with
  | true =>
    have HR : Hid (openS X.mail s = (X.mail, 10)) := hI (by rw [openS, if_pos HKN.out.symm])
    go_enter Try.func7, Try.ntmps7
    go_wp2_with (at_lookup; refine wpList_lookupV_ok _ rfl _ _ _ rfl 9 30 strKV kS_inj Try.underlying26 (zRows _) b _ rfl HX.out.map s HK.out ?_; rw [HV.out])
    go_ret
    rw [HR.out]
    exact ⟨rfl, HC0.out, KB.refl _⟩
  | false =>
    by_cases hfull : X.mail.length = 32
    · have HR : Hid (openS X.mail s = (X.mail, 8)) := hI (by rw [openS, if_neg (by rw [← HKN.out]; decide), if_pos hfull])
      have h32 : ((X.vals.length : Nat) : Int) = 32 := by rw [HXL.out, hfull]; rfl
      clear hfull
      go_enter Try.func7, Try.ntmps7
      go_wp2_with (first | (at_lookup; refine wpList_lookupV_ok _ rfl _ _ _ rfl 9 30 strKV kS_inj Try.underlying26 (zRows _) b _ rfl HX.out.map s HK.out ?_; rw [HV.out]) | ((with_reducible show wpList _ _ _ (⟨some 23, _, _, _, _, _⟩ :: _) _ _); refine wpList_lenV _ rfl _ _ rfl 9 30 Try.underlying26 b _ rfl HX.out.map ?_; rw [h32]))
      go_ret
      rw [HR.out]
      exact ⟨rfl, HC0.out, KB.refl _⟩
    · have HR : Hid (openS X.mail s = (putV X.mail s [], 0)) := hI (by rw [openS, if_neg (by rw [← HKN.out]; decide), if_neg hfull])
      have h32 : (((X.vals.length : Nat) : Int) == 32) = false := by
        rw [HXL.out]
        simp only [beq_eq_false_iff_ne, ne_eq]
        omega
      have HML : Hid (X.vals.length < maxLen) := hI (by rw [HXL.out]; have := HT.out; unfold maxLen; omega)
      clear hfull
      go_enter Try.func7, Try.ntmps7
      go_wp2_with (first | (at_lookup; refine wpList_lookupV_ok _ rfl _ _ _ rfl 9 30 strKV kS_inj Try.underlying26 (zRows _) b _ rfl HX.out.map s HK.out ?_; rw [HV.out]) | ((with_reducible show wpList _ _ _ (⟨some 23, _, _, _, _, _⟩ :: _) _ _); refine wpList_lenV _ rfl _ _ rfl 9 30 Try.underlying26 b _ rfl HX.out.map ?_) | (at_mapUpdate; refine wpList_updateV _ rfl _ _ _ _ rfl 9 30 strKV kS_inj Try.underlying26 b _ rfl HX.out.map HML.out s HK.out ?_))
      intro w' hm hk hz
      have hbx : Bxs w' G b (putV X s (.slice none 0 0, [])) := HX.out.put hm hk (fun _ h => h) (Box.nil _ _) HX.out.not (fun y hy => by have := HX.out.lt y hy; omega)
      have HKB := hI (KB.map HX.out.map hk)
      have HE2 := hI (HE.out w' G _ hbx (fun _ h => .inl h) hk)
      clear hm hk hz hbx
      go_wp2_with fail
      go_ret
      rw [HR.out]
      exact ⟨rfl, by have := HE2.out; rw [MailX.put_mail] at this; exact this, HKB.out⟩
/-- The first message of a box, and the mail without it. -/
def getS (T : Mail) (s : ByteArray) : List UInt8 × Mail × Int := match getV T s [] with
  | [] => ([], T, 9)
  | b :: L => (b, putV T s L, 0)
theorem szBytes : ∀ w, (sizeOf 27).run Try.prog w = .ok 1 w := by
  intro w
  obtain ⟨_, i, hi, _, hs, _⟩ := elRows
  simp [sizeOf, typeInfo, hi, hs]
def GotR (p : Nat) (l : List Res) (w : World) (r : List UInt8 × Mail × Int) (e : Ending) (w' : World) : Prop :=
  ∃ v, e = .returned (.tuple #[v, .int .i64 r.2.2]) ∧ Bs w' v r.1 ∧ Hold w' (relR p r.2.1 :: l) ∧ KB w w'
set_option maxRecDepth 100000 in
set_option maxHeartbeats 1000000 in
theorem relClear_any (p : Nat) (T : Mail) (s : ByteArray) (l : List Res) (w : World) (h : Hold w (relR p T :: l)) (hs : s.size ≤ maxLen) (hT : T.length ≤ 32) :
    Calls Try.prog 14 #[.pointer (some ⟨p, 0, none⟩), .string s] w fun e w' => e = .returned (.tuple #[]) ∧ Hold w' (relR p (if hasV T s = true then putV T s [] else T) :: l) ∧ KB w w' := by
  have HC0 := hI h
  obtain ⟨b, G, X, rfl, hp, hpb, hpl, hx, hend⟩ := relR_open h
  have c0 : w.cell? ⟨p, 0, none⟩ = some (.map (some b)) := hp.cell 0
  have HX := hI hx
  have HE := hI hend
  have HK := hI (kS_key hs)
  have HXL : Hid (X.vals.length = X.mail.length) := hI (by simp [MailX.vals, MailX.mail])
  have HML : Hid (X.vals.length < maxLen) := hI (by rw [HXL.out]; unfold maxLen; omega)
  clear h hp hx hend hs hT
  obtain ⟨K, hK⟩ : ∃ K, K = hasV X.mail s := ⟨_, rfl⟩
  rw [← hK]
  have HV : Hid (hasV X.vals s = K) := hI (by rw [MailX.has, hK])
  clear hK
  cases K with
  | false =>
    go_enter Try.func14, Try.ntmps14
    go_wp2_with (at_lookup; refine wpList_lookupV_ok _ rfl _ _ _ rfl 9 30 strKV kS_inj Try.underlying26 (zRows _) b _ rfl HX.out.map s HK.out ?_; rw [HV.out])
    go_end0
    exact ⟨rfl, by simpa using HC0.out, KB.refl _⟩
  | true =>
    go_enter Try.func14, Try.ntmps14
    go_wp2_with (first | (at_lookup; refine wpList_lookupV_ok _ rfl _ _ _ rfl 9 30 strKV kS_inj Try.underlying26 (zRows _) b _ rfl HX.out.map s HK.out ?_; rw [HV.out]) | (at_mapUpdate; refine wpList_updateV _ rfl _ _ _ _ rfl 9 30 strKV kS_inj Try.underlying26 b _ rfl HX.out.map HML.out s HK.out ?_))
    intro w' hm hk hz
    have hbx : Bxs w' G b (putV X s (.slice none 0 0, [])) := HX.out.put hm hk (fun _ h => h) (Box.nil _ _) HX.out.not (fun y hy => by have := HX.out.lt y hy; omega)
    have HKB := hI (KB.map HX.out.map hk)
    have HE2 := hI (HE.out w' G _ hbx (fun _ h => .inl h) hk)
    clear hm hk hz hbx
    go_wp2_with fail
    go_end0
    exact ⟨rfl, by have := HE2.out; rw [MailX.put_mail] at this; simpa using this, HKB.out⟩
set_option maxRecDepth 100000 in
set_option maxHeartbeats 1000000 in
theorem relLen_any (p : Nat) (T : Mail) (s : ByteArray) (l : List Res) (w : World) (h : Hold w (relR p T :: l)) (hs : s.size ≤ maxLen) :
    Calls Try.prog 15 #[.pointer (some ⟨p, 0, none⟩), .string s] w fun e w' => e = .returned (.int .i64 ((getV T s []).length : Nat)) ∧ w = w' := by
  obtain ⟨b, G, X, rfl, hp, hpb, hpl, hx, hend⟩ := relR_open h
  have c0 : w.cell? ⟨p, 0, none⟩ = some (.map (some b)) := hp.cell 0
  have HX := hI hx
  have HK := hI (kS_key hs)
  obtain ⟨a, c, hv, _⟩ := (MailX.look hx.box s).form
  have HV := hI hv
  obtain ⟨n, hn⟩ : ∃ n, n = (getV X.mail s []).length := ⟨_, rfl⟩
  rw [← hn] at HV ⊢
  clear h hp hx hend hs hv hn
  go_enter Try.func15, Try.ntmps15
  go_wp2_with (at_lookup; refine wpList_lookupV _ rfl _ _ _ rfl 9 30 strKV kS_inj Try.underlying26 (zRows _) b _ rfl HX.out.map s HK.out ?_; rw [HV.out])
  go_ret
  exact ⟨rfl, rfl⟩
end Go.Proofs.Ytofmkkcbfeadgaa
namespace Go.Proofs.Ytofmkkcbfeadgaa
set_option linter.unusedSimpArgs false
set_option linter.unusedVariables false
open Go.RowKit
theorem exec_slice {P : Program} {o : Oper} {a : Act} {W : World} {t : TypeId} {x : Operand} {lo hi mx : Option Operand} (ho : o.op = .slice t x lo hi mx) {v : Value} (hr : (Instr.sliceAt t (a.eval x) (lo.map a.eval) (hi.map a.eval) (mx.map a.eval)).run P W = .ok v W) :
    (execOp a.eval o).run P W = .ok (.value v) W := by
  unfold execOp
  simp only [ho, Sem.run_bind, Sem.run_pure, hr, Result.andThen_ok]
end Go.Proofs.Ytofmkkcbfeadgaa
namespace Go.Proofs.Ytofmkkcbfeadgaa
set_option linter.unusedSimpArgs false
set_option linter.unusedVariables false
open Go.RowKit Go.Maps Go.MapKept Go.WideMaps
/-- 'm[k] = v' as one step of a region that draws its order. -/
theorem step_updateV {α : Type} [DecidableEq α] {kL : α → Lit} {P : Program} {w : World} {ops : Array Oper} {o : Oper} {a : Act} {K' : Act → World → Prop} {Q : Exit → Act → World → Prop} {E : Prop} (hgd : o.guard = none) (m x v : Operand) {t : TypeId} (hop : o.op = Op.mapUpdate t m x v) (k e : TypeId) (K : Keyed P k) (hk : KInj kL) (ht : P.underlying t = some (.map k e)) (b : Nat) (M : List (α × Value))
    (hm : a.eval m = .map (some b)) (hown : MapAt P k kL w b M) (hn : M.length < maxLen) (s : α) (hkey : keyOf P k (a.eval x) = some (kL s))
    (h : ∀ w', MapAt P k kL w' b (putV M s (a.eval v)) → Keeps (fun k => k = b ∨ w.heap.size ≤ k) w w' → w'.heap.size = w.heap.size → K' (a.put o.dst undef) w') : if Region.wanted o (yielded ops a.tmps) = true then Oper.wp P o a w K' Q else E := by
  have hw : Region.wanted o (yielded ops a.tmps) = true := by simp [Region.wanted, hgd]
  rw [if_pos hw]
  obtain ⟨D, hd, ho⟩ := hown
  obtain ⟨w', hrun, r1, r2⟩ := ho.store K ht (by rw [hd.size]; exact hn) hkey (val := a.eval v) (d := .held (a.eval v)) (ps := []) rfl
  unfold Oper.wp
  simp [execOp, hop, hm, hrun, Result.andThen]
  refine h w' ⟨_, hd.put hk s (a.eval v), ownsMapV_tight r1⟩ (keeps_grown r2.grown) ?_
  obtain ⟨es, clock, es', clock', e1, rfl⟩ := r2
  simp [Go.ChangeMaps.setBlock]
set_option maxRecDepth 100000 in
set_option maxHeartbeats 4000000 in
theorem relGet_any (p : Nat) (T : Mail) (s : ByteArray) (l : List Res) (w : World) (h : Hold w (relR p T :: l)) (hs : s.size ≤ maxLen) (hT : MailOk T) :
    Calls Try.prog 12 #[.pointer (some ⟨p, 0, none⟩), .string s] w (GotR p l w (getS T s)) := by
  have HC0 := hI h
  obtain ⟨b, G, X, rfl, hp, hpb, hpl, hx, hend⟩ := relR_open h
  have c0 : w.cell? ⟨p, 0, none⟩ = some (.map (some b)) := hp.cell 0
  have HX := hI hx
  have HE := hI hend
  have HP := hI hp
  have HPB : Hid (¬ p = b) := hI hpb
  have HPL := hI hpl
  have HK := hI (kS_key hs)
  have HTO := hI hT
  have HLK := hI (MailX.look hx.box s)
  obtain ⟨a, c, hv, hcl, hcm⟩ := HLK.out.form
  have HV := hI hv
  have hhas : hasV X.vals s = hasV X.mail s := MailX.has X s
  have HHAS := hI hhas
  have HFW : Hid (X.vals.length < maxLen) := hI (by
    have : X.vals.length = X.mail.length := by simp [MailX.vals, MailX.mail]
    have h2 := hT.few
    unfold maxLen
    omega)
  obtain ⟨L0, hL0⟩ : ∃ L0, L0 = getV X.mail s [] := ⟨_, rfl⟩
  have HL0 := hI hL0
  rw [← hL0] at HLK HV hcl
  clear h hp hx hend hs hv hhas hL0 hpb hpl hT
  cases L0 with
  | nil =>
    have HR : Hid (getS X.mail s = ([], X.mail, 9)) := hI (by unfold getS; rw [← HL0.out])
    simp only [List.length_nil] at HV
    obtain ⟨K, hK⟩ : ∃ K, K = hasV X.vals s := ⟨_, rfl⟩
    have HKN := hI hK
    clear hK
    cases K with
    | false =>
      go_enter Try.func12, Try.ntmps12
      go_wp2_with (at_lookup; refine wpList_lookupV_ok _ rfl _ _ _ rfl 9 30 strKV kS_inj Try.underlying26 (zRows _) b _ rfl HX.out.map s HK.out ?_; rw [HV.out, ← HKN.out])
      go_ret2
      rw [HR.out]
      exact ⟨_, rfl, Sl.nil _ _ _, HC0.out, KB.refl _⟩
    | true =>
      go_enter Try.func12, Try.ntmps12
      go_wp2_with (at_lookup; refine wpList_lookupV_ok _ rfl _ _ _ rfl 9 30 strKV kS_inj Try.underlying26 (zRows _) b _ rfl HX.out.map s HK.out ?_; rw [HV.out, ← HKN.out])
      go_ret2
      rw [HR.out]
      exact ⟨_, rfl, Sl.nil _ _ _, HC0.out, KB.refl _⟩
  | cons m L =>
    have HR : Hid (getS X.mail s = (m, putV X.mail s L, 0)) := hI (by unfold getS; rw [← HL0.out])
    have hyes : hasV X.vals s = true := by
      rw [HHAS.out]
      cases hh : hasV X.mail s with
      | true => rfl
      | false =>
        have := HL0.out
        rw [getV_no hh] at this
        cases this
    have HY := hI hyes
    rw [HV.out] at HLK
    obtain ⟨g, o, mv, rfl, hcell, hbs, hbox, hgg, hgm⟩ := HLK.out.first
    have HGG := hI hgg
    have HGM := hI hgm
    have HCE := hI hcell
    have HBS := hI hbs
    have HBX := hI hbox
    have hcl1 : L.length + 1 ≤ c := hcl
    have HSLC : Hid (∀ W, (Instr.sliceAt 30 (.slice (some ⟨g, o, none⟩) (L.length + 1) c) (some (.int .i64 1)) none none).run Try.prog W = .ok (.slice (cutZ g o c 1 1) L.length (c - 1)) W) := hI (fun W => by
      have := run_sliceZ Try.underlying30 szBytes g o (L.length + 1) c 1 (by omega) hcl1 W
      simpa using this)
    simp only [List.length_cons] at HV
    clear hyes hcell hbs hbox hcl hcm hcl1 HHAS hgg hgm
    have hpos : ¬ ((L.length : Int) + 1 = 0) := by omega
    have hpos2 : (((L.length + 1 : Nat) : Int) == 0) = false := by simp; omega
    go_enter Try.func12, Try.ntmps12
    go_upto_region 4 with (at_lookup; refine wpList_lookupV_ok _ rfl _ _ _ rfl 9 30 strKV kS_inj Try.underlying26 (zRows _) b _ rfl HX.out.map s HK.out ?_; rw [HV.out, HY.out])
    obtain ⟨N, hN⟩ : ∃ N, N = w.heap.size := ⟨_, rfl⟩
    have HN := hI hN
    have HS : Hid (Keeps (fun y => y = b ∨ N ≤ y) w w.drew) := hI (Keeps.refl _ _).drew
    have HM : Hid (MapAt Try.prog 9 kS w.drew b X.vals) := hI (HX.out.map.keep (Keeps.refl (fun _ => False) _).drew (fun h => h))
    clear hN
    refine wp_region_held (S := fun W : World => Keeps (fun y => y = b ∨ N ≤ y) w W) (by kernel_rfl) ?_
    change wpAnyH _ _ _ _ _ _ _ _ (World.drew _)
    refine tkH 0 24 none (.pointer (some ⟨p, 0, none⟩)) rfl (by kernel_rfl) (fun _ _ _ h => h) (by rfl) (by intro W hW; go_simp) HS.out ?_
    simp only [Act.put, q1, q2, q3]
    refine tkH 1 25 none (.pointer (some ⟨p, 0, none⟩)) rfl (by kernel_rfl) (fun _ _ _ h => h) (by rfl) (by intro W hW; go_simp) HS.out ?_
    simp only [Act.put, q1, q2, q3]
    refine tkH 2 26 none (.pointer (some ⟨p, 0, none⟩)) rfl (by kernel_rfl) (fun _ _ _ h => h) (by rfl) (by intro W hW; go_simp) HS.out ?_
    simp only [Act.put, q1, q2, q3]
    refine tkH 3 27 none (.map (some b)) rfl (by kernel_rfl) (fun _ _ _ h => h) (by rfl) (by intro W hW; have hc : W.cell? ⟨p, 0, none⟩ = some (.map (some b)) := (HP.out.keep hW (fun e => e.elim HPB.out (fun h => by have := HPL.out; have := HN.out; omega))).cell 0; go_simp) HS.out ?_
    simp only [Act.put, q1, q2, q3]
    refine tkH 4 28 none (.string s) rfl (by kernel_rfl) (fun _ _ _ h => h) (by rfl) (by intro W hW; go_simp) HS.out ?_
    simp only [Act.put, q1, q2, q3]
    refine tkH 5 29 none (.slice (some ⟨g, o, none⟩) (L.length + 1) c) rfl (by kernel_rfl) (fun _ _ _ h => h) (by rfl) (by intro W hW; go_simp) HS.out ?_
    simp only [Act.put, q1, q2, q3]
    refine tkH 6 30 none (.slice (cutZ g o c 1 1) L.length (c - 1)) rfl (by kernel_rfl) (fun _ _ _ h => h) (by rfl) (by intro W hW; exact exec_slice rfl (HSLC.out W)) HS.out ?_
    simp only [Act.put, q1, q2, q3]
    refine anyH_ready (rs := [7]) (by decide +kernel) (by simp) ?_
    refine AllReadyH.cons (o := { dst := none, op := .mapUpdate 26 (.tmp 27) (.tmp 28) (.tmp 30), type := _, pos := _, after := _, guard := none }) rfl (fun K hK => ?_) AllReadyH.nil
    refine step_updateV rfl (.tmp 27) (.tmp 28) (.tmp 30) rfl 9 30 strKV kS_inj Try.underlying26 b _ (by rfl) HM.out HFW.out s (by exact HK.out) ?_
    intro w9 hm hk9 hz9
    have HM9 := hI hm
    have HS : Hid (Keeps (fun y => y = b ∨ N ≤ y) w w9) := hI (HS.out.trans (hk9.mono (fun k hk => hk.imp id (fun h => Nat.le_trans (Nat.le_trans (Nat.le_of_eq HN.out) HS.out.size) h))))
    have HZ9 := hI hz9
    clear hm hk9 hz9
    refine hK _ _ HS.out ?_
    clear hK K
    try simp only [Act.put, q1, q2, q3]
    refine wpAnyH_done (by decide +kernel) ?_ _
    have hnS : ∀ y, G y → y < w.heap.size → ¬ (y = b ∨ N ≤ y) := fun y hy hlt e => by
      rw [HN.out] at e
      rcases e with e | e
      · exact HX.out.not (by rw [← e]; exact hy)
      · omega
    have HSN : Hid (Keeps (fun y => y = b ∨ w.heap.size ≤ y) w w9) := hI (by have := HS.out; rw [HN.out] at this; exact this)
    have hbx : Bxs w9 G b (putV X s (.slice (cutZ g o c 1 1) L.length (c - 1), L)) := HX.out.put HM9.out HSN.out (fun _ h => h) (HBX.out.keep HS.out hnS (fun _ h => h)) HX.out.not (fun y hy => Nat.lt_of_lt_of_le (HX.out.lt y hy) HS.out.size)
    have hfin := HE.out w9 G _ hbx (fun _ h => .inl h) HSN.out
    rw [MailX.put_mail] at hfin
    have HFIN := hI hfin
    have hglt := HX.out.lt g HGG.out
    have c9 : w9.cell? ⟨g, o, none⟩ = some mv := (HS.out.cell (p := ⟨g, o, none⟩) (hnS g HGG.out hglt)).trans HCE.out
    have HBS9 : Hid (Bs w9 mv m) := hI (HBS.out.keepF HS.out HGM.out hnS)
    clear hfin hbx hnS hglt
    go_wp2_with fail
    go_ret2
    rw [HR.out]
    exact ⟨_, rfl, HBS9.out, HFIN.out, KB.map HX.out.map HSN.out⟩
end Go.Proofs.Ytofmkkcbfeadgaa
namespace Go.Proofs.Ytofmkkcbfeadgaa
set_option linter.unusedSimpArgs false
set_option linter.unusedVariables false
/-- A frame that differs from another one only in some slots. -/
structure Fr (a0 a : Act) (ds : List Nat) : Prop where
  defers : a.defers = a0.defers
  size : a.tmps.size = a0.tmps.size
  same : ∀ s, s ∉ ds → a.tmps[s]? = a0.tmps[s]?
theorem Fr.refl (a : Act) (ds : List Nat) : Fr a a ds := ⟨rfl, rfl, fun _ _ => rfl⟩
theorem Fr.eval {a0 a : Act} {ds : List Nat} (h : Fr a0 a ds) (s : Nat) (hs : ds.contains s = false) : a.eval (.tmp s) = a0.eval (.tmp s) := by
  have h1 := h.same s (by simpa using hs)
  simp only [Act.eval]
  rw [Array.getD_eq_getD_getElem?, Array.getD_eq_getD_getElem?, h1]
theorem Fr.put {a0 a : Act} {ds : List Nat} (h : Fr a0 a ds) (d : Option Tmp) (v : Value) (hd : ∀ s, d = some s → s ∈ ds) : Fr a0 (a.put d v) ds := by
  cases d with
  | none => exact h
  | some s =>
    refine ⟨h.defers, by simp [Act.put, h.size], fun t ht => ?_⟩
    have hne : s ≠ t := fun e => ht (e ▸ hd s rfl)
    simp only [Act.put]
    rw [Array.getElem?_setIfInBounds_ne hne]
    exact h.same t ht
section
variable (P : Program) (md : Region.Mode) (ops : Array Oper) (Q : Exit → Act → World → Prop) (S : World → Prop) (G : World → World → Prop) (Post : Nat → Value → World → Prop)
def dstOf (i : Nat) : Option Tmp := (ops[i]?).bind (·.dst)
/-- What operation i has left: its value, of which 'Post i' holds, lies in its slot. -/
def PostAt (i : Nat) (a : Act) (w : World) : Prop := ∃ v, Post i v w ∧ ∀ s, dstOf ops i = some s → a.tmps.getD s undef = v
/-- Does operation i wait for d, and is d still to come? -/
def depB (listed0 : Array Bool) (i d : Nat) : Bool := ((ops[i]?).map fun o => o.after.toList.any fun e => Region.binds md e && e.on == d).getD false && !listed0.getD d true
def invOk (listed0 : Array Bool) (ds : List Nat) (n : Nat) : Bool :=
  listed0.size == ops.size && ((List.range ops.size).all fun i => ((ops[i]?).map fun o => o.after.all fun e => !Region.binds md e || decide (e.on < i)).getD true) &&
  ((List.range ops.size).all fun i => listed0.getD i true || (match dstOf ops i with | none => true | some s => ds.contains s && decide (s < n) && (List.range ops.size).all fun j => i == j || listed0.getD j true || dstOf ops j != some s))
/-- What is owed for operation i. -/
def StepAt (listed0 : Array Bool) (ds : List Nat) (a0 : Act) (w0 : World) (i : Nat) : Prop :=
  ∀ o, ops[i]? = some o → ∀ a w, Fr a0 a ds → G w0 w → S w → (∀ d, depB md ops listed0 i d = true → PostAt ops Post d a w) → ∀ K : Act → World → Prop, (∀ v w', G w w' → Post i v w' → K (a.put o.dst v) w') →
    if Region.wanted o (yielded ops a.tmps) = true then Oper.wp P o a w K Q else K (a.put o.dst undef) w
end
theorem getD_le {l : Array Bool} {i : Nat} (h : l.getD i true = false) : i < l.size := by
  rcases Nat.lt_or_ge i l.size with h' | h'
  · exact h'
  · rw [Array.getD_eq_getD_getElem?, Array.getElem?_eq_none h'] at h
    cases h
theorem getD_ff {l : Array Bool} {i : Nat} (h : i < l.size) (b c : Bool) : l.getD i b = l.getD i c := by
  rw [Array.getD_eq_getD_getElem?, Array.getD_eq_getD_getElem?, Array.getElem?_eq_getElem h]; rfl
theorem getD_setB {l : Array Bool} {i j : Nat} (b : Bool) : (l.setIfInBounds i true).getD j b = if i = j ∧ i < l.size then true else l.getD j b := by
  rw [Array.getD_eq_getD_getElem?, Array.getElem?_setIfInBounds, Array.getD_eq_getD_getElem?]
  by_cases h : i = j
  · subst h
    by_cases h2 : i < l.size
    · simp [h2]
    · simp [h2]
  · simp [h]
def leftN (n : Nat) (l : Array Bool) : Nat := ((List.range n).filter fun i => !l.getD i true).length
theorem leftN_set {n : Nat} {l : Array Bool} {i : Nat} (hi : l.getD i true = false) (hn : i < n) : leftN n (l.setIfInBounds i true) < leftN n l := by
  have hil := getD_le hi
  unfold leftN
  rw [← List.countP_eq_length_filter, ← List.countP_eq_length_filter]
  have key : ∀ L : List Nat, i ∈ L → L.countP (fun j => !(l.setIfInBounds i true).getD j true) < L.countP (fun j => !l.getD j true) := by
    have le : ∀ L : List Nat, L.countP (fun j => !(l.setIfInBounds i true).getD j true) ≤ L.countP (fun j => !l.getD j true) := fun L => List.countP_mono_left (fun j _ h => by
      rw [getD_setB] at h
      split at h
      · simp at h
      · exact h)
    intro L hL
    induction L with
    | nil => simp at hL
    | cons x L ih =>
      rw [List.countP_cons, List.countP_cons]
      by_cases hx : i = x
      · subst hx
        have h1 : (!(l.setIfInBounds i true).getD i true) = false := by rw [getD_setB, if_pos ⟨rfl, hil⟩]; rfl
        have h2 : (!l.getD i true) = true := by rw [hi]; rfl
        rw [h1, h2]
        have := le L
        rw [if_neg Bool.false_ne_true, if_pos rfl]
        omega
      · have h1 := ih ((List.mem_cons.1 hL).resolve_left hx)
        have h2 : (l.setIfInBounds i true).getD x true = l.getD x true := by rw [getD_setB, if_neg (fun h => hx h.1)]
        rw [h2]
        omega
  exact key _ (List.mem_range.2 hn)
section
variable {P : Program} {md : Region.Mode} {ops : Array Oper} {Q : Exit → Act → World → Prop} {S : World → Prop} {G : World → World → Prop} {Post : Nat → Value → World → Prop}
theorem anyH_inv (hr : ∀ w, G w w) (ht : ∀ a b c, G a b → G b c → G a c) (hS : ∀ w w', S w → G w w' → S w') (hst : ∀ i v w w', Post i v w → G w w' → Post i v w')
    {listed0 : Array Bool} {ds : List Nat} {a0 : Act} {w0 : World} (hok : invOk md ops listed0 ds a0.tmps.size = true)
    (hstep : ∀ i, i < ops.size → listed0.getD i true = false → StepAt P md ops Q S G Post listed0 ds a0 w0 i)
    (hfin : ∀ a w, Fr a0 a ds → G w0 w → S w → (∀ i, i < ops.size → listed0.getD i true = false → PostAt ops Post i a w) → Q .normal a w) (hS0 : S w0) {fuel : Nat} (hfuel : leftN ops.size listed0 ≤ fuel) :
    wpAnyH P md ops Q S fuel listed0 a0 w0 := by
  unfold invOk at hok
  simp only [Bool.and_eq_true, beq_iff_eq, List.all_eq_true, List.mem_range] at hok
  obtain ⟨⟨hsz, hback⟩, hdst⟩ := hok
  have hd1 : ∀ i s, i < ops.size → listed0.getD i true = false → dstOf ops i = some s → s ∈ ds ∧ s < a0.tmps.size ∧ ∀ j, j < ops.size → listed0.getD j true = false → i ≠ j → dstOf ops j ≠ some s := by
    intro i s hi hl hs
    have h := hdst i hi
    rw [hl, hs] at h
    simp only [Bool.false_or, Bool.and_eq_true, List.contains_iff_mem, decide_eq_true_eq, List.all_eq_true, List.mem_range, Bool.or_eq_true, beq_iff_eq, bne_iff_ne] at h
    refine ⟨h.1.1, h.1.2, fun j hj hjl hne hjs => ?_⟩
    rcases h.2 j hj with (h' | h') | h'
    · exact hne h'
    · rw [hjl] at h'; cases h'
    · exact h' hjs
  suffices hh : ∀ (fuel : Nat) (listed : Array Bool) (a : Act) (w : World), listed.size = ops.size → (∀ i, listed0.getD i true = true → listed.getD i true = true) → leftN ops.size listed ≤ fuel → Fr a0 a ds → G w0 w → S w →
      (∀ i, i < ops.size → listed0.getD i true = false → listed.getD i true = true → PostAt ops Post i a w) → wpAnyH P md ops Q S fuel listed a w from
    hh fuel listed0 a0 w0 hsz (fun _ h => h) hfuel (Fr.refl _ _) (hr _) hS0 (fun i _ h0 h1 => by rw [h0] at h1; cases h1)
  have allL : ∀ (listed : Array Bool), listed.size = ops.size → Region.ready md ops listed = [] → ∀ j, j < ops.size → listed.getD j true = true := by
    intro listed hl hr j
    induction j using Nat.strongRecOn with
    | _ j ih =>
      intro hj
      cases hv : listed.getD j true with
      | true => rfl
      | false =>
        exfalso
        have : j ∈ Region.ready md ops listed := by
          refine mem_ready.2 ⟨hv, ops[j], by simp [hj], fun e he hbe => ?_⟩
          have hb := hback j hj
          rw [Array.getElem?_eq_getElem hj] at hb
          simp only [Option.map_some, Option.getD_some, Array.all_eq_true_iff_forall_mem] at hb
          have hlt := hb e he
          rw [hbe] at hlt
          simp only [Bool.not_true, Bool.false_or, decide_eq_true_eq] at hlt
          rw [getD_ff (by rw [hl]; omega) false true]
          exact ih e.on hlt (by omega)
        rw [hr] at this
        cases this
  intro fuel
  induction fuel with
  | zero =>
    intro listed a w hl hsub hc hf hg hs hp
    have hall : ∀ j, j < ops.size → listed.getD j true = true := by
      intro j hj
      cases hv : listed.getD j true with
      | true => rfl
      | false =>
        exfalso
        have : 0 < leftN ops.size listed := by
          unfold leftN
          exact List.length_pos_of_mem (a := j) (List.mem_filter.2 ⟨List.mem_range.2 hj, by rw [hv]; rfl⟩)
        omega
    refine ⟨?_, hfin a w hf hg hs (fun i hi h0 => hp i hi h0 (hall i hi))⟩
    rw [List.eq_nil_iff_forall_not_mem]
    intro j hj
    have h1 := (mem_ready.1 hj).1
    have h2 := hall j (by rw [← hl]; exact getD_le h1)
    rw [h1] at h2
    cases h2
  | succ fuel ih =>
    intro listed a w hl hsub hc hf hg hs hp
    refine ⟨fun hre => hfin a w hf hg hs (fun i hi h0 => hp i hi h0 (allL listed hl hre i hi)), fun i hi => ?_⟩
    obtain ⟨hiu, o, ho, hall⟩ := mem_ready.1 hi
    have hin : i < ops.size := by rw [← hl]; exact getD_le hiu
    have hi0 : listed0.getD i true = false := by
      cases hv : listed0.getD i true with
      | false => rfl
      | true => rw [hsub i hv] at hiu; cases hiu
    have hdo : dstOf ops i = o.dst := by unfold dstOf; rw [ho]; rfl
    have hK : ∀ v w', G w w' → Post i v w' → S w' ∧ wpAnyH P md ops Q S fuel (listed.setIfInBounds i true) (a.put o.dst v) w' := by
      intro v w' hgw hpv
      have hs' := hS _ _ hs hgw
      refine ⟨hs', ih _ _ _ (by simp [hl]) (fun j hj => ?_) (by have := leftN_set hiu hin; omega) (hf.put _ _ (fun s hs => (hd1 i s hin hi0 (hdo.trans hs)).1)) (ht _ _ _ hg hgw) hs' (fun j hj hj0 hjl => ?_)⟩
      · rw [getD_setB]
        split
        · rfl
        · exact hsub j hj
      · by_cases hij : i = j
        · subst hij
          refine ⟨v, hpv, fun s hs => ?_⟩
          have h1 := (hd1 i s hin hi0 hs).2.1
          rw [hdo] at hs
          rw [hs]
          simp only [Act.put]
          rw [Array.getD_eq_getD_getElem?, Array.getElem?_setIfInBounds_self_of_lt (by rw [hf.size]; exact h1)]
          rfl
        · rw [getD_setB, if_neg (fun h => hij h.1)] at hjl
          obtain ⟨u, hu, hus⟩ := hp j hj hj0 hjl
          refine ⟨u, hst _ _ _ _ hu hgw, fun s hs => ?_⟩
          have h1 := hus s hs
          cases hod : o.dst with
          | none => exact h1
          | some t =>
            have hne : t ≠ s := fun e => (hd1 i t hin hi0 (hdo.trans hod)).2.2 j hj hj0 hij (by rw [hs, e])
            simp only [Act.put]
            rw [Array.getD_eq_getD_getElem?, Array.getElem?_setIfInBounds_ne hne, ← Array.getD_eq_getD_getElem?]
            exact h1
    have hst1 := hstep i hin hi0 o ho a w hf hg hs (fun d hd => by
      unfold depB at hd
      rw [ho] at hd
      simp only [Option.map_some, Option.getD_some, Bool.and_eq_true, List.any_eq_true, beq_iff_eq, Bool.not_eq_true'] at hd
      obtain ⟨⟨e, he, hb, rfl⟩, hd0⟩ := hd
      have he : e ∈ o.after := by simpa using he
      have hlt : e.on < ops.size := by rw [← hsz]; exact getD_le hd0
      exact hp e.on hlt hd0 (by rw [← getD_ff (by rw [hl]; exact hlt) false true]; exact hall e he hb)) (fun a' w' => S w' ∧ wpAnyH P md ops Q S fuel (listed.setIfInBounds i true) a' w') hK
    unfold wpOp
    simp only [ho]
    split
    · rename_i hw
      rw [if_pos hw] at hst1
      exact .inl hst1
    · rename_i hw
      rw [if_neg hw] at hst1
      exact hst1
end
end Go.Proofs.Ytofmkkcbfeadgaa
namespace Go.Proofs.Ytofmkkcbfeadgaa
set_option linter.unusedSimpArgs false
set_option linter.unusedVariables false
open Go.RowKit
/-- A number, bytes, or a list, with a tag. -/
inductive Tv where
  | mk (kind tag : Int) (n : Nat) (b : List UInt8) (l : List Tv)
def Tv.kind : Tv → Int | .mk k _ _ _ _ => k
def Tv.tag : Tv → Int | .mk _ t _ _ _ => t
def Tv.n : Tv → Nat | .mk _ _ n _ _ => n
def Tv.b : Tv → List UInt8 | .mk _ _ _ b _ => b
def Tv.l : Tv → List Tv | .mk _ _ _ _ l => l
def Tv.zero : Tv := .mk 0 0 0 [] []
mutual
/-- The five cells of a value; F: the blocks that its rows may lie in. -/
def TvF (w : World) (F : Nat → Prop) : Tv → List Value → Prop
  | .mk k t n b l, cs => ∃ (bv lv : Value) (rows : List Value), cs = [.int .i64 k, .int .i64 t, .int .u64 (n : Int), bv, lv] ∧ Bs w bv b ∧ (0 < b.length → ∀ x, bv.ownBlock = some x → F x) ∧
      Sl w 5 lv l.length rows ∧ (0 < l.length → ∀ x, lv.ownBlock = some x → F x) ∧ TvsF w F l rows
def TvsF (w : World) (F : Nat → Prop) : List Tv → List Value → Prop
  | [], cs => cs = []
  | x :: l, cs => ∃ r rs, cs = r ++ rs ∧ TvF w F x r ∧ TvsF w F l rs
end
theorem TvF.length {w : World} {F : Nat → Prop} : ∀ {x : Tv} {cs : List Value}, TvF w F x cs → cs.length = 5
  | .mk _ _ _ _ _, cs, h => by
    obtain ⟨bv, lv, rows, rfl, _⟩ := h
    rfl
theorem TvF.one {w : World} {F : Nat → Prop} : ∀ {x : Tv} {cs : List Value}, TvF w F x cs → ∀ u ∈ cs, u.oneCell' = true
  | .mk _ _ _ _ _, cs, h => by
    obtain ⟨bv, lv, rows, rfl, hb, _, hl, _⟩ := h
    obtain ⟨a, c, e, _⟩ := hb.form
    obtain ⟨a2, c2, e2, _⟩ := hl.form
    subst e e2
    intro u hu
    simp only [List.mem_cons, List.not_mem_nil, or_false] at hu
    rcases hu with rfl | rfl | rfl | rfl | rfl <;> rfl
mutual
theorem TvF.keep' {w w' : World} {F G S : Nat → Prop} (hk : Keeps S w w') (hs : ∀ b, F b → b < w.heap.size → ¬ S b) (hg : ∀ b, F b → G b) : ∀ (x : Tv) (cs : List Value), TvF w F x cs → TvF w' G x cs
  | .mk k t n b l, cs, h => by
    obtain ⟨bv, lv, rows, e, h1, h2, h3, h4, h5⟩ := h
    exact ⟨bv, lv, rows, e, Sl.keepF h1 hk h2 hs, fun hp x hx => hg x (h2 hp x hx), Sl.keepF h3 hk h4 hs, fun hp x hx => hg x (h4 hp x hx), TvsF.keep' hk hs hg l rows h5⟩
theorem TvsF.keep' {w w' : World} {F G S : Nat → Prop} (hk : Keeps S w w') (hs : ∀ b, F b → b < w.heap.size → ¬ S b) (hg : ∀ b, F b → G b) : ∀ (l : List Tv) (cs : List Value), TvsF w F l cs → TvsF w' G l cs
  | [], cs, h => h
  | x :: l, cs, h => by
    obtain ⟨r, rs, e, h1, h2⟩ := h
    exact ⟨r, rs, e, TvF.keep' hk hs hg x r h1, TvsF.keep' hk hs hg l rs h2⟩
end
theorem TvF.below {w w' : World} {F : Nat → Prop} {x : Tv} {cs : List Value} (h : TvF w F x cs) (hb : Below w.heap.size w w') : TvF w' F x cs :=
  TvF.keep' (Keeps.of_below hb) (fun _ _ hl hs => by omega) (fun _ h => h) x cs h
theorem TvsF.below {w w' : World} {F : Nat → Prop} {l : List Tv} {cs : List Value} (h : TvsF w F l cs) (hb : Below w.heap.size w w') : TvsF w' F l cs :=
  TvsF.keep' (Keeps.of_below hb) (fun _ _ hl hs => by omega) (fun _ h => h) l cs h
theorem TvF.keep {w w' : World} {F S : Nat → Prop} {x : Tv} {cs : List Value} (h : TvF w F x cs) (hk : Keeps S w w') (hs : ∀ b, F b → b < w.heap.size → ¬ S b) : TvF w' F x cs :=
  TvF.keep' hk hs (fun _ h => h) x cs h
theorem TvsF.keep {w w' : World} {F S : Nat → Prop} {l : List Tv} {cs : List Value} (h : TvsF w F l cs) (hk : Keeps S w w') (hs : ∀ b, F b → b < w.heap.size → ¬ S b) : TvsF w' F l cs :=
  TvsF.keep' hk hs (fun _ h => h) l cs h
theorem TvF.mono {w : World} {F G : Nat → Prop} {x : Tv} {cs : List Value} (h : TvF w F x cs) (hg : ∀ b, F b → G b) : TvF w G x cs :=
  TvF.keep' (Keeps.refl (fun _ => False) w) (fun _ _ _ h => h) hg x cs h
theorem TvsF.mono {w : World} {F G : Nat → Prop} {l : List Tv} {cs : List Value} (h : TvsF w F l cs) (hg : ∀ b, F b → G b) : TvsF w G l cs :=
  TvsF.keep' (Keeps.refl (fun _ => False) w) (fun _ _ _ h => h) hg l cs h
theorem TvsF.length {w : World} {F : Nat → Prop} : ∀ {l : List Tv} {cs : List Value}, TvsF w F l cs → cs.length = l.length * 5
  | [], cs, h => by rw [show cs = [] from h]; rfl
  | x :: l, cs, h => by
    obtain ⟨r, rs, rfl, h1, h2⟩ := h
    rw [List.length_append, h1.length, TvsF.length h2, List.length_cons]
    omega
theorem TvsF.snoc {w : World} {F : Nat → Prop} : ∀ {l : List Tv} {cs : List Value} {x : Tv} {r : List Value}, TvsF w F l cs → TvF w F x r → TvsF w F (l ++ [x]) (cs ++ r)
  | [], cs, x, r, h, hx => by
    rw [show cs = [] from h]
    exact ⟨r, [], by simp, hx, rfl⟩
  | y :: l, cs, x, r, h, hx => by
    obtain ⟨r1, rs, rfl, h1, h2⟩ := h
    exact ⟨r1, rs ++ r, by simp, h1, TvsF.snoc h2 hx⟩
theorem TvsF.at_ {w : World} {F : Nat → Prop} : ∀ {l : List Tv} {cs : List Value}, TvsF w F l cs → ∀ (k : Nat) (hk : k < l.length), TvF w F l[k] ((cs.drop (k * 5)).take 5)
  | [], cs, h, k, hk => by simp at hk
  | x :: l, cs, h, 0, hk => by
    obtain ⟨r, rs, rfl, h1, h2⟩ := h
    rw [Nat.zero_mul, List.drop_zero, List.take_append_of_le_length (by rw [h1.length]; exact Nat.le_refl _), List.take_of_length_le (by rw [h1.length]; exact Nat.le_refl _)]
    exact h1
  | x :: l, cs, h, k + 1, hk => by
    obtain ⟨r, rs, rfl, h1, h2⟩ := h
    rw [show (k + 1) * 5 = r.length + k * 5 by rw [h1.length]; omega, List.drop_length_add_append]
    exact TvsF.at_ h2 k (by simpa using hk)
/-- An element's cells, where the row lies. -/
theorem TvsF.cells {w : World} {F : Nat → Prop} {l : List Tv} {cs : List Value} (h : TvsF w F l cs) {b o cap : Nat} (hs : Sl w 5 (.slice (some ⟨b, o, none⟩) l.length cap) l.length cs) (k : Nat) (hk : k < l.length) :
    ∃ r, TvF w F l[k] r ∧ CellsAt w b (o + k * 5) r := by
  refine ⟨_, h.at_ k hk, fun j u hj => ?_⟩
  obtain ⟨b', o', e, hc⟩ := hs.addr (by rw [hs.1]; omega)
  simp only [Option.some.injEq, Addr.mk.injEq, and_true] at e
  obtain ⟨rfl, rfl⟩ := e
  rw [List.getElem?_take] at hj
  split at hj
  · rw [List.getElem?_drop] at hj
    rw [Nat.add_assoc]
    exact hc _ u hj
  · simp at hj
/-- The five cells, opened. -/
theorem TvF.open_ {w : World} {F : Nat → Prop} {x : Tv} {cs : List Value} (h : TvF w F x cs) : ∃ (bv lv : Value) (rows : List Value), cs = [.int .i64 x.kind, .int .i64 x.tag, .int .u64 (x.n : Int), bv, lv] ∧ Bs w bv x.b ∧ (0 < x.b.length → ∀ y, bv.ownBlock = some y → F y) ∧
      Sl w 5 lv x.l.length rows ∧ (0 < x.l.length → ∀ y, lv.ownBlock = some y → F y) ∧ TvsF w F x.l rows := by
  cases x
  exact h
theorem TvF.mk {w : World} {F : Nat → Prop} {k t : Int} {n : Nat} {b : List UInt8} {l : List Tv} {bv lv : Value} {rows : List Value} (h1 : Bs w bv b) (h2 : ∀ y, bv.ownBlock = some y → F y) (h3 : Sl w 5 lv l.length rows) (h4 : ∀ y, lv.ownBlock = some y → F y) (h5 : TvsF w F l rows) :
    TvF w F (.mk k t n b l) [.int .i64 k, .int .i64 t, .int .u64 (n : Int), bv, lv] := ⟨bv, lv, rows, rfl, h1, fun _ => h2, h3, fun _ => h4, h5⟩
theorem TvF.zero (w : World) (F : Nat → Prop) : TvF w F Tv.zero [.int .i64 0, .int .i64 0, .int .u64 0, .slice none 0 0, .slice none 0 0] :=
  TvF.mk (Sl.nil _ _ _) (by simp [Value.ownBlock]) (Sl.nil _ _ _) (by simp [Value.ownBlock]) rfl
mutual
/-- Only blocks that are there count. -/
theorem TvF.tight {w : World} {F : Nat → Prop} : ∀ (x : Tv) (cs : List Value), TvF w F x cs → TvF w (fun y => F y ∧ y < w.heap.size) x cs
  | .mk k t n b l, cs, h => by
    obtain ⟨bv, lv, rows, e, h1, h2, h3, h4, h5⟩ := h
    exact ⟨bv, lv, rows, e, h1, fun hp x hx => ⟨h2 hp x hx, Sl.own_lt h1 (by decide) hp x hx⟩, h3, fun hp x hx => ⟨h4 hp x hx, Sl.own_lt h3 (by decide) hp x hx⟩, TvsF.tight l rows h5⟩
theorem TvsF.tight {w : World} {F : Nat → Prop} : ∀ (l : List Tv) (cs : List Value), TvsF w F l cs → TvsF w (fun y => F y ∧ y < w.heap.size) l cs
  | [], cs, h => h
  | x :: l, cs, h => by
    obtain ⟨r, rs, e, h1, h2⟩ := h
    exact ⟨r, rs, e, TvF.tight x r h1, TvsF.tight l rs h2⟩
end
mutual
theorem tv_ind {P : Tv → Prop} (h : ∀ k t n b l, (∀ x ∈ l, P x) → P (.mk k t n b l)) : ∀ x : Tv, P x
  | .mk k t n b l => h k t n b l (tvs_ind h l)
theorem tvs_ind {P : Tv → Prop} (h : ∀ k t n b l, (∀ x ∈ l, P x) → P (.mk k t n b l)) : ∀ l : List Tv, ∀ x ∈ l, P x
  | [], x, hx => by simp at hx
  | y :: l, x, hx => by
    rcases List.mem_cons.1 hx with e | hx
    · rw [e]; exact tv_ind h y
    · exact tvs_ind h l x hx
end
/-- The eight bytes of a number. -/
def putB (n : Nat) : List UInt8 := (List.range 8).map fun i => UInt8.ofNat (n / 2 ^ (56 - 8 * i) % 256)
theorem putB_length (n : Nat) : (putB n).length = 8 := by simp [putB]
theorem putB_get (n k : Nat) (h : k < 8) : (putB n)[k]? = some (UInt8.ofNat (n / 2 ^ (56 - 8 * k) % 256)) := by simp [putB, h]
set_option maxRecDepth 100000 in
theorem put_any (n : Nat) (w : World) :
    Calls Try.prog 74 #[.int .u64 n] w fun e w' => e = .returned (.slice (some ⟨w.heap.size, 0, none⟩) 8 8) ∧ OwnBs w' w.heap.size (.slice (some ⟨w.heap.size, 0, none⟩) 8 8) (putB n) ∧ Below w.heap.size w w' ∧ Blk w' w.heap.size (bCells (putB n)) 5 := by
  have hmk := fun w => mkBytes w 8 8 rfl (by decide)
  simp only [List.replicate, List.toArray] at hmk
  have hpl := putB_length n
  go_enter Try.func74, Try.ntmps74
  go_wp2
  go_loopw [8] (fun i wr => ∃ k : Nat, k ≤ 8 ∧ i = .int .i64 k ∧ Blk wr w.heap.size ((bCells (putB n)).take k ++ List.replicate (8 - k) (.int .u8 0)) 5 ∧ Below w.heap.size w wr) (fun i _ => 8 - (intOf i).toNat)
  case atStart => exact ⟨0, by omega, rfl, Blk.new w (List.replicate 8 (.int .u8 0)) _, (Below.refl _ _).alloc (Nat.le_refl _) _⟩
  case round =>
    obtain ⟨k, hk, rfl, hb, hbel⟩ := hrel
    have HB := hI hb
    by_cases hlt : k < 8
    · have h1 : (k : Int) < 8 := by omega
      have hf := hb.frozen k
      have hc : wr.cell? ⟨w.heap.size, k, none⟩ = some (.int .u8 0) := by
        rw [hb.cell, List.getElem?_append_right (by simp [bCells_length]; omega)]
        rw [List.length_take, bCells_length, hpl, show k - min k 8 = 0 by omega, show 8 - k = (7 - k) + 1 by omega]
        rfl
      have hst : Hid (Blk (wr.setCell ⟨w.heap.size, k, none⟩ (.int .u8 ((n : Int) / 2 ^ (56 - 8 * k) % 256))) w.heap.size ((bCells (putB n)).take (k + 1) ++ List.replicate (8 - (k + 1)) (.int .u8 0)) 5) := by
        have := hb.set k (.int .u8 ((n : Int) / 2 ^ (56 - 8 * k) % 256))
        refine hI ?_
        have e : ((bCells (putB n)).take k ++ List.replicate (8 - k) (Value.int .u8 0)).set k (.int .u8 ((n : Int) / 2 ^ (56 - 8 * k) % 256)) = (bCells (putB n)).take (k + 1) ++ List.replicate (8 - (k + 1)) (.int .u8 0) := by
          have hkl : k < (bCells (putB n)).length := by rw [bCells_length]; omega
          rw [List.set_append_right _ _ (by simp [bCells_length]; omega), List.take_succ_eq_append_getElem hkl]
          have hg : (bCells (putB n))[k] = .int .u8 ((n : Int) / 2 ^ (56 - 8 * k) % 256) := by
            have h2 := bCells_get (putB n) k (by omega)
            rw [List.getElem?_eq_getElem hkl, Option.some.injEq] at h2
            have h3 := putB_get n k hlt
            rw [List.getElem?_eq_getElem (by omega), Option.some.injEq] at h3
            rw [h2, h3, bV_ofNat _ (Nat.mod_lt _ (by decide))]
            simp
          rw [hg, List.append_assoc]
          congr 1
          rw [show k - ((bCells (putB n)).take k).length = 0 by simp [bCells_length]; omega, show 8 - k = (8 - (k + 1)) + 1 by omega]
          rfl
        rw [← e]
        exact this
      clear hb
      go_wp2
      go_roundw
      case rel => exact ⟨k + 1, by omega, by go_num, hst.out, hbel.setCell (Nat.le_refl _) _⟩
      case measure => simp [intOf]; omega
    · obtain rfl : k = 8 := by omega
      have hb8 : Blk wr w.heap.size (bCells (putB n)) 5 := by
        have := hb
        rw [List.take_of_length_le (by rw [bCells_length]; omega)] at this
        simpa using this
      have HB8 := hI hb8
      clear hb hb8
      go_wp2
      go_ret
      have ho := HB8.out.own (B := w.heap.size) (Nat.le_refl _) (bCells_one _) (by rw [bCells_length, hpl]; decide)
      rw [bCells_length, hpl] at ho
      refine ⟨rfl, ?_, hbel, HB8.out⟩
      unfold OwnBs
      rw [hpl]
      exact ho
theorem bV_zero (x : UInt8) : (x.toNat : Int) = 0 ↔ x = 0 := by
  constructor
  · intro h
    exact UInt8.toNat_inj.1 (by simpa using h)
  · rintro rfl; rfl
/-- The number of bytes. -/
def getN (l : List UInt8) : Nat := l.foldl (fun n c => n * 256 + c.toNat) 0
theorem getN_snoc (l : List UInt8) (c : UInt8) : getN (l ++ [c]) = getN l * 256 + c.toNat := by simp [getN]
theorem getN_lt (l : List UInt8) : getN l < 256 ^ l.length := by
  suffices ∀ (l : List UInt8) (n k : Nat), n < 256 ^ k → l.foldl (fun n c => n * 256 + c.toNat) n < 256 ^ (k + l.length) from by simpa [getN] using this l 0 0 (by decide)
  intro l
  induction l with
  | nil => intro n k h; simpa using h
  | cons c l ih =>
    intro n k h
    have := ih (n * 256 + c.toNat) (k + 1) (by have := c.toNat_lt; rw [Nat.pow_succ]; omega)
    simpa [Nat.add_assoc, Nat.add_comm 1] using this
theorem nat_or256 (n c : Nat) (hc : c < 256) : (n * 256) ||| c = n * 256 + c := by
  have := Nat.shiftLeft_add_eq_or_of_lt (b := c) (i := 8) (by simpa using hc) n
  rw [Nat.shiftLeft_eq] at this
  simpa using this.symm
set_option maxRecDepth 100000 in
theorem bits_or_u64 (n c : Nat) (hc : c < 256) (h : n * 256 + c < 18446744073709551616) : bits BinOp.or IntKind.u64 (IntKind.u64.wrap ((n : Int) * 256)) (IntKind.u64.wrap (c : Int)) = ((n * 256 + c : Nat) : Int) := by
  have e1 : IntKind.u64.wrap ((n : Int) * 256) = ((n * 256 : Nat) : Int) := by rw [IntKind.wrap_u64]; omega
  have e2 : IntKind.u64.wrap (c : Int) = (c : Int) := by rw [IntKind.wrap_u64]; omega
  rw [e1, e2, u64_or_nat _ _ (by omega) (by omega), nat_or256 n c hc]
/-- Get: the number of one to eight bytes. -/
def getB (l : List UInt8) : Nat × Bool := if l.length = 0 ∨ 8 < l.length then (0, false) else (getN l, true)
set_option maxRecDepth 100000 in
theorem get_any (v : Value) (l : List UInt8) (w : World) (h : Bs w v l) :
    Calls Try.prog 66 #[v] w fun e w' => e = .returned (.tuple #[.int .u64 (getB l).1, .bool (getB l).2]) ∧ w = w' := by
  obtain ⟨a, cap, rfl, hcap, hcm⟩ := h.form
  unfold maxLen at hcm
  by_cases h0 : l.length = 0
  · have h0' : ((l.length : Int) == 0) = true := by simp [h0]
    have HG : Hid (getB l = (0, false)) := hI (by simp [getB, h0])
    clear h0
    go_enter Try.func66, Try.ntmps66
    go_wp2
    go_ret2
    rw [HG.out]
    exact ⟨rfl, rfl⟩
  · have h0' : ((l.length : Int) == 0) = false := by simp; intro e; exact h0 (by simp [e])
    by_cases h8 : (8 : Int) < l.length
    · have HG : Hid (getB l = (0, false)) := hI (by simp only [getB]; rw [if_pos (by omega)])
      go_enter Try.func66, Try.ntmps66
      go_wp2
      go_ret2
      rw [HG.out]
      exact ⟨rfl, rfl⟩
    · have HG : Hid (getB l = (getN l, true)) := hI (by simp only [getB]; rw [if_neg (by omega)])
      obtain ⟨b, off, rfl, hc⟩ := h.addr (by rw [bCells_length]; omega)
      have HC := hI hc
      clear hc h
      go_enter Try.func66, Try.ntmps66
      go_wp2
      go_loop [4, 17] (fun n i => ∃ k : Nat, k ≤ l.length ∧ i = .int .i64 k ∧ n = .int .u64 (getN (l.take k))) (fun _ i => l.length - (intOf i).toNat)
      case atStart => exact ⟨0, Nat.zero_le _, rfl, rfl⟩
      case round =>
        obtain ⟨k, hk, rfl, rfl⟩ := hrel
        by_cases hlt : k < l.length
        · have c0 : w.cell? ⟨b, off + k, none⟩ = some (.int .u8 l[k].toNat) := HC.out k _ (bCells_get l k hlt)
          have hL : l.length ≤ 8 := by omega
          have hX : Hid (Value.int .u64 (bits .or .u64 (IntKind.u64.wrap ((getN (l.take k) : Int) * 256)) (IntKind.u64.wrap (l[k].toNat : Int))) = .int .u64 (getN (l.take (k + 1)))) := by
            refine hI ?_
            rw [List.take_succ_eq_append_getElem hlt, getN_snoc, bits_or_u64 _ _ l[k].toNat_lt]
            have h1 := getN_lt (l.take k)
            have h2 : (l.take k).length ≤ 7 := by rw [List.length_take]; omega
            have h3 : (256 : Nat) ^ (l.take k).length ≤ 256 ^ 7 := Nat.pow_le_pow_right (by decide) h2
            have := l[k].toNat_lt
            omega
          clear hL
          go_wp2
          go_round
          case rel => exact ⟨k + 1, by omega, by go_num, hX.out⟩
          case measure => simp [intOf]; omega
        · obtain rfl : k = l.length := by omega
          go_wp2
          go_ret2
          rw [HG.out]
          exact ⟨by simp, rfl⟩
/-- Without the noughts ahead; one byte at least. -/
def stripZ : List UInt8 → List UInt8
  | [] => []
  | [x] => [x]
  | x :: y :: l => if x = 0 then stripZ (y :: l) else x :: y :: l
def shortB (n : Nat) : List UInt8 := stripZ (putB n)
theorem stripZ_drop_zero (l : List UInt8) (j : Nat) (h : j + 1 < l.length) (h0 : l[j] = 0) : stripZ (l.drop j) = stripZ (l.drop (j + 1)) := by
  rw [List.drop_eq_getElem_cons (by omega : j < l.length), List.drop_eq_getElem_cons h, h0]
  simp [stripZ]
theorem stripZ_drop_stop (l : List UInt8) (j : Nat) (h : j < l.length) (h0 : j + 1 = l.length ∨ l[j] ≠ 0) : stripZ (l.drop j) = l.drop j := by
  rw [List.drop_eq_getElem_cons h]
  rcases Nat.lt_or_ge (j + 1) l.length with h1 | h1
  · rw [List.drop_eq_getElem_cons h1]
    have : l[j] ≠ 0 := h0.resolve_left (by omega)
    simp [stripZ, this]
  · rw [List.drop_eq_nil_of_le h1]
    rfl
set_option maxRecDepth 100000 in
theorem short_any (n : Nat) (w : World) :
    Calls Try.prog 72 #[.int .u64 n] w fun e w' => ∃ v, e = .returned v ∧ Bs w' v (shortB n) ∧ Below w.heap.size w w' ∧ v.ownBlock = some w.heap.size := by
  have hpl := putB_length n
  go_enter Try.func72, Try.ntmps72
  go_wp2_with fail
  refine (put_any n w).mono ?_
  rintro e w1 ⟨rfl, _, hb1, hblk⟩
  have HB := hI hblk
  clear hblk
  go_wp2_with fail
  go_loop [3] (fun v => ∃ j : Nat, j ≤ 7 ∧ v = .slice (some ⟨w.heap.size, j, none⟩) (8 - j) (8 - j) ∧ shortB n = stripZ ((putB n).drop j)) (fun v => match v with | .slice _ n _ => n | _ => 0)
  case atStart => exact ⟨0, by omega, rfl, rfl⟩
  case round =>
    obtain ⟨j, hj, rfl, hs⟩ := hrel
    have HS := hI hs
    clear hs
    have hget : w1.cell? ⟨w.heap.size, j, none⟩ = some (.int .u8 ((putB n)[j]'(by omega)).toNat) := by rw [HB.out.cell]; exact bCells_get _ _ _
    have fin : shortB n = (putB n).drop j → Bs w1 (.slice (some ⟨w.heap.size, j, none⟩) (8 - j) (8 - j)) (shortB n) := by
      intro e
      rw [e]
      have hl : ((putB n).drop j).length = 8 - j := by rw [List.length_drop, hpl]
      unfold Bs
      rw [hl]
      refine ⟨by rw [bCells_length, hl]; omega, bCells_one _, _, 8 - j, rfl, Nat.le_refl _, by unfold maxLen; omega, fun h => by simp at h, .inr ⟨_, _, rfl, fun i u hi => ?_⟩⟩
      rw [HB.out.cell]
      simp only [bCells, List.map_drop, List.getElem?_drop] at hi ⊢
      exact hi
    have FIN := hI fin
    clear fin
    by_cases hj7 : j = 7
    · subst hj7
      have h1 : Hid (shortB n = (putB n).drop 7) := hI (by rw [HS.out, stripZ_drop_stop _ _ (by omega) (.inl (by omega))])
      clear hget
      go_wp2
      go_ret
      exact ⟨_, rfl, FIN.out h1.out, hb1, rfl⟩
    · have hj' : 1 < ((8 - j : Nat) : Int) := by omega
      have hj0 : (0 : Int) < ((8 - j : Nat) : Int) := by omega
      have hj0' : 0 < 8 - j := by omega
      have hjn : ¬ 8 - j = 1 := by omega
      by_cases hz : (putB n)[j]'(by omega) = 0
      · have hz' : ((((putB n)[j]'(by omega)).toNat : Int) == 0) = true := by rw [hz]; rfl
        have h1 : Hid (shortB n = stripZ ((putB n).drop (j + 1))) := hI (by rw [HS.out, stripZ_drop_zero _ _ (by omega) hz])
        clear hz
        go_wp2
        go_round
        case rel => exact ⟨j + 1, by omega, by rw [show 8 - (j + 1) = 8 - j - 1 by omega], h1.out⟩
        case measure => simp; omega
      · have hz' : ((((putB n)[j]'(by omega)).toNat : Int) == 0) = false := by
          rw [beq_eq_false_iff_ne]
          intro e
          exact hz ((bV_zero _).1 e)
        have h1 : Hid (shortB n = (putB n).drop j) := hI (by rw [HS.out, stripZ_drop_stop _ _ (by omega) (.inr hz)])
        clear hz
        go_wp2
        go_ret
        exact ⟨_, rfl, FIN.out h1.out, hb1, rfl⟩
end Go.Proofs.Ytofmkkcbfeadgaa
namespace Go.Proofs.Ytofmkkcbfeadgaa
set_option linter.unusedSimpArgs false
set_option linter.unusedVariables false
/-- How many bytes follow, where they begin, and the error's number. -/
def sizeS (b : List UInt8) : Nat × Nat × Int :=
  if b.length < 2 then (0, 0, 1)
  else if (b.getD 1 0).toNat < 128 then (if b.length - 2 < (b.getD 1 0).toNat then (0, 0, 1) else ((b.getD 1 0).toNat, 2, 0))
  else if (b.getD 1 0).toNat = 128 ∨ 130 < (b.getD 1 0).toNat then (0, 0, 3)
  else if b.length < (b.getD 1 0).toNat - 126 then (0, 0, 1)
  else if getN ((b.drop 2).take ((b.getD 1 0).toNat - 128)) < 128 ∨ ((b.getD 1 0).toNat = 130 ∧ getN ((b.drop 2).take ((b.getD 1 0).toNat - 128)) < 256) then (0, 0, 3)
  else if b.length - ((b.getD 1 0).toNat - 126) < getN ((b.drop 2).take ((b.getD 1 0).toNat - 128)) then (0, 0, 1)
  else (getN ((b.drop 2).take ((b.getD 1 0).toNat - 128)), (b.getD 1 0).toNat - 126, 0)
theorem sizeS_ok {b : List UInt8} {n at' : Nat} (h : sizeS b = (n, at', 0)) : 2 ≤ at' ∧ at' + n ≤ b.length ∧ at' ≤ 4 := by
  unfold sizeS at h
  split at h
  · simp at h
  · split at h
    · split at h
      · simp at h
      · simp only [Prod.mk.injEq] at h; omega
    · split at h
      · simp at h
      · split at h
        · simp at h
        · split at h
          · simp at h
          · split at h
            · simp at h
            · simp only [Prod.mk.injEq] at h; omega
/-- A list's values, one behind the other, as a reader gives them. -/
def listS (rd : List UInt8 → Tv × Nat × Int) : Nat → List UInt8 → List Tv × Int
  | _, [] => ([], 0)
  | 0, _ => ([], 0)
  | f + 1, b => match rd b with
    | (x, k, e) => if e = 0 then (match listS rd f (b.drop k) with | (l, e') => (x :: l, e')) else ([], e)
/-- The value at the beginning of bytes, how many it has, the error's number; to so many levels. -/
def readS : Nat → List UInt8 → Tv × Nat × Int
  | 0, _ => (.zero, 0, 4)
  | d + 1, b => match sizeS b with
    | (n, at', e) =>
      if e ≠ 0 then (.zero, 0, e)
      else if 2 < (b.getD 0 0).toNat / 64 ∨ 30 < (b.getD 0 0).toNat % 64 then (.zero, 0, 2)
      else if (b.getD 0 0).toNat / 64 = 0 then
        (if (getB ((b.drop at').take n)).2 = false ∨ (1 < n ∧ (b.drop at').getD 0 0 = 0) then (.zero, 0, 4)
         else (.mk 0 ((b.getD 0 0).toNat % 64 : Nat) (getB ((b.drop at').take n)).1 [] [], at' + n, 0))
      else if (b.getD 0 0).toNat / 64 = 1 then (.mk 1 ((b.getD 0 0).toNat % 64 : Nat) 0 ((b.drop at').take n) [], at' + n, 0)
      else match listS (readS d) n ((b.drop at').take n) with
        | (l, e) => if e = 0 then (.mk 2 ((b.getD 0 0).toNat % 64 : Nat) 0 [] l, at' + n, 0) else (.zero, 0, e)
/-- What a reader owes: it takes two bytes at least, and no more than there are. -/
def Takes (rd : List UInt8 → Tv × Nat × Int) : Prop := ∀ b x k, rd b = (x, k, 0) → 2 ≤ k ∧ k ≤ b.length
theorem readS_takes (d : Nat) : Takes (readS d) := by
  intro b x k h
  cases d with
  | zero => simp [readS] at h
  | succ d =>
    rw [readS] at h
    obtain ⟨n, at', e, hs⟩ : ∃ n at' e, sizeS b = (n, at', e) := ⟨_, _, _, rfl⟩
    rw [hs] at h
    simp only at h
    split at h
    · simp at h; omega
    · rename_i he
      have he0 : e = 0 := by simpa using he
      subst he0
      have hok := sizeS_ok hs
      split at h
      · simp at h
      · split at h
        · split at h
          · simp at h
          · simp at h; omega
        · split at h
          · simp at h; omega
          · split at h
            · simp at h; omega
            · simp at h; omega
theorem listS_nil (rd : List UInt8 → Tv × Nat × Int) (f : Nat) : listS rd f [] = ([], 0) := by cases f <;> rfl
/-- A step: a value is read, and the rest. -/
theorem listS_ok {rd : List UInt8 → Tv × Nat × Int} {f : Nat} {b : List UInt8} {x : Tv} {k : Nat} (hb : b ≠ []) (h : rd b = (x, k, 0)) : listS rd (f + 1) b = (x :: (listS rd f (b.drop k)).1, (listS rd f (b.drop k)).2) := by
  cases b with
  | nil => exact absurd rfl hb
  | cons c b => simp [listS, h]
theorem listS_bad {rd : List UInt8 → Tv × Nat × Int} {f : Nat} {b : List UInt8} {x : Tv} {k : Nat} {e : Int} (hb : b ≠ []) (h : rd b = (x, k, e)) (he : e ≠ 0) : listS rd (f + 1) b = ([], e) := by
  cases b with
  | nil => exact absurd rfl hb
  | cons c b => simp [listS, h, he]
/-- More fuel than bytes turns nothing. -/
theorem listS_fuel {rd : List UInt8 → Tv × Nat × Int} (ht : Takes rd) : ∀ (f g : Nat) (b : List UInt8), b.length ≤ f → b.length ≤ g → listS rd f b = listS rd g b
  | f, g, [], _, _ => by rw [listS_nil, listS_nil]
  | 0, g, c :: b, h, _ => by simp at h
  | f + 1, 0, c :: b, _, h => by simp at h
  | f + 1, g + 1, c :: b, hf, hg => by
    obtain ⟨x, k, e, hr⟩ : ∃ x k e, rd (c :: b) = (x, k, e) := ⟨_, _, _, rfl⟩
    by_cases he : e = 0
    · subst he
      have hk := ht _ _ _ hr
      rw [listS_ok (by simp) hr, listS_ok (by simp) hr, listS_fuel ht f g _ (by rw [List.length_drop]; simp at hf hk ⊢; omega) (by rw [List.length_drop]; simp at hg hk ⊢; omega)]
    · rw [listS_bad (by simp) hr he, listS_bad (by simp) hr he]
/-- The value that bytes are, and the error's number. -/
def wholeS (b : List UInt8) : Tv × Int :=
  if 4096 < b.length then (.zero, 20)
  else match readS 8 b with
    | (v, n, e) => if e ≠ 0 then (.zero, e) else if n < b.length then (.zero, 5) else (v, 0)
end Go.Proofs.Ytofmkkcbfeadgaa
namespace Go.Proofs.Ytofmkkcbfeadgaa
set_option linter.unusedSimpArgs false
set_option linter.unusedVariables false
open Go.RowKit
def cutA (a : Option Addr) (cap i : Nat) : Option Addr := if cap = i then a else a.map (·.add i)
theorem runSizeU8 (w : World) : (sizeOf 5).run Try.prog w = .ok 1 w := by kernel_rfl
theorem run_cut2 (a : Option Addr) (n cap i j : Nat) (hi : i ≤ j) (hj : j ≤ cap) (W : World) :
    (Instr.sliceAt 27 (.slice a n cap) (some (.int .i64 i)) (some (.int .i64 j)) none).run Try.prog W = .ok (.slice (cutA a cap i) (j - i) (cap - i)) W := by
  have h1 : ¬ ((i : Int) < 0) := by omega
  have h2 : ¬ ((j : Int) < 0) := by omega
  have h3 : ¬ (cap < j) := by omega
  have h4 : ¬ (j < i) := by omega
  simp [Instr.sliceAt, Instr.slice, Instr.sliceBounds, Instr.sliceBound, run_underlying Try.underlying27, asIntOf, runSizeU8, cutA, h1, h2, h3, h4, hi, hj]
theorem run_cut1 (a : Option Addr) (n cap i : Nat) (hi : i ≤ n) (W : World) :
    (Instr.sliceAt 27 (.slice a n cap) (some (.int .i64 i)) none none).run Try.prog W = .ok (.slice (cutA a cap i) (n - i) (cap - i)) W := by
  have h1 : ¬ ((i : Int) < 0) := by omega
  have h4 : ¬ (n < i) := by omega
  simp [Instr.sliceAt, Instr.slice, Instr.sliceBounds, Instr.sliceBound, run_underlying Try.underlying27, asIntOf, runSizeU8, cutA, h1, h4, hi]
theorem Bs.cut {w : World} {a : Option Addr} {cap : Nat} {b : List UInt8} (h : Bs w (.slice a b.length cap) b) (i j : Nat) (hi : i ≤ j) (hj : j ≤ b.length) : Bs w (.slice (cutA a cap i) (j - i) (cap - i)) ((b.drop i).take (j - i)) := by
  obtain ⟨a', cap', he, hc, hm⟩ := h.form
  simp only [Value.slice.injEq, true_and] at he
  obtain ⟨rfl, rfl⟩ := he
  have hna : a = Option.none → cap = 0 := by
    obtain ⟨_, _, a', c', he, _, _, h5, _⟩ := h
    simp only [Value.slice.injEq, true_and] at he
    obtain ⟨rfl, rfl⟩ := he
    exact h5
  by_cases hz : j - i = 0
  · rw [hz, List.take_zero]
    refine Bs.none _ _ _ (fun e => ?_) (by omega)
    unfold cutA at e
    split at e
    · have := hna e; omega
    · cases a with
      | none => have := hna rfl; omega
      | some x => simp at e
  · obtain ⟨bb, off, rfl, _⟩ := h.addr (by rw [bCells_length]; omega)
    have h1 := Sl.mid h (off := i) (n := j - i) (cap := cap - i) (by omega) (by omega) (by omega)
    have he : cutA (some ⟨bb, off, Option.none⟩) cap i = some ⟨bb, off + i, Option.none⟩ := by
      unfold cutA
      rw [if_neg (by omega)]
      simp [Addr.add_lit]
    rw [he]
    exact h1.bs rfl (by simp; omega)
set_option maxRecDepth 100000 in
theorem derSize_any (v : Value) (b : List UInt8) (w : World) (h : Bs w v b) :
    Calls Try.prog 65 #[v] w fun e w' => e = .returned (.tuple #[.int .i64 (sizeS b).1, .int .i64 (sizeS b).2.1, .int .i64 (sizeS b).2.2]) ∧ w = w' := by
  obtain ⟨a, cap, rfl, hcap, hcm⟩ := h.form
  have hmx := hcm
  unfold maxLen at hcm
  by_cases h2 : b.length < 2
  · have HS : Hid (sizeS b = (0, 0, 1)) := hI (by unfold sizeS; rw [if_pos h2])
    have h2' : (b.length : Int) < 2 := by omega
    clear h2 h
    go_enter Try.func65, Try.ntmps65
    go_wp2_with fail
    go_ret3
    rw [HS.out]
    exact ⟨rfl, rfl⟩
  · obtain ⟨bb, off, rfl, hc⟩ := h.addr (by rw [bCells_length]; omega)
    have hb1 : b[1]'(by omega) = b.getD 1 0 := by rw [List.getD_eq_getElem?_getD, List.getElem?_eq_getElem (by omega)]; rfl
    have c1 : w.cell? ⟨bb, off + 1, none⟩ = some (.int .u8 (b.getD 1 0).toNat) := by rw [← hb1]; exact hc 1 _ (bCells_get b 1 (by omega))
    have hlt := (b.getD 1 0).toNat_lt
    have HB := hI h
    have hcutr := fun j hj hj2 => run_cut2 (some ⟨bb, off, none⟩) b.length cap 2 j hj hj2
    have HCUT := hI hcutr
    have h2' : ¬ (b.length : Int) < 2 := by omega
    clear hc hb1 h hcutr
    have hS : sizeS b = if (b.getD 1 0).toNat < 128 then (if b.length - 2 < (b.getD 1 0).toNat then (0, 0, 1) else ((b.getD 1 0).toNat, 2, 0))
  else if (b.getD 1 0).toNat = 128 ∨ 130 < (b.getD 1 0).toNat then (0, 0, 3)
  else if b.length < (b.getD 1 0).toNat - 126 then (0, 0, 1)
  else if getN ((b.drop 2).take ((b.getD 1 0).toNat - 128)) < 128 ∨ ((b.getD 1 0).toNat = 130 ∧ getN ((b.drop 2).take ((b.getD 1 0).toNat - 128)) < 256) then (0, 0, 3)
  else if b.length - ((b.getD 1 0).toNat - 126) < getN ((b.drop 2).take ((b.getD 1 0).toNat - 128)) then (0, 0, 1)
  else (getN ((b.drop 2).take ((b.getD 1 0).toNat - 128)), (b.getD 1 0).toNat - 126, 0) := by unfold sizeS; rw [if_neg h2]
    generalize (b.getD 1 0).toNat = c at c1 hlt hS
    rcases (by omega : c < 128 ∨ c = 128 ∨ c = 129 ∨ c = 130 ∨ 130 < c) with k | rfl | rfl | rfl | k
    · rw [if_pos k] at hS
      have k' : ¬ (128 : Int) ≤ (c : Int) := by omega
      by_cases hl : b.length - 2 < c
      · rw [if_pos hl] at hS
        have HS := hI hS
        have hl' : (b.length : Int) - 2 < (c : Int) := by omega
        clear hS
        go_enter Try.func65, Try.ntmps65
        go_wp2_with fail
        go_ret3
        rw [HS.out]
        exact ⟨rfl, rfl⟩
      · rw [if_neg hl] at hS
        have HS := hI hS
        have hl' : ¬ (b.length : Int) - 2 < (c : Int) := by omega
        clear hS
        go_enter Try.func65, Try.ntmps65
        go_wp2_with fail
        go_ret3
        rw [HS.out]
        exact ⟨rfl, rfl⟩
    · rw [if_neg (by omega), if_pos (.inl rfl)] at hS
      have HS := hI hS
      clear hS
      go_enter Try.func65, Try.ntmps65
      go_wp2_with fail
      go_ret3
      rw [HS.out]
      exact ⟨rfl, rfl⟩
    · rw [if_neg (by omega), if_neg (by omega)] at hS
      by_cases hl : b.length < 3
      · rw [if_pos (by omega)] at hS
        have HS := hI hS
        have hl' : (b.length : Int) < 3 := by omega
        clear hS
        go_enter Try.func65, Try.ntmps65
        go_wp2_with fail
        go_ret3
        rw [HS.out]
        exact ⟨rfl, rfl⟩
      · rw [if_neg (by omega)] at hS
        have hl' : ¬ (b.length : Int) < 3 := by omega
        have hrun : ∀ W, (Instr.sliceAt 27 (.slice (some ⟨bb, off, none⟩) b.length cap) (some (.int .i64 2)) (some (.int .i64 3)) none).run Try.prog W = .ok (.slice (cutA (some ⟨bb, off, none⟩) cap 2) 1 (cap - 2)) W := fun W => HCUT.out 3 (by omega) (by omega) W
        have hbs : Bs w (.slice (cutA (some ⟨bb, off, none⟩) cap 2) 1 (cap - 2)) ((b.drop 2).take 1) := HB.out.cut 2 3 (by omega) (by omega)
        rw [show 129 - 128 = 1 from rfl, show 129 - 126 = 3 from rfl] at hS
        have hll : ((b.drop 2).take 1).length = 1 := by rw [List.length_take, List.length_drop]; omega
        have hgl := getN_lt ((b.drop 2).take 1)
        rw [hll] at hgl
        have HG := hI (get_any _ _ w hbs)
        have hgb : getB ((b.drop 2).take 1) = (getN ((b.drop 2).take 1), true) := by unfold getB; rw [if_neg (by omega)]
        rw [hgb] at HG
        generalize getN ((b.drop 2).take 1) = n at HG hS hgl
        have hn : n < 256 := by omega
        clear hll hgl hgb hbs
        rcases (by omega : n < 128 ∨ (128 ≤ n ∧ n < 256) ∨ 256 ≤ n) with hq | ⟨hq, hq2⟩ | hq
        · rw [if_pos (.inl hq)] at hS
          have HS := hI hS
          have hq' : (n : Int) < 128 := by omega
          clear hS
          go_enter Try.func65, Try.ntmps65
          go_wp2_with fail
          refine HG.out.mono ?_
          rintro e w' ⟨rfl, rfl⟩
          go_wp2_with fail
          go_ret3
          rw [HS.out]
          exact ⟨rfl, rfl⟩
        · have hq' : ¬ (n : Int) < 128 := by omega
          have hq2' : (n : Int) < 256 := by omega
          rw [if_neg (by omega)] at hS
          by_cases hr : b.length - 3 < n
          · rw [if_pos hr] at hS
            have HS := hI hS
            have hr' : (b.length : Int) - 3 < (n : Int) := by omega
            clear hS
            go_enter Try.func65, Try.ntmps65
            go_wp2_with fail
            refine HG.out.mono ?_
            rintro e w' ⟨rfl, rfl⟩
            go_wp2_with fail
            go_ret3
            rw [HS.out]
            exact ⟨rfl, rfl⟩
          · rw [if_neg hr] at hS
            have HS := hI hS
            have hr' : ¬ (b.length : Int) - 3 < (n : Int) := by omega
            clear hS
            go_enter Try.func65, Try.ntmps65
            go_wp2_with fail
            refine HG.out.mono ?_
            rintro e w' ⟨rfl, rfl⟩
            go_wp2_with fail
            go_ret3
            rw [HS.out]
            exact ⟨rfl, rfl⟩
        · omega
    · rw [if_neg (by omega), if_neg (by omega)] at hS
      by_cases hl : b.length < 4
      · rw [if_pos (by omega)] at hS
        have HS := hI hS
        have hl' : (b.length : Int) < 4 := by omega
        clear hS
        go_enter Try.func65, Try.ntmps65
        go_wp2_with fail
        go_ret3
        rw [HS.out]
        exact ⟨rfl, rfl⟩
      · rw [if_neg (by omega)] at hS
        have hl' : ¬ (b.length : Int) < 4 := by omega
        have hrun : ∀ W, (Instr.sliceAt 27 (.slice (some ⟨bb, off, none⟩) b.length cap) (some (.int .i64 2)) (some (.int .i64 4)) none).run Try.prog W = .ok (.slice (cutA (some ⟨bb, off, none⟩) cap 2) 2 (cap - 2)) W := fun W => HCUT.out 4 (by omega) (by omega) W
        have hbs : Bs w (.slice (cutA (some ⟨bb, off, none⟩) cap 2) 2 (cap - 2)) ((b.drop 2).take 2) := HB.out.cut 2 4 (by omega) (by omega)
        rw [show 130 - 128 = 2 from rfl, show 130 - 126 = 4 from rfl] at hS
        have hll : ((b.drop 2).take 2).length = 2 := by rw [List.length_take, List.length_drop]; omega
        have hgl := getN_lt ((b.drop 2).take 2)
        rw [hll] at hgl
        have HG := hI (get_any _ _ w hbs)
        have hgb : getB ((b.drop 2).take 2) = (getN ((b.drop 2).take 2), true) := by unfold getB; rw [if_neg (by omega)]
        rw [hgb] at HG
        generalize getN ((b.drop 2).take 2) = n at HG hS hgl
        have hn : n < 65536 := by omega
        clear hll hgl hgb hbs
        rcases (by omega : n < 128 ∨ (128 ≤ n ∧ n < 256) ∨ 256 ≤ n) with hq | ⟨hq, hq2⟩ | hq
        · rw [if_pos (.inl hq)] at hS
          have HS := hI hS
          have hq' : (n : Int) < 128 := by omega
          clear hS
          go_enter Try.func65, Try.ntmps65
          go_wp2_with fail
          refine HG.out.mono ?_
          rintro e w' ⟨rfl, rfl⟩
          go_wp2_with fail
          go_ret3
          rw [HS.out]
          exact ⟨rfl, rfl⟩
        · have hq' : ¬ (n : Int) < 128 := by omega
          have hq2' : (n : Int) < 256 := by omega
          rw [if_pos (.inr ⟨rfl, hq2⟩)] at hS
          have HS := hI hS
          clear hS
          go_enter Try.func65, Try.ntmps65
          go_wp2_with fail
          refine HG.out.mono ?_
          rintro e w' ⟨rfl, rfl⟩
          go_wp2_with fail
          go_ret3
          rw [HS.out]
          exact ⟨rfl, rfl⟩
        · have hq' : ¬ (n : Int) < 128 := by omega
          have hq2' : ¬ (n : Int) < 256 := by omega
          rw [if_neg (by omega)] at hS
          by_cases hr : b.length - 4 < n
          · rw [if_pos hr] at hS
            have HS := hI hS
            have hr' : (b.length : Int) - 4 < (n : Int) := by omega
            clear hS
            go_enter Try.func65, Try.ntmps65
            go_wp2_with fail
            refine HG.out.mono ?_
            rintro e w' ⟨rfl, rfl⟩
            go_wp2_with fail
            go_ret3
            rw [HS.out]
            exact ⟨rfl, rfl⟩
          · rw [if_neg hr] at hS
            have HS := hI hS
            have hr' : ¬ (b.length : Int) - 4 < (n : Int) := by omega
            clear hS
            go_enter Try.func65, Try.ntmps65
            go_wp2_with fail
            refine HG.out.mono ?_
            rintro e w' ⟨rfl, rfl⟩
            go_wp2_with fail
            go_ret3
            rw [HS.out]
            exact ⟨rfl, rfl⟩
    · rw [if_neg (by omega), if_pos (.inr k)] at hS
      have HS := hI hS
      have k' : (128 : Int) ≤ (c : Int) := by omega
      have k2 : (2 : Int) < (c : Int) - 128 := by omega
      have k3 : ¬ (c : Int) - 128 < 1 := by omega
      clear hS
      go_enter Try.func65, Try.ntmps65
      go_wp2_with fail
      go_ret3
      rw [HS.out]
      exact ⟨rfl, rfl⟩
end Go.Proofs.Ytofmkkcbfeadgaa
