/- What a law's walk holds at a world: besides blocks, trees and rows of bytes: slices of whatever cells. -/
import Derived.Test.YtdmjliehobgknaaCx
namespace Go.Proofs.Ytdmjliehobgknaa
set_option linter.unusedSimpArgs false
set_option linter.unusedVariables false
open Go.RowKit

structure Cy (w0 : World) (bl : List (Nat × List Value × TypeId)) (tr : List (Tv × List Value)) (rw : List (Value × List UInt8)) (sl : List (Nat × Value × Nat × List Value)) (W : World) : Prop where
  cx : Cx w0 bl tr rw W
  sl : ∀ s ∈ sl, Sl W s.1 s.2.1 s.2.2.1 s.2.2.2

variable {w0 W W' : World} {bl : List (Nat × List Value × TypeId)} {tr : List (Tv × List Value)} {rw : List (Value × List UInt8)} {sl : List (Nat × Value × Nat × List Value)}

theorem Cy.of (h : Cx w0 bl tr rw W) : Cy w0 bl tr rw [] W := ⟨h, by simp⟩
theorem Cy.step (h : Cy w0 bl tr rw sl W) (hb : Below W.heap.size W W') : Cy w0 bl tr rw sl W' := ⟨h.cx.step hb, fun s hs => (h.sl s hs).below hb⟩
theorem Cy.drew (h : Cy w0 bl tr rw sl W) : Cy w0 bl tr rw sl W.drew := h.step ((Below.refl _ _).drew)
theorem Cy.alloc (h : Cy w0 bl tr rw sl W) (o : Obj) : Cy w0 bl tr rw sl (W.alloc o) := h.step ((Below.refl _ _).alloc (Nat.le_refl _) _)
theorem Cy.addBlk (h : Cy w0 bl tr rw sl W) {p : Nat} {cs : List Value} {T : TypeId} (hp : Blk W p cs T) : Cy w0 ((p, cs, T) :: bl) tr rw sl W := ⟨h.cx.addBlk hp, h.sl⟩
theorem Cy.addTree (h : Cy w0 bl tr rw sl W) {x : Tv} {cs : List Value} {F : Nat → Prop} (hp : TvF W F x cs) : Cy w0 bl ((x, cs) :: tr) rw sl W := ⟨h.cx.addTree hp, h.sl⟩
theorem Cy.addRow (h : Cy w0 bl tr rw sl W) {v : Value} {b : List UInt8} (hp : Bs W v b) : Cy w0 bl tr ((v, b) :: rw) sl W := ⟨h.cx.addRow hp, h.sl⟩
theorem Cy.addSl (h : Cy w0 bl tr rw sl W) {sz n : Nat} {v : Value} {cs : List Value} (hp : Sl W sz v n cs) : Cy w0 bl tr rw ((sz, v, n, cs) :: sl) W :=
  ⟨h.cx, fun s hs => by rcases List.mem_cons.1 hs with e | hs; (rw [e]; exact hp); exact h.sl s hs⟩
theorem Cy.tree (h : Cy w0 bl tr rw sl W) : ∀ t ∈ tr, TvF W (fun _ => True) t.1 t.2 := h.cx.tree
theorem Cy.row (h : Cy w0 bl tr rw sl W) : ∀ r ∈ rw, Bs W r.1 r.2 := h.cx.row
theorem Cy.below (h : Cy w0 bl tr rw sl W) : Below w0.heap.size w0 W := h.cx.below
theorem Cy.cells (h : Cy w0 bl tr rw sl W) {p : Nat} {cs : List Value} {T : TypeId} (hm : (p, cs, T) ∈ bl) : CellsAt W p 0 cs := h.cx.cells hm
theorem Cx.cell1 (h : Cx w0 bl tr rw W) {p : Nat} {cs : List Value} {T : TypeId} (hm : (p, cs, T) ∈ bl) (j : Nat) {u : Value} (hu : cs[j]? = some u) : W.cell? ⟨p, j, none⟩ = some u := by
  have := h.cells hm j u hu
  rwa [Nat.zero_add] at this
theorem Cy.cell1 (h : Cy w0 bl tr rw sl W) {p : Nat} {cs : List Value} {T : TypeId} (hm : (p, cs, T) ∈ bl) (j : Nat) {u : Value} (hu : cs[j]? = some u) : W.cell? ⟨p, j, none⟩ = some u := h.cx.cell1 hm j hu
theorem Sl.cellsAt {w : World} {sz b o n cap : Nat} {cs : List Value} (h : Sl w sz (.slice (some ⟨b, o, none⟩) n cap) n cs) {pre mid post : List Value} (e : cs = pre ++ mid ++ post) : CellsAt w b (o + pre.length) mid := by
  intro j u hj
  have hjl := (List.getElem?_eq_some_iff.1 hj).1
  obtain ⟨b', o', he, hc⟩ := h.addr (by rw [e]; simp; omega)
  simp only [Option.some.injEq, Addr.mk.injEq, and_true] at he
  obtain ⟨rfl, rfl⟩ := he
  have := hc (pre.length + j) u (by rw [e, List.append_assoc, List.getElem?_append_right (by omega), Nat.add_sub_cancel_left, List.getElem?_append_left hjl]; exact hj)
  rwa [← Nat.add_assoc] at this
theorem Bs.byteAt {w : World} {b o n cap : Nat} {l : List UInt8} (h : Bs w (.slice (some ⟨b, o, Option.none⟩) n cap) l) (j : Nat) {x : UInt8} (hx : l[j]? = some x) : w.cell? ⟨b, o + j, Option.none⟩ = some (bV x) := by
  have hl : n = l.length := by
    obtain ⟨_, _, a, c, e, _⟩ := h
    simp only [Value.slice.injEq] at e
    exact e.2.1
  subst hl
  have hjl := (List.getElem?_eq_some_iff.1 hx).1
  obtain ⟨b', o', he, hc⟩ := Sl.addr h (by simp [bCells]; omega)
  simp only [Option.some.injEq, Addr.mk.injEq, and_true] at he
  obtain ⟨rfl, rfl⟩ := he
  exact hc j _ (by simp [bCells, hx])
end Go.Proofs.Ytdmjliehobgknaa
