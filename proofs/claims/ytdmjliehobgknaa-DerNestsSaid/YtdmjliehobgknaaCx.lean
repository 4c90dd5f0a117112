/- What a law's walk holds at a world: blocks, trees, rows of bytes; all stand where only new memory is made. -/
import Derived.Test.YtdmjliehobgknaaDerLaw2
import Derived.Test.YtdmjliehobgknaaDerAlive
import Derived.Test.YtdmjliehobgknaaDerReads
namespace Go.Proofs.Ytdmjliehobgknaa
set_option linter.unusedSimpArgs false
set_option linter.unusedVariables false
open Go.RowKit

structure Cx (w0 : World) (bl : List (Nat × List Value × TypeId)) (tr : List (Tv × List Value)) (rw : List (Value × List UInt8)) (W : World) : Prop where
  blk : ∀ b ∈ bl, Blk W b.1 b.2.1 b.2.2
  tree : ∀ t ∈ tr, TvF W (fun _ => True) t.1 t.2
  row : ∀ r ∈ rw, Bs W r.1 r.2
  below : Below w0.heap.size w0 W

variable {w0 W W' : World} {bl : List (Nat × List Value × TypeId)} {tr : List (Tv × List Value)} {rw : List (Value × List UInt8)}

theorem Cx.step (h : Cx w0 bl tr rw W) (hb : Below W.heap.size W W') : Cx w0 bl tr rw W' :=
  ⟨fun b hm => (h.blk b hm).below hb (h.blk b hm).lt, fun t hm => (h.tree t hm).below hb, fun r hm => (h.row r hm).below hb, h.below.trans (hb.mono h.below.size)⟩
theorem Cx.drew (h : Cx w0 bl tr rw W) : Cx w0 bl tr rw W.drew := h.step ((Below.refl _ _).drew)
theorem Cx.alloc (h : Cx w0 bl tr rw W) (o : Obj) : Cx w0 bl tr rw (W.alloc o) := h.step ((Below.refl _ _).alloc (Nat.le_refl _) _)
theorem Cx.addBlk (h : Cx w0 bl tr rw W) {p : Nat} {cs : List Value} {T : TypeId} (hp : Blk W p cs T) : Cx w0 ((p, cs, T) :: bl) tr rw W :=
  ⟨fun b hm => by rcases List.mem_cons.1 hm with e | hm; (rw [e]; exact hp); exact h.blk b hm, h.tree, h.row, h.below⟩
theorem Cx.addTree (h : Cx w0 bl tr rw W) {x : Tv} {cs : List Value} {F : Nat → Prop} (hp : TvF W F x cs) : Cx w0 bl ((x, cs) :: tr) rw W :=
  ⟨h.blk, fun b hm => by rcases List.mem_cons.1 hm with e | hm; (rw [e]; exact hp.mono (fun _ _ => trivial)); exact h.tree b hm, h.row, h.below⟩
theorem Cx.addRow (h : Cx w0 bl tr rw W) {v : Value} {b : List UInt8} (hp : Bs W v b) : Cx w0 bl tr ((v, b) :: rw) W :=
  ⟨h.blk, h.tree, fun r hm => by rcases List.mem_cons.1 hm with e | hm; (rw [e]; exact hp); exact h.row r hm, h.below⟩
theorem Cx.start (w0 : World) : Cx w0 [] [] [] w0 := ⟨by simp, by simp, by simp, Below.refl _ _⟩
theorem Cx.cells (h : Cx w0 bl tr rw W) {p : Nat} {cs : List Value} {T : TypeId} (hm : (p, cs, T) ∈ bl) : CellsAt W p 0 cs := (h.blk _ hm).cellsAll

/-- A variable is laid, and a value's cells in it. -/
theorem Cx.lay (h : Cx w0 bl tr rw W) {zs cs : List Value} {T : TypeId} {w3 : World} {v : World} (hv : v = W.alloc (.cells zs.toArray T)) (hlen : cs.length = zs.length) (h3 : Blk w3 W.heap.size (cs ++ zs.drop zs.length) T) (k3 : Keeps (fun j => j = W.heap.size) v w3) :
    Cx w0 ((W.heap.size, cs, T) :: bl) tr rw w3 ∧ Below W.heap.size W w3 ∧ W.heap.size + 1 ≤ w3.heap.size := by
  subst hv
  have hb : Below W.heap.size W w3 := ((Below.refl _ _).alloc (Nat.le_refl _) _).trans (k3.below (by omega))
  rw [List.drop_length, List.append_nil] at h3
  have hz := k3.size
  simp at hz
  exact ⟨(h.step hb).addBlk h3, hb, hz⟩
end Go.Proofs.Ytdmjliehobgknaa
