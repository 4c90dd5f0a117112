/- Words out of bytes, places in slices of words. -/
import Derived.Test.YtdmjliehobgknaaRef03
import Derived.Test.YtdmjliehobgknaaShaBlock
import Derived.Test.YtdmjliehobgknaaBase3
namespace Go.Proofs.Ytdmjliehobgknaa
set_option linter.unusedSimpArgs false
set_option linter.unusedVariables false
open Go.RowKit

def Ws (w : World) (v : Value) (l : List Int) : Prop := Sl w 1 v l.length (wCells l)

theorem run_idxB (b o n c : Nat) (z : Int) (k : Nat) (hz : z = k) (h1 : k < n) (w : World) :
    (Instr.indexAt 22 (.slice (some ⟨b, o, none⟩) n c) (.int .i64 z)).run Try.prog w = .ok (.pointer (some ⟨b, o + k, none⟩)) w := by
  subst hz
  have hs : (sizeOf 5).run Try.prog w = .ok 1 w := by kernel_rfl
  simp [Instr.indexAt, run_underlying Try.underlying22, asIntOf, hs, h1, Addr.add_lit]

theorem alloc_cell {w : World} {p : Addr} {v : Value} (o : Obj) (h : w.cell? p = some v) : (w.alloc o).drew.cell? p = some v := below_cell (w' := w.alloc o) ((Below.refl _ _).alloc (Nat.le_refl _) _) h

theorem run_idxW (b n c : Nat) (z : Int) (k : Nat) (hz : z = k) (h1 : k < n) (w : World) :
    (Instr.indexAt 27 (.slice (some ⟨b, 0, none⟩) n c) (.int .i64 z)).run Try.prog w = .ok (.pointer (some ⟨b, k, none⟩)) w := by
  subst hz
  have hs : (sizeOf 71).run Try.prog w = .ok 1 w := by kernel_rfl
  simp [Instr.indexAt, run_underlying Try.underlying27, asIntOf, hs, h1, Addr.add_lit]

theorem u32_or_nat (x y : Nat) (hx : x < 4294967296) (hy : y < 4294967296) : bits BinOp.or IntKind.u32 (x : Int) (y : Int) = ((x ||| y : Nat) : Int) := by
  have e1 : (BitVec.ofInt 32 (x : Int)).toNat = x := by rw [BitVec.toNat_ofInt]; omega
  have e2 : (BitVec.ofInt 32 (y : Int)).toNat = y := by rw [BitVec.toNat_ofInt]; omega
  have hor : (x ||| y) < 2 ^ 32 := Nat.or_lt_two_pow (by simpa using hx) (by simpa using hy)
  show IntKind.u32.wrap ((BitVec.ofInt 32 (x : Int) ||| BitVec.ofInt 32 (y : Int)).toNat : Nat) = _
  rw [BitVec.toNat_or, e1, e2, IntKind.wrap_u32]
  omega

theorem u32_or_add (x y i : Nat) (hx : x * 2 ^ i < 4294967296) (hy : y < 2 ^ i) (hy2 : y < 4294967296) : bits BinOp.or IntKind.u32 ((x * 2 ^ i : Nat) : Int) (y : Int) = ((x * 2 ^ i + y : Nat) : Int) := by
  rw [u32_or_nat _ _ hx hy2]
  have := Nat.shiftLeft_add_eq_or_of_lt (b := y) (i := i) hy x
  rw [Nat.shiftLeft_eq] at this
  rw [this]

theorem word_or (x0 x1 x2 x3 : UInt8) : bits BinOp.or IntKind.u32 (bits BinOp.or IntKind.u32 (bits BinOp.or IntKind.u32 (IntKind.u32.wrap (IntKind.u32.wrap (x0.toNat : Int) * 16777216)) (IntKind.u32.wrap (IntKind.u32.wrap (x1.toNat : Int) * 65536))) (IntKind.u32.wrap (IntKind.u32.wrap (x2.toNat : Int) * 256))) (IntKind.u32.wrap (x3.toNat : Int))
    = ((((x0.toNat * 256 + x1.toNat) * 256 + x2.toNat) * 256 + x3.toNat : Nat) : Int) := by
  have h0 := x0.toNat_lt
  have h1 := x1.toNat_lt
  have h2 := x2.toNat_lt
  have h3 := x3.toNat_lt
  generalize x0.toNat = a at h0 ⊢
  generalize x1.toNat = b at h1 ⊢
  generalize x2.toNat = c at h2 ⊢
  generalize x3.toNat = d at h3 ⊢
  have e0 : IntKind.u32.wrap (IntKind.u32.wrap (a : Int) * 16777216) = ((a * 2 ^ 24 : Nat) : Int) := by rw [IntKind.wrap_u32, IntKind.wrap_u32]; omega
  have e1 : IntKind.u32.wrap (IntKind.u32.wrap (b : Int) * 65536) = ((b * 65536 : Nat) : Int) := by rw [IntKind.wrap_u32, IntKind.wrap_u32]; omega
  have e2 : IntKind.u32.wrap (IntKind.u32.wrap (c : Int) * 256) = ((c * 256 : Nat) : Int) := by rw [IntKind.wrap_u32, IntKind.wrap_u32]; omega
  have e3 : IntKind.u32.wrap (d : Int) = ((d : Nat) : Int) := by rw [IntKind.wrap_u32]; omega
  rw [e0, e1, e2, e3, u32_or_add a (b * 65536) 24 (by omega) (by omega) (by omega), show a * 2 ^ 24 + b * 65536 = (a * 256 + b) * 2 ^ 16 by omega, u32_or_add (a * 256 + b) (c * 256) 16 (by omega) (by omega) (by omega),
    show (a * 256 + b) * 2 ^ 16 + c * 256 = ((a * 256 + b) * 256 + c) * 2 ^ 8 by omega, u32_or_add ((a * 256 + b) * 256 + c) d 8 (by omega) (by omega) (by omega)]

theorem wordI_eq (b : List UInt8) (k : Nat) (h : 4 * k + 3 < b.length) : wordI b k = ((((b[4 * k].toNat * 256 + b[4 * k + 1].toNat) * 256 + b[4 * k + 2].toNat) * 256 + b[4 * k + 3].toNat : Nat) : Int) := by
  have e : (b.drop (4 * k)).take 4 = [b[4 * k], b[4 * k + 1], b[4 * k + 2], b[4 * k + 3]] := by
    rw [List.drop_eq_getElem_cons (by omega), List.drop_eq_getElem_cons (by omega), List.drop_eq_getElem_cons (by omega), List.drop_eq_getElem_cons (by omega)]
    rfl
  unfold wordI
  rw [e]
  simp [getN]

theorem refTurn_q (x n : Int) (w : World) (hn : 0 < n) (hn2 : n < 32) :
    Calls Try.prog 56 #[.int .u32 x, .int .u64 n] w fun e w' => e = .returned (.int .u32 (tI x n)) ∧ w = w' :=
  (refTurn_any x n w hn hn2).mono (by rintro e w' ⟨rfl, rfl⟩; exact ⟨rfl, rfl⟩)
end Go.Proofs.Ytdmjliehobgknaa
