/- XferGoes in plain Lean: what is under way between both ends, and how a chunk that comes turns them. -/
import Derived.Test.YtogfkfoklnpfhaaTakesP
import Derived.Test.YtogfkfoklnpfhaaOwnZ
namespace Go.Proofs.Ytogfkfoklnpfhaa
set_option linter.unusedSimpArgs false
set_option linter.unusedVariables false
open Go.RowKit

/-- The cells of the pieces under way, from place d. -/
def pcC : Nat → List Value → List Value
  | _, [] => []
  | d, v :: vs => .int .i64 d :: v :: pcC (d + 64) vs
/-- Their bytes. -/
def pcB (b : List UInt8) : Nat → Nat → List (List UInt8)
  | _, 0 => []
  | d, a + 1 => (b.drop d).take 64 :: pcB b (d + 64) a
theorem pcC_snoc (v : Value) : ∀ (d : Nat) (vs : List Value), pcC d (vs ++ [v]) = pcC d vs ++ [.int .i64 ((d + 64 * vs.length : Nat) : Int), v]
  | d, [] => by simp [pcC]
  | d, u :: vs => by
    rw [List.cons_append, pcC, pcC, pcC_snoc v (d + 64) vs, List.length_cons, show d + 64 * (vs.length + 1) = d + 64 + 64 * vs.length by omega]
    rfl
theorem pcB_snoc (b : List UInt8) : ∀ (a d : Nat), pcB b d (a + 1) = pcB b d a ++ [(b.drop (d + 64 * a)).take 64]
  | 0, d => by simp [pcB]
  | a + 1, d => by
    rw [pcB, pcB_snoc b a (d + 64), pcB, show d + 64 * (a + 1) = d + 64 + 64 * a by omega]
    rfl
theorem pcC_length : ∀ (d : Nat) (vs : List Value), (pcC d vs).length = vs.length * 2
  | _, [] => rfl
  | d, v :: vs => by rw [pcC, List.length_cons, List.length_cons, pcC_length, List.length_cons]; omega
theorem chunk_eq (b : List UInt8) (s : Nat) : (b.drop s).take (min (s + 64) b.length - s) = (b.drop s).take 64 := by
  rw [List.take_eq_take_iff, List.length_drop]
  omega

/-- Between rounds: d bytes have come, a chunks are under way, s bytes are sent in n chunks. -/
structure GoInv (b : List UInt8) (d a s n : Nat) (st : Int) : Prop where
  dl : d ≤ b.length
  d64 : d % 64 = 0 ∨ d = b.length
  sent : s = min (d + 64 * a) b.length
  pos : 0 < a → d + 64 * (a - 1) < b.length
  a4 : a ≤ 4
  st2 : st = if d = b.length then 2 else 1
  cnt : n = (s + 63) / 64

variable {b : List UInt8} {d a s n : Nat} {st : Int}
theorem GoInv.first (b : List UInt8) : GoInv b 0 0 0 0 (if b.length = 0 then 2 else 1) := ⟨by omega, by omega, by simp, by omega, by omega, by by_cases h : b.length = 0 <;> simp [h]; intro h2; simp [← h2] at h, rfl⟩

theorem GoInv.sl (h : GoInv b d a s n st) : s ≤ b.length := by have := h.sent; omega
theorem GoInv.run (h : GoInv b d a s n st) (hd : d < b.length) : st = 1 := by rw [h.st2, if_neg (by omega)]
theorem GoInv.fin (h : GoInv b d a s n st) (hd : ¬ d < b.length) : st = 2 ∧ a = 0 ∧ d = b.length ∧ s = b.length ∧ n = (b.length + 63) / 64 := by
  have h1 := h.dl
  have h2 : d = b.length := by omega
  have h3 : a = 0 := by
    rcases Nat.eq_zero_or_pos a with h0 | h0
    · exact h0
    · have := h.pos h0; omega
  have h4 : s = b.length := by have := h.sent; omega
  exact ⟨by rw [h.st2, if_pos h2], h3, h2, h4, by rw [h.cnt, h4]⟩
theorem GoInv.goes (h : GoInv b d a s n st) (hd : d < b.length) (ha : a = 0) : ¬ outStop ⟨st, b, s, a⟩ := by
  subst ha
  have h1 := h.run hd
  have h2 := h.sent
  unfold outStop
  simp only
  omega
theorem GoInv.chunk (h : GoInv b d a s n st) (hs : ¬ outStop ⟨st, b, s, a⟩) : s = d + 64 * a ∧ GoInv b d (a + 1) (min (s + 64) b.length) (n + 1) st := by
  unfold outStop at hs
  simp only [not_or] at hs
  obtain ⟨k1, k2, k3⟩ := hs
  have h1 := h.sent
  have h2 := h.dl
  have h3 := h.a4
  have h4 := h.d64
  have h5 := h.cnt
  have e : s = d + 64 * a := by omega
  refine ⟨e, h2, h4, by omega, fun _ => by omega, by omega, h.st2, ?_⟩
  have hlt : d < b.length := by omega
  have h6 : d % 64 = 0 := by omega
  have h7 : s % 64 = 0 := by omega
  have h8 : s < b.length := by omega
  omega
theorem GoInv.came (h : GoInv b d a s n st) (ha : 0 < a) : d < b.length ∧ ∃ d' st', inTake [b] ⟨st, b.length, digM [] b, b.take d⟩ d ((b.drop d).take 64) = ([b], ⟨st', b.length, digM [] b, b.take d'⟩, 0) ∧
    outCame ⟨st, b, s, a⟩ = (⟨st', b, s, a - 1⟩, 0) ∧ GoInv b d' (a - 1) s n st' ∧ (d' + 63) / 64 = (d + 63) / 64 + 1 ∧ (0 < a - 1 → d' = d + 64) := by
  have h1 := h.sent
  have h2 := h.dl
  have h3 := h.a4
  have h4 := h.d64
  have h5 := h.pos ha
  have hlt : d < b.length := by omega
  have hst := h.run hlt
  subst hst
  refine ⟨hlt, min (d + 64) b.length, if min (d + 64) b.length = b.length then 2 else 1, ?_, ?_, ⟨by omega, by omega, by omega, fun h0 => by omega, by omega, rfl, h.cnt⟩, by omega, by omega⟩
  · have e1 : (b.take d).length = d := by rw [List.length_take]; omega
    have e2 : ((b.drop d).take 64).length = min 64 (b.length - d) := by rw [List.length_take, List.length_drop]
    have e3 : b.take d ++ (b.drop d).take 64 = b.take (min (d + 64) b.length) := by
      rw [← List.take_add]
      rw [List.take_eq_take_iff]
      omega
    have e4 : (b.take (min (d + 64) b.length)).length = min (d + 64) b.length := by rw [List.length_take]; omega
    unfold inTake inWhole
    simp only [e1, e2, e3, e4]
    rw [if_neg (by simp), if_neg (by omega), if_neg (by omega)]
    by_cases hc : min (d + 64) b.length = b.length
    · rw [if_neg (by omega), if_pos (by rw [hc, List.take_length]; exact (digM_first (by simp) (by simp)).2 rfl), if_pos hc, hc, List.take_length]
      simp [digT]
    · rw [if_pos (by omega), if_neg hc]
  · unfold outCame
    simp only
    rw [if_neg (by omega)]
    by_cases hc : min (d + 64) b.length = b.length
    · rw [if_pos (by omega), if_pos hc]
    · rw [if_neg (by omega), if_neg hc]
theorem pcC_move {d d' : Nat} {vs : List Value} (h : 0 < vs.length → d' = d + 64) : pcC (d + 64) vs = pcC d' vs := by
  cases vs with
  | nil => rfl
  | cons v vs => rw [h (by simp)]
theorem pcB_move {b : List UInt8} {d d' a : Nat} (h : 0 < a → d' = d + 64) : pcB b (d + 64) a = pcB b d' a := by
  cases a with
  | zero => rfl
  | succ a => rw [h (by omega)]
theorem accept_first (b : List UInt8) : inAccept [b] ⟨0, b.length, digM [] b, []⟩ = ([b], ⟨if b.length = 0 then 2 else 1, b.length, digM [] b, []⟩, 0) := by
  unfold inAccept inWhole
  simp only
  rw [if_neg (by simp)]
  by_cases h : b.length = 0
  · have hb : b = [] := List.eq_nil_of_length_eq_zero h
    subst hb
    simp [digM, digT]
  · rw [if_pos (by simp; omega), if_neg h]
theorem accept_out (b : List UInt8) : outTurn ⟨0, b, 0, 0⟩ 1 = (⟨if b.length = 0 then 2 else 1, b, 0, 0⟩, 0) := by simp [outTurn]

theorem i64_and7 (n : Int) : bits .and .i64 n 7 = n % 8 := by
  have h127 : (BitVec.ofInt 64 7).toNat = 2 ^ 3 - 1 := by decide
  have key : (BitVec.ofInt 64 n &&& BitVec.ofInt 64 7).toNat = (n % ((2 ^ 64 : Nat) : Int)).toNat % 2 ^ 3 := by
    rw [BitVec.toNat_and, BitVec.toNat_ofInt, h127, Nat.and_two_pow_sub_one_eq_mod]
  show IntKind.i64.wrap ((BitVec.ofInt 64 n &&& BitVec.ofInt 64 7).toNat : Nat) = n % 8
  rw [key, IntKind.wrap_i64]
  omega

theorem elPieces : Elem Try.prog 36 42 2 32 (.agg #[.int .i64 0, .slice none 0 0]) := by
  refine Elem.mk Try.underlying36 ?_ rfl (by decide)
  kernel_rfl

/-- The first piece's cells. -/
theorem OwnZ.two {w : World} {B : Nat} {e : TypeId} {g o n cap : Nat} {c0 c1 : Value} {cs : List Value} (h : OwnZ w B e 2 (.slice (some ⟨g, o, none⟩) n cap) n (c0 :: c1 :: cs)) : w.cell? ⟨g, o, none⟩ = some c0 ∧ w.cell? ⟨g, o + 1, none⟩ = some c1 := by
  obtain ⟨b, o', he, hc⟩ := h.sl.addr (by simp)
  simp only [Option.some.injEq, Addr.mk.injEq, and_true] at he
  obtain ⟨rfl, rfl⟩ := he
  exact ⟨by simpa using hc 0 c0 rfl, hc 1 c1 rfl⟩
end Go.Proofs.Ytogfkfoklnpfhaa
