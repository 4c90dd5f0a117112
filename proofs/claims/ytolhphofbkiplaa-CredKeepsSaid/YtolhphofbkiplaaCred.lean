/- cred: tickets in slots; where one stands; a slot is wiped. -/
import Derived.Test.YtolhphofbkiplaaSlices
import Derived.Test.YtolhphofbkiplaaKeyT
import Derived.Test.YtolhphofbkiplaaArr
import Derived.Laws.Tables
namespace Go.Proofs.Ytolhphofbkiplaa
set_option linter.unusedSimpArgs false
set_option linter.unusedVariables false
open Go.RowKit

/-- A ticket, and what is known of it. -/
structure Cr where
  srv : ByteArray
  bv : Value
  box : List UInt8
  key : List UInt8
  flags : Int
  fin : Int
  renew : Int

def Cr.cells (c : Cr) : List Value := .string c.srv :: c.bv :: (bCells c.key ++ [.int .i64 c.flags, .int .i64 c.fin, .int .i64 c.renew])
def Cr.zero : Cr := ⟨⟨#[]⟩, .slice none 0 0, [], List.replicate 16 0, 0, 0, 0⟩
/-- What is said of a ticket, its box as bytes. -/
def Cr.dat (c : Cr) : ByteArray × List UInt8 × List UInt8 × Int × Int × Int := (c.srv, c.box, c.key, c.flags, c.fin, c.renew)

theorem Cr.cells_length (c : Cr) (h : c.key.length = 16) : c.cells.length = 21 := by simp [Cr.cells, bCells_length, h]
theorem Cr.c0 (c : Cr) : c.cells[0]? = some (.string c.srv) := rfl
theorem Cr.c1 (c : Cr) : c.cells[1]? = some c.bv := rfl
theorem Cr.c18 (c : Cr) (h : c.key.length = 16) : c.cells[18]? = some (.int .i64 c.flags) := by
  simp only [Cr.cells, List.getElem?_cons_succ]
  rw [List.getElem?_append_right (by rw [bCells_length]; omega), bCells_length, h]
  rfl
theorem Cr.c19 (c : Cr) (h : c.key.length = 16) : c.cells[19]? = some (.int .i64 c.fin) := by
  simp only [Cr.cells, List.getElem?_cons_succ]
  rw [List.getElem?_append_right (by rw [bCells_length]; omega), bCells_length, h]
  rfl
theorem Cr.c20 (c : Cr) (h : c.key.length = 16) : c.cells[20]? = some (.int .i64 c.renew) := by
  simp only [Cr.cells, List.getElem?_cons_succ]
  rw [List.getElem?_append_right (by rw [bCells_length]; omega), bCells_length, h]
  rfl
theorem Cr.ckey (c : Cr) (h : c.key.length = 16) : (c.cells.drop 2).take 16 = bCells c.key := by
  simp only [Cr.cells, List.drop_succ_cons, List.drop_zero]
  rw [List.take_append_of_le_length (by rw [bCells_length]; omega), List.take_of_length_le (by rw [bCells_length]; omega)]
theorem Cr.one (c : Cr) (h : c.bv.oneCell' = true) : ∀ u ∈ c.cells, u.oneCell' = true := by
  intro u hu
  simp only [Cr.cells, List.mem_cons, List.mem_append, List.not_mem_nil, or_false] at hu
  rcases hu with rfl | rfl | hu | rfl | rfl | rfl
  · rfl
  · exact h
  · exact bCells_one _ u hu
  · rfl
  · rfl
  · rfl

/-- A slot: a ticket, or none. -/
def slC (o : Option Cr) : Cr := o.getD Cr.zero
def slB (o : Option Cr) : Value := .bool o.isSome
def slS (L : List (Option Cr)) : List Value := (L.map fun o => (slC o).cells).flatten
def stC (L : List (Option Cr)) : List Value := slS L ++ L.map slB

/-- Tickets' slots at block p; F: the blocks that are the store's own. -/
def StoreAt (w : World) (F : Nat → Prop) (p : Nat) (L : List (Option Cr)) : Prop :=
  F p ∧ L.length = 16 ∧ Blk w p (stC L) 51 ∧ ∀ c, some c ∈ L → c.key.length = 16 ∧ Bs w c.bv c.box ∧ ∀ b, c.bv.ownBlock = some b → F b ∧ b ≠ p ∧ b < w.heap.size

theorem slC_key {L : List (Option Cr)} (h : ∀ c, some c ∈ L → c.key.length = 16) : ∀ o ∈ L, (slC o).key.length = 16 := by
  intro o ho
  cases o with
  | none => simp [slC, Cr.zero]
  | some c => exact h c ho

theorem slS_length : ∀ {L : List (Option Cr)}, (∀ o ∈ L, (slC o).key.length = 16) → (slS L).length = 21 * L.length
  | [], _ => rfl
  | o :: L, h => by
    have ih := slS_length (L := L) (fun x hx => h x (by simp [hx]))
    simp only [slS, List.map_cons, List.flatten_cons, List.length_append, List.length_cons] at ih ⊢
    rw [ih, Cr.cells_length _ (h o (by simp))]
    omega

theorem slS_get {L : List (Option Cr)} (h : ∀ o ∈ L, (slC o).key.length = 16) (k j : Nat) (hk : k < L.length) (hj : j < 21) : (slS L)[k * 21 + j]? = (slC L[k]).cells[j]? := by
  induction L generalizing k with
  | nil => simp at hk
  | cons o L ih =>
    have hc := Cr.cells_length _ (h o (by simp))
    simp only [slS, List.map_cons, List.flatten_cons]
    cases k with
    | zero =>
      rw [Nat.zero_mul, Nat.zero_add, List.getElem?_append_left (by omega)]
      rfl
    | succ k =>
      rw [List.getElem?_append_right (by omega), hc, show (k + 1) * 21 + j - 21 = k * 21 + j by omega]
      exact ih (fun x hx => h x (by simp [hx])) k (by simpa using hk)

theorem slS_set {L : List (Option Cr)} (h : ∀ o ∈ L, (slC o).key.length = 16) (k : Nat) (hk : k < L.length) (o : Option Cr) : (slS L).take (k * 21) ++ (slC o).cells ++ (slS L).drop (k * 21 + 21) = slS (L.set k o) := by
  induction L generalizing k with
  | nil => simp at hk
  | cons a L ih =>
    have hc := Cr.cells_length _ (h a (by simp))
    simp only [slS, List.map_cons, List.flatten_cons]
    cases k with
    | zero =>
      rw [Nat.zero_mul, List.take_zero, Nat.zero_add, List.drop_append_of_le_length (by omega), List.drop_of_length_le (by omega)]
      simp
    | succ k =>
      have ih := ih (fun x hx => h x (by simp [hx])) k (by simpa using hk)
      simp only [slS] at ih
      rw [show (k + 1) * 21 = (slC a).cells.length + k * 21 by omega, List.take_length_add_append, Nat.add_assoc, List.drop_length_add_append, List.append_assoc, List.append_assoc, List.set_cons_succ]
      simp only [List.map_cons, List.flatten_cons]
      rw [← ih]
      simp

theorem aggCred : AggTy Try.prog 33 21 := AggTy.mk Try.underlying33 rfl (by kernel_rfl)
theorem aggUsed : AggTy Try.prog 49 16 := AggTy.mk Try.underlying49 rfl (by kernel_rfl)

theorem ixSlot (p k : Nat) (hk : k < 16) (w : World) : (Instr.indexAt 48 (.pointer (some ⟨p, 0, none⟩)) (.int .i64 k)).run Try.prog w = .ok (.pointer (some ⟨p, k * 21, none⟩)) w := by
  have hs : (sizeOf 33).run Try.prog w = .ok 21 w := by kernel_rfl
  simp [Instr.indexAt, run_underlying Try.underlying48, asIntOf, Instr.sureAddr, hs, hk, Addr.add_lit]

theorem ixUsed (p k : Nat) (hk : k < 16) (w : World) : (Instr.indexAt 49 (.pointer (some ⟨p, 336, none⟩)) (.int .i64 k)).run Try.prog w = .ok (.pointer (some ⟨p, 336 + k, none⟩)) w := by
  have hs : (sizeOf 4).run Try.prog w = .ok 1 w := by kernel_rfl
  simp [Instr.indexAt, run_underlying Try.underlying49, asIntOf, Instr.sureAddr, hs, hk, Addr.add_lit]

theorem run_index16 (L : List (Option Cr)) (k : Nat) (hk : k < L.length) (hL : L.length = 16) (w : World) : (Instr.index 49 (.agg (L.map slB).toArray) (.int .i64 k)).run Try.prog w = .ok (slB L[k]) w := by
  have hs : (sizeOf 4).run Try.prog w = .ok 1 w := by kernel_rfl
  have ha : (isAgg 4).run Try.prog w = .ok false w := by kernel_rfl
  have hc : (L.map slB)[k]? = some (slB L[k]) := by simp [hk]
  have hk16 : ¬ 16 ≤ k := by omega
  simp [Instr.index, run_underlying Try.underlying49, asIntOf, part, hs, ha, hk16, hk]

/-- Where the first slot is free; -1: none is. -/
def freeI (L : List (Option Cr)) : Int := match L.findIdx? (fun o => o.isNone) with
  | some i => i
  | none => -1
def hasSrv (s : ByteArray) (o : Option Cr) : Bool := match o with
  | some c => decide (c.srv = s)
  | none => false
/-- A server's slot, or the first one that is free; -1: none is. -/
def placeI (L : List (Option Cr)) (s : ByteArray) : Int := match L.findIdx? (hasSrv s) with
  | some i => i
  | none => freeI L

theorem StoreAt.used {w : World} {F : Nat → Prop} {p : Nat} {L : List (Option Cr)} (h : StoreAt w F p L) : CellsAt w p 336 (L.map slB) := by
  obtain ⟨_, hl, hb, hk⟩ := h
  have hs := slS_length (slC_key (fun c hc => (hk c hc).1))
  intro j u hj
  rw [hb.cell, stC, List.getElem?_append_right (by omega), hs, hl]
  rwa [show 336 + j - 21 * 16 = j by omega]

theorem StoreAt.usedC {w : World} {F : Nat → Prop} {p : Nat} {L : List (Option Cr)} (h : StoreAt w F p L) (k : Nat) (hk : k < L.length) : w.cell? ⟨p, 336 + k, none⟩ = some (slB L[k]) := h.used k _ (by simp [hk])

theorem StoreAt.slot {w : World} {F : Nat → Prop} {p : Nat} {L : List (Option Cr)} (h : StoreAt w F p L) (k j : Nat) (hk : k < L.length) (hj : j < 21) : w.cell? ⟨p, k * 21 + j, none⟩ = (slC L[k]).cells[j]? := by
  obtain ⟨_, hl, hb, hkk⟩ := h
  have hkey := slC_key (fun c hc => (hkk c hc).1)
  have hs := slS_length hkey
  rw [hb.cell, stC, List.getElem?_append_left (by omega)]
  exact slS_get hkey k j hk hj

theorem StoreAt.lt {w : World} {F : Nat → Prop} {p : Nat} {L : List (Option Cr)} (h : StoreAt w F p L) : p < w.heap.size := h.2.2.1.lt

theorem StoreAt.keep {w w' : World} {F S : Nat → Prop} {p : Nat} {L : List (Option Cr)} (h : StoreAt w F p L) (hk : Keeps S w w') (hs : ∀ k, F k → k < w.heap.size → ¬ S k) : StoreAt w' F p L := by
  obtain ⟨h1, h2, h3, h4⟩ := h
  refine ⟨h1, h2, h3.keep hk (hs p h1 h3.lt), fun c hc => ?_⟩
  obtain ⟨g1, g2, g3⟩ := h4 c hc
  exact ⟨g1, Sl.keep' g2 hk (fun b hb hl => hs b (g3 b hb).1 hl), fun b hb => ⟨(g3 b hb).1, (g3 b hb).2.1, Nat.lt_of_lt_of_le (g3 b hb).2.2 hk.size⟩⟩
theorem StoreAt.below {w w' : World} {F : Nat → Prop} {p : Nat} {L : List (Option Cr)} (h : StoreAt w F p L) (hb : Below w.heap.size w w') : StoreAt w' F p L := h.keep (Keeps.of_below hb) (fun k _ hl hs => by omega)
theorem StoreAt.mono {w : World} {F G : Nat → Prop} {p : Nat} {L : List (Option Cr)} (h : StoreAt w F p L) (hs : ∀ k, F k → G k) : StoreAt w G p L := by
  obtain ⟨h1, h2, h3, h4⟩ := h
  exact ⟨hs _ h1, h2, h3, fun c hc => let ⟨g1, g2, g3⟩ := h4 c hc; ⟨g1, g2, fun b hb => ⟨hs _ (g3 b hb).1, (g3 b hb).2⟩⟩⟩

/-- Only blocks that are there count. -/
theorem StoreAt.tight {w : World} {F : Nat → Prop} {p : Nat} {L : List (Option Cr)} (h : StoreAt w F p L) : StoreAt w (fun j => F j ∧ j < w.heap.size) p L := by
  have hp := h.lt
  obtain ⟨h1, h2, h3, h4⟩ := h
  exact ⟨⟨h1, hp⟩, h2, h3, fun c hc => let ⟨g1, g2, g3⟩ := h4 c hc; ⟨g1, g2, fun b hb => ⟨⟨(g3 b hb).1, (g3 b hb).2.2⟩, (g3 b hb).2⟩⟩⟩

theorem freeI_snoc (L : List (Option Cr)) (o : Option Cr) : freeI (L ++ [o]) = if freeI L < 0 ∧ o.isNone = true then (L.length : Int) else freeI L := by
  unfold freeI
  rw [List.findIdx?_append]
  cases h : L.findIdx? (fun o => o.isNone) with
  | some i =>
    simp
    omega
  | none =>
    cases o <;> simp [List.findIdx?_cons]
theorem freeI_ge (L : List (Option Cr)) : -1 ≤ freeI L := by unfold freeI; split <;> omega
theorem freeI_lt (L : List (Option Cr)) : freeI L < L.length := by
  unfold freeI
  split
  · rename_i i h
    have := (List.findIdx?_eq_some_iff_findIdx_eq.1 h).1
    omega
  · omega

theorem placeI_at (L : List (Option Cr)) (s : ByteArray) (k : Nat) (hk : k < L.length) (h1 : ∀ o ∈ L.take k, hasSrv s o = false) (h2 : hasSrv s L[k] = true) : placeI L s = k := by
  have : L.findIdx? (hasSrv s) = some k := by
    rw [List.findIdx?_eq_some_iff_getElem]
    refine ⟨hk, h2, fun j hj => ?_⟩
    have := h1 L[j] (by
      rw [List.mem_take_iff_getElem]
      exact ⟨j, by omega, rfl⟩)
    simp [this]
  simp [placeI, this]
theorem placeI_none (L : List (Option Cr)) (s : ByteArray) (h : ∀ o ∈ L, hasSrv s o = false) : placeI L s = freeI L := by
  have : L.findIdx? (hasSrv s) = none := by
    rw [List.findIdx?_eq_none_iff]
    exact h
  simp [placeI, this]
end Go.Proofs.Ytolhphofbkiplaa
