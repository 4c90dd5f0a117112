/- sha: what a digest is, said plainly, without the program. -/
import Derived.Test.YtdmjliehobgknaaShaBlock
namespace Go.Proofs.Ytdmjliehobgknaa
set_option linter.unusedSimpArgs false
set_option linter.unusedVariables false
open Go.RowKit

/-- The words that a sum begins with. -/
def h0I : List Int := [1779033703, 3144134277, 1013904242, 2773480762, 1359893119, 2600822924, 528734635, 1541459225]

/-- What stands behind the first blocks of bytes. -/
def blocksI (h : List Int) (l : List UInt8) : Nat → List Int
  | 0 => h
  | k + 1 => blockI (blocksI h l k) ((l.drop (64 * k)).take 64)

/-- What is laid behind so many bytes. -/
def padB (n : Nat) : List UInt8 := 128 :: List.replicate ((119 - n % 64) % 64) 0
def wholeB (D : List UInt8) : List UInt8 := D ++ (padB D.length ++ putB (8 * D.length))

/-- Bytes of words. -/
def outB (h : List Int) : List UInt8 := h.flatMap fun x => (putB x.toNat).drop 4

/-- The digest. -/
def digB (D : List UInt8) : List UInt8 := outB (blocksI h0I (wholeB D) ((wholeB D).length / 64))

theorem al_abc : (digB [97, 98, 99]).take 4 = [186, 120, 22, 191] := by decide +kernel

theorem blockI_length (h : List Int) (b : List UInt8) (hh : h.length = 8) : (blockI h b).length = 8 := by
  unfold blockI
  rw [addW_length _ _ _ (by rw [roundsI_length _ _ _ _ hh, hh]) (by omega), hh]
theorem blocksI_length (h : List Int) (l : List UInt8) (hh : h.length = 8) : ∀ k, (blocksI h l k).length = 8
  | 0 => hh
  | k + 1 => blockI_length _ _ (blocksI_length h l hh k)

theorem blocksI_pre (h : List Int) (D b : List UInt8) : ∀ k, 64 * k ≤ D.length → blocksI h (D ++ b) k = blocksI h D k
  | 0, _ => rfl
  | k + 1, hk => by
    rw [blocksI, blocksI, blocksI_pre h D b k (by omega), List.drop_append_of_le_length (by omega), List.take_append_of_le_length (by simp; omega)]

theorem blockI_w32 (h : List Int) (b : List UInt8) (hh : h.length = 8) : ∀ x ∈ blockI h b, 0 ≤ x ∧ x < 4294967296 := by
  intro x hx
  unfold blockI addW at hx
  rw [List.drop_of_length_le (by omega), List.append_nil] at hx
  have hx := List.mem_of_mem_take hx
  rw [List.mem_iff_getElem] at hx
  obtain ⟨i, hi, rfl⟩ := hx
  rw [List.getElem_zipWith]
  omega

theorem blocksI_w32 (h : List Int) (l : List UInt8) (hh : h.length = 8) (hw : ∀ x ∈ h, 0 ≤ x ∧ x < 4294967296) : ∀ k, ∀ x ∈ blocksI h l k, 0 ≤ x ∧ x < 4294967296
  | 0 => hw
  | k + 1 => blockI_w32 _ _ (blocksI_length h l hh k)

theorem h0I_w32 : ∀ x ∈ h0I, 0 ≤ x ∧ x < 4294967296 := by decide

/-- A sum at block p, of the bytes D. -/
def SumOf (w : World) (F : Nat → Prop) (p : Nat) (D : List UInt8) : Prop :=
  F p ∧ ∃ va, Blk w p (wCells (blocksI h0I D (D.length / 64)) ++ [va, .int .u64 D.length]) 78 ∧ OwnO w 0 5 va (D.length - 64 * (D.length / 64)) (bCells (D.drop (64 * (D.length / 64)))) ∧
    va.ownBlock ≠ some p ∧ ∀ b, va.ownBlock = some b → F b

theorem SumOf.keep {w w' : World} {F S : Nat → Prop} {p : Nat} {D : List UInt8} (h : SumOf w F p D) (hk : Keeps S w w') (hs : ∀ k, F k → k < w.heap.size → ¬ S k) : SumOf w' F p D := by
  obtain ⟨h1, va, h2, h3, h4, h5⟩ := h
  refine ⟨h1, va, h2.keep hk (hs p h1 h2.lt), ?_, h4, h5⟩
  obtain ⟨g1, g2, g3 | ⟨g, o, cap, cur, rfl, g4, g5, gr⟩⟩ := h3
  · exact ⟨g1, g2, .inl g3⟩
  · exact ⟨g1, g2, .inr ⟨g, o, cap, cur, rfl, g4, (hk.block g (hs g (h5 g rfl) (block_lt g5))).trans g5, gr⟩⟩

theorem SumOf.below {w w' : World} {F : Nat → Prop} {p : Nat} {D : List UInt8} (h : SumOf w F p D) (hb : Below w.heap.size w w') : SumOf w' F p D :=
  h.keep (Keeps.of_below hb) (fun k _ hl hs => by omega)

theorem SumOf.lt {w : World} {F : Nat → Prop} {p : Nat} {D : List UInt8} (h : SumOf w F p D) : p < w.heap.size := by
  obtain ⟨_, _, h2, _⟩ := h
  exact h2.lt

theorem SumOf.mono {w : World} {F G : Nat → Prop} {p : Nat} {D : List UInt8} (h : SumOf w F p D) (hs : ∀ k, F k → G k) : SumOf w G p D := by
  obtain ⟨h1, va, h2, h3, h4, h5⟩ := h
  exact ⟨hs _ h1, va, h2, h3, h4, fun b hb => hs _ (h5 b hb)⟩

theorem sum8 (H : List Int) (x y : Value) (hH : H.length = 8) : (wCells H ++ [x, y])[8]? = some x := by
  rw [List.getElem?_append_right (by rw [wCells_length]; omega), wCells_length, hH]; rfl
theorem sum9 (H : List Int) (x y : Value) (hH : H.length = 8) : (wCells H ++ [x, y])[9]? = some y := by
  rw [List.getElem?_append_right (by rw [wCells_length]; omega), wCells_length, hH]; rfl
theorem sumSet8 (H : List Int) (x y z : Value) (hH : H.length = 8) : (wCells H ++ [x, y]).set 8 z = wCells H ++ [z, y] := by
  rw [List.set_append_right _ _ (by rw [wCells_length]; omega), wCells_length, hH]; rfl
theorem sumSet9 (H : List Int) (x y z : Value) (hH : H.length = 8) : (wCells H ++ [x, y]).set 9 z = wCells H ++ [x, z] := by
  rw [List.set_append_right _ _ (by rw [wCells_length]; omega), wCells_length, hH]; rfl

set_option maxRecDepth 100000 in
theorem shaNew_any (w : World) : Calls Try.prog 18 #[] w fun e w' => e = .returned (.pointer (some ⟨w.heap.size, 0, none⟩)) ∧ SumOf w' (fun k => k = w.heap.size) w.heap.size [] ∧ Below w.heap.size w w' := by
  have fin : SumOf (w.alloc (.cells (wCells h0I ++ [Value.slice none 0 0, Value.int .u64 0]).toArray 78)) (fun k => k = w.heap.size) w.heap.size [] :=
    ⟨rfl, .slice none 0 0, Blk.new w _ _, OwnO.nil _ _ _ _, by simp [Value.ownBlock], by simp [Value.ownBlock]⟩
  have FIN := Lib.hid fin
  clear fin
  go_enter Try.func18, Try.ntmps18
  go_wp2_with fail
  go_ret
  exact ⟨rfl, FIN.out, (Below.refl _ _).alloc (Nat.le_refl _) _⟩

/-- How many bytes a sum keeps. -/
def sumLeft (w : World) (p : Nat) : Nat := match w.cell? ⟨p, 8, none⟩ with
  | some (.slice _ n _) => n
  | _ => 0

end Go.Proofs.Ytdmjliehobgknaa
