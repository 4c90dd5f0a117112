/- Contracts of package cred: Keys. -/
import Derived.Test.YtolhphofbkiplaaCred5
import Derived.Great.BuildSlice
namespace Go.Proofs.Ytolhphofbkiplaa
set_option linter.unusedSimpArgs false
set_option linter.unusedVariables false
open Go.RowKit

theorem foldl_set_get : ∀ (l : List Value) (i : Nat) (cs : Array Value) (k : Nat), i + l.length ≤ cs.size →
    ((l.zipIdx i).foldl (fun cs (x : Value × Nat) => cs.setIfInBounds (0 + x.2) x.1) cs)[k]? = if i ≤ k ∧ k < i + l.length then l[k - i]? else cs[k]?
  | [], i, cs, k, _ => by simp; omega
  | x :: l, i, cs, k, h => by
    simp only [List.length_cons] at h
    rw [List.zipIdx_cons, List.foldl_cons, foldl_set_get l (i + 1) _ k (by simp; omega)]
    simp only [List.length_cons, Nat.zero_add]
    by_cases hk : k = i
    · subst hk
      rw [if_neg (by omega), if_pos (by omega), Nat.sub_self]
      simp [Array.getElem?_setIfInBounds, show k < cs.size by omega]
    · by_cases h2 : i + 1 ≤ k ∧ k < i + 1 + l.length
      · rw [if_pos h2, if_pos (by omega), show k - i = (k - (i + 1)) + 1 by omega, List.getElem?_cons_succ]
      · rw [if_neg h2, if_neg (by omega)]
        simp [Array.getElem?_setIfInBounds, Ne.symm hk]

theorem fill_one (X : Array Value) (size : Nat) (cells : Array Value) (hX : X.size = size) (hc : cells.size = size) : Instr.fill (fun i => some (i * size, size)) cells [(0, .agg X)] = some X := by
  have hf : (X.zipIdx.foldl (fun cs (x : Value × Nat) => cs.setIfInBounds (0 + x.2) x.1) cells) = X := by
    rw [← Array.foldl_toList, Array.toList_zipIdx]
    apply Array.ext_getElem?
    intro k
    rw [foldl_set_get X.toList 0 cells k (by simp; omega)]
    by_cases hk : k < X.size
    · rw [if_pos (by simp; omega)]; simp
    · rw [if_neg (by simp; omega), Array.getElem?_eq_none (by omega), Array.getElem?_eq_none (by omega)]
  unfold Instr.fill
  simp only [Value.cells, Nat.zero_mul, Nat.zero_add]
  rw [if_neg (by simp [hX, hc])]
  unfold Instr.fill
  have e : (X.zipIdx.foldl (fun cs x => match x with | (c, j) => cs.setIfInBounds (0 + j) c) cells) = X := hf
  simp only [Nat.zero_add] at e
  exact congrArg some e

/-- A slice literal of one struct or array. -/
theorem wpList_bs1 {P : Program} {ops : Array Oper} {rest : List Oper} {o : Oper} {a : Act} {w : World} {Q : Exit → Act → World → Prop} (hg : o.guard = none) (x : Operand) {t e : TypeId} {size bytes : Nat} {z : Value} (hE : Elem P t e size bytes z) (ho : o.op = .buildSlice t 1 #[(0, x)])
    {X : Array Value} (hx : a.eval x = .agg X) (hX : X.size = size) (hs : size ≤ 16777216)
    (h : wpList P ops Q rest (a.put o.dst (.slice (some ⟨w.heap.size, 0, none⟩) 1 1)) (w.alloc (.cells X e))) : wpList P ops Q (o :: rest) a w := by
  obtain ⟨ht, i, hi, hz, hsize, hby, hzs, hsz⟩ := hE
  refine wpList_buildSlice hg t e 1 #[(0, x)] ho X i z ht hi hz (by omega) (by omega) ?_ h
  rw [hsize]
  simp only [List.map_toArray, List.map_cons, List.map_nil, hx]
  exact fill_one X size _ hX (by simp)

theorem elKeys : Elem Try.prog 43 31 16 16 (.agg zs16.toArray) := by
  refine Elem.mk Try.underlying43 ?_ rfl (by decide)
  kernel_rfl

def ksC (l : List (List UInt8)) : List Value := (l.map bCells).flatten
theorem ksC_snoc (l : List (List UInt8)) (k : List UInt8) : ksC (l ++ [k]) = ksC l ++ bCells k := by simp [ksC]
/-- The keys of all slots. -/
def keysB (L : List (Option Cr)) : List (List UInt8) := L.map fun o => (slC o).key

set_option maxRecDepth 100000 in
theorem credKeys_any (F : Nat → Prop) (p : Nat) (L : List (Option Cr)) (w : World) (h : StoreAt w F p L) :
    Calls Try.prog 12 #[.pointer (some ⟨p, 0, none⟩)] w fun e w' => ∃ v, e = .returned v ∧ Own w' w.heap.size 31 16 v 16 (ksC (keysB L)) ∧ Below w.heap.size w w' := by
  have HH := Lib.hid h
  have HL := Lib.hid h.2.1
  have HKEY := Lib.hid (slC_key (fun c hc => (h.2.2.2 c hc).1))
  clear h
  go_enter Try.func12, Try.ntmps12
  go_wp2_with fail
  go_loopw [3, 5] (fun out i wr => ∃ k : Nat, k ≤ 16 ∧ i = .int .i64 k ∧ Own wr w.heap.size 31 16 out k (ksC (keysB (L.take k))) ∧ Below w.heap.size w wr) (fun _ i _ => 16 - (intOf i).toNat)
  case atStart => exact ⟨0, by omega, rfl, Own.nil _ _ _ _ _, Below.refl _ _⟩
  case round =>
    obtain ⟨k, hk, rfl, hout, hB⟩ := hrel
    by_cases hlt : k < 16
    · have hkL : k < L.length := by rw [HL.out]; exact hlt
      have hia := ixSlot p k hlt
      have hki : (k : Int) < 16 := by omega
      have hck := HKEY.out _ (List.getElem_mem hkL)
      have hcell : CellsAt wr p (k * 21 + 2) (bCells (slC L[k]).key) := by
        intro j u hj
        have hjl : j < 16 := by have := (List.getElem?_eq_some_iff.1 hj).1; rw [bCells_length, hck] at this; exact this
        have := (HH.out.below hB).slot k (2 + j) hkL (by omega)
        rw [show k * 21 + 2 + j = k * 21 + (2 + j) by omega, this]
        rw [← Cr.ckey _ hck, List.getElem?_take, if_pos hjl, List.getElem?_drop] at hj
        exact hj
      have hkl : (bCells (slC L[k]).key).length = 16 := by rw [bCells_length, hck]
      have hstep : keysB (L.take (k + 1)) = keysB (L.take k) ++ [(slC L[k]).key] := by unfold keysB; rw [List.take_succ_eq_append_getElem hkL, List.map_append]; rfl
      generalize (slC L[k]).key = key at hcell hkl hstep
      have HC := Lib.hid hcell
      have HKL := Lib.hid hkl
      have HST := Lib.hid hstep
      have hss := hB.size
      have HO := Lib.hid (hout.alloc (.cells (bCells key).toArray 31))
      have HBr := Lib.hid (hB.alloc hss (.cells (bCells key).toArray 31))
      clear hcell hkl hstep hout hB hck
      go_wp2_with (first | ((with_reducible show wpList _ _ _ (⟨some 15, _, _, _, _, _⟩ :: _) _ _); refine wpList_ldAgg rfl (.tmp 14) aggKey rfl rfl (cs := bCells key) HKL.out HC.out ?_) | ((with_reducible show wpList _ _ _ (⟨some 16, _, _, _, _, _⟩ :: _) _ _); refine wpList_bs1 rfl (.tmp 15) elKeys rfl rfl (by have := HKL.out; simpa using this) (by decide) ?_) | ((with_reducible show wpList _ _ _ (⟨some 17, _, _, _, _, _⟩ :: _) _ _); refine wpList_app rfl (.tmp 8) (.tmp 16) elKeys rfl w.heap.size HO.out (Sl.lit (n := 1) rfl (by simpa using HKL.out) (bCells_one _) (by unfold maxLen; decide)) (by unfold maxLen; omega) (by omega) (by simp; omega) ?_))
      intro v2 w2 ho2 hk2 hvb2
      have HO2 : Hid (Own w2 w.heap.size 31 16 v2 (k + 1) (ksC (keysB (L.take (k + 1))))) := Lib.hid (by
        rw [HST.out, ksC_snoc]
        exact ho2)
      have HB2 : Hid (Below w.heap.size w w2) := Lib.hid (HBr.out.trans (hk2.below (by rintro j (h | h) <;> omega)))
      clear ho2 hk2 hvb2
      go_wp2_with fail
      go_roundw
      case rel => exact ⟨k + 1, by omega, by go_num, HO2.out, HB2.out⟩
      case measure => simp [intOf]; omega
    · obtain rfl : k = 16 := by omega
      rw [List.take_of_length_le (by rw [HL.out]; exact Nat.le_refl _)] at hout
      have HO := Lib.hid hout
      clear hout
      go_wp2_with fail
      go_ret
      exact ⟨_, rfl, HO.out, hB⟩
end Go.Proofs.Ytolhphofbkiplaa
