/- Contract of octet.Put. -/
import Derived.Test.YtogfkfoklnpfhaaBytes
import Derived.Outline
namespace Go.Proofs.Ytogfkfoklnpfhaa
set_option linter.unusedSimpArgs false
set_option linter.unusedVariables false
open Go.RowKit

/-- The eight bytes of a number. -/
def putB (n : Nat) : List UInt8 := (List.range 8).map fun i => UInt8.ofNat (n / 2 ^ (56 - 8 * i) % 256)
theorem putB_length (n : Nat) : (putB n).length = 8 := by simp [putB]
theorem putB_get (n k : Nat) (h : k < 8) : (putB n)[k]? = some (UInt8.ofNat (n / 2 ^ (56 - 8 * k) % 256)) := by simp [putB, h]

set_option maxRecDepth 100000 in
theorem put_any (n : Nat) (w : World) :
    Calls Try.prog 38 #[.int .u64 n] w fun e w' => e = .returned (.slice (some ⟨w.heap.size, 0, none⟩) 8 8) ∧ OwnBs w' w.heap.size (.slice (some ⟨w.heap.size, 0, none⟩) 8 8) (putB n) ∧ Below w.heap.size w w' ∧ Blk w' w.heap.size (bCells (putB n)) 5 := by
  have hmk := fun w => mkBytes w 8 8 rfl (by decide)
  simp only [List.replicate, List.toArray] at hmk
  have hpl := putB_length n
  go_enter Try.func38, Try.ntmps38
  go_wp2
  go_loopw [8] (fun i wr => ∃ k : Nat, k ≤ 8 ∧ i = .int .i64 k ∧ Blk wr w.heap.size ((bCells (putB n)).take k ++ List.replicate (8 - k) (.int .u8 0)) 5 ∧ Below w.heap.size w wr) (fun i _ => 8 - (intOf i).toNat)
  case atStart => exact ⟨0, by omega, rfl, Blk.new w (List.replicate 8 (.int .u8 0)) _, (Below.refl _ _).alloc (Nat.le_refl _) _⟩
  case round =>
    obtain ⟨k, hk, rfl, hb, hbel⟩ := hrel
    have HB := Lib.hid hb
    by_cases hlt : k < 8
    · have h1 : (k : Int) < 8 := by omega
      have hf := hb.frozen k
      have hc : wr.cell? ⟨w.heap.size, k, none⟩ = some (.int .u8 0) := by
        rw [hb.cell, List.getElem?_append_right (by simp [bCells_length]; omega)]
        rw [List.length_take, bCells_length, hpl, show k - min k 8 = 0 by omega, show 8 - k = (7 - k) + 1 by omega]
        rfl
      have hst : Hid (Blk (wr.setCell ⟨w.heap.size, k, none⟩ (.int .u8 ((n : Int) / 2 ^ (56 - 8 * k) % 256))) w.heap.size ((bCells (putB n)).take (k + 1) ++ List.replicate (8 - (k + 1)) (.int .u8 0)) 5) := by
        have := hb.set k (.int .u8 ((n : Int) / 2 ^ (56 - 8 * k) % 256))
        refine Lib.hid ?_
        have e : ((bCells (putB n)).take k ++ List.replicate (8 - k) (Value.int .u8 0)).set k (.int .u8 ((n : Int) / 2 ^ (56 - 8 * k) % 256)) = (bCells (putB n)).take (k + 1) ++ List.replicate (8 - (k + 1)) (.int .u8 0) := by
          have hkl : k < (bCells (putB n)).length := by rw [bCells_length]; omega
          rw [List.set_append_right _ _ (by simp [bCells_length]; omega), List.take_succ_eq_append_getElem hkl]
          have hg : (bCells (putB n))[k] = .int .u8 ((n : Int) / 2 ^ (56 - 8 * k) % 256) := by
            have h2 := bCells_get (putB n) k (by omega)
            rw [List.getElem?_eq_getElem hkl, Option.some.injEq] at h2
            have h3 := putB_get n k hlt
            rw [List.getElem?_eq_getElem (by omega), Option.some.injEq] at h3
            rw [h2, h3, bV_ofNat _ (Nat.mod_lt _ (by decide))]
            simp
          rw [hg, List.append_assoc]
          congr 1
          rw [show k - ((bCells (putB n)).take k).length = 0 by simp [bCells_length]; omega, show 8 - k = (8 - (k + 1)) + 1 by omega]
          rfl
        rw [← e]
        exact this
      clear hb
      go_wp2
      go_roundw
      case rel => exact ⟨k + 1, by omega, by go_num, hst.out, hbel.setCell (Nat.le_refl _) _⟩
      case measure => simp [intOf]; omega
    · obtain rfl : k = 8 := by omega
      have hb8 : Blk wr w.heap.size (bCells (putB n)) 5 := by
        have := hb
        rw [List.take_of_length_le (by rw [bCells_length]; omega)] at this
        simpa using this
      have HB8 := Lib.hid hb8
      clear hb hb8
      go_wp2
      go_ret
      have ho := HB8.out.own (B := w.heap.size) (Nat.le_refl _) (bCells_one _) (by rw [bCells_length, hpl]; decide)
      rw [bCells_length, hpl] at ho
      refine ⟨rfl, ?_, hbel, HB8.out⟩
      unfold OwnBs
      rw [hpl]
      exact ho

end Go.Proofs.Ytogfkfoklnpfhaa
