/- Slices of slices: whatever the slice is. -/
import Derived.Test.YtogfkfoklnpfhaaSlices
namespace Go.Proofs.Ytogfkfoklnpfhaa
set_option linter.unusedSimpArgs false
set_option linter.unusedVariables false
open Go.RowKit

def cutA (a : Option Addr) (cap i : Nat) : Option Addr := if cap = i then a else a.map (·.add i)

theorem runSizeU8 (w : World) : (sizeOf 5).run Try.prog w = .ok 1 w := by kernel_rfl

theorem run_cut2 (a : Option Addr) (n cap i j : Nat) (hi : i ≤ j) (hj : j ≤ cap) (W : World) :
    (Instr.sliceAt 22 (.slice a n cap) (some (.int .i64 i)) (some (.int .i64 j)) none).run Try.prog W = .ok (.slice (cutA a cap i) (j - i) (cap - i)) W := by
  have h1 : ¬ ((i : Int) < 0) := by omega
  have h2 : ¬ ((j : Int) < 0) := by omega
  have h3 : ¬ (cap < j) := by omega
  have h4 : ¬ (j < i) := by omega
  simp [Instr.sliceAt, Instr.slice, Instr.sliceBounds, Instr.sliceBound, run_underlying Try.underlying22, asIntOf, runSizeU8, cutA, h1, h2, h3, h4, hi, hj]

theorem run_cut1 (a : Option Addr) (n cap i : Nat) (hi : i ≤ n) (W : World) :
    (Instr.sliceAt 22 (.slice a n cap) (some (.int .i64 i)) none none).run Try.prog W = .ok (.slice (cutA a cap i) (n - i) (cap - i)) W := by
  have h1 : ¬ ((i : Int) < 0) := by omega
  have h4 : ¬ (n < i) := by omega
  simp [Instr.sliceAt, Instr.slice, Instr.sliceBounds, Instr.sliceBound, run_underlying Try.underlying22, asIntOf, runSizeU8, cutA, h1, h4, hi]

theorem run_cut0 (a : Option Addr) (n cap j : Nat) (hj : j ≤ cap) (W : World) :
    (Instr.sliceAt 22 (.slice a n cap) none (some (.int .i64 j)) none).run Try.prog W = .ok (.slice (cutA a cap 0) j cap) W := by
  have h2 : ¬ ((j : Int) < 0) := by omega
  have h3 : ¬ (cap < j) := by omega
  simp [Instr.sliceAt, Instr.slice, Instr.sliceBounds, Instr.sliceBound, run_underlying Try.underlying22, asIntOf, runSizeU8, cutA, h2, h3, hj]

theorem run_cut2s (a : Option Addr) (n cap i j : Nat) (hi : i ≤ j) (hj : j ≤ cap) (W : World) :
    (Instr.slice 22 (.slice a n cap) (some (.int .i64 i)) (some (.int .i64 j)) none).run Try.prog W = .ok (.slice (cutA a cap i) (j - i) (cap - i)) W := by
  have h1 : ¬ ((i : Int) < 0) := by omega
  have h2 : ¬ ((j : Int) < 0) := by omega
  have h3 : ¬ (cap < j) := by omega
  have h4 : ¬ (j < i) := by omega
  simp [Instr.slice, Instr.sliceBounds, Instr.sliceBound, run_underlying Try.underlying22, asIntOf, runSizeU8, cutA, h1, h2, h3, h4, hi, hj]

theorem run_cut1s (a : Option Addr) (n cap i : Nat) (hi : i ≤ n) (W : World) :
    (Instr.slice 22 (.slice a n cap) (some (.int .i64 i)) none none).run Try.prog W = .ok (.slice (cutA a cap i) (n - i) (cap - i)) W := by
  have h1 : ¬ ((i : Int) < 0) := by omega
  have h4 : ¬ (n < i) := by omega
  simp [Instr.slice, Instr.sliceBounds, Instr.sliceBound, run_underlying Try.underlying22, asIntOf, runSizeU8, cutA, h1, h4, hi]

theorem run_cut0s (a : Option Addr) (n cap j : Nat) (hj : j ≤ cap) (W : World) :
    (Instr.slice 22 (.slice a n cap) none (some (.int .i64 j)) none).run Try.prog W = .ok (.slice (cutA a cap 0) j cap) W := by
  have h2 : ¬ ((j : Int) < 0) := by omega
  have h3 : ¬ (cap < j) := by omega
  simp [Instr.slice, Instr.sliceBounds, Instr.sliceBound, run_underlying Try.underlying22, asIntOf, runSizeU8, cutA, h2, h3, hj]

theorem Bs.cut {w : World} {a : Option Addr} {cap : Nat} {b : List UInt8} (h : Bs w (.slice a b.length cap) b) (i j : Nat) (hi : i ≤ j) (hj : j ≤ b.length) : Bs w (.slice (cutA a cap i) (j - i) (cap - i)) ((b.drop i).take (j - i)) := by
  obtain ⟨a', cap', he, hc, hm⟩ := h.form
  simp only [Value.slice.injEq, true_and] at he
  obtain ⟨rfl, rfl⟩ := he
  have hna : a = Option.none → cap = 0 := by
    obtain ⟨_, _, a', c', he, _, _, h5, _⟩ := h
    simp only [Value.slice.injEq, true_and] at he
    obtain ⟨rfl, rfl⟩ := he
    exact h5
  by_cases hz : j - i = 0
  · rw [hz, List.take_zero]
    refine Bs.none _ _ _ (fun e => ?_) (by omega)
    unfold cutA at e
    split at e
    · have := hna e; omega
    · cases a with
      | none => have := hna rfl; omega
      | some x => simp at e
  · obtain ⟨bb, off, rfl, _⟩ := h.addr (by rw [bCells_length]; omega)
    have h1 := Sl.mid h (off := i) (n := j - i) (cap := cap - i) (by omega) (by omega) (by omega)
    have he : cutA (some ⟨bb, off, Option.none⟩) cap i = some ⟨bb, off + i, Option.none⟩ := by
      unfold cutA
      rw [if_neg (by omega)]
      simp [Addr.add_lit]
    rw [he]
    exact h1.bs rfl (by simp; omega)
end Go.Proofs.Ytogfkfoklnpfhaa
