/- Contracts of the document's sha (compeerref03): limbs. -/
import Derived.Test.YtdmjliehobgknaaSha
namespace Go.Proofs.Ytdmjliehobgknaa
set_option linter.unusedSimpArgs false
set_option linter.unusedVariables false
open Go.RowKit

/-- Numbers, in cells. -/
def dCells (l : List Nat) : List Value := l.map fun x : Nat => .int .u64 (x : Int)
theorem dCells_length (l : List Nat) : (dCells l).length = l.length := by simp [dCells]
theorem dCells_get (l : List Nat) (k : Nat) (h : k < l.length) : (dCells l)[k]? = some (.int .u64 (l[k] : Int)) := by simp [dCells, h]
theorem dCells_one (l : List Nat) : ∀ u ∈ dCells l, u.oneCell' = true := by
  intro u hu
  obtain ⟨x, _, rfl⟩ := List.mem_map.1 hu
  rfl
theorem dCells_append (a b : List Nat) : dCells (a ++ b) = dCells a ++ dCells b := by simp [dCells]
theorem dCells_set (l : List Nat) (k x : Nat) : (dCells l).set k (.int .u64 (x : Int)) = dCells (l.set k x) := by simp [dCells, List.map_set]

def Ds (w : World) (v : Value) (l : List Nat) : Prop := Sl w 1 v l.length (dCells l)

theorem refAt_any (v : Value) (l : List Nat) (k : Nat) (w : World) (h : Ds w v l) :
    Calls Try.prog 68 #[v, .int .i64 k] w fun e w' => e = .returned (.int .u64 (l.getD k 0 : Nat)) ∧ w = w' := by
  obtain ⟨a, cap, rfl, hcap, hcm⟩ := h.form
  unfold maxLen at hcm
  by_cases hk : k < l.length
  · obtain ⟨b, off, rfl, hc⟩ := h.addr (by rw [dCells_length]; omega)
    have c0 : w.cell? ⟨b, off + k, none⟩ = some (.int .u64 (l[k] : Int)) := hc k _ (dCells_get l k hk)
    have hg : l.getD k 0 = l[k] := by simp [List.getD, hk]
    have HG := Lib.hid hg
    clear h hc hg
    go_enter Try.func68, Try.ntmps68
    go_wp2_with fail
    go_ret
    rw [HG.out]
    exact ⟨rfl, rfl⟩
  · have hg : l.getD k 0 = 0 := by simp [List.getD, List.getElem?_eq_none (Nat.le_of_not_lt hk)]
    have HG := Lib.hid hg
    clear h hg
    go_enter Try.func68, Try.ntmps68
    go_wp2_with fail
    go_ret
    rw [HG.out]
    exact ⟨rfl, rfl⟩

theorem elNums : Elem Try.prog 73 44 1 8 (.int .u64 0) := by
  refine Elem.mk Try.underlying73 ?_ rfl (by decide)
  kernel_rfl

/-- A product, limb by limb: so many limbs of the second number. -/
def mulIn (a b : List Nat) (i : Nat) (out : List Nat) : Nat → List Nat
  | 0 => out
  | j + 1 => let o := mulIn a b i out j; o.set (i + j) ((o.getD (i + j) 0 + a.getD i 0 * b.getD j 0) % 18446744073709551616)
def mulOut (a b : List Nat) : Nat → List Nat
  | 0 => List.replicate (a.length + b.length) 0
  | i + 1 => mulIn a b i (mulOut a b i) b.length
/-- What is carried on: over so many limbs. -/
def carry (out : List Nat) : Nat → List Nat
  | 0 => out
  | k + 1 => let o := carry out k; (o.set (k + 1) ((o.getD (k + 1) 0 + o.getD k 0 / 262144) % 18446744073709551616)).set k (o.getD k 0 % 262144)
def timesB (a b : List Nat) : List Nat := carry (mulOut a b a.length) (a.length + b.length - 1)

/-- Held against one another from the highest limb on: so many limbs. -/
def aboveAux (p q : List Nat) : Nat → Bool
  | 0 => false
  | m + 1 => if p.getD m 0 = q.getD m 0 then aboveAux p q m else decide (q.getD m 0 < p.getD m 0)
/-- Is a number's third power above another one, times 2^96? -/
def limbsB (y : Nat) : List Nat := [y % 262144, y / 262144]
def aboveB (y n : Nat) : Bool := aboveAux (timesB (timesB (limbsB y) (limbsB y)) (limbsB y)) [0, 0, 0, 0, 0, n * 64 % 262144, n * 64 / 262144] 9

/-- The greatest number whose third power is not above: so many bits are left. -/
def cubeAux (n : Nat) : Nat → Nat → Nat
  | 0, x => x
  | m + 1, x => cubeAux n m (if aboveB (x + 2 ^ m) n then x else x + 2 ^ m)
def cubeB (n : Nat) : Nat := cubeAux n 36 0 % 4294967296

/-- The first primes. -/
def primesL : List Nat := [2, 3, 5, 7, 11, 13, 17, 19, 23, 29, 31, 37, 41, 43, 47, 53, 59, 61, 67, 71, 73, 79, 83, 89, 97, 101, 103, 107, 109, 113, 127, 131, 137, 139, 149, 151, 157, 163, 167, 173, 179, 181, 191, 193, 197, 199, 211, 223, 227, 229, 233, 239, 241, 251, 257, 263, 269, 271, 277, 281, 283, 293, 307, 311]
end Go.Proofs.Ytdmjliehobgknaa
