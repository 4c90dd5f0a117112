/- Bytes: cells, slices that read as bytes (no type of a program but uint8). -/
import Derived.Test.YtclonbojpcgngaaProg
import Derived.Test.YtclonbojpcgngaaBase
import Derived.Outline
namespace Go.Proofs.Ytclonbojpcgngaa
set_option linter.unusedSimpArgs false
set_option linter.unusedVariables false
open Go.RowKit

/-- A byte, as a cell. -/
def bV (x : UInt8) : Value := .int .u8 x.toNat
def bCells (l : List UInt8) : List Value := l.map bV

/-- A slice value that reads as bytes. -/
def Bs (w : World) (v : Value) (l : List UInt8) : Prop := Sl w 1 v l.length (bCells l)
/-- Bytes of the call's own. -/
def OwnBs (w : World) (B : Nat) (v : Value) (l : List UInt8) : Prop := Own w B 5 1 v l.length (bCells l)

theorem bV_ofNat (x : Nat) (h : x < 256) : bV (UInt8.ofNat x) = .int .u8 x := by
  simp only [bV, UInt8.toNat_ofNat']
  rw [Nat.mod_eq_of_lt (by simpa using h)]

theorem bCells_length (l : List UInt8) : (bCells l).length = l.length := by simp [bCells]
theorem bCells_append (a b : List UInt8) : bCells (a ++ b) = bCells a ++ bCells b := by simp [bCells]
theorem bCells_one (l : List UInt8) : ∀ u ∈ bCells l, u.oneCell' = true := by
  intro u hu
  obtain ⟨x, _, rfl⟩ := List.mem_map.1 hu
  rfl
theorem bCells_get (l : List UInt8) (k : Nat) (h : k < l.length) : (bCells l)[k]? = some (bV l[k]) := by simp [bCells, h]

theorem Blk.own {w : World} {b B : Nat} {cs : List Value} {T : TypeId} (h : Blk w b cs T) (hb : B ≤ b) (h1 : ∀ u ∈ cs, u.oneCell' = true) (hm : cs.length ≤ maxLen) : Own w B T 1 (.slice (some ⟨b, 0, none⟩) cs.length cs.length) cs.length cs :=
  ⟨by omega, h1, .inr ⟨b, cs.length, cs.toArray, rfl, hb, h, Nat.le_refl _, hm, by simp, by simp⟩⟩

end Go.Proofs.Ytclonbojpcgngaa
