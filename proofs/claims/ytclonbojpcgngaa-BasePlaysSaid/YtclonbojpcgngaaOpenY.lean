/- Bytes and numbers as cells, from what the statement hands in. -/
import Derived.Test.YtclonbojpcgngaaOpen
import Derived.Test.YtclonbojpcgngaaByteC
import Derived.OpenShut
namespace Go.Proofs.Ytclonbojpcgngaa
set_option linter.unusedSimpArgs false
set_option linter.unusedVariables false
open Go.ChangeShapes Go.WideShapes Go.RowKit Go.OpenShut
variable {H : Type} {enc : TypeId × Value → H} {w : World} {base : Nat} {spare : Nat → Bool} {held : Bool}

theorem byte_of_wf {n : Int} (h : (Lit.int .u8 n).wf = true) : ∃ x : UInt8, (Value.int .u8 n) = bV x := by
  have h := bounds_u8 h
  refine ⟨UInt8.ofNat n.toNat, ?_⟩
  rw [bV, UInt8.toNat_ofNat']
  congr 1
  omega

theorem nat_of_wf {n : Int} (h : (Lit.int .u64 n).wf = true) : ∃ m : Nat, n = m ∧ m < 18446744073709551616 := by
  have h := bounds_u64 h
  exact ⟨n.toNat, by omega, by omega⟩

theorem flat_bV : ∀ l : List UInt8, (l.map fun x => [bV x]).flatten = bCells l
  | [] => rfl
  | x :: l => by rw [List.map_cons, List.flatten_cons, flat_bV l]; rfl

theorem leaves_bytes {n : Nat} : ∀ {cs : List Value}, Leaves enc Try.prog w base spare held (List.replicate n 5) cs → ∃ l : List UInt8, cs = bCells l ∧ l.length = n := by
  induction n with
  | zero =>
    intro cs h
    obtain rfl := h.nil
    exact ⟨[], rfl, rfl⟩
  | succ n ih =>
    intro cs h
    rw [List.replicate_succ] at h
    obtain ⟨c, cs', rfl, hc, h'⟩ := h.cons
    obtain ⟨l, rfl, hl⟩ := ih h'
    obtain ⟨y, rfl, hw⟩ := hc.int Try.underlying5
    obtain ⟨x, hx⟩ := byte_of_wf hw
    exact ⟨x :: l, by rw [hx]; rfl, by simp [hl]⟩
end Go.Proofs.Ytclonbojpcgngaa
