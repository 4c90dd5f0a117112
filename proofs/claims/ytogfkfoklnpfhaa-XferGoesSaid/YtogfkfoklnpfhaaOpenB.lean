/- Arguments of bytes and of numbers, from what the statement hands in. -/
import Derived.Test.YtogfkfoklnpfhaaOpen
import Derived.Test.YtogfkfoklnpfhaaBytes
import Derived.OpenShut
namespace Go.Proofs.Ytogfkfoklnpfhaa
set_option linter.unusedSimpArgs false
set_option linter.unusedVariables false
open Go.ChangeShapes Go.WideShapes Go.RowKit Go.OpenShut
variable {H : Type} {enc : TypeId × Value → H} {w : World} {base : Nat} {spare : Nat → Bool} {held : Bool}

theorem byte_of_wf {n : Int} (h : (Lit.int .u8 n).wf = true) : ∃ x : UInt8, (Value.int .u8 n) = bV x := by
  have h := bounds_u8 h
  refine ⟨UInt8.ofNat n.toNat, ?_⟩
  rw [bV, UInt8.toNat_ofNat']
  congr 1
  omega

theorem nat_of_wf {n : Int} (h : (Lit.int .u64 n).wf = true) : ∃ m : Nat, n = m ∧ m < 18446744073709551616 := by
  have h := bounds_u64 h
  exact ⟨n.toNat, by omega, by omega⟩

theorem flat_bV : ∀ l : List UInt8, (l.map fun x => [bV x]).flatten = bCells l
  | [] => rfl
  | x :: l => by rw [List.map_cons, List.flatten_cons, flat_bV l]; rfl

set_option maxRecDepth 100000 in
theorem open_bytes {v : Value} {d : DataW H} {ps : List MemPlace} {r : Reach} {b0 : Nat} (hval : Value.okWide Try.prog w r b0 22 v)
    (h : DataW.Trod enc Try.prog w base spare held 22 v d ps) : ∃ l, Bs w v l := by
  have hf : flatTy Try.prog 4 5 = some [5] := by kernel_rfl
  obtain ⟨n, xs, hn, hx, hs⟩ := open_elems Try.underlying22 hf (by kernel_rfl) (by decide) (okWide_slice Try.underlying22 hval) h
  obtain ⟨l, rfl⟩ := exists_map (fun x : UInt8 => [bV x]) xs (fun x hxm => by
    obtain ⟨c0, x, rfl, k0, hL⟩ := (hx x hxm).cons
    obtain rfl := hL.nil
    obtain ⟨y0, rfl, hw⟩ := k0.int Try.underlying5
    obtain ⟨z, hz⟩ := byte_of_wf hw
    exact ⟨z, by rw [hz]⟩)
  refine ⟨l, ?_⟩
  rw [flat_bV] at hs
  rw [List.length_map] at hn
  subst hn
  exact hs
end Go.Proofs.Ytogfkfoklnpfhaa
