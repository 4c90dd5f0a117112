/- Texts of this proof, one behind the other: MTo, MRef4, MMsgO. -/
import Derived.Test.YtofmkkcbfeadgaaRpA8
import Derived.Deep.DeepCutAuto
import Derived.Deep.CutBlock
namespace Go.Proofs.Ytofmkkcbfeadgaa
set_option linter.unusedSimpArgs false
set_option linter.unusedVariables false
open Go.RowKit
def strOf : Pt → List UInt8
  | .s l => l
  | _ => []
def kdcB : List UInt8 := [107, 100, 99]
/-- For whom a message is. -/
def toM (t : Int) (pts : List Pt) : List UInt8 := if t = 11 ∨ t = 13 ∨ t = 20 then kdcB else if 15 ≤ t ∧ t ≤ 19 then strOf (pts.getD 1 (.n 0)) else strOf (pts.getD 0 (.n 0))
def ToRes (w : World) (l : List UInt8) (e : Ending) (w' : World) : Prop := e = .returned (.string (tx l)) ∧ Below w.heap.size w w'
set_option maxHeartbeats 1000000 in
set_option maxRecDepth 100000 in
theorem msgTo_11 (y1 : List UInt8) (y2 : Int) (y3 : Int) (a4 : Option Addr) (n4 c4 : Nat) (w : World) : Calls Try.prog 22 #[.iface 82 (.agg #[.string (tx y1), .int .i64 y2, .int .i64 y3, .slice a4 n4 c4])] w (ToRes w kdcB) := by
  obtain ⟨z12, hta12⟩ := tan 91 82 (.agg #[.string (tx y1), .int .i64 y2, .int .i64 y3, .slice a4 n4 c4]) zero_12 (by kernel_rfl) (by decide)
  obtain ⟨z13, hta13⟩ := tan 87 82 (.agg #[.string (tx y1), .int .i64 y2, .int .i64 y3, .slice a4 n4 c4]) zero_13 (by kernel_rfl) (by decide)
  obtain ⟨z14, hta14⟩ := tan 92 82 (.agg #[.string (tx y1), .int .i64 y2, .int .i64 y3, .slice a4 n4 c4]) zero_14 (by kernel_rfl) (by decide)
  obtain ⟨z15, hta15⟩ := tan 54 82 (.agg #[.string (tx y1), .int .i64 y2, .int .i64 y3, .slice a4 n4 c4]) zero_15 (by kernel_rfl) (by decide)
  obtain ⟨z16, hta16⟩ := tan 94 82 (.agg #[.string (tx y1), .int .i64 y2, .int .i64 y3, .slice a4 n4 c4]) zero_16 (by kernel_rfl) (by decide)
  obtain ⟨z17, hta17⟩ := tan 96 82 (.agg #[.string (tx y1), .int .i64 y2, .int .i64 y3, .slice a4 n4 c4]) zero_17 (by kernel_rfl) (by decide)
  obtain ⟨z18, hta18⟩ := tan 98 82 (.agg #[.string (tx y1), .int .i64 y2, .int .i64 y3, .slice a4 n4 c4]) zero_18 (by kernel_rfl) (by decide)
  obtain ⟨z19, hta19⟩ := tan 100 82 (.agg #[.string (tx y1), .int .i64 y2, .int .i64 y3, .slice a4 n4 c4]) zero_19 (by kernel_rfl) (by decide)
  obtain ⟨z20, hta20⟩ := tan 89 82 (.agg #[.string (tx y1), .int .i64 y2, .int .i64 y3, .slice a4 n4 c4]) zero_20 (by kernel_rfl) (by decide)
  obtain ⟨z21, hta21⟩ := tan 102 82 (.agg #[.string (tx y1), .int .i64 y2, .int .i64 y3, .slice a4 n4 c4]) zero_21 (by kernel_rfl) (by decide)
  obtain ⟨z22, hta22⟩ := tan 104 82 (.agg #[.string (tx y1), .int .i64 y2, .int .i64 y3, .slice a4 n4 c4]) zero_22 (by kernel_rfl) (by decide)
  have hta : ∀ W, (Instr.typeAssert (.iface 82 (.agg #[.string (tx y1), .int .i64 y2, .int .i64 y3, .slice a4 n4 c4])) 20 82 true).run Try.prog W = .ok (.tuple #[.agg #[.string (tx y1), .int .i64 y2, .int .i64 y3, .slice a4 n4 c4], .bool true]) W := fun W => ta_is _ _ _ (by kernel_rfl) W
  go_enter Try.func22, Try.ntmps22
  go_wp2_with fail
  go_ret
  exact ⟨rfl, Below.refl _ _⟩
set_option maxHeartbeats 1000000 in
set_option maxRecDepth 100000 in
theorem msgTo_12 (y1 : List UInt8) (y2 : List UInt8) (a2 : Option Addr) (n2 c2 : Nat) (a3 : Option Addr) (n3 c3 : Nat) (w : World) : Calls Try.prog 22 #[.iface 91 (.agg #[.string (tx y1), .string (tx y2), .slice a2 n2 c2, .slice a3 n3 c3])] w (ToRes w y1) := by
  obtain ⟨z11, hta11⟩ := tan 82 91 (.agg #[.string (tx y1), .string (tx y2), .slice a2 n2 c2, .slice a3 n3 c3]) zero_11 (by kernel_rfl) (by decide)
  obtain ⟨z13, hta13⟩ := tan 87 91 (.agg #[.string (tx y1), .string (tx y2), .slice a2 n2 c2, .slice a3 n3 c3]) zero_13 (by kernel_rfl) (by decide)
  obtain ⟨z14, hta14⟩ := tan 92 91 (.agg #[.string (tx y1), .string (tx y2), .slice a2 n2 c2, .slice a3 n3 c3]) zero_14 (by kernel_rfl) (by decide)
  obtain ⟨z15, hta15⟩ := tan 54 91 (.agg #[.string (tx y1), .string (tx y2), .slice a2 n2 c2, .slice a3 n3 c3]) zero_15 (by kernel_rfl) (by decide)
  obtain ⟨z16, hta16⟩ := tan 94 91 (.agg #[.string (tx y1), .string (tx y2), .slice a2 n2 c2, .slice a3 n3 c3]) zero_16 (by kernel_rfl) (by decide)
  obtain ⟨z17, hta17⟩ := tan 96 91 (.agg #[.string (tx y1), .string (tx y2), .slice a2 n2 c2, .slice a3 n3 c3]) zero_17 (by kernel_rfl) (by decide)
  obtain ⟨z18, hta18⟩ := tan 98 91 (.agg #[.string (tx y1), .string (tx y2), .slice a2 n2 c2, .slice a3 n3 c3]) zero_18 (by kernel_rfl) (by decide)
  obtain ⟨z19, hta19⟩ := tan 100 91 (.agg #[.string (tx y1), .string (tx y2), .slice a2 n2 c2, .slice a3 n3 c3]) zero_19 (by kernel_rfl) (by decide)
  obtain ⟨z20, hta20⟩ := tan 89 91 (.agg #[.string (tx y1), .string (tx y2), .slice a2 n2 c2, .slice a3 n3 c3]) zero_20 (by kernel_rfl) (by decide)
  obtain ⟨z21, hta21⟩ := tan 102 91 (.agg #[.string (tx y1), .string (tx y2), .slice a2 n2 c2, .slice a3 n3 c3]) zero_21 (by kernel_rfl) (by decide)
  obtain ⟨z22, hta22⟩ := tan 104 91 (.agg #[.string (tx y1), .string (tx y2), .slice a2 n2 c2, .slice a3 n3 c3]) zero_22 (by kernel_rfl) (by decide)
  have hta : ∀ W, (Instr.typeAssert (.iface 91 (.agg #[.string (tx y1), .string (tx y2), .slice a2 n2 c2, .slice a3 n3 c3])) 20 91 true).run Try.prog W = .ok (.tuple #[.agg #[.string (tx y1), .string (tx y2), .slice a2 n2 c2, .slice a3 n3 c3], .bool true]) W := fun W => ta_is _ _ _ (by kernel_rfl) W
  go_enter Try.func22, Try.ntmps22
  go_wp2_with fail
  go_ret
  exact ⟨rfl, (Below.refl _ _).alloc (Nat.le_refl _) _⟩
set_option maxHeartbeats 1000000 in
set_option maxRecDepth 100000 in
theorem msgTo_13 (y1 : List UInt8) (y2 : Int) (y3 : Int) (y4 : Bool) (y5 : Bool) (y6 : List UInt8) (a6 : Option Addr) (n6 c6 : Nat) (a7 : Option Addr) (n7 c7 : Nat) (a8 : Option Addr) (n8 c8 : Nat) (w : World) : Calls Try.prog 22 #[.iface 87 (.agg #[.string (tx y1), .int .i64 y2, .int .i64 y3, .bool y4, .bool y5, .string (tx y6), .slice a6 n6 c6, .slice a7 n7 c7, .slice a8 n8 c8])] w (ToRes w kdcB) := by
  obtain ⟨z11, hta11⟩ := tan 82 87 (.agg #[.string (tx y1), .int .i64 y2, .int .i64 y3, .bool y4, .bool y5, .string (tx y6), .slice a6 n6 c6, .slice a7 n7 c7, .slice a8 n8 c8]) zero_11 (by kernel_rfl) (by decide)
  obtain ⟨z12, hta12⟩ := tan 91 87 (.agg #[.string (tx y1), .int .i64 y2, .int .i64 y3, .bool y4, .bool y5, .string (tx y6), .slice a6 n6 c6, .slice a7 n7 c7, .slice a8 n8 c8]) zero_12 (by kernel_rfl) (by decide)
  obtain ⟨z14, hta14⟩ := tan 92 87 (.agg #[.string (tx y1), .int .i64 y2, .int .i64 y3, .bool y4, .bool y5, .string (tx y6), .slice a6 n6 c6, .slice a7 n7 c7, .slice a8 n8 c8]) zero_14 (by kernel_rfl) (by decide)
  obtain ⟨z15, hta15⟩ := tan 54 87 (.agg #[.string (tx y1), .int .i64 y2, .int .i64 y3, .bool y4, .bool y5, .string (tx y6), .slice a6 n6 c6, .slice a7 n7 c7, .slice a8 n8 c8]) zero_15 (by kernel_rfl) (by decide)
  obtain ⟨z16, hta16⟩ := tan 94 87 (.agg #[.string (tx y1), .int .i64 y2, .int .i64 y3, .bool y4, .bool y5, .string (tx y6), .slice a6 n6 c6, .slice a7 n7 c7, .slice a8 n8 c8]) zero_16 (by kernel_rfl) (by decide)
  obtain ⟨z17, hta17⟩ := tan 96 87 (.agg #[.string (tx y1), .int .i64 y2, .int .i64 y3, .bool y4, .bool y5, .string (tx y6), .slice a6 n6 c6, .slice a7 n7 c7, .slice a8 n8 c8]) zero_17 (by kernel_rfl) (by decide)
  obtain ⟨z18, hta18⟩ := tan 98 87 (.agg #[.string (tx y1), .int .i64 y2, .int .i64 y3, .bool y4, .bool y5, .string (tx y6), .slice a6 n6 c6, .slice a7 n7 c7, .slice a8 n8 c8]) zero_18 (by kernel_rfl) (by decide)
  obtain ⟨z19, hta19⟩ := tan 100 87 (.agg #[.string (tx y1), .int .i64 y2, .int .i64 y3, .bool y4, .bool y5, .string (tx y6), .slice a6 n6 c6, .slice a7 n7 c7, .slice a8 n8 c8]) zero_19 (by kernel_rfl) (by decide)
  obtain ⟨z20, hta20⟩ := tan 89 87 (.agg #[.string (tx y1), .int .i64 y2, .int .i64 y3, .bool y4, .bool y5, .string (tx y6), .slice a6 n6 c6, .slice a7 n7 c7, .slice a8 n8 c8]) zero_20 (by kernel_rfl) (by decide)
  obtain ⟨z21, hta21⟩ := tan 102 87 (.agg #[.string (tx y1), .int .i64 y2, .int .i64 y3, .bool y4, .bool y5, .string (tx y6), .slice a6 n6 c6, .slice a7 n7 c7, .slice a8 n8 c8]) zero_21 (by kernel_rfl) (by decide)
  obtain ⟨z22, hta22⟩ := tan 104 87 (.agg #[.string (tx y1), .int .i64 y2, .int .i64 y3, .bool y4, .bool y5, .string (tx y6), .slice a6 n6 c6, .slice a7 n7 c7, .slice a8 n8 c8]) zero_22 (by kernel_rfl) (by decide)
  have hta : ∀ W, (Instr.typeAssert (.iface 87 (.agg #[.string (tx y1), .int .i64 y2, .int .i64 y3, .bool y4, .bool y5, .string (tx y6), .slice a6 n6 c6, .slice a7 n7 c7, .slice a8 n8 c8])) 20 87 true).run Try.prog W = .ok (.tuple #[.agg #[.string (tx y1), .int .i64 y2, .int .i64 y3, .bool y4, .bool y5, .string (tx y6), .slice a6 n6 c6, .slice a7 n7 c7, .slice a8 n8 c8], .bool true]) W := fun W => ta_is _ _ _ (by kernel_rfl) W
  go_enter Try.func22, Try.ntmps22
  go_wp2_with fail
  go_ret
  exact ⟨rfl, Below.refl _ _⟩
set_option maxHeartbeats 1000000 in
set_option maxRecDepth 100000 in
theorem msgTo_14 (y1 : List UInt8) (y2 : List UInt8) (a2 : Option Addr) (n2 c2 : Nat) (a3 : Option Addr) (n3 c3 : Nat) (w : World) : Calls Try.prog 22 #[.iface 92 (.agg #[.string (tx y1), .string (tx y2), .slice a2 n2 c2, .slice a3 n3 c3])] w (ToRes w y1) := by
  obtain ⟨z11, hta11⟩ := tan 82 92 (.agg #[.string (tx y1), .string (tx y2), .slice a2 n2 c2, .slice a3 n3 c3]) zero_11 (by kernel_rfl) (by decide)
  obtain ⟨z12, hta12⟩ := tan 91 92 (.agg #[.string (tx y1), .string (tx y2), .slice a2 n2 c2, .slice a3 n3 c3]) zero_12 (by kernel_rfl) (by decide)
  obtain ⟨z13, hta13⟩ := tan 87 92 (.agg #[.string (tx y1), .string (tx y2), .slice a2 n2 c2, .slice a3 n3 c3]) zero_13 (by kernel_rfl) (by decide)
  obtain ⟨z15, hta15⟩ := tan 54 92 (.agg #[.string (tx y1), .string (tx y2), .slice a2 n2 c2, .slice a3 n3 c3]) zero_15 (by kernel_rfl) (by decide)
  obtain ⟨z16, hta16⟩ := tan 94 92 (.agg #[.string (tx y1), .string (tx y2), .slice a2 n2 c2, .slice a3 n3 c3]) zero_16 (by kernel_rfl) (by decide)
  obtain ⟨z17, hta17⟩ := tan 96 92 (.agg #[.string (tx y1), .string (tx y2), .slice a2 n2 c2, .slice a3 n3 c3]) zero_17 (by kernel_rfl) (by decide)
  obtain ⟨z18, hta18⟩ := tan 98 92 (.agg #[.string (tx y1), .string (tx y2), .slice a2 n2 c2, .slice a3 n3 c3]) zero_18 (by kernel_rfl) (by decide)
  obtain ⟨z19, hta19⟩ := tan 100 92 (.agg #[.string (tx y1), .string (tx y2), .slice a2 n2 c2, .slice a3 n3 c3]) zero_19 (by kernel_rfl) (by decide)
  obtain ⟨z20, hta20⟩ := tan 89 92 (.agg #[.string (tx y1), .string (tx y2), .slice a2 n2 c2, .slice a3 n3 c3]) zero_20 (by kernel_rfl) (by decide)
  obtain ⟨z21, hta21⟩ := tan 102 92 (.agg #[.string (tx y1), .string (tx y2), .slice a2 n2 c2, .slice a3 n3 c3]) zero_21 (by kernel_rfl) (by decide)
  obtain ⟨z22, hta22⟩ := tan 104 92 (.agg #[.string (tx y1), .string (tx y2), .slice a2 n2 c2, .slice a3 n3 c3]) zero_22 (by kernel_rfl) (by decide)
  have hta : ∀ W, (Instr.typeAssert (.iface 92 (.agg #[.string (tx y1), .string (tx y2), .slice a2 n2 c2, .slice a3 n3 c3])) 20 92 true).run Try.prog W = .ok (.tuple #[.agg #[.string (tx y1), .string (tx y2), .slice a2 n2 c2, .slice a3 n3 c3], .bool true]) W := fun W => ta_is _ _ _ (by kernel_rfl) W
  go_enter Try.func22, Try.ntmps22
  go_wp2_with fail
  go_ret
  exact ⟨rfl, (Below.refl _ _).alloc (Nat.le_refl _) _⟩
set_option maxHeartbeats 1000000 in
set_option maxRecDepth 100000 in
theorem msgTo_15 (y1 : List UInt8) (y2 : List UInt8) (y3 : Int) (w : World) : Calls Try.prog 22 #[.iface 54 (.agg #[.string (tx y1), .string (tx y2), .int .i64 y3])] w (ToRes w y2) := by
  obtain ⟨z11, hta11⟩ := tan 82 54 (.agg #[.string (tx y1), .string (tx y2), .int .i64 y3]) zero_11 (by kernel_rfl) (by decide)
  obtain ⟨z12, hta12⟩ := tan 91 54 (.agg #[.string (tx y1), .string (tx y2), .int .i64 y3]) zero_12 (by kernel_rfl) (by decide)
  obtain ⟨z13, hta13⟩ := tan 87 54 (.agg #[.string (tx y1), .string (tx y2), .int .i64 y3]) zero_13 (by kernel_rfl) (by decide)
  obtain ⟨z14, hta14⟩ := tan 92 54 (.agg #[.string (tx y1), .string (tx y2), .int .i64 y3]) zero_14 (by kernel_rfl) (by decide)
  obtain ⟨z16, hta16⟩ := tan 94 54 (.agg #[.string (tx y1), .string (tx y2), .int .i64 y3]) zero_16 (by kernel_rfl) (by decide)
  obtain ⟨z17, hta17⟩ := tan 96 54 (.agg #[.string (tx y1), .string (tx y2), .int .i64 y3]) zero_17 (by kernel_rfl) (by decide)
  obtain ⟨z18, hta18⟩ := tan 98 54 (.agg #[.string (tx y1), .string (tx y2), .int .i64 y3]) zero_18 (by kernel_rfl) (by decide)
  obtain ⟨z19, hta19⟩ := tan 100 54 (.agg #[.string (tx y1), .string (tx y2), .int .i64 y3]) zero_19 (by kernel_rfl) (by decide)
  obtain ⟨z20, hta20⟩ := tan 89 54 (.agg #[.string (tx y1), .string (tx y2), .int .i64 y3]) zero_20 (by kernel_rfl) (by decide)
  obtain ⟨z21, hta21⟩ := tan 102 54 (.agg #[.string (tx y1), .string (tx y2), .int .i64 y3]) zero_21 (by kernel_rfl) (by decide)
  obtain ⟨z22, hta22⟩ := tan 104 54 (.agg #[.string (tx y1), .string (tx y2), .int .i64 y3]) zero_22 (by kernel_rfl) (by decide)
  have hta : ∀ W, (Instr.typeAssert (.iface 54 (.agg #[.string (tx y1), .string (tx y2), .int .i64 y3])) 20 54 true).run Try.prog W = .ok (.tuple #[.agg #[.string (tx y1), .string (tx y2), .int .i64 y3], .bool true]) W := fun W => ta_is _ _ _ (by kernel_rfl) W
  go_enter Try.func22, Try.ntmps22
  go_wp2_with fail
  go_ret
  exact ⟨rfl, (Below.refl _ _).alloc (Nat.le_refl _) _⟩
set_option maxHeartbeats 1000000 in
set_option maxRecDepth 100000 in
theorem msgTo_16 (y1 : List UInt8) (y2 : List UInt8) (y3 : Int) (y4 : List UInt8) (a4 : Option Addr) (n4 c4 : Nat) (w : World) : Calls Try.prog 22 #[.iface 94 (.agg #[.string (tx y1), .string (tx y2), .int .i64 y3, .string (tx y4), .slice a4 n4 c4])] w (ToRes w y2) := by
  obtain ⟨z11, hta11⟩ := tan 82 94 (.agg #[.string (tx y1), .string (tx y2), .int .i64 y3, .string (tx y4), .slice a4 n4 c4]) zero_11 (by kernel_rfl) (by decide)
  obtain ⟨z12, hta12⟩ := tan 91 94 (.agg #[.string (tx y1), .string (tx y2), .int .i64 y3, .string (tx y4), .slice a4 n4 c4]) zero_12 (by kernel_rfl) (by decide)
  obtain ⟨z13, hta13⟩ := tan 87 94 (.agg #[.string (tx y1), .string (tx y2), .int .i64 y3, .string (tx y4), .slice a4 n4 c4]) zero_13 (by kernel_rfl) (by decide)
  obtain ⟨z14, hta14⟩ := tan 92 94 (.agg #[.string (tx y1), .string (tx y2), .int .i64 y3, .string (tx y4), .slice a4 n4 c4]) zero_14 (by kernel_rfl) (by decide)
  obtain ⟨z15, hta15⟩ := tan 54 94 (.agg #[.string (tx y1), .string (tx y2), .int .i64 y3, .string (tx y4), .slice a4 n4 c4]) zero_15 (by kernel_rfl) (by decide)
  obtain ⟨z17, hta17⟩ := tan 96 94 (.agg #[.string (tx y1), .string (tx y2), .int .i64 y3, .string (tx y4), .slice a4 n4 c4]) zero_17 (by kernel_rfl) (by decide)
  obtain ⟨z18, hta18⟩ := tan 98 94 (.agg #[.string (tx y1), .string (tx y2), .int .i64 y3, .string (tx y4), .slice a4 n4 c4]) zero_18 (by kernel_rfl) (by decide)
  obtain ⟨z19, hta19⟩ := tan 100 94 (.agg #[.string (tx y1), .string (tx y2), .int .i64 y3, .string (tx y4), .slice a4 n4 c4]) zero_19 (by kernel_rfl) (by decide)
  obtain ⟨z20, hta20⟩ := tan 89 94 (.agg #[.string (tx y1), .string (tx y2), .int .i64 y3, .string (tx y4), .slice a4 n4 c4]) zero_20 (by kernel_rfl) (by decide)
  obtain ⟨z21, hta21⟩ := tan 102 94 (.agg #[.string (tx y1), .string (tx y2), .int .i64 y3, .string (tx y4), .slice a4 n4 c4]) zero_21 (by kernel_rfl) (by decide)
  obtain ⟨z22, hta22⟩ := tan 104 94 (.agg #[.string (tx y1), .string (tx y2), .int .i64 y3, .string (tx y4), .slice a4 n4 c4]) zero_22 (by kernel_rfl) (by decide)
  have hta : ∀ W, (Instr.typeAssert (.iface 94 (.agg #[.string (tx y1), .string (tx y2), .int .i64 y3, .string (tx y4), .slice a4 n4 c4])) 20 94 true).run Try.prog W = .ok (.tuple #[.agg #[.string (tx y1), .string (tx y2), .int .i64 y3, .string (tx y4), .slice a4 n4 c4], .bool true]) W := fun W => ta_is _ _ _ (by kernel_rfl) W
  go_enter Try.func22, Try.ntmps22
  go_wp2_with fail
  go_ret
  exact ⟨rfl, (Below.refl _ _).alloc (Nat.le_refl _) _⟩
set_option maxHeartbeats 1000000 in
set_option maxRecDepth 100000 in
theorem msgTo_17 (y1 : List UInt8) (y2 : List UInt8) (y3 : Int) (y4 : List UInt8) (a4 : Option Addr) (n4 c4 : Nat) (a5 : Option Addr) (n5 c5 : Nat) (w : World) : Calls Try.prog 22 #[.iface 96 (.agg #[.string (tx y1), .string (tx y2), .int .i64 y3, .string (tx y4), .slice a4 n4 c4, .slice a5 n5 c5])] w (ToRes w y2) := by
  obtain ⟨z11, hta11⟩ := tan 82 96 (.agg #[.string (tx y1), .string (tx y2), .int .i64 y3, .string (tx y4), .slice a4 n4 c4, .slice a5 n5 c5]) zero_11 (by kernel_rfl) (by decide)
  obtain ⟨z12, hta12⟩ := tan 91 96 (.agg #[.string (tx y1), .string (tx y2), .int .i64 y3, .string (tx y4), .slice a4 n4 c4, .slice a5 n5 c5]) zero_12 (by kernel_rfl) (by decide)
  obtain ⟨z13, hta13⟩ := tan 87 96 (.agg #[.string (tx y1), .string (tx y2), .int .i64 y3, .string (tx y4), .slice a4 n4 c4, .slice a5 n5 c5]) zero_13 (by kernel_rfl) (by decide)
  obtain ⟨z14, hta14⟩ := tan 92 96 (.agg #[.string (tx y1), .string (tx y2), .int .i64 y3, .string (tx y4), .slice a4 n4 c4, .slice a5 n5 c5]) zero_14 (by kernel_rfl) (by decide)
  obtain ⟨z15, hta15⟩ := tan 54 96 (.agg #[.string (tx y1), .string (tx y2), .int .i64 y3, .string (tx y4), .slice a4 n4 c4, .slice a5 n5 c5]) zero_15 (by kernel_rfl) (by decide)
  obtain ⟨z16, hta16⟩ := tan 94 96 (.agg #[.string (tx y1), .string (tx y2), .int .i64 y3, .string (tx y4), .slice a4 n4 c4, .slice a5 n5 c5]) zero_16 (by kernel_rfl) (by decide)
  obtain ⟨z18, hta18⟩ := tan 98 96 (.agg #[.string (tx y1), .string (tx y2), .int .i64 y3, .string (tx y4), .slice a4 n4 c4, .slice a5 n5 c5]) zero_18 (by kernel_rfl) (by decide)
  obtain ⟨z19, hta19⟩ := tan 100 96 (.agg #[.string (tx y1), .string (tx y2), .int .i64 y3, .string (tx y4), .slice a4 n4 c4, .slice a5 n5 c5]) zero_19 (by kernel_rfl) (by decide)
  obtain ⟨z20, hta20⟩ := tan 89 96 (.agg #[.string (tx y1), .string (tx y2), .int .i64 y3, .string (tx y4), .slice a4 n4 c4, .slice a5 n5 c5]) zero_20 (by kernel_rfl) (by decide)
  obtain ⟨z21, hta21⟩ := tan 102 96 (.agg #[.string (tx y1), .string (tx y2), .int .i64 y3, .string (tx y4), .slice a4 n4 c4, .slice a5 n5 c5]) zero_21 (by kernel_rfl) (by decide)
  obtain ⟨z22, hta22⟩ := tan 104 96 (.agg #[.string (tx y1), .string (tx y2), .int .i64 y3, .string (tx y4), .slice a4 n4 c4, .slice a5 n5 c5]) zero_22 (by kernel_rfl) (by decide)
  have hta : ∀ W, (Instr.typeAssert (.iface 96 (.agg #[.string (tx y1), .string (tx y2), .int .i64 y3, .string (tx y4), .slice a4 n4 c4, .slice a5 n5 c5])) 20 96 true).run Try.prog W = .ok (.tuple #[.agg #[.string (tx y1), .string (tx y2), .int .i64 y3, .string (tx y4), .slice a4 n4 c4, .slice a5 n5 c5], .bool true]) W := fun W => ta_is _ _ _ (by kernel_rfl) W
  go_enter Try.func22, Try.ntmps22
  go_wp2_with fail
  go_ret
  exact ⟨rfl, (Below.refl _ _).alloc (Nat.le_refl _) _⟩
set_option maxHeartbeats 1000000 in
set_option maxRecDepth 100000 in
theorem msgTo_18 (y1 : List UInt8) (y2 : List UInt8) (y3 : Int) (a4 : Option Addr) (n4 c4 : Nat) (w : World) : Calls Try.prog 22 #[.iface 98 (.agg #[.string (tx y1), .string (tx y2), .int .i64 y3, .slice a4 n4 c4])] w (ToRes w y2) := by
  obtain ⟨z11, hta11⟩ := tan 82 98 (.agg #[.string (tx y1), .string (tx y2), .int .i64 y3, .slice a4 n4 c4]) zero_11 (by kernel_rfl) (by decide)
  obtain ⟨z12, hta12⟩ := tan 91 98 (.agg #[.string (tx y1), .string (tx y2), .int .i64 y3, .slice a4 n4 c4]) zero_12 (by kernel_rfl) (by decide)
  obtain ⟨z13, hta13⟩ := tan 87 98 (.agg #[.string (tx y1), .string (tx y2), .int .i64 y3, .slice a4 n4 c4]) zero_13 (by kernel_rfl) (by decide)
  obtain ⟨z14, hta14⟩ := tan 92 98 (.agg #[.string (tx y1), .string (tx y2), .int .i64 y3, .slice a4 n4 c4]) zero_14 (by kernel_rfl) (by decide)
  obtain ⟨z15, hta15⟩ := tan 54 98 (.agg #[.string (tx y1), .string (tx y2), .int .i64 y3, .slice a4 n4 c4]) zero_15 (by kernel_rfl) (by decide)
  obtain ⟨z16, hta16⟩ := tan 94 98 (.agg #[.string (tx y1), .string (tx y2), .int .i64 y3, .slice a4 n4 c4]) zero_16 (by kernel_rfl) (by decide)
  obtain ⟨z17, hta17⟩ := tan 96 98 (.agg #[.string (tx y1), .string (tx y2), .int .i64 y3, .slice a4 n4 c4]) zero_17 (by kernel_rfl) (by decide)
  obtain ⟨z19, hta19⟩ := tan 100 98 (.agg #[.string (tx y1), .string (tx y2), .int .i64 y3, .slice a4 n4 c4]) zero_19 (by kernel_rfl) (by decide)
  obtain ⟨z20, hta20⟩ := tan 89 98 (.agg #[.string (tx y1), .string (tx y2), .int .i64 y3, .slice a4 n4 c4]) zero_20 (by kernel_rfl) (by decide)
  obtain ⟨z21, hta21⟩ := tan 102 98 (.agg #[.string (tx y1), .string (tx y2), .int .i64 y3, .slice a4 n4 c4]) zero_21 (by kernel_rfl) (by decide)
  obtain ⟨z22, hta22⟩ := tan 104 98 (.agg #[.string (tx y1), .string (tx y2), .int .i64 y3, .slice a4 n4 c4]) zero_22 (by kernel_rfl) (by decide)
  have hta : ∀ W, (Instr.typeAssert (.iface 98 (.agg #[.string (tx y1), .string (tx y2), .int .i64 y3, .slice a4 n4 c4])) 20 98 true).run Try.prog W = .ok (.tuple #[.agg #[.string (tx y1), .string (tx y2), .int .i64 y3, .slice a4 n4 c4], .bool true]) W := fun W => ta_is _ _ _ (by kernel_rfl) W
  go_enter Try.func22, Try.ntmps22
  go_wp2_with fail
  go_ret
  exact ⟨rfl, (Below.refl _ _).alloc (Nat.le_refl _) _⟩
set_option maxHeartbeats 1000000 in
set_option maxRecDepth 100000 in
theorem msgTo_19 (y1 : List UInt8) (y2 : List UInt8) (y3 : Int) (y4 : Int) (y5 : Int) (a6 : Option Addr) (n6 c6 : Nat) (w : World) : Calls Try.prog 22 #[.iface 100 (.agg #[.string (tx y1), .string (tx y2), .int .i64 y3, .int .i64 y4, .int .i64 y5, .slice a6 n6 c6])] w (ToRes w y2) := by
  obtain ⟨z11, hta11⟩ := tan 82 100 (.agg #[.string (tx y1), .string (tx y2), .int .i64 y3, .int .i64 y4, .int .i64 y5, .slice a6 n6 c6]) zero_11 (by kernel_rfl) (by decide)
  obtain ⟨z12, hta12⟩ := tan 91 100 (.agg #[.string (tx y1), .string (tx y2), .int .i64 y3, .int .i64 y4, .int .i64 y5, .slice a6 n6 c6]) zero_12 (by kernel_rfl) (by decide)
  obtain ⟨z13, hta13⟩ := tan 87 100 (.agg #[.string (tx y1), .string (tx y2), .int .i64 y3, .int .i64 y4, .int .i64 y5, .slice a6 n6 c6]) zero_13 (by kernel_rfl) (by decide)
  obtain ⟨z14, hta14⟩ := tan 92 100 (.agg #[.string (tx y1), .string (tx y2), .int .i64 y3, .int .i64 y4, .int .i64 y5, .slice a6 n6 c6]) zero_14 (by kernel_rfl) (by decide)
  obtain ⟨z15, hta15⟩ := tan 54 100 (.agg #[.string (tx y1), .string (tx y2), .int .i64 y3, .int .i64 y4, .int .i64 y5, .slice a6 n6 c6]) zero_15 (by kernel_rfl) (by decide)
  obtain ⟨z16, hta16⟩ := tan 94 100 (.agg #[.string (tx y1), .string (tx y2), .int .i64 y3, .int .i64 y4, .int .i64 y5, .slice a6 n6 c6]) zero_16 (by kernel_rfl) (by decide)
  obtain ⟨z17, hta17⟩ := tan 96 100 (.agg #[.string (tx y1), .string (tx y2), .int .i64 y3, .int .i64 y4, .int .i64 y5, .slice a6 n6 c6]) zero_17 (by kernel_rfl) (by decide)
  obtain ⟨z18, hta18⟩ := tan 98 100 (.agg #[.string (tx y1), .string (tx y2), .int .i64 y3, .int .i64 y4, .int .i64 y5, .slice a6 n6 c6]) zero_18 (by kernel_rfl) (by decide)
  obtain ⟨z20, hta20⟩ := tan 89 100 (.agg #[.string (tx y1), .string (tx y2), .int .i64 y3, .int .i64 y4, .int .i64 y5, .slice a6 n6 c6]) zero_20 (by kernel_rfl) (by decide)
  obtain ⟨z21, hta21⟩ := tan 102 100 (.agg #[.string (tx y1), .string (tx y2), .int .i64 y3, .int .i64 y4, .int .i64 y5, .slice a6 n6 c6]) zero_21 (by kernel_rfl) (by decide)
  obtain ⟨z22, hta22⟩ := tan 104 100 (.agg #[.string (tx y1), .string (tx y2), .int .i64 y3, .int .i64 y4, .int .i64 y5, .slice a6 n6 c6]) zero_22 (by kernel_rfl) (by decide)
  have hta : ∀ W, (Instr.typeAssert (.iface 100 (.agg #[.string (tx y1), .string (tx y2), .int .i64 y3, .int .i64 y4, .int .i64 y5, .slice a6 n6 c6])) 20 100 true).run Try.prog W = .ok (.tuple #[.agg #[.string (tx y1), .string (tx y2), .int .i64 y3, .int .i64 y4, .int .i64 y5, .slice a6 n6 c6], .bool true]) W := fun W => ta_is _ _ _ (by kernel_rfl) W
  go_enter Try.func22, Try.ntmps22
  go_wp2_with fail
  go_ret
  exact ⟨rfl, (Below.refl _ _).alloc (Nat.le_refl _) _⟩
set_option maxHeartbeats 1000000 in
set_option maxRecDepth 100000 in
theorem msgTo_20 (y1 : List UInt8) (y2 : Int) (y3 : Int) (y4 : Bool) (y5 : List UInt8) (a5 : Option Addr) (n5 c5 : Nat) (a6 : Option Addr) (n6 c6 : Nat) (w : World) : Calls Try.prog 22 #[.iface 89 (.agg #[.string (tx y1), .int .i64 y2, .int .i64 y3, .bool y4, .string (tx y5), .slice a5 n5 c5, .slice a6 n6 c6])] w (ToRes w kdcB) := by
  obtain ⟨z11, hta11⟩ := tan 82 89 (.agg #[.string (tx y1), .int .i64 y2, .int .i64 y3, .bool y4, .string (tx y5), .slice a5 n5 c5, .slice a6 n6 c6]) zero_11 (by kernel_rfl) (by decide)
  obtain ⟨z12, hta12⟩ := tan 91 89 (.agg #[.string (tx y1), .int .i64 y2, .int .i64 y3, .bool y4, .string (tx y5), .slice a5 n5 c5, .slice a6 n6 c6]) zero_12 (by kernel_rfl) (by decide)
  obtain ⟨z13, hta13⟩ := tan 87 89 (.agg #[.string (tx y1), .int .i64 y2, .int .i64 y3, .bool y4, .string (tx y5), .slice a5 n5 c5, .slice a6 n6 c6]) zero_13 (by kernel_rfl) (by decide)
  obtain ⟨z14, hta14⟩ := tan 92 89 (.agg #[.string (tx y1), .int .i64 y2, .int .i64 y3, .bool y4, .string (tx y5), .slice a5 n5 c5, .slice a6 n6 c6]) zero_14 (by kernel_rfl) (by decide)
  obtain ⟨z15, hta15⟩ := tan 54 89 (.agg #[.string (tx y1), .int .i64 y2, .int .i64 y3, .bool y4, .string (tx y5), .slice a5 n5 c5, .slice a6 n6 c6]) zero_15 (by kernel_rfl) (by decide)
  obtain ⟨z16, hta16⟩ := tan 94 89 (.agg #[.string (tx y1), .int .i64 y2, .int .i64 y3, .bool y4, .string (tx y5), .slice a5 n5 c5, .slice a6 n6 c6]) zero_16 (by kernel_rfl) (by decide)
  obtain ⟨z17, hta17⟩ := tan 96 89 (.agg #[.string (tx y1), .int .i64 y2, .int .i64 y3, .bool y4, .string (tx y5), .slice a5 n5 c5, .slice a6 n6 c6]) zero_17 (by kernel_rfl) (by decide)
  obtain ⟨z18, hta18⟩ := tan 98 89 (.agg #[.string (tx y1), .int .i64 y2, .int .i64 y3, .bool y4, .string (tx y5), .slice a5 n5 c5, .slice a6 n6 c6]) zero_18 (by kernel_rfl) (by decide)
  obtain ⟨z19, hta19⟩ := tan 100 89 (.agg #[.string (tx y1), .int .i64 y2, .int .i64 y3, .bool y4, .string (tx y5), .slice a5 n5 c5, .slice a6 n6 c6]) zero_19 (by kernel_rfl) (by decide)
  obtain ⟨z21, hta21⟩ := tan 102 89 (.agg #[.string (tx y1), .int .i64 y2, .int .i64 y3, .bool y4, .string (tx y5), .slice a5 n5 c5, .slice a6 n6 c6]) zero_21 (by kernel_rfl) (by decide)
  obtain ⟨z22, hta22⟩ := tan 104 89 (.agg #[.string (tx y1), .int .i64 y2, .int .i64 y3, .bool y4, .string (tx y5), .slice a5 n5 c5, .slice a6 n6 c6]) zero_22 (by kernel_rfl) (by decide)
  have hta : ∀ W, (Instr.typeAssert (.iface 89 (.agg #[.string (tx y1), .int .i64 y2, .int .i64 y3, .bool y4, .string (tx y5), .slice a5 n5 c5, .slice a6 n6 c6])) 20 89 true).run Try.prog W = .ok (.tuple #[.agg #[.string (tx y1), .int .i64 y2, .int .i64 y3, .bool y4, .string (tx y5), .slice a5 n5 c5, .slice a6 n6 c6], .bool true]) W := fun W => ta_is _ _ _ (by kernel_rfl) W
  go_enter Try.func22, Try.ntmps22
  go_wp2_with fail
  go_ret
  exact ⟨rfl, Below.refl _ _⟩
set_option maxHeartbeats 1000000 in
set_option maxRecDepth 100000 in
theorem msgTo_21 (y1 : List UInt8) (a2 : Option Addr) (n2 c2 : Nat) (w : World) : Calls Try.prog 22 #[.iface 102 (.agg #[.string (tx y1), .slice a2 n2 c2])] w (ToRes w y1) := by
  obtain ⟨z11, hta11⟩ := tan 82 102 (.agg #[.string (tx y1), .slice a2 n2 c2]) zero_11 (by kernel_rfl) (by decide)
  obtain ⟨z12, hta12⟩ := tan 91 102 (.agg #[.string (tx y1), .slice a2 n2 c2]) zero_12 (by kernel_rfl) (by decide)
  obtain ⟨z13, hta13⟩ := tan 87 102 (.agg #[.string (tx y1), .slice a2 n2 c2]) zero_13 (by kernel_rfl) (by decide)
  obtain ⟨z14, hta14⟩ := tan 92 102 (.agg #[.string (tx y1), .slice a2 n2 c2]) zero_14 (by kernel_rfl) (by decide)
  obtain ⟨z15, hta15⟩ := tan 54 102 (.agg #[.string (tx y1), .slice a2 n2 c2]) zero_15 (by kernel_rfl) (by decide)
  obtain ⟨z16, hta16⟩ := tan 94 102 (.agg #[.string (tx y1), .slice a2 n2 c2]) zero_16 (by kernel_rfl) (by decide)
  obtain ⟨z17, hta17⟩ := tan 96 102 (.agg #[.string (tx y1), .slice a2 n2 c2]) zero_17 (by kernel_rfl) (by decide)
  obtain ⟨z18, hta18⟩ := tan 98 102 (.agg #[.string (tx y1), .slice a2 n2 c2]) zero_18 (by kernel_rfl) (by decide)
  obtain ⟨z19, hta19⟩ := tan 100 102 (.agg #[.string (tx y1), .slice a2 n2 c2]) zero_19 (by kernel_rfl) (by decide)
  obtain ⟨z20, hta20⟩ := tan 89 102 (.agg #[.string (tx y1), .slice a2 n2 c2]) zero_20 (by kernel_rfl) (by decide)
  obtain ⟨z22, hta22⟩ := tan 104 102 (.agg #[.string (tx y1), .slice a2 n2 c2]) zero_22 (by kernel_rfl) (by decide)
  have hta : ∀ W, (Instr.typeAssert (.iface 102 (.agg #[.string (tx y1), .slice a2 n2 c2])) 20 102 true).run Try.prog W = .ok (.tuple #[.agg #[.string (tx y1), .slice a2 n2 c2], .bool true]) W := fun W => ta_is _ _ _ (by kernel_rfl) W
  go_enter Try.func22, Try.ntmps22
  go_wp2_with fail
  go_ret
  exact ⟨rfl, (Below.refl _ _).alloc (Nat.le_refl _) _⟩
set_option maxHeartbeats 1000000 in
set_option maxRecDepth 100000 in
theorem msgTo_22 (y1 : List UInt8) (y2 : Int) (y3 : Int) (w : World) : Calls Try.prog 22 #[.iface 104 (.agg #[.string (tx y1), .int .i64 y2, .int .i64 y3])] w (ToRes w y1) := by
  obtain ⟨z11, hta11⟩ := tan 82 104 (.agg #[.string (tx y1), .int .i64 y2, .int .i64 y3]) zero_11 (by kernel_rfl) (by decide)
  obtain ⟨z12, hta12⟩ := tan 91 104 (.agg #[.string (tx y1), .int .i64 y2, .int .i64 y3]) zero_12 (by kernel_rfl) (by decide)
  obtain ⟨z13, hta13⟩ := tan 87 104 (.agg #[.string (tx y1), .int .i64 y2, .int .i64 y3]) zero_13 (by kernel_rfl) (by decide)
  obtain ⟨z14, hta14⟩ := tan 92 104 (.agg #[.string (tx y1), .int .i64 y2, .int .i64 y3]) zero_14 (by kernel_rfl) (by decide)
  obtain ⟨z15, hta15⟩ := tan 54 104 (.agg #[.string (tx y1), .int .i64 y2, .int .i64 y3]) zero_15 (by kernel_rfl) (by decide)
  obtain ⟨z16, hta16⟩ := tan 94 104 (.agg #[.string (tx y1), .int .i64 y2, .int .i64 y3]) zero_16 (by kernel_rfl) (by decide)
  obtain ⟨z17, hta17⟩ := tan 96 104 (.agg #[.string (tx y1), .int .i64 y2, .int .i64 y3]) zero_17 (by kernel_rfl) (by decide)
  obtain ⟨z18, hta18⟩ := tan 98 104 (.agg #[.string (tx y1), .int .i64 y2, .int .i64 y3]) zero_18 (by kernel_rfl) (by decide)
  obtain ⟨z19, hta19⟩ := tan 100 104 (.agg #[.string (tx y1), .int .i64 y2, .int .i64 y3]) zero_19 (by kernel_rfl) (by decide)
  obtain ⟨z20, hta20⟩ := tan 89 104 (.agg #[.string (tx y1), .int .i64 y2, .int .i64 y3]) zero_20 (by kernel_rfl) (by decide)
  obtain ⟨z21, hta21⟩ := tan 102 104 (.agg #[.string (tx y1), .int .i64 y2, .int .i64 y3]) zero_21 (by kernel_rfl) (by decide)
  have hta : ∀ W, (Instr.typeAssert (.iface 104 (.agg #[.string (tx y1), .int .i64 y2, .int .i64 y3])) 20 104 true).run Try.prog W = .ok (.tuple #[.agg #[.string (tx y1), .int .i64 y2, .int .i64 y3], .bool true]) W := fun W => ta_is _ _ _ (by kernel_rfl) W
  go_enter Try.func22, Try.ntmps22
  go_wp2_with fail
  go_ret
  exact ⟨rfl, (Below.refl _ _).alloc (Nat.le_refl _) _⟩
theorem msgTo_any (t : Int) (pts : List Pt) (F : Nat → Prop) (v : Value) (w : World) (hk : pts.map kdOf = shapeS t) (hne : (shapeS t).isEmpty = false) (hv : MsgV w F t pts v) :
    Calls Try.prog 22 #[v] w (ToRes w (toM t pts)) := by
  obtain ⟨ht1, ht2⟩ := shape_tag hne
  rcases (by omega : t = 11 ∨ t = 12 ∨ t = 13 ∨ t = 14 ∨ t = 15 ∨ t = 16 ∨ t = 17 ∨ t = 18 ∨ t = 19 ∨ t = 20 ∨ t = 21 ∨ t = 22) with rfl | rfl | rfl | rfl | rfl | rfl | rfl | rfl | rfl | rfl | rfl | rfl
  · have k0 : pts.map kdOf = [.s, .n, .n, .b] := hk
    clear hk
    obtain ⟨p1, r1, rfl, e1, k1⟩ := map_cons_ex k0
    obtain ⟨y1, rfl⟩ := kd_s e1
    obtain ⟨p2, r2, rfl, e2, k2⟩ := map_cons_ex k1
    obtain ⟨y2, rfl⟩ := kd_n e2
    obtain ⟨p3, r3, rfl, e3, k3⟩ := map_cons_ex k2
    obtain ⟨y3, rfl⟩ := kd_n e3
    obtain ⟨p4, r4, rfl, e4, k4⟩ := map_cons_ex k3
    obtain ⟨y4, rfl⟩ := kd_b e4
    obtain rfl := map_nil_ex k4
    obtain ⟨cs, rfl, hp⟩ := hv
    obtain ⟨a1, b1, rfl, g1, hp⟩ := hp
    obtain rfl := g1
    obtain ⟨a2, b2, rfl, g2, hp⟩ := hp
    obtain rfl := g2
    obtain ⟨a3, b3, rfl, g3, hp⟩ := hp
    obtain rfl := g3
    obtain ⟨a4, b4, rfl, g4, hp⟩ := hp
    obtain ⟨v4, rfl, hb4, ho4⟩ := g4
    obtain rfl : _ = [] := hp
    obtain ⟨q4, u4, rfl, _⟩ := hb4.form
    exact msgTo_11 y1 y2 y3 q4 y4.length u4 w
  · have k0 : pts.map kdOf = [.s, .i, .b] := hk
    clear hk
    obtain ⟨p1, r1, rfl, e1, k1⟩ := map_cons_ex k0
    obtain ⟨y1, rfl⟩ := kd_s e1
    obtain ⟨p2, r2, rfl, e2, k2⟩ := map_cons_ex k1
    obtain ⟨y2, rfl⟩ := kd_i e2
    obtain ⟨p3, r3, rfl, e3, k3⟩ := map_cons_ex k2
    obtain ⟨y3, rfl⟩ := kd_b e3
    obtain rfl := map_nil_ex k3
    obtain ⟨cs, rfl, hp⟩ := hv
    obtain ⟨a1, b1, rfl, g1, hp⟩ := hp
    obtain rfl := g1
    obtain ⟨a2, b2, rfl, g2, hp⟩ := hp
    obtain ⟨v2, rfl, hb2, ho2⟩ := g2
    obtain ⟨a3, b3, rfl, g3, hp⟩ := hp
    obtain ⟨v3, rfl, hb3, ho3⟩ := g3
    obtain rfl : _ = [] := hp
    obtain ⟨q2, u2, rfl, _⟩ := hb2.form
    obtain ⟨q3, u3, rfl, _⟩ := hb3.form
    exact msgTo_12 y1 y2.1 q2 y2.2.length u2 q3 y3.length u3 w
  · have k0 : pts.map kdOf = [.s, .n, .n, .t, .t, .i, .b, .x] := hk
    clear hk
    obtain ⟨p1, r1, rfl, e1, k1⟩ := map_cons_ex k0
    obtain ⟨y1, rfl⟩ := kd_s e1
    obtain ⟨p2, r2, rfl, e2, k2⟩ := map_cons_ex k1
    obtain ⟨y2, rfl⟩ := kd_n e2
    obtain ⟨p3, r3, rfl, e3, k3⟩ := map_cons_ex k2
    obtain ⟨y3, rfl⟩ := kd_n e3
    obtain ⟨p4, r4, rfl, e4, k4⟩ := map_cons_ex k3
    obtain ⟨y4, rfl⟩ := kd_t e4
    obtain ⟨p5, r5, rfl, e5, k5⟩ := map_cons_ex k4
    obtain ⟨y5, rfl⟩ := kd_t e5
    obtain ⟨p6, r6, rfl, e6, k6⟩ := map_cons_ex k5
    obtain ⟨y6, rfl⟩ := kd_i e6
    obtain ⟨p7, r7, rfl, e7, k7⟩ := map_cons_ex k6
    obtain ⟨y7, rfl⟩ := kd_b e7
    obtain ⟨p8, r8, rfl, e8, k8⟩ := map_cons_ex k7
    obtain ⟨y8, rfl⟩ := kd_x e8
    obtain rfl := map_nil_ex k8
    obtain ⟨cs, rfl, hp⟩ := hv
    obtain ⟨a1, b1, rfl, g1, hp⟩ := hp
    obtain rfl := g1
    obtain ⟨a2, b2, rfl, g2, hp⟩ := hp
    obtain rfl := g2
    obtain ⟨a3, b3, rfl, g3, hp⟩ := hp
    obtain rfl := g3
    obtain ⟨a4, b4, rfl, g4, hp⟩ := hp
    obtain rfl := g4
    obtain ⟨a5, b5, rfl, g5, hp⟩ := hp
    obtain rfl := g5
    obtain ⟨a6, b6, rfl, g6, hp⟩ := hp
    obtain ⟨v6, rfl, hb6, ho6⟩ := g6
    obtain ⟨a7, b7, rfl, g7, hp⟩ := hp
    obtain ⟨v7, rfl, hb7, ho7⟩ := g7
    obtain ⟨a8, b8, rfl, g8, hp⟩ := hp
    obtain ⟨v8, rfl, hb8⟩ := g8
    obtain rfl : _ = [] := hp
    obtain ⟨q6, u6, rfl, _⟩ := hb6.form
    obtain ⟨q7, u7, rfl, _⟩ := hb7.form
    obtain ⟨rows, hx1, hx2⟩ := hb8
    obtain ⟨q8, u8, rfl, _⟩ := hx1.form
    exact msgTo_13 y1 y2 y3 y4 y5 y6.1 q6 y6.2.length u6 q7 y7.length u7 q8 y8.length u8 w
  · have k0 : pts.map kdOf = [.s, .i, .b] := hk
    clear hk
    obtain ⟨p1, r1, rfl, e1, k1⟩ := map_cons_ex k0
    obtain ⟨y1, rfl⟩ := kd_s e1
    obtain ⟨p2, r2, rfl, e2, k2⟩ := map_cons_ex k1
    obtain ⟨y2, rfl⟩ := kd_i e2
    obtain ⟨p3, r3, rfl, e3, k3⟩ := map_cons_ex k2
    obtain ⟨y3, rfl⟩ := kd_b e3
    obtain rfl := map_nil_ex k3
    obtain ⟨cs, rfl, hp⟩ := hv
    obtain ⟨a1, b1, rfl, g1, hp⟩ := hp
    obtain rfl := g1
    obtain ⟨a2, b2, rfl, g2, hp⟩ := hp
    obtain ⟨v2, rfl, hb2, ho2⟩ := g2
    obtain ⟨a3, b3, rfl, g3, hp⟩ := hp
    obtain ⟨v3, rfl, hb3, ho3⟩ := g3
    obtain rfl : _ = [] := hp
    obtain ⟨q2, u2, rfl, _⟩ := hb2.form
    obtain ⟨q3, u3, rfl, _⟩ := hb3.form
    exact msgTo_14 y1 y2.1 q2 y2.2.length u2 q3 y3.length u3 w
  · have k0 : pts.map kdOf = [.s, .s, .n] := hk
    clear hk
    obtain ⟨p1, r1, rfl, e1, k1⟩ := map_cons_ex k0
    obtain ⟨y1, rfl⟩ := kd_s e1
    obtain ⟨p2, r2, rfl, e2, k2⟩ := map_cons_ex k1
    obtain ⟨y2, rfl⟩ := kd_s e2
    obtain ⟨p3, r3, rfl, e3, k3⟩ := map_cons_ex k2
    obtain ⟨y3, rfl⟩ := kd_n e3
    obtain rfl := map_nil_ex k3
    obtain ⟨cs, rfl, hp⟩ := hv
    obtain ⟨a1, b1, rfl, g1, hp⟩ := hp
    obtain rfl := g1
    obtain ⟨a2, b2, rfl, g2, hp⟩ := hp
    obtain rfl := g2
    obtain ⟨a3, b3, rfl, g3, hp⟩ := hp
    obtain rfl := g3
    obtain rfl : _ = [] := hp
    exact msgTo_15 y1 y2 y3 w
  · have k0 : pts.map kdOf = [.s, .s, .n, .i] := hk
    clear hk
    obtain ⟨p1, r1, rfl, e1, k1⟩ := map_cons_ex k0
    obtain ⟨y1, rfl⟩ := kd_s e1
    obtain ⟨p2, r2, rfl, e2, k2⟩ := map_cons_ex k1
    obtain ⟨y2, rfl⟩ := kd_s e2
    obtain ⟨p3, r3, rfl, e3, k3⟩ := map_cons_ex k2
    obtain ⟨y3, rfl⟩ := kd_n e3
    obtain ⟨p4, r4, rfl, e4, k4⟩ := map_cons_ex k3
    obtain ⟨y4, rfl⟩ := kd_i e4
    obtain rfl := map_nil_ex k4
    obtain ⟨cs, rfl, hp⟩ := hv
    obtain ⟨a1, b1, rfl, g1, hp⟩ := hp
    obtain rfl := g1
    obtain ⟨a2, b2, rfl, g2, hp⟩ := hp
    obtain rfl := g2
    obtain ⟨a3, b3, rfl, g3, hp⟩ := hp
    obtain rfl := g3
    obtain ⟨a4, b4, rfl, g4, hp⟩ := hp
    obtain ⟨v4, rfl, hb4, ho4⟩ := g4
    obtain rfl : _ = [] := hp
    obtain ⟨q4, u4, rfl, _⟩ := hb4.form
    exact msgTo_16 y1 y2 y3 y4.1 q4 y4.2.length u4 w
  · have k0 : pts.map kdOf = [.s, .s, .n, .i, .b] := hk
    clear hk
    obtain ⟨p1, r1, rfl, e1, k1⟩ := map_cons_ex k0
    obtain ⟨y1, rfl⟩ := kd_s e1
    obtain ⟨p2, r2, rfl, e2, k2⟩ := map_cons_ex k1
    obtain ⟨y2, rfl⟩ := kd_s e2
    obtain ⟨p3, r3, rfl, e3, k3⟩ := map_cons_ex k2
    obtain ⟨y3, rfl⟩ := kd_n e3
    obtain ⟨p4, r4, rfl, e4, k4⟩ := map_cons_ex k3
    obtain ⟨y4, rfl⟩ := kd_i e4
    obtain ⟨p5, r5, rfl, e5, k5⟩ := map_cons_ex k4
    obtain ⟨y5, rfl⟩ := kd_b e5
    obtain rfl := map_nil_ex k5
    obtain ⟨cs, rfl, hp⟩ := hv
    obtain ⟨a1, b1, rfl, g1, hp⟩ := hp
    obtain rfl := g1
    obtain ⟨a2, b2, rfl, g2, hp⟩ := hp
    obtain rfl := g2
    obtain ⟨a3, b3, rfl, g3, hp⟩ := hp
    obtain rfl := g3
    obtain ⟨a4, b4, rfl, g4, hp⟩ := hp
    obtain ⟨v4, rfl, hb4, ho4⟩ := g4
    obtain ⟨a5, b5, rfl, g5, hp⟩ := hp
    obtain ⟨v5, rfl, hb5, ho5⟩ := g5
    obtain rfl : _ = [] := hp
    obtain ⟨q4, u4, rfl, _⟩ := hb4.form
    obtain ⟨q5, u5, rfl, _⟩ := hb5.form
    exact msgTo_17 y1 y2 y3 y4.1 q4 y4.2.length u4 q5 y5.length u5 w
  · have k0 : pts.map kdOf = [.s, .s, .n, .b] := hk
    clear hk
    obtain ⟨p1, r1, rfl, e1, k1⟩ := map_cons_ex k0
    obtain ⟨y1, rfl⟩ := kd_s e1
    obtain ⟨p2, r2, rfl, e2, k2⟩ := map_cons_ex k1
    obtain ⟨y2, rfl⟩ := kd_s e2
    obtain ⟨p3, r3, rfl, e3, k3⟩ := map_cons_ex k2
    obtain ⟨y3, rfl⟩ := kd_n e3
    obtain ⟨p4, r4, rfl, e4, k4⟩ := map_cons_ex k3
    obtain ⟨y4, rfl⟩ := kd_b e4
    obtain rfl := map_nil_ex k4
    obtain ⟨cs, rfl, hp⟩ := hv
    obtain ⟨a1, b1, rfl, g1, hp⟩ := hp
    obtain rfl := g1
    obtain ⟨a2, b2, rfl, g2, hp⟩ := hp
    obtain rfl := g2
    obtain ⟨a3, b3, rfl, g3, hp⟩ := hp
    obtain rfl := g3
    obtain ⟨a4, b4, rfl, g4, hp⟩ := hp
    obtain ⟨v4, rfl, hb4, ho4⟩ := g4
    obtain rfl : _ = [] := hp
    obtain ⟨q4, u4, rfl, _⟩ := hb4.form
    exact msgTo_18 y1 y2 y3 q4 y4.length u4 w
  · have k0 : pts.map kdOf = [.s, .s, .n, .n, .n, .b] := hk
    clear hk
    obtain ⟨p1, r1, rfl, e1, k1⟩ := map_cons_ex k0
    obtain ⟨y1, rfl⟩ := kd_s e1
    obtain ⟨p2, r2, rfl, e2, k2⟩ := map_cons_ex k1
    obtain ⟨y2, rfl⟩ := kd_s e2
    obtain ⟨p3, r3, rfl, e3, k3⟩ := map_cons_ex k2
    obtain ⟨y3, rfl⟩ := kd_n e3
    obtain ⟨p4, r4, rfl, e4, k4⟩ := map_cons_ex k3
    obtain ⟨y4, rfl⟩ := kd_n e4
    obtain ⟨p5, r5, rfl, e5, k5⟩ := map_cons_ex k4
    obtain ⟨y5, rfl⟩ := kd_n e5
    obtain ⟨p6, r6, rfl, e6, k6⟩ := map_cons_ex k5
    obtain ⟨y6, rfl⟩ := kd_b e6
    obtain rfl := map_nil_ex k6
    obtain ⟨cs, rfl, hp⟩ := hv
    obtain ⟨a1, b1, rfl, g1, hp⟩ := hp
    obtain rfl := g1
    obtain ⟨a2, b2, rfl, g2, hp⟩ := hp
    obtain rfl := g2
    obtain ⟨a3, b3, rfl, g3, hp⟩ := hp
    obtain rfl := g3
    obtain ⟨a4, b4, rfl, g4, hp⟩ := hp
    obtain rfl := g4
    obtain ⟨a5, b5, rfl, g5, hp⟩ := hp
    obtain rfl := g5
    obtain ⟨a6, b6, rfl, g6, hp⟩ := hp
    obtain ⟨v6, rfl, hb6, ho6⟩ := g6
    obtain rfl : _ = [] := hp
    obtain ⟨q6, u6, rfl, _⟩ := hb6.form
    exact msgTo_19 y1 y2 y3 y4 y5 q6 y6.length u6 w
  · have k0 : pts.map kdOf = [.s, .n, .n, .t, .i, .b] := hk
    clear hk
    obtain ⟨p1, r1, rfl, e1, k1⟩ := map_cons_ex k0
    obtain ⟨y1, rfl⟩ := kd_s e1
    obtain ⟨p2, r2, rfl, e2, k2⟩ := map_cons_ex k1
    obtain ⟨y2, rfl⟩ := kd_n e2
    obtain ⟨p3, r3, rfl, e3, k3⟩ := map_cons_ex k2
    obtain ⟨y3, rfl⟩ := kd_n e3
    obtain ⟨p4, r4, rfl, e4, k4⟩ := map_cons_ex k3
    obtain ⟨y4, rfl⟩ := kd_t e4
    obtain ⟨p5, r5, rfl, e5, k5⟩ := map_cons_ex k4
    obtain ⟨y5, rfl⟩ := kd_i e5
    obtain ⟨p6, r6, rfl, e6, k6⟩ := map_cons_ex k5
    obtain ⟨y6, rfl⟩ := kd_b e6
    obtain rfl := map_nil_ex k6
    obtain ⟨cs, rfl, hp⟩ := hv
    obtain ⟨a1, b1, rfl, g1, hp⟩ := hp
    obtain rfl := g1
    obtain ⟨a2, b2, rfl, g2, hp⟩ := hp
    obtain rfl := g2
    obtain ⟨a3, b3, rfl, g3, hp⟩ := hp
    obtain rfl := g3
    obtain ⟨a4, b4, rfl, g4, hp⟩ := hp
    obtain rfl := g4
    obtain ⟨a5, b5, rfl, g5, hp⟩ := hp
    obtain ⟨v5, rfl, hb5, ho5⟩ := g5
    obtain ⟨a6, b6, rfl, g6, hp⟩ := hp
    obtain ⟨v6, rfl, hb6, ho6⟩ := g6
    obtain rfl : _ = [] := hp
    obtain ⟨q5, u5, rfl, _⟩ := hb5.form
    obtain ⟨q6, u6, rfl, _⟩ := hb6.form
    exact msgTo_20 y1 y2 y3 y4 y5.1 q5 y5.2.length u5 q6 y6.length u6 w
  · have k0 : pts.map kdOf = [.s, .b] := hk
    clear hk
    obtain ⟨p1, r1, rfl, e1, k1⟩ := map_cons_ex k0
    obtain ⟨y1, rfl⟩ := kd_s e1
    obtain ⟨p2, r2, rfl, e2, k2⟩ := map_cons_ex k1
    obtain ⟨y2, rfl⟩ := kd_b e2
    obtain rfl := map_nil_ex k2
    obtain ⟨cs, rfl, hp⟩ := hv
    obtain ⟨a1, b1, rfl, g1, hp⟩ := hp
    obtain rfl := g1
    obtain ⟨a2, b2, rfl, g2, hp⟩ := hp
    obtain ⟨v2, rfl, hb2, ho2⟩ := g2
    obtain rfl : _ = [] := hp
    obtain ⟨q2, u2, rfl, _⟩ := hb2.form
    exact msgTo_21 y1 q2 y2.length u2 w
  · have k0 : pts.map kdOf = [.s, .n, .n] := hk
    clear hk
    obtain ⟨p1, r1, rfl, e1, k1⟩ := map_cons_ex k0
    obtain ⟨y1, rfl⟩ := kd_s e1
    obtain ⟨p2, r2, rfl, e2, k2⟩ := map_cons_ex k1
    obtain ⟨y2, rfl⟩ := kd_n e2
    obtain ⟨p3, r3, rfl, e3, k3⟩ := map_cons_ex k2
    obtain ⟨y3, rfl⟩ := kd_n e3
    obtain rfl := map_nil_ex k3
    obtain ⟨cs, rfl, hp⟩ := hv
    obtain ⟨a1, b1, rfl, g1, hp⟩ := hp
    obtain rfl := g1
    obtain ⟨a2, b2, rfl, g2, hp⟩ := hp
    obtain rfl := g2
    obtain ⟨a3, b3, rfl, g3, hp⟩ := hp
    obtain rfl := g3
    obtain rfl : _ = [] := hp
    exact msgTo_22 y1 y2 y3 w
set_option maxHeartbeats 2000000 in
set_option maxRecDepth 100000 in
theorem refTo_11 (x : Tv) (F : Nat → Prop) (cs : List Value) (w : World) (h : TvF w F x cs) (ht : x.tag = 11) : Calls Try.prog 10 #[.agg cs.toArray] w (ToRes w kdcB) := by
  obtain ⟨bv, lv, rows, rfl, hb1, hb2, hb3, hb4, hb5⟩ := h.open_
  obtain ⟨al, cl, rfl, hcl, hml⟩ := hb3.form
  obtain ⟨ab, cb, rfl, hcb, hmb⟩ := hb1.form
  unfold maxLen at hml
  rw [ht]
  clear ht
  clear h hb1 hb2 hb3 hb4 hb5
  go_enter Try.func10, Try.ntmps10
  go_wp2_with fail
  go_ret
  exact ⟨rfl, (Below.refl _ _).alloc (Nat.le_refl _) _⟩
set_option maxHeartbeats 2000000 in
set_option maxRecDepth 100000 in
theorem refTo_12 (x : Tv) (F : Nat → Prop) (cs : List Value) (w : World) (h : TvF w F x cs) (ht : x.tag = 12) (l : List UInt8) (hj : 0 < x.l.length) (hl : x.l[0].b = l) : Calls Try.prog 10 #[.agg cs.toArray] w (ToRes w l) := by
  obtain ⟨bv, lv, rows, rfl, hb1, hb2, hb3, hb4, hb5⟩ := h.open_
  obtain ⟨al, cl, rfl, hcl, hml⟩ := hb3.form
  obtain ⟨ab, cb, rfl, hcb, hmb⟩ := hb1.form
  unfold maxLen at hml
  rw [ht]
  clear ht
  obtain ⟨q, hq⟩ : ∃ q, q = w.heap.size := ⟨_, rfl⟩
  obtain ⟨w1, hw1⟩ : ∃ w1, w1 = w.alloc (.cells #[.int .i64 x.kind, .int .i64 12, .int .u64 (x.n : Int), .slice ab x.b.length cb, .slice al x.l.length cl] 37) := ⟨_, rfl⟩
  have hb : Below w.heap.size w w1 := by rw [hw1]; exact (Below.refl _ _).alloc (Nat.le_refl _) _
  have HQ1 : Blk w1 q [.int .i64 x.kind, .int .i64 12, .int .u64 (x.n : Int), .slice ab x.b.length cb, .slice al x.l.length cl] 37 := by rw [hw1, hq]; exact Blk.new _ _ _
  have hq1 : w1.cell? ⟨q, 1, none⟩ = some (.int .i64 12) := HQ1.cell 1
  have hq4 : w1.cell? ⟨q, 4, none⟩ = some (.slice al x.l.length cl) := HQ1.cell 4
  have HB := hI hb
  obtain ⟨bl, ol, rfl, _⟩ := hb3.addr (by rw [hb3.1]; omega)
  obtain ⟨r, hr, hc⟩ := hb5.cells hb3 0 hj
  obtain ⟨bv2, lv2, rows2, rfl, g1, g2, g3, g4, g5⟩ := hr.open_
  have hl3 : w.cell? ⟨bl, ol + 3, none⟩ = some bv2 := hc 3 bv2 rfl
  have hl3 : w1.cell? ⟨bl, ol + 3, none⟩ = some bv2 := below_cell hb hl3
  have hbs := g1.below hb
  rw [hl] at hbs
  obtain ⟨a2, c2, rfl, _⟩ := hbs.form
  have hcv := run_convS w1 _ l hbs
  have hji : (0 : Int) < (x.l.length : Int) := by omega
  clear h hb1 hb2 hb3 hb4 hb5 hb HQ1 hr hc g1 g2 g3 g4 g5 hl hbs
  go_enter Try.func10, Try.ntmps10
  go_upto_region 1 with fail
  show Code.wp _ _ _ _ (w.alloc (.cells #[.int .i64 x.kind, .int .i64 12, .int .u64 (x.n : Int), .slice ab x.b.length cb, .slice (some ⟨bl, ol, none⟩) x.l.length cl] 37))
  rw [← hw1, ← hq]
  clear hw1 hq
  go_wp2_with fail
  go_ret
  exact ⟨rfl, HB.out⟩
set_option maxHeartbeats 2000000 in
set_option maxRecDepth 100000 in
theorem refTo_13 (x : Tv) (F : Nat → Prop) (cs : List Value) (w : World) (h : TvF w F x cs) (ht : x.tag = 13) : Calls Try.prog 10 #[.agg cs.toArray] w (ToRes w kdcB) := by
  obtain ⟨bv, lv, rows, rfl, hb1, hb2, hb3, hb4, hb5⟩ := h.open_
  obtain ⟨al, cl, rfl, hcl, hml⟩ := hb3.form
  obtain ⟨ab, cb, rfl, hcb, hmb⟩ := hb1.form
  unfold maxLen at hml
  rw [ht]
  clear ht
  clear h hb1 hb2 hb3 hb4 hb5
  go_enter Try.func10, Try.ntmps10
  go_wp2_with fail
  go_ret
  exact ⟨rfl, (Below.refl _ _).alloc (Nat.le_refl _) _⟩
set_option maxHeartbeats 2000000 in
set_option maxRecDepth 100000 in
theorem refTo_14 (x : Tv) (F : Nat → Prop) (cs : List Value) (w : World) (h : TvF w F x cs) (ht : x.tag = 14) (l : List UInt8) (hj : 0 < x.l.length) (hl : x.l[0].b = l) : Calls Try.prog 10 #[.agg cs.toArray] w (ToRes w l) := by
  obtain ⟨bv, lv, rows, rfl, hb1, hb2, hb3, hb4, hb5⟩ := h.open_
  obtain ⟨al, cl, rfl, hcl, hml⟩ := hb3.form
  obtain ⟨ab, cb, rfl, hcb, hmb⟩ := hb1.form
  unfold maxLen at hml
  rw [ht]
  clear ht
  obtain ⟨q, hq⟩ : ∃ q, q = w.heap.size := ⟨_, rfl⟩
  obtain ⟨w1, hw1⟩ : ∃ w1, w1 = w.alloc (.cells #[.int .i64 x.kind, .int .i64 14, .int .u64 (x.n : Int), .slice ab x.b.length cb, .slice al x.l.length cl] 37) := ⟨_, rfl⟩
  have hb : Below w.heap.size w w1 := by rw [hw1]; exact (Below.refl _ _).alloc (Nat.le_refl _) _
  have HQ1 : Blk w1 q [.int .i64 x.kind, .int .i64 14, .int .u64 (x.n : Int), .slice ab x.b.length cb, .slice al x.l.length cl] 37 := by rw [hw1, hq]; exact Blk.new _ _ _
  have hq1 : w1.cell? ⟨q, 1, none⟩ = some (.int .i64 14) := HQ1.cell 1
  have hq4 : w1.cell? ⟨q, 4, none⟩ = some (.slice al x.l.length cl) := HQ1.cell 4
  have HB := hI hb
  obtain ⟨bl, ol, rfl, _⟩ := hb3.addr (by rw [hb3.1]; omega)
  obtain ⟨r, hr, hc⟩ := hb5.cells hb3 0 hj
  obtain ⟨bv2, lv2, rows2, rfl, g1, g2, g3, g4, g5⟩ := hr.open_
  have hl3 : w.cell? ⟨bl, ol + 3, none⟩ = some bv2 := hc 3 bv2 rfl
  have hl3 : w1.cell? ⟨bl, ol + 3, none⟩ = some bv2 := below_cell hb hl3
  have hbs := g1.below hb
  rw [hl] at hbs
  obtain ⟨a2, c2, rfl, _⟩ := hbs.form
  have hcv := run_convS w1 _ l hbs
  have hji : (0 : Int) < (x.l.length : Int) := by omega
  clear h hb1 hb2 hb3 hb4 hb5 hb HQ1 hr hc g1 g2 g3 g4 g5 hl hbs
  go_enter Try.func10, Try.ntmps10
  go_upto_region 1 with fail
  show Code.wp _ _ _ _ (w.alloc (.cells #[.int .i64 x.kind, .int .i64 14, .int .u64 (x.n : Int), .slice ab x.b.length cb, .slice (some ⟨bl, ol, none⟩) x.l.length cl] 37))
  rw [← hw1, ← hq]
  clear hw1 hq
  go_wp2_with fail
  go_ret
  exact ⟨rfl, HB.out⟩
set_option maxHeartbeats 2000000 in
set_option maxRecDepth 100000 in
theorem refTo_15 (x : Tv) (F : Nat → Prop) (cs : List Value) (w : World) (h : TvF w F x cs) (ht : x.tag = 15) (l : List UInt8) (hj : 1 < x.l.length) (hl : x.l[1].b = l) : Calls Try.prog 10 #[.agg cs.toArray] w (ToRes w l) := by
  obtain ⟨bv, lv, rows, rfl, hb1, hb2, hb3, hb4, hb5⟩ := h.open_
  obtain ⟨al, cl, rfl, hcl, hml⟩ := hb3.form
  obtain ⟨ab, cb, rfl, hcb, hmb⟩ := hb1.form
  unfold maxLen at hml
  rw [ht]
  clear ht
  obtain ⟨q, hq⟩ : ∃ q, q = w.heap.size := ⟨_, rfl⟩
  obtain ⟨w1, hw1⟩ : ∃ w1, w1 = w.alloc (.cells #[.int .i64 x.kind, .int .i64 15, .int .u64 (x.n : Int), .slice ab x.b.length cb, .slice al x.l.length cl] 37) := ⟨_, rfl⟩
  have hb : Below w.heap.size w w1 := by rw [hw1]; exact (Below.refl _ _).alloc (Nat.le_refl _) _
  have HQ1 : Blk w1 q [.int .i64 x.kind, .int .i64 15, .int .u64 (x.n : Int), .slice ab x.b.length cb, .slice al x.l.length cl] 37 := by rw [hw1, hq]; exact Blk.new _ _ _
  have hq1 : w1.cell? ⟨q, 1, none⟩ = some (.int .i64 15) := HQ1.cell 1
  have hq4 : w1.cell? ⟨q, 4, none⟩ = some (.slice al x.l.length cl) := HQ1.cell 4
  have HB := hI hb
  obtain ⟨bl, ol, rfl, _⟩ := hb3.addr (by rw [hb3.1]; omega)
  obtain ⟨r, hr, hc⟩ := hb5.cells hb3 1 hj
  obtain ⟨bv2, lv2, rows2, rfl, g1, g2, g3, g4, g5⟩ := hr.open_
  have hl3 : w.cell? ⟨bl, ol + 8, none⟩ = some bv2 := hc 3 bv2 rfl
  have hl3 : w1.cell? ⟨bl, ol + 8, none⟩ = some bv2 := below_cell hb hl3
  have hbs := g1.below hb
  rw [hl] at hbs
  obtain ⟨a2, c2, rfl, _⟩ := hbs.form
  have hcv := run_convS w1 _ l hbs
  have hji : (1 : Int) < (x.l.length : Int) := by omega
  clear h hb1 hb2 hb3 hb4 hb5 hb HQ1 hr hc g1 g2 g3 g4 g5 hl hbs
  go_enter Try.func10, Try.ntmps10
  go_upto_region 1 with fail
  show Code.wp _ _ _ _ (w.alloc (.cells #[.int .i64 x.kind, .int .i64 15, .int .u64 (x.n : Int), .slice ab x.b.length cb, .slice (some ⟨bl, ol, none⟩) x.l.length cl] 37))
  rw [← hw1, ← hq]
  clear hw1 hq
  go_wp2_with fail
  go_ret
  exact ⟨rfl, HB.out⟩
set_option maxHeartbeats 2000000 in
set_option maxRecDepth 100000 in
theorem refTo_16 (x : Tv) (F : Nat → Prop) (cs : List Value) (w : World) (h : TvF w F x cs) (ht : x.tag = 16) (l : List UInt8) (hj : 1 < x.l.length) (hl : x.l[1].b = l) : Calls Try.prog 10 #[.agg cs.toArray] w (ToRes w l) := by
  obtain ⟨bv, lv, rows, rfl, hb1, hb2, hb3, hb4, hb5⟩ := h.open_
  obtain ⟨al, cl, rfl, hcl, hml⟩ := hb3.form
  obtain ⟨ab, cb, rfl, hcb, hmb⟩ := hb1.form
  unfold maxLen at hml
  rw [ht]
  clear ht
  obtain ⟨q, hq⟩ : ∃ q, q = w.heap.size := ⟨_, rfl⟩
  obtain ⟨w1, hw1⟩ : ∃ w1, w1 = w.alloc (.cells #[.int .i64 x.kind, .int .i64 16, .int .u64 (x.n : Int), .slice ab x.b.length cb, .slice al x.l.length cl] 37) := ⟨_, rfl⟩
  have hb : Below w.heap.size w w1 := by rw [hw1]; exact (Below.refl _ _).alloc (Nat.le_refl _) _
  have HQ1 : Blk w1 q [.int .i64 x.kind, .int .i64 16, .int .u64 (x.n : Int), .slice ab x.b.length cb, .slice al x.l.length cl] 37 := by rw [hw1, hq]; exact Blk.new _ _ _
  have hq1 : w1.cell? ⟨q, 1, none⟩ = some (.int .i64 16) := HQ1.cell 1
  have hq4 : w1.cell? ⟨q, 4, none⟩ = some (.slice al x.l.length cl) := HQ1.cell 4
  have HB := hI hb
  obtain ⟨bl, ol, rfl, _⟩ := hb3.addr (by rw [hb3.1]; omega)
  obtain ⟨r, hr, hc⟩ := hb5.cells hb3 1 hj
  obtain ⟨bv2, lv2, rows2, rfl, g1, g2, g3, g4, g5⟩ := hr.open_
  have hl3 : w.cell? ⟨bl, ol + 8, none⟩ = some bv2 := hc 3 bv2 rfl
  have hl3 : w1.cell? ⟨bl, ol + 8, none⟩ = some bv2 := below_cell hb hl3
  have hbs := g1.below hb
  rw [hl] at hbs
  obtain ⟨a2, c2, rfl, _⟩ := hbs.form
  have hcv := run_convS w1 _ l hbs
  have hji : (1 : Int) < (x.l.length : Int) := by omega
  clear h hb1 hb2 hb3 hb4 hb5 hb HQ1 hr hc g1 g2 g3 g4 g5 hl hbs
  go_enter Try.func10, Try.ntmps10
  go_upto_region 1 with fail
  show Code.wp _ _ _ _ (w.alloc (.cells #[.int .i64 x.kind, .int .i64 16, .int .u64 (x.n : Int), .slice ab x.b.length cb, .slice (some ⟨bl, ol, none⟩) x.l.length cl] 37))
  rw [← hw1, ← hq]
  clear hw1 hq
  go_wp2_with fail
  go_ret
  exact ⟨rfl, HB.out⟩
set_option maxHeartbeats 2000000 in
set_option maxRecDepth 100000 in
theorem refTo_17 (x : Tv) (F : Nat → Prop) (cs : List Value) (w : World) (h : TvF w F x cs) (ht : x.tag = 17) (l : List UInt8) (hj : 1 < x.l.length) (hl : x.l[1].b = l) : Calls Try.prog 10 #[.agg cs.toArray] w (ToRes w l) := by
  obtain ⟨bv, lv, rows, rfl, hb1, hb2, hb3, hb4, hb5⟩ := h.open_
  obtain ⟨al, cl, rfl, hcl, hml⟩ := hb3.form
  obtain ⟨ab, cb, rfl, hcb, hmb⟩ := hb1.form
  unfold maxLen at hml
  rw [ht]
  clear ht
  obtain ⟨q, hq⟩ : ∃ q, q = w.heap.size := ⟨_, rfl⟩
  obtain ⟨w1, hw1⟩ : ∃ w1, w1 = w.alloc (.cells #[.int .i64 x.kind, .int .i64 17, .int .u64 (x.n : Int), .slice ab x.b.length cb, .slice al x.l.length cl] 37) := ⟨_, rfl⟩
  have hb : Below w.heap.size w w1 := by rw [hw1]; exact (Below.refl _ _).alloc (Nat.le_refl _) _
  have HQ1 : Blk w1 q [.int .i64 x.kind, .int .i64 17, .int .u64 (x.n : Int), .slice ab x.b.length cb, .slice al x.l.length cl] 37 := by rw [hw1, hq]; exact Blk.new _ _ _
  have hq1 : w1.cell? ⟨q, 1, none⟩ = some (.int .i64 17) := HQ1.cell 1
  have hq4 : w1.cell? ⟨q, 4, none⟩ = some (.slice al x.l.length cl) := HQ1.cell 4
  have HB := hI hb
  obtain ⟨bl, ol, rfl, _⟩ := hb3.addr (by rw [hb3.1]; omega)
  obtain ⟨r, hr, hc⟩ := hb5.cells hb3 1 hj
  obtain ⟨bv2, lv2, rows2, rfl, g1, g2, g3, g4, g5⟩ := hr.open_
  have hl3 : w.cell? ⟨bl, ol + 8, none⟩ = some bv2 := hc 3 bv2 rfl
  have hl3 : w1.cell? ⟨bl, ol + 8, none⟩ = some bv2 := below_cell hb hl3
  have hbs := g1.below hb
  rw [hl] at hbs
  obtain ⟨a2, c2, rfl, _⟩ := hbs.form
  have hcv := run_convS w1 _ l hbs
  have hji : (1 : Int) < (x.l.length : Int) := by omega
  clear h hb1 hb2 hb3 hb4 hb5 hb HQ1 hr hc g1 g2 g3 g4 g5 hl hbs
  go_enter Try.func10, Try.ntmps10
  go_upto_region 1 with fail
  show Code.wp _ _ _ _ (w.alloc (.cells #[.int .i64 x.kind, .int .i64 17, .int .u64 (x.n : Int), .slice ab x.b.length cb, .slice (some ⟨bl, ol, none⟩) x.l.length cl] 37))
  rw [← hw1, ← hq]
  clear hw1 hq
  go_wp2_with fail
  go_ret
  exact ⟨rfl, HB.out⟩
set_option maxHeartbeats 2000000 in
set_option maxRecDepth 100000 in
theorem refTo_18 (x : Tv) (F : Nat → Prop) (cs : List Value) (w : World) (h : TvF w F x cs) (ht : x.tag = 18) (l : List UInt8) (hj : 1 < x.l.length) (hl : x.l[1].b = l) : Calls Try.prog 10 #[.agg cs.toArray] w (ToRes w l) := by
  obtain ⟨bv, lv, rows, rfl, hb1, hb2, hb3, hb4, hb5⟩ := h.open_
  obtain ⟨al, cl, rfl, hcl, hml⟩ := hb3.form
  obtain ⟨ab, cb, rfl, hcb, hmb⟩ := hb1.form
  unfold maxLen at hml
  rw [ht]
  clear ht
  obtain ⟨q, hq⟩ : ∃ q, q = w.heap.size := ⟨_, rfl⟩
  obtain ⟨w1, hw1⟩ : ∃ w1, w1 = w.alloc (.cells #[.int .i64 x.kind, .int .i64 18, .int .u64 (x.n : Int), .slice ab x.b.length cb, .slice al x.l.length cl] 37) := ⟨_, rfl⟩
  have hb : Below w.heap.size w w1 := by rw [hw1]; exact (Below.refl _ _).alloc (Nat.le_refl _) _
  have HQ1 : Blk w1 q [.int .i64 x.kind, .int .i64 18, .int .u64 (x.n : Int), .slice ab x.b.length cb, .slice al x.l.length cl] 37 := by rw [hw1, hq]; exact Blk.new _ _ _
  have hq1 : w1.cell? ⟨q, 1, none⟩ = some (.int .i64 18) := HQ1.cell 1
  have hq4 : w1.cell? ⟨q, 4, none⟩ = some (.slice al x.l.length cl) := HQ1.cell 4
  have HB := hI hb
  obtain ⟨bl, ol, rfl, _⟩ := hb3.addr (by rw [hb3.1]; omega)
  obtain ⟨r, hr, hc⟩ := hb5.cells hb3 1 hj
  obtain ⟨bv2, lv2, rows2, rfl, g1, g2, g3, g4, g5⟩ := hr.open_
  have hl3 : w.cell? ⟨bl, ol + 8, none⟩ = some bv2 := hc 3 bv2 rfl
  have hl3 : w1.cell? ⟨bl, ol + 8, none⟩ = some bv2 := below_cell hb hl3
  have hbs := g1.below hb
  rw [hl] at hbs
  obtain ⟨a2, c2, rfl, _⟩ := hbs.form
  have hcv := run_convS w1 _ l hbs
  have hji : (1 : Int) < (x.l.length : Int) := by omega
  clear h hb1 hb2 hb3 hb4 hb5 hb HQ1 hr hc g1 g2 g3 g4 g5 hl hbs
  go_enter Try.func10, Try.ntmps10
  go_upto_region 1 with fail
  show Code.wp _ _ _ _ (w.alloc (.cells #[.int .i64 x.kind, .int .i64 18, .int .u64 (x.n : Int), .slice ab x.b.length cb, .slice (some ⟨bl, ol, none⟩) x.l.length cl] 37))
  rw [← hw1, ← hq]
  clear hw1 hq
  go_wp2_with fail
  go_ret
  exact ⟨rfl, HB.out⟩
set_option maxHeartbeats 2000000 in
set_option maxRecDepth 100000 in
theorem refTo_19 (x : Tv) (F : Nat → Prop) (cs : List Value) (w : World) (h : TvF w F x cs) (ht : x.tag = 19) (l : List UInt8) (hj : 1 < x.l.length) (hl : x.l[1].b = l) : Calls Try.prog 10 #[.agg cs.toArray] w (ToRes w l) := by
  obtain ⟨bv, lv, rows, rfl, hb1, hb2, hb3, hb4, hb5⟩ := h.open_
  obtain ⟨al, cl, rfl, hcl, hml⟩ := hb3.form
  obtain ⟨ab, cb, rfl, hcb, hmb⟩ := hb1.form
  unfold maxLen at hml
  rw [ht]
  clear ht
  obtain ⟨q, hq⟩ : ∃ q, q = w.heap.size := ⟨_, rfl⟩
  obtain ⟨w1, hw1⟩ : ∃ w1, w1 = w.alloc (.cells #[.int .i64 x.kind, .int .i64 19, .int .u64 (x.n : Int), .slice ab x.b.length cb, .slice al x.l.length cl] 37) := ⟨_, rfl⟩
  have hb : Below w.heap.size w w1 := by rw [hw1]; exact (Below.refl _ _).alloc (Nat.le_refl _) _
  have HQ1 : Blk w1 q [.int .i64 x.kind, .int .i64 19, .int .u64 (x.n : Int), .slice ab x.b.length cb, .slice al x.l.length cl] 37 := by rw [hw1, hq]; exact Blk.new _ _ _
  have hq1 : w1.cell? ⟨q, 1, none⟩ = some (.int .i64 19) := HQ1.cell 1
  have hq4 : w1.cell? ⟨q, 4, none⟩ = some (.slice al x.l.length cl) := HQ1.cell 4
  have HB := hI hb
  obtain ⟨bl, ol, rfl, _⟩ := hb3.addr (by rw [hb3.1]; omega)
  obtain ⟨r, hr, hc⟩ := hb5.cells hb3 1 hj
  obtain ⟨bv2, lv2, rows2, rfl, g1, g2, g3, g4, g5⟩ := hr.open_
  have hl3 : w.cell? ⟨bl, ol + 8, none⟩ = some bv2 := hc 3 bv2 rfl
  have hl3 : w1.cell? ⟨bl, ol + 8, none⟩ = some bv2 := below_cell hb hl3
  have hbs := g1.below hb
  rw [hl] at hbs
  obtain ⟨a2, c2, rfl, _⟩ := hbs.form
  have hcv := run_convS w1 _ l hbs
  have hji : (1 : Int) < (x.l.length : Int) := by omega
  clear h hb1 hb2 hb3 hb4 hb5 hb HQ1 hr hc g1 g2 g3 g4 g5 hl hbs
  go_enter Try.func10, Try.ntmps10
  go_upto_region 1 with fail
  show Code.wp _ _ _ _ (w.alloc (.cells #[.int .i64 x.kind, .int .i64 19, .int .u64 (x.n : Int), .slice ab x.b.length cb, .slice (some ⟨bl, ol, none⟩) x.l.length cl] 37))
  rw [← hw1, ← hq]
  clear hw1 hq
  go_wp2_with fail
  go_ret
  exact ⟨rfl, HB.out⟩
set_option maxHeartbeats 2000000 in
set_option maxRecDepth 100000 in
theorem refTo_20 (x : Tv) (F : Nat → Prop) (cs : List Value) (w : World) (h : TvF w F x cs) (ht : x.tag = 20) : Calls Try.prog 10 #[.agg cs.toArray] w (ToRes w kdcB) := by
  obtain ⟨bv, lv, rows, rfl, hb1, hb2, hb3, hb4, hb5⟩ := h.open_
  obtain ⟨al, cl, rfl, hcl, hml⟩ := hb3.form
  obtain ⟨ab, cb, rfl, hcb, hmb⟩ := hb1.form
  unfold maxLen at hml
  rw [ht]
  clear ht
  clear h hb1 hb2 hb3 hb4 hb5
  go_enter Try.func10, Try.ntmps10
  go_wp2_with fail
  go_ret
  exact ⟨rfl, (Below.refl _ _).alloc (Nat.le_refl _) _⟩
set_option maxHeartbeats 2000000 in
set_option maxRecDepth 100000 in
theorem refTo_21 (x : Tv) (F : Nat → Prop) (cs : List Value) (w : World) (h : TvF w F x cs) (ht : x.tag = 21) (l : List UInt8) (hj : 0 < x.l.length) (hl : x.l[0].b = l) : Calls Try.prog 10 #[.agg cs.toArray] w (ToRes w l) := by
  obtain ⟨bv, lv, rows, rfl, hb1, hb2, hb3, hb4, hb5⟩ := h.open_
  obtain ⟨al, cl, rfl, hcl, hml⟩ := hb3.form
  obtain ⟨ab, cb, rfl, hcb, hmb⟩ := hb1.form
  unfold maxLen at hml
  rw [ht]
  clear ht
  obtain ⟨q, hq⟩ : ∃ q, q = w.heap.size := ⟨_, rfl⟩
  obtain ⟨w1, hw1⟩ : ∃ w1, w1 = w.alloc (.cells #[.int .i64 x.kind, .int .i64 21, .int .u64 (x.n : Int), .slice ab x.b.length cb, .slice al x.l.length cl] 37) := ⟨_, rfl⟩
  have hb : Below w.heap.size w w1 := by rw [hw1]; exact (Below.refl _ _).alloc (Nat.le_refl _) _
  have HQ1 : Blk w1 q [.int .i64 x.kind, .int .i64 21, .int .u64 (x.n : Int), .slice ab x.b.length cb, .slice al x.l.length cl] 37 := by rw [hw1, hq]; exact Blk.new _ _ _
  have hq1 : w1.cell? ⟨q, 1, none⟩ = some (.int .i64 21) := HQ1.cell 1
  have hq4 : w1.cell? ⟨q, 4, none⟩ = some (.slice al x.l.length cl) := HQ1.cell 4
  have HB := hI hb
  obtain ⟨bl, ol, rfl, _⟩ := hb3.addr (by rw [hb3.1]; omega)
  obtain ⟨r, hr, hc⟩ := hb5.cells hb3 0 hj
  obtain ⟨bv2, lv2, rows2, rfl, g1, g2, g3, g4, g5⟩ := hr.open_
  have hl3 : w.cell? ⟨bl, ol + 3, none⟩ = some bv2 := hc 3 bv2 rfl
  have hl3 : w1.cell? ⟨bl, ol + 3, none⟩ = some bv2 := below_cell hb hl3
  have hbs := g1.below hb
  rw [hl] at hbs
  obtain ⟨a2, c2, rfl, _⟩ := hbs.form
  have hcv := run_convS w1 _ l hbs
  have hji : (0 : Int) < (x.l.length : Int) := by omega
  clear h hb1 hb2 hb3 hb4 hb5 hb HQ1 hr hc g1 g2 g3 g4 g5 hl hbs
  go_enter Try.func10, Try.ntmps10
  go_upto_region 1 with fail
  show Code.wp _ _ _ _ (w.alloc (.cells #[.int .i64 x.kind, .int .i64 21, .int .u64 (x.n : Int), .slice ab x.b.length cb, .slice (some ⟨bl, ol, none⟩) x.l.length cl] 37))
  rw [← hw1, ← hq]
  clear hw1 hq
  go_wp2_with fail
  go_ret
  exact ⟨rfl, HB.out⟩
set_option maxHeartbeats 2000000 in
set_option maxRecDepth 100000 in
theorem refTo_22 (x : Tv) (F : Nat → Prop) (cs : List Value) (w : World) (h : TvF w F x cs) (ht : x.tag = 22) (l : List UInt8) (hj : 0 < x.l.length) (hl : x.l[0].b = l) : Calls Try.prog 10 #[.agg cs.toArray] w (ToRes w l) := by
  obtain ⟨bv, lv, rows, rfl, hb1, hb2, hb3, hb4, hb5⟩ := h.open_
  obtain ⟨al, cl, rfl, hcl, hml⟩ := hb3.form
  obtain ⟨ab, cb, rfl, hcb, hmb⟩ := hb1.form
  unfold maxLen at hml
  rw [ht]
  clear ht
  obtain ⟨q, hq⟩ : ∃ q, q = w.heap.size := ⟨_, rfl⟩
  obtain ⟨w1, hw1⟩ : ∃ w1, w1 = w.alloc (.cells #[.int .i64 x.kind, .int .i64 22, .int .u64 (x.n : Int), .slice ab x.b.length cb, .slice al x.l.length cl] 37) := ⟨_, rfl⟩
  have hb : Below w.heap.size w w1 := by rw [hw1]; exact (Below.refl _ _).alloc (Nat.le_refl _) _
  have HQ1 : Blk w1 q [.int .i64 x.kind, .int .i64 22, .int .u64 (x.n : Int), .slice ab x.b.length cb, .slice al x.l.length cl] 37 := by rw [hw1, hq]; exact Blk.new _ _ _
  have hq1 : w1.cell? ⟨q, 1, none⟩ = some (.int .i64 22) := HQ1.cell 1
  have hq4 : w1.cell? ⟨q, 4, none⟩ = some (.slice al x.l.length cl) := HQ1.cell 4
  have HB := hI hb
  obtain ⟨bl, ol, rfl, _⟩ := hb3.addr (by rw [hb3.1]; omega)
  obtain ⟨r, hr, hc⟩ := hb5.cells hb3 0 hj
  obtain ⟨bv2, lv2, rows2, rfl, g1, g2, g3, g4, g5⟩ := hr.open_
  have hl3 : w.cell? ⟨bl, ol + 3, none⟩ = some bv2 := hc 3 bv2 rfl
  have hl3 : w1.cell? ⟨bl, ol + 3, none⟩ = some bv2 := below_cell hb hl3
  have hbs := g1.below hb
  rw [hl] at hbs
  obtain ⟨a2, c2, rfl, _⟩ := hbs.form
  have hcv := run_convS w1 _ l hbs
  have hji : (0 : Int) < (x.l.length : Int) := by omega
  clear h hb1 hb2 hb3 hb4 hb5 hb HQ1 hr hc g1 g2 g3 g4 g5 hl hbs
  go_enter Try.func10, Try.ntmps10
  go_upto_region 1 with fail
  show Code.wp _ _ _ _ (w.alloc (.cells #[.int .i64 x.kind, .int .i64 22, .int .u64 (x.n : Int), .slice ab x.b.length cb, .slice (some ⟨bl, ol, none⟩) x.l.length cl] 37))
  rw [← hw1, ← hq]
  clear hw1 hq
  go_wp2_with fail
  go_ret
  exact ⟨rfl, HB.out⟩
theorem refTo_any (t : Int) (pts : List Pt) (F : Nat → Prop) (cs : List Value) (w : World) (h : TvF w F (msgTv t pts) cs) (hk : pts.map kdOf = shapeS t) (hne : (shapeS t).isEmpty = false) :
    Calls Try.prog 10 #[.agg cs.toArray] w (ToRes w (toM t pts)) := by
  obtain ⟨ht1, ht2⟩ := shape_tag hne
  rcases (by omega : t = 11 ∨ t = 12 ∨ t = 13 ∨ t = 14 ∨ t = 15 ∨ t = 16 ∨ t = 17 ∨ t = 18 ∨ t = 19 ∨ t = 20 ∨ t = 21 ∨ t = 22) with rfl | rfl | rfl | rfl | rfl | rfl | rfl | rfl | rfl | rfl | rfl | rfl
  · exact refTo_11 _ F cs w h rfl
  · have k0 : pts.map kdOf = [.s, .i, .b] := hk
    clear hk
    obtain ⟨p1, r1, rfl, e1, k1⟩ := map_cons_ex k0
    obtain ⟨y1, rfl⟩ := kd_s e1
    exact refTo_12 _ F cs w h rfl y1 (by simp [msgTv, Tv.l]) rfl
  · exact refTo_13 _ F cs w h rfl
  · have k0 : pts.map kdOf = [.s, .i, .b] := hk
    clear hk
    obtain ⟨p1, r1, rfl, e1, k1⟩ := map_cons_ex k0
    obtain ⟨y1, rfl⟩ := kd_s e1
    exact refTo_14 _ F cs w h rfl y1 (by simp [msgTv, Tv.l]) rfl
  · have k0 : pts.map kdOf = [.s, .s, .n] := hk
    clear hk
    obtain ⟨p1, r1, rfl, e1, k1⟩ := map_cons_ex k0
    obtain ⟨y1, rfl⟩ := kd_s e1
    obtain ⟨p2, r2, rfl, e2, k2⟩ := map_cons_ex k1
    obtain ⟨y2, rfl⟩ := kd_s e2
    exact refTo_15 _ F cs w h rfl y2 (by simp [msgTv, Tv.l]) rfl
  · have k0 : pts.map kdOf = [.s, .s, .n, .i] := hk
    clear hk
    obtain ⟨p1, r1, rfl, e1, k1⟩ := map_cons_ex k0
    obtain ⟨y1, rfl⟩ := kd_s e1
    obtain ⟨p2, r2, rfl, e2, k2⟩ := map_cons_ex k1
    obtain ⟨y2, rfl⟩ := kd_s e2
    exact refTo_16 _ F cs w h rfl y2 (by simp [msgTv, Tv.l]) rfl
  · have k0 : pts.map kdOf = [.s, .s, .n, .i, .b] := hk
    clear hk
    obtain ⟨p1, r1, rfl, e1, k1⟩ := map_cons_ex k0
    obtain ⟨y1, rfl⟩ := kd_s e1
    obtain ⟨p2, r2, rfl, e2, k2⟩ := map_cons_ex k1
    obtain ⟨y2, rfl⟩ := kd_s e2
    exact refTo_17 _ F cs w h rfl y2 (by simp [msgTv, Tv.l]) rfl
  · have k0 : pts.map kdOf = [.s, .s, .n, .b] := hk
    clear hk
    obtain ⟨p1, r1, rfl, e1, k1⟩ := map_cons_ex k0
    obtain ⟨y1, rfl⟩ := kd_s e1
    obtain ⟨p2, r2, rfl, e2, k2⟩ := map_cons_ex k1
    obtain ⟨y2, rfl⟩ := kd_s e2
    exact refTo_18 _ F cs w h rfl y2 (by simp [msgTv, Tv.l]) rfl
  · have k0 : pts.map kdOf = [.s, .s, .n, .n, .n, .b] := hk
    clear hk
    obtain ⟨p1, r1, rfl, e1, k1⟩ := map_cons_ex k0
    obtain ⟨y1, rfl⟩ := kd_s e1
    obtain ⟨p2, r2, rfl, e2, k2⟩ := map_cons_ex k1
    obtain ⟨y2, rfl⟩ := kd_s e2
    exact refTo_19 _ F cs w h rfl y2 (by simp [msgTv, Tv.l]) rfl
  · exact refTo_20 _ F cs w h rfl
  · have k0 : pts.map kdOf = [.s, .b] := hk
    clear hk
    obtain ⟨p1, r1, rfl, e1, k1⟩ := map_cons_ex k0
    obtain ⟨y1, rfl⟩ := kd_s e1
    exact refTo_21 _ F cs w h rfl y1 (by simp [msgTv, Tv.l]) rfl
  · have k0 : pts.map kdOf = [.s, .n, .n] := hk
    clear hk
    obtain ⟨p1, r1, rfl, e1, k1⟩ := map_cons_ex k0
    obtain ⟨y1, rfl⟩ := kd_s e1
    exact refTo_22 _ F cs w h rfl y1 (by simp [msgTv, Tv.l]) rfl
/-- What stands in 'out'. -/
def OutM (w : World) (F : Nat → Prop) (x : Tv) (o : Value) (rem : List Tv) (bad bad2 : Bool) : Prop :=
  if (shapeS x.tag).isEmpty = true then o = .nilIface else ∃ pts, runS (shapeS x.tag) (x.l, false, false) = (pts, rem, bad, bad2) ∧ MsgV w F x.tag pts o
def OfM (w : World) (F : Nat → Prop) (x : Tv) (e : Ending) (w' : World) : Prop :=
  ∃ r, e = .returned (.tuple #[r, .bool (ofS x).isSome]) ∧ Below w.heap.size w w' ∧ (match ofS x with | some l => MsgV w' F x.tag l r | none => r = .nilIface)
theorem OutM.ofS {w : World} {F : Nat → Prop} {x : Tv} {o : Value} {rem : List Tv} {bad bad2 : Bool} (h : OutM w F x o rem bad bad2) :
    (∃ pts, Go.Proofs.Ytofmkkcbfeadgaa.ofS x = some pts ∧ MsgV w F x.tag pts o) ∨ (¬ (x.kind = 2 ∧ o ≠ .nilIface ∧ bad2 = false ∧ (!bad && rem.isEmpty) = true) ∧ Go.Proofs.Ytofmkkcbfeadgaa.ofS x = none) := by
  unfold OutM at h
  split at h
  · rename_i he
    refine .inr ⟨fun hc => hc.2.1 h, ?_⟩
    unfold Go.Proofs.Ytofmkkcbfeadgaa.ofS
    rw [if_neg (fun hc => by rw [he] at hc; simp at hc)]
  · rename_i he
    obtain ⟨pts, hr, hm⟩ := h
    by_cases hc : x.kind = 2 ∧ bad2 = false ∧ bad = false ∧ rem.isEmpty = true
    · refine .inl ⟨pts, ?_, hm⟩
      unfold Go.Proofs.Ytofmkkcbfeadgaa.ofS
      rw [if_pos ⟨hc.1, by simpa using he, by rw [hr]; exact hc.2.1, by rw [hr]; exact hc.2.2.1, by rw [hr]; exact hc.2.2.2⟩, hr]
    · refine .inr ⟨fun h2 => hc ⟨h2.1, h2.2.2.1, by have := h2.2.2.2; simp only [Bool.and_eq_true, Bool.not_eq_true'] at this; exact this⟩, ?_⟩
      unfold Go.Proofs.Ytofmkkcbfeadgaa.ofS
      rw [if_neg (fun h2 => hc ⟨h2.1, by have := h2.2.2.1; rw [hr] at this; exact this, by have := h2.2.2.2.1; rw [hr] at this; exact this, by have := h2.2.2.2.2; rw [hr] at this; exact this⟩)]
theorem OutM.shape {w : World} {F : Nat → Prop} {x : Tv} {o : Value} {rem : List Tv} {bad bad2 : Bool} (h : OutM w F x o rem bad bad2) : o = .nilIface ∨ ∃ U y, o = .iface U y := by
  unfold OutM at h
  split at h
  · exact .inl h
  · obtain ⟨pts, _, cs, e, _⟩ := h
    exact .inr ⟨_, _, e⟩
theorem OutM.no {w wx : World} {F : Nat → Prop} {x : Tv} {o : Value} {rem : List Tv} {bad bad2 : Bool} (ho : OutM wx F x o rem bad bad2) (hb : BelowO w wx) (hn : ¬ (x.kind = 2 ∧ o ≠ .nilIface ∧ bad2 = false ∧ (!bad && rem.isEmpty) = true)) :
    OfM w F x (.returned (.tuple #[.nilIface, .bool false])) wx := by
  rcases ho.ofS with ⟨pts, e, hm⟩ | ⟨_, e⟩
  · exfalso
    refine hn ?_
    unfold Go.Proofs.Ytofmkkcbfeadgaa.ofS at e
    split at e
    · rename_i hc
      have ho' := ho
      unfold OutM at ho'
      rw [if_neg (by rw [hc.2.1]; decide)] at ho'
      obtain ⟨pts', hr, cs', e', _⟩ := ho'
      rw [hr] at hc
      exact ⟨hc.1, by rw [e']; simp, hc.2.2.1, by have h1 : bad = false := hc.2.2.2.1; have h2 : rem.isEmpty = true := hc.2.2.2.2; rw [h1, h2]; rfl⟩
    · cases e
  · exact ⟨_, by rw [e]; rfl, hb, by rw [e]⟩
theorem OutM.yes {w wx : World} {F : Nat → Prop} {x : Tv} {o : Value} {rem : List Tv} {bad bad2 : Bool} (ho : OutM wx F x o rem bad bad2) (hb : BelowO w wx) (h1 : x.kind = 2) (h2 : o ≠ .nilIface) (h3 : bad2 = false) (h4 : (!bad && rem.isEmpty) = true) :
    OfM w F x (.returned (.tuple #[o, .bool true])) wx := by
  rcases ho.ofS with ⟨pts, e, hm⟩ | ⟨hn, e⟩
  · exact ⟨o, by rw [e]; rfl, hb, by rw [e]; exact hm⟩
  · exact absurd ⟨h1, h2, h3, h4⟩ hn
end Go.Proofs.Ytofmkkcbfeadgaa
