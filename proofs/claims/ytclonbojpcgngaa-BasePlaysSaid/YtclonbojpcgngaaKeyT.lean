/- Keys: arrays of sixteen bytes. -/
import Derived.Test.YtclonbojpcgngaaByteC
import Derived.Stop.BytesEq
namespace Go.Proofs.Ytclonbojpcgngaa
set_option linter.unusedSimpArgs false
set_option linter.unusedVariables false
open Go.RowKit

/-- A key, as an array. -/
def keyV (k : List UInt8) : Value := .agg (bCells k).toArray
theorem aggKey : AggTy Try.prog 28 16 := AggTy.mk Try.underlying28 rfl (by kernel_rfl)

def zs16 : List Value := [.int .u8 0, .int .u8 0, .int .u8 0, .int .u8 0, .int .u8 0, .int .u8 0, .int .u8 0, .int .u8 0, .int .u8 0, .int .u8 0, .int .u8 0, .int .u8 0, .int .u8 0, .int .u8 0, .int .u8 0, .int .u8 0]
theorem zs16_eq : bCells (List.replicate 16 0) = zs16 := rfl

/-- Keys are the same just if each byte is. -/
theorem run_eql_key (w : World) (a b : List UInt8) (ha : a.length = 16) (hb : b.length = 16) : (binOp .eql 28 (keyV a) (keyV b)).run Try.prog w = .ok (.bool (decide (a = b))) w := by
  have h := run_eql_bytes (P := Try.prog) w 28 5 16 Try.underlying28 Try.underlying5 (fun w => by kernel_rfl) a b ha hb
  have e : (a == b) = decide (a = b) := by rw [Bool.eq_iff_iff]; simp
  rw [← e]
  exact h

theorem run_eqIn_key (w : World) (a b : List UInt8) (ha : a.length = 16) (hb : b.length = 16) : (Op.equalIn 10000 28 (.agg (bCells a).toArray) (.agg (bCells b).toArray)).run Try.prog w = .ok (decide (a = b)) w := by
  have h := run_equalIn_bytes (P := Try.prog) w 9998 28 5 16 Try.underlying28 Try.underlying5 (fun w => by kernel_rfl) a b ha hb
  have e : (a == b) = decide (a = b) := by rw [Bool.eq_iff_iff]; simp
  rw [← e]
  exact h

end Go.Proofs.Ytclonbojpcgngaa
