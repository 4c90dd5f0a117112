/- Arrays: the address of an element. -/
import Derived.Test.YtolhphofbkiplaaBase
namespace Go.Proofs.Ytolhphofbkiplaa
set_option linter.unusedSimpArgs false
set_option linter.unusedVariables false
open Go.RowKit

theorem run_idx {P : Program} {t e : TypeId} {n : Nat} {i : TypeInfo} (ht : P.underlying t = some (.array n e)) (hi : P.info? e = some i) (hs : i.size = 1) (b o : Nat) (k : Int) (w : World) (h0 : 0 ≤ k) (h1 : k < n) :
    (Instr.indexAt t (.pointer (some ⟨b, o, none⟩)) (.int .i64 k)).run P w = .ok (.pointer (some ⟨b, o + k.toNat, none⟩)) w := by
  simp [Instr.indexAt, run_underlying ht, asIntOf, Instr.sureAddr, sizeOf, typeInfo, hi, hs, h0, h1, Addr.add_lit]
end Go.Proofs.Ytolhphofbkiplaa
