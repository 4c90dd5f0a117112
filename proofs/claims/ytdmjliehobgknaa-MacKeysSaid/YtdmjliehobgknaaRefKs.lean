/- The rounds' constants are the cube roots' bits. (The kernel reckons them: a minute.) -/
import Derived.Test.YtdmjliehobgknaaRef03
namespace Go.Proofs.Ytdmjliehobgknaa
set_option linter.unusedSimpArgs false
set_option linter.unusedVariables false
open Go.RowKit

theorem ks_eq : (primesL.map fun n => (cubeB n : Int)) = kL := by decide +kernel
end Go.Proofs.Ytdmjliehobgknaa
