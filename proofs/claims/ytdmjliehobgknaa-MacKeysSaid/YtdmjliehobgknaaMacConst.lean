/- The examples of mac, reckoned by the kernel. -/
import Derived.Test.YtdmjliehobgknaaMacText
namespace Go.Proofs.Ytdmjliehobgknaa
set_option linter.unusedSimpArgs false
set_option linter.unusedVariables false
open Go.RowKit

theorem al_mac : (macB [107, 101, 121] ([84, 104, 101, 32, 113, 117, 105, 99, 107, 32, 98, 114, 111, 119, 110, 32, 102, 111, 120, 32] ++ [106, 117, 109, 112, 115, 32, 111, 118, 101, 114, 32, 116, 104, 101, 32, 108, 97, 122, 121, 32, 100, 111, 103])).take 4 = [247, 188, 131, 244] := by decide +kernel

def keyOne : List UInt8 := [1, 0, 0, 0, 0, 0, 0, 0, 0, 0, 0, 0, 0, 0, 0, 0]
theorem al_der : deriveB keyOne [97] ≠ deriveB keyOne [98] := by decide +kernel

end Go.Proofs.Ytdmjliehobgknaa
