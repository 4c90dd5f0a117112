/-
  NARROWER THAN 'FOR EVERY INPUT', by the rows' own cells (each row's printed sentence says how): DerWrites: loops · DerOne: loops · DerNests: loops.
  DERIVED. THE GIVEN ROWS OF THIS SEAT. 10 by the template 'for every input the law returns true; each argument reads behind the call as it read before'; 0 by the template 'total and deterministic' (their statements: YtdmjliehobgknaaTotals.lean).
  GIVEN WITH THE SEED: the statements are not yours to turn. If you find one false, say at which input.
  Laid BY PROGRAM, IN A SANDBOX (cutbox-rows.mjs): the forced cells as the released guide's own fill.sh prints them over the translation 701a0926f241217d… (all of the seat's roots in one cut). By AI agents, Wed Nov 11 2026. No macro, syntax, notation, axiom, sorry.
-/
import Derived.Test.YtdmjliehobgknaaChecked
import GoSem.Claim
import GoSem.ClaimJoined
import GoSem.ClaimMapViews
import Derived.JoinedTies
import Derived.KernelRfl
namespace Go.Proofs.Ytdmjliehobgknaa
/- THE CELL 'sum', in the pinned program and in every row, IS THE sha256 OF THE DUMP (.gsa) THAT YtdmjliehobgknaaProg.lean LOADS. Nothing in Lean hashes anything: it is a label: what it is worth is what the hold of that sum in a sandbox is worth. -/
noncomputable def Try.pinned : Pinned := { name := "ytdmjliehobgknaa", sum := "701a0926f241217da35e9350179a21ddbc0bc94ac5acc71c52a3fd6ef3b50182", checked := Try.checked }
namespace Rows
def none {H : Type} : Left H := { results := [], args := [] }

/-- 'compeerlaw03.ShaDigests': WHATEVER THE INPUT: true; the input reads as it did. -/
def shaDigestsSpec : ChangeSpec := { name := "shaDigests", fn := fun _ => fun
  | [d] => { results := [.lit (.bool true)], args := [d] }
  | _ => none }
def shaDigestsRow : OpenClaim := { program := "ytdmjliehobgknaa", sum := "701a0926f241217da35e9350179a21ddbc0bc94ac5acc71c52a3fd6ef3b50182", func := "compeer/compeerlaw03.ShaDigests", spec := "shaDigests", apart := false }
def ShaDigestsSaid : Prop := shaDigestsRow.holds Try.pinned (OpenSpec.ofChange shaDigestsSpec)

/-- ITS FALSE NEIGHBOUR: 'it returns false'. Refute it at one input. -/
def shaDigestsWrong : ChangeSpec := { name := "shaDigests", fn := fun _ => fun
  | [d] => { results := [.lit (.bool false)], args := [d] }
  | _ => none }
def ShaDigestsWrongFalsely : Prop := shaDigestsRow.holds Try.pinned (OpenSpec.ofChange shaDigestsWrong)

/-- 'compeerlaw03.ShaParts': WHATEVER THE INPUT: true; the input reads as it did. -/
def shaPartsSpec : ChangeSpec := { name := "shaParts", fn := fun _ => fun
  | [d1, d2] => { results := [.lit (.bool true)], args := [d1, d2] }
  | _ => none }
def shaPartsRow : OpenClaim := { program := "ytdmjliehobgknaa", sum := "701a0926f241217da35e9350179a21ddbc0bc94ac5acc71c52a3fd6ef3b50182", func := "compeer/compeerlaw03.ShaParts", spec := "shaParts", apart := false }
def ShaPartsSaid : Prop := shaPartsRow.holds Try.pinned (OpenSpec.ofChange shaPartsSpec)

/-- ITS FALSE NEIGHBOUR: 'it returns false'. Refute it at one input. -/
def shaPartsWrong : ChangeSpec := { name := "shaParts", fn := fun _ => fun
  | [d1, d2] => { results := [.lit (.bool false)], args := [d1, d2] }
  | _ => none }
def ShaPartsWrongFalsely : Prop := shaPartsRow.holds Try.pinned (OpenSpec.ofChange shaPartsWrong)

/-- 'compeerlaw03.ShaApart': WHATEVER THE INPUT: true; the input reads as it did. -/
def shaApartSpec : ChangeSpec := { name := "shaApart", fn := fun _ => fun
  | [d1, d2] => { results := [.lit (.bool true)], args := [d1, d2] }
  | _ => none }
def shaApartRow : OpenClaim := { program := "ytdmjliehobgknaa", sum := "701a0926f241217da35e9350179a21ddbc0bc94ac5acc71c52a3fd6ef3b50182", func := "compeer/compeerlaw03.ShaApart", spec := "shaApart", apart := false }
def ShaApartSaid : Prop := shaApartRow.holds Try.pinned (OpenSpec.ofChange shaApartSpec)

/-- ITS FALSE NEIGHBOUR: 'it returns false'. Refute it at one input. -/
def shaApartWrong : ChangeSpec := { name := "shaApart", fn := fun _ => fun
  | [d1, d2] => { results := [.lit (.bool false)], args := [d1, d2] }
  | _ => none }
def ShaApartWrongFalsely : Prop := shaApartRow.holds Try.pinned (OpenSpec.ofChange shaApartWrong)

/-- 'compeerlaw04.MacSums': WHATEVER THE INPUT: true; the input reads as it did. -/
def macSumsSpec : ChangeSpec := { name := "macSums", fn := fun _ => fun
  | [d1, d2] => { results := [.lit (.bool true)], args := [d1, d2] }
  | _ => none }
def macSumsRow : OpenClaim := { program := "ytdmjliehobgknaa", sum := "701a0926f241217da35e9350179a21ddbc0bc94ac5acc71c52a3fd6ef3b50182", func := "compeer/compeerlaw04.MacSums", spec := "macSums", apart := false }
def MacSumsSaid : Prop := macSumsRow.holds Try.pinned (OpenSpec.ofChange macSumsSpec)

/-- ITS FALSE NEIGHBOUR: 'it returns false'. Refute it at one input. -/
def macSumsWrong : ChangeSpec := { name := "macSums", fn := fun _ => fun
  | [d1, d2] => { results := [.lit (.bool false)], args := [d1, d2] }
  | _ => none }
def MacSumsWrongFalsely : Prop := macSumsRow.holds Try.pinned (OpenSpec.ofChange macSumsWrong)

/-- 'compeerlaw04.MacKeys': WHATEVER THE INPUT: true; the input reads as it did. -/
def macKeysSpec : ChangeSpec := { name := "macKeys", fn := fun _ => fun
  | [d1, d2, d3, d4] => { results := [.lit (.bool true)], args := [d1, d2, d3, d4] }
  | _ => none }
def macKeysRow : OpenClaim := { program := "ytdmjliehobgknaa", sum := "701a0926f241217da35e9350179a21ddbc0bc94ac5acc71c52a3fd6ef3b50182", func := "compeer/compeerlaw04.MacKeys", spec := "macKeys", apart := false }
def MacKeysSaid : Prop := macKeysRow.holds Try.pinned (OpenSpec.ofChange macKeysSpec)

/-- ITS FALSE NEIGHBOUR: 'it returns false'. Refute it at one input. -/
def macKeysWrong : ChangeSpec := { name := "macKeys", fn := fun _ => fun
  | [d1, d2, d3, d4] => { results := [.lit (.bool false)], args := [d1, d2, d3, d4] }
  | _ => none }
def MacKeysWrongFalsely : Prop := macKeysRow.holds Try.pinned (OpenSpec.ofChange macKeysWrong)

/-- 'compeerlaw04.MacParts': WHATEVER THE INPUT: true; the input reads as it did. -/
def macPartsSpec : ChangeSpec := { name := "macParts", fn := fun _ => fun
  | [d1, d2, d3] => { results := [.lit (.bool true)], args := [d1, d2, d3] }
  | _ => none }
def macPartsRow : OpenClaim := { program := "ytdmjliehobgknaa", sum := "701a0926f241217da35e9350179a21ddbc0bc94ac5acc71c52a3fd6ef3b50182", func := "compeer/compeerlaw04.MacParts", spec := "macParts", apart := false }
def MacPartsSaid : Prop := macPartsRow.holds Try.pinned (OpenSpec.ofChange macPartsSpec)

/-- ITS FALSE NEIGHBOUR: 'it returns false'. Refute it at one input. -/
def macPartsWrong : ChangeSpec := { name := "macParts", fn := fun _ => fun
  | [d1, d2, d3] => { results := [.lit (.bool false)], args := [d1, d2, d3] }
  | _ => none }
def MacPartsWrongFalsely : Prop := macPartsRow.holds Try.pinned (OpenSpec.ofChange macPartsWrong)

/-- 'compeerlaw02.DerWrites': WHATEVER THE INPUT: true; the input reads as it did. -/
def derWritesSpec : ChangeSpec := { name := "derWrites", fn := fun _ => fun
  | [d] => { results := [.lit (.bool true)], args := [d] }
  | _ => none }
def derWritesRow : OpenClaim := { program := "ytdmjliehobgknaa", sum := "701a0926f241217da35e9350179a21ddbc0bc94ac5acc71c52a3fd6ef3b50182", func := "compeer/compeerlaw02.DerWrites", spec := "derWrites", recurses := true, loops := true, apart := false }
def DerWritesSaid : Prop := derWritesRow.holds Try.pinned (OpenSpec.ofChange derWritesSpec)

/-- ITS FALSE NEIGHBOUR: 'it returns false'. Refute it at one input. -/
def derWritesWrong : ChangeSpec := { name := "derWrites", fn := fun _ => fun
  | [d] => { results := [.lit (.bool false)], args := [d] }
  | _ => none }
def DerWritesWrongFalsely : Prop := derWritesRow.holds Try.pinned (OpenSpec.ofChange derWritesWrong)

/-- 'compeerlaw02.DerReads': WHATEVER THE INPUT: true; the input reads as it did. -/
def derReadsSpec : ChangeSpec := { name := "derReads", fn := fun _ => fun
  | [d] => { results := [.lit (.bool true)], args := [d] }
  | _ => none }
def derReadsRow : OpenClaim := { program := "ytdmjliehobgknaa", sum := "701a0926f241217da35e9350179a21ddbc0bc94ac5acc71c52a3fd6ef3b50182", func := "compeer/compeerlaw02.DerReads", spec := "derReads", recurses := true, apart := false }
def DerReadsSaid : Prop := derReadsRow.holds Try.pinned (OpenSpec.ofChange derReadsSpec)

/-- ITS FALSE NEIGHBOUR: 'it returns false'. Refute it at one input. -/
def derReadsWrong : ChangeSpec := { name := "derReads", fn := fun _ => fun
  | [d] => { results := [.lit (.bool false)], args := [d] }
  | _ => none }
def DerReadsWrongFalsely : Prop := derReadsRow.holds Try.pinned (OpenSpec.ofChange derReadsWrong)

/-- 'compeerlaw02.DerOne': WHATEVER THE INPUT: true; the input reads as it did. -/
def derOneSpec : ChangeSpec := { name := "derOne", fn := fun _ => fun
  | [d1, d2, d3] => { results := [.lit (.bool true)], args := [d1, d2, d3] }
  | _ => none }
def derOneRow : OpenClaim := { program := "ytdmjliehobgknaa", sum := "701a0926f241217da35e9350179a21ddbc0bc94ac5acc71c52a3fd6ef3b50182", func := "compeer/compeerlaw02.DerOne", spec := "derOne", recurses := true, loops := true, apart := false }
def DerOneSaid : Prop := derOneRow.holds Try.pinned (OpenSpec.ofChange derOneSpec)

/-- ITS FALSE NEIGHBOUR: 'it returns false'. Refute it at one input. -/
def derOneWrong : ChangeSpec := { name := "derOne", fn := fun _ => fun
  | [d1, d2, d3] => { results := [.lit (.bool false)], args := [d1, d2, d3] }
  | _ => none }
def DerOneWrongFalsely : Prop := derOneRow.holds Try.pinned (OpenSpec.ofChange derOneWrong)

/-- 'compeerlaw02.DerNests': WHATEVER THE INPUT: true; the input reads as it did. -/
def derNestsSpec : ChangeSpec := { name := "derNests", fn := fun _ => fun
  | [d1, d2, d3] => { results := [.lit (.bool true)], args := [d1, d2, d3] }
  | _ => none }
def derNestsRow : OpenClaim := { program := "ytdmjliehobgknaa", sum := "701a0926f241217da35e9350179a21ddbc0bc94ac5acc71c52a3fd6ef3b50182", func := "compeer/compeerlaw02.DerNests", spec := "derNests", recurses := true, loops := true, apart := false }
def DerNestsSaid : Prop := derNestsRow.holds Try.pinned (OpenSpec.ofChange derNestsSpec)

/-- ITS FALSE NEIGHBOUR: 'it returns false'. Refute it at one input. -/
def derNestsWrong : ChangeSpec := { name := "derNests", fn := fun _ => fun
  | [d1, d2, d3] => { results := [.lit (.bool false)], args := [d1, d2, d3] }
  | _ => none }
def DerNestsWrongFalsely : Prop := derNestsRow.holds Try.pinned (OpenSpec.ofChange derNestsWrong)

/- THE SECOND FORM. 'bulk': how many values and letters a reading holds, each counted each time it is reached (what is shared counts as often as it is met; a slice's spare places count too). A statement '..UptoSaid' is the law's where the arguments, and the package variables that the reading takes, are together of bulk at most 1048576: NARROWER than '..Said'. Prove '..Said' where nothing that the law and all that it calls make is longer than what came in: it says more and counts as full. Else prove '..UptoSaid'. A law counts once. -/
mutual
def uptoBulk {H : Type} : DataW H → Nat
  | .lit (.string bytes) => bytes.length + 1
  | .lit _ => 1
  | .nil => 1
  | .ptr d => uptoBulk d + 1
  | .slice elems spare => uptoBulkAll elems + uptoBulkAll spare + 1
  | .agg parts => uptoBulkAll parts + 1
  | .iface _ d => uptoBulk d + 1
  | .map entries => uptoBulkEntries entries + 1
  | .held _ => 1
def uptoBulkAll {H : Type} : List (DataW H) → Nat
  | [] => 0
  | d :: r => uptoBulk d + uptoBulkAll r
def uptoBulkEntries {H : Type} : List (Lit × DataW H) → Nat
  | [] => 0
  | x :: r => uptoBulkEntry x + uptoBulkEntries r
def uptoBulkEntry {H : Type} : Lit × DataW H → Nat
  | (.string bytes, d) => bytes.length + uptoBulk d + 1
  | (_, d) => uptoBulk d + 1
 end
def uptoSmall : (H : Type) → List (DataW H) → Bool := fun _ ds => decide (uptoBulkAll ds ≤ 1048576)
def OpenSpec.upto (s : _root_.Go.ChangeSpec) : _root_.Go.OpenSpec := { _root_.Go.OpenSpec.ofChange s with cond := some uptoSmall }

/-- 'compeerlaw03.ShaDigests', WHERE WHAT IT READS IS OF BULK AT MOST 1048576: true; the input reads as it did. -/
def shaDigestsUptoRow : OpenClaim := { program := "ytdmjliehobgknaa", sum := "701a0926f241217da35e9350179a21ddbc0bc94ac5acc71c52a3fd6ef3b50182", func := "compeer/compeerlaw03.ShaDigests", spec := "shaDigests", apart := false, narrowed := true }
def ShaDigestsUptoSaid : Prop := shaDigestsUptoRow.holds Try.pinned (OpenSpec.upto shaDigestsSpec)

/-- 'compeerlaw03.ShaParts', WHERE WHAT IT READS IS OF BULK AT MOST 1048576: true; the input reads as it did. -/
def shaPartsUptoRow : OpenClaim := { program := "ytdmjliehobgknaa", sum := "701a0926f241217da35e9350179a21ddbc0bc94ac5acc71c52a3fd6ef3b50182", func := "compeer/compeerlaw03.ShaParts", spec := "shaParts", apart := false, narrowed := true }
def ShaPartsUptoSaid : Prop := shaPartsUptoRow.holds Try.pinned (OpenSpec.upto shaPartsSpec)

/-- 'compeerlaw03.ShaApart', WHERE WHAT IT READS IS OF BULK AT MOST 1048576: true; the input reads as it did. -/
def shaApartUptoRow : OpenClaim := { program := "ytdmjliehobgknaa", sum := "701a0926f241217da35e9350179a21ddbc0bc94ac5acc71c52a3fd6ef3b50182", func := "compeer/compeerlaw03.ShaApart", spec := "shaApart", apart := false, narrowed := true }
def ShaApartUptoSaid : Prop := shaApartUptoRow.holds Try.pinned (OpenSpec.upto shaApartSpec)

/-- 'compeerlaw04.MacSums', WHERE WHAT IT READS IS OF BULK AT MOST 1048576: true; the input reads as it did. -/
def macSumsUptoRow : OpenClaim := { program := "ytdmjliehobgknaa", sum := "701a0926f241217da35e9350179a21ddbc0bc94ac5acc71c52a3fd6ef3b50182", func := "compeer/compeerlaw04.MacSums", spec := "macSums", apart := false, narrowed := true }
def MacSumsUptoSaid : Prop := macSumsUptoRow.holds Try.pinned (OpenSpec.upto macSumsSpec)

/-- 'compeerlaw04.MacKeys', WHERE WHAT IT READS IS OF BULK AT MOST 1048576: true; the input reads as it did. -/
def macKeysUptoRow : OpenClaim := { program := "ytdmjliehobgknaa", sum := "701a0926f241217da35e9350179a21ddbc0bc94ac5acc71c52a3fd6ef3b50182", func := "compeer/compeerlaw04.MacKeys", spec := "macKeys", apart := false, narrowed := true }
def MacKeysUptoSaid : Prop := macKeysUptoRow.holds Try.pinned (OpenSpec.upto macKeysSpec)

/-- 'compeerlaw04.MacParts', WHERE WHAT IT READS IS OF BULK AT MOST 1048576: true; the input reads as it did. -/
def macPartsUptoRow : OpenClaim := { program := "ytdmjliehobgknaa", sum := "701a0926f241217da35e9350179a21ddbc0bc94ac5acc71c52a3fd6ef3b50182", func := "compeer/compeerlaw04.MacParts", spec := "macParts", apart := false, narrowed := true }
def MacPartsUptoSaid : Prop := macPartsUptoRow.holds Try.pinned (OpenSpec.upto macPartsSpec)

/-- 'compeerlaw02.DerWrites', WHERE WHAT IT READS IS OF BULK AT MOST 1048576: true; the input reads as it did. -/
def derWritesUptoRow : OpenClaim := { program := "ytdmjliehobgknaa", sum := "701a0926f241217da35e9350179a21ddbc0bc94ac5acc71c52a3fd6ef3b50182", func := "compeer/compeerlaw02.DerWrites", spec := "derWrites", recurses := true, loops := true, apart := false, narrowed := true }
def DerWritesUptoSaid : Prop := derWritesUptoRow.holds Try.pinned (OpenSpec.upto derWritesSpec)

/-- 'compeerlaw02.DerReads', WHERE WHAT IT READS IS OF BULK AT MOST 1048576: true; the input reads as it did. -/
def derReadsUptoRow : OpenClaim := { program := "ytdmjliehobgknaa", sum := "701a0926f241217da35e9350179a21ddbc0bc94ac5acc71c52a3fd6ef3b50182", func := "compeer/compeerlaw02.DerReads", spec := "derReads", recurses := true, apart := false, narrowed := true }
def DerReadsUptoSaid : Prop := derReadsUptoRow.holds Try.pinned (OpenSpec.upto derReadsSpec)

/-- 'compeerlaw02.DerOne', WHERE WHAT IT READS IS OF BULK AT MOST 1048576: true; the input reads as it did. -/
def derOneUptoRow : OpenClaim := { program := "ytdmjliehobgknaa", sum := "701a0926f241217da35e9350179a21ddbc0bc94ac5acc71c52a3fd6ef3b50182", func := "compeer/compeerlaw02.DerOne", spec := "derOne", recurses := true, loops := true, apart := false, narrowed := true }
def DerOneUptoSaid : Prop := derOneUptoRow.holds Try.pinned (OpenSpec.upto derOneSpec)

/-- 'compeerlaw02.DerNests', WHERE WHAT IT READS IS OF BULK AT MOST 1048576: true; the input reads as it did. -/
def derNestsUptoRow : OpenClaim := { program := "ytdmjliehobgknaa", sum := "701a0926f241217da35e9350179a21ddbc0bc94ac5acc71c52a3fd6ef3b50182", func := "compeer/compeerlaw02.DerNests", spec := "derNests", recurses := true, loops := true, apart := false, narrowed := true }
def DerNestsUptoSaid : Prop := derNestsUptoRow.holds Try.pinned (OpenSpec.upto derNestsSpec)

end Rows
end Go.Proofs.Ytdmjliehobgknaa
