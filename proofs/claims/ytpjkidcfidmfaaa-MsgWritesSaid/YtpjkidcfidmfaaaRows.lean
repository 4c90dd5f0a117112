/-
  No cell of these rows narrows 'for every input' (looked for: loops, veiled, ifaces, maps, wideKeys, modest, calm, conditions, laid).
  DERIVED. THE GIVEN ROWS OF THIS SEAT. 2 by the template 'for every input the law returns true; each argument reads behind the call as it read before'; 0 by the template 'total and deterministic' (their statements: YtpjkidcfidmfaaaTotals.lean).
  GIVEN WITH THE SEED: the statements are not yours to turn. If you find one false, say at which input.
  Laid BY PROGRAM, IN A SANDBOX (cutbox-rows.mjs): the forced cells as the released guide's own fill.sh prints them over the translation 2baf880dcfa700f3… (all of the seat's roots in one cut). By AI agents, Wed Nov 11 2026. No macro, syntax, notation, axiom, sorry.
-/
import Derived.Test.YtpjkidcfidmfaaaChecked
import GoSem.Claim
import GoSem.ClaimJoined
import GoSem.ClaimMapViews
import Derived.JoinedTies
import Derived.KernelRfl
namespace Go.Proofs.Ytpjkidcfidmfaaa
/- THE CELL 'sum', in the pinned program and in every row, IS THE sha256 OF THE DUMP (.gsa) THAT YtpjkidcfidmfaaaProg.lean LOADS. Nothing in Lean hashes anything: it is a label: what it is worth is what the hold of that sum in a sandbox is worth. -/
noncomputable def Try.pinned : Pinned := { name := "ytpjkidcfidmfaaa", sum := "2baf880dcfa700f3830dc24957b0be42f06f543f1d41e7f81d0bfe79d89abe5a", checked := Try.checked }
namespace Rows
def none {H : Type} : Left H := { results := [], args := [] }

/-- 'compeerlaw11.MsgReads': WHATEVER THE INPUT: true; the input reads as it did. -/
def msgReadsSpec : ChangeSpec := { name := "msgReads", fn := fun _ => fun
  | [d] => { results := [.lit (.bool true)], args := [d] }
  | _ => none }
def msgReadsRow : OpenClaim := { program := "ytpjkidcfidmfaaa", sum := "2baf880dcfa700f3830dc24957b0be42f06f543f1d41e7f81d0bfe79d89abe5a", func := "compeer/compeerlaw11.MsgReads", spec := "msgReads", recurses := true, apart := false }
def MsgReadsSaid : Prop := msgReadsRow.holds Try.pinned (OpenSpec.ofChange msgReadsSpec)

/-- ITS FALSE NEIGHBOUR: 'it returns false'. Refute it at one input. -/
def msgReadsWrong : ChangeSpec := { name := "msgReads", fn := fun _ => fun
  | [d] => { results := [.lit (.bool false)], args := [d] }
  | _ => none }
def MsgReadsWrongFalsely : Prop := msgReadsRow.holds Try.pinned (OpenSpec.ofChange msgReadsWrong)

/-- 'compeerlaw11.MsgWrites': WHATEVER THE INPUT: true; the input reads as it did. -/
def msgWritesSpec : ChangeSpec := { name := "msgWrites", fn := fun _ => fun
  | [d] => { results := [.lit (.bool true)], args := [d] }
  | _ => none }
def msgWritesRow : OpenClaim := { program := "ytpjkidcfidmfaaa", sum := "2baf880dcfa700f3830dc24957b0be42f06f543f1d41e7f81d0bfe79d89abe5a", func := "compeer/compeerlaw11.MsgWrites", spec := "msgWrites", recurses := true, apart := false }
def MsgWritesSaid : Prop := msgWritesRow.holds Try.pinned (OpenSpec.ofChange msgWritesSpec)

/-- ITS FALSE NEIGHBOUR: 'it returns false'. Refute it at one input. -/
def msgWritesWrong : ChangeSpec := { name := "msgWrites", fn := fun _ => fun
  | [d] => { results := [.lit (.bool false)], args := [d] }
  | _ => none }
def MsgWritesWrongFalsely : Prop := msgWritesRow.holds Try.pinned (OpenSpec.ofChange msgWritesWrong)

/- THE SECOND FORM. 'bulk': how many values and letters a reading holds, each counted each time it is reached (what is shared counts as often as it is met; a slice's spare places count too). A statement '..UptoSaid' is the law's where the arguments, and the package variables that the reading takes, are together of bulk at most 1048576: NARROWER than '..Said'. Prove '..Said' where nothing that the law and all that it calls make is longer than what came in: it says more and counts as full. Else prove '..UptoSaid'. A law counts once. -/
mutual
def uptoBulk {H : Type} : DataW H → Nat
  | .lit (.string bytes) => bytes.length + 1
  | .lit _ => 1
  | .nil => 1
  | .ptr d => uptoBulk d + 1
  | .slice elems spare => uptoBulkAll elems + uptoBulkAll spare + 1
  | .agg parts => uptoBulkAll parts + 1
  | .iface _ d => uptoBulk d + 1
  | .map entries => uptoBulkEntries entries + 1
  | .held _ => 1
def uptoBulkAll {H : Type} : List (DataW H) → Nat
  | [] => 0
  | d :: r => uptoBulk d + uptoBulkAll r
def uptoBulkEntries {H : Type} : List (Lit × DataW H) → Nat
  | [] => 0
  | x :: r => uptoBulkEntry x + uptoBulkEntries r
def uptoBulkEntry {H : Type} : Lit × DataW H → Nat
  | (.string bytes, d) => bytes.length + uptoBulk d + 1
  | (_, d) => uptoBulk d + 1
 end
def uptoSmall : (H : Type) → List (DataW H) → Bool := fun _ ds => decide (uptoBulkAll ds ≤ 1048576)
def OpenSpec.upto (s : _root_.Go.ChangeSpec) : _root_.Go.OpenSpec := { _root_.Go.OpenSpec.ofChange s with cond := some uptoSmall }

/-- 'compeerlaw11.MsgReads', WHERE WHAT IT READS IS OF BULK AT MOST 1048576: true; the input reads as it did. -/
def msgReadsUptoRow : OpenClaim := { program := "ytpjkidcfidmfaaa", sum := "2baf880dcfa700f3830dc24957b0be42f06f543f1d41e7f81d0bfe79d89abe5a", func := "compeer/compeerlaw11.MsgReads", spec := "msgReads", recurses := true, apart := false, narrowed := true }
def MsgReadsUptoSaid : Prop := msgReadsUptoRow.holds Try.pinned (OpenSpec.upto msgReadsSpec)

/-- 'compeerlaw11.MsgWrites', WHERE WHAT IT READS IS OF BULK AT MOST 1048576: true; the input reads as it did. -/
def msgWritesUptoRow : OpenClaim := { program := "ytpjkidcfidmfaaa", sum := "2baf880dcfa700f3830dc24957b0be42f06f543f1d41e7f81d0bfe79d89abe5a", func := "compeer/compeerlaw11.MsgWrites", spec := "msgWrites", recurses := true, apart := false, narrowed := true }
def MsgWritesUptoSaid : Prop := msgWritesUptoRow.holds Try.pinned (OpenSpec.upto msgWritesSpec)

end Rows
end Go.Proofs.Ytpjkidcfidmfaaa
