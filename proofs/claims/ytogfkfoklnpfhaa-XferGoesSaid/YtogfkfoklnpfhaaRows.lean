/-
  No cell of these rows narrows 'for every input' (looked for: loops, veiled, ifaces, maps, wideKeys, modest, calm, conditions, laid).
  DERIVED. THE GIVEN ROWS OF THIS SEAT. 3 by the template 'for every input the law returns true; each argument reads behind the call as it read before'; 0 by the template 'total and deterministic' (their statements: YtogfkfoklnpfhaaTotals.lean).
  GIVEN WITH THE SEED: the statements are not yours to turn. If you find one false, say at which input.
  Laid BY PROGRAM, IN A SANDBOX (cutbox-rows.mjs): the forced cells as the released guide's own fill.sh prints them over the translation f30b5f3187d03ade… (all of the seat's roots in one cut). By AI agents, Wed Nov 11 2026. No macro, syntax, notation, axiom, sorry.
-/
import Derived.Test.YtogfkfoklnpfhaaChecked
import GoSem.Claim
import GoSem.ClaimJoined
import GoSem.ClaimMapViews
import Derived.JoinedTies
import Derived.KernelRfl
namespace Go.Proofs.Ytogfkfoklnpfhaa
/- THE CELL 'sum', in the pinned program and in every row, IS THE sha256 OF THE DUMP (.gsa) THAT YtogfkfoklnpfhaaProg.lean LOADS. Nothing in Lean hashes anything: it is a label: what it is worth is what the hold of that sum in a sandbox is worth. -/
noncomputable def Try.pinned : Pinned := { name := "ytogfkfoklnpfhaa", sum := "f30b5f3187d03ade0f28ded0bb60bfc23a6fa61b30c7ef7183de66511e84ee2a", checked := Try.checked }
namespace Rows
def none {H : Type} : Left H := { results := [], args := [] }

/-- 'compeerlaw21.XferGoes': WHATEVER THE INPUT: true; the input reads as it did. -/
def xferGoesSpec : ChangeSpec := { name := "xferGoes", fn := fun _ => fun
  | [d1, d2] => { results := [.lit (.bool true)], args := [d1, d2] }
  | _ => none }
def xferGoesRow : OpenClaim := { program := "ytogfkfoklnpfhaa", sum := "f30b5f3187d03ade0f28ded0bb60bfc23a6fa61b30c7ef7183de66511e84ee2a", func := "compeer/compeerlaw21.XferGoes", spec := "xferGoes", unfollowed := true, recurses := true, plainKeys := false, apart := false }
def XferGoesSaid : Prop := xferGoesRow.holds Try.pinned (OpenSpec.ofChange xferGoesSpec)

/-- ITS FALSE NEIGHBOUR: 'it returns false'. Refute it at one input. -/
def xferGoesWrong : ChangeSpec := { name := "xferGoes", fn := fun _ => fun
  | [d1, d2] => { results := [.lit (.bool false)], args := [d1, d2] }
  | _ => none }
def XferGoesWrongFalsely : Prop := xferGoesRow.holds Try.pinned (OpenSpec.ofChange xferGoesWrong)

/-- 'compeerlaw21.XferEnds': WHATEVER THE INPUT: true; the input reads as it did. -/
def xferEndsSpec : ChangeSpec := { name := "xferEnds", fn := fun _ => fun
  | [d1, d2, d3] => { results := [.lit (.bool true)], args := [d1, d2, d3] }
  | _ => none }
def xferEndsRow : OpenClaim := { program := "ytogfkfoklnpfhaa", sum := "f30b5f3187d03ade0f28ded0bb60bfc23a6fa61b30c7ef7183de66511e84ee2a", func := "compeer/compeerlaw21.XferEnds", spec := "xferEnds", unfollowed := true, recurses := true, plainKeys := false, apart := false }
def XferEndsSaid : Prop := xferEndsRow.holds Try.pinned (OpenSpec.ofChange xferEndsSpec)

/-- ITS FALSE NEIGHBOUR: 'it returns false'. Refute it at one input. -/
def xferEndsWrong : ChangeSpec := { name := "xferEnds", fn := fun _ => fun
  | [d1, d2, d3] => { results := [.lit (.bool false)], args := [d1, d2, d3] }
  | _ => none }
def XferEndsWrongFalsely : Prop := xferEndsRow.holds Try.pinned (OpenSpec.ofChange xferEndsWrong)

/-- 'compeerlaw21.XferTakes': WHATEVER THE INPUT: true; the input reads as it did. -/
def xferTakesSpec : ChangeSpec := { name := "xferTakes", fn := fun _ => fun
  | [d1, d2, d3] => { results := [.lit (.bool true)], args := [d1, d2, d3] }
  | _ => none }
def xferTakesRow : OpenClaim := { program := "ytogfkfoklnpfhaa", sum := "f30b5f3187d03ade0f28ded0bb60bfc23a6fa61b30c7ef7183de66511e84ee2a", func := "compeer/compeerlaw21.XferTakes", spec := "xferTakes", unfollowed := true, recurses := true, plainKeys := false, apart := false }
def XferTakesSaid : Prop := xferTakesRow.holds Try.pinned (OpenSpec.ofChange xferTakesSpec)

/-- ITS FALSE NEIGHBOUR: 'it returns false'. Refute it at one input. -/
def xferTakesWrong : ChangeSpec := { name := "xferTakes", fn := fun _ => fun
  | [d1, d2, d3] => { results := [.lit (.bool false)], args := [d1, d2, d3] }
  | _ => none }
def XferTakesWrongFalsely : Prop := xferTakesRow.holds Try.pinned (OpenSpec.ofChange xferTakesWrong)

/- THE SECOND FORM. 'bulk': how many values and letters a reading holds, each counted each time it is reached (what is shared counts as often as it is met; a slice's spare places count too). A statement '..UptoSaid' is the law's where the arguments, and the package variables that the reading takes, are together of bulk at most 1048576: NARROWER than '..Said'. Prove '..Said' where nothing that the law and all that it calls make is longer than what came in: it says more and counts as full. Else prove '..UptoSaid'. A law counts once. -/
mutual
def uptoBulk {H : Type} : DataW H → Nat
  | .lit (.string bytes) => bytes.length + 1
  | .lit _ => 1
  | .nil => 1
  | .ptr d => uptoBulk d + 1
  | .slice elems spare => uptoBulkAll elems + uptoBulkAll spare + 1
  | .agg parts => uptoBulkAll parts + 1
  | .iface _ d => uptoBulk d + 1
  | .map entries => uptoBulkEntries entries + 1
  | .held _ => 1
def uptoBulkAll {H : Type} : List (DataW H) → Nat
  | [] => 0
  | d :: r => uptoBulk d + uptoBulkAll r
def uptoBulkEntries {H : Type} : List (Lit × DataW H) → Nat
  | [] => 0
  | x :: r => uptoBulkEntry x + uptoBulkEntries r
def uptoBulkEntry {H : Type} : Lit × DataW H → Nat
  | (.string bytes, d) => bytes.length + uptoBulk d + 1
  | (_, d) => uptoBulk d + 1
 end
def uptoSmall : (H : Type) → List (DataW H) → Bool := fun _ ds => decide (uptoBulkAll ds ≤ 1048576)
def OpenSpec.upto (s : _root_.Go.ChangeSpec) : _root_.Go.OpenSpec := { _root_.Go.OpenSpec.ofChange s with cond := some uptoSmall }

/-- 'compeerlaw21.XferGoes', WHERE WHAT IT READS IS OF BULK AT MOST 1048576: true; the input reads as it did. -/
def xferGoesUptoRow : OpenClaim := { program := "ytogfkfoklnpfhaa", sum := "f30b5f3187d03ade0f28ded0bb60bfc23a6fa61b30c7ef7183de66511e84ee2a", func := "compeer/compeerlaw21.XferGoes", spec := "xferGoes", unfollowed := true, recurses := true, plainKeys := false, apart := false, narrowed := true }
def XferGoesUptoSaid : Prop := xferGoesUptoRow.holds Try.pinned (OpenSpec.upto xferGoesSpec)

/-- 'compeerlaw21.XferEnds', WHERE WHAT IT READS IS OF BULK AT MOST 1048576: true; the input reads as it did. -/
def xferEndsUptoRow : OpenClaim := { program := "ytogfkfoklnpfhaa", sum := "f30b5f3187d03ade0f28ded0bb60bfc23a6fa61b30c7ef7183de66511e84ee2a", func := "compeer/compeerlaw21.XferEnds", spec := "xferEnds", unfollowed := true, recurses := true, plainKeys := false, apart := false, narrowed := true }
def XferEndsUptoSaid : Prop := xferEndsUptoRow.holds Try.pinned (OpenSpec.upto xferEndsSpec)

/-- 'compeerlaw21.XferTakes', WHERE WHAT IT READS IS OF BULK AT MOST 1048576: true; the input reads as it did. -/
def xferTakesUptoRow : OpenClaim := { program := "ytogfkfoklnpfhaa", sum := "f30b5f3187d03ade0f28ded0bb60bfc23a6fa61b30c7ef7183de66511e84ee2a", func := "compeer/compeerlaw21.XferTakes", spec := "xferTakes", unfollowed := true, recurses := true, plainKeys := false, apart := false, narrowed := true }
def XferTakesUptoSaid : Prop := xferTakesUptoRow.holds Try.pinned (OpenSpec.upto xferTakesSpec)

end Rows
end Go.Proofs.Ytogfkfoklnpfhaa
