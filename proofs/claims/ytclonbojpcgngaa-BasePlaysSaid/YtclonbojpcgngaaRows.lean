/-
  No cell of these rows narrows 'for every input' (looked for: loops, veiled, ifaces, maps, wideKeys, modest, calm, conditions, laid).
  DERIVED. THE GIVEN ROWS OF THIS SEAT. 3 by the template 'for every input the law returns true; each argument reads behind the call as it read before'; 0 by the template 'total and deterministic' (their statements: YtclonbojpcgngaaTotals.lean).
  GIVEN WITH THE SEED: the statements are not yours to turn. If you find one false, say at which input.
  Laid BY PROGRAM, IN A SANDBOX (cutbox-rows.mjs): the forced cells as the released guide's own fill.sh prints them over the translation d663f01fea9426e3… (all of the seat's roots in one cut). By AI agents, Wed Nov 11 2026. No macro, syntax, notation, axiom, sorry.
-/
import Derived.Test.YtclonbojpcgngaaChecked
import GoSem.Claim
import GoSem.ClaimJoined
import GoSem.ClaimMapViews
import Derived.JoinedTies
import Derived.KernelRfl
namespace Go.Proofs.Ytclonbojpcgngaa
/- THE CELL 'sum', in the pinned program and in every row, IS THE sha256 OF THE DUMP (.gsa) THAT YtclonbojpcgngaaProg.lean LOADS. Nothing in Lean hashes anything: it is a label: what it is worth is what the hold of that sum in a sandbox is worth. -/
noncomputable def Try.pinned : Pinned := { name := "ytclonbojpcgngaa", sum := "d663f01fea9426e32c1ce8ae072675409136d5c093caa300d4cb992c9a8d0a7d", checked := Try.checked }
namespace Rows
def none {H : Type} : Left H := { results := [], args := [] }

/-- 'compeerlaw13.BasePlays': WHATEVER THE INPUT: true; the input reads as it did. -/
def basePlaysSpec : ChangeSpec := { name := "basePlays", fn := fun _ => fun
  | [d] => { results := [.lit (.bool true)], args := [d] }
  | _ => none }
def basePlaysRow : OpenClaim := { program := "ytclonbojpcgngaa", sum := "d663f01fea9426e32c1ce8ae072675409136d5c093caa300d4cb992c9a8d0a7d", func := "compeer/compeerlaw13.BasePlays", spec := "basePlays", inPlace := ["internal/bytealg.abigen_runtime_cmpstring", "slices.overlaps[compeer/base.User]"], unfollowed := true, recurses := true, apart := false }
def BasePlaysSaid : Prop := basePlaysRow.holds Try.pinned (OpenSpec.ofChange basePlaysSpec)

/-- ITS FALSE NEIGHBOUR: 'it returns false'. Refute it at one input. -/
def basePlaysWrong : ChangeSpec := { name := "basePlays", fn := fun _ => fun
  | [d] => { results := [.lit (.bool false)], args := [d] }
  | _ => none }
def BasePlaysWrongFalsely : Prop := basePlaysRow.holds Try.pinned (OpenSpec.ofChange basePlaysWrong)

/-- 'compeerlaw13.BaseBooks': WHATEVER THE INPUT: true; the input reads as it did. -/
def baseBooksSpec : ChangeSpec := { name := "baseBooks", fn := fun _ => fun
  | [d] => { results := [.lit (.bool true)], args := [d] }
  | _ => none }
def baseBooksRow : OpenClaim := { program := "ytclonbojpcgngaa", sum := "d663f01fea9426e32c1ce8ae072675409136d5c093caa300d4cb992c9a8d0a7d", func := "compeer/compeerlaw13.BaseBooks", spec := "baseBooks", inPlace := ["internal/bytealg.abigen_runtime_cmpstring", "slices.overlaps[compeer/base.User]"], unfollowed := true, recurses := true, apart := false }
def BaseBooksSaid : Prop := baseBooksRow.holds Try.pinned (OpenSpec.ofChange baseBooksSpec)

/-- ITS FALSE NEIGHBOUR: 'it returns false'. Refute it at one input. -/
def baseBooksWrong : ChangeSpec := { name := "baseBooks", fn := fun _ => fun
  | [d] => { results := [.lit (.bool false)], args := [d] }
  | _ => none }
def BaseBooksWrongFalsely : Prop := baseBooksRow.holds Try.pinned (OpenSpec.ofChange baseBooksWrong)

/-- 'compeerlaw13.BaseBack': WHATEVER THE INPUT: true; the input reads as it did. -/
def baseBackSpec : ChangeSpec := { name := "baseBack", fn := fun _ => fun
  | [d1, d2] => { results := [.lit (.bool true)], args := [d1, d2] }
  | _ => none }
def baseBackRow : OpenClaim := { program := "ytclonbojpcgngaa", sum := "d663f01fea9426e32c1ce8ae072675409136d5c093caa300d4cb992c9a8d0a7d", func := "compeer/compeerlaw13.BaseBack", spec := "baseBack", inPlace := ["internal/bytealg.abigen_runtime_cmpstring", "slices.overlaps[compeer/base.User]"], unfollowed := true, recurses := true, apart := false }
def BaseBackSaid : Prop := baseBackRow.holds Try.pinned (OpenSpec.ofChange baseBackSpec)

/-- ITS FALSE NEIGHBOUR: 'it returns false'. Refute it at one input. -/
def baseBackWrong : ChangeSpec := { name := "baseBack", fn := fun _ => fun
  | [d1, d2] => { results := [.lit (.bool false)], args := [d1, d2] }
  | _ => none }
def BaseBackWrongFalsely : Prop := baseBackRow.holds Try.pinned (OpenSpec.ofChange baseBackWrong)

/- THE SECOND FORM. 'bulk': how many values and letters a reading holds, each counted each time it is reached (what is shared counts as often as it is met; a slice's spare places count too). A statement '..UptoSaid' is the law's where the arguments, and the package variables that the reading takes, are together of bulk at most 1048576: NARROWER than '..Said'. Prove '..Said' where nothing that the law and all that it calls make is longer than what came in: it says more and counts as full. Else prove '..UptoSaid'. A law counts once. -/
mutual
def uptoBulk {H : Type} : DataW H → Nat
  | .lit (.string bytes) => bytes.length + 1
  | .lit _ => 1
  | .nil => 1
  | .ptr d => uptoBulk d + 1
  | .slice elems spare => uptoBulkAll elems + uptoBulkAll spare + 1
  | .agg parts => uptoBulkAll parts + 1
  | .iface _ d => uptoBulk d + 1
  | .map entries => uptoBulkEntries entries + 1
  | .held _ => 1
def uptoBulkAll {H : Type} : List (DataW H) → Nat
  | [] => 0
  | d :: r => uptoBulk d + uptoBulkAll r
def uptoBulkEntries {H : Type} : List (Lit × DataW H) → Nat
  | [] => 0
  | x :: r => uptoBulkEntry x + uptoBulkEntries r
def uptoBulkEntry {H : Type} : Lit × DataW H → Nat
  | (.string bytes, d) => bytes.length + uptoBulk d + 1
  | (_, d) => uptoBulk d + 1
 end
def uptoSmall : (H : Type) → List (DataW H) → Bool := fun _ ds => decide (uptoBulkAll ds ≤ 1048576)
def OpenSpec.upto (s : _root_.Go.ChangeSpec) : _root_.Go.OpenSpec := { _root_.Go.OpenSpec.ofChange s with cond := some uptoSmall }

/-- 'compeerlaw13.BasePlays', WHERE WHAT IT READS IS OF BULK AT MOST 1048576: true; the input reads as it did. -/
def basePlaysUptoRow : OpenClaim := { program := "ytclonbojpcgngaa", sum := "d663f01fea9426e32c1ce8ae072675409136d5c093caa300d4cb992c9a8d0a7d", func := "compeer/compeerlaw13.BasePlays", spec := "basePlays", inPlace := ["internal/bytealg.abigen_runtime_cmpstring", "slices.overlaps[compeer/base.User]"], unfollowed := true, recurses := true, apart := false, narrowed := true }
def BasePlaysUptoSaid : Prop := basePlaysUptoRow.holds Try.pinned (OpenSpec.upto basePlaysSpec)

/-- 'compeerlaw13.BaseBooks', WHERE WHAT IT READS IS OF BULK AT MOST 1048576: true; the input reads as it did. -/
def baseBooksUptoRow : OpenClaim := { program := "ytclonbojpcgngaa", sum := "d663f01fea9426e32c1ce8ae072675409136d5c093caa300d4cb992c9a8d0a7d", func := "compeer/compeerlaw13.BaseBooks", spec := "baseBooks", inPlace := ["internal/bytealg.abigen_runtime_cmpstring", "slices.overlaps[compeer/base.User]"], unfollowed := true, recurses := true, apart := false, narrowed := true }
def BaseBooksUptoSaid : Prop := baseBooksUptoRow.holds Try.pinned (OpenSpec.upto baseBooksSpec)

/-- 'compeerlaw13.BaseBack', WHERE WHAT IT READS IS OF BULK AT MOST 1048576: true; the input reads as it did. -/
def baseBackUptoRow : OpenClaim := { program := "ytclonbojpcgngaa", sum := "d663f01fea9426e32c1ce8ae072675409136d5c093caa300d4cb992c9a8d0a7d", func := "compeer/compeerlaw13.BaseBack", spec := "baseBack", inPlace := ["internal/bytealg.abigen_runtime_cmpstring", "slices.overlaps[compeer/base.User]"], unfollowed := true, recurses := true, apart := false, narrowed := true }
def BaseBackUptoSaid : Prop := baseBackUptoRow.holds Try.pinned (OpenSpec.upto baseBackSpec)

end Rows
end Go.Proofs.Ytclonbojpcgngaa
