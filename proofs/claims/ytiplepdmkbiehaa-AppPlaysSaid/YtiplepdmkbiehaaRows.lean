/-
  No cell of these rows narrows 'for every input' (looked for: loops, veiled, ifaces, maps, wideKeys, modest, calm, conditions, laid).
  DERIVED. THE GIVEN ROWS OF THIS SEAT. 3 by the template 'for every input the law returns true; each argument reads behind the call as it read before'; 0 by the template 'total and deterministic' (their statements: YtiplepdmkbiehaaTotals.lean).
  GIVEN WITH THE SEED: the statements are not yours to turn. If you find one false, say at which input.
  Laid BY PROGRAM, IN A SANDBOX (cutbox-rows.mjs): the forced cells as the released guide's own fill.sh prints them over the translation 7a6bca3343d65cfc… (all of the seat's roots in one cut). By AI agents, Wed Nov 11 2026. No macro, syntax, notation, axiom, sorry.
-/
import Derived.Test.YtiplepdmkbiehaaChecked
import GoSem.Claim
import GoSem.ClaimJoined
import GoSem.ClaimMapViews
import Derived.JoinedTies
import Derived.KernelRfl
namespace Go.Proofs.Ytiplepdmkbiehaa
/- THE CELL 'sum', in the pinned program and in every row, IS THE sha256 OF THE DUMP (.gsa) THAT YtiplepdmkbiehaaProg.lean LOADS. Nothing in Lean hashes anything: it is a label: what it is worth is what the hold of that sum in a sandbox is worth. -/
noncomputable def Try.pinned : Pinned := { name := "ytiplepdmkbiehaa", sum := "7a6bca3343d65cfc3a6bbc5810bcfe4889ea6d9f655a3cb1717e0981e9654b6c", checked := Try.checked }
namespace Rows
def none {H : Type} : Left H := { results := [], args := [] }

/-- 'compeerlaw22.AppQuotas': WHATEVER THE INPUT: true; the input reads as it did. -/
def appQuotasSpec : ChangeSpec := { name := "appQuotas", fn := fun _ => fun
  | [d1, d2, d3] => { results := [.lit (.bool true)], args := [d1, d2, d3] }
  | _ => none }
def appQuotasRow : OpenClaim := { program := "ytiplepdmkbiehaa", sum := "7a6bca3343d65cfc3a6bbc5810bcfe4889ea6d9f655a3cb1717e0981e9654b6c", func := "compeer/compeerlaw22.AppQuotas", spec := "appQuotas", unfollowed := true, recurses := true, plainKeys := false, apart := false }
def AppQuotasSaid : Prop := appQuotasRow.holds Try.pinned (OpenSpec.ofChange appQuotasSpec)

/-- ITS FALSE NEIGHBOUR: 'it returns false'. Refute it at one input. -/
def appQuotasWrong : ChangeSpec := { name := "appQuotas", fn := fun _ => fun
  | [d1, d2, d3] => { results := [.lit (.bool false)], args := [d1, d2, d3] }
  | _ => none }
def AppQuotasWrongFalsely : Prop := appQuotasRow.holds Try.pinned (OpenSpec.ofChange appQuotasWrong)

/-- 'compeerlaw22.AppPlays': WHATEVER THE INPUT: true; the input reads as it did. -/
def appPlaysSpec : ChangeSpec := { name := "appPlays", fn := fun _ => fun
  | [d] => { results := [.lit (.bool true)], args := [d] }
  | _ => none }
def appPlaysRow : OpenClaim := { program := "ytiplepdmkbiehaa", sum := "7a6bca3343d65cfc3a6bbc5810bcfe4889ea6d9f655a3cb1717e0981e9654b6c", func := "compeer/compeerlaw22.AppPlays", spec := "appPlays", unfollowed := true, recurses := true, plainKeys := false, apart := false }
def AppPlaysSaid : Prop := appPlaysRow.holds Try.pinned (OpenSpec.ofChange appPlaysSpec)

/-- ITS FALSE NEIGHBOUR: 'it returns false'. Refute it at one input. -/
def appPlaysWrong : ChangeSpec := { name := "appPlays", fn := fun _ => fun
  | [d] => { results := [.lit (.bool false)], args := [d] }
  | _ => none }
def AppPlaysWrongFalsely : Prop := appPlaysRow.holds Try.pinned (OpenSpec.ofChange appPlaysWrong)

/-- 'compeerlaw22.AppEnds': WHATEVER THE INPUT: true; the input reads as it did. -/
def appEndsSpec : ChangeSpec := { name := "appEnds", fn := fun _ => fun
  | [d] => { results := [.lit (.bool true)], args := [d] }
  | _ => none }
def appEndsRow : OpenClaim := { program := "ytiplepdmkbiehaa", sum := "7a6bca3343d65cfc3a6bbc5810bcfe4889ea6d9f655a3cb1717e0981e9654b6c", func := "compeer/compeerlaw22.AppEnds", spec := "appEnds", unfollowed := true, recurses := true, plainKeys := false, apart := false }
def AppEndsSaid : Prop := appEndsRow.holds Try.pinned (OpenSpec.ofChange appEndsSpec)

/-- ITS FALSE NEIGHBOUR: 'it returns false'. Refute it at one input. -/
def appEndsWrong : ChangeSpec := { name := "appEnds", fn := fun _ => fun
  | [d] => { results := [.lit (.bool false)], args := [d] }
  | _ => none }
def AppEndsWrongFalsely : Prop := appEndsRow.holds Try.pinned (OpenSpec.ofChange appEndsWrong)

/- THE SECOND FORM. 'bulk': how many values and letters a reading holds, each counted each time it is reached (what is shared counts as often as it is met; a slice's spare places count too). A statement '..UptoSaid' is the law's where the arguments, and the package variables that the reading takes, are together of bulk at most 1048576: NARROWER than '..Said'. Prove '..Said' where nothing that the law and all that it calls make is longer than what came in: it says more and counts as full. Else prove '..UptoSaid'. A law counts once. -/
mutual
def uptoBulk {H : Type} : DataW H → Nat
  | .lit (.string bytes) => bytes.length + 1
  | .lit _ => 1
  | .nil => 1
  | .ptr d => uptoBulk d + 1
  | .slice elems spare => uptoBulkAll elems + uptoBulkAll spare + 1
  | .agg parts => uptoBulkAll parts + 1
  | .iface _ d => uptoBulk d + 1
  | .map entries => uptoBulkEntries entries + 1
  | .held _ => 1
def uptoBulkAll {H : Type} : List (DataW H) → Nat
  | [] => 0
  | d :: r => uptoBulk d + uptoBulkAll r
def uptoBulkEntries {H : Type} : List (Lit × DataW H) → Nat
  | [] => 0
  | x :: r => uptoBulkEntry x + uptoBulkEntries r
def uptoBulkEntry {H : Type} : Lit × DataW H → Nat
  | (.string bytes, d) => bytes.length + uptoBulk d + 1
  | (_, d) => uptoBulk d + 1
 end
def uptoSmall : (H : Type) → List (DataW H) → Bool := fun _ ds => decide (uptoBulkAll ds ≤ 1048576)
def OpenSpec.upto (s : _root_.Go.ChangeSpec) : _root_.Go.OpenSpec := { _root_.Go.OpenSpec.ofChange s with cond := some uptoSmall }

/-- 'compeerlaw22.AppQuotas', WHERE WHAT IT READS IS OF BULK AT MOST 1048576: true; the input reads as it did. -/
def appQuotasUptoRow : OpenClaim := { program := "ytiplepdmkbiehaa", sum := "7a6bca3343d65cfc3a6bbc5810bcfe4889ea6d9f655a3cb1717e0981e9654b6c", func := "compeer/compeerlaw22.AppQuotas", spec := "appQuotas", unfollowed := true, recurses := true, plainKeys := false, apart := false, narrowed := true }
def AppQuotasUptoSaid : Prop := appQuotasUptoRow.holds Try.pinned (OpenSpec.upto appQuotasSpec)

/-- 'compeerlaw22.AppPlays', WHERE WHAT IT READS IS OF BULK AT MOST 1048576: true; the input reads as it did. -/
def appPlaysUptoRow : OpenClaim := { program := "ytiplepdmkbiehaa", sum := "7a6bca3343d65cfc3a6bbc5810bcfe4889ea6d9f655a3cb1717e0981e9654b6c", func := "compeer/compeerlaw22.AppPlays", spec := "appPlays", unfollowed := true, recurses := true, plainKeys := false, apart := false, narrowed := true }
def AppPlaysUptoSaid : Prop := appPlaysUptoRow.holds Try.pinned (OpenSpec.upto appPlaysSpec)

/-- 'compeerlaw22.AppEnds', WHERE WHAT IT READS IS OF BULK AT MOST 1048576: true; the input reads as it did. -/
def appEndsUptoRow : OpenClaim := { program := "ytiplepdmkbiehaa", sum := "7a6bca3343d65cfc3a6bbc5810bcfe4889ea6d9f655a3cb1717e0981e9654b6c", func := "compeer/compeerlaw22.AppEnds", spec := "appEnds", unfollowed := true, recurses := true, plainKeys := false, apart := false, narrowed := true }
def AppEndsUptoSaid : Prop := appEndsUptoRow.holds Try.pinned (OpenSpec.upto appEndsSpec)

end Rows
end Go.Proofs.Ytiplepdmkbiehaa
