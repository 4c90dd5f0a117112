/-
  No cell of these rows narrows 'for every input' (looked for: loops, veiled, ifaces, maps, wideKeys, modest, calm, conditions, laid).
  DERIVED. THE GIVEN ROWS OF THIS SEAT. 12 by the template 'for every input the law returns true; each argument reads behind the call as it read before'; 0 by the template 'total and deterministic' (their statements: YtppmjmginpkgaaaTotals.lean).
  GIVEN WITH THE SEED: the statements are not yours to turn. If you find one false, say at which input.
  Laid BY PROGRAM, IN A SANDBOX (cutbox-rows.mjs): the forced cells as the released guide's own fill.sh prints them over the translation 9bddad8f416637b8… (all of the seat's roots in one cut). By AI agents, Wed Nov 11 2026. No macro, syntax, notation, axiom, sorry.
-/
import Derived.Test.YtppmjmginpkgaaaChecked
import GoSem.Claim
import GoSem.ClaimJoined
import GoSem.ClaimMapViews
import Derived.JoinedTies
import Derived.KernelRfl
namespace Go.Proofs.Ytppmjmginpkgaaa
/- THE CELL 'sum', in the pinned program and in every row, IS THE sha256 OF THE DUMP (.gsa) THAT YtppmjmginpkgaaaProg.lean LOADS. Nothing in Lean hashes anything: it is a label: what it is worth is what the hold of that sum in a sandbox is worth. -/
noncomputable def Try.pinned : Pinned := { name := "ytppmjmginpkgaaa", sum := "9bddad8f416637b86f530368f204162837cc34e6614a17c640018ebe60fe730a", checked := Try.checked }
namespace Rows
def none {H : Type} : Left H := { results := [], args := [] }

/-- 'compeerlaw12.CacheOnce': WHATEVER THE INPUT: true; the input reads as it did. -/
def cacheOnceSpec : ChangeSpec := { name := "cacheOnce", fn := fun _ => fun
  | [d1, d2] => { results := [.lit (.bool true)], args := [d1, d2] }
  | _ => none }
def cacheOnceRow : OpenClaim := { program := "ytppmjmginpkgaaa", sum := "9bddad8f416637b86f530368f204162837cc34e6614a17c640018ebe60fe730a", func := "compeer/compeerlaw12.CacheOnce", spec := "cacheOnce", plainKeys := false, apart := false }
def CacheOnceSaid : Prop := cacheOnceRow.holds Try.pinned (OpenSpec.ofChange cacheOnceSpec)

/-- ITS FALSE NEIGHBOUR: 'it returns false'. Refute it at one input. -/
def cacheOnceWrong : ChangeSpec := { name := "cacheOnce", fn := fun _ => fun
  | [d1, d2] => { results := [.lit (.bool false)], args := [d1, d2] }
  | _ => none }
def CacheOnceWrongFalsely : Prop := cacheOnceRow.holds Try.pinned (OpenSpec.ofChange cacheOnceWrong)

/-- 'compeerlaw12.CacheNear': WHATEVER THE INPUT: true; the input reads as it did. -/
def cacheNearSpec : ChangeSpec := { name := "cacheNear", fn := fun _ => fun
  | [d1, d2] => { results := [.lit (.bool true)], args := [d1, d2] }
  | _ => none }
def cacheNearRow : OpenClaim := { program := "ytppmjmginpkgaaa", sum := "9bddad8f416637b86f530368f204162837cc34e6614a17c640018ebe60fe730a", func := "compeer/compeerlaw12.CacheNear", spec := "cacheNear", plainKeys := false, apart := false }
def CacheNearSaid : Prop := cacheNearRow.holds Try.pinned (OpenSpec.ofChange cacheNearSpec)

/-- ITS FALSE NEIGHBOUR: 'it returns false'. Refute it at one input. -/
def cacheNearWrong : ChangeSpec := { name := "cacheNear", fn := fun _ => fun
  | [d1, d2] => { results := [.lit (.bool false)], args := [d1, d2] }
  | _ => none }
def CacheNearWrongFalsely : Prop := cacheNearRow.holds Try.pinned (OpenSpec.ofChange cacheNearWrong)

/-- 'compeerlaw12.CacheShows': WHATEVER THE INPUT: true; the input reads as it did. -/
def cacheShowsSpec : ChangeSpec := { name := "cacheShows", fn := fun _ => fun
  | [d1, d2] => { results := [.lit (.bool true)], args := [d1, d2] }
  | _ => none }
def cacheShowsRow : OpenClaim := { program := "ytppmjmginpkgaaa", sum := "9bddad8f416637b86f530368f204162837cc34e6614a17c640018ebe60fe730a", func := "compeer/compeerlaw12.CacheShows", spec := "cacheShows", plainKeys := false, apart := false }
def CacheShowsSaid : Prop := cacheShowsRow.holds Try.pinned (OpenSpec.ofChange cacheShowsSpec)

/-- ITS FALSE NEIGHBOUR: 'it returns false'. Refute it at one input. -/
def cacheShowsWrong : ChangeSpec := { name := "cacheShows", fn := fun _ => fun
  | [d1, d2] => { results := [.lit (.bool false)], args := [d1, d2] }
  | _ => none }
def CacheShowsWrongFalsely : Prop := cacheShowsRow.holds Try.pinned (OpenSpec.ofChange cacheShowsWrong)

/-- 'compeerlaw01.OctetNumbers': WHATEVER THE INPUT: true; the input reads as it did. -/
def octetNumbersSpec : ChangeSpec := { name := "octetNumbers", fn := fun _ => fun
  | [d1, d2] => { results := [.lit (.bool true)], args := [d1, d2] }
  | _ => none }
def octetNumbersRow : OpenClaim := { program := "ytppmjmginpkgaaa", sum := "9bddad8f416637b86f530368f204162837cc34e6614a17c640018ebe60fe730a", func := "compeer/compeerlaw01.OctetNumbers", spec := "octetNumbers", plainKeys := false, apart := false }
def OctetNumbersSaid : Prop := octetNumbersRow.holds Try.pinned (OpenSpec.ofChange octetNumbersSpec)

/-- ITS FALSE NEIGHBOUR: 'it returns false'. Refute it at one input. -/
def octetNumbersWrong : ChangeSpec := { name := "octetNumbers", fn := fun _ => fun
  | [d1, d2] => { results := [.lit (.bool false)], args := [d1, d2] }
  | _ => none }
def OctetNumbersWrongFalsely : Prop := octetNumbersRow.holds Try.pinned (OpenSpec.ofChange octetNumbersWrong)

/-- 'compeerlaw01.OctetEquals': WHATEVER THE INPUT: true; the input reads as it did. -/
def octetEqualsSpec : ChangeSpec := { name := "octetEquals", fn := fun _ => fun
  | [d1, d2, d3, d4] => { results := [.lit (.bool true)], args := [d1, d2, d3, d4] }
  | _ => none }
def octetEqualsRow : OpenClaim := { program := "ytppmjmginpkgaaa", sum := "9bddad8f416637b86f530368f204162837cc34e6614a17c640018ebe60fe730a", func := "compeer/compeerlaw01.OctetEquals", spec := "octetEquals", plainKeys := false, apart := false }
def OctetEqualsSaid : Prop := octetEqualsRow.holds Try.pinned (OpenSpec.ofChange octetEqualsSpec)

/-- ITS FALSE NEIGHBOUR: 'it returns false'. Refute it at one input. -/
def octetEqualsWrong : ChangeSpec := { name := "octetEquals", fn := fun _ => fun
  | [d1, d2, d3, d4] => { results := [.lit (.bool false)], args := [d1, d2, d3, d4] }
  | _ => none }
def OctetEqualsWrongFalsely : Prop := octetEqualsRow.holds Try.pinned (OpenSpec.ofChange octetEqualsWrong)

/-- 'compeerlaw01.OctetBack': WHATEVER THE INPUT: true; the input reads as it did. -/
def octetBackSpec : ChangeSpec := { name := "octetBack", fn := fun _ => fun
  | [d] => { results := [.lit (.bool true)], args := [d] }
  | _ => none }
def octetBackRow : OpenClaim := { program := "ytppmjmginpkgaaa", sum := "9bddad8f416637b86f530368f204162837cc34e6614a17c640018ebe60fe730a", func := "compeer/compeerlaw01.OctetBack", spec := "octetBack", plainKeys := false, apart := false }
def OctetBackSaid : Prop := octetBackRow.holds Try.pinned (OpenSpec.ofChange octetBackSpec)

/-- ITS FALSE NEIGHBOUR: 'it returns false'. Refute it at one input. -/
def octetBackWrong : ChangeSpec := { name := "octetBack", fn := fun _ => fun
  | [d] => { results := [.lit (.bool false)], args := [d] }
  | _ => none }
def OctetBackWrongFalsely : Prop := octetBackRow.holds Try.pinned (OpenSpec.ofChange octetBackWrong)

/-- 'compeerlaw01.OctetOrders': WHATEVER THE INPUT: true; the input reads as it did. -/
def octetOrdersSpec : ChangeSpec := { name := "octetOrders", fn := fun _ => fun
  | [d1, d2, d3] => { results := [.lit (.bool true)], args := [d1, d2, d3] }
  | _ => none }
def octetOrdersRow : OpenClaim := { program := "ytppmjmginpkgaaa", sum := "9bddad8f416637b86f530368f204162837cc34e6614a17c640018ebe60fe730a", func := "compeer/compeerlaw01.OctetOrders", spec := "octetOrders", plainKeys := false, apart := false }
def OctetOrdersSaid : Prop := octetOrdersRow.holds Try.pinned (OpenSpec.ofChange octetOrdersSpec)

/-- ITS FALSE NEIGHBOUR: 'it returns false'. Refute it at one input. -/
def octetOrdersWrong : ChangeSpec := { name := "octetOrders", fn := fun _ => fun
  | [d1, d2, d3] => { results := [.lit (.bool false)], args := [d1, d2, d3] }
  | _ => none }
def OctetOrdersWrongFalsely : Prop := octetOrdersRow.holds Try.pinned (OpenSpec.ofChange octetOrdersWrong)

/-- 'compeerlaw09.NameTells': WHATEVER THE INPUT: true; the input reads as it did. -/
def nameTellsSpec : ChangeSpec := { name := "nameTells", fn := fun _ => fun
  | [d1, d2] => { results := [.lit (.bool true)], args := [d1, d2] }
  | _ => none }
def nameTellsRow : OpenClaim := { program := "ytppmjmginpkgaaa", sum := "9bddad8f416637b86f530368f204162837cc34e6614a17c640018ebe60fe730a", func := "compeer/compeerlaw09.NameTells", spec := "nameTells", plainKeys := false, apart := false }
def NameTellsSaid : Prop := nameTellsRow.holds Try.pinned (OpenSpec.ofChange nameTellsSpec)

/-- ITS FALSE NEIGHBOUR: 'it returns false'. Refute it at one input. -/
def nameTellsWrong : ChangeSpec := { name := "nameTells", fn := fun _ => fun
  | [d1, d2] => { results := [.lit (.bool false)], args := [d1, d2] }
  | _ => none }
def NameTellsWrongFalsely : Prop := nameTellsRow.holds Try.pinned (OpenSpec.ofChange nameTellsWrong)

/-- 'compeerlaw09.NameRunes': WHATEVER THE INPUT: true; the input reads as it did. -/
def nameRunesSpec : ChangeSpec := { name := "nameRunes", fn := fun _ => fun
  | [d] => { results := [.lit (.bool true)], args := [d] }
  | _ => none }
def nameRunesRow : OpenClaim := { program := "ytppmjmginpkgaaa", sum := "9bddad8f416637b86f530368f204162837cc34e6614a17c640018ebe60fe730a", func := "compeer/compeerlaw09.NameRunes", spec := "nameRunes", plainKeys := false, apart := false }
def NameRunesSaid : Prop := nameRunesRow.holds Try.pinned (OpenSpec.ofChange nameRunesSpec)

/-- ITS FALSE NEIGHBOUR: 'it returns false'. Refute it at one input. -/
def nameRunesWrong : ChangeSpec := { name := "nameRunes", fn := fun _ => fun
  | [d] => { results := [.lit (.bool false)], args := [d] }
  | _ => none }
def NameRunesWrongFalsely : Prop := nameRunesRow.holds Try.pinned (OpenSpec.ofChange nameRunesWrong)

/-- 'compeerlaw09.NameFolds': WHATEVER THE INPUT: true; the input reads as it did. -/
def nameFoldsSpec : ChangeSpec := { name := "nameFolds", fn := fun _ => fun
  | [d] => { results := [.lit (.bool true)], args := [d] }
  | _ => none }
def nameFoldsRow : OpenClaim := { program := "ytppmjmginpkgaaa", sum := "9bddad8f416637b86f530368f204162837cc34e6614a17c640018ebe60fe730a", func := "compeer/compeerlaw09.NameFolds", spec := "nameFolds", plainKeys := false, apart := false }
def NameFoldsSaid : Prop := nameFoldsRow.holds Try.pinned (OpenSpec.ofChange nameFoldsSpec)

/-- ITS FALSE NEIGHBOUR: 'it returns false'. Refute it at one input. -/
def nameFoldsWrong : ChangeSpec := { name := "nameFolds", fn := fun _ => fun
  | [d] => { results := [.lit (.bool false)], args := [d] }
  | _ => none }
def NameFoldsWrongFalsely : Prop := nameFoldsRow.holds Try.pinned (OpenSpec.ofChange nameFoldsWrong)

/-- 'compeerlaw16.CredKeeps': WHATEVER THE INPUT: true; the input reads as it did. -/
def credKeepsSpec : ChangeSpec := { name := "credKeeps", fn := fun _ => fun
  | [d] => { results := [.lit (.bool true)], args := [d] }
  | _ => none }
def credKeepsRow : OpenClaim := { program := "ytppmjmginpkgaaa", sum := "9bddad8f416637b86f530368f204162837cc34e6614a17c640018ebe60fe730a", func := "compeer/compeerlaw16.CredKeeps", spec := "credKeeps", plainKeys := false, apart := false }
def CredKeepsSaid : Prop := credKeepsRow.holds Try.pinned (OpenSpec.ofChange credKeepsSpec)

/-- ITS FALSE NEIGHBOUR: 'it returns false'. Refute it at one input. -/
def credKeepsWrong : ChangeSpec := { name := "credKeeps", fn := fun _ => fun
  | [d] => { results := [.lit (.bool false)], args := [d] }
  | _ => none }
def CredKeepsWrongFalsely : Prop := credKeepsRow.holds Try.pinned (OpenSpec.ofChange credKeepsWrong)

/-- 'compeerlaw16.CredZeros': WHATEVER THE INPUT: true; the input reads as it did. -/
def credZerosSpec : ChangeSpec := { name := "credZeros", fn := fun _ => fun
  | [d] => { results := [.lit (.bool true)], args := [d] }
  | _ => none }
def credZerosRow : OpenClaim := { program := "ytppmjmginpkgaaa", sum := "9bddad8f416637b86f530368f204162837cc34e6614a17c640018ebe60fe730a", func := "compeer/compeerlaw16.CredZeros", spec := "credZeros", plainKeys := false, apart := false }
def CredZerosSaid : Prop := credZerosRow.holds Try.pinned (OpenSpec.ofChange credZerosSpec)

/-- ITS FALSE NEIGHBOUR: 'it returns false'. Refute it at one input. -/
def credZerosWrong : ChangeSpec := { name := "credZeros", fn := fun _ => fun
  | [d] => { results := [.lit (.bool false)], args := [d] }
  | _ => none }
def CredZerosWrongFalsely : Prop := credZerosRow.holds Try.pinned (OpenSpec.ofChange credZerosWrong)

/- THE SECOND FORM. 'bulk': how many values and letters a reading holds, each counted each time it is reached (what is shared counts as often as it is met; a slice's spare places count too). A statement '..UptoSaid' is the law's where the arguments, and the package variables that the reading takes, are together of bulk at most 1048576: NARROWER than '..Said'. Prove '..Said' where nothing that the law and all that it calls make is longer than what came in: it says more and counts as full. Else prove '..UptoSaid'. A law counts once. -/
mutual
def uptoBulk {H : Type} : DataW H → Nat
  | .lit (.string bytes) => bytes.length + 1
  | .lit _ => 1
  | .nil => 1
  | .ptr d => uptoBulk d + 1
  | .slice elems spare => uptoBulkAll elems + uptoBulkAll spare + 1
  | .agg parts => uptoBulkAll parts + 1
  | .iface _ d => uptoBulk d + 1
  | .map entries => uptoBulkEntries entries + 1
  | .held _ => 1
def uptoBulkAll {H : Type} : List (DataW H) → Nat
  | [] => 0
  | d :: r => uptoBulk d + uptoBulkAll r
def uptoBulkEntries {H : Type} : List (Lit × DataW H) → Nat
  | [] => 0
  | x :: r => uptoBulkEntry x + uptoBulkEntries r
def uptoBulkEntry {H : Type} : Lit × DataW H → Nat
  | (.string bytes, d) => bytes.length + uptoBulk d + 1
  | (_, d) => uptoBulk d + 1
 end
def uptoSmall : (H : Type) → List (DataW H) → Bool := fun _ ds => decide (uptoBulkAll ds ≤ 1048576)
def OpenSpec.upto (s : _root_.Go.ChangeSpec) : _root_.Go.OpenSpec := { _root_.Go.OpenSpec.ofChange s with cond := some uptoSmall }

/-- 'compeerlaw12.CacheOnce', WHERE WHAT IT READS IS OF BULK AT MOST 1048576: true; the input reads as it did. -/
def cacheOnceUptoRow : OpenClaim := { program := "ytppmjmginpkgaaa", sum := "9bddad8f416637b86f530368f204162837cc34e6614a17c640018ebe60fe730a", func := "compeer/compeerlaw12.CacheOnce", spec := "cacheOnce", plainKeys := false, apart := false, narrowed := true }
def CacheOnceUptoSaid : Prop := cacheOnceUptoRow.holds Try.pinned (OpenSpec.upto cacheOnceSpec)

/-- 'compeerlaw12.CacheNear', WHERE WHAT IT READS IS OF BULK AT MOST 1048576: true; the input reads as it did. -/
def cacheNearUptoRow : OpenClaim := { program := "ytppmjmginpkgaaa", sum := "9bddad8f416637b86f530368f204162837cc34e6614a17c640018ebe60fe730a", func := "compeer/compeerlaw12.CacheNear", spec := "cacheNear", plainKeys := false, apart := false, narrowed := true }
def CacheNearUptoSaid : Prop := cacheNearUptoRow.holds Try.pinned (OpenSpec.upto cacheNearSpec)

/-- 'compeerlaw12.CacheShows', WHERE WHAT IT READS IS OF BULK AT MOST 1048576: true; the input reads as it did. -/
def cacheShowsUptoRow : OpenClaim := { program := "ytppmjmginpkgaaa", sum := "9bddad8f416637b86f530368f204162837cc34e6614a17c640018ebe60fe730a", func := "compeer/compeerlaw12.CacheShows", spec := "cacheShows", plainKeys := false, apart := false, narrowed := true }
def CacheShowsUptoSaid : Prop := cacheShowsUptoRow.holds Try.pinned (OpenSpec.upto cacheShowsSpec)

/-- 'compeerlaw01.OctetNumbers', WHERE WHAT IT READS IS OF BULK AT MOST 1048576: true; the input reads as it did. -/
def octetNumbersUptoRow : OpenClaim := { program := "ytppmjmginpkgaaa", sum := "9bddad8f416637b86f530368f204162837cc34e6614a17c640018ebe60fe730a", func := "compeer/compeerlaw01.OctetNumbers", spec := "octetNumbers", plainKeys := false, apart := false, narrowed := true }
def OctetNumbersUptoSaid : Prop := octetNumbersUptoRow.holds Try.pinned (OpenSpec.upto octetNumbersSpec)

/-- 'compeerlaw01.OctetEquals', WHERE WHAT IT READS IS OF BULK AT MOST 1048576: true; the input reads as it did. -/
def octetEqualsUptoRow : OpenClaim := { program := "ytppmjmginpkgaaa", sum := "9bddad8f416637b86f530368f204162837cc34e6614a17c640018ebe60fe730a", func := "compeer/compeerlaw01.OctetEquals", spec := "octetEquals", plainKeys := false, apart := false, narrowed := true }
def OctetEqualsUptoSaid : Prop := octetEqualsUptoRow.holds Try.pinned (OpenSpec.upto octetEqualsSpec)

/-- 'compeerlaw01.OctetBack', WHERE WHAT IT READS IS OF BULK AT MOST 1048576: true; the input reads as it did. -/
def octetBackUptoRow : OpenClaim := { program := "ytppmjmginpkgaaa", sum := "9bddad8f416637b86f530368f204162837cc34e6614a17c640018ebe60fe730a", func := "compeer/compeerlaw01.OctetBack", spec := "octetBack", plainKeys := false, apart := false, narrowed := true }
def OctetBackUptoSaid : Prop := octetBackUptoRow.holds Try.pinned (OpenSpec.upto octetBackSpec)

/-- 'compeerlaw01.OctetOrders', WHERE WHAT IT READS IS OF BULK AT MOST 1048576: true; the input reads as it did. -/
def octetOrdersUptoRow : OpenClaim := { program := "ytppmjmginpkgaaa", sum := "9bddad8f416637b86f530368f204162837cc34e6614a17c640018ebe60fe730a", func := "compeer/compeerlaw01.OctetOrders", spec := "octetOrders", plainKeys := false, apart := false, narrowed := true }
def OctetOrdersUptoSaid : Prop := octetOrdersUptoRow.holds Try.pinned (OpenSpec.upto octetOrdersSpec)

/-- 'compeerlaw09.NameTells', WHERE WHAT IT READS IS OF BULK AT MOST 1048576: true; the input reads as it did. -/
def nameTellsUptoRow : OpenClaim := { program := "ytppmjmginpkgaaa", sum := "9bddad8f416637b86f530368f204162837cc34e6614a17c640018ebe60fe730a", func := "compeer/compeerlaw09.NameTells", spec := "nameTells", plainKeys := false, apart := false, narrowed := true }
def NameTellsUptoSaid : Prop := nameTellsUptoRow.holds Try.pinned (OpenSpec.upto nameTellsSpec)

/-- 'compeerlaw09.NameRunes', WHERE WHAT IT READS IS OF BULK AT MOST 1048576: true; the input reads as it did. -/
def nameRunesUptoRow : OpenClaim := { program := "ytppmjmginpkgaaa", sum := "9bddad8f416637b86f530368f204162837cc34e6614a17c640018ebe60fe730a", func := "compeer/compeerlaw09.NameRunes", spec := "nameRunes", plainKeys := false, apart := false, narrowed := true }
def NameRunesUptoSaid : Prop := nameRunesUptoRow.holds Try.pinned (OpenSpec.upto nameRunesSpec)

/-- 'compeerlaw09.NameFolds', WHERE WHAT IT READS IS OF BULK AT MOST 1048576: true; the input reads as it did. -/
def nameFoldsUptoRow : OpenClaim := { program := "ytppmjmginpkgaaa", sum := "9bddad8f416637b86f530368f204162837cc34e6614a17c640018ebe60fe730a", func := "compeer/compeerlaw09.NameFolds", spec := "nameFolds", plainKeys := false, apart := false, narrowed := true }
def NameFoldsUptoSaid : Prop := nameFoldsUptoRow.holds Try.pinned (OpenSpec.upto nameFoldsSpec)

/-- 'compeerlaw16.CredKeeps', WHERE WHAT IT READS IS OF BULK AT MOST 1048576: true; the input reads as it did. -/
def credKeepsUptoRow : OpenClaim := { program := "ytppmjmginpkgaaa", sum := "9bddad8f416637b86f530368f204162837cc34e6614a17c640018ebe60fe730a", func := "compeer/compeerlaw16.CredKeeps", spec := "credKeeps", plainKeys := false, apart := false, narrowed := true }
def CredKeepsUptoSaid : Prop := credKeepsUptoRow.holds Try.pinned (OpenSpec.upto credKeepsSpec)

/-- 'compeerlaw16.CredZeros', WHERE WHAT IT READS IS OF BULK AT MOST 1048576: true; the input reads as it did. -/
def credZerosUptoRow : OpenClaim := { program := "ytppmjmginpkgaaa", sum := "9bddad8f416637b86f530368f204162837cc34e6614a17c640018ebe60fe730a", func := "compeer/compeerlaw16.CredZeros", spec := "credZeros", plainKeys := false, apart := false, narrowed := true }
def CredZerosUptoSaid : Prop := credZerosUptoRow.holds Try.pinned (OpenSpec.upto credZerosSpec)

end Rows
end Go.Proofs.Ytppmjmginpkgaaa
