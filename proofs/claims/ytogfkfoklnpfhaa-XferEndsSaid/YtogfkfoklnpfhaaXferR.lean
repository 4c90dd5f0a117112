/- Files, as things in memory; what their methods do, said plainly, without the program. -/
import Derived.Test.YtogfkfoklnpfhaaDigest
namespace Go.Proofs.Ytogfkfoklnpfhaa
set_option linter.unusedSimpArgs false
set_option linter.unusedVariables false
open Go.RowKit

/-- A file that is sent. -/
structure OutF where
  st : Int
  data : List UInt8
  sent : Nat
  ahead : Nat

/-- A file that comes. -/
structure InF where
  st : Int
  size : Int
  sum : List UInt8
  data : List UInt8

def outR (p : Nat) (o : OutF) : Res := .ex fun dv => .all [.blk p [.int .i64 o.st, dv, .int .i64 o.sent, .int .i64 o.ahead] 38, .row dv o.data]
def inR (p : Nat) (i : InF) : Res := .ex fun sv => .ex fun dv => .all [.blk p [.int .i64 i.st, .int .i64 i.size, sv, dv] 45, .row sv i.sum, .ownB dv i.data]

theorem outR_open {W : World} {p : Nat} {o : OutF} {l : List Res} (h : Hold W (outR p o :: l)) :
    ∃ a c, o.data.length ≤ c ∧ c ≤ maxLen ∧ Hold W (.blk p [.int .i64 o.st, .slice a o.data.length c, .int .i64 o.sent, .int .i64 o.ahead] 38 :: .row (.slice a o.data.length c) o.data :: l) := by
  obtain ⟨dv, h⟩ := Hold.ex.1 h
  have h := Hold.app.1 h
  have hr : Bs W dv o.data := h.rowOf (by simp)
  obtain ⟨a, c, rfl, h1, h2⟩ := hr.form
  exact ⟨a, c, h1, h2, h⟩
theorem outR_shut {W : World} {p : Nat} {st : Int} {data : List UInt8} {sent ahead : Nat} {dv : Value} {l : List Res} (h : Hold W (.blk p [.int .i64 st, dv, .int .i64 sent, .int .i64 ahead] 38 :: .row dv data :: l)) :
    Hold W (outR p ⟨st, data, sent, ahead⟩ :: l) := Hold.ex.2 ⟨dv, Hold.app.2 h⟩
theorem inR_open {W : World} {p : Nat} {i : InF} {l : List Res} (h : Hold W (inR p i :: l)) :
    ∃ a c b d, i.sum.length ≤ c ∧ c ≤ maxLen ∧ i.data.length ≤ d ∧ d ≤ maxLen ∧ Hold W (.blk p [.int .i64 i.st, .int .i64 i.size, .slice a i.sum.length c, .slice b i.data.length d] 45 :: .row (.slice a i.sum.length c) i.sum :: .ownB (.slice b i.data.length d) i.data :: l) := by
  obtain ⟨sv, h⟩ := Hold.ex.1 h
  obtain ⟨dv, h⟩ := Hold.ex.1 h
  have h := Hold.app.1 h
  have hr : Bs W sv i.sum := h.rowOf (by simp)
  have ho : OwnBs W 0 dv i.data := (h.ownBOf (by simp)).1
  obtain ⟨a, c, rfl, h1, h2⟩ := hr.form
  obtain ⟨b, d, rfl, h3, h4⟩ := ho.bs.form
  exact ⟨a, c, b, d, h1, h2, h3, h4, h⟩
theorem inR_shut {W : World} {p : Nat} {st size : Int} {sum data : List UInt8} {sv dv : Value} {l : List Res} (h : Hold W (.blk p [.int .i64 st, .int .i64 size, sv, dv] 45 :: .row sv sum :: .ownB dv data :: l)) :
    Hold W (inR p ⟨st, size, sum, data⟩ :: l) := Hold.ex.2 ⟨sv, Hold.ex.2 ⟨dv, Hold.app.2 h⟩⟩

def outTurn (o : OutF) (s : Int) : OutF × Int := if o.st ≠ 0 then (o, 16) else ({ o with st := if s = 1 ∧ o.data.length = 0 then 2 else s }, 0)
def outStop (o : OutF) : Prop := o.st ≠ 1 ∨ o.ahead = 4 ∨ o.sent = o.data.length
instance (o : OutF) : Decidable (outStop o) := by unfold outStop; infer_instance
def outCame (o : OutF) : OutF × Int := if o.st ≠ 1 ∨ o.ahead = 0 then (o, 16) else ({ o with ahead := o.ahead - 1, st := if o.ahead - 1 = 0 ∧ o.sent = o.data.length then 2 else o.st }, 0)
def outBreak (o : OutF) : OutF × Int := if o.st ≠ 0 ∧ o.st ≠ 1 then (o, 16) else ({ o with st := 4 }, 0)

def inRefuse (i : InF) : InF × Int := if i.st ≠ 0 then (i, 16) else ({ i with st := 3 }, 0)
def inBreak (i : InF) : InF × Int := if i.st ≠ 0 ∧ i.st ≠ 1 then (i, 16) else ({ i with st := 4, data := [] }, 0)
/-- Has all come? -/
def inWhole (t : List (List UInt8)) (i : InF) : List (List UInt8) × InF × Int :=
  if (i.data.length : Int) < i.size then (t, i, 0)
  else if digM t i.data = i.sum then (digT t i.data, { i with st := 2 }, 0) else (digT t i.data, { i with st := 4 }, 23)
def inAccept (t : List (List UInt8)) (i : InF) : List (List UInt8) × InF × Int := if i.st ≠ 0 then (t, i, 16) else inWhole t { i with st := 1 }
def inTake (t : List (List UInt8)) (i : InF) (at' : Int) (b : List UInt8) : List (List UInt8) × InF × Int :=
  if i.st ≠ 1 then (t, i, 16)
  else if at' ≠ i.data.length ∨ b.length = 0 then (t, i, 18)
  else if 64 < b.length ∨ i.size - at' < b.length then (t, i, 20)
  else inWhole t { i with data := i.data ++ b }

/-- What a method gives: a number, and a thing that has turned. -/
def NumRes (n : Int) (l : List Res) (e : Ending) (w' : World) : Prop := e = .returned (.int .i64 n) ∧ Hold w' l
def BytesRes (b : List UInt8) (l : List Res) (e : Ending) (w' : World) : Prop := ∃ v, e = .returned v ∧ Hold w' (.row v b :: l)
def MadeRes (r : Nat → Res) (l : List Res) (e : Ending) (w' : World) : Prop := ∃ p, e = .returned (.tuple #[.pointer (some ⟨p, 0, none⟩), .int .i64 0]) ∧ Hold w' (r p :: l)
def ChunkRes (p : Nat) (o : OutF) (l : List Res) (e : Ending) (w' : World) : Prop :=
  ∃ v, e = .returned (.tuple #[.int .i64 o.sent, v, .bool true]) ∧ Hold w' (outR p { o with sent := min (o.sent + 64) o.data.length, ahead := o.ahead + 1 } :: .row v ((o.data.drop o.sent).take (min (o.sent + 64) o.data.length - o.sent)) :: l)
end Go.Proofs.Ytogfkfoklnpfhaa
