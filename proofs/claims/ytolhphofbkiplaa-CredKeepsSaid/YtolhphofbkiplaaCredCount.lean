/- Keys as a map's keys, and how often each was counted: plain. -/
import Derived.Test.YtolhphofbkiplaaCredPlain
import Derived.Test.YtolhphofbkiplaaRowBase
import Derived.Maps.RangeWalk
import Derived.DeepKeys4
import Derived.WideKeyEntry
namespace Go.Proofs.Ytolhphofbkiplaa
set_option linter.unusedSimpArgs false
set_option linter.unusedVariables false
open Go.RowKit Go.Maps

theorem keyRow : 31 < Try.prog.types.size := of_decide_eq_true (by kernel_rfl)
theorem keyLaw : WideMaps.KeyLaw Try.prog 31 := deep_law_laid rowLaidOut (m := 2) (by omega) keyRow (by kernel_rfl) (by rw [Try.underlying31])
theorem keyKeyed : Keyed Try.prog 31 := Keyed.of_law keyLaw

def keyS (k : List UInt8) : List UInt8 := keyBytes (k.map fun b => .int .u8 (b.toNat : Int))
def keyL (k : List UInt8) : Lit := .string (keyS k)
def isK (kl : Lit) (k : List UInt8) : Bool := match kl with
  | .string b => decide (keyS k = b)
  | _ => false
theorem isK_iff (kl : Lit) (k : List UInt8) : isK kl k = true ↔ keyL k = kl := by
  unfold isK keyL
  split
  · simp
  · rename_i h
    simp
    exact fun e => h _ e.symm

theorem mapM_range (f : Nat → Option (List Lit)) (g : Nat → List Lit) : ∀ (n : Nat), (∀ i, i < n → f i = some (g i)) → (List.range n).mapM f = some ((List.range n).map g)
  | 0, _ => rfl
  | n + 1, h => by
    rw [List.range_succ, List.mapM_append, mapM_range f g n (fun i hi => h i (by omega))]
    simp [h n (by omega)]

theorem keyL_of (k : List UInt8) (hk : k.length = 16) : keyOf Try.prog 31 (.agg (bCells k).toArray) = some (keyL k) := by
  have hkt : Try.prog.keyType 31 = true := by kernel_rfl
  have hsz : Try.prog.cellsOf 31 = 16 := by kernel_rfl
  have c1 : Try.prog.cellsOf 5 = 1 := by kernel_rfl
  have hl : (bCells k).length = 16 := by rw [bCells_length, hk]
  obtain ⟨m, hm⟩ : ∃ m, Try.prog.types.size = m + 1 := ⟨Try.prog.types.size - 1, by have := keyRow; omega⟩
  unfold keyOf
  simp only [Try.underlying31]
  have hm2 : ∀ i, i < 16 → Try.prog.keyLits (m + 1) 5 (((bCells k).drop (i * 1)).take 1) = some [.int .u8 ((k.getD i 0).toNat : Int)] := by
    intro i hi
    have hik : i < k.length := by omega
    have e : ((bCells k).drop (i * 1)).take 1 = [.int .u8 ((k.getD i 0).toNat : Int)] := by
      rw [Nat.mul_one]
      apply List.ext_getElem?
      intro j
      cases j with
      | zero =>
        rw [List.getElem?_take, if_pos (by omega), List.getElem?_drop, Nat.add_zero, bCells_get k i hik]
        simp [List.getD, hik, bV]
      | succ j => rw [List.getElem?_take, if_neg (by omega)]; rfl
    rw [e]
    unfold Program.keyLits
    simp only [Try.underlying5]
    have hlt := (k.getD i 0).toNat_lt
    have hwf : (Lit.int .u8 ((k.getD i 0).toNat : Int)).wf = true := by
      simp only [Lit.wf, Bool.and_eq_true, decide_eq_true_eq]
      rw [show IntKind.u8.min = 0 from rfl, show IntKind.u8.max = 255 by decide]
      omega
    simp only [hwf, and_self, if_true]
  rw [if_pos (by simp [hkt, Value.formed, Try.underlying31, hsz, hl]), hm]
  unfold Program.keyLits
  simp only [Try.underlying31, Value.cells]
  rw [if_pos (by rw [hsz]; exact hl)]
  simp only [c1]
  rw [mapM_range _ (fun i => [.int .u8 ((k.getD i 0).toNat : Int)]) 16 hm2]
  simp only [Option.map_some, keyL, keyS, Option.some.injEq, Lit.string.injEq]
  congr 1
  match k, hk with
  | [a0, a1, a2, a3, a4, a5, a6, a7, a8, a9, a10, a11, a12, a13, a14, a15], _ => rfl

/-- How often each key was counted. -/
def Counts (D : DataW Unit) (f : Lit → Int) : Prop := IsMap D ∧ ∀ kl, D.atKey kl (.lit (.int .i64 0)) = .lit (.int .i64 (f kl))

def cnt (l : List (List UInt8)) (kl : Lit) : Int := ((l.filter (isK kl)).length : Int)
theorem cnt_nil (kl : Lit) : cnt [] kl = 0 := rfl
theorem cnt_snoc (l : List (List UInt8)) (k : List UInt8) (kl : Lit) : cnt (l ++ [k]) kl = cnt l kl + if isK kl k = true then 1 else 0 := by
  unfold cnt
  rw [List.filter_append, List.length_append]
  by_cases h : isK kl k = true <;> simp [h]
theorem cnt_le (l : List (List UInt8)) (kl : Lit) : 0 ≤ cnt l kl ∧ cnt l kl ≤ l.length := by
  unfold cnt
  have := List.length_filter_le (isK kl) l
  omega
theorem cnt_perm {l l' : List (List UInt8)} (h : l.Perm l') (kl : Lit) : cnt l kl = cnt l' kl := by
  unfold cnt
  rw [(h.filter _).length_eq]
theorem cnt_append (l l' : List (List UInt8)) (kl : Lit) : cnt (l ++ l') kl = cnt l kl + cnt l' kl := by
  unfold cnt
  rw [List.filter_append, List.length_append]
  omega
theorem cnt_rep (n : Nat) (k : List UInt8) (kl : Lit) : cnt (List.replicate n k) kl = if isK kl k = true then (n : Int) else 0 := by
  induction n with
  | zero => simp [cnt_nil]
  | succ n ih =>
    rw [List.replicate_succ', cnt_snoc, ih]
    split <;> omega

theorem Counts.put {D : DataW Unit} {f : Lit → Int} (h : Counts D f) (k : List UInt8) (a : Int) : Counts (D.put (keyL k) (.lit (.int .i64 a))) (fun kl => if isK kl k = true then a else f kl) := by
  refine ⟨?_, fun kl => ?_⟩
  · obtain ⟨es, rfl⟩ := h.1
    exact ⟨_, rfl⟩
  · by_cases he : isK kl k = true
    · simp only [if_pos he]
      obtain rfl := (isK_iff _ _).1 he
      exact atKey_put_same h.1 (by trivial) _ _
    · simp only [if_neg he]
      rw [← h.2 kl]
      exact atKey_put_other (fun e => he ((isK_iff _ _).2 e.symm)) _ _

theorem keyZero (u : World) : (zeroValue 3).run Try.prog u = .ok (.int .i64 0) u := by kernel_rfl
end Go.Proofs.Ytolhphofbkiplaa
