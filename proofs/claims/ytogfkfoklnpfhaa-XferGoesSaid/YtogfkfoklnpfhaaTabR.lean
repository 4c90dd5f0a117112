/- sym's table, as a thing in memory: its rows of bytes that have a digest. -/
import Derived.Test.YtogfkfoklnpfhaaMark
import Derived.Test.YtogfkfoklnpfhaaRes
namespace Go.Proofs.Ytogfkfoklnpfhaa
set_option linter.unusedSimpArgs false
set_option linter.unusedVariables false
open Go.RowKit

theorem elRows : Elem Try.prog 62 22 1 24 (.slice none 0 0) := by
  refine Elem.mk Try.underlying62 ?_ rfl (by decide)
  kernel_rfl

/-- Rows of bytes, each of its own blocks. -/
def sumsR : List Value → List (List UInt8) → Res
  | [], [] => .emp
  | v :: vs, r :: rs => (Res.row v r).star (sumsR vs rs)
  | _, _ => .pure False

theorem sumsR_at {W : World} : ∀ {vs : List Value} {rs : List (List UInt8)} {l : List Res}, Hold W (sumsR vs rs :: l) → ∀ (j : Nat) {v : Value} {r : List UInt8}, vs[j]? = some v → rs[j]? = some r → Bs W v r
  | [], _, _, _, j, _, _, hv, _ => by simp at hv
  | _ :: _, [], _, _, j, _, _, _, hr => by simp at hr
  | u :: vs, s :: rs, l, h, 0, v, r, hv, hr => by
    have h := Hold.star.1 h
    simp at hv hr
    subst hv hr
    exact h.rowOf (by simp)
  | u :: vs, s :: rs, l, h, j + 1, v, r, hv, hr => by
    have h := Hold.star.1 h
    exact sumsR_at h.tail j (by simpa using hv) (by simpa using hr)

theorem sumsR_snoc {W : World} : ∀ {vs : List Value} {rs : List (List UInt8)} {v : Value} {r : List UInt8} {l : List Res}, Hold W (sumsR vs rs :: .row v r :: l) → Hold W (sumsR (vs ++ [v]) (rs ++ [r]) :: l)
  | [], [], v, r, l, h => Hold.star.2 (h.perm (.swap _ _ _))
  | [], _ :: _, _, _, _, h => (Hold.pure.1 h).1.elim
  | _ :: _, [], _, _, _, h => (Hold.pure.1 h).1.elim
  | u :: vs, s :: rs, v, r, l, h => by
    have h := (Hold.star.1 h).push3
    exact Hold.star.2 (sumsR_snoc h).swap

/-- The table: its rows of bytes; what else it has stays. -/
def tabR (p : Nat) (kv bv mp : Value) (sums : List (List UInt8)) : Res :=
  .ex fun sv => .ex fun vs => .all [.blk p [kv, bv, sv, mp] 64, .own 22 1 sv sums.length vs, sumsR vs sums]

theorem tabR_open {W : World} {p : Nat} {kv bv mp : Value} {sums : List (List UInt8)} {l : List Res} (h : Hold W (tabR p kv bv mp sums :: l)) :
    ∃ sv vs, Hold W (.blk p [kv, bv, sv, mp] 64 :: .own 22 1 sv sums.length vs :: sumsR vs sums :: l) := by
  obtain ⟨sv, h⟩ := Hold.ex.1 h
  obtain ⟨vs, h⟩ := Hold.ex.1 h
  exact ⟨sv, vs, Hold.app.1 h⟩

theorem tabR_shut {W : World} {p : Nat} {kv bv sv mp : Value} {vs : List Value} {sums : List (List UInt8)} {l : List Res} (h : Hold W (.blk p [kv, bv, sv, mp] 64 :: .own 22 1 sv sums.length vs :: sumsR vs sums :: l)) :
    Hold W (tabR p kv bv mp sums :: l) :=
  Hold.ex.2 ⟨sv, Hold.ex.2 ⟨vs, Hold.app.2 h⟩⟩

/-- The rows behind a digest, and the mark that it is. -/
def digT (sums : List (List UInt8)) (b : List UInt8) : List (List UInt8) := if b ∈ sums then sums else sums ++ [b]
def digM (sums : List (List UInt8)) (b : List UInt8) : List UInt8 := markB 100 ((digT sums b).idxOf b + 1)
end Go.Proofs.Ytogfkfoklnpfhaa
