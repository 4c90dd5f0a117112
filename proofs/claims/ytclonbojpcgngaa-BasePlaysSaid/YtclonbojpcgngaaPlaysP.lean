/- BasePlays in plain Lean: the program's users and the document's are the same. -/
import Derived.Test.YtclonbojpcgngaaBaseBack
import Derived.Test.YtclonbojpcgngaaRef13v
namespace Go.Proofs.Ytclonbojpcgngaa
set_option linter.unusedSimpArgs false
set_option linter.unusedVariables false
open Go.RowKit

structure PlInv (L H : List Us) : Prop where
  so : Sorted L
  pm : L.Perm H
  le : L.length ≤ 32
theorem sorted_one {L : List Us} (hs : Sorted L) {x y : Us} (hx : x ∈ L) (hy : y ∈ L) (he : x.name = y.name) : x = y := by
  obtain ⟨i, hi, rfl⟩ := List.getElem_of_mem hx
  obtain ⟨j, hj, rfl⟩ := List.getElem_of_mem hy
  rcases Nat.lt_trichotomy i j with h | h | h
  · have := hs.at h hj
    rw [he, cmpN_self] at this
    omega
  · simp only [h]
  · have := hs.at h hi
    rw [he, cmpN_self] at this
    omega
variable {L H : List Us} {u : Us} {s : ByteArray}
/-- Found at both, or at none. -/
theorem PlInv.cases (h : PlInv L H) (s : ByteArray) : (hasU L s = false ∧ findI H s = -1) ∨ ∃ k : Nat, hasU L s = true ∧ findI H s = k ∧ ∃ hk : k < H.length, ∃ hp : posU L s < L.length, H[k].name = s ∧ L[posU L s] = H[k] := by
  rcases findI_cases H s with ⟨h1, h2⟩ | ⟨k, h1, hk, h2⟩
  · left
    refine ⟨?_, h1⟩
    cases hh : hasU L s with
    | false => rfl
    | true =>
      obtain ⟨hp, hn⟩ := hasU_some hh
      exact (h2 _ (h.pm.mem_iff.1 (List.getElem_mem hp)) hn).elim
  · right
    have hm : H[k] ∈ L := h.pm.mem_iff.2 (List.getElem_mem hk)
    obtain ⟨i, hi, hie⟩ := List.getElem_of_mem hm
    have hn : L[i].name = s := by rw [hie]; exact h2
    obtain ⟨h3, h4⟩ := hasU_of h.so hi hn
    refine ⟨k, h3, h1, hk, by rw [h4]; exact hi, h2, ?_⟩
    simp only [h4]
    exact hie
theorem insU_perm (L : List Us) (u : Us) : (insU L u).Perm (u :: L) := by
  unfold insU
  refine List.perm_middle.trans ?_
  rw [List.take_append_drop]
theorem PlInv.add (h : PlInv L H) (u : Us) : (addU L u).2 = (addR H u).2 ∧ PlInv (addU L u).1 (addR H u).1 := by
  have hl := h.pm.length_eq
  have hok := addU_ok (u := u) h.so h.le
  unfold addU addR at *
  by_cases c1 : rightB u.name = false
  · rw [if_pos c1, if_pos c1]; exact ⟨rfl, h⟩
  · rw [if_neg c1] at hok ⊢
    rw [if_neg c1]
    by_cases c2 : u.life < 1 ∨ 600 < u.life ∨ u.renew < 0 ∨ 6000 < u.renew
    · rw [if_pos c2, if_pos c2]; exact ⟨rfl, h⟩
    · rw [if_neg c2] at hok ⊢
      rw [if_neg c2]
      rcases h.cases u.name with ⟨h1, h2⟩ | ⟨k, h1, h2, _⟩
      · rw [h1, if_neg (show ¬ (false = true) by decide)] at hok
        rw [h1, if_neg (show ¬ (false = true) by decide), h2, if_neg (show ¬ ((0 : Int) ≤ -1) by decide), ← hl]
        by_cases c4 : L.length = 32
        · rw [if_pos c4, if_pos c4]; exact ⟨rfl, h⟩
        · rw [if_neg c4] at hok
          rw [if_neg c4, if_neg c4]
          exact ⟨rfl, hok.1, (insU_perm L u).trans ((h.pm.cons u).trans (List.perm_append_comm (l₁ := [u]))), hok.2⟩
      · rw [h1, if_pos (show true = true from rfl), h2, if_pos (show (0 : Int) ≤ (k : Int) by omega)]
        exact ⟨rfl, h⟩
theorem PlInv.drop (h : PlInv L H) (s : ByteArray) : (dropU L s).2 = (dropR H s).2 ∧ PlInv (dropU L s).1 (dropR H s).1 := by
  unfold dropU dropR
  rcases h.cases s with ⟨h1, h2⟩ | ⟨k, h1, h2, hk, hp, h3, h4⟩
  · rw [h1, if_neg (show ¬ (false = true) by decide), h2, if_pos (show (-1 : Int) < 0 by decide)]
    exact ⟨rfl, h⟩
  · rw [h1, if_pos (show true = true from rfl), h2, if_neg (show ¬ ((k : Int) < 0) by omega)]
    refine ⟨rfl, delU_sorted h.so, ?_, by have := delU_length h1; have := h.le; simp only; omega⟩
    have e1 : L.Perm (L[posU L s] :: delU L s) := by
      have e2 : L = L.take (posU L s) ++ L[posU L s] :: L.drop (posU L s + 1) := by
        rw [← List.drop_eq_getElem_cons hp, List.take_append_drop]
      exact (List.Perm.of_eq e2).trans List.perm_middle
    have e3 : H.Perm (H[k] :: (H.take k ++ H.drop (k + 1))) := by
      have e4 : H = H.take k ++ H[k] :: H.drop (k + 1) := by
        rw [← List.drop_eq_getElem_cons hk, List.take_append_drop]
      exact (List.Perm.of_eq e4).trans List.perm_middle
    have e5 := e1.symm.trans (h.pm.trans e3)
    rw [h4] at e5
    exact e5.cons_inv
theorem PlInv.get (h : PlInv L H) (s : ByteArray) : (findI H s = -1 ∧ getE L s = 9 ∧ getC L s = zsU) ∨ ∃ k : Nat, findI H s = k ∧ getE L s = 0 ∧ ∃ hk : k < H.length, getC L s = H[k].cells := by
  rcases h.cases s with ⟨h1, h2⟩ | ⟨k, h1, h2, hk, hp, h3, h4⟩
  · left
    exact ⟨h2, by rw [getE, if_neg (by rw [h1]; decide)], by rw [getC, if_neg (by rw [h1]; decide)]⟩
  · right
    exact ⟨k, h2, by rw [getE, if_pos h1], hk, by rw [getC, if_pos h1, List.getElem?_eq_getElem hp, h4]⟩

def SoN (l : List ByteArray) : Prop := l.Pairwise fun a b => cmpN a b ≤ 0
theorem cmpN_le {a b c : ByteArray} (h : cmpN a b ≤ 0) (k : cmpN b c ≤ 0) : cmpN a c ≤ 0 := by
  by_cases h1 : cmpN a b = 0
  · rw [cmpN_eq h1]; exact k
  · by_cases h2 : cmpN b c = 0
    · rw [← cmpN_eq h2]; exact h
    · have := cmpN_trans (a := a) (b := b) (c := c) (by omega) (by omega)
      omega
theorem posE_hi (out : List ByteArray) (nm : ByteArray) : ∀ k j, posE out nm k ≤ j → j < k → 0 < cmpN (out.getD j .empty) nm
  | 0, j, _, h => by omega
  | k + 1, j, h1, h2 => by
    rw [posE] at h1
    split at h1
    · next hc =>
      rcases Nat.lt_or_ge j k with h3 | h3
      · exact posE_hi out nm k j h1 h3
      · have : j = k := by omega
        subst this
        exact hc
    · omega
theorem posE_lo (out : List ByteArray) (nm : ByteArray) : ∀ k p, posE out nm k = p + 1 → cmpN (out.getD p .empty) nm ≤ 0
  | 0, p, h => by rw [posE] at h; omega
  | k + 1, p, h => by
    rw [posE] at h
    split at h
    · exact posE_lo out nm k p h
    · next hc =>
      have : k = p := by omega
      subst this
      omega
theorem getD_at {l : List ByteArray} {j : Nat} (hj : j < l.length) : l.getD j .empty = l[j] := by
  rw [List.getD_eq_getElem?_getD, List.getElem?_eq_getElem hj, Option.getD_some]
theorem insNm_so {out : List ByteArray} (nm : ByteArray) (h : SoN out) : SoN (insNm out nm) := by
  have hp := posE_le out nm out.length
  obtain ⟨p, hpe⟩ : ∃ p, p = posE out nm out.length := ⟨_, rfl⟩
  have hlo : ∀ j (hj : j < out.length), j < p → cmpN out[j] nm ≤ 0 := by
    intro j hj hjp
    obtain ⟨r, rfl⟩ : ∃ r, p = r + 1 := ⟨p - 1, by omega⟩
    have h1 := posE_lo out nm out.length r hpe.symm
    have hr : r < out.length := by omega
    rw [getD_at hr] at h1
    rcases Nat.lt_or_ge j r with h2 | h2
    · exact cmpN_le (List.pairwise_iff_getElem.1 h j r hj hr h2) h1
    · have : j = r := by omega
      subst this
      exact h1
  have hhi : ∀ j (hj : j < out.length), p ≤ j → cmpN nm out[j] ≤ 0 := by
    intro j hj hjp
    have h1 := posE_hi out nm out.length j (by omega) hj
    rw [getD_at hj] at h1
    have := cmpN_anti nm out[j]
    omega
  unfold SoN insNm
  rw [← hpe, List.pairwise_append, List.pairwise_cons]
  refine ⟨h.sublist (List.take_sublist _ _), ⟨fun y hy => ?_, h.sublist (List.drop_sublist _ _)⟩, fun x hx y hy => ?_⟩
  · obtain ⟨j, hj, rfl⟩ := List.getElem_of_mem hy
    rw [List.getElem_drop]
    exact hhi _ _ (by omega)
  · obtain ⟨i, hi, rfl⟩ := List.getElem_of_mem hx
    rw [List.getElem_take]
    simp only [List.length_take] at hi
    have h1 := hlo i (by omega) (by omega)
    rcases List.mem_cons.1 hy with rfl | hy
    · exact h1
    · obtain ⟨j, hj, rfl⟩ := List.getElem_of_mem hy
      rw [List.getElem_drop]
      exact cmpN_le h1 (hhi _ _ (by omega))
theorem insNm_perm (out : List ByteArray) (nm : ByteArray) : (insNm out nm).Perm (nm :: out) := by
  unfold insNm
  refine List.perm_middle.trans ?_
  rw [List.take_append_drop]
theorem fold_so : ∀ (H : List Us) (out : List ByteArray), SoN out → SoN (H.foldl (fun out u => insNm out u.name) out) ∧ (H.foldl (fun out u => insNm out u.name) out).Perm (out ++ H.map (·.name))
  | [], out, h => ⟨h, by simp⟩
  | u :: H, out, h => by
    obtain ⟨h1, h2⟩ := fold_so H (insNm out u.name) (insNm_so u.name h)
    refine ⟨h1, h2.trans ?_⟩
    rw [List.map_cons]
    exact ((insNm_perm out u.name).append_right _).trans List.perm_middle.symm
theorem so_eq : ∀ {a b : List ByteArray}, a.Perm b → SoN a → SoN b → a = b
  | [], b, hp, _, _ => by rw [List.nil_perm.1 hp]
  | x :: a, [], hp, _, _ => by have := hp.length_eq; simp at this
  | x :: a, y :: b, hp, ha, hb => by
    obtain ⟨ha1, ha2⟩ := List.pairwise_cons.1 ha
    obtain ⟨hb1, hb2⟩ := List.pairwise_cons.1 hb
    have hy : y ∈ x :: a := hp.mem_iff.2 (by simp)
    have hx : x ∈ y :: b := hp.mem_iff.1 (by simp)
    have h1 : cmpN x y ≤ 0 := by
      rcases List.mem_cons.1 hy with e | e
      · rw [e, cmpN_self]; exact Int.le_refl _
      · exact ha1 y e
    have h2 : cmpN y x ≤ 0 := by
      rcases List.mem_cons.1 hx with e | e
      · rw [e, cmpN_self]; exact Int.le_refl _
      · exact hb1 x e
    have h3 := cmpN_anti x y
    have h4 : x = y := cmpN_eq (by omega)
    subst h4
    rw [so_eq hp.cons_inv ha2 hb2]
theorem PlInv.names (h : PlInv L H) : namesR H = L.map (·.name) := by
  obtain ⟨h1, h2⟩ := fold_so H [] .nil
  refine so_eq (h2.trans (by rw [List.nil_append]; exact (h.pm.map _).symm)) h1 ?_
  unfold SoN
  rw [List.pairwise_map]
  exact h.so.imp fun hh => Int.le_of_lt hh

theorem exec_neqU {o : Oper} {a : Act} {W : World} {x y : Operand} {T r : TypeId} (hT : T = 30 ∨ T = 36) (ho : o.op = .binOp .neq T x y r) (u : Us) (hx : a.eval x = .agg u.cells.toArray) (hy : a.eval y = .agg u.cells.toArray) :
    (execOp a.eval o).run Try.prog W = .ok (.value (.bool false)) W := by
  have h1 := run_neqU T hT u W
  have hg : (eqGuard .neq T x y (.agg u.cells.toArray) (.agg u.cells.toArray)).run Try.prog W = .ok () W := by
    rcases hT with rfl | rfl
    · have : Try.prog.eqGuardType Try.prog.depth 30 = false := by kernel_rfl
      simp [eqGuard, this]
    · have : Try.prog.eqGuardType Try.prog.depth 36 = false := by kernel_rfl
      simp [eqGuard, this]
  unfold execOp
  simp only [ho, hx, hy, Sem.run_bind, Sem.run_pure, Result.andThen_ok, hg, h1]
theorem exec_bld0 {P : Program} {o : Oper} {a : Act} {W : World} {ty : TypeId} (ho : o.op = .build ty #[]) {cells : Array Value} (hb : P.built ty [] = some cells) : (execOp a.eval o).run P W = .ok (.value (.agg cells)) W := by
  have hr := run_build (P := P) W ty #[] cells hb
  unfold execOp
  simp only [ho, Sem.run_bind, Sem.run_pure, Result.andThen_ok, List.map_toArray, List.map_nil, hr]
def zU : Us := ⟨.empty, List.replicate 16 0, rfl, 0, 0, false⟩
theorem zU_cells : zU.cells = zsU := rfl
end Go.Proofs.Ytclonbojpcgngaa
