/- Users, in plain Lean: their order by names, a sorted list, where somebody stands, who comes and goes. -/
import Derived.Test.YtclonbojpcgngaaByteC
import Derived.Test.YtclonbojpcgngaaFlat
import Derived.Lib.Bytealg
namespace Go.Proofs.Ytclonbojpcgngaa
set_option linter.unusedSimpArgs false
set_option linter.unusedVariables false
open Go.RowKit Go.Lib

theorem cb_self : ∀ a : List UInt8, compareBytes a a = 0
  | [] => rfl
  | x :: a => by rw [compareBytes, if_neg (UInt8.lt_irrefl x), if_neg (UInt8.lt_irrefl x), cb_self a]
theorem cb_eq : ∀ {a b : List UInt8}, compareBytes a b = 0 → a = b
  | [], [], _ => rfl
  | [], _ :: _, h => by simp [compareBytes] at h
  | _ :: _, [], h => by simp [compareBytes] at h
  | x :: a, y :: b, h => by
    rw [compareBytes] at h
    split at h
    · cases h
    · split at h
      · cases h
      · next h1 h2 =>
        rw [UInt8.lt_iff_toNat_lt] at h1 h2
        rw [UInt8.toNat_inj.1 (show x.toNat = y.toNat by omega), cb_eq h]
theorem cb_anti : ∀ (a b : List UInt8), compareBytes a b = - compareBytes b a
  | [], [] => rfl
  | [], _ :: _ => rfl
  | _ :: _, [] => rfl
  | x :: a, y :: b => by
    rw [compareBytes, compareBytes]
    by_cases h1 : x < y
    · have h2 : ¬ y < x := by rw [UInt8.lt_iff_toNat_lt] at h1 ⊢; omega
      rw [if_pos h1, if_neg h2, if_pos h1]
    · by_cases h2 : y < x
      · rw [if_neg h1, if_pos h2, if_pos h2]; rfl
      · rw [if_neg h1, if_neg h2, if_neg h2, if_neg h1, cb_anti a b]
theorem cb_trans : ∀ {a b c : List UInt8}, compareBytes a b < 0 → compareBytes b c < 0 → compareBytes a c < 0
  | [], [], _, h, _ => by simp [compareBytes] at h
  | [], _ :: _, [], _, h => by simp [compareBytes] at h
  | [], _ :: _, _ :: _, _, _ => by simp [compareBytes]
  | _ :: _, [], _, h, _ => by simp [compareBytes] at h
  | _ :: _, _ :: _, [], _, h => by simp [compareBytes] at h
  | x :: a, y :: b, z :: c, h, k => by
    rw [compareBytes] at h k ⊢
    simp only [UInt8.lt_iff_toNat_lt] at h k ⊢
    by_cases h1 : x.toNat < y.toNat
    · by_cases k1 : y.toNat < z.toNat
      · rw [if_pos (by omega)]; decide
      · rw [if_neg k1] at k
        by_cases k2 : z.toNat < y.toNat
        · rw [if_pos k2] at k; simp at k
        · rw [if_pos (by omega)]; decide
    · rw [if_neg h1] at h
      by_cases h2 : y.toNat < x.toNat
      · rw [if_pos h2] at h; simp at h
      · rw [if_neg h2] at h
        by_cases k1 : y.toNat < z.toNat
        · rw [if_pos (by omega)]; decide
        · rw [if_neg k1] at k
          by_cases k2 : z.toNat < y.toNat
          · rw [if_pos k2] at k; simp at k
          · rw [if_neg k2] at k
            rw [if_neg (by omega), if_neg (by omega)]
            exact cb_trans h k
theorem less_cb : ∀ (a b : List UInt8), Op.bytesLess a b = decide (compareBytes a b < 0)
  | [], [] => rfl
  | [], _ :: _ => rfl
  | _ :: _, [] => rfl
  | x :: a, y :: b => by
    rw [Op.bytesLess, compareBytes, less_cb a b]
    by_cases h1 : x < y
    · rw [if_pos h1]; simp [h1]
    · rw [if_neg h1]
      by_cases h2 : y < x
      · rw [if_pos h2]
        have h3 : (x == y) = false := by
          rw [beq_eq_false_iff_ne]
          intro h
          subst h
          exact h1 h2
        simp [h1, h3]
      · rw [if_neg h2]
        have h3 : x = y := by
          rw [UInt8.lt_iff_toNat_lt] at h1 h2
          exact UInt8.toNat_inj.1 (by omega)
        subst h3
        simp [h1]

/-- The order of names. -/
def cmpN (a b : ByteArray) : Int := compareBytes a.data.toList b.data.toList
theorem data_inj {a b : ByteArray} (h : a.data.toList = b.data.toList) : a = b := by
  obtain ⟨a⟩ := a
  obtain ⟨b⟩ := b
  exact congrArg ByteArray.mk (Array.toList_inj.1 h)
theorem cmpN_self (a : ByteArray) : cmpN a a = 0 := cb_self _
theorem cmpN_eq {a b : ByteArray} (h : cmpN a b = 0) : a = b := data_inj (cb_eq h)
theorem cmpN_anti (a b : ByteArray) : cmpN a b = - cmpN b a := cb_anti _ _
theorem cmpN_trans {a b c : ByteArray} (h : cmpN a b < 0) (k : cmpN b c < 0) : cmpN a c < 0 := cb_trans h k

/-- Somebody. -/
structure Us where
  name : ByteArray
  key : List UInt8
  kl : key.length = 16
  life : Int
  renew : Int
  mesh : Bool
def Us.cells (u : Us) : List Value := .string u.name :: (bCells u.key ++ [.int .i64 u.life, .int .i64 u.renew, .bool u.mesh])
theorem Us.cells_length (u : Us) : u.cells.length = 20 := by simp [Us.cells, bCells_length, u.kl]
theorem Us.cells_one (u : Us) : ∀ c ∈ u.cells, c.oneCell' = true := by
  intro c hc
  simp only [Us.cells, List.mem_cons, List.mem_append, List.not_mem_nil, or_false] at hc
  rcases hc with rfl | hc | rfl | rfl | rfl
  · rfl
  · exact bCells_one _ c hc
  all_goals rfl
theorem Us.c0 (u : Us) : u.cells[0]? = some (.string u.name) := rfl
theorem Us.c17 (u : Us) : u.cells[17]? = some (.int .i64 u.life) := by
  rw [Us.cells, List.getElem?_cons_succ, List.getElem?_append_right (by rw [bCells_length, u.kl]; omega), bCells_length, u.kl]; rfl
theorem Us.c18 (u : Us) : u.cells[18]? = some (.int .i64 u.renew) := by
  rw [Us.cells, List.getElem?_cons_succ, List.getElem?_append_right (by rw [bCells_length, u.kl]; omega), bCells_length, u.kl]; rfl
theorem Us.c19 (u : Us) : u.cells[19]? = some (.bool u.mesh) := by
  rw [Us.cells, List.getElem?_cons_succ, List.getElem?_append_right (by rw [bCells_length, u.kl]; omega), bCells_length, u.kl]; rfl
def usC (L : List Us) : List Value := (L.map Us.cells).flatten
theorem usC_length (L : List Us) : (usC L).length = L.length * 20 := flat_length Us.cells L (fun u _ => u.cells_length)
theorem usC_one (L : List Us) : ∀ c ∈ usC L, c.oneCell' = true := by
  intro c hc
  obtain ⟨x, hx, hcx⟩ := List.mem_flatten.1 hc
  obtain ⟨u, _, rfl⟩ := List.mem_map.1 hx
  exact u.cells_one c hcx
theorem usC_at (L : List Us) (k j : Nat) (h : k < L.length) (hj : j < 20) : (usC L)[k * 20 + j]? = L[k].cells[j]? := flatC_at Us.cells L (fun u _ => u.cells_length) k j h hj
theorem usC_append (L M : List Us) : usC (L ++ M) = usC L ++ usC M := by simp [usC]
theorem usC_take (L : List Us) (k : Nat) : usC (L.take k) = (usC L).take (k * 20) := (flat_take Us.cells L (fun u _ => u.cells_length) k).symm
theorem usC_drop (L : List Us) (k : Nat) : usC (L.drop k) = (usC L).drop (k * 20) := (flat_drop Us.cells L (fun u _ => u.cells_length) k).symm
theorem usC_one1 (u : Us) : usC [u] = u.cells := by simp [usC]

def Sorted (L : List Us) : Prop := L.Pairwise fun x y => cmpN x.name y.name < 0
theorem Sorted.at {L : List Us} (h : Sorted L) {i j : Nat} (hij : i < j) (hj : j < L.length) : cmpN (L[i]'(by omega)).name L[j].name < 0 := List.pairwise_iff_getElem.1 h i j (by omega) hj hij

/-- How many stand ahead of a name. -/
def posU (L : List Us) (s : ByteArray) : Nat := (L.takeWhile fun u => decide (cmpN u.name s < 0)).length
theorem posU_is : ∀ {L : List Us} {s : ByteArray} {i : Nat}, i ≤ L.length → (∀ k (h : k < L.length), k < i → cmpN L[k].name s < 0) → (∀ h : i < L.length, ¬ cmpN L[i].name s < 0) → posU L s = i
  | [], s, i, hi, _, _ => by simp at hi; simp [posU, hi]
  | u :: L, s, 0, _, _, h2 => by
    have := h2 (by simp)
    simp only [List.getElem_cons_zero] at this
    simp [posU, List.takeWhile_cons, this]
  | u :: L, s, i + 1, hi, h1, h2 => by
    have := h1 0 (by simp) (by omega)
    simp only [List.getElem_cons_zero] at this
    have ih := posU_is (L := L) (s := s) (i := i) (by simpa using hi) (fun k h hk => h1 (k + 1) (by simpa using h) (by omega)) (fun h => h2 (by simpa using h))
    rw [posU, List.takeWhile_cons, if_pos (by simpa using this), List.length_cons, ← posU, ih]
theorem posU_le (L : List Us) (s : ByteArray) : posU L s ≤ L.length := (List.takeWhile_prefix _).length_le
theorem posU_lt : ∀ {L : List Us} {s : ByteArray} {k : Nat} (hk : k < posU L s), cmpN (L[k]'(Nat.lt_of_lt_of_le hk (posU_le _ _))).name s < 0
  | [], s, k, hk => by simp [posU] at hk
  | u :: L, s, k, hk => by
    by_cases hu : cmpN u.name s < 0
    · have e : posU (u :: L) s = posU L s + 1 := by rw [posU, List.takeWhile_cons, if_pos (by simpa using hu), List.length_cons]; rfl
      cases k with
      | zero => exact hu
      | succ k => exact posU_lt (L := L) (by rw [e] at hk; omega)
    · have e : posU (u :: L) s = 0 := by rw [posU, List.takeWhile_cons, if_neg (by simpa using hu)]; rfl
      rw [e] at hk
      omega
theorem posU_ge : ∀ {L : List Us} {s : ByteArray} (h : posU L s < L.length), ¬ cmpN (L[posU L s]).name s < 0
  | [], s, h => by simp at h
  | u :: L, s, h => by
    by_cases hu : cmpN u.name s < 0
    · have e : posU (u :: L) s = posU L s + 1 := by rw [posU, List.takeWhile_cons, if_pos (by simpa using hu), List.length_cons]; rfl
      have h' : posU L s < L.length := by rw [e] at h; simpa using h
      have ih := posU_ge h'
      simpa [e] using ih
    · have e : posU (u :: L) s = 0 := by rw [posU, List.takeWhile_cons, if_neg (by simpa using hu)]; rfl
      simpa [e] using hu
/-- Is somebody there? -/
def hasU (L : List Us) (s : ByteArray) : Bool := match L[posU L s]? with | some u => decide (cmpN u.name s = 0) | none => false
theorem hasU_some {L : List Us} {s : ByteArray} (h : hasU L s = true) : ∃ hk : posU L s < L.length, L[posU L s].name = s := by
  unfold hasU at h
  split at h
  · next u hu =>
    obtain ⟨hk, he⟩ := List.getElem?_eq_some_iff.1 hu
    exact ⟨hk, by rw [he]; exact cmpN_eq (by simpa using h)⟩
  · cases h
theorem hasU_of {L : List Us} {s : ByteArray} (hs : Sorted L) {k : Nat} (hk : k < L.length) (he : L[k].name = s) : hasU L s = true ∧ posU L s = k := by
  have hp : posU L s = k := posU_is (by omega) (fun j h hj => by rw [← he]; exact hs.at hj hk) (fun h => by rw [he, cmpN_self]; decide)
  refine ⟨?_, hp⟩
  unfold hasU
  rw [hp, List.getElem?_eq_getElem hk]
  simp [he, cmpN_self]
theorem hasU_ge {L : List Us} {s : ByteArray} (hs : Sorted L) (h : hasU L s = false) {k : Nat} (hk : k < L.length) (hp : posU L s ≤ k) : cmpN s L[k].name < 0 := by
  have h0 : posU L s < L.length := by omega
  have h1 := posU_ge h0
  have h2 : cmpN (L[posU L s]).name s ≠ 0 := by
    intro h2
    unfold hasU at h
    rw [List.getElem?_eq_getElem h0] at h
    simp [h2] at h
  have h3 := cmpN_anti s (L[posU L s]).name
  rcases Nat.eq_or_lt_of_le hp with h4 | h4
  · have h5 : L[k] = L[posU L s] := by simp only [h4]
    rw [h5]
    omega
  · exact cmpN_trans (b := (L[posU L s]).name) (by omega) (hs.at h4 hk)

def insU (L : List Us) (u : Us) : List Us := L.take (posU L u.name) ++ u :: L.drop (posU L u.name)
def delU (L : List Us) (s : ByteArray) : List Us := L.take (posU L s) ++ L.drop (posU L s + 1)
theorem insU_length (L : List Us) (u : Us) : (insU L u).length = L.length + 1 := by
  have := posU_le L u.name
  simp [insU]; omega
theorem insU_sorted {L : List Us} {u : Us} (hs : Sorted L) (h : hasU L u.name = false) : Sorted (insU L u) := by
  unfold Sorted insU
  rw [List.pairwise_append]
  refine ⟨hs.sublist (List.take_sublist _ _), ?_, ?_⟩
  · rw [List.pairwise_cons]
    refine ⟨fun y hy => ?_, hs.sublist (List.drop_sublist _ _)⟩
    obtain ⟨j, hj, rfl⟩ := List.getElem_of_mem hy
    rw [List.getElem_drop]
    exact hasU_ge hs h _ (by omega)
  · intro x hx y hy
    obtain ⟨i, hi, rfl⟩ := List.getElem_of_mem hx
    rw [List.getElem_take]
    simp only [List.length_take] at hi
    have h1 := posU_lt (L := L) (s := u.name) (k := i) (by omega)
    rcases List.mem_cons.1 hy with rfl | hy
    · exact h1
    · obtain ⟨j, hj, rfl⟩ := List.getElem_of_mem hy
      rw [List.getElem_drop]
      exact cmpN_trans h1 (hasU_ge hs h _ (by omega))
theorem insU_pos {L : List Us} {u : Us} (hs : Sorted L) (h : hasU L u.name = false) : hasU (insU L u) u.name = true ∧ posU (insU L u) u.name = posU L u.name := by
  have hp := posU_le L u.name
  refine hasU_of (insU_sorted hs h) (by rw [insU_length]; omega) ?_
  simp only [insU]
  rw [List.getElem_append_right (by rw [List.length_take]; omega)]
  simp [hp]
theorem delU_insU {L : List Us} {u : Us} (hs : Sorted L) (h : hasU L u.name = false) : delU (insU L u) u.name = L := by
  have hp := posU_le L u.name
  rw [delU, (insU_pos hs h).2, insU]
  rw [List.take_append_of_le_length (by rw [List.length_take]; omega), List.take_of_length_le (by rw [List.length_take]; omega), List.drop_append, List.length_take, Nat.min_eq_left hp, List.drop_of_length_le (by rw [List.length_take]; omega),
    show posU L u.name + 1 - posU L u.name = 1 by omega]
  simp
theorem delU_sorted {L : List Us} {s : ByteArray} (hs : Sorted L) : Sorted (delU L s) := by
  unfold Sorted delU
  refine hs.sublist ?_
  conv => rhs; rw [← List.take_append_drop (posU L s) L]
  refine (List.Sublist.refl _).append ?_
  rw [← List.drop_drop]
  exact List.drop_sublist _ _
theorem delU_length {L : List Us} {s : ByteArray} (h : hasU L s = true) : (delU L s).length + 1 = L.length := by
  obtain ⟨hk, _⟩ := hasU_some h
  simp [delU]; omega

theorem aggUs : AggTy Try.prog 30 20 := AggTy.mk Try.underlying30 rfl (by kernel_rfl)
def zsU : List Value := .string .empty :: (List.replicate 16 (.int .u8 0) ++ [.int .i64 0, .int .i64 0, .bool false])
theorem elUs : Elem Try.prog 62 30 20 56 (.agg zsU.toArray) := by
  refine Elem.mk Try.underlying62 ?_ rfl (by decide)
  kernel_rfl
end Go.Proofs.Ytclonbojpcgngaa
