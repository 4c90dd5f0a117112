/- Contracts of package name, rune by rune: in, Letter, Big; and of the document's Letter. -/
import Derived.Test.YtclonbojpcgngaaProg
import Derived.Test.YtclonbojpcgngaaBase
namespace Go.Proofs.Ytclonbojpcgngaa
set_option linter.unusedSimpArgs false
set_option linter.unusedVariables false
open Go.RowKit

theorem flatten_at {α : Type} {n : Nat} (f : α → List Value) (hf : ∀ x, (f x).length = n) : ∀ (l : List α) (k j : Nat) (h : k < l.length), j < n → ((l.map f).flatten)[k * n + j]? = (f l[k])[j]?
  | [], k, j, h, _ => by simp at h
  | x :: l, 0, j, h, hj => by
    simp only [List.map_cons, List.flatten_cons, Nat.zero_mul, Nat.zero_add, List.getElem_cons_zero]
    rw [List.getElem?_append_left (by rw [hf]; exact hj)]
  | x :: l, k + 1, j, h, hj => by
    simp only [List.map_cons, List.flatten_cons, List.getElem_cons_succ]
    rw [List.getElem?_append_right (by rw [hf, Nat.add_mul]; omega), hf, show (k + 1) * n + j - n = k * n + j by rw [Nat.add_mul]; omega]
    exact flatten_at f hf l k j (by simpa using h) hj

/-- Runes from one to another one. -/
abbrev Sp := Int × Int
def Sp.cells (x : Sp) : List Value := [.int .i32 x.1, .int .i32 x.2]
def spCells (l : List Sp) : List Value := (l.map Sp.cells).flatten
def Sp.has (r : Int) (x : Sp) : Bool := decide (x.1 ≤ r) && decide (r ≤ x.2)
def inB (r : Int) (l : List Sp) : Bool := l.any (Sp.has r)

set_option maxRecDepth 100000 in
theorem in_any (r : Int) (v : Value) (l : List Sp) (w : World) (h : Sl w 2 v l.length (spCells l)) :
    Calls Try.prog 34 #[.int .i32 r, v] w fun e w' => e = .returned (.bool (inB r l)) ∧ Below w.heap.size w w' := by
  obtain ⟨a, cap, rfl, hcap, hcm⟩ := h.form
  unfold maxLen at hcm
  have HS := Lib.hid h
  have hcl : (spCells l).length = l.length * 2 := h.1
  clear h
  go_enter Try.func34, Try.ntmps34
  go_wp2_with fail
  go_loopw [9] (fun i wr => ∃ k : Nat, k ≤ l.length ∧ i = .int .i64 k ∧ (l.take k).any (Sp.has r) = false ∧ Below w.heap.size w wr) (fun i _ => l.length - (intOf i).toNat)
  case atStart => exact ⟨0, Nat.zero_le _, rfl, rfl, Below.refl _ _⟩
  case round =>
    obtain ⟨k, hk, rfl, hno, hB⟩ := hrel
    have HNO := Lib.hid hno
    have HB := Lib.hid hB
    clear hno hB
    by_cases hlt : k < l.length
    · have hlt1 : (k : Int) < (l.length : Int) := by omega
      obtain ⟨b, off, rfl, hcell⟩ := HS.out.addr (by omega)
      have c0 : wr.cell? ⟨b, off + k * 2, none⟩ = some (.int .i32 l[k].1) := below_cell HB.out (hcell _ _ (flatten_at (n := 2) Sp.cells (fun _ => rfl) l k 0 hlt (by omega)))
      have c1 : wr.cell? ⟨b, off + k * 2 + 1, none⟩ = some (.int .i32 l[k].2) := below_cell HB.out (hcell _ _ (flatten_at (n := 2) Sp.cells (fun _ => rfl) l k 1 hlt (by omega)))
      clear hcell
      have HN : Hid (Sp.has r l[k] = false → (l.take (k + 1)).any (Sp.has r) = false) := Lib.hid (by
        intro h
        rw [List.take_succ_eq_append_getElem hlt, List.any_append, HNO.out]
        simp [h])
      have HY : Hid (Sp.has r l[k] = true → inB r l = true) := Lib.hid (by
        intro h
        exact List.any_eq_true.2 ⟨l[k], List.getElem_mem hlt, h⟩)
      have hB' : ∀ o, Below w.heap.size w (wr.alloc o) := fun o => HB.out.alloc HB.out.size o
      have HBA := Lib.hid hB'
      clear hB'
      have HE : Hid (Sp.has r l[k] = (decide (l[k].1 ≤ r) && decide (r ≤ l[k].2))) := Lib.hid rfl
      generalize l[k] = x at *
      obtain ⟨lo, hi⟩ := x
      by_cases h1 : lo ≤ r
      · by_cases h2 : r ≤ hi
        · go_wp2_with fail
          go_ret
          rw [HY.out (by rw [HE.out]; simp [h1, h2])]
          exact ⟨rfl, HBA.out _⟩
        · go_wp2_with fail
          go_roundw
          case rel => exact ⟨k + 1, by omega, by go_num, HN.out (by rw [HE.out]; simp [h2]), HBA.out _⟩
          case measure => simp [intOf]; omega
      · go_wp2_with fail
        go_roundw
        case rel => exact ⟨k + 1, by omega, by go_num, HN.out (by rw [HE.out]; simp [h1]), HBA.out _⟩
        case measure => simp [intOf]; omega
    · obtain rfl : k = l.length := by omega
      go_wp2_with fail
      go_ret
      have h := HNO.out
      rw [List.take_length] at h
      rw [show inB r l = false from h]
      exact ⟨rfl, HB.out⟩

def letL : List Sp := [(97, 122), (224, 246), (248, 254), (945, 961), (963, 969), (1072, 1103)]
def bigL : List Sp := [(65, 90), (192, 214), (216, 222), (913, 929), (931, 937), (1040, 1071)]
def numL : List Sp := [(48, 57), (45, 45)]
def letB (r : Int) : Bool := inB r letL
def bigB (r : Int) : Bool := inB r bigL
def numB (r : Int) : Bool := inB r numL

theorem Sl.spans {w : World} {cs : Array Value} {T : TypeId} {b : Nat} (l : List Sp) (hb : w.heap.size = b) (hc : cs.toList = spCells l) (hl : (spCells l).length = l.length * 2) (h1 : ∀ u ∈ spCells l, u.oneCell' = true) (hn : l.length ≤ maxLen) :
    Sl (w.alloc (.cells cs T)) 2 (.slice (some ⟨b, 0, none⟩) l.length l.length) l.length (spCells l) := by
  have := Sl.lit (w := w) (cs := cs) (T := T) (sz := 2) (n := l.length) hb (by rw [hc]; exact hl) (by rw [hc]; exact h1) hn
  rw [hc] at this
  exact this

theorem letter_any (r : Int) (w : World) :
    Calls Try.prog 33 #[.int .i32 r] w fun e w' => e = .returned (.bool (letB r)) ∧ Below w.heap.size w w' := by
  go_enter Try.func33, Try.ntmps33
  go_wp2_with fail
  refine (in_any r _ letL _ (Sl.spans letL rfl rfl rfl (by decide) (by decide))).mono ?_
  rw [show inB r letL = letB r from rfl]
  rintro e w1 ⟨rfl, hb1⟩
  have HB := Lib.hid (((Below.refl w.heap.size w).alloc (Nat.le_refl _) _).trans (hb1.mono (by simp)))
  clear hb1
  go_wp2_with fail
  go_ret
  exact ⟨rfl, HB.out⟩

set_option maxHeartbeats 2000000 in
theorem refLetter_any (r s : Int) (w : World) (h0 : -2147483648 ≤ r) (h1 : r ≤ 2147483647) (h2 : 0 ≤ s) (h3 : s ≤ 32) :
    Calls Try.prog 29 #[.int .i64 r, .int .i64 s] w fun e w' => e = .returned (.bool (letB (r + s))) ∧ w = w' := by
  obtain ⟨x, hx⟩ : ∃ x, x = r + s := ⟨_, rfl⟩
  have hw : wrap64 (r + s) = x := by rw [wrap64]; omega
  have HX := Lib.hid hx
  rw [← hx]
  clear h0 h1 h2 h3 hx
  go_enter Try.func29, Try.ntmps29
  rcases (by omega : x < 97 ∨ (97 ≤ x ∧ x ≤ 122) ∨ (122 < x ∧ x < 224) ∨ (224 ≤ x ∧ x ≤ 246) ∨ (246 < x ∧ x < 248) ∨ (248 ≤ x ∧ x ≤ 254) ∨ (254 < x ∧ x < 945) ∨ (945 ≤ x ∧ x ≤ 961) ∨ (961 < x ∧ x < 963) ∨ (963 ≤ x ∧ x ≤ 969) ∨ (969 < x ∧ x < 1072) ∨ (1072 ≤ x ∧ x ≤ 1103) ∨ 1103 < x) with
    k | ⟨k, k'⟩ | ⟨k, k'⟩ | ⟨k, k'⟩ | ⟨k, k'⟩ | ⟨k, k'⟩ | ⟨k, k'⟩ | ⟨k, k'⟩ | ⟨k, k'⟩ | ⟨k, k'⟩ | ⟨k, k'⟩ | ⟨k, k'⟩ | k <;>
  · have hb : letB x = (decide (97 ≤ x ∧ x ≤ 122 ∨ 224 ≤ x ∧ x ≤ 246 ∨ 248 ≤ x ∧ x ≤ 254 ∨ 945 ≤ x ∧ x ≤ 961 ∨ 963 ≤ x ∧ x ≤ 969 ∨ 1072 ≤ x ∧ x ≤ 1103)) := by
      simp only [letB, inB, letL, List.any_cons, List.any_nil, Sp.has, Bool.or_false, Bool.decide_or, Bool.decide_and]
    first
    | have HL := Lib.hid (hb.trans (decide_eq_true (by omega)))
    | have HL := Lib.hid (hb.trans (decide_eq_false (by omega)))
    clear hb
    go_wp2_with fail
    go_ret
    rw [HL.out]
    refine ⟨congrArg (fun b => Ending.returned (Value.bool b)) ?_, rfl⟩
    first
    | rfl
    | (simp [decide_eq_false_iff_not]; omega)
end Go.Proofs.Ytclonbojpcgngaa
