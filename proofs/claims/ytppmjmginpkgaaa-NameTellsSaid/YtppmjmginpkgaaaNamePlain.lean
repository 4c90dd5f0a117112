/- Names in plain Lean: what is folded is folded no more; a name is its own. -/
import Derived.Test.YtppmjmginpkgaaaRunes
namespace Go.Proofs.Ytppmjmginpkgaaa
open Go.RowKit Go.Lib

def rightN : List Int → Nat → Bool
  | [], n => decide (1 ≤ n) && decide (n ≤ 16)
  | r :: l, n => if letB r then rightN l (n + 1) else if n = 0 then false else if numB r then rightN l (n + 1) else false
def textN (most : Int) : List Int → Nat → Bool
  | [], n => decide ((n : Int) ≤ most)
  | r :: l, n => if r < 32 then false else if r = 127 then false else if r = 65533 then false else textN most l (n + 1)

theorem rightF_eq (s : ByteArray) : ∀ (f p n : Nat), s.size ≤ p + f → (p = 0 ↔ n = 0) → rightF (rs s p) n = rightN ((rs s p).map Prod.snd) n
  | 0, p, n, h, _ => by rw [rs_end s p (by omega)]; rfl
  | f + 1, p, n, h, hpn => by
    by_cases hp : p < s.size
    · have hw := Lib.decode_width_pos s p hp
      rw [rs_step s p hp, List.map_cons, rightF, rightN, rightF_eq s f _ (n + 1) (by omega) (by omega)]
      simp only [hpn]
    · rw [rs_end s p hp]; rfl
theorem right_runes (s : ByteArray) : rightB s = rightN (ruB s) 0 := by
  rw [← rs_ruB]
  exact rightF_eq s s.size 0 0 (by omega) (by simp)

theorem textF_eq (m : Int) : ∀ (l : List (Nat × Int)) (n : Nat), textF m l n = textN m (l.map Prod.snd) n
  | [], n => rfl
  | (i, r) :: l, n => by rw [List.map_cons, textF, textN, textF_eq m l]
theorem text_runes (s : ByteArray) (m : Int) : textB s m = textN m (ruB s) 0 := by
  rw [← rs_ruB]
  exact textF_eq m _ 0

theorem wordsF_one (s : ByteArray) : ∀ (l : List (Nat × Int)) (o : Nat), (∀ r ∈ l.map Prod.snd, r ≠ 32) → wordsF s l o = [s.extract o s.size]
  | [], o, _ => rfl
  | (i, r) :: l, o, h => by
    rw [wordsF, if_neg (h r (by simp)), wordsF_one s l o (fun x hx => h x (by rw [List.map_cons]; exact List.mem_cons_of_mem _ hx))]
theorem words_one (s : ByteArray) (h : ∀ r ∈ ruB s, r ≠ 32) : (wordsB s).length = 1 := by
  unfold wordsB
  rw [wordsF_one s _ 0 (by rw [rs_ruB]; exact h)]
  rfl

theorem letB_iff (r : Int) : letB r = true ↔ (97 ≤ r ∧ r ≤ 122 ∨ 224 ≤ r ∧ r ≤ 246 ∨ 248 ≤ r ∧ r ≤ 254 ∨ 945 ≤ r ∧ r ≤ 961 ∨ 963 ≤ r ∧ r ≤ 969 ∨ 1072 ≤ r ∧ r ≤ 1103) := by
  simp only [letB, inB, letL, List.any_cons, List.any_nil, Sp.has, Bool.or_false, Bool.or_eq_true, Bool.and_eq_true, decide_eq_true_eq]
theorem bigB_iff (r : Int) : bigB r = true ↔ (65 ≤ r ∧ r ≤ 90 ∨ 192 ≤ r ∧ r ≤ 214 ∨ 216 ≤ r ∧ r ≤ 222 ∨ 913 ≤ r ∧ r ≤ 929 ∨ 931 ≤ r ∧ r ≤ 937 ∨ 1040 ≤ r ∧ r ≤ 1071) := by
  simp only [bigB, inB, bigL, List.any_cons, List.any_nil, Sp.has, Bool.or_false, Bool.or_eq_true, Bool.and_eq_true, decide_eq_true_eq]
theorem numB_iff (r : Int) : numB r = true ↔ (48 ≤ r ∧ r ≤ 57 ∨ 45 ≤ r ∧ r ≤ 45) := by
  simp only [numB, inB, numL, List.any_cons, List.any_nil, Sp.has, Bool.or_false, Bool.or_eq_true, Bool.and_eq_true, decide_eq_true_eq]

theorem smallR_ok (r : Int) (h : okR r) : okR (smallR r) := by
  unfold smallR
  split
  · next hb => rw [bigB_iff] at hb; unfold okR; omega
  · exact h
theorem smallR_twice (r : Int) : smallR (smallR r) = smallR r := by
  by_cases hb : bigB r = true
  · have h1 : smallR r = r + 32 := by unfold smallR; rw [if_pos hb]
    have h2 : ¬ bigB (r + 32) = true := by rw [bigB_iff] at hb ⊢; omega
    rw [h1]
    unfold smallR
    rw [if_neg h2]
  · have h1 : smallR r = r := by unfold smallR; rw [if_neg hb]
    rw [h1, h1]

theorem foldR_eq (s : ByteArray) : foldR s = (ruB s).map smallR := by rw [← rs_ruB, List.map_map]; rfl
theorem foldR_ok (s : ByteArray) : ∀ r ∈ foldR s, okR r := by
  intro r hr
  rw [foldR_eq] at hr
  obtain ⟨x, hx, rfl⟩ := List.mem_map.1 hr
  exact smallR_ok x (ru_ok _ x hx)
theorem ruB_foldB (s : ByteArray) : ruB (foldB s) = foldR s := ruB_runesBytes _ (foldR_ok s)
theorem foldB_twice (s : ByteArray) : foldB (foldB s) = foldB s := by
  have : foldR (foldB s) = foldR s := by
    rw [foldR_eq (foldB s), ruB_foldB, foldR_eq, List.map_map]
    exact List.map_congr_left fun r _ => smallR_twice r
  unfold foldB at *
  rw [this]

theorem rightN_all : ∀ (l : List Int) (n : Nat), rightN l n = true → (∀ r ∈ l, letB r = true ∨ numB r = true) ∧ n + l.length ≤ 16
  | [], n, h => by
    rw [rightN, Bool.and_eq_true, decide_eq_true_eq, decide_eq_true_eq] at h
    exact ⟨by simp, by simp; omega⟩
  | r :: l, n, h => by
    rw [rightN] at h
    split at h
    · next hl =>
      have ih := rightN_all l (n + 1) h
      refine ⟨fun x hx => ?_, by rw [List.length_cons]; omega⟩
      rcases List.mem_cons.1 hx with rfl | hx
      · exact .inl hl
      · exact ih.1 x hx
    · split at h
      · cases h
      · split at h
        · next hl =>
          have ih := rightN_all l (n + 1) h
          refine ⟨fun x hx => ?_, by rw [List.length_cons]; omega⟩
          rcases List.mem_cons.1 hx with rfl | hx
          · exact .inr hl
          · exact ih.1 x hx
        · cases h

theorem name_rune {r : Int} (h : letB r = true ∨ numB r = true) : ¬ bigB r = true ∧ 32 < r ∧ r ≠ 127 ∧ r ≠ 65533 := by
  rw [letB_iff, numB_iff] at h
  rw [bigB_iff]
  omega

theorem textN_all (m : Int) : ∀ (l : List Int) (n : Nat), (∀ r ∈ l, 32 < r ∧ r ≠ 127 ∧ r ≠ 65533) → ((n + l.length : Nat) : Int) ≤ m → textN m l n = true
  | [], n, _, h => by rw [textN, decide_eq_true_eq]; simpa using h
  | r :: l, n, h, hm => by
    have hr := h r (List.mem_cons_self ..)
    rw [textN, if_neg (by omega), if_neg hr.2.1, if_neg hr.2.2]
    exact textN_all m l (n + 1) (fun x hx => h x (List.mem_cons_of_mem _ hx)) (by rw [List.length_cons] at hm; omega)

theorem right_all (s : ByteArray) (h : rightB s = true) : (∀ r ∈ ruB s, letB r = true ∨ numB r = true) ∧ (ruB s).length ≤ 16 := by
  rw [right_runes] at h
  have := rightN_all _ _ h
  exact ⟨this.1, by omega⟩
theorem right_text (s : ByteArray) (h : rightB s = true) : textB s 16 = true := by
  have h := right_all s h
  rw [text_runes]
  exact textN_all 16 _ 0 (fun r hr => (name_rune (h.1 r hr)).2) (by omega)
theorem right_words (s : ByteArray) (h : rightB s = true) : (wordsB s).length = 1 :=
  words_one s fun r hr => by have := name_rune ((right_all s h).1 r hr); omega

theorem toList_inj {a b : ByteArray} (h : a.data.toList = b.data.toList) : a = b := by
  cases a; cases b
  simp at h
  rw [h]

theorem right_fold (s : ByteArray) (h : rightB s = true) : foldB s = s := by
  have h := right_all s h
  have h1 : foldR s = ruB s := by
    rw [foldR_eq]
    conv => rhs; rw [← List.map_id (ruB s)]
    refine List.map_congr_left fun r hr => ?_
    unfold smallR
    rw [if_neg (name_rune (h.1 r hr)).1]
    rfl
  refine toList_inj ?_
  unfold foldB
  rw [runesBytes_list _ (foldR_ok s), h1]
  exact encode_ru _ fun r hr => (name_rune (h.1 r hr)).2.2.2
end Go.Proofs.Ytppmjmginpkgaaa
