/- Words by runes and words by bytes are the same: said plainly, without the program. -/
import Derived.Test.YtppmjmginpkgaaaRef09d
namespace Go.Proofs.Ytppmjmginpkgaaa
open Go.RowKit Go.Lib

/-- What stands between blanks, by bytes; cur: what has been read of the word. -/
def wordsY : List UInt8 → ByteArray → List ByteArray
  | [], cur => [cur]
  | x :: t, cur => if x = 32 then cur :: wordsY t .empty else wordsY t (cur ++ ⟨#[x]⟩)

theorem wordsY_chunk : ∀ (ch t : List UInt8) (cur : ByteArray), (∀ x ∈ ch, x ≠ 32) → wordsY (ch ++ t) cur = wordsY t (cur ++ ⟨ch.toArray⟩)
  | [], t, cur, _ => by
    rw [List.nil_append, show cur ++ (⟨([] : List UInt8).toArray⟩ : ByteArray) = cur from toList_inj (by simp)]
  | x :: ch, t, cur, h => by
    rw [List.cons_append, wordsY, if_neg (h x (List.mem_cons_self ..)), wordsY_chunk ch t _ (fun y hy => h y (List.mem_cons_of_mem _ hy))]
    congr 1
    exact toList_inj (by simp)

theorem u8_ge (x : UInt8) (h : 128 ≤ x.toNat) : x ≠ 32 := by
  rintro rfl
  exact absurd h (by decide)

/-- The first rune's bytes: either it is a blank, or none of them is one. -/
theorem chunk_plain (l : List UInt8) (hne : l ≠ []) : ((decodeL l).1 = 32 ∧ (decodeL l).2 = 1 ∧ ∃ t, l = 32 :: t) ∨ ((decodeL l).1 ≠ 32 ∧ ∀ x ∈ l.take (decodeL l).2, x ≠ 32) := by
  have hl : 0 < l.length := List.length_pos_iff.2 hne
  rw [decodeL_N]
  have k0 := (l.getD 0 0).toNat_lt
  rcases decodeN_shape l.length (l.getD 0 0).toNat (l.getD 1 0).toNat (l.getD 2 0).toNat (l.getD 3 0).toNat with ⟨c, e⟩ | ⟨c1, c2, c3, cv, e⟩ | ⟨c1, c2, c3, c4, cv, cs, e⟩ | ⟨c1, c2, c3, c4, c5, cv, cw, e⟩ | e
  · rw [e]
    by_cases h : l.getD 0 0 = 32
    · left
      refine ⟨by rw [h]; rfl, rfl, ?_⟩
      obtain ⟨x, t, rfl⟩ := List.exists_cons_of_ne_nil hne
      exact ⟨t, by simpa using h⟩
    · right
      refine ⟨fun h' => h (UInt8.toNat_inj.1 (by simpa using h')), ?_⟩
      rw [takeA l hl]
      intro x hx
      rw [List.mem_singleton.1 hx]
      exact h
  · rw [e]
    right
    refine ⟨by simp only; omega, ?_⟩
    rw [takeB l c2]
    intro x hx
    simp only [List.mem_cons, List.not_mem_nil, or_false] at hx
    rcases hx with rfl | rfl <;> exact u8_ge _ (by omega)
  · rw [e]
    right
    refine ⟨by simp only; omega, ?_⟩
    rw [takeC l c2]
    intro x hx
    simp only [List.mem_cons, List.not_mem_nil, or_false] at hx
    rcases hx with rfl | rfl | rfl <;> exact u8_ge _ (by omega)
  · rw [e]
    right
    refine ⟨by simp only; omega, ?_⟩
    rw [takeD l c2]
    intro x hx
    simp only [List.mem_cons, List.not_mem_nil, or_false] at hx
    rcases hx with rfl | rfl | rfl | rfl <;> exact u8_ge _ (by omega)
  · rw [e]
    right
    refine ⟨by decide, ?_⟩
    rw [takeA l hl]
    intro x hx
    rw [List.mem_singleton.1 hx]
    intro h32
    rw [h32] at e
    unfold decodeN at e
    rw [if_pos (by decide)] at e
    exact absurd (congrArg Prod.fst e) (by decide)

theorem wordsF_Y (s : ByteArray) : ∀ (f p o : Nat), s.size ≤ p + f → o ≤ p → p ≤ s.size → wordsF s (rs s p) o = wordsY (s.data.toList.drop p) (s.extract o p)
  | 0, p, o, h, ho, hp => by
    obtain rfl : p = s.size := by omega
    rw [rs_end s _ (by omega), List.drop_of_length_le (by rw [size_toList]; omega)]
    rfl
  | f + 1, p, o, h, ho, hp => by
    by_cases hlt : p < s.size
    · have hne : s.data.toList.drop p ≠ [] := by
        intro e
        have := congrArg List.length e
        rw [List.length_drop, size_toList] at this
        simp at this
        omega
      have hw := Lib.decode_width_pos s p hlt
      have hwl := decodeL_le _ hne
      rw [List.length_drop, size_toList] at hwl
      rw [rs_step s p hlt]
      have hch := chunk_plain _ hne
      rw [decodeL_drop] at hch hwl
      rcases hch with ⟨h1, h2, t, ht⟩ | ⟨h1, h2⟩
      · rw [wordsF, if_pos (by rw [h1]; rfl), h2, wordsF_Y s f (p + 1) (p + 1) (by omega) (Nat.le_refl _) (by omega), ht, wordsY, if_pos rfl]
        have h3 : s.data.toList.drop (p + 1) = t := by rw [← List.drop_drop, ht]; rfl
        rw [h3, show s.extract (p + 1) (p + 1) = .empty from toList_inj (by rw [extract_list, Nat.sub_self]; rfl)]
      · rw [wordsF, if_neg (by omega), wordsF_Y s f _ o (by omega) (by omega) (by omega)]
        conv => rhs; rw [← List.take_append_drop (Utf8.decode s p).2 (s.data.toList.drop p)]
        rw [wordsY_chunk _ _ _ h2, List.drop_drop]
        congr 1
        refine toList_inj ?_
        rw [ByteArray.data_append, Array.toList_append, extract_list, extract_list]
        simp only
        rw [show p + (Utf8.decode s p).2 - o = (p - o) + (Utf8.decode s p).2 from by omega, List.take_add, List.drop_drop, show o + (p - o) = p from by omega]
    · obtain rfl : p = s.size := by omega
      rw [rs_end s _ (by omega), List.drop_of_length_le (by rw [size_toList]; omega)]
      rfl
theorem words_Y (s : ByteArray) : wordsB s = wordsY s.data.toList .empty := by
  unfold wordsB
  rw [wordsF_Y s s.size 0 0 (by omega) (Nat.le_refl _) (by omega), List.drop_zero]
  rw [show s.extract 0 0 = .empty from toList_inj (by rw [extract_list, Nat.sub_self]; rfl)]

theorem Own.form' {w : World} {B : Nat} {e : TypeId} {sz : Nat} {v : Value} {n : Nat} {cs : List Value} (h : Own w B e sz v n cs) (hn : 0 < n) :
    ∃ g cap cur, v = .slice (some ⟨g, 0, none⟩) n cap ∧ B ≤ g ∧ w.heap[g]? = some (.cells cur e (0, 0)) ∧ n ≤ cap ∧ cap ≤ maxLen ∧ cur.size = cap * sz ∧ cur.toList.take (n * sz) = cs := by
  obtain ⟨_, _, ⟨a, _, h0⟩ | h⟩ := h
  · omega
  · exact h
theorem Own.frozen {w : World} {B : Nat} {e : TypeId} {sz g cap n : Nat} {cs : List Value} (h : Own w B e sz (.slice (some ⟨g, 0, none⟩) n cap) n cs) (hn : 0 < n) (i : Nat) : w.frozen? ⟨g, i, none⟩ = false := by
  obtain ⟨g', cap', cur, e, _, h2, _⟩ := h.form' hn
  injection e with e1 e2 e3
  injection e1 with e1
  injection e1 with e1
  subst e1
  simp [World.frozen?, h2]
theorem Own.set {w : World} {B : Nat} {e : TypeId} {sz g cap n : Nat} {cs : List Value} (h : Own w B e sz (.slice (some ⟨g, 0, none⟩) n cap) n cs) (hn : 0 < n) (i : Nat) (u : Value) (hu : u.oneCell' = true) :
    Own (w.setCell ⟨g, i, none⟩ u) B e sz (.slice (some ⟨g, 0, none⟩) n cap) n (cs.set i u) := by
  obtain ⟨g', cap', cur, e, hg, h2, h3, h4, h5, h6⟩ := h.form' hn
  injection e with e1 e2 e3
  injection e1 with e1
  injection e1 with e1
  subst e1 e3
  refine ⟨by rw [List.length_set]; exact h.1, fun x hx => ?_, .inr ⟨g, cap, cur.setIfInBounds i u, rfl, hg, ?_, h3, h4, by rw [Array.size_setIfInBounds]; exact h5, ?_⟩⟩
  · rcases List.mem_or_eq_of_mem_set hx with hx | rfl
    · exact h.2.1 x hx
    · exact hu
  · have hb : Blk w g cur.toList e := by unfold Blk; simpa using h2
    have := hb.set i u
    unfold Blk at this
    rw [this]
    exact congrArg some (congrArg (fun c => Obj.cells c e (0, 0)) (Array.ext' (by simp)))
  · rw [Array.toList_setIfInBounds, ← h6, List.take_set]
end Go.Proofs.Ytppmjmginpkgaaa
