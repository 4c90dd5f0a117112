/- Runes and bytes, in plain Lean: what is encoded is decoded as it was. -/
import Derived.Test.YtclonbojpcgngaaName2
import Derived.Laws.Cover4
import Derived.Lib.MapLaws
import Derived.Lib.TrimUEq
import Derived.Lib.QuoteLoop
import Derived.Stop.FmtQuoteTie
namespace Go.Proofs.Ytclonbojpcgngaa
set_option linter.unusedSimpArgs false
set_option linter.unusedVariables false
open Go.RowKit Go.Lib

/-- The runes of a row of bytes. -/
def ruF : Nat → List UInt8 → List Int
  | 0, _ => []
  | f + 1, l => if l = [] then [] else ((decodeL l).1 : Int) :: ruF f (l.drop (decodeL l).2)
def ru (l : List UInt8) : List Int := ruF l.length l

theorem width_posL (l : List UInt8) (h : l ≠ []) : 1 ≤ (decodeL l).2 := by
  have hl : 0 < l.length := List.length_pos_iff.2 h
  exact Lib.decode_width_pos ⟨l.toArray⟩ 0 (by simpa [ByteArray.size] using hl)

theorem ruF_more : ∀ (f f' : Nat) (l : List UInt8), l.length ≤ f → l.length ≤ f' → ruF f l = ruF f' l
  | 0, 0, _, _, _ => rfl
  | 0, f' + 1, l, h, _ => by rw [ruF, ruF, if_pos (List.eq_nil_of_length_eq_zero (by omega))]
  | f + 1, 0, l, _, h => by rw [ruF, ruF, if_pos (List.eq_nil_of_length_eq_zero (by omega))]
  | f + 1, f' + 1, l, h, h' => by
    rw [ruF, ruF]
    split
    · rfl
    · next hne =>
      have := width_posL l hne
      rw [ruF_more f f' _ (by rw [List.length_drop]; omega) (by rw [List.length_drop]; omega)]
theorem ru_nil : ru [] = [] := rfl
theorem ru_step (l : List UInt8) (h : l ≠ []) : ru l = ((decodeL l).1 : Int) :: ru (l.drop (decodeL l).2) := by
  have hl : 0 < l.length := List.length_pos_iff.2 h
  have := width_posL l h
  obtain ⟨f, hf⟩ : ∃ f, l.length = f + 1 := ⟨l.length - 1, by omega⟩
  unfold ru
  rw [hf, ruF, if_neg h, ruF_more f _ _ (by rw [List.length_drop]; omega) (Nat.le_refl _)]

theorem size_toList (s : ByteArray) : s.data.toList.length = s.size := Array.length_toList

theorem rs_ru (s : ByteArray) : ∀ (f p : Nat), s.size ≤ p + f → (rs s p).map Prod.snd = ru (s.data.toList.drop p)
  | 0, p, h => by
    rw [rs_end s p (by omega), List.drop_of_length_le (by rw [size_toList]; omega)]
    rfl
  | f + 1, p, h => by
    by_cases hp : p < s.size
    · have hne : s.data.toList.drop p ≠ [] := by
        intro e
        have := congrArg List.length e
        rw [List.length_drop, size_toList] at this
        simp at this
        omega
      have := Lib.decode_width_pos s p hp
      rw [rs_step s p hp, List.map_cons, rs_ru s f _ (by omega), ru_step _ hne, decodeL_drop, List.drop_drop]
    · rw [rs_end s p hp, List.drop_of_length_le (by rw [size_toList]; omega)]
      rfl

def ruB (s : ByteArray) : List Int := ru s.data.toList
theorem rs_ruB (s : ByteArray) : (rs s 0).map Prod.snd = ruB s := rs_ru s s.size 0 (by omega)

/-- A rune that is well formed. -/
def okR (r : Int) : Prop := (0 ≤ r ∧ r < 55296) ∨ (57344 ≤ r ∧ r ≤ 1114111)

theorem ru_ok (l : List UInt8) : ∀ r ∈ ru l, okR r := by
  suffices ∀ (f : Nat) (l : List UInt8), l.length ≤ f → ∀ r ∈ ru l, okR r from this l.length l (Nat.le_refl _)
  intro f
  induction f with
  | zero =>
    intro l h r hr
    rw [List.eq_nil_of_length_eq_zero (by omega : l.length = 0), ru_nil] at hr
    cases hr
  | succ f ih =>
    intro l h r hr
    by_cases hne : l = []
    · rw [hne, ru_nil] at hr; cases hr
    · have := width_posL l hne
      rw [ru_step l hne] at hr
      rcases List.mem_cons.1 hr with rfl | hr
      · have h := Go.Lib.decodeN_valid l.length (l.getD 0 0).toNat (l.getD 1 0).toNat (l.getD 2 0).toNat (l.getD 3 0).toNat (UInt8.toNat_lt _)
        rw [← decodeL_N] at h
        unfold okR
        omega
      · exact ih _ (by rw [List.length_drop]; omega) r hr

theorem toNat_u8 (n : Nat) (h : n < 256) : (n.toUInt8).toNat = n := by
  show (UInt8.ofNat n).toNat = n
  rw [UInt8.toNat_ofNat']
  exact Nat.mod_eq_of_lt (by simpa using h)

/-- What is encoded is decoded as it was. -/
theorem decode_encode (r : Int) (h : okR r) (t : List UInt8) : decodeL (encodeRune r ++ t) = (r.toNat, (encodeRune r).length) := by
  obtain ⟨n, rfl⟩ : ∃ n : Nat, r = n := ⟨r.toNat, by unfold okR at h; omega⟩
  unfold okR at h
  unfold encodeRune
  rw [decodeL_N]
  rcases (by omega : n ≤ 127 ∨ (128 ≤ n ∧ n ≤ 2047) ∨ (2048 ≤ n ∧ n ≤ 65535) ∨ 65536 ≤ n) with k | k | k | k
  · rw [encodeRuneZ_one (by omega) (by omega)]
    simp only [List.map_cons, List.map_nil, List.cons_append, List.nil_append, List.getD_cons_zero, List.length_cons, List.length_nil]
    rw [toNat_u8 _ (by omega)]
    unfold decodeN
    rw [if_pos (by omega)]
  · rw [encodeRuneZ_two (by omega) (by omega)]
    simp only [List.map_cons, List.map_nil, List.cons_append, List.nil_append, List.getD_cons_zero, List.getD_cons_succ, List.length_cons, List.length_nil]
    rw [toNat_u8 _ (by omega), toNat_u8 _ (by omega)]
    unfold decodeN
    rw [if_neg (by omega), if_pos (by omega), if_pos (by omega)]
    first | (simp; done) | (simp; omega)
  · rw [encodeRuneZ_three (by omega)]
    simp only [List.map_cons, List.map_nil, List.cons_append, List.nil_append, List.getD_cons_zero, List.getD_cons_succ, List.length_cons, List.length_nil]
    rw [toNat_u8 _ (by omega), toNat_u8 _ (by omega), toNat_u8 _ (by omega)]
    unfold decodeN
    rw [if_neg (by omega), if_neg (by omega), if_pos (by omega), if_pos (by omega)]
    first | (simp; done) | (simp; omega)
  · rw [encodeRuneZ_four (by omega) (by omega)]
    simp only [List.map_cons, List.map_nil, List.cons_append, List.nil_append, List.getD_cons_zero, List.getD_cons_succ, List.length_cons, List.length_nil]
    rw [toNat_u8 _ (by omega), toNat_u8 _ (by omega), toNat_u8 _ (by omega), toNat_u8 _ (by omega)]
    unfold decodeN
    rw [if_neg (by omega), if_neg (by omega), if_neg (by omega), if_pos (by omega), if_pos (by omega)]
    first | (simp; done) | (simp; omega)

theorem encodeRune_pos (r : Int) : encodeRune r ≠ [] := by
  have := (encodeRuneZ_length r).1
  intro e
  have := congrArg List.length e
  simp only [encodeRune, List.length_map, List.length_nil] at this
  omega

theorem ru_encode (l : List Int) (h : ∀ r ∈ l, okR r) : ru (l.flatMap encodeRune) = l := by
  induction l with
  | nil => rfl
  | cons r l ih =>
    have hr := h r (List.mem_cons_self ..)
    rw [List.flatMap_cons, ru_step _ (by simp [encodeRune_pos]), decode_encode r hr, List.drop_left, ih (fun x hx => h x (List.mem_cons_of_mem _ hx))]
    congr 1
    unfold okR at hr
    omega

theorem encode_bytes (r : Int) (h : okR r) : (Utf8.encode r).data.toList = encodeRune r := by
  obtain ⟨n, rfl⟩ : ∃ n : Nat, r = n := ⟨r.toNat, by unfold okR at h; omega⟩
  unfold okR at h
  unfold encodeRune
  rcases (by omega : n ≤ 127 ∨ (128 ≤ n ∧ n ≤ 2047) ∨ (2048 ≤ n ∧ n ≤ 65535) ∨ 65536 ≤ n) with k | k | k | k
  · rw [encodeRuneZ_one (by omega) (by omega), Extern.FmtText.enc1 n (by omega)]
    rfl
  · rw [encodeRuneZ_two (by omega) (by omega), Extern.FmtText.enc2 n (by omega) (by omega)]
    simp only [List.map_cons, List.map_nil]
    rw [show ((192 : Int) + n / 64).toNat = 192 + n / 64 by omega, show ((128 : Int) + n % 64).toNat = 128 + n % 64 by omega]
  · rw [encodeRuneZ_three (by omega), Extern.FmtText.enc3 n (by omega) (by omega) (by omega)]
    simp only [List.map_cons, List.map_nil]
    rw [show ((224 : Int) + n / 4096).toNat = 224 + n / 4096 by omega, show ((128 : Int) + n / 64 % 64).toNat = 128 + n / 64 % 64 by omega, show ((128 : Int) + n % 64).toNat = 128 + n % 64 by omega]
  · rw [encodeRuneZ_four (by omega) (by omega), Extern.FmtText.enc4 n (by omega) (by omega)]
    simp only [List.map_cons, List.map_nil]
    rw [show ((240 : Int) + n / 262144).toNat = 240 + n / 262144 by omega, show ((128 : Int) + n / 4096 % 64).toNat = 128 + n / 4096 % 64 by omega, show ((128 : Int) + n / 64 % 64).toNat = 128 + n / 64 % 64 by omega, show ((128 : Int) + n % 64).toNat = 128 + n % 64 by omega]

theorem runesBytes_list (l : List Int) (h : ∀ r ∈ l, okR r) : (runesBytes l).data.toList = l.flatMap encodeRune := by
  suffices ∀ (l : List Int) (s : ByteArray), (∀ r ∈ l, okR r) → (l.foldl (fun r n => r ++ Utf8.encode n) s).data.toList = s.data.toList ++ l.flatMap encodeRune from by
    have := this l ByteArray.empty h
    simpa [runesBytes] using this
  intro l
  induction l with
  | nil => intro s _; simp
  | cons r l ih =>
    intro s h
    rw [List.foldl_cons, ih _ (fun x hx => h x (List.mem_cons_of_mem _ hx)), ByteArray.data_append, Array.toList_append, encode_bytes r (h r (List.mem_cons_self ..)), List.flatMap_cons, List.append_assoc]

theorem ruB_runesBytes (l : List Int) (h : ∀ r ∈ l, okR r) : ruB (runesBytes l) = l := by
  unfold ruB
  rw [runesBytes_list l h, ru_encode l h]

/-- Well-formed runes, encoded, are the text again, as long as none is the mark of what is ill formed. -/
theorem encode_ru (l : List UInt8) (h : ∀ r ∈ ru l, r ≠ 65533) : (ru l).flatMap encodeRune = l := by
  suffices ∀ (f : Nat) (l : List UInt8), l.length ≤ f → (∀ r ∈ ru l, r ≠ 65533) → (ru l).flatMap encodeRune = l from this l.length l (Nat.le_refl _) h
  intro f
  induction f with
  | zero =>
    intro l hl _
    rw [List.eq_nil_of_length_eq_zero (by omega : l.length = 0), ru_nil]
    rfl
  | succ f ih =>
    intro l hl h
    by_cases hne : l = []
    · rw [hne, ru_nil]; rfl
    · have := width_posL l hne
      rw [ru_step l hne] at h ⊢
      have h0 := h _ (List.mem_cons_self ..)
      rw [List.flatMap_cons, ih _ (by rw [List.length_drop]; omega) (fun r hr => h r (List.mem_cons_of_mem _ hr)), Lib.encode_decode l hne (by omega), List.take_append_drop]

theorem numB_iff (r : Int) : numB r = true ↔ (48 ≤ r ∧ r ≤ 57 ∨ 45 ≤ r ∧ r ≤ 45) := by
  simp only [numB, inB, numL, List.any_cons, List.any_nil, Sp.has, Bool.or_false, Bool.or_eq_true, Bool.and_eq_true, decide_eq_true_eq]
end Go.Proofs.Ytclonbojpcgngaa
