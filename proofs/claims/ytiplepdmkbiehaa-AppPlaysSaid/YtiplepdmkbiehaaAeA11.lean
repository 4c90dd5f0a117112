/- Texts of this proof, one behind the other: Runes, Ref09, Ref09b, Ref09c, Ref09t. -/
import Derived.Test.YtiplepdmkbiehaaAeA10
import Derived.Laws.Cover4
import Derived.Lib.MapLaws
import Derived.Lib.TrimUEq
import Derived.Lib.QuoteLoop
import Derived.Stop.FmtQuoteTie
namespace Go.Proofs.Ytiplepdmkbiehaa
set_option linter.unusedSimpArgs false
set_option linter.unusedVariables false
open Go.RowKit Go.Lib
/-- The runes of a row of bytes. -/
def ruF : Nat → List UInt8 → List Int
  | 0, _ => []
  | f + 1, l => if l = [] then [] else ((decodeL l).1 : Int) :: ruF f (l.drop (decodeL l).2)
def ru (l : List UInt8) : List Int := ruF l.length l
theorem width_posL (l : List UInt8) (h : l ≠ []) : 1 ≤ (decodeL l).2 := by
  have hl : 0 < l.length := List.length_pos_iff.2 h
  exact Lib.decode_width_pos ⟨l.toArray⟩ 0 (by simpa [ByteArray.size] using hl)
theorem ruF_more : ∀ (f f' : Nat) (l : List UInt8), l.length ≤ f → l.length ≤ f' → ruF f l = ruF f' l
  | 0, 0, _, _, _ => rfl
  | 0, f' + 1, l, h, _ => by rw [ruF, ruF, if_pos (List.eq_nil_of_length_eq_zero (by omega))]
  | f + 1, 0, l, _, h => by rw [ruF, ruF, if_pos (List.eq_nil_of_length_eq_zero (by omega))]
  | f + 1, f' + 1, l, h, h' => by
    rw [ruF, ruF]
    split
    · rfl
    · next hne =>
      have := width_posL l hne
      rw [ruF_more f f' _ (by rw [List.length_drop]; omega) (by rw [List.length_drop]; omega)]
theorem ru_nil : ru [] = [] := rfl
theorem ru_step (l : List UInt8) (h : l ≠ []) : ru l = ((decodeL l).1 : Int) :: ru (l.drop (decodeL l).2) := by
  have hl : 0 < l.length := List.length_pos_iff.2 h
  have := width_posL l h
  obtain ⟨f, hf⟩ : ∃ f, l.length = f + 1 := ⟨l.length - 1, by omega⟩
  unfold ru
  rw [hf, ruF, if_neg h, ruF_more f _ _ (by rw [List.length_drop]; omega) (Nat.le_refl _)]
theorem size_toList (s : ByteArray) : s.data.toList.length = s.size := Array.length_toList
theorem rs_ru (s : ByteArray) : ∀ (f p : Nat), s.size ≤ p + f → (rs s p).map Prod.snd = ru (s.data.toList.drop p)
  | 0, p, h => by
    rw [rs_end s p (by omega), List.drop_of_length_le (by rw [size_toList]; omega)]
    rfl
  | f + 1, p, h => by
    by_cases hp : p < s.size
    · have hne : s.data.toList.drop p ≠ [] := by
        intro e
        have := congrArg List.length e
        rw [List.length_drop, size_toList] at this
        simp at this
        omega
      have := Lib.decode_width_pos s p hp
      rw [rs_step s p hp, List.map_cons, rs_ru s f _ (by omega), ru_step _ hne, decodeL_drop, List.drop_drop]
    · rw [rs_end s p hp, List.drop_of_length_le (by rw [size_toList]; omega)]
      rfl
/-- A rune that is well formed. -/
def okR (r : Int) : Prop := (0 ≤ r ∧ r < 55296) ∨ (57344 ≤ r ∧ r ≤ 1114111)
theorem ru_ok (l : List UInt8) : ∀ r ∈ ru l, okR r := by
  suffices ∀ (f : Nat) (l : List UInt8), l.length ≤ f → ∀ r ∈ ru l, okR r from this l.length l (Nat.le_refl _)
  intro f
  induction f with
  | zero =>
    intro l h r hr
    rw [List.eq_nil_of_length_eq_zero (by omega : l.length = 0), ru_nil] at hr
    cases hr
  | succ f ih =>
    intro l h r hr
    by_cases hne : l = []
    · rw [hne, ru_nil] at hr; cases hr
    · have := width_posL l hne
      rw [ru_step l hne] at hr
      rcases List.mem_cons.1 hr with rfl | hr
      · have h := Go.Lib.decodeN_valid l.length (l.getD 0 0).toNat (l.getD 1 0).toNat (l.getD 2 0).toNat (l.getD 3 0).toNat (UInt8.toNat_lt _)
        rw [← decodeL_N] at h
        unfold okR
        omega
      · exact ih _ (by rw [List.length_drop]; omega) r hr
theorem numB_iff (r : Int) : numB r = true ↔ (48 ≤ r ∧ r ≤ 57 ∨ 45 ≤ r ∧ r ≤ 45) := by
  simp only [numB, inB, numL, List.any_cons, List.any_nil, Sp.has, Bool.or_false, Bool.or_eq_true, Bool.and_eq_true, decide_eq_true_eq]
/-- The document's rune: -1, and one byte: none that is well formed. -/
def refR (d : Nat × Nat) : Int × Nat := if d.1 = 65533 ∧ d.2 = 1 then (-1, 1) else (d.1, d.2)
theorem refR_wide (x k : Nat) (h : k ≠ 1) : refR (x, k) = ((x : Int), k) := by
  unfold refR
  rw [if_neg (fun e => h e.2)]
theorem ref_one (n b0 b1 b2 b3 : Nat) (h : b0 < 128) : refR (decodeN n b0 b1 b2 b3) = ((b0 : Int), 1) := by
  unfold decodeN
  rw [if_pos h]
  unfold refR
  rw [if_neg (by simp only; omega)]
theorem ref_bad (n b0 b1 b2 b3 : Nat) (h : 128 ≤ b0) (h' : b0 < 194 ∨ 244 < b0) (h2 : b0 < 256) : refR (decodeN n b0 b1 b2 b3) = (-1, 1) := by
  have : decodeN n b0 b1 b2 b3 = (65533, 1) := by
    unfold decodeN
    repeat' split
    all_goals first | rfl | (exfalso; omega)
  rw [this]
  rfl
theorem ref_two_no (n b0 b1 b2 b3 : Nat) (h : 194 ≤ b0 ∧ b0 ≤ 223) (hb1 : b1 < 256) (hn : n < 2 ∨ b1 < 128 ∨ 191 < b1) : refR (decodeN n b0 b1 b2 b3) = (-1, 1) := by
  have : decodeN n b0 b1 b2 b3 = (65533, 1) := by
    unfold decodeN
    repeat' split
    all_goals first | rfl | (exfalso; omega)
  rw [this]
  rfl
theorem ref_two (n b0 b1 b2 b3 : Nat) (h : 194 ≤ b0 ∧ b0 ≤ 223) (hn : 2 ≤ n) (hb1 : 128 ≤ b1 ∧ b1 ≤ 191) : refR (decodeN n b0 b1 b2 b3) = ((((b0 - 192) * 64 + (b1 - 128) : Nat) : Int), 2) := by
  have : decodeN n b0 b1 b2 b3 = ((b0 - 192) * 64 + (b1 - 128), 2) := by
    unfold decodeN
    rw [if_neg (by omega), if_pos (by omega), if_pos (by omega)]
    exact congrArg (fun y => (y, 2)) (by omega)
  rw [this]
  exact refR_wide _ _ (by decide)
theorem ref_three_no (n b0 b1 b2 b3 : Nat) (h : 224 ≤ b0 ∧ b0 ≤ 239) (hb1 : b1 < 256) (hb2 : b2 < 256) (hn : n < 3 ∨ b1 < 128 ∨ 191 < b1 ∨ b2 < 128 ∨ 191 < b2) : refR (decodeN n b0 b1 b2 b3) = (-1, 1) := by
  have : decodeN n b0 b1 b2 b3 = (65533, 1) := by
    unfold decodeN
    repeat' split
    all_goals first | rfl | (exfalso; omega)
  rw [this]
  rfl
theorem ref_three (n b0 b1 b2 b3 : Nat) (h : 224 ≤ b0 ∧ b0 ≤ 239) (hn : 3 ≤ n) (hb1 : 128 ≤ b1 ∧ b1 ≤ 191) (hb2 : 128 ≤ b2 ∧ b2 ≤ 191) (x : Nat) (hx : x = ((b0 - 224) * 64 + (b1 - 128)) * 64 + (b2 - 128)) :
    refR (decodeN n b0 b1 b2 b3) = if x < 2048 ∨ 1114111 < x ∨ (55296 ≤ x ∧ x ≤ 57343) then (-1, 1) else ((x : Int), 3) := by
  have hv : b0 % 16 * 4096 + b1 % 64 * 64 + b2 % 64 = x := by omega
  unfold decodeN
  rw [if_neg (by omega), if_neg (by omega), if_pos (by omega), hv]
  by_cases hb : x < 2048 ∨ 1114111 < x ∨ (55296 ≤ x ∧ x ≤ 57343)
  · rw [if_pos hb, if_neg (by omega)]; rfl
  · rw [if_neg hb, if_pos (by omega)]; exact refR_wide _ _ (by decide)
theorem ref_four_no (n b0 b1 b2 b3 : Nat) (h : 240 ≤ b0 ∧ b0 ≤ 244) (hb1 : b1 < 256) (hb2 : b2 < 256) (hb3 : b3 < 256) (hn : n < 4 ∨ b1 < 128 ∨ 191 < b1 ∨ b2 < 128 ∨ 191 < b2 ∨ b3 < 128 ∨ 191 < b3) : refR (decodeN n b0 b1 b2 b3) = (-1, 1) := by
  have : decodeN n b0 b1 b2 b3 = (65533, 1) := by
    unfold decodeN
    repeat' split
    all_goals first | rfl | (exfalso; omega)
  rw [this]
  rfl
theorem ref_four (n b0 b1 b2 b3 : Nat) (h : 240 ≤ b0 ∧ b0 ≤ 244) (hn : 4 ≤ n) (hb1 : 128 ≤ b1 ∧ b1 ≤ 191) (hb2 : 128 ≤ b2 ∧ b2 ≤ 191) (hb3 : 128 ≤ b3 ∧ b3 ≤ 191) (x : Nat) (hx : x = (((b0 - 240) * 64 + (b1 - 128)) * 64 + (b2 - 128)) * 64 + (b3 - 128)) :
    refR (decodeN n b0 b1 b2 b3) = if x < 65536 ∨ 1114111 < x ∨ (55296 ≤ x ∧ x ≤ 57343) then (-1, 1) else ((x : Int), 4) := by
  have hv : b0 % 8 * 262144 + b1 % 64 * 4096 + b2 % 64 * 64 + b3 % 64 = x := by omega
  unfold decodeN
  rw [if_neg (by omega), if_neg (by omega), if_neg (by omega), if_pos (by omega), hv]
  by_cases hb : x < 65536 ∨ 1114111 < x ∨ (55296 ≤ x ∧ x ≤ 57343)
  · rw [if_pos hb, if_neg (by omega)]; rfl
  · rw [if_neg hb, if_pos (by omega)]; exact refR_wide _ _ (by decide)
set_option maxHeartbeats 4000000 in
set_option maxRecDepth 100000 in
theorem refRune_any (s : ByteArray) (w : World) (hs : s.size ≤ maxLen) (h0 : 0 < s.size) :
    Calls Try.prog 28 #[.string s] w fun e w' => e = .returned (.tuple #[.int .i64 (refR (Utf8.decode s 0)).1, .int .i64 (refR (Utf8.decode s 0)).2]) ∧ w = w' := by
  unfold maxLen at hs
  have hb : ∀ (k : Nat) (h : k < s.size), (s.get! k).toNat < 256 ∧ wrap64 ((s[k]'h).toNat : Int) = ((s.get! k).toNat : Int) := by
    intro k h
    have h1 := (s.get! k).toNat_lt
    have h2 := get_at s k h
    rw [Nat.add_zero] at h2
    rw [← h2]
    refine ⟨h1, ?_⟩
    rw [wrap64]
    omega
  have hdec : refR (Utf8.decode s 0) = refR (decodeN s.size (s.get! 0).toNat (s.get! 1).toNat (s.get! 2).toNat (s.get! 3).toNat) := by
    rw [decode_at s 0, Nat.sub_zero]
  rw [hdec]
  obtain ⟨hx0, hy0⟩ := hb 0 h0
  have hx1 := (s.get! 1).toNat_lt
  have hx2 := (s.get! 2).toNat_lt
  have hx3 := (s.get! 3).toNat_lt
  have HB := hI hb
  clear hb hdec
  generalize hb0 : (s.get! 0).toNat = b0 at *
  generalize hb1 : (s.get! 1).toNat = b1 at *
  generalize hb2 : (s.get! 2).toNat = b2 at *
  generalize hb3 : (s.get! 3).toNat = b3 at *
  have HB1 := hI hb1
  have HB2 := hI hb2
  have HB3 := hI hb3
  clear hb0 hb1 hb2 hb3
  have HX1 := hI hx1
  have HX2 := hI hx2
  have HX3 := hI hx3
  clear hx1 hx2 hx3
  obtain ⟨D, hD⟩ : ∃ D, D = refR (decodeN s.size b0 b1 b2 b3) := ⟨_, rfl⟩
  rw [← hD]
  have HD := hI hD
  clear hD
  go_enter Try.func28, Try.ntmps28
  rcases (by omega : b0 < 128 ∨ (128 ≤ b0 ∧ b0 < 194) ∨ (194 ≤ b0 ∧ b0 ≤ 223) ∨ (224 ≤ b0 ∧ b0 ≤ 239) ∨ (240 ≤ b0 ∧ b0 ≤ 244) ∨ 244 < b0) with k | ⟨k, k'⟩ | ⟨k, k'⟩ | ⟨k, k'⟩ | ⟨k, k'⟩ | k
  · have hD := HD.out.trans (ref_one _ _ _ _ _ k)
    have HD' := hI hD
    have k1 : (b0 : Int) < 128 := by omega
    clear hD k HD
    go_wp2_with fail
    go_ret2
    rw [HD'.out]
    show Ending.returned (.tuple #[.int .i64 (wrap64 ((s[0]'h0).toNat : Int)), .int .i64 1]) = _ ∧ _
    rw [hy0]
    exact ⟨rfl, rfl⟩
  · have hD := HD.out.trans (ref_bad _ _ _ _ _ (by omega) (by omega) hx0)
    have HD' := hI hD
    have k1 : ¬ (b0 : Int) < 128 := by omega
    have k2 : ¬ (194 : Int) ≤ (b0 : Int) := by omega
    have k3 : ¬ (224 : Int) ≤ (b0 : Int) := by omega
    have k4 : ¬ (240 : Int) ≤ (b0 : Int) := by omega
    clear hD k k' HD
    go_wp2_with fail
    go_ret2
    rw [HD'.out]
    exact ⟨rfl, rfl⟩
  · have K := hI (And.intro k k')
    have k1 : ¬ (b0 : Int) < 128 := by omega
    have k2 : (194 : Int) ≤ (b0 : Int) := by omega
    have k3 : (b0 : Int) ≤ 223 := by omega
    obtain ⟨L, hL, hL2⟩ : ∃ L : Nat, L = b0 - 192 ∧ ((b0 : Int) - 192 = (L : Int)) := ⟨_, rfl, by omega⟩
    have hL3 : L < 32 := by omega
    have HL := hI hL
    clear hL k k'
    by_cases hn : s.size < 2
    · have HD' := hI (HD.out.trans (ref_two_no _ _ _ _ _ ⟨K.out.1, K.out.2⟩ HX1.out (.inl hn)))
      have hn1 : (s.size : Int) < 2 := by omega
      clear hn HD
      go_wp2_with fail
      go_ret2
      rw [HD'.out]
      exact ⟨rfl, rfl⟩
    · have hn1 : ¬ (s.size : Int) < 2 := by omega
      go_wp2_with fail
      go_loopw [4, 7] (fun av kv wr => ∃ k a : Nat, av = .int .i64 a ∧ kv = .int .i64 k ∧ wr = w ∧ ((k = 1 ∧ a = L) ∨ (k = 2 ∧ 128 ≤ b1 ∧ b1 ≤ 191 ∧ a = (L * 64 + (b1 - 128))))) (fun _ kv _ => 2 - (intOf kv).toNat)
      case atStart => exact ⟨1, L, by go_num, rfl, rfl, .inl ⟨rfl, rfl⟩⟩
      case round =>
        obtain ⟨k, a, rfl, rfl, rfl, hk⟩ := hrel
        rcases hk with ⟨rfl, hak⟩ | ⟨rfl, c1, d1, hak⟩
        · obtain ⟨hw, hy⟩ := HB.out 1 (by omega)
          rw [HB1.out] at hw hy
          have hlt : 1 < s.size := by omega
          have haa : a < 32 := by omega
          have HAK := hI hak
          clear hak
          rcases (by omega : b1 < 128 ∨ 191 < b1 ∨ (128 ≤ b1 ∧ b1 ≤ 191)) with q | q | ⟨q, q'⟩
          · have HD' := hI (HD.out.trans (ref_two_no _ _ _ _ _ ⟨K.out.1, K.out.2⟩ HX1.out (.inr (by omega))))
            have q1 : (b1 : Int) < 128 := by omega
            clear q HD
            go_wp2_with fail
            go_ret2
            rw [HD'.out]
            exact ⟨rfl, rfl⟩
          · have HD' := hI (HD.out.trans (ref_two_no _ _ _ _ _ ⟨K.out.1, K.out.2⟩ HX1.out (.inr (by omega))))
            have q1 : ¬ (b1 : Int) < 128 := by omega
            have q2 : (191 : Int) < (b1 : Int) := by omega
            clear q HD
            go_wp2_with fail
            go_ret2
            rw [HD'.out]
            exact ⟨rfl, rfl⟩
          · have q1 : ¬ (b1 : Int) < 128 := by omega
            have q2 : ¬ (191 : Int) < (b1 : Int) := by omega
            go_wp2_with fail
            go_roundw
            case rel =>
              have hak := HAK.out
              exact ⟨2, a * 64 + (b1 - 128), by go_num, by go_num, by first | rfl | trivial, .inr (⟨by omega, q, q', by omega⟩)⟩
            case measure => simp [intOf]
        · have haa : a < 2048 := by omega
          have hl : a = (b0 - 192) * 64 + (b1 - 128) := by have := HL.out; omega
          have HD' := hI (HD.out.trans (ref_two _ _ _ _ _ ⟨K.out.1, K.out.2⟩ (by omega) ⟨c1, d1⟩))
          rw [← hl] at HD'
          have g1 : ¬ (a : Int) < 128 := by have := K.out; omega
          have g2 : ¬ (1114111 : Int) < (a : Int) := by omega
          have g3 : ¬ (55296 : Int) ≤ (a : Int) := by omega
          clear hl hak HD c1 d1
          go_wp2_with fail
          go_ret2
          rw [HD'.out]
          exact ⟨rfl, rfl⟩
  · have K := hI (And.intro k k')
    have k1 : ¬ (b0 : Int) < 128 := by omega
    have k2 : (194 : Int) ≤ (b0 : Int) := by omega
    have k3 : ¬ (b0 : Int) ≤ 223 := by omega
    have k4 : (224 : Int) ≤ (b0 : Int) := by omega
    have k5 : (b0 : Int) ≤ 239 := by omega
    obtain ⟨L, hL, hL2⟩ : ∃ L : Nat, L = b0 - 224 ∧ ((b0 : Int) - 224 = (L : Int)) := ⟨_, rfl, by omega⟩
    have hL3 : L < 32 := by omega
    have HL := hI hL
    clear hL k k'
    by_cases hn : s.size < 3
    · have HD' := hI (HD.out.trans (ref_three_no _ _ _ _ _ ⟨K.out.1, K.out.2⟩ HX1.out HX2.out (.inl hn)))
      have hn1 : (s.size : Int) < 3 := by omega
      clear hn HD
      go_wp2_with fail
      go_ret2
      rw [HD'.out]
      exact ⟨rfl, rfl⟩
    · have hn1 : ¬ (s.size : Int) < 3 := by omega
      go_wp2_with fail
      go_loopw [4, 7] (fun av kv wr => ∃ k a : Nat, av = .int .i64 a ∧ kv = .int .i64 k ∧ wr = w ∧ ((k = 1 ∧ a = L) ∨ (k = 2 ∧ 128 ≤ b1 ∧ b1 ≤ 191 ∧ a = (L * 64 + (b1 - 128))) ∨ (k = 3 ∧ 128 ≤ b1 ∧ b1 ≤ 191 ∧ 128 ≤ b2 ∧ b2 ≤ 191 ∧ a = ((L * 64 + (b1 - 128)) * 64 + (b2 - 128))))) (fun _ kv _ => 3 - (intOf kv).toNat)
      case atStart => exact ⟨1, L, by go_num, rfl, rfl, .inl ⟨rfl, rfl⟩⟩
      case round =>
        obtain ⟨k, a, rfl, rfl, rfl, hk⟩ := hrel
        rcases hk with ⟨rfl, hak⟩ | ⟨rfl, c1, d1, hak⟩ | ⟨rfl, c1, d1, c2, d2, hak⟩
        · obtain ⟨hw, hy⟩ := HB.out 1 (by omega)
          rw [HB1.out] at hw hy
          have hlt : 1 < s.size := by omega
          have haa : a < 32 := by omega
          have HAK := hI hak
          clear hak
          rcases (by omega : b1 < 128 ∨ 191 < b1 ∨ (128 ≤ b1 ∧ b1 ≤ 191)) with q | q | ⟨q, q'⟩
          · have HD' := hI (HD.out.trans (ref_three_no _ _ _ _ _ ⟨K.out.1, K.out.2⟩ HX1.out HX2.out (.inr (by omega))))
            have q1 : (b1 : Int) < 128 := by omega
            clear q HD
            go_wp2_with fail
            go_ret2
            rw [HD'.out]
            exact ⟨rfl, rfl⟩
          · have HD' := hI (HD.out.trans (ref_three_no _ _ _ _ _ ⟨K.out.1, K.out.2⟩ HX1.out HX2.out (.inr (by omega))))
            have q1 : ¬ (b1 : Int) < 128 := by omega
            have q2 : (191 : Int) < (b1 : Int) := by omega
            clear q HD
            go_wp2_with fail
            go_ret2
            rw [HD'.out]
            exact ⟨rfl, rfl⟩
          · have q1 : ¬ (b1 : Int) < 128 := by omega
            have q2 : ¬ (191 : Int) < (b1 : Int) := by omega
            go_wp2_with fail
            go_roundw
            case rel =>
              have hak := HAK.out
              exact ⟨2, a * 64 + (b1 - 128), by go_num, by go_num, by first | rfl | trivial, .inr (.inl ⟨by omega, q, q', by omega⟩)⟩
            case measure => simp [intOf]
        · obtain ⟨hw, hy⟩ := HB.out 2 (by omega)
          rw [HB2.out] at hw hy
          have hlt : 2 < s.size := by omega
          have haa : a < 2048 := by omega
          have HAK := hI hak
          clear hak
          rcases (by omega : b2 < 128 ∨ 191 < b2 ∨ (128 ≤ b2 ∧ b2 ≤ 191)) with q | q | ⟨q, q'⟩
          · have HD' := hI (HD.out.trans (ref_three_no _ _ _ _ _ ⟨K.out.1, K.out.2⟩ HX1.out HX2.out (.inr (by omega))))
            have q1 : (b2 : Int) < 128 := by omega
            clear q HD
            go_wp2_with fail
            go_ret2
            rw [HD'.out]
            exact ⟨rfl, rfl⟩
          · have HD' := hI (HD.out.trans (ref_three_no _ _ _ _ _ ⟨K.out.1, K.out.2⟩ HX1.out HX2.out (.inr (by omega))))
            have q1 : ¬ (b2 : Int) < 128 := by omega
            have q2 : (191 : Int) < (b2 : Int) := by omega
            clear q HD
            go_wp2_with fail
            go_ret2
            rw [HD'.out]
            exact ⟨rfl, rfl⟩
          · have q1 : ¬ (b2 : Int) < 128 := by omega
            have q2 : ¬ (191 : Int) < (b2 : Int) := by omega
            go_wp2_with fail
            go_roundw
            case rel =>
              have hak := HAK.out
              exact ⟨3, a * 64 + (b2 - 128), by go_num, by go_num, by first | rfl | trivial, .inr (.inr (⟨by omega, c1, d1, q, q', by omega⟩))⟩
            case measure => simp [intOf]
        · have haa : a < 131072 := by omega
          have hl : a = ((b0 - 224) * 64 + (b1 - 128)) * 64 + (b2 - 128) := by have := HL.out; omega
          have hD' := HD.out.trans (ref_three _ _ _ _ _ ⟨K.out.1, K.out.2⟩ (by omega) ⟨c1, d1⟩ ⟨c2, d2⟩ a hl)
          clear hl hak HD c1 d1 c2 d2
          rcases (by omega : a < 2048 ∨ (2048 ≤ a ∧ 1114111 < a) ∨ (2048 ≤ a ∧ 55296 ≤ a ∧ a ≤ 57343) ∨ (2048 ≤ a ∧ a < 55296) ∨ (2048 ≤ a ∧ 57343 < a ∧ a ≤ 1114111)) with q | ⟨q, q'⟩ | ⟨q, q', q''⟩ | ⟨q, q'⟩ | ⟨q, q', q''⟩
          · rw [if_pos (by omega)] at hD'
            have HD' := hI hD'
            have g1 : (a : Int) < 2048 := by omega
            clear hD'
            go_wp2_with fail
            go_ret2
            rw [HD'.out]
            exact ⟨rfl, rfl⟩
          · rw [if_pos (by omega)] at hD'
            have HD' := hI hD'
            have g1 : ¬ (a : Int) < 2048 := by omega
            have g2 : (1114111 : Int) < (a : Int) := by omega
            clear hD'
            go_wp2_with fail
            go_ret2
            rw [HD'.out]
            exact ⟨rfl, rfl⟩
          · rw [if_pos (by omega)] at hD'
            have HD' := hI hD'
            have g1 : ¬ (a : Int) < 2048 := by omega
            have g2 : ¬ (1114111 : Int) < (a : Int) := by omega
            have g3 : (55296 : Int) ≤ (a : Int) := by omega
            have g4 : (a : Int) ≤ 57343 := by omega
            clear hD'
            go_wp2_with fail
            go_ret2
            rw [HD'.out]
            exact ⟨rfl, rfl⟩
          · rw [if_neg (by omega)] at hD'
            have HD' := hI hD'
            have g1 : ¬ (a : Int) < 2048 := by omega
            have g2 : ¬ (1114111 : Int) < (a : Int) := by omega
            have g3 : ¬ (55296 : Int) ≤ (a : Int) := by omega
            clear hD'
            go_wp2_with fail
            go_ret2
            rw [HD'.out]
            exact ⟨rfl, rfl⟩
          · rw [if_neg (by omega)] at hD'
            have HD' := hI hD'
            have g1 : ¬ (a : Int) < 2048 := by omega
            have g2 : ¬ (1114111 : Int) < (a : Int) := by omega
            have g3 : (55296 : Int) ≤ (a : Int) := by omega
            have g4 : ¬ (a : Int) ≤ 57343 := by omega
            clear hD'
            go_wp2_with fail
            go_ret2
            rw [HD'.out]
            exact ⟨rfl, rfl⟩
  · have K := hI (And.intro k k')
    have k1 : ¬ (b0 : Int) < 128 := by omega
    have k2 : (194 : Int) ≤ (b0 : Int) := by omega
    have k3 : ¬ (b0 : Int) ≤ 223 := by omega
    have k4 : (224 : Int) ≤ (b0 : Int) := by omega
    have k5 : ¬ (b0 : Int) ≤ 239 := by omega
    have k6 : (240 : Int) ≤ (b0 : Int) := by omega
    have k7 : (b0 : Int) ≤ 244 := by omega
    obtain ⟨L, hL, hL2⟩ : ∃ L : Nat, L = b0 - 240 ∧ ((b0 : Int) - 240 = (L : Int)) := ⟨_, rfl, by omega⟩
    have hL3 : L < 32 := by omega
    have HL := hI hL
    clear hL k k'
    by_cases hn : s.size < 4
    · have HD' := hI (HD.out.trans (ref_four_no _ _ _ _ _ ⟨K.out.1, K.out.2⟩ HX1.out HX2.out HX3.out (.inl hn)))
      have hn1 : (s.size : Int) < 4 := by omega
      clear hn HD
      go_wp2_with fail
      go_ret2
      rw [HD'.out]
      exact ⟨rfl, rfl⟩
    · have hn1 : ¬ (s.size : Int) < 4 := by omega
      go_wp2_with fail
      go_loopw [4, 7] (fun av kv wr => ∃ k a : Nat, av = .int .i64 a ∧ kv = .int .i64 k ∧ wr = w ∧ ((k = 1 ∧ a = L) ∨ (k = 2 ∧ 128 ≤ b1 ∧ b1 ≤ 191 ∧ a = (L * 64 + (b1 - 128))) ∨ (k = 3 ∧ 128 ≤ b1 ∧ b1 ≤ 191 ∧ 128 ≤ b2 ∧ b2 ≤ 191 ∧ a = ((L * 64 + (b1 - 128)) * 64 + (b2 - 128))) ∨ (k = 4 ∧ 128 ≤ b1 ∧ b1 ≤ 191 ∧ 128 ≤ b2 ∧ b2 ≤ 191 ∧ 128 ≤ b3 ∧ b3 ≤ 191 ∧ a = (((L * 64 + (b1 - 128)) * 64 + (b2 - 128)) * 64 + (b3 - 128))))) (fun _ kv _ => 4 - (intOf kv).toNat)
      case atStart => exact ⟨1, L, by go_num, rfl, rfl, .inl ⟨rfl, rfl⟩⟩
      case round =>
        obtain ⟨k, a, rfl, rfl, rfl, hk⟩ := hrel
        rcases hk with ⟨rfl, hak⟩ | ⟨rfl, c1, d1, hak⟩ | ⟨rfl, c1, d1, c2, d2, hak⟩ | ⟨rfl, c1, d1, c2, d2, c3, d3, hak⟩
        · obtain ⟨hw, hy⟩ := HB.out 1 (by omega)
          rw [HB1.out] at hw hy
          have hlt : 1 < s.size := by omega
          have haa : a < 32 := by omega
          have HAK := hI hak
          clear hak
          rcases (by omega : b1 < 128 ∨ 191 < b1 ∨ (128 ≤ b1 ∧ b1 ≤ 191)) with q | q | ⟨q, q'⟩
          · have HD' := hI (HD.out.trans (ref_four_no _ _ _ _ _ ⟨K.out.1, K.out.2⟩ HX1.out HX2.out HX3.out (.inr (by omega))))
            have q1 : (b1 : Int) < 128 := by omega
            clear q HD
            go_wp2_with fail
            go_ret2
            rw [HD'.out]
            exact ⟨rfl, rfl⟩
          · have HD' := hI (HD.out.trans (ref_four_no _ _ _ _ _ ⟨K.out.1, K.out.2⟩ HX1.out HX2.out HX3.out (.inr (by omega))))
            have q1 : ¬ (b1 : Int) < 128 := by omega
            have q2 : (191 : Int) < (b1 : Int) := by omega
            clear q HD
            go_wp2_with fail
            go_ret2
            rw [HD'.out]
            exact ⟨rfl, rfl⟩
          · have q1 : ¬ (b1 : Int) < 128 := by omega
            have q2 : ¬ (191 : Int) < (b1 : Int) := by omega
            go_wp2_with fail
            go_roundw
            case rel =>
              have hak := HAK.out
              exact ⟨2, a * 64 + (b1 - 128), by go_num, by go_num, by first | rfl | trivial, .inr (.inl ⟨by omega, q, q', by omega⟩)⟩
            case measure => simp [intOf]
        · obtain ⟨hw, hy⟩ := HB.out 2 (by omega)
          rw [HB2.out] at hw hy
          have hlt : 2 < s.size := by omega
          have haa : a < 2048 := by omega
          have HAK := hI hak
          clear hak
          rcases (by omega : b2 < 128 ∨ 191 < b2 ∨ (128 ≤ b2 ∧ b2 ≤ 191)) with q | q | ⟨q, q'⟩
          · have HD' := hI (HD.out.trans (ref_four_no _ _ _ _ _ ⟨K.out.1, K.out.2⟩ HX1.out HX2.out HX3.out (.inr (by omega))))
            have q1 : (b2 : Int) < 128 := by omega
            clear q HD
            go_wp2_with fail
            go_ret2
            rw [HD'.out]
            exact ⟨rfl, rfl⟩
          · have HD' := hI (HD.out.trans (ref_four_no _ _ _ _ _ ⟨K.out.1, K.out.2⟩ HX1.out HX2.out HX3.out (.inr (by omega))))
            have q1 : ¬ (b2 : Int) < 128 := by omega
            have q2 : (191 : Int) < (b2 : Int) := by omega
            clear q HD
            go_wp2_with fail
            go_ret2
            rw [HD'.out]
            exact ⟨rfl, rfl⟩
          · have q1 : ¬ (b2 : Int) < 128 := by omega
            have q2 : ¬ (191 : Int) < (b2 : Int) := by omega
            go_wp2_with fail
            go_roundw
            case rel =>
              have hak := HAK.out
              exact ⟨3, a * 64 + (b2 - 128), by go_num, by go_num, by first | rfl | trivial, .inr (.inr (.inl ⟨by omega, c1, d1, q, q', by omega⟩))⟩
            case measure => simp [intOf]
        · obtain ⟨hw, hy⟩ := HB.out 3 (by omega)
          rw [HB3.out] at hw hy
          have hlt : 3 < s.size := by omega
          have haa : a < 131072 := by omega
          have HAK := hI hak
          clear hak
          rcases (by omega : b3 < 128 ∨ 191 < b3 ∨ (128 ≤ b3 ∧ b3 ≤ 191)) with q | q | ⟨q, q'⟩
          · have HD' := hI (HD.out.trans (ref_four_no _ _ _ _ _ ⟨K.out.1, K.out.2⟩ HX1.out HX2.out HX3.out (.inr (by omega))))
            have q1 : (b3 : Int) < 128 := by omega
            clear q HD
            go_wp2_with fail
            go_ret2
            rw [HD'.out]
            exact ⟨rfl, rfl⟩
          · have HD' := hI (HD.out.trans (ref_four_no _ _ _ _ _ ⟨K.out.1, K.out.2⟩ HX1.out HX2.out HX3.out (.inr (by omega))))
            have q1 : ¬ (b3 : Int) < 128 := by omega
            have q2 : (191 : Int) < (b3 : Int) := by omega
            clear q HD
            go_wp2_with fail
            go_ret2
            rw [HD'.out]
            exact ⟨rfl, rfl⟩
          · have q1 : ¬ (b3 : Int) < 128 := by omega
            have q2 : ¬ (191 : Int) < (b3 : Int) := by omega
            go_wp2_with fail
            go_roundw
            case rel =>
              have hak := HAK.out
              exact ⟨4, a * 64 + (b3 - 128), by go_num, by go_num, by first | rfl | trivial, .inr (.inr (.inr (⟨by omega, c1, d1, c2, d2, q, q', by omega⟩)))⟩
            case measure => simp [intOf]
        · have haa : a < 8388608 := by omega
          have hl : a = (((b0 - 240) * 64 + (b1 - 128)) * 64 + (b2 - 128)) * 64 + (b3 - 128) := by have := HL.out; omega
          have hD' := HD.out.trans (ref_four _ _ _ _ _ ⟨K.out.1, K.out.2⟩ (by omega) ⟨c1, d1⟩ ⟨c2, d2⟩ ⟨c3, d3⟩ a hl)
          clear hl hak HD c1 d1 c2 d2 c3 d3
          rcases (by omega : a < 65536 ∨ (65536 ≤ a ∧ 1114111 < a) ∨ (65536 ≤ a ∧ 55296 ≤ a ∧ a ≤ 57343) ∨ (65536 ≤ a ∧ a < 55296) ∨ (65536 ≤ a ∧ 57343 < a ∧ a ≤ 1114111)) with q | ⟨q, q'⟩ | ⟨q, q', q''⟩ | ⟨q, q'⟩ | ⟨q, q', q''⟩
          · rw [if_pos (by omega)] at hD'
            have HD' := hI hD'
            have g1 : (a : Int) < 65536 := by omega
            clear hD'
            go_wp2_with fail
            go_ret2
            rw [HD'.out]
            exact ⟨rfl, rfl⟩
          · rw [if_pos (by omega)] at hD'
            have HD' := hI hD'
            have g1 : ¬ (a : Int) < 65536 := by omega
            have g2 : (1114111 : Int) < (a : Int) := by omega
            clear hD'
            go_wp2_with fail
            go_ret2
            rw [HD'.out]
            exact ⟨rfl, rfl⟩
          · rw [if_pos (by omega)] at hD'
            have HD' := hI hD'
            have g1 : ¬ (a : Int) < 65536 := by omega
            have g2 : ¬ (1114111 : Int) < (a : Int) := by omega
            have g3 : (55296 : Int) ≤ (a : Int) := by omega
            have g4 : (a : Int) ≤ 57343 := by omega
            clear hD'
            go_wp2_with fail
            go_ret2
            rw [HD'.out]
            exact ⟨rfl, rfl⟩
          · rw [if_neg (by omega)] at hD'
            have HD' := hI hD'
            have g1 : ¬ (a : Int) < 65536 := by omega
            have g2 : ¬ (1114111 : Int) < (a : Int) := by omega
            have g3 : ¬ (55296 : Int) ≤ (a : Int) := by omega
            clear hD'
            go_wp2_with fail
            go_ret2
            rw [HD'.out]
            exact ⟨rfl, rfl⟩
          · rw [if_neg (by omega)] at hD'
            have HD' := hI hD'
            have g1 : ¬ (a : Int) < 65536 := by omega
            have g2 : ¬ (1114111 : Int) < (a : Int) := by omega
            have g3 : (55296 : Int) ≤ (a : Int) := by omega
            have g4 : ¬ (a : Int) ≤ 57343 := by omega
            clear hD'
            go_wp2_with fail
            go_ret2
            rw [HD'.out]
            exact ⟨rfl, rfl⟩
  · have hD := HD.out.trans (ref_bad _ _ _ _ _ (by omega) (by omega) hx0)
    have HD' := hI hD
    have k1 : ¬ (b0 : Int) < 128 := by omega
    have k2 : (194 : Int) ≤ (b0 : Int) := by omega
    have k2' : ¬ (b0 : Int) ≤ 223 := by omega
    have k3 : (224 : Int) ≤ (b0 : Int) := by omega
    have k3' : ¬ (b0 : Int) ≤ 239 := by omega
    have k4 : (240 : Int) ≤ (b0 : Int) := by omega
    have k4' : ¬ (b0 : Int) ≤ 244 := by omega
    clear hD k HD
    go_wp2_with fail
    go_ret2
    rw [HD'.out]
    exact ⟨rfl, rfl⟩
theorem decode_from (s : ByteArray) (p : Nat) : Utf8.decode (s.extract p s.size) 0 = Utf8.decode s p := by
  rw [← decodeL_drop s p, ← decodeL_drop (s.extract p s.size) 0, List.drop_zero]
  congr 1
  rw [ByteArray.data_extract, Array.toList_extract, List.extract_eq_take_drop, List.take_of_length_le]
  rw [List.length_drop, size_toList]
  exact Nat.le_refl _
theorem refR_wd (s : ByteArray) (p : Nat) : (refR (Utf8.decode s p)).2 = (Utf8.decode s p).2 := by
  unfold refR
  split
  · next h => exact h.2.symm
  · rfl
theorem refR_r (s : ByteArray) (p : Nat) : ((refR (Utf8.decode s p)).1 = -1 ∧ (Utf8.decode s p).1 = 65533) ∨ (refR (Utf8.decode s p)).1 = ((Utf8.decode s p).1 : Int) := by
  unfold refR
  split
  · next h => exact .inl ⟨rfl, h.1⟩
  · exact .inr rfl
/-- The rune that the document reads at a place of a text. -/
theorem refRune_at (s : ByteArray) (p : Nat) (w : World) (hs : s.size ≤ maxLen) (hp : p < s.size) :
    ∃ (r : Int) (wd : Nat), wd = (Utf8.decode s p).2 ∧ 1 ≤ wd ∧ p + wd ≤ s.size ∧ ((r = -1 ∧ (Utf8.decode s p).1 = 65533) ∨ r = ((Utf8.decode s p).1 : Int)) ∧ -1 ≤ r ∧ r ≤ 1114111 ∧ refR (Utf8.decode s p) = (r, wd) ∧
    Calls Try.prog 28 #[.string (s.extract p s.size)] w fun e w' => e = .returned (.tuple #[.int .i64 r, .int .i64 wd]) ∧ w = w' := by
  have h := refRune_any (s.extract p s.size) w (by rw [ByteArray.size_extract]; omega) (by rw [ByteArray.size_extract]; omega)
  rw [decode_from] at h
  have h1 := refR_r s p
  have h2 := refR_wd s p
  have h3 := Lib.decode_width_pos s p hp
  have h4 : p + (Utf8.decode s p).2 ≤ s.size := by
    have hne : s.data.toList.drop p ≠ [] := by
      intro e
      have := congrArg List.length e
      rw [List.length_drop, size_toList] at this
      simp at this
      omega
    have := decodeL_le _ hne
    rw [decodeL_drop, List.length_drop, size_toList] at this
    omega
  have h5 : (Utf8.decode s p).1 ≤ 1114111 := by
    have hr : ((Utf8.decode s p).1 : Int) ∈ ru (s.data.toList.drop p) := by
      rw [← rs_ru s s.size p (by omega), rs_step s p hp]
      simp
    have := ru_ok _ _ hr
    unfold okR at this
    omega
  obtain ⟨⟨r, wd⟩, hd⟩ : ∃ d, refR (Utf8.decode s p) = d := ⟨_, rfl⟩
  rw [hd] at h h1 h2
  simp only at h h1 h2
  exact ⟨r, wd, h2, by omega, by omega, h1, by omega, by omega, hd, h⟩
set_option maxHeartbeats 2000000 in
set_option maxRecDepth 100000 in
theorem refRight_any (s : ByteArray) (w : World) (hs : s.size ≤ maxLen) :
    Calls Try.prog 9 #[.string s] w fun e w' => e = .returned (.bool (rightB s)) ∧ w = w' := by
  have hs' := hs
  unfold maxLen at hs
  go_enter Try.func9, Try.ntmps9
  go_wp2_with fail
  go_loopw [3, 4] (fun n i wr => ∃ (pos q : Nat), n = .int .i64 q ∧ i = .int .i64 pos ∧ q ≤ pos ∧ pos ≤ s.size ∧ wr = w ∧ rightF (rs s pos) q = rightB s) (fun _ i _ => s.size - (intOf i).toNat)
  case atStart => exact ⟨0, 0, rfl, rfl, Nat.le_refl _, Nat.zero_le _, rfl, rfl⟩
  case round =>
    obtain ⟨pos, q, rfl, rfl, hq, hps, rfl, hR⟩ := hrel
    have HR := hI hR
    clear hR
    by_cases hp : pos < s.size
    · have hp1 : (pos : Int) < (s.size : Int) := by omega
      obtain ⟨r, wd, hwd, h1, h2, hr, hr0, hr1, _, hc⟩ := refRune_at s pos wr hs' hp
      have hstep := rs_step s pos hp
      rw [← hwd] at hstep
      obtain ⟨c, hcc⟩ : ∃ c : Int, c = ((Utf8.decode s pos).1 : Int) := ⟨_, rfl⟩
      have hr' : letB r = letB c ∧ (letB c = false → numB c = (decide (48 ≤ r ∧ r ≤ 57) || decide (r = 45))) := by
        rcases hr with ⟨rfl, h⟩ | h
        · rw [hcc, h]
          exact ⟨by decide +kernel, fun _ => by decide +kernel⟩
        · have : r = c := by omega
          subst this
          refine ⟨rfl, fun _ => ?_⟩
          rw [Bool.eq_iff_iff, numB_iff]
          simp only [Bool.or_eq_true, decide_eq_true_eq]
          omega
      rw [← hcc] at hstep
      have HS := hI hstep
      have HC := hI hr'
      have hsl : ∀ W, (Instr.slice 9 (.string s) (some (.int .i64 pos)) none none).run Try.prog W = .ok (.string (s.extract pos s.size)) W := fun W => run_slice_string_l W _ s Try.underlying9 .i64 pos (by omega) (by omega)
      clear hwd hr hstep hcc hr'
      go_wp2_with fail
      refine hc.mono ?_
      rintro e w' ⟨rfl, rfl⟩
      clear hc
      go_wp2_with fail
      obtain ⟨L, hL⟩ : ∃ L, L = letB c := ⟨_, rfl⟩
      have hl := refLetter_any r 0 wr (by omega) (by omega) (by omega) (by omega)
      rw [Int.add_zero, HC.out.1, ← hL] at hl
      have HL := hI hL
      refine hl.mono ?_
      rintro e w' ⟨rfl, rfl⟩
      clear hl hL hsl
      cases L with
      | true =>
        have HF : Hid (rightF (rs s (pos + wd)) (q + 1) = rightB s) := hI (by
          rw [← HR.out, HS.out, rightF, ← HL.out, if_pos rfl])
        go_wp2_with fail
        go_roundw
        case rel => exact ⟨pos + wd, q + 1, by go_num, by go_num, by omega, by omega, by first | rfl | trivial, HF.out⟩
        case measure => simp [intOf]; omega
      | false =>
        have HN := hI (HC.out.2 HL.out.symm)
        by_cases hp0 : pos = 0
        · subst hp0
          have HF : Hid (rightB s = false) := hI (by
            rw [← HR.out, HS.out, rightF, ← HL.out]
            simp)
          go_wp2_with fail
          go_ret
          rw [HF.out]
          exact ⟨rfl, rfl⟩
        · have hp2 : ((pos : Int) == 0) = false := by simp; omega
          have HP0 := hI hp0
          clear hp0
          rcases (by omega : r = 45 ∨ (r ≠ 45 ∧ r < 48) ∨ (r ≠ 45 ∧ 48 ≤ r ∧ 57 < r) ∨ (r ≠ 45 ∧ 48 ≤ r ∧ r ≤ 57)) with g | ⟨g, g'⟩ | ⟨g, g', g''⟩ | ⟨g, g', g''⟩
          · subst g
            have HF : Hid (rightF (rs s (pos + wd)) (q + 1) = rightB s) := hI (by
              rw [← HR.out, HS.out, rightF, ← HL.out, HN.out]
              simp [HP0.out])
            go_wp2_with fail
            go_roundw
            case rel => exact ⟨pos + wd, q + 1, by go_num, by go_num, by omega, by omega, by first | rfl | trivial, HF.out⟩
            case measure => simp [intOf]; omega
          · have g1 : (r != 45) = true := by simpa using g
            have HF : Hid (rightB s = false) := hI (by
              rw [← HR.out, HS.out, rightF, ← HL.out, HN.out, decide_eq_false (by omega : ¬ (48 ≤ r ∧ r ≤ 57)), decide_eq_false g]
              simp)
            go_wp2_with fail
            go_ret
            rw [HF.out]
            exact ⟨rfl, rfl⟩
          · have g1 : (r != 45) = true := by simpa using g
            have g2 : ¬ r < 48 := by omega
            have HF : Hid (rightB s = false) := hI (by
              rw [← HR.out, HS.out, rightF, ← HL.out, HN.out, decide_eq_false (by omega : ¬ (48 ≤ r ∧ r ≤ 57)), decide_eq_false g]
              simp)
            go_wp2_with fail
            go_ret
            rw [HF.out]
            exact ⟨rfl, rfl⟩
          · have g1 : (r != 45) = true := by simpa using g
            have g2 : ¬ r < 48 := by omega
            have g3 : ¬ 57 < r := by omega
            have HF : Hid (rightF (rs s (pos + wd)) (q + 1) = rightB s) := hI (by
              rw [← HR.out, HS.out, rightF, ← HL.out, HN.out, decide_eq_true (And.intro g' g'')]
              simp [HP0.out])
            go_wp2_with fail
            go_roundw
            case rel => exact ⟨pos + wd, q + 1, by go_num, by go_num, by omega, by omega, by first | rfl | trivial, HF.out⟩
            case measure => simp [intOf]; omega
    · have hp1 : ¬ (pos : Int) < (s.size : Int) := by omega
      have HF : Hid (rightB s = (decide (1 ≤ q) && decide (q ≤ 16))) := hI (by rw [← HR.out, rs_end s pos hp, rightF])
      rcases (by omega : q < 1 ∨ (1 ≤ q ∧ q ≤ 16) ∨ 16 < q) with h | ⟨h, h'⟩ | h
      · have h1 : ¬ (1 : Int) ≤ (q : Int) := by omega
        have HG := hI (HF.out.trans (show _ = false by rw [decide_eq_false (by omega : ¬ 1 ≤ q)]; rfl))
        clear h
        go_wp2_with fail
        go_ret
        rw [HG.out]
        exact ⟨rfl, rfl⟩
      · have h1 : (1 : Int) ≤ (q : Int) := by omega
        have h2 : (q : Int) ≤ 16 := by omega
        have HG := hI (HF.out.trans (show _ = true by rw [decide_eq_true h, decide_eq_true h']; rfl))
        clear h h'
        go_wp2_with fail
        go_ret
        rw [HG.out]
        exact ⟨rfl, rfl⟩
      · have h1 : (1 : Int) ≤ (q : Int) := by omega
        have h2 : ¬ (q : Int) ≤ 16 := by omega
        have HG := hI (HF.out.trans (show _ = false by rw [decide_eq_false (by omega : ¬ q ≤ 16)]; simp))
        clear h
        go_wp2_with fail
        go_ret
        rw [HG.out]
        exact ⟨rfl, rfl⟩
set_option maxHeartbeats 2000000 in
set_option maxRecDepth 100000 in
theorem refText_any (s : ByteArray) (most : Int) (w : World) (hs : s.size ≤ maxLen) :
    Calls Try.prog 35 #[.string s, .int .i64 most] w fun e w' => e = .returned (.bool (textB s most)) ∧ w = w' := by
  have hs' := hs
  unfold maxLen at hs
  go_enter Try.func35, Try.ntmps35
  go_wp2_with fail
  go_loopw [5, 6] (fun n i wr => ∃ (pos q : Nat), n = .int .i64 q ∧ i = .int .i64 pos ∧ q ≤ pos ∧ pos ≤ s.size ∧ wr = w ∧ textF most (rs s pos) q = textB s most) (fun _ i _ => s.size - (intOf i).toNat)
  case atStart => exact ⟨0, 0, rfl, rfl, Nat.le_refl _, Nat.zero_le _, rfl, rfl⟩
  case round =>
    obtain ⟨pos, q, rfl, rfl, hq, hps, rfl, hR⟩ := hrel
    have HR := hI hR
    clear hR
    by_cases hp : pos < s.size
    · have hp1 : (pos : Int) < (s.size : Int) := by omega
      obtain ⟨r, wd, hwd, h1, h2, hr, hr0, hr1, _, hc⟩ := refRune_at s pos wr hs' hp
      have hstep := rs_step s pos hp
      rw [← hwd] at hstep
      obtain ⟨c, hcc⟩ : ∃ c : Int, c = ((Utf8.decode s pos).1 : Int) := ⟨_, rfl⟩
      have hr' : (r = -1 ∧ c = 65533) ∨ r = c := by omega
      rw [← hcc] at hstep
      have HS := hI hstep
      have hsl : ∀ W, (Instr.slice 9 (.string s) (some (.int .i64 pos)) none none).run Try.prog W = .ok (.string (s.extract pos s.size)) W := fun W => run_slice_string_l W _ s Try.underlying9 .i64 pos (by omega) (by omega)
      have hT : textF most (rs s pos) q = if r < 32 then false else if r = 127 then false else if r = 65533 then false else textF most (rs s (pos + wd)) (q + 1) := by
        rw [HS.out, textF]
        rcases hr' with ⟨rfl, rfl⟩ | rfl
        · rfl
        · rfl
      rw [HR.out] at hT
      clear hwd hr hstep hcc hr'
      go_wp2_with fail
      refine hc.mono ?_
      rintro e w' ⟨rfl, rfl⟩
      clear hc
      by_cases k1 : r < 32
      · have HF := hI (hT.trans (if_pos k1))
        clear hT
        go_wp2_with fail
        go_ret
        rw [HF.out]
        exact ⟨rfl, rfl⟩
      rw [if_neg k1] at hT
      by_cases k2 : r = 127
      · have HF := hI (hT.trans (if_pos k2))
        subst k2
        clear hT
        go_wp2_with fail
        go_ret
        rw [HF.out]
        exact ⟨rfl, rfl⟩
      rw [if_neg k2] at hT
      by_cases k3 : r = 65533
      · have HF := hI (hT.trans (if_pos k3))
        subst k3
        clear hT
        go_wp2_with fail
        go_ret
        rw [HF.out]
        exact ⟨rfl, rfl⟩
      rw [if_neg k3] at hT
      have HF := hI hT.symm
      have k2' : (r == 127) = false := by simpa using k2
      have k3' : (r == 65533) = false := by simpa using k3
      clear hT hsl
      go_wp2_with fail
      go_roundw
      case rel => exact ⟨pos + wd, q + 1, by go_num, by go_num, by omega, by omega, by first | rfl | trivial, HF.out⟩
      case measure => simp [intOf]; omega
    · have hp1 : ¬ (pos : Int) < (s.size : Int) := by omega
      have HF : Hid (textB s most = decide ((q : Int) ≤ most)) := hI (by rw [← HR.out, rs_end s pos hp, textF])
      go_wp2_with fail
      go_ret
      rw [HF.out]
      exact ⟨rfl, rfl⟩
end Go.Proofs.Ytiplepdmkbiehaa
