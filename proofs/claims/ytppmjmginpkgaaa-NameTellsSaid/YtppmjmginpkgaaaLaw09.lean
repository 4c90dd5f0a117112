/- The statements of name: the examples hold; NameRunes, NameFolds. -/
import Derived.Test.YtppmjmginpkgaaaName3
import Derived.Outline
namespace Go.Proofs.Ytppmjmginpkgaaa
open Go.RowKit

theorem Own.below' {w w' : World} {B : Nat} {e : TypeId} {sz : Nat} {v : Value} {n : Nat} {cs : List Value} (h : Own w B e sz v n cs) (hk : Below w.heap.size w w') : Own w' B e sz v n cs := h.below hk

set_option maxHeartbeats 1000000 in
set_option maxRecDepth 100000 in
theorem alive09_any (w : World) : Calls Try.prog 35 #[] w fun e w' => e = .returned (.bool true) ∧ Below w.heap.size w w' := by
  go_enter Try.func35, Try.ntmps35
  go_wp2_with fail
  refine (fold_any _ w (by decide)).mono ?_
  rw [show foldB { data := #[195, 129, 110, 97, 45, 49] } = { data := #[195, 161, 110, 97, 45, 49] } from by decide +kernel, show rightB { data := #[195, 161, 110, 97, 45, 49] } = true from by decide +kernel]
  rintro e w1 ⟨rfl, hb1⟩
  have HB1 := Lib.hid hb1
  clear hb1
  go_wp2_with fail
  refine (fold_any _ w1 (by decide)).mono ?_
  rw [show foldB { data := #[49, 97] } = { data := #[49, 97] } from by decide +kernel, show rightB { data := #[49, 97] } = false from by decide +kernel]
  rintro e w2 ⟨rfl, hb2⟩
  have HB2 := Lib.hid (HB1.out.trans (hb2.mono HB1.out.size))
  clear hb2
  go_wp2_with fail
  refine (words_any _ w2 (by decide)).mono ?_
  rw [show wordsB { data := #[97, 32, 32, 98] } = [{ data := #[97] }, { data := #[] }, { data := #[98] }] from by decide +kernel]
  rintro e w3 ⟨v3, rfl, ho3, hb3⟩
  have HB3 := Lib.hid (HB2.out.trans (hb3.mono HB2.out.size))
  obtain ⟨a3, c3, rfl, _⟩ := ho3.sl.form
  obtain ⟨b3, o3, rfl, hc3⟩ := ho3.sl.addr (by decide)
  have HC3 := Lib.hid (hc3 1 (.string { data := #[] }) rfl)
  clear hb3 ho3 hc3
  go_wp2_with fail
  refine (right_any { data := #[207, 137, 50] } w3 (by decide)).mono ?_
  rw [show rightB { data := #[207, 137, 50] } = true from by decide +kernel]
  rintro e w4 ⟨rfl, hb4⟩
  have HB4 := Lib.hid (HB3.out.trans (hb4.mono HB3.out.size))
  have HC4 := Lib.hid (below_cell hb4 HC3.out)
  clear hb4 HB3 HC3
  go_wp2_with fail
  refine (right_any { data := #[65] } w4 (by decide)).mono ?_
  rw [show rightB { data := #[65] } = false from by decide +kernel]
  rintro e w5 ⟨rfl, hb5⟩
  have HB5 := Lib.hid (HB4.out.trans (hb5.mono HB4.out.size))
  have HC5 := Lib.hid (below_cell hb5 HC4.out)
  clear hb5 HB4 HC4
  go_wp2_with fail
  refine (right_any { data := #[] } w5 (by decide)).mono ?_
  rw [show rightB { data := #[] } = false from by decide +kernel]
  rintro e w6 ⟨rfl, hb6⟩
  have HB6 := Lib.hid (HB5.out.trans (hb6.mono HB5.out.size))
  have HC6 := Lib.hid (below_cell hb6 HC5.out)
  clear hb6 HB5 HC5
  go_wp2_with fail
  refine (text_any { data := #[195, 188, 33] } 2 w6 (by decide)).mono ?_
  rw [show textB { data := #[195, 188, 33] } 2 = true from by decide +kernel]
  rintro e w7 ⟨rfl, hb7⟩
  have HB7 := Lib.hid (HB6.out.trans (hb7.mono HB6.out.size))
  have HC7 := Lib.hid (below_cell hb7 HC6.out)
  clear hb7 HB6 HC6
  go_wp2_with fail
  refine (text_any { data := #[255] } 9 w7 (by decide)).mono ?_
  rw [show textB { data := #[255] } 9 = false from by decide +kernel]
  rintro e w8 ⟨rfl, hb8⟩
  have HB8 := Lib.hid (HB7.out.trans (hb8.mono HB7.out.size))
  have HC8 := Lib.hid (below_cell hb8 HC7.out)
  clear hb8 HB7 HC7
  go_wp2_with fail
  refine (text_any { data := #[97, 98] } 1 w8 (by decide)).mono ?_
  rw [show textB { data := #[97, 98] } 1 = false from by decide +kernel]
  rintro e w9 ⟨rfl, hb9⟩
  have HB9 := Lib.hid (HB8.out.trans (hb9.mono HB8.out.size))
  have HC9 := Lib.hid (below_cell hb9 HC8.out)
  clear hb9 HB8 HC8
  have c1 := HC9.out
  go_wp2_with fail
  refine (letter_any 1103 w9).mono ?_
  rw [show letB 1103 = true from by decide +kernel]
  rintro e w10 ⟨rfl, hb10⟩
  have HB10 := Lib.hid (HB9.out.trans (hb10.mono HB9.out.size))
  clear hb10 HB9
  go_wp2_with fail
  refine (big_any 931 w10).mono ?_
  rw [show bigB 931 = true from by decide +kernel]
  rintro e w11 ⟨rfl, hb11⟩
  have HB11 := Lib.hid (HB10.out.trans (hb11.mono HB10.out.size))
  clear hb11 HB10
  go_wp2_with fail
  go_ret
  exact ⟨rfl, HB11.out⟩

theorem i64_and131071 (n : Int) : bits .and .i64 n 131071 = n % 131072 := by
  have h127 : (BitVec.ofInt 64 131071).toNat = 2 ^ 17 - 1 := by decide
  have key : (BitVec.ofInt 64 n &&& BitVec.ofInt 64 131071).toNat = (n % ((2 ^ 64 : Nat) : Int)).toNat % 2 ^ 17 := by
    rw [BitVec.toNat_and, BitVec.toNat_ofInt, h127, Nat.and_two_pow_sub_one_eq_mod]
  show IntKind.i64.wrap ((BitVec.ofInt 64 n &&& BitVec.ofInt 64 131071).toNat : Nat) = n % 131072
  rw [key, IntKind.wrap_i64]
  omega

theorem big_eq (r : Int) : bigB r = letB (r + 32) := by
  have e : ∀ a : Bool, ∀ p : Prop, [Decidable p] → (a = true ↔ p) → a = decide p := fun a p _ h => by cases a <;> simp_all
  rw [Bool.eq_iff_iff]
  simp only [bigB, letB, inB, bigL, letL, List.any_cons, List.any_nil, Sp.has, Bool.or_false, Bool.or_eq_true, Bool.and_eq_true, decide_eq_true_eq]
  omega

set_option maxHeartbeats 1000000 in
set_option maxRecDepth 100000 in
theorem nameRunes_walk (z : Int) (w : World) :
    Calls Try.prog 11 #[.int .i64 z] w fun e w' => e = .returned (.bool true) ∧ Below w.heap.size w w' := by
  obtain ⟨r, hr, hr0, hr1⟩ : ∃ r : Int, bits .and .i64 z 131071 = r ∧ 0 ≤ r ∧ r ≤ 131071 := ⟨_, rfl, by rw [i64_and131071]; omega, by rw [i64_and131071]; omega⟩
  have hwr : IntKind.i32.wrap r = r := by rw [IntKind.wrap_i32]; omega
  go_enter Try.func11, Try.ntmps11
  go_wp2_with fail
  refine (alive09_any w).mono ?_
  rintro e w1 ⟨rfl, hb1⟩
  have HB1 := Lib.hid hb1
  clear hb1
  go_wp2_with fail
  obtain ⟨L, hL⟩ : ∃ L, L = letB r := ⟨_, rfl⟩
  have hl1 := letter_any r w1
  rw [← hL] at hl1
  have HL := Lib.hid hL
  clear hL
  refine hl1.mono ?_
  rintro e w2 ⟨rfl, hb2⟩
  have HB2 := Lib.hid (HB1.out.trans (hb2.mono HB1.out.size))
  clear hb2 hl1
  go_wp2_with fail
  have hl2 := refLetter_any r 0 w2 (by omega) (by omega) (by omega) (by omega)
  rw [Int.add_zero, ← HL.out] at hl2
  refine hl2.mono ?_
  rintro e w' ⟨rfl, rfl⟩
  clear hl2
  go_wp2_with fail
  obtain ⟨M, hM⟩ : ∃ M, M = bigB r := ⟨_, rfl⟩
  have hl3 := big_any r w2
  rw [← hM] at hl3
  have HM := Lib.hid hM
  clear hM
  refine hl3.mono ?_
  rintro e w3 ⟨rfl, hb3⟩
  have HB3 := Lib.hid (HB2.out.trans (hb3.mono HB2.out.size))
  clear hb3 hl3
  go_wp2_with fail
  have hl4 := refLetter_any r 32 w3 (by omega) (by omega) (by omega) (by omega)
  rw [← big_eq, ← HM.out] at hl4
  refine hl4.mono ?_
  rintro e w' ⟨rfl, rfl⟩
  clear hl4
  go_wp2_with fail
  go_ret
  exact ⟨rfl, HB3.out⟩
end Go.Proofs.Ytppmjmginpkgaaa
