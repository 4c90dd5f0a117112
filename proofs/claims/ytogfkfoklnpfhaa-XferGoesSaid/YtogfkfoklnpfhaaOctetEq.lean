/- Contracts of octet.at, octet.Equal. -/
import Derived.Test.YtogfkfoklnpfhaaBytes
import Derived.Outline
namespace Go.Proofs.Ytogfkfoklnpfhaa
set_option linter.unusedSimpArgs false
set_option linter.unusedVariables false
open Go.RowKit

theorem octetAt_out (a : Option Addr) (len cap : Nat) (i : Int) (w : World) (h : (len : Int) ≤ i) :
    Calls Try.prog 37 #[.slice a len cap, .int .i64 i] w fun e w' => e = .returned (.int .u8 0) ∧ w = w' := by
  go_enter Try.func37, Try.ntmps37
  go_wp2
  go_ret
  exact ⟨rfl, rfl⟩

theorem octetAt_in (b off : Nat) (len cap : Nat) (i : Int) (x : Int) (w : World) (h0 : 0 ≤ i) (h : i < len) (hc : w.cell? ⟨b, off + i.toNat, none⟩ = some (.int .u8 x)) :
    Calls Try.prog 37 #[.slice (some ⟨b, off, none⟩) len cap, .int .i64 i] w fun e w' => e = .returned (.int .u8 x) ∧ w = w' := by
  go_enter Try.func37, Try.ntmps37
  go_wp2
  go_ret
  exact ⟨rfl, rfl⟩

theorem octetAt_any (v : Value) (l : List UInt8) (i : Nat) (w : World) (h : Bs w v l) :
    Calls Try.prog 37 #[v, .int .i64 i] w fun e w' => e = .returned (bV (l.getD i 0)) ∧ w = w' := by
  obtain ⟨a, cap, rfl, _⟩ := h.form
  by_cases hi : i < l.length
  · obtain ⟨b, off, rfl, hc⟩ := h.addr (by simp [bCells]; omega)
    have hc' := hc i (bV (l.getD i 0)) (by simp [bCells, hi])
    exact octetAt_in b off _ _ i _ w (by omega) (by omega) (by simpa [bV] using hc')
  · have : l.getD i 0 = 0 := by simp [List.getD, List.getElem?_eq_none (Nat.le_of_not_lt hi)]
    rw [this]
    exact octetAt_out _ _ _ _ _ (by omega)

theorem bV_zero (x : UInt8) : (x.toNat : Int) = 0 ↔ x = 0 := by
  constructor
  · intro h
    exact UInt8.toNat_inj.1 (by simpa using h)
  · rintro rfl; rfl

theorem u8_step (D x y : UInt8) : Value.int .u8 (bits .or .u8 (D.toNat : Int) (bits .xor .u8 (x.toNat : Int) (y.toNat : Int))) = .int .u8 ((D ||| (x ^^^ y)).toNat) := by
  rw [u8_xor_nat _ _ x.toNat_lt y.toNat_lt, ← UInt8.toNat_xor, u8_or_nat _ _ D.toNat_lt (UInt8.toNat_lt _), ← UInt8.toNat_or]

theorem u8_or_zero (a b : UInt8) : a ||| b = 0 ↔ a = 0 ∧ b = 0 := by
  constructor
  · intro h
    have h1 : a.toNat ||| b.toNat = 0 := by rw [← UInt8.toNat_or, h]; rfl
    have h2 := Nat.or_eq_zero_iff.1 h1
    exact ⟨UInt8.toNat_inj.1 h2.1, UInt8.toNat_inj.1 h2.2⟩
  · rintro ⟨rfl, rfl⟩; rfl

theorem u8_xor_zero (a b : UInt8) : a ^^^ b = 0 ↔ a = b := by
  constructor
  · intro h
    have h1 : (a ^^^ b) ^^^ b = 0 ^^^ b := by rw [h]
    simpa [UInt8.xor_assoc] using h1
  · rintro rfl; simp

theorem getD_ext {a b : List UInt8} (hl : a.length = b.length) : (∀ j, j < max a.length b.length → a.getD j 0 = b.getD j 0) ↔ a = b := by
  constructor
  · intro h
    apply List.ext_getElem hl
    intro i h1 h2
    have := h i (by omega)
    simpa [h1, h2] using this
  · rintro rfl _ _; rfl

set_option maxRecDepth 100000 in
theorem equal_any (v u : Value) (a b : List UInt8) (w : World) (ha : Bs w v a) (hb : Bs w u b) :
    Calls Try.prog 31 #[v, u] w fun e w' => e = .returned (.bool (decide (a = b))) ∧ w = w' := by
  have HA := Lib.hid ha
  have HB := Lib.hid hb
  obtain ⟨ad, cap, rfl, hcap, hcm⟩ := ha.form
  obtain ⟨bd, cap', rfl, hcap', hcm'⟩ := hb.form
  clear ha hb
  unfold maxLen at hcm hcm'
  go_enter Try.func31, Try.ntmps31
  go_wp2_with fail
  all_goals
    go_loop [5, 12] (fun d i => ∃ (k : Nat) (D : UInt8), k ≤ max a.length b.length ∧ i = .int .i64 k ∧ d = .int .u8 D.toNat ∧ (D = 0 ↔ ∀ j, j < k → a.getD j 0 = b.getD j 0)) (fun _ i => max a.length b.length - (intOf i).toNat)
    case atStart => exact ⟨0, 0, Nat.zero_le _, rfl, rfl, by simp⟩
    case round =>
      obtain ⟨k, D, hk, rfl, rfl, hD⟩ := hrel
      have HD := Lib.hid hD
      clear hD
      by_cases hlt : k < max a.length b.length
      · obtain ⟨X, hX⟩ : ∃ X, a.getD k 0 = X := ⟨_, rfl⟩
        obtain ⟨Y, hY⟩ : ∃ Y, b.getD k 0 = Y := ⟨_, rfl⟩
        have cA := octetAt_any _ a k w HA.out
        have cB := octetAt_any _ b k w HB.out
        rw [hX] at cA
        rw [hY] at cB
        have CA := Lib.hid cA
        have CB := Lib.hid cB
        have HX := Lib.hid hX
        have HY := Lib.hid hY
        have HS := Lib.hid (u8_step D X Y)
        clear cA cB hX hY
        go_wp2_with fail
        refine CA.out.mono ?_
        rintro e w' ⟨rfl, rfl⟩
        go_wp2_with fail
        refine CB.out.mono ?_
        rintro e w' ⟨rfl, rfl⟩
        unfold bV
        go_wp2_with fail
        go_round
        case rel =>
          refine ⟨k + 1, D ||| (X ^^^ Y), by omega, by go_num, HS.out, ?_⟩
          · rw [u8_or_zero, u8_xor_zero, HD.out, ← HX.out, ← HY.out]
            constructor
            · rintro ⟨h1, h2⟩ j hj
              rcases Nat.lt_or_ge j k with h3 | h3
              · exact h1 j h3
              · obtain rfl : j = k := by omega
                exact h2
            · intro h
              exact ⟨fun j hj => h j (by omega), h k (by omega)⟩
        case measure => simp [intOf]; omega
      · obtain rfl : k = max a.length b.length := by omega
        have hfin : (decide (a = b)) = (decide (D = 0) && decide (a.length = b.length)) := by
          rw [Bool.eq_iff_iff, Bool.and_eq_true, decide_eq_true_eq, decide_eq_true_eq, decide_eq_true_eq]
          constructor
          · rintro rfl
            exact ⟨HD.out.2 (fun _ _ => rfl), rfl⟩
          · rintro ⟨h1, h2⟩
            exact (getD_ext h2).1 (HD.out.1 h1)
        have HF := Lib.hid hfin
        clear hfin
        by_cases h0 : D = 0
        · have h0' : ((D.toNat : Int) == 0) = true := by rw [h0]; rfl
          by_cases hl : a.length = b.length
          · have hl' : ((a.length : Int) == (b.length : Int)) = true := by simp [hl]
            have HR : Hid (decide (a = b) = true) := Lib.hid (by rw [HF.out, h0, hl]; simp)
            clear h0 hl
            go_wp2_with fail
            go_ret
            rw [HR.out]
            exact ⟨rfl, rfl⟩
          · have hl' : ((a.length : Int) == (b.length : Int)) = false := by rw [beq_eq_false_iff_ne]; omega
            have HR : Hid (decide (a = b) = false) := Lib.hid (by rw [HF.out]; simp [hl])
            clear h0 hl
            go_wp2_with fail
            go_ret
            rw [HR.out]
            exact ⟨rfl, rfl⟩
        · have h0' : ((D.toNat : Int) == 0) = false := by
            rw [beq_eq_false_iff_ne]
            intro e
            exact h0 ((bV_zero _).1 e)
          have HR : Hid (decide (a = b) = false) := Lib.hid (by rw [HF.out]; simp [h0])
          clear h0
          go_wp2_with fail
          go_ret
          rw [HR.out]
          exact ⟨rfl, rfl⟩
end Go.Proofs.Ytogfkfoklnpfhaa
