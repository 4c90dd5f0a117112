/- Contracts of the document's above and cube (compeerref03). -/
import Derived.Test.YtdmjliehobgknaaRef03b
namespace Go.Proofs.Ytdmjliehobgknaa
set_option linter.unusedSimpArgs false
set_option linter.unusedVariables false
open Go.RowKit

theorem Ds.lit {w : World} {cs : Array Value} {b : Nat} {T : TypeId} (l : List Nat) (hb : w.heap.size = b) (hc : cs.toList = dCells l) (hn : l.length ≤ maxLen) : Ds (w.alloc (.cells cs T)) (.slice (some ⟨b, 0, none⟩) l.length l.length) l := by
  have := Sl.lit (w := w) (cs := cs) (T := T) (sz := 1) (n := l.length) hb (by rw [hc, dCells_length]; omega) (by rw [hc]; exact dCells_one _) hn
  rw [hc] at this
  exact this
theorem Ds.below {w w' : World} {v : Value} {l : List Nat} (h : Ds w v l) (hk : Below w.heap.size w w') : Ds w' v l := Sl.below h hk
theorem timesB_length (a b : List Nat) : (timesB a b).length = a.length + b.length := by rw [timesB, carry_length, mulOut_length]

set_option maxHeartbeats 1000000 in
set_option maxRecDepth 100000 in
theorem refAbove_any (y n : Nat) (w : World) (hy : y < 18446744073709551616) (hn : n ≤ 100000) :
    Calls Try.prog 57 #[.int .u64 y, .int .u64 n] w fun e w' => e = .returned (.bool (aboveB y n)) ∧ Below w.heap.size w w' := by
  have hlim : Ds (w.alloc (.cells #[.int .u64 ((y : Int) % 262144), .int .u64 ((y : Int) / 262144)] 44)) (.slice (some ⟨w.heap.size, 0, none⟩) 2 2) (limbsB y) :=
    Ds.lit (limbsB y) rfl (by simp [dCells, limbsB]) (by unfold maxLen limbsB; simp)
  obtain ⟨l, hl⟩ : ∃ l, l = limbsB y := ⟨_, rfl⟩
  have hl2 : l.length = 2 := by rw [hl]; rfl
  rw [← hl] at hlim
  have HLIM := Lib.hid hlim
  have HL := Lib.hid hl
  have HL2 := Lib.hid hl2
  go_enter Try.func57, Try.ntmps57
  clear hl hl2 hlim
  go_wp2_with fail
  refine (refTimes_any _ _ l l _ HLIM.out HLIM.out (by have := HL2.out; omega) (by have := HL2.out; omega) (by have := HL2.out; omega)).mono ?_
  rintro e w1 ⟨x1, rfl, ho1, hb1⟩
  obtain ⟨S, hS⟩ : ∃ S, S = timesB l l := ⟨_, rfl⟩
  rw [← hS] at ho1
  have hSl : S.length = 4 := by rw [hS, timesB_length, HL2.out]
  have HS := Lib.hid hS
  have HSL := Lib.hid hSl
  have HD1 : Hid (Ds w1 x1 S) := Lib.hid ho1.sl
  have HLIM1 := Lib.hid (HLIM.out.below hb1)
  have HB1 : Hid (Below w.heap.size w w1) := Lib.hid (((Below.refl w.heap.size w).alloc (Nat.le_refl _) (.cells #[.int .u64 ((y : Int) % 262144), .int .u64 ((y : Int) / 262144)] 44)).trans (hb1.mono (by simp)))
  clear ho1 hb1 hS hSl
  go_wp2_with fail
  refine (refTimes_any _ _ S l _ HD1.out HLIM1.out (by have := HSL.out; omega) (by have := HL2.out; omega) (by have := HL2.out; omega)).mono ?_
  rintro e w2 ⟨x2, rfl, ho2, hb2⟩
  obtain ⟨p, hp⟩ : ∃ p, p = timesB S l := ⟨_, rfl⟩
  rw [← hp] at ho2
  have HP := Lib.hid hp
  have HD2 : Hid (Ds w2 x2 p) := Lib.hid ho2.sl
  have HB2 : Hid (Below w.heap.size w w2) := Lib.hid (HB1.out.trans (hb2.mono HB1.out.size))
  have hz2 := HB2.out.size
  have hq : Ds (w2.alloc (.cells #[.int .u64 0, .int .u64 0, .int .u64 0, .int .u64 0, .int .u64 0, .int .u64 ((n : Int) * 64 % 262144), .int .u64 ((n : Int) * 64 / 262144)] 44)) (.slice (some ⟨w2.heap.size, 0, none⟩) 7 7) [0, 0, 0, 0, 0, n * 64 % 262144, n * 64 / 262144] :=
    Ds.lit [0, 0, 0, 0, 0, n * 64 % 262144, n * 64 / 262144] rfl (by simp [dCells]) (by unfold maxLen; simp)
  have HB3 := Lib.hid (HB2.out.alloc hz2 (.cells #[.int .u64 0, .int .u64 0, .int .u64 0, .int .u64 0, .int .u64 0, .int .u64 ((n : Int) * 64 % 262144), .int .u64 ((n : Int) * 64 / 262144)] 44))
  have HD3 := Lib.hid (HD2.out.below ((Below.refl _ _).alloc (Nat.le_refl _) (.cells #[.int .u64 0, .int .u64 0, .int .u64 0, .int .u64 0, .int .u64 0, .int .u64 ((n : Int) * 64 % 262144), .int .u64 ((n : Int) * 64 / 262144)] 44)))
  obtain ⟨q, hqd⟩ : ∃ q, q = [0, 0, 0, 0, 0, n * 64 % 262144, n * 64 / 262144] := ⟨_, rfl⟩
  rw [← hqd] at hq
  have HQ := Lib.hid hq
  have HQD := Lib.hid hqd
  have hgoal : aboveB y n = aboveAux p q 9 := by rw [aboveB, ← HL.out, ← HS.out, ← HP.out, ← HQD.out]
  obtain ⟨R, hR⟩ : ∃ R, R = aboveB y n := ⟨_, rfl⟩
  have hR9 : R = aboveAux p q 9 := hR.trans hgoal
  have HG := Lib.hid hR
  have HR9 := Lib.hid hR9
  clear hR hR9
  clear ho2 hb2 hp hq hqd hgoal HD2 HD1
  go_wp2_with fail
  go_loopw [9] (fun i wr => ∃ m : Nat, m ≤ 9 ∧ i = .int .i64 ((m : Int) - 1) ∧ R = aboveAux p q m ∧ Ds wr x2 p ∧ Ds wr (.slice (some ⟨w2.heap.size, 0, none⟩) 7 7) q ∧ Below w.heap.size w wr) (fun i _ => (intOf i + 1).toNat)
  case atStart => exact ⟨9, Nat.le_refl _, rfl, HR9.out, HD3.out, HQ.out, HB3.out⟩
  case round =>
    obtain ⟨m, hm, rfl, hab, hdp, hdq, hB⟩ := hrel
    cases m with
    | zero =>
      have HAB : Hid (aboveB y n = false) := Lib.hid (by rw [← HG.out, hab]; rfl)
      clear hab hdp hdq
      have h0 : ¬ ((0 : Int) ≤ ((0 : Nat) : Int) - 1) := by omega
      go_wp2_with fail
      go_ret
      rw [HAB.out]
      exact ⟨rfl, hB⟩
    | succ j =>
      rw [show (((j + 1 : Nat) : Int) - 1) = (j : Int) by omega]
      have HDP := Lib.hid hdp
      have HDQ := Lib.hid hdq
      have hau : aboveAux p q (j + 1) = if p.getD j 0 = q.getD j 0 then aboveAux p q j else decide (q.getD j 0 < p.getD j 0) := rfl
      rw [hau] at hab
      have HAB := Lib.hid hab
      clear hdp hdq hau hab
      go_wp2_with fail
      refine (refAt_any _ _ j _ HDP.out).mono ?_
      rintro e w4 ⟨rfl, rfl⟩
      have HAB1 := HAB.out
      clear HAB
      generalize p.getD j 0 = pj at HAB1 ⊢
      have HAB := Lib.hid HAB1
      clear HAB1
      go_wp2_with fail
      refine (refAt_any _ _ j _ HDQ.out).mono ?_
      rintro e w4 ⟨rfl, rfl⟩
      have HAB2 := HAB.out
      clear HAB
      generalize q.getD j 0 = qj at HAB2 ⊢
      by_cases he : pj = qj
      · rw [if_pos he] at HAB2
        have HAB3 := Lib.hid HAB2
        clear HAB2
        subst he
        go_wp2_with fail
        go_roundw
        case rel => exact ⟨j, by omega, rfl, HAB3.out, HDP.out, HDQ.out, hB⟩
        case measure => simp [intOf]
      · rw [if_neg he] at HAB2
        have HAB3 : Hid (aboveB y n = decide (qj < pj)) := Lib.hid (by rw [← HG.out]; exact HAB2)
        have hne : ((pj : Int) != (qj : Int)) = true := by rw [bne_iff_ne]; omega
        clear HAB2
        go_wp2_with fail
        go_ret
        rw [HAB3.out]
        refine ⟨?_, hB⟩
        simp

set_option maxHeartbeats 1000000 in
set_option maxRecDepth 100000 in
theorem refCube_any (n : Nat) (w : World) (hn : n ≤ 100000) :
    Calls Try.prog 42 #[.int .u64 n] w fun e w' => e = .returned (.int .u32 (cubeB n)) ∧ Below w.heap.size w w' := by
  obtain ⟨R, hR⟩ : ∃ R, R = cubeAux n 36 0 := ⟨_, rfl⟩
  have hc : cubeB n = R % 4294967296 := by rw [hR, cubeB]
  have HC := Lib.hid hc
  have HR := Lib.hid hR
  clear hc hR
  go_enter Try.func42, Try.ntmps42
  go_wp2_with fail
  go_loopw [3, 4] (fun x i wr => ∃ (m xn : Nat), m ≤ 36 ∧ i = .int .i64 ((m : Int) - 1) ∧ x = .int .u64 xn ∧ xn < 68719476736 * (37 - m) ∧ R = cubeAux n m xn ∧ Below w.heap.size w wr) (fun _ i _ => (intOf i + 1).toNat)
  case atStart => exact ⟨36, 0, Nat.le_refl _, rfl, rfl, by omega, HR.out, Below.refl _ _⟩
  case round =>
    obtain ⟨m, xn, hm, rfl, rfl, hx, hr, hB⟩ := hrel
    cases m with
    | zero =>
      have HR0 : Hid (R = xn) := Lib.hid hr
      clear hr
      have h0 : ¬ ((0 : Int) ≤ ((0 : Nat) : Int) - 1) := by omega
      go_wp2_with fail
      go_ret
      rw [HC.out, HR0.out]
      refine ⟨?_, hB⟩
      simp
    | succ j =>
      rw [show (((j + 1 : Nat) : Int) - 1) = (j : Int) by omega]
      have hau : cubeAux n (j + 1) xn = cubeAux n j (if aboveB (xn + 2 ^ j) n then xn else xn + 2 ^ j) := rfl
      rw [hau] at hr
      have HRJ := Lib.hid hr
      clear hr hau
      go_wp2_with fail
      obtain ⟨P, hP⟩ : ∃ P, P = 2 ^ j := ⟨_, rfl⟩
      have hp : P ≤ 34359738368 := by
        rw [hP]
        exact Nat.le_trans (Nat.pow_le_pow_right (by decide) (by omega : j ≤ 35)) (by decide)
      have hx2 : xn < 68719476736 * 37 := by omega
      have hw : IntKind.u64.wrap ((xn : Int) + IntKind.u64.wrap (2 ^ j)) = ((xn + P : Nat) : Int) := by
        have e : ((2 : Int) ^ j) = (P : Int) := by rw [hP]; simp
        rw [e, IntKind.wrap_u64, IntKind.wrap_u64]
        omega
      have HRP : Hid (R = cubeAux n j (if aboveB (xn + P) n then xn else xn + P)) := Lib.hid (by rw [hP]; exact HRJ.out)
      rw [hw]
      clear hw hP HRJ
      refine (refAbove_any (xn + P) n wr (by omega) hn).mono ?_
      rintro e w4 ⟨rfl, hb4⟩
      have HB4 := Lib.hid (hB.trans (hb4.mono hB.size))
      have hR := HRP.out
      clear hb4 HRP
      cases hab : aboveB (xn + P) n with
      | true =>
        rw [hab] at hR
        have HR2 : Hid (R = cubeAux n j xn) := Lib.hid (by simpa using hR)
        clear hR hab
        go_wp2_with fail
        go_roundw
        case rel => exact ⟨j, xn, by omega, rfl, rfl, by omega, HR2.out, HB4.out⟩
        case measure => simp [intOf]
      | false =>
        rw [hab] at hR
        have HR2 : Hid (R = cubeAux n j (xn + P)) := Lib.hid (by simpa using hR)
        clear hR hab
        go_wp2_with fail
        go_roundw
        case rel => exact ⟨j, xn + P, by omega, rfl, by simp, by omega, HR2.out, HB4.out⟩
        case measure => simp [intOf]
end Go.Proofs.Ytdmjliehobgknaa
