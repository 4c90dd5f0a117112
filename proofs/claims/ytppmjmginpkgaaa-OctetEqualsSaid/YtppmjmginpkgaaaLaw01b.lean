/- The statements of octet: OctetNumbers and OctetBack return true. -/
import Derived.Test.YtppmjmginpkgaaaLaw01
namespace Go.Proofs.Ytppmjmginpkgaaa
open Go.RowKit

theorem getN_beB : ∀ (k n : Nat), getN (beB k n) = n % 256 ^ k
  | 0, n => by simp [beB, getN, Nat.mod_one]
  | k + 1, n => by
    have h : n % 256 ^ (k + 1) = n % 256 + 256 * (n / 256 % 256 ^ k) := by rw [Nat.pow_succ, Nat.mul_comm (256 ^ k) 256, Nat.mod_mul]
    rw [h, beB, getN_snoc, getN_beB k, UInt8.toNat_ofNat']
    omega

theorem getN_putB (n : Nat) (h : n < 256 ^ 8) : getN (putB n) = n := by rw [putB_eq, getN_beB, Nat.mod_eq_of_lt h]

theorem getN_zero (l : List UInt8) : getN (0 :: l) = getN l := by simp [getN]
theorem getN_zeros (j : Nat) (l : List UInt8) : getN (List.replicate j 0 ++ l) = getN l := by
  induction j with
  | zero => rfl
  | succ j ih => rw [List.replicate_succ, List.cons_append, getN_zero, ih]

theorem getN_stripZ : ∀ l : List UInt8, getN (stripZ l) = getN l
  | [] => rfl
  | [x] => rfl
  | x :: y :: l => by
    unfold stripZ
    split
    · next h => rw [h, getN_zero]; exact getN_stripZ (y :: l)
    · rfl

theorem stripZ_suffix : ∀ l : List UInt8, ∃ k, stripZ l = l.drop k ∧ k + (stripZ l).length = l.length
  | [] => ⟨0, rfl, rfl⟩
  | [x] => ⟨0, rfl, by simp [stripZ]⟩
  | x :: y :: l => by
    unfold stripZ
    split
    · obtain ⟨k, h1, h2⟩ := stripZ_suffix (y :: l)
      exact ⟨k + 1, by rw [h1]; rfl, by rw [List.length_cons]; omega⟩
    · exact ⟨0, rfl, by simp⟩

theorem stripZ_pos : ∀ l : List UInt8, 0 < l.length → 0 < (stripZ l).length
  | [], h => h
  | [x], _ => by simp [stripZ]
  | x :: y :: l, _ => by
    unfold stripZ
    split
    · exact stripZ_pos (y :: l) (by simp)
    · simp

theorem stripZ_head : ∀ l : List UInt8, (stripZ l).length = 1 ∨ l = [] ∨ ∃ x r, stripZ l = x :: r ∧ x ≠ 0
  | [] => .inr (.inl rfl)
  | [x] => .inl (by simp [stripZ])
  | x :: y :: l => by
    unfold stripZ
    split
    · rcases stripZ_head (y :: l) with h | h | h
      · exact .inl h
      · exact absurd h (by simp)
      · exact .inr (.inr h)
    · next h => exact .inr (.inr ⟨x, y :: l, rfl, h⟩)

theorem shortB_drop (n : Nat) : (putB n).drop (8 - (shortB n).length) = shortB n := by
  obtain ⟨k, h1, h2⟩ := stripZ_suffix (putB n)
  rw [putB_length] at h2
  have : k = 8 - (shortB n).length := by unfold shortB; omega
  rw [← this]
  exact h1.symm
theorem shortB_le (n : Nat) : (shortB n).length ≤ 8 := by
  obtain ⟨k, h1, h2⟩ := stripZ_suffix (putB n)
  rw [putB_length] at h2
  unfold shortB
  omega
theorem shortB_pos (n : Nat) : 0 < (shortB n).length := stripZ_pos _ (by rw [putB_length]; decide)
theorem getB_putB (n : Nat) (h : n < 256 ^ 8) : getB (putB n) = (n, true) := by
  unfold getB
  rw [putB_length, if_neg (by decide), getN_putB n h]
theorem getB_shortB (n : Nat) (h : n < 256 ^ 8) : getB (shortB n) = (n, true) := by
  unfold getB
  rw [if_neg (by have := shortB_le n; have := shortB_pos n; omega), shortB, getN_stripZ, getN_putB n h]

theorem Blk.bs {w : World} {b : Nat} {l : List UInt8} {T : TypeId} (h : Blk w b (bCells l) T) {off n cap : Nat} (hf : off + n ≤ l.length) (hc : n ≤ cap) (hm : cap ≤ maxLen) :
    Sl w 1 (.slice (some ⟨b, off, none⟩) n cap) n (bCells ((l.drop off).take n)) := by
  have hl : (bCells ((l.drop off).take n)).length = n := by rw [bCells_length, List.length_take, List.length_drop]; omega
  refine ⟨by rw [hl]; omega, bCells_one _, some ⟨b, off, none⟩, cap, rfl, hc, hm, (fun h => by cases h), .inr ⟨b, off, rfl, fun j u hj => ?_⟩⟩
  have hj' : j < n := by have := (List.getElem?_eq_some_iff.1 hj).1; omega
  rw [h.cell]
  simp only [bCells, List.getElem?_map, List.getElem?_take, List.getElem?_drop, hj', if_true] at hj ⊢
  exact hj
theorem Sl.bs {w : World} {v : Value} {n : Nat} {l l' : List UInt8} (h : Sl w 1 v n (bCells l)) (he : l = l') (hn : l'.length = n) : Bs w v l' := by subst he hn; exact h

set_option maxHeartbeats 1000000 in
set_option maxRecDepth 100000 in
theorem octetNumbers_walk (n : Nat) (v : Value) (l : List UInt8) (w : World) (hn : n < 18446744073709551616) (hs : Bs w v l) :
    Calls Try.prog 6 #[.int .u64 n, v] w fun e w' => e = .returned (.bool true) ∧ Below w.heap.size w w' := by
  have HN := Lib.hid hn
  clear hn
  obtain ⟨a, cap, rfl, hcap, hcm⟩ := hs.form
  unfold maxLen at hcm
  by_cases hl : 40 < l.length
  · have hl' : (40 : Int) < (l.length : Int) := by omega
    go_enter Try.func6, Try.ntmps6
    go_wp2_with fail
    refine (alive01_any w).mono ?_
    rintro e w1 ⟨rfl, hb1⟩
    go_wp2_with fail
    go_ret
    exact ⟨rfl, hb1⟩
  · have hl' : ¬ (40 : Int) < (l.length : Int) := by omega
    go_enter Try.func6, Try.ntmps6
    go_wp2_with fail
    refine (alive01_any w).mono ?_
    rintro e w1 ⟨rfl, hb1⟩
    have HS1 := Lib.hid (hs.below hb1)
    go_wp2_with fail
    have hg := get_any _ l w1 HS1.out
    have hg' := refGet_any _ l w1 HS1.out
    generalize getB l = R at hg hg'
    obtain ⟨X, Y⟩ := R
    have HG := Lib.hid hg'
    clear hg'
    refine hg.mono ?_
    rintro e w' ⟨rfl, rfl⟩
    go_wp2_with fail
    refine HG.out.mono ?_
    rintro e w' ⟨rfl, rfl⟩
    have HB1 := Lib.hid hb1
    clear hb1 hg
    go_wp2_with fail
    refine (put_any n w1).mono ?_
    rintro e w2 ⟨rfl, ho2, hb2, _⟩
    have HO2 := Lib.hid ho2.bs
    have HB2 := Lib.hid (HB1.out.trans (hb2.mono HB1.out.size))
    clear ho2 hb2
    go_wp2_with fail
    refine (refPut_any n w2 HN.out).mono ?_
    rintro e w3 ⟨v3, rfl, ho3, hb3⟩
    obtain ⟨a3, c3, rfl, _⟩ := ho3.bs.form
    have HO3 := Lib.hid ho3.bs
    have HO2' := Lib.hid (HO2.out.below hb3)
    have HB3 := Lib.hid (HB2.out.trans (hb3.mono HB2.out.size))
    clear ho3 hb3
    go_wp2_with fail
    refine (same_b _ _ (putB n) (putB n) _ HO2'.out HO3.out).mono ?_
    rw [decide_eq_true (rfl : putB n = putB n)]
    rintro e w4 ⟨rfl, hb4⟩
    have HB4 := Lib.hid (HB3.out.trans (hb4.mono HB3.out.size))
    clear hb4
    go_wp2_with fail
    refine (short_any n w4).mono ?_
    rintro e w5 ⟨v5, rfl, hs5, hb5, _⟩
    obtain ⟨a5, c5, rfl, _⟩ := hs5.form
    have HO5 := Lib.hid hs5
    have HB5 := Lib.hid (HB4.out.trans (hb5.mono HB4.out.size))
    clear hs5 hb5
    go_wp2_with fail
    refine (refShort_any n w5 HN.out).mono ?_
    rintro e w6 ⟨v6, rfl, ho6, hb6⟩
    obtain ⟨a6, c6, rfl, _⟩ := ho6.bs.form
    have HO6 := Lib.hid ho6.bs
    have HO5' := Lib.hid (HO5.out.below hb6)
    have HB6 := Lib.hid (HB5.out.trans (hb6.mono HB5.out.size))
    clear ho6 hb6
    go_wp2_with fail
    refine (same_b _ _ (shortB n) (shortB n) _ HO5'.out HO6.out).mono ?_
    rw [decide_eq_true (rfl : shortB n = shortB n)]
    rintro e w7 ⟨rfl, hb7⟩
    have HB7 := Lib.hid (HB6.out.trans (hb7.mono HB6.out.size))
    clear hb7
    go_wp2_with fail
    go_ret
    exact ⟨rfl, HB7.out⟩

set_option maxHeartbeats 1000000 in
set_option maxRecDepth 100000 in
theorem octetBack_walk (n : Nat) (w : World) (hn : n < 18446744073709551616) :
    Calls Try.prog 8 #[.int .u64 n] w fun e w' => e = .returned (.bool true) ∧ Below w.heap.size w w' := by
  have hp := getB_putB n (by simpa using hn)
  have hq := getB_shortB n (by simpa using hn)
  have hdr := shortB_drop n
  have hle := shortB_le n
  have hpos := shortB_pos n
  have hhd : (shortB n).length = 1 ∨ ∃ x r, shortB n = x :: r ∧ x ≠ 0 := by
    rcases stripZ_head (putB n) with h | h | h
    · exact .inl h
    · have := putB_length n; rw [h] at this; cases this
    · exact .inr h
  have HN := Lib.hid hn
  have HP := Lib.hid hp
  have HQ := Lib.hid hq
  have HD := Lib.hid hdr
  have HH := Lib.hid hhd
  clear hn hp hq hdr hhd
  go_enter Try.func8, Try.ntmps8
  go_wp2_with fail
  refine (alive01_any w).mono ?_
  rintro e w1 ⟨rfl, hb1⟩
  have HB1 := Lib.hid hb1
  clear hb1
  go_wp2_with fail
  refine (put_any n w1).mono ?_
  rintro e w2 ⟨rfl, ho2, hb2, hblk2⟩
  have HO2 := Lib.hid ho2.bs
  have HB2 := Lib.hid (HB1.out.trans (hb2.mono HB1.out.size))
  clear ho2 hb2
  go_wp2_with fail
  refine (short_any n w2).mono ?_
  rintro e w3 ⟨v3, rfl, hs3, hb3, ho3⟩
  obtain ⟨a3, c3, rfl, hc3, hm3⟩ := hs3.form
  have HO2' := Lib.hid (HO2.out.below hb3)
  have HK2 := Lib.hid (hblk2.below hb3 hblk2.lt)
  have HB3 := Lib.hid (HB2.out.trans (hb3.mono HB2.out.size))
  have HS3 := Lib.hid hs3
  clear hs3 hb3 hblk2 hc3 hm3 ho3
  go_wp2_with fail
  refine (get_any _ (putB n) _ HO2'.out).mono ?_
  rw [HP.out]
  rintro e w' ⟨rfl, rfl⟩
  go_wp2_with fail
  refine (get_any _ (shortB n) _ HS3.out).mono ?_
  rw [HQ.out]
  rintro e w' ⟨rfl, rfl⟩
  obtain ⟨S, hS⟩ : ∃ S, S = shortB n := ⟨_, rfl⟩
  rw [← hS] at HS3 HQ HD HH hle hpos ⊢
  clear hS HQ HP
  have hend : ∀ (off m : Nat), off + m = 8 → S.length = m → Bs w3 (.slice (some ⟨w1.heap.size, off, none⟩) m m) S := by
    intro off m h8 hm
    have h := (HK2.out.bs (off := off) (n := m) (cap := m) (by rw [putB_length]; omega) (Nat.le_refl _) (by unfold maxLen; omega))
    refine h.bs ?_ hm
    have h2 := HD.out
    rw [hm, show 8 - m = off from by omega] at h2
    rw [← h2]
    exact List.take_of_length_le (by simp [putB_length]; omega)
  have HE := Lib.hid hend
  clear hend
  rcases HH.out with h1 | ⟨x, r, hx, hx0⟩
  · rw [h1] at HS3 ⊢
    clear hle hpos
    go_wp2_with fail
    refine (equal_b _ _ S S _ (HE.out 7 1 rfl h1) HS3.out).mono ?_
    rw [decide_eq_true (rfl : S = S)]
    rintro e w4 ⟨rfl, hb4⟩
    have HB4 := Lib.hid (HB3.out.trans (hb4.mono HB3.out.size))
    clear hb4
    go_wp2_with fail
    go_ret
    exact ⟨rfl, HB4.out⟩
  · have hx0' : ((x.toNat : Int) != 0) = true := by simpa using fun h => hx0 ((bV_zero x).1 (by simpa using h))
    obtain ⟨b, off, rfl, hcell⟩ := HS3.out.addr (by rw [bCells_length]; omega)
    have c0 : w3.cell? ⟨b, off, none⟩ = some (.int .u8 x.toNat) := hcell 0 _ (by rw [hx]; rfl)
    clear hcell hx
    have hm := (by omega : S.length = 1 ∨ S.length = 2 ∨ S.length = 3 ∨ S.length = 4 ∨ S.length = 5 ∨ S.length = 6 ∨ S.length = 7 ∨ S.length = 8)
    clear hle hpos
    rcases hm with h1 | h1 | h1 | h1 | h1 | h1 | h1 | h1 <;>
    · have HL := Lib.hid h1
      have hs' := HS3.out
      rw [h1] at hs' ⊢
      have HS4 := Lib.hid hs'
      clear hs' h1 HS3
      go_wp2_with fail
      refine (equal_b _ _ S S _ (HE.out _ _ rfl HL.out) HS4.out).mono ?_
      rw [decide_eq_true (rfl : S = S)]
      rintro e w4 ⟨rfl, hb4⟩
      have HB4 := Lib.hid (HB3.out.trans (hb4.mono HB3.out.size))
      clear hb4
      go_wp2_with fail
      go_ret
      exact ⟨rfl, HB4.out⟩
end Go.Proofs.Ytppmjmginpkgaaa
