/- The statement XferEnds, walked. (Printed by wip/tools/genends.py.) -/
import Derived.Test.YtogfkfoklnpfhaaAlive21
namespace Go.Proofs.Ytogfkfoklnpfhaa
set_option linter.unusedSimpArgs false
set_option linter.unusedVariables false
open Go.RowKit

theorem i64_and3 (n : Int) : bits .and .i64 n 3 = n % 4 := by
  have h127 : (BitVec.ofInt 64 3).toNat = 2 ^ 2 - 1 := by decide
  have key : (BitVec.ofInt 64 n &&& BitVec.ofInt 64 3).toNat = (n % ((2 ^ 64 : Nat) : Int)).toNat % 2 ^ 2 := by
    rw [BitVec.toNat_and, BitVec.toNat_ofInt, h127, Nat.and_two_pow_sub_one_eq_mod]
  show IntKind.i64.wrap ((BitVec.ofInt 64 n &&& BitVec.ofInt 64 3).toNat : Nat) = n % 4
  rw [key, IntKind.wrap_i64]
  omega

set_option maxRecDepth 100000 in
set_option maxHeartbeats 4000000 in
theorem ends_refused (v : Value) (b : List UInt8) (n : Int) (w : World) (h : Bs w v b) (hl : b.length ≤ 300) :
    Calls Try.prog 4 #[v, .int .i64 n, .bool false] w fun e w' => e = .returned (.bool true) ∧ Below w.heap.size w w' := by
  obtain ⟨a, c, rfl, hc, hm⟩ := h.form
  have HBS := Lib.hid h
  unfold maxLen at hm
  have hll : b.length ≤ 2048 := by omega
  clear h
  go_enter Try.func4, Try.ntmps4
  go_wp2_with fail
  refine (alive21_any w).mono ?_
  rintro e w1 ⟨rfl, hb⟩
  have HC := Lib.hid ((Hold.start w).step hb)
  have HB := Lib.hid (HBS.out.below hb)
  clear hb
  have h1 := Lib.hid (offer_any _ b _ w1 HC.out HB.out hll)
  clear HC HB
  go_wp2_with fail
  refine h1.out.mono ?_
  rintro e w2 ⟨p, rfl, hc⟩
  have h2 := Lib.hid (came_no p ⟨0, b, 0, 0⟩ _ w2 hc (.inl (by simp)))
  clear hc h1
  go_wp2_with fail
  refine h2.out.mono ?_
  rintro e w3 ⟨rfl, hc⟩
  have HC : Hid (Hold w3 [outR p ⟨0, b, 0, 0⟩, .base w]) := Lib.hid hc
  clear hc h2
  have h4 := outRefuse_any p ⟨0, b, 0, 0⟩ _ w3 HC.out hll
  rw [show outTurn ⟨0, b, 0, 0⟩ 3 = (⟨3, b, 0, 0⟩, 0) from by simp [outTurn]] at h4
  have H4 := Lib.hid h4
  clear h4 HC
  go_wp2_with fail
  refine H4.out.mono ?_
  rintro e w4 ⟨rfl, hc⟩
  have HC := Lib.hid hc
  clear hc H4
  have h5 := Lib.hid (chunk_no p ⟨3, b, 0, 0⟩ _ _ HC.out (.inl (by simp)))
  clear HC
  go_wp2_with fail
  refine h5.out.mono ?_
  rintro e w5 ⟨rfl, hc⟩
  have h6 := outAccept_any p ⟨3, b, 0, 0⟩ _ w5 hc hll
  rw [show outTurn ⟨3, b, 0, 0⟩ 1 = (⟨3, b, 0, 0⟩, 16) from by simp [outTurn]] at h6
  have H6 := Lib.hid h6
  clear hc h5 h6
  go_wp2_with fail
  refine H6.out.mono ?_
  rintro e w6 ⟨rfl, hc⟩
  have h7 := outRefuse_any p ⟨3, b, 0, 0⟩ _ w6 hc hll
  rw [show outTurn ⟨3, b, 0, 0⟩ 3 = (⟨3, b, 0, 0⟩, 16) from by simp [outTurn]] at h7
  have H7 := Lib.hid h7
  clear hc H6 h7
  go_wp2_with fail
  refine H7.out.mono ?_
  rintro e w7 ⟨rfl, hc⟩
  have h8 := Lib.hid (came_no p ⟨3, b, 0, 0⟩ _ w7 hc (.inl (by simp)))
  clear hc H7
  go_wp2_with fail
  refine h8.out.mono ?_
  rintro e w8 ⟨rfl, hc⟩
  have h9 := outBreak_any p ⟨3, b, 0, 0⟩ _ w8 hc
  rw [show outBreak ⟨3, b, 0, 0⟩ = (⟨3, b, 0, 0⟩, 16) from by simp [outBreak]] at h9
  have H9 := Lib.hid h9
  clear hc h8 h9
  go_wp2_with fail
  refine H9.out.mono ?_
  rintro e w9 ⟨rfl, hc⟩
  obtain ⟨ao, co, _, _, ho⟩ := outR_open hc
  have c0 : w9.cell? ⟨p, 0, none⟩ = some (.int .i64 3) := (ho.blkOf (List.mem_cons_self)).cell 0
  have h10 := Lib.hid (outBytes_any p ⟨3, b, 0, 0⟩ _ w9 hc hll)
  clear hc ho H9
  go_wp2_with fail
  refine h10.out.mono ?_
  rintro e w10 ⟨v, rfl, hc⟩
  have hr := hc.rowOf (v := v) (b := b) (by simp)
  have HB := Lib.hid (hc.baseOf (w0 := w) (by simp))
  have hz := HB.out.size
  obtain ⟨av, cv, rfl, _, _⟩ := hr.form
  have h11 := Lib.hid (same_b _ _ b b w10 hr (HBS.out.below HB.out))
  clear hc hr h10
  go_wp2_with fail
  refine h11.out.mono ?_
  rintro e w11 ⟨rfl, hb⟩
  have HB := Lib.hid (HB.out.trans (hb.mono hz))
  simp only [decide_true]
  clear hb h11
  go_wp2_with fail
  go_ret
  exact ⟨rfl, HB.out⟩

set_option maxRecDepth 100000 in
set_option maxHeartbeats 4000000 in
theorem ends_empty (v : Value) (b : List UInt8) (n : Int) (w : World) (h : Bs w v b) (hl : b.length ≤ 300) (h0 : b = []) :
    Calls Try.prog 4 #[v, .int .i64 n, .bool true] w fun e w' => e = .returned (.bool true) ∧ Below w.heap.size w w' := by
  have H0 := Lib.hid h0
  clear h0
  obtain ⟨a, c, rfl, hc, hm⟩ := h.form
  have HBS := Lib.hid h
  unfold maxLen at hm
  have hll : b.length ≤ 2048 := by omega
  clear h
  go_enter Try.func4, Try.ntmps4
  go_wp2_with fail
  refine (alive21_any w).mono ?_
  rintro e w1 ⟨rfl, hb⟩
  have HC := Lib.hid ((Hold.start w).step hb)
  have HB := Lib.hid (HBS.out.below hb)
  clear hb
  have h1 := Lib.hid (offer_any _ b _ w1 HC.out HB.out hll)
  clear HC HB
  go_wp2_with fail
  refine h1.out.mono ?_
  rintro e w2 ⟨p, rfl, hc⟩
  have h2 := Lib.hid (came_no p ⟨0, b, 0, 0⟩ _ w2 hc (.inl (by simp)))
  clear hc h1
  go_wp2_with fail
  refine h2.out.mono ?_
  rintro e w3 ⟨rfl, hc⟩
  have HC : Hid (Hold w3 [outR p ⟨0, b, 0, 0⟩, .base w]) := Lib.hid hc
  clear hc h2
  have h0 := H0.out
  have hbe : ((b.length : Int) == 0) = true := by simp [h0]
  have h4 := outAccept_any p ⟨0, b, 0, 0⟩ _ w3 HC.out hll
  rw [show outTurn ⟨0, b, 0, 0⟩ 1 = (⟨2, b, 0, 0⟩, 0) from by simp [outTurn, h0]] at h4
  have H4 := Lib.hid h4
  clear h4 HC h0
  go_wp2_with fail
  refine H4.out.mono ?_
  rintro e w4 ⟨rfl, hc⟩
  have HC := Lib.hid hc
  clear hc H4
  obtain ⟨q, hq⟩ : ∃ q, bits .and .i64 n 3 = q := ⟨_, rfl⟩
  have hq0 : 0 ≤ q ∧ q ≤ 3 := by rw [← hq, i64_and3]; omega
  obtain ⟨m, rfl⟩ := Int.eq_ofNat_of_zero_le hq0.1
  have hm3 : m ≤ 3 := by omega
  clear hq0
  go_wp2_with fail
  clear hq
  go_loopw [31] (fun i wr => ∃ k : Nat, k ≤ m ∧ i = .int .i64 k ∧ Hold wr [outR p ⟨2, b, 0, 0⟩, .base w]) (fun i _ => m - (intOf i).toNat)
  case atStart => exact ⟨0, Nat.zero_le _, rfl, HC.out⟩
  case round =>
    obtain ⟨k, hk, rfl, hr⟩ := hrel
    have HR := Lib.hid hr
    clear hr HC
    by_cases hlt : k < m
    · have h5 := Lib.hid (chunk_no p ⟨2, b, 0, 0⟩ _ _ HR.out (.inl (by simp)))
      go_wp2_with fail
      refine h5.out.mono ?_
      rintro e w5 ⟨rfl, hc⟩
      have HC := Lib.hid hc
      clear hc h5 HR
      go_wp2_with fail
      go_roundw
      case rel => exact ⟨k + 1, by omega, by go_num, HC.out⟩
      case measure => simp [intOf]; omega
    · obtain rfl : k = m := by omega
      obtain ⟨ao, co, _, _, ho⟩ := outR_open HR.out
      have c0 : wr.cell? ⟨p, 0, none⟩ = some (.int .i64 2) := (ho.blkOf (List.mem_cons_self)).cell 0
      have h9 := outBreak_any p ⟨2, b, 0, 0⟩ _ wr HR.out
      rw [show outBreak ⟨2, b, 0, 0⟩ = (⟨2, b, 0, 0⟩, 16) from by simp [outBreak]] at h9
      have H9 := Lib.hid h9
      clear ho h9 HR
      go_wp2_with fail
      refine H9.out.mono ?_
      rintro e w9 ⟨rfl, hc⟩
      obtain ⟨ao, co, _, _, ho⟩ := outR_open hc
      have d0 : w9.cell? ⟨p, 0, none⟩ = some (.int .i64 2) := (ho.blkOf (List.mem_cons_self)).cell 0
      have HB := Lib.hid (hc.baseOf (w0 := w) (by simp))
      clear hc ho H9
      go_wp2_with fail
      go_ret
      exact ⟨rfl, HB.out⟩

set_option maxRecDepth 100000 in
set_option maxHeartbeats 4000000 in
theorem ends_broken (v : Value) (b : List UInt8) (n : Int) (w : World) (h : Bs w v b) (hl : b.length ≤ 300) (h0 : b ≠ []) :
    Calls Try.prog 4 #[v, .int .i64 n, .bool true] w fun e w' => e = .returned (.bool true) ∧ Below w.heap.size w w' := by
  have H0 := Lib.hid h0
  clear h0
  obtain ⟨a, c, rfl, hc, hm⟩ := h.form
  have HBS := Lib.hid h
  unfold maxLen at hm
  have hll : b.length ≤ 2048 := by omega
  clear h
  go_enter Try.func4, Try.ntmps4
  go_wp2_with fail
  refine (alive21_any w).mono ?_
  rintro e w1 ⟨rfl, hb⟩
  have HC := Lib.hid ((Hold.start w).step hb)
  have HB := Lib.hid (HBS.out.below hb)
  clear hb
  have h1 := Lib.hid (offer_any _ b _ w1 HC.out HB.out hll)
  clear HC HB
  go_wp2_with fail
  refine h1.out.mono ?_
  rintro e w2 ⟨p, rfl, hc⟩
  have h2 := Lib.hid (came_no p ⟨0, b, 0, 0⟩ _ w2 hc (.inl (by simp)))
  clear hc h1
  go_wp2_with fail
  refine h2.out.mono ?_
  rintro e w3 ⟨rfl, hc⟩
  have HC : Hid (Hold w3 [outR p ⟨0, b, 0, 0⟩, .base w]) := Lib.hid hc
  clear hc h2
  have h0 := H0.out
  have hbl : 0 < b.length := List.length_pos_iff.2 h0
  have h4 := outAccept_any p ⟨0, b, 0, 0⟩ _ w3 HC.out hll
  rw [show outTurn ⟨0, b, 0, 0⟩ 1 = (⟨1, b, 0, 0⟩, 0) from by simp [outTurn, h0]] at h4
  have H4 := Lib.hid h4
  clear h4 HC h0
  go_wp2_with fail
  refine H4.out.mono ?_
  rintro e w4 ⟨rfl, hc⟩
  have HC := Lib.hid hc
  clear hc H4
  obtain ⟨q, hq⟩ : ∃ q, bits .and .i64 n 3 = q := ⟨_, rfl⟩
  have hq0 : 0 ≤ q ∧ q ≤ 3 := by rw [← hq, i64_and3]; omega
  obtain ⟨m, rfl⟩ := Int.eq_ofNat_of_zero_le hq0.1
  have hm3 : m ≤ 3 := by omega
  clear hq0
  go_wp2_with fail
  clear hq
  go_loopw [31] (fun i wr => ∃ k sent ahead : Nat, k ≤ m ∧ i = .int .i64 k ∧ sent ≤ b.length ∧ ahead ≤ k ∧ Hold wr [outR p ⟨1, b, sent, ahead⟩, .base w]) (fun i _ => m - (intOf i).toNat)
  case atStart => exact ⟨0, 0, 0, Nat.zero_le _, rfl, Nat.zero_le _, Nat.le_refl _, HC.out⟩
  case round =>
    obtain ⟨k, sent, ahead, hk, rfl, hs, ha, hr⟩ := hrel
    have HR := Lib.hid hr
    clear hr HC
    by_cases hlt : k < m
    · by_cases hst : outStop ⟨1, b, sent, ahead⟩
      · have h5 := Lib.hid (chunk_no p ⟨1, b, sent, ahead⟩ _ _ HR.out hst)
        clear hst
        go_wp2_with fail
        refine h5.out.mono ?_
        rintro e w5 ⟨rfl, hc⟩
        have HC := Lib.hid hc
        clear hc h5 HR
        go_wp2_with fail
        go_roundw
        case rel => exact ⟨k + 1, sent, ahead, by omega, by go_num, hs, by omega, HC.out⟩
        case measure => simp [intOf]; omega
      · have h5 := Lib.hid (chunk_yes p ⟨1, b, sent, ahead⟩ _ _ HR.out hst hs hll (by simp only; omega))
        clear hst
        go_wp2_with fail
        refine h5.out.mono ?_
        rintro e w5 ⟨v5, rfl, hc⟩
        have hf := (hc.rowOf (v := v5) (List.mem_cons_of_mem _ List.mem_cons_self)).form
        obtain ⟨a5, c5, rfl, _, _⟩ := hf
        have HC := Lib.hid hc.swap.tail
        clear hc h5 HR
        go_wp2_with fail
        go_roundw
        case rel => exact ⟨k + 1, min (sent + 64) b.length, ahead + 1, by omega, by go_num, by omega, by omega, HC.out⟩
        case measure => simp [intOf]; omega
    · obtain rfl : k = m := by omega
      obtain ⟨ao, co, _, _, ho⟩ := outR_open HR.out
      have c0 : wr.cell? ⟨p, 0, none⟩ = some (.int .i64 1) := (ho.blkOf (List.mem_cons_self)).cell 0
      have hbl0 : ((b.length : Int) == 0) = false := by simp; intro h; simp [h] at hbl
      have h9 := outBreak_any p ⟨1, b, sent, ahead⟩ _ wr HR.out
      rw [show outBreak ⟨1, b, sent, ahead⟩ = (⟨4, b, sent, ahead⟩, 0) from by simp [outBreak]] at h9
      have H9 := Lib.hid h9
      clear ho h9 HR
      go_wp2_with fail
      refine H9.out.mono ?_
      rintro e w9 ⟨rfl, hc⟩
      have HC := Lib.hid hc
      clear hc H9
      have h5 := Lib.hid (chunk_no p ⟨4, b, sent, ahead⟩ _ _ HC.out (.inl (by simp)))
      clear HC
      go_wp2_with fail
      refine h5.out.mono ?_
      rintro e w5 ⟨rfl, hc⟩
      have h6 := outAccept_any p ⟨4, b, sent, ahead⟩ _ w5 hc hll
      rw [show outTurn ⟨4, b, sent, ahead⟩ 1 = (⟨4, b, sent, ahead⟩, 16) from by simp [outTurn]] at h6
      have H6 := Lib.hid h6
      clear hc h5 h6
      go_wp2_with fail
      refine H6.out.mono ?_
      rintro e w6 ⟨rfl, hc⟩
      have h7 := outRefuse_any p ⟨4, b, sent, ahead⟩ _ w6 hc hll
      rw [show outTurn ⟨4, b, sent, ahead⟩ 3 = (⟨4, b, sent, ahead⟩, 16) from by simp [outTurn]] at h7
      have H7 := Lib.hid h7
      clear hc H6 h7
      go_wp2_with fail
      refine H7.out.mono ?_
      rintro e w7 ⟨rfl, hc⟩
      have h8 := Lib.hid (came_no p ⟨4, b, sent, ahead⟩ _ w7 hc (.inl (by simp)))
      clear hc H7
      go_wp2_with fail
      refine h8.out.mono ?_
      rintro e w8 ⟨rfl, hc⟩
      have h9 := outBreak_any p ⟨4, b, sent, ahead⟩ _ w8 hc
      rw [show outBreak ⟨4, b, sent, ahead⟩ = (⟨4, b, sent, ahead⟩, 16) from by simp [outBreak]] at h9
      have H9 := Lib.hid h9
      clear hc h8 h9
      go_wp2_with fail
      refine H9.out.mono ?_
      rintro e w9 ⟨rfl, hc⟩
      obtain ⟨ao, co, _, _, ho⟩ := outR_open hc
      have c0 : w9.cell? ⟨p, 0, none⟩ = some (.int .i64 4) := (ho.blkOf (List.mem_cons_self)).cell 0
      have h10 := Lib.hid (outBytes_any p ⟨4, b, sent, ahead⟩ _ w9 hc hll)
      clear hc ho H9
      go_wp2_with fail
      refine h10.out.mono ?_
      rintro e w10 ⟨v, rfl, hc⟩
      have hr := hc.rowOf (v := v) (b := b) (by simp)
      have HB := Lib.hid (hc.baseOf (w0 := w) (by simp))
      have hz := HB.out.size
      obtain ⟨av, cv, rfl, _, _⟩ := hr.form
      have h11 := Lib.hid (same_b _ _ b b w10 hr (HBS.out.below HB.out))
      clear hc hr h10
      go_wp2_with fail
      refine h11.out.mono ?_
      rintro e w11 ⟨rfl, hb⟩
      have HB := Lib.hid (HB.out.trans (hb.mono hz))
      simp only [decide_true]
      clear hb h11
      go_wp2_with fail
      go_ret
      exact ⟨rfl, HB.out⟩

set_option maxRecDepth 100000 in
theorem xferEnds_walk (v : Value) (b : List UInt8) (n : Int) (br : Bool) (w : World) (h : Bs w v b) :
    Calls Try.prog 4 #[v, .int .i64 n, .bool br] w fun e w' => e = .returned (.bool true) ∧ Below w.heap.size w w' := by
  by_cases hl : b.length ≤ 300
  · cases br
    · exact ends_refused v b n w h hl
    · by_cases h0 : b = []
      · exact ends_empty v b n w h hl h0
      · exact ends_broken v b n w h hl h0
  · obtain ⟨a, c, rfl, hc, hm⟩ := h.form
    unfold maxLen at hm
    have hl' : (300 : Int) < b.length := by omega
    clear h
    go_enter Try.func4, Try.ntmps4
    go_wp2_with fail
    refine (alive21_any w).mono ?_
    rintro e w1 ⟨rfl, hb⟩
    have HB := Lib.hid hb
    clear hb
    go_wp2_with fail
    go_ret
    exact ⟨rfl, HB.out⟩
end Go.Proofs.Ytogfkfoklnpfhaa
