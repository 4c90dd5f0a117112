/- The statements of mac: the examples hold. -/
import Derived.Test.YtdmjliehobgknaaMacConst
namespace Go.Proofs.Ytdmjliehobgknaa
set_option linter.unusedSimpArgs false
set_option linter.unusedVariables false
open Go.RowKit

theorem convBytes3 (w : World) (o o2 : Obj) (C : Array Value) (n c : Nat) : (convert 22 22 (.slice (some ⟨w.heap.size + 1 + 1, 0, none⟩) n c)).run Try.prog (((w.alloc o).alloc o2).alloc (.cells C 5)) = .ok (.slice (some ⟨w.heap.size + 1 + 1, 0, none⟩) n c) (((w.alloc o).alloc o2).alloc (.cells C 5 (C.size, C.size + 1))) := by
  have := convBytes2 (w.alloc o) o2 C n c
  rw [show (w.alloc o).heap.size + 1 = w.heap.size + 1 + 1 by simp] at this
  exact this

theorem run_neq_key (w : World) (a b : List UInt8) (ha : a.length = 16) (hb : b.length = 16) : (binOp .neq 37 (keyV a) (keyV b)).run Try.prog w = .ok (.bool (!decide (a = b))) w := by
  have h := run_eqIn_key w a b ha hb
  unfold keyV
  unfold binOp
  simp [go_sem, Op.equal, Op.maxDepth, h]

theorem guard_key (op : BinOp) (x y : Operand) (a b : List UInt8) (w : World) : (eqGuard op 37 x y (keyV a) (keyV b)).run Try.prog w = .ok () w :=
  run_eqGuard_agg w op _ x y _ _ (by kernel_rfl)

theorem derive_one (c : UInt8) (w : World) : Calls Try.prog 24 #[.agg #[.int .u8 1, .int .u8 0, .int .u8 0, .int .u8 0, .int .u8 0, .int .u8 0, .int .u8 0, .int .u8 0, .int .u8 0, .int .u8 0, .int .u8 0, .int .u8 0, .int .u8 0, .int .u8 0, .int .u8 0, .int .u8 0], .string ⟨#[c]⟩] w
    fun e w' => e = .returned (keyV (deriveB keyOne [c])) ∧ Below w.heap.size w w' :=
  macDerive_any keyOne ⟨#[c]⟩ w rfl (by show 1 ≤ 100000; decide)

theorem text_ab (w : World) : Calls Try.prog 25 #[.string ⟨#[97]⟩, .string ⟨#[98]⟩] w fun e w' => e = .returned (keyV (textB [97] [98])) ∧ Below w.heap.size w w' :=
  macText_any ⟨#[97]⟩ ⟨#[98]⟩ w (by show 1 ≤ 100000; decide) (by show 1 ≤ 100000; decide)

set_option maxHeartbeats 4000000 in
set_option maxRecDepth 100000 in
theorem alive04_any (w : World) : Calls Try.prog 21 #[] w fun e w' => e = .returned (.bool true) ∧ Below w.heap.size w w' := by
  have hgk := guard_key
  have hcv := convBytes
  have hcv2 := convBytes2
  have hcv3 := convBytes3
  go_enter Try.func21, Try.ntmps21
  go_wp2_with fail
  have hk : Bs (((w.alloc (.cells #[.int .u8 107, .int .u8 101, .int .u8 121] 5 (3, 4))).alloc (.cells #[.int .u8 84, .int .u8 104, .int .u8 101, .int .u8 32, .int .u8 113, .int .u8 117, .int .u8 105, .int .u8 99, .int .u8 107, .int .u8 32, .int .u8 98, .int .u8 114, .int .u8 111, .int .u8 119, .int .u8 110, .int .u8 32, .int .u8 102, .int .u8 111, .int .u8 120, .int .u8 32] 5 (20, 21))).alloc (.cells #[.int .u8 106, .int .u8 117, .int .u8 109, .int .u8 112, .int .u8 115, .int .u8 32, .int .u8 111, .int .u8 118, .int .u8 101, .int .u8 114, .int .u8 32, .int .u8 116, .int .u8 104, .int .u8 101, .int .u8 32, .int .u8 108, .int .u8 97, .int .u8 122, .int .u8 121, .int .u8 32, .int .u8 100, .int .u8 111, .int .u8 103] 5 (23, 24)))
      (.slice (some ⟨w.heap.size, 0, none⟩) 3 3) [107, 101, 121] := ((Bs.litM [107, 101, 121] rfl rfl (by decide)).alloc _).alloc _
  have hm1 : Bs (((w.alloc (.cells #[.int .u8 107, .int .u8 101, .int .u8 121] 5 (3, 4))).alloc (.cells #[.int .u8 84, .int .u8 104, .int .u8 101, .int .u8 32, .int .u8 113, .int .u8 117, .int .u8 105, .int .u8 99, .int .u8 107, .int .u8 32, .int .u8 98, .int .u8 114, .int .u8 111, .int .u8 119, .int .u8 110, .int .u8 32, .int .u8 102, .int .u8 111, .int .u8 120, .int .u8 32] 5 (20, 21))).alloc (.cells #[.int .u8 106, .int .u8 117, .int .u8 109, .int .u8 112, .int .u8 115, .int .u8 32, .int .u8 111, .int .u8 118, .int .u8 101, .int .u8 114, .int .u8 32, .int .u8 116, .int .u8 104, .int .u8 101, .int .u8 32, .int .u8 108, .int .u8 97, .int .u8 122, .int .u8 121, .int .u8 32, .int .u8 100, .int .u8 111, .int .u8 103] 5 (23, 24)))
      (.slice (some ⟨w.heap.size + 1, 0, none⟩) 20 20) [84, 104, 101, 32, 113, 117, 105, 99, 107, 32, 98, 114, 111, 119, 110, 32, 102, 111, 120, 32] := (Bs.litM (b := w.heap.size + 1) [84, 104, 101, 32, 113, 117, 105, 99, 107, 32, 98, 114, 111, 119, 110, 32, 102, 111, 120, 32] (by simp) rfl (by decide)).alloc _
  have hm2 : Bs (((w.alloc (.cells #[.int .u8 107, .int .u8 101, .int .u8 121] 5 (3, 4))).alloc (.cells #[.int .u8 84, .int .u8 104, .int .u8 101, .int .u8 32, .int .u8 113, .int .u8 117, .int .u8 105, .int .u8 99, .int .u8 107, .int .u8 32, .int .u8 98, .int .u8 114, .int .u8 111, .int .u8 119, .int .u8 110, .int .u8 32, .int .u8 102, .int .u8 111, .int .u8 120, .int .u8 32] 5 (20, 21))).alloc (.cells #[.int .u8 106, .int .u8 117, .int .u8 109, .int .u8 112, .int .u8 115, .int .u8 32, .int .u8 111, .int .u8 118, .int .u8 101, .int .u8 114, .int .u8 32, .int .u8 116, .int .u8 104, .int .u8 101, .int .u8 32, .int .u8 108, .int .u8 97, .int .u8 122, .int .u8 121, .int .u8 32, .int .u8 100, .int .u8 111, .int .u8 103] 5 (23, 24)))
      (.slice (some ⟨w.heap.size + 1 + 1, 0, none⟩) 23 23) [106, 117, 109, 112, 115, 32, 111, 118, 101, 114, 32, 116, 104, 101, 32, 108, 97, 122, 121, 32, 100, 111, 103] := Bs.litM (b := w.heap.size + 1 + 1) [106, 117, 109, 112, 115, 32, 111, 118, 101, 114, 32, 116, 104, 101, 32, 108, 97, 122, 121, 32, 100, 111, 103] (by simp) rfl (by decide)
  have hb0 : Below w.heap.size w (((w.alloc (.cells #[.int .u8 107, .int .u8 101, .int .u8 121] 5 (3, 4))).alloc (.cells #[.int .u8 84, .int .u8 104, .int .u8 101, .int .u8 32, .int .u8 113, .int .u8 117, .int .u8 105, .int .u8 99, .int .u8 107, .int .u8 32, .int .u8 98, .int .u8 114, .int .u8 111, .int .u8 119, .int .u8 110, .int .u8 32, .int .u8 102, .int .u8 111, .int .u8 120, .int .u8 32] 5 (20, 21))).alloc (.cells #[.int .u8 106, .int .u8 117, .int .u8 109, .int .u8 112, .int .u8 115, .int .u8 32, .int .u8 111, .int .u8 118, .int .u8 101, .int .u8 114, .int .u8 32, .int .u8 116, .int .u8 104, .int .u8 101, .int .u8 32, .int .u8 108, .int .u8 97, .int .u8 122, .int .u8 121, .int .u8 32, .int .u8 100, .int .u8 111, .int .u8 103] 5 (23, 24))) :=
    (((Below.refl _ _).alloc (Nat.le_refl _) _).alloc (by simp) _).alloc (by simp; omega) _
  have hs3 : (((w.alloc (.cells #[.int .u8 107, .int .u8 101, .int .u8 121] 5 (3, 4))).alloc (.cells #[.int .u8 84, .int .u8 104, .int .u8 101, .int .u8 32, .int .u8 113, .int .u8 117, .int .u8 105, .int .u8 99, .int .u8 107, .int .u8 32, .int .u8 98, .int .u8 114, .int .u8 111, .int .u8 119, .int .u8 110, .int .u8 32, .int .u8 102, .int .u8 111, .int .u8 120, .int .u8 32] 5 (20, 21))).alloc (.cells #[.int .u8 106, .int .u8 117, .int .u8 109, .int .u8 112, .int .u8 115, .int .u8 32, .int .u8 111, .int .u8 118, .int .u8 101, .int .u8 114, .int .u8 32, .int .u8 116, .int .u8 104, .int .u8 101, .int .u8 32, .int .u8 108, .int .u8 97, .int .u8 122, .int .u8 121, .int .u8 32, .int .u8 100, .int .u8 111, .int .u8 103] 5 (23, 24))).heap.size = w.heap.size + 1 + 1 + 1 := by simp
  obtain ⟨W3, hW3⟩ : ∃ W3, W3 = (((w.alloc (.cells #[.int .u8 107, .int .u8 101, .int .u8 121] 5 (3, 4))).alloc (.cells #[.int .u8 84, .int .u8 104, .int .u8 101, .int .u8 32, .int .u8 113, .int .u8 117, .int .u8 105, .int .u8 99, .int .u8 107, .int .u8 32, .int .u8 98, .int .u8 114, .int .u8 111, .int .u8 119, .int .u8 110, .int .u8 32, .int .u8 102, .int .u8 111, .int .u8 120, .int .u8 32] 5 (20, 21))).alloc (.cells #[.int .u8 106, .int .u8 117, .int .u8 109, .int .u8 112, .int .u8 115, .int .u8 32, .int .u8 111, .int .u8 118, .int .u8 101, .int .u8 114, .int .u8 32, .int .u8 116, .int .u8 104, .int .u8 101, .int .u8 32, .int .u8 108, .int .u8 97, .int .u8 122, .int .u8 121, .int .u8 32, .int .u8 100, .int .u8 111, .int .u8 103] 5 (23, 24))) := ⟨_, rfl⟩
  rw [← hW3] at hk hm1 hm2 hb0 hs3 ⊢
  clear hW3
  have hrs := Rs.two (T := 22) hm1 hm2
  rw [hs3] at hrs
  refine (macSum_any _ _ [107, 101, 121] [[84, 104, 101, 32, 113, 117, 105, 99, 107, 32, 98, 114, 111, 119, 110, 32, 102, 111, 120, 32], [106, 117, 109, 112, 115, 32, 111, 118, 101, 114, 32, 116, 104, 101, 32, 108, 97, 122, 121, 32, 100, 111, 103]] _ (hk.alloc _) hrs (by decide) (by decide) (by decide)).mono ?_
  rintro e w4 ⟨x4, rfl, ho4, hb4⟩
  rw [show [[84, 104, 101, 32, 113, 117, 105, 99, 107, 32, 98, 114, 111, 119, 110, 32, 102, 111, 120, 32], [106, 117, 109, 112, 115, 32, 111, 118, 101, 114, 32, 116, 104, 101, 32, 108, 97, 122, 121, 32, 100, 111, 103]].flatten = ([84, 104, 101, 32, 113, 117, 105, 99, 107, 32, 98, 114, 111, 119, 110, 32, 102, 111, 120, 32] ++ [106, 117, 109, 112, 115, 32, 111, 118, 101, 114, 32, 116, 104, 101, 32, 108, 97, 122, 121, 32, 100, 111, 103] : List UInt8) by rfl] at ho4
  have htk := al_mac
  have h32 := macB_length [107, 101, 121] ([84, 104, 101, 32, 113, 117, 105, 99, 107, 32, 98, 114, 111, 119, 110, 32, 102, 111, 120, 32] ++ [106, 117, 109, 112, 115, 32, 111, 118, 101, 114, 32, 116, 104, 101, 32, 108, 97, 122, 121, 32, 100, 111, 103])
  obtain ⟨d, hd⟩ : ∃ d, d = macB [107, 101, 121] ([84, 104, 101, 32, 113, 117, 105, 99, 107, 32, 98, 114, 111, 119, 110, 32, 102, 111, 120, 32] ++ [106, 117, 109, 112, 115, 32, 111, 118, 101, 114, 32, 116, 104, 101, 32, 108, 97, 122, 121, 32, 100, 111, 103]) := ⟨_, rfl⟩
  rw [← hd] at htk h32 ho4
  clear hd
  obtain ⟨g4, cap4, rest4, rfl, hg4, _, hc4, hm4⟩ := ho4.blk (by omega)
  have hb44 := bs_take ho4.bs 4 (by omega)
  rw [htk] at hb44
  rw [h32] at hc4 ⊢
  have HB44 := Lib.hid hb44
  have hz4 := hb4.size
  simp at hz4
  have HB4 : Hid (Below w.heap.size w w4) := Lib.hid ((hb0.alloc (by omega) _).trans (hb4.mono (by simp; omega)))
  have hz44 : w.heap.size ≤ w4.heap.size := by omega
  unfold maxLen at hm4
  clear hk hm1 hm2 hb0 hs3 hrs ho4 hb4 hb44 htk h32 hcv hcv2 hcv3 hz4
  go_wp2_with fail
  have hlit : Bs (w4.alloc (.cells #[.int .u8 247, .int .u8 188, .int .u8 131, .int .u8 244] 5)) (.slice (some ⟨w4.heap.size, 0, none⟩) 4 4) [247, 188, 131, 244] := Bs.lit [247, 188, 131, 244] rfl rfl (by decide)
  refine (same_b _ _ _ _ _ (HB44.out.alloc _) hlit).mono ?_
  rintro e w5 ⟨rfl, hb5⟩
  have hz5 := hb5.size
  simp at hz5
  have HB5 : Hid (Below w.heap.size w w5) := Lib.hid ((HB4.out.alloc hz44 _).trans (hb5.mono (by simp; omega)))
  have hz55 : w.heap.size ≤ w5.heap.size := by omega
  clear hb5 hlit hz5
  go_wp2_with fail
  refine (derive_one 97 _).mono ?_
  rintro e w6 ⟨rfl, hb6⟩
  have hz6 := hb6.size
  have HB6 : Hid (Below w.heap.size w w6) := Lib.hid (HB5.out.trans (hb6.mono hz55))
  obtain ⟨A1, hA1⟩ : ∃ A, A = deriveB keyOne [97] := ⟨_, rfl⟩
  rw [← hA1]
  have HA1 := Lib.hid hA1
  have hz66 : w.heap.size ≤ w6.heap.size := by omega
  clear hb6 hA1 hz6
  go_wp2_with fail
  refine (derive_one 98 _).mono ?_
  rintro e w7 ⟨rfl, hb7⟩
  have hz7 := hb7.size
  have HB7 : Hid (Below w.heap.size w w7) := Lib.hid (HB6.out.trans (hb7.mono hz66))
  obtain ⟨A2, hA2⟩ : ∃ A, A = deriveB keyOne [98] := ⟨_, rfl⟩
  rw [← hA2]
  have hz77 : w.heap.size ≤ w7.heap.size := by omega
  have hneq : ∀ W : World, (binOp .neq 37 (keyV A1) (keyV A2)).run Try.prog W = .ok (.bool true) W := by
    intro W
    rw [run_neq_key W A1 A2 (by rw [HA1.out]; exact deriveB_length _ _) (by rw [hA2]; exact deriveB_length _ _)]
    have : ¬ A1 = A2 := by rw [HA1.out, hA2]; exact al_der
    simp [this]
  clear hb7 hA2 hz7
  go_wp2_with fail
  refine (text_ab _).mono ?_
  rintro e w8 ⟨rfl, hb8⟩
  have hz8 := hb8.size
  have HB8 : Hid (Below w.heap.size w w8) := Lib.hid (HB7.out.trans (hb8.mono hz77))
  obtain ⟨A3, hA3⟩ : ∃ A, A = textB [97] [98] := ⟨_, rfl⟩
  rw [← hA3]
  have HA3 := Lib.hid hA3
  have hz88 : w.heap.size ≤ w8.heap.size := by omega
  clear hb8 hA3 hz8 hneq
  go_wp2_with fail
  refine (text_ab _).mono ?_
  rw [← HA3.out]
  rintro e w9 ⟨rfl, hb9⟩
  have HB9 : Hid (Below w.heap.size w w9) := Lib.hid (HB8.out.trans (hb9.mono hz88))
  have heql : ∀ W : World, (binOp .eql 37 (keyV A3) (keyV A3)).run Try.prog W = .ok (.bool true) W := by
    intro W
    rw [run_eql_key W A3 A3 (by rw [HA3.out]; exact textB_length _ _) (by rw [HA3.out]; exact textB_length _ _)]
    simp
  clear hb9
  go_wp2_with fail
  go_ret
  exact ⟨rfl, HB9.out⟩
end Go.Proofs.Ytdmjliehobgknaa
