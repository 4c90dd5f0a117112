/- Contracts of the document's mac (compeerref04): padded, Sum. -/
import Derived.Test.YtdmjliehobgknaaRef03f
import Derived.Test.YtdmjliehobgknaaMacText
namespace Go.Proofs.Ytdmjliehobgknaa
set_option linter.unusedSimpArgs false
set_option linter.unusedVariables false
open Go.RowKit

theorem padK_take (K : List UInt8) (c : UInt8) (k : Nat) (h : k < 64) : (padK K c).take (k + 1) = (padK K c).take k ++ [K.getD k 0 ^^^ c] := by
  rw [List.take_succ_eq_append_getElem (by rw [padK_length]; exact h)]
  have := padK_get K c k h
  rw [List.getElem?_eq_getElem (by rw [padK_length]; exact h), Option.some.injEq] at this
  rw [this]

set_option maxHeartbeats 4000000 in
set_option maxRecDepth 100000 in
theorem refPadded_any (vk u : Value) (Kc : List Int) (key : List UInt8) (by_ : UInt8) (w : World) (hk : Ws w vk Kc) (hK : Kc = kL) (hu : Bs w u key) (hkl : key.length ≤ 100000) :
    Calls Try.prog 46 #[vk, u, .int .u8 by_.toNat] w fun e w' => ∃ x, e = .returned x ∧ OwnBs w' w.heap.size x (padK (keyI key) by_) ∧ Below w.heap.size w w' := by
  obtain ⟨au, cu, rfl, hcu, hmu⟩ := hu.form
  unfold maxLen at hmu
  have HU := Lib.hid hu
  have HKW := Lib.hid hk
  have HKC := Lib.hid hK
  obtain ⟨P, hP⟩ : ∃ P, P = padK (keyI key) by_ := ⟨_, rfl⟩
  have hPl : P.length = 64 := by rw [hP]; exact padK_length _ _
  have HPL := Lib.hid hPl
  rw [← hP]
  have HP0 := Lib.hid hP
  clear hu hk hK hP hPl
  go_enter Try.func46, Try.ntmps46
  go_upto_if 11 with fail
  go_cut [1] (fun s1 wx => Bs wx s1 (keyI key) ∧ Below w.heap.size w wx)
  case first =>
    by_cases hlong : 64 < key.length
    · have hlI : (64 : Int) < key.length := by omega
      have hki : keyI key = digB key := by rw [keyI, if_pos hlong]
      have HKI := Lib.hid hki
      clear hki
      go_wp2_with fail
      refine (refDigest_any _ _ Kc key w HKW.out HKC.out HU.out (by omega)).mono ?_
      rintro e w2 ⟨x2, rfl, ho2, hb2⟩
      rw [← HKI.out] at ho2
      have H2 := Lib.hid ho2.bs
      have HB2 := Lib.hid hb2
      clear ho2 hb2
      go_wp2_with fail
      go_meet
      exact ⟨H2.out, HB2.out⟩
    · have hlI : ¬ (64 : Int) < key.length := by omega
      have hki : keyI key = key := by rw [keyI, if_neg hlong]
      have HKI := Lib.hid hki
      clear hki
      go_wp2_with fail
      go_meet
      exact ⟨by rw [HKI.out]; exact HU.out, Below.refl _ _⟩
  case rest =>
  obtain ⟨wk, rfl⟩ : ∃ wk : World, wk = wc := ⟨_, rfl⟩
  obtain ⟨hk0, hbw⟩ := hcut
  have hP := HP0.out
  obtain ⟨K, hK⟩ : ∃ K, K = keyI key := ⟨_, rfl⟩
  rw [← hK] at hk0 hP
  obtain ⟨a0, c0, rfl, hc0, hm0⟩ := hk0.form
  unfold maxLen at hm0
  have hzw := hbw.size
  have HK0 := Lib.hid hk0
  have HBW := Lib.hid hbw
  have HP := Lib.hid hP
  clear hk0 hbw hK hP
  go_wp2_with fail
  go_loopw [7, 8] (fun out i wr => ∃ k : Nat, k ≤ 64 ∧ i = .int .i64 k ∧ Own wr wk.heap.size 5 1 out k (bCells (P.take k)) ∧ Below wk.heap.size wk wr) (fun _ i _ => 64 - (intOf i).toNat)
  case atStart => exact ⟨0, by omega, rfl, Own.nil _ _ _ _ _, (Below.refl _ _).alloc (Nat.le_refl _) _⟩
  case round =>
    obtain ⟨k, hk, rfl, hout, hB⟩ := hrel
    have hzr := hB.size
    by_cases hlt : k < 64
    · have ht : P.take (k + 1) = P.take k ++ [K.getD k 0 ^^^ by_] := by rw [HP.out]; exact padK_take K by_ k hlt
      have hx := xor_bV2 (K.getD k 0) by_
      have hki : (k : Int) < 64 := by omega
      have HT := Lib.hid ht
      have HO := Lib.hid hout
      have HBr := Lib.hid hB
      by_cases hin : k < K.length
      · obtain ⟨b0, o0, rfl, hcell⟩ := HK0.out.addr (by rw [bCells_length]; omega)
        have ck : wr.cell? ⟨b0, o0 + k, none⟩ = some (.int .u8 (K.getD k 0).toNat) := below_cell hB (hcell k _ (bCells_getD K k hin))
        have hinI : (k : Int) < K.length := by omega
        generalize K.getD k 0 = x at ck HT hx
        have HX := Lib.hid hx
        have HO1 := Lib.hid (HO.out.alloc (.cells #[.int .u8 (bits .xor .u8 (x.toNat : Int) (by_.toNat : Int))] 5))
        have HB1 := Lib.hid (HBr.out.alloc hzr (.cells #[.int .u8 (bits .xor .u8 (x.toNat : Int) (by_.toNat : Int))] 5))
        clear ht hx hout hB hcell
        go_wp2_with ((with_reducible show wpList _ _ _ (⟨some 32, _, _, _, _, _⟩ :: _) _ _); refine wpList_app rfl (.tmp 24) (.tmp 31) elBytes rfl wk.heap.size HO1.out (Sl.lit (n := 1) rfl rfl (by simp [Value.oneCell']) (by unfold maxLen; decide)) (by unfold maxLen; omega) (by omega) (by simp; omega) ?_)
        intro v2 w2 ho2 hk2 hvb2
        have HO2 : Hid (Own w2 wk.heap.size 5 1 v2 (k + 1) (bCells (P.take (k + 1)))) := Lib.hid (by
          rw [HT.out, bCells_append, show bCells [x ^^^ by_] = [bV (x ^^^ by_)] from rfl, ← HX.out]
          exact ho2)
        have HB2 : Hid (Below wk.heap.size wk w2) := Lib.hid (HB1.out.trans (hk2.below (by rintro j (h | h) <;> omega)))
        clear ho2 hk2 hvb2
        go_wp2_with fail
        go_roundw
        case rel => exact ⟨k + 1, by omega, by go_num, HO2.out, HB2.out⟩
        case measure => simp [intOf]; omega
      · have hg : K.getD k 0 = 0 := by simp [List.getD, List.getElem?_eq_none (Nat.le_of_not_lt hin)]
        rw [hg, show (0 : UInt8) ^^^ by_ = by_ by simp] at HT
        have hinI : ¬ (k : Int) < K.length := by omega
        have HO1 := Lib.hid (HO.out.alloc (.cells #[.int .u8 (by_.toNat : Int)] 5))
        have HB1 := Lib.hid (HBr.out.alloc hzr (.cells #[.int .u8 (by_.toNat : Int)] 5))
        clear ht hx hout hB hg
        go_wp2_with ((with_reducible show wpList _ _ _ (⟨some 36, _, _, _, _, _⟩ :: _) _ _); refine wpList_app rfl (.tmp 33) (.tmp 35) elBytes rfl wk.heap.size HO1.out (Sl.lit (n := 1) rfl rfl (by simp [Value.oneCell']) (by unfold maxLen; decide)) (by unfold maxLen; omega) (by omega) (by simp; omega) ?_)
        intro v2 w2 ho2 hk2 hvb2
        have HO2 : Hid (Own w2 wk.heap.size 5 1 v2 (k + 1) (bCells (P.take (k + 1)))) := Lib.hid (by
          rw [HT.out, bCells_append]
          exact ho2)
        have HB2 : Hid (Below wk.heap.size wk w2) := Lib.hid (HB1.out.trans (hk2.below (by rintro j (h | h) <;> omega)))
        clear ho2 hk2 hvb2
        go_wp2_with fail
        go_roundw
        case rel => exact ⟨k + 1, by omega, by go_num, HO2.out, HB2.out⟩
        case measure => simp [intOf]; omega
    · obtain rfl : k = 64 := by omega
      have fin : OwnBs wr w.heap.size u7 P := by
        unfold OwnBs
        rw [List.take_of_length_le (by have := HPL.out; omega)] at hout
        rw [HPL.out]
        exact hout.base hzw
      have FIN := Lib.hid fin
      have HB3 : Hid (Below w.heap.size w wr) := Lib.hid (HBW.out.trans (hB.mono hzw))
      clear fin hout hB
      go_wp2_with fail
      go_ret
      exact ⟨_, rfl, FIN.out, HB3.out⟩

set_option maxHeartbeats 4000000 in
set_option maxRecDepth 100000 in
theorem refMacSum_any (vk u v : Value) (Kc : List Int) (key b : List UInt8) (w : World) (hk : Ws w vk Kc) (hK : Kc = kL) (hu : Bs w u key) (hv : Bs w v b) (hkl : key.length ≤ 100000) (hbl : b.length ≤ 100000) :
    Calls Try.prog 23 #[vk, u, v] w fun e w' => ∃ x, e = .returned x ∧ OwnBs w' w.heap.size x (macB key b) ∧ Below w.heap.size w w' := by
  obtain ⟨P1, hP1⟩ : ∃ P, P = padK (keyI key) 54 := ⟨_, rfl⟩
  obtain ⟨P2, hP2⟩ : ∃ P, P = padK (keyI key) 92 := ⟨_, rfl⟩
  have hl1 : P1.length = 64 := by rw [hP1]; exact padK_length _ _
  have hl2 : P2.length = 64 := by rw [hP2]; exact padK_length _ _
  have HP1 := Lib.hid hP1
  have HP2 := Lib.hid hP2
  have HL1 := Lib.hid hl1
  have HL2 := Lib.hid hl2
  have HU := Lib.hid hu
  have HV := Lib.hid hv
  have HKW := Lib.hid hk
  have HKC := Lib.hid hK
  clear hu hv hk hK hP1 hP2 hl1 hl2
  go_enter Try.func23, Try.ntmps23
  go_wp2_with fail
  refine (refPadded_any _ _ Kc key 54 w HKW.out HKC.out HU.out (by omega)).mono ?_
  rw [← HP1.out]
  rintro e w1 ⟨x1, rfl, ho1, hb1⟩
  have hz1 := hb1.size
  have HO1 := Lib.hid ho1
  have HB1 := Lib.hid hb1
  have HV1 := Lib.hid (HV.out.below hb1)
  have HU1 := Lib.hid (HU.out.below hb1)
  have HK1 := Lib.hid (HKW.out.below hb1)
  clear ho1 hb1
  go_wp2_with ((with_reducible show wpList _ _ _ (⟨some 13, _, _, _, _, _⟩ :: _) _ _); refine wpList_app rfl (.tmp 11) (.tmp 12) elBytes rfl w.heap.size HO1.out HV1.out (by have := HL1.out; unfold maxLen; omega) (by have := HL1.out; omega) (by omega) ?_)
  intro v2 w2 ho2 hk2 hvb2
  have hb2 : Below w.heap.size w1 w2 := hk2.below (by rintro j (h | h) <;> omega)
  have hs2 : Bs w2 v2 (P1 ++ b) := by
    have := ho2.sl
    rw [← bCells_append, show P1.length + b.length = (P1 ++ b).length by simp] at this
    exact this
  have HS2 := Lib.hid hs2
  have HB2 : Hid (Below w.heap.size w w2) := Lib.hid (HB1.out.trans hb2)
  have hz2 := hk2.size
  clear ho2 hk2 hvb2 hs2 hb2 HO1 HV1 HU1 HK1
  have HK2 := Lib.hid (HKW.out.below HB2.out)
  have HU2 := Lib.hid (HU.out.below HB2.out)
  go_wp2_with fail
  refine (refDigest_any _ _ Kc (P1 ++ b) w2 HK2.out HKC.out HS2.out (by have := HL1.out; simp; omega)).mono ?_
  rintro e w3 ⟨x3, rfl, ho3, hb3⟩
  obtain ⟨D1, hD1⟩ : ∃ D, D = digB (P1 ++ b) := ⟨_, rfl⟩
  rw [← hD1] at ho3
  have hDl : D1.length = 32 := by rw [hD1]; exact digB_length _
  have HD1 := Lib.hid hD1
  have HDL := Lib.hid hDl
  have hz3 := hb3.size
  have HX3 := Lib.hid ho3.bs
  have HB3 : Hid (Below w.heap.size w w3) := Lib.hid (HB2.out.trans (hb3.mono (by omega)))
  clear ho3 hb3 hD1 hDl
  have HK3 := Lib.hid (HKW.out.below HB3.out)
  have HU3 := Lib.hid (HU.out.below HB3.out)
  go_wp2_with fail
  refine (refPadded_any _ _ Kc key 92 w3 HK3.out HKC.out HU3.out (by omega)).mono ?_
  rw [← HP2.out]
  rintro e w4 ⟨x4, rfl, ho4, hb4⟩
  have hz4 := hb4.size
  have HO4 := Lib.hid ho4
  have HX4 := Lib.hid (HX3.out.below hb4)
  have HB4 : Hid (Below w.heap.size w w4) := Lib.hid (HB3.out.trans (hb4.mono (by omega)))
  clear ho4 hb4 HK3 HU3
  go_wp2_with ((with_reducible show wpList _ _ _ (⟨some 20, _, _, _, _, _⟩ :: _) _ _); refine wpList_app rfl (.tmp 18) (.tmp 19) elBytes rfl w3.heap.size HO4.out HX4.out (by have := HL2.out; have := HDL.out; unfold maxLen; omega) (by have := HL2.out; have := HDL.out; omega) (by omega) ?_)
  intro v5 w5 ho5 hk5 hvb5
  have hb5 : Below w.heap.size w4 w5 := hk5.below (by rintro j (h | h) <;> omega)
  have hs5 : Bs w5 v5 (P2 ++ D1) := by
    have := ho5.sl
    rw [← bCells_append, show P2.length + D1.length = (P2 ++ D1).length by simp] at this
    exact this
  have HS5 := Lib.hid hs5
  have HB5 : Hid (Below w.heap.size w w5) := Lib.hid (HB4.out.trans hb5)
  have hz5 := hk5.size
  clear ho5 hk5 hvb5 hs5 hb5 HO4 HX4
  have HK5 := Lib.hid (HKW.out.below HB5.out)
  go_wp2_with fail
  refine (refDigest_any _ _ Kc (P2 ++ D1) w5 HK5.out HKC.out HS5.out (by have := HL2.out; have := HDL.out; simp; omega)).mono ?_
  rintro e w6 ⟨x6, rfl, ho6, hb6⟩
  rw [show digB (P2 ++ D1) = macB key b by rw [macB, ← HP2.out, ← HP1.out, ← HD1.out]] at ho6
  have HO6 : Hid (OwnBs w6 w.heap.size x6 (macB key b)) := Lib.hid (Own.base ho6 (by omega))
  have HB6 : Hid (Below w.heap.size w w6) := Lib.hid (HB5.out.trans (hb6.mono (by omega)))
  clear ho6 hb6
  go_wp2_with fail
  go_ret
  exact ⟨_, rfl, HO6.out, HB6.out⟩
end Go.Proofs.Ytdmjliehobgknaa
