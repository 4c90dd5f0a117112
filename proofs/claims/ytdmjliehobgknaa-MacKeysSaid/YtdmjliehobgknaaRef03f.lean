/- Contract of the document's Digest (compeerref03). -/
import Derived.Test.YtdmjliehobgknaaRef03e
import Derived.Test.YtdmjliehobgknaaShaDigest
import Derived.Test.YtdmjliehobgknaaShaSpec
namespace Go.Proofs.Ytdmjliehobgknaa
set_option linter.unusedSimpArgs false
set_option linter.unusedVariables false
open Go.RowKit

def lenV : Value → Nat
  | .slice _ n _ => n
  | _ => 0

/-- Bytes with their length's last bytes. -/
def padJ (n : Nat) : Nat := (119 - n % 64) % 64

theorem putB_take (n c : Nat) (h : c < 8) : (putB n).take (c + 1) = (putB n).take c ++ [UInt8.ofNat (n / 2 ^ (56 - 8 * c) % 256)] := by
  rw [List.take_succ_eq_append_getElem (by rw [putB_length]; exact h)]
  have h3 := putB_get n c h
  rw [List.getElem?_eq_getElem (by rw [putB_length]; exact h), Option.some.injEq] at h3
  rw [h3]

theorem wholeB_length64 (D : List UInt8) : 64 * ((wholeB D).length / 64) = (wholeB D).length := by
  simp only [wholeB, padB, List.length_append, List.length_cons, List.length_replicate, putB_length]
  omega

set_option maxHeartbeats 8000000 in
set_option maxRecDepth 100000 in
theorem refDigest_any (vk v : Value) (K : List Int) (b : List UInt8) (w : World) (hk : Ws w vk K) (hK : K = kL) (hb : Bs w v b) (hbl : b.length ≤ 1000000) :
    Calls Try.prog 16 #[vk, v] w fun e w' => ∃ x, e = .returned x ∧ OwnBs w' w.heap.size x (digB b) ∧ Below w.heap.size w w' := by
  obtain ⟨ab, cb, rfl, hcb, hmb⟩ := hb.form
  obtain ⟨ak, ck, rfl, hck, hmk⟩ := hk.form
  have HB := Lib.hid hb
  have HK := Lib.hid hk
  have HKL := Lib.hid hK
  unfold maxLen at hmb hmk
  clear hb hk hK
  have n0 : Own (w.alloc (.cells #[] 5)) w.heap.size 5 1 (.slice (some ⟨w.heap.size, 0, none⟩) 0 0) 0 [] := Own.nil _ _ _ _ _
  have N0 := Lib.hid n0
  have HB0 := Lib.hid (HB.out.alloc (.cells #[] 5))
  clear n0
  go_enter Try.func16, Try.ntmps16
  go_wp2_with ((with_reducible show wpList _ _ _ (⟨some 14, _, _, _, _, _⟩ :: _) _ _); refine wpList_app rfl (.tmp 12) (.tmp 13) elBytes rfl w.heap.size N0.out HB0.out (by unfold maxLen; omega) (by omega) (by simp) ?_)
  intro v1 w1 ho1 hk1 hvb1
  have hB1 : Below w.heap.size w w1 := ((Below.refl _ _).alloc (Nat.le_refl _) _).trans (hk1.below (by
    rintro j (⟨_, h⟩ | h)
    · exact h
    · omega))
  have ho1' : OwnBs w1 w.heap.size v1 b := by
    unfold OwnBs
    simpa using ho1
  have hs1 := hB1.size
  have HO1 := Lib.hid (ho1'.alloc (.cells #[.int .u8 128] 5))
  have HB1 := Lib.hid (hB1.alloc hs1 (.cells #[.int .u8 128] 5))
  clear ho1 hk1 hvb1 hB1 ho1'
  go_wp2_with ((with_reducible show wpList _ _ _ (⟨some 16, _, _, _, _, _⟩ :: _) _ _); refine wpList_app rfl (.tmp 14) (.tmp 15) elBytes rfl w.heap.size HO1.out (Sl.lit (n := 1) rfl rfl (by simp [Value.oneCell']) (by unfold maxLen; decide)) (by unfold maxLen; omega) (by omega) (by simp; omega) ?_)
  intro v2 w2 ho2 hk2 hvb2
  have hB2 : Below w.heap.size w w2 := HB1.out.trans (hk2.below (by rintro j (h | h) <;> omega))
  have ho2' : Own w2 w.heap.size 5 1 v2 (b.length + 1 + 0) (bCells (b ++ 128 :: List.replicate 0 0)) := by
    rw [bCells_append]
    exact ho2
  have HO2 := Lib.hid ho2'
  have HB2 := Lib.hid hB2
  have hs2 := hB2.size
  obtain ⟨J, hJ⟩ : ∃ J, J = padJ b.length := ⟨_, rfl⟩
  have hJ2 : J < 64 ∧ (b.length + 1 + J) % 64 = 56 ∧ ∀ j, j < J → (b.length + 1 + j) % 64 ≠ 56 := by
    rw [hJ]
    unfold padJ
    refine ⟨by omega, by omega, fun j hj => by omega⟩
  have HJ := Lib.hid hJ
  have HJ2 := Lib.hid hJ2
  have hJl := hJ2.1
  clear ho2 hk2 hvb2 ho2' hB2 hJ hJ2
  go_wp2_with fail
  go_loopw [5] (fun m wr => ∃ j : Nat, j ≤ J ∧ Own wr w.heap.size 5 1 m (b.length + 1 + j) (bCells (b ++ 128 :: List.replicate j 0)) ∧ Below w.heap.size w wr) (fun m _ => b.length + 1 + J - lenV m)
  case atStart => exact ⟨0, by omega, HO2.out, HB2.out⟩
  case round =>
    obtain ⟨j, hj, hout, hB⟩ := hrel
    obtain ⟨am, cm, rfl, hcm, hmm⟩ := hout.sl.form
    have hss := hB.size
    unfold maxLen at hmm
    by_cases hlt : j < J
    · have h56 := HJ2.out.2.2 j hlt
      have hI : (((b.length + 1 + j : Nat) : Int) % 64 != 56) = true := by rw [bne_iff_ne]; omega
      have hI0 : (0 : Int) ≤ ((b.length + 1 + j : Nat) : Int) := by omega
      have HO3 := Lib.hid (hout.alloc (.cells #[.int .u8 0] 5))
      have HB3 := Lib.hid (hB.alloc hss (.cells #[.int .u8 0] 5))
      obtain ⟨L, hL⟩ : ∃ L, L = b.length + 1 + j := ⟨_, rfl⟩
      have hLb : L ≤ 1000100 := by omega
      rw [← hL] at HO3 hI hI0 ⊢
      have HL := Lib.hid hL
      clear hout hB h56 hL
      go_wp2_with ((with_reducible show wpList _ _ _ (⟨some 23, _, _, _, _, _⟩ :: _) _ _); refine wpList_app rfl (.tmp 21) (.tmp 22) elBytes rfl w.heap.size HO3.out (Sl.lit (n := 1) rfl rfl (by simp [Value.oneCell']) (by unfold maxLen; decide)) (by unfold maxLen; omega) (by omega) (by simp; omega) ?_)
      intro v4 w4 ho4 hk4 hvb4
      have ho4' : Own w4 w.heap.size 5 1 v4 (b.length + 1 + (j + 1)) (bCells (b ++ 128 :: List.replicate (j + 1) 0)) := by
        have e : b ++ 128 :: List.replicate (j + 1) 0 = (b ++ 128 :: List.replicate j 0) ++ [0] := by simp [List.replicate_succ']
        rw [e, bCells_append, show b.length + 1 + (j + 1) = L + 1 by have := HL.out; omega]
        exact ho4
      have hB4 : Below w.heap.size w w4 := HB3.out.trans (hk4.below (by rintro j (h | h) <;> omega))
      obtain ⟨a4, c4, rfl, _⟩ := ho4'.sl.form
      have HO4 := Lib.hid ho4'
      have HB4 := Lib.hid hB4
      clear ho4 hk4 hvb4 hB4 ho4'
      go_wp2_with fail
      go_roundw
      case rel => exact ⟨j + 1, by omega, HO4.out, HB4.out⟩
      case measure => simp only [lenV]; have := HL.out; omega
    · obtain rfl : j = J := by omega
      have h56 := HJ2.out.2.1
      have hI : (((b.length + 1 + j : Nat) : Int) % 64 != 56) = false := by rw [bne_eq_false_iff_eq]; omega
      have hI0 : (0 : Int) ≤ ((b.length + 1 + j : Nat) : Int) := by omega
      have HO3 := Lib.hid hout
      have HB3 := Lib.hid hB
      obtain ⟨L, hL⟩ : ∃ L, L = b.length + 1 + j := ⟨_, rfl⟩
      have hLb : L ≤ 1000100 := by omega
      rw [← hL] at HO3 hI hI0 ⊢
      obtain ⟨M, hM⟩ : ∃ M, M = b ++ 128 :: List.replicate j 0 := ⟨_, rfl⟩
      rw [← hM] at HO3
      have hMl : M.length = L := by rw [hM, hL]; simp; omega
      have HL := Lib.hid hL
      have HM := Lib.hid hM
      have HML := Lib.hid hMl
      clear hout hB h56 hL hM hMl
      go_wp2_with fail
      go_loopw [5, 7] (fun m i ws => ∃ (c : Nat) (z : Int), c ≤ 8 ∧ i = .int .i64 z ∧ z + c = 7 ∧ Own ws w.heap.size 5 1 m (L + c) (bCells (M ++ (putB (8 * b.length)).take c)) ∧ Below w.heap.size w ws) (fun _ i _ => (intOf i + 1).toNat)
      case atStart => exact ⟨0, 7, by omega, rfl, by omega, by simpa using HO3.out, HB3.out⟩
      case round =>
        obtain ⟨c, z, hc, rfl, hz, hout, hB⟩ := hrel
        obtain ⟨am2, cm2, rfl, hcm2, hmm2⟩ := hout.sl.form
        have hss2 := hB.size
        unfold maxLen at hmm2
        have HO5 := Lib.hid hout
        have HB5 := Lib.hid hB
        clear hout hB
        by_cases hlt : c < 8
        · obtain ⟨r, rfl⟩ : ∃ r : Nat, z = r := ⟨z.toNat, by omega⟩
          have hr : r ≤ 7 := by omega
          have hr0 : (0 : Int) ≤ r := by omega
          have ht : (8 * (r : Int)).toNat = 8 * r := by omega
          have hcr : c + r = 7 := by omega
          have HCR := Lib.hid hcr
          clear hz hcr
          have hv : (.int .u8 ((b.length : Int) * 8 / 2 ^ (8 * r) % 256) : Value) = bV (UInt8.ofNat (8 * b.length / 2 ^ (56 - 8 * c) % 256)) := by
            rw [bV_ofNat _ (Nat.mod_lt _ (by decide)), show 56 - 8 * c = 8 * r by have := HCR.out; omega]
            congr 1
            simp [Int.mul_comm]
          have HV := Lib.hid hv
          have HO6 := Lib.hid (HO5.out.alloc (.cells #[.int .u8 ((b.length : Int) * 8 / 2 ^ (8 * r) % 256)] 5))
          have HB6 := Lib.hid (HB5.out.alloc hss2 (.cells #[.int .u8 ((b.length : Int) * 8 / 2 ^ (8 * r) % 256)] 5))
          clear hv
          go_wp2_with ((with_reducible show wpList _ _ _ (⟨some 40, _, _, _, _, _⟩ :: _) _ _); refine wpList_app rfl (.tmp 32) (.tmp 39) elBytes rfl w.heap.size HO6.out (Sl.lit (n := 1) rfl rfl (by simp [Value.oneCell']) (by unfold maxLen; decide)) (by unfold maxLen; omega) (by omega) (by simp; omega) ?_)
          intro v7 w7 ho7 hk7 hvb7
          have ho7' : Own w7 w.heap.size 5 1 v7 (L + (c + 1)) (bCells (M ++ (putB (8 * b.length)).take (c + 1))) := by
            rw [putB_take _ c hlt, ← List.append_assoc, bCells_append, show bCells [UInt8.ofNat (8 * b.length / 2 ^ (56 - 8 * c) % 256)] = [bV (UInt8.ofNat (8 * b.length / 2 ^ (56 - 8 * c) % 256))] from rfl, ← HV.out]
            exact ho7
          have hB7 : Below w.heap.size w w7 := HB6.out.trans (hk7.below (by rintro j (h | h) <;> omega))
          have HO7 := Lib.hid ho7'
          have HB7 := Lib.hid hB7
          clear ho7 hk7 hvb7 hB7 ho7'
          go_wp2_with fail
          go_roundw
          case rel => exact ⟨c + 1, (r : Int) - 1, by omega, rfl, by have := HCR.out; omega, HO7.out, HB7.out⟩
          case measure => simp [intOf] <;> omega
        · obtain rfl : c = 8 := by omega
          obtain rfl : z = -1 := by omega
          have hwh : M ++ (putB (8 * b.length)).take 8 = wholeB b := by
            rw [List.take_of_length_le (by rw [putB_length]; exact Nat.le_refl _), HM.out, HJ.out]
            simp [wholeB, padB, padJ]
          have ho5 := HO5.out
          rw [hwh] at ho5
          obtain ⟨X, hX⟩ : ∃ X, X = wholeB b := ⟨_, rfl⟩
          rw [← hX] at ho5
          have hXl : X.length = L + 8 := by have := ho5.1; rw [bCells_length] at this; omega
          have h64 : 64 * (X.length / 64) = X.length := by rw [hX]; exact wholeB_length64 b
          obtain ⟨g5, cap5, cur5, hv5, hg5, _, hc5, hm5, _⟩ := ho5.form' (by omega)
          simp only [Value.slice.injEq, true_and] at hv5
          obtain ⟨rfl, rfl⟩ := hv5
          obtain ⟨q, hq⟩ : ∃ q, q = X.length / 64 := ⟨_, rfl⟩
          obtain ⟨wo, rfl⟩ : ∃ wo : World, wo = wr := ⟨_, rfl⟩
          rw [← hq] at h64
          obtain ⟨N, hN⟩ : ∃ N, N = L + 8 := ⟨_, rfl⟩
          rw [← hN] at ho5 hXl ⊢
          have hqN : 64 * q = N := by omega
          have hNb : N ≤ 1000200 := by omega
          have HX := Lib.hid hX
          have HQ := Lib.hid hq
          have HXL := Lib.hid hXl
          have HS5 := Lib.hid ho5.sl
          have h80 : h0I.length = 8 := rfl
          obtain ⟨H0, hH0⟩ : ∃ H0, H0 = h0I := ⟨_, rfl⟩
          have hws : Ws (wo.alloc (.cells (wCells H0).toArray 71)) (.slice (some ⟨wo.heap.size, 0, none⟩) 8 8) H0 := by
            rw [hH0]
            exact Sl.lit (n := 8) rfl rfl (wCells_one _) (by unfold maxLen; decide)
          have HWS := Lib.hid hws
          have HBB : Hid (Below w.heap.size w (wo.alloc (.cells (wCells h0I).toArray 71)) ∧ Below wo.heap.size wo (wo.alloc (.cells (wCells h0I).toArray 71))) := Lib.hid ⟨HB5.out.alloc hss2 _, (Below.refl _ _).alloc (Nat.le_refl _) _⟩
          rw [hH0] at HWS
          have hNc : N ≤ cm2 := by omega
          have hqN1 : 64 * q ≤ N := by omega
          have hqN2 : N ≤ 64 * q := by omega
          clear hwh ho5 hX hq hXl h64 hws hH0 hqN hN HO5
          go_wp2_with fail
          go_loopw [8, 9] (fun h i ws => ∃ j : Nat, j ≤ q ∧ i = .int .i64 (64 * j : Nat) ∧ Ws ws h (blocksI h0I X j) ∧ Below w.heap.size w ws ∧ Below wo.heap.size wo ws) (fun _ i _ => 64 * q - (intOf i).toNat)
          case atStart => exact ⟨0, by omega, rfl, HWS.out, HBB.out.1, HBB.out.2⟩
          case round =>
            obtain ⟨j, hj, rfl, hws, hB, hBo⟩ := hrel
            have hHl := blocksI_length h0I X rfl j
            by_cases hlt : j < q
            · have hx5 := HS5.out.below hBo
              have hch : Bs wr (.slice (some ⟨g5, 64 * j, none⟩) 64 (cm2 - 64 * j)) ((X.drop (64 * j)).take 64) := by
                have h1 := (hx5.mid (off := 64 * j) (n := 64) (cap := cm2 - 64 * j) (by omega) (by omega) (by unfold maxLen; omega)).bs rfl (by rw [List.length_take, List.length_drop, HXL.out]; omega)
                rwa [Nat.zero_add] at h1
              have hchl : ((X.drop (64 * j)).take 64).length = 64 := by rw [List.length_take, List.length_drop, HXL.out]; omega
              have hkw := HK.out.below (hB.mono (Nat.le_refl _))
              obtain ⟨ah, ch, rfl, hch1, hmh⟩ := hws.form
              have HCH := Lib.hid hch
              have HCHL := Lib.hid hchl
              have HKW := Lib.hid hkw
              have HWS2 := Lib.hid hws
              have HB8 := Lib.hid hB
              have HBO := Lib.hid hBo
              have HHL := Lib.hid hHl
              have hj1 : 64 * (j : Int) < (N : Int) := by omega
              have hss3 := hB.size
              have hss4 := hBo.size
              have hlt64 : 64 * j + 64 ≤ N := by omega
              clear hch hchl hkw hws hB hBo hHl hx5
              go_wp2_with fail
              refine (refBlock_any _ _ _ (blocksI h0I X j) K ((X.drop (64 * j)).take 64) wr HWS2.out HCH.out HKW.out HHL.out HCHL.out (by rw [HKL.out]; rfl)).mono ?_
              rintro e w9 ⟨x9, rfl, ho9, hb9⟩
              have hw9 : Ws w9 x9 (blocksI h0I X (j + 1)) := by
                have h1 := ho9.sl
                unfold Ws
                rw [blocksI_length h0I X rfl (j + 1)]
                rw [HKL.out] at h1
                exact h1
              have HW9 := Lib.hid hw9
              have HB9 : Hid (Below w.heap.size w w9) := Lib.hid (HB8.out.trans (hb9.mono hss3))
              have HBO9 : Hid (Below wo.heap.size wo w9) := Lib.hid (HBO.out.trans (hb9.mono hss4))
              clear ho9 hb9 hw9
              go_wp2_with fail
              go_roundw
              case rel => exact ⟨j + 1, by omega, by first | rfl | (congr 1; omega), HW9.out, HB9.out, HBO9.out⟩
              case measure => simp [intOf] <;> omega
            · obtain rfl : j = q := by omega
              obtain ⟨ah, ch, rfl, hch1, hmh⟩ := hws.form
              have hHw : ∀ x ∈ blocksI h0I X j, 0 ≤ x ∧ x < 4294967296 := blocksI_w32 _ _ rfl h0I_w32 _
              have hdig : outB (blocksI h0I X j) = digB b := by rw [HQ.out, HX.out]; rfl
              obtain ⟨H, hH⟩ : ∃ H, H = blocksI h0I X j := ⟨_, rfl⟩
              rw [← hH] at hws hHl hHw hdig hch1 ⊢
              rw [hHl] at hch1 ⊢
              have hcl : 0 < (wCells H).length := by rw [wCells_length, hHl]; decide
              obtain ⟨bh, oh, rfl, hch⟩ := hws.addr hcl
              have HCH := Lib.hid hch
              have HHL := Lib.hid hHl
              have HHW := Lib.hid hHw
              have HDIG := Lib.hid hdig
              have HB8 := Lib.hid hB
              have hj1 : ¬ 64 * (j : Int) < (N : Int) := by omega
              have hss3 := hB.size
              obtain ⟨w2, rfl⟩ : ∃ w2 : World, w2 = wr := ⟨_, rfl⟩
              have hbh : bh < w2.heap.size := World.block_lt_of_cell? w2 _ (hch 0 _ (List.getElem?_eq_getElem hcl))
              clear hws hHl hHw hdig hB hBo hch hH hcl
              go_wp2_with fail
              go_loopw [10, 11] (fun out i ws => ∃ k : Nat, k ≤ 8 ∧ i = .int .i64 k ∧ OwnBs ws w2.heap.size out (outB (H.take k)) ∧ Below w.heap.size w ws ∧ Below w2.heap.size w2 ws) (fun _ i _ => 8 - (intOf i).toNat)
              case atStart => exact ⟨0, by omega, rfl, Own.nil _ _ _ _ _, HB8.out.alloc hss3 _, (Below.refl _ _).alloc (Nat.le_refl _) _⟩
              case round =>
                obtain ⟨k, hk, rfl, hout, hB, hBo⟩ := hrel
                by_cases hlt : k < 8
                · have hkl : k < H.length := by have := HHL.out; omega
                  have c0 := below_cell hBo (HCH.out k _ (wCells_get H k hkl))
                  have hkw := HHW.out _ (List.getElem_mem hkl)
                  have hstep := outB_take H k hkl
                  generalize H[k]'hkl = x at c0 hkw hstep
                  obtain ⟨xn, rfl⟩ : ∃ n : Nat, x = (n : Int) := ⟨x.toNat, by omega⟩
                  rw [Int.toNat_natCast] at hstep
                  have hol := outB_length (H.take k)
                  rw [List.length_take] at hol
                  have hbl4 : bCells ((putB xn).drop 4) = [.int .u8 ((xn : Int) / 16777216 % 256), .int .u8 ((xn : Int) / 65536 % 256), .int .u8 ((xn : Int) / 256 % 256), .int .u8 ((xn : Int) % 256)] := by
                    have e : (putB xn).drop 4 = [UInt8.ofNat (xn / 2 ^ 24 % 256), UInt8.ofNat (xn / 2 ^ 16 % 256), UInt8.ofNat (xn / 2 ^ 8 % 256), UInt8.ofNat (xn / 2 ^ 0 % 256)] := rfl
                    rw [e]
                    simp only [bCells, List.map_cons, List.map_nil]
                    rw [bV_ofNat _ (Nat.mod_lt _ (by decide)), bV_ofNat _ (Nat.mod_lt _ (by decide)), bV_ofNat _ (Nat.mod_lt _ (by decide)), bV_ofNat _ (Nat.mod_lt _ (by decide))]
                    simp
                  have HSTEP := Lib.hid hstep
                  have HBL4 := Lib.hid hbl4
                  have HOUT := Lib.hid hout
                  have hk8 : (k : Int) < 8 := by omega
                  have hss5 := hB.size
                  have hss6 := hBo.size
                  have hbh6 : bh < wr.heap.size := by omega
                  have HB10 := Lib.hid hB
                  have HBO10 := Lib.hid hBo
                  clear hstep hbl4 hout hB hBo
                  go_wp2_with fail
                  have x0 : wr.cell? ⟨bh, oh + k, none⟩ = some (.int .u32 (xn : Int)) := c0
                  have s0 : wr.drew.cell? ⟨bh, oh + k, none⟩ = some (.int .u32 (xn : Int)) := c0
                  clear c0
                  go_region_held3 (fun V : World => V.cell? ⟨bh, oh + k, none⟩ = some (.int .u32 (xn : Int)))
                    (first | (with_reducible exact s0) | (with_reducible exact t0) | (with_reducible exact alloc_cell _ x0))
                    (first | (refine step_app rfl (.tmp 61) (.tmp 85) elBytes rfl w2.heap.size (by simp [Act.eval, Act.put]) (HOUT.out.alloc _).drew (by simp [Act.eval, Act.put]) (Sl.lit (n := 4) rfl rfl (by simp [Value.oneCell']) (by unfold maxLen; decide)).drew (by unfold maxLen; omega) (by omega) (by simp; omega) ?_; intro v' w3 hown2 hk2 hvb2; have t0 : w3.cell? ⟨bh, oh + k, none⟩ = some (.int .u32 (xn : Int)) := (hk2.cell (p := ⟨bh, oh + k, none⟩) (by rintro (⟨_, h⟩ | h) <;> (simp at h; omega))).trans (alloc_cell _ x0)))
                  have HO3 : Hid (OwnBs w3 w2.heap.size v' (outB (H.take (k + 1)))) := Lib.hid (by
                    rw [HSTEP.out]
                    unfold OwnBs
                    rw [List.length_append, bCells_append, List.length_drop, putB_length, HBL4.out]
                    simp only [IntKind.wrap_u8] at hown2
                    exact hown2)
                  have HB3 : Hid (Below w.heap.size w w3) := Lib.hid ((HB10.out.alloc hss5 _).drew.trans (hk2.below (by
                    rintro j (⟨_, h⟩ | h)
                    · omega
                    · simp at h; omega)))
                  have HBO3 : Hid (Below w2.heap.size w2 w3) := Lib.hid ((HBO10.out.alloc hss6 _).drew.trans (hk2.below (by
                    rintro j (⟨_, h⟩ | h)
                    · exact h
                    · simp at h; omega)))
                  clear hown2 hk2 hvb2 t0 s0 x0
                  go_wp2_with fail
                  go_roundw
                  case rel => exact ⟨k + 1, by omega, by go_num, HO3.out, HB3.out, HBO3.out⟩
                  case measure => simp [intOf]; omega
                · obtain rfl : k = 8 := by omega
                  have fin : OwnBs wr w.heap.size u10 (digB b) := by
                    rw [← HDIG.out]
                    rw [List.take_of_length_le (by have := HHL.out; omega)] at hout
                    exact Own.base hout hss3
                  have FIN := Lib.hid fin
                  clear fin hout
                  go_wp2_with fail
                  go_ret
                  exact ⟨_, rfl, FIN.out, hB⟩
end Go.Proofs.Ytdmjliehobgknaa
