/- Contracts of package der: size. -/
import Derived.Test.YtdmjliehobgknaaDerSpec
import Derived.Test.YtdmjliehobgknaaCut
namespace Go.Proofs.Ytdmjliehobgknaa
set_option linter.unusedSimpArgs false
set_option linter.unusedVariables false
open Go.RowKit

set_option maxRecDepth 100000 in
theorem derSize_any (v : Value) (b : List UInt8) (w : World) (h : Bs w v b) :
    Calls Try.prog 64 #[v] w fun e w' => e = .returned (.tuple #[.int .i64 (sizeS b).1, .int .i64 (sizeS b).2.1, .int .i64 (sizeS b).2.2]) ∧ w = w' := by
  obtain ⟨a, cap, rfl, hcap, hcm⟩ := h.form
  have hmx := hcm
  unfold maxLen at hcm
  by_cases h2 : b.length < 2
  · have HS : Hid (sizeS b = (0, 0, 1)) := Lib.hid (by unfold sizeS; rw [if_pos h2])
    have h2' : (b.length : Int) < 2 := by omega
    clear h2 h
    go_enter Try.func64, Try.ntmps64
    go_wp2_with fail
    go_ret3
    rw [HS.out]
    exact ⟨rfl, rfl⟩
  · obtain ⟨bb, off, rfl, hc⟩ := h.addr (by rw [bCells_length]; omega)
    have hb1 : b[1]'(by omega) = b.getD 1 0 := by rw [List.getD_eq_getElem?_getD, List.getElem?_eq_getElem (by omega)]; rfl
    have c1 : w.cell? ⟨bb, off + 1, none⟩ = some (.int .u8 (b.getD 1 0).toNat) := by rw [← hb1]; exact hc 1 _ (bCells_get b 1 (by omega))
    have hlt := (b.getD 1 0).toNat_lt
    have HB := Lib.hid h
    have hcutr := fun j hj hj2 => run_cut2 (some ⟨bb, off, none⟩) b.length cap 2 j hj hj2
    have HCUT := Lib.hid hcutr
    have h2' : ¬ (b.length : Int) < 2 := by omega
    clear hc hb1 h hcutr
    have hS : sizeS b = if (b.getD 1 0).toNat < 128 then (if b.length - 2 < (b.getD 1 0).toNat then (0, 0, 1) else ((b.getD 1 0).toNat, 2, 0))
  else if (b.getD 1 0).toNat = 128 ∨ 130 < (b.getD 1 0).toNat then (0, 0, 3)
  else if b.length < (b.getD 1 0).toNat - 126 then (0, 0, 1)
  else if getN ((b.drop 2).take ((b.getD 1 0).toNat - 128)) < 128 ∨ ((b.getD 1 0).toNat = 130 ∧ getN ((b.drop 2).take ((b.getD 1 0).toNat - 128)) < 256) then (0, 0, 3)
  else if b.length - ((b.getD 1 0).toNat - 126) < getN ((b.drop 2).take ((b.getD 1 0).toNat - 128)) then (0, 0, 1)
  else (getN ((b.drop 2).take ((b.getD 1 0).toNat - 128)), (b.getD 1 0).toNat - 126, 0) := by unfold sizeS; rw [if_neg h2]
    generalize (b.getD 1 0).toNat = c at c1 hlt hS
    rcases (by omega : c < 128 ∨ c = 128 ∨ c = 129 ∨ c = 130 ∨ 130 < c) with k | rfl | rfl | rfl | k
    · rw [if_pos k] at hS
      have k' : ¬ (128 : Int) ≤ (c : Int) := by omega
      by_cases hl : b.length - 2 < c
      · rw [if_pos hl] at hS
        have HS := Lib.hid hS
        have hl' : (b.length : Int) - 2 < (c : Int) := by omega
        clear hS
        go_enter Try.func64, Try.ntmps64
        go_wp2_with fail
        go_ret3
        rw [HS.out]
        exact ⟨rfl, rfl⟩
      · rw [if_neg hl] at hS
        have HS := Lib.hid hS
        have hl' : ¬ (b.length : Int) - 2 < (c : Int) := by omega
        clear hS
        go_enter Try.func64, Try.ntmps64
        go_wp2_with fail
        go_ret3
        rw [HS.out]
        exact ⟨rfl, rfl⟩
    · rw [if_neg (by omega), if_pos (.inl rfl)] at hS
      have HS := Lib.hid hS
      clear hS
      go_enter Try.func64, Try.ntmps64
      go_wp2_with fail
      go_ret3
      rw [HS.out]
      exact ⟨rfl, rfl⟩
    · rw [if_neg (by omega), if_neg (by omega)] at hS
      by_cases hl : b.length < 3
      · rw [if_pos (by omega)] at hS
        have HS := Lib.hid hS
        have hl' : (b.length : Int) < 3 := by omega
        clear hS
        go_enter Try.func64, Try.ntmps64
        go_wp2_with fail
        go_ret3
        rw [HS.out]
        exact ⟨rfl, rfl⟩
      · rw [if_neg (by omega)] at hS
        have hl' : ¬ (b.length : Int) < 3 := by omega
        have hrun : ∀ W, (Instr.sliceAt 22 (.slice (some ⟨bb, off, none⟩) b.length cap) (some (.int .i64 2)) (some (.int .i64 3)) none).run Try.prog W = .ok (.slice (cutA (some ⟨bb, off, none⟩) cap 2) 1 (cap - 2)) W := fun W => HCUT.out 3 (by omega) (by omega) W
        have hbs : Bs w (.slice (cutA (some ⟨bb, off, none⟩) cap 2) 1 (cap - 2)) ((b.drop 2).take 1) := HB.out.cut 2 3 (by omega) (by omega)
        rw [show 129 - 128 = 1 from rfl, show 129 - 126 = 3 from rfl] at hS
        have hll : ((b.drop 2).take 1).length = 1 := by rw [List.length_take, List.length_drop]; omega
        have hgl := getN_lt ((b.drop 2).take 1)
        rw [hll] at hgl
        have HG := Lib.hid (get_any _ _ w hbs)
        have hgb : getB ((b.drop 2).take 1) = (getN ((b.drop 2).take 1), true) := by unfold getB; rw [if_neg (by omega)]
        rw [hgb] at HG
        generalize getN ((b.drop 2).take 1) = n at HG hS hgl
        have hn : n < 256 := by omega
        clear hll hgl hgb hbs
        rcases (by omega : n < 128 ∨ (128 ≤ n ∧ n < 256) ∨ 256 ≤ n) with hq | ⟨hq, hq2⟩ | hq
        · rw [if_pos (.inl hq)] at hS
          have HS := Lib.hid hS
          have hq' : (n : Int) < 128 := by omega
          clear hS
          go_enter Try.func64, Try.ntmps64
          go_wp2_with fail
          refine HG.out.mono ?_
          rintro e w' ⟨rfl, rfl⟩
          go_wp2_with fail
          go_ret3
          rw [HS.out]
          exact ⟨rfl, rfl⟩
        · have hq' : ¬ (n : Int) < 128 := by omega
          have hq2' : (n : Int) < 256 := by omega
          rw [if_neg (by omega)] at hS
          by_cases hr : b.length - 3 < n
          · rw [if_pos hr] at hS
            have HS := Lib.hid hS
            have hr' : (b.length : Int) - 3 < (n : Int) := by omega
            clear hS
            go_enter Try.func64, Try.ntmps64
            go_wp2_with fail
            refine HG.out.mono ?_
            rintro e w' ⟨rfl, rfl⟩
            go_wp2_with fail
            go_ret3
            rw [HS.out]
            exact ⟨rfl, rfl⟩
          · rw [if_neg hr] at hS
            have HS := Lib.hid hS
            have hr' : ¬ (b.length : Int) - 3 < (n : Int) := by omega
            clear hS
            go_enter Try.func64, Try.ntmps64
            go_wp2_with fail
            refine HG.out.mono ?_
            rintro e w' ⟨rfl, rfl⟩
            go_wp2_with fail
            go_ret3
            rw [HS.out]
            exact ⟨rfl, rfl⟩
        · omega
    · rw [if_neg (by omega), if_neg (by omega)] at hS
      by_cases hl : b.length < 4
      · rw [if_pos (by omega)] at hS
        have HS := Lib.hid hS
        have hl' : (b.length : Int) < 4 := by omega
        clear hS
        go_enter Try.func64, Try.ntmps64
        go_wp2_with fail
        go_ret3
        rw [HS.out]
        exact ⟨rfl, rfl⟩
      · rw [if_neg (by omega)] at hS
        have hl' : ¬ (b.length : Int) < 4 := by omega
        have hrun : ∀ W, (Instr.sliceAt 22 (.slice (some ⟨bb, off, none⟩) b.length cap) (some (.int .i64 2)) (some (.int .i64 4)) none).run Try.prog W = .ok (.slice (cutA (some ⟨bb, off, none⟩) cap 2) 2 (cap - 2)) W := fun W => HCUT.out 4 (by omega) (by omega) W
        have hbs : Bs w (.slice (cutA (some ⟨bb, off, none⟩) cap 2) 2 (cap - 2)) ((b.drop 2).take 2) := HB.out.cut 2 4 (by omega) (by omega)
        rw [show 130 - 128 = 2 from rfl, show 130 - 126 = 4 from rfl] at hS
        have hll : ((b.drop 2).take 2).length = 2 := by rw [List.length_take, List.length_drop]; omega
        have hgl := getN_lt ((b.drop 2).take 2)
        rw [hll] at hgl
        have HG := Lib.hid (get_any _ _ w hbs)
        have hgb : getB ((b.drop 2).take 2) = (getN ((b.drop 2).take 2), true) := by unfold getB; rw [if_neg (by omega)]
        rw [hgb] at HG
        generalize getN ((b.drop 2).take 2) = n at HG hS hgl
        have hn : n < 65536 := by omega
        clear hll hgl hgb hbs
        rcases (by omega : n < 128 ∨ (128 ≤ n ∧ n < 256) ∨ 256 ≤ n) with hq | ⟨hq, hq2⟩ | hq
        · rw [if_pos (.inl hq)] at hS
          have HS := Lib.hid hS
          have hq' : (n : Int) < 128 := by omega
          clear hS
          go_enter Try.func64, Try.ntmps64
          go_wp2_with fail
          refine HG.out.mono ?_
          rintro e w' ⟨rfl, rfl⟩
          go_wp2_with fail
          go_ret3
          rw [HS.out]
          exact ⟨rfl, rfl⟩
        · have hq' : ¬ (n : Int) < 128 := by omega
          have hq2' : (n : Int) < 256 := by omega
          rw [if_pos (.inr ⟨rfl, hq2⟩)] at hS
          have HS := Lib.hid hS
          clear hS
          go_enter Try.func64, Try.ntmps64
          go_wp2_with fail
          refine HG.out.mono ?_
          rintro e w' ⟨rfl, rfl⟩
          go_wp2_with fail
          go_ret3
          rw [HS.out]
          exact ⟨rfl, rfl⟩
        · have hq' : ¬ (n : Int) < 128 := by omega
          have hq2' : ¬ (n : Int) < 256 := by omega
          rw [if_neg (by omega)] at hS
          by_cases hr : b.length - 4 < n
          · rw [if_pos hr] at hS
            have HS := Lib.hid hS
            have hr' : (b.length : Int) - 4 < (n : Int) := by omega
            clear hS
            go_enter Try.func64, Try.ntmps64
            go_wp2_with fail
            refine HG.out.mono ?_
            rintro e w' ⟨rfl, rfl⟩
            go_wp2_with fail
            go_ret3
            rw [HS.out]
            exact ⟨rfl, rfl⟩
          · rw [if_neg hr] at hS
            have HS := Lib.hid hS
            have hr' : ¬ (b.length : Int) - 4 < (n : Int) := by omega
            clear hS
            go_enter Try.func64, Try.ntmps64
            go_wp2_with fail
            refine HG.out.mono ?_
            rintro e w' ⟨rfl, rfl⟩
            go_wp2_with fail
            go_ret3
            rw [HS.out]
            exact ⟨rfl, rfl⟩
    · rw [if_neg (by omega), if_pos (.inr k)] at hS
      have HS := Lib.hid hS
      have k' : (128 : Int) ≤ (c : Int) := by omega
      have k2 : (2 : Int) < (c : Int) - 128 := by omega
      have k3 : ¬ (c : Int) - 128 < 1 := by omega
      clear hS
      go_enter Try.func64, Try.ntmps64
      go_wp2_with fail
      go_ret3
      rw [HS.out]
      exact ⟨rfl, rfl⟩
end Go.Proofs.Ytdmjliehobgknaa
