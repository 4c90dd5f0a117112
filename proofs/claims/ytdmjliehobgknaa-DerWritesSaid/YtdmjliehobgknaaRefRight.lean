/- Contract: the document's Right. (Printed by wip/tools/genrefright.py.) -/
import Derived.Test.YtdmjliehobgknaaRefSame
namespace Go.Proofs.Ytdmjliehobgknaa
set_option linter.unusedSimpArgs false
set_option linter.unusedVariables false
open Go.RowKit

theorem nez_true {n : Nat} (h : ¬ n = 0) : ((n : Int) != 0) = true := by simp; omega
theorem nez_false {n : Nat} (h : n = 0) : ((n : Int) != 0) = false := by subst h; rfl

set_option maxHeartbeats 2000000 in
set_option maxRecDepth 100000 in
theorem refRight_any : ∀ (d : Nat) (D : Int) (x : Tv) (G : Nat → Prop) (cs : List Value) (w : World), D = 9 - (d : Int) → d ≤ 8 → TvF w G x cs →
    Calls Try.prog 34 #[.agg cs.toArray, .int .i64 D] w (BoolRes w (rightS d x)) := by
  intro d
  induction d with
  | zero =>
    intro D x G cs w hD hd h
    obtain ⟨bv, lv, rows, rfl, hb, _, hl, _, hls⟩ := h.open_
    have hD' : (8 : Int) < D := by omega
    have HR : Hid (rightS 0 x = false) := Lib.hid rfl
    clear hD h
    generalize x.tag = t at *
    rcases (by omega : t < 0 ∨ 30 < t ∨ (0 ≤ t ∧ t ≤ 30)) with ht | ht | ⟨ht, ht2⟩
    all_goals
      rw [HR.out]
      go_enter Try.func34, Try.ntmps34
      go_wp2_with fail
      all_goals
        go_ret
        exact ⟨rfl, (Below.refl _ _).alloc (Nat.le_refl _) _⟩
  | succ d ih =>
    intro D x G cs w hD hd h
    obtain ⟨bv, lv, rows, rfl, hb, _, hl, _, hls⟩ := h.open_
    have hD' : ¬ (8 : Int) < D := by omega
    have hD0 : 0 ≤ D := by omega
    have HD := Lib.hid hD
    have HIH := Lib.hid ih
    obtain ⟨k, t, n, b, l⟩ := x
    simp only [Tv.kind, Tv.tag, Tv.n, Tv.b, Tv.l] at *
    obtain ⟨ab, cb, rfl, hcb, hmb⟩ := hb.form
    obtain ⟨al, cl, rfl, hcl, hml⟩ := hl.form
    unfold maxLen at hmb hml
    have hRS : rightS (d + 1) (.mk k t n b l) = (decide (0 ≤ t) && decide (t ≤ 30) &&
      (if k = 0 then decide (b = []) && decide (l.length = 0) else if k = 1 then decide (n = 0) && decide (l.length = 0) else if k = 2 then l.all (rightS d) && decide (n = 0) && decide (b = []) else false)) := rfl
    have HRS := Lib.hid hRS
    have HL := Lib.hid hl
    have HLS := Lib.hid hls
    clear hD ih h hb hl hls hRS
    rcases (by omega : t < 0 ∨ 30 < t ∨ (0 ≤ t ∧ t ≤ 30)) with ht | ht | ⟨ht, ht2⟩
    · have HR : Hid (rightS (d + 1) (.mk k t n b l) = false) := Lib.hid (by rw [HRS.out]; simp; omega)
      clear HRS
      rw [HR.out]
      go_enter Try.func34, Try.ntmps34
      go_wp2_with fail
      all_goals
        go_ret
        exact ⟨rfl, (Below.refl _ _).alloc (Nat.le_refl _) _⟩
    · have HR : Hid (rightS (d + 1) (.mk k t n b l) = false) := Lib.hid (by rw [HRS.out]; simp; omega)
      clear HRS
      rw [HR.out]
      go_enter Try.func34, Try.ntmps34
      go_wp2_with fail
      all_goals
        go_ret
        exact ⟨rfl, (Below.refl _ _).alloc (Nat.le_refl _) _⟩
    · rcases (by omega : k < 0 ∨ 2 < k ∨ k = 0 ∨ k = 1 ∨ k = 2) with hk | hk | rfl | rfl | rfl
      · have HR : Hid (rightS (d + 1) (.mk k t n b l) = false) := Lib.hid (by rw [HRS.out, if_neg (by omega), if_neg (by omega), if_neg (by omega), Bool.and_false])
        clear HRS
        rw [HR.out]
        go_enter Try.func34, Try.ntmps34
        go_wp2_with fail
        all_goals
          go_ret
          exact ⟨rfl, (Below.refl _ _).alloc (Nat.le_refl _) _⟩
      · have HR : Hid (rightS (d + 1) (.mk k t n b l) = false) := Lib.hid (by rw [HRS.out, if_neg (by omega), if_neg (by omega), if_neg (by omega), Bool.and_false])
        clear HRS
        rw [HR.out]
        go_enter Try.func34, Try.ntmps34
        go_wp2_with fail
        all_goals
          go_ret
          exact ⟨rfl, (Below.refl _ _).alloc (Nat.le_refl _) _⟩
      · by_cases g_b : b = []
        · subst g_b
          by_cases g_l : l = []
          · subst g_l
            have HR : Hid (rightS (d + 1) (.mk 0 t n [] []) = true) := Lib.hid (by rw [HRS.out]; simp [ht, ht2])
            have HBB : Hid (Below w.heap.size w (w.alloc (.cells #[.int .i64 0, .int .i64 t, .int .u64 n, .slice ab 0 cb, .slice al 0 cl] 50))) := Lib.hid ((Below.refl _ _).alloc (Nat.le_refl _) _)
            have HQ0 : Hid (Blk (w.alloc (.cells #[.int .i64 0, .int .i64 t, .int .u64 n, .slice ab 0 cb, .slice al 0 cl] 50)) w.heap.size [.int .i64 0, .int .i64 t, .int .u64 n, .slice ab 0 cb, .slice al 0 cl] 50) := Lib.hid (Blk.new w _ _)
            clear HRS
            rw [HR.out]
            go_enter Try.func34, Try.ntmps34
            go_wp2_with fail
            go_loopw [5] (fun i wr => i = .int .i64 0 ∧ Blk wr w.heap.size [.int .i64 0, .int .i64 t, .int .u64 n, .slice ab 0 cb, .slice al 0 cl] 50 ∧ Below w.heap.size w wr) (fun i _ => 0)
            case atStart => exact ⟨rfl, HQ0.out, HBB.out⟩
            case round =>
              obtain ⟨rfl, hq, hB⟩ := hrel
              have HB := Lib.hid hB
              have hl4 : wr.cell? ⟨w.heap.size, 4, none⟩ = some (.slice al 0 cl) := by rw [hq.cell]; rfl
              have hblk : w.heap.size < wr.heap.size := hq.lt
              clear hq hB
              go_wp2_with fail
              go_ret
              exact ⟨rfl, HB.out⟩
          · obtain ⟨c0, l, rfl⟩ := List.exists_cons_of_ne_nil g_l
            have HR : Hid (rightS (d + 1) (.mk 0 t n [] (c0 :: l)) = false) := Lib.hid (by rw [HRS.out]; simp)
            clear HRS g_l
            rw [HR.out]
            go_enter Try.func34, Try.ntmps34
            go_wp2_with fail
            all_goals
              go_ret
              exact ⟨rfl, (Below.refl _ _).alloc (Nat.le_refl _) _⟩
        · obtain ⟨c0, b, rfl⟩ := List.exists_cons_of_ne_nil g_b
          have HR : Hid (rightS (d + 1) (.mk 0 t n (c0 :: b) l) = false) := Lib.hid (by rw [HRS.out]; simp)
          clear HRS g_b
          rw [HR.out]
          go_enter Try.func34, Try.ntmps34
          go_wp2_with fail
          all_goals
            go_ret
            exact ⟨rfl, (Below.refl _ _).alloc (Nat.le_refl _) _⟩
      · by_cases g_n : n = 0
        · subst g_n
          by_cases g_l : l = []
          · subst g_l
            have HR : Hid (rightS (d + 1) (.mk 1 t 0 b []) = true) := Lib.hid (by rw [HRS.out]; simp [ht, ht2])
            have HBB : Hid (Below w.heap.size w (w.alloc (.cells #[.int .i64 1, .int .i64 t, .int .u64 0, .slice ab b.length cb, .slice al 0 cl] 50))) := Lib.hid ((Below.refl _ _).alloc (Nat.le_refl _) _)
            have HQ0 : Hid (Blk (w.alloc (.cells #[.int .i64 1, .int .i64 t, .int .u64 0, .slice ab b.length cb, .slice al 0 cl] 50)) w.heap.size [.int .i64 1, .int .i64 t, .int .u64 0, .slice ab b.length cb, .slice al 0 cl] 50) := Lib.hid (Blk.new w _ _)
            clear HRS
            rw [HR.out]
            go_enter Try.func34, Try.ntmps34
            go_wp2_with fail
            go_loopw [5] (fun i wr => i = .int .i64 0 ∧ Blk wr w.heap.size [.int .i64 1, .int .i64 t, .int .u64 0, .slice ab b.length cb, .slice al 0 cl] 50 ∧ Below w.heap.size w wr) (fun i _ => 0)
            case atStart => exact ⟨rfl, HQ0.out, HBB.out⟩
            case round =>
              obtain ⟨rfl, hq, hB⟩ := hrel
              have HB := Lib.hid hB
              have hl4 : wr.cell? ⟨w.heap.size, 4, none⟩ = some (.slice al 0 cl) := by rw [hq.cell]; rfl
              have hblk : w.heap.size < wr.heap.size := hq.lt
              clear hq hB
              go_wp2_with fail
              go_ret
              exact ⟨rfl, HB.out⟩
          · obtain ⟨c0, l, rfl⟩ := List.exists_cons_of_ne_nil g_l
            have HR : Hid (rightS (d + 1) (.mk 1 t 0 b (c0 :: l)) = false) := Lib.hid (by rw [HRS.out]; simp)
            clear HRS g_l
            rw [HR.out]
            go_enter Try.func34, Try.ntmps34
            go_wp2_with fail
            all_goals
              go_ret
              exact ⟨rfl, (Below.refl _ _).alloc (Nat.le_refl _) _⟩
        · have g_n1 : ((n : Int) != 0) = true := nez_true g_n
          have HR : Hid (rightS (d + 1) (.mk 1 t n b l) = false) := Lib.hid (by rw [HRS.out]; simp [g_n])
          clear HRS g_n
          rw [HR.out]
          go_enter Try.func34, Try.ntmps34
          go_wp2_with fail
          all_goals
            go_ret
            exact ⟨rfl, (Below.refl _ _).alloc (Nat.le_refl _) _⟩
      · by_cases g_n : n = 0
        · subst g_n
          by_cases g_b : b = []
          · subst g_b
            have HRA : Hid (rightS (d + 1) (.mk 2 t 0 [] l) = l.all (rightS d)) := Lib.hid (by rw [HRS.out]; simp [ht, ht2])
            have HBB : Hid (Below w.heap.size w (w.alloc (.cells #[.int .i64 2, .int .i64 t, .int .u64 0, .slice ab 0 cb, .slice al l.length cl] 50))) := Lib.hid ((Below.refl _ _).alloc (Nat.le_refl _) _)
            have HQ0 : Hid (Blk (w.alloc (.cells #[.int .i64 2, .int .i64 t, .int .u64 0, .slice ab 0 cb, .slice al l.length cl] 50)) w.heap.size [.int .i64 2, .int .i64 t, .int .u64 0, .slice ab 0 cb, .slice al l.length cl] 50) := Lib.hid (Blk.new w _ _)
            clear HRS
            rw [HRA.out]
            clear HRA
            go_enter Try.func34, Try.ntmps34
            go_wp2_with fail
            go_loopw [5] (fun i wr => ∃ k : Nat, k ≤ l.length ∧ i = .int .i64 k ∧ (l.take k).all (rightS d) = true ∧ Blk wr w.heap.size [.int .i64 2, .int .i64 t, .int .u64 0, .slice ab 0 cb, .slice al l.length cl] 50 ∧ Below w.heap.size w wr) (fun i _ => l.length - (intOf i).toNat)
            case atStart => exact ⟨0, Nat.zero_le _, rfl, rfl, HQ0.out, HBB.out⟩
            case round =>
              obtain ⟨j, hj, rfl, hall, hq, hB⟩ := hrel
              have HB := Lib.hid hB
              have HQ := Lib.hid hq
              have HALL := Lib.hid hall
              have hzr := hB.size
              have hl4 : wr.cell? ⟨w.heap.size, 4, none⟩ = some (.slice al l.length cl) := by rw [hq.cell]; rfl
              have hblk : w.heap.size < wr.heap.size := hq.lt
              by_cases hlt : j < l.length
              · obtain ⟨bl, ol, rfl, _⟩ := HL.out.addr (by rw [HL.out.1]; omega)
                obtain ⟨r, hr, hrc⟩ := HLS.out.cells HL.out j hlt
                have hcr : CellsAt wr bl (ol + j * 5) r := fun i u hi => below_cell hB (hrc i u hi)
                have hsn := all_snoc (rightS d) l j hlt
                have hno := all_not (rightS d) l j hlt
                have hji : (j : Int) < l.length := by omega
                generalize l[j] = y at hr hsn hno
                have hrl := hr.length
                have HRL := Lib.hid hrl
                have HCR := Lib.hid hcr
                have HSN := Lib.hid hsn
                have HNO := Lib.hid hno
                have HCALL := Lib.hid (HIH.out (D + 1) y G r wr (by have := HD.out; omega) (by omega) (hr.below hB))
                clear hr hrc hcr hsn hno hrl hB hq hall
                go_wp2_with ((with_reducible show wpList _ _ _ (⟨some 69, _, _, _, _, _⟩ :: _) _ _); refine wpList_ldAgg rfl (.tmp 68) aggRef rfl rfl (cs := r) HRL.out HCR.out ?_)
                refine HCALL.out.mono ?_
                rintro e w4 ⟨rfl, hb4⟩
                have hz4 := hb4.size
                have HQ4 := Lib.hid (HQ.out.below hb4 hblk)
                have HB4 : Hid (Below w.heap.size w w4) := Lib.hid (HB.out.trans (hb4.mono (by omega)))
                clear hb4 HCALL HQ HB hl4
                obtain ⟨v, hv⟩ : ∃ v, v = rightS d y := ⟨_, rfl⟩
                rw [← hv] at HSN HNO ⊢
                clear hv
                cases v with
                | true =>
                  go_wp2_with fail
                  go_roundw
                  case rel => exact ⟨j + 1, by omega, by go_num, by rw [HSN.out, HALL.out]; rfl, HQ4.out, HB4.out⟩
                  case measure => simp [intOf]; omega
                | false =>
                  have HR := Lib.hid (HNO.out rfl)
                  go_wp2_with fail
                  go_ret
                  rw [HR.out]
                  exact ⟨rfl, HB4.out⟩
              · obtain rfl : j = l.length := by omega
                rw [List.take_length] at hall
                have HR := Lib.hid hall
                clear hall hq hB
                go_wp2_with fail
                go_ret
                rw [HR.out]
                exact ⟨rfl, HB.out⟩
          · obtain ⟨c0, b, rfl⟩ := List.exists_cons_of_ne_nil g_b
            have HR : Hid (rightS (d + 1) (.mk 2 t 0 (c0 :: b) l) = false) := Lib.hid (by rw [HRS.out]; simp)
            clear HRS g_b
            rw [HR.out]
            go_enter Try.func34, Try.ntmps34
            go_wp2_with fail
            all_goals
              go_ret
              exact ⟨rfl, (Below.refl _ _).alloc (Nat.le_refl _) _⟩
        · have g_n1 : ((n : Int) != 0) = true := nez_true g_n
          have HR : Hid (rightS (d + 1) (.mk 2 t n b l) = false) := Lib.hid (by rw [HRS.out]; simp [g_n])
          clear HRS g_n
          rw [HR.out]
          go_enter Try.func34, Try.ntmps34
          go_wp2_with fail
          all_goals
            go_ret
            exact ⟨rfl, (Below.refl _ _).alloc (Nat.le_refl _) _⟩
end Go.Proofs.Ytdmjliehobgknaa
