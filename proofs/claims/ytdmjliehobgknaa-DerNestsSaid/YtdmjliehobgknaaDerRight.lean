/- Contracts of package der: right, Right. -/
import Derived.Test.YtdmjliehobgknaaDerWhole
namespace Go.Proofs.Ytdmjliehobgknaa
set_option linter.unusedSimpArgs false
set_option linter.unusedVariables false
open Go.RowKit

/-- May a value be, in so many levels? -/
def rightS : Nat → Tv → Bool
  | 0, _ => false
  | d + 1, .mk k t n b l => decide (0 ≤ t) && decide (t ≤ 30) &&
      (if k = 0 then decide (b = []) && decide (l.length = 0) else if k = 1 then decide (n = 0) && decide (l.length = 0) else if k = 2 then l.all (rightS d) && decide (n = 0) && decide (b = []) else false)

theorem eqz_true {n : Nat} (h : n = 0) : ((n : Int) == 0) = true := by subst h; rfl
theorem eqz_false {n : Nat} (h : ¬ n = 0) : ((n : Int) == 0) = false := by simp; exact h

theorem all_snoc {α : Type} (p : α → Bool) (l : List α) (k : Nat) (h : k < l.length) : (l.take (k + 1)).all p = ((l.take k).all p && p l[k]) := by
  rw [List.take_succ_eq_append_getElem h, List.all_append]
  simp

theorem all_not {α : Type} (p : α → Bool) (l : List α) (k : Nat) (h : k < l.length) (hp : p l[k] = false) : l.all p = false := by
  rw [List.all_eq_false]
  exact ⟨l[k], List.getElem_mem h, by simp [hp]⟩

/-- What a bool's function gives that makes memory. -/
def BoolRes (w : World) (r : Bool) (e : Ending) (w' : World) : Prop := e = .returned (.bool r) ∧ Below w.heap.size w w'

set_option maxHeartbeats 4000000 in
set_option maxRecDepth 100000 in
theorem derRight_any : ∀ (d : Nat) (D : Int) (x : Tv) (F : Nat → Prop) (cs : List Value) (w : World), D = 9 - (d : Int) → d ≤ 8 → TvF w F x cs →
    Calls Try.prog 52 #[.agg cs.toArray, .int .i64 D] w (BoolRes w (rightS d x)) := by
  intro d
  induction d with
  | zero =>
    intro D x F cs w hD hd h
    obtain ⟨bv, lv, rows, rfl, hb, _, hl, _, hls⟩ := h.open_
    have hD' : (8 : Int) < D := by omega
    have HR : Hid (rightS 0 x = false) := Lib.hid rfl
    clear hD h
    generalize x.tag = t at *
    rcases (by omega : t < 0 ∨ 30 < t ∨ (0 ≤ t ∧ t ≤ 30)) with ht | ht | ⟨ht, ht2⟩
    all_goals
      go_enter Try.func52, Try.ntmps52
      go_wp2_with fail
      go_ret
      rw [HR.out]
      exact ⟨rfl, (Below.refl _ _).alloc (Nat.le_refl _) _⟩
  | succ d ih =>
    intro D x F cs w hD hd h
    obtain ⟨bv, lv, rows, rfl, hb, _, hl, _, hls⟩ := h.open_
    have hD' : ¬ (8 : Int) < D := by omega
    have hD0 : 0 ≤ D := by omega
    have HD := Lib.hid hD
    have HIH := Lib.hid ih
    obtain ⟨k, t, n, b, l⟩ := x
    simp only [Tv.kind, Tv.tag, Tv.n, Tv.b, Tv.l] at *
    obtain ⟨ab, cb, rfl, hcb, hmb⟩ := hb.form
    obtain ⟨al, cl, rfl, hcl, hml⟩ := hl.form
    unfold maxLen at hmb hml
    have hRS : rightS (d + 1) (.mk k t n b l) = (decide (0 ≤ t) && decide (t ≤ 30) &&
      (if k = 0 then decide (b = []) && decide (l.length = 0) else if k = 1 then decide (n = 0) && decide (l.length = 0) else if k = 2 then l.all (rightS d) && decide (n = 0) && decide (b = []) else false)) := rfl
    have HRS := Lib.hid hRS
    have HL := Lib.hid hl
    have HLS := Lib.hid hls
    clear hD ih h hb hl hls hRS
    rcases (by omega : t < 0 ∨ 30 < t ∨ (0 ≤ t ∧ t ≤ 30)) with ht | ht | ⟨ht, ht2⟩
    · have HR : Hid (rightS (d + 1) (.mk k t n b l) = false) := Lib.hid (by rw [HRS.out]; simp; omega)
      clear HRS
      go_enter Try.func52, Try.ntmps52
      go_wp2_with fail
      go_ret
      rw [HR.out]
      exact ⟨rfl, (Below.refl _ _).alloc (Nat.le_refl _) _⟩
    · have HR : Hid (rightS (d + 1) (.mk k t n b l) = false) := Lib.hid (by rw [HRS.out]; simp; omega)
      clear HRS
      go_enter Try.func52, Try.ntmps52
      go_wp2_with fail
      go_ret
      rw [HR.out]
      exact ⟨rfl, (Below.refl _ _).alloc (Nat.le_refl _) _⟩
    · by_cases hk0 : k = 0
      · subst hk0
        by_cases g1 : b.length = 0
        · have g1' : ((b.length : Int) == 0) = true := eqz_true g1
          by_cases g2 : l.length = 0
          · have g2' : ((l.length : Int) == 0) = true := eqz_true g2
            have HR : Hid (rightS (d + 1) (.mk 0 t n b l) = true) := Lib.hid (by rw [HRS.out]; simp [g1, g2, List.eq_nil_of_length_eq_zero, ht, ht2]; try exact List.eq_nil_of_length_eq_zero (by omega))
            clear g1 g2
            clear HRS
            go_enter Try.func52, Try.ntmps52
            go_wp2_with fail
            go_ret
            rw [HR.out]
            exact ⟨rfl, (Below.refl _ _).alloc (Nat.le_refl _) _⟩
          · have g2' : ((l.length : Int) == 0) = false := eqz_false g2
            have HR : Hid (rightS (d + 1) (.mk 0 t n b l) = false) := Lib.hid (by rw [HRS.out]; have : ¬ l = [] := fun e => g2 (by rw [e]; rfl); simp [g2, this])
            clear g1 g2
            clear HRS
            go_enter Try.func52, Try.ntmps52
            go_wp2_with fail
            go_ret
            rw [HR.out]
            exact ⟨rfl, (Below.refl _ _).alloc (Nat.le_refl _) _⟩
        · have g1' : ((b.length : Int) == 0) = false := eqz_false g1
          have HR : Hid (rightS (d + 1) (.mk 0 t n b l) = false) := Lib.hid (by rw [HRS.out]; have : ¬ b = [] := fun e => g1 (by rw [e]; rfl); simp [g1, this])
          clear g1
          clear HRS
          go_enter Try.func52, Try.ntmps52
          go_wp2_with fail
          go_ret
          rw [HR.out]
          exact ⟨rfl, (Below.refl _ _).alloc (Nat.le_refl _) _⟩
      · by_cases hk1 : k = 1
        · subst hk1
          by_cases g1 : n = 0
          · have g1' : ((n : Int) == 0) = true := eqz_true g1
            by_cases g2 : l.length = 0
            · have g2' : ((l.length : Int) == 0) = true := eqz_true g2
              have HR : Hid (rightS (d + 1) (.mk 1 t n b l) = true) := Lib.hid (by rw [HRS.out]; simp [g1, g2, List.eq_nil_of_length_eq_zero, ht, ht2]; try exact List.eq_nil_of_length_eq_zero (by omega))
              clear g1 g2
              clear HRS
              go_enter Try.func52, Try.ntmps52
              go_wp2_with fail
              go_ret
              rw [HR.out]
              exact ⟨rfl, (Below.refl _ _).alloc (Nat.le_refl _) _⟩
            · have g2' : ((l.length : Int) == 0) = false := eqz_false g2
              have HR : Hid (rightS (d + 1) (.mk 1 t n b l) = false) := Lib.hid (by rw [HRS.out]; have : ¬ l = [] := fun e => g2 (by rw [e]; rfl); simp [g2, this])
              clear g1 g2
              clear HRS
              go_enter Try.func52, Try.ntmps52
              go_wp2_with fail
              go_ret
              rw [HR.out]
              exact ⟨rfl, (Below.refl _ _).alloc (Nat.le_refl _) _⟩
          · have g1' : ((n : Int) == 0) = false := eqz_false g1
            have HR : Hid (rightS (d + 1) (.mk 1 t n b l) = false) := Lib.hid (by rw [HRS.out]; have : True := trivial; simp [g1, this])
            clear g1
            clear HRS
            go_enter Try.func52, Try.ntmps52
            go_wp2_with fail
            go_ret
            rw [HR.out]
            exact ⟨rfl, (Below.refl _ _).alloc (Nat.le_refl _) _⟩
        · have hk0' : (k == 0) = false := by simp [hk0]
          have hk1' : (k == 1) = false := by simp [hk1]
          by_cases hk2 : k = 2
          · subst hk2
            have hRS := HRS.out
            rw [if_neg (by decide), if_neg (by decide), if_pos rfl] at hRS
            have HRS := Lib.hid hRS
            have HBB : Hid (Below w.heap.size w (w.alloc (.cells #[.int .i64 2, .int .i64 t, .int .u64 n, .slice ab b.length cb, .slice al l.length cl] 47))) := Lib.hid ((Below.refl _ _).alloc (Nat.le_refl _) _)
            clear hk0 hk1 hk0' hk1' hRS
            go_enter Try.func52, Try.ntmps52
            go_wp2_with fail
            have hq0 : Blk (w.alloc (.cells #[.int .i64 2, .int .i64 t, .int .u64 n, .slice ab b.length cb, .slice al l.length cl] 47)) w.heap.size [.int .i64 2, .int .i64 t, .int .u64 n, .slice ab b.length cb, .slice al l.length cl] 47 := Blk.new w _ _
            have HQ0 := Lib.hid hq0
            clear hq0
            go_loopw [49] (fun i wr => ∃ k : Nat, k ≤ l.length ∧ i = .int .i64 k ∧ (l.take k).all (rightS d) = true ∧ Blk wr w.heap.size [.int .i64 2, .int .i64 t, .int .u64 n, .slice ab b.length cb, .slice al l.length cl] 47 ∧ Below w.heap.size w wr) (fun i _ => l.length - (intOf i).toNat)
            case atStart => exact ⟨0, Nat.zero_le _, rfl, rfl, HQ0.out, HBB.out⟩
            case round =>
              obtain ⟨j, hj, rfl, hall, hq, hB⟩ := hrel
              have HB := Lib.hid hB
              have HQ := Lib.hid hq
              have HALL := Lib.hid hall
              have hzr := hB.size
              by_cases hlt : j < l.length
              · obtain ⟨bl, ol, rfl, _⟩ := HL.out.addr (by rw [HL.out.1]; omega)
                obtain ⟨r, hr, hrc⟩ := HLS.out.cells HL.out j hlt
                have hcr : CellsAt wr bl (ol + j * 5) r := fun i u hi => below_cell hB (hrc i u hi)
                have hsn := all_snoc (rightS d) l j hlt
                have hno := all_not (rightS d) l j hlt
                have hji : (j : Int) < l.length := by omega
                generalize l[j] = y at hr hsn hno
                have hrl := hr.length
                have HR1 := Lib.hid hr.one
                have HRL := Lib.hid hrl
                have HCR := Lib.hid hcr
                have HRT := Lib.hid (hr.below hB)
                have HSN := Lib.hid hsn
                have HNO := Lib.hid hno
                have HN := Lib.hid (Blk.new wr zs5 47)
                clear hr hrc hcr hsn hno hrl hB hq hall
                go_wp2_with (first | ((with_reducible show wpList _ _ _ (⟨some 52, _, _, _, _, _⟩ :: _) _ _); refine wpList_ldAgg rfl (.tmp 51) aggDer rfl rfl (cs := r) HRL.out HCR.out ?_) | ((with_reducible show wpList _ _ _ (⟨none, .store _ (.tmp 6) (.tmp 52), _, _, _, _⟩ :: _) _ _); refine wpList_stAgg rfl (.tmp 6) (.tmp 52) aggDer rfl rfl (vs := r) rfl HRL.out HN.out (Nat.le_refl _) HR1.out ?_))
                intro w3 h3 k3
                have h3' : Blk w3 wr.heap.size r 47 := by
                  rw [List.drop_of_length_le (by decide), List.append_nil] at h3
                  exact h3
                have hz3 := k3.size
                simp at hz3
                have hb3 : Below wr.heap.size wr w3 := ((Below.refl _ _).alloc (Nat.le_refl _) _).trans (k3.below (by omega))
                have H3 := Lib.hid h3'
                have hblk : w.heap.size < wr.heap.size := HQ.out.lt
                have HQ3 := Lib.hid (HQ.out.below hb3 hblk)
                have HB3 : Hid (Below w.heap.size w w3) := Lib.hid (HB.out.trans (hb3.mono hzr))
                have HCALL := Lib.hid (HIH.out (D + 1) y F r w3 (by have := HD.out; omega) (by omega) (HRT.out.below hb3))
                clear h3 h3' k3 hb3 HN HRT HCR
                go_wp2_with ((with_reducible show wpList _ _ _ (⟨some 53, _, _, _, _, _⟩ :: _) _ _); refine wpList_ldAgg rfl (.tmp 6) aggDer rfl rfl (cs := r) HRL.out H3.out.cellsAll ?_)
                refine HCALL.out.mono ?_
                rintro e w4 ⟨rfl, hb4⟩
                have hz4 := hb4.size
                have HQ4 := Lib.hid (HQ3.out.below hb4 (by omega))
                have HB4 : Hid (Below w.heap.size w w4) := Lib.hid (HB3.out.trans (hb4.mono (by omega)))
                clear hb4 HCALL HQ3 HB3 H3
                obtain ⟨v, hv⟩ : ∃ v, v = rightS d y := ⟨_, rfl⟩
                rw [← hv] at HSN HNO ⊢
                clear hv
                cases v with
                | true =>
                  go_wp2_with fail
                  go_roundw
                  case rel => exact ⟨j + 1, by omega, by go_num, by rw [HSN.out, HALL.out]; rfl, HQ4.out, HB4.out⟩
                  case measure => simp [intOf]; omega
                | false =>
                  have HR : Hid (rightS (d + 1) (.mk 2 t n b l) = false) := Lib.hid (by rw [HRS.out, HNO.out rfl]; simp)
                  go_wp2_with fail
                  go_ret
                  rw [HR.out]
                  exact ⟨rfl, HB4.out⟩
              · obtain rfl : j = l.length := by omega
                rw [List.take_length] at hall
                have hn0 : wr.cell? ⟨w.heap.size, 2, none⟩ = some (.int .u64 n) := by rw [hq.cell]; rfl
                have hb0 : wr.cell? ⟨w.heap.size, 3, none⟩ = some (.slice ab b.length cb) := by rw [hq.cell]; rfl
                by_cases g1 : n = 0
                · have g1' : ((n : Int) == 0) = true := eqz_true g1
                  by_cases g2 : b.length = 0
                  · have g2' : ((b.length : Int) == 0) = true := eqz_true g2
                    have HR : Hid (rightS (d + 1) (.mk 2 t n b l) = true) := Lib.hid (by rw [HRS.out, hall]; simp [g1, ht, ht2]; exact List.eq_nil_of_length_eq_zero g2)
                    clear g1 g2 hall hq HQ0 HQ hB
                    go_wp2_with fail
                    go_ret
                    rw [HR.out]
                    exact ⟨rfl, HB.out⟩
                  · have g2' : ((b.length : Int) == 0) = false := eqz_false g2
                    have HR : Hid (rightS (d + 1) (.mk 2 t n b l) = false) := Lib.hid (by rw [HRS.out]; have : ¬ b = [] := fun e => g2 (by rw [e]; rfl); simp [this])
                    clear g1 g2 hall hq HQ0 HQ hB
                    go_wp2_with fail
                    go_ret
                    rw [HR.out]
                    exact ⟨rfl, HB.out⟩
                · have g1' : ((n : Int) == 0) = false := eqz_false g1
                  have HR : Hid (rightS (d + 1) (.mk 2 t n b l) = false) := Lib.hid (by rw [HRS.out]; simp [g1])
                  clear g1 hall hq HQ0 HQ hB
                  go_wp2_with fail
                  go_ret
                  rw [HR.out]
                  exact ⟨rfl, HB.out⟩
          · have hk2' : (k == 2) = false := by simp [hk2]
            have HR : Hid (rightS (d + 1) (.mk k t n b l) = false) := Lib.hid (by rw [HRS.out]; simp [hk0, hk1, hk2])
            clear hk0 hk1 hk2
            clear HRS
            go_enter Try.func52, Try.ntmps52
            go_wp2_with fail
            go_ret
            rw [HR.out]
            exact ⟨rfl, (Below.refl _ _).alloc (Nat.le_refl _) _⟩

set_option maxRecDepth 100000 in
theorem derRightIt_any (x : Tv) (F : Nat → Prop) (cs : List Value) (w : World) (h : TvF w F x cs) : Calls Try.prog 33 #[.agg cs.toArray] w (BoolRes w (rightS 8 x)) := by
  have hl := h.length
  have HL := Lib.hid hl
  have HC := Lib.hid (derRight_any 8 1 x F cs (w.alloc (.cells cs.toArray 47)) (by decide) (Nat.le_refl _) (h.below ((Below.refl _ _).alloc (Nat.le_refl _) _)))
  have HN := Lib.hid (Blk.new w cs 47)
  clear h hl
  go_enter Try.func33, Try.ntmps33
  go_wp2_with ((with_reducible show wpList _ _ _ (⟨some 3, _, _, _, _, _⟩ :: _) _ _); refine wpList_ldAgg rfl (.tmp 1) aggDer rfl rfl (cs := cs) HL.out HN.out.cellsAll ?_)
  refine HC.out.mono ?_
  rintro e w1 ⟨rfl, hb1⟩
  have HB : Hid (Below w.heap.size w w1) := Lib.hid (((Below.refl _ _).alloc (Nat.le_refl _) _).trans (hb1.mono (by simp)))
  clear hb1
  go_wp2_with fail
  go_ret
  exact ⟨rfl, HB.out⟩
end Go.Proofs.Ytdmjliehobgknaa
