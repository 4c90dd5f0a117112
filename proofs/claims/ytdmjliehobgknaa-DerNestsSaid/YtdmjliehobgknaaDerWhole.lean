/- Contracts: der.Read, and the document's Whole. (Printed by wip/tools/genwhole.py.) -/
import Derived.Test.YtdmjliehobgknaaRefRead
namespace Go.Proofs.Ytdmjliehobgknaa
set_option linter.unusedSimpArgs false
set_option linter.unusedVariables false
open Go.RowKit

/-- A value's cells, the error's number. -/
def WhRes (w : World) (r : Tv × Int) (e : Ending) (w' : World) : Prop :=
  ∃ cs : List Value, e = .returned (.tuple #[.agg cs.toArray, .int .i64 r.2]) ∧ TvF w' (fun x => w.heap.size ≤ x ∧ x < w'.heap.size) r.1 cs ∧ Below w.heap.size w w'

set_option maxHeartbeats 4000000 in
set_option maxRecDepth 100000 in
theorem derWhole_any (v : Value) (b : List UInt8) (w : World) (h : Bs w v b) : Calls Try.prog 35 #[v] w (WhRes w (wholeS b)) := by
  obtain ⟨a, cap, rfl, hcap, hcm⟩ := h.form
  unfold maxLen at hcm
  have HZ := Lib.hid der_zero
  have HN := Lib.hid (Blk.new w zs5 47)
  by_cases hl : 4096 < b.length
  · have HR : Hid (wholeS b = (.zero, 20)) := Lib.hid (by unfold wholeS; rw [if_pos hl])
    have hl' : (4096 : Int) < b.length := by omega
    clear hl h
    go_enter Try.func35, Try.ntmps35
    go_wp2_with (first | ((with_reducible show wpList _ _ _ (⟨some 10, _, _, _, _, _⟩ :: _) _ _); refine wpList_bld rfl rfl HZ.out ?_) | ((with_reducible show wpList _ _ _ (⟨none, .store _ (.tmp 2) (.tmp 10), _, _, _, _⟩ :: _) _ _); refine wpList_stAgg rfl (.tmp 2) (.tmp 10) aggDer rfl rfl (vs := zs5) rfl rfl HN.out (Nat.le_refl _) zs5_one ?_))
    intro w2 h2 k2
    have h2' : Blk w2 w.heap.size zs5 47 := by simpa [zs5] using h2
    have H2 := Lib.hid h2'
    have HB2 : Hid (Below w.heap.size w w2) := Lib.hid (((Below.refl _ _).alloc (Nat.le_refl _) _).trans (k2.below (by omega)))
    clear h2 h2' k2
    go_wp2_with fail
    rw [HR.out]
    exact bodyPost_ret (results_agg_tmp rfl aggDer rfl (cs := zs5) rfl H2.out.cellsAll) rfl ⟨zs5, rfl, TvF.zero _ _, HB2.out⟩
  · have hl' : ¬ (4096 : Int) < b.length := by omega
    obtain ⟨x, n, e, hrd⟩ : ∃ x n e, readS 8 b = (x, n, e) := ⟨_, _, _, rfl⟩
    have hW : wholeS b = if e ≠ 0 then (.zero, e) else if n < b.length then (.zero, 5) else (x, 0) := by unfold wholeS; rw [if_neg hl, hrd]
    have HW := Lib.hid hW
    have HCALL := Lib.hid (derRead_any 8 1 _ b (w.alloc (.cells zs5.toArray 47)) (by decide) (Nat.le_refl _) (h.alloc _) (by omega))
    rw [hrd] at HCALL
    clear hl h hW hrd
    go_enter Try.func35, Try.ntmps35
    go_wp2_with fail
    refine HCALL.out.mono ?_
    rintro er w1 ⟨cs, rfl, htv, hb1⟩
    have hz1 := hb1.size
    simp at hz1
    have hcl : cs.length = 5 := htv.length
    have HCL := Lib.hid hcl
    have HC1 := Lib.hid htv.one
    have hr1 : Blk w1 w.heap.size zs5 47 := HN.out.below hb1 (by simp)
    have HR1 := Lib.hid hr1
    have HB1 : Hid (Below w.heap.size w w1) := Lib.hid (((Below.refl _ _).alloc (Nat.le_refl _) _).trans (hb1.mono (by simp)))
    have HTV : Hid (TvF w1 (fun y => w.heap.size + 1 ≤ y ∧ y < w1.heap.size) x cs) := Lib.hid (htv.mono (fun y hy => by simp at hy; omega))
    have HN1 := Lib.hid (Blk.new w1 zs5 47)
    clear hcl htv hb1 hr1 HCALL
    go_wp2_with ((with_reducible show wpList _ _ _ (⟨none, .store _ (.tmp 4) (.tmp 14), _, _, _, _⟩ :: _) _ _); refine wpList_stAgg rfl (.tmp 4) (.tmp 14) aggDer rfl rfl (vs := cs) rfl HCL.out HN1.out (Nat.le_refl _) HC1.out ?_)
    intro w3 h3 k3
    have h3' : Blk w3 w1.heap.size cs 47 := by
      rw [List.drop_of_length_le (by decide), List.append_nil] at h3
      exact h3
    have hz3 := k3.size
    simp at hz3
    have hb3 : Below w1.heap.size w1 w3 := ((Below.refl _ _).alloc (Nat.le_refl _) _).trans (k3.below (by omega))
    have H3 := Lib.hid h3'
    have HR3 := Lib.hid (HR1.out.below hb3 (by omega))
    have HB3 : Hid (Below w.heap.size w w3) := Lib.hid (HB1.out.trans (hb3.mono (by omega)))
    have HTV3 := Lib.hid (HTV.out.below hb3)
    obtain ⟨q, hq⟩ : ∃ q, q = w1.heap.size := ⟨_, rfl⟩
    rw [← hq] at H3 hz3 HTV3 ⊢
    have hqw : w.heap.size + 1 ≤ q := by omega
    clear h3 h3' k3 hb3 HN1 HTV HB1 hq
    by_cases he : e = 0
    · subst he
      by_cases hn : n < b.length
      · have HR : Hid (wholeS b = (.zero, 5)) := Lib.hid (by rw [HW.out, if_neg (by decide), if_pos hn])
        have hn' : (n : Int) < b.length := by omega
        clear hn
        go_wp2_with (first | ((with_reducible show wpList _ _ _ (⟨some 27, _, _, _, _, _⟩ :: _) _ _); refine wpList_bld rfl rfl HZ.out ?_) | ((with_reducible show wpList _ _ _ (⟨none, .store _ (.tmp 2) (.tmp 27), _, _, _, _⟩ :: _) _ _); refine wpList_stAgg rfl (.tmp 2) (.tmp 27) aggDer rfl rfl (vs := zs5) rfl rfl HR3.out (Nat.le_refl _) zs5_one ?_))
        intro w2 h2 k2
        have h2' : Blk w2 w.heap.size zs5 47 := by simpa [zs5] using h2
        have H2 := Lib.hid h2'
        have HB2 : Hid (Below w.heap.size w w2) := Lib.hid (HB3.out.trans (k2.below (by omega)))
        clear h2 h2' k2
        go_wp2_with fail
        rw [HR.out]
        exact bodyPost_ret (results_agg_tmp rfl aggDer rfl (cs := zs5) rfl H2.out.cellsAll) rfl ⟨zs5, rfl, TvF.zero _ _, HB2.out⟩
      · have HR : Hid (wholeS b = (x, 0)) := Lib.hid (by rw [HW.out, if_neg (by decide), if_neg hn])
        have hn' : ¬ (n : Int) < b.length := by omega
        clear hn
        go_wp2_with (first | ((with_reducible show wpList _ _ _ (⟨some 28, _, _, _, _, _⟩ :: _) _ _); refine wpList_ldAgg rfl (.tmp 4) aggDer rfl rfl (cs := cs) HCL.out H3.out.cellsAll ?_) | ((with_reducible show wpList _ _ _ (⟨none, .store _ (.tmp 2) (.tmp 28), _, _, _, _⟩ :: _) _ _); refine wpList_stAgg rfl (.tmp 2) (.tmp 28) aggDer rfl rfl (vs := cs) rfl HCL.out HR3.out (Nat.le_refl _) HC1.out ?_))
        intro w2 h2 k2
        have h2' : Blk w2 w.heap.size cs 47 := by
          rw [List.drop_of_length_le (by decide), List.append_nil] at h2
          exact h2
        have H2 := Lib.hid h2'
        have hz2 := k2.size
        have HB2 : Hid (Below w.heap.size w w2) := Lib.hid (HB3.out.trans (k2.below (by omega)))
        have HT2 : Hid (TvF w2 (fun y => w.heap.size ≤ y ∧ y < w2.heap.size) x cs) := Lib.hid ((HTV3.out.keep k2 (fun y hy _ e => by have := hy.1; omega)).mono (fun y hy => (⟨by omega, by omega⟩ : w.heap.size ≤ y ∧ y < w2.heap.size)))
        clear h2 h2' k2
        go_wp2_with fail
        rw [HR.out]
        exact bodyPost_ret (results_agg_tmp rfl aggDer rfl (cs := cs) HCL.out H2.out.cellsAll) rfl ⟨cs, rfl, HT2.out, HB2.out⟩
    · have HR : Hid (wholeS b = (.zero, e)) := Lib.hid (by rw [HW.out, if_pos he])
      have he' : (e != 0) = true := by simp [he]
      clear he
      go_wp2_with (first | ((with_reducible show wpList _ _ _ (⟨some 20, _, _, _, _, _⟩ :: _) _ _); refine wpList_bld rfl rfl HZ.out ?_) | ((with_reducible show wpList _ _ _ (⟨none, .store _ (.tmp 2) (.tmp 20), _, _, _, _⟩ :: _) _ _); refine wpList_stAgg rfl (.tmp 2) (.tmp 20) aggDer rfl rfl (vs := zs5) rfl rfl HR3.out (Nat.le_refl _) zs5_one ?_))
      intro w2 h2 k2
      have h2' : Blk w2 w.heap.size zs5 47 := by simpa [zs5] using h2
      have H2 := Lib.hid h2'
      have HB2 : Hid (Below w.heap.size w w2) := Lib.hid (HB3.out.trans (k2.below (by omega)))
      clear h2 h2' k2
      go_wp2_with fail
      rw [HR.out]
      exact bodyPost_ret (results_agg_tmp rfl aggDer rfl (cs := zs5) rfl H2.out.cellsAll) rfl ⟨zs5, rfl, TvF.zero _ _, HB2.out⟩

set_option maxHeartbeats 4000000 in
set_option maxRecDepth 100000 in
theorem refWhole_any (v : Value) (b : List UInt8) (w : World) (h : Bs w v b) : Calls Try.prog 38 #[v] w (WhRes w (wholeS b)) := by
  obtain ⟨a, cap, rfl, hcap, hcm⟩ := h.form
  unfold maxLen at hcm
  have HZ := Lib.hid ref_zero
  have HN := Lib.hid (Blk.new w zs5 50)
  by_cases hl : 4096 < b.length
  · have HR : Hid (wholeS b = (.zero, 20)) := Lib.hid (by unfold wholeS; rw [if_pos hl])
    have hl' : (4096 : Int) < b.length := by omega
    clear hl h
    go_enter Try.func38, Try.ntmps38
    go_wp2_with (first | ((with_reducible show wpList _ _ _ (⟨some 10, _, _, _, _, _⟩ :: _) _ _); refine wpList_bld rfl rfl HZ.out ?_) | ((with_reducible show wpList _ _ _ (⟨none, .store _ (.tmp 2) (.tmp 10), _, _, _, _⟩ :: _) _ _); refine wpList_stAgg rfl (.tmp 2) (.tmp 10) aggRef rfl rfl (vs := zs5) rfl rfl HN.out (Nat.le_refl _) zs5_one ?_))
    intro w2 h2 k2
    have h2' : Blk w2 w.heap.size zs5 50 := by simpa [zs5] using h2
    have H2 := Lib.hid h2'
    have HB2 : Hid (Below w.heap.size w w2) := Lib.hid (((Below.refl _ _).alloc (Nat.le_refl _) _).trans (k2.below (by omega)))
    clear h2 h2' k2
    go_wp2_with fail
    rw [HR.out]
    exact bodyPost_ret (results_agg_tmp rfl aggRef rfl (cs := zs5) rfl H2.out.cellsAll) rfl ⟨zs5, rfl, TvF.zero _ _, HB2.out⟩
  · have hl' : ¬ (4096 : Int) < b.length := by omega
    obtain ⟨x, n, e, hrd⟩ : ∃ x n e, readS 8 b = (x, n, e) := ⟨_, _, _, rfl⟩
    have hW : wholeS b = if e ≠ 0 then (.zero, e) else if n < b.length then (.zero, 5) else (x, 0) := by unfold wholeS; rw [if_neg hl, hrd]
    have HW := Lib.hid hW
    have HCALL := Lib.hid (refRead_any 8 1 _ b (w.alloc (.cells zs5.toArray 50)) (by decide) (Nat.le_refl _) (h.alloc _) (by omega))
    rw [hrd] at HCALL
    clear hl h hW hrd
    go_enter Try.func38, Try.ntmps38
    go_wp2_with fail
    refine HCALL.out.mono ?_
    rintro er w1 ⟨cs, rfl, htv, hb1⟩
    have hz1 := hb1.size
    simp at hz1
    have hcl : cs.length = 5 := htv.length
    have HCL := Lib.hid hcl
    have HC1 := Lib.hid htv.one
    have hr1 : Blk w1 w.heap.size zs5 50 := HN.out.below hb1 (by simp)
    have HR1 := Lib.hid hr1
    have HB1 : Hid (Below w.heap.size w w1) := Lib.hid (((Below.refl _ _).alloc (Nat.le_refl _) _).trans (hb1.mono (by simp)))
    have HTV : Hid (TvF w1 (fun y => w.heap.size + 1 ≤ y ∧ y < w1.heap.size) x cs) := Lib.hid (htv.mono (fun y hy => by simp at hy; omega))
    have HN1 := Lib.hid (Blk.new w1 zs5 50)
    clear hcl htv hb1 hr1 HCALL
    go_wp2_with ((with_reducible show wpList _ _ _ (⟨none, .store _ (.tmp 4) (.tmp 14), _, _, _, _⟩ :: _) _ _); refine wpList_stAgg rfl (.tmp 4) (.tmp 14) aggRef rfl rfl (vs := cs) rfl HCL.out HN1.out (Nat.le_refl _) HC1.out ?_)
    intro w3 h3 k3
    have h3' : Blk w3 w1.heap.size cs 50 := by
      rw [List.drop_of_length_le (by decide), List.append_nil] at h3
      exact h3
    have hz3 := k3.size
    simp at hz3
    have hb3 : Below w1.heap.size w1 w3 := ((Below.refl _ _).alloc (Nat.le_refl _) _).trans (k3.below (by omega))
    have H3 := Lib.hid h3'
    have HR3 := Lib.hid (HR1.out.below hb3 (by omega))
    have HB3 : Hid (Below w.heap.size w w3) := Lib.hid (HB1.out.trans (hb3.mono (by omega)))
    have HTV3 := Lib.hid (HTV.out.below hb3)
    obtain ⟨q, hq⟩ : ∃ q, q = w1.heap.size := ⟨_, rfl⟩
    rw [← hq] at H3 hz3 HTV3 ⊢
    have hqw : w.heap.size + 1 ≤ q := by omega
    clear h3 h3' k3 hb3 HN1 HTV HB1 hq
    by_cases he : e = 0
    · subst he
      by_cases hn : n < b.length
      · have HR : Hid (wholeS b = (.zero, 5)) := Lib.hid (by rw [HW.out, if_neg (by decide), if_pos hn])
        have hn' : (n : Int) < b.length := by omega
        clear hn
        go_wp2_with (first | ((with_reducible show wpList _ _ _ (⟨some 25, _, _, _, _, _⟩ :: _) _ _); refine wpList_bld rfl rfl HZ.out ?_) | ((with_reducible show wpList _ _ _ (⟨none, .store _ (.tmp 2) (.tmp 25), _, _, _, _⟩ :: _) _ _); refine wpList_stAgg rfl (.tmp 2) (.tmp 25) aggRef rfl rfl (vs := zs5) rfl rfl HR3.out (Nat.le_refl _) zs5_one ?_))
        intro w2 h2 k2
        have h2' : Blk w2 w.heap.size zs5 50 := by simpa [zs5] using h2
        have H2 := Lib.hid h2'
        have HB2 : Hid (Below w.heap.size w w2) := Lib.hid (HB3.out.trans (k2.below (by omega)))
        clear h2 h2' k2
        go_wp2_with fail
        rw [HR.out]
        exact bodyPost_ret (results_agg_tmp rfl aggRef rfl (cs := zs5) rfl H2.out.cellsAll) rfl ⟨zs5, rfl, TvF.zero _ _, HB2.out⟩
      · have HR : Hid (wholeS b = (x, 0)) := Lib.hid (by rw [HW.out, if_neg (by decide), if_neg hn])
        have hn' : ¬ (n : Int) < b.length := by omega
        clear hn
        go_wp2_with (first | ((with_reducible show wpList _ _ _ (⟨some 26, _, _, _, _, _⟩ :: _) _ _); refine wpList_ldAgg rfl (.tmp 4) aggRef rfl rfl (cs := cs) HCL.out H3.out.cellsAll ?_) | ((with_reducible show wpList _ _ _ (⟨none, .store _ (.tmp 2) (.tmp 26), _, _, _, _⟩ :: _) _ _); refine wpList_stAgg rfl (.tmp 2) (.tmp 26) aggRef rfl rfl (vs := cs) rfl HCL.out HR3.out (Nat.le_refl _) HC1.out ?_))
        intro w2 h2 k2
        have h2' : Blk w2 w.heap.size cs 50 := by
          rw [List.drop_of_length_le (by decide), List.append_nil] at h2
          exact h2
        have H2 := Lib.hid h2'
        have hz2 := k2.size
        have HB2 : Hid (Below w.heap.size w w2) := Lib.hid (HB3.out.trans (k2.below (by omega)))
        have HT2 : Hid (TvF w2 (fun y => w.heap.size ≤ y ∧ y < w2.heap.size) x cs) := Lib.hid ((HTV3.out.keep k2 (fun y hy _ e => by have := hy.1; omega)).mono (fun y hy => (⟨by omega, by omega⟩ : w.heap.size ≤ y ∧ y < w2.heap.size)))
        clear h2 h2' k2
        go_wp2_with fail
        rw [HR.out]
        exact bodyPost_ret (results_agg_tmp rfl aggRef rfl (cs := cs) HCL.out H2.out.cellsAll) rfl ⟨cs, rfl, HT2.out, HB2.out⟩
    · have HR : Hid (wholeS b = (.zero, e)) := Lib.hid (by rw [HW.out, if_pos he])
      have he' : (e != 0) = true := by simp [he]
      clear he
      go_wp2_with (first | ((with_reducible show wpList _ _ _ (⟨some 19, _, _, _, _, _⟩ :: _) _ _); refine wpList_bld rfl rfl HZ.out ?_) | ((with_reducible show wpList _ _ _ (⟨none, .store _ (.tmp 2) (.tmp 19), _, _, _, _⟩ :: _) _ _); refine wpList_stAgg rfl (.tmp 2) (.tmp 19) aggRef rfl rfl (vs := zs5) rfl rfl HR3.out (Nat.le_refl _) zs5_one ?_))
      intro w2 h2 k2
      have h2' : Blk w2 w.heap.size zs5 50 := by simpa [zs5] using h2
      have H2 := Lib.hid h2'
      have HB2 : Hid (Below w.heap.size w w2) := Lib.hid (HB3.out.trans (k2.below (by omega)))
      clear h2 h2' k2
      go_wp2_with fail
      rw [HR.out]
      exact bodyPost_ret (results_agg_tmp rfl aggRef rfl (cs := zs5) rfl H2.out.cellsAll) rfl ⟨zs5, rfl, TvF.zero _ _, HB2.out⟩
end Go.Proofs.Ytdmjliehobgknaa
