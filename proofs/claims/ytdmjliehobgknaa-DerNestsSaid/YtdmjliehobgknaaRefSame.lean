/- Contracts: the document's Same. (Printed by wip/tools/gensame.py.) -/
import Derived.Test.YtdmjliehobgknaaDerSame
namespace Go.Proofs.Ytdmjliehobgknaa
set_option linter.unusedSimpArgs false
set_option linter.unusedVariables false
open Go.RowKit


set_option maxHeartbeats 8000000 in
set_option maxRecDepth 100000 in
theorem refSameT_any : ∀ (x y : Tv) (F G : Nat → Prop) (cs ds : List Value) (w : World), TvF w F x cs → TvF w G y ds →
    Calls Try.prog 37 #[.agg cs.toArray, .agg ds.toArray] w (BoolRes w (tvEq x y)) := by
  refine tv_ind (fun k t n b l ih => ?_)
  intro y F G cs ds w h h'
  obtain ⟨k', t', n', b', l'⟩ := y
  obtain ⟨bv, lv, rows, rfl, hb, _, hl, _, hls⟩ := h.open_
  obtain ⟨bv', lv', rows', rfl, hb', _, hl', _, hls'⟩ := h'.open_
  simp only [Tv.kind, Tv.tag, Tv.n, Tv.b, Tv.l] at *
  obtain ⟨ab, cb, rfl, hcb, hmb⟩ := hb.form
  obtain ⟨al, cl, rfl, hcl, hml⟩ := hl.form
  obtain ⟨ab', cb', rfl, hcb', hmb'⟩ := hb'.form
  obtain ⟨al', cl', rfl, hcl', hml'⟩ := hl'.form
  unfold maxLen at hmb hml hmb' hml'
  have heq : tvEq (.mk k t n b l) (.mk k' t' n' b' l') = (decide (k = k') && decide (t = t') && decide (n = n') && decide (b = b') && decide (l.length = l'.length) && tvsEq l l') := rfl
  have HEQ := Lib.hid heq
  have HIH := Lib.hid ih
  have HL := Lib.hid hl
  have HL' := Lib.hid hl'
  have HLS := Lib.hid hls
  have HLS' := Lib.hid hls'
  have HB0 : Hid (Below w.heap.size w ((w.alloc (.cells #[.int .i64 k, .int .i64 t, .int .u64 n, .slice ab b.length cb, .slice al l.length cl] 50)).alloc (.cells #[.int .i64 k', .int .i64 t', .int .u64 n', .slice ab' b'.length cb', .slice al' l'.length cl'] 50))) := Lib.hid (((Below.refl _ _).alloc (Nat.le_refl _) _).alloc (by simp) _)
  have HX0 : Hid (Blk ((w.alloc (.cells #[.int .i64 k, .int .i64 t, .int .u64 n, .slice ab b.length cb, .slice al l.length cl] 50)).alloc (.cells #[.int .i64 k', .int .i64 t', .int .u64 n', .slice ab' b'.length cb', .slice al' l'.length cl'] 50)) w.heap.size [.int .i64 k, .int .i64 t, .int .u64 n, .slice ab b.length cb, .slice al l.length cl] 50) := Lib.hid ((Blk.new w _ _).alloc _)
  have HY0 : Hid (Blk ((w.alloc (.cells #[.int .i64 k, .int .i64 t, .int .u64 n, .slice ab b.length cb, .slice al l.length cl] 50)).alloc (.cells #[.int .i64 k', .int .i64 t', .int .u64 n', .slice ab' b'.length cb', .slice al' l'.length cl'] 50)) (w.heap.size + 1) [.int .i64 k', .int .i64 t', .int .u64 n', .slice ab' b'.length cb', .slice al' l'.length cl'] 50) := Lib.hid (Blk.at_ (by simp))
  have HCE := Lib.hid (same_b _ _ b b' ((w.alloc (.cells #[.int .i64 k, .int .i64 t, .int .u64 n, .slice ab b.length cb, .slice al l.length cl] 50)).alloc (.cells #[.int .i64 k', .int .i64 t', .int .u64 n', .slice ab' b'.length cb', .slice al' l'.length cl'] 50)) (hb.below HB0.out) (hb'.below HB0.out))
  clear h h' hb hb' hl hl' hls hls' ih heq
  by_cases hk : k = k'
  · subst hk
    by_cases ht : t = t'
    · subst ht
      by_cases hn : n = n'
      · subst hn
        obtain ⟨v, hv⟩ : ∃ v, v = decide (b = b') := ⟨_, rfl⟩
        rw [← hv] at HCE HEQ
        cases v with
        | false =>
          have HR : Hid (tvEq (.mk k t n b l) (.mk k t n b' l') = false) := Lib.hid (by rw [HEQ.out]; simp)
          clear HEQ hv
          go_enter Try.func37, Try.ntmps37
          go_wp2_with fail
          refine HCE.out.mono ?_
          rintro e w1 ⟨rfl, hb1⟩
          have HX := Lib.hid (HX0.out.below hb1 (by simp; omega))
          have HY := Lib.hid (HY0.out.below hb1 (by simp))
          have HB1 : Hid (Below w.heap.size w w1) := Lib.hid (HB0.out.trans (hb1.mono (by simp; omega)))
          have x4 : w1.cell? ⟨w.heap.size, 4, none⟩ = some (.slice al l.length cl) := by rw [HX.out.cell]; rfl
          have y4 : w1.cell? ⟨w.heap.size + 1, 4, none⟩ = some (.slice al' l'.length cl') := by rw [HY.out.cell]; rfl
          clear hb1
          go_wp2_with fail
          go_ret
          rw [HR.out]
          exact ⟨rfl, HB1.out⟩
        | true =>
          clear hv
          by_cases hll : l.length = l'.length
          · have hll' : ((l.length : Int) != l'.length) = false := by simp [hll]
            have HLL := Lib.hid hll
            have hEQ := HEQ.out
            rw [hll] at hEQ
            simp only [decide_true, Bool.true_and] at hEQ
            have HEQ9 := Lib.hid hEQ
            clear hll hEQ
            go_enter Try.func37, Try.ntmps37
            go_wp2_with fail
            refine HCE.out.mono ?_
            rintro e w1 ⟨rfl, hb1⟩
            have HX := Lib.hid (HX0.out.below hb1 (by simp; omega))
            have HY := Lib.hid (HY0.out.below hb1 (by simp))
            have HB1 : Hid (Below w.heap.size w w1) := Lib.hid (HB0.out.trans (hb1.mono (by simp; omega)))
            have x4 : w1.cell? ⟨w.heap.size, 4, none⟩ = some (.slice al l.length cl) := by rw [HX.out.cell]; rfl
            have y4 : w1.cell? ⟨w.heap.size + 1, 4, none⟩ = some (.slice al' l'.length cl') := by rw [HY.out.cell]; rfl
            clear hb1
            go_wp2_with fail
            go_loopw [5] (fun i wr => ∃ j : Nat, j ≤ l.length ∧ i = .int .i64 j ∧ tvsEq (l.take j) (l'.take j) = true ∧ Blk wr w.heap.size [.int .i64 k, .int .i64 t, .int .u64 n, .slice ab b.length cb, .slice al l.length cl] 50 ∧
              Blk wr (w.heap.size + 1) [.int .i64 k, .int .i64 t, .int .u64 n, .slice ab' b'.length cb', .slice al' l'.length cl'] 50 ∧ Below w.heap.size w wr) (fun i _ => l.length - (intOf i).toNat)
            case atStart => exact ⟨0, Nat.zero_le _, rfl, rfl, HX.out, HY.out, HB1.out⟩
            case round =>
              obtain ⟨j, hj, rfl, hall, hx, hy, hB⟩ := hrel
              have HALL := Lib.hid hall
              have HXr := Lib.hid hx
              have HYr := Lib.hid hy
              have HBr := Lib.hid hB
              have hzr := hB.size
              have hxlt := hx.lt
              have hylt := hy.lt
              have z4 : wr.cell? ⟨w.heap.size, 4, none⟩ = some (.slice al l.length cl) := by rw [hx.cell]; rfl
              clear x4 y4
              by_cases hlt : j < l.length
              · have hlt' : j < l'.length := by have := HLL.out; omega
                obtain ⟨bl, ol, rfl, _⟩ := HL.out.addr (by rw [HL.out.1]; omega)
                obtain ⟨bl', ol', rfl, _⟩ := HL'.out.addr (by rw [HL'.out.1]; omega)
                obtain ⟨r, hr, hrc⟩ := HLS.out.cells HL.out j hlt
                obtain ⟨r', hr', hrc'⟩ := HLS'.out.cells HL'.out j hlt'
                have hcr : CellsAt wr bl (ol + j * 5) r := fun i u hi => below_cell hB (hrc i u hi)
                have hcr' : CellsAt wr bl' (ol' + j * 5) r' := fun i u hi => below_cell hB (hrc' i u hi)
                have hsn := tvsEq_snoc l l' j hlt hlt'
                have hno := tvsEq_not l l' j hlt hlt'
                have hji : (j : Int) < l.length := by omega
                have hji' : (j : Int) < l'.length := by omega
                have hih := HIH.out l[j] (List.getElem_mem hlt) l'[j]
                generalize l[j] = xj at hr hsn hno hih
                generalize l'[j] = yj at hr' hsn hno hih
                have HRL := Lib.hid hr.length
                have HRL' := Lib.hid hr'.length
                have HR1 := Lib.hid hr.one
                have HCR := Lib.hid hcr
                have HCR' := Lib.hid hcr'
                have HSN := Lib.hid hsn
                have HNO := Lib.hid hno
                have HRT := Lib.hid (hr.below hB)
                have HRT' := Lib.hid (hr'.below hB)
                have HIHj := Lib.hid hih
                have HB3 : Hid (Below w.heap.size w wr.drew) := Lib.hid (HBr.out.drew)
                have HCJ := Lib.hid (HIHj.out F G r r' wr.drew (HRT.out.below ((Below.refl _ _).drew)) (HRT'.out.below ((Below.refl _ _).drew)))
                have z4d : wr.drew.cell? ⟨w.heap.size, 4, none⟩ = some (.slice (some ⟨bl, ol, none⟩) l.length cl) := z4
                have y4 : wr.drew.cell? ⟨w.heap.size + 1, 4, none⟩ = some (.slice (some ⟨bl', ol', none⟩) l'.length cl') := by show wr.cell? _ = _; rw [HYr.out.cell]; rfl
                have HCRd : Hid (CellsAt wr.drew bl (ol + j * 5) r) := HCR
                have HCR3 : Hid (CellsAt wr.drew bl' (ol' + j * 5) r') := HCR'
                have HX3d : Hid (Blk wr.drew w.heap.size _ _) := HXr
                have HY3d : Hid (Blk wr.drew (w.heap.size + 1) _ _) := HYr
                have hz3d : w.heap.size + 1 < wr.drew.heap.size := hylt
                clear hr hrc hcr hr' hrc' hcr' hsn hno hih hB hall hx hy HRT HRT' HCR HCR'
                go_wp2_with fail
                refine wp_region_still_tail 10 (by kernel_rfl) (by kernel_rfl) ?_
                simp only [List.take_succ_cons, List.take_zero, List.drop_succ_cons, List.drop_zero]
                change wpStill _ _ wr.drew _ _ _
                iterate 4 still_step
                refine wpStill_ldAgg rfl (.tmp 52) aggRef rfl rfl HRL.out HCRd.out ?_
                simp only [Act.put, List.setIfInBounds_toArray, List.set_cons_zero, List.set_cons_succ]
                iterate 4 still_step
                refine wpStill_ldAgg rfl (.tmp 57) aggRef rfl rfl HRL'.out HCR3.out ?_
                simp only [Act.put, List.setIfInBounds_toArray, List.set_cons_zero, List.set_cons_succ]
                refine wpStill_nil ?_
                change wpList _ _ _ _ _ wr.drew
                clear z4
                generalize wr.drew = w3d at *
                go_wp2_with fail
                refine HCJ.out.mono ?_
                rintro e w4 ⟨rfl, hb4⟩
                have hz4 := hb4.size
                have HX4 := Lib.hid (HX3d.out.below hb4 (by omega))
                have HY4 := Lib.hid (HY3d.out.below hb4 (by omega))
                have HB4 : Hid (Below w.heap.size w w4) := Lib.hid (HB3.out.trans (hb4.mono (by omega)))
                clear hb4 HCJ
                obtain ⟨v, hv⟩ : ∃ v, v = tvEq xj yj := ⟨_, rfl⟩
                rw [← hv] at HSN HNO ⊢
                clear hv
                cases v with
                | true =>
                  go_wp2_with fail
                  go_roundw
                  case rel => exact ⟨j + 1, by omega, by go_num, by rw [HSN.out, HALL.out]; rfl, HX4.out, HY4.out, HB4.out⟩
                  case measure => simp [intOf]; omega
                | false =>
                  have HR : Hid (tvEq (.mk k t n b l) (.mk k t n b' l') = false) := Lib.hid (by rw [HEQ9.out, HNO.out rfl])
                  go_wp2_with fail
                  go_ret
                  rw [HR.out]
                  exact ⟨rfl, HB4.out⟩
              · obtain rfl : j = l.length := by omega
                have HR : Hid (tvEq (.mk k t n b l) (.mk k t n b' l') = true) := Lib.hid (by
                  rw [HEQ9.out]
                  have := HALL.out
                  rw [List.take_length, List.take_of_length_le (by rw [HLL.out]; exact Nat.le_refl _)] at this
                  exact this)
                clear hall
                go_wp2_with fail
                go_ret
                rw [HR.out]
                exact ⟨rfl, HBr.out⟩
          · have hll' : ((l.length : Int) != l'.length) = true := by simp; omega
            have HR : Hid (tvEq (.mk k t n b l) (.mk k t n b' l') = false) := Lib.hid (by rw [HEQ.out]; simp [hll])
            clear HEQ hll
            go_enter Try.func37, Try.ntmps37
            go_wp2_with fail
            refine HCE.out.mono ?_
            rintro e w1 ⟨rfl, hb1⟩
            have HX := Lib.hid (HX0.out.below hb1 (by simp; omega))
            have HY := Lib.hid (HY0.out.below hb1 (by simp))
            have HB1 : Hid (Below w.heap.size w w1) := Lib.hid (HB0.out.trans (hb1.mono (by simp; omega)))
            have x4 : w1.cell? ⟨w.heap.size, 4, none⟩ = some (.slice al l.length cl) := by rw [HX.out.cell]; rfl
            have y4 : w1.cell? ⟨w.heap.size + 1, 4, none⟩ = some (.slice al' l'.length cl') := by rw [HY.out.cell]; rfl
            clear hb1
            go_wp2_with fail
            go_ret
            rw [HR.out]
            exact ⟨rfl, HB1.out⟩
      · have hn' : ((n : Int) != n') = true := by simp; omega
        have HR : Hid (tvEq (.mk k t n b l) (.mk k t n' b' l') = false) := Lib.hid (by rw [HEQ.out]; simp [hn])
        clear hn
        clear HEQ
        go_enter Try.func37, Try.ntmps37
        go_wp2_with fail
        go_ret
        rw [HR.out]
        exact ⟨rfl, HB0.out⟩
    · have ht' : (t != t') = true := by simp [ht]
      have HR : Hid (tvEq (.mk k t n b l) (.mk k t' n' b' l') = false) := Lib.hid (by rw [HEQ.out]; simp [ht])
      clear ht
      clear HEQ
      go_enter Try.func37, Try.ntmps37
      go_wp2_with fail
      go_ret
      rw [HR.out]
      exact ⟨rfl, HB0.out⟩
  · have hk' : (k != k') = true := by simp [hk]
    have HR : Hid (tvEq (.mk k t n b l) (.mk k' t' n' b' l') = false) := Lib.hid (by rw [HEQ.out]; simp [hk])
    clear hk
    clear HEQ
    go_enter Try.func37, Try.ntmps37
    go_wp2_with fail
    go_ret
    rw [HR.out]
    exact ⟨rfl, HB0.out⟩
end Go.Proofs.Ytdmjliehobgknaa
