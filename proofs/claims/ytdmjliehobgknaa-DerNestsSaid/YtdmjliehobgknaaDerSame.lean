/- Contracts: der.Same, and the document's Same. (Printed by wip/tools/gensame.py.) -/
import Derived.Test.YtdmjliehobgknaaDerRight
import Derived.Test.YtdmjliehobgknaaSame
import Derived.Test.YtdmjliehobgknaaStillT
namespace Go.Proofs.Ytdmjliehobgknaa
set_option linter.unusedSimpArgs false
set_option linter.unusedVariables false
open Go.RowKit

mutual
/-- Are two values the same? -/
def tvEq : Tv → Tv → Bool
  | .mk k t n b l, .mk k' t' n' b' l' => decide (k = k') && decide (t = t') && decide (n = n') && decide (b = b') && decide (l.length = l'.length) && tvsEq l l'
def tvsEq : List Tv → List Tv → Bool
  | [], _ => true
  | _ :: _, [] => true
  | x :: l, y :: l' => tvEq x y && tvsEq l l'
end

mutual
theorem tvEq_iff : ∀ x y : Tv, tvEq x y = true ↔ x = y
  | .mk k t n b l, .mk k' t' n' b' l' => by
    have h := tvsEq_iff l l'
    rw [tvEq]
    simp only [Bool.and_eq_true, decide_eq_true_eq, Tv.mk.injEq]
    constructor
    · rintro ⟨⟨⟨⟨⟨h1, h2⟩, h3⟩, h4⟩, h5⟩, h6⟩
      exact ⟨h1, h2, h3, h4, (h h5).1 h6⟩
    · rintro ⟨h1, h2, h3, h4, h5⟩
      exact ⟨⟨⟨⟨⟨h1, h2⟩, h3⟩, h4⟩, by rw [h5]⟩, (h (by rw [h5])).2 h5⟩
theorem tvsEq_iff : ∀ l l' : List Tv, l.length = l'.length → (tvsEq l l' = true ↔ l = l')
  | [], [], _ => by simp [tvsEq]
  | [], _ :: _, h => by simp at h
  | _ :: _, [], h => by simp at h
  | x :: l, y :: l', h => by
    have h1 := tvEq_iff x y
    have h2 := tvsEq_iff l l' (by simpa using h)
    rw [tvsEq, Bool.and_eq_true, h1, h2, List.cons.injEq]
end

theorem tvsEq_snoc : ∀ (l l' : List Tv) (j : Nat) (h : j < l.length) (h' : j < l'.length), tvsEq (l.take (j + 1)) (l'.take (j + 1)) = (tvsEq (l.take j) (l'.take j) && tvEq l[j] l'[j])
  | [], _, j, h, _ => by simp at h
  | _ :: _, [], j, _, h => by simp at h
  | x :: l, y :: l', 0, _, _ => by simp [tvsEq]
  | x :: l, y :: l', j + 1, h, h' => by
    have := tvsEq_snoc l l' j (by simpa using h) (by simpa using h')
    simp only [List.take_succ_cons, tvsEq, List.getElem_cons_succ]
    rw [this, Bool.and_assoc]

theorem tvsEq_not : ∀ (l l' : List Tv) (j : Nat) (h : j < l.length) (h' : j < l'.length), tvEq l[j] l'[j] = false → tvsEq l l' = false
  | [], _, j, h, _, _ => by simp at h
  | _ :: _, [], j, _, h, _ => by simp at h
  | x :: l, y :: l', 0, _, _, e => by
    simp only [List.getElem_cons_zero] at e
    simp [tvsEq, e]
  | x :: l, y :: l', j + 1, h, h', e => by
    have := tvsEq_not l l' j (by simpa using h) (by simpa using h') (by simpa using e)
    simp [tvsEq, this]

set_option maxHeartbeats 8000000 in
set_option maxRecDepth 100000 in
theorem derSame_any : ∀ (x y : Tv) (F G : Nat → Prop) (cs ds : List Value) (w : World), TvF w F x cs → TvF w G y ds →
    Calls Try.prog 36 #[.agg cs.toArray, .agg ds.toArray] w (BoolRes w (tvEq x y)) := by
  refine tv_ind (fun k t n b l ih => ?_)
  intro y F G cs ds w h h'
  obtain ⟨k', t', n', b', l'⟩ := y
  obtain ⟨bv, lv, rows, rfl, hb, _, hl, _, hls⟩ := h.open_
  obtain ⟨bv', lv', rows', rfl, hb', _, hl', _, hls'⟩ := h'.open_
  simp only [Tv.kind, Tv.tag, Tv.n, Tv.b, Tv.l] at *
  obtain ⟨ab, cb, rfl, hcb, hmb⟩ := hb.form
  obtain ⟨al, cl, rfl, hcl, hml⟩ := hl.form
  obtain ⟨ab', cb', rfl, hcb', hmb'⟩ := hb'.form
  obtain ⟨al', cl', rfl, hcl', hml'⟩ := hl'.form
  unfold maxLen at hmb hml hmb' hml'
  have heq : tvEq (.mk k t n b l) (.mk k' t' n' b' l') = (decide (k = k') && decide (t = t') && decide (n = n') && decide (b = b') && decide (l.length = l'.length) && tvsEq l l') := rfl
  have HEQ := Lib.hid heq
  have HIH := Lib.hid ih
  have HL := Lib.hid hl
  have HL' := Lib.hid hl'
  have HLS := Lib.hid hls
  have HLS' := Lib.hid hls'
  have HB0 : Hid (Below w.heap.size w ((w.alloc (.cells #[.int .i64 k, .int .i64 t, .int .u64 n, .slice ab b.length cb, .slice al l.length cl] 47)).alloc (.cells #[.int .i64 k', .int .i64 t', .int .u64 n', .slice ab' b'.length cb', .slice al' l'.length cl'] 47))) := Lib.hid (((Below.refl _ _).alloc (Nat.le_refl _) _).alloc (by simp) _)
  have HX0 : Hid (Blk ((w.alloc (.cells #[.int .i64 k, .int .i64 t, .int .u64 n, .slice ab b.length cb, .slice al l.length cl] 47)).alloc (.cells #[.int .i64 k', .int .i64 t', .int .u64 n', .slice ab' b'.length cb', .slice al' l'.length cl'] 47)) w.heap.size [.int .i64 k, .int .i64 t, .int .u64 n, .slice ab b.length cb, .slice al l.length cl] 47) := Lib.hid ((Blk.new w _ _).alloc _)
  have HY0 : Hid (Blk ((w.alloc (.cells #[.int .i64 k, .int .i64 t, .int .u64 n, .slice ab b.length cb, .slice al l.length cl] 47)).alloc (.cells #[.int .i64 k', .int .i64 t', .int .u64 n', .slice ab' b'.length cb', .slice al' l'.length cl'] 47)) (w.heap.size + 1) [.int .i64 k', .int .i64 t', .int .u64 n', .slice ab' b'.length cb', .slice al' l'.length cl'] 47) := Lib.hid (Blk.at_ (by simp))
  have HCE := Lib.hid (equal_any _ _ b b' ((w.alloc (.cells #[.int .i64 k, .int .i64 t, .int .u64 n, .slice ab b.length cb, .slice al l.length cl] 47)).alloc (.cells #[.int .i64 k', .int .i64 t', .int .u64 n', .slice ab' b'.length cb', .slice al' l'.length cl'] 47)) (hb.below HB0.out) (hb'.below HB0.out))
  clear h h' hb hb' hl hl' hls hls' ih heq
  by_cases hk : k = k'
  · subst hk
    by_cases ht : t = t'
    · subst ht
      by_cases hn : n = n'
      · subst hn
        obtain ⟨v, hv⟩ : ∃ v, v = decide (b = b') := ⟨_, rfl⟩
        rw [← hv] at HCE HEQ
        cases v with
        | false =>
          have HR : Hid (tvEq (.mk k t n b l) (.mk k t n b' l') = false) := Lib.hid (by rw [HEQ.out]; simp)
          clear HEQ hv
          go_enter Try.func36, Try.ntmps36
          go_wp2_with fail
          refine HCE.out.mono ?_
          rintro e w' ⟨rfl, hw'⟩
          rw [← hw']
          clear hw'
          have HX := HX0
          have HY := HY0
          have HB1 := HB0
          go_wp2_with fail
          go_ret
          rw [HR.out]
          exact ⟨rfl, HB1.out⟩
        | true =>
          clear hv
          by_cases hll : l.length = l'.length
          · have hll' : ((l.length : Int) != l'.length) = false := by simp [hll]
            have HLL := Lib.hid hll
            have hEQ := HEQ.out
            rw [hll] at hEQ
            simp only [decide_true, Bool.true_and] at hEQ
            have HEQ9 := Lib.hid hEQ
            clear hll hEQ
            go_enter Try.func36, Try.ntmps36
            go_wp2_with fail
            refine HCE.out.mono ?_
            rintro e w' ⟨rfl, hw'⟩
            rw [← hw']
            clear hw'
            have HX := HX0
            have HY := HY0
            have HB1 := HB0
            go_wp2_with fail
            go_loopw [46] (fun i wr => ∃ j : Nat, j ≤ l.length ∧ i = .int .i64 j ∧ tvsEq (l.take j) (l'.take j) = true ∧ Blk wr w.heap.size [.int .i64 k, .int .i64 t, .int .u64 n, .slice ab b.length cb, .slice al l.length cl] 47 ∧
              Blk wr (w.heap.size + 1) [.int .i64 k, .int .i64 t, .int .u64 n, .slice ab' b'.length cb', .slice al' l'.length cl'] 47 ∧ Below w.heap.size w wr) (fun i _ => l.length - (intOf i).toNat)
            case atStart => exact ⟨0, Nat.zero_le _, rfl, rfl, HX.out, HY.out, HB1.out⟩
            case round =>
              obtain ⟨j, hj, rfl, hall, hx, hy, hB⟩ := hrel
              have HALL := Lib.hid hall
              have HXr := Lib.hid hx
              have HYr := Lib.hid hy
              have HBr := Lib.hid hB
              have hzr := hB.size
              have hxlt := hx.lt
              have hylt := hy.lt
              by_cases hlt : j < l.length
              · have hlt' : j < l'.length := by have := HLL.out; omega
                obtain ⟨bl, ol, rfl, _⟩ := HL.out.addr (by rw [HL.out.1]; omega)
                obtain ⟨bl', ol', rfl, _⟩ := HL'.out.addr (by rw [HL'.out.1]; omega)
                obtain ⟨r, hr, hrc⟩ := HLS.out.cells HL.out j hlt
                obtain ⟨r', hr', hrc'⟩ := HLS'.out.cells HL'.out j hlt'
                have hcr : CellsAt wr bl (ol + j * 5) r := fun i u hi => below_cell hB (hrc i u hi)
                have hcr' : CellsAt wr bl' (ol' + j * 5) r' := fun i u hi => below_cell hB (hrc' i u hi)
                have hsn := tvsEq_snoc l l' j hlt hlt'
                have hno := tvsEq_not l l' j hlt hlt'
                have hji : (j : Int) < l.length := by omega
                have hji' : (j : Int) < l'.length := by omega
                have hih := HIH.out l[j] (List.getElem_mem hlt) l'[j]
                generalize l[j] = xj at hr hsn hno hih
                generalize l'[j] = yj at hr' hsn hno hih
                have HRL := Lib.hid hr.length
                have HRL' := Lib.hid hr'.length
                have HR1 := Lib.hid hr.one
                have HCR := Lib.hid hcr
                have HCR' := Lib.hid hcr'
                have HSN := Lib.hid hsn
                have HNO := Lib.hid hno
                have HRT := Lib.hid (hr.below hB)
                have HRT' := Lib.hid (hr'.below hB)
                have HIHj := Lib.hid hih
                have HN := Lib.hid (Blk.new wr zs5 47)
                clear hr hrc hcr hr' hrc' hcr' hsn hno hih hB hall hx hy
                go_wp2_with (first | ((with_reducible show wpList _ _ _ (⟨some 50, _, _, _, _, _⟩ :: _) _ _); refine wpList_ldAgg rfl (.tmp 49) aggDer rfl rfl (cs := r) HRL.out HCR.out ?_) | ((with_reducible show wpList _ _ _ (⟨none, .store _ (.tmp 6) (.tmp 50), _, _, _, _⟩ :: _) _ _); refine wpList_stAgg rfl (.tmp 6) (.tmp 50) aggDer rfl rfl (vs := r) rfl HRL.out HN.out (Nat.le_refl _) HR1.out ?_))
                intro w3 h3 k3
                have h3' : Blk w3 wr.heap.size r 47 := by
                  rw [List.drop_of_length_le (by decide), List.append_nil] at h3
                  exact h3
                have hz3 := k3.size
                simp at hz3
                have hb3 : Below wr.heap.size wr w3 := ((Below.refl _ _).alloc (Nat.le_refl _) _).trans (k3.below (by omega))
                have H3 := Lib.hid h3'
                have HX3 := Lib.hid (HXr.out.below hb3 hxlt)
                have HY3 := Lib.hid (HYr.out.below hb3 hylt)
                have HB3 : Hid (Below w.heap.size w w3.drew) := Lib.hid ((HBr.out.trans (hb3.mono hzr)).drew)
                have HCJ := Lib.hid (HIHj.out F G r r' w3.drew ((HRT.out.below hb3).below ((Below.refl _ _).drew)) ((HRT'.out.below hb3).below ((Below.refl _ _).drew)))
                have y4 : w3.drew.cell? ⟨w.heap.size + 1, 4, none⟩ = some (.slice (some ⟨bl', ol', none⟩) l'.length cl') := by show w3.cell? _ = _; rw [HY3.out.cell]; rfl
                have HCR3 : Hid (CellsAt w3.drew bl' (ol' + j * 5) r') := Lib.hid (fun i u hi => below_cell hb3 (HCR'.out i u hi))
                have H3d : Hid (CellsAt w3.drew wr.heap.size 0 r) := Lib.hid h3'.cellsAll
                clear h3 h3' k3 hb3 HN HRT HRT' HCR HCR'
                go_wp2_with fail
                refine wp_region_still_tail 6 (by kernel_rfl) (by kernel_rfl) ?_
                simp only [List.take_succ_cons, List.take_zero, List.drop_succ_cons, List.drop_zero]
                change wpStill _ _ w3.drew _ _ _
                refine wpStill_ldAgg rfl (.tmp 6) aggDer rfl rfl HRL.out H3d.out ?_
                simp only [Act.put, List.setIfInBounds_toArray, List.set_cons_zero, List.set_cons_succ]
                iterate 4 still_step
                refine wpStill_ldAgg rfl (.tmp 55) aggDer rfl rfl HRL'.out HCR3.out ?_
                simp only [Act.put, List.setIfInBounds_toArray, List.set_cons_zero, List.set_cons_succ]
                refine wpStill_nil ?_
                change wpList _ _ _ _ _ w3.drew
                have HX3d : Hid (Blk w3.drew w.heap.size _ _) := HX3
                have HY3d : Hid (Blk w3.drew (w.heap.size + 1) _ _) := HY3
                have hz3d : wr.heap.size + 1 ≤ w3.drew.heap.size := hz3
                generalize w3.drew = w3d at *
                go_wp2_with fail
                refine HCJ.out.mono ?_
                rintro e w4 ⟨rfl, hb4⟩
                have hz4 := hb4.size
                have HX4 := Lib.hid (HX3d.out.below hb4 (by omega))
                have HY4 := Lib.hid (HY3d.out.below hb4 (by omega))
                have HB4 : Hid (Below w.heap.size w w4) := Lib.hid (HB3.out.trans (hb4.mono (by omega)))
                clear hb4 HCJ
                obtain ⟨v, hv⟩ : ∃ v, v = tvEq xj yj := ⟨_, rfl⟩
                rw [← hv] at HSN HNO ⊢
                clear hv
                cases v with
                | true =>
                  go_wp2_with fail
                  go_roundw
                  case rel => exact ⟨j + 1, by omega, by go_num, by rw [HSN.out, HALL.out]; rfl, HX4.out, HY4.out, HB4.out⟩
                  case measure => simp [intOf]; omega
                | false =>
                  have HR : Hid (tvEq (.mk k t n b l) (.mk k t n b' l') = false) := Lib.hid (by rw [HEQ9.out, HNO.out rfl])
                  go_wp2_with fail
                  go_ret
                  rw [HR.out]
                  exact ⟨rfl, HB4.out⟩
              · obtain rfl : j = l.length := by omega
                have HR : Hid (tvEq (.mk k t n b l) (.mk k t n b' l') = true) := Lib.hid (by
                  rw [HEQ9.out]
                  have := HALL.out
                  rw [List.take_length, List.take_of_length_le (by rw [HLL.out]; exact Nat.le_refl _)] at this
                  exact this)
                clear hall
                go_wp2_with fail
                go_ret
                rw [HR.out]
                exact ⟨rfl, HBr.out⟩
          · have hll' : ((l.length : Int) != l'.length) = true := by simp; omega
            have HR : Hid (tvEq (.mk k t n b l) (.mk k t n b' l') = false) := Lib.hid (by rw [HEQ.out]; simp [hll])
            clear HEQ hll
            go_enter Try.func36, Try.ntmps36
            go_wp2_with fail
            refine HCE.out.mono ?_
            rintro e w' ⟨rfl, hw'⟩
            rw [← hw']
            clear hw'
            have HX := HX0
            have HY := HY0
            have HB1 := HB0
            go_wp2_with fail
            go_ret
            rw [HR.out]
            exact ⟨rfl, HB1.out⟩
      · have hn' : ((n : Int) != n') = true := by simp; omega
        have HR : Hid (tvEq (.mk k t n b l) (.mk k t n' b' l') = false) := Lib.hid (by rw [HEQ.out]; simp [hn])
        clear hn
        clear HEQ
        go_enter Try.func36, Try.ntmps36
        go_wp2_with fail
        go_ret
        rw [HR.out]
        exact ⟨rfl, HB0.out⟩
    · have ht' : (t != t') = true := by simp [ht]
      have HR : Hid (tvEq (.mk k t n b l) (.mk k t' n' b' l') = false) := Lib.hid (by rw [HEQ.out]; simp [ht])
      clear ht
      clear HEQ
      go_enter Try.func36, Try.ntmps36
      go_wp2_with fail
      go_ret
      rw [HR.out]
      exact ⟨rfl, HB0.out⟩
  · have hk' : (k != k') = true := by simp [hk]
    have HR : Hid (tvEq (.mk k t n b l) (.mk k' t' n' b' l') = false) := Lib.hid (by rw [HEQ.out]; simp [hk])
    clear hk
    clear HEQ
    go_enter Try.func36, Try.ntmps36
    go_wp2_with fail
    go_ret
    rw [HR.out]
    exact ⟨rfl, HB0.out⟩
end Go.Proofs.Ytdmjliehobgknaa
