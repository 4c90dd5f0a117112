/- Texts of this proof, one behind the other: MRef3, MVal, MValA, MValue. -/
import Derived.Test.YtofmkkcbfeadgaaRpA7
import Derived.Deep.DeepCutAuto
namespace Go.Proofs.Ytofmkkcbfeadgaa
set_option linter.unusedSimpArgs false
set_option linter.unusedVariables false
open Go.RowKit
set_option maxHeartbeats 1000000 in
set_option maxRecDepth 100000 in
theorem refTicket_any (x : Tv) (F : Nat → Prop) (cs : List Value) (w : World) (h : TvF w F x cs) : Calls Try.prog 20 #[.agg cs.toArray] w fun e w' => e = .returned (.bool (tkR x)) ∧ Below w.heap.size w w' := by
  have HTX := hI h
  obtain ⟨bv, lv, rows, rfl, hb1, hb2, hb3, hb4, hb5⟩ := h.open_
  obtain ⟨al, cl, rfl, hcl, hml⟩ := hb3.form
  obtain ⟨ab, cb, rfl, hcb, hmb⟩ := hb1.form
  unfold maxLen at hml
  clear h hb1 hb2 hb3 hb4 hb5
  obtain ⟨r, hr⟩ : ∃ r, r = tkR x := ⟨_, rfl⟩
  rw [← hr]
  have HR := hI hr
  clear hr
  obtain ⟨q, hq⟩ : ∃ q, q = w.heap.size := ⟨_, rfl⟩
  obtain ⟨w1, hw1⟩ : ∃ w1, w1 = w.alloc (.cells #[.int .i64 x.kind, .int .i64 x.tag, .int .u64 (x.n : Int), .slice ab x.b.length cb, .slice al x.l.length cl] 37) := ⟨_, rfl⟩
  have HB1 : Hid (Below w.heap.size w w1) := hI (by rw [hw1]; exact (Below.refl _ _).alloc (Nat.le_refl _) _)
  have HQ1 : Hid (Blk w1 q [.int .i64 x.kind, .int .i64 x.tag, .int .u64 (x.n : Int), .slice ab x.b.length cb, .slice al x.l.length cl] 37) := hI (by rw [hw1, hq]; exact Blk.new _ _ _)
  have hq0 : w1.cell? ⟨q, 0, none⟩ = some (.int .i64 x.kind) := HQ1.out.cell 0
  have hq1 : w1.cell? ⟨q, 1, none⟩ = some (.int .i64 x.tag) := HQ1.out.cell 1
  have hq4 : w1.cell? ⟨q, 4, none⟩ = some (.slice al x.l.length cl) := HQ1.out.cell 4
  have HCALL : Hid (x.tag = 1 → Calls Try.prog 30 #[.agg #[.int .i64 x.kind, .int .i64 x.tag, .int .u64 (x.n : Int), .slice ab x.b.length cb, .slice al x.l.length cl]] w1 fun e w' => e = .returned (.bool (tkR x)) ∧ Below w1.heap.size w1 w') := hI (fun ht => refRight10_any x ht F _ w1 (HTX.out.below HB1.out))
  by_cases ht : x.tag = 1
  · have HT := hI ht
    have ht1 : (x.tag == 1) = true := by simpa using ht
    clear ht
    go_enter Try.func20, Try.ntmps20
    go_upto_region 1 with fail
    show Code.wp _ _ _ _ (w.alloc (.cells #[.int .i64 x.kind, .int .i64 x.tag, .int .u64 (x.n : Int), .slice ab x.b.length cb, .slice al x.l.length cl] 37))
    rw [← hw1, ← hq]
    clear hw1 hq
    go_wp2_with ((with_reducible show wpList _ _ _ (⟨some 7, _, _, _, _, _⟩ :: _) _ _); refine wpList_ldAgg rfl (.tmp 1) aggRef rfl rfl (cs := [.int .i64 x.kind, .int .i64 x.tag, .int .u64 (x.n : Int), .slice ab x.b.length cb, .slice al x.l.length cl]) rfl HQ1.out.cellsAll ?_)
    refine (HCALL.out HT.out).mono ?_
    rintro e w2 ⟨rfl, hb⟩
    rw [← HR.out]
    have HB2 : Hid (Below w.heap.size w w2) := hI (HB1.out.trans (hb.mono HB1.out.size))
    clear hb
    go_wp2_with fail
    go_ret
    exact ⟨rfl, HB2.out⟩
  · have ht1 : (x.tag == 1) = false := by simpa using ht
    have HF : Hid (r = false) := hI (by rw [HR.out]; unfold tkR; rw [decide_eq_false (fun hc => ht hc.2)]; rfl)
    clear ht
    go_enter Try.func20, Try.ntmps20
    go_upto_region 1 with fail
    show Code.wp _ _ _ _ (w.alloc (.cells #[.int .i64 x.kind, .int .i64 x.tag, .int .u64 (x.n : Int), .slice ab x.b.length cb, .slice al x.l.length cl] 37))
    rw [← hw1, ← hq]
    clear hw1 hq
    go_wp2_with fail
    go_ret
    rw [HF.out]
    exact ⟨rfl, HB1.out⟩
theorem shapeC_len {t : Int} (h : (shapeS t).isEmpty = false) : (shapeC t).length = (shapeS t).length ∧ shapeC t = (shapeS t).map kdC := by
  have e : shapeC t = (shapeS t).map kdC := by unfold shapeC; rw [if_neg (by rw [h]; decide)]
  exact ⟨by rw [e, List.length_map], e⟩
theorem shapeC_q (t : Int) : (shapeC t == [63]) = (shapeS t).isEmpty := by
  unfold shapeC
  cases h : (shapeS t).isEmpty with
  | true => rfl
  | false =>
    rw [if_neg (by decide)]
    cases hs : shapeS t with
    | nil => rw [hs] at h; cases h
    | cons k ks => cases k <;> rfl
theorem shape_le (t : Int) : (shapeS t).length ≤ 8 := by
  by_cases h : (shapeS t).isEmpty = true
  · rw [List.isEmpty_iff.1 h]; decide
  · have h : (shapeS t).isEmpty = false := by simpa using h
    obtain ⟨h1, h2⟩ := shape_tag h
    rcases (by omega : t = 11 ∨ t = 12 ∨ t = 13 ∨ t = 14 ∨ t = 15 ∨ t = 16 ∨ t = 17 ∨ t = 18 ∨ t = 19 ∨ t = 20 ∨ t = 21 ∨ t = 22) with rfl | rfl | rfl | rfl | rfl | rfl | rfl | rfl | rfl | rfl | rfl | rfl <;> decide
set_option maxHeartbeats 16000000 in
set_option maxRecDepth 100000 in
theorem refRight11_any (x : Tv) (F : Nat → Prop) (cs : List Value) (w : World) (h : TvF w F x cs) : Calls Try.prog 9 #[.agg cs.toArray] w fun e w' => e = .returned (.bool (msgR x)) ∧ Below w.heap.size w w' := by
  obtain ⟨bv, lv, rows, rfl, hb1, hb2, hb3, hb4, hb5⟩ := h.open_
  obtain ⟨al, cl, rfl, hcl, hml⟩ := hb3.form
  obtain ⟨ab, cb, rfl, hcb, hmb⟩ := hb1.form
  unfold maxLen at hml
  have HSL := hI hb3
  have HTV := hI hb5
  clear h hb1 hb2 hb3 hb4 hb5
  obtain ⟨r, hr⟩ : ∃ r, r = msgR x := ⟨_, rfl⟩
  rw [← hr]
  have HR : Hid (r = (decide (x.kind = 2) && (!(shapeS x.tag).isEmpty && fitsK (shapeS x.tag) x.l))) := hI hr
  clear hr
  obtain ⟨q, hq⟩ : ∃ q, q = w.heap.size := ⟨_, rfl⟩
  obtain ⟨w1, hw1⟩ : ∃ w1, w1 = w.alloc (.cells #[.int .i64 x.kind, .int .i64 x.tag, .int .u64 (x.n : Int), .slice ab x.b.length cb, .slice al x.l.length cl] 37) := ⟨_, rfl⟩
  have HB1 : Hid (Below w.heap.size w w1) := hI (by rw [hw1]; exact (Below.refl _ _).alloc (Nat.le_refl _) _)
  have HQ1 : Hid (Blk w1 q [.int .i64 x.kind, .int .i64 x.tag, .int .u64 (x.n : Int), .slice ab x.b.length cb, .slice al x.l.length cl] 37) := hI (by rw [hw1, hq]; exact Blk.new _ _ _)
  have hq0 : w1.cell? ⟨q, 0, none⟩ = some (.int .i64 x.kind) := HQ1.out.cell 0
  have hq1 : w1.cell? ⟨q, 1, none⟩ = some (.int .i64 x.tag) := HQ1.out.cell 1
  have hq4 : w1.cell? ⟨q, 4, none⟩ = some (.slice al x.l.length cl) := HQ1.out.cell 4
  have HSH := hI (refShape_any x.tag w1)
  have HSC : Hid ((shapeS x.tag).isEmpty = false → (shapeC x.tag).length = (shapeS x.tag).length ∧ shapeC x.tag = (shapeS x.tag).map kdC) := hI shapeC_len
  have hsq0 : ((tx (shapeC x.tag)).toList == [63]) = (shapeS x.tag).isEmpty := by rw [tx_toList]; exact shapeC_q _
  have hk8 := shape_le x.tag
  have hsz : (tx (shapeC x.tag)).size = (shapeC x.tag).length := tx_size _
  generalize shapeS x.tag = ks at *
  generalize shapeC x.tag = sc at *
  have HSZ := hI hsz
  have HSQ0 := hI hsq0
  clear hsz hsq0
  by_cases hk : x.kind = 2
  · have HK := hI hk
    have hk1 : (x.kind != 2) = false := by simpa using hk
    clear hk
    by_cases he : ks.isEmpty = false
    · obtain ⟨hsl, hsm⟩ := HSC.out he
      have hsz : (tx sc).size = ks.length := HSZ.out.trans hsl
      have hsq : ((tx sc).toList == [63]) = false := HSQ0.out.trans he
      have HSM := hI hsm
      by_cases hl : x.l.length = ks.length
      · have HL := hI hl
        have hl1 : ((x.l.length : Int) != (ks.length : Int)) = false := by simp; omega
        have HRR : Hid (r = fitsK ks x.l) := hI (by rw [HR.out, HK.out, he]; rfl)
        clear hl he hsl hsm HSC HSQ0 HSZ HR
        go_enter Try.func9, Try.ntmps9
        go_upto_region 1 with fail
        show Code.wp _ _ _ _ (w.alloc (.cells #[.int .i64 x.kind, .int .i64 x.tag, .int .u64 (x.n : Int), .slice ab x.b.length cb, .slice al x.l.length cl] 37))
        rw [← hw1, ← hq]
        clear hw1 hq
        go_wp2_with fail
        refine HSH.out.mono ?_
        rintro e w2 ⟨rfl, rfl⟩
        go_wp2_with fail
        go_loopw [4] (fun i wr => ∃ k : Nat, k ≤ ks.length ∧ i = .int .i64 k ∧ Below w1.heap.size w1 wr ∧ fitsK (ks.drop k) (x.l.drop k) = r) (fun i _ => ks.length - (intOf i).toNat)
        case atStart => exact ⟨0, by omega, rfl, Below.refl _ _, HRR.out.symm⟩
        case round =>
          obtain ⟨k, hk, rfl, hB, hF⟩ := hrel
          have HB := hI hB
          have HF := hI hF
          clear hB hF
          have hbz := HB.out.size
          have hqw := HQ1.out.lt
          by_cases hlt : k < ks.length
          · have hlt1 : (k : Int) < (ks.length : Int) := by omega
            have hlx : k < x.l.length := by rw [HL.out]; exact hlt
            have hlx1 : (k : Int) < (x.l.length : Int) := by omega
            obtain ⟨bl, ol, rfl, _⟩ := HSL.out.addr (by rw [HSL.out.1]; omega)
            obtain ⟨re, hre, hrc⟩ := HTV.out.cells HSL.out k hlx
            have hbw : Below w.heap.size w wr := HB1.out.trans (HB.out.mono HB1.out.size)
            have hcr : CellsAt wr bl (ol + k * 5) re := fun i u hi => below_cell hbw (hrc i u hi)
            have HCR := hI hcr
            have HRL := hI hre.length
            have HRO := hI hre.one
            have HTY := hI (hre.below hbw)
            have HSX : Hid (∀ W, (Instr.index 9 (.string (tx sc)) (.int .i64 (k : Int))).run Try.prog W = .ok (.int .u8 ((kdC ks[k]).toNat : Int)) W) := hI (fun W => by
              have h := HSM.out
              have hks : k < sc.length := by rw [h, List.length_map]; exact hlt
              rw [run_idxS sc k hks W]
              have he : sc[k] = kdC ks[k] := by
                have : sc[k]? = some (kdC ks[k]) := by rw [h, List.getElem?_map, List.getElem?_eq_getElem hlt]; rfl
                rw [List.getElem?_eq_getElem hks] at this
                simpa using this
              rw [he])
            have HFD : Hid ((fitK ks[k] x.l[k] && fitsK (ks.drop (k + 1)) (x.l.drop (k + 1))) = r) := hI (by rw [← fitsK_drop ks x.l k hlt hlx]; exact HF.out)
            have HNX : Hid (fitK ks[k] x.l[k] = true → fitsK (ks.drop (k + 1)) (x.l.drop (k + 1)) = r) := hI (fun h => by have := HFD.out; rwa [h, Bool.true_and] at this)
            have HNO : Hid (fitK ks[k] x.l[k] = false → r = false) := hI (fun h => by have := HFD.out; rw [h, Bool.false_and] at this; exact this.symm)
            have hq4w : wr.cell? ⟨q, 4, none⟩ = some (.slice (some ⟨bl, ol, none⟩) x.l.length cl) := (HQ1.out.below HB.out hqw).cell 4
            clear hre hrc hbw hcr HF HFD hq4 hq0 hq1
            generalize x.l[k] = y at *
            generalize ks[k] = K at *
            clear hlx
            generalize hnn : x.l.length = nn at *
            have HN5 := hI (Blk.new wr zs5 37)
            go_upto_region 8 with (first | ((with_reducible show wpList _ _ _ (⟨some 34, _, _, _, _, _⟩ :: _) _ _); refine wpList_ldAgg rfl (.tmp 33) aggRef rfl rfl (cs := re) HRL.out HCR.out ?_) | ((with_reducible show wpList _ _ _ (⟨none, .store _ (.tmp 5) (.tmp 34), _, _, _, _⟩ :: _) _ _); refine wpList_stAgg rfl (.tmp 5) (.tmp 34) aggRef rfl rfl (vs := re) rfl HRL.out HN5.out (Nat.le_refl _) HRO.out ?_))
            intro w3 h3 k3
            have h3' : Blk w3 wr.heap.size re 37 := by
              rw [List.drop_of_length_le (by decide), List.append_nil] at h3
              exact h3
            have hz3 := k3.size
            simp at hz3
            have hb3 : Below wr.heap.size wr w3 := ((Below.refl _ _).alloc (Nat.le_refl _) _).trans (k3.below (by omega))
            have H3 := hI h3'
            have HB3 : Hid (Below w1.heap.size w1 w3) := hI (HB.out.trans (hb3.mono hbz))
            have HTY3 := hI (HTY.out.below hb3)
            obtain ⟨p5, hp5⟩ : ∃ p5, p5 = wr.heap.size := ⟨_, rfl⟩
            rw [← hp5] at H3 ⊢
            have hp3 : p5 < w3.heap.size := H3.out.lt
            have HW : Hid (∀ W, Below w3.heap.size w3 W → Below w.heap.size w W) := hI (fun W h => HB1.out.trans ((HB3.out.trans (h.mono HB3.out.size)).mono HB1.out.size))
            clear h3 k3 h3' hb3 HN5 HCR HTY hq4w hp5
            go_upto_region 8 with fail
            cases K with
            | s =>
              have hsx : ∀ W, (Instr.index 9 (.string (tx sc)) (.int .i64 (k : Int))).run Try.prog W = .ok (.int .u8 115) W := HSX.out
              have HFT := hI (refFits_any .s rfl y F re w3.drew (HTY3.out.below ((Below.refl _ _).drew)))
              go_upto_region 9 with fail
              generalize fitK .s y = d at *
              obtain ⟨wd, hwd⟩ : ∃ wd, wd = World.drew w3 := ⟨_, rfl⟩
              have HS0 : Hid (Below w3.heap.size w3 wd) := hI (by rw [hwd]; exact (Below.refl _ _).drew)
              have HFT : Hid (Calls Try.prog 21 #[.agg re.toArray, .int .u8 115] wd fun e w' => e = .returned (.bool d) ∧ Below wd.heap.size wd w') := hI (by rw [hwd]; exact HFT.out)
              refine wp_region_held (S := fun W => Below w3.heap.size w3 W) (by kernel_rfl) ?_
              change wpAnyH _ _ _ _ _ _ _ _ (World.drew _)
              rw [← hwd]
              clear hwd
              refine tkH 0 38 none (.agg re.toArray) rfl (by kernel_rfl) (fun _ _ _ h => h) (by rfl) (by intro W hW; exact exec_ldAgg rfl aggRef rfl HRL.out (H3.out.below hW hp3).cellsAll) HS0.out ?_
              simp only [Act.put, q1, q2, q3]
              refine tkH 1 39 none (.string (tx sc)) rfl (by kernel_rfl) (fun _ _ _ h => h) (by rfl) (by intro W hW; go_simp) HS0.out ?_
              simp only [Act.put, q1, q2, q3]
              refine tkH 2 40 none (.int .i64 k) rfl (by kernel_rfl) (fun _ _ _ h => h) (by rfl) (by intro W hW; go_simp) HS0.out ?_
              simp only [Act.put, q1, q2, q3]
              refine tkH 3 41 none (.int .u8 115) rfl (by kernel_rfl) (fun _ _ _ h => h) (by rfl) (by intro W hW; have hc := hsx W; go_simp) HS0.out ?_
              simp only [Act.put, q1, q2, q3]
              refine anyH_ready (rs := [4]) (by decide +kernel) (by simp) ?_
              refine AllReadyH.cons (o := { dst := some 42, op := .call { callee := .value (.func 21), args := #[.tmp 38, .tmp 41], argTypes := #[37, 5] }, type := _, pos := _, after := _, guard := none }) rfl (fun K hK => ?_) AllReadyH.nil
              go_simp
              refine HFT.out.mono ?_
              rintro e w4 ⟨rfl, hb⟩
              have HS0 : Hid (Below w3.heap.size w3 w4) := hI (HS0.out.trans (hb.mono HS0.out.size))
              clear hb HFT
              refine hK _ _ HS0.out ?_
              clear hK K
              try simp only [Act.put, q1, q2, q3]
              refine tkH 5 43 none (.bool (!d)) rfl (by kernel_rfl) (fun _ _ _ h => h) (by rfl) (by intro W hW; go_simp) HS0.out ?_
              simp only [Act.put, q1, q2, q3]
              refine wpAnyH_done (by decide +kernel) ?_ _
              cases d with
              | true =>
                go_wp2_with fail
                go_roundw
                case rel => exact ⟨k + 1, by omega, by go_num, HB3.out.trans (HS0.out.mono HB3.out.size), HNX.out (by first | rfl | trivial)⟩
                case measure => simp [intOf]; omega
              | false =>
                go_wp2_with fail
                go_ret
                rw [HNO.out (by first | rfl | trivial)]
                exact ⟨rfl, HW.out _ HS0.out⟩
            | n =>
              have hsx : ∀ W, (Instr.index 9 (.string (tx sc)) (.int .i64 (k : Int))).run Try.prog W = .ok (.int .u8 110) W := HSX.out
              have HFT := hI (refFits_any .n rfl y F re w3.drew (HTY3.out.below ((Below.refl _ _).drew)))
              go_upto_region 9 with fail
              generalize fitK .n y = d at *
              obtain ⟨wd, hwd⟩ : ∃ wd, wd = World.drew w3 := ⟨_, rfl⟩
              have HS0 : Hid (Below w3.heap.size w3 wd) := hI (by rw [hwd]; exact (Below.refl _ _).drew)
              have HFT : Hid (Calls Try.prog 21 #[.agg re.toArray, .int .u8 110] wd fun e w' => e = .returned (.bool d) ∧ Below wd.heap.size wd w') := hI (by rw [hwd]; exact HFT.out)
              refine wp_region_held (S := fun W => Below w3.heap.size w3 W) (by kernel_rfl) ?_
              change wpAnyH _ _ _ _ _ _ _ _ (World.drew _)
              rw [← hwd]
              clear hwd
              refine tkH 0 38 none (.agg re.toArray) rfl (by kernel_rfl) (fun _ _ _ h => h) (by rfl) (by intro W hW; exact exec_ldAgg rfl aggRef rfl HRL.out (H3.out.below hW hp3).cellsAll) HS0.out ?_
              simp only [Act.put, q1, q2, q3]
              refine tkH 1 39 none (.string (tx sc)) rfl (by kernel_rfl) (fun _ _ _ h => h) (by rfl) (by intro W hW; go_simp) HS0.out ?_
              simp only [Act.put, q1, q2, q3]
              refine tkH 2 40 none (.int .i64 k) rfl (by kernel_rfl) (fun _ _ _ h => h) (by rfl) (by intro W hW; go_simp) HS0.out ?_
              simp only [Act.put, q1, q2, q3]
              refine tkH 3 41 none (.int .u8 110) rfl (by kernel_rfl) (fun _ _ _ h => h) (by rfl) (by intro W hW; have hc := hsx W; go_simp) HS0.out ?_
              simp only [Act.put, q1, q2, q3]
              refine anyH_ready (rs := [4]) (by decide +kernel) (by simp) ?_
              refine AllReadyH.cons (o := { dst := some 42, op := .call { callee := .value (.func 21), args := #[.tmp 38, .tmp 41], argTypes := #[37, 5] }, type := _, pos := _, after := _, guard := none }) rfl (fun K hK => ?_) AllReadyH.nil
              go_simp
              refine HFT.out.mono ?_
              rintro e w4 ⟨rfl, hb⟩
              have HS0 : Hid (Below w3.heap.size w3 w4) := hI (HS0.out.trans (hb.mono HS0.out.size))
              clear hb HFT
              refine hK _ _ HS0.out ?_
              clear hK K
              try simp only [Act.put, q1, q2, q3]
              refine tkH 5 43 none (.bool (!d)) rfl (by kernel_rfl) (fun _ _ _ h => h) (by rfl) (by intro W hW; go_simp) HS0.out ?_
              simp only [Act.put, q1, q2, q3]
              refine wpAnyH_done (by decide +kernel) ?_ _
              cases d with
              | true =>
                go_wp2_with fail
                go_roundw
                case rel => exact ⟨k + 1, by omega, by go_num, HB3.out.trans (HS0.out.mono HB3.out.size), HNX.out (by first | rfl | trivial)⟩
                case measure => simp [intOf]; omega
              | false =>
                go_wp2_with fail
                go_ret
                rw [HNO.out (by first | rfl | trivial)]
                exact ⟨rfl, HW.out _ HS0.out⟩
            | b =>
              have hsx : ∀ W, (Instr.index 9 (.string (tx sc)) (.int .i64 (k : Int))).run Try.prog W = .ok (.int .u8 98) W := HSX.out
              have HFT := hI (refFits_any .b rfl y F re w3.drew (HTY3.out.below ((Below.refl _ _).drew)))
              go_upto_region 9 with fail
              generalize fitK .b y = d at *
              obtain ⟨wd, hwd⟩ : ∃ wd, wd = World.drew w3 := ⟨_, rfl⟩
              have HS0 : Hid (Below w3.heap.size w3 wd) := hI (by rw [hwd]; exact (Below.refl _ _).drew)
              have HFT : Hid (Calls Try.prog 21 #[.agg re.toArray, .int .u8 98] wd fun e w' => e = .returned (.bool d) ∧ Below wd.heap.size wd w') := hI (by rw [hwd]; exact HFT.out)
              refine wp_region_held (S := fun W => Below w3.heap.size w3 W) (by kernel_rfl) ?_
              change wpAnyH _ _ _ _ _ _ _ _ (World.drew _)
              rw [← hwd]
              clear hwd
              refine tkH 0 38 none (.agg re.toArray) rfl (by kernel_rfl) (fun _ _ _ h => h) (by rfl) (by intro W hW; exact exec_ldAgg rfl aggRef rfl HRL.out (H3.out.below hW hp3).cellsAll) HS0.out ?_
              simp only [Act.put, q1, q2, q3]
              refine tkH 1 39 none (.string (tx sc)) rfl (by kernel_rfl) (fun _ _ _ h => h) (by rfl) (by intro W hW; go_simp) HS0.out ?_
              simp only [Act.put, q1, q2, q3]
              refine tkH 2 40 none (.int .i64 k) rfl (by kernel_rfl) (fun _ _ _ h => h) (by rfl) (by intro W hW; go_simp) HS0.out ?_
              simp only [Act.put, q1, q2, q3]
              refine tkH 3 41 none (.int .u8 98) rfl (by kernel_rfl) (fun _ _ _ h => h) (by rfl) (by intro W hW; have hc := hsx W; go_simp) HS0.out ?_
              simp only [Act.put, q1, q2, q3]
              refine anyH_ready (rs := [4]) (by decide +kernel) (by simp) ?_
              refine AllReadyH.cons (o := { dst := some 42, op := .call { callee := .value (.func 21), args := #[.tmp 38, .tmp 41], argTypes := #[37, 5] }, type := _, pos := _, after := _, guard := none }) rfl (fun K hK => ?_) AllReadyH.nil
              go_simp
              refine HFT.out.mono ?_
              rintro e w4 ⟨rfl, hb⟩
              have HS0 : Hid (Below w3.heap.size w3 w4) := hI (HS0.out.trans (hb.mono HS0.out.size))
              clear hb HFT
              refine hK _ _ HS0.out ?_
              clear hK K
              try simp only [Act.put, q1, q2, q3]
              refine tkH 5 43 none (.bool (!d)) rfl (by kernel_rfl) (fun _ _ _ h => h) (by rfl) (by intro W hW; go_simp) HS0.out ?_
              simp only [Act.put, q1, q2, q3]
              refine wpAnyH_done (by decide +kernel) ?_ _
              cases d with
              | true =>
                go_wp2_with fail
                go_roundw
                case rel => exact ⟨k + 1, by omega, by go_num, HB3.out.trans (HS0.out.mono HB3.out.size), HNX.out (by first | rfl | trivial)⟩
                case measure => simp [intOf]; omega
              | false =>
                go_wp2_with fail
                go_ret
                rw [HNO.out (by first | rfl | trivial)]
                exact ⟨rfl, HW.out _ HS0.out⟩
            | t =>
              have hsx : ∀ W, (Instr.index 9 (.string (tx sc)) (.int .i64 (k : Int))).run Try.prog W = .ok (.int .u8 116) W := HSX.out
              have HFT := hI (refFits_any .t rfl y F re w3.drew (HTY3.out.below ((Below.refl _ _).drew)))
              go_upto_region 9 with fail
              generalize fitK .t y = d at *
              obtain ⟨wd, hwd⟩ : ∃ wd, wd = World.drew w3 := ⟨_, rfl⟩
              have HS0 : Hid (Below w3.heap.size w3 wd) := hI (by rw [hwd]; exact (Below.refl _ _).drew)
              have HFT : Hid (Calls Try.prog 21 #[.agg re.toArray, .int .u8 116] wd fun e w' => e = .returned (.bool d) ∧ Below wd.heap.size wd w') := hI (by rw [hwd]; exact HFT.out)
              refine wp_region_held (S := fun W => Below w3.heap.size w3 W) (by kernel_rfl) ?_
              change wpAnyH _ _ _ _ _ _ _ _ (World.drew _)
              rw [← hwd]
              clear hwd
              refine tkH 0 38 none (.agg re.toArray) rfl (by kernel_rfl) (fun _ _ _ h => h) (by rfl) (by intro W hW; exact exec_ldAgg rfl aggRef rfl HRL.out (H3.out.below hW hp3).cellsAll) HS0.out ?_
              simp only [Act.put, q1, q2, q3]
              refine tkH 1 39 none (.string (tx sc)) rfl (by kernel_rfl) (fun _ _ _ h => h) (by rfl) (by intro W hW; go_simp) HS0.out ?_
              simp only [Act.put, q1, q2, q3]
              refine tkH 2 40 none (.int .i64 k) rfl (by kernel_rfl) (fun _ _ _ h => h) (by rfl) (by intro W hW; go_simp) HS0.out ?_
              simp only [Act.put, q1, q2, q3]
              refine tkH 3 41 none (.int .u8 116) rfl (by kernel_rfl) (fun _ _ _ h => h) (by rfl) (by intro W hW; have hc := hsx W; go_simp) HS0.out ?_
              simp only [Act.put, q1, q2, q3]
              refine anyH_ready (rs := [4]) (by decide +kernel) (by simp) ?_
              refine AllReadyH.cons (o := { dst := some 42, op := .call { callee := .value (.func 21), args := #[.tmp 38, .tmp 41], argTypes := #[37, 5] }, type := _, pos := _, after := _, guard := none }) rfl (fun K hK => ?_) AllReadyH.nil
              go_simp
              refine HFT.out.mono ?_
              rintro e w4 ⟨rfl, hb⟩
              have HS0 : Hid (Below w3.heap.size w3 w4) := hI (HS0.out.trans (hb.mono HS0.out.size))
              clear hb HFT
              refine hK _ _ HS0.out ?_
              clear hK K
              try simp only [Act.put, q1, q2, q3]
              refine tkH 5 43 none (.bool (!d)) rfl (by kernel_rfl) (fun _ _ _ h => h) (by rfl) (by intro W hW; go_simp) HS0.out ?_
              simp only [Act.put, q1, q2, q3]
              refine wpAnyH_done (by decide +kernel) ?_ _
              cases d with
              | true =>
                go_wp2_with fail
                go_roundw
                case rel => exact ⟨k + 1, by omega, by go_num, HB3.out.trans (HS0.out.mono HB3.out.size), HNX.out (by first | rfl | trivial)⟩
                case measure => simp [intOf]; omega
              | false =>
                go_wp2_with fail
                go_ret
                rw [HNO.out (by first | rfl | trivial)]
                exact ⟨rfl, HW.out _ HS0.out⟩
            | i =>
              have hsx : ∀ W, (Instr.index 9 (.string (tx sc)) (.int .i64 (k : Int))).run Try.prog W = .ok (.int .u8 105) W := HSX.out
              have HFT := hI (refTicket_any y F re w3 HTY3.out)
              go_wp2_with ((with_reducible show wpList _ _ _ (⟨some 46, _, _, _, _, _⟩ :: _) _ _); refine wpList_ldAgg rfl (.tmp 5) aggRef rfl rfl (cs := re) HRL.out H3.out.cellsAll ?_)
              refine HFT.out.mono ?_
              rintro e w4 ⟨rfl, hb⟩
              have HS0 := hI hb
              clear hb HFT
              have hfk : fitK .i y = tkR y := rfl
              rw [hfk] at HNX HNO
              clear hfk
              generalize tkR y = d at *
              cases d with
              | true =>
                go_wp2_with fail
                go_roundw
                case rel => exact ⟨k + 1, by omega, by go_num, HB3.out.trans (HS0.out.mono HB3.out.size), HNX.out (by first | rfl | trivial)⟩
                case measure => simp [intOf]; omega
              | false =>
                go_wp2_with fail
                go_ret
                rw [HNO.out (by first | rfl | trivial)]
                exact ⟨rfl, HW.out _ HS0.out⟩
            | x =>
              have hsx : ∀ W, (Instr.index 9 (.string (tx sc)) (.int .i64 (k : Int))).run Try.prog W = .ok (.int .u8 120) W := HSX.out
              obtain ⟨bv, lv, rows2, rfl, g1, g2, g3, g4, g5⟩ := HTY3.out.open_
              obtain ⟨al2, cl2, rfl, hcl2, hml2⟩ := g3.form
              unfold maxLen at hml2
              have HG3 := hI g3
              have HG5 := hI g5
              have y0 : w3.cell? ⟨p5, 0, none⟩ = some (.int .i64 y.kind) := H3.out.cell 0
              have y1 : w3.cell? ⟨p5, 1, none⟩ = some (.int .i64 y.tag) := H3.out.cell 1
              have y4 : w3.cell? ⟨p5, 4, none⟩ = some (.slice al2 y.l.length cl2) := H3.out.cell 4
              clear g1 g2 g3 g4 g5
              by_cases hyk : y.kind = 2
              · have HYK := hI hyk
                have hyk1 : (y.kind != 2) = false := by simpa using hyk
                clear hyk
                by_cases hyt : y.tag = 0
                · have HYT := hI hyt
                  have hyt1 : (y.tag != 0) = false := by simpa using hyt
                  clear hyt
                  rcases (by omega : y.l.length = 0 ∨ y.l.length = 1 ∨ 1 < y.l.length) with hyl | hyl | hyl
                  · have HNN := hI (HNX.out (by
                      show (decide (y.kind = 2 ∧ y.tag = 0) && (decide (y.l.length ≤ 1) && y.l.all tkR)) = true
                      rw [List.eq_nil_of_length_eq_zero hyl, decide_eq_true ⟨HYK.out, HYT.out⟩]
                      rfl))
                    have hl2 : ((y.l.length : Int) == 1) = false := by simp; omega
                    have hl3 : ¬ (1 : Int) < (y.l.length : Int) := by omega
                    clear HNX HNO hyl
                    go_wp2_with fail
                    go_roundw
                    case rel => exact ⟨k + 1, by omega, by go_num, HB3.out, HNN.out⟩
                    case measure => simp [intOf]; omega
                  · obtain ⟨z, hz⟩ := List.length_eq_one_iff.1 hyl
                    obtain ⟨b2, o2, rfl, _⟩ := HG3.out.addr (by rw [HG3.out.1]; omega)
                    obtain ⟨r2, hr2, hc2⟩ := HG5.out.cells HG3.out 0 (by omega)
                    have HR2L := hI hr2.length
                    have HC2 : Hid (CellsAt w3 b2 o2 r2) := hI (by rw [Nat.zero_mul] at hc2; exact hc2)
                    have hz0 : y.l[0] = z := by simp [hz]
                    rw [hz0] at hr2
                    have HFT := hI (refTicket_any z F r2 w3 hr2)
                    have HFE : Hid (fitK .x y = tkR z) := hI (by
                      show (decide (y.kind = 2 ∧ y.tag = 0) && (decide (y.l.length ≤ 1) && y.l.all tkR)) = tkR z
                      rw [hz, decide_eq_true ⟨HYK.out, HYT.out⟩]
                      simp)
                    rw [HFE.out] at HNX HNO
                    have hl3 : ¬ (1 : Int) < 1 := by omega
                    have hl0 : (0 : Int) < (1 : Int) := by omega
                    rw [hyl] at y4
                    clear hr2 hc2 hz0 hz hyl HFE
                    generalize tkR z = d at *
                    go_wp2_with ((with_reducible show wpList _ _ _ (⟨some 74, _, _, _, _, _⟩ :: _) _ _); refine wpList_ldAgg rfl (.tmp 73) aggRef rfl rfl (cs := r2) HR2L.out HC2.out ?_)
                    refine HFT.out.mono ?_
                    rintro e w4 ⟨rfl, hb⟩
                    have HS0 := hI hb
                    clear hb HFT
                    cases d with
                    | true =>
                      go_wp2_with fail
                      go_roundw
                      case rel => exact ⟨k + 1, by omega, by go_num, HB3.out.trans (HS0.out.mono HB3.out.size), HNX.out (by first | rfl | trivial)⟩
                      case measure => simp [intOf]; omega
                    | false =>
                      go_wp2_with fail
                      go_ret
                      rw [HNO.out (by first | rfl | trivial)]
                      exact ⟨rfl, HW.out _ HS0.out⟩
                  · have hl3 : (1 : Int) < (y.l.length : Int) := by omega
                    have HFN : Hid (r = false) := hI (HNO.out (by show (decide (y.kind = 2 ∧ y.tag = 0) && (decide (y.l.length ≤ 1) && y.l.all tkR)) = false; rw [decide_eq_false (by omega : ¬ y.l.length ≤ 1)]; simp))
                    clear HNX HNO
                    go_wp2_with fail
                    go_ret
                    rw [HFN.out]
                    exact ⟨rfl, HW.out _ (Below.refl _ _)⟩
                · have hyt1 : (y.tag != 0) = true := by simpa using hyt
                  have HFN : Hid (r = false) := hI (HNO.out (by show (decide (y.kind = 2 ∧ y.tag = 0) && (decide (y.l.length ≤ 1) && y.l.all tkR)) = false; rw [decide_eq_false (fun hc => hyt hc.2)]; rfl))
                  clear HNX HNO hyt
                  go_wp2_with fail
                  go_ret
                  rw [HFN.out]
                  exact ⟨rfl, HW.out _ (Below.refl _ _)⟩
              · have hyk1 : (y.kind != 2) = true := by simpa using hyk
                have HFN : Hid (r = false) := hI (HNO.out (by show (decide (y.kind = 2 ∧ y.tag = 0) && (decide (y.l.length ≤ 1) && y.l.all tkR)) = false; rw [decide_eq_false (fun hc => hyk hc.1)]; rfl))
                clear HNX HNO hyk
                go_wp2_with fail
                go_ret
                rw [HFN.out]
                exact ⟨rfl, HW.out _ (Below.refl _ _)⟩
          · obtain rfl : k = ks.length := by omega
            have HFD : Hid (r = true) := hI (by
              have h := HF.out
              rw [List.drop_length, ← HL.out, List.drop_length] at h
              exact h.symm)
            clear HF
            go_wp2_with fail
            go_ret
            rw [HFD.out]
            exact ⟨rfl, HB1.out.trans (HB.out.mono HB1.out.size)⟩
      · have hl1 : ((x.l.length : Int) != (ks.length : Int)) = true := by simp; omega
        have HRR : Hid (r = false) := hI (by rw [HR.out]; cases hf : fitsK ks x.l with | false => simp | true => exact absurd (fitsK_len hf) hl)
        clear hl he hsl hsm HSC HSQ0 HSZ HR
        go_enter Try.func9, Try.ntmps9
        go_upto_region 1 with fail
        show Code.wp _ _ _ _ (w.alloc (.cells #[.int .i64 x.kind, .int .i64 x.tag, .int .u64 (x.n : Int), .slice ab x.b.length cb, .slice al x.l.length cl] 37))
        rw [← hw1, ← hq]
        clear hw1 hq
        go_wp2_with fail
        refine HSH.out.mono ?_
        rintro e w2 ⟨rfl, rfl⟩
        go_wp2_with fail
        go_ret
        rw [HRR.out]
        exact ⟨rfl, HB1.out⟩
    · have hsq : ((tx sc).toList == [63]) = true := by rw [HSQ0.out]; simpa using he
      have HRR : Hid (r = false) := hI (by rw [HR.out]; simp at he; simp [he])
      clear he HSC HSQ0 HR
      go_enter Try.func9, Try.ntmps9
      go_upto_region 1 with fail
      show Code.wp _ _ _ _ (w.alloc (.cells #[.int .i64 x.kind, .int .i64 x.tag, .int .u64 (x.n : Int), .slice ab x.b.length cb, .slice al x.l.length cl] 37))
      rw [← hw1, ← hq]
      clear hw1 hq
      go_wp2_with fail
      refine HSH.out.mono ?_
      rintro e w2 ⟨rfl, rfl⟩
      go_wp2_with fail
      go_ret
      rw [HRR.out]
      exact ⟨rfl, HB1.out⟩
  · have hk1 : (x.kind != 2) = true := by simpa using hk
    have HRR : Hid (r = false) := hI (by rw [HR.out]; simp [hk])
    clear hk HSC HSQ0 HR
    go_enter Try.func9, Try.ntmps9
    go_upto_region 1 with fail
    show Code.wp _ _ _ _ (w.alloc (.cells #[.int .i64 x.kind, .int .i64 x.tag, .int .u64 (x.n : Int), .slice ab x.b.length cb, .slice al x.l.length cl] 37))
    rw [← hw1, ← hq]
    clear hw1 hq
    go_wp2_with fail
    refine HSH.out.mono ?_
    rintro e w2 ⟨rfl, rfl⟩
    go_wp2_with fail
    go_ret
    rw [HRR.out]
    exact ⟨rfl, HB1.out⟩
theorem szTx {l : List UInt8} (h : l.length ≤ 1099511627776) : (tx l).size ≤ maxLen := by rw [tx_size]; unfold maxLen; omega
theorem enters_mtext : Enters Try.prog 33 := Enters.mk Try.func33 (by kernel_rfl) (by kernel_rfl)
theorem enters_mnum : Enters Try.prog 34 := Enters.mk Try.func34 (by kernel_rfl) (by kernel_rfl)
theorem enters_mright : Enters Try.prog 36 := Enters.mk Try.func36 (by kernel_rfl) (by kernel_rfl)
theorem elStr : Elem Try.prog 52 9 1 16 (.string ⟨#[]⟩) := by
  refine Elem.mk Try.underlying52 ?_ rfl (by decide)
  kernel_rfl
theorem elI64 : Elem Try.prog 130 2 1 8 (.int .i64 0) := by
  refine Elem.mk Try.underlying130 ?_ rfl (by decide)
  kernel_rfl
theorem zero_11 (W : World) : (zeroValue 82).run Try.prog W = .ok (.agg #[.string ⟨#[]⟩, .int .i64 0, .int .i64 0, .slice none 0 0]) W := by kernel_rfl
theorem zero_12 (W : World) : (zeroValue 91).run Try.prog W = .ok (.agg #[.string ⟨#[]⟩, .string ⟨#[]⟩, .slice none 0 0, .slice none 0 0]) W := by kernel_rfl
theorem zero_13 (W : World) : (zeroValue 87).run Try.prog W = .ok (.agg #[.string ⟨#[]⟩, .int .i64 0, .int .i64 0, .bool false, .bool false, .string ⟨#[]⟩, .slice none 0 0, .slice none 0 0, .slice none 0 0]) W := by kernel_rfl
theorem zero_14 (W : World) : (zeroValue 92).run Try.prog W = .ok (.agg #[.string ⟨#[]⟩, .string ⟨#[]⟩, .slice none 0 0, .slice none 0 0]) W := by kernel_rfl
theorem zero_15 (W : World) : (zeroValue 54).run Try.prog W = .ok (.agg #[.string ⟨#[]⟩, .string ⟨#[]⟩, .int .i64 0]) W := by kernel_rfl
theorem zero_16 (W : World) : (zeroValue 94).run Try.prog W = .ok (.agg #[.string ⟨#[]⟩, .string ⟨#[]⟩, .int .i64 0, .string ⟨#[]⟩, .slice none 0 0]) W := by kernel_rfl
theorem zero_17 (W : World) : (zeroValue 96).run Try.prog W = .ok (.agg #[.string ⟨#[]⟩, .string ⟨#[]⟩, .int .i64 0, .string ⟨#[]⟩, .slice none 0 0, .slice none 0 0]) W := by kernel_rfl
theorem zero_18 (W : World) : (zeroValue 98).run Try.prog W = .ok (.agg #[.string ⟨#[]⟩, .string ⟨#[]⟩, .int .i64 0, .slice none 0 0]) W := by kernel_rfl
theorem zero_19 (W : World) : (zeroValue 100).run Try.prog W = .ok (.agg #[.string ⟨#[]⟩, .string ⟨#[]⟩, .int .i64 0, .int .i64 0, .int .i64 0, .slice none 0 0]) W := by kernel_rfl
theorem zero_20 (W : World) : (zeroValue 89).run Try.prog W = .ok (.agg #[.string ⟨#[]⟩, .int .i64 0, .int .i64 0, .bool false, .string ⟨#[]⟩, .slice none 0 0, .slice none 0 0]) W := by kernel_rfl
theorem zero_21 (W : World) : (zeroValue 102).run Try.prog W = .ok (.agg #[.string ⟨#[]⟩, .slice none 0 0]) W := by kernel_rfl
theorem zero_22 (W : World) : (zeroValue 104).run Try.prog W = .ok (.agg #[.string ⟨#[]⟩, .int .i64 0, .int .i64 0]) W := by kernel_rfl
set_option maxHeartbeats 16000000 in
set_option maxRecDepth 100000 in
theorem msgValue_15 (F0 : Nat → Prop) (l1 : List UInt8) (l2 : List UInt8) (x3 : Int) (w : World) (hz1 : l1.length ≤ 1099511627776) (hz2 : l2.length ≤ 1099511627776) (hz3 : -9223372036854775808 ≤ x3 ∧ x3 ≤ 9223372036854775807) :
    Calls Try.prog 25 #[.iface 54 (.agg #[.string (tx l1), .string (tx l2), .int .i64 x3])] w (VlRes w (.mk 2 15 0 [] ([.s l1, .s l2, .n x3].map ptTv)) ([.s l1, .s l2, .n x3].all ptB)) := by
  have HC : Hid (VC w w.heap.size [(w.heap.size + 1, [.string (tx l1), .string (tx l2), .int .i64 x3], 54)] [] [] ((w.alloc (.cells zs5.toArray 70)).alloc (.cells [.string (tx l1), .string (tx l2), .int .i64 x3].toArray 54))) := hI (VC.start (by intro r hr; cases hr) _ _)
  have HSZ : Hid (∀ u ∈ [tx l1, tx l2], u.size ≤ maxLen) := hI (by intro u hu; simp only [List.mem_cons, List.not_mem_nil, or_false] at hu; rcases hu with rfl | rfl; exact szTx hz1; exact szTx hz2)
  have HZ1 := hI hz1
  clear hz1
  have HZ2 := hI hz2
  clear hz2
  have HZ3 := hI hz3
  clear hz3
  obtain ⟨z11, hta11⟩ := tan 82 54 (.agg #[.string (tx l1), .string (tx l2), .int .i64 x3]) zero_11 (by kernel_rfl) (by decide)
  obtain ⟨z12, hta12⟩ := tan 91 54 (.agg #[.string (tx l1), .string (tx l2), .int .i64 x3]) zero_12 (by kernel_rfl) (by decide)
  obtain ⟨z13, hta13⟩ := tan 87 54 (.agg #[.string (tx l1), .string (tx l2), .int .i64 x3]) zero_13 (by kernel_rfl) (by decide)
  obtain ⟨z14, hta14⟩ := tan 92 54 (.agg #[.string (tx l1), .string (tx l2), .int .i64 x3]) zero_14 (by kernel_rfl) (by decide)
  have hta : ∀ W, (Instr.typeAssert (.iface 54 (.agg #[.string (tx l1), .string (tx l2), .int .i64 x3])) 20 54 true).run Try.prog W = .ok (.tuple #[.agg #[.string (tx l1), .string (tx l2), .int .i64 x3], .bool true]) W := fun W => ta_is _ _ _ (by kernel_rfl) W
  obtain ⟨B, hB⟩ : ∃ B, B = [.s l1, .s l2, .n x3].all ptB := ⟨_, rfl⟩
  obtain ⟨X, hX⟩ : ∃ X : Tv, X = .mk 2 15 0 [] ([.s l1, .s l2, .n x3].map ptTv) := ⟨_, rfl⟩
  rw [← hB, ← hX]
  have HB := hI hB
  have HX2 := hI hX
  clear hB hX
  go_enter Try.func25, Try.ntmps25
  go_upto_region 20 with fail
  clear hta hta11 hta12 hta13 hta14
  show Code.wp _ _ _ _ ((w.alloc (.cells zs5.toArray 70)).alloc (.cells [.string (tx l1), .string (tx l2), .int .i64 x3].toArray 54))
  obtain ⟨W0, hW0⟩ : ∃ W0, W0 = (w.alloc (.cells zs5.toArray 70)).alloc (.cells [.string (tx l1), .string (tx l2), .int .i64 x3].toArray 54) := ⟨_, rfl⟩
  rw [← hW0] at HC ⊢
  clear hW0
  obtain ⟨p, hp⟩ : ∃ p, p = w.heap.size + 1 := ⟨_, rfl⟩
  obtain ⟨q, hq⟩ : ∃ q, q = w.heap.size := ⟨_, rfl⟩
  rw [← hp, ← hq] at HC ⊢
  clear hp hq
  have HBE : Hid (B = ([tx l1, tx l2].all rightB && [x3].all timeB)) := hI (by rw [HB.out]; simp only [List.all_cons, List.all_nil, ptB, Bool.and_true, Bool.true_and, Bool.and_false, Bool.false_and, Bool.and_assoc]; first | done | ac_rfl)
  obtain ⟨wd, hwd⟩ : ∃ wd, wd = World.drew W0 := ⟨_, rfl⟩
  have hvd : VC w q [(p, [.string (tx l1), .string (tx l2), .int .i64 x3], 54)] [] [] wd := by rw [hwd]; exact HC.out.drew
  have HXE : Hid (X = .mk 2 15 0 [] [.mk 1 0 0 l1 [], .mk 1 0 0 l2 [], .mk 0 0 (numU x3) [] []]) := hI HX2.out
  have HR : Hid (∀ W, GV (fun b => q < b) q X wd W → VR w q [(p, [.string (tx l1), .string (tx l2), .int .i64 x3], 54)] [] [] W) := hI (fun W h => hvd.gv h)
  have HZD : Hid (∀ W, GV (fun b => q < b) q X wd W → q < W.heap.size ∧ ∀ b, W.heap.size ≤ b → q < b) := hI (fun W h => ⟨(HR.out W h).lt, fun b hb => Nat.lt_of_lt_of_le (HR.out W h).lt hb⟩)
  have HFq : Hid (¬ (fun b => q < b) q) := hI (Nat.lt_irrefl q)
  have HQW : Hid (w.heap.size = q) := hI hvd.hq.symm
  clear hvd HC
  refine wp_region_held (S := fun W => GV (fun b => q < b) q X wd W) (by kernel_rfl) ?_
  change wpAnyH _ _ _ _ _ _ _ _ (World.drew _)
  rw [← hwd]
  clear hwd
  refine tkH 0 165 none (.pointer (some ⟨p, 0, none⟩)) rfl (by kernel_rfl) (fun _ _ _ h => h) (by rfl) (by intro W hW; go_simp) (GV.refl _ _ _ _) ?_
  simp only [Act.put, q1, q2, q3]
  refine tkH 1 166 none (.string (tx l1)) rfl (by kernel_rfl) (fun _ _ _ h => h) (by rfl) (by intro W hW; have hc : W.cell? ⟨p, 0, none⟩ = some (.string (tx l1)) := ((HR.out W hW).blkAt 0 rfl).cell 0; go_simp) (GV.refl _ _ _ _) ?_
  simp only [Act.put, q1, q2, q3]
  refine tkH 3 168 none (.pointer (some ⟨p, 1, none⟩)) rfl (by kernel_rfl) (fun _ _ _ h => h) (by rfl) (by intro W hW; go_simp) (GV.refl _ _ _ _) ?_
  simp only [Act.put, q1, q2, q3]
  refine tkH 4 169 none (.string (tx l2)) rfl (by kernel_rfl) (fun _ _ _ h => h) (by rfl) (by intro W hW; have hc : W.cell? ⟨p, 1, none⟩ = some (.string (tx l2)) := ((HR.out W hW).blkAt 0 rfl).cell 1; go_simp) (GV.refl _ _ _ _) ?_
  simp only [Act.put, q1, q2, q3]
  refine tkH 6 171 none (.pointer (some ⟨p, 2, none⟩)) rfl (by kernel_rfl) (fun _ _ _ h => h) (by rfl) (by intro W hW; go_simp) (GV.refl _ _ _ _) ?_
  simp only [Act.put, q1, q2, q3]
  refine tkH 7 172 none (.int .i64 x3) rfl (by kernel_rfl) (fun _ _ _ h => h) (by rfl) (by intro W hW; have hc : W.cell? ⟨p, 2, none⟩ = some (.int .i64 x3) := ((HR.out W hW).blkAt 0 rfl).cell 2; go_simp) (GV.refl _ _ _ _) ?_
  simp only [Act.put, q1, q2, q3]
  refine tkH 11 176 none (.pointer (some ⟨p, 0, none⟩)) rfl (by kernel_rfl) (fun _ _ _ h => h) (by rfl) (by intro W hW; go_simp) (GV.refl _ _ _ _) ?_
  simp only [Act.put, q1, q2, q3]
  refine tkH 12 177 none (.string (tx l1)) rfl (by kernel_rfl) (fun _ _ _ h => h) (by rfl) (by intro W hW; have hc : W.cell? ⟨p, 0, none⟩ = some (.string (tx l1)) := ((HR.out W hW).blkAt 0 rfl).cell 0; go_simp) (GV.refl _ _ _ _) ?_
  simp only [Act.put, q1, q2, q3]
  refine tkH 13 178 none (.pointer (some ⟨p, 1, none⟩)) rfl (by kernel_rfl) (fun _ _ _ h => h) (by rfl) (by intro W hW; go_simp) (GV.refl _ _ _ _) ?_
  simp only [Act.put, q1, q2, q3]
  refine tkH 14 179 none (.string (tx l2)) rfl (by kernel_rfl) (fun _ _ _ h => h) (by rfl) (by intro W hW; have hc : W.cell? ⟨p, 1, none⟩ = some (.string (tx l2)) := ((HR.out W hW).blkAt 0 rfl).cell 1; go_simp) (GV.refl _ _ _ _) ?_
  simp only [Act.put, q1, q2, q3]
  refine tkH 16 181 none (.pointer (some ⟨p, 2, none⟩)) rfl (by kernel_rfl) (fun _ _ _ h => h) (by rfl) (by intro W hW; go_simp) (GV.refl _ _ _ _) ?_
  simp only [Act.put, q1, q2, q3]
  refine tkH 17 182 none (.int .i64 x3) rfl (by kernel_rfl) (fun _ _ _ h => h) (by rfl) (by intro W hW; have hc : W.cell? ⟨p, 2, none⟩ = some (.int .i64 x3) := ((HR.out W hW).blkAt 0 rfl).cell 2; go_simp) (GV.refl _ _ _ _) ?_
  simp only [Act.put, q1, q2, q3]
  refine anyH_steps (G := GV (fun b => q < b) q X) (Post := postV (fun b => q < b) q X [.any, .any, .val (.mk 1 0 0 l1 []), .any, .any, .val (.mk 1 0 0 l2 []), .any, .any, .val (.mk 0 0 (numU x3) [] []), .vals [.mk 1 0 0 l1 [], .mk 1 0 0 l2 [], .mk 0 0 (numU x3) [] []], .val (.mk 2 15 0 [] [.mk 1 0 0 l1 [], .mk 1 0 0 l2 [], .mk 0 0 (numU x3) [] []]), .any, .any, .any, .any, .row [.string (tx l1), .string (tx l2)], .any, .any, .row [.int .i64 x3], .is (.bool ([tx l1, tx l2].all rightB && [x3].all timeB)), .fin, .is (.bool ([tx l1, tx l2].all rightB && [x3].all timeB))]) (ds := [167, 170, 173, 174, 175, 180, 183, 184, 3]) (GV.refl _ _ _) GV.trans (fun W W' h g => GV.trans _ _ _ h g) (fun i v W W' h g => PK.stable HFq.out h g) [2, 5, 8, 9, 10, 15, 18, 19, 20, 21] 397 rfl (by decide +kernel) (by decide +kernel) ?_ ?_ (GV.refl _ _ _ _) (by decide +kernel)
  · refine AllSteps.cons (o := { dst := some 167, op := .call { callee := .value (.func 33), args := #[.tmp 166], argTypes := #[9] }, type := _, pos := _, after := _, guard := none }) rfl (fun a W hf hS hd K hK => ?_) ?_
    · have e166 : a.eval (.tmp 166) = .string (tx l1) := hf.lit 166 (by decide) rfl
      exact stepV_mk (wanted_none rfl) rfl enters_mtext (vs := #[.string (tx l1)]) (by simp [e166]) (mtext_any l1 W HZ1.out) (HZD.out W hS).1 (HZD.out W hS).2 hK
    refine AllSteps.cons (o := { dst := some 170, op := .call { callee := .value (.func 33), args := #[.tmp 169], argTypes := #[9] }, type := _, pos := _, after := _, guard := none }) rfl (fun a W hf hS hd K hK => ?_) ?_
    · have e169 : a.eval (.tmp 169) = .string (tx l2) := hf.lit 169 (by decide) rfl
      exact stepV_mk (wanted_none rfl) rfl enters_mtext (vs := #[.string (tx l2)]) (by simp [e169]) (mtext_any l2 W HZ2.out) (HZD.out W hS).1 (HZD.out W hS).2 hK
    refine AllSteps.cons (o := { dst := some 173, op := .call { callee := .value (.func 34), args := #[.tmp 172], argTypes := #[2] }, type := _, pos := _, after := _, guard := none }) rfl (fun a W hf hS hd K hK => ?_) ?_
    · have e172 : a.eval (.tmp 172) = .int .i64 x3 := hf.lit 172 (by decide) rfl
      exact stepV_mk (wanted_none rfl) rfl enters_mnum (vs := #[.int .i64 x3]) (by simp [e172]) (mnumI_any x3 W HZ3.out.1 HZ3.out.2) (HZD.out W hS).1 (HZD.out W hS).2 hK
    refine AllSteps.cons (o := { dst := some 174, op := .buildSlice 68 3 #[(0, .tmp 167), (1, .tmp 170), (2, .tmp 173)], type := _, pos := _, after := _, guard := none }) rfl (fun a W hf hS hd K hK => ?_) ?_
    · have d167 := (hd 2 (by decide +kernel)).get (s := 167) rfl
      have d170 := (hd 5 (by decide +kernel)).get (s := 170) rfl
      have d173 := (hd 8 (by decide +kernel)).get (s := 173) rfl
      exact stepV_vals (wanted_none rfl) rfl elDer (ps := [.tmp 167, .tmp 170, .tmp 173]) rfl (l := [.mk 1 0 0 l1 [], .mk 1 0 0 l2 [], .mk 0 0 (numU x3) [] []]) ⟨d167, d170, d173, trivial⟩ rfl (by decide) (by decide) (HZD.out W hS).1 (HZD.out W hS).2 hK
    refine AllSteps.cons (o := { dst := some 175, op := .call { callee := .value (.func 32), args := #[.const (.int .i64 15), .tmp 174], argTypes := #[3, 68] }, type := _, pos := _, after := _, guard := none }) rfl (fun a W hf hS hd K hK => ?_) ?_
    · have d174 := (hd 9 (by decide +kernel)).get (s := 174) rfl
      exact stepV_seq (wanted_none rfl) rfl enters_seq d174 (HZD.out W hS).1 (fun v w1 h1 h2 => hK v w1 h1 h2) HFq.out
    refine AllSteps.cons (o := { dst := some 180, op := .buildSlice 52 2 #[(0, .tmp 177), (1, .tmp 179)], type := _, pos := _, after := _, guard := none }) rfl (fun a W hf hS hd K hK => ?_) ?_
    · have e177 : a.eval (.tmp 177) = .string (tx l1) := hf.lit 177 (by decide) rfl
      have e179 : a.eval (.tmp 179) = .string (tx l2) := hf.lit 179 (by decide) rfl
      exact stepV_row (wanted_none rfl) rfl elStr (ps := [.tmp 177, .tmp 179]) rfl (cs := [.string (tx l1), .string (tx l2)]) (by simp only [List.map_cons, List.map_nil, e177, e179]) (by intro u hu; simp only [List.mem_cons, List.not_mem_nil, or_false] at hu; rcases hu with rfl | rfl <;> exact ⟨rfl, rfl⟩) rfl (by decide) (by decide) (HZD.out W hS).1 (HZD.out W hS).2 hK
    refine AllSteps.cons (o := { dst := some 183, op := .buildSlice 130 1 #[(0, .tmp 182)], type := _, pos := _, after := _, guard := none }) rfl (fun a W hf hS hd K hK => ?_) ?_
    · have e182 : a.eval (.tmp 182) = .int .i64 x3 := hf.lit 182 (by decide) rfl
      exact stepV_row (wanted_none rfl) rfl elI64 (ps := [.tmp 182]) rfl (cs := [.int .i64 x3]) (by simp only [List.map_cons, List.map_nil, e182]) (by intro u hu; simp only [List.mem_cons, List.not_mem_nil, or_false] at hu; rcases hu with rfl <;> exact ⟨rfl, rfl⟩) rfl (by decide) (by decide) (HZD.out W hS).1 (HZD.out W hS).2 hK
    refine AllSteps.cons (o := { dst := some 184, op := .call { callee := .value (.func 36), args := #[.tmp 180, .tmp 183], argTypes := #[52, 130] }, type := _, pos := _, after := _, guard := none }) rfl (fun a W hf hS hd K hK => ?_) ?_
    · have d180 := (hd 15 (by decide +kernel)).get (s := 180) rfl
      have d183 := (hd 18 (by decide +kernel)).get (s := 183) rfl
      exact stepV_is (wanted_none rfl) rfl enters_mright (vs := #[a.eval (.tmp 180), a.eval (.tmp 183)]) (by first | (simp only [List.map_toArray, List.map_cons, List.map_nil]; done) | (simp only [List.map_toArray, List.map_cons, List.map_nil]; rfl)) (u := (.bool ([tx l1, tx l2].all rightB && [x3].all timeB))) (mright_any [tx l1, tx l2] [x3] _ _ W d180.1 d183.1 HSZ.out) (HZD.out W hS).1 hK
    refine AllSteps.cons (o := { dst := none, op := .store 70 (.tmp 2) (.tmp 175), type := _, pos := _, after := _, guard := none }) rfl (fun a W hf hS hd K hK => ?_) ?_
    · have e2 : a.eval (.tmp 2) = .pointer (some ⟨q, 0, none⟩) := hf.lit 2 (by decide) rfl
      have d175 := (hd 10 (by decide +kernel)).get (s := 175) rfl
      obtain ⟨cur, hc1, hc2⟩ := (HR.out W hS).len
      rw [← HXE.out] at d175
      exact stepV_fin (wanted_none rfl) rfl e2 d175 hc1 hc2 HFq.out hK
    refine AllSteps.cons (o := { dst := some 3, op := .assign (.tmp 184), type := _, pos := _, after := _, guard := none }) rfl (fun a W hf hS hd K hK => ?_) ?_
    · have d184 := (hd 19 (by decide +kernel)).get (s := 184) rfl
      exact step_val (wanted_none rfl) (exec_asg rfl rfl) (hK _ _ (GV.refl _ _ _ _) d184)
    exact AllSteps.nil
  · intro a W hf hS hp
    have h3 := (hp 21 (by decide)).get (s := 3) rfl
    obtain ⟨v, cs, h5, h6⟩ := (hp 20 (by decide)).fin
    have e2 : a.eval (.tmp 2) = .pointer (some ⟨q, 0, none⟩) := hf.lit 2 (by decide) rfl
    go_wp2_with fail
    refine bodyPost_ret (results_agg_tmp rfl aggDer (show a.tmps.getD 2 undef = _ from e2) h6.length h5.cellsAll) hf.defers ⟨cs, ?_, ?_, (HR.out W hS).below⟩
    · rw [HBE.out, show a.tmps.getD 3 undef = .bool ([tx l1, tx l2].all rightB && [x3].all timeB) from h3]
    · exact h6.mono (fun b hb => by have := HQW.out; omega)
/-- Parts that memory has room for. -/
def PtOk : Pt → Prop
  | .s l => l.length ≤ 1099511627776
  | .n x => -9223372036854775808 ≤ x ∧ x ≤ 9223372036854775807
  | .b l => l.length ≤ 1099511627776
  | .t _ => True
  | .i t => t.1.length ≤ 1099511627776 ∧ t.2.length ≤ 1099511627776
  | .x l => (∀ t ∈ l, t.1.length ≤ 1099511627776 ∧ t.2.length ≤ 1099511627776) ∧ l.length ≤ 1954687338211
theorem map_cons_ex {pts : List Pt} {k : Kd} {ks : List Kd} (h : pts.map kdOf = k :: ks) : ∃ p r, pts = p :: r ∧ kdOf p = k ∧ r.map kdOf = ks := by
  cases pts with
  | nil => simp at h
  | cons p r =>
    simp only [List.map_cons, List.cons.injEq] at h
    exact ⟨p, r, rfl, h.1, h.2⟩
theorem map_nil_ex {pts : List Pt} (h : pts.map kdOf = []) : pts = [] := List.map_eq_nil_iff.1 h
theorem kd_s {p : Pt} (h : kdOf p = .s) : ∃ y : List UInt8, p = .s y := by
  cases p <;> first | exact ⟨_, rfl⟩ | cases h
theorem kd_n {p : Pt} (h : kdOf p = .n) : ∃ y : Int, p = .n y := by
  cases p <;> first | exact ⟨_, rfl⟩ | cases h
theorem kd_b {p : Pt} (h : kdOf p = .b) : ∃ y : List UInt8, p = .b y := by
  cases p <;> first | exact ⟨_, rfl⟩ | cases h
theorem kd_t {p : Pt} (h : kdOf p = .t) : ∃ y : Bool, p = .t y := by
  cases p <;> first | exact ⟨_, rfl⟩ | cases h
theorem kd_i {p : Pt} (h : kdOf p = .i) : ∃ y : List UInt8 × List UInt8, p = .i y := by
  cases p <;> first | exact ⟨_, rfl⟩ | cases h
theorem kd_x {p : Pt} (h : kdOf p = .x) : ∃ y : List (List UInt8 × List UInt8), p = .x y := by
  cases p <;> first | exact ⟨_, rfl⟩ | cases h
end Go.Proofs.Ytofmkkcbfeadgaa
