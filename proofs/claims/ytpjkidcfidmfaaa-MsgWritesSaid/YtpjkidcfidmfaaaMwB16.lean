/- Texts of this proof, one behind the other: MRef3, MWrP, MsgRest, MsgW0, MsgW1. -/
import Derived.Test.YtpjkidcfidmfaaaMwB15
import Derived.Lib.DecodeN
import Derived.Lib.QuoteLoop
import Derived.Deep.DeepCutAuto
namespace Go.Proofs.Ytpjkidcfidmfaaa
set_option linter.unusedSimpArgs false
set_option linter.unusedVariables false
open Go.RowKit
set_option maxHeartbeats 1000000 in
set_option maxRecDepth 100000 in
theorem refTicket_any (x : Tv) (F : Nat → Prop) (cs : List Value) (w : World) (h : TvF w F x cs) : Calls Try.prog 22 #[.agg cs.toArray] w fun e w' => e = .returned (.bool (tkR x)) ∧ Below w.heap.size w w' := by
  have HTX := hqZ h
  obtain ⟨bv, lv, rows, rfl, hb1, hb2, hb3, hb4, hb5⟩ := h.open_
  obtain ⟨al, cl, rfl, hcl, hml⟩ := hb3.form
  obtain ⟨ab, cb, rfl, hcb, hmb⟩ := hb1.form
  unfold maxLen at hml
  clear h hb1 hb2 hb3 hb4 hb5
  obtain ⟨r, hr⟩ : ∃ r, r = tkR x := ⟨_, rfl⟩
  rw [← hr]
  have HR := hqZ hr
  clear hr
  obtain ⟨q, hq⟩ : ∃ q, q = w.heap.size := ⟨_, rfl⟩
  obtain ⟨w1, hw1⟩ : ∃ w1, w1 = w.alloc (.cells #[.int .i64 x.kind, .int .i64 x.tag, .int .u64 (x.n : Int), .slice ab x.b.length cb, .slice al x.l.length cl] 30) := ⟨_, rfl⟩
  have HB1 : Hid (Below w.heap.size w w1) := hqZ (by rw [hw1]; exact (Below.refl _ _).alloc (Nat.le_refl _) _)
  have HQ1 : Hid (Blk w1 q [.int .i64 x.kind, .int .i64 x.tag, .int .u64 (x.n : Int), .slice ab x.b.length cb, .slice al x.l.length cl] 30) := hqZ (by rw [hw1, hq]; exact Blk.new _ _ _)
  have hq0 : w1.cell? ⟨q, 0, none⟩ = some (.int .i64 x.kind) := HQ1.out.cell 0
  have hq1 : w1.cell? ⟨q, 1, none⟩ = some (.int .i64 x.tag) := HQ1.out.cell 1
  have hq4 : w1.cell? ⟨q, 4, none⟩ = some (.slice al x.l.length cl) := HQ1.out.cell 4
  have HCALL : Hid (x.tag = 1 → Calls Try.prog 43 #[.agg #[.int .i64 x.kind, .int .i64 x.tag, .int .u64 (x.n : Int), .slice ab x.b.length cb, .slice al x.l.length cl]] w1 fun e w' => e = .returned (.bool (tkR x)) ∧ Below w1.heap.size w1 w') := hqZ (fun ht => refRight10_any x ht F _ w1 (HTX.out.below HB1.out))
  by_cases ht : x.tag = 1
  · have HT := hqZ ht
    have ht1 : (x.tag == 1) = true := by simpa using ht
    clear ht
    go_enter Try.func22, Try.ntmps22
    go_upto_region 1 with fail
    show Code.wp _ _ _ _ (w.alloc (.cells #[.int .i64 x.kind, .int .i64 x.tag, .int .u64 (x.n : Int), .slice ab x.b.length cb, .slice al x.l.length cl] 30))
    rw [← hw1, ← hq]
    clear hw1 hq
    go_wp2_with ((with_reducible show wpList _ _ _ (⟨some 7, _, _, _, _, _⟩ :: _) _ _); refine wpList_ldAgg rfl (.tmp 1) aggRef rfl rfl (cs := [.int .i64 x.kind, .int .i64 x.tag, .int .u64 (x.n : Int), .slice ab x.b.length cb, .slice al x.l.length cl]) rfl HQ1.out.cellsAll ?_)
    refine (HCALL.out HT.out).mono ?_
    rintro e w2 ⟨rfl, hb⟩
    rw [← HR.out]
    have HB2 : Hid (Below w.heap.size w w2) := hqZ (HB1.out.trans (hb.mono HB1.out.size))
    clear hb
    go_wp2_with fail
    go_ret
    exact ⟨rfl, HB2.out⟩
  · have ht1 : (x.tag == 1) = false := by simpa using ht
    have HF : Hid (r = false) := hqZ (by rw [HR.out]; unfold tkR; rw [decide_eq_false (fun hc => ht hc.2)]; rfl)
    clear ht
    go_enter Try.func22, Try.ntmps22
    go_upto_region 1 with fail
    show Code.wp _ _ _ _ (w.alloc (.cells #[.int .i64 x.kind, .int .i64 x.tag, .int .u64 (x.n : Int), .slice ab x.b.length cb, .slice al x.l.length cl] 30))
    rw [← hw1, ← hq]
    clear hw1 hq
    go_wp2_with fail
    go_ret
    rw [HF.out]
    exact ⟨rfl, HB1.out⟩
theorem shapeC_len {t : Int} (h : (shapeS t).isEmpty = false) : (shapeC t).length = (shapeS t).length ∧ shapeC t = (shapeS t).map kdC := by
  have e : shapeC t = (shapeS t).map kdC := by unfold shapeC; rw [if_neg (by rw [h]; decide)]
  exact ⟨by rw [e, List.length_map], e⟩
theorem shapeC_q (t : Int) : (shapeC t == [63]) = (shapeS t).isEmpty := by
  unfold shapeC
  cases h : (shapeS t).isEmpty with
  | true => rfl
  | false =>
    rw [if_neg (by decide)]
    cases hs : shapeS t with
    | nil => rw [hs] at h; cases h
    | cons k ks => cases k <;> rfl
theorem shape_le (t : Int) : (shapeS t).length ≤ 8 := by
  by_cases h : (shapeS t).isEmpty = true
  · rw [List.isEmpty_iff.1 h]; decide
  · have h : (shapeS t).isEmpty = false := by simpa using h
    obtain ⟨h1, h2⟩ := shape_tag h
    rcases (by omega : t = 11 ∨ t = 12 ∨ t = 13 ∨ t = 14 ∨ t = 15 ∨ t = 16 ∨ t = 17 ∨ t = 18 ∨ t = 19 ∨ t = 20 ∨ t = 21 ∨ t = 22) with rfl | rfl | rfl | rfl | rfl | rfl | rfl | rfl | rfl | rfl | rfl | rfl <;> decide
set_option maxHeartbeats 16000000 in
set_option maxRecDepth 100000 in
theorem refRight11_any (x : Tv) (F : Nat → Prop) (cs : List Value) (w : World) (h : TvF w F x cs) : Calls Try.prog 8 #[.agg cs.toArray] w fun e w' => e = .returned (.bool (msgR x)) ∧ Below w.heap.size w w' := by
  obtain ⟨bv, lv, rows, rfl, hb1, hb2, hb3, hb4, hb5⟩ := h.open_
  obtain ⟨al, cl, rfl, hcl, hml⟩ := hb3.form
  obtain ⟨ab, cb, rfl, hcb, hmb⟩ := hb1.form
  unfold maxLen at hml
  have HSL := hqZ hb3
  have HTV := hqZ hb5
  clear h hb1 hb2 hb3 hb4 hb5
  obtain ⟨r, hr⟩ : ∃ r, r = msgR x := ⟨_, rfl⟩
  rw [← hr]
  have HR : Hid (r = (decide (x.kind = 2) && (!(shapeS x.tag).isEmpty && fitsK (shapeS x.tag) x.l))) := hqZ hr
  clear hr
  obtain ⟨q, hq⟩ : ∃ q, q = w.heap.size := ⟨_, rfl⟩
  obtain ⟨w1, hw1⟩ : ∃ w1, w1 = w.alloc (.cells #[.int .i64 x.kind, .int .i64 x.tag, .int .u64 (x.n : Int), .slice ab x.b.length cb, .slice al x.l.length cl] 30) := ⟨_, rfl⟩
  have HB1 : Hid (Below w.heap.size w w1) := hqZ (by rw [hw1]; exact (Below.refl _ _).alloc (Nat.le_refl _) _)
  have HQ1 : Hid (Blk w1 q [.int .i64 x.kind, .int .i64 x.tag, .int .u64 (x.n : Int), .slice ab x.b.length cb, .slice al x.l.length cl] 30) := hqZ (by rw [hw1, hq]; exact Blk.new _ _ _)
  have hq0 : w1.cell? ⟨q, 0, none⟩ = some (.int .i64 x.kind) := HQ1.out.cell 0
  have hq1 : w1.cell? ⟨q, 1, none⟩ = some (.int .i64 x.tag) := HQ1.out.cell 1
  have hq4 : w1.cell? ⟨q, 4, none⟩ = some (.slice al x.l.length cl) := HQ1.out.cell 4
  have HSH := hqZ (refShape_any x.tag w1)
  have HSC : Hid ((shapeS x.tag).isEmpty = false → (shapeC x.tag).length = (shapeS x.tag).length ∧ shapeC x.tag = (shapeS x.tag).map kdC) := hqZ shapeC_len
  have hsq0 : ((tx (shapeC x.tag)).toList == [63]) = (shapeS x.tag).isEmpty := by rw [tx_toList]; exact shapeC_q _
  have hk8 := shape_le x.tag
  have hsz : (tx (shapeC x.tag)).size = (shapeC x.tag).length := tx_size _
  generalize shapeS x.tag = ks at *
  generalize shapeC x.tag = sc at *
  have HSZ := hqZ hsz
  have HSQ0 := hqZ hsq0
  clear hsz hsq0
  by_cases hk : x.kind = 2
  · have HK := hqZ hk
    have hk1 : (x.kind != 2) = false := by simpa using hk
    clear hk
    by_cases he : ks.isEmpty = false
    · obtain ⟨hsl, hsm⟩ := HSC.out he
      have hsz : (tx sc).size = ks.length := HSZ.out.trans hsl
      have hsq : ((tx sc).toList == [63]) = false := HSQ0.out.trans he
      have HSM := hqZ hsm
      by_cases hl : x.l.length = ks.length
      · have HL := hqZ hl
        have hl1 : ((x.l.length : Int) != (ks.length : Int)) = false := by simp; omega
        have HRR : Hid (r = fitsK ks x.l) := hqZ (by rw [HR.out, HK.out, he]; rfl)
        clear hl he hsl hsm HSC HSQ0 HSZ HR
        go_enter Try.func8, Try.ntmps8
        go_upto_region 1 with fail
        show Code.wp _ _ _ _ (w.alloc (.cells #[.int .i64 x.kind, .int .i64 x.tag, .int .u64 (x.n : Int), .slice ab x.b.length cb, .slice al x.l.length cl] 30))
        rw [← hw1, ← hq]
        clear hw1 hq
        go_wp2_with fail
        refine HSH.out.mono ?_
        rintro e w2 ⟨rfl, rfl⟩
        go_wp2_with fail
        go_loopw [4] (fun i wr => ∃ k : Nat, k ≤ ks.length ∧ i = .int .i64 k ∧ Below w1.heap.size w1 wr ∧ fitsK (ks.drop k) (x.l.drop k) = r) (fun i _ => ks.length - (intOf i).toNat)
        case atStart => exact ⟨0, by omega, rfl, Below.refl _ _, HRR.out.symm⟩
        case round =>
          obtain ⟨k, hk, rfl, hB, hF⟩ := hrel
          have HB := hqZ hB
          have HF := hqZ hF
          clear hB hF
          have hbz := HB.out.size
          have hqw := HQ1.out.lt
          by_cases hlt : k < ks.length
          · have hlt1 : (k : Int) < (ks.length : Int) := by omega
            have hlx : k < x.l.length := by rw [HL.out]; exact hlt
            have hlx1 : (k : Int) < (x.l.length : Int) := by omega
            obtain ⟨bl, ol, rfl, _⟩ := HSL.out.addr (by rw [HSL.out.1]; omega)
            obtain ⟨re, hre, hrc⟩ := HTV.out.cells HSL.out k hlx
            have hbw : Below w.heap.size w wr := HB1.out.trans (HB.out.mono HB1.out.size)
            have hcr : CellsAt wr bl (ol + k * 5) re := fun i u hi => below_cell hbw (hrc i u hi)
            have HCR := hqZ hcr
            have HRL := hqZ hre.length
            have HRO := hqZ hre.one
            have HTY := hqZ (hre.below hbw)
            have HSX : Hid (∀ W, (Instr.index 9 (.string (tx sc)) (.int .i64 (k : Int))).run Try.prog W = .ok (.int .u8 ((kdC ks[k]).toNat : Int)) W) := hqZ (fun W => by
              have h := HSM.out
              have hks : k < sc.length := by rw [h, List.length_map]; exact hlt
              rw [run_idxS sc k hks W]
              have he : sc[k] = kdC ks[k] := by
                have : sc[k]? = some (kdC ks[k]) := by rw [h, List.getElem?_map, List.getElem?_eq_getElem hlt]; rfl
                rw [List.getElem?_eq_getElem hks] at this
                simpa using this
              rw [he])
            have HFD : Hid ((fitK ks[k] x.l[k] && fitsK (ks.drop (k + 1)) (x.l.drop (k + 1))) = r) := hqZ (by rw [← fitsK_drop ks x.l k hlt hlx]; exact HF.out)
            have HNX : Hid (fitK ks[k] x.l[k] = true → fitsK (ks.drop (k + 1)) (x.l.drop (k + 1)) = r) := hqZ (fun h => by have := HFD.out; rwa [h, Bool.true_and] at this)
            have HNO : Hid (fitK ks[k] x.l[k] = false → r = false) := hqZ (fun h => by have := HFD.out; rw [h, Bool.false_and] at this; exact this.symm)
            have hq4w : wr.cell? ⟨q, 4, none⟩ = some (.slice (some ⟨bl, ol, none⟩) x.l.length cl) := (HQ1.out.below HB.out hqw).cell 4
            clear hre hrc hbw hcr HF HFD hq4 hq0 hq1
            generalize x.l[k] = y at *
            generalize ks[k] = K at *
            clear hlx
            generalize hnn : x.l.length = nn at *
            have HN5 := hqZ (Blk.new wr zs5 30)
            go_upto_region 8 with (first | ((with_reducible show wpList _ _ _ (⟨some 34, _, _, _, _, _⟩ :: _) _ _); refine wpList_ldAgg rfl (.tmp 33) aggRef rfl rfl (cs := re) HRL.out HCR.out ?_) | ((with_reducible show wpList _ _ _ (⟨none, .store _ (.tmp 5) (.tmp 34), _, _, _, _⟩ :: _) _ _); refine wpList_stAgg rfl (.tmp 5) (.tmp 34) aggRef rfl rfl (vs := re) rfl HRL.out HN5.out (Nat.le_refl _) HRO.out ?_))
            intro w3 h3 k3
            have h3' : Blk w3 wr.heap.size re 30 := by
              rw [List.drop_of_length_le (by decide), List.append_nil] at h3
              exact h3
            have hz3 := k3.size
            simp at hz3
            have hb3 : Below wr.heap.size wr w3 := ((Below.refl _ _).alloc (Nat.le_refl _) _).trans (k3.below (by omega))
            have H3 := hqZ h3'
            have HB3 : Hid (Below w1.heap.size w1 w3) := hqZ (HB.out.trans (hb3.mono hbz))
            have HTY3 := hqZ (HTY.out.below hb3)
            obtain ⟨p5, hp5⟩ : ∃ p5, p5 = wr.heap.size := ⟨_, rfl⟩
            rw [← hp5] at H3 ⊢
            have hp3 : p5 < w3.heap.size := H3.out.lt
            have HW : Hid (∀ W, Below w3.heap.size w3 W → Below w.heap.size w W) := hqZ (fun W h => HB1.out.trans ((HB3.out.trans (h.mono HB3.out.size)).mono HB1.out.size))
            clear h3 k3 h3' hb3 HN5 HCR HTY hq4w hp5
            go_upto_region 8 with fail
            cases K with
            | s =>
              have hsx : ∀ W, (Instr.index 9 (.string (tx sc)) (.int .i64 (k : Int))).run Try.prog W = .ok (.int .u8 115) W := HSX.out
              have HFT := hqZ (refFits_any .s rfl y F re w3.drew (HTY3.out.below ((Below.refl _ _).drew)))
              go_upto_region 9 with fail
              generalize fitK .s y = d at *
              obtain ⟨wd, hwd⟩ : ∃ wd, wd = World.drew w3 := ⟨_, rfl⟩
              have HS0 : Hid (Below w3.heap.size w3 wd) := hqZ (by rw [hwd]; exact (Below.refl _ _).drew)
              have HFT : Hid (Calls Try.prog 23 #[.agg re.toArray, .int .u8 115] wd fun e w' => e = .returned (.bool d) ∧ Below wd.heap.size wd w') := hqZ (by rw [hwd]; exact HFT.out)
              refine wp_region_held (S := fun W => Below w3.heap.size w3 W) (by kernel_rfl) ?_
              change wpAnyH _ _ _ _ _ _ _ _ (World.drew _)
              rw [← hwd]
              clear hwd
              refine tkH 0 38 none (.agg re.toArray) rfl (by kernel_rfl) (fun _ _ _ h => h) (by rfl) (by intro W hW; exact exec_ldAgg rfl aggRef rfl HRL.out (H3.out.below hW hp3).cellsAll) HS0.out ?_
              simp only [Act.put, zq1, zq2, zq3]
              refine tkH 1 39 none (.string (tx sc)) rfl (by kernel_rfl) (fun _ _ _ h => h) (by rfl) (by intro W hW; go_simp) HS0.out ?_
              simp only [Act.put, zq1, zq2, zq3]
              refine tkH 2 40 none (.int .i64 k) rfl (by kernel_rfl) (fun _ _ _ h => h) (by rfl) (by intro W hW; go_simp) HS0.out ?_
              simp only [Act.put, zq1, zq2, zq3]
              refine tkH 3 41 none (.int .u8 115) rfl (by kernel_rfl) (fun _ _ _ h => h) (by rfl) (by intro W hW; have hc := hsx W; go_simp) HS0.out ?_
              simp only [Act.put, zq1, zq2, zq3]
              refine anyH_ready (rs := [4]) (by decide +kernel) (by simp) ?_
              refine AllReadyH.cons (o := { dst := some 42, op := .call { callee := .value (.func 23), args := #[.tmp 38, .tmp 41], argTypes := #[30, 5] }, type := _, pos := _, after := _, guard := none }) rfl (fun K hK => ?_) AllReadyH.nil
              go_simp
              refine HFT.out.mono ?_
              rintro e w4 ⟨rfl, hb⟩
              have HS0 : Hid (Below w3.heap.size w3 w4) := hqZ (HS0.out.trans (hb.mono HS0.out.size))
              clear hb HFT
              refine hK _ _ HS0.out ?_
              clear hK K
              try simp only [Act.put, zq1, zq2, zq3]
              refine tkH 5 43 none (.bool (!d)) rfl (by kernel_rfl) (fun _ _ _ h => h) (by rfl) (by intro W hW; go_simp) HS0.out ?_
              simp only [Act.put, zq1, zq2, zq3]
              refine wpAnyH_done (by decide +kernel) ?_ _
              cases d with
              | true =>
                go_wp2_with fail
                go_roundw
                case rel => exact ⟨k + 1, by omega, by go_num, HB3.out.trans (HS0.out.mono HB3.out.size), HNX.out (by first | rfl | trivial)⟩
                case measure => simp [intOf]; omega
              | false =>
                go_wp2_with fail
                go_ret
                rw [HNO.out (by first | rfl | trivial)]
                exact ⟨rfl, HW.out _ HS0.out⟩
            | n =>
              have hsx : ∀ W, (Instr.index 9 (.string (tx sc)) (.int .i64 (k : Int))).run Try.prog W = .ok (.int .u8 110) W := HSX.out
              have HFT := hqZ (refFits_any .n rfl y F re w3.drew (HTY3.out.below ((Below.refl _ _).drew)))
              go_upto_region 9 with fail
              generalize fitK .n y = d at *
              obtain ⟨wd, hwd⟩ : ∃ wd, wd = World.drew w3 := ⟨_, rfl⟩
              have HS0 : Hid (Below w3.heap.size w3 wd) := hqZ (by rw [hwd]; exact (Below.refl _ _).drew)
              have HFT : Hid (Calls Try.prog 23 #[.agg re.toArray, .int .u8 110] wd fun e w' => e = .returned (.bool d) ∧ Below wd.heap.size wd w') := hqZ (by rw [hwd]; exact HFT.out)
              refine wp_region_held (S := fun W => Below w3.heap.size w3 W) (by kernel_rfl) ?_
              change wpAnyH _ _ _ _ _ _ _ _ (World.drew _)
              rw [← hwd]
              clear hwd
              refine tkH 0 38 none (.agg re.toArray) rfl (by kernel_rfl) (fun _ _ _ h => h) (by rfl) (by intro W hW; exact exec_ldAgg rfl aggRef rfl HRL.out (H3.out.below hW hp3).cellsAll) HS0.out ?_
              simp only [Act.put, zq1, zq2, zq3]
              refine tkH 1 39 none (.string (tx sc)) rfl (by kernel_rfl) (fun _ _ _ h => h) (by rfl) (by intro W hW; go_simp) HS0.out ?_
              simp only [Act.put, zq1, zq2, zq3]
              refine tkH 2 40 none (.int .i64 k) rfl (by kernel_rfl) (fun _ _ _ h => h) (by rfl) (by intro W hW; go_simp) HS0.out ?_
              simp only [Act.put, zq1, zq2, zq3]
              refine tkH 3 41 none (.int .u8 110) rfl (by kernel_rfl) (fun _ _ _ h => h) (by rfl) (by intro W hW; have hc := hsx W; go_simp) HS0.out ?_
              simp only [Act.put, zq1, zq2, zq3]
              refine anyH_ready (rs := [4]) (by decide +kernel) (by simp) ?_
              refine AllReadyH.cons (o := { dst := some 42, op := .call { callee := .value (.func 23), args := #[.tmp 38, .tmp 41], argTypes := #[30, 5] }, type := _, pos := _, after := _, guard := none }) rfl (fun K hK => ?_) AllReadyH.nil
              go_simp
              refine HFT.out.mono ?_
              rintro e w4 ⟨rfl, hb⟩
              have HS0 : Hid (Below w3.heap.size w3 w4) := hqZ (HS0.out.trans (hb.mono HS0.out.size))
              clear hb HFT
              refine hK _ _ HS0.out ?_
              clear hK K
              try simp only [Act.put, zq1, zq2, zq3]
              refine tkH 5 43 none (.bool (!d)) rfl (by kernel_rfl) (fun _ _ _ h => h) (by rfl) (by intro W hW; go_simp) HS0.out ?_
              simp only [Act.put, zq1, zq2, zq3]
              refine wpAnyH_done (by decide +kernel) ?_ _
              cases d with
              | true =>
                go_wp2_with fail
                go_roundw
                case rel => exact ⟨k + 1, by omega, by go_num, HB3.out.trans (HS0.out.mono HB3.out.size), HNX.out (by first | rfl | trivial)⟩
                case measure => simp [intOf]; omega
              | false =>
                go_wp2_with fail
                go_ret
                rw [HNO.out (by first | rfl | trivial)]
                exact ⟨rfl, HW.out _ HS0.out⟩
            | b =>
              have hsx : ∀ W, (Instr.index 9 (.string (tx sc)) (.int .i64 (k : Int))).run Try.prog W = .ok (.int .u8 98) W := HSX.out
              have HFT := hqZ (refFits_any .b rfl y F re w3.drew (HTY3.out.below ((Below.refl _ _).drew)))
              go_upto_region 9 with fail
              generalize fitK .b y = d at *
              obtain ⟨wd, hwd⟩ : ∃ wd, wd = World.drew w3 := ⟨_, rfl⟩
              have HS0 : Hid (Below w3.heap.size w3 wd) := hqZ (by rw [hwd]; exact (Below.refl _ _).drew)
              have HFT : Hid (Calls Try.prog 23 #[.agg re.toArray, .int .u8 98] wd fun e w' => e = .returned (.bool d) ∧ Below wd.heap.size wd w') := hqZ (by rw [hwd]; exact HFT.out)
              refine wp_region_held (S := fun W => Below w3.heap.size w3 W) (by kernel_rfl) ?_
              change wpAnyH _ _ _ _ _ _ _ _ (World.drew _)
              rw [← hwd]
              clear hwd
              refine tkH 0 38 none (.agg re.toArray) rfl (by kernel_rfl) (fun _ _ _ h => h) (by rfl) (by intro W hW; exact exec_ldAgg rfl aggRef rfl HRL.out (H3.out.below hW hp3).cellsAll) HS0.out ?_
              simp only [Act.put, zq1, zq2, zq3]
              refine tkH 1 39 none (.string (tx sc)) rfl (by kernel_rfl) (fun _ _ _ h => h) (by rfl) (by intro W hW; go_simp) HS0.out ?_
              simp only [Act.put, zq1, zq2, zq3]
              refine tkH 2 40 none (.int .i64 k) rfl (by kernel_rfl) (fun _ _ _ h => h) (by rfl) (by intro W hW; go_simp) HS0.out ?_
              simp only [Act.put, zq1, zq2, zq3]
              refine tkH 3 41 none (.int .u8 98) rfl (by kernel_rfl) (fun _ _ _ h => h) (by rfl) (by intro W hW; have hc := hsx W; go_simp) HS0.out ?_
              simp only [Act.put, zq1, zq2, zq3]
              refine anyH_ready (rs := [4]) (by decide +kernel) (by simp) ?_
              refine AllReadyH.cons (o := { dst := some 42, op := .call { callee := .value (.func 23), args := #[.tmp 38, .tmp 41], argTypes := #[30, 5] }, type := _, pos := _, after := _, guard := none }) rfl (fun K hK => ?_) AllReadyH.nil
              go_simp
              refine HFT.out.mono ?_
              rintro e w4 ⟨rfl, hb⟩
              have HS0 : Hid (Below w3.heap.size w3 w4) := hqZ (HS0.out.trans (hb.mono HS0.out.size))
              clear hb HFT
              refine hK _ _ HS0.out ?_
              clear hK K
              try simp only [Act.put, zq1, zq2, zq3]
              refine tkH 5 43 none (.bool (!d)) rfl (by kernel_rfl) (fun _ _ _ h => h) (by rfl) (by intro W hW; go_simp) HS0.out ?_
              simp only [Act.put, zq1, zq2, zq3]
              refine wpAnyH_done (by decide +kernel) ?_ _
              cases d with
              | true =>
                go_wp2_with fail
                go_roundw
                case rel => exact ⟨k + 1, by omega, by go_num, HB3.out.trans (HS0.out.mono HB3.out.size), HNX.out (by first | rfl | trivial)⟩
                case measure => simp [intOf]; omega
              | false =>
                go_wp2_with fail
                go_ret
                rw [HNO.out (by first | rfl | trivial)]
                exact ⟨rfl, HW.out _ HS0.out⟩
            | t =>
              have hsx : ∀ W, (Instr.index 9 (.string (tx sc)) (.int .i64 (k : Int))).run Try.prog W = .ok (.int .u8 116) W := HSX.out
              have HFT := hqZ (refFits_any .t rfl y F re w3.drew (HTY3.out.below ((Below.refl _ _).drew)))
              go_upto_region 9 with fail
              generalize fitK .t y = d at *
              obtain ⟨wd, hwd⟩ : ∃ wd, wd = World.drew w3 := ⟨_, rfl⟩
              have HS0 : Hid (Below w3.heap.size w3 wd) := hqZ (by rw [hwd]; exact (Below.refl _ _).drew)
              have HFT : Hid (Calls Try.prog 23 #[.agg re.toArray, .int .u8 116] wd fun e w' => e = .returned (.bool d) ∧ Below wd.heap.size wd w') := hqZ (by rw [hwd]; exact HFT.out)
              refine wp_region_held (S := fun W => Below w3.heap.size w3 W) (by kernel_rfl) ?_
              change wpAnyH _ _ _ _ _ _ _ _ (World.drew _)
              rw [← hwd]
              clear hwd
              refine tkH 0 38 none (.agg re.toArray) rfl (by kernel_rfl) (fun _ _ _ h => h) (by rfl) (by intro W hW; exact exec_ldAgg rfl aggRef rfl HRL.out (H3.out.below hW hp3).cellsAll) HS0.out ?_
              simp only [Act.put, zq1, zq2, zq3]
              refine tkH 1 39 none (.string (tx sc)) rfl (by kernel_rfl) (fun _ _ _ h => h) (by rfl) (by intro W hW; go_simp) HS0.out ?_
              simp only [Act.put, zq1, zq2, zq3]
              refine tkH 2 40 none (.int .i64 k) rfl (by kernel_rfl) (fun _ _ _ h => h) (by rfl) (by intro W hW; go_simp) HS0.out ?_
              simp only [Act.put, zq1, zq2, zq3]
              refine tkH 3 41 none (.int .u8 116) rfl (by kernel_rfl) (fun _ _ _ h => h) (by rfl) (by intro W hW; have hc := hsx W; go_simp) HS0.out ?_
              simp only [Act.put, zq1, zq2, zq3]
              refine anyH_ready (rs := [4]) (by decide +kernel) (by simp) ?_
              refine AllReadyH.cons (o := { dst := some 42, op := .call { callee := .value (.func 23), args := #[.tmp 38, .tmp 41], argTypes := #[30, 5] }, type := _, pos := _, after := _, guard := none }) rfl (fun K hK => ?_) AllReadyH.nil
              go_simp
              refine HFT.out.mono ?_
              rintro e w4 ⟨rfl, hb⟩
              have HS0 : Hid (Below w3.heap.size w3 w4) := hqZ (HS0.out.trans (hb.mono HS0.out.size))
              clear hb HFT
              refine hK _ _ HS0.out ?_
              clear hK K
              try simp only [Act.put, zq1, zq2, zq3]
              refine tkH 5 43 none (.bool (!d)) rfl (by kernel_rfl) (fun _ _ _ h => h) (by rfl) (by intro W hW; go_simp) HS0.out ?_
              simp only [Act.put, zq1, zq2, zq3]
              refine wpAnyH_done (by decide +kernel) ?_ _
              cases d with
              | true =>
                go_wp2_with fail
                go_roundw
                case rel => exact ⟨k + 1, by omega, by go_num, HB3.out.trans (HS0.out.mono HB3.out.size), HNX.out (by first | rfl | trivial)⟩
                case measure => simp [intOf]; omega
              | false =>
                go_wp2_with fail
                go_ret
                rw [HNO.out (by first | rfl | trivial)]
                exact ⟨rfl, HW.out _ HS0.out⟩
            | i =>
              have hsx : ∀ W, (Instr.index 9 (.string (tx sc)) (.int .i64 (k : Int))).run Try.prog W = .ok (.int .u8 105) W := HSX.out
              have HFT := hqZ (refTicket_any y F re w3 HTY3.out)
              go_wp2_with ((with_reducible show wpList _ _ _ (⟨some 46, _, _, _, _, _⟩ :: _) _ _); refine wpList_ldAgg rfl (.tmp 5) aggRef rfl rfl (cs := re) HRL.out H3.out.cellsAll ?_)
              refine HFT.out.mono ?_
              rintro e w4 ⟨rfl, hb⟩
              have HS0 := hqZ hb
              clear hb HFT
              have hfk : fitK .i y = tkR y := rfl
              rw [hfk] at HNX HNO
              clear hfk
              generalize tkR y = d at *
              cases d with
              | true =>
                go_wp2_with fail
                go_roundw
                case rel => exact ⟨k + 1, by omega, by go_num, HB3.out.trans (HS0.out.mono HB3.out.size), HNX.out (by first | rfl | trivial)⟩
                case measure => simp [intOf]; omega
              | false =>
                go_wp2_with fail
                go_ret
                rw [HNO.out (by first | rfl | trivial)]
                exact ⟨rfl, HW.out _ HS0.out⟩
            | x =>
              have hsx : ∀ W, (Instr.index 9 (.string (tx sc)) (.int .i64 (k : Int))).run Try.prog W = .ok (.int .u8 120) W := HSX.out
              obtain ⟨bv, lv, rows2, rfl, g1, g2, g3, g4, g5⟩ := HTY3.out.open_
              obtain ⟨al2, cl2, rfl, hcl2, hml2⟩ := g3.form
              unfold maxLen at hml2
              have HG3 := hqZ g3
              have HG5 := hqZ g5
              have y0 : w3.cell? ⟨p5, 0, none⟩ = some (.int .i64 y.kind) := H3.out.cell 0
              have y1 : w3.cell? ⟨p5, 1, none⟩ = some (.int .i64 y.tag) := H3.out.cell 1
              have y4 : w3.cell? ⟨p5, 4, none⟩ = some (.slice al2 y.l.length cl2) := H3.out.cell 4
              clear g1 g2 g3 g4 g5
              by_cases hyk : y.kind = 2
              · have HYK := hqZ hyk
                have hyk1 : (y.kind != 2) = false := by simpa using hyk
                clear hyk
                by_cases hyt : y.tag = 0
                · have HYT := hqZ hyt
                  have hyt1 : (y.tag != 0) = false := by simpa using hyt
                  clear hyt
                  rcases (by omega : y.l.length = 0 ∨ y.l.length = 1 ∨ 1 < y.l.length) with hyl | hyl | hyl
                  · have HNN := hqZ (HNX.out (by
                      show (decide (y.kind = 2 ∧ y.tag = 0) && (decide (y.l.length ≤ 1) && y.l.all tkR)) = true
                      rw [List.eq_nil_of_length_eq_zero hyl, decide_eq_true ⟨HYK.out, HYT.out⟩]
                      rfl))
                    have hl2 : ((y.l.length : Int) == 1) = false := by simp; omega
                    have hl3 : ¬ (1 : Int) < (y.l.length : Int) := by omega
                    clear HNX HNO hyl
                    go_wp2_with fail
                    go_roundw
                    case rel => exact ⟨k + 1, by omega, by go_num, HB3.out, HNN.out⟩
                    case measure => simp [intOf]; omega
                  · obtain ⟨z, hz⟩ := List.length_eq_one_iff.1 hyl
                    obtain ⟨b2, o2, rfl, _⟩ := HG3.out.addr (by rw [HG3.out.1]; omega)
                    obtain ⟨r2, hr2, hc2⟩ := HG5.out.cells HG3.out 0 (by omega)
                    have HR2L := hqZ hr2.length
                    have HC2 : Hid (CellsAt w3 b2 o2 r2) := hqZ (by rw [Nat.zero_mul] at hc2; exact hc2)
                    have hz0 : y.l[0] = z := by simp [hz]
                    rw [hz0] at hr2
                    have HFT := hqZ (refTicket_any z F r2 w3 hr2)
                    have HFE : Hid (fitK .x y = tkR z) := hqZ (by
                      show (decide (y.kind = 2 ∧ y.tag = 0) && (decide (y.l.length ≤ 1) && y.l.all tkR)) = tkR z
                      rw [hz, decide_eq_true ⟨HYK.out, HYT.out⟩]
                      simp)
                    rw [HFE.out] at HNX HNO
                    have hl3 : ¬ (1 : Int) < 1 := by omega
                    have hl0 : (0 : Int) < (1 : Int) := by omega
                    rw [hyl] at y4
                    clear hr2 hc2 hz0 hz hyl HFE
                    generalize tkR z = d at *
                    go_wp2_with ((with_reducible show wpList _ _ _ (⟨some 74, _, _, _, _, _⟩ :: _) _ _); refine wpList_ldAgg rfl (.tmp 73) aggRef rfl rfl (cs := r2) HR2L.out HC2.out ?_)
                    refine HFT.out.mono ?_
                    rintro e w4 ⟨rfl, hb⟩
                    have HS0 := hqZ hb
                    clear hb HFT
                    cases d with
                    | true =>
                      go_wp2_with fail
                      go_roundw
                      case rel => exact ⟨k + 1, by omega, by go_num, HB3.out.trans (HS0.out.mono HB3.out.size), HNX.out (by first | rfl | trivial)⟩
                      case measure => simp [intOf]; omega
                    | false =>
                      go_wp2_with fail
                      go_ret
                      rw [HNO.out (by first | rfl | trivial)]
                      exact ⟨rfl, HW.out _ HS0.out⟩
                  · have hl3 : (1 : Int) < (y.l.length : Int) := by omega
                    have HFN : Hid (r = false) := hqZ (HNO.out (by show (decide (y.kind = 2 ∧ y.tag = 0) && (decide (y.l.length ≤ 1) && y.l.all tkR)) = false; rw [decide_eq_false (by omega : ¬ y.l.length ≤ 1)]; simp))
                    clear HNX HNO
                    go_wp2_with fail
                    go_ret
                    rw [HFN.out]
                    exact ⟨rfl, HW.out _ (Below.refl _ _)⟩
                · have hyt1 : (y.tag != 0) = true := by simpa using hyt
                  have HFN : Hid (r = false) := hqZ (HNO.out (by show (decide (y.kind = 2 ∧ y.tag = 0) && (decide (y.l.length ≤ 1) && y.l.all tkR)) = false; rw [decide_eq_false (fun hc => hyt hc.2)]; rfl))
                  clear HNX HNO hyt
                  go_wp2_with fail
                  go_ret
                  rw [HFN.out]
                  exact ⟨rfl, HW.out _ (Below.refl _ _)⟩
              · have hyk1 : (y.kind != 2) = true := by simpa using hyk
                have HFN : Hid (r = false) := hqZ (HNO.out (by show (decide (y.kind = 2 ∧ y.tag = 0) && (decide (y.l.length ≤ 1) && y.l.all tkR)) = false; rw [decide_eq_false (fun hc => hyk hc.1)]; rfl))
                clear HNX HNO hyk
                go_wp2_with fail
                go_ret
                rw [HFN.out]
                exact ⟨rfl, HW.out _ (Below.refl _ _)⟩
          · obtain rfl : k = ks.length := by omega
            have HFD : Hid (r = true) := hqZ (by
              have h := HF.out
              rw [List.drop_length, ← HL.out, List.drop_length] at h
              exact h.symm)
            clear HF
            go_wp2_with fail
            go_ret
            rw [HFD.out]
            exact ⟨rfl, HB1.out.trans (HB.out.mono HB1.out.size)⟩
      · have hl1 : ((x.l.length : Int) != (ks.length : Int)) = true := by simp; omega
        have HRR : Hid (r = false) := hqZ (by rw [HR.out]; cases hf : fitsK ks x.l with | false => simp | true => exact absurd (fitsK_len hf) hl)
        clear hl he hsl hsm HSC HSQ0 HSZ HR
        go_enter Try.func8, Try.ntmps8
        go_upto_region 1 with fail
        show Code.wp _ _ _ _ (w.alloc (.cells #[.int .i64 x.kind, .int .i64 x.tag, .int .u64 (x.n : Int), .slice ab x.b.length cb, .slice al x.l.length cl] 30))
        rw [← hw1, ← hq]
        clear hw1 hq
        go_wp2_with fail
        refine HSH.out.mono ?_
        rintro e w2 ⟨rfl, rfl⟩
        go_wp2_with fail
        go_ret
        rw [HRR.out]
        exact ⟨rfl, HB1.out⟩
    · have hsq : ((tx sc).toList == [63]) = true := by rw [HSQ0.out]; simpa using he
      have HRR : Hid (r = false) := hqZ (by rw [HR.out]; simp at he; simp [he])
      clear he HSC HSQ0 HR
      go_enter Try.func8, Try.ntmps8
      go_upto_region 1 with fail
      show Code.wp _ _ _ _ (w.alloc (.cells #[.int .i64 x.kind, .int .i64 x.tag, .int .u64 (x.n : Int), .slice ab x.b.length cb, .slice al x.l.length cl] 30))
      rw [← hw1, ← hq]
      clear hw1 hq
      go_wp2_with fail
      refine HSH.out.mono ?_
      rintro e w2 ⟨rfl, rfl⟩
      go_wp2_with fail
      go_ret
      rw [HRR.out]
      exact ⟨rfl, HB1.out⟩
  · have hk1 : (x.kind != 2) = true := by simpa using hk
    have HRR : Hid (r = false) := hqZ (by rw [HR.out]; simp [hk])
    clear hk HSC HSQ0 HR
    go_enter Try.func8, Try.ntmps8
    go_upto_region 1 with fail
    show Code.wp _ _ _ _ (w.alloc (.cells #[.int .i64 x.kind, .int .i64 x.tag, .int .u64 (x.n : Int), .slice ab x.b.length cb, .slice al x.l.length cl] 30))
    rw [← hw1, ← hq]
    clear hw1 hq
    go_wp2_with fail
    refine HSH.out.mono ?_
    rintro e w2 ⟨rfl, rfl⟩
    go_wp2_with fail
    go_ret
    rw [HRR.out]
    exact ⟨rfl, HB1.out⟩
theorem wrM_cases (t : Int) (pts : List Pt) (hk : pts.map kdOf = shapeS t) (hne : (shapeS t).isEmpty = false) : wrM t pts = ([], 7) ∨ wrM t pts = ([], 20) ∨
    ∃ b, wrM t pts = (b, 0) ∧ wholeS b = (msgTv t pts, 0) ∧ rdM b = (some (t, pts), 0) ∧ msgR (msgTv t pts) = true ∧ pts.all ptB = true := by
  unfold wrM
  by_cases hb : pts.all ptB = true
  · rw [if_pos hb]
    obtain ⟨h1, h2, h3⟩ := msg_fwd hk hne hb
    rcases wrS_cases (msgTv t pts) with ⟨e, _⟩ | ⟨e, _⟩ | ⟨e, h4, h5⟩
    · exact .inl e
    · exact .inr (.inl e)
    · have hw := wholeS_write h3 (msgTv_nw t pts hb) h5
      refine .inr (.inr ⟨_, e, hw, ?_, h1, hb⟩)
      unfold rdM rdV
      rw [hw, if_pos rfl, ofS_eq, if_pos h1]
      show (some (t, ptsOf (shapeS t) (msgTv t pts).l), (0 : Int)) = _
      rw [h2]
  · rw [if_neg hb]; exact .inl rfl
def PtM : Pt → Prop
  | .s l => l.length ≤ 1048576
  | .b l => l.length ≤ 1048576
  | .i t => t.1.length ≤ 1048576 ∧ t.2.length ≤ 1048576
  | .x l => ∀ t ∈ l, t.1.length ≤ 1048576 ∧ t.2.length ≤ 1048576
  | _ => True
theorem TksV.first {w : World} {F : Nat → Prop} {l : List (List UInt8 × List UInt8)} {a : Option Addr} {n c : Nat} (h : TksV w F l (.slice a n c)) (hl : 0 < l.length) :
    ∃ b o bv, a = some ⟨b, o, none⟩ ∧ CellsAt w b o [.string (tx l[0].1), bv] ∧ Bs w bv l[0].2 := by
  obtain ⟨rows, h1, h2⟩ := h
  obtain ⟨a', c', e, _, _⟩ := h1.form
  simp only [Value.slice.injEq] at e
  obtain ⟨rfl, rfl, rfl⟩ := e
  obtain ⟨b, o, rfl, hc⟩ := h1.addr (by rw [h1.1]; omega)
  obtain ⟨bv, e, hb⟩ := h2.at_ 0 hl
  refine ⟨b, o, bv, rfl, fun j u hj => ?_, hb⟩
  rw [← e, List.getElem?_take] at hj
  split at hj
  · rw [List.getElem?_drop, Nat.zero_mul, Nat.zero_add] at hj
    exact hc j u hj
  · simp at hj
theorem sizeT_tk (t : List UInt8 × List UInt8) : sizeT (tkTv t) = 3 + t.1.length + t.2.length := by
  show 1 + ([] : List UInt8).length + (1 + t.1.length + 0 + (1 + t.2.length + 0 + 0)) = _
  simp
  omega
theorem sizeT_pt (p : Pt) (hm : PtM p) (hb : ptB p = true) : sizeT (ptTv p) ≤ 2097160 := by
  cases p with
  | s l => have hm : l.length ≤ 1048576 := hm; show 1 + l.length + 0 ≤ _; omega
  | n x => show 1 + 0 + 0 ≤ _; omega
  | b l => have hm : l.length ≤ 1048576 := hm; show 1 + l.length + 0 ≤ _; omega
  | t b => show 1 + 0 + 0 ≤ _; omega
  | i t => have hm : t.1.length ≤ 1048576 ∧ t.2.length ≤ 1048576 := hm; show sizeT (tkTv t) ≤ _; rw [sizeT_tk]; omega
  | x l =>
    have hb : (l.all rT && decide (l.length ≤ 1)) = true := hb
    rw [Bool.and_eq_true, decide_eq_true_eq] at hb
    show sizeT (.mk 2 0 0 [] ((l.takeWhile rT).map tkTv)) ≤ _
    rw [takeWhile_all _ _ hb.1]
    match l, hb.2 with
    | [], _ => show 1 + 0 + 0 ≤ _; omega
    | [t], _ =>
      have h := hm t (by simp)
      show 1 + 0 + (sizeT (tkTv t) + 0) ≤ _
      rw [sizeT_tk]; omega
    | _ :: _ :: _, h => simp at h
theorem sizesT_pts : ∀ (pts : List Pt), (∀ p ∈ pts, PtM p) → pts.all ptB = true → sizesT (pts.map ptTv) ≤ pts.length * 2097160
  | [], _, _ => by simp [sizesT]
  | p :: l, hm, hb => by
    rw [List.all_cons, Bool.and_eq_true] at hb
    have h1 := sizeT_pt p (hm p (by simp)) hb.1
    have h2 := sizesT_pts l (fun q hq => hm q (by simp [hq])) hb.2
    rw [List.map_cons, sizesT, List.length_cons, Nat.succ_mul]
    omega
theorem msgTv_len (t : Int) (pts : List Pt) (hn : pts.length ≤ 8) (hm : ∀ p ∈ pts, PtM p) (hb : pts.all ptB = true) : (writeS (msgTv t pts)).length ≤ 140737521909760 := by
  have h1 := writeS_le (msgTv t pts)
  have h2 := sizesT_pts pts hm hb
  have h3 : sizeT (msgTv t pts) = 1 + 0 + sizesT (pts.map ptTv) := rfl
  have h4 : pts.length * 2097160 ≤ 8 * 2097160 := Nat.mul_le_mul_right _ hn
  omega
/-! A name that may be is at most 64 bytes long. -/
theorem width4 (s : ByteArray) (p : Nat) : (Utf8.decode s p).2 ≤ 4 := by
  rw [Lib.decode_at]
  unfold Lib.decodeN
  repeat' split
  all_goals (simp only; omega)
theorem rsF_size (s : ByteArray) : ∀ f p : Nat, s.size ≤ p + f → s.size ≤ p + 4 * (rsF s f p).length
  | 0, p, h => by simpa [rsF] using h
  | f + 1, p, h => by
    by_cases hp : p < s.size
    · have h1 := Lib.decode_width_pos s p hp
      have h2 := width4 s p
      have h3 := rsF_size s f (p + (Utf8.decode s p).2) (by omega)
      rw [rsF, if_pos hp, List.length_cons]
      omega
    · omega
theorem rightF_few : ∀ (l : List (Nat × Int)) (n : Nat), rightF l n = true → n + l.length ≤ 16
  | [], n, h => by
    rw [rightF, Bool.and_eq_true, decide_eq_true_eq, decide_eq_true_eq] at h
    simpa using h.2
  | (i, r) :: l, n, h => by
    rw [List.length_cons]
    rw [rightF] at h
    split at h
    · have := rightF_few l (n + 1) h; omega
    · split at h
      · simp at h
      · split at h
        · have := rightF_few l (n + 1) h; omega
        · simp at h
theorem rT_size (t : List UInt8 × List UInt8) (h : rT t = true) : t.1.length ≤ 64 := by
  have h1 := rightF_few _ _ (show rightF (rs (tx t.1) 0) 0 = true from h)
  have h2 := rsF_size (tx t.1) ((tx t.1).size - 0) 0 (by omega)
  rw [tx_size] at h2
  unfold rs at h1
  rw [tx_size] at h1
  omega
/-! How many bytes a value is written as: its own, and 18 for each part. -/
mutual
def sizeU : Tv → Nat
  | .mk _ _ _ b l => 18 + b.length + sizesU l
def sizesU : List Tv → Nat
  | [] => 0
  | x :: l => sizeU x + sizesU l
end
mutual
theorem writeS_leU : ∀ x : Tv, (writeS x).length ≤ sizeU x
  | .mk k t n b l => by
    have h1 := writesS_leU l
    have h2 := headS_le k t (bodyOf k n b (writesS l)).length
    have h3 := shortB_le8 n
    have h4 : (bodyOf k n b (writesS l)).length ≤ 8 + b.length + (writesS l).length := by
      unfold bodyOf
      split
      · omega
      · split <;> omega
    rw [writeS, List.length_append, sizeU]
    omega
theorem writesS_leU : ∀ l : List Tv, (writesS l).length ≤ sizesU l
  | [] => by simp [writesS, sizesU]
  | x :: l => by
    have h1 := writeS_leU x
    have h2 := writesS_leU l
    rw [writesS, List.length_append, sizesU]
    omega
end
theorem sizesU_append : ∀ l r : List Tv, sizesU (l ++ r) = sizesU l + sizesU r
  | [], r => by simp [sizesU]
  | x :: l, r => by rw [List.cons_append, sizesU, sizesU, sizesU_append l r]; omega
theorem sizeU_tk (t : List UInt8 × List UInt8) : sizeU (tkTv t) = 54 + t.1.length + t.2.length := by
  show 18 + ([] : List UInt8).length + (18 + t.1.length + 0 + (18 + t.2.length + 0 + 0)) = _
  simp
  omega
theorem sizeU_pt (p : Pt) (hm : PtM p) (hb : ptB p = true) : sizeU (ptTv p) ≤ 2097300 := by
  cases p with
  | s l => have hm : l.length ≤ 1048576 := hm; show 18 + l.length + 0 ≤ _; omega
  | n x => show 18 + 0 + 0 ≤ _; omega
  | b l => have hm : l.length ≤ 1048576 := hm; show 18 + l.length + 0 ≤ _; omega
  | t b => show 18 + 0 + 0 ≤ _; omega
  | i t => have hm : t.1.length ≤ 1048576 ∧ t.2.length ≤ 1048576 := hm; show sizeU (tkTv t) ≤ _; rw [sizeU_tk]; omega
  | x l =>
    have hb : (l.all rT && decide (l.length ≤ 1)) = true := hb
    rw [Bool.and_eq_true, decide_eq_true_eq] at hb
    show sizeU (.mk 2 0 0 [] ((l.takeWhile rT).map tkTv)) ≤ _
    rw [takeWhile_all _ _ hb.1]
    match l, hb.2 with
    | [], _ => show 18 + 0 + 0 ≤ _; omega
    | [t], _ =>
      have h := hm t (by simp)
      show 18 + 0 + (sizeU (tkTv t) + 0) ≤ _
      rw [sizeU_tk]; omega
    | _ :: _ :: _, h => simp at h
theorem sizesU_pts : ∀ (pts : List Pt), (∀ p ∈ pts, PtM p) → pts.all ptB = true → sizesU (pts.map ptTv) ≤ pts.length * 2097300
  | [], _, _ => by simp [sizesU]
  | p :: l, hm, hb => by
    rw [List.all_cons, Bool.and_eq_true] at hb
    have h1 := sizeU_pt p (hm p (by simp)) hb.1
    have h2 := sizesU_pts l (fun q hq => hm q (by simp [hq])) hb.2
    rw [List.map_cons, sizesU, List.length_cons, Nat.succ_mul]
    omega
theorem msgTv_lenX (t : Int) (pts : List Pt) (l : List (List UInt8 × List UInt8)) (hn : pts.length ≤ 7) (hm : ∀ p ∈ pts, PtM p) (hl : ∀ x ∈ l, x.1.length ≤ 140737488351232 ∧ x.2.length ≤ 140737488351232)
    (hb : (pts ++ [Pt.x l]).all ptB = true) : (writeS (msgTv t (pts ++ [Pt.x l]))).length ≤ 140737521909760 := by
  rw [List.all_append, Bool.and_eq_true] at hb
  have h1 := writeS_leU (msgTv t (pts ++ [Pt.x l]))
  have h2 := sizesU_pts pts hm hb.1
  have h3 : sizeU (msgTv t (pts ++ [Pt.x l])) = 18 + 0 + sizesU ((pts ++ [Pt.x l]).map ptTv) := rfl
  rw [List.map_append, sizesU_append] at h3
  have h4 : pts.length * 2097300 ≤ 7 * 2097300 := Nat.mul_le_mul_right _ hn
  have h5 : sizesU ([Pt.x l].map ptTv) ≤ 200 + 140737488351232 := by
    have hb2 : ((l.all rT && decide (l.length ≤ 1)) && true) = true := hb.2
    rw [Bool.and_true, Bool.and_eq_true, decide_eq_true_eq] at hb2
    show sizeU (.mk 2 0 0 [] ((l.takeWhile rT).map tkTv)) + 0 ≤ _
    rw [takeWhile_all _ _ hb2.1]
    match l, hb2, hl with
    | [], _, _ => show 18 + 0 + 0 + 0 ≤ _; omega
    | [x], hx, hl =>
      have h := hl x (by simp)
      have hx1 : rT x = true := by simpa using hx.1
      have h6 := rT_size x hx1
      show 18 + 0 + (sizeU (tkTv x) + 0) + 0 ≤ _
      rw [sizeU_tk]; omega
    | _ :: _ :: _, h, _ => simp at h
  omega
noncomputable def mwRest : Code := match Try.f4.body with
  | some (.seq _ (.seq _ (.seq _ c))) => c
  | _ => .skip
def mwFrame (pick n m l : Int) (la lb lts lx ly lt : List UInt8) (ex : List (List UInt8 × List UInt8)) (ax ay at1 ae : Option Addr) (cx cy ct ce : Nat) (set1 mesh : Bool) (q : Nat) (u21 u22 u23 u24 u25 u26 u27 u28 u29 u30 u31 u32 u33 u34 u35 u36 u37 u38 u39 u40 u41 u42 u43 u44 u45 u46 u47 u48 u49 u50 u51 u52 u53 u54 u55 u56 u57 u58 : Value) : Act :=
  ⟨#[.agg #[.int .i64 pick, .string (tx la), .string (tx lb), .int .i64 n, .int .i64 m, .int .i64 l, .slice ax lx.length cx, .slice ay ly.length cy, .string (tx lts), .slice at1 lt.length ct, .slice ae ex.length ce, .bool set1, .bool mesh], .pointer (some ⟨q, 0, none⟩), .bool false, undef, undef, undef, undef, undef, undef, undef, undef, undef, undef, undef, undef, undef, undef, undef, undef, undef, undef, u21, u22, u23, u24, u25, u26, u27, u28, u29, u30, u31, u32, u33, u34, u35, u36, u37, u38, u39, u40, u41, u42, u43, u44, u45, u46, u47, u48, u49, u50, u51, u52, u53, u54, u55, u56, u57, u58, undef, undef, undef, undef, undef, undef, undef, undef, undef, undef, undef, undef, undef, undef, undef, undef, undef, undef, undef, undef, undef, undef, undef, undef, undef, undef, undef, undef, undef, undef, undef, undef, undef, undef, undef, undef, undef, undef, undef, undef, undef, undef, undef, undef, undef, undef, undef, undef, undef, undef, undef, undef, undef, undef, undef, undef, undef, undef, undef, undef, undef, undef, undef, undef, undef, undef, undef, undef, undef, undef, undef, undef, undef, undef, undef, undef, undef, undef, undef, undef, undef, undef, undef, undef, undef, undef, undef, undef, undef, undef, undef, undef, undef, undef, undef, undef, undef, undef, undef, undef, undef, undef, undef, undef, undef, undef, undef, undef, undef, undef, undef, undef, undef, undef, undef, undef, undef, undef, undef, undef, undef, undef, undef, undef, undef, undef, undef, undef, undef, undef, undef, undef, undef, undef, undef, undef, undef, undef, undef, undef, undef, undef, undef, undef, undef, undef, undef, undef, undef, undef, undef, undef, undef, undef, undef, undef, undef, undef, undef, undef, undef, undef, undef, undef, undef, undef, undef, undef, undef, undef, undef, undef, undef, undef, undef, undef, undef, undef, undef, undef, undef, undef, undef, undef, undef, undef, undef, undef, undef, undef, undef, undef, undef, undef, undef, undef, undef, undef, undef, undef, undef, undef, undef, undef, undef, undef, undef, undef, undef, undef, undef, undef, undef, undef, undef, undef, undef, undef, undef, undef, undef, undef, undef, undef, undef, undef, undef, undef, undef, undef, undef, undef, undef, undef, undef, undef, undef, undef, undef, undef, undef, undef, undef, undef, undef, undef, undef, undef, undef, undef, undef, undef, undef, undef, undef, undef, undef, undef, undef, undef, undef, undef, undef, undef, undef, undef, undef, undef, undef, undef, undef, undef, undef, undef, undef, undef, undef, undef, undef, undef, undef, undef, undef, undef, undef, undef, undef, undef, undef, undef, undef, undef, undef, undef, undef, undef, undef, undef, undef, undef, undef, undef, undef, undef, undef, undef, undef, undef, undef, undef, undef, undef, undef, undef, undef, undef, undef, undef, undef, undef, undef, undef, undef, undef, undef, undef, undef, undef, undef, undef, undef, undef, undef, undef, undef, undef, undef, undef, undef, undef, undef, undef, undef, undef, undef, undef, undef, undef, undef, undef, undef, undef, undef, undef, undef, undef, undef, undef, undef, undef, undef, undef, undef, undef, undef, undef, undef, undef, undef, undef, undef, undef, undef, undef, undef, undef, undef, undef, undef, undef, undef, undef, undef, undef, undef, undef, undef, undef, undef, undef, undef, undef, undef, undef, undef, undef, undef, undef, undef, undef, undef, undef, undef, undef, undef, undef, undef, undef, undef, undef, undef, undef, undef, undef, undef, undef, undef, undef, undef, undef, undef, undef, undef, undef, undef, undef, undef, undef, undef, undef, undef, undef, undef, undef], []⟩
structure MwH (pick n m l : Int) (la lb lts lx ly lt : List UInt8) (ex : List (List UInt8 × List UInt8)) (ax ay at1 ae : Option Addr) (cx cy ct ce : Nat) (set1 mesh : Bool) (w w1 : World) (q : Nat) : Prop where
  HB1 : Hid (Below w.heap.size w w1)
  HQ1 : Hid (Blk w1 q [.int .i64 pick, .string (tx la), .string (tx lb), .int .i64 n, .int .i64 m, .int .i64 l, .slice ax lx.length cx, .slice ay ly.length cy, .string (tx lts), .slice at1 lt.length ct, .slice ae ex.length ce, .bool set1, .bool mesh] 51)
  HX1 : Hid (Bs w1 (.slice ax lx.length cx) lx)
  HT1 : Hid (Bs w1 (.slice at1 lt.length ct) lt)
  HE1 : Hid (TksV w1 (fun _ => True) ex (.slice ae ex.length ce))
  HN : Hid (-9223372036854775808 ≤ n ∧ n ≤ 9223372036854775807)
  HM : Hid (-9223372036854775808 ≤ m ∧ m ≤ 9223372036854775807)
  HLL : Hid (-9223372036854775808 ≤ l ∧ l ≤ 9223372036854775807)
  HMA : Hid (la.length ≤ 1048576)
  HMB : Hid (lb.length ≤ 1048576)
  HMS : Hid (lts.length ≤ 1048576)
  HMX : Hid (lx.length ≤ 1048576)
  HMT : Hid (lt.length ≤ 1048576)
  HME : Hid (∀ t ∈ ex, t.1.length ≤ 140737488351232 ∧ t.2.length ≤ 140737488351232)
  HME2 : Hid (ex.length ≤ 1048576)
theorem cel2 {W : World} {p : Nat} {T : TypeId} {a0 a1 : Value} (h : Blk W p [a0, a1] T) : W.cell? ⟨p, 0, none⟩ = some a0 ∧ W.cell? ⟨p, 1, none⟩ = some a1 := ⟨h.cell 0, h.cell 1⟩
theorem cel3 {W : World} {p : Nat} {T : TypeId} {a0 a1 a2 : Value} (h : Blk W p [a0, a1, a2] T) : W.cell? ⟨p, 0, none⟩ = some a0 ∧ W.cell? ⟨p, 1, none⟩ = some a1 ∧ W.cell? ⟨p, 2, none⟩ = some a2 := ⟨h.cell 0, h.cell 1, h.cell 2⟩
theorem cel4 {W : World} {p : Nat} {T : TypeId} {a0 a1 a2 a3 : Value} (h : Blk W p [a0, a1, a2, a3] T) : W.cell? ⟨p, 0, none⟩ = some a0 ∧ W.cell? ⟨p, 1, none⟩ = some a1 ∧ W.cell? ⟨p, 2, none⟩ = some a2 ∧ W.cell? ⟨p, 3, none⟩ = some a3 := ⟨h.cell 0, h.cell 1, h.cell 2, h.cell 3⟩
theorem cel5 {W : World} {p : Nat} {T : TypeId} {a0 a1 a2 a3 a4 : Value} (h : Blk W p [a0, a1, a2, a3, a4] T) : W.cell? ⟨p, 0, none⟩ = some a0 ∧ W.cell? ⟨p, 1, none⟩ = some a1 ∧ W.cell? ⟨p, 2, none⟩ = some a2 ∧ W.cell? ⟨p, 3, none⟩ = some a3 ∧ W.cell? ⟨p, 4, none⟩ = some a4 := ⟨h.cell 0, h.cell 1, h.cell 2, h.cell 3, h.cell 4⟩
theorem cel6 {W : World} {p : Nat} {T : TypeId} {a0 a1 a2 a3 a4 a5 : Value} (h : Blk W p [a0, a1, a2, a3, a4, a5] T) : W.cell? ⟨p, 0, none⟩ = some a0 ∧ W.cell? ⟨p, 1, none⟩ = some a1 ∧ W.cell? ⟨p, 2, none⟩ = some a2 ∧ W.cell? ⟨p, 3, none⟩ = some a3 ∧ W.cell? ⟨p, 4, none⟩ = some a4 ∧ W.cell? ⟨p, 5, none⟩ = some a5 := ⟨h.cell 0, h.cell 1, h.cell 2, h.cell 3, h.cell 4, h.cell 5⟩
theorem cel7 {W : World} {p : Nat} {T : TypeId} {a0 a1 a2 a3 a4 a5 a6 : Value} (h : Blk W p [a0, a1, a2, a3, a4, a5, a6] T) : W.cell? ⟨p, 0, none⟩ = some a0 ∧ W.cell? ⟨p, 1, none⟩ = some a1 ∧ W.cell? ⟨p, 2, none⟩ = some a2 ∧ W.cell? ⟨p, 3, none⟩ = some a3 ∧ W.cell? ⟨p, 4, none⟩ = some a4 ∧ W.cell? ⟨p, 5, none⟩ = some a5 ∧ W.cell? ⟨p, 6, none⟩ = some a6 := ⟨h.cell 0, h.cell 1, h.cell 2, h.cell 3, h.cell 4, h.cell 5, h.cell 6⟩
theorem cel9 {W : World} {p : Nat} {T : TypeId} {a0 a1 a2 a3 a4 a5 a6 a7 a8 : Value} (h : Blk W p [a0, a1, a2, a3, a4, a5, a6, a7, a8] T) : W.cell? ⟨p, 0, none⟩ = some a0 ∧ W.cell? ⟨p, 1, none⟩ = some a1 ∧ W.cell? ⟨p, 2, none⟩ = some a2 ∧ W.cell? ⟨p, 3, none⟩ = some a3 ∧ W.cell? ⟨p, 4, none⟩ = some a4 ∧ W.cell? ⟨p, 5, none⟩ = some a5 ∧ W.cell? ⟨p, 6, none⟩ = some a6 ∧ W.cell? ⟨p, 7, none⟩ = some a7 ∧ W.cell? ⟨p, 8, none⟩ = some a8 := ⟨h.cell 0, h.cell 1, h.cell 2, h.cell 3, h.cell 4, h.cell 5, h.cell 6, h.cell 7, h.cell 8⟩
theorem cel13 {W : World} {p : Nat} {T : TypeId} {a0 a1 a2 a3 a4 a5 a6 a7 a8 a9 a10 a11 a12 : Value} (h : Blk W p [a0, a1, a2, a3, a4, a5, a6, a7, a8, a9, a10, a11, a12] T) : W.cell? ⟨p, 0, none⟩ = some a0 ∧ W.cell? ⟨p, 1, none⟩ = some a1 ∧ W.cell? ⟨p, 2, none⟩ = some a2 ∧ W.cell? ⟨p, 3, none⟩ = some a3 ∧ W.cell? ⟨p, 4, none⟩ = some a4 ∧ W.cell? ⟨p, 5, none⟩ = some a5 ∧ W.cell? ⟨p, 6, none⟩ = some a6 ∧ W.cell? ⟨p, 7, none⟩ = some a7 ∧ W.cell? ⟨p, 8, none⟩ = some a8 ∧ W.cell? ⟨p, 9, none⟩ = some a9 ∧ W.cell? ⟨p, 10, none⟩ = some a10 ∧ W.cell? ⟨p, 11, none⟩ = some a11 ∧ W.cell? ⟨p, 12, none⟩ = some a12 := ⟨h.cell 0, h.cell 1, h.cell 2, h.cell 3, h.cell 4, h.cell 5, h.cell 6, h.cell 7, h.cell 8, h.cell 9, h.cell 10, h.cell 11, h.cell 12⟩
set_option maxHeartbeats 16000000 in
set_option maxRecDepth 100000 in
theorem msgW_0 (pick n m l : Int) (la lb lts lx ly lt : List UInt8) (ex : List (List UInt8 × List UInt8)) (ax ay at1 ae : Option Addr) (cx cy ct ce : Nat) (set1 mesh : Bool) (w w1 : World) (q : Nat) (u21 u22 u23 u24 u25 u26 u27 u28 u29 u30 u31 u32 u33 u34 u35 u36 u37 u38 u39 u40 u41 u42 u43 u44 u45 u46 u47 u48 u49 u50 u51 u52 u53 u54 u55 u56 u57 u58 : Value) (H : MwH pick n m l la lb lts lx ly lt ex ax ay at1 ae cx cy ct ce set1 mesh w w1 q) (hp : bits .and .i64 pick 15 = 0) : Code.wp Try.prog mwRest (bodyPost Try.prog Try.f4 (fun e w' => e = .returned (.bool true) ∧ Below w.heap.size w w')) (mwFrame pick n m l la lb lts lx ly lt ex ax ay at1 ae cx cy ct ce set1 mesh q u21 u22 u23 u24 u25 u26 u27 u28 u29 u30 u31 u32 u33 u34 u35 u36 u37 u38 u39 u40 u41 u42 u43 u44 u45 u46 u47 u48 u49 u50 u51 u52 u53 u54 u55 u56 u57 u58) w1 := by
  obtain ⟨HB1, HQ1, HX1, HT1, HE1, HN, HM, HLL, HMA, HMB, HMS, HMX, HMT, HME, HME2⟩ := H
  unfold mwFrame
  conv => arg 2; whnf
  obtain ⟨q0, q1, q2, q3, q4, q5, q6, q7, q8, q9, q10, q11, q12⟩ := cel13 HQ1.out
  have HIT := hqZ (it_0 pick (tx la) (tx lb) (tx lts) n m l ax ay at1 ae lx.length cx ly.length cy lt.length ct ex.length ce set1 mesh w1 hp)
  go_wp2_with ((with_reducible show wpList _ _ _ (⟨some 60, _, _, _, _, _⟩ :: _) _ _); refine wpList_ldAgg rfl (.tmp 1) aggIn rfl rfl (cs := [.int .i64 pick, .string (tx la), .string (tx lb), .int .i64 n, .int .i64 m, .int .i64 l, .slice ax lx.length cx, .slice ay ly.length cy, .string (tx lts), .slice at1 lt.length ct, .slice ae ex.length ce, .bool set1, .bool mesh]) rfl HQ1.out.cellsAll ?_)
  refine HIT.out.mono ?_
  rintro e w2 ⟨rfl, hb2⟩
  have HB2 : Hid (Below w.heap.size w w2) := hqZ (HB1.out.trans (hb2.mono HB1.out.size))
  have HQ2 := hqZ (HQ1.out.below hb2 HQ1.out.lt)
  have HX2 := hqZ (HX1.out.below hb2)
  have HT2 := hqZ (HT1.out.below hb2)
  have HE2 : Hid (TksV w2 (fun _ => True) ex (.slice ae ex.length ce)) := hqZ (by obtain ⟨rows, h1, h2⟩ := HE1.out; exact ⟨rows, h1.below hb2, h2.below hb2⟩)
  have HOK : Hid (∀ p ∈ ([.s la, .n n, .n m, .b lx] : List Pt), PtOk p) := hqZ (by
    intro p hp
    simp only [List.mem_cons, List.not_mem_nil, or_false] at hp
    rcases hp with rfl | rfl | rfl | rfl
    · exact (by have := HMA.out; show la.length ≤ _; omega)
    · exact HN.out
    · exact HM.out
    · exact (by have := HMX.out; show lx.length ≤ _; omega)
    )
  have HPM : Hid (∀ p ∈ ([.s la, .n n, .n m, .b lx] : List Pt), PtM p) := hqZ (by
    intro p hp
    simp only [List.mem_cons, List.not_mem_nil, or_false] at hp
    rcases hp with rfl | rfl | rfl | rfl
    · exact HMA.out
    · exact trivial
    · exact trivial
    · exact HMX.out
    )
  have HMV : Hid (MsgV w2 (fun _ => True) 11 [.s la, .n n, .n m, .b lx] (.iface 54 (.agg #[.string (tx la), .int .i64 n, .int .i64 m, .slice ax lx.length cx]))) := hqZ ⟨[.string (tx la), .int .i64 n, .int .i64 m, .slice ax lx.length cx], rfl, [.string (tx la)], _, rfl, rfl, [.int .i64 n], _, rfl, rfl, [.int .i64 m], _, rfl, rfl, [.slice ax lx.length cx], _, rfl, ⟨_, rfl, HX2.out, fun _ _ _ => trivial⟩, rfl⟩
  have HWR := hqZ (msgWrite_any 11 [.s la, .n n, .n m, .b lx] _ _ w2 rfl rfl HMV.out HOK.out (fun h => msgTv_len _ _ (by simp) HPM.out h))
  have HWC := hqZ (wrM_cases 11 [.s la, .n n, .n m, .b lx] rfl rfl)
  obtain ⟨wr, hwr⟩ : ∃ wr, wr = wrM 11 [.s la, .n n, .n m, .b lx] := ⟨_, rfl⟩
  rw [← hwr] at HWR HWC
  clear hb2 HIT HOK HPM HMV HE1 HX1 HT1 HQ1 hwr
  go_wp2_with fail
  refine HWR.out.mono ?_
  rintro e w3 ⟨v3, rfl, hs3, hb3⟩
  have HB3 : Hid (Below w.heap.size w w3) := hqZ (HB2.out.trans (hb3.mono HB2.out.size))
  have HQ3 := hqZ (HQ2.out.below hb3 HQ2.out.lt)
  have HX3 := hqZ (HX2.out.below hb3)
  have HT3 := hqZ (HT2.out.below hb3)
  have HE3 : Hid (TksV w3 (fun _ => True) ex (.slice ae ex.length ce)) := hqZ (by obtain ⟨rows, h1, h2⟩ := HE2.out; exact ⟨rows, h1.below hb3, h2.below hb3⟩)
  have q0 : w3.cell? ⟨q, 0, none⟩ = some (.int .i64 pick) := HQ3.out.cell 0
  clear hb3 HWR HX2 HT2 HE2 HQ2
  rcases HWC.out with rfl | rfl | ⟨b, rfl, hwh, hrd, hmr, hpb⟩
  · obtain ⟨a3, c3, rfl, _⟩ := hs3.form
    rw [show ([] : List UInt8).length = 0 from rfl]
    clear hs3 HWC
    go_wp2_with fail
    go_ret
    exact ⟨rfl, HB3.out⟩
  · obtain ⟨a3, c3, rfl, _⟩ := hs3.form
    rw [show ([] : List UInt8).length = 0 from rfl]
    clear hs3 HWC
    go_wp2_with fail
    go_ret
    exact ⟨rfl, HB3.out⟩
  · obtain ⟨a3, c3, rfl, _⟩ := hs3.form
    have HS3 := hqZ hs3
    have HWH := hqZ (refWhole_any _ b w3 hs3)
    rw [hwh] at HWH
    have HRD := hqZ hrd
    have HMR := hqZ hmr
    have HPB := hqZ hpb
    clear hs3 HWC hwh hrd hmr hpb
    simp only
    go_wp2_with fail
    refine HWH.out.mono ?_
    rintro e w4 ⟨cr, rfl, htv, hb4⟩
    have HRL := hqZ htv.length
    have HRO := hqZ htv.one
    have HTV4 := hqZ htv
    have HN4 := hqZ (Blk.new w4 zs5 30)
    have HB34 := hqZ hb4
    clear htv hb4 HWH
    go_upto_region 9 with ((with_reducible show wpList _ _ _ (⟨none, .store _ (.tmp 5) (.tmp 91), _, _, _, _⟩ :: _) _ _); refine wpList_stAgg rfl (.tmp 5) (.tmp 91) aggRef rfl rfl (vs := cr) rfl HRL.out HN4.out (Nat.le_refl _) HRO.out ?_)
    intro w5 h5 k5
    have h5' : Blk w5 w4.heap.size cr 30 := by
      rw [List.drop_of_length_le (by decide), List.append_nil] at h5
      exact h5
    have hb5 : Below w4.heap.size w4 w5 := ((Below.refl _ _).alloc (Nat.le_refl _) _).trans (k5.below (by omega))
    have HP5 := hqZ h5'
    have HTV5 := hqZ (HTV4.out.below hb5)
    have HB35 : Hid (Below w3.heap.size w3 w5) := hqZ (HB34.out.trans (hb5.mono HB34.out.size))
    obtain ⟨p5, hp5⟩ : ∃ p5, p5 = w4.heap.size := ⟨_, rfl⟩
    rw [← hp5] at HP5 ⊢
    clear h5 k5 h5' hb5 hp5 HTV4 HN4 HB34
    go_upto_region 9 with fail
    have HS5 := hqZ (HS3.out.below HB35.out)
    have HRC := hqZ (msgRead_any _ b w5 HS5.out)
    rw [HRD.out] at HRC
    go_wp2_with fail
    refine HRC.out.mono ?_
    rintro e w6 ⟨v6, rfl, hb6, hm6⟩
    have hm6 : MsgV w6 (fun b => b < w6.heap.size) 11 [.s la, .n n, .n m, .b lx] v6 := hm6
    obtain ⟨cs6, rfl, hp6⟩ := hm6
    obtain ⟨e1, f1, rfl, g1, hp6⟩ := hp6
    obtain rfl := g1
    obtain ⟨e2, f2, rfl, g2, hp6⟩ := hp6
    obtain rfl := g2
    obtain ⟨e3, f3, rfl, g3, hp6⟩ := hp6
    obtain rfl := g3
    obtain ⟨e4, f4, rfl, g4, hp6⟩ := hp6
    obtain ⟨vv4, rfl, hy4, _⟩ := g4
    obtain ⟨ya4, yc4, rfl, _⟩ := hy4.form
    have HY4 := hqZ hy4
    clear hy4
    obtain rfl : _ = [] := hp6
    have hty : typM 11 = 54 := rfl
    simp only [List.cons_append, List.nil_append, hty]
    clear hty
    have HB36 : Hid (Below w3.heap.size w3 w6) := hqZ (HB35.out.trans (hb6.mono HB35.out.size))
    have HP6 := hqZ (HP5.out.below hb6 HP5.out.lt)
    have HTV6 := hqZ (HTV5.out.below hb6)
    have HRT := hqZ (refRight11_any (msgTv 11 [.s la, .n n, .n m, .b lx]) _ cr w6 HTV6.out)
    rw [HMR.out] at HRT
    have hr1 : ∀ W, Blk W p5 cr 30 → W.cell? ⟨p5, 1, none⟩ = some (.int .i64 11) := fun W hW => by
      obtain ⟨bv, lv, rows, e, _⟩ := HTV6.out.open_
      have h := hW.cell 1
      rw [e] at h
      exact h
    have HR1 := hqZ hr1
    clear hb6 hr1 HRC HP5 HTV5 HB35
    go_wp2_with ((with_reducible show wpList _ _ _ (⟨some 105, _, _, _, _, _⟩ :: _) _ _); refine wpList_ldAgg rfl (.tmp 5) aggRef rfl rfl (cs := cr) HRL.out HP6.out.cellsAll ?_)
    refine HRT.out.mono ?_
    rintro e w7 ⟨rfl, hb7⟩
    have hb7' := hb7
    have HB37 : Hid (Below w3.heap.size w3 w7) := hqZ (HB36.out.trans (hb7.mono HB36.out.size))
    have HP7 := hqZ (HP6.out.below hb7 HP6.out.lt)
    have r1 := HR1.out w7 HP7.out
    have HQ7 := hqZ (HQ3.out.below HB37.out HQ3.out.lt)
    have q0 : w7.cell? ⟨q, 0, none⟩ = some (.int .i64 pick) := HQ7.out.cell 0
    have hta : ∀ W, (Instr.typeAssert (.iface 54 (.agg #[.string (tx la), .int .i64 n, .int .i64 m, .slice ya4 lx.length yc4])) 20 54 true).run Try.prog W = .ok (.tuple #[.agg #[.string (tx la), .int .i64 n, .int .i64 m, .slice ya4 lx.length yc4], .bool true]) W := fun W => ta_is _ _ _ (by kernel_rfl) W
    clear hb7 HRT
    obtain ⟨w8, hw8⟩ : ∃ w8, w8 = w7.alloc (.cells #[.string (tx la), .int .i64 n, .int .i64 m, .slice ya4 lx.length yc4] 54) := ⟨_, rfl⟩
    obtain ⟨p9, hp9⟩ : ∃ p9, p9 = w7.heap.size := ⟨_, rfl⟩
    have HP9 : Hid (Blk w8 p9 [.string (tx la), .int .i64 n, .int .i64 m, .slice ya4 lx.length yc4] 54) := hqZ (by rw [hw8, hp9]; exact Blk.new _ _ _)
    have HB38 : Hid (Below w3.heap.size w3 w8) := hqZ (by rw [hw8]; exact HB37.out.alloc HB37.out.size _)
    have HB68 : Hid (Below w6.heap.size w6 w8) := hqZ (by rw [hw8]; exact hb7'.alloc hb7'.size _)
    go_upto_region 15 with fail
    show Code.wp _ _ _ _ (w7.alloc (.cells #[.string (tx la), .int .i64 n, .int .i64 m, .slice ya4 lx.length yc4] 54))
    rw [← hw8, ← hp9]
    clear hw8 hp9 hta 
    have HB8 : Hid (Below w.heap.size w w8) := hqZ (HB3.out.trans (HB38.out.mono HB3.out.size))
    have HQ8 := hqZ (HQ3.out.below HB38.out HQ3.out.lt)
    have HX8 := hqZ (HX3.out.below HB38.out)
    have HT8 := hqZ (HT3.out.below HB38.out)
    have HY84 := hqZ (HY4.out.below HB68.out)
    clear q0 r1 HQ7 HP7 HP6
    obtain ⟨q0, q1, q2, q3, q4, q5, q6, q7, q8, q9, q10, q11, q12⟩ := cel13 HQ8.out
    obtain ⟨y0, y1, y2, y3⟩ := cel4 HP9.out
    have HS8 : Hid (Below w8.heap.size w8 w8) := hqZ (Below.refl _ _)
    go_wp2_with fail
    refine (same_b _ _ lx lx w8 (HY84.out.below HS8.out) (HX8.out.below HS8.out)).mono ?_
    rintro e w9 ⟨rfl, hb⟩
    have HS9 : Hid (Below w8.heap.size w8 w9) := hqZ (HS8.out.trans (hb.mono HS8.out.size))
    clear hb q0 q1 q2 q3 q4 q5 q6 q7 q8 q9 q10 q11 q12 y0 y1 y2 y3
    rw [show decide (lx = lx) = true from by simp]
    obtain ⟨q0, q1, q2, q3, q4, q5, q6, q7, q8, q9, q10, q11, q12⟩ := cel13 (HQ8.out.below HS9.out HQ8.out.lt)
    obtain ⟨y0, y1, y2, y3⟩ := cel4 (HP9.out.below HS9.out HP9.out.lt)
    go_wp2_with fail
    go_ret
    exact ⟨rfl, HB8.out.trans (HS9.out.mono HB8.out.size)⟩
set_option maxHeartbeats 16000000 in
set_option maxRecDepth 100000 in
theorem msgW_1 (pick n m l : Int) (la lb lts lx ly lt : List UInt8) (ex : List (List UInt8 × List UInt8)) (ax ay at1 ae : Option Addr) (cx cy ct ce : Nat) (set1 mesh : Bool) (w w1 : World) (q : Nat) (u21 u22 u23 u24 u25 u26 u27 u28 u29 u30 u31 u32 u33 u34 u35 u36 u37 u38 u39 u40 u41 u42 u43 u44 u45 u46 u47 u48 u49 u50 u51 u52 u53 u54 u55 u56 u57 u58 : Value) (H : MwH pick n m l la lb lts lx ly lt ex ax ay at1 ae cx cy ct ce set1 mesh w w1 q) (hp : bits .and .i64 pick 15 = 1) : Code.wp Try.prog mwRest (bodyPost Try.prog Try.f4 (fun e w' => e = .returned (.bool true) ∧ Below w.heap.size w w')) (mwFrame pick n m l la lb lts lx ly lt ex ax ay at1 ae cx cy ct ce set1 mesh q u21 u22 u23 u24 u25 u26 u27 u28 u29 u30 u31 u32 u33 u34 u35 u36 u37 u38 u39 u40 u41 u42 u43 u44 u45 u46 u47 u48 u49 u50 u51 u52 u53 u54 u55 u56 u57 u58) w1 := by
  obtain ⟨HB1, HQ1, HX1, HT1, HE1, HN, HM, HLL, HMA, HMB, HMS, HMX, HMT, HME, HME2⟩ := H
  unfold mwFrame
  conv => arg 2; whnf
  obtain ⟨q0, q1, q2, q3, q4, q5, q6, q7, q8, q9, q10, q11, q12⟩ := cel13 HQ1.out
  have HIT := hqZ (it_1 pick (tx la) (tx lb) (tx lts) n m l ax ay at1 ae lx.length cx ly.length cy lt.length ct ex.length ce set1 mesh w1 hp)
  go_wp2_with ((with_reducible show wpList _ _ _ (⟨some 60, _, _, _, _, _⟩ :: _) _ _); refine wpList_ldAgg rfl (.tmp 1) aggIn rfl rfl (cs := [.int .i64 pick, .string (tx la), .string (tx lb), .int .i64 n, .int .i64 m, .int .i64 l, .slice ax lx.length cx, .slice ay ly.length cy, .string (tx lts), .slice at1 lt.length ct, .slice ae ex.length ce, .bool set1, .bool mesh]) rfl HQ1.out.cellsAll ?_)
  refine HIT.out.mono ?_
  rintro e w2 ⟨rfl, hb2⟩
  have HB2 : Hid (Below w.heap.size w w2) := hqZ (HB1.out.trans (hb2.mono HB1.out.size))
  have HQ2 := hqZ (HQ1.out.below hb2 HQ1.out.lt)
  have HX2 := hqZ (HX1.out.below hb2)
  have HT2 := hqZ (HT1.out.below hb2)
  have HE2 : Hid (TksV w2 (fun _ => True) ex (.slice ae ex.length ce)) := hqZ (by obtain ⟨rows, h1, h2⟩ := HE1.out; exact ⟨rows, h1.below hb2, h2.below hb2⟩)
  have HOK : Hid (∀ p ∈ ([.s la, .i (lts, lt), .b lx] : List Pt), PtOk p) := hqZ (by
    intro p hp
    simp only [List.mem_cons, List.not_mem_nil, or_false] at hp
    rcases hp with rfl | rfl | rfl
    · exact (by have := HMA.out; show la.length ≤ _; omega)
    · exact (by have := HMS.out; have := HMT.out; show lts.length ≤ _ ∧ lt.length ≤ _; omega)
    · exact (by have := HMX.out; show lx.length ≤ _; omega)
    )
  have HPM : Hid (∀ p ∈ ([.s la, .i (lts, lt), .b lx] : List Pt), PtM p) := hqZ (by
    intro p hp
    simp only [List.mem_cons, List.not_mem_nil, or_false] at hp
    rcases hp with rfl | rfl | rfl
    · exact HMA.out
    · exact ⟨HMS.out, HMT.out⟩
    · exact HMX.out
    )
  have HMV : Hid (MsgV w2 (fun _ => True) 12 [.s la, .i (lts, lt), .b lx] (.iface 56 (.agg #[.string (tx la), .string (tx lts), .slice at1 lt.length ct, .slice ax lx.length cx]))) := hqZ ⟨[.string (tx la), .string (tx lts), .slice at1 lt.length ct, .slice ax lx.length cx], rfl, [.string (tx la)], _, rfl, rfl, [.string (tx lts), .slice at1 lt.length ct], _, rfl, ⟨_, rfl, HT2.out, fun _ _ _ => trivial⟩, [.slice ax lx.length cx], _, rfl, ⟨_, rfl, HX2.out, fun _ _ _ => trivial⟩, rfl⟩
  have HWR := hqZ (msgWrite_any 12 [.s la, .i (lts, lt), .b lx] _ _ w2 rfl rfl HMV.out HOK.out (fun h => msgTv_len _ _ (by simp) HPM.out h))
  have HWC := hqZ (wrM_cases 12 [.s la, .i (lts, lt), .b lx] rfl rfl)
  obtain ⟨wr, hwr⟩ : ∃ wr, wr = wrM 12 [.s la, .i (lts, lt), .b lx] := ⟨_, rfl⟩
  rw [← hwr] at HWR HWC
  clear hb2 HIT HOK HPM HMV HE1 HX1 HT1 HQ1 hwr
  go_wp2_with fail
  refine HWR.out.mono ?_
  rintro e w3 ⟨v3, rfl, hs3, hb3⟩
  have HB3 : Hid (Below w.heap.size w w3) := hqZ (HB2.out.trans (hb3.mono HB2.out.size))
  have HQ3 := hqZ (HQ2.out.below hb3 HQ2.out.lt)
  have HX3 := hqZ (HX2.out.below hb3)
  have HT3 := hqZ (HT2.out.below hb3)
  have HE3 : Hid (TksV w3 (fun _ => True) ex (.slice ae ex.length ce)) := hqZ (by obtain ⟨rows, h1, h2⟩ := HE2.out; exact ⟨rows, h1.below hb3, h2.below hb3⟩)
  have q0 : w3.cell? ⟨q, 0, none⟩ = some (.int .i64 pick) := HQ3.out.cell 0
  clear hb3 HWR HX2 HT2 HE2 HQ2
  rcases HWC.out with rfl | rfl | ⟨b, rfl, hwh, hrd, hmr, hpb⟩
  · obtain ⟨a3, c3, rfl, _⟩ := hs3.form
    rw [show ([] : List UInt8).length = 0 from rfl]
    clear hs3 HWC
    go_wp2_with fail
    go_ret
    exact ⟨rfl, HB3.out⟩
  · obtain ⟨a3, c3, rfl, _⟩ := hs3.form
    rw [show ([] : List UInt8).length = 0 from rfl]
    clear hs3 HWC
    go_wp2_with fail
    go_ret
    exact ⟨rfl, HB3.out⟩
  · obtain ⟨a3, c3, rfl, _⟩ := hs3.form
    have HS3 := hqZ hs3
    have HWH := hqZ (refWhole_any _ b w3 hs3)
    rw [hwh] at HWH
    have HRD := hqZ hrd
    have HMR := hqZ hmr
    have HPB := hqZ hpb
    clear hs3 HWC hwh hrd hmr hpb
    simp only
    go_wp2_with fail
    refine HWH.out.mono ?_
    rintro e w4 ⟨cr, rfl, htv, hb4⟩
    have HRL := hqZ htv.length
    have HRO := hqZ htv.one
    have HTV4 := hqZ htv
    have HN4 := hqZ (Blk.new w4 zs5 30)
    have HB34 := hqZ hb4
    clear htv hb4 HWH
    go_upto_region 9 with ((with_reducible show wpList _ _ _ (⟨none, .store _ (.tmp 5) (.tmp 91), _, _, _, _⟩ :: _) _ _); refine wpList_stAgg rfl (.tmp 5) (.tmp 91) aggRef rfl rfl (vs := cr) rfl HRL.out HN4.out (Nat.le_refl _) HRO.out ?_)
    intro w5 h5 k5
    have h5' : Blk w5 w4.heap.size cr 30 := by
      rw [List.drop_of_length_le (by decide), List.append_nil] at h5
      exact h5
    have hb5 : Below w4.heap.size w4 w5 := ((Below.refl _ _).alloc (Nat.le_refl _) _).trans (k5.below (by omega))
    have HP5 := hqZ h5'
    have HTV5 := hqZ (HTV4.out.below hb5)
    have HB35 : Hid (Below w3.heap.size w3 w5) := hqZ (HB34.out.trans (hb5.mono HB34.out.size))
    obtain ⟨p5, hp5⟩ : ∃ p5, p5 = w4.heap.size := ⟨_, rfl⟩
    rw [← hp5] at HP5 ⊢
    clear h5 k5 h5' hb5 hp5 HTV4 HN4 HB34
    go_upto_region 9 with fail
    have HS5 := hqZ (HS3.out.below HB35.out)
    have HRC := hqZ (msgRead_any _ b w5 HS5.out)
    rw [HRD.out] at HRC
    go_wp2_with fail
    refine HRC.out.mono ?_
    rintro e w6 ⟨v6, rfl, hb6, hm6⟩
    have hm6 : MsgV w6 (fun b => b < w6.heap.size) 12 [.s la, .i (lts, lt), .b lx] v6 := hm6
    obtain ⟨cs6, rfl, hp6⟩ := hm6
    obtain ⟨e1, f1, rfl, g1, hp6⟩ := hp6
    obtain rfl := g1
    obtain ⟨e2, f2, rfl, g2, hp6⟩ := hp6
    obtain ⟨vv2, rfl, hy2, _⟩ := g2
    obtain ⟨ya2, yc2, rfl, _⟩ := hy2.form
    have HY2 := hqZ hy2
    clear hy2
    obtain ⟨e3, f3, rfl, g3, hp6⟩ := hp6
    obtain ⟨vv3, rfl, hy3, _⟩ := g3
    obtain ⟨ya3, yc3, rfl, _⟩ := hy3.form
    have HY3 := hqZ hy3
    clear hy3
    obtain rfl : _ = [] := hp6
    have hty : typM 12 = 56 := rfl
    simp only [List.cons_append, List.nil_append, hty]
    clear hty
    have HB36 : Hid (Below w3.heap.size w3 w6) := hqZ (HB35.out.trans (hb6.mono HB35.out.size))
    have HP6 := hqZ (HP5.out.below hb6 HP5.out.lt)
    have HTV6 := hqZ (HTV5.out.below hb6)
    have HRT := hqZ (refRight11_any (msgTv 12 [.s la, .i (lts, lt), .b lx]) _ cr w6 HTV6.out)
    rw [HMR.out] at HRT
    have hr1 : ∀ W, Blk W p5 cr 30 → W.cell? ⟨p5, 1, none⟩ = some (.int .i64 12) := fun W hW => by
      obtain ⟨bv, lv, rows, e, _⟩ := HTV6.out.open_
      have h := hW.cell 1
      rw [e] at h
      exact h
    have HR1 := hqZ hr1
    clear hb6 hr1 HRC HP5 HTV5 HB35
    go_wp2_with ((with_reducible show wpList _ _ _ (⟨some 105, _, _, _, _, _⟩ :: _) _ _); refine wpList_ldAgg rfl (.tmp 5) aggRef rfl rfl (cs := cr) HRL.out HP6.out.cellsAll ?_)
    refine HRT.out.mono ?_
    rintro e w7 ⟨rfl, hb7⟩
    have hb7' := hb7
    have HB37 : Hid (Below w3.heap.size w3 w7) := hqZ (HB36.out.trans (hb7.mono HB36.out.size))
    have HP7 := hqZ (HP6.out.below hb7 HP6.out.lt)
    have r1 := HR1.out w7 HP7.out
    have HQ7 := hqZ (HQ3.out.below HB37.out HQ3.out.lt)
    have q0 : w7.cell? ⟨q, 0, none⟩ = some (.int .i64 pick) := HQ7.out.cell 0
    obtain ⟨z11, hta11⟩ := tan 54 56 (.agg #[.string (tx la), .string (tx lts), .slice ya2 lt.length yc2, .slice ya3 lx.length yc3]) zero_11 (by kernel_rfl) (by decide)
    have hta : ∀ W, (Instr.typeAssert (.iface 56 (.agg #[.string (tx la), .string (tx lts), .slice ya2 lt.length yc2, .slice ya3 lx.length yc3])) 20 56 true).run Try.prog W = .ok (.tuple #[.agg #[.string (tx la), .string (tx lts), .slice ya2 lt.length yc2, .slice ya3 lx.length yc3], .bool true]) W := fun W => ta_is _ _ _ (by kernel_rfl) W
    clear hb7 HRT
    obtain ⟨w8, hw8⟩ : ∃ w8, w8 = w7.alloc (.cells #[.string (tx la), .string (tx lts), .slice ya2 lt.length yc2, .slice ya3 lx.length yc3] 56) := ⟨_, rfl⟩
    obtain ⟨p9, hp9⟩ : ∃ p9, p9 = w7.heap.size := ⟨_, rfl⟩
    have HP9 : Hid (Blk w8 p9 [.string (tx la), .string (tx lts), .slice ya2 lt.length yc2, .slice ya3 lx.length yc3] 56) := hqZ (by rw [hw8, hp9]; exact Blk.new _ _ _)
    have HB38 : Hid (Below w3.heap.size w3 w8) := hqZ (by rw [hw8]; exact HB37.out.alloc HB37.out.size _)
    have HB68 : Hid (Below w6.heap.size w6 w8) := hqZ (by rw [hw8]; exact hb7'.alloc hb7'.size _)
    go_upto_region 18 with fail
    show Code.wp _ _ _ _ (w7.alloc (.cells #[.string (tx la), .string (tx lts), .slice ya2 lt.length yc2, .slice ya3 lx.length yc3] 56))
    rw [← hw8, ← hp9]
    clear hw8 hp9 hta hta11
    have HB8 : Hid (Below w.heap.size w w8) := hqZ (HB3.out.trans (HB38.out.mono HB3.out.size))
    have HQ8 := hqZ (HQ3.out.below HB38.out HQ3.out.lt)
    have HX8 := hqZ (HX3.out.below HB38.out)
    have HT8 := hqZ (HT3.out.below HB38.out)
    have HY82 := hqZ (HY2.out.below HB68.out)
    have HY83 := hqZ (HY3.out.below HB68.out)
    clear q0 r1 HQ7 HP7 HP6
    obtain ⟨q0, q1, q2, q3, q4, q5, q6, q7, q8, q9, q10, q11, q12⟩ := cel13 HQ8.out
    obtain ⟨y0, y1, y2, y3⟩ := cel4 HP9.out
    have HS8 : Hid (Below w8.heap.size w8 w8) := hqZ (Below.refl _ _)
    go_wp2_with (first | ((with_reducible show wpList _ _ _ (⟨some 164, _, _, _, _, _⟩ :: _) _ _); refine wpList_ldAgg rfl (.tmp 163) aggTicket rfl rfl (cs := [.string (tx lts), .slice ya2 lt.length yc2]) rfl ((HP9.out.below HS8.out HP9.out.lt).cellsAt 1 2) ?_) | ((with_reducible show wpList _ _ _ (⟨some 166, _, _, _, _, _⟩ :: _) _ _); refine wpList_ldAgg rfl (.tmp 165) aggTicket rfl rfl (cs := [.string (tx lts), .slice at1 lt.length ct]) rfl ((HQ8.out.below HS8.out HQ8.out.lt).cellsAt 8 2) ?_))
    refine (sameTk_any (tx lts) _ _ lt w8 (HY82.out.below HS8.out) (HT8.out.below HS8.out)).mono ?_
    rintro e w9 ⟨rfl, hb⟩
    have HS9 : Hid (Below w8.heap.size w8 w9) := hqZ (HS8.out.trans (hb.mono HS8.out.size))
    clear hb q0 q1 q2 q3 q4 q5 q6 q7 q8 q9 q10 q11 q12 y0 y1 y2 y3
    obtain ⟨q0, q1, q2, q3, q4, q5, q6, q7, q8, q9, q10, q11, q12⟩ := cel13 (HQ8.out.below HS9.out HQ8.out.lt)
    obtain ⟨y0, y1, y2, y3⟩ := cel4 (HP9.out.below HS9.out HP9.out.lt)
    go_wp2_with fail
    refine (same_b _ _ lx lx w9 (HY83.out.below HS9.out) (HX8.out.below HS9.out)).mono ?_
    rintro e w10 ⟨rfl, hb⟩
    have HS10 : Hid (Below w8.heap.size w8 w10) := hqZ (HS9.out.trans (hb.mono HS9.out.size))
    clear hb q0 q1 q2 q3 q4 q5 q6 q7 q8 q9 q10 q11 q12 y0 y1 y2 y3
    rw [show decide (lx = lx) = true from by simp]
    obtain ⟨q0, q1, q2, q3, q4, q5, q6, q7, q8, q9, q10, q11, q12⟩ := cel13 (HQ8.out.below HS10.out HQ8.out.lt)
    obtain ⟨y0, y1, y2, y3⟩ := cel4 (HP9.out.below HS10.out HP9.out.lt)
    go_wp2_with fail
    go_ret
    exact ⟨rfl, HB8.out.trans (HS10.out.mono HB8.out.size)⟩
end Go.Proofs.Ytpjkidcfidmfaaa
