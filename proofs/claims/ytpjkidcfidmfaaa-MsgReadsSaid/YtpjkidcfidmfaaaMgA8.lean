/- Texts of this proof, one behind the other: MRef2, MRef3, MVal, MValA. -/
import Derived.Test.YtpjkidcfidmfaaaMgA7
import Derived.Deep.DeepCutAuto
/- The document's tickets and messages: which values they are. Printed by tools/genmref2.py. -/
namespace Go.Proofs.Ytpjkidcfidmfaaa
set_option linter.unusedSimpArgs false
set_option linter.unusedVariables false
open Go.RowKit
theorem tx_toList (l : List UInt8) : (tx l).toList = l := by rw [ByteArray.toList_eq]; rfl
theorem run_idxS (l : List UInt8) (k : Nat) (h : k < l.length) (W : World) : (Instr.index 9 (.string (tx l)) (.int .i64 (k : Int))).run Try.prog W = .ok (.int .u8 (l[k].toNat : Int)) W := by
  have hs : (tx l)[k]? = some l[k] := by
    have h1 : k < (tx l).size := by rw [tx_size]; exact h
    rw [getElem?_pos (tx l) k h1]
    rfl
  unfold Instr.index
  rw [Sem.run_bind]
  simp only [asIntOf, Sem.run_pure, Result.andThen_ok, Sem.run_bind, run_underlying Try.underlying9]
  rw [if_pos (by omega), Int.toNat_natCast, hs]
  simp
theorem fitsK_drop (ks : List Kd) (l : List Tv) (k : Nat) (h1 : k < ks.length) (h2 : k < l.length) : fitsK (ks.drop k) (l.drop k) = (fitK ks[k] l[k] && fitsK (ks.drop (k + 1)) (l.drop (k + 1))) := by
  rw [List.drop_eq_getElem_cons h1, List.drop_eq_getElem_cons h2]
  rfl
theorem fitsK_len : ∀ {ks : List Kd} {l : List Tv}, fitsK ks l = true → l.length = ks.length
  | [], [], _ => rfl
  | [], _ :: _, h => by simp [fitsK] at h
  | _ :: _, [], h => by simp [fitsK] at h
  | k :: ks, x :: l, h => by
    simp only [fitsK, Bool.and_eq_true] at h
    rw [List.length_cons, List.length_cons, fitsK_len h.2]
theorem tkR_fits (x : Tv) : tkR x = (decide (x.kind = 2 ∧ x.tag = 1) && fitsK [.s, .b] x.l) := by
  unfold tkR
  congr 1
  generalize x.l = l
  match l with
  | [] => rfl
  | [a] => simp [fitsK]
  | [a, b] => simp [fitsK, fitK]
  | a :: b :: c :: l => simp [fitsK]
set_option maxHeartbeats 4000000 in
set_option maxRecDepth 100000 in
theorem refRight10_any (x : Tv) (ht : x.tag = 1) (F : Nat → Prop) (cs : List Value) (w : World) (h : TvF w F x cs) : Calls Try.prog 43 #[.agg cs.toArray] w fun e w' => e = .returned (.bool (tkR x)) ∧ Below w.heap.size w w' := by
  obtain ⟨bv, lv, rows, rfl, hb1, hb2, hb3, hb4, hb5⟩ := h.open_
  obtain ⟨al, cl, rfl, hcl, hml⟩ := hb3.form
  obtain ⟨ab, cb, rfl, hcb, hmb⟩ := hb1.form
  unfold maxLen at hml
  have HSL := Lib.hid hb3
  have HTV := Lib.hid hb5
  clear h hb1 hb2 hb3 hb4 hb5
  obtain ⟨r, hr⟩ : ∃ r, r = tkR x := ⟨_, rfl⟩
  rw [← hr]
  have HR : Hid (r = (decide (x.kind = 2 ∧ x.tag = 1) && fitsK [.s, .b] x.l)) := Lib.hid (by rw [hr, tkR_fits])
  have HT := Lib.hid ht
  rw [ht]
  clear hr ht
  obtain ⟨n, hn⟩ : ∃ n, n = x.l.length := ⟨_, rfl⟩
  obtain ⟨q, hq⟩ : ∃ q, q = w.heap.size := ⟨_, rfl⟩
  obtain ⟨w1, hw1⟩ : ∃ w1, w1 = w.alloc (.cells #[.int .i64 x.kind, .int .i64 1, .int .u64 (x.n : Int), .slice ab x.b.length cb, .slice al x.l.length cl] 30) := ⟨_, rfl⟩
  have HB1 : Hid (Below w.heap.size w w1) := Lib.hid (by rw [hw1]; exact (Below.refl _ _).alloc (Nat.le_refl _) _)
  have HQ1 : Hid (Blk w1 q [.int .i64 x.kind, .int .i64 1, .int .u64 (x.n : Int), .slice ab x.b.length cb, .slice al x.l.length cl] 30) := Lib.hid (by rw [hw1, hq]; exact Blk.new _ _ _)
  have hq4 : w1.cell? ⟨q, 4, none⟩ = some (.slice al x.l.length cl) := HQ1.out.cell 4
  have hq0 : w1.cell? ⟨q, 0, none⟩ = some (.int .i64 x.kind) := HQ1.out.cell 0
  have hsz : (tx [115, 98]).size = 2 := rfl
  have hsq : ((tx [115, 98]).toList == [63]) = false := by rw [tx_toList]; decide
  have HSH := Lib.hid (refShape10_any w1)
  by_cases hk : x.kind = 2
  · have HK := Lib.hid hk
    have hk1 : (x.kind != 2) = false := by simpa using hk
    clear hk
    by_cases hl : x.l.length = 2
    · have HL := Lib.hid hl
      have hl1 : ((x.l.length : Int) != 2) = false := by simp; omega
      have HRR : Hid (r = fitsK [.s, .b] x.l) := Lib.hid (by rw [HR.out, HK.out, HT.out]; rfl)
      clear hl
      go_enter Try.func43, Try.ntmps43
      go_upto_region 1 with fail
      show Code.wp _ _ _ _ (w.alloc (.cells #[.int .i64 x.kind, .int .i64 1, .int .u64 (x.n : Int), .slice ab x.b.length cb, .slice al x.l.length cl] 30))
      have hq1 : w1.cell? ⟨q, 1, none⟩ = some (.int .i64 1) := HQ1.out.cell 1
      rw [← hw1, ← hq]
      clear hw1 hq hn
      go_wp2_with fail
      refine HSH.out.mono ?_
      rintro e w2 ⟨rfl, rfl⟩
      go_wp2_with fail
      go_loopw [4] (fun i wr => ∃ k : Nat, k ≤ 2 ∧ i = .int .i64 k ∧ Below w1.heap.size w1 wr ∧ fitsK ([Kd.s, Kd.b].drop k) (x.l.drop k) = r) (fun i _ => 2 - (intOf i).toNat)
      case atStart => exact ⟨0, by omega, rfl, Below.refl _ _, HRR.out.symm⟩
      case round =>
        obtain ⟨k, hk, rfl, hB, hF⟩ := hrel
        have HB := Lib.hid hB
        have HF := Lib.hid hF
        clear hB hF
        have hbz := HB.out.size
        have hqw := HQ1.out.lt
        by_cases hlt : k < 2
        · have hlt1 : (k : Int) < 2 := by omega
          have hlx : k < x.l.length := by rw [HL.out]; exact hlt
          have hlx1 : (k : Int) < (x.l.length : Int) := by omega
          obtain ⟨bl, ol, rfl, _⟩ := HSL.out.addr (by rw [HSL.out.1]; omega)
          obtain ⟨re, hre, hrc⟩ := HTV.out.cells HSL.out k hlx
          have hbw : Below w.heap.size w wr := HB1.out.trans (HB.out.mono HB1.out.size)
          have hbd : Below wr.heap.size wr wr.drew := (Below.refl _ _).drew
          have HCRW : Hid (∀ W, Below wr.heap.size wr W → CellsAt W bl (ol + k * 5) re) := Lib.hid (fun W hW i u hi => below_cell hW (below_cell hbw (hrc i u hi)))
          have HQW : Hid (∀ W, Below wr.heap.size wr W → Blk W q [.int .i64 x.kind, .int .i64 1, .int .u64 (x.n : Int), .slice ab x.b.length cb, .slice (some ⟨bl, ol, none⟩) x.l.length cl] 30) := Lib.hid (fun W hW => (HQ1.out.below HB.out hqw).below hW (by omega))
          have HRL := Lib.hid hre.length
          have hsx : ∀ W, (Instr.index 9 (.string (tx [115, 98])) (.int .i64 (k : Int))).run Try.prog W = .ok (.int .u8 ((kdC ([Kd.s, Kd.b][k])).toNat : Int)) W := fun W => by
            rw [run_idxS [115, 98] k hlt W]
            rcases (by omega : k = 0 ∨ k = 1) with rfl | rfl <;> rfl
          have hlow : lowK ([Kd.s, Kd.b][k]) = true := by rcases (by omega : k = 0 ∨ k = 1) with rfl | rfl <;> rfl
          have HFT := Lib.hid (refFits_any ([Kd.s, Kd.b][k]) hlow x.l[k] F re wr.drew ((hre.below hbw).below hbd))
          have HFD : Hid ((fitK ([Kd.s, Kd.b][k]) x.l[k] && fitsK ([Kd.s, Kd.b].drop (k + 1)) (x.l.drop (k + 1))) = r) := Lib.hid (by rw [← fitsK_drop [Kd.s, Kd.b] x.l k hlt hlx]; exact HF.out)
          clear hre hrc hbw hbd hlow HF
          generalize fitK ([Kd.s, Kd.b][k]) x.l[k] = d at *
          clear hlx
          generalize ((kdC ([Kd.s, Kd.b][k])).toNat : Int) = c at *
          generalize hnn : x.l.length = nn at *
          have hlx1 : (k : Int) < (nn : Int) := by omega
          go_upto_region 7 with fail
          obtain ⟨wd, hwd⟩ : ∃ wd, wd = World.drew wr := ⟨_, rfl⟩
          have HS0 : Hid (Below wr.heap.size wr wd) := Lib.hid (by rw [hwd]; exact (Below.refl _ _).drew)
          rw [← hwd] at HFT
          refine wp_region_held (S := fun W => Below wr.heap.size wr W) (by kernel_rfl) ?_
          change wpAnyH _ _ _ _ _ _ _ _ (World.drew _)
          rw [← hwd]
          clear hwd
          refine tkH 0 29 none (.pointer (some ⟨q, 4, none⟩)) rfl (by kernel_rfl) (fun _ _ _ h => h) (by rfl) (by intro W hW; go_simp) HS0.out ?_
          simp only [Act.put, q1, q2, q3]
          refine tkH 1 30 none (.slice (some ⟨bl, ol, none⟩) nn cl) rfl (by kernel_rfl) (fun _ _ _ h => h) (by rfl) (by intro W hW; have hc : W.cell? ⟨q, 4, none⟩ = some (.slice (some ⟨bl, ol, none⟩) nn cl) := (HQW.out W hW).cell 4; go_simp) HS0.out ?_
          simp only [Act.put, q1, q2, q3]
          refine tkH 2 31 none (.int .i64 k) rfl (by kernel_rfl) (fun _ _ _ h => h) (by rfl) (by intro W hW; go_simp) HS0.out ?_
          simp only [Act.put, q1, q2, q3]
          refine tkH 3 32 none (.pointer (some ⟨bl, ol + k * 5, none⟩)) rfl (by kernel_rfl) (fun _ _ _ h => h) (by rfl) (by intro W hW; go_simp) HS0.out ?_
          simp only [Act.put, q1, q2, q3]
          refine tkH 4 33 none (.agg re.toArray) rfl (by kernel_rfl) (fun _ _ _ h => h) (by rfl) (by intro W hW; exact exec_ldAgg rfl aggRef rfl HRL.out (HCRW.out W hW)) HS0.out ?_
          simp only [Act.put, q1, q2, q3]
          refine tkH 5 34 none (.string (tx [115, 98])) rfl (by kernel_rfl) (fun _ _ _ h => h) (by rfl) (by intro W hW; go_simp) HS0.out ?_
          simp only [Act.put, q1, q2, q3]
          refine tkH 6 35 none (.int .i64 k) rfl (by kernel_rfl) (fun _ _ _ h => h) (by rfl) (by intro W hW; go_simp) HS0.out ?_
          simp only [Act.put, q1, q2, q3]
          refine tkH 7 36 none (.int .u8 c) rfl (by kernel_rfl) (fun _ _ _ h => h) (by rfl) (by intro W hW; have hc := hsx W; go_simp) HS0.out ?_
          simp only [Act.put, q1, q2, q3]
          refine anyH_ready (rs := [8]) (by decide +kernel) (by simp) ?_
          refine AllReadyH.cons (o := { dst := some 37, op := .call { callee := .value (.func 23), args := #[.tmp 33, .tmp 36], argTypes := #[30, 5] }, type := _, pos := _, after := _, guard := none }) rfl (fun K hK => ?_) AllReadyH.nil
          go_simp
          refine HFT.out.mono ?_
          rintro e w3 ⟨rfl, hb⟩
          have HS0 : Hid (Below wr.heap.size wr w3) := Lib.hid (HS0.out.trans (hb.mono HS0.out.size))
          clear hb HFT
          refine hK _ _ HS0.out ?_
          clear hK K
          try simp only [Act.put, q1, q2, q3]
          refine tkH 9 38 none (.bool (!d)) rfl (by kernel_rfl) (fun _ _ _ h => h) (by rfl) (by intro W hW; go_simp) HS0.out ?_
          simp only [Act.put, q1, q2, q3]
          refine wpAnyH_done (by decide +kernel) ?_ _
          cases d with
          | true =>
            go_wp2_with fail
            go_roundw
            case rel => exact ⟨k + 1, by omega, by go_num, HS0.out.mono HB.out.size |> HB.out.trans, by have := HFD.out; rwa [Bool.true_and] at this⟩
            case measure => simp [intOf]; omega
          | false =>
            go_wp2_with fail
            go_ret
            rw [show r = false by have := HFD.out; rw [Bool.false_and] at this; exact this.symm]
            exact ⟨rfl, HB1.out.trans ((HB.out.trans (HS0.out.mono HB.out.size)).mono HB1.out.size)⟩
        · obtain rfl : k = 2 := by omega
          have HFD : Hid (r = true) := Lib.hid (by
            have h := HF.out
            rw [show [Kd.s, Kd.b].drop 2 = [] from rfl, show x.l.drop 2 = [] from List.drop_of_length_le (by rw [HL.out]; exact Nat.le_refl _)] at h
            exact h.symm)
          clear HF
          go_wp2_with fail
          go_ret
          rw [HFD.out]
          exact ⟨rfl, HB1.out.trans (HB.out.mono HB1.out.size)⟩
    · have HL := Lib.hid hl
      have hl1 : ((x.l.length : Int) != 2) = true := by simp; omega
      have HRR : Hid (r = false) := Lib.hid (by
        rw [HR.out]
        cases hf : fitsK [.s, .b] x.l with
        | false => simp
        | true => exact absurd (fitsK_len hf) hl)
      clear hl
      go_enter Try.func43, Try.ntmps43
      go_upto_region 1 with fail
      show Code.wp _ _ _ _ (w.alloc (.cells #[.int .i64 x.kind, .int .i64 1, .int .u64 (x.n : Int), .slice ab x.b.length cb, .slice al x.l.length cl] 30))
      have hq1 : w1.cell? ⟨q, 1, none⟩ = some (.int .i64 1) := HQ1.out.cell 1
      rw [← hw1, ← hq]
      clear hw1 hq hn
      go_wp2_with fail
      refine HSH.out.mono ?_
      rintro e w2 ⟨rfl, rfl⟩
      go_wp2_with fail
      go_ret
      rw [HRR.out]
      exact ⟨rfl, HB1.out⟩
  · have HK := Lib.hid hk
    have hk1 : (x.kind != 2) = true := by simpa using hk
    have HRR : Hid (r = false) := Lib.hid (by rw [HR.out]; simp [hk])
    clear hk
    go_enter Try.func43, Try.ntmps43
    go_upto_region 1 with fail
    show Code.wp _ _ _ _ (w.alloc (.cells #[.int .i64 x.kind, .int .i64 1, .int .u64 (x.n : Int), .slice ab x.b.length cb, .slice al x.l.length cl] 30))
    have hq1 : w1.cell? ⟨q, 1, none⟩ = some (.int .i64 1) := HQ1.out.cell 1
    rw [← hw1, ← hq]
    clear hw1 hq hn
    go_wp2_with fail
    refine HSH.out.mono ?_
    rintro e w2 ⟨rfl, rfl⟩
    go_wp2_with fail
    go_ret
    rw [HRR.out]
    exact ⟨rfl, HB1.out⟩
end Go.Proofs.Ytpjkidcfidmfaaa
/- The document's messages: ticket, Right, To. Printed by tools/genmref3.py. -/
namespace Go.Proofs.Ytpjkidcfidmfaaa
set_option linter.unusedSimpArgs false
set_option linter.unusedVariables false
open Go.RowKit
set_option maxHeartbeats 1000000 in
set_option maxRecDepth 100000 in
theorem refTicket_any (x : Tv) (F : Nat → Prop) (cs : List Value) (w : World) (h : TvF w F x cs) : Calls Try.prog 22 #[.agg cs.toArray] w fun e w' => e = .returned (.bool (tkR x)) ∧ Below w.heap.size w w' := by
  have HTX := Lib.hid h
  obtain ⟨bv, lv, rows, rfl, hb1, hb2, hb3, hb4, hb5⟩ := h.open_
  obtain ⟨al, cl, rfl, hcl, hml⟩ := hb3.form
  obtain ⟨ab, cb, rfl, hcb, hmb⟩ := hb1.form
  unfold maxLen at hml
  clear h hb1 hb2 hb3 hb4 hb5
  obtain ⟨r, hr⟩ : ∃ r, r = tkR x := ⟨_, rfl⟩
  rw [← hr]
  have HR := Lib.hid hr
  clear hr
  obtain ⟨q, hq⟩ : ∃ q, q = w.heap.size := ⟨_, rfl⟩
  obtain ⟨w1, hw1⟩ : ∃ w1, w1 = w.alloc (.cells #[.int .i64 x.kind, .int .i64 x.tag, .int .u64 (x.n : Int), .slice ab x.b.length cb, .slice al x.l.length cl] 30) := ⟨_, rfl⟩
  have HB1 : Hid (Below w.heap.size w w1) := Lib.hid (by rw [hw1]; exact (Below.refl _ _).alloc (Nat.le_refl _) _)
  have HQ1 : Hid (Blk w1 q [.int .i64 x.kind, .int .i64 x.tag, .int .u64 (x.n : Int), .slice ab x.b.length cb, .slice al x.l.length cl] 30) := Lib.hid (by rw [hw1, hq]; exact Blk.new _ _ _)
  have hq0 : w1.cell? ⟨q, 0, none⟩ = some (.int .i64 x.kind) := HQ1.out.cell 0
  have hq1 : w1.cell? ⟨q, 1, none⟩ = some (.int .i64 x.tag) := HQ1.out.cell 1
  have hq4 : w1.cell? ⟨q, 4, none⟩ = some (.slice al x.l.length cl) := HQ1.out.cell 4
  have HCALL : Hid (x.tag = 1 → Calls Try.prog 43 #[.agg #[.int .i64 x.kind, .int .i64 x.tag, .int .u64 (x.n : Int), .slice ab x.b.length cb, .slice al x.l.length cl]] w1 fun e w' => e = .returned (.bool (tkR x)) ∧ Below w1.heap.size w1 w') := Lib.hid (fun ht => refRight10_any x ht F _ w1 (HTX.out.below HB1.out))
  by_cases ht : x.tag = 1
  · have HT := Lib.hid ht
    have ht1 : (x.tag == 1) = true := by simpa using ht
    clear ht
    go_enter Try.func22, Try.ntmps22
    go_upto_region 1 with fail
    show Code.wp _ _ _ _ (w.alloc (.cells #[.int .i64 x.kind, .int .i64 x.tag, .int .u64 (x.n : Int), .slice ab x.b.length cb, .slice al x.l.length cl] 30))
    rw [← hw1, ← hq]
    clear hw1 hq
    go_wp2_with ((with_reducible show wpList _ _ _ (⟨some 7, _, _, _, _, _⟩ :: _) _ _); refine wpList_ldAgg rfl (.tmp 1) aggRef rfl rfl (cs := [.int .i64 x.kind, .int .i64 x.tag, .int .u64 (x.n : Int), .slice ab x.b.length cb, .slice al x.l.length cl]) rfl HQ1.out.cellsAll ?_)
    refine (HCALL.out HT.out).mono ?_
    rintro e w2 ⟨rfl, hb⟩
    rw [← HR.out]
    have HB2 : Hid (Below w.heap.size w w2) := Lib.hid (HB1.out.trans (hb.mono HB1.out.size))
    clear hb
    go_wp2_with fail
    go_ret
    exact ⟨rfl, HB2.out⟩
  · have ht1 : (x.tag == 1) = false := by simpa using ht
    have HF : Hid (r = false) := Lib.hid (by rw [HR.out]; unfold tkR; rw [decide_eq_false (fun hc => ht hc.2)]; rfl)
    clear ht
    go_enter Try.func22, Try.ntmps22
    go_upto_region 1 with fail
    show Code.wp _ _ _ _ (w.alloc (.cells #[.int .i64 x.kind, .int .i64 x.tag, .int .u64 (x.n : Int), .slice ab x.b.length cb, .slice al x.l.length cl] 30))
    rw [← hw1, ← hq]
    clear hw1 hq
    go_wp2_with fail
    go_ret
    rw [HF.out]
    exact ⟨rfl, HB1.out⟩
theorem shapeC_len {t : Int} (h : (shapeS t).isEmpty = false) : (shapeC t).length = (shapeS t).length ∧ shapeC t = (shapeS t).map kdC := by
  have e : shapeC t = (shapeS t).map kdC := by unfold shapeC; rw [if_neg (by rw [h]; decide)]
  exact ⟨by rw [e, List.length_map], e⟩
theorem shapeC_q (t : Int) : (shapeC t == [63]) = (shapeS t).isEmpty := by
  unfold shapeC
  cases h : (shapeS t).isEmpty with
  | true => rfl
  | false =>
    rw [if_neg (by decide)]
    cases hs : shapeS t with
    | nil => rw [hs] at h; cases h
    | cons k ks => cases k <;> rfl
theorem shape_le (t : Int) : (shapeS t).length ≤ 8 := by
  by_cases h : (shapeS t).isEmpty = true
  · rw [List.isEmpty_iff.1 h]; decide
  · have h : (shapeS t).isEmpty = false := by simpa using h
    obtain ⟨h1, h2⟩ := shape_tag h
    rcases (by omega : t = 11 ∨ t = 12 ∨ t = 13 ∨ t = 14 ∨ t = 15 ∨ t = 16 ∨ t = 17 ∨ t = 18 ∨ t = 19 ∨ t = 20 ∨ t = 21 ∨ t = 22) with rfl | rfl | rfl | rfl | rfl | rfl | rfl | rfl | rfl | rfl | rfl | rfl <;> decide
set_option maxHeartbeats 16000000 in
set_option maxRecDepth 100000 in
theorem refRight11_any (x : Tv) (F : Nat → Prop) (cs : List Value) (w : World) (h : TvF w F x cs) : Calls Try.prog 8 #[.agg cs.toArray] w fun e w' => e = .returned (.bool (msgR x)) ∧ Below w.heap.size w w' := by
  obtain ⟨bv, lv, rows, rfl, hb1, hb2, hb3, hb4, hb5⟩ := h.open_
  obtain ⟨al, cl, rfl, hcl, hml⟩ := hb3.form
  obtain ⟨ab, cb, rfl, hcb, hmb⟩ := hb1.form
  unfold maxLen at hml
  have HSL := Lib.hid hb3
  have HTV := Lib.hid hb5
  clear h hb1 hb2 hb3 hb4 hb5
  obtain ⟨r, hr⟩ : ∃ r, r = msgR x := ⟨_, rfl⟩
  rw [← hr]
  have HR : Hid (r = (decide (x.kind = 2) && (!(shapeS x.tag).isEmpty && fitsK (shapeS x.tag) x.l))) := Lib.hid hr
  clear hr
  obtain ⟨q, hq⟩ : ∃ q, q = w.heap.size := ⟨_, rfl⟩
  obtain ⟨w1, hw1⟩ : ∃ w1, w1 = w.alloc (.cells #[.int .i64 x.kind, .int .i64 x.tag, .int .u64 (x.n : Int), .slice ab x.b.length cb, .slice al x.l.length cl] 30) := ⟨_, rfl⟩
  have HB1 : Hid (Below w.heap.size w w1) := Lib.hid (by rw [hw1]; exact (Below.refl _ _).alloc (Nat.le_refl _) _)
  have HQ1 : Hid (Blk w1 q [.int .i64 x.kind, .int .i64 x.tag, .int .u64 (x.n : Int), .slice ab x.b.length cb, .slice al x.l.length cl] 30) := Lib.hid (by rw [hw1, hq]; exact Blk.new _ _ _)
  have hq0 : w1.cell? ⟨q, 0, none⟩ = some (.int .i64 x.kind) := HQ1.out.cell 0
  have hq1 : w1.cell? ⟨q, 1, none⟩ = some (.int .i64 x.tag) := HQ1.out.cell 1
  have hq4 : w1.cell? ⟨q, 4, none⟩ = some (.slice al x.l.length cl) := HQ1.out.cell 4
  have HSH := Lib.hid (refShape_any x.tag w1)
  have HSC : Hid ((shapeS x.tag).isEmpty = false → (shapeC x.tag).length = (shapeS x.tag).length ∧ shapeC x.tag = (shapeS x.tag).map kdC) := Lib.hid shapeC_len
  have hsq0 : ((tx (shapeC x.tag)).toList == [63]) = (shapeS x.tag).isEmpty := by rw [tx_toList]; exact shapeC_q _
  have hk8 := shape_le x.tag
  have hsz : (tx (shapeC x.tag)).size = (shapeC x.tag).length := tx_size _
  generalize shapeS x.tag = ks at *
  generalize shapeC x.tag = sc at *
  have HSZ := Lib.hid hsz
  have HSQ0 := Lib.hid hsq0
  clear hsz hsq0
  by_cases hk : x.kind = 2
  · have HK := Lib.hid hk
    have hk1 : (x.kind != 2) = false := by simpa using hk
    clear hk
    by_cases he : ks.isEmpty = false
    · obtain ⟨hsl, hsm⟩ := HSC.out he
      have hsz : (tx sc).size = ks.length := HSZ.out.trans hsl
      have hsq : ((tx sc).toList == [63]) = false := HSQ0.out.trans he
      have HSM := Lib.hid hsm
      by_cases hl : x.l.length = ks.length
      · have HL := Lib.hid hl
        have hl1 : ((x.l.length : Int) != (ks.length : Int)) = false := by simp; omega
        have HRR : Hid (r = fitsK ks x.l) := Lib.hid (by rw [HR.out, HK.out, he]; rfl)
        clear hl he hsl hsm HSC HSQ0 HSZ HR
        go_enter Try.func8, Try.ntmps8
        go_upto_region 1 with fail
        show Code.wp _ _ _ _ (w.alloc (.cells #[.int .i64 x.kind, .int .i64 x.tag, .int .u64 (x.n : Int), .slice ab x.b.length cb, .slice al x.l.length cl] 30))
        rw [← hw1, ← hq]
        clear hw1 hq
        go_wp2_with fail
        refine HSH.out.mono ?_
        rintro e w2 ⟨rfl, rfl⟩
        go_wp2_with fail
        go_loopw [4] (fun i wr => ∃ k : Nat, k ≤ ks.length ∧ i = .int .i64 k ∧ Below w1.heap.size w1 wr ∧ fitsK (ks.drop k) (x.l.drop k) = r) (fun i _ => ks.length - (intOf i).toNat)
        case atStart => exact ⟨0, by omega, rfl, Below.refl _ _, HRR.out.symm⟩
        case round =>
          obtain ⟨k, hk, rfl, hB, hF⟩ := hrel
          have HB := Lib.hid hB
          have HF := Lib.hid hF
          clear hB hF
          have hbz := HB.out.size
          have hqw := HQ1.out.lt
          by_cases hlt : k < ks.length
          · have hlt1 : (k : Int) < (ks.length : Int) := by omega
            have hlx : k < x.l.length := by rw [HL.out]; exact hlt
            have hlx1 : (k : Int) < (x.l.length : Int) := by omega
            obtain ⟨bl, ol, rfl, _⟩ := HSL.out.addr (by rw [HSL.out.1]; omega)
            obtain ⟨re, hre, hrc⟩ := HTV.out.cells HSL.out k hlx
            have hbw : Below w.heap.size w wr := HB1.out.trans (HB.out.mono HB1.out.size)
            have hcr : CellsAt wr bl (ol + k * 5) re := fun i u hi => below_cell hbw (hrc i u hi)
            have HCR := Lib.hid hcr
            have HRL := Lib.hid hre.length
            have HRO := Lib.hid hre.one
            have HTY := Lib.hid (hre.below hbw)
            have HSX : Hid (∀ W, (Instr.index 9 (.string (tx sc)) (.int .i64 (k : Int))).run Try.prog W = .ok (.int .u8 ((kdC ks[k]).toNat : Int)) W) := Lib.hid (fun W => by
              have h := HSM.out
              have hks : k < sc.length := by rw [h, List.length_map]; exact hlt
              rw [run_idxS sc k hks W]
              have he : sc[k] = kdC ks[k] := by
                have : sc[k]? = some (kdC ks[k]) := by rw [h, List.getElem?_map, List.getElem?_eq_getElem hlt]; rfl
                rw [List.getElem?_eq_getElem hks] at this
                simpa using this
              rw [he])
            have HFD : Hid ((fitK ks[k] x.l[k] && fitsK (ks.drop (k + 1)) (x.l.drop (k + 1))) = r) := Lib.hid (by rw [← fitsK_drop ks x.l k hlt hlx]; exact HF.out)
            have HNX : Hid (fitK ks[k] x.l[k] = true → fitsK (ks.drop (k + 1)) (x.l.drop (k + 1)) = r) := Lib.hid (fun h => by have := HFD.out; rwa [h, Bool.true_and] at this)
            have HNO : Hid (fitK ks[k] x.l[k] = false → r = false) := Lib.hid (fun h => by have := HFD.out; rw [h, Bool.false_and] at this; exact this.symm)
            have hq4w : wr.cell? ⟨q, 4, none⟩ = some (.slice (some ⟨bl, ol, none⟩) x.l.length cl) := (HQ1.out.below HB.out hqw).cell 4
            clear hre hrc hbw hcr HF HFD hq4 hq0 hq1
            generalize x.l[k] = y at *
            generalize ks[k] = K at *
            clear hlx
            generalize hnn : x.l.length = nn at *
            have HN5 := Lib.hid (Blk.new wr zs5 30)
            go_upto_region 8 with (first | ((with_reducible show wpList _ _ _ (⟨some 34, _, _, _, _, _⟩ :: _) _ _); refine wpList_ldAgg rfl (.tmp 33) aggRef rfl rfl (cs := re) HRL.out HCR.out ?_) | ((with_reducible show wpList _ _ _ (⟨none, .store _ (.tmp 5) (.tmp 34), _, _, _, _⟩ :: _) _ _); refine wpList_stAgg rfl (.tmp 5) (.tmp 34) aggRef rfl rfl (vs := re) rfl HRL.out HN5.out (Nat.le_refl _) HRO.out ?_))
            intro w3 h3 k3
            have h3' : Blk w3 wr.heap.size re 30 := by
              rw [List.drop_of_length_le (by decide), List.append_nil] at h3
              exact h3
            have hz3 := k3.size
            simp at hz3
            have hb3 : Below wr.heap.size wr w3 := ((Below.refl _ _).alloc (Nat.le_refl _) _).trans (k3.below (by omega))
            have H3 := Lib.hid h3'
            have HB3 : Hid (Below w1.heap.size w1 w3) := Lib.hid (HB.out.trans (hb3.mono hbz))
            have HTY3 := Lib.hid (HTY.out.below hb3)
            obtain ⟨p5, hp5⟩ : ∃ p5, p5 = wr.heap.size := ⟨_, rfl⟩
            rw [← hp5] at H3 ⊢
            have hp3 : p5 < w3.heap.size := H3.out.lt
            have HW : Hid (∀ W, Below w3.heap.size w3 W → Below w.heap.size w W) := Lib.hid (fun W h => HB1.out.trans ((HB3.out.trans (h.mono HB3.out.size)).mono HB1.out.size))
            clear h3 k3 h3' hb3 HN5 HCR HTY hq4w hp5
            go_upto_region 8 with fail
            cases K with
            | s =>
              have hsx : ∀ W, (Instr.index 9 (.string (tx sc)) (.int .i64 (k : Int))).run Try.prog W = .ok (.int .u8 115) W := HSX.out
              have HFT := Lib.hid (refFits_any .s rfl y F re w3.drew (HTY3.out.below ((Below.refl _ _).drew)))
              go_upto_region 9 with fail
              generalize fitK .s y = d at *
              obtain ⟨wd, hwd⟩ : ∃ wd, wd = World.drew w3 := ⟨_, rfl⟩
              have HS0 : Hid (Below w3.heap.size w3 wd) := Lib.hid (by rw [hwd]; exact (Below.refl _ _).drew)
              have HFT : Hid (Calls Try.prog 23 #[.agg re.toArray, .int .u8 115] wd fun e w' => e = .returned (.bool d) ∧ Below wd.heap.size wd w') := Lib.hid (by rw [hwd]; exact HFT.out)
              refine wp_region_held (S := fun W => Below w3.heap.size w3 W) (by kernel_rfl) ?_
              change wpAnyH _ _ _ _ _ _ _ _ (World.drew _)
              rw [← hwd]
              clear hwd
              refine tkH 0 38 none (.agg re.toArray) rfl (by kernel_rfl) (fun _ _ _ h => h) (by rfl) (by intro W hW; exact exec_ldAgg rfl aggRef rfl HRL.out (H3.out.below hW hp3).cellsAll) HS0.out ?_
              simp only [Act.put, q1, q2, q3]
              refine tkH 1 39 none (.string (tx sc)) rfl (by kernel_rfl) (fun _ _ _ h => h) (by rfl) (by intro W hW; go_simp) HS0.out ?_
              simp only [Act.put, q1, q2, q3]
              refine tkH 2 40 none (.int .i64 k) rfl (by kernel_rfl) (fun _ _ _ h => h) (by rfl) (by intro W hW; go_simp) HS0.out ?_
              simp only [Act.put, q1, q2, q3]
              refine tkH 3 41 none (.int .u8 115) rfl (by kernel_rfl) (fun _ _ _ h => h) (by rfl) (by intro W hW; have hc := hsx W; go_simp) HS0.out ?_
              simp only [Act.put, q1, q2, q3]
              refine anyH_ready (rs := [4]) (by decide +kernel) (by simp) ?_
              refine AllReadyH.cons (o := { dst := some 42, op := .call { callee := .value (.func 23), args := #[.tmp 38, .tmp 41], argTypes := #[30, 5] }, type := _, pos := _, after := _, guard := none }) rfl (fun K hK => ?_) AllReadyH.nil
              go_simp
              refine HFT.out.mono ?_
              rintro e w4 ⟨rfl, hb⟩
              have HS0 : Hid (Below w3.heap.size w3 w4) := Lib.hid (HS0.out.trans (hb.mono HS0.out.size))
              clear hb HFT
              refine hK _ _ HS0.out ?_
              clear hK K
              try simp only [Act.put, q1, q2, q3]
              refine tkH 5 43 none (.bool (!d)) rfl (by kernel_rfl) (fun _ _ _ h => h) (by rfl) (by intro W hW; go_simp) HS0.out ?_
              simp only [Act.put, q1, q2, q3]
              refine wpAnyH_done (by decide +kernel) ?_ _
              cases d with
              | true =>
                go_wp2_with fail
                go_roundw
                case rel => exact ⟨k + 1, by omega, by go_num, HB3.out.trans (HS0.out.mono HB3.out.size), HNX.out (by first | rfl | trivial)⟩
                case measure => simp [intOf]; omega
              | false =>
                go_wp2_with fail
                go_ret
                rw [HNO.out (by first | rfl | trivial)]
                exact ⟨rfl, HW.out _ HS0.out⟩
            | n =>
              have hsx : ∀ W, (Instr.index 9 (.string (tx sc)) (.int .i64 (k : Int))).run Try.prog W = .ok (.int .u8 110) W := HSX.out
              have HFT := Lib.hid (refFits_any .n rfl y F re w3.drew (HTY3.out.below ((Below.refl _ _).drew)))
              go_upto_region 9 with fail
              generalize fitK .n y = d at *
              obtain ⟨wd, hwd⟩ : ∃ wd, wd = World.drew w3 := ⟨_, rfl⟩
              have HS0 : Hid (Below w3.heap.size w3 wd) := Lib.hid (by rw [hwd]; exact (Below.refl _ _).drew)
              have HFT : Hid (Calls Try.prog 23 #[.agg re.toArray, .int .u8 110] wd fun e w' => e = .returned (.bool d) ∧ Below wd.heap.size wd w') := Lib.hid (by rw [hwd]; exact HFT.out)
              refine wp_region_held (S := fun W => Below w3.heap.size w3 W) (by kernel_rfl) ?_
              change wpAnyH _ _ _ _ _ _ _ _ (World.drew _)
              rw [← hwd]
              clear hwd
              refine tkH 0 38 none (.agg re.toArray) rfl (by kernel_rfl) (fun _ _ _ h => h) (by rfl) (by intro W hW; exact exec_ldAgg rfl aggRef rfl HRL.out (H3.out.below hW hp3).cellsAll) HS0.out ?_
              simp only [Act.put, q1, q2, q3]
              refine tkH 1 39 none (.string (tx sc)) rfl (by kernel_rfl) (fun _ _ _ h => h) (by rfl) (by intro W hW; go_simp) HS0.out ?_
              simp only [Act.put, q1, q2, q3]
              refine tkH 2 40 none (.int .i64 k) rfl (by kernel_rfl) (fun _ _ _ h => h) (by rfl) (by intro W hW; go_simp) HS0.out ?_
              simp only [Act.put, q1, q2, q3]
              refine tkH 3 41 none (.int .u8 110) rfl (by kernel_rfl) (fun _ _ _ h => h) (by rfl) (by intro W hW; have hc := hsx W; go_simp) HS0.out ?_
              simp only [Act.put, q1, q2, q3]
              refine anyH_ready (rs := [4]) (by decide +kernel) (by simp) ?_
              refine AllReadyH.cons (o := { dst := some 42, op := .call { callee := .value (.func 23), args := #[.tmp 38, .tmp 41], argTypes := #[30, 5] }, type := _, pos := _, after := _, guard := none }) rfl (fun K hK => ?_) AllReadyH.nil
              go_simp
              refine HFT.out.mono ?_
              rintro e w4 ⟨rfl, hb⟩
              have HS0 : Hid (Below w3.heap.size w3 w4) := Lib.hid (HS0.out.trans (hb.mono HS0.out.size))
              clear hb HFT
              refine hK _ _ HS0.out ?_
              clear hK K
              try simp only [Act.put, q1, q2, q3]
              refine tkH 5 43 none (.bool (!d)) rfl (by kernel_rfl) (fun _ _ _ h => h) (by rfl) (by intro W hW; go_simp) HS0.out ?_
              simp only [Act.put, q1, q2, q3]
              refine wpAnyH_done (by decide +kernel) ?_ _
              cases d with
              | true =>
                go_wp2_with fail
                go_roundw
                case rel => exact ⟨k + 1, by omega, by go_num, HB3.out.trans (HS0.out.mono HB3.out.size), HNX.out (by first | rfl | trivial)⟩
                case measure => simp [intOf]; omega
              | false =>
                go_wp2_with fail
                go_ret
                rw [HNO.out (by first | rfl | trivial)]
                exact ⟨rfl, HW.out _ HS0.out⟩
            | b =>
              have hsx : ∀ W, (Instr.index 9 (.string (tx sc)) (.int .i64 (k : Int))).run Try.prog W = .ok (.int .u8 98) W := HSX.out
              have HFT := Lib.hid (refFits_any .b rfl y F re w3.drew (HTY3.out.below ((Below.refl _ _).drew)))
              go_upto_region 9 with fail
              generalize fitK .b y = d at *
              obtain ⟨wd, hwd⟩ : ∃ wd, wd = World.drew w3 := ⟨_, rfl⟩
              have HS0 : Hid (Below w3.heap.size w3 wd) := Lib.hid (by rw [hwd]; exact (Below.refl _ _).drew)
              have HFT : Hid (Calls Try.prog 23 #[.agg re.toArray, .int .u8 98] wd fun e w' => e = .returned (.bool d) ∧ Below wd.heap.size wd w') := Lib.hid (by rw [hwd]; exact HFT.out)
              refine wp_region_held (S := fun W => Below w3.heap.size w3 W) (by kernel_rfl) ?_
              change wpAnyH _ _ _ _ _ _ _ _ (World.drew _)
              rw [← hwd]
              clear hwd
              refine tkH 0 38 none (.agg re.toArray) rfl (by kernel_rfl) (fun _ _ _ h => h) (by rfl) (by intro W hW; exact exec_ldAgg rfl aggRef rfl HRL.out (H3.out.below hW hp3).cellsAll) HS0.out ?_
              simp only [Act.put, q1, q2, q3]
              refine tkH 1 39 none (.string (tx sc)) rfl (by kernel_rfl) (fun _ _ _ h => h) (by rfl) (by intro W hW; go_simp) HS0.out ?_
              simp only [Act.put, q1, q2, q3]
              refine tkH 2 40 none (.int .i64 k) rfl (by kernel_rfl) (fun _ _ _ h => h) (by rfl) (by intro W hW; go_simp) HS0.out ?_
              simp only [Act.put, q1, q2, q3]
              refine tkH 3 41 none (.int .u8 98) rfl (by kernel_rfl) (fun _ _ _ h => h) (by rfl) (by intro W hW; have hc := hsx W; go_simp) HS0.out ?_
              simp only [Act.put, q1, q2, q3]
              refine anyH_ready (rs := [4]) (by decide +kernel) (by simp) ?_
              refine AllReadyH.cons (o := { dst := some 42, op := .call { callee := .value (.func 23), args := #[.tmp 38, .tmp 41], argTypes := #[30, 5] }, type := _, pos := _, after := _, guard := none }) rfl (fun K hK => ?_) AllReadyH.nil
              go_simp
              refine HFT.out.mono ?_
              rintro e w4 ⟨rfl, hb⟩
              have HS0 : Hid (Below w3.heap.size w3 w4) := Lib.hid (HS0.out.trans (hb.mono HS0.out.size))
              clear hb HFT
              refine hK _ _ HS0.out ?_
              clear hK K
              try simp only [Act.put, q1, q2, q3]
              refine tkH 5 43 none (.bool (!d)) rfl (by kernel_rfl) (fun _ _ _ h => h) (by rfl) (by intro W hW; go_simp) HS0.out ?_
              simp only [Act.put, q1, q2, q3]
              refine wpAnyH_done (by decide +kernel) ?_ _
              cases d with
              | true =>
                go_wp2_with fail
                go_roundw
                case rel => exact ⟨k + 1, by omega, by go_num, HB3.out.trans (HS0.out.mono HB3.out.size), HNX.out (by first | rfl | trivial)⟩
                case measure => simp [intOf]; omega
              | false =>
                go_wp2_with fail
                go_ret
                rw [HNO.out (by first | rfl | trivial)]
                exact ⟨rfl, HW.out _ HS0.out⟩
            | t =>
              have hsx : ∀ W, (Instr.index 9 (.string (tx sc)) (.int .i64 (k : Int))).run Try.prog W = .ok (.int .u8 116) W := HSX.out
              have HFT := Lib.hid (refFits_any .t rfl y F re w3.drew (HTY3.out.below ((Below.refl _ _).drew)))
              go_upto_region 9 with fail
              generalize fitK .t y = d at *
              obtain ⟨wd, hwd⟩ : ∃ wd, wd = World.drew w3 := ⟨_, rfl⟩
              have HS0 : Hid (Below w3.heap.size w3 wd) := Lib.hid (by rw [hwd]; exact (Below.refl _ _).drew)
              have HFT : Hid (Calls Try.prog 23 #[.agg re.toArray, .int .u8 116] wd fun e w' => e = .returned (.bool d) ∧ Below wd.heap.size wd w') := Lib.hid (by rw [hwd]; exact HFT.out)
              refine wp_region_held (S := fun W => Below w3.heap.size w3 W) (by kernel_rfl) ?_
              change wpAnyH _ _ _ _ _ _ _ _ (World.drew _)
              rw [← hwd]
              clear hwd
              refine tkH 0 38 none (.agg re.toArray) rfl (by kernel_rfl) (fun _ _ _ h => h) (by rfl) (by intro W hW; exact exec_ldAgg rfl aggRef rfl HRL.out (H3.out.below hW hp3).cellsAll) HS0.out ?_
              simp only [Act.put, q1, q2, q3]
              refine tkH 1 39 none (.string (tx sc)) rfl (by kernel_rfl) (fun _ _ _ h => h) (by rfl) (by intro W hW; go_simp) HS0.out ?_
              simp only [Act.put, q1, q2, q3]
              refine tkH 2 40 none (.int .i64 k) rfl (by kernel_rfl) (fun _ _ _ h => h) (by rfl) (by intro W hW; go_simp) HS0.out ?_
              simp only [Act.put, q1, q2, q3]
              refine tkH 3 41 none (.int .u8 116) rfl (by kernel_rfl) (fun _ _ _ h => h) (by rfl) (by intro W hW; have hc := hsx W; go_simp) HS0.out ?_
              simp only [Act.put, q1, q2, q3]
              refine anyH_ready (rs := [4]) (by decide +kernel) (by simp) ?_
              refine AllReadyH.cons (o := { dst := some 42, op := .call { callee := .value (.func 23), args := #[.tmp 38, .tmp 41], argTypes := #[30, 5] }, type := _, pos := _, after := _, guard := none }) rfl (fun K hK => ?_) AllReadyH.nil
              go_simp
              refine HFT.out.mono ?_
              rintro e w4 ⟨rfl, hb⟩
              have HS0 : Hid (Below w3.heap.size w3 w4) := Lib.hid (HS0.out.trans (hb.mono HS0.out.size))
              clear hb HFT
              refine hK _ _ HS0.out ?_
              clear hK K
              try simp only [Act.put, q1, q2, q3]
              refine tkH 5 43 none (.bool (!d)) rfl (by kernel_rfl) (fun _ _ _ h => h) (by rfl) (by intro W hW; go_simp) HS0.out ?_
              simp only [Act.put, q1, q2, q3]
              refine wpAnyH_done (by decide +kernel) ?_ _
              cases d with
              | true =>
                go_wp2_with fail
                go_roundw
                case rel => exact ⟨k + 1, by omega, by go_num, HB3.out.trans (HS0.out.mono HB3.out.size), HNX.out (by first | rfl | trivial)⟩
                case measure => simp [intOf]; omega
              | false =>
                go_wp2_with fail
                go_ret
                rw [HNO.out (by first | rfl | trivial)]
                exact ⟨rfl, HW.out _ HS0.out⟩
            | i =>
              have hsx : ∀ W, (Instr.index 9 (.string (tx sc)) (.int .i64 (k : Int))).run Try.prog W = .ok (.int .u8 105) W := HSX.out
              have HFT := Lib.hid (refTicket_any y F re w3 HTY3.out)
              go_wp2_with ((with_reducible show wpList _ _ _ (⟨some 46, _, _, _, _, _⟩ :: _) _ _); refine wpList_ldAgg rfl (.tmp 5) aggRef rfl rfl (cs := re) HRL.out H3.out.cellsAll ?_)
              refine HFT.out.mono ?_
              rintro e w4 ⟨rfl, hb⟩
              have HS0 := Lib.hid hb
              clear hb HFT
              have hfk : fitK .i y = tkR y := rfl
              rw [hfk] at HNX HNO
              clear hfk
              generalize tkR y = d at *
              cases d with
              | true =>
                go_wp2_with fail
                go_roundw
                case rel => exact ⟨k + 1, by omega, by go_num, HB3.out.trans (HS0.out.mono HB3.out.size), HNX.out (by first | rfl | trivial)⟩
                case measure => simp [intOf]; omega
              | false =>
                go_wp2_with fail
                go_ret
                rw [HNO.out (by first | rfl | trivial)]
                exact ⟨rfl, HW.out _ HS0.out⟩
            | x =>
              have hsx : ∀ W, (Instr.index 9 (.string (tx sc)) (.int .i64 (k : Int))).run Try.prog W = .ok (.int .u8 120) W := HSX.out
              obtain ⟨bv, lv, rows2, rfl, g1, g2, g3, g4, g5⟩ := HTY3.out.open_
              obtain ⟨al2, cl2, rfl, hcl2, hml2⟩ := g3.form
              unfold maxLen at hml2
              have HG3 := Lib.hid g3
              have HG5 := Lib.hid g5
              have y0 : w3.cell? ⟨p5, 0, none⟩ = some (.int .i64 y.kind) := H3.out.cell 0
              have y1 : w3.cell? ⟨p5, 1, none⟩ = some (.int .i64 y.tag) := H3.out.cell 1
              have y4 : w3.cell? ⟨p5, 4, none⟩ = some (.slice al2 y.l.length cl2) := H3.out.cell 4
              clear g1 g2 g3 g4 g5
              by_cases hyk : y.kind = 2
              · have HYK := Lib.hid hyk
                have hyk1 : (y.kind != 2) = false := by simpa using hyk
                clear hyk
                by_cases hyt : y.tag = 0
                · have HYT := Lib.hid hyt
                  have hyt1 : (y.tag != 0) = false := by simpa using hyt
                  clear hyt
                  rcases (by omega : y.l.length = 0 ∨ y.l.length = 1 ∨ 1 < y.l.length) with hyl | hyl | hyl
                  · have HNN := Lib.hid (HNX.out (by
                      show (decide (y.kind = 2 ∧ y.tag = 0) && (decide (y.l.length ≤ 1) && y.l.all tkR)) = true
                      rw [List.eq_nil_of_length_eq_zero hyl, decide_eq_true ⟨HYK.out, HYT.out⟩]
                      rfl))
                    have hl2 : ((y.l.length : Int) == 1) = false := by simp; omega
                    have hl3 : ¬ (1 : Int) < (y.l.length : Int) := by omega
                    clear HNX HNO hyl
                    go_wp2_with fail
                    go_roundw
                    case rel => exact ⟨k + 1, by omega, by go_num, HB3.out, HNN.out⟩
                    case measure => simp [intOf]; omega
                  · obtain ⟨z, hz⟩ := List.length_eq_one_iff.1 hyl
                    obtain ⟨b2, o2, rfl, _⟩ := HG3.out.addr (by rw [HG3.out.1]; omega)
                    obtain ⟨r2, hr2, hc2⟩ := HG5.out.cells HG3.out 0 (by omega)
                    have HR2L := Lib.hid hr2.length
                    have HC2 : Hid (CellsAt w3 b2 o2 r2) := Lib.hid (by rw [Nat.zero_mul] at hc2; exact hc2)
                    have hz0 : y.l[0] = z := by simp [hz]
                    rw [hz0] at hr2
                    have HFT := Lib.hid (refTicket_any z F r2 w3 hr2)
                    have HFE : Hid (fitK .x y = tkR z) := Lib.hid (by
                      show (decide (y.kind = 2 ∧ y.tag = 0) && (decide (y.l.length ≤ 1) && y.l.all tkR)) = tkR z
                      rw [hz, decide_eq_true ⟨HYK.out, HYT.out⟩]
                      simp)
                    rw [HFE.out] at HNX HNO
                    have hl3 : ¬ (1 : Int) < 1 := by omega
                    have hl0 : (0 : Int) < (1 : Int) := by omega
                    rw [hyl] at y4
                    clear hr2 hc2 hz0 hz hyl HFE
                    generalize tkR z = d at *
                    go_wp2_with ((with_reducible show wpList _ _ _ (⟨some 74, _, _, _, _, _⟩ :: _) _ _); refine wpList_ldAgg rfl (.tmp 73) aggRef rfl rfl (cs := r2) HR2L.out HC2.out ?_)
                    refine HFT.out.mono ?_
                    rintro e w4 ⟨rfl, hb⟩
                    have HS0 := Lib.hid hb
                    clear hb HFT
                    cases d with
                    | true =>
                      go_wp2_with fail
                      go_roundw
                      case rel => exact ⟨k + 1, by omega, by go_num, HB3.out.trans (HS0.out.mono HB3.out.size), HNX.out (by first | rfl | trivial)⟩
                      case measure => simp [intOf]; omega
                    | false =>
                      go_wp2_with fail
                      go_ret
                      rw [HNO.out (by first | rfl | trivial)]
                      exact ⟨rfl, HW.out _ HS0.out⟩
                  · have hl3 : (1 : Int) < (y.l.length : Int) := by omega
                    have HFN : Hid (r = false) := Lib.hid (HNO.out (by show (decide (y.kind = 2 ∧ y.tag = 0) && (decide (y.l.length ≤ 1) && y.l.all tkR)) = false; rw [decide_eq_false (by omega : ¬ y.l.length ≤ 1)]; simp))
                    clear HNX HNO
                    go_wp2_with fail
                    go_ret
                    rw [HFN.out]
                    exact ⟨rfl, HW.out _ (Below.refl _ _)⟩
                · have hyt1 : (y.tag != 0) = true := by simpa using hyt
                  have HFN : Hid (r = false) := Lib.hid (HNO.out (by show (decide (y.kind = 2 ∧ y.tag = 0) && (decide (y.l.length ≤ 1) && y.l.all tkR)) = false; rw [decide_eq_false (fun hc => hyt hc.2)]; rfl))
                  clear HNX HNO hyt
                  go_wp2_with fail
                  go_ret
                  rw [HFN.out]
                  exact ⟨rfl, HW.out _ (Below.refl _ _)⟩
              · have hyk1 : (y.kind != 2) = true := by simpa using hyk
                have HFN : Hid (r = false) := Lib.hid (HNO.out (by show (decide (y.kind = 2 ∧ y.tag = 0) && (decide (y.l.length ≤ 1) && y.l.all tkR)) = false; rw [decide_eq_false (fun hc => hyk hc.1)]; rfl))
                clear HNX HNO hyk
                go_wp2_with fail
                go_ret
                rw [HFN.out]
                exact ⟨rfl, HW.out _ (Below.refl _ _)⟩
          · obtain rfl : k = ks.length := by omega
            have HFD : Hid (r = true) := Lib.hid (by
              have h := HF.out
              rw [List.drop_length, ← HL.out, List.drop_length] at h
              exact h.symm)
            clear HF
            go_wp2_with fail
            go_ret
            rw [HFD.out]
            exact ⟨rfl, HB1.out.trans (HB.out.mono HB1.out.size)⟩
      · have hl1 : ((x.l.length : Int) != (ks.length : Int)) = true := by simp; omega
        have HRR : Hid (r = false) := Lib.hid (by rw [HR.out]; cases hf : fitsK ks x.l with | false => simp | true => exact absurd (fitsK_len hf) hl)
        clear hl he hsl hsm HSC HSQ0 HSZ HR
        go_enter Try.func8, Try.ntmps8
        go_upto_region 1 with fail
        show Code.wp _ _ _ _ (w.alloc (.cells #[.int .i64 x.kind, .int .i64 x.tag, .int .u64 (x.n : Int), .slice ab x.b.length cb, .slice al x.l.length cl] 30))
        rw [← hw1, ← hq]
        clear hw1 hq
        go_wp2_with fail
        refine HSH.out.mono ?_
        rintro e w2 ⟨rfl, rfl⟩
        go_wp2_with fail
        go_ret
        rw [HRR.out]
        exact ⟨rfl, HB1.out⟩
    · have hsq : ((tx sc).toList == [63]) = true := by rw [HSQ0.out]; simpa using he
      have HRR : Hid (r = false) := Lib.hid (by rw [HR.out]; simp at he; simp [he])
      clear he HSC HSQ0 HR
      go_enter Try.func8, Try.ntmps8
      go_upto_region 1 with fail
      show Code.wp _ _ _ _ (w.alloc (.cells #[.int .i64 x.kind, .int .i64 x.tag, .int .u64 (x.n : Int), .slice ab x.b.length cb, .slice al x.l.length cl] 30))
      rw [← hw1, ← hq]
      clear hw1 hq
      go_wp2_with fail
      refine HSH.out.mono ?_
      rintro e w2 ⟨rfl, rfl⟩
      go_wp2_with fail
      go_ret
      rw [HRR.out]
      exact ⟨rfl, HB1.out⟩
  · have hk1 : (x.kind != 2) = true := by simpa using hk
    have HRR : Hid (r = false) := Lib.hid (by rw [HR.out]; simp [hk])
    clear hk HSC HSQ0 HR
    go_enter Try.func8, Try.ntmps8
    go_upto_region 1 with fail
    show Code.wp _ _ _ _ (w.alloc (.cells #[.int .i64 x.kind, .int .i64 x.tag, .int .u64 (x.n : Int), .slice ab x.b.length cb, .slice al x.l.length cl] 30))
    rw [← hw1, ← hq]
    clear hw1 hq
    go_wp2_with fail
    refine HSH.out.mono ?_
    rintro e w2 ⟨rfl, rfl⟩
    go_wp2_with fail
    go_ret
    rw [HRR.out]
    exact ⟨rfl, HB1.out⟩
end Go.Proofs.Ytpjkidcfidmfaaa
/- msg.Value: what all ways share. Printed by tools/genmvalue.py. -/
namespace Go.Proofs.Ytpjkidcfidmfaaa
set_option linter.unusedSimpArgs false
set_option linter.unusedVariables false
open Go.RowKit
theorem szTx {l : List UInt8} (h : l.length ≤ 1099511627776) : (tx l).size ≤ maxLen := by rw [tx_size]; unfold maxLen; omega
theorem enters_mtext : Enters Try.prog 26 := Enters.mk Try.func26 (by kernel_rfl) (by kernel_rfl)
theorem enters_mnum : Enters Try.prog 27 := Enters.mk Try.func27 (by kernel_rfl) (by kernel_rfl)
theorem enters_mtruth : Enters Try.prog 32 := Enters.mk Try.func32 (by kernel_rfl) (by kernel_rfl)
theorem enters_mright : Enters Try.prog 29 := Enters.mk Try.func29 (by kernel_rfl) (by kernel_rfl)
theorem elStr : Elem Try.prog 93 9 1 16 (.string ⟨#[]⟩) := by
  refine Elem.mk Try.underlying93 ?_ rfl (by decide)
  kernel_rfl
theorem elI64 : Elem Try.prog 116 2 1 8 (.int .i64 0) := by
  refine Elem.mk Try.underlying116 ?_ rfl (by decide)
  kernel_rfl
theorem zero_11 (W : World) : (zeroValue 54).run Try.prog W = .ok (.agg #[.string ⟨#[]⟩, .int .i64 0, .int .i64 0, .slice none 0 0]) W := by kernel_rfl
theorem zero_12 (W : World) : (zeroValue 56).run Try.prog W = .ok (.agg #[.string ⟨#[]⟩, .string ⟨#[]⟩, .slice none 0 0, .slice none 0 0]) W := by kernel_rfl
theorem zero_13 (W : World) : (zeroValue 59).run Try.prog W = .ok (.agg #[.string ⟨#[]⟩, .int .i64 0, .int .i64 0, .bool false, .bool false, .string ⟨#[]⟩, .slice none 0 0, .slice none 0 0, .slice none 0 0]) W := by kernel_rfl
theorem zero_14 (W : World) : (zeroValue 60).run Try.prog W = .ok (.agg #[.string ⟨#[]⟩, .string ⟨#[]⟩, .slice none 0 0, .slice none 0 0]) W := by kernel_rfl
theorem zero_15 (W : World) : (zeroValue 62).run Try.prog W = .ok (.agg #[.string ⟨#[]⟩, .string ⟨#[]⟩, .int .i64 0]) W := by kernel_rfl
theorem zero_16 (W : World) : (zeroValue 64).run Try.prog W = .ok (.agg #[.string ⟨#[]⟩, .string ⟨#[]⟩, .int .i64 0, .string ⟨#[]⟩, .slice none 0 0]) W := by kernel_rfl
theorem zero_17 (W : World) : (zeroValue 66).run Try.prog W = .ok (.agg #[.string ⟨#[]⟩, .string ⟨#[]⟩, .int .i64 0, .string ⟨#[]⟩, .slice none 0 0, .slice none 0 0]) W := by kernel_rfl
theorem zero_18 (W : World) : (zeroValue 68).run Try.prog W = .ok (.agg #[.string ⟨#[]⟩, .string ⟨#[]⟩, .int .i64 0, .slice none 0 0]) W := by kernel_rfl
theorem zero_19 (W : World) : (zeroValue 70).run Try.prog W = .ok (.agg #[.string ⟨#[]⟩, .string ⟨#[]⟩, .int .i64 0, .int .i64 0, .int .i64 0, .slice none 0 0]) W := by kernel_rfl
theorem zero_20 (W : World) : (zeroValue 72).run Try.prog W = .ok (.agg #[.string ⟨#[]⟩, .int .i64 0, .int .i64 0, .bool false, .string ⟨#[]⟩, .slice none 0 0, .slice none 0 0]) W := by kernel_rfl
theorem zero_21 (W : World) : (zeroValue 74).run Try.prog W = .ok (.agg #[.string ⟨#[]⟩, .slice none 0 0]) W := by kernel_rfl
theorem zero_22 (W : World) : (zeroValue 76).run Try.prog W = .ok (.agg #[.string ⟨#[]⟩, .int .i64 0, .int .i64 0]) W := by kernel_rfl
end Go.Proofs.Ytpjkidcfidmfaaa
/- msg.Value, some of its ways. Printed by tools/genmvalue.py. -/
namespace Go.Proofs.Ytpjkidcfidmfaaa
set_option linter.unusedSimpArgs false
set_option linter.unusedVariables false
open Go.RowKit
set_option maxHeartbeats 16000000 in
set_option maxRecDepth 100000 in
theorem msgValue_11 (F0 : Nat → Prop) (l1 : List UInt8) (x2 : Int) (x3 : Int) (l4 : List UInt8) (v4 : Value) (w : World) (hz1 : l1.length ≤ 1099511627776) (hz2 : -9223372036854775808 ≤ x2 ∧ x2 ≤ 9223372036854775807) (hz3 : -9223372036854775808 ≤ x3 ∧ x3 ≤ 9223372036854775807) (hb4 : Bs w v4 l4) (hz4 : l4.length ≤ 1099511627776) :
    Calls Try.prog 10 #[.iface 54 (.agg #[.string (tx l1), .int .i64 x2, .int .i64 x3, v4])] w (VlRes w (.mk 2 11 0 [] ([.s l1, .n x2, .n x3, .b l4].map ptTv)) ([.s l1, .n x2, .n x3, .b l4].all ptB)) := by
  obtain ⟨a4, c4, rfl, hc4, hm4⟩ := hb4.form
  have HC : Hid (VC w w.heap.size [(w.heap.size + 1, [.string (tx l1), .int .i64 x2, .int .i64 x3, .slice a4 l4.length c4], 54)] [] [(.slice a4 l4.length c4, l4)] ((w.alloc (.cells zs5.toArray 38)).alloc (.cells [.string (tx l1), .int .i64 x2, .int .i64 x3, .slice a4 l4.length c4].toArray 54))) := Lib.hid (VC.start (by intro r hr; simp only [List.mem_cons, List.not_mem_nil, or_false] at hr; rcases hr with rfl; exact hb4) _ _)
  have HSZ : Hid (∀ u ∈ [tx l1], u.size ≤ maxLen) := Lib.hid (by intro u hu; simp only [List.mem_cons, List.not_mem_nil, or_false] at hu; rcases hu with rfl; exact szTx hz1)
  have HZ1 := Lib.hid hz1
  clear hz1
  have HZ2 := Lib.hid hz2
  clear hz2
  have HZ3 := Lib.hid hz3
  clear hz3
  have HZ4 := Lib.hid hz4
  clear hz4
  clear hb4
  have hta : ∀ W, (Instr.typeAssert (.iface 54 (.agg #[.string (tx l1), .int .i64 x2, .int .i64 x3, .slice a4 l4.length c4])) 20 54 true).run Try.prog W = .ok (.tuple #[.agg #[.string (tx l1), .int .i64 x2, .int .i64 x3, .slice a4 l4.length c4], .bool true]) W := fun W => ta_is _ _ _ (by kernel_rfl) W
  obtain ⟨B, hB⟩ : ∃ B, B = [.s l1, .n x2, .n x3, .b l4].all ptB := ⟨_, rfl⟩
  obtain ⟨X, hX⟩ : ∃ X : Tv, X = .mk 2 11 0 [] ([.s l1, .n x2, .n x3, .b l4].map ptTv) := ⟨_, rfl⟩
  rw [← hB, ← hX]
  have HB := Lib.hid hB
  have HX2 := Lib.hid hX
  clear hB hX
  go_enter Try.func10, Try.ntmps10
  go_upto_region 4 with fail
  clear hta 
  show Code.wp _ _ _ _ ((w.alloc (.cells zs5.toArray 38)).alloc (.cells [.string (tx l1), .int .i64 x2, .int .i64 x3, .slice a4 l4.length c4].toArray 54))
  obtain ⟨W0, hW0⟩ : ∃ W0, W0 = (w.alloc (.cells zs5.toArray 38)).alloc (.cells [.string (tx l1), .int .i64 x2, .int .i64 x3, .slice a4 l4.length c4].toArray 54) := ⟨_, rfl⟩
  rw [← hW0] at HC ⊢
  clear hW0
  obtain ⟨p, hp⟩ : ∃ p, p = w.heap.size + 1 := ⟨_, rfl⟩
  obtain ⟨q, hq⟩ : ∃ q, q = w.heap.size := ⟨_, rfl⟩
  rw [← hp, ← hq] at HC ⊢
  clear hp hq
  have HBE : Hid (B = ([tx l1].all rightB && [x2, x3].all timeB)) := Lib.hid (by rw [HB.out]; simp only [List.all_cons, List.all_nil, ptB, Bool.and_true, Bool.true_and, Bool.and_false, Bool.false_and, Bool.and_assoc]; first | done | ac_rfl)
  obtain ⟨wd, hwd⟩ : ∃ wd, wd = World.drew W0 := ⟨_, rfl⟩
  have hvd : VC w q [(p, [.string (tx l1), .int .i64 x2, .int .i64 x3, .slice a4 l4.length c4], 54)] [] [(.slice a4 l4.length c4, l4)] wd := by rw [hwd]; exact HC.out.drew
  have HXE : Hid (X = .mk 2 11 0 [] [.mk 1 0 0 l1 [], .mk 0 0 (numU x2) [] [], .mk 0 0 (numU x3) [] [], .mk 1 0 0 l4 []]) := Lib.hid HX2.out
  have HR : Hid (∀ W, GV (fun b => q < b) q X wd W → VR w q [(p, [.string (tx l1), .int .i64 x2, .int .i64 x3, .slice a4 l4.length c4], 54)] [] [(.slice a4 l4.length c4, l4)] W) := Lib.hid (fun W h => hvd.gv h)
  have HZD : Hid (∀ W, GV (fun b => q < b) q X wd W → q < W.heap.size ∧ ∀ b, W.heap.size ≤ b → q < b) := Lib.hid (fun W h => ⟨(HR.out W h).lt, fun b hb => Nat.lt_of_lt_of_le (HR.out W h).lt hb⟩)
  have HFq : Hid (¬ (fun b => q < b) q) := Lib.hid (Nat.lt_irrefl q)
  have HQW : Hid (w.heap.size = q) := Lib.hid hvd.hq.symm
  clear hvd HC
  refine wp_region_held (S := fun W => GV (fun b => q < b) q X wd W) (by kernel_rfl) ?_
  change wpAnyH _ _ _ _ _ _ _ _ (World.drew _)
  rw [← hwd]
  clear hwd
  refine tkH 0 34 none (.pointer (some ⟨p, 0, none⟩)) rfl (by kernel_rfl) (fun _ _ _ h => h) (by rfl) (by intro W hW; go_simp) (GV.refl _ _ _ _) ?_
  simp only [Act.put, q1, q2, q3]
  refine tkH 1 35 none (.string (tx l1)) rfl (by kernel_rfl) (fun _ _ _ h => h) (by rfl) (by intro W hW; have hc : W.cell? ⟨p, 0, none⟩ = some (.string (tx l1)) := ((HR.out W hW).blkAt 0 rfl).cell 0; go_simp) (GV.refl _ _ _ _) ?_
  simp only [Act.put, q1, q2, q3]
  refine tkH 3 37 none (.pointer (some ⟨p, 1, none⟩)) rfl (by kernel_rfl) (fun _ _ _ h => h) (by rfl) (by intro W hW; go_simp) (GV.refl _ _ _ _) ?_
  simp only [Act.put, q1, q2, q3]
  refine tkH 4 38 none (.int .i64 x2) rfl (by kernel_rfl) (fun _ _ _ h => h) (by rfl) (by intro W hW; have hc : W.cell? ⟨p, 1, none⟩ = some (.int .i64 x2) := ((HR.out W hW).blkAt 0 rfl).cell 1; go_simp) (GV.refl _ _ _ _) ?_
  simp only [Act.put, q1, q2, q3]
  refine tkH 6 40 none (.pointer (some ⟨p, 2, none⟩)) rfl (by kernel_rfl) (fun _ _ _ h => h) (by rfl) (by intro W hW; go_simp) (GV.refl _ _ _ _) ?_
  simp only [Act.put, q1, q2, q3]
  refine tkH 7 41 none (.int .i64 x3) rfl (by kernel_rfl) (fun _ _ _ h => h) (by rfl) (by intro W hW; have hc : W.cell? ⟨p, 2, none⟩ = some (.int .i64 x3) := ((HR.out W hW).blkAt 0 rfl).cell 2; go_simp) (GV.refl _ _ _ _) ?_
  simp only [Act.put, q1, q2, q3]
  refine tkH 9 43 none (.pointer (some ⟨p, 3, none⟩)) rfl (by kernel_rfl) (fun _ _ _ h => h) (by rfl) (by intro W hW; go_simp) (GV.refl _ _ _ _) ?_
  simp only [Act.put, q1, q2, q3]
  refine tkH 10 44 none (.slice a4 l4.length c4) rfl (by kernel_rfl) (fun _ _ _ h => h) (by rfl) (by intro W hW; have hc : W.cell? ⟨p, 3, none⟩ = some (.slice a4 l4.length c4) := ((HR.out W hW).blkAt 0 rfl).cell 3; go_simp) (GV.refl _ _ _ _) ?_
  simp only [Act.put, q1, q2, q3]
  refine tkH 14 48 none (.pointer (some ⟨p, 0, none⟩)) rfl (by kernel_rfl) (fun _ _ _ h => h) (by rfl) (by intro W hW; go_simp) (GV.refl _ _ _ _) ?_
  simp only [Act.put, q1, q2, q3]
  refine tkH 15 49 none (.string (tx l1)) rfl (by kernel_rfl) (fun _ _ _ h => h) (by rfl) (by intro W hW; have hc : W.cell? ⟨p, 0, none⟩ = some (.string (tx l1)) := ((HR.out W hW).blkAt 0 rfl).cell 0; go_simp) (GV.refl _ _ _ _) ?_
  simp only [Act.put, q1, q2, q3]
  refine tkH 17 51 none (.pointer (some ⟨p, 1, none⟩)) rfl (by kernel_rfl) (fun _ _ _ h => h) (by rfl) (by intro W hW; go_simp) (GV.refl _ _ _ _) ?_
  simp only [Act.put, q1, q2, q3]
  refine tkH 18 52 none (.int .i64 x2) rfl (by kernel_rfl) (fun _ _ _ h => h) (by rfl) (by intro W hW; have hc : W.cell? ⟨p, 1, none⟩ = some (.int .i64 x2) := ((HR.out W hW).blkAt 0 rfl).cell 1; go_simp) (GV.refl _ _ _ _) ?_
  simp only [Act.put, q1, q2, q3]
  refine tkH 19 53 none (.pointer (some ⟨p, 2, none⟩)) rfl (by kernel_rfl) (fun _ _ _ h => h) (by rfl) (by intro W hW; go_simp) (GV.refl _ _ _ _) ?_
  simp only [Act.put, q1, q2, q3]
  refine tkH 20 54 none (.int .i64 x3) rfl (by kernel_rfl) (fun _ _ _ h => h) (by rfl) (by intro W hW; have hc : W.cell? ⟨p, 2, none⟩ = some (.int .i64 x3) := ((HR.out W hW).blkAt 0 rfl).cell 2; go_simp) (GV.refl _ _ _ _) ?_
  simp only [Act.put, q1, q2, q3]
  refine anyH_steps (G := GV (fun b => q < b) q X) (Post := postV (fun b => q < b) q X [.any, .any, .val (.mk 1 0 0 l1 []), .any, .any, .val (.mk 0 0 (numU x2) [] []), .any, .any, .val (.mk 0 0 (numU x3) [] []), .any, .any, .val (.mk 1 0 0 l4 []), .vals [.mk 1 0 0 l1 [], .mk 0 0 (numU x2) [] [], .mk 0 0 (numU x3) [] [], .mk 1 0 0 l4 []], .val (.mk 2 11 0 [] [.mk 1 0 0 l1 [], .mk 0 0 (numU x2) [] [], .mk 0 0 (numU x3) [] [], .mk 1 0 0 l4 []]), .any, .any, .row [.string (tx l1)], .any, .any, .any, .any, .row [.int .i64 x2, .int .i64 x3], .is (.bool ([tx l1].all rightB && [x2, x3].all timeB)), .fin, .is (.bool ([tx l1].all rightB && [x2, x3].all timeB))]) (ds := [36, 39, 42, 45, 46, 47, 50, 55, 56, 3]) (GV.refl _ _ _) GV.trans (fun W W' h g => GV.trans _ _ _ h g) (fun i v W W' h g => PK.stable HFq.out h g) [2, 5, 8, 11, 12, 13, 16, 21, 22, 23, 24] 397 rfl (by decide +kernel) (by decide +kernel) ?_ ?_ (GV.refl _ _ _ _) (by decide +kernel)
  · refine AllSteps.cons (o := { dst := some 36, op := .call { callee := .value (.func 26), args := #[.tmp 35], argTypes := #[9] }, type := _, pos := _, after := _, guard := none }) rfl (fun a W hf hS hd K hK => ?_) ?_
    · have e35 : a.eval (.tmp 35) = .string (tx l1) := hf.lit 35 (by decide) rfl
      exact stepV_mk (wanted_none rfl) rfl enters_mtext (vs := #[.string (tx l1)]) (by simp [e35]) (mtext_any l1 W HZ1.out) (HZD.out W hS).1 (HZD.out W hS).2 hK
    refine AllSteps.cons (o := { dst := some 39, op := .call { callee := .value (.func 27), args := #[.tmp 38], argTypes := #[2] }, type := _, pos := _, after := _, guard := none }) rfl (fun a W hf hS hd K hK => ?_) ?_
    · have e38 : a.eval (.tmp 38) = .int .i64 x2 := hf.lit 38 (by decide) rfl
      exact stepV_mk (wanted_none rfl) rfl enters_mnum (vs := #[.int .i64 x2]) (by simp [e38]) (mnumI_any x2 W HZ2.out.1 HZ2.out.2) (HZD.out W hS).1 (HZD.out W hS).2 hK
    refine AllSteps.cons (o := { dst := some 42, op := .call { callee := .value (.func 27), args := #[.tmp 41], argTypes := #[2] }, type := _, pos := _, after := _, guard := none }) rfl (fun a W hf hS hd K hK => ?_) ?_
    · have e41 : a.eval (.tmp 41) = .int .i64 x3 := hf.lit 41 (by decide) rfl
      exact stepV_mk (wanted_none rfl) rfl enters_mnum (vs := #[.int .i64 x3]) (by simp [e41]) (mnumI_any x3 W HZ3.out.1 HZ3.out.2) (HZD.out W hS).1 (HZD.out W hS).2 hK
    refine AllSteps.cons (o := { dst := some 45, op := .call { callee := .value (.func 28), args := #[.tmp 44], argTypes := #[22] }, type := _, pos := _, after := _, guard := none }) rfl (fun a W hf hS hd K hK => ?_) ?_
    · have e44 : a.eval (.tmp 44) = .slice a4 l4.length c4 := hf.lit 44 (by decide) rfl
      exact stepV_mk (wanted_none rfl) rfl enters_raw (vs := #[.slice a4 l4.length c4]) (by simp [e44]) (rawNew_any _ l4 W ((HR.out W hS).rowAt 0 rfl) HZ4.out) (HZD.out W hS).1 (HZD.out W hS).2 hK
    refine AllSteps.cons (o := { dst := some 46, op := .buildSlice 36 4 #[(0, .tmp 36), (1, .tmp 39), (2, .tmp 42), (3, .tmp 45)], type := _, pos := _, after := _, guard := none }) rfl (fun a W hf hS hd K hK => ?_) ?_
    · have d36 := (hd 2 (by decide +kernel)).get (s := 36) rfl
      have d39 := (hd 5 (by decide +kernel)).get (s := 39) rfl
      have d42 := (hd 8 (by decide +kernel)).get (s := 42) rfl
      have d45 := (hd 11 (by decide +kernel)).get (s := 45) rfl
      exact stepV_vals (wanted_none rfl) rfl elDer (ps := [.tmp 36, .tmp 39, .tmp 42, .tmp 45]) rfl (l := [.mk 1 0 0 l1 [], .mk 0 0 (numU x2) [] [], .mk 0 0 (numU x3) [] [], .mk 1 0 0 l4 []]) ⟨d36, d39, d42, d45, trivial⟩ rfl (by decide) (by decide) (HZD.out W hS).1 (HZD.out W hS).2 hK
    refine AllSteps.cons (o := { dst := some 47, op := .call { callee := .value (.func 25), args := #[.const (.int .i64 11), .tmp 46], argTypes := #[3, 36] }, type := _, pos := _, after := _, guard := none }) rfl (fun a W hf hS hd K hK => ?_) ?_
    · have d46 := (hd 12 (by decide +kernel)).get (s := 46) rfl
      exact stepV_seq (wanted_none rfl) rfl enters_seq d46 (HZD.out W hS).1 (fun v w1 h1 h2 => hK v w1 h1 h2) HFq.out
    refine AllSteps.cons (o := { dst := some 50, op := .buildSlice 93 1 #[(0, .tmp 49)], type := _, pos := _, after := _, guard := none }) rfl (fun a W hf hS hd K hK => ?_) ?_
    · have e49 : a.eval (.tmp 49) = .string (tx l1) := hf.lit 49 (by decide) rfl
      exact stepV_row (wanted_none rfl) rfl elStr (ps := [.tmp 49]) rfl (cs := [.string (tx l1)]) (by simp only [List.map_cons, List.map_nil, e49]) (by intro u hu; simp only [List.mem_cons, List.not_mem_nil, or_false] at hu; rcases hu with rfl <;> exact ⟨rfl, rfl⟩) rfl (by decide) (by decide) (HZD.out W hS).1 (HZD.out W hS).2 hK
    refine AllSteps.cons (o := { dst := some 55, op := .buildSlice 116 2 #[(0, .tmp 52), (1, .tmp 54)], type := _, pos := _, after := _, guard := none }) rfl (fun a W hf hS hd K hK => ?_) ?_
    · have e52 : a.eval (.tmp 52) = .int .i64 x2 := hf.lit 52 (by decide) rfl
      have e54 : a.eval (.tmp 54) = .int .i64 x3 := hf.lit 54 (by decide) rfl
      exact stepV_row (wanted_none rfl) rfl elI64 (ps := [.tmp 52, .tmp 54]) rfl (cs := [.int .i64 x2, .int .i64 x3]) (by simp only [List.map_cons, List.map_nil, e52, e54]) (by intro u hu; simp only [List.mem_cons, List.not_mem_nil, or_false] at hu; rcases hu with rfl | rfl <;> exact ⟨rfl, rfl⟩) rfl (by decide) (by decide) (HZD.out W hS).1 (HZD.out W hS).2 hK
    refine AllSteps.cons (o := { dst := some 56, op := .call { callee := .value (.func 29), args := #[.tmp 50, .tmp 55], argTypes := #[93, 116] }, type := _, pos := _, after := _, guard := none }) rfl (fun a W hf hS hd K hK => ?_) ?_
    · have d50 := (hd 16 (by decide +kernel)).get (s := 50) rfl
      have d55 := (hd 21 (by decide +kernel)).get (s := 55) rfl
      exact stepV_is (wanted_none rfl) rfl enters_mright (vs := #[a.eval (.tmp 50), a.eval (.tmp 55)]) (by first | (simp only [List.map_toArray, List.map_cons, List.map_nil]; done) | (simp only [List.map_toArray, List.map_cons, List.map_nil]; rfl)) (u := (.bool ([tx l1].all rightB && [x2, x3].all timeB))) (mright_any [tx l1] [x2, x3] _ _ W d50.1 d55.1 HSZ.out) (HZD.out W hS).1 hK
    refine AllSteps.cons (o := { dst := none, op := .store 38 (.tmp 2) (.tmp 47), type := _, pos := _, after := _, guard := none }) rfl (fun a W hf hS hd K hK => ?_) ?_
    · have e2 : a.eval (.tmp 2) = .pointer (some ⟨q, 0, none⟩) := hf.lit 2 (by decide) rfl
      have d47 := (hd 13 (by decide +kernel)).get (s := 47) rfl
      obtain ⟨cur, hc1, hc2⟩ := (HR.out W hS).len
      rw [← HXE.out] at d47
      exact stepV_fin (wanted_none rfl) rfl e2 d47 hc1 hc2 HFq.out hK
    refine AllSteps.cons (o := { dst := some 3, op := .assign (.tmp 56), type := _, pos := _, after := _, guard := none }) rfl (fun a W hf hS hd K hK => ?_) ?_
    · have d56 := (hd 22 (by decide +kernel)).get (s := 56) rfl
      exact step_val (wanted_none rfl) (exec_asg rfl rfl) (hK _ _ (GV.refl _ _ _ _) d56)
    exact AllSteps.nil
  · intro a W hf hS hp
    have h3 := (hp 24 (by decide)).get (s := 3) rfl
    obtain ⟨v, cs, h5, h6⟩ := (hp 23 (by decide)).fin
    have e2 : a.eval (.tmp 2) = .pointer (some ⟨q, 0, none⟩) := hf.lit 2 (by decide) rfl
    go_wp2_with fail
    refine bodyPost_ret (results_agg_tmp rfl aggDer (show a.tmps.getD 2 undef = _ from e2) h6.length h5.cellsAll) hf.defers ⟨cs, ?_, ?_, (HR.out W hS).below⟩
    · rw [HBE.out, show a.tmps.getD 3 undef = .bool ([tx l1].all rightB && [x2, x3].all timeB) from h3]
    · exact h6.mono (fun b hb => by have := HQW.out; omega)
set_option maxHeartbeats 16000000 in
set_option maxRecDepth 100000 in
theorem msgValue_15 (F0 : Nat → Prop) (l1 : List UInt8) (l2 : List UInt8) (x3 : Int) (w : World) (hz1 : l1.length ≤ 1099511627776) (hz2 : l2.length ≤ 1099511627776) (hz3 : -9223372036854775808 ≤ x3 ∧ x3 ≤ 9223372036854775807) :
    Calls Try.prog 10 #[.iface 62 (.agg #[.string (tx l1), .string (tx l2), .int .i64 x3])] w (VlRes w (.mk 2 15 0 [] ([.s l1, .s l2, .n x3].map ptTv)) ([.s l1, .s l2, .n x3].all ptB)) := by
  have HC : Hid (VC w w.heap.size [(w.heap.size + 1, [.string (tx l1), .string (tx l2), .int .i64 x3], 62)] [] [] ((w.alloc (.cells zs5.toArray 38)).alloc (.cells [.string (tx l1), .string (tx l2), .int .i64 x3].toArray 62))) := Lib.hid (VC.start (by intro r hr; cases hr) _ _)
  have HSZ : Hid (∀ u ∈ [tx l1, tx l2], u.size ≤ maxLen) := Lib.hid (by intro u hu; simp only [List.mem_cons, List.not_mem_nil, or_false] at hu; rcases hu with rfl | rfl; exact szTx hz1; exact szTx hz2)
  have HZ1 := Lib.hid hz1
  clear hz1
  have HZ2 := Lib.hid hz2
  clear hz2
  have HZ3 := Lib.hid hz3
  clear hz3
  obtain ⟨z11, hta11⟩ := tan 54 62 (.agg #[.string (tx l1), .string (tx l2), .int .i64 x3]) zero_11 (by kernel_rfl) (by decide)
  obtain ⟨z12, hta12⟩ := tan 56 62 (.agg #[.string (tx l1), .string (tx l2), .int .i64 x3]) zero_12 (by kernel_rfl) (by decide)
  obtain ⟨z13, hta13⟩ := tan 59 62 (.agg #[.string (tx l1), .string (tx l2), .int .i64 x3]) zero_13 (by kernel_rfl) (by decide)
  obtain ⟨z14, hta14⟩ := tan 60 62 (.agg #[.string (tx l1), .string (tx l2), .int .i64 x3]) zero_14 (by kernel_rfl) (by decide)
  have hta : ∀ W, (Instr.typeAssert (.iface 62 (.agg #[.string (tx l1), .string (tx l2), .int .i64 x3])) 20 62 true).run Try.prog W = .ok (.tuple #[.agg #[.string (tx l1), .string (tx l2), .int .i64 x3], .bool true]) W := fun W => ta_is _ _ _ (by kernel_rfl) W
  obtain ⟨B, hB⟩ : ∃ B, B = [.s l1, .s l2, .n x3].all ptB := ⟨_, rfl⟩
  obtain ⟨X, hX⟩ : ∃ X : Tv, X = .mk 2 15 0 [] ([.s l1, .s l2, .n x3].map ptTv) := ⟨_, rfl⟩
  rw [← hB, ← hX]
  have HB := Lib.hid hB
  have HX2 := Lib.hid hX
  clear hB hX
  go_enter Try.func10, Try.ntmps10
  go_upto_region 20 with fail
  clear hta hta11 hta12 hta13 hta14
  show Code.wp _ _ _ _ ((w.alloc (.cells zs5.toArray 38)).alloc (.cells [.string (tx l1), .string (tx l2), .int .i64 x3].toArray 62))
  obtain ⟨W0, hW0⟩ : ∃ W0, W0 = (w.alloc (.cells zs5.toArray 38)).alloc (.cells [.string (tx l1), .string (tx l2), .int .i64 x3].toArray 62) := ⟨_, rfl⟩
  rw [← hW0] at HC ⊢
  clear hW0
  obtain ⟨p, hp⟩ : ∃ p, p = w.heap.size + 1 := ⟨_, rfl⟩
  obtain ⟨q, hq⟩ : ∃ q, q = w.heap.size := ⟨_, rfl⟩
  rw [← hp, ← hq] at HC ⊢
  clear hp hq
  have HBE : Hid (B = ([tx l1, tx l2].all rightB && [x3].all timeB)) := Lib.hid (by rw [HB.out]; simp only [List.all_cons, List.all_nil, ptB, Bool.and_true, Bool.true_and, Bool.and_false, Bool.false_and, Bool.and_assoc]; first | done | ac_rfl)
  obtain ⟨wd, hwd⟩ : ∃ wd, wd = World.drew W0 := ⟨_, rfl⟩
  have hvd : VC w q [(p, [.string (tx l1), .string (tx l2), .int .i64 x3], 62)] [] [] wd := by rw [hwd]; exact HC.out.drew
  have HXE : Hid (X = .mk 2 15 0 [] [.mk 1 0 0 l1 [], .mk 1 0 0 l2 [], .mk 0 0 (numU x3) [] []]) := Lib.hid HX2.out
  have HR : Hid (∀ W, GV (fun b => q < b) q X wd W → VR w q [(p, [.string (tx l1), .string (tx l2), .int .i64 x3], 62)] [] [] W) := Lib.hid (fun W h => hvd.gv h)
  have HZD : Hid (∀ W, GV (fun b => q < b) q X wd W → q < W.heap.size ∧ ∀ b, W.heap.size ≤ b → q < b) := Lib.hid (fun W h => ⟨(HR.out W h).lt, fun b hb => Nat.lt_of_lt_of_le (HR.out W h).lt hb⟩)
  have HFq : Hid (¬ (fun b => q < b) q) := Lib.hid (Nat.lt_irrefl q)
  have HQW : Hid (w.heap.size = q) := Lib.hid hvd.hq.symm
  clear hvd HC
  refine wp_region_held (S := fun W => GV (fun b => q < b) q X wd W) (by kernel_rfl) ?_
  change wpAnyH _ _ _ _ _ _ _ _ (World.drew _)
  rw [← hwd]
  clear hwd
  refine tkH 0 165 none (.pointer (some ⟨p, 0, none⟩)) rfl (by kernel_rfl) (fun _ _ _ h => h) (by rfl) (by intro W hW; go_simp) (GV.refl _ _ _ _) ?_
  simp only [Act.put, q1, q2, q3]
  refine tkH 1 166 none (.string (tx l1)) rfl (by kernel_rfl) (fun _ _ _ h => h) (by rfl) (by intro W hW; have hc : W.cell? ⟨p, 0, none⟩ = some (.string (tx l1)) := ((HR.out W hW).blkAt 0 rfl).cell 0; go_simp) (GV.refl _ _ _ _) ?_
  simp only [Act.put, q1, q2, q3]
  refine tkH 3 168 none (.pointer (some ⟨p, 1, none⟩)) rfl (by kernel_rfl) (fun _ _ _ h => h) (by rfl) (by intro W hW; go_simp) (GV.refl _ _ _ _) ?_
  simp only [Act.put, q1, q2, q3]
  refine tkH 4 169 none (.string (tx l2)) rfl (by kernel_rfl) (fun _ _ _ h => h) (by rfl) (by intro W hW; have hc : W.cell? ⟨p, 1, none⟩ = some (.string (tx l2)) := ((HR.out W hW).blkAt 0 rfl).cell 1; go_simp) (GV.refl _ _ _ _) ?_
  simp only [Act.put, q1, q2, q3]
  refine tkH 6 171 none (.pointer (some ⟨p, 2, none⟩)) rfl (by kernel_rfl) (fun _ _ _ h => h) (by rfl) (by intro W hW; go_simp) (GV.refl _ _ _ _) ?_
  simp only [Act.put, q1, q2, q3]
  refine tkH 7 172 none (.int .i64 x3) rfl (by kernel_rfl) (fun _ _ _ h => h) (by rfl) (by intro W hW; have hc : W.cell? ⟨p, 2, none⟩ = some (.int .i64 x3) := ((HR.out W hW).blkAt 0 rfl).cell 2; go_simp) (GV.refl _ _ _ _) ?_
  simp only [Act.put, q1, q2, q3]
  refine tkH 11 176 none (.pointer (some ⟨p, 0, none⟩)) rfl (by kernel_rfl) (fun _ _ _ h => h) (by rfl) (by intro W hW; go_simp) (GV.refl _ _ _ _) ?_
  simp only [Act.put, q1, q2, q3]
  refine tkH 12 177 none (.string (tx l1)) rfl (by kernel_rfl) (fun _ _ _ h => h) (by rfl) (by intro W hW; have hc : W.cell? ⟨p, 0, none⟩ = some (.string (tx l1)) := ((HR.out W hW).blkAt 0 rfl).cell 0; go_simp) (GV.refl _ _ _ _) ?_
  simp only [Act.put, q1, q2, q3]
  refine tkH 13 178 none (.pointer (some ⟨p, 1, none⟩)) rfl (by kernel_rfl) (fun _ _ _ h => h) (by rfl) (by intro W hW; go_simp) (GV.refl _ _ _ _) ?_
  simp only [Act.put, q1, q2, q3]
  refine tkH 14 179 none (.string (tx l2)) rfl (by kernel_rfl) (fun _ _ _ h => h) (by rfl) (by intro W hW; have hc : W.cell? ⟨p, 1, none⟩ = some (.string (tx l2)) := ((HR.out W hW).blkAt 0 rfl).cell 1; go_simp) (GV.refl _ _ _ _) ?_
  simp only [Act.put, q1, q2, q3]
  refine tkH 16 181 none (.pointer (some ⟨p, 2, none⟩)) rfl (by kernel_rfl) (fun _ _ _ h => h) (by rfl) (by intro W hW; go_simp) (GV.refl _ _ _ _) ?_
  simp only [Act.put, q1, q2, q3]
  refine tkH 17 182 none (.int .i64 x3) rfl (by kernel_rfl) (fun _ _ _ h => h) (by rfl) (by intro W hW; have hc : W.cell? ⟨p, 2, none⟩ = some (.int .i64 x3) := ((HR.out W hW).blkAt 0 rfl).cell 2; go_simp) (GV.refl _ _ _ _) ?_
  simp only [Act.put, q1, q2, q3]
  refine anyH_steps (G := GV (fun b => q < b) q X) (Post := postV (fun b => q < b) q X [.any, .any, .val (.mk 1 0 0 l1 []), .any, .any, .val (.mk 1 0 0 l2 []), .any, .any, .val (.mk 0 0 (numU x3) [] []), .vals [.mk 1 0 0 l1 [], .mk 1 0 0 l2 [], .mk 0 0 (numU x3) [] []], .val (.mk 2 15 0 [] [.mk 1 0 0 l1 [], .mk 1 0 0 l2 [], .mk 0 0 (numU x3) [] []]), .any, .any, .any, .any, .row [.string (tx l1), .string (tx l2)], .any, .any, .row [.int .i64 x3], .is (.bool ([tx l1, tx l2].all rightB && [x3].all timeB)), .fin, .is (.bool ([tx l1, tx l2].all rightB && [x3].all timeB))]) (ds := [167, 170, 173, 174, 175, 180, 183, 184, 3]) (GV.refl _ _ _) GV.trans (fun W W' h g => GV.trans _ _ _ h g) (fun i v W W' h g => PK.stable HFq.out h g) [2, 5, 8, 9, 10, 15, 18, 19, 20, 21] 397 rfl (by decide +kernel) (by decide +kernel) ?_ ?_ (GV.refl _ _ _ _) (by decide +kernel)
  · refine AllSteps.cons (o := { dst := some 167, op := .call { callee := .value (.func 26), args := #[.tmp 166], argTypes := #[9] }, type := _, pos := _, after := _, guard := none }) rfl (fun a W hf hS hd K hK => ?_) ?_
    · have e166 : a.eval (.tmp 166) = .string (tx l1) := hf.lit 166 (by decide) rfl
      exact stepV_mk (wanted_none rfl) rfl enters_mtext (vs := #[.string (tx l1)]) (by simp [e166]) (mtext_any l1 W HZ1.out) (HZD.out W hS).1 (HZD.out W hS).2 hK
    refine AllSteps.cons (o := { dst := some 170, op := .call { callee := .value (.func 26), args := #[.tmp 169], argTypes := #[9] }, type := _, pos := _, after := _, guard := none }) rfl (fun a W hf hS hd K hK => ?_) ?_
    · have e169 : a.eval (.tmp 169) = .string (tx l2) := hf.lit 169 (by decide) rfl
      exact stepV_mk (wanted_none rfl) rfl enters_mtext (vs := #[.string (tx l2)]) (by simp [e169]) (mtext_any l2 W HZ2.out) (HZD.out W hS).1 (HZD.out W hS).2 hK
    refine AllSteps.cons (o := { dst := some 173, op := .call { callee := .value (.func 27), args := #[.tmp 172], argTypes := #[2] }, type := _, pos := _, after := _, guard := none }) rfl (fun a W hf hS hd K hK => ?_) ?_
    · have e172 : a.eval (.tmp 172) = .int .i64 x3 := hf.lit 172 (by decide) rfl
      exact stepV_mk (wanted_none rfl) rfl enters_mnum (vs := #[.int .i64 x3]) (by simp [e172]) (mnumI_any x3 W HZ3.out.1 HZ3.out.2) (HZD.out W hS).1 (HZD.out W hS).2 hK
    refine AllSteps.cons (o := { dst := some 174, op := .buildSlice 36 3 #[(0, .tmp 167), (1, .tmp 170), (2, .tmp 173)], type := _, pos := _, after := _, guard := none }) rfl (fun a W hf hS hd K hK => ?_) ?_
    · have d167 := (hd 2 (by decide +kernel)).get (s := 167) rfl
      have d170 := (hd 5 (by decide +kernel)).get (s := 170) rfl
      have d173 := (hd 8 (by decide +kernel)).get (s := 173) rfl
      exact stepV_vals (wanted_none rfl) rfl elDer (ps := [.tmp 167, .tmp 170, .tmp 173]) rfl (l := [.mk 1 0 0 l1 [], .mk 1 0 0 l2 [], .mk 0 0 (numU x3) [] []]) ⟨d167, d170, d173, trivial⟩ rfl (by decide) (by decide) (HZD.out W hS).1 (HZD.out W hS).2 hK
    refine AllSteps.cons (o := { dst := some 175, op := .call { callee := .value (.func 25), args := #[.const (.int .i64 15), .tmp 174], argTypes := #[3, 36] }, type := _, pos := _, after := _, guard := none }) rfl (fun a W hf hS hd K hK => ?_) ?_
    · have d174 := (hd 9 (by decide +kernel)).get (s := 174) rfl
      exact stepV_seq (wanted_none rfl) rfl enters_seq d174 (HZD.out W hS).1 (fun v w1 h1 h2 => hK v w1 h1 h2) HFq.out
    refine AllSteps.cons (o := { dst := some 180, op := .buildSlice 93 2 #[(0, .tmp 177), (1, .tmp 179)], type := _, pos := _, after := _, guard := none }) rfl (fun a W hf hS hd K hK => ?_) ?_
    · have e177 : a.eval (.tmp 177) = .string (tx l1) := hf.lit 177 (by decide) rfl
      have e179 : a.eval (.tmp 179) = .string (tx l2) := hf.lit 179 (by decide) rfl
      exact stepV_row (wanted_none rfl) rfl elStr (ps := [.tmp 177, .tmp 179]) rfl (cs := [.string (tx l1), .string (tx l2)]) (by simp only [List.map_cons, List.map_nil, e177, e179]) (by intro u hu; simp only [List.mem_cons, List.not_mem_nil, or_false] at hu; rcases hu with rfl | rfl <;> exact ⟨rfl, rfl⟩) rfl (by decide) (by decide) (HZD.out W hS).1 (HZD.out W hS).2 hK
    refine AllSteps.cons (o := { dst := some 183, op := .buildSlice 116 1 #[(0, .tmp 182)], type := _, pos := _, after := _, guard := none }) rfl (fun a W hf hS hd K hK => ?_) ?_
    · have e182 : a.eval (.tmp 182) = .int .i64 x3 := hf.lit 182 (by decide) rfl
      exact stepV_row (wanted_none rfl) rfl elI64 (ps := [.tmp 182]) rfl (cs := [.int .i64 x3]) (by simp only [List.map_cons, List.map_nil, e182]) (by intro u hu; simp only [List.mem_cons, List.not_mem_nil, or_false] at hu; rcases hu with rfl <;> exact ⟨rfl, rfl⟩) rfl (by decide) (by decide) (HZD.out W hS).1 (HZD.out W hS).2 hK
    refine AllSteps.cons (o := { dst := some 184, op := .call { callee := .value (.func 29), args := #[.tmp 180, .tmp 183], argTypes := #[93, 116] }, type := _, pos := _, after := _, guard := none }) rfl (fun a W hf hS hd K hK => ?_) ?_
    · have d180 := (hd 15 (by decide +kernel)).get (s := 180) rfl
      have d183 := (hd 18 (by decide +kernel)).get (s := 183) rfl
      exact stepV_is (wanted_none rfl) rfl enters_mright (vs := #[a.eval (.tmp 180), a.eval (.tmp 183)]) (by first | (simp only [List.map_toArray, List.map_cons, List.map_nil]; done) | (simp only [List.map_toArray, List.map_cons, List.map_nil]; rfl)) (u := (.bool ([tx l1, tx l2].all rightB && [x3].all timeB))) (mright_any [tx l1, tx l2] [x3] _ _ W d180.1 d183.1 HSZ.out) (HZD.out W hS).1 hK
    refine AllSteps.cons (o := { dst := none, op := .store 38 (.tmp 2) (.tmp 175), type := _, pos := _, after := _, guard := none }) rfl (fun a W hf hS hd K hK => ?_) ?_
    · have e2 : a.eval (.tmp 2) = .pointer (some ⟨q, 0, none⟩) := hf.lit 2 (by decide) rfl
      have d175 := (hd 10 (by decide +kernel)).get (s := 175) rfl
      obtain ⟨cur, hc1, hc2⟩ := (HR.out W hS).len
      rw [← HXE.out] at d175
      exact stepV_fin (wanted_none rfl) rfl e2 d175 hc1 hc2 HFq.out hK
    refine AllSteps.cons (o := { dst := some 3, op := .assign (.tmp 184), type := _, pos := _, after := _, guard := none }) rfl (fun a W hf hS hd K hK => ?_) ?_
    · have d184 := (hd 19 (by decide +kernel)).get (s := 184) rfl
      exact step_val (wanted_none rfl) (exec_asg rfl rfl) (hK _ _ (GV.refl _ _ _ _) d184)
    exact AllSteps.nil
  · intro a W hf hS hp
    have h3 := (hp 21 (by decide)).get (s := 3) rfl
    obtain ⟨v, cs, h5, h6⟩ := (hp 20 (by decide)).fin
    have e2 : a.eval (.tmp 2) = .pointer (some ⟨q, 0, none⟩) := hf.lit 2 (by decide) rfl
    go_wp2_with fail
    refine bodyPost_ret (results_agg_tmp rfl aggDer (show a.tmps.getD 2 undef = _ from e2) h6.length h5.cellsAll) hf.defers ⟨cs, ?_, ?_, (HR.out W hS).below⟩
    · rw [HBE.out, show a.tmps.getD 3 undef = .bool ([tx l1, tx l2].all rightB && [x3].all timeB) from h3]
    · exact h6.mono (fun b hb => by have := HQW.out; omega)
end Go.Proofs.Ytpjkidcfidmfaaa
