/- The statement DerReads, walked. (Printed by wip/tools/genderreads.py.) -/
import Derived.Test.YtdmjliehobgknaaDerAlive
namespace Go.Proofs.Ytdmjliehobgknaa
set_option linter.unusedSimpArgs false
set_option linter.unusedVariables false
open Go.RowKit

theorem step_ldAggG {P : Program} {ops : Array Oper} {o : Oper} {a : Act} {w : World} {K : Act → World → Prop} {Q : Exit → Act → World → Prop} {E : Prop} (hgd : Region.wanted o (yielded ops a.tmps) = true) (x : Operand) {ty : TypeId} {m : Nat} (hT : AggTy P ty m) (ho : o.op = .load ty x)
    {b off : Nat} (hx : a.eval x = .pointer (some ⟨b, off, none⟩)) {cs : List Value} (hm : cs.length = m) (hc : CellsAt w b off cs)
    (h : K (a.put o.dst (.agg cs.toArray)) w) : if Region.wanted o (yielded ops a.tmps) = true then Oper.wp P o a w K Q else E := by
  rw [if_pos hgd]
  unfold Oper.wp execOp
  simp only [ho, hx, Instr.loadAt, Instr.sureAddr, Sem.run_bind, Sem.run_pure, Result.andThen_ok, run_ldAgg hT hm hc]
  exact h

set_option maxHeartbeats 8000000 in
set_option maxRecDepth 100000 in
theorem derReads_walk (v : Value) (b : List UInt8) (w : World) (h : Bs w v b) :
    Calls Try.prog 10 #[v] w fun e w' => e = .returned (.bool true) ∧ Below w.heap.size w w' := by
  obtain ⟨a, c, rfl, hc, hm⟩ := h.form
  have HBS := Lib.hid h
  unfold maxLen at hm
  clear h
  go_enter Try.func10, Try.ntmps10
  go_wp2_with fail
  refine (alive02_any w).mono ?_
  rintro e w1 ⟨rfl, hb1⟩
  have hz1 := hb1.size
  have HB1 := Lib.hid hb1
  have HBS1 := Lib.hid (HBS.out.below hb1)
  clear hb1
  by_cases hl : 5000 < b.length
  · have hl' : (5000 : Int) < b.length := by omega
    go_wp2_with fail
    go_ret
    exact ⟨rfl, HB1.out⟩
  · have hl' : ¬ (5000 : Int) < b.length := by omega
    obtain ⟨x, er, hwh⟩ : ∃ x er, wholeS b = (x, er) := ⟨_, _, rfl⟩
    have HD := Lib.hid (derWhole_any _ b w1 HBS1.out)
    rw [hwh] at HD
    have HW := Lib.hid hwh
    clear hwh
    go_wp2_with fail
    refine HD.out.mono ?_
    rintro e w2 ⟨cs, rfl, htv, hb2⟩
    have hz2 := hb2.size
    have HCL : Hid (cs.length = 5) := Lib.hid htv.length
    have HC1 := Lib.hid htv.one
    have HN2 := Lib.hid (Blk.new w2 zs5 47)
    have HTV2 := Lib.hid htv
    have HBS2 := Lib.hid (HBS1.out.below hb2)
    have HB2 : Hid (Below w.heap.size w w2) := Lib.hid (HB1.out.trans (hb2.mono (by omega)))
    clear htv hb2 HD HB1 HBS1
    go_wp2_with ((with_reducible show wpList _ _ _ (⟨none, .store _ (.tmp 3) (.tmp 17), _, _, _, _⟩ :: _) _ _); refine wpList_stAgg rfl (.tmp 3) (.tmp 17) aggDer rfl rfl (vs := cs) rfl HCL.out HN2.out (Nat.le_refl _) HC1.out ?_)
    intro w3 h3 k3
    have h3' : Blk w3 w2.heap.size cs 47 := by
      rw [List.drop_of_length_le (by decide), List.append_nil] at h3
      exact h3
    have hz3 := k3.size
    simp at hz3
    have hb3 : Below w2.heap.size w2 w3 := ((Below.refl _ _).alloc (Nat.le_refl _) _).trans (k3.below (by omega))
    have HP3 := Lib.hid h3'
    have HTV3 := Lib.hid (HTV2.out.below hb3)
    have HBS3 := Lib.hid (HBS2.out.below hb3)
    have HB3 : Hid (Below w.heap.size w w3) := Lib.hid (HB2.out.trans (hb3.mono (by omega)))
    have HD := Lib.hid (refWhole_any _ b w3 HBS3.out)
    rw [HW.out] at HD
    clear h3 h3' k3 hb3 HN2 HTV2 HBS2 HB2
    go_wp2_with fail
    refine HD.out.mono ?_
    rintro e w4 ⟨ds, rfl, htv, hb4⟩
    have hz4 := hb4.size
    have HDL : Hid (ds.length = 5) := Lib.hid htv.length
    have HD1 := Lib.hid htv.one
    have HN4 := Lib.hid (Blk.new w4 zs5 50)
    have HTW4 := Lib.hid htv
    have HTV4 := Lib.hid (HTV3.out.below hb4)
    have HP4 := Lib.hid (HP3.out.below hb4 (by omega))
    have HBS4 := Lib.hid (HBS3.out.below hb4)
    have HB4 : Hid (Below w.heap.size w w4) := Lib.hid (HB3.out.trans (hb4.mono (by omega)))
    clear htv hb4 HD HB3 HBS3 HTV3 HP3
    go_wp2_with ((with_reducible show wpList _ _ _ (⟨none, .store _ (.tmp 5) (.tmp 22), _, _, _, _⟩ :: _) _ _); refine wpList_stAgg rfl (.tmp 5) (.tmp 22) aggRef rfl rfl (vs := ds) rfl HDL.out HN4.out (Nat.le_refl _) HD1.out ?_)
    intro w5 h5 k5
    have h5' : Blk w5 w4.heap.size ds 50 := by
      rw [List.drop_of_length_le (by decide), List.append_nil] at h5
      exact h5
    have hz5 := k5.size
    simp at hz5
    have hb5 : Below w4.heap.size w4 w5 := ((Below.refl _ _).alloc (Nat.le_refl _) _).trans (k5.below (by omega))
    have HQ5 := Lib.hid h5'
    have HTW5 := Lib.hid (HTW4.out.below hb5)
    have HTV5 := Lib.hid (HTV4.out.below hb5)
    have HP5 := Lib.hid (HP4.out.below hb5 (by omega))
    have HBS5 := Lib.hid (HBS4.out.below hb5)
    have HB5 : Hid (Below w.heap.size w w5) := Lib.hid (HB4.out.trans (hb5.mono (by omega)))
    obtain ⟨p, hp⟩ : ∃ p, p = w2.heap.size := ⟨_, rfl⟩
    obtain ⟨q, hq⟩ : ∃ q, q = w4.heap.size := ⟨_, rfl⟩
    rw [← hp] at HP5 ⊢
    rw [← hq] at HQ5 ⊢
    have hpl : p < w5.heap.size := by omega
    have hql : q < w5.heap.size := by omega
    have hwl : w.heap.size ≤ w5.heap.size := by omega
    have hgood : Nw x ∧ Lw x ∧ rightS 8 x = true ∧ (er = 0 → wrS x = (b, 0)) ∧ (writeS x).length ≤ 1073741824 := by
      by_cases he : er = 0
      · subst he
        obtain ⟨g1, g2, g3, g4, g5⟩ := wholeS_back HW.out
        exact ⟨g2, g3, g4, fun _ => g1, by rw [g5]; omega⟩
      · obtain rfl := wholeS_bad HW.out he
        exact ⟨⟨by decide, trivial⟩, ⟨by simp, trivial⟩, by kernel_rfl, fun h => absurd h he, by rw [show (writeS Tv.zero).length = 3 by kernel_rfl]; decide⟩
    have HG := Lib.hid hgood
    have HPC : Hid (CellsAt w5.drew p 0 cs) := Lib.hid (HP5.out.cellsAll : CellsAt w5 p 0 cs)
    have HQC : Hid (CellsAt w5.drew q 0 ds) := Lib.hid (HQ5.out.cellsAll : CellsAt w5 q 0 ds)
    have HPLAIN := Lib.hid (plain_any x _ cs w5.drew (HTV5.out.below ((Below.refl _ _).drew)) hgood.2.1)
    have hzd : w5.drew.heap.size = w5.heap.size := rfl
    have HZD := Lib.hid hzd
    clear h5 h5' k5 hb5 HN4 HTW4 HTV4 HP4 HBS4 HB4 hp hq hgood hzd
    go_wp2_with fail
    refine wp_region_any (by kernel_rfl) ?_
    change wpAny _ _ _ _ _ _ _ (World.drew _)
    refine wpAny_take (i := 0) (oi := { dst := some 24, op := _, type := _, pos := _, after := _, guard := none }) (v := .int .i64 er) rfl (by kernel_rfl) (by kernel_rfl) (by kernel_rfl) (fun _ _ _ h => h) (Or.inl ⟨by rfl, by intro w; go_simp⟩) ?_
    simp only [Act.put, List.setIfInBounds_toArray, List.set_cons_zero, List.set_cons_succ]
    refine wpAny_take (i := 1) (oi := { dst := some 25, op := _, type := _, pos := _, after := _, guard := none }) (v := .int .i64 er) rfl (by kernel_rfl) (by kernel_rfl) (by kernel_rfl) (fun _ _ _ h => h) (Or.inl ⟨by rfl, by intro w; go_simp⟩) ?_
    simp only [Act.put, List.setIfInBounds_toArray, List.set_cons_zero, List.set_cons_succ]
    refine wpAny_take (i := 2) (oi := { dst := some 26, op := _, type := _, pos := _, after := _, guard := none }) (v := .bool false) rfl (by kernel_rfl) (by kernel_rfl) (by kernel_rfl) (fun _ _ _ h => h) (Or.inl ⟨by rfl, by intro w; go_simp⟩) ?_
    simp only [Act.put, List.setIfInBounds_toArray, List.set_cons_zero, List.set_cons_succ]
    refine wpAny_take (i := 3) (oi := { dst := some 27, op := _, type := _, pos := _, after := _, guard := none }) (v := .bool false) rfl (by kernel_rfl) (by kernel_rfl) (by kernel_rfl) (fun _ _ _ h => h) (Or.inl ⟨by rfl, by intro w; go_simp⟩) ?_
    simp only [Act.put, List.setIfInBounds_toArray, List.set_cons_zero, List.set_cons_succ]
    refine wpAny_ready (rs := [4, 6]) (by decide +kernel) (by simp) ?_
    refine AllReady.cons (o := { dst := some 28, op := .load 47 (.tmp 3), type := _, pos := _, after := _, guard := some (3, false) }) rfl (fun K hK => ?_) (AllReady.cons (o := { dst := some 30, op := .load 50 (.tmp 5), type := _, pos := _, after := _, guard := some (3, false) }) rfl (fun K hK => ?_) AllReady.nil)
    · refine step_ldAggG rfl (.tmp 3) aggDer rfl (by simp [Act.eval]) HCL.out HPC.out ?_
      refine hK _ _ ?_
      clear hK K
      try simp only [Act.put, List.setIfInBounds_toArray, List.set_cons_zero, List.set_cons_succ]
      refine wpAny_ready (rs := [5, 6]) (by decide +kernel) (by simp) ?_
      refine AllReady.cons (o := { dst := some 29, op := .call { callee := .value (.func 29), args := #[.tmp 28], argTypes := #[47] }, type := _, pos := _, after := _, guard := some (3, false) }) rfl (fun K hK => ?_) (AllReady.cons (o := { dst := some 30, op := .load 50 (.tmp 5), type := _, pos := _, after := _, guard := some (3, false) }) rfl (fun K hK => ?_) AllReady.nil)
      · go_simp
        refine HPLAIN.out.mono ?_
        rintro e w6 ⟨es, rfl, htv6, hb6⟩
        have hz6 : w5.heap.size ≤ w6.heap.size := by have := hb6.size; have := HZD.out; omega
        have hba : Below w5.heap.size w5 w6 := ⟨hb6.os, hb6.tape, hb6.output, hb6.size, hb6.block⟩
        have HES : Hid (es.length = 5) := Lib.hid htv6.length
        have HQC6 : Hid (CellsAt w6 q 0 ds) := Lib.hid ((HQ5.out.below hba hql).cellsAll)
        have HSAME := Lib.hid (refSameT_any x x _ _ es ds w6 htv6 (HTW5.out.below hba))
        rw [(tvEq_iff x x).2 rfl] at HSAME
        have HP6 := Lib.hid (HP5.out.below hba hpl)
        have HTV6 := Lib.hid (HTV5.out.below hba)
        have HBS6 := Lib.hid (HBS5.out.below hba)
        have HB6 : Hid (Below w.heap.size w w6) := Lib.hid (HB5.out.trans (hba.mono hwl))
        clear htv6 hb6 hba
        refine hK _ _ ?_
        clear hK K
        try simp only [Act.put, List.setIfInBounds_toArray, List.set_cons_zero, List.set_cons_succ]
        refine wpAny_ready (rs := [6]) (by decide +kernel) (by simp) ?_
        refine AllReady.cons (o := { dst := some 30, op := .load 50 (.tmp 5), type := _, pos := _, after := _, guard := some (3, false) }) rfl (fun K hK => ?_) AllReady.nil
        first | refine step_ldAggG rfl (.tmp 5) aggRef rfl (by simp [Act.eval]) HDL.out HQC.out ?_ | refine step_ldAggG rfl (.tmp 5) aggRef rfl (by simp [Act.eval]) HDL.out HQC6.out ?_
        refine hK _ _ ?_
        clear hK K
        try simp only [Act.put, List.setIfInBounds_toArray, List.set_cons_zero, List.set_cons_succ]
        refine wpAny_ready (rs := [7]) (by decide +kernel) (by simp) ?_
        refine AllReady.cons (o := { dst := some 31, op := .call { callee := .value (.func 37), args := #[.tmp 29, .tmp 30], argTypes := #[50, 50] }, type := _, pos := _, after := _, guard := some (3, false) }) rfl (fun K hK => ?_) AllReady.nil
        go_simp
        refine HSAME.out.mono ?_
        rintro e w7 ⟨rfl, hb7⟩
        have hz7 := hb7.size
        have HP7 := Lib.hid (HP6.out.below hb7 (by omega))
        have HTV7 := Lib.hid (HTV6.out.below hb7)
        have HBS7 := Lib.hid (HBS6.out.below hb7)
        have HB7 : Hid (Below w.heap.size w w7) := Lib.hid (HB6.out.trans (hb7.mono (by omega)))
        clear hb7
        refine hK _ _ ?_
        clear hK K
        try simp only [Act.put, List.setIfInBounds_toArray, List.set_cons_zero, List.set_cons_succ]
        refine wpAny_ready (rs := [8]) (by decide +kernel) (by simp) ?_
        refine AllReady.cons (o := { dst := some 32, op := .unOp .not 4 (.tmp 31), type := _, pos := _, after := _, guard := some (3, false) }) rfl (fun K hK => ?_) AllReady.nil
        go_simp
        refine hK _ _ ?_
        clear hK K
        try simp only [Act.put, List.setIfInBounds_toArray, List.set_cons_zero, List.set_cons_succ]
        refine wpAny_ready (rs := [9]) (by decide +kernel) (by simp) ?_
        refine AllReady.cons (o := { dst := some 33, op := .pick (.tmp 27) (.const (.bool true)) (.tmp 32), type := _, pos := _, after := _, guard := none }) rfl (fun K hK => ?_) AllReady.nil
        go_simp
        refine hK _ _ ?_
        clear hK K
        try simp only [Act.put, List.setIfInBounds_toArray, List.set_cons_zero, List.set_cons_succ]
        refine wpAny_done (by decide +kernel) ?_ _
        obtain ⟨hnw, hlw, hri, hwr, hlen⟩ := HG.out
        have HWT := Lib.hid (derWriteIt_any x _ cs w7 HTV7.out hnw (fun _ => hlen))
        obtain ⟨wb, we, hwe⟩ : ∃ wb we, wrS x = (wb, we) := ⟨_, _, rfl⟩
        rw [hwe] at HWT
        clear hnw hlw hri hlen
        go_wp2_with ((with_reducible show wpList _ _ _ (⟨some 35, _, _, _, _, _⟩ :: _) _ _); refine wpList_ldAgg rfl (.tmp 3) aggDer rfl rfl (cs := cs) HCL.out HP7.out.cellsAll ?_)
        refine HWT.out.mono ?_
        rintro e w8 ⟨v8, rfl, hs8, hb8⟩
        obtain ⟨a8, c8, rfl, _⟩ := hs8.form
        have HB8 : Hid (Below w.heap.size w w8) := Lib.hid (HB7.out.trans (hb8.mono (by omega)))
        have hz8 := hb8.size
        have HS8 := Lib.hid hs8
        have HBS8 := Lib.hid (HBS7.out.below hb8)
        clear hb8 hs8
        by_cases he : er = 0
        · have hwr' := hwr he
          rw [hwe] at hwr'
          simp only [Prod.mk.injEq] at hwr'
          obtain ⟨rfl, rfl⟩ := hwr'
          subst he
          have HEQ := Lib.hid (same_b _ _ wb wb w8 HBS8.out HS8.out)
          rw [show decide (wb = wb) = true from by simp] at HEQ
          clear hwe hwr
          go_wp2_with fail
          refine HEQ.out.mono ?_
          rintro e w9 ⟨rfl, hb9⟩
          have HB9 : Hid (Below w.heap.size w w9) := Lib.hid (HB8.out.trans (hb9.mono (by omega)))
          clear hb9
          go_wp2_with fail
          go_ret
          exact ⟨rfl, HB9.out⟩
        · have he' : (er != 0) = true := by simp [he]
          clear hwe hwr he
          go_wp2_with fail
          go_ret
          exact ⟨rfl, HB8.out⟩
      · first | refine step_ldAggG rfl (.tmp 5) aggRef rfl (by simp [Act.eval]) HDL.out HQC.out ?_ | refine step_ldAggG rfl (.tmp 5) aggRef rfl (by simp [Act.eval]) HDL.out HQC6.out ?_
        refine hK _ _ ?_
        clear hK K
        try simp only [Act.put, List.setIfInBounds_toArray, List.set_cons_zero, List.set_cons_succ]
        refine wpAny_ready (rs := [5]) (by decide +kernel) (by simp) ?_
        refine AllReady.cons (o := { dst := some 29, op := .call { callee := .value (.func 29), args := #[.tmp 28], argTypes := #[47] }, type := _, pos := _, after := _, guard := some (3, false) }) rfl (fun K hK => ?_) AllReady.nil
        go_simp
        refine HPLAIN.out.mono ?_
        rintro e w6 ⟨es, rfl, htv6, hb6⟩
        have hz6 : w5.heap.size ≤ w6.heap.size := by have := hb6.size; have := HZD.out; omega
        have hba : Below w5.heap.size w5 w6 := ⟨hb6.os, hb6.tape, hb6.output, hb6.size, hb6.block⟩
        have HES : Hid (es.length = 5) := Lib.hid htv6.length
        have HQC6 : Hid (CellsAt w6 q 0 ds) := Lib.hid ((HQ5.out.below hba hql).cellsAll)
        have HSAME := Lib.hid (refSameT_any x x _ _ es ds w6 htv6 (HTW5.out.below hba))
        rw [(tvEq_iff x x).2 rfl] at HSAME
        have HP6 := Lib.hid (HP5.out.below hba hpl)
        have HTV6 := Lib.hid (HTV5.out.below hba)
        have HBS6 := Lib.hid (HBS5.out.below hba)
        have HB6 : Hid (Below w.heap.size w w6) := Lib.hid (HB5.out.trans (hba.mono hwl))
        clear htv6 hb6 hba
        refine hK _ _ ?_
        clear hK K
        try simp only [Act.put, List.setIfInBounds_toArray, List.set_cons_zero, List.set_cons_succ]
        refine wpAny_ready (rs := [7]) (by decide +kernel) (by simp) ?_
        refine AllReady.cons (o := { dst := some 31, op := .call { callee := .value (.func 37), args := #[.tmp 29, .tmp 30], argTypes := #[50, 50] }, type := _, pos := _, after := _, guard := some (3, false) }) rfl (fun K hK => ?_) AllReady.nil
        go_simp
        refine HSAME.out.mono ?_
        rintro e w7 ⟨rfl, hb7⟩
        have hz7 := hb7.size
        have HP7 := Lib.hid (HP6.out.below hb7 (by omega))
        have HTV7 := Lib.hid (HTV6.out.below hb7)
        have HBS7 := Lib.hid (HBS6.out.below hb7)
        have HB7 : Hid (Below w.heap.size w w7) := Lib.hid (HB6.out.trans (hb7.mono (by omega)))
        clear hb7
        refine hK _ _ ?_
        clear hK K
        try simp only [Act.put, List.setIfInBounds_toArray, List.set_cons_zero, List.set_cons_succ]
        refine wpAny_ready (rs := [8]) (by decide +kernel) (by simp) ?_
        refine AllReady.cons (o := { dst := some 32, op := .unOp .not 4 (.tmp 31), type := _, pos := _, after := _, guard := some (3, false) }) rfl (fun K hK => ?_) AllReady.nil
        go_simp
        refine hK _ _ ?_
        clear hK K
        try simp only [Act.put, List.setIfInBounds_toArray, List.set_cons_zero, List.set_cons_succ]
        refine wpAny_ready (rs := [9]) (by decide +kernel) (by simp) ?_
        refine AllReady.cons (o := { dst := some 33, op := .pick (.tmp 27) (.const (.bool true)) (.tmp 32), type := _, pos := _, after := _, guard := none }) rfl (fun K hK => ?_) AllReady.nil
        go_simp
        refine hK _ _ ?_
        clear hK K
        try simp only [Act.put, List.setIfInBounds_toArray, List.set_cons_zero, List.set_cons_succ]
        refine wpAny_done (by decide +kernel) ?_ _
        obtain ⟨hnw, hlw, hri, hwr, hlen⟩ := HG.out
        have HWT := Lib.hid (derWriteIt_any x _ cs w7 HTV7.out hnw (fun _ => hlen))
        obtain ⟨wb, we, hwe⟩ : ∃ wb we, wrS x = (wb, we) := ⟨_, _, rfl⟩
        rw [hwe] at HWT
        clear hnw hlw hri hlen
        go_wp2_with ((with_reducible show wpList _ _ _ (⟨some 35, _, _, _, _, _⟩ :: _) _ _); refine wpList_ldAgg rfl (.tmp 3) aggDer rfl rfl (cs := cs) HCL.out HP7.out.cellsAll ?_)
        refine HWT.out.mono ?_
        rintro e w8 ⟨v8, rfl, hs8, hb8⟩
        obtain ⟨a8, c8, rfl, _⟩ := hs8.form
        have HB8 : Hid (Below w.heap.size w w8) := Lib.hid (HB7.out.trans (hb8.mono (by omega)))
        have hz8 := hb8.size
        have HS8 := Lib.hid hs8
        have HBS8 := Lib.hid (HBS7.out.below hb8)
        clear hb8 hs8
        by_cases he : er = 0
        · have hwr' := hwr he
          rw [hwe] at hwr'
          simp only [Prod.mk.injEq] at hwr'
          obtain ⟨rfl, rfl⟩ := hwr'
          subst he
          have HEQ := Lib.hid (same_b _ _ wb wb w8 HBS8.out HS8.out)
          rw [show decide (wb = wb) = true from by simp] at HEQ
          clear hwe hwr
          go_wp2_with fail
          refine HEQ.out.mono ?_
          rintro e w9 ⟨rfl, hb9⟩
          have HB9 : Hid (Below w.heap.size w w9) := Lib.hid (HB8.out.trans (hb9.mono (by omega)))
          clear hb9
          go_wp2_with fail
          go_ret
          exact ⟨rfl, HB9.out⟩
        · have he' : (er != 0) = true := by simp [he]
          clear hwe hwr he
          go_wp2_with fail
          go_ret
          exact ⟨rfl, HB8.out⟩
    · first | refine step_ldAggG rfl (.tmp 5) aggRef rfl (by simp [Act.eval]) HDL.out HQC.out ?_ | refine step_ldAggG rfl (.tmp 5) aggRef rfl (by simp [Act.eval]) HDL.out HQC6.out ?_
      refine hK _ _ ?_
      clear hK K
      try simp only [Act.put, List.setIfInBounds_toArray, List.set_cons_zero, List.set_cons_succ]
      refine wpAny_ready (rs := [4]) (by decide +kernel) (by simp) ?_
      refine AllReady.cons (o := { dst := some 28, op := .load 47 (.tmp 3), type := _, pos := _, after := _, guard := some (3, false) }) rfl (fun K hK => ?_) AllReady.nil
      refine step_ldAggG rfl (.tmp 3) aggDer rfl (by simp [Act.eval]) HCL.out HPC.out ?_
      refine hK _ _ ?_
      clear hK K
      try simp only [Act.put, List.setIfInBounds_toArray, List.set_cons_zero, List.set_cons_succ]
      refine wpAny_ready (rs := [5]) (by decide +kernel) (by simp) ?_
      refine AllReady.cons (o := { dst := some 29, op := .call { callee := .value (.func 29), args := #[.tmp 28], argTypes := #[47] }, type := _, pos := _, after := _, guard := some (3, false) }) rfl (fun K hK => ?_) AllReady.nil
      go_simp
      refine HPLAIN.out.mono ?_
      rintro e w6 ⟨es, rfl, htv6, hb6⟩
      have hz6 : w5.heap.size ≤ w6.heap.size := by have := hb6.size; have := HZD.out; omega
      have hba : Below w5.heap.size w5 w6 := ⟨hb6.os, hb6.tape, hb6.output, hb6.size, hb6.block⟩
      have HES : Hid (es.length = 5) := Lib.hid htv6.length
      have HQC6 : Hid (CellsAt w6 q 0 ds) := Lib.hid ((HQ5.out.below hba hql).cellsAll)
      have HSAME := Lib.hid (refSameT_any x x _ _ es ds w6 htv6 (HTW5.out.below hba))
      rw [(tvEq_iff x x).2 rfl] at HSAME
      have HP6 := Lib.hid (HP5.out.below hba hpl)
      have HTV6 := Lib.hid (HTV5.out.below hba)
      have HBS6 := Lib.hid (HBS5.out.below hba)
      have HB6 : Hid (Below w.heap.size w w6) := Lib.hid (HB5.out.trans (hba.mono hwl))
      clear htv6 hb6 hba
      refine hK _ _ ?_
      clear hK K
      try simp only [Act.put, List.setIfInBounds_toArray, List.set_cons_zero, List.set_cons_succ]
      refine wpAny_ready (rs := [7]) (by decide +kernel) (by simp) ?_
      refine AllReady.cons (o := { dst := some 31, op := .call { callee := .value (.func 37), args := #[.tmp 29, .tmp 30], argTypes := #[50, 50] }, type := _, pos := _, after := _, guard := some (3, false) }) rfl (fun K hK => ?_) AllReady.nil
      go_simp
      refine HSAME.out.mono ?_
      rintro e w7 ⟨rfl, hb7⟩
      have hz7 := hb7.size
      have HP7 := Lib.hid (HP6.out.below hb7 (by omega))
      have HTV7 := Lib.hid (HTV6.out.below hb7)
      have HBS7 := Lib.hid (HBS6.out.below hb7)
      have HB7 : Hid (Below w.heap.size w w7) := Lib.hid (HB6.out.trans (hb7.mono (by omega)))
      clear hb7
      refine hK _ _ ?_
      clear hK K
      try simp only [Act.put, List.setIfInBounds_toArray, List.set_cons_zero, List.set_cons_succ]
      refine wpAny_ready (rs := [8]) (by decide +kernel) (by simp) ?_
      refine AllReady.cons (o := { dst := some 32, op := .unOp .not 4 (.tmp 31), type := _, pos := _, after := _, guard := some (3, false) }) rfl (fun K hK => ?_) AllReady.nil
      go_simp
      refine hK _ _ ?_
      clear hK K
      try simp only [Act.put, List.setIfInBounds_toArray, List.set_cons_zero, List.set_cons_succ]
      refine wpAny_ready (rs := [9]) (by decide +kernel) (by simp) ?_
      refine AllReady.cons (o := { dst := some 33, op := .pick (.tmp 27) (.const (.bool true)) (.tmp 32), type := _, pos := _, after := _, guard := none }) rfl (fun K hK => ?_) AllReady.nil
      go_simp
      refine hK _ _ ?_
      clear hK K
      try simp only [Act.put, List.setIfInBounds_toArray, List.set_cons_zero, List.set_cons_succ]
      refine wpAny_done (by decide +kernel) ?_ _
      obtain ⟨hnw, hlw, hri, hwr, hlen⟩ := HG.out
      have HWT := Lib.hid (derWriteIt_any x _ cs w7 HTV7.out hnw (fun _ => hlen))
      obtain ⟨wb, we, hwe⟩ : ∃ wb we, wrS x = (wb, we) := ⟨_, _, rfl⟩
      rw [hwe] at HWT
      clear hnw hlw hri hlen
      go_wp2_with ((with_reducible show wpList _ _ _ (⟨some 35, _, _, _, _, _⟩ :: _) _ _); refine wpList_ldAgg rfl (.tmp 3) aggDer rfl rfl (cs := cs) HCL.out HP7.out.cellsAll ?_)
      refine HWT.out.mono ?_
      rintro e w8 ⟨v8, rfl, hs8, hb8⟩
      obtain ⟨a8, c8, rfl, _⟩ := hs8.form
      have HB8 : Hid (Below w.heap.size w w8) := Lib.hid (HB7.out.trans (hb8.mono (by omega)))
      have hz8 := hb8.size
      have HS8 := Lib.hid hs8
      have HBS8 := Lib.hid (HBS7.out.below hb8)
      clear hb8 hs8
      by_cases he : er = 0
      · have hwr' := hwr he
        rw [hwe] at hwr'
        simp only [Prod.mk.injEq] at hwr'
        obtain ⟨rfl, rfl⟩ := hwr'
        subst he
        have HEQ := Lib.hid (same_b _ _ wb wb w8 HBS8.out HS8.out)
        rw [show decide (wb = wb) = true from by simp] at HEQ
        clear hwe hwr
        go_wp2_with fail
        refine HEQ.out.mono ?_
        rintro e w9 ⟨rfl, hb9⟩
        have HB9 : Hid (Below w.heap.size w w9) := Lib.hid (HB8.out.trans (hb9.mono (by omega)))
        clear hb9
        go_wp2_with fail
        go_ret
        exact ⟨rfl, HB9.out⟩
      · have he' : (er != 0) = true := by simp [he]
        clear hwe hwr he
        go_wp2_with fail
        go_ret
        exact ⟨rfl, HB8.out⟩
end Go.Proofs.Ytdmjliehobgknaa
