/- Contracts: Base: New, Add, Get, Drop, Names. (Printed by wip/tools/genbops.py.) -/
import Derived.Test.YtclonbojpcgngaaBFind
import Derived.Test.YtclonbojpcgngaaBIns
import Derived.Test.YtclonbojpcgngaaName2
namespace Go.Proofs.Ytclonbojpcgngaa
set_option linter.unusedSimpArgs false
set_option linter.unusedVariables false
open Go.RowKit

theorem baseR_shut2 {W : World} {p n : Nat} {L : List Us} {v : Value} {l : List Res} (hn : n = L.length) (h : Hold W (.blk p [v] 65 :: .own 30 20 v n (usC L) :: l)) : Hold W (baseR p L :: l) := by
  subst hn
  exact baseR_shut h
theorem exec_ldAgg {P : Program} {o : Oper} {a : Act} {W : World} {ty : TypeId} {m b off : Nat} {x : Operand} {cs : List Value} (ho : o.op = .load ty x) (hT : AggTy P ty m) (hx : a.eval x = .pointer (some ⟨b, off, none⟩)) (hm : cs.length = m) (hc : CellsAt W b off cs) :
    (execOp a.eval o).run P W = .ok (.value (.agg cs.toArray)) W := by
  have h := run_ldAgg hT hm hc
  unfold execOp
  simp only [ho, hx, Instr.loadAt, Instr.sureAddr, Sem.run_bind, Sem.run_pure, Result.andThen_ok, h]

set_option maxRecDepth 100000 in
theorem baseNew_any (l : List Res) (w : World) (h : Hold w l) : Calls Try.prog 7 #[] w fun e w' => ∃ p, e = .returned (.pointer (some ⟨p, 0, none⟩)) ∧ Hold w' (baseR p [] :: l) := by
  have HC : Hid (Hold (w.alloc (.cells #[.slice none 0 0] 65)) (baseR w.heap.size [] :: l)) := Lib.hid (baseR_shut (L := []) ((h.addNil 30 20).addBlk [.slice none 0 0] 65))
  clear h
  go_enter Try.func7, Try.ntmps7
  go_wp2_with fail
  go_ret
  exact ⟨w.heap.size, rfl, HC.out⟩

/-- Somebody is added. -/
def addU (L : List Us) (u : Us) : List Us × Int :=
  if rightB u.name = false then (L, 6) else if u.life < 1 ∨ 600 < u.life ∨ u.renew < 0 ∨ 6000 < u.renew then (L, 7) else if hasU L u.name = true then (L, 10) else if L.length = 32 then (L, 8) else (insU L u, 0)

set_option maxRecDepth 100000 in
set_option maxHeartbeats 4000000 in
theorem add_any (p : Nat) (L : List Us) (u : Us) (l : List Res) (w : World) (h : Hold w (baseR p L :: l)) (hs : Sorted L) (hl : L.length ≤ 32) (hn : u.name.size ≤ maxLen) :
    Calls Try.prog 10 #[.pointer (some ⟨p, 0, none⟩), .agg u.cells.toArray] w fun e w' => e = .returned (.int .i64 (addU L u).2) ∧ Hold w' (baseR p (addU L u).1 :: l) := by
  obtain ⟨q, hq⟩ : ∃ q, q = w.heap.size := ⟨_, rfl⟩
  have h1 := Lib.hid (h.addBlkAt u.cells 30 hq.symm)
  have HC : Hid (Hold (w.alloc (.cells u.cells.toArray 30)) (baseR p L :: .blk q u.cells 30 :: l)) := Lib.hid h1.out.swap
  have HP := Lib.hid (place_any p L u.name _ _ HC.out hs (by omega))
  have hbq := HC.out.blkOf (p := q) (cs := u.cells) (T := 30) (by simp)
  have c0 := hbq.cell 0
  rw [u.c0] at c0
  have HN := Lib.hid hn
  have HS := Lib.hid hs
  clear h h1 hs hn hbq
  go_enter Try.func10, Try.ntmps10
  rw [hq] at c0 HC
  go_wp2_with fail
  rw [← hq] at c0 HC ⊢
  refine HP.out.mono ?_
  rintro e w1 ⟨rfl, hb⟩
  have HC := Lib.hid (HC.out.step (hb.mono (Nat.le_refl _)))
  have hbq := HC.out.blkOf (p := q) (cs := u.cells) (T := 30) (by simp)
  have c0 := hbq.cell 0
  rw [u.c0] at c0
  clear hb HP hbq hq
  go_wp2_with fail
  refine (right_any u.name _ HN.out).mono ?_
  rintro e w2 ⟨rfl, hb⟩
  have HC := Lib.hid (HC.out.step (hb.mono (Nat.le_refl _)))
  have hbq := HC.out.blkOf (p := q) (cs := u.cells) (T := 30) (by simp)
  have c17 := hbq.cell 17
  have c18 := hbq.cell 18
  rw [u.c17] at c17
  rw [u.c18] at c18
  clear hb hbq c0
  obtain ⟨R, hR⟩ : ∃ R, R = rightB u.name := ⟨_, rfl⟩
  rw [← hR]
  have HR := Lib.hid hR
  clear hR
  cases R with
  | false =>
    have HA : Hid (addU L u = (L, 6)) := Lib.hid (by rw [addU, if_pos HR.out.symm])
    go_wp2_with fail
    go_ret
    rw [HA.out]
    exact ⟨rfl, HC.out.swap.tail⟩
  | true =>
    have HR1 : Hid (¬ rightB u.name = false) := Lib.hid (by rw [← HR.out]; decide)
    by_cases hbad : u.life < 1 ∨ 600 < u.life ∨ u.renew < 0 ∨ 6000 < u.renew
    · have HA : Hid (addU L u = (L, 7)) := Lib.hid (by rw [addU, if_neg HR1.out, if_pos hbad])
      have hsp : u.life < 1 ∨ (¬ u.life < 1 ∧ 600 < u.life) ∨ (¬ u.life < 1 ∧ ¬ 600 < u.life ∧ u.renew < 0) ∨ (¬ u.life < 1 ∧ ¬ 600 < u.life ∧ ¬ u.renew < 0 ∧ 6000 < u.renew) := by omega
      clear hbad
      rcases hsp with h1 | ⟨h1, h2⟩ | ⟨h1, h2, h3⟩ | ⟨h1, h2, h3, h4⟩
      all_goals
        go_wp2_with fail
        go_ret
        rw [HA.out]
        exact ⟨rfl, HC.out.swap.tail⟩
    · have h1 : ¬ u.life < 1 := by omega
      have h2 : ¬ 600 < u.life := by omega
      have h3 : ¬ u.renew < 0 := by omega
      have h4 : ¬ 6000 < u.renew := by omega
      have HBAD := Lib.hid hbad
      clear hbad
      obtain ⟨B, hB⟩ : ∃ B, B = hasU L u.name := ⟨_, rfl⟩
      rw [← hB]
      have HB := Lib.hid hB
      clear hB
      cases B with
      | true =>
        have HA : Hid (addU L u = (L, 10)) := Lib.hid (by rw [addU, if_neg HR1.out, if_neg HBAD.out, if_pos HB.out.symm])
        go_wp2_with fail
        go_ret
        rw [HA.out]
        exact ⟨rfl, HC.out.swap.tail⟩
      | false =>
        have HB1 : Hid (¬ hasU L u.name = true) := Lib.hid (by rw [← HB.out]; decide)
        obtain ⟨a, c, hc, hm, hop⟩ := baseR_open HC.out
        have HO := Lib.hid hop
        have hbp := hop.blkOf (p := p) (cs := [.slice a L.length c]) (T := 65) (by simp)
        have p0 := hbp.cell 0
        simp only [List.getElem?_cons_zero] at p0
        clear hbp hop
        by_cases hfull : L.length = 32
        · have HA : Hid (addU L u = (L, 8)) := Lib.hid (by rw [addU, if_neg HR1.out, if_neg HBAD.out, if_neg HB1.out, if_pos hfull])
          have hf : ((L.length : Int) == 32) = true := by simp; omega
          go_wp2_with fail
          go_ret
          rw [HA.out]
          exact ⟨rfl, HC.out.swap.tail⟩
        · have HA : Hid (addU L u = (insU L u, 0)) := Lib.hid (by rw [addU, if_neg HR1.out, if_neg HBAD.out, if_neg HB1.out, if_neg hfull])
          have hf : ((L.length : Int) == 32) = false := by simp; omega
          clear HC
          go_upto_region 10 with fail
          have HC := Lib.hid HO.out.drew
          refine wp_region_held (S := fun W : World => Blk W q u.cells 30) (by kernel_rfl) ?_
          change wpAnyH _ _ _ _ _ _ _ _ (World.drew _)
          refine wpAnyH_take (i := 0) (oi := { dst := some 47, op := _, type := _, pos := _, after := _, guard := none }) (v := .pointer (some ⟨p, 0, none⟩)) rfl (by kernel_rfl) (by kernel_rfl) (by kernel_rfl) (fun _ _ _ h => h) (Or.inl ⟨by rfl, by intro W hW; go_simp⟩) (HC.out.blkOf (p := q) (cs := u.cells) (T := 30) (by simp)) ?_
          simp only [Act.put, List.setIfInBounds_toArray, List.set_cons_zero, List.set_cons_succ]
          refine wpAnyH_take (i := 1) (oi := { dst := some 48, op := _, type := _, pos := _, after := _, guard := none }) (v := .pointer (some ⟨p, 0, none⟩)) rfl (by kernel_rfl) (by kernel_rfl) (by kernel_rfl) (fun _ _ _ h => h) (Or.inl ⟨by rfl, by intro W hW; go_simp⟩) (HC.out.blkOf (p := q) (cs := u.cells) (T := 30) (by simp)) ?_
          simp only [Act.put, List.setIfInBounds_toArray, List.set_cons_zero, List.set_cons_succ]
          refine wpAnyH_take (i := 2) (oi := { dst := some 49, op := _, type := _, pos := _, after := _, guard := none }) (v := .pointer (some ⟨p, 0, none⟩)) rfl (by kernel_rfl) (by kernel_rfl) (by kernel_rfl) (fun _ _ _ h => h) (Or.inl ⟨by rfl, by intro W hW; go_simp⟩) (HC.out.blkOf (p := q) (cs := u.cells) (T := 30) (by simp)) ?_
          simp only [Act.put, List.setIfInBounds_toArray, List.set_cons_zero, List.set_cons_succ]
          refine wpAnyH_take (i := 3) (oi := { dst := some 50, op := _, type := _, pos := _, after := _, guard := none }) (v := .pointer (some ⟨p, 0, none⟩)) rfl (by kernel_rfl) (by kernel_rfl) (by kernel_rfl) (fun _ _ _ h => h) (Or.inl ⟨by rfl, by intro W hW; go_simp⟩) (HC.out.blkOf (p := q) (cs := u.cells) (T := 30) (by simp)) ?_
          simp only [Act.put, List.setIfInBounds_toArray, List.set_cons_zero, List.set_cons_succ]
          refine wpAnyH_take (i := 5) (oi := { dst := some 52, op := _, type := _, pos := _, after := _, guard := none }) (v := .int .i64 (posU L u.name)) rfl (by kernel_rfl) (by kernel_rfl) (by kernel_rfl) (fun _ _ _ h => h) (Or.inl ⟨by rfl, by intro W hW; go_simp⟩) (HC.out.blkOf (p := q) (cs := u.cells) (T := 30) (by simp)) ?_
          simp only [Act.put, List.setIfInBounds_toArray, List.set_cons_zero, List.set_cons_succ]
          refine wpAnyH_take (i := 6) (oi := { dst := some 53, op := _, type := _, pos := _, after := _, guard := none }) (v := .agg u.cells.toArray) rfl (by kernel_rfl) (by kernel_rfl) (by kernel_rfl) (fun _ _ _ h => h) (Or.inl ⟨by rfl, by intro W hW; exact exec_ldAgg rfl aggUs rfl u.cells_length hW.cellsAll⟩) (HC.out.blkOf (p := q) (cs := u.cells) (T := 30) (by simp)) ?_
          simp only [Act.put, List.setIfInBounds_toArray, List.set_cons_zero, List.set_cons_succ]
          refine anyH_ready (rs := [4, 7]) (by decide +kernel) (by simp) ?_
          refine AllReadyH.cons (o := { dst := some 51, op := .load 62 (.tmp 50), type := _, pos := _, after := _, guard := none }) rfl (fun K hK => ?_) (AllReadyH.cons (o := { dst := some 54, op := .buildSlice 62 1 #[(0, .tmp 53)], type := _, pos := _, after := _, guard := none }) rfl (fun K hK => ?_) AllReadyH.nil)
          · have hkp := HC.out.blkOf (p := p) (cs := [.slice a L.length c]) (T := 65) (by simp)
            have k0 := hkp.cell 0
            simp only [List.getElem?_cons_zero] at k0
            clear hkp
            go_simp
            refine hK _ _ (HC.out.blkOf (p := q) (cs := u.cells) (T := 30) (by simp)) ?_
            clear hK K
            try simp only [Act.put, List.setIfInBounds_toArray, List.set_cons_zero, List.set_cons_succ]
            refine anyH_ready (rs := [7]) (by decide +kernel) (by simp) ?_
            refine AllReadyH.cons (o := { dst := some 54, op := .buildSlice 62 1 #[(0, .tmp 53)], type := _, pos := _, after := _, guard := none }) rfl (fun K hK => ?_) AllReadyH.nil
            refine step_bs1 rfl (.tmp 53) elUs rfl rfl (by simpa using u.cells_length) (by decide) ?_
            obtain ⟨q2, hq2⟩ : ∃ q2, q2 = w2.drew.heap.size := ⟨_, rfl⟩
            have HC := Lib.hid (HC.out.addBlkAt u.cells 30 hq2.symm)
            rw [← hq2]
            obtain ⟨w7, hw7⟩ : ∃ w7, w7 = w2.drew.alloc (.cells u.cells.toArray 30) := ⟨_, rfl⟩
            rw [← hw7] at HC ⊢
            clear hq2 hw7
            refine hK _ _ (HC.out.blkOf (p := q) (cs := u.cells) (T := 30) (by simp)) ?_
            clear hK K
            try simp only [Act.put, List.setIfInBounds_toArray, List.set_cons_zero, List.set_cons_succ]
            refine anyH_ready (rs := [8]) (by decide +kernel) (by simp) ?_
            refine AllReadyH.cons (o := { dst := some 55, op := .call { callee := .value (.func 25), args := #[.tmp 51, .tmp 52, .tmp 54], argTypes := #[62, 3, 62] }, type := _, pos := _, after := _, guard := none }) rfl (fun K hK => ?_) AllReadyH.nil
            go_simp
            refine (insert_any (.slice a L.length c) L u (posU L u.name) q2 _ _ (HC.out.front (m := [_, _, _, _]) (l := l) [2, 0, 1, 3] 4 (by decide)) (posU_le _ _) (by omega)).mono ?_
            rintro e w3 ⟨v', rfl, hc⟩
            obtain ⟨a3, c3, rfl, _, _⟩ := (hc.ownOf (List.mem_cons_self)).1.sl.form
            obtain ⟨n3, hn3⟩ : ∃ n3, n3 = (L.take (posU L u.name) ++ u :: L.drop (posU L u.name)).length := ⟨_, rfl⟩
            rw [← hn3] at hc ⊢
            have HN3 := Lib.hid hn3
            clear hn3
            have HC := Lib.hid (hc.front (m := [_, _, _, _]) (l := l) [2, 0, 3, 1] 4 (by decide))
            clear hc
            refine hK _ _ (HC.out.blkOf (p := q) (cs := u.cells) (T := 30) (by simp)) ?_
            clear hK K
            try simp only [Act.put, List.setIfInBounds_toArray, List.set_cons_zero, List.set_cons_succ]
            refine wpAnyH_take (i := 9) (oi := { dst := some 56, op := _, type := _, pos := _, after := _, guard := none }) (v := .pointer (some ⟨p, 0, none⟩)) rfl (by kernel_rfl) (by kernel_rfl) (by kernel_rfl) (fun _ _ _ h => h) (Or.inl ⟨by rfl, by intro W hW; go_simp⟩) (HC.out.blkOf (p := q) (cs := u.cells) (T := 30) (by simp)) ?_
            simp only [Act.put, List.setIfInBounds_toArray, List.set_cons_zero, List.set_cons_succ]
            refine wpAnyH_take (i := 10) (oi := { dst := some 57, op := _, type := _, pos := _, after := _, guard := none }) (v := .pointer (some ⟨p, 0, none⟩)) rfl (by kernel_rfl) (by kernel_rfl) (by kernel_rfl) (fun _ _ _ h => h) (Or.inl ⟨by rfl, by intro W hW; go_simp⟩) (HC.out.blkOf (p := q) (cs := u.cells) (T := 30) (by simp)) ?_
            simp only [Act.put, List.setIfInBounds_toArray, List.set_cons_zero, List.set_cons_succ]
            refine anyH_ready (rs := [11]) (by decide +kernel) (by simp) ?_
            refine AllReadyH.cons (o := { dst := none, op := .store 62 (.tmp 57) (.tmp 55), type := _, pos := _, after := _, guard := none }) rfl (fun K hK => ?_) AllReadyH.nil
            have hkp := HC.out.blkOf (p := p) (cs := [.slice a L.length c]) (T := 65) (by simp)
            have k0 := hkp.cell 0
            have kf0 := hkp.frozen 0
            simp only [List.getElem?_cons_zero] at k0
            clear hkp
            go_simp
            have HC := Lib.hid (HC.out.set 0 (.slice a3 n3 c3))
            refine hK _ _ (HC.out.blkOf (p := q) (cs := u.cells) (T := 30) (by simp)) ?_
            clear hK K
            try simp only [Act.put, List.setIfInBounds_toArray, List.set_cons_zero, List.set_cons_succ]
            refine wpAnyH_done (by decide +kernel) ?_ _
            go_wp2_with fail
            go_ret
            rw [HA.out]
            have h9 := (HC.out.front (m := [_, _, _, _]) (l := l) [2, 3, 0, 1] 4 (by decide)).tail.tail
            exact ⟨rfl, baseR_shut2 (L := insU L u) HN3.out h9⟩
          · refine step_bs1 rfl (.tmp 53) elUs rfl rfl (by simpa using u.cells_length) (by decide) ?_
            obtain ⟨q2, hq2⟩ : ∃ q2, q2 = w2.drew.heap.size := ⟨_, rfl⟩
            have HC := Lib.hid (HC.out.addBlkAt u.cells 30 hq2.symm)
            rw [← hq2]
            obtain ⟨w7, hw7⟩ : ∃ w7, w7 = w2.drew.alloc (.cells u.cells.toArray 30) := ⟨_, rfl⟩
            rw [← hw7] at HC ⊢
            clear hq2 hw7
            refine hK _ _ (HC.out.blkOf (p := q) (cs := u.cells) (T := 30) (by simp)) ?_
            clear hK K
            try simp only [Act.put, List.setIfInBounds_toArray, List.set_cons_zero, List.set_cons_succ]
            refine anyH_ready (rs := [4]) (by decide +kernel) (by simp) ?_
            refine AllReadyH.cons (o := { dst := some 51, op := .load 62 (.tmp 50), type := _, pos := _, after := _, guard := none }) rfl (fun K hK => ?_) AllReadyH.nil
            have hkp := HC.out.blkOf (p := p) (cs := [.slice a L.length c]) (T := 65) (by simp)
            have k0 := hkp.cell 0
            simp only [List.getElem?_cons_zero] at k0
            clear hkp
            go_simp
            refine hK _ _ (HC.out.blkOf (p := q) (cs := u.cells) (T := 30) (by simp)) ?_
            clear hK K
            try simp only [Act.put, List.setIfInBounds_toArray, List.set_cons_zero, List.set_cons_succ]
            refine anyH_ready (rs := [8]) (by decide +kernel) (by simp) ?_
            refine AllReadyH.cons (o := { dst := some 55, op := .call { callee := .value (.func 25), args := #[.tmp 51, .tmp 52, .tmp 54], argTypes := #[62, 3, 62] }, type := _, pos := _, after := _, guard := none }) rfl (fun K hK => ?_) AllReadyH.nil
            go_simp
            refine (insert_any (.slice a L.length c) L u (posU L u.name) q2 _ _ (HC.out.front (m := [_, _, _, _]) (l := l) [2, 0, 1, 3] 4 (by decide)) (posU_le _ _) (by omega)).mono ?_
            rintro e w3 ⟨v', rfl, hc⟩
            obtain ⟨a3, c3, rfl, _, _⟩ := (hc.ownOf (List.mem_cons_self)).1.sl.form
            obtain ⟨n3, hn3⟩ : ∃ n3, n3 = (L.take (posU L u.name) ++ u :: L.drop (posU L u.name)).length := ⟨_, rfl⟩
            rw [← hn3] at hc ⊢
            have HN3 := Lib.hid hn3
            clear hn3
            have HC := Lib.hid (hc.front (m := [_, _, _, _]) (l := l) [2, 0, 3, 1] 4 (by decide))
            clear hc
            refine hK _ _ (HC.out.blkOf (p := q) (cs := u.cells) (T := 30) (by simp)) ?_
            clear hK K
            try simp only [Act.put, List.setIfInBounds_toArray, List.set_cons_zero, List.set_cons_succ]
            refine wpAnyH_take (i := 9) (oi := { dst := some 56, op := _, type := _, pos := _, after := _, guard := none }) (v := .pointer (some ⟨p, 0, none⟩)) rfl (by kernel_rfl) (by kernel_rfl) (by kernel_rfl) (fun _ _ _ h => h) (Or.inl ⟨by rfl, by intro W hW; go_simp⟩) (HC.out.blkOf (p := q) (cs := u.cells) (T := 30) (by simp)) ?_
            simp only [Act.put, List.setIfInBounds_toArray, List.set_cons_zero, List.set_cons_succ]
            refine wpAnyH_take (i := 10) (oi := { dst := some 57, op := _, type := _, pos := _, after := _, guard := none }) (v := .pointer (some ⟨p, 0, none⟩)) rfl (by kernel_rfl) (by kernel_rfl) (by kernel_rfl) (fun _ _ _ h => h) (Or.inl ⟨by rfl, by intro W hW; go_simp⟩) (HC.out.blkOf (p := q) (cs := u.cells) (T := 30) (by simp)) ?_
            simp only [Act.put, List.setIfInBounds_toArray, List.set_cons_zero, List.set_cons_succ]
            refine anyH_ready (rs := [11]) (by decide +kernel) (by simp) ?_
            refine AllReadyH.cons (o := { dst := none, op := .store 62 (.tmp 57) (.tmp 55), type := _, pos := _, after := _, guard := none }) rfl (fun K hK => ?_) AllReadyH.nil
            have hkp := HC.out.blkOf (p := p) (cs := [.slice a L.length c]) (T := 65) (by simp)
            have k0 := hkp.cell 0
            have kf0 := hkp.frozen 0
            simp only [List.getElem?_cons_zero] at k0
            clear hkp
            go_simp
            have HC := Lib.hid (HC.out.set 0 (.slice a3 n3 c3))
            refine hK _ _ (HC.out.blkOf (p := q) (cs := u.cells) (T := 30) (by simp)) ?_
            clear hK K
            try simp only [Act.put, List.setIfInBounds_toArray, List.set_cons_zero, List.set_cons_succ]
            refine wpAnyH_done (by decide +kernel) ?_ _
            go_wp2_with fail
            go_ret
            rw [HA.out]
            have h9 := (HC.out.front (m := [_, _, _, _]) (l := l) [2, 3, 0, 1] 4 (by decide)).tail.tail
            exact ⟨rfl, baseR_shut2 (L := insU L u) HN3.out h9⟩

theorem zsU_built : Try.prog.built 30 [] = some zsU.toArray := by kernel_rfl
/-- A struct with nothing laid in. -/
theorem wpList_bldU {P : Program} {ops : Array Oper} {rest : List Oper} {o : Oper} {a : Act} {w : World} {Q : Exit → Act → World → Prop} (hgd : Region.wanted o (yielded ops a.tmps) = true) {ty : TypeId} (ho : o.op = .build ty #[]) {cells : Array Value} (hb : P.built ty [] = some cells)
    (h : wpList P ops Q rest (a.put o.dst (.agg cells)) w) : wpList P ops Q (o :: rest) a w := by
  refine wpList_want hgd fun K hK => ?_
  have hr := run_build (P := P) w ty #[] cells hb
  unfold Oper.wp execOp
  simp only [ho, Sem.run_bind, Sem.run_pure, Result.andThen_ok, List.map_toArray, List.map_nil, hr]
  exact hK _ _ h

/-- Somebody goes. -/
def dropU (L : List Us) (s : ByteArray) : List Us × Int := if hasU L s = true then (delU L s, 0) else (L, 9)
set_option maxRecDepth 100000 in
set_option maxHeartbeats 1000000 in
theorem drop_any (p : Nat) (L : List Us) (s : ByteArray) (l : List Res) (w : World) (h : Hold w (baseR p L :: l)) (hs : Sorted L) (hl : L.length ≤ 32) :
    Calls Try.prog 12 #[.pointer (some ⟨p, 0, none⟩), .string s] w fun e w' => e = .returned (.int .i64 (dropU L s).2) ∧ Hold w' (baseR p (dropU L s).1 :: l) := by
  have HP := Lib.hid (place_any p L s _ _ h hs (by omega))
  have HC0 := Lib.hid h
  clear h hs
  go_enter Try.func12, Try.ntmps12
  go_wp2_with fail
  refine HP.out.mono ?_
  rintro e w1 ⟨rfl, hb⟩
  have HC1 := Lib.hid (HC0.out.step hb)
  obtain ⟨a, c, hc, hm, hop⟩ := baseR_open HC1.out
  have HO := Lib.hid hop
  have hbp := hop.blkOf (p := p) (cs := [.slice a L.length c]) (T := 65) (by simp)
  have p0 := hbp.cell 0
  simp only [List.getElem?_cons_zero] at p0
  clear hbp hop hb HP HC0
  obtain ⟨B, hB⟩ : ∃ B, B = hasU L s := ⟨_, rfl⟩
  rw [← hB]
  have HB := Lib.hid hB
  clear hB
  cases B with
  | false =>
    have HA : Hid (dropU L s = (L, 9)) := Lib.hid (by rw [dropU, if_neg (by rw [← HB.out]; decide)])
    go_wp2_with fail
    go_ret
    rw [HA.out]
    exact ⟨rfl, HC1.out⟩
  | true =>
    have HA : Hid (dropU L s = (delU L s, 0)) := Lib.hid (by rw [dropU, if_pos HB.out.symm])
    obtain ⟨hk, -⟩ := hasU_some HB.out.symm
    have HK := Lib.hid hk
    clear HC1
    go_wp2_with fail
    refine (delete_any (.slice a L.length c) L (posU L s) _ _ HO.out.swap HK.out (by omega)).mono ?_
    rintro e w2 ⟨v', rfl, hc2⟩
    obtain ⟨a3, c3, rfl, _, _⟩ := (hc2.ownOf (List.mem_cons_self)).1.sl.form
    have hd : L.take (posU L s) ++ L.drop (posU L s + 1) = delU L s := rfl
    rw [hd] at hc2 ⊢
    obtain ⟨n3, hn3⟩ : ∃ n3, n3 = (delU L s).length := ⟨_, rfl⟩
    rw [← hn3] at hc2 ⊢
    have HN3 := Lib.hid hn3
    have HC := Lib.hid hc2.swap
    have hkp := HC.out.blkOf (p := p) (cs := [.slice a L.length c]) (T := 65) (by simp)
    have k0 := hkp.cell 0
    have kf0 := hkp.frozen 0
    simp only [List.getElem?_cons_zero] at k0
    have HD := Lib.hid (HC.out.set 0 (.slice a3 n3 c3))
    clear hkp hn3 hc2 hd hk
    go_wp2_with fail
    go_ret
    have h9 := HD.out
    rw [HN3.out] at h9
    rw [HA.out]
    exact ⟨rfl, baseR_shut (L := delU L s) (by rw [HN3.out]; exact h9)⟩

/-- Somebody is asked for. -/
def getC (L : List Us) (s : ByteArray) : List Value := if hasU L s = true then (match L[posU L s]? with | some u => u.cells | none => zsU) else zsU
def getE (L : List Us) (s : ByteArray) : Int := if hasU L s = true then 0 else 9
set_option maxRecDepth 100000 in
set_option maxHeartbeats 2000000 in
theorem get_any (p : Nat) (L : List Us) (s : ByteArray) (l : List Res) (w : World) (h : Hold w (baseR p L :: l)) (hs : Sorted L) (hl : L.length ≤ 32) :
    Calls Try.prog 13 #[.pointer (some ⟨p, 0, none⟩), .string s] w fun e w' => e = .returned (.tuple #[.agg (getC L s).toArray, .int .i64 (getE L s)]) ∧ Below w.heap.size w w' := by
  obtain ⟨q, hq⟩ : ∃ q, q = w.heap.size := ⟨_, rfl⟩
  have h1 := Lib.hid (h.addBlkAt zsU 30 hq.symm)
  have HP := Lib.hid (place_any p L s _ _ h1.out.swap hs (by omega))
  have hba : Below w.heap.size w (w.alloc (.cells zsU.toArray 30)) := (Below.refl _ _).alloc (Nat.le_refl _) _
  have HBA := Lib.hid hba
  clear h hs hba
  go_enter Try.func13, Try.ntmps13
  go_wp2_with fail
  rw [← hq]
  refine HP.out.mono ?_
  rintro e w1 ⟨rfl, hb⟩
  have HC1 := Lib.hid (h1.out.swap.step hb)
  have HB1 := Lib.hid (HBA.out.trans (hb.mono HBA.out.size))
  obtain ⟨a, c, hc, hm, hop⟩ := baseR_open HC1.out
  have HSL := Lib.hid (hop.ownOf (e := 30) (sz := 20) (v := .slice a L.length c) (n := L.length) (cs := usC L) (by simp)).1.sl
  have HQ := Lib.hid (hop.blkOf (p := q) (cs := zsU) (T := 30) (by simp))
  have hbp := hop.blkOf (p := p) (cs := [.slice a L.length c]) (T := 65) (by simp)
  have p0 := hbp.cell 0
  simp only [List.getElem?_cons_zero] at p0
  have HQW := Lib.hid hq
  clear hbp hop hb HP h1 HBA hq
  obtain ⟨B, hB⟩ : ∃ B, B = hasU L s := ⟨_, rfl⟩
  rw [← hB]
  have HB := Lib.hid hB
  clear hB
  cases B with
  | false =>
    have HA : Hid (getC L s = zsU ∧ getE L s = 9) := Lib.hid (by unfold getC getE; rw [← HB.out]; exact ⟨rfl, rfl⟩)
    go_wp2_with (first | ((with_reducible show wpList _ _ _ (⟨some 16, _, _, _, _, _⟩ :: _) _ _); refine wpList_bldU rfl rfl zsU_built ?_) | ((with_reducible show wpList _ _ _ (⟨none, .store _ (.tmp 4) (.tmp 16), _, _, _, _⟩ :: _) _ _); refine wpList_stAgg rfl (.tmp 4) (.tmp 16) aggUs rfl rfl (vs := zsU) rfl rfl HQ.out (Nat.le_refl _) zsU_one ?_))
    intro w2 h2 k2
    have H2 : Hid (Blk w2 q zsU 30) := Lib.hid (by simpa [show zsU.drop 20 = [] from rfl] using h2)
    have HB2 := Lib.hid (HB1.out.trans (k2.below (fun k hk => by rw [hk, HQW.out]; exact Nat.le_refl _) |>.mono (Nat.le_refl _)))
    clear h2 k2
    go_wp2_with fail
    rw [HA.out.1, HA.out.2]
    exact bodyPost_ret (results_agg_tmp rfl aggUs rfl (cs := zsU) rfl H2.out.cellsAll) rfl ⟨rfl, HB2.out⟩
  | true =>
    obtain ⟨hk, -⟩ := hasU_some HB.out.symm
    obtain ⟨u, hu⟩ : ∃ u, u = L[posU L s] := ⟨_, rfl⟩
    have HA : Hid (getC L s = u.cells ∧ getE L s = 0) := Lib.hid (by unfold getC getE; rw [← HB.out, List.getElem?_eq_getElem hk, hu]; exact ⟨rfl, rfl⟩)
    obtain ⟨bl, ol, rfl, _⟩ := HSL.out.addr (by rw [usC_length]; omega)
    have hce := usC_cells HSL.out (Below.refl _ _) (posU L s) hk
    rw [← hu] at hce
    have HCE := Lib.hid hce
    obtain ⟨k, hkk⟩ : ∃ k, k = posU L s := ⟨_, rfl⟩
    rw [← hkk] at HCE hk ⊢
    clear hce hu hkk
    go_wp2_with (first | ((with_reducible show wpList _ _ _ (⟨some 23, _, _, _, _, _⟩ :: _) _ _); refine wpList_ldAgg rfl (.tmp 22) aggUs rfl rfl (cs := u.cells) u.cells_length HCE.out ?_) | ((with_reducible show wpList _ _ _ (⟨none, .store _ (.tmp 4) (.tmp 23), _, _, _, _⟩ :: _) _ _); refine wpList_stAgg rfl (.tmp 4) (.tmp 23) aggUs rfl rfl (vs := u.cells) rfl u.cells_length HQ.out (Nat.le_refl _) u.cells_one ?_))
    intro w2 h2 k2
    have H2 : Hid (Blk w2 q u.cells 30) := Lib.hid (by simpa [zsU] using h2)
    have HB2 := Lib.hid (HB1.out.trans (k2.below (fun k hk => by rw [hk, HQW.out]; exact Nat.le_refl _) |>.mono (Nat.le_refl _)))
    clear h2 k2
    go_wp2_with fail
    rw [HA.out.1, HA.out.2]
    exact bodyPost_ret (results_agg_tmp rfl aggUs rfl (cs := u.cells) u.cells_length H2.out.cellsAll) rfl ⟨rfl, HB2.out⟩
end Go.Proofs.Ytclonbojpcgngaa
