/- The laws of cred: agree, walked. -/
import Derived.Test.YtolhphofbkiplaaCredAgree
import Derived.Deep.DeepCutAuto
namespace Go.Proofs.Ytolhphofbkiplaa
set_option linter.unusedSimpArgs false
set_option linter.unusedVariables false
open Go.RowKit Go.Maps Go.MapKept

theorem St.c0 (x : St) : x.cells[0]? = some (.int .i64 x.kind) := rfl
theorem St.c1 (x : St) : x.cells[1]? = some (.string x.cr.srv) := rfl
theorem St.c22 (x : St) (h : x.cr.key.length = 16) : x.cells[22]? = some (.int .i64 x.now) := by
  have hl := Cr.cells_length x.cr h
  unfold St.cells
  rw [List.getElem?_cons_succ, List.getElem?_append_right (by omega), hl]
  rfl
theorem St.ccr (x : St) (h : x.cr.key.length = 16) : (x.cells.drop 1).take 21 = x.cr.cells := by
  have hl := Cr.cells_length x.cr h
  unfold St.cells
  rw [List.drop_succ_cons, List.drop_zero, List.take_append_of_le_length (by omega), List.take_of_length_le (by omega)]

theorem step_bld {P : Program} {ops : Array Oper} {o : Oper} {a : Act} {w : World} {K : Act → World → Prop} {Q : Exit → Act → World → Prop} {E : Prop} (hgd : o.guard = none) {ty : TypeId} (ho : o.op = .build ty #[]) {cells : Array Value} (hb : P.built ty [] = some cells)
    (h : K (a.put o.dst (.agg cells)) w) : if Region.wanted o (yielded ops a.tmps) = true then Oper.wp P o a w K Q else E := by
  have hw : Region.wanted o (yielded ops a.tmps) = true := by simp [Region.wanted, hgd]
  rw [if_pos hw]
  unfold Oper.wp execOp
  have hr := run_build (P := P) w ty #[] cells hb
  simp only [ho, Sem.run_bind, Sem.run_pure, Result.andThen_ok, List.map_toArray, List.map_nil, hr]
  exact h

theorem Blk.keyAt' {w : World} {q : Nat} {c : Cr} {T : TypeId} (h : Blk w q c.cells T) (hk : c.key.length = 16) : CellsAt w q 2 (bCells c.key) := Cr.keyAt h hk

set_option maxHeartbeats 4000000 in
set_option maxRecDepth 100000 in
theorem agree_any (F : Nat → Prop) (p : Nat) (L : List (Option Cr)) (hv : Value) (C : List Cr) (x : St) (w : World) (hst : StoreAt w F p L) (hbx : ∀ c, some c ∈ L → c.box.length ≤ 140737488351232)
    (hm : Mat L (C.map Cr.dat)) (hsl : Sl w 21 hv C.length (C.map Cr.cells).flatten) (hC : ∀ c ∈ C, c.In w) (hx : x.cr.key.length = 16) :
    Calls Try.prog 10 #[.pointer (some ⟨p, 0, none⟩), hv, .agg x.cells.toArray] w fun e w' => e = .returned (.bool true) ∧ Below w.heap.size w w' := by
  obtain ⟨av, cv, rfl, hcv, hmv⟩ := hsl.form
  have hmm := @run_makeMap Try.prog
  have hC16 : C.length ≤ 16 := by
    have h1 := hm.used
    rw [List.length_map] at h1
    have h2 := usedN_le L
    rw [hm.1] at h2
    omega
  have HS := Lib.hid hsl
  have HC := Lib.hid hC
  have HST := Lib.hid hst.tight
  have HM := Lib.hid hm
  have HBX := Lib.hid hbx
  have HX := Lib.hid hx
  have hplt := hst.lt
  have hxl : x.cells.length = 23 := x.cells_length hx
  have HXL := Lib.hid hxl
  unfold maxLen at hmv
  obtain ⟨b, hb⟩ : ∃ b, b = w.heap.size := ⟨_, rfl⟩
  obtain ⟨W1, hW1⟩ : ∃ W1, W1 = w.alloc (.cells x.cells.toArray 35) := ⟨_, rfl⟩
  have hx1 : Blk W1 b x.cells 35 := by rw [hW1, hb]; exact Blk.new w _ _
  have hs1 : W1.heap.size = b + 1 := by rw [hW1, hb]; simp
  have hB1 : Below w.heap.size w W1 := by rw [hW1]; exact (Below.refl _ _).alloc (Nat.le_refl _) _
  have HX1 := Lib.hid hx1
  have HB1 := Lib.hid hB1
  clear hsl hC hst hm hbx hx hxl hx1 hB1
  go_enter Try.func10, Try.ntmps10
  have HZ := Lib.hid zero_cells
  have HN : Hid (Blk ((w.alloc (.cells x.cells.toArray 35)).alloc (.cells zs21.toArray 33)) (w.heap.size + 1) zs21 33) := Lib.hid (by rw [← hW1]; have := Blk.new W1 zs21 33; rwa [hs1, hb] at this)
  go_wp2_with (first | ((with_reducible show wpList _ _ _ (⟨some 18, _, _, _, _, _⟩ :: _) _ _); refine wpList_bld rfl rfl HZ.out ?_) | ((with_reducible show wpList _ _ _ (⟨none, .store _ (.tmp 7) (.tmp 18), _, _, _, _⟩ :: _) _ _); refine wpList_stAgg rfl (.tmp 7) (.tmp 18) aggCred rfl rfl (vs := zs21) rfl rfl HN.out (Nat.le_refl _) zs21_one ?_))
  intro w3 h3 k3
  have h3' : Blk w3 (b + 1) zs21 33 := by rw [hb]; have := h3; simpa [zs21] using this
  have hx3 : Blk w3 b x.cells 35 := by
    have := HX1.out
    rw [hW1] at this
    exact (this.alloc _).keep k3 (by omega)
  have hz3 := k3.size
  simp at hz3
  have hb3 : Below w.heap.size w w3 := (((Below.refl _ _).alloc (Nat.le_refl _) _).alloc (by simp) _).trans (k3.below (by omega))
  rw [← hb] at hz3 hb3 ⊢
  have hpb : p < b := by omega
  have H3 := Lib.hid h3'
  have HX3 := Lib.hid hx3
  have HB3 := Lib.hid hb3
  clear h3 h3' hx3 k3 hb3 HN HX1 HB1 hW1 hs1 hplt
  go_wp2_with fail
  have HM3 := Lib.hid (World.ownsMap_made (H := Unit) w3 Try.prog 31 (plainElem Try.prog 3))
  obtain ⟨B, hBd⟩ : ∃ B, B = w3.heap.size := ⟨_, rfl⟩
  rw [← hBd] at HM3 ⊢
  have hBb : b + 2 ≤ B := by omega
  have HC0 : Hid (Blk (w3.alloc (.map #[] 0)) (b + 1) zs21 33) := Lib.hid (H3.out.alloc _)
  have HX0 : Hid (Blk (w3.alloc (.map #[] 0)) b x.cells 35) := Lib.hid (HX3.out.alloc _)
  have HB0 : Hid (Below b w (w3.alloc (.map #[] 0))) := Lib.hid (HB3.out.alloc (by omega) _)
  clear H3 HX3 HB3 hBd
  subst hb
  go_loopw [8, 22] (fun e i wr => ∃ (k : Nat) (D : DataW Unit), k ≤ C.length ∧ i = .int .i64 k ∧ e = .int .i64 (wantF (C.take k) x.cr.srv x.now).2 ∧ Blk wr (w.heap.size + 1) (wantF (C.take k) x.cr.srv x.now).1.cells 33 ∧ Blk wr w.heap.size x.cells 35 ∧
      wr.ownsMap Try.prog 31 (plainElem Try.prog 3) B k D ∧ Counts D (cnt ((C.take k).map (·.key))) ∧ Below w.heap.size w wr) (fun _ i _ => C.length - (intOf i).toNat)
  case atStart => exact ⟨0, _, Nat.zero_le _, rfl, rfl, HC0.out, HX0.out, HM3.out, ⟨⟨[], rfl⟩, fun kl => rfl⟩, HB0.out⟩
  case round =>
    obtain ⟨k, D, hk, rfl, rfl, hw, hxr, hown, hcnt, hB⟩ := hrel
    have HW := Lib.hid hw
    have HXR := Lib.hid hxr
    have HO := Lib.hid hown
    have HCN := Lib.hid hcnt
    have HBr := Lib.hid hB
    have hzr := hB.size
    have hBlt := hown.lt
    clear hw hxr hown hcnt
    by_cases hlt : k < C.length
    · have hkey : ∀ y ∈ C, y.cells.length = 21 := fun y hy => Cr.cells_length y (HC.out y hy).1
      obtain ⟨bl, ol, rfl, hcell⟩ := HS.out.addr (by rw [HS.out.1]; omega)
      have hca : CellsAt wr bl (ol + k * 21) (C[k]).cells := by
        intro j u hj
        have hj' : j < 21 := by have := (List.getElem?_eq_some_iff.1 hj).1; rw [hkey _ (List.getElem_mem hlt)] at this; exact this
        have := hcell (k * 21 + j) u (by rw [flatC_at (n := 21) Cr.cells C hkey k j hlt hj']; exact hj)
        rw [Nat.add_assoc]
        exact below_cell hB this
      have hki : (k : Int) < C.length := by omega
      have hck := (HC.out _ (List.getElem_mem hlt)).1
      have hcb := (HC.out _ (List.getElem_mem hlt)).2.1
      have hsn := List.take_succ_eq_append_getElem hlt
      have hwn := wantF_snoc (C.take k) C[k] x.cr.srv x.now
      have hkn := cnt_snoc ((C.take k).map (·.key)) (C[k]).key
      rw [← hsn] at hwn
      have hmn : (C.take (k + 1)).map (·.key) = (C.take k).map (·.key) ++ [(C[k]).key] := by rw [hsn, List.map_append]; rfl
      rw [← hmn] at hkn
      generalize hck' : C[k] = c at hca hck hcb hwn hkn
      have hcl := Cr.cells_length c hck
      obtain ⟨ac, cc, hbv, _⟩ := hcb.form
      have hc1 := Cr.one c (by rw [hbv]; rfl)
      have HCA := Lib.hid hca
      have HCK := Lib.hid hck
      have HCL := Lib.hid hcl
      have HC1 := Lib.hid hc1
      have HWN := Lib.hid hwn
      have HKN := Lib.hid hkn
      have HN := Lib.hid (Blk.new wr zs21 33)
      clear hca hck hcb hcl hc1 hwn hkn hsn hmn hck' hcell hkey hbv hB
      go_wp2_with (first | ((with_reducible show wpList _ _ _ (⟨some 25, _, _, _, _, _⟩ :: _) _ _); refine wpList_ldAgg rfl (.tmp 24) aggCred rfl rfl (cs := c.cells) HCL.out HCA.out ?_) | ((with_reducible show wpList _ _ _ (⟨none, .store _ (.tmp 11) (.tmp 25), _, _, _, _⟩ :: _) _ _); refine wpList_stAgg rfl (.tmp 11) (.tmp 25) aggCred rfl rfl (vs := c.cells) rfl HCL.out HN.out (Nat.le_refl _) HC1.out ?_))
      intro w4 h4 k4
      have h4' : Blk w4 wr.heap.size c.cells 33 := by
        have := h4
        simpa [zs21, Cr.cells] using this
      have hz4 := k4.size
      simp at hz4
      have hb4 : Below wr.heap.size wr w4 := ((Below.refl _ _).alloc (Nat.le_refl _) _).trans (k4.below (by omega))
      have H4 := Lib.hid h4'
      have HW4 := Lib.hid (HW.out.below hb4 (by omega))
      have HX4 := Lib.hid (HXR.out.below hb4 (by omega))
      have HO4 := Lib.hid (ownsMap_keep HO.out (Keeps.of_below hb4) (by omega))
      have HB4 : Hid (Below w.heap.size w w4) := Lib.hid (HBr.out.trans (hb4.mono hzr))
      obtain ⟨q, hq⟩ : ∃ q, q = wr.heap.size := ⟨_, rfl⟩
      rw [← hq] at H4 hz4 ⊢
      have hqB : B < q := by omega
      clear h4 h4' k4 hb4 HW HXR HO HN HBr hq
      go_wp2_with fail
      obtain ⟨c0, st, W5, hE, hat, hl1, hl2, ho5, hg5, hset⟩ := own_entry (w := w4.drew) HO4.out.drew keyLaw Try.underlying54 Try.underlying3 keyZero (by unfold maxLen; omega) (keyL_of c.key HCK.out)
      rw [HCN.out.2] at hat
      simp only [DataW.lit.injEq, Lit.int.injEq, true_and] at hat
      subst hat
      have hcl := cnt_le ((C.take k).map (·.key)) (keyL c.key)
      rw [List.length_map, List.length_take] at hcl
      obtain ⟨n, hn⟩ : ∃ n, n = cnt ((C.take k).map (·.key)) (keyL c.key) := ⟨_, rfl⟩
      rw [← hn] at hE hl1 hl2 hcl ho5
      obtain ⟨w6, hs6, ho6, hg6⟩ := hset (n + 1) (by
        simp only [Lit.wf, Bool.and_eq_true, decide_eq_true_eq]
        rw [show IntKind.i64.min = -9223372036854775808 by decide, show IntKind.i64.max = 9223372036854775807 by decide]
        omega)
      have hcnt6 : Counts (D.put (keyL c.key) (.lit (.int .i64 (n + 1)))) (cnt ((C.take (k + 1)).map (·.key))) := by
        have := HCN.out.put c.key (n + 1)
        refine ⟨this.1, fun kl => (this.2 kl).trans ?_⟩
        show DataW.lit (.int .i64 (if isK kl c.key = true then n + 1 else cnt ((C.take k).map (·.key)) kl)) = _
        rw [HKN.out kl]
        split
        · rename_i h
          rw [(isK_iff _ _).1 h] at hn
          rw [hn]
        · rw [Int.add_zero]
      have HCN6 := Lib.hid hcnt6
      have HWR : Hid (IntKind.i64.wrap (n + 1) = n + 1) := Lib.hid (by rw [IntKind.wrap_i64]; omega)
      have HO6 := Lib.hid ho6
      have HG6 := Lib.hid hg6
      have HN' := Lib.hid hn
      have HKC := Lib.hid (H4.out.keyAt' HCK.out)
      have hkl : (bCells c.key).length = 16 := by rw [bCells_length, HCK.out]
      have HKL := Lib.hid hkl
      clear hset hg5 ho5 ho6 hg6 hcnt6 hn hkl hmm HCN HKN
      refine wp_region_any (by kernel_rfl) ?_
      change wpAny _ _ _ _ _ _ _ (World.drew _)
      refine wpAny_take (i := 0) (oi := { dst := some 26, op := _, type := _, pos := _, after := _, guard := none }) (v := .map (some B)) rfl (by kernel_rfl) (by kernel_rfl) (by kernel_rfl) (fun _ _ _ h => h) (Or.inl ⟨by rfl, by intro w; go_simp⟩) ?_
      simp only [Act.put, List.setIfInBounds_toArray, List.set_cons_zero, List.set_cons_succ]
      refine wpAny_take (i := 1) (oi := { dst := some 27, op := _, type := _, pos := _, after := _, guard := none }) (v := .pointer (some ⟨q, 2, none⟩)) rfl (by kernel_rfl) (by kernel_rfl) (by kernel_rfl) (fun _ _ _ h => h) (Or.inl ⟨by rfl, by intro w; go_simp⟩) ?_
      simp only [Act.put, List.setIfInBounds_toArray, List.set_cons_zero, List.set_cons_succ]
      refine wpAny_ready (rs := [2]) (by decide +kernel) (by simp) ?_
      refine AllReady.cons (o := { dst := some 28, op := .load 31 (.tmp 27), type := _, pos := _, after := _, guard := none }) rfl (fun K hK => ?_) AllReady.nil
      refine step_ldAgg rfl (.tmp 27) aggKey rfl (by simp [Act.eval]) HKL.out (HKC.out : CellsAt w4.drew q 2 _) ?_
      refine hK _ _ ?_
      clear hK K
      simp only [Act.put, List.setIfInBounds_toArray, List.set_cons_zero, List.set_cons_succ]
      refine wpAny_ready (rs := [3, 5]) (by decide +kernel) (by simp) ?_
      refine AllReady.cons (o := { dst := some 29, op := .lookup 54 (.tmp 26) (.tmp 28) false, type := _, pos := _, after := _, guard := none }) rfl (fun K hK => ?_) (AllReady.cons (o := { dst := some 31, op := .mapEntry 54 (.tmp 26) (.tmp 28), type := _, pos := _, after := _, guard := none }) rfl (fun K hK => ?_) AllReady.nil)
      case' refine_1 =>
        go_simp
        refine hK _ _ ?_
        clear hK K
        try simp only [Act.put, List.setIfInBounds_toArray, List.set_cons_zero, List.set_cons_succ]
        refine wpAny_take (i := 4) (oi := { dst := some 30, op := _, type := _, pos := _, after := _, guard := none }) (v := .int .i64 (n + 1)) rfl (by kernel_rfl) (by kernel_rfl) (by kernel_rfl) (fun _ _ _ h => h) (Or.inl ⟨by rfl, by intro w; go_simp; exact HWR.out⟩) ?_
        simp only [Act.put, List.setIfInBounds_toArray, List.set_cons_zero, List.set_cons_succ]
        refine wpAny_ready (rs := [5]) (by decide +kernel) (by simp) ?_
        refine AllReady.cons (o := { dst := some 31, op := .mapEntry 54 (.tmp 26) (.tmp 28), type := _, pos := _, after := _, guard := none }) rfl (fun K hK => ?_) AllReady.nil
        go_simp
        refine hK _ _ ?_
        clear hK K
        try simp only [Act.put, List.setIfInBounds_toArray, List.set_cons_zero, List.set_cons_succ]
        refine wpAny_take (i := 6) (oi := { dst := some 32, op := _, type := _, pos := _, after := _, guard := none }) (v := .int .i64 st) rfl (by kernel_rfl) (by kernel_rfl) (by kernel_rfl) (fun _ _ _ h => h) (Or.inl ⟨by rfl, by intro w; go_simp⟩) ?_
        simp only [Act.put, List.setIfInBounds_toArray, List.set_cons_zero, List.set_cons_succ]
        refine wpAny_ready (rs := [7]) (by decide +kernel) (by simp) ?_
        refine AllReady.cons (o := { dst := none, op := .entryStore 54 (.tmp 26) (.tmp 32) (.tmp 30), type := _, pos := _, after := _, guard := none }) rfl (fun K hK => ?_) AllReady.nil
        go_simp
        refine hK _ _ ?_
        clear hK K
        try simp only [Act.put]
        refine wpAny_done (by decide +kernel) ?_ _
      case' refine_2 =>
        go_simp
        refine hK _ _ ?_
        clear hK K
        try simp only [Act.put, List.setIfInBounds_toArray, List.set_cons_zero, List.set_cons_succ]
        refine wpAny_take (i := 6) (oi := { dst := some 32, op := _, type := _, pos := _, after := _, guard := none }) (v := .int .i64 st) rfl (by kernel_rfl) (by kernel_rfl) (by kernel_rfl) (fun _ _ _ h => h) (Or.inl ⟨by rfl, by intro w; go_simp⟩) ?_
        simp only [Act.put, List.setIfInBounds_toArray, List.set_cons_zero, List.set_cons_succ]
        refine wpAny_ready (rs := [3]) (by decide +kernel) (by simp) ?_
        refine AllReady.cons (o := { dst := some 29, op := .lookup 54 (.tmp 26) (.tmp 28) false, type := _, pos := _, after := _, guard := none }) rfl (fun K hK => ?_) AllReady.nil
        go_simp
        refine hK _ _ ?_
        clear hK K
        try simp only [Act.put, List.setIfInBounds_toArray, List.set_cons_zero, List.set_cons_succ]
        refine wpAny_take (i := 4) (oi := { dst := some 30, op := _, type := _, pos := _, after := _, guard := none }) (v := .int .i64 (n + 1)) rfl (by kernel_rfl) (by kernel_rfl) (by kernel_rfl) (fun _ _ _ h => h) (Or.inl ⟨by rfl, by intro w; go_simp; exact HWR.out⟩) ?_
        simp only [Act.put, List.setIfInBounds_toArray, List.set_cons_zero, List.set_cons_succ]
        refine wpAny_ready (rs := [7]) (by decide +kernel) (by simp) ?_
        refine AllReady.cons (o := { dst := none, op := .entryStore 54 (.tmp 26) (.tmp 32) (.tmp 30), type := _, pos := _, after := _, guard := none }) rfl (fun K hK => ?_) AllReady.nil
        go_simp
        refine hK _ _ ?_
        clear hK K
        try simp only [Act.put]
        refine wpAny_done (by decide +kernel) ?_ _
      all_goals
        have hk6 : Keeps (fun k => k = B ∨ w4.heap.size ≤ k) w4 w6 := by
          have h := keeps_grown HG6.out
          exact ⟨h.os, h.tape, h.output, h.size, h.block⟩
        have hz6 := hk6.size
        have hq6 : Blk w6 q c.cells 33 := H4.out.keep hk6 (by omega)
        have hw6 : Blk w6 (w.heap.size + 1) (wantF (C.take k) x.cr.srv x.now).1.cells 33 := HW4.out.keep hk6 (by omega)
        have hx6 : Blk w6 w.heap.size x.cells 35 := HX4.out.keep hk6 (by omega)
        have HB6 : Hid (Below w.heap.size w w6) := Lib.hid (HB4.out.trans (hk6.below (by omega)))
        have z0 : w6.cell? ⟨q, 0, none⟩ = some (.string c.srv) := by rw [hq6.cell]; rfl
        have z19 : w6.cell? ⟨q, 19, none⟩ = some (.int .i64 c.fin) := by rw [hq6.cell]; exact Cr.c19 c HCK.out
        have y1 : w6.cell? ⟨w.heap.size, 1, none⟩ = some (.string x.cr.srv) := by rw [hx6.cell]; rfl
        have y22 : w6.cell? ⟨w.heap.size, 22, none⟩ = some (.int .i64 x.now) := by rw [hx6.cell]; exact x.c22 HX.out
        have HQ6 := Lib.hid hq6
        have HW6 := Lib.hid hw6
        have HX6 := Lib.hid hx6
        clear hk6 hq6 hw6 hx6 hE hl1 hl2 hs6 HG6 HKC H4 HW4 HX4 HO4 HB4 HN' HWR
        by_cases hsv : c.srv = x.cr.srv
        · have hs2 : c.srv.toList = x.cr.srv.toList := by rw [hsv]
          by_cases hf : c.fin ≤ x.now
          · have HWK : Hid (wantF (C.take (k + 1)) x.cr.srv x.now = (Cr.zero, 12)) := Lib.hid (by rw [HWN.out, if_pos hsv, if_pos hf])
            have hwl : (wantF (C.take k) x.cr.srv x.now).1.cells.length = 21 := Cr.cells_length _ (wantF_key (fun y hy => (HC.out y (List.mem_of_mem_take hy)).1))
            clear hsv
            go_wp2_with (first | ((with_reducible show wpList _ _ _ (⟨some 41, _, _, _, _, _⟩ :: _) _ _); refine wpList_ldAgg rfl (.tmp 11) aggCred rfl rfl (cs := c.cells) HCL.out HQ6.out.cellsAll ?_) | ((with_reducible show wpList _ _ _ (⟨none, .store _ (.tmp 7) (.tmp 41), _, _, _, _⟩ :: _) _ _); refine wpList_stAgg rfl (.tmp 7) (.tmp 41) aggCred rfl rfl (vs := c.cells) rfl HCL.out HW6.out (by omega) HC1.out ?_))
            intro w7 h7 k7
            have h7' : Blk w7 (w.heap.size + 1) c.cells 33 := by
              rw [List.drop_of_length_le (by omega), List.append_nil] at h7
              exact h7
            have hz7 := k7.size
            have HQ7 := Lib.hid (HQ6.out.keep k7 (by omega))
            have HX7 := Lib.hid (HX6.out.keep k7 (by omega))
            have HO7 := Lib.hid (ownsMap_keep HO6.out k7 (by omega))
            have HB7 : Hid (Below w.heap.size w w7) := Lib.hid (HB6.out.trans (k7.below (by omega)))
            have H7 := Lib.hid h7'
            have z19' : w7.cell? ⟨q, 19, none⟩ = some (.int .i64 c.fin) := by rw [HQ7.out.cell]; exact Cr.c19 c HCK.out
            have y22' : w7.cell? ⟨w.heap.size, 22, none⟩ = some (.int .i64 x.now) := by rw [HX7.out.cell]; exact x.c22 HX.out
            clear h7 h7' k7 hwl z0 z19 y1 y22 HB6 HO6 HQ6 HX6 HW6
            go_wp2_with (first | ((with_reducible show wpList _ _ _ (⟨some 47, _, _, _, _, _⟩ :: _) _ _); refine wpList_bld rfl rfl HZ.out ?_) | ((with_reducible show wpList _ _ _ (⟨none, .store _ (.tmp 7) (.tmp 47), _, _, _, _⟩ :: _) _ _); refine wpList_stAgg rfl (.tmp 7) (.tmp 47) aggCred rfl rfl (vs := zs21) rfl rfl H7.out (by have := HCL.out; omega) zs21_one ?_))
            intro w8 h8 k8
            have h8' : Blk w8 (w.heap.size + 1) zs21 33 := by
              rw [List.drop_of_length_le (by have := HCL.out; omega), List.append_nil] at h8
              exact h8
            have hz8 := k8.size
            have HX8 := Lib.hid (HX7.out.keep k8 (by omega))
            have HO8 := Lib.hid (ownsMap_keep HO7.out k8 (by omega))
            have HB8 : Hid (Below w.heap.size w w8) := Lib.hid (HB7.out.trans (k8.below (by omega)))
            have H8 := Lib.hid h8'
            clear h8 h8' k8 z19' y22' HX7 HO7 HB7 H7 HQ7
            go_wp2_with fail
            go_roundw
            case rel => exact ⟨k + 1, _, by omega, by go_num, by rw [HWK.out], by rw [HWK.out]; exact H8.out, HX8.out, HO8.out, HCN6.out, HB8.out⟩
            case measure => simp [intOf]; omega
          · have HWK : Hid (wantF (C.take (k + 1)) x.cr.srv x.now = (c, 0)) := Lib.hid (by rw [HWN.out, if_pos hsv, if_neg hf])
            have hwl : (wantF (C.take k) x.cr.srv x.now).1.cells.length = 21 := Cr.cells_length _ (wantF_key (fun y hy => (HC.out y (List.mem_of_mem_take hy)).1))
            clear hsv
            go_wp2_with (first | ((with_reducible show wpList _ _ _ (⟨some 41, _, _, _, _, _⟩ :: _) _ _); refine wpList_ldAgg rfl (.tmp 11) aggCred rfl rfl (cs := c.cells) HCL.out HQ6.out.cellsAll ?_) | ((with_reducible show wpList _ _ _ (⟨none, .store _ (.tmp 7) (.tmp 41), _, _, _, _⟩ :: _) _ _); refine wpList_stAgg rfl (.tmp 7) (.tmp 41) aggCred rfl rfl (vs := c.cells) rfl HCL.out HW6.out (by omega) HC1.out ?_))
            intro w7 h7 k7
            have h7' : Blk w7 (w.heap.size + 1) c.cells 33 := by
              rw [List.drop_of_length_le (by omega), List.append_nil] at h7
              exact h7
            have hz7 := k7.size
            have HQ7 := Lib.hid (HQ6.out.keep k7 (by omega))
            have HX7 := Lib.hid (HX6.out.keep k7 (by omega))
            have HO7 := Lib.hid (ownsMap_keep HO6.out k7 (by omega))
            have HB7 : Hid (Below w.heap.size w w7) := Lib.hid (HB6.out.trans (k7.below (by omega)))
            have H7 := Lib.hid h7'
            have z19' : w7.cell? ⟨q, 19, none⟩ = some (.int .i64 c.fin) := by rw [HQ7.out.cell]; exact Cr.c19 c HCK.out
            have y22' : w7.cell? ⟨w.heap.size, 22, none⟩ = some (.int .i64 x.now) := by rw [HX7.out.cell]; exact x.c22 HX.out
            clear h7 h7' k7 hwl z0 z19 y1 y22 HB6 HO6 HQ6 HX6 HW6
            go_wp2_with fail
            go_roundw
            case rel => exact ⟨k + 1, _, by omega, by go_num, by rw [HWK.out], by rw [HWK.out]; exact H7.out, HX7.out, HO7.out, HCN6.out, HB7.out⟩
            case measure => simp [intOf]; omega
        · have hs2 : ¬ c.srv.toList = x.cr.srv.toList := fun e => hsv ((bytes_toList_inj _ _).1 e)
          have hs3 : (c.srv.toList == x.cr.srv.toList) = false := by simpa using hs2
          have HWK : Hid (wantF (C.take (k + 1)) x.cr.srv x.now = wantF (C.take k) x.cr.srv x.now) := Lib.hid (by rw [HWN.out, if_neg hsv])
          clear hsv hs2 z19 y22
          go_wp2_with fail
          go_roundw
          case rel => exact ⟨k + 1, _, by omega, by go_num, by rw [HWK.out], by rw [HWK.out]; exact HW6.out, HX6.out, HO6.out, HCN6.out, HB6.out⟩
          case measure => simp [intOf]; omega
    · obtain rfl : k = C.length := by omega
      rw [List.take_length] at HW HCN
      rw [List.take_length]
      have hst := HST.out.below hB
      have HSTr := Lib.hid hst
      have hbs : Bs wr (wantF C x.cr.srv x.now).1.bv (wantF C x.cr.srv x.now).1.box := wantF_bs (fun c hc => (HC.out c hc).2.1.below hB)
      have hwk : (wantF C x.cr.srv x.now).1.key.length = 16 := wantF_key (fun y hy => (HC.out y hy).1)
      have hwg : ∀ (w' : World) (B : Nat) (c' : Cr) (e : Int), GetRes w' B L x.now x.cr.srv c' e → e = (wantF C x.cr.srv x.now).2 ∧ c'.dat = (wantF C x.cr.srv x.now).1.dat := fun _ _ _ _ h => want_get HM.out h
      have HWG := Lib.hid hwg
      obtain ⟨y, hy⟩ : ∃ y, y = (wantF C x.cr.srv x.now).1 := ⟨_, rfl⟩
      obtain ⟨e0, he0⟩ : ∃ e0, e0 = (wantF C x.cr.srv x.now).2 := ⟨_, rfl⟩
      rw [← hy] at hbs hwk HW
      rw [← hy, ← he0] at HWG
      rw [← he0]
      have HBS := Lib.hid hbs
      have HWK := Lib.hid hwk
      have y1 : wr.cell? ⟨w.heap.size, 1, none⟩ = some (.string x.cr.srv) := by rw [HXR.out.cell]; rfl
      have y22 : wr.cell? ⟨w.heap.size, 22, none⟩ = some (.int .i64 x.now) := by rw [HXR.out.cell]; exact x.c22 HX.out
      clear hst hbs hwk hwg hy he0 hB HXR HS
      go_wp2_with fail
      refine (credGet_any _ p L x.now x.cr.srv wr HSTr.out HBX.out).mono ?_
      rintro e w5 ⟨x5, e5, rfl, hr5, hb5⟩
      obtain ⟨rfl, hdat⟩ := HWG.out _ _ _ _ hr5
      have hz5 := hb5.size
      have hx5l := Cr.cells_length x5 hr5.1
      have HX5L := Lib.hid hx5l
      have HX51 := Lib.hid hr5.one
      have HX5B := Lib.hid hr5.2.1
      have HX5K := Lib.hid hr5.1
      have HDAT := Lib.hid hdat
      have HST5 := Lib.hid (HSTr.out.below hb5)
      have HW5 := Lib.hid (HW.out.below hb5 (by omega))
      have HO5 := Lib.hid (ownsMap_keep HO.out (Keeps.of_below hb5) (by omega))
      have HB5 : Hid (Below w.heap.size w w5) := Lib.hid (HBr.out.trans (hb5.mono hzr))
      have HBS5 := Lib.hid (HBS.out.below hb5)
      have HN5 := Lib.hid (Blk.new w5 zs21 33)
      clear hr5 hb5 hx5l hdat y1 y22 HSTr HW HO HBr HBS HWG
      go_wp2_with ((with_reducible show wpList _ _ _ (⟨none, .store _ (.tmp 12) (.tmp 58), _, _, _, _⟩ :: _) _ _); refine wpList_stAgg rfl (.tmp 12) (.tmp 58) aggCred rfl rfl (vs := x5.cells) rfl HX5L.out HN5.out (Nat.le_refl _) HX51.out ?_)
      intro w6 h6 k6
      have h6' : Blk w6 w5.heap.size x5.cells 33 := by
        have := h6
        simpa [zs21, Cr.cells] using this
      have hz6 := k6.size
      simp at hz6
      have hb56 : Below w5.heap.size w5 w6 := ((Below.refl _ _).alloc (Nat.le_refl _) _).trans (k6.below (by omega))
      have HST6 := Lib.hid (HST5.out.below hb56)
      have HW6 := Lib.hid (HW5.out.below hb56 (by omega))
      have HO6 := Lib.hid (ownsMap_keep HO5.out (Keeps.of_below hb56) (by omega))
      have HB6 : Hid (Below w.heap.size w w6) := Lib.hid (HB5.out.trans (hb56.mono (by omega)))
      have HSAME := Lib.hid (credSame_any x5 y w6 HDAT.out HX5K.out (HX5B.out.below hb56) (HBS5.out.below hb56))
      have H6 := Lib.hid h6'
      have hyl := Cr.cells_length y HWK.out
      have HYL := Lib.hid hyl
      obtain ⟨q, hq⟩ : ∃ q, q = w5.heap.size := ⟨_, rfl⟩
      rw [← hq] at H6 hz6 ⊢
      have hqB : B < q := by omega
      have hzw6 : w.heap.size ≤ w6.heap.size := by omega
      clear h6 h6' k6 hb56 hyl HST5 HW5 HO5 HB5 HBS5 HN5 hq
      have hus : usedN L = C.length := by have := HM.out.used; rwa [List.length_map] at this
      have HUS := Lib.hid hus
      clear hus
      go_wp2_with (first | ((with_reducible show wpList _ _ _ (⟨some 64, _, _, _, _, _⟩ :: _) _ _); refine wpList_ldAgg rfl (.tmp 12) aggCred rfl rfl (cs := x5.cells) HX5L.out H6.out.cellsAll ?_) | ((with_reducible show wpList _ _ _ (⟨some 65, _, _, _, _, _⟩ :: _) _ _); refine wpList_ldAgg rfl (.tmp 7) aggCred rfl rfl (cs := y.cells) HYL.out HW6.out.cellsAll ?_))
      refine HSAME.out.mono ?_
      rintro e w7 ⟨rfl, hb7⟩
      have hz7 := hb7.size
      have HST7 := Lib.hid (HST6.out.below hb7)
      have HO7 := Lib.hid (ownsMap_keep HO6.out (Keeps.of_below hb7) (by omega))
      have HB7 : Hid (Below w.heap.size w w7) := Lib.hid (HB6.out.trans (hb7.mono (by omega)))
      clear hb7 HSAME HST6 HO6 HB6 HW6 H6
      go_wp2_with fail
      refine (credLen_any _ p L w7 HST7.out).mono ?_
      rintro e w8 ⟨rfl, rfl⟩
      rw [HUS.out]
      go_wp2_with fail
      refine (credKeys_any _ p L w7 HST7.out).mono ?_
      rintro e w8 ⟨v8, rfl, ho8, hb8⟩
      obtain ⟨a8, c8, rfl, hc8, hm8⟩ := ho8.sl.form
      have hz8 := hb8.size
      have HST8 := Lib.hid (HST7.out.below hb8)
      have HO8 := Lib.hid (ownsMap_keep HO7.out (Keeps.of_below hb8) (by omega))
      have HB8 : Hid (Below w.heap.size w w8) := Lib.hid (HB7.out.trans (hb8.mono (by omega)))
      unfold maxLen at hm8
      clear hb8 ho8 HST7 HO7 HB7
      go_wp2_with fail
      obtain ⟨c0, st, W9, hE, hat, hl1, hl2, ho9, hg9, hset⟩ := own_entry (w := w8.drew) HO8.out.drew keyLaw Try.underlying54 Try.underlying3 keyZero (by unfold maxLen; omega) (keyL_of (List.replicate 16 0) rfl)
      rw [HCN.out.2] at hat
      simp only [DataW.lit.injEq, Lit.int.injEq, true_and] at hat
      subst hat
      have hcl := cnt_le (C.map (·.key)) (keyL (List.replicate 16 0))
      rw [List.length_map] at hcl
      obtain ⟨n, hn⟩ : ∃ n, n = cnt (C.map (·.key)) (keyL (List.replicate 16 0)) := ⟨_, rfl⟩
      rw [← hn] at hE hl1 hl2 hcl ho9
      obtain ⟨w9, hs9, ho9', hg9'⟩ := hset (n + (16 - C.length)) (by
        simp only [Lit.wf, Bool.and_eq_true, decide_eq_true_eq]
        rw [show IntKind.i64.min = -9223372036854775808 by decide, show IntKind.i64.max = 9223372036854775807 by decide]
        omega)
      have hcnt9 : Counts (D.put (keyL (List.replicate 16 0)) (.lit (.int .i64 (n + (16 - C.length))))) (fun kl => cnt (keysB L) kl) := by
        have := HCN.out.put (List.replicate 16 0) (n + (16 - C.length))
        refine ⟨this.1, fun kl => (this.2 kl).trans ?_⟩
        show DataW.lit (.int .i64 (if isK kl (List.replicate 16 0) = true then n + (16 - C.length) else cnt (C.map (·.key)) kl)) = DataW.lit (.int .i64 (cnt (keysB L) kl))
        rw [mat_keys HM.out kl]
        split
        · rename_i h
          rw [(isK_iff _ _).1 h] at hn
          rw [hn]
        · rw [Int.add_zero]
      have HCN9 := Lib.hid hcnt9
      have HWR1 : Hid (IntKind.i64.wrap (16 - (C.length : Int)) = 16 - (C.length : Int)) := Lib.hid (by rw [IntKind.wrap_i64]; omega)
      have HWR : Hid (IntKind.i64.wrap (n + (16 - (C.length : Int))) = n + (16 - (C.length : Int))) := Lib.hid (by rw [IntKind.wrap_i64]; omega)
      have HO9 := Lib.hid ho9'
      have HG9 := Lib.hid hg9'
      have HBK : Hid (Try.prog.built 31 [] = some (bCells (List.replicate 16 0)).toArray) := Lib.hid (by kernel_rfl)
      obtain ⟨zk, hzk⟩ : ∃ zk, zk = bCells (List.replicate 16 0) := ⟨_, rfl⟩
      rw [← hzk] at hE hl1 hl2 HBK
      clear hset hg9 ho9 ho9' hg9' hcnt9 hn hmm HCN hzk HO8
      refine wp_region_any (by kernel_rfl) ?_
      change wpAny _ _ _ _ _ _ _ (World.drew _)
      refine wpAny_take (i := 0) (oi := { dst := some 82, op := _, type := _, pos := _, after := _, guard := none }) (v := .map (some B)) rfl (by kernel_rfl) (by kernel_rfl) (by kernel_rfl) (fun _ _ _ h => h) (Or.inl ⟨by rfl, by intro w; go_simp⟩) ?_
      simp only [Act.put, List.setIfInBounds_toArray, List.set_cons_zero, List.set_cons_succ]
      refine wpAny_take (i := 3) (oi := { dst := some 85, op := _, type := _, pos := _, after := _, guard := none }) (v := .slice av C.length cv) rfl (by kernel_rfl) (by kernel_rfl) (by kernel_rfl) (fun _ _ _ h => h) (Or.inl ⟨by rfl, by intro w; go_simp⟩) ?_
      simp only [Act.put, List.setIfInBounds_toArray, List.set_cons_zero, List.set_cons_succ]
      refine wpAny_take (i := 4) (oi := { dst := some 86, op := _, type := _, pos := _, after := _, guard := none }) (v := .int .i64 C.length) rfl (by kernel_rfl) (by kernel_rfl) (by kernel_rfl) (fun _ _ _ h => h) (Or.inl ⟨by rfl, by intro w; go_simp⟩) ?_
      simp only [Act.put, List.setIfInBounds_toArray, List.set_cons_zero, List.set_cons_succ]
      refine wpAny_take (i := 5) (oi := { dst := some 87, op := _, type := _, pos := _, after := _, guard := none }) (v := .int .i64 (16 - C.length)) rfl (by kernel_rfl) (by kernel_rfl) (by kernel_rfl) (fun _ _ _ h => h) (Or.inl ⟨by rfl, by intro w; go_simp; exact HWR1.out⟩) ?_
      simp only [Act.put, List.setIfInBounds_toArray, List.set_cons_zero, List.set_cons_succ]
      refine wpAny_ready (rs := [1]) (by decide +kernel) (by simp) ?_
      refine AllReady.cons (o := { dst := some 83, op := .build 31 #[], type := _, pos := _, after := _, guard := none }) rfl (fun K hK => ?_) AllReady.nil
      refine step_bld rfl rfl HBK.out ?_
      refine hK _ _ ?_
      clear hK K
      try simp only [Act.put, List.setIfInBounds_toArray, List.set_cons_zero, List.set_cons_succ]
      refine wpAny_ready (rs := [2, 7]) (by decide +kernel) (by simp) ?_
      refine AllReady.cons (o := { dst := some 84, op := .lookup 54 (.tmp 82) (.tmp 83) false, type := _, pos := _, after := _, guard := none }) rfl (fun K hK => ?_) (AllReady.cons (o := { dst := some 89, op := .mapEntry 54 (.tmp 82) (.tmp 83), type := _, pos := _, after := _, guard := none }) rfl (fun K hK => ?_) AllReady.nil)
      case' refine_1 =>
        go_simp
        refine hK _ _ ?_
        clear hK K
        try simp only [Act.put, List.setIfInBounds_toArray, List.set_cons_zero, List.set_cons_succ]
        refine wpAny_take (i := 6) (oi := { dst := some 88, op := _, type := _, pos := _, after := _, guard := none }) (v := .int .i64 (n + (16 - C.length))) rfl (by kernel_rfl) (by kernel_rfl) (by kernel_rfl) (fun _ _ _ h => h) (Or.inl ⟨by rfl, by intro w; go_simp; exact HWR.out⟩) ?_
        simp only [Act.put, List.setIfInBounds_toArray, List.set_cons_zero, List.set_cons_succ]
        refine wpAny_ready (rs := [7]) (by decide +kernel) (by simp) ?_
        refine AllReady.cons (o := { dst := some 89, op := .mapEntry 54 (.tmp 82) (.tmp 83), type := _, pos := _, after := _, guard := none }) rfl (fun K hK => ?_) AllReady.nil
        go_simp
        refine hK _ _ ?_
        clear hK K
        try simp only [Act.put, List.setIfInBounds_toArray, List.set_cons_zero, List.set_cons_succ]
        refine wpAny_take (i := 8) (oi := { dst := some 90, op := _, type := _, pos := _, after := _, guard := none }) (v := .int .i64 st) rfl (by kernel_rfl) (by kernel_rfl) (by kernel_rfl) (fun _ _ _ h => h) (Or.inl ⟨by rfl, by intro w; go_simp⟩) ?_
        simp only [Act.put, List.setIfInBounds_toArray, List.set_cons_zero, List.set_cons_succ]
        refine wpAny_ready (rs := [9]) (by decide +kernel) (by simp) ?_
        refine AllReady.cons (o := { dst := none, op := .entryStore 54 (.tmp 82) (.tmp 90) (.tmp 88), type := _, pos := _, after := _, guard := none }) rfl (fun K hK => ?_) AllReady.nil
        go_simp
        refine hK _ _ ?_
        clear hK K
        try simp only [Act.put, List.setIfInBounds_toArray, List.set_cons_zero, List.set_cons_succ]
        refine wpAny_done (by decide +kernel) ?_ _
      case' refine_2 =>
        go_simp
        refine hK _ _ ?_
        clear hK K
        try simp only [Act.put, List.setIfInBounds_toArray, List.set_cons_zero, List.set_cons_succ]
        refine wpAny_take (i := 8) (oi := { dst := some 90, op := _, type := _, pos := _, after := _, guard := none }) (v := .int .i64 st) rfl (by kernel_rfl) (by kernel_rfl) (by kernel_rfl) (fun _ _ _ h => h) (Or.inl ⟨by rfl, by intro w; go_simp⟩) ?_
        simp only [Act.put, List.setIfInBounds_toArray, List.set_cons_zero, List.set_cons_succ]
        refine wpAny_ready (rs := [2]) (by decide +kernel) (by simp) ?_
        refine AllReady.cons (o := { dst := some 84, op := .lookup 54 (.tmp 82) (.tmp 83) false, type := _, pos := _, after := _, guard := none }) rfl (fun K hK => ?_) AllReady.nil
        go_simp
        refine hK _ _ ?_
        clear hK K
        try simp only [Act.put, List.setIfInBounds_toArray, List.set_cons_zero, List.set_cons_succ]
        refine wpAny_take (i := 6) (oi := { dst := some 88, op := _, type := _, pos := _, after := _, guard := none }) (v := .int .i64 (n + (16 - C.length))) rfl (by kernel_rfl) (by kernel_rfl) (by kernel_rfl) (fun _ _ _ h => h) (Or.inl ⟨by rfl, by intro w; go_simp; exact HWR.out⟩) ?_
        simp only [Act.put, List.setIfInBounds_toArray, List.set_cons_zero, List.set_cons_succ]
        refine wpAny_ready (rs := [9]) (by decide +kernel) (by simp) ?_
        refine AllReady.cons (o := { dst := none, op := .entryStore 54 (.tmp 82) (.tmp 90) (.tmp 88), type := _, pos := _, after := _, guard := none }) rfl (fun K hK => ?_) AllReady.nil
        go_simp
        refine hK _ _ ?_
        clear hK K
        try simp only [Act.put, List.setIfInBounds_toArray, List.set_cons_zero, List.set_cons_succ]
        refine wpAny_done (by decide +kernel) ?_ _
      all_goals
        have hk9 : Keeps (fun k => k = B ∨ w8.heap.size ≤ k) w8 w9 := by
          have h := keeps_grown HG9.out
          exact ⟨h.os, h.tape, h.output, h.size, h.block⟩
        have hz9 := hk9.size
        have HST9 := Lib.hid (HST8.out.keep hk9 (S := fun k => k = B ∨ w8.heap.size ≤ k) (fun j hj hl => by have := hj.2; omega))
        have HB9 : Hid (Below w.heap.size w w9) := Lib.hid (HB8.out.trans (hk9.below (by omega)))
        clear hk9 hE hl1 hl2 hs9 HG9 HST8 HB8 HWR HWR1 HBK
        go_wp2_with fail
        refine (credKeys_any _ p L w9 HST9.out).mono ?_
        rintro e wa ⟨va, rfl, hoa, hba⟩
        obtain ⟨ga, ca, rfl, hga, hca, hma⟩ : ∃ g cap, va = .slice (some ⟨g, 0, none⟩) 16 cap ∧ w9.heap.size ≤ g ∧ 16 ≤ cap ∧ cap ≤ maxLen := by
          obtain ⟨_, _, ⟨a, _, h⟩ | ⟨g, cap, cur, h1, h2, h3, h4, h5, h6, _⟩⟩ := hoa
          · omega
          · exact ⟨g, cap, h1, h2, h4, h5⟩
        have hza := hba.size
        have HSA := Lib.hid hoa.sl
        have HOA := Lib.hid (ownsMap_keep HO9.out (Keeps.of_below hba) (by omega))
        have HBA : Hid (Below w.heap.size w wa) := Lib.hid (HB9.out.trans (hba.mono (by omega)))
        have hkb : (keysB L).length = 16 := by rw [keysB, List.length_map]; exact HM.out.1
        have hkb2 : ∀ k ∈ keysB L, k.length = 16 := by
          intro k hk
          obtain ⟨o, ho, rfl⟩ := List.mem_map.1 hk
          exact slC_key (fun c hc => (HST9.out.2.2.2 c hc).1) o ho
        have HKB := Lib.hid hkb
        have HKB2 := Lib.hid hkb2
        unfold maxLen at hma
        clear hba hoa HST9 HO9 HB9 hkb hkb2
        generalize (D.put (keyL (List.replicate 16 0)) (DataW.lit (Lit.int IntKind.i64 (n + (16 - ↑C.length))))) = D9 at HOA HCN9
        generalize hKS : keysB L = KS at HSA HKB HKB2 HCN9
        have HKS := Lib.hid hKS
        clear hKS hcl
        go_wp2_with fail
        go_loopw [94] (fun i wr => ∃ (k : Nat) (D : DataW Unit), k ≤ 16 ∧ i = .int .i64 k ∧ wr.ownsMap Try.prog 31 (plainElem Try.prog 3) B (C.length + 1 + k) D ∧ Counts D (fun kl => cnt KS kl - cnt (KS.take k) kl) ∧ Keeps (fun j => j = B ∨ wa.heap.size ≤ j) wa wr) (fun i _ => 16 - (intOf i).toNat)
        case atStart => exact ⟨0, D9, by omega, rfl, HOA.out, by simpa [cnt_nil] using HCN9.out, Keeps.refl _ _⟩
        case round =>
          obtain ⟨k, D, hk6, rfl, hown, hcnt, hkp⟩ := hrel
          have HO := Lib.hid hown
          have HCN := Lib.hid hcnt
          have HKP := Lib.hid hkp
          have hzr2 := hkp.size
          clear hown hcnt hkp
          by_cases hk16 : k < 16
          · have hki : (k : Int) < 16 := by omega
            have hkl : k < KS.length := by have := HKB.out; omega
            have hsn := List.take_succ_eq_append_getElem hkl
            have hkn := cnt_snoc (KS.take k) KS[k]
            rw [← hsn] at hkn
            have hle : ∀ kl, 0 ≤ cnt KS kl ∧ cnt KS kl ≤ 16 ∧ 0 ≤ cnt (KS.take k) kl ∧ cnt (KS.take k) kl ≤ 16 := by
              intro kl
              have h1 := cnt_le KS kl
              have h2 := cnt_le (KS.take k) kl
              rw [List.length_take] at h2
              have h3 := HKB.out
              omega
            have hky : KS[k].length = 16 := HKB2.out _ (List.getElem_mem hkl)
            have hca : CellsAt wr ga (k * 16) (bCells KS[k]) := by
              intro j u hj
              have hj' : j < 16 := by have := (List.getElem?_eq_some_iff.1 hj).1; rw [bCells_length, hky] at this; exact this
              obtain ⟨b, off, e, hcell⟩ := Sl.addr HSA.out (by rw [HSA.out.1]; decide)
              simp only [Option.some.injEq, Addr.mk.injEq, and_true] at e
              obtain ⟨rfl, rfl⟩ := e
              have := hcell (k * 16 + j) u (by rw [ksC, flatC_at (n := 16) bCells KS (fun x hx => by rw [bCells_length]; exact HKB2.out x hx) k j hkl hj']; exact hj)
              rw [Nat.zero_add] at this
              exact (HKP.out.cell (p := ⟨ga, k * 16 + j, none⟩) (by have := World.block_lt_of_cell? wa _ this; simp at this; simp; omega)).trans this
            generalize KS[k] = key at hkn hky hca
            have hkc : (bCells key).length = 16 := by rw [bCells_length, hky]
            have HKN := Lib.hid hkn
            have HKY := Lib.hid hky
            have HCA := Lib.hid hca
            have HKC := Lib.hid hkc
            have HLE := Lib.hid hle
            have HN := Lib.hid (Blk.new wr zs16 31)
            clear hsn hkn hky hca hkc hle hkl
            go_wp2_with (first | ((with_reducible show wpList _ _ _ (⟨some 97, _, _, _, _, _⟩ :: _) _ _); refine wpList_ldAgg rfl (.tmp 96) aggKey rfl rfl (cs := bCells key) HKC.out HCA.out ?_) | ((with_reducible show wpList _ _ _ (⟨none, .store _ (.tmp 15) (.tmp 97), _, _, _, _⟩ :: _) _ _); refine wpList_stAgg rfl (.tmp 15) (.tmp 97) aggKey rfl rfl (vs := bCells key) rfl HKC.out HN.out (Nat.le_refl _) (bCells_one _) ?_))
            intro wb hb kb
            have hb' : Blk wb wr.heap.size (bCells key) 31 := by
              rw [List.drop_of_length_le (by decide), List.append_nil] at hb
              exact hb
            have hzb := kb.size
            simp at hzb
            have hbb : Below wr.heap.size wr wb := ((Below.refl _ _).alloc (Nat.le_refl _) _).trans (kb.below (by omega))
            have HB' := Lib.hid hb'
            have hltB := HO.out.lt
            have HOb := Lib.hid (ownsMap_keep HO.out (Keeps.of_below hbb) (by omega))
            have HKPb : Hid (Keeps (fun j => j = B ∨ wa.heap.size ≤ j) wa wb) := Lib.hid (HKP.out.trans ((Keeps.of_below hbb).mono (fun j hj => by omega)))
            obtain ⟨r, hr⟩ : ∃ r, r = wr.heap.size := ⟨_, rfl⟩
            rw [← hr] at HB' hzb ⊢
            have hrB : B < r := by omega
            have hra : wa.heap.size ≤ r := by omega
            clear hb hb' kb hbb HN HCA HO HKP hr
            go_wp2_with fail
            obtain ⟨c0, st, Wc, hE, hat, hl1, hl2, hoc, hgc, hset⟩ := own_entry (w := wb.drew) HOb.out.drew keyLaw Try.underlying54 Try.underlying3 keyZero (by unfold maxLen; omega) (keyL_of key HKY.out)
            rw [HCN.out.2] at hat
            simp only [DataW.lit.injEq, Lit.int.injEq, true_and] at hat
            subst hat
            have hcl := HLE.out (keyL key)
            obtain ⟨m, hm⟩ : ∃ m, m = cnt KS (keyL key) - cnt (KS.take k) (keyL key) := ⟨_, rfl⟩
            rw [← hm] at hE hl1 hl2 hoc
            obtain ⟨wd, hsd, hod, hgd⟩ := hset (m - 1) (by
              simp only [Lit.wf, Bool.and_eq_true, decide_eq_true_eq]
              rw [show IntKind.i64.min = -9223372036854775808 by decide, show IntKind.i64.max = 9223372036854775807 by decide]
              omega)
            have hcntd : Counts (D.put (keyL key) (.lit (.int .i64 (m - 1)))) (fun kl => cnt KS kl - cnt (KS.take (k + 1)) kl) := by
              have := HCN.out.put key (m - 1)
              refine ⟨this.1, fun kl => (this.2 kl).trans ?_⟩
              show DataW.lit (.int .i64 (if isK kl key = true then m - 1 else cnt KS kl - cnt (KS.take k) kl)) = DataW.lit (.int .i64 (cnt KS kl - cnt (KS.take (k + 1)) kl))
              rw [HKN.out kl]
              split
              · rename_i h
                rw [(isK_iff _ _).1 h] at hm
                rw [hm]
                congr 2
                omega
              · rw [Int.add_zero]
            have HCNd := Lib.hid hcntd
            have HWR : Hid (IntKind.i64.wrap (m - 1) = m - 1) := Lib.hid (by rw [IntKind.wrap_i64]; omega)
            have HOd := Lib.hid hod
            have HGd := Lib.hid hgd
            clear hset hgc hoc hod hgd hcntd hm HCN HKN hcl
            generalize (D.put (keyL key) (DataW.lit (Lit.int IntKind.i64 (m - 1)))) = Dd at HOd HCNd
            refine wp_region_any (by kernel_rfl) ?_
            change wpAny _ _ _ _ _ _ _ (World.drew _)
            refine wpAny_take (i := 0) (oi := { dst := some 98, op := _, type := _, pos := _, after := _, guard := none }) (v := .map (some B)) rfl (by kernel_rfl) (by kernel_rfl) (by kernel_rfl) (fun _ _ _ h => h) (Or.inl ⟨by rfl, by intro w; go_simp⟩) ?_
            simp only [Act.put, List.setIfInBounds_toArray, List.set_cons_zero, List.set_cons_succ]
            refine wpAny_ready (rs := [1]) (by decide +kernel) (by simp) ?_
            refine AllReady.cons (o := { dst := some 99, op := .load 31 (.tmp 15), type := _, pos := _, after := _, guard := none }) rfl (fun K hK => ?_) AllReady.nil
            refine step_ldAgg rfl (.tmp 15) aggKey rfl (by simp [Act.eval]) HKC.out ((HB'.out.cellsAll : CellsAt wb r 0 _) : CellsAt wb.drew r 0 _) ?_
            refine hK _ _ ?_
            clear hK K
            try simp only [Act.put, List.setIfInBounds_toArray, List.set_cons_zero, List.set_cons_succ]
            refine wpAny_ready (rs := [2, 4]) (by decide +kernel) (by simp) ?_
            refine AllReady.cons (o := { dst := some 100, op := .lookup 54 (.tmp 98) (.tmp 99) false, type := _, pos := _, after := _, guard := none }) rfl (fun K hK => ?_) (AllReady.cons (o := { dst := some 102, op := .mapEntry 54 (.tmp 98) (.tmp 99), type := _, pos := _, after := _, guard := none }) rfl (fun K hK => ?_) AllReady.nil)
            case' refine_1 =>
              go_simp
              refine hK _ _ ?_
              clear hK K
              try simp only [Act.put, List.setIfInBounds_toArray, List.set_cons_zero, List.set_cons_succ]
              refine wpAny_take (i := 3) (oi := { dst := some 101, op := _, type := _, pos := _, after := _, guard := none }) (v := .int .i64 (m - 1)) rfl (by kernel_rfl) (by kernel_rfl) (by kernel_rfl) (fun _ _ _ h => h) (Or.inl ⟨by rfl, by intro w; go_simp; exact HWR.out⟩) ?_
              simp only [Act.put, List.setIfInBounds_toArray, List.set_cons_zero, List.set_cons_succ]
              refine wpAny_ready (rs := [4]) (by decide +kernel) (by simp) ?_
              refine AllReady.cons (o := { dst := some 102, op := .mapEntry 54 (.tmp 98) (.tmp 99), type := _, pos := _, after := _, guard := none }) rfl (fun K hK => ?_) AllReady.nil
              go_simp
              refine hK _ _ ?_
              clear hK K
              try simp only [Act.put, List.setIfInBounds_toArray, List.set_cons_zero, List.set_cons_succ]
              refine wpAny_take (i := 5) (oi := { dst := some 103, op := _, type := _, pos := _, after := _, guard := none }) (v := .int .i64 st) rfl (by kernel_rfl) (by kernel_rfl) (by kernel_rfl) (fun _ _ _ h => h) (Or.inl ⟨by rfl, by intro w; go_simp⟩) ?_
              simp only [Act.put, List.setIfInBounds_toArray, List.set_cons_zero, List.set_cons_succ]
              refine wpAny_ready (rs := [6]) (by decide +kernel) (by simp) ?_
              refine AllReady.cons (o := { dst := none, op := .entryStore 54 (.tmp 98) (.tmp 103) (.tmp 101), type := _, pos := _, after := _, guard := none }) rfl (fun K hK => ?_) AllReady.nil
              go_simp
              refine hK _ _ ?_
              clear hK K
              try simp only [Act.put, List.setIfInBounds_toArray, List.set_cons_zero, List.set_cons_succ]
              refine wpAny_done (by decide +kernel) ?_ _
            case' refine_2 =>
              go_simp
              refine hK _ _ ?_
              clear hK K
              try simp only [Act.put, List.setIfInBounds_toArray, List.set_cons_zero, List.set_cons_succ]
              refine wpAny_take (i := 5) (oi := { dst := some 103, op := _, type := _, pos := _, after := _, guard := none }) (v := .int .i64 st) rfl (by kernel_rfl) (by kernel_rfl) (by kernel_rfl) (fun _ _ _ h => h) (Or.inl ⟨by rfl, by intro w; go_simp⟩) ?_
              simp only [Act.put, List.setIfInBounds_toArray, List.set_cons_zero, List.set_cons_succ]
              refine wpAny_ready (rs := [2]) (by decide +kernel) (by simp) ?_
              refine AllReady.cons (o := { dst := some 100, op := .lookup 54 (.tmp 98) (.tmp 99) false, type := _, pos := _, after := _, guard := none }) rfl (fun K hK => ?_) AllReady.nil
              go_simp
              refine hK _ _ ?_
              clear hK K
              try simp only [Act.put, List.setIfInBounds_toArray, List.set_cons_zero, List.set_cons_succ]
              refine wpAny_take (i := 3) (oi := { dst := some 101, op := _, type := _, pos := _, after := _, guard := none }) (v := .int .i64 (m - 1)) rfl (by kernel_rfl) (by kernel_rfl) (by kernel_rfl) (fun _ _ _ h => h) (Or.inl ⟨by rfl, by intro w; go_simp; exact HWR.out⟩) ?_
              simp only [Act.put, List.setIfInBounds_toArray, List.set_cons_zero, List.set_cons_succ]
              refine wpAny_ready (rs := [6]) (by decide +kernel) (by simp) ?_
              refine AllReady.cons (o := { dst := none, op := .entryStore 54 (.tmp 98) (.tmp 103) (.tmp 101), type := _, pos := _, after := _, guard := none }) rfl (fun K hK => ?_) AllReady.nil
              go_simp
              refine hK _ _ ?_
              clear hK K
              try simp only [Act.put, List.setIfInBounds_toArray, List.set_cons_zero, List.set_cons_succ]
              refine wpAny_done (by decide +kernel) ?_ _
            all_goals
              have hkd : Keeps (fun j => j = B ∨ wb.heap.size ≤ j) wb wd := by
                have h := keeps_grown HGd.out
                exact ⟨h.os, h.tape, h.output, h.size, h.block⟩
              have HKPd : Hid (Keeps (fun j => j = B ∨ wa.heap.size ≤ j) wa wd) := Lib.hid (HKPb.out.trans (hkd.mono (fun j hj => by omega)))
              clear hkd hE hl1 hl2 hsd HGd HKPb HB' HWR HOb
              go_wp2_with fail
              go_roundw
              case rel => exact ⟨k + 1, Dd, by omega, by go_num, HOd.out, HCNd.out, HKPd.out⟩
              case measure => simp [intOf]; omega
          · obtain rfl : k = 16 := by omega
            rw [List.take_of_length_le (by rw [HKB.out]; exact Nat.le_refl _)] at HCN
            have HCZ : Hid (∀ kl, D.atKey kl (.lit (.int .i64 0)) = .lit (.int .i64 0)) := Lib.hid (fun kl => by rw [HCN.out.2 kl]; show DataW.lit (.int .i64 (cnt KS kl - cnt KS kl)) = _; rw [Int.sub_self])
            have HBr : Hid (Below w.heap.size w wr) := Lib.hid (HBA.out.trans (HKP.out.below (by omega)))
            have hltB := HO.out.lt
            clear HCN HKP
            go_wp2_with (at_range; refine wpList_range_own _ rfl _ 54 rfl 31 3 keyKeyed Try.underlying54 _ B _ D rfl HO.out ?_; intro w7 hrg7 hg7 hs7)
            go_frame
            obtain ⟨r, hr⟩ : ∃ r, r = wr.heap.size := ⟨_, rfl⟩
            rw [← hr] at hrg7
            rw [← hr]
            have HRG := Lib.hid hrg7
            have hB7 : Below w.heap.size w w7 := HBr.out.trans ((keeps_grown (hg7.but (some r))).below (by rintro q (h | h) <;> omega))
            have HB7' := Lib.hid hB7
            have hrw : w.heap.size ≤ r := by omega
            clear hrg7 hg7 hr hB7
            go_loopw [17] (fun n ws => ∃ left cnt, ws.ranges Try.prog 31 (plainElem Try.prog 3) B r (C.length + 1 + 16) D left cnt ∧ Below w.heap.size w ws) (fun _ ws => ws.rangeLeft B r)
            case atStart => exact ⟨_, _, HRG.out, HB7'.out⟩
            case round =>
              obtain ⟨left, cnt, hrg, hBs⟩ := hrel
              go_wp2_with (at_next; refine wpList_next_ranges _ rfl _ rfl 31 keyKeyed _ (fun v : Value => v) (Value.int .i64) (fun key kl _ => ⟨key, rfl⟩) (fun v y hv => by obtain ⟨c, rfl, _⟩ := plainElem_int_inv Try.underlying3 hv; exact ⟨c, rfl⟩) B r _ D left cnt rfl hrg ?_ ?_)
              · intro _ _
                go_wp2_with fail
                go_ret
                exact ⟨rfl, hBs⟩
              · intro x c kl y yp w8 cnt8 hkey hlk hv hat hrg8 hlt8 hg8 hs8 hen
                obtain ⟨c', hc', hy, _⟩ := plainElem_int_inv Try.underlying3 hv
                have h1 := hat (.lit (.int .i64 0))
                rw [HCZ.out kl] at h1
                simp only [Prod.mk.injEq] at hy
                rw [hy.1] at h1
                simp only [DataW.lit.injEq, Lit.int.injEq, true_and] at h1
                subst h1
                obtain rfl : c = 0 := by simpa using hc'
                have hss := hBs.size
                go_wp2_with fail
                go_roundw
                case rel => exact ⟨_, _, _, _, _, _, _, _, ⟨_, _, hrg8, hBs.trans ((keeps_grown hg8).below (by rintro q (h | h) <;> omega))⟩, rfl⟩
                case measure => rw [hrg8.left_eq, hrg.left_eq]; omega
end Go.Proofs.Ytolhphofbkiplaa
