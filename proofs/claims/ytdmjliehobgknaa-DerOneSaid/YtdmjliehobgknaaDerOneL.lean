/- The statement DerOne, walked. (Printed by wip/tools/genderone.py.) -/
import Derived.Test.YtdmjliehobgknaaAnyCut
namespace Go.Proofs.Ytdmjliehobgknaa
set_option linter.unusedSimpArgs false
set_option linter.unusedVariables false
open Go.RowKit

theorem wrS_short (x : Tv) (h : (wrS x).2 ≠ 0) : (wrS x).1 = [] := by
  rcases wrS_cases x with ⟨e, _⟩ | ⟨e, _⟩ | ⟨e, _⟩
  · rw [e]
  · rw [e]
  · rw [e] at h; exact absurd rfl h

set_option maxHeartbeats 4000000 in
set_option maxRecDepth 100000 in
theorem derOne_walkL (x y : Tv) (cs ds : List Value) (m : UInt8) (w : World) (hx : TvF w (fun _ => True) x cs) (hy : TvF w (fun _ => True) y ds) (nx : Nw x) (ny : Nw y) (lx : Lw x) (ly : Lw y) (bx : Bw x) (by_ : Bw y) (hlen : (wrS x).1.length = 4096) :
    Calls Try.prog 11 #[.agg cs.toArray, .agg ds.toArray, .int .u8 m.toNat] w fun e w' => e = .returned (.bool true) ∧ Below w.heap.size w w' := by
  have HCL : Hid (cs.length = 5) := Lib.hid hx.length
  have HDL : Hid (ds.length = 5) := Lib.hid hy.length
  have HLX := Lib.hid lx
  have HLY := Lib.hid ly
  have HBX := Lib.hid bx
  have HLEN := Lib.hid hlen
  have HBY := Lib.hid by_
  have HNX := Lib.hid nx
  have HNY := Lib.hid ny
  have HC : Hid (Cx w [(w.heap.size, cs, 47), (w.heap.size + 1, ds, 47)] [(x, cs), (y, ds)] [] ((w.alloc (.cells cs.toArray 47)).alloc (.cells ds.toArray 47))) := Lib.hid (by
    refine ⟨fun b hb => ?_, fun t ht => ?_, by simp, ((Below.refl _ _).alloc (Nat.le_refl _) _).alloc (by simp) _⟩
    · simp at hb
      rcases hb with rfl | rfl
      · exact (Blk.new w _ _).alloc _
      · exact Blk.at_ (by simp)
    · simp at ht
      rcases ht with rfl | rfl
      · exact hx.below (((Below.refl _ _).alloc (Nat.le_refl _) _).alloc (by simp) _)
      · exact hy.below (((Below.refl _ _).alloc (Nat.le_refl _) _).alloc (by simp) _))
  clear hx hy lx ly bx by_ nx ny hlen
  go_enter Try.func11, Try.ntmps11
  go_wp2_with fail
  refine (alive02_any _).mono ?_
  rintro e w1 ⟨rfl, hb⟩
  have HC := Lib.hid (HC.out.step hb)
  clear hb
  go_wp2_with ((with_reducible show wpList _ _ _ (⟨some 17, _, _, _, _, _⟩ :: _) _ _); refine wpList_ldAgg rfl (.tmp 3) aggDer rfl rfl (cs := cs) HCL.out (HC.out.cells (T := 47) (by simp)) ?_)
  refine (plain_any x _ cs _ (HC.out.tree (x, cs) (by simp)) HLX.out).mono ?_
  rintro e w2 ⟨es, rfl, htv, hb⟩
  have HC := Lib.hid ((HC.out.step hb).addTree htv)
  clear hb htv
  go_wp2_with fail
  refine (count_any x _ es _ 3000 (HC.out.tree (x, es) (by simp)) HBX.out (by decide) (by decide)).mono ?_
  rintro e w3 ⟨rfl, hb⟩
  have HC := Lib.hid (HC.out.step hb)
  obtain ⟨c1, hc1⟩ : ∃ c, c = countS x 3000 := ⟨_, rfl⟩
  rw [← hc1]
  have HC1 := Lib.hid hc1
  clear hb hc1
  by_cases h1 : 3000 < c1
  · go_wp2_with fail
    go_ret
    exact ⟨rfl, HC.out.below⟩
  · have hd1 : decide (3000 < c1) = false := by simpa using h1
    go_wp2_with ((with_reducible show wpList _ _ _ (⟨some 22, _, _, _, _, _⟩ :: _) _ _); refine wpList_ldAgg rfl (.tmp 4) aggDer rfl rfl (cs := ds) HDL.out (HC.out.cells (T := 47) (by simp)) ?_)
    refine (plain_any y _ ds _ (HC.out.tree (y, ds) (by simp)) HLY.out).mono ?_
    rintro e w4 ⟨fs, rfl, htv, hb⟩
    have HC := Lib.hid ((HC.out.step hb).addTree htv)
    clear hb htv
    go_wp2_with fail
    refine (count_any y _ fs _ 3000 (HC.out.tree (y, fs) (by simp)) HBY.out (by decide) (by decide)).mono ?_
    rintro e w5 ⟨rfl, hb⟩
    have HC := Lib.hid (HC.out.step hb)
    obtain ⟨c2, hc2⟩ : ∃ c, c = countS y 3000 := ⟨_, rfl⟩
    rw [← hc2]
    have HC2 := Lib.hid hc2
    clear hb hc2
    by_cases h2 : 3000 < c2
    · go_wp2_with fail
      go_ret
      exact ⟨rfl, HC.out.below⟩
    · have hsx : (writeS x).length ≤ 54000 := by
        have := countS_eq x 3000 (by have := HC1.out; omega)
        have hle := writeS_le x
        have := HC1.out
        omega
      have hsy : (writeS y).length ≤ 54000 := by
        have := countS_eq y 3000 (by have := HC2.out; omega)
        have hle := writeS_le y
        have := HC2.out
        omega
      have HSX := Lib.hid hsx
      have HSY := Lib.hid hsy
      clear hsx hsy
      obtain ⟨a, ea, hwa⟩ : ∃ a e, wrS x = (a, e) := ⟨_, _, rfl⟩
      obtain ⟨b, eb, hwb⟩ : ∃ a e, wrS y = (a, e) := ⟨_, _, rfl⟩
      have HWA := Lib.hid hwa
      have HWB := Lib.hid hwb
      clear hwa hwb
      go_wp2_with ((with_reducible show wpList _ _ _ (⟨some 28, _, _, _, _, _⟩ :: _) _ _); refine wpList_ldAgg rfl (.tmp 3) aggDer rfl rfl (cs := cs) HCL.out (HC.out.cells (T := 47) (by simp)) ?_)
      have HWR := Lib.hid (derWriteIt_any x _ cs w5 (HC.out.tree (x, cs) (by simp)) HNX.out (fun _ => by have := HSX.out; omega))
      rw [HWA.out] at HWR
      refine HWR.out.mono ?_
      rintro e w6 ⟨va, rfl, hs, hb⟩
      obtain ⟨aa, ca, rfl, hca, hma⟩ := hs.form
      have HC := Lib.hid ((HC.out.step hb).addRow hs)
      unfold maxLen at hma
      clear hb hs HWR
      go_wp2_with ((with_reducible show wpList _ _ _ (⟨some 33, _, _, _, _, _⟩ :: _) _ _); refine wpList_ldAgg rfl (.tmp 4) aggDer rfl rfl (cs := ds) HDL.out (HC.out.cells (T := 47) (by simp)) ?_)
      have HWR := Lib.hid (derWriteIt_any y _ ds w6 (HC.out.tree (y, ds) (by simp)) HNY.out (fun _ => by have := HSY.out; omega))
      rw [HWB.out] at HWR
      refine HWR.out.mono ?_
      rintro e w7 ⟨vb, rfl, hs, hb⟩
      obtain ⟨ab, cb, rfl, hcb, hmb⟩ := hs.form
      have HC := Lib.hid ((HC.out.step hb).addRow hs)
      unfold maxLen at hmb
      clear hb hs HWR
      by_cases hea : ea = 0
      · by_cases heb : eb = 0
        · subst hea heb
          obtain ⟨rx, hax, hlx⟩ := wrS_ok HWA.out
          obtain ⟨ry, hby, hly⟩ := wrS_ok HWB.out
          have htwo : 2 ≤ a.length := by rw [hax]; exact writeS_two x
          have hless := wholeS_less rx HNX.out hlx
          have hmore := wholeS_more rx HNX.out hlx m
          have hsame : decide (a = b) = tvEq x y := by
            rw [Bool.eq_iff_iff, decide_eq_true_eq, tvEq_iff]
            constructor
            · intro h
              rw [hax, hby] at h
              exact writeS_inj rx ry HNX.out HNY.out hlx h
            · intro h
              rw [hax, hby, h]
          rw [← hax] at hless hmore hlx
          have HLESS := Lib.hid hless
          have HMORE := Lib.hid hmore
          have HSAME := Lib.hid hsame
          have hal : a.length ≤ 4096 := hlx
          have hrun : ∀ W, (Instr.sliceAt 22 (.slice aa a.length ca) none (some (.int .i64 ((a.length : Int) - 1))) none).run Try.prog W = .ok (.slice (cutA aa ca 0) (a.length - 1) ca) W := by
            intro W
            have := run_cut0 aa a.length ca (a.length - 1) (by omega) W
            rw [show ((a.length - 1 : Nat) : Int) = (a.length : Int) - 1 by omega] at this
            exact this
          have hbs0 : Bs w7 (.slice (cutA aa ca 0) (a.length - 1) ca) (a.take (a.length - 1)) := by
            have := (HC.out.row (.slice aa a.length ca, a) (by simp)).cut 0 (a.length - 1) (by omega) (by omega)
            simpa using this
          have HBS0 := Lib.hid hbs0
          clear hax hby hless hmore hsame hlx hly rx ry hbs0
          go_wp2_with fail
          obtain ⟨z, g, hzg⟩ : ∃ z g, wholeS (a.take (a.length - 1)) = (z, g) := ⟨_, _, rfl⟩
          have hg0 : g ≠ 0 := by have := HLESS.out; rw [hzg] at this; exact this
          have HRD := Lib.hid (derWhole_any _ _ w7 HBS0.out)
          rw [hzg] at HRD
          have HG0 := Lib.hid hg0
          clear hzg hg0
          refine HRD.out.mono ?_
          rintro e w8 ⟨gs, rfl, htv, hb⟩
          have HGL : Hid (gs.length = 5) := Lib.hid htv.length
          have HG1 := Lib.hid htv.one
          have HN := Lib.hid (Blk.new w8 zs5 47)
          have HC := Lib.hid (HC.out.step hb)
          clear hb htv HRD HBS0
          go_wp2_with ((with_reducible show wpList _ _ _ (⟨none, .store _ (.tmp 11) (.tmp 62), _, _, _, _⟩ :: _) _ _); refine wpList_stAgg rfl (.tmp 11) (.tmp 62) aggDer rfl rfl (vs := gs) rfl HGL.out HN.out (Nat.le_refl _) HG1.out ?_)
          intro w9 h9 k9
          have hb9 : Below w8.heap.size w8 w9 := ((Below.refl _ _).alloc (Nat.le_refl _) _).trans (k9.below (by omega))
          have HC := Lib.hid (HC.out.step hb9)
          clear h9 k9 hb9 HN
          have HRA : Hid (Bs (w9.alloc (.cells #[] 5)) (.slice aa a.length ca) a) := Lib.hid ((HC.out.row (.slice aa a.length ca, a) (by simp)).alloc (.cells #[] 5))
          have HLIT : Hid (∀ i, (Value.slice (some ⟨w9.heap.size, 0, none⟩) 0 0).ownBlock = some i → i < (w9.alloc (.cells #[] 5)).heap.size) := Lib.hid (fun i hi => by simp [Value.ownBlock] at hi; simp; omega)
          go_wp2_with ((with_reducible show wpList _ _ _ (⟨some 67, _, _, _, _, _⟩ :: _) _ _); refine wpList_app2 rfl (.tmp 65) (.tmp 66) elBytes rfl w9.heap.size (Own.nil _ _ _ _ _) HLIT.out HRA.out (by unfold maxLen; omega) (by omega) (by simp) ?_)
          intro v10 w10 ho10 hk10 hv10
          obtain ⟨a10, c10, rfl, hc10, hm10⟩ := ho10.sl.form
          have hz10 := hk10.size
          simp at hz10
          have hb10 : Below w9.heap.size w9 w10 := ((Below.refl _ _).alloc (Nat.le_refl _) _).trans (hk10.below (by
            rintro i (h | h)
            · exact h.2
            · try simp at h
              omega))
          have HB10 := Lib.hid hb10
          have HO10 : Hid (Own (w10.alloc (.cells #[.int .u8 m.toNat] 5)) w9.heap.size 5 1 (.slice a10 a.length c10) a.length (bCells a)) := Lib.hid (by
            have := ho10.alloc (.cells #[.int .u8 m.toNat] 5)
            simpa using this)
          have HV10 : Hid (∀ i, (Value.slice a10 a.length c10).ownBlock = some i → i < (w10.alloc (.cells #[.int .u8 m.toNat] 5)).heap.size) := Lib.hid (fun i hi => by
            have := (hv10 i (by simpa using hi)).2
            simp
            omega)
          have HML : Hid (Sl (w10.alloc (.cells #[.int .u8 m.toNat] 5)) 1 (.slice (some ⟨w10.heap.size, 0, none⟩) 1 1) 1 [bV m]) := Lib.hid (Sl.lit (n := 1) rfl rfl (by intro u hu; simp at hu; subst hu; rfl) (by unfold maxLen; decide))
          clear ho10 hk10 hv10 hb10 HRA
          go_wp2_with ((with_reducible show wpList _ _ _ (⟨some 70, _, _, _, _, _⟩ :: _) _ _); refine wpList_app2 rfl (.tmp 67) (.tmp 69) elBytes rfl w9.heap.size HO10.out HV10.out HML.out (by unfold maxLen; omega) (by omega) (by simp; omega) ?_)
          intro v11 w11 ho11 hk11 hv11
          obtain ⟨a11, c11, rfl, hc11, hm11⟩ := ho11.sl.form
          have hb11 : Below w9.heap.size w10 w11 := ((Below.refl _ _).alloc (by omega) _).trans (hk11.below (by
            rintro i (h | h)
            · exact h.2
            · try simp at h
              omega))
          have hbs11 : Bs w11 (.slice a11 (a.length + 1) c11) (a ++ [m]) := by
            have := ho11.sl
            unfold Bs
            rw [bCells_append, List.length_append]
            exact this
          have HC := Lib.hid (HC.out.step (HB10.out.trans hb11))
          have HRD := Lib.hid (derWhole_any _ _ w11 hbs11)
          rw [HMORE.out] at HRD
          obtain ⟨q, hq⟩ : ∃ q, q = tvEq x y := ⟨_, rfl⟩
          rw [← hq] at HSAME
          have HQ := Lib.hid hq
          have HGN : Hid (decide (g = 0) = false) := Lib.hid (by have := HG0.out; simpa using this)
          clear ho11 hk11 hv11 hb11 hbs11 HO10 HV10 HML HLIT hrun hq
          have h46 := HLEN.out
          rw [HWA.out] at h46
          simp only at h46
          rw [if_pos h46] at HRD
          have H46 := Lib.hid h46
          clear h46
          go_wp2_with fail
          refine HRD.out.mono ?_
          rintro e w12 ⟨hs, rfl, htv, hb⟩
          have HHL : Hid (hs.length = 5) := Lib.hid htv.length
          have HH1 := Lib.hid htv.one
          have HN := Lib.hid (Blk.new w12 zs5 47)
          have HC := Lib.hid (HC.out.step hb)
          clear hb htv HRD
          go_wp2_with ((with_reducible show wpList _ _ _ (⟨none, .store _ (.tmp 13) (.tmp 72), _, _, _, _⟩ :: _) _ _); refine wpList_stAgg rfl (.tmp 13) (.tmp 72) aggDer rfl rfl (vs := hs) rfl HHL.out HN.out (Nat.le_refl _) HH1.out ?_)
          intro w13 h13 k13
          have hb13 : Below w12.heap.size w12 w13 := ((Below.refl _ _).alloc (Nat.le_refl _) _).trans (k13.below (by omega))
          have HC := Lib.hid ((HC.out.step hb13).drew)
          clear h13 k13 hb13 HN
          go_wp2_with fail
          refine wp_region_any (by kernel_rfl) ?_
          change wpAny _ _ _ _ _ _ _ (World.drew _)
          apply tail_cut (I := fun W => Cx w [(w.heap.size, cs, 47), (w.heap.size + 1, ds, 47)] _ _ W)
          case' h1 =>
            intro HT
            refine wpAny_take (i := 0) (oi := { dst := some 74, op := _, type := _, pos := _, after := _, guard := none }) (v := .slice aa a.length ca) rfl (by kernel_rfl) (by kernel_rfl) (by kernel_rfl) (fun _ _ _ h => h) (Or.inl ⟨by rfl, by intro w; go_simp⟩) ?_
            simp only [Act.put, List.setIfInBounds_toArray, List.set_cons_zero, List.set_cons_succ]
            refine wpAny_take (i := 1) (oi := { dst := some 75, op := _, type := _, pos := _, after := _, guard := none }) (v := .slice ab b.length cb) rfl (by kernel_rfl) (by kernel_rfl) (by kernel_rfl) (fun _ _ _ h => h) (Or.inl ⟨by rfl, by intro w; go_simp⟩) ?_
            simp only [Act.put, List.setIfInBounds_toArray, List.set_cons_zero, List.set_cons_succ]
            refine wpAny_ready (rs := [2, 3, 4]) (by decide +kernel) (by simp) ?_
            refine AllReady.cons (o := { dst := some 76, op := .call { callee := .value (.func 14), args := #[.tmp 74, .tmp 75], argTypes := #[22, 22] }, type := _, pos := _, after := _, guard := none }) rfl (fun K hK => ?_) (AllReady.cons (o := { dst := some 77, op := .load 47 (.tmp 3), type := _, pos := _, after := _, guard := none }) rfl (fun K hK => ?_) (AllReady.cons (o := { dst := some 78, op := .load 47 (.tmp 4), type := _, pos := _, after := _, guard := none }) rfl (fun K hK => ?_) AllReady.nil))
            · go_simp
              refine (same_b _ _ a b _ (HC.out.row (.slice aa a.length ca, a) (by simp)) (HC.out.row (.slice ab b.length cb, b) (by simp))).mono ?_
              rw [HSAME.out]
              rintro e w14 ⟨rfl, hb⟩
              have HC := Lib.hid (HC.out.step hb)
              clear hb
              refine hK _ _ ?_
              clear hK K
              try simp only [Act.put, List.setIfInBounds_toArray, List.set_cons_zero, List.set_cons_succ]
              refine wpAny_ready (rs := [3, 4]) (by decide +kernel) (by simp) ?_
              refine AllReady.cons (o := { dst := some 77, op := .load 47 (.tmp 3), type := _, pos := _, after := _, guard := none }) rfl (fun K hK => ?_) (AllReady.cons (o := { dst := some 78, op := .load 47 (.tmp 4), type := _, pos := _, after := _, guard := none }) rfl (fun K hK => ?_) AllReady.nil)
              · refine step_ldAggG (b := w.heap.size) (off := 0) rfl (.tmp 3) aggDer rfl (by simp [Act.eval]) HCL.out (HC.out.cells (T := 47) (by simp)) ?_
                refine hK _ _ ?_
                clear hK K
                try simp only [Act.put, List.setIfInBounds_toArray, List.set_cons_zero, List.set_cons_succ]
                refine wpAny_ready (rs := [4]) (by decide +kernel) (by simp) ?_
                refine AllReady.cons (o := { dst := some 78, op := .load 47 (.tmp 4), type := _, pos := _, after := _, guard := none }) rfl (fun K hK => ?_) AllReady.nil
                refine step_ldAggG (b := w.heap.size + 1) (off := 0) rfl (.tmp 4) aggDer rfl (by simp [Act.eval]) HDL.out (HC.out.cells (T := 47) (by simp)) ?_
                refine hK _ _ ?_
                clear hK K
                try simp only [Act.put, List.setIfInBounds_toArray, List.set_cons_zero, List.set_cons_succ]
                refine wpAny_ready (rs := [5]) (by decide +kernel) (by simp) ?_
                refine AllReady.cons (o := { dst := some 79, op := .call { callee := .value (.func 36), args := #[.tmp 77, .tmp 78], argTypes := #[47, 47] }, type := _, pos := _, after := _, guard := none }) rfl (fun K hK => ?_) AllReady.nil
                go_simp
                refine (derSame_any x y _ _ cs ds _ (HC.out.tree (x, cs) (by simp)) (HC.out.tree (y, ds) (by simp))).mono ?_
                rw [← HQ.out]
                rintro e w15 ⟨rfl, hb⟩
                have HC := Lib.hid (HC.out.step hb)
                clear hb
                refine hK _ _ ?_
                clear hK K
                try simp only [Act.put, List.setIfInBounds_toArray, List.set_cons_zero, List.set_cons_succ]
                refine any_listed (l' := #[true, true, true, true, true, true, false, false, false, false, false, false, false, false, false, false, false, false, false, false, false, false, false, false, false]) (by decide +kernel) ?_
                exact HT _ HC.out
              · refine step_ldAggG (b := w.heap.size + 1) (off := 0) rfl (.tmp 4) aggDer rfl (by simp [Act.eval]) HDL.out (HC.out.cells (T := 47) (by simp)) ?_
                refine hK _ _ ?_
                clear hK K
                try simp only [Act.put, List.setIfInBounds_toArray, List.set_cons_zero, List.set_cons_succ]
                refine wpAny_ready (rs := [3]) (by decide +kernel) (by simp) ?_
                refine AllReady.cons (o := { dst := some 77, op := .load 47 (.tmp 3), type := _, pos := _, after := _, guard := none }) rfl (fun K hK => ?_) AllReady.nil
                refine step_ldAggG (b := w.heap.size) (off := 0) rfl (.tmp 3) aggDer rfl (by simp [Act.eval]) HCL.out (HC.out.cells (T := 47) (by simp)) ?_
                refine hK _ _ ?_
                clear hK K
                try simp only [Act.put, List.setIfInBounds_toArray, List.set_cons_zero, List.set_cons_succ]
                refine wpAny_ready (rs := [5]) (by decide +kernel) (by simp) ?_
                refine AllReady.cons (o := { dst := some 79, op := .call { callee := .value (.func 36), args := #[.tmp 77, .tmp 78], argTypes := #[47, 47] }, type := _, pos := _, after := _, guard := none }) rfl (fun K hK => ?_) AllReady.nil
                go_simp
                refine (derSame_any x y _ _ cs ds _ (HC.out.tree (x, cs) (by simp)) (HC.out.tree (y, ds) (by simp))).mono ?_
                rw [← HQ.out]
                rintro e w15 ⟨rfl, hb⟩
                have HC := Lib.hid (HC.out.step hb)
                clear hb
                refine hK _ _ ?_
                clear hK K
                try simp only [Act.put, List.setIfInBounds_toArray, List.set_cons_zero, List.set_cons_succ]
                refine any_listed (l' := #[true, true, true, true, true, true, false, false, false, false, false, false, false, false, false, false, false, false, false, false, false, false, false, false, false]) (by decide +kernel) ?_
                exact HT _ HC.out
            · refine step_ldAggG (b := w.heap.size) (off := 0) rfl (.tmp 3) aggDer rfl (by simp [Act.eval]) HCL.out (HC.out.cells (T := 47) (by simp)) ?_
              refine hK _ _ ?_
              clear hK K
              try simp only [Act.put, List.setIfInBounds_toArray, List.set_cons_zero, List.set_cons_succ]
              refine wpAny_ready (rs := [2, 4]) (by decide +kernel) (by simp) ?_
              refine AllReady.cons (o := { dst := some 76, op := .call { callee := .value (.func 14), args := #[.tmp 74, .tmp 75], argTypes := #[22, 22] }, type := _, pos := _, after := _, guard := none }) rfl (fun K hK => ?_) (AllReady.cons (o := { dst := some 78, op := .load 47 (.tmp 4), type := _, pos := _, after := _, guard := none }) rfl (fun K hK => ?_) AllReady.nil)
              · go_simp
                refine (same_b _ _ a b _ (HC.out.row (.slice aa a.length ca, a) (by simp)) (HC.out.row (.slice ab b.length cb, b) (by simp))).mono ?_
                rw [HSAME.out]
                rintro e w14 ⟨rfl, hb⟩
                have HC := Lib.hid (HC.out.step hb)
                clear hb
                refine hK _ _ ?_
                clear hK K
                try simp only [Act.put, List.setIfInBounds_toArray, List.set_cons_zero, List.set_cons_succ]
                refine wpAny_ready (rs := [4]) (by decide +kernel) (by simp) ?_
                refine AllReady.cons (o := { dst := some 78, op := .load 47 (.tmp 4), type := _, pos := _, after := _, guard := none }) rfl (fun K hK => ?_) AllReady.nil
                refine step_ldAggG (b := w.heap.size + 1) (off := 0) rfl (.tmp 4) aggDer rfl (by simp [Act.eval]) HDL.out (HC.out.cells (T := 47) (by simp)) ?_
                refine hK _ _ ?_
                clear hK K
                try simp only [Act.put, List.setIfInBounds_toArray, List.set_cons_zero, List.set_cons_succ]
                refine wpAny_ready (rs := [5]) (by decide +kernel) (by simp) ?_
                refine AllReady.cons (o := { dst := some 79, op := .call { callee := .value (.func 36), args := #[.tmp 77, .tmp 78], argTypes := #[47, 47] }, type := _, pos := _, after := _, guard := none }) rfl (fun K hK => ?_) AllReady.nil
                go_simp
                refine (derSame_any x y _ _ cs ds _ (HC.out.tree (x, cs) (by simp)) (HC.out.tree (y, ds) (by simp))).mono ?_
                rw [← HQ.out]
                rintro e w15 ⟨rfl, hb⟩
                have HC := Lib.hid (HC.out.step hb)
                clear hb
                refine hK _ _ ?_
                clear hK K
                try simp only [Act.put, List.setIfInBounds_toArray, List.set_cons_zero, List.set_cons_succ]
                refine any_listed (l' := #[true, true, true, true, true, true, false, false, false, false, false, false, false, false, false, false, false, false, false, false, false, false, false, false, false]) (by decide +kernel) ?_
                exact HT _ HC.out
              · refine step_ldAggG (b := w.heap.size + 1) (off := 0) rfl (.tmp 4) aggDer rfl (by simp [Act.eval]) HDL.out (HC.out.cells (T := 47) (by simp)) ?_
                refine hK _ _ ?_
                clear hK K
                try simp only [Act.put, List.setIfInBounds_toArray, List.set_cons_zero, List.set_cons_succ]
                refine wpAny_ready (rs := [2]) (by decide +kernel) (by simp) ?_
                refine AllReady.cons (o := { dst := some 76, op := .call { callee := .value (.func 14), args := #[.tmp 74, .tmp 75], argTypes := #[22, 22] }, type := _, pos := _, after := _, guard := none }) rfl (fun K hK => ?_) AllReady.nil
                go_simp
                refine (same_b _ _ a b _ (HC.out.row (.slice aa a.length ca, a) (by simp)) (HC.out.row (.slice ab b.length cb, b) (by simp))).mono ?_
                rw [HSAME.out]
                rintro e w14 ⟨rfl, hb⟩
                have HC := Lib.hid (HC.out.step hb)
                clear hb
                refine hK _ _ ?_
                clear hK K
                try simp only [Act.put, List.setIfInBounds_toArray, List.set_cons_zero, List.set_cons_succ]
                refine wpAny_ready (rs := [5]) (by decide +kernel) (by simp) ?_
                refine AllReady.cons (o := { dst := some 79, op := .call { callee := .value (.func 36), args := #[.tmp 77, .tmp 78], argTypes := #[47, 47] }, type := _, pos := _, after := _, guard := none }) rfl (fun K hK => ?_) AllReady.nil
                go_simp
                refine (derSame_any x y _ _ cs ds _ (HC.out.tree (x, cs) (by simp)) (HC.out.tree (y, ds) (by simp))).mono ?_
                rw [← HQ.out]
                rintro e w15 ⟨rfl, hb⟩
                have HC := Lib.hid (HC.out.step hb)
                clear hb
                refine hK _ _ ?_
                clear hK K
                try simp only [Act.put, List.setIfInBounds_toArray, List.set_cons_zero, List.set_cons_succ]
                refine any_listed (l' := #[true, true, true, true, true, true, false, false, false, false, false, false, false, false, false, false, false, false, false, false, false, false, false, false, false]) (by decide +kernel) ?_
                exact HT _ HC.out
            · refine step_ldAggG (b := w.heap.size + 1) (off := 0) rfl (.tmp 4) aggDer rfl (by simp [Act.eval]) HDL.out (HC.out.cells (T := 47) (by simp)) ?_
              refine hK _ _ ?_
              clear hK K
              try simp only [Act.put, List.setIfInBounds_toArray, List.set_cons_zero, List.set_cons_succ]
              refine wpAny_ready (rs := [2, 3]) (by decide +kernel) (by simp) ?_
              refine AllReady.cons (o := { dst := some 76, op := .call { callee := .value (.func 14), args := #[.tmp 74, .tmp 75], argTypes := #[22, 22] }, type := _, pos := _, after := _, guard := none }) rfl (fun K hK => ?_) (AllReady.cons (o := { dst := some 77, op := .load 47 (.tmp 3), type := _, pos := _, after := _, guard := none }) rfl (fun K hK => ?_) AllReady.nil)
              · go_simp
                refine (same_b _ _ a b _ (HC.out.row (.slice aa a.length ca, a) (by simp)) (HC.out.row (.slice ab b.length cb, b) (by simp))).mono ?_
                rw [HSAME.out]
                rintro e w14 ⟨rfl, hb⟩
                have HC := Lib.hid (HC.out.step hb)
                clear hb
                refine hK _ _ ?_
                clear hK K
                try simp only [Act.put, List.setIfInBounds_toArray, List.set_cons_zero, List.set_cons_succ]
                refine wpAny_ready (rs := [3]) (by decide +kernel) (by simp) ?_
                refine AllReady.cons (o := { dst := some 77, op := .load 47 (.tmp 3), type := _, pos := _, after := _, guard := none }) rfl (fun K hK => ?_) AllReady.nil
                refine step_ldAggG (b := w.heap.size) (off := 0) rfl (.tmp 3) aggDer rfl (by simp [Act.eval]) HCL.out (HC.out.cells (T := 47) (by simp)) ?_
                refine hK _ _ ?_
                clear hK K
                try simp only [Act.put, List.setIfInBounds_toArray, List.set_cons_zero, List.set_cons_succ]
                refine wpAny_ready (rs := [5]) (by decide +kernel) (by simp) ?_
                refine AllReady.cons (o := { dst := some 79, op := .call { callee := .value (.func 36), args := #[.tmp 77, .tmp 78], argTypes := #[47, 47] }, type := _, pos := _, after := _, guard := none }) rfl (fun K hK => ?_) AllReady.nil
                go_simp
                refine (derSame_any x y _ _ cs ds _ (HC.out.tree (x, cs) (by simp)) (HC.out.tree (y, ds) (by simp))).mono ?_
                rw [← HQ.out]
                rintro e w15 ⟨rfl, hb⟩
                have HC := Lib.hid (HC.out.step hb)
                clear hb
                refine hK _ _ ?_
                clear hK K
                try simp only [Act.put, List.setIfInBounds_toArray, List.set_cons_zero, List.set_cons_succ]
                refine any_listed (l' := #[true, true, true, true, true, true, false, false, false, false, false, false, false, false, false, false, false, false, false, false, false, false, false, false, false]) (by decide +kernel) ?_
                exact HT _ HC.out
              · refine step_ldAggG (b := w.heap.size) (off := 0) rfl (.tmp 3) aggDer rfl (by simp [Act.eval]) HCL.out (HC.out.cells (T := 47) (by simp)) ?_
                refine hK _ _ ?_
                clear hK K
                try simp only [Act.put, List.setIfInBounds_toArray, List.set_cons_zero, List.set_cons_succ]
                refine wpAny_ready (rs := [2]) (by decide +kernel) (by simp) ?_
                refine AllReady.cons (o := { dst := some 76, op := .call { callee := .value (.func 14), args := #[.tmp 74, .tmp 75], argTypes := #[22, 22] }, type := _, pos := _, after := _, guard := none }) rfl (fun K hK => ?_) AllReady.nil
                go_simp
                refine (same_b _ _ a b _ (HC.out.row (.slice aa a.length ca, a) (by simp)) (HC.out.row (.slice ab b.length cb, b) (by simp))).mono ?_
                rw [HSAME.out]
                rintro e w14 ⟨rfl, hb⟩
                have HC := Lib.hid (HC.out.step hb)
                clear hb
                refine hK _ _ ?_
                clear hK K
                try simp only [Act.put, List.setIfInBounds_toArray, List.set_cons_zero, List.set_cons_succ]
                refine wpAny_ready (rs := [5]) (by decide +kernel) (by simp) ?_
                refine AllReady.cons (o := { dst := some 79, op := .call { callee := .value (.func 36), args := #[.tmp 77, .tmp 78], argTypes := #[47, 47] }, type := _, pos := _, after := _, guard := none }) rfl (fun K hK => ?_) AllReady.nil
                go_simp
                refine (derSame_any x y _ _ cs ds _ (HC.out.tree (x, cs) (by simp)) (HC.out.tree (y, ds) (by simp))).mono ?_
                rw [← HQ.out]
                rintro e w15 ⟨rfl, hb⟩
                have HC := Lib.hid (HC.out.step hb)
                clear hb
                refine hK _ _ ?_
                clear hK K
                try simp only [Act.put, List.setIfInBounds_toArray, List.set_cons_zero, List.set_cons_succ]
                refine any_listed (l' := #[true, true, true, true, true, true, false, false, false, false, false, false, false, false, false, false, false, false, false, false, false, false, false, false, false]) (by decide +kernel) ?_
                exact HT _ HC.out
          case' h2 =>
            intro W hW
            have HC := Lib.hid hW
            clear hW
            refine wpAny_take (i := 6) (oi := { dst := some 80, op := _, type := _, pos := _, after := _, guard := none }) (v := .bool true) rfl (by kernel_rfl) (by kernel_rfl) (by kernel_rfl) (fun _ _ _ h => h) (Or.inl ⟨by rfl, by intro w; go_simp⟩) ?_
            simp only [Act.put, List.setIfInBounds_toArray, List.set_cons_zero, List.set_cons_succ]
            refine wpAny_take (i := 7) (oi := { dst := some 81, op := _, type := _, pos := _, after := _, guard := none }) (v := .bool true) rfl (by kernel_rfl) (by kernel_rfl) (by kernel_rfl) (fun _ _ _ h => h) (Or.inl ⟨by rfl, by intro w; go_simp⟩) ?_
            simp only [Act.put, List.setIfInBounds_toArray, List.set_cons_zero, List.set_cons_succ]
            refine wpAny_take (i := 8) (oi := { dst := some 82, op := _, type := _, pos := _, after := _, guard := some (7, true) }) (v := .int .i64 g) rfl (by kernel_rfl) (by kernel_rfl) (by kernel_rfl) (fun _ _ _ h => h) (Or.inl ⟨by rfl, by intro w; go_simp⟩) ?_
            simp only [Act.put, List.setIfInBounds_toArray, List.set_cons_zero, List.set_cons_succ]
            refine wpAny_take (i := 9) (oi := { dst := some 83, op := _, type := _, pos := _, after := _, guard := some (7, true) }) (v := .bool true) rfl (by kernel_rfl) (by kernel_rfl) (by kernel_rfl) (fun _ _ _ h => h) (Or.inl ⟨by rfl, by intro w; go_simp; simpa using HG0.out⟩) ?_
            simp only [Act.put, List.setIfInBounds_toArray, List.set_cons_zero, List.set_cons_succ]
            refine wpAny_take (i := 10) (oi := { dst := some 84, op := _, type := _, pos := _, after := _, guard := none }) (v := .bool true) rfl (by kernel_rfl) (by kernel_rfl) (by kernel_rfl) (fun _ _ _ h => h) (Or.inl ⟨by rfl, by intro w; go_simp⟩) ?_
            simp only [Act.put, List.setIfInBounds_toArray, List.set_cons_zero, List.set_cons_succ]
            refine wpAny_take (i := 11) (oi := { dst := some 85, op := _, type := _, pos := _, after := _, guard := none }) (v := .bool true) rfl (by kernel_rfl) (by kernel_rfl) (by kernel_rfl) (fun _ _ _ h => h) (Or.inl ⟨by rfl, by intro w; go_simp⟩) ?_
            simp only [Act.put, List.setIfInBounds_toArray, List.set_cons_zero, List.set_cons_succ]
            refine wpAny_take (i := 12) (oi := { dst := some 86, op := _, type := _, pos := _, after := _, guard := some (11, true) }) (v := .int .i64 20) rfl (by kernel_rfl) (by kernel_rfl) (by kernel_rfl) (fun _ _ _ h => h) (Or.inl ⟨by rfl, by intro w; go_simp⟩) ?_
            simp only [Act.put, List.setIfInBounds_toArray, List.set_cons_zero, List.set_cons_succ]
            refine wpAny_take (i := 13) (oi := { dst := some 87, op := _, type := _, pos := _, after := _, guard := some (11, true) }) (v := .bool false) rfl (by kernel_rfl) (by kernel_rfl) (by kernel_rfl) (fun _ _ _ h => h) (Or.inl ⟨by rfl, by intro w; go_simp⟩) ?_
            simp only [Act.put, List.setIfInBounds_toArray, List.set_cons_zero, List.set_cons_succ]
            refine wpAny_take (i := 14) (oi := { dst := some 88, op := _, type := _, pos := _, after := _, guard := some (11, true) }) (v := .bool false) rfl (by kernel_rfl) (by kernel_rfl) (by kernel_rfl) (fun _ _ _ h => h) (Or.inl ⟨by rfl, by intro w; go_simp⟩) ?_
            simp only [Act.put, List.setIfInBounds_toArray, List.set_cons_zero, List.set_cons_succ]
            refine wpAny_take (i := 15) (oi := { dst := some 89, op := _, type := _, pos := _, after := _, guard := some (14, false) }) (v := .slice aa a.length ca) rfl (by kernel_rfl) (by kernel_rfl) (by kernel_rfl) (fun _ _ _ h => h) (Or.inl ⟨by rfl, by intro w; go_simp⟩) ?_
            simp only [Act.put, List.setIfInBounds_toArray, List.set_cons_zero, List.set_cons_succ]
            refine wpAny_take (i := 16) (oi := { dst := some 90, op := _, type := _, pos := _, after := _, guard := some (14, false) }) (v := .int .i64 a.length) rfl (by kernel_rfl) (by kernel_rfl) (by kernel_rfl) (fun _ _ _ h => h) (Or.inl ⟨by rfl, by intro w; go_simp⟩) ?_
            simp only [Act.put, List.setIfInBounds_toArray, List.set_cons_zero, List.set_cons_succ]
            refine wpAny_take (i := 17) (oi := { dst := some 91, op := _, type := _, pos := _, after := _, guard := some (14, false) }) (v := .bool true) rfl (by kernel_rfl) (by kernel_rfl) (by kernel_rfl) (fun _ _ _ h => h) (Or.inl ⟨by rfl, by intro w; go_simp; have := H46.out; omega⟩) ?_
            simp only [Act.put, List.setIfInBounds_toArray, List.set_cons_zero, List.set_cons_succ]
            refine wpAny_take (i := 18) (oi := { dst := some 92, op := _, type := _, pos := _, after := _, guard := some (14, false) }) (v := .bool true) rfl (by kernel_rfl) (by kernel_rfl) (by kernel_rfl) (fun _ _ _ h => h) (Or.inl ⟨by rfl, by intro w; go_simp⟩) ?_
            simp only [Act.put, List.setIfInBounds_toArray, List.set_cons_zero, List.set_cons_succ]
            refine wpAny_take (i := 19) (oi := { dst := some 93, op := _, type := _, pos := _, after := _, guard := some (18, true) }) (v := .int .i64 20) rfl (by kernel_rfl) (by kernel_rfl) (by kernel_rfl) (fun _ _ _ h => h) (Or.inl ⟨by rfl, by intro w; go_simp⟩) ?_
            simp only [Act.put, List.setIfInBounds_toArray, List.set_cons_zero, List.set_cons_succ]
            refine wpAny_take (i := 20) (oi := { dst := some 94, op := _, type := _, pos := _, after := _, guard := some (18, true) }) (v := .bool true) rfl (by kernel_rfl) (by kernel_rfl) (by kernel_rfl) (fun _ _ _ h => h) (Or.inl ⟨by rfl, by intro w; go_simp⟩) ?_
            simp only [Act.put, List.setIfInBounds_toArray, List.set_cons_zero, List.set_cons_succ]
            refine wpAny_take (i := 21) (oi := { dst := some 95, op := _, type := _, pos := _, after := _, guard := some (14, false) }) (v := .bool true) rfl (by kernel_rfl) (by kernel_rfl) (by kernel_rfl) (fun _ _ _ h => h) (Or.inl ⟨by rfl, by intro w; go_simp⟩) ?_
            simp only [Act.put, List.setIfInBounds_toArray, List.set_cons_zero, List.set_cons_succ]
            refine wpAny_take (i := 22) (oi := { dst := some 96, op := _, type := _, pos := _, after := _, guard := some (11, true) }) (v := .bool true) rfl (by kernel_rfl) (by kernel_rfl) (by kernel_rfl) (fun _ _ _ h => h) (Or.inl ⟨by rfl, by intro w; go_simp⟩) ?_
            simp only [Act.put, List.setIfInBounds_toArray, List.set_cons_zero, List.set_cons_succ]
            refine wpAny_take (i := 23) (oi := { dst := some 97, op := _, type := _, pos := _, after := _, guard := none }) (v := .bool true) rfl (by kernel_rfl) (by kernel_rfl) (by kernel_rfl) (fun _ _ _ h => h) (Or.inl ⟨by rfl, by intro w; go_simp⟩) ?_
            simp only [Act.put, List.setIfInBounds_toArray, List.set_cons_zero, List.set_cons_succ]
            refine wpAny_take (i := 24) (oi := { dst := some 6, op := _, type := _, pos := _, after := _, guard := none }) (v := .bool true) rfl (by kernel_rfl) (by kernel_rfl) (by kernel_rfl) (fun _ _ _ h => h) (Or.inl ⟨by rfl, by intro w; go_simp⟩) ?_
            simp only [Act.put, List.setIfInBounds_toArray, List.set_cons_zero, List.set_cons_succ]
            refine wpAny_done (by decide +kernel) ?_ _
            go_wp2_with fail
            go_ret
            exact ⟨rfl, HC.out.below⟩
        · have hbl : b = [] := by
            have := wrS_short y (by rw [HWB.out]; exact heb)
            rw [HWB.out] at this
            exact this
          subst hbl
          have hal : 2 ≤ a.length := by
            subst hea
            obtain ⟨rx, hax, hlx⟩ := wrS_ok HWA.out
            rw [hax]; exact writeS_two x
          have hd2 : (eb != 0) = true := by simpa using heb
          subst hea
          clear heb
          go_wp2_with fail
          all_goals
            go_ret
            exact ⟨rfl, HC.out.below⟩
      · have hal : a = [] := by
          have := wrS_short x (by rw [HWA.out]; exact hea)
          rw [HWA.out] at this
          exact this
        subst hal
        have hd2 : (ea != 0) = true := by simpa using hea
        clear hea
        go_wp2_with fail
        go_ret
        exact ⟨rfl, HC.out.below⟩
end Go.Proofs.Ytdmjliehobgknaa
