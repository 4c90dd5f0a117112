/- The statement DerWrites, walked. (Printed by wip/tools/genderwrites.py.) -/
import Derived.Test.YtdmjliehobgknaaRefWrite
import Derived.Test.YtdmjliehobgknaaAnyCut
import Derived.Test.YtdmjliehobgknaaDerCount
namespace Go.Proofs.Ytdmjliehobgknaa
set_option linter.unusedSimpArgs false
set_option linter.unusedVariables false
open Go.RowKit

set_option maxHeartbeats 4000000 in
set_option maxRecDepth 100000 in
theorem derWrites_walk (x : Tv) (cs : List Value) (w : World) (hx : TvF w (fun _ => True) x cs) (nx : Nw x) (lx : Lw x) (bx : Bw x) :
    Calls Try.prog 9 #[.agg cs.toArray] w fun e w' => e = .returned (.bool true) ∧ Below w.heap.size w w' := by
  have HCL : Hid (cs.length = 5) := Lib.hid hx.length
  have HLX := Lib.hid lx
  have HBX := Lib.hid bx
  have HNX := Lib.hid nx
  have HC : Hid (Cx w [(w.heap.size, cs, 47)] [(x, cs)] [] (w.alloc (.cells cs.toArray 47))) := Lib.hid (by
    refine ⟨fun b hb => ?_, fun t ht => ?_, by simp, (Below.refl _ _).alloc (Nat.le_refl _) _⟩
    · simp at hb
      rcases hb with rfl
      exact Blk.new w _ _
    · simp at ht
      rcases ht with rfl
      exact hx.below ((Below.refl _ _).alloc (Nat.le_refl _) _))
  clear hx lx bx nx
  go_enter Try.func9, Try.ntmps9
  go_wp2_with fail
  refine (alive02_any _).mono ?_
  rintro e w1 ⟨rfl, hb⟩
  have HC := Lib.hid (HC.out.step hb)
  clear hb
  go_wp2_with ((with_reducible show wpList _ _ _ (⟨some 12, _, _, _, _, _⟩ :: _) _ _); refine wpList_ldAgg rfl (.tmp 1) aggDer rfl rfl (cs := cs) HCL.out (HC.out.cells (T := 47) (by simp)) ?_)
  refine (plain_any x _ cs _ (HC.out.tree (x, cs) (by simp)) HLX.out).mono ?_
  rintro e w2 ⟨es, rfl, htv, hb⟩
  have HEL : Hid (es.length = 5) := Lib.hid htv.length
  have HE1 := Lib.hid htv.one
  have HN := Lib.hid (Blk.new w2 zs5 50)
  have HC := Lib.hid ((HC.out.step hb).addTree htv)
  clear hb htv
  go_wp2_with ((with_reducible show wpList _ _ _ (⟨none, .store _ (.tmp 3) (.tmp 13), _, _, _, _⟩ :: _) _ _); refine wpList_stAgg rfl (.tmp 3) (.tmp 13) aggRef rfl rfl (vs := es) rfl HEL.out HN.out (Nat.le_refl _) HE1.out ?_)
  intro w3 h3 k3
  obtain ⟨hcx, hb3, hz3⟩ := HC.out.lay rfl (by rw [HEL.out]; rfl) h3 k3
  have HC := Lib.hid hcx
  obtain ⟨p, hp⟩ : ∃ p, p = w2.heap.size := ⟨_, rfl⟩
  rw [← hp] at HC ⊢
  clear h3 k3 hcx hb3 HN hp
  go_wp2_with ((with_reducible show wpList _ _ _ (⟨some 14, _, _, _, _, _⟩ :: _) _ _); refine wpList_ldAgg rfl (.tmp 3) aggRef rfl rfl (cs := es) HEL.out (HC.out.cells (T := 50) (by simp)) ?_)
  refine (count_any x _ es _ 6000 (HC.out.tree (x, es) (by simp)) HBX.out (by decide) (by decide)).mono ?_
  rintro e w4 ⟨rfl, hb⟩
  have HC := Lib.hid (HC.out.step hb)
  obtain ⟨c1, hc1⟩ : ∃ c, c = countS x 6000 := ⟨_, rfl⟩
  rw [← hc1]
  have HC1 := Lib.hid hc1
  clear hb hc1
  by_cases h1 : 6000 < c1
  · go_wp2_with fail
    go_ret
    exact ⟨rfl, HC.out.below⟩
  · have hsx : (writeS x).length ≤ 108000 := by
      have := countS_eq x 6000 (by have := HC1.out; omega)
      have hle := writeS_le x
      have := HC1.out
      omega
    have HSX := Lib.hid hsx
    clear hsx
    obtain ⟨a, ea, hwa⟩ : ∃ a e, wrS x = (a, e) := ⟨_, _, rfl⟩
    have HWA := Lib.hid hwa
    clear hwa
    go_wp2_with ((with_reducible show wpList _ _ _ (⟨some 18, _, _, _, _, _⟩ :: _) _ _); refine wpList_ldAgg rfl (.tmp 1) aggDer rfl rfl (cs := cs) HCL.out (HC.out.cells (T := 47) (by simp)) ?_)
    have HWR := Lib.hid (derWriteIt_any x _ cs w4 (HC.out.tree (x, cs) (by simp)) HNX.out (fun _ => by have := HSX.out; omega))
    rw [HWA.out] at HWR
    refine HWR.out.mono ?_
    rintro e w5 ⟨va, rfl, hs, hb⟩
    obtain ⟨aa, ca, rfl, hca, hma⟩ := hs.form
    have HC := Lib.hid ((HC.out.step hb).addRow hs)
    unfold maxLen at hma
    clear hb hs HWR
    go_wp2_with ((with_reducible show wpList _ _ _ (⟨some 23, _, _, _, _, _⟩ :: _) _ _); refine wpList_ldAgg rfl (.tmp 3) aggRef rfl rfl (cs := es) HEL.out (HC.out.cells (T := 50) (by simp)) ?_)
    have HWR := Lib.hid (refWriteIt_any x _ es w5 (HC.out.tree (x, es) (by simp)) HNX.out (fun _ => by have := HSX.out; omega))
    rw [HWA.out] at HWR
    refine HWR.out.mono ?_
    rintro e w6 ⟨vb, rfl, hs, hb⟩
    obtain ⟨ab, cb, rfl, hcb, hmb⟩ := hs.form
    have HC := Lib.hid (((HC.out.step hb).addRow hs).drew)
    unfold maxLen at hmb
    clear hb hs HWR
    obtain ⟨q, hq⟩ : ∃ q, q = rightS 8 x := ⟨_, rfl⟩
    have HQ := Lib.hid hq
    clear hq
    go_wp2_with fail
    refine wp_region_any (by kernel_rfl) ?_
    change wpAny _ _ _ _ _ _ _ (World.drew _)
    apply tail_cut (I := fun W => Cx w [(p, es, 50), (w.heap.size, cs, 47)] [(x, es), (x, cs)] [(.slice ab a.length cb, a), (.slice aa a.length ca, a)] W)
    case' h1 =>
      intro HT
      refine wpAny_take (i := 0) (oi := { dst := some 27, op := _, type := _, pos := _, after := _, guard := none }) (v := .int .i64 ea) rfl (by kernel_rfl) (by kernel_rfl) (by kernel_rfl) (fun _ _ _ h => h) (Or.inl ⟨by rfl, by intro w; go_simp⟩) ?_
      simp only [Act.put, List.setIfInBounds_toArray, List.set_cons_zero, List.set_cons_succ]
      refine wpAny_take (i := 1) (oi := { dst := some 28, op := _, type := _, pos := _, after := _, guard := none }) (v := .int .i64 ea) rfl (by kernel_rfl) (by kernel_rfl) (by kernel_rfl) (fun _ _ _ h => h) (Or.inl ⟨by rfl, by intro w; go_simp⟩) ?_
      simp only [Act.put, List.setIfInBounds_toArray, List.set_cons_zero, List.set_cons_succ]
      refine wpAny_take (i := 2) (oi := { dst := some 29, op := _, type := _, pos := _, after := _, guard := none }) (v := .bool false) rfl (by kernel_rfl) (by kernel_rfl) (by kernel_rfl) (fun _ _ _ h => h) (Or.inl ⟨by rfl, by intro w; go_simp⟩) ?_
      simp only [Act.put, List.setIfInBounds_toArray, List.set_cons_zero, List.set_cons_succ]
      refine wpAny_take (i := 3) (oi := { dst := some 30, op := _, type := _, pos := _, after := _, guard := none }) (v := .bool false) rfl (by kernel_rfl) (by kernel_rfl) (by kernel_rfl) (fun _ _ _ h => h) (Or.inl ⟨by rfl, by intro w; go_simp⟩) ?_
      simp only [Act.put, List.setIfInBounds_toArray, List.set_cons_zero, List.set_cons_succ]
      refine wpAny_take (i := 4) (oi := { dst := some 31, op := _, type := _, pos := _, after := _, guard := some (3, false) }) (v := .slice aa a.length ca) rfl (by kernel_rfl) (by kernel_rfl) (by kernel_rfl) (fun _ _ _ h => h) (Or.inl ⟨by rfl, by intro w; go_simp⟩) ?_
      simp only [Act.put, List.setIfInBounds_toArray, List.set_cons_zero, List.set_cons_succ]
      refine wpAny_take (i := 5) (oi := { dst := some 32, op := _, type := _, pos := _, after := _, guard := some (3, false) }) (v := .slice ab a.length cb) rfl (by kernel_rfl) (by kernel_rfl) (by kernel_rfl) (fun _ _ _ h => h) (Or.inl ⟨by rfl, by intro w; go_simp⟩) ?_
      simp only [Act.put, List.setIfInBounds_toArray, List.set_cons_zero, List.set_cons_succ]
      refine wpAny_ready (rs := [6]) (by decide +kernel) (by simp) ?_
      refine AllReady.cons (o := { dst := some 33, op := .call { callee := .value (.func 14), args := #[.tmp 31, .tmp 32], argTypes := #[22, 22] }, type := _, pos := _, after := _, guard := some (3, false) }) rfl (fun K hK => ?_) AllReady.nil
      go_simp
      refine (same_b _ _ a a _ (HC.out.row (.slice aa a.length ca, a) (by simp)) (HC.out.row (.slice ab a.length cb, a) (by simp))).mono ?_
      rw [show decide (a = a) = true by simp]
      rintro e w7 ⟨rfl, hb⟩
      have HC := Lib.hid (HC.out.step hb)
      clear hb
      refine hK _ _ ?_
      clear hK K
      try simp only [Act.put, List.setIfInBounds_toArray, List.set_cons_zero, List.set_cons_succ]
      refine wpAny_take (i := 7) (oi := { dst := some 34, op := _, type := _, pos := _, after := _, guard := some (3, false) }) (v := .bool false) rfl (by kernel_rfl) (by kernel_rfl) (by kernel_rfl) (fun _ _ _ h => h) (Or.inl ⟨by rfl, by intro w; go_simp⟩) ?_
      simp only [Act.put, List.setIfInBounds_toArray, List.set_cons_zero, List.set_cons_succ]
      refine wpAny_take (i := 8) (oi := { dst := some 35, op := _, type := _, pos := _, after := _, guard := none }) (v := .bool false) rfl (by kernel_rfl) (by kernel_rfl) (by kernel_rfl) (fun _ _ _ h => h) (Or.inl ⟨by rfl, by intro w; go_simp⟩) ?_
      simp only [Act.put, List.setIfInBounds_toArray, List.set_cons_zero, List.set_cons_succ]
      refine wpAny_take (i := 9) (oi := { dst := some 36, op := _, type := _, pos := _, after := _, guard := none }) (v := .bool false) rfl (by kernel_rfl) (by kernel_rfl) (by kernel_rfl) (fun _ _ _ h => h) (Or.inl ⟨by rfl, by intro w; go_simp⟩) ?_
      simp only [Act.put, List.setIfInBounds_toArray, List.set_cons_zero, List.set_cons_succ]
      refine wpAny_ready (rs := [10, 12]) (by decide +kernel) (by simp) ?_
      refine AllReady.cons (o := { dst := some 37, op := .load 47 (.tmp 1), type := _, pos := _, after := _, guard := some (9, false) }) rfl (fun K hK => ?_) (AllReady.cons (o := { dst := some 39, op := .load 50 (.tmp 3), type := _, pos := _, after := _, guard := some (9, false) }) rfl (fun K hK => ?_) AllReady.nil)
      · refine step_ldAggG (b := w.heap.size) (off := 0) rfl (.tmp 1) aggDer rfl (by simp [Act.eval]) HCL.out (HC.out.cells (T := 47) (by simp)) ?_
        refine hK _ _ ?_
        clear hK K
        try simp only [Act.put, List.setIfInBounds_toArray, List.set_cons_zero, List.set_cons_succ]
        refine wpAny_ready (rs := [11, 12]) (by decide +kernel) (by simp) ?_
        refine AllReady.cons (o := { dst := some 38, op := .call { callee := .value (.func 33), args := #[.tmp 37], argTypes := #[47] }, type := _, pos := _, after := _, guard := some (9, false) }) rfl (fun K hK => ?_) (AllReady.cons (o := { dst := some 39, op := .load 50 (.tmp 3), type := _, pos := _, after := _, guard := some (9, false) }) rfl (fun K hK => ?_) AllReady.nil)
        · go_simp
          refine (derRightIt_any x _ cs _ (HC.out.tree (x, cs) (by simp))).mono ?_
          rw [← HQ.out]
          rintro e w8 ⟨rfl, hb⟩
          have HC := Lib.hid (HC.out.step hb)
          clear hb
          refine hK _ _ ?_
          clear hK K
          try simp only [Act.put, List.setIfInBounds_toArray, List.set_cons_zero, List.set_cons_succ]
          refine wpAny_ready (rs := [12]) (by decide +kernel) (by simp) ?_
          refine AllReady.cons (o := { dst := some 39, op := .load 50 (.tmp 3), type := _, pos := _, after := _, guard := some (9, false) }) rfl (fun K hK => ?_) AllReady.nil
          refine step_ldAggG (b := p) (off := 0) rfl (.tmp 3) aggRef rfl (by simp [Act.eval]) HEL.out (HC.out.cells (T := 50) (by simp)) ?_
          refine hK _ _ ?_
          clear hK K
          try simp only [Act.put, List.setIfInBounds_toArray, List.set_cons_zero, List.set_cons_succ]
          refine wpAny_ready (rs := [13]) (by decide +kernel) (by simp) ?_
          refine AllReady.cons (o := { dst := some 40, op := .call { callee := .value (.func 34), args := #[.tmp 39, .const (.int .i64 1)], argTypes := #[50, 3] }, type := _, pos := _, after := _, guard := some (9, false) }) rfl (fun K hK => ?_) AllReady.nil
          go_simp
          refine (refRight_any 8 1 x _ es _ (by decide) (Nat.le_refl _) (HC.out.tree (x, es) (by simp))).mono ?_
          rw [← HQ.out]
          rintro e w9 ⟨rfl, hb⟩
          have HC := Lib.hid (HC.out.step hb)
          clear hb
          refine hK _ _ ?_
          clear hK K
          try simp only [Act.put, List.setIfInBounds_toArray, List.set_cons_zero, List.set_cons_succ]
          refine any_listed (l' := #[true, true, true, true, true, true, true, true, true, true, true, true, true, true, false, false]) (by decide +kernel) ?_
          exact HT _ HC.out
        · refine step_ldAggG (b := p) (off := 0) rfl (.tmp 3) aggRef rfl (by simp [Act.eval]) HEL.out (HC.out.cells (T := 50) (by simp)) ?_
          refine hK _ _ ?_
          clear hK K
          try simp only [Act.put, List.setIfInBounds_toArray, List.set_cons_zero, List.set_cons_succ]
          refine wpAny_ready (rs := [11]) (by decide +kernel) (by simp) ?_
          refine AllReady.cons (o := { dst := some 38, op := .call { callee := .value (.func 33), args := #[.tmp 37], argTypes := #[47] }, type := _, pos := _, after := _, guard := some (9, false) }) rfl (fun K hK => ?_) AllReady.nil
          go_simp
          refine (derRightIt_any x _ cs _ (HC.out.tree (x, cs) (by simp))).mono ?_
          rw [← HQ.out]
          rintro e w8 ⟨rfl, hb⟩
          have HC := Lib.hid (HC.out.step hb)
          clear hb
          refine hK _ _ ?_
          clear hK K
          try simp only [Act.put, List.setIfInBounds_toArray, List.set_cons_zero, List.set_cons_succ]
          refine wpAny_ready (rs := [13]) (by decide +kernel) (by simp) ?_
          refine AllReady.cons (o := { dst := some 40, op := .call { callee := .value (.func 34), args := #[.tmp 39, .const (.int .i64 1)], argTypes := #[50, 3] }, type := _, pos := _, after := _, guard := some (9, false) }) rfl (fun K hK => ?_) AllReady.nil
          go_simp
          refine (refRight_any 8 1 x _ es _ (by decide) (Nat.le_refl _) (HC.out.tree (x, es) (by simp))).mono ?_
          rw [← HQ.out]
          rintro e w9 ⟨rfl, hb⟩
          have HC := Lib.hid (HC.out.step hb)
          clear hb
          refine hK _ _ ?_
          clear hK K
          try simp only [Act.put, List.setIfInBounds_toArray, List.set_cons_zero, List.set_cons_succ]
          refine any_listed (l' := #[true, true, true, true, true, true, true, true, true, true, true, true, true, true, false, false]) (by decide +kernel) ?_
          exact HT _ HC.out
      · refine step_ldAggG (b := p) (off := 0) rfl (.tmp 3) aggRef rfl (by simp [Act.eval]) HEL.out (HC.out.cells (T := 50) (by simp)) ?_
        refine hK _ _ ?_
        clear hK K
        try simp only [Act.put, List.setIfInBounds_toArray, List.set_cons_zero, List.set_cons_succ]
        refine wpAny_ready (rs := [10]) (by decide +kernel) (by simp) ?_
        refine AllReady.cons (o := { dst := some 37, op := .load 47 (.tmp 1), type := _, pos := _, after := _, guard := some (9, false) }) rfl (fun K hK => ?_) AllReady.nil
        refine step_ldAggG (b := w.heap.size) (off := 0) rfl (.tmp 1) aggDer rfl (by simp [Act.eval]) HCL.out (HC.out.cells (T := 47) (by simp)) ?_
        refine hK _ _ ?_
        clear hK K
        try simp only [Act.put, List.setIfInBounds_toArray, List.set_cons_zero, List.set_cons_succ]
        refine wpAny_ready (rs := [11]) (by decide +kernel) (by simp) ?_
        refine AllReady.cons (o := { dst := some 38, op := .call { callee := .value (.func 33), args := #[.tmp 37], argTypes := #[47] }, type := _, pos := _, after := _, guard := some (9, false) }) rfl (fun K hK => ?_) AllReady.nil
        go_simp
        refine (derRightIt_any x _ cs _ (HC.out.tree (x, cs) (by simp))).mono ?_
        rw [← HQ.out]
        rintro e w8 ⟨rfl, hb⟩
        have HC := Lib.hid (HC.out.step hb)
        clear hb
        refine hK _ _ ?_
        clear hK K
        try simp only [Act.put, List.setIfInBounds_toArray, List.set_cons_zero, List.set_cons_succ]
        refine wpAny_ready (rs := [13]) (by decide +kernel) (by simp) ?_
        refine AllReady.cons (o := { dst := some 40, op := .call { callee := .value (.func 34), args := #[.tmp 39, .const (.int .i64 1)], argTypes := #[50, 3] }, type := _, pos := _, after := _, guard := some (9, false) }) rfl (fun K hK => ?_) AllReady.nil
        go_simp
        refine (refRight_any 8 1 x _ es _ (by decide) (Nat.le_refl _) (HC.out.tree (x, es) (by simp))).mono ?_
        rw [← HQ.out]
        rintro e w9 ⟨rfl, hb⟩
        have HC := Lib.hid (HC.out.step hb)
        clear hb
        refine hK _ _ ?_
        clear hK K
        try simp only [Act.put, List.setIfInBounds_toArray, List.set_cons_zero, List.set_cons_succ]
        refine any_listed (l' := #[true, true, true, true, true, true, true, true, true, true, true, true, true, true, false, false]) (by decide +kernel) ?_
        exact HT _ HC.out
    case' h2 =>
      intro W hW
      have HC := Lib.hid hW
      clear hW
      refine wpAny_take (i := 14) (oi := { dst := some 41, op := _, type := _, pos := _, after := _, guard := some (9, false) }) (v := .bool false) rfl (by kernel_rfl) (by kernel_rfl) (by kernel_rfl) (fun _ _ _ h => h) (Or.inl ⟨by rfl, by intro w; go_simp⟩) ?_
      simp only [Act.put, List.setIfInBounds_toArray, List.set_cons_zero, List.set_cons_succ]
      refine wpAny_take (i := 15) (oi := { dst := some 42, op := _, type := _, pos := _, after := _, guard := none }) (v := .bool false) rfl (by kernel_rfl) (by kernel_rfl) (by kernel_rfl) (fun _ _ _ h => h) (Or.inl ⟨by rfl, by intro w; go_simp⟩) ?_
      simp only [Act.put, List.setIfInBounds_toArray, List.set_cons_zero, List.set_cons_succ]
      refine wpAny_done (by decide +kernel) ?_ _
      by_cases hea : ea = 0
      · subst hea
        obtain ⟨rx, hax, hlx⟩ := wrS_ok HWA.out
        have hwh := wholeS_write rx HNX.out hlx
        rw [← hax] at hwh
        have HRD := Lib.hid (derWhole_any _ _ W (HC.out.row (.slice aa a.length ca, a) (by simp)))
        rw [hwh] at HRD
        clear rx hax hlx hwh
        go_wp2_with fail
        refine HRD.out.mono ?_
        rintro e w10 ⟨gs, rfl, htv, hb⟩
        have HGL : Hid (gs.length = 5) := Lib.hid htv.length
        have HG1 := Lib.hid htv.one
        have HN := Lib.hid (Blk.new w10 zs5 47)
        have HC := Lib.hid ((HC.out.step hb).addTree htv)
        clear hb htv HRD
        go_wp2_with ((with_reducible show wpList _ _ _ (⟨none, .store _ (.tmp 8) (.tmp 46), _, _, _, _⟩ :: _) _ _); refine wpList_stAgg rfl (.tmp 8) (.tmp 46) aggDer rfl rfl (vs := gs) rfl HGL.out HN.out (Nat.le_refl _) HG1.out ?_)
        intro w11 h11 k11
        obtain ⟨hcx, hb11, hz11⟩ := HC.out.lay rfl (by rw [HGL.out]; rfl) h11 k11
        have HC := Lib.hid hcx
        obtain ⟨r, hr⟩ : ∃ r, r = w10.heap.size := ⟨_, rfl⟩
        rw [← hr] at HC ⊢
        have HC := Lib.hid HC.out.drew
        clear h11 k11 hcx hb11 HN hr
        go_wp2_with fail
        refine wp_region_any (by kernel_rfl) ?_
        change wpAny _ _ _ _ _ _ _ (World.drew _)
        apply tail_cut (I := fun W => Cx w [(r, gs, 47), (p, es, 50), (w.heap.size, cs, 47)] [(x, gs), (x, es), (x, cs)] _ W)
        case' h1 =>
          intro HT
          refine wpAny_take (i := 0) (oi := { dst := some 48, op := _, type := _, pos := _, after := _, guard := none }) (v := .int .i64 0) rfl (by kernel_rfl) (by kernel_rfl) (by kernel_rfl) (fun _ _ _ h => h) (Or.inl ⟨by rfl, by intro w; go_simp⟩) ?_
          simp only [Act.put, List.setIfInBounds_toArray, List.set_cons_zero, List.set_cons_succ]
          refine wpAny_take (i := 1) (oi := { dst := some 49, op := _, type := _, pos := _, after := _, guard := none }) (v := .bool false) rfl (by kernel_rfl) (by kernel_rfl) (by kernel_rfl) (fun _ _ _ h => h) (Or.inl ⟨by rfl, by intro w; go_simp⟩) ?_
          simp only [Act.put, List.setIfInBounds_toArray, List.set_cons_zero, List.set_cons_succ]
          refine wpAny_take (i := 2) (oi := { dst := some 50, op := _, type := _, pos := _, after := _, guard := none }) (v := .bool false) rfl (by kernel_rfl) (by kernel_rfl) (by kernel_rfl) (fun _ _ _ h => h) (Or.inl ⟨by rfl, by intro w; go_simp⟩) ?_
          simp only [Act.put, List.setIfInBounds_toArray, List.set_cons_zero, List.set_cons_succ]
          refine wpAny_take (i := 3) (oi := { dst := some 51, op := _, type := _, pos := _, after := _, guard := some (2, false) }) (v := .int .i64 0) rfl (by kernel_rfl) (by kernel_rfl) (by kernel_rfl) (fun _ _ _ h => h) (Or.inl ⟨by rfl, by intro w; go_simp⟩) ?_
          simp only [Act.put, List.setIfInBounds_toArray, List.set_cons_zero, List.set_cons_succ]
          refine wpAny_take (i := 4) (oi := { dst := some 52, op := _, type := _, pos := _, after := _, guard := some (2, false) }) (v := .bool true) rfl (by kernel_rfl) (by kernel_rfl) (by kernel_rfl) (fun _ _ _ h => h) (Or.inl ⟨by rfl, by intro w; go_simp⟩) ?_
          simp only [Act.put, List.setIfInBounds_toArray, List.set_cons_zero, List.set_cons_succ]
          refine wpAny_take (i := 5) (oi := { dst := some 53, op := _, type := _, pos := _, after := _, guard := some (2, false) }) (v := .bool true) rfl (by kernel_rfl) (by kernel_rfl) (by kernel_rfl) (fun _ _ _ h => h) (Or.inl ⟨by rfl, by intro w; go_simp⟩) ?_
          simp only [Act.put, List.setIfInBounds_toArray, List.set_cons_zero, List.set_cons_succ]
          refine wpAny_ready (rs := [6, 7]) (by decide +kernel) (by simp) ?_
          refine AllReady.cons (o := { dst := some 54, op := .load 47 (.tmp 1), type := _, pos := _, after := _, guard := some (5, true) }) rfl (fun K hK => ?_) (AllReady.cons (o := { dst := some 55, op := .load 47 (.tmp 8), type := _, pos := _, after := _, guard := some (5, true) }) rfl (fun K hK => ?_) AllReady.nil)
          · refine step_ldAggG (b := w.heap.size) (off := 0) rfl (.tmp 1) aggDer rfl (by simp [Act.eval]) HCL.out (HC.out.cells (T := 47) (by simp)) ?_
            refine hK _ _ ?_
            clear hK K
            try simp only [Act.put, List.setIfInBounds_toArray, List.set_cons_zero, List.set_cons_succ]
            refine wpAny_ready (rs := [7]) (by decide +kernel) (by simp) ?_
            refine AllReady.cons (o := { dst := some 55, op := .load 47 (.tmp 8), type := _, pos := _, after := _, guard := some (5, true) }) rfl (fun K hK => ?_) AllReady.nil
            refine step_ldAggG (b := r) (off := 0) rfl (.tmp 8) aggDer rfl (by simp [Act.eval]) HGL.out (HC.out.cells (T := 47) (by simp)) ?_
            refine hK _ _ ?_
            clear hK K
            try simp only [Act.put, List.setIfInBounds_toArray, List.set_cons_zero, List.set_cons_succ]
            refine wpAny_ready (rs := [8]) (by decide +kernel) (by simp) ?_
            refine AllReady.cons (o := { dst := some 56, op := .call { callee := .value (.func 36), args := #[.tmp 54, .tmp 55], argTypes := #[47, 47] }, type := _, pos := _, after := _, guard := some (5, true) }) rfl (fun K hK => ?_) AllReady.nil
            go_simp
            refine (derSame_any x x _ _ cs gs _ (HC.out.tree (x, cs) (by simp)) (HC.out.tree (x, gs) (by simp))).mono ?_
            rw [(tvEq_iff x x).2 rfl]
            rintro e w12 ⟨rfl, hb⟩
            have HC := Lib.hid (HC.out.step hb)
            clear hb
            refine hK _ _ ?_
            clear hK K
            try simp only [Act.put, List.setIfInBounds_toArray, List.set_cons_zero, List.set_cons_succ]
            refine any_listed (l' := #[true, true, true, true, true, true, true, true, true, false, false, false, false, false, false, false, false, false]) (by decide +kernel) ?_
            exact HT _ HC.out
          · refine step_ldAggG (b := r) (off := 0) rfl (.tmp 8) aggDer rfl (by simp [Act.eval]) HGL.out (HC.out.cells (T := 47) (by simp)) ?_
            refine hK _ _ ?_
            clear hK K
            try simp only [Act.put, List.setIfInBounds_toArray, List.set_cons_zero, List.set_cons_succ]
            refine wpAny_ready (rs := [6]) (by decide +kernel) (by simp) ?_
            refine AllReady.cons (o := { dst := some 54, op := .load 47 (.tmp 1), type := _, pos := _, after := _, guard := some (5, true) }) rfl (fun K hK => ?_) AllReady.nil
            refine step_ldAggG (b := w.heap.size) (off := 0) rfl (.tmp 1) aggDer rfl (by simp [Act.eval]) HCL.out (HC.out.cells (T := 47) (by simp)) ?_
            refine hK _ _ ?_
            clear hK K
            try simp only [Act.put, List.setIfInBounds_toArray, List.set_cons_zero, List.set_cons_succ]
            refine wpAny_ready (rs := [8]) (by decide +kernel) (by simp) ?_
            refine AllReady.cons (o := { dst := some 56, op := .call { callee := .value (.func 36), args := #[.tmp 54, .tmp 55], argTypes := #[47, 47] }, type := _, pos := _, after := _, guard := some (5, true) }) rfl (fun K hK => ?_) AllReady.nil
            go_simp
            refine (derSame_any x x _ _ cs gs _ (HC.out.tree (x, cs) (by simp)) (HC.out.tree (x, gs) (by simp))).mono ?_
            rw [(tvEq_iff x x).2 rfl]
            rintro e w12 ⟨rfl, hb⟩
            have HC := Lib.hid (HC.out.step hb)
            clear hb
            refine hK _ _ ?_
            clear hK K
            try simp only [Act.put, List.setIfInBounds_toArray, List.set_cons_zero, List.set_cons_succ]
            refine any_listed (l' := #[true, true, true, true, true, true, true, true, true, false, false, false, false, false, false, false, false, false]) (by decide +kernel) ?_
            exact HT _ HC.out
        case' h2 =>
          intro W hW
          have HC := Lib.hid hW
          clear hW
          refine wpAny_take (i := 9) (oi := { dst := some 57, op := _, type := _, pos := _, after := _, guard := some (2, false) }) (v := .bool true) rfl (by kernel_rfl) (by kernel_rfl) (by kernel_rfl) (fun _ _ _ h => h) (Or.inl ⟨by rfl, by intro w; go_simp⟩) ?_
          simp only [Act.put, List.setIfInBounds_toArray, List.set_cons_zero, List.set_cons_succ]
          refine wpAny_take (i := 10) (oi := { dst := some 58, op := _, type := _, pos := _, after := _, guard := some (2, false) }) (v := .bool true) rfl (by kernel_rfl) (by kernel_rfl) (by kernel_rfl) (fun _ _ _ h => h) (Or.inl ⟨by rfl, by intro w; go_simp⟩) ?_
          simp only [Act.put, List.setIfInBounds_toArray, List.set_cons_zero, List.set_cons_succ]
          refine wpAny_ready (rs := [11, 12]) (by decide +kernel) (by simp) ?_
          refine AllReady.cons (o := { dst := some 59, op := .load 50 (.tmp 3), type := _, pos := _, after := _, guard := some (10, true) }) rfl (fun K hK => ?_) (AllReady.cons (o := { dst := some 60, op := .load 47 (.tmp 8), type := _, pos := _, after := _, guard := some (10, true) }) rfl (fun K hK => ?_) AllReady.nil)
          · refine step_ldAggG (b := p) (off := 0) rfl (.tmp 3) aggRef rfl (by simp [Act.eval]) HEL.out (HC.out.cells (T := 50) (by simp)) ?_
            refine hK _ _ ?_
            clear hK K
            try simp only [Act.put, List.setIfInBounds_toArray, List.set_cons_zero, List.set_cons_succ]
            refine wpAny_ready (rs := [12]) (by decide +kernel) (by simp) ?_
            refine AllReady.cons (o := { dst := some 60, op := .load 47 (.tmp 8), type := _, pos := _, after := _, guard := some (10, true) }) rfl (fun K hK => ?_) AllReady.nil
            refine step_ldAggG (b := r) (off := 0) rfl (.tmp 8) aggDer rfl (by simp [Act.eval]) HGL.out (HC.out.cells (T := 47) (by simp)) ?_
            refine hK _ _ ?_
            clear hK K
            try simp only [Act.put, List.setIfInBounds_toArray, List.set_cons_zero, List.set_cons_succ]
            refine wpAny_ready (rs := [13]) (by decide +kernel) (by simp) ?_
            refine AllReady.cons (o := { dst := some 61, op := .call { callee := .value (.func 29), args := #[.tmp 60], argTypes := #[47] }, type := _, pos := _, after := _, guard := some (10, true) }) rfl (fun K hK => ?_) AllReady.nil
            go_simp
            refine (plain_any x _ gs _ (HC.out.tree (x, gs) (by simp)) HLX.out).mono ?_
            rintro e w13 ⟨ks, rfl, htv, hb⟩
            have HC := Lib.hid ((HC.out.step hb).addTree htv)
            clear hb htv
            refine hK _ _ ?_
            clear hK K
            try simp only [Act.put, List.setIfInBounds_toArray, List.set_cons_zero, List.set_cons_succ]
            refine wpAny_ready (rs := [14]) (by decide +kernel) (by simp) ?_
            refine AllReady.cons (o := { dst := some 62, op := .call { callee := .value (.func 37), args := #[.tmp 59, .tmp 61], argTypes := #[50, 50] }, type := _, pos := _, after := _, guard := some (10, true) }) rfl (fun K hK => ?_) AllReady.nil
            go_simp
            refine (refSameT_any x x _ _ es ks _ (HC.out.tree (x, es) (by simp)) (HC.out.tree (x, ks) (by simp))).mono ?_
            rw [(tvEq_iff x x).2 rfl]
            rintro e w14 ⟨rfl, hb⟩
            have HC := Lib.hid (HC.out.step hb)
            clear hb
            refine hK _ _ ?_
            clear hK K
            try simp only [Act.put, List.setIfInBounds_toArray, List.set_cons_zero, List.set_cons_succ]
            refine wpAny_take (i := 15) (oi := { dst := some 63, op := _, type := _, pos := _, after := _, guard := some (2, false) }) (v := .bool true) rfl (by kernel_rfl) (by kernel_rfl) (by kernel_rfl) (fun _ _ _ h => h) (Or.inl ⟨by rfl, by intro w; go_simp⟩) ?_
            simp only [Act.put, List.setIfInBounds_toArray, List.set_cons_zero, List.set_cons_succ]
            refine wpAny_take (i := 16) (oi := { dst := some 64, op := _, type := _, pos := _, after := _, guard := none }) (v := .bool true) rfl (by kernel_rfl) (by kernel_rfl) (by kernel_rfl) (fun _ _ _ h => h) (Or.inl ⟨by rfl, by intro w; go_simp⟩) ?_
            simp only [Act.put, List.setIfInBounds_toArray, List.set_cons_zero, List.set_cons_succ]
            refine wpAny_take (i := 17) (oi := { dst := some 2, op := _, type := _, pos := _, after := _, guard := none }) (v := .bool true) rfl (by kernel_rfl) (by kernel_rfl) (by kernel_rfl) (fun _ _ _ h => h) (Or.inl ⟨by rfl, by intro w; go_simp⟩) ?_
            simp only [Act.put, List.setIfInBounds_toArray, List.set_cons_zero, List.set_cons_succ]
            refine wpAny_done (by decide +kernel) ?_ _
            go_wp2_with fail
            go_ret
            exact ⟨rfl, HC.out.below⟩
          · refine step_ldAggG (b := r) (off := 0) rfl (.tmp 8) aggDer rfl (by simp [Act.eval]) HGL.out (HC.out.cells (T := 47) (by simp)) ?_
            refine hK _ _ ?_
            clear hK K
            try simp only [Act.put, List.setIfInBounds_toArray, List.set_cons_zero, List.set_cons_succ]
            refine wpAny_ready (rs := [11, 13]) (by decide +kernel) (by simp) ?_
            refine AllReady.cons (o := { dst := some 59, op := .load 50 (.tmp 3), type := _, pos := _, after := _, guard := some (10, true) }) rfl (fun K hK => ?_) (AllReady.cons (o := { dst := some 61, op := .call { callee := .value (.func 29), args := #[.tmp 60], argTypes := #[47] }, type := _, pos := _, after := _, guard := some (10, true) }) rfl (fun K hK => ?_) AllReady.nil)
            · refine step_ldAggG (b := p) (off := 0) rfl (.tmp 3) aggRef rfl (by simp [Act.eval]) HEL.out (HC.out.cells (T := 50) (by simp)) ?_
              refine hK _ _ ?_
              clear hK K
              try simp only [Act.put, List.setIfInBounds_toArray, List.set_cons_zero, List.set_cons_succ]
              refine wpAny_ready (rs := [13]) (by decide +kernel) (by simp) ?_
              refine AllReady.cons (o := { dst := some 61, op := .call { callee := .value (.func 29), args := #[.tmp 60], argTypes := #[47] }, type := _, pos := _, after := _, guard := some (10, true) }) rfl (fun K hK => ?_) AllReady.nil
              go_simp
              refine (plain_any x _ gs _ (HC.out.tree (x, gs) (by simp)) HLX.out).mono ?_
              rintro e w13 ⟨ks, rfl, htv, hb⟩
              have HC := Lib.hid ((HC.out.step hb).addTree htv)
              clear hb htv
              refine hK _ _ ?_
              clear hK K
              try simp only [Act.put, List.setIfInBounds_toArray, List.set_cons_zero, List.set_cons_succ]
              refine wpAny_ready (rs := [14]) (by decide +kernel) (by simp) ?_
              refine AllReady.cons (o := { dst := some 62, op := .call { callee := .value (.func 37), args := #[.tmp 59, .tmp 61], argTypes := #[50, 50] }, type := _, pos := _, after := _, guard := some (10, true) }) rfl (fun K hK => ?_) AllReady.nil
              go_simp
              refine (refSameT_any x x _ _ es ks _ (HC.out.tree (x, es) (by simp)) (HC.out.tree (x, ks) (by simp))).mono ?_
              rw [(tvEq_iff x x).2 rfl]
              rintro e w14 ⟨rfl, hb⟩
              have HC := Lib.hid (HC.out.step hb)
              clear hb
              refine hK _ _ ?_
              clear hK K
              try simp only [Act.put, List.setIfInBounds_toArray, List.set_cons_zero, List.set_cons_succ]
              refine wpAny_take (i := 15) (oi := { dst := some 63, op := _, type := _, pos := _, after := _, guard := some (2, false) }) (v := .bool true) rfl (by kernel_rfl) (by kernel_rfl) (by kernel_rfl) (fun _ _ _ h => h) (Or.inl ⟨by rfl, by intro w; go_simp⟩) ?_
              simp only [Act.put, List.setIfInBounds_toArray, List.set_cons_zero, List.set_cons_succ]
              refine wpAny_take (i := 16) (oi := { dst := some 64, op := _, type := _, pos := _, after := _, guard := none }) (v := .bool true) rfl (by kernel_rfl) (by kernel_rfl) (by kernel_rfl) (fun _ _ _ h => h) (Or.inl ⟨by rfl, by intro w; go_simp⟩) ?_
              simp only [Act.put, List.setIfInBounds_toArray, List.set_cons_zero, List.set_cons_succ]
              refine wpAny_take (i := 17) (oi := { dst := some 2, op := _, type := _, pos := _, after := _, guard := none }) (v := .bool true) rfl (by kernel_rfl) (by kernel_rfl) (by kernel_rfl) (fun _ _ _ h => h) (Or.inl ⟨by rfl, by intro w; go_simp⟩) ?_
              simp only [Act.put, List.setIfInBounds_toArray, List.set_cons_zero, List.set_cons_succ]
              refine wpAny_done (by decide +kernel) ?_ _
              go_wp2_with fail
              go_ret
              exact ⟨rfl, HC.out.below⟩
            · go_simp
              refine (plain_any x _ gs _ (HC.out.tree (x, gs) (by simp)) HLX.out).mono ?_
              rintro e w13 ⟨ks, rfl, htv, hb⟩
              have HC := Lib.hid ((HC.out.step hb).addTree htv)
              clear hb htv
              refine hK _ _ ?_
              clear hK K
              try simp only [Act.put, List.setIfInBounds_toArray, List.set_cons_zero, List.set_cons_succ]
              refine wpAny_ready (rs := [11]) (by decide +kernel) (by simp) ?_
              refine AllReady.cons (o := { dst := some 59, op := .load 50 (.tmp 3), type := _, pos := _, after := _, guard := some (10, true) }) rfl (fun K hK => ?_) AllReady.nil
              refine step_ldAggG (b := p) (off := 0) rfl (.tmp 3) aggRef rfl (by simp [Act.eval]) HEL.out (HC.out.cells (T := 50) (by simp)) ?_
              refine hK _ _ ?_
              clear hK K
              try simp only [Act.put, List.setIfInBounds_toArray, List.set_cons_zero, List.set_cons_succ]
              refine wpAny_ready (rs := [14]) (by decide +kernel) (by simp) ?_
              refine AllReady.cons (o := { dst := some 62, op := .call { callee := .value (.func 37), args := #[.tmp 59, .tmp 61], argTypes := #[50, 50] }, type := _, pos := _, after := _, guard := some (10, true) }) rfl (fun K hK => ?_) AllReady.nil
              go_simp
              refine (refSameT_any x x _ _ es ks _ (HC.out.tree (x, es) (by simp)) (HC.out.tree (x, ks) (by simp))).mono ?_
              rw [(tvEq_iff x x).2 rfl]
              rintro e w14 ⟨rfl, hb⟩
              have HC := Lib.hid (HC.out.step hb)
              clear hb
              refine hK _ _ ?_
              clear hK K
              try simp only [Act.put, List.setIfInBounds_toArray, List.set_cons_zero, List.set_cons_succ]
              refine wpAny_take (i := 15) (oi := { dst := some 63, op := _, type := _, pos := _, after := _, guard := some (2, false) }) (v := .bool true) rfl (by kernel_rfl) (by kernel_rfl) (by kernel_rfl) (fun _ _ _ h => h) (Or.inl ⟨by rfl, by intro w; go_simp⟩) ?_
              simp only [Act.put, List.setIfInBounds_toArray, List.set_cons_zero, List.set_cons_succ]
              refine wpAny_take (i := 16) (oi := { dst := some 64, op := _, type := _, pos := _, after := _, guard := none }) (v := .bool true) rfl (by kernel_rfl) (by kernel_rfl) (by kernel_rfl) (fun _ _ _ h => h) (Or.inl ⟨by rfl, by intro w; go_simp⟩) ?_
              simp only [Act.put, List.setIfInBounds_toArray, List.set_cons_zero, List.set_cons_succ]
              refine wpAny_take (i := 17) (oi := { dst := some 2, op := _, type := _, pos := _, after := _, guard := none }) (v := .bool true) rfl (by kernel_rfl) (by kernel_rfl) (by kernel_rfl) (fun _ _ _ h => h) (Or.inl ⟨by rfl, by intro w; go_simp⟩) ?_
              simp only [Act.put, List.setIfInBounds_toArray, List.set_cons_zero, List.set_cons_succ]
              refine wpAny_done (by decide +kernel) ?_ _
              go_wp2_with fail
              go_ret
              exact ⟨rfl, HC.out.below⟩
      · have HEA := Lib.hid hea
        obtain ⟨z, g, hzg⟩ : ∃ z g, wholeS a = (z, g) := ⟨_, _, rfl⟩
        have HRD := Lib.hid (derWhole_any _ _ W (HC.out.row (.slice aa a.length ca, a) (by simp)))
        rw [hzg] at HRD
        clear hea hzg
        go_wp2_with fail
        refine HRD.out.mono ?_
        rintro e w10 ⟨gs, rfl, htv, hb⟩
        have HGL : Hid (gs.length = 5) := Lib.hid htv.length
        have HG1 := Lib.hid htv.one
        have HN := Lib.hid (Blk.new w10 zs5 47)
        have HC := Lib.hid ((HC.out.step hb).addTree htv)
        clear hb htv HRD
        go_wp2_with ((with_reducible show wpList _ _ _ (⟨none, .store _ (.tmp 8) (.tmp 46), _, _, _, _⟩ :: _) _ _); refine wpList_stAgg rfl (.tmp 8) (.tmp 46) aggDer rfl rfl (vs := gs) rfl HGL.out HN.out (Nat.le_refl _) HG1.out ?_)
        intro w11 h11 k11
        obtain ⟨hcx, hb11, hz11⟩ := HC.out.lay rfl (by rw [HGL.out]; rfl) h11 k11
        have HC := Lib.hid hcx
        obtain ⟨r, hr⟩ : ∃ r, r = w10.heap.size := ⟨_, rfl⟩
        rw [← hr] at HC ⊢
        have HC := Lib.hid HC.out.drew
        clear h11 k11 hcx hb11 HN hr
        go_wp2_with fail
        refine wp_region_any (by kernel_rfl) ?_
        change wpAny _ _ _ _ _ _ _ (World.drew _)
        refine wpAny_take (i := 0) (oi := { dst := some 48, op := _, type := _, pos := _, after := _, guard := none }) (v := .int .i64 ea) rfl (by kernel_rfl) (by kernel_rfl) (by kernel_rfl) (fun _ _ _ h => h) (Or.inl ⟨by rfl, by intro w; go_simp⟩) ?_
        simp only [Act.put, List.setIfInBounds_toArray, List.set_cons_zero, List.set_cons_succ]
        refine wpAny_take (i := 1) (oi := { dst := some 49, op := _, type := _, pos := _, after := _, guard := none }) (v := .bool true) rfl (by kernel_rfl) (by kernel_rfl) (by kernel_rfl) (fun _ _ _ h => h) (Or.inl ⟨by rfl, by intro w; go_simp; simpa using HEA.out⟩) ?_
        simp only [Act.put, List.setIfInBounds_toArray, List.set_cons_zero, List.set_cons_succ]
        refine wpAny_take (i := 2) (oi := { dst := some 50, op := _, type := _, pos := _, after := _, guard := none }) (v := .bool true) rfl (by kernel_rfl) (by kernel_rfl) (by kernel_rfl) (fun _ _ _ h => h) (Or.inl ⟨by rfl, by intro w; go_simp⟩) ?_
        simp only [Act.put, List.setIfInBounds_toArray, List.set_cons_zero, List.set_cons_succ]
        refine wpAny_take (i := 3) (oi := { dst := some 51, op := _, type := _, pos := _, after := _, guard := some (2, false) }) (v := undef) rfl (by kernel_rfl) (by kernel_rfl) (by kernel_rfl) (fun _ _ _ h => h) (Or.inr ⟨by rfl, rfl⟩) ?_
        simp only [Act.put, List.setIfInBounds_toArray, List.set_cons_zero, List.set_cons_succ]
        refine wpAny_take (i := 4) (oi := { dst := some 52, op := _, type := _, pos := _, after := _, guard := some (2, false) }) (v := undef) rfl (by kernel_rfl) (by kernel_rfl) (by kernel_rfl) (fun _ _ _ h => h) (Or.inr ⟨by rfl, rfl⟩) ?_
        simp only [Act.put, List.setIfInBounds_toArray, List.set_cons_zero, List.set_cons_succ]
        refine wpAny_take (i := 5) (oi := { dst := some 53, op := _, type := _, pos := _, after := _, guard := some (2, false) }) (v := undef) rfl (by kernel_rfl) (by kernel_rfl) (by kernel_rfl) (fun _ _ _ h => h) (Or.inr ⟨by rfl, rfl⟩) ?_
        simp only [Act.put, List.setIfInBounds_toArray, List.set_cons_zero, List.set_cons_succ]
        refine wpAny_take (i := 6) (oi := { dst := some 54, op := _, type := _, pos := _, after := _, guard := some (5, true) }) (v := undef) rfl (by kernel_rfl) (by kernel_rfl) (by kernel_rfl) (fun _ _ _ h => h) (Or.inr ⟨by rfl, rfl⟩) ?_
        simp only [Act.put, List.setIfInBounds_toArray, List.set_cons_zero, List.set_cons_succ]
        refine wpAny_take (i := 7) (oi := { dst := some 55, op := _, type := _, pos := _, after := _, guard := some (5, true) }) (v := undef) rfl (by kernel_rfl) (by kernel_rfl) (by kernel_rfl) (fun _ _ _ h => h) (Or.inr ⟨by rfl, rfl⟩) ?_
        simp only [Act.put, List.setIfInBounds_toArray, List.set_cons_zero, List.set_cons_succ]
        refine wpAny_take (i := 8) (oi := { dst := some 56, op := _, type := _, pos := _, after := _, guard := some (5, true) }) (v := undef) rfl (by kernel_rfl) (by kernel_rfl) (by kernel_rfl) (fun _ _ _ h => h) (Or.inr ⟨by rfl, rfl⟩) ?_
        simp only [Act.put, List.setIfInBounds_toArray, List.set_cons_zero, List.set_cons_succ]
        refine wpAny_take (i := 9) (oi := { dst := some 57, op := _, type := _, pos := _, after := _, guard := some (2, false) }) (v := undef) rfl (by kernel_rfl) (by kernel_rfl) (by kernel_rfl) (fun _ _ _ h => h) (Or.inr ⟨by rfl, rfl⟩) ?_
        simp only [Act.put, List.setIfInBounds_toArray, List.set_cons_zero, List.set_cons_succ]
        refine wpAny_take (i := 10) (oi := { dst := some 58, op := _, type := _, pos := _, after := _, guard := some (2, false) }) (v := undef) rfl (by kernel_rfl) (by kernel_rfl) (by kernel_rfl) (fun _ _ _ h => h) (Or.inr ⟨by rfl, rfl⟩) ?_
        simp only [Act.put, List.setIfInBounds_toArray, List.set_cons_zero, List.set_cons_succ]
        refine wpAny_take (i := 11) (oi := { dst := some 59, op := _, type := _, pos := _, after := _, guard := some (10, true) }) (v := undef) rfl (by kernel_rfl) (by kernel_rfl) (by kernel_rfl) (fun _ _ _ h => h) (Or.inr ⟨by rfl, rfl⟩) ?_
        simp only [Act.put, List.setIfInBounds_toArray, List.set_cons_zero, List.set_cons_succ]
        refine wpAny_take (i := 12) (oi := { dst := some 60, op := _, type := _, pos := _, after := _, guard := some (10, true) }) (v := undef) rfl (by kernel_rfl) (by kernel_rfl) (by kernel_rfl) (fun _ _ _ h => h) (Or.inr ⟨by rfl, rfl⟩) ?_
        simp only [Act.put, List.setIfInBounds_toArray, List.set_cons_zero, List.set_cons_succ]
        refine wpAny_take (i := 13) (oi := { dst := some 61, op := _, type := _, pos := _, after := _, guard := some (10, true) }) (v := undef) rfl (by kernel_rfl) (by kernel_rfl) (by kernel_rfl) (fun _ _ _ h => h) (Or.inr ⟨by rfl, rfl⟩) ?_
        simp only [Act.put, List.setIfInBounds_toArray, List.set_cons_zero, List.set_cons_succ]
        refine wpAny_take (i := 14) (oi := { dst := some 62, op := _, type := _, pos := _, after := _, guard := some (10, true) }) (v := undef) rfl (by kernel_rfl) (by kernel_rfl) (by kernel_rfl) (fun _ _ _ h => h) (Or.inr ⟨by rfl, rfl⟩) ?_
        simp only [Act.put, List.setIfInBounds_toArray, List.set_cons_zero, List.set_cons_succ]
        refine wpAny_take (i := 15) (oi := { dst := some 63, op := _, type := _, pos := _, after := _, guard := some (2, false) }) (v := undef) rfl (by kernel_rfl) (by kernel_rfl) (by kernel_rfl) (fun _ _ _ h => h) (Or.inr ⟨by rfl, rfl⟩) ?_
        simp only [Act.put, List.setIfInBounds_toArray, List.set_cons_zero, List.set_cons_succ]
        refine wpAny_take (i := 16) (oi := { dst := some 64, op := _, type := _, pos := _, after := _, guard := none }) (v := .bool true) rfl (by kernel_rfl) (by kernel_rfl) (by kernel_rfl) (fun _ _ _ h => h) (Or.inl ⟨by rfl, by intro w; go_simp⟩) ?_
        simp only [Act.put, List.setIfInBounds_toArray, List.set_cons_zero, List.set_cons_succ]
        refine wpAny_take (i := 17) (oi := { dst := some 2, op := _, type := _, pos := _, after := _, guard := none }) (v := .bool true) rfl (by kernel_rfl) (by kernel_rfl) (by kernel_rfl) (fun _ _ _ h => h) (Or.inl ⟨by rfl, by intro w; go_simp⟩) ?_
        simp only [Act.put, List.setIfInBounds_toArray, List.set_cons_zero, List.set_cons_succ]
        refine wpAny_done (by decide +kernel) ?_ _
        go_wp2_with fail
        go_ret
        exact ⟨rfl, HC.out.below⟩
end Go.Proofs.Ytdmjliehobgknaa
