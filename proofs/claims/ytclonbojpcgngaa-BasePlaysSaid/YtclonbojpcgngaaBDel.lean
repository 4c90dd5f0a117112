/- Contract: slices.Delete over users. (Printed by wip/tools/gendel.py.) -/
import Derived.Test.YtclonbojpcgngaaBUs
import Derived.Test.YtclonbojpcgngaaSlZ
import Derived.Test.YtclonbojpcgngaaResZ
import Derived.Test.YtclonbojpcgngaaHReg
import Derived.Test.YtclonbojpcgngaaBase2
import Derived.Deep.DeepCutAuto
namespace Go.Proofs.Ytclonbojpcgngaa
set_option linter.unusedSimpArgs false
set_option linter.unusedVariables false
open Go.RowKit

theorem zsU_one : ∀ c ∈ (Value.agg zsU.toArray).cells.toList, c.oneCell' = true := by decide
theorem szU (w : World) : (sizeOf 30).run Try.prog w = .ok 20 w := by kernel_rfl
theorem usC_src {w : World} {g cap : Nat} {cur : List Value} (hb : Blk w g cur 30) {L : List Us} (htk : cur.take (L.length * 20) = usC L) (i : Nat) (hi : i ≤ L.length) (hcap : L.length ≤ cap) :
    ∃ ad, cutAt g cap i 20 = some ad ∧ ∀ j u, (usC (L.drop i))[j]? = some u → w.cell? (ad.add j) = some u := by
  unfold cutAt
  by_cases hc : cap = i
  · exact ⟨_, if_pos hc, fun j u hj => by rw [List.drop_of_length_le (by omega)] at hj; simp [usC] at hj⟩
  · refine ⟨_, if_neg hc, fun j u hj => ?_⟩
    rw [Addr.add_lit, hb.cell]
    rw [usC_drop, ← htk, List.getElem?_drop, List.getElem?_take] at hj
    split at hj
    · exact hj
    · cases hj

set_option maxRecDepth 100000 in
set_option maxHeartbeats 2000000 in
theorem delete_any (v : Value) (L : List Us) (i : Nat) (l : List Res) (w : World) (h : Hold w (.own 30 20 v L.length (usC L) :: l)) (hi : i < L.length) (hl : L.length ≤ 1000) :
    Calls Try.prog 26 #[v, .int .i64 i, .int .i64 ((i : Int) + 1)] w fun e w' => ∃ v', e = .returned v' ∧ Hold w' (.own 30 20 v' (L.take i ++ L.drop (i + 1)).length (usC (L.take i ++ L.drop (i + 1))) :: l) := by
  obtain ⟨g, cap, cur, rfl, hnc, hcm, hcl, htk, h⟩ := h.ownBlk (by omega)
  obtain ⟨r, hr⟩ : ∃ r, L.length = r + 1 := ⟨L.length - 1, by omega⟩
  have HC := Lib.hid h
  have HTK := Lib.hid htk
  have HCL := Lib.hid hcl
  have HCM := Lib.hid hcm
  have f1 : ∀ W, (Instr.sliceAt 62 (.slice (some ⟨g, 0, none⟩) (r + 1) cap) (some (.int .i64 i)) (some (.int .i64 ((i : Int) + 1))) (some (.int .i64 ((r : Int) + 1)))).run Try.prog W = .ok (.slice (some ⟨g, i * 20, none⟩) (i + 1 - i) (r + 1 - i)) W := fun W => run_slice3 Try.underlying62 szU g (r + 1) cap i (i + 1) (r + 1) (by omega) (by omega) (by omega) (by omega) W
  have f2 : ∀ W, (Instr.sliceAt 62 (.slice (some ⟨g, 0, none⟩) (r + 1) cap) none (some (.int .i64 i)) none).run Try.prog W = .ok (.slice (some ⟨g, 0, none⟩) i cap) W := fun W => run_sliceL Try.underlying62 szU g (r + 1) cap i (by omega) W
  obtain ⟨ad, had, hsrc⟩ := usC_src (h.blkOf (List.mem_cons_self)) htk (i + 1) hi hnc
  have f3 : ∀ W, (Instr.sliceAt 62 (.slice (some ⟨g, 0, none⟩) (r + 1) cap) (some (.int .i64 ((i : Int) + 1))) none none).run Try.prog W = .ok (.slice (some ad) (r - i) (cap - (i + 1))) W := fun W => by
    have := run_sliceR (P := Try.prog) Try.underlying62 szU g (r + 1) cap (i + 1) (by omega) (by omega) W
    rw [had, show r + 1 - (i + 1) = r - i by omega] at this
    exact this
  have f4 : ∀ W, (Instr.sliceAt 62 (.slice (some ⟨g, 0, none⟩) r cap) (some (.int .i64 r)) (some (.int .i64 ((r : Int) + 1))) none).run Try.prog W = .ok (.slice (some ⟨g, r * 20, none⟩) (0 + 1) (cap - r)) W := fun W => by
    have := run_sliceM (P := Try.prog) Try.underlying62 szU g r cap r (r + 1) (by omega) (by omega) (by omega) W
    rw [show r + 1 - r = 0 + 1 by omega] at this
    exact this
  have F3 := Lib.hid f3
  have F4 := Lib.hid f4
  have F2 := Lib.hid f2
  have HSRC := Lib.hid hsrc
  have hne : ((i : Int) == (i : Int) + 1) = false := by simp; omega
  have hdl : (usC (L.drop (i + 1))).length = (r - i) * 20 := by rw [usC_length, List.length_drop, hr, show r + 1 - (i + 1) = r - i by omega]
  have HDL := Lib.hid hdl
  have hb := h.blkOf (p := g) (cs := cur) (T := 30) (List.mem_cons_self)
  rw [hr] at hnc hl hi ⊢
  have hrow : ∀ ty, (Builtin.append_ #[62, 62] ty #[.slice (some ⟨g, 0, none⟩) i cap, .slice (some ad) (r - i) (cap - (i + 1))]).run Try.prog w.drew =
      .ok (.slice (some ⟨g, 0, none⟩) r cap) (w.drew.setRow g (cur.take (i * 20) ++ usC (L.drop (i + 1)) ++ cur.drop (i * 20 + (r - i) * 20)).toArray) := by
    intro ty
    obtain ⟨ht, ie, hie, hz, hsize, hby, hzs, hsz⟩ := elUs
    have hrn := run_append_roomO (P := Try.prog) (ty := ty) w.drew 62 30 ie ht hie g 0 i cap cur.toArray hb.drew ad (r - i) (cap - (i + 1)) (usC (L.drop (i + 1))) (by rw [hsize]; exact hdl) hsrc (usC_one _) (by omega) (by rw [hsize, hdl]; simp; omega)
    rw [hsize, show i + (r - i) = r by omega, hdl] at hrn
    simpa using hrn
  have HROW := Lib.hid hrow
  have HC1 : Hid (Hold (w.drew.setRow g (cur.take (i * 20) ++ usC (L.drop (i + 1)) ++ cur.drop (i * 20 + (r - i) * 20)).toArray) (.blk g (cur.take (i * 20) ++ usC (L.drop (i + 1)) ++ cur.drop (i * 20 + (r - i) * 20)) 30 :: l)) := Lib.hid (HC.out.drew.blkTurn (copied hb.drew _).1 (copied hb.drew _).2)
  obtain ⟨w1, hw1⟩ : ∃ w1, w1 = w.drew.setRow g (cur.take (i * 20) ++ usC (L.drop (i + 1)) ++ cur.drop (i * 20 + (r - i) * 20)).toArray := ⟨_, rfl⟩
  rw [← hw1] at HC1 HROW
  obtain ⟨c1, hc1⟩ : ∃ c1, c1 = cur.take (i * 20) ++ usC (L.drop (i + 1)) ++ cur.drop (i * 20 + (r - i) * 20) := ⟨_, rfl⟩
  rw [← hc1] at HC1
  have HC1E := Lib.hid hc1
  clear h htk hcl hcm had hsrc hdl hb hrow hw1 hc1 f2 f3 f4
  go_enter Try.func26, Try.ntmps26
  go_upto_region 5 with fail
  refine wp_region_held (S := fun _ : World => True) (by kernel_rfl) ?_
  change wpAnyH _ _ _ _ _ _ _ _ (World.drew _)
  refine wpAnyH_take (i := 0) (oi := { dst := some 20, op := _, type := _, pos := _, after := _, guard := none }) (v := .slice (some ⟨g, 0, none⟩) (r + 1) cap) rfl (by kernel_rfl) (by kernel_rfl) (by kernel_rfl) (fun _ _ _ h => h) (Or.inl ⟨by rfl, by intro W hW; go_simp⟩) trivial ?_
  simp only [Act.put, List.setIfInBounds_toArray, List.set_cons_zero, List.set_cons_succ]
  refine wpAnyH_take (i := 1) (oi := { dst := some 21, op := _, type := _, pos := _, after := _, guard := none }) (v := .int .i64 i) rfl (by kernel_rfl) (by kernel_rfl) (by kernel_rfl) (fun _ _ _ h => h) (Or.inl ⟨by rfl, by intro W hW; go_simp⟩) trivial ?_
  simp only [Act.put, List.setIfInBounds_toArray, List.set_cons_zero, List.set_cons_succ]
  refine wpAnyH_take (i := 2) (oi := { dst := some 22, op := _, type := _, pos := _, after := _, guard := none }) (v := .slice (some ⟨g, 0, none⟩) i cap) rfl (by kernel_rfl) (by kernel_rfl) (by kernel_rfl) (fun _ _ _ h => h) (Or.inl ⟨by rfl, by intro W hW; exact exec_slice rfl (F2.out W)⟩) trivial ?_
  simp only [Act.put, List.setIfInBounds_toArray, List.set_cons_zero, List.set_cons_succ]
  refine wpAnyH_take (i := 3) (oi := { dst := some 23, op := _, type := _, pos := _, after := _, guard := none }) (v := .slice (some ⟨g, 0, none⟩) (r + 1) cap) rfl (by kernel_rfl) (by kernel_rfl) (by kernel_rfl) (fun _ _ _ h => h) (Or.inl ⟨by rfl, by intro W hW; go_simp⟩) trivial ?_
  simp only [Act.put, List.setIfInBounds_toArray, List.set_cons_zero, List.set_cons_succ]
  refine wpAnyH_take (i := 4) (oi := { dst := some 24, op := _, type := _, pos := _, after := _, guard := none }) (v := .int .i64 ((i : Int) + 1)) rfl (by kernel_rfl) (by kernel_rfl) (by kernel_rfl) (fun _ _ _ h => h) (Or.inl ⟨by rfl, by intro W hW; go_simp⟩) trivial ?_
  simp only [Act.put, List.setIfInBounds_toArray, List.set_cons_zero, List.set_cons_succ]
  refine wpAnyH_take (i := 5) (oi := { dst := some 25, op := _, type := _, pos := _, after := _, guard := none }) (v := .slice (some ad) (r - i) (cap - (i + 1))) rfl (by kernel_rfl) (by kernel_rfl) (by kernel_rfl) (fun _ _ _ h => h) (Or.inl ⟨by rfl, by intro W hW; exact exec_slice rfl (F3.out W)⟩) trivial ?_
  simp only [Act.put, List.setIfInBounds_toArray, List.set_cons_zero, List.set_cons_succ]
  refine anyH_ready (rs := [6]) (by decide +kernel) (by simp) ?_
  refine AllReadyH.cons (o := { dst := some 26, op := .call { callee := .builtin .append, args := #[.tmp 22, .tmp 25], argTypes := #[62, 62] }, type := _, pos := _, after := _, guard := none }) rfl (fun K hK => ?_) AllReadyH.nil
  refine step_app_run rfl (.tmp 22) (.tmp 25) rfl rfl rfl (HROW.out _) ?_
  refine hK _ _ trivial ?_
  clear hK K
  try simp only [Act.put, List.setIfInBounds_toArray, List.set_cons_zero, List.set_cons_succ]
  refine wpAnyH_take (i := 7) (oi := { dst := some 0, op := _, type := _, pos := _, after := _, guard := none }) (v := .slice (some ⟨g, 0, none⟩) r cap) rfl (by kernel_rfl) (by kernel_rfl) (by kernel_rfl) (fun _ _ _ h => h) (Or.inl ⟨by rfl, by intro W hW; go_simp⟩) trivial ?_
  simp only [Act.put, List.setIfInBounds_toArray, List.set_cons_zero, List.set_cons_succ]
  refine wpAnyH_done (by decide +kernel) ?_ _
  have hf4 := F4.out
  have hb1 := HC1.out.blkOf (p := g) (cs := c1) (T := 30) (List.mem_cons_self)
  have HB1 := Lib.hid hb1
  have hc1l : c1.length = cap * 20 := by
    rw [HC1E.out]
    simp only [List.length_append, List.length_take, List.length_drop, HDL.out, HCL.out]
    omega
  have HC1L := Lib.hid hc1l
  clear hb1 hc1l
  go_wp2_with ((with_reducible show wpList _ _ _ (⟨none, .call _, _, _, _, _⟩ :: _) _ _); refine wpList_clrZ rfl (.tmp 31) elUs zsU_one rfl rfl HB1.out (by rw [HC1L.out]; omega) ?_)
  intro w2 zs hzs h2 k2
  have HC2 := HC1.out.blkTurn h2 k2
  have hL : L.take i ++ L.drop (i + 1) = L.take i ++ L.drop (i + 1) := rfl
  have hln : (L.take i ++ L.drop (i + 1)).length = r := by simp; omega
  have HC3 := HC2.blkOwn 20 r cap (cs := usC (L.take i ++ L.drop (i + 1))) (by
    simp only [List.length_append, List.length_take, List.length_drop, hzs, HC1L.out]
    omega) (by omega) HCM.out (by
    rw [List.take_append_of_le_length (by rw [List.length_take, HC1L.out]; omega), List.take_take, Nat.min_self, HC1E.out, List.take_append_of_le_length (by
      simp only [List.length_append, List.length_take, HDL.out, HCL.out]; omega), List.take_of_length_le (by
      simp only [List.length_append, List.length_take, HDL.out, HCL.out]; omega), usC_append, usC_take, ← HTK.out, List.take_take, Nat.min_eq_left (by omega)]) (usC_one _)
  have HC4 := Lib.hid HC3
  clear h2 k2 HC2 HC3
  go_wp2_with fail
  go_ret
  exact ⟨.slice (some ⟨g, 0, none⟩) r cap, rfl, HC4.out⟩
end Go.Proofs.Ytclonbojpcgngaa
