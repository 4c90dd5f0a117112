/- Texts of this proof, one behind the other: MValD. -/
import Derived.Test.YtpjkidcfidmfaaaMwB8
import Derived.Deep.DeepCutAuto
namespace Go.Proofs.Ytpjkidcfidmfaaa
set_option linter.unusedSimpArgs false
set_option linter.unusedVariables false
open Go.RowKit
set_option maxHeartbeats 16000000 in
set_option maxRecDepth 100000 in
theorem msgValue_16 (F0 : Nat → Prop) (l1 : List UInt8) (l2 : List UInt8) (x3 : Int) (l4 m4 : List UInt8) (v4 : Value) (w : World) (hz1 : l1.length ≤ 140737488355328) (hz2 : l2.length ≤ 140737488355328) (hz3 : -9223372036854775808 ≤ x3 ∧ x3 ≤ 9223372036854775807) (hb4 : Bs w v4 m4) (hz4 : l4.length ≤ 140737488355328 ∧ m4.length ≤ 140737488355328) :
    Calls Try.prog 10 #[.iface 64 (.agg #[.string (tx l1), .string (tx l2), .int .i64 x3, .string (tx l4), v4])] w (VlRes w (.mk 2 16 0 [] ([.s l1, .s l2, .n x3, .i (l4, m4)].map ptTv)) ([.s l1, .s l2, .n x3, .i (l4, m4)].all ptB)) := by
  obtain ⟨a4, c4, rfl, hc4, hm4⟩ := hb4.form
  have HC : Hid (VC w w.heap.size [(w.heap.size + 1, [.string (tx l1), .string (tx l2), .int .i64 x3, .string (tx l4), .slice a4 m4.length c4], 64)] [] [(.slice a4 m4.length c4, m4)] ((w.alloc (.cells zs5.toArray 38)).alloc (.cells [.string (tx l1), .string (tx l2), .int .i64 x3, .string (tx l4), .slice a4 m4.length c4].toArray 64))) := hqZ (VC.start (by intro r hr; simp only [List.mem_cons, List.not_mem_nil, or_false] at hr; rcases hr with rfl; exact hb4) _ _)
  have HSZ : Hid (∀ u ∈ [tx l1, tx l2], u.size ≤ maxLen) := hqZ (by intro u hu; simp only [List.mem_cons, List.not_mem_nil, or_false] at hu; rcases hu with rfl | rfl; exact szTx hz1; exact szTx hz2)
  have HZ1 := hqZ hz1
  clear hz1
  have HZ2 := hqZ hz2
  clear hz2
  have HZ3 := hqZ hz3
  clear hz3
  have HZ4 := hqZ hz4
  clear hz4
  clear hb4
  obtain ⟨z11, hta11⟩ := tan 54 64 (.agg #[.string (tx l1), .string (tx l2), .int .i64 x3, .string (tx l4), .slice a4 m4.length c4]) zero_11 (by kernel_rfl) (by decide)
  obtain ⟨z12, hta12⟩ := tan 56 64 (.agg #[.string (tx l1), .string (tx l2), .int .i64 x3, .string (tx l4), .slice a4 m4.length c4]) zero_12 (by kernel_rfl) (by decide)
  obtain ⟨z13, hta13⟩ := tan 59 64 (.agg #[.string (tx l1), .string (tx l2), .int .i64 x3, .string (tx l4), .slice a4 m4.length c4]) zero_13 (by kernel_rfl) (by decide)
  obtain ⟨z14, hta14⟩ := tan 60 64 (.agg #[.string (tx l1), .string (tx l2), .int .i64 x3, .string (tx l4), .slice a4 m4.length c4]) zero_14 (by kernel_rfl) (by decide)
  obtain ⟨z15, hta15⟩ := tan 62 64 (.agg #[.string (tx l1), .string (tx l2), .int .i64 x3, .string (tx l4), .slice a4 m4.length c4]) zero_15 (by kernel_rfl) (by decide)
  have hta : ∀ W, (Instr.typeAssert (.iface 64 (.agg #[.string (tx l1), .string (tx l2), .int .i64 x3, .string (tx l4), .slice a4 m4.length c4])) 20 64 true).run Try.prog W = .ok (.tuple #[.agg #[.string (tx l1), .string (tx l2), .int .i64 x3, .string (tx l4), .slice a4 m4.length c4], .bool true]) W := fun W => ta_is _ _ _ (by kernel_rfl) W
  obtain ⟨B, hB⟩ : ∃ B, B = [.s l1, .s l2, .n x3, .i (l4, m4)].all ptB := ⟨_, rfl⟩
  obtain ⟨X, hX⟩ : ∃ X : Tv, X = .mk 2 16 0 [] ([.s l1, .s l2, .n x3, .i (l4, m4)].map ptTv) := ⟨_, rfl⟩
  rw [← hB, ← hX]
  have HB := hqZ hB
  have HX2 := hqZ hX
  clear hB hX
  go_enter Try.func10, Try.ntmps10
  go_upto_region 23 with fail
  clear hta hta11 hta12 hta13 hta14 hta15
  show Code.wp _ _ _ _ ((w.alloc (.cells zs5.toArray 38)).alloc (.cells [.string (tx l1), .string (tx l2), .int .i64 x3, .string (tx l4), .slice a4 m4.length c4].toArray 64))
  obtain ⟨W0, hW0⟩ : ∃ W0, W0 = (w.alloc (.cells zs5.toArray 38)).alloc (.cells [.string (tx l1), .string (tx l2), .int .i64 x3, .string (tx l4), .slice a4 m4.length c4].toArray 64) := ⟨_, rfl⟩
  rw [← hW0] at HC ⊢
  clear hW0
  obtain ⟨p, hp⟩ : ∃ p, p = w.heap.size + 1 := ⟨_, rfl⟩
  obtain ⟨q, hq⟩ : ∃ q, q = w.heap.size := ⟨_, rfl⟩
  rw [← hp, ← hq] at HC ⊢
  clear hp hq
  have HTV1 := hqZ (tickValue_any (l4, m4) (.slice a4 m4.length c4) W0 (HC.out.rowAt 0 rfl) HZ4.out.1 HZ4.out.2)
  have HM1 := hqZ (HC.out.blkAt 0 rfl)
  rw [show rightB (tx (l4, m4).1) = rT (l4, m4) from rfl] at HTV1
  go_wp2_with ((with_reducible show wpList _ _ _ (⟨some 190, _, _, _, _, _⟩ :: _) _ _); refine wpList_ldAgg rfl (.tmp 189) aggTicket rfl rfl (cs := [.string (tx l4), .slice a4 m4.length c4]) rfl (HM1.out.cellsAt 3 2) ?_)
  refine HTV1.out.mono ?_
  rintro e wa1 ⟨cs1, rfl, htv, hb⟩
  have HCa1 := hqZ (HC.out.step hb)
  have HTT1 : Hid (TvF wa1 (fun b => q < b) (tkTv (l4, m4)) cs1) := hqZ (htv.mono (fun b hb => by have := HC.out.lt; omega))
  have HCL1 := hqZ htv.length
  have HCO1 := hqZ htv.one
  have HN1 := hqZ (Blk.new wa1 zs5 38)
  clear htv hb HTV1
  go_upto_region 24 with ((with_reducible show wpList _ _ _ (⟨none, .store _ (.tmp 18) (.tmp 193), _, _, _, _⟩ :: _) _ _); refine wpList_stAgg rfl (.tmp 18) (.tmp 193) aggDer rfl rfl (vs := cs1) rfl HCL1.out HN1.out (Nat.le_refl _) HCO1.out ?_)
  intro wb1 h2 k2
  have h2' : Blk wb1 wa1.heap.size cs1 38 := by
    rw [List.drop_of_length_le (by decide), List.append_nil] at h2
    exact h2
  have hb2 : Below wa1.heap.size wa1 wb1 := ((Below.refl _ _).alloc (Nat.le_refl _) _).trans (k2.below (by omega))
  have HCb1 := hqZ (((HCa1.out.addTree HTT1.out).step hb2).addBlk h2' HCa1.out.lt)
  obtain ⟨p1, hp1⟩ : ∃ p1, p1 = wa1.heap.size := ⟨_, rfl⟩
  rw [← hp1] at HCb1 ⊢
  clear h2 k2 h2' hb2 hp1 HCa1 HTT1 HN1 HCO1
  go_upto_region 24 with fail
  cases hok19 : rT (l4, m4) with
  | false =>
    have HOK19 := hqZ hok19
    clear hok19
    have HBE : Hid (B = false) := hqZ (by rw [HB.out]; simp only [List.all_cons, List.all_nil, ptB, HOK19.out, Bool.and_true, Bool.true_and, Bool.and_false, Bool.false_and, Bool.and_assoc])
    obtain ⟨wd, hwd⟩ : ∃ wd, wd = World.drew wb1 := ⟨_, rfl⟩
    have hvd : VC w q [(p, [.string (tx l1), .string (tx l2), .int .i64 x3, .string (tx l4), .slice a4 m4.length c4], 64), (p1, cs1, 38)] [(tkTv (l4, m4), cs1)] [(.slice a4 m4.length c4, m4)] wd := by rw [hwd]; exact HCb1.out.drew
    have HXE : Hid (X = .mk 2 16 0 [] [.mk 1 0 0 l1 [], .mk 1 0 0 l2 [], .mk 0 0 (numU x3) [] [], tkTv (l4, m4)]) := hqZ HX2.out
    have HR : Hid (∀ W, GV (fun b => q < b) q X wd W → VR w q [(p, [.string (tx l1), .string (tx l2), .int .i64 x3, .string (tx l4), .slice a4 m4.length c4], 64), (p1, cs1, 38)] [(tkTv (l4, m4), cs1)] [(.slice a4 m4.length c4, m4)] W) := hqZ (fun W h => hvd.gv h)
    have HZD : Hid (∀ W, GV (fun b => q < b) q X wd W → q < W.heap.size ∧ ∀ b, W.heap.size ≤ b → q < b) := hqZ (fun W h => ⟨(HR.out W h).lt, fun b hb => Nat.lt_of_lt_of_le (HR.out W h).lt hb⟩)
    have HFq : Hid (¬ (fun b => q < b) q) := hqZ (Nat.lt_irrefl q)
    have HQW : Hid (w.heap.size = q) := hqZ hvd.hq.symm
    clear hvd HCb1
    refine wp_region_held (S := fun W => GV (fun b => q < b) q X wd W) (by kernel_rfl) ?_
    change wpAnyH _ _ _ _ _ _ _ _ (World.drew _)
    rw [← hwd]
    clear hwd
    refine tkH 0 195 none (.pointer (some ⟨p, 0, none⟩)) rfl (by kernel_rfl) (fun _ _ _ h => h) (by rfl) (by intro W hW; go_simp) (GV.refl _ _ _ _) ?_
    simp only [Act.put, zq1, zq2, zq3]
    refine tkH 1 196 none (.string (tx l1)) rfl (by kernel_rfl) (fun _ _ _ h => h) (by rfl) (by intro W hW; have hc : W.cell? ⟨p, 0, none⟩ = some (.string (tx l1)) := ((HR.out W hW).blkAt 0 rfl).cell 0; go_simp) (GV.refl _ _ _ _) ?_
    simp only [Act.put, zq1, zq2, zq3]
    refine tkH 3 198 none (.pointer (some ⟨p, 1, none⟩)) rfl (by kernel_rfl) (fun _ _ _ h => h) (by rfl) (by intro W hW; go_simp) (GV.refl _ _ _ _) ?_
    simp only [Act.put, zq1, zq2, zq3]
    refine tkH 4 199 none (.string (tx l2)) rfl (by kernel_rfl) (fun _ _ _ h => h) (by rfl) (by intro W hW; have hc : W.cell? ⟨p, 1, none⟩ = some (.string (tx l2)) := ((HR.out W hW).blkAt 0 rfl).cell 1; go_simp) (GV.refl _ _ _ _) ?_
    simp only [Act.put, zq1, zq2, zq3]
    refine tkH 6 201 none (.pointer (some ⟨p, 2, none⟩)) rfl (by kernel_rfl) (fun _ _ _ h => h) (by rfl) (by intro W hW; go_simp) (GV.refl _ _ _ _) ?_
    simp only [Act.put, zq1, zq2, zq3]
    refine tkH 7 202 none (.int .i64 x3) rfl (by kernel_rfl) (fun _ _ _ h => h) (by rfl) (by intro W hW; have hc : W.cell? ⟨p, 2, none⟩ = some (.int .i64 x3) := ((HR.out W hW).blkAt 0 rfl).cell 2; go_simp) (GV.refl _ _ _ _) ?_
    simp only [Act.put, zq1, zq2, zq3]
    refine tkH 9 204 none (.agg cs1.toArray) rfl (by kernel_rfl) (fun _ _ _ h => h) (by rfl) (by intro W hW; exact exec_ldAgg rfl aggDer rfl HCL1.out ((HR.out W hW).blkAt 1 rfl).cellsAll) (GV.refl _ _ _ _) ?_
    simp only [Act.put, zq1, zq2, zq3]
    refine tkH 12 207 none (.bool false) rfl (by kernel_rfl) (fun _ _ _ h => h) (by rfl) (by intro W hW; go_simp) (GV.refl _ _ _ _) ?_
    simp only [Act.put, zq1, zq2, zq3]
    refine anyH_steps (G := GV (fun b => q < b) q X) (Post := postV (fun b => q < b) q X [.any, .any, .val (.mk 1 0 0 l1 []), .any, .any, .val (.mk 1 0 0 l2 []), .any, .any, .val (.mk 0 0 (numU x3) [] []), .any, .vals [.mk 1 0 0 l1 [], .mk 1 0 0 l2 [], .mk 0 0 (numU x3) [] [], tkTv (l4, m4)], .val (.mk 2 16 0 [] [.mk 1 0 0 l1 [], .mk 1 0 0 l2 [], .mk 0 0 (numU x3) [] [], tkTv (l4, m4)]), .any, .is (.bool false), .any, .any, .any, .any, .any, .any, .any, .any, .any, .is (.bool false), .fin, .is (.bool false)]) (ds := [197, 200, 203, 205, 206, 208, 209, 210, 211, 212, 213, 214, 215, 216, 217, 218, 3]) (GV.refl _ _ _) GV.trans (fun W W' h g => GV.trans _ _ _ h g) (fun i v W W' h g => PK.stable HFq.out h g) [2, 5, 8, 10, 11, 13, 14, 15, 16, 17, 18, 19, 20, 21, 22, 23, 24, 25] 397 rfl (by decide +kernel) (by decide +kernel) ?_ ?_ (GV.refl _ _ _ _) (by decide +kernel)
    · refine AllSteps.cons (o := { dst := some 197, op := .call { callee := .value (.func 26), args := #[.tmp 196], argTypes := #[9] }, type := _, pos := _, after := _, guard := none }) rfl (fun a W hf hS hd K hK => ?_) ?_
      · have e196 : a.eval (.tmp 196) = .string (tx l1) := hf.lit 196 (by decide) rfl
        exact stepV_mk (wanted_none rfl) rfl enters_mtext (vs := #[.string (tx l1)]) (by simp [e196]) (mtext_any l1 W HZ1.out) (HZD.out W hS).1 (HZD.out W hS).2 hK
      refine AllSteps.cons (o := { dst := some 200, op := .call { callee := .value (.func 26), args := #[.tmp 199], argTypes := #[9] }, type := _, pos := _, after := _, guard := none }) rfl (fun a W hf hS hd K hK => ?_) ?_
      · have e199 : a.eval (.tmp 199) = .string (tx l2) := hf.lit 199 (by decide) rfl
        exact stepV_mk (wanted_none rfl) rfl enters_mtext (vs := #[.string (tx l2)]) (by simp [e199]) (mtext_any l2 W HZ2.out) (HZD.out W hS).1 (HZD.out W hS).2 hK
      refine AllSteps.cons (o := { dst := some 203, op := .call { callee := .value (.func 27), args := #[.tmp 202], argTypes := #[2] }, type := _, pos := _, after := _, guard := none }) rfl (fun a W hf hS hd K hK => ?_) ?_
      · have e202 : a.eval (.tmp 202) = .int .i64 x3 := hf.lit 202 (by decide) rfl
        exact stepV_mk (wanted_none rfl) rfl enters_mnum (vs := #[.int .i64 x3]) (by simp [e202]) (mnumI_any x3 W HZ3.out.1 HZ3.out.2) (HZD.out W hS).1 (HZD.out W hS).2 hK
      refine AllSteps.cons (o := { dst := some 205, op := .buildSlice 36 4 #[(0, .tmp 197), (1, .tmp 200), (2, .tmp 203), (3, .tmp 204)], type := _, pos := _, after := _, guard := none }) rfl (fun a W hf hS hd K hK => ?_) ?_
      · have d197 := (hd 2 (by decide +kernel)).get (s := 197) rfl
        have d200 := (hd 5 (by decide +kernel)).get (s := 200) rfl
        have d203 := (hd 8 (by decide +kernel)).get (s := 203) rfl
        have e204 : a.eval (.tmp 204) = .agg cs1.toArray := hf.lit 204 (by decide) rfl
        exact stepV_vals (wanted_none rfl) rfl elDer (ps := [.tmp 197, .tmp 200, .tmp 203, .tmp 204]) rfl (l := [.mk 1 0 0 l1 [], .mk 1 0 0 l2 [], .mk 0 0 (numU x3) [] [], tkTv (l4, m4)]) ⟨d197, d200, d203, ⟨_, e204, (HR.out W hS).treeAt 0 rfl⟩, trivial⟩ rfl (by decide) (by decide) (HZD.out W hS).1 (HZD.out W hS).2 hK
      refine AllSteps.cons (o := { dst := some 206, op := .call { callee := .value (.func 25), args := #[.const (.int .i64 16), .tmp 205], argTypes := #[3, 36] }, type := _, pos := _, after := _, guard := none }) rfl (fun a W hf hS hd K hK => ?_) ?_
      · have d205 := (hd 10 (by decide +kernel)).get (s := 205) rfl
        exact stepV_seq (wanted_none rfl) rfl enters_seq d205 (HZD.out W hS).1 (fun v w1 h1 h2 => hK v w1 h1 h2) HFq.out
      refine AllSteps.cons (o := { dst := some 208, op := .move (.tmp 207), type := _, pos := _, after := _, guard := none }) rfl (fun a W hf hS hd K hK => ?_) ?_
      · have e207 : a.eval (.tmp 207) = .bool false := hf.lit 207 (by decide) rfl
        exact step_val (v := .bool false) (wanted_none rfl) (exec_move rfl e207) (hK _ _ (GV.refl _ _ _ _) rfl)
      refine AllSteps.cons (o := { dst := some 209, op := .fieldAddr 64 (.tmp 17) 0, type := _, pos := _, after := _, guard := some (13, true) }) rfl (fun a W hf hS hd K hK => ?_) ?_
      · have e208 : a.eval (.tmp 208) = .bool false := (hd 13 (by decide +kernel)).get (s := 208) rfl
        exact step_skip (wanted_no rfl rfl e208 rfl) (hK _ _ (GV.refl _ _ _ _) trivial)
      refine AllSteps.cons (o := { dst := some 210, op := .load 9 (.tmp 209), type := _, pos := _, after := _, guard := some (13, true) }) rfl (fun a W hf hS hd K hK => ?_) ?_
      · have e208 : a.eval (.tmp 208) = .bool false := (hd 13 (by decide +kernel)).get (s := 208) rfl
        exact step_skip (wanted_no rfl rfl e208 rfl) (hK _ _ (GV.refl _ _ _ _) trivial)
      refine AllSteps.cons (o := { dst := some 211, op := .fieldAddr 64 (.tmp 17) 1, type := _, pos := _, after := _, guard := some (13, true) }) rfl (fun a W hf hS hd K hK => ?_) ?_
      · have e208 : a.eval (.tmp 208) = .bool false := (hd 13 (by decide +kernel)).get (s := 208) rfl
        exact step_skip (wanted_no rfl rfl e208 rfl) (hK _ _ (GV.refl _ _ _ _) trivial)
      refine AllSteps.cons (o := { dst := some 212, op := .load 9 (.tmp 211), type := _, pos := _, after := _, guard := some (13, true) }) rfl (fun a W hf hS hd K hK => ?_) ?_
      · have e208 : a.eval (.tmp 208) = .bool false := (hd 13 (by decide +kernel)).get (s := 208) rfl
        exact step_skip (wanted_no rfl rfl e208 rfl) (hK _ _ (GV.refl _ _ _ _) trivial)
      refine AllSteps.cons (o := { dst := some 213, op := .buildSlice 93 2 #[(0, .tmp 210), (1, .tmp 212)], type := _, pos := _, after := _, guard := some (13, true) }) rfl (fun a W hf hS hd K hK => ?_) ?_
      · have e208 : a.eval (.tmp 208) = .bool false := (hd 13 (by decide +kernel)).get (s := 208) rfl
        exact step_skip (wanted_no rfl rfl e208 rfl) (hK _ _ (GV.refl _ _ _ _) trivial)
      refine AllSteps.cons (o := { dst := some 214, op := .fieldAddr 64 (.tmp 17) 2, type := _, pos := _, after := _, guard := some (13, true) }) rfl (fun a W hf hS hd K hK => ?_) ?_
      · have e208 : a.eval (.tmp 208) = .bool false := (hd 13 (by decide +kernel)).get (s := 208) rfl
        exact step_skip (wanted_no rfl rfl e208 rfl) (hK _ _ (GV.refl _ _ _ _) trivial)
      refine AllSteps.cons (o := { dst := some 215, op := .load 2 (.tmp 214), type := _, pos := _, after := _, guard := some (13, true) }) rfl (fun a W hf hS hd K hK => ?_) ?_
      · have e208 : a.eval (.tmp 208) = .bool false := (hd 13 (by decide +kernel)).get (s := 208) rfl
        exact step_skip (wanted_no rfl rfl e208 rfl) (hK _ _ (GV.refl _ _ _ _) trivial)
      refine AllSteps.cons (o := { dst := some 216, op := .buildSlice 116 1 #[(0, .tmp 215)], type := _, pos := _, after := _, guard := some (13, true) }) rfl (fun a W hf hS hd K hK => ?_) ?_
      · have e208 : a.eval (.tmp 208) = .bool false := (hd 13 (by decide +kernel)).get (s := 208) rfl
        exact step_skip (wanted_no rfl rfl e208 rfl) (hK _ _ (GV.refl _ _ _ _) trivial)
      refine AllSteps.cons (o := { dst := some 217, op := .call { callee := .value (.func 29), args := #[.tmp 213, .tmp 216], argTypes := #[93, 116] }, type := _, pos := _, after := _, guard := some (13, true) }) rfl (fun a W hf hS hd K hK => ?_) ?_
      · have e208 : a.eval (.tmp 208) = .bool false := (hd 13 (by decide +kernel)).get (s := 208) rfl
        exact step_skip (wanted_no rfl rfl e208 rfl) (hK _ _ (GV.refl _ _ _ _) trivial)
      refine AllSteps.cons (o := { dst := some 218, op := .pick (.tmp 208) (.tmp 217) (.const (.bool false)), type := _, pos := _, after := _, guard := none }) rfl (fun a W hf hS hd K hK => ?_) ?_
      · have e208 : a.eval (.tmp 208) = .bool false := (hd 13 (by decide +kernel)).get (s := 208) rfl
        exact step_val (v := .bool false) (wanted_none rfl) (exec_pickF rfl e208 rfl) (hK _ _ (GV.refl _ _ _ _) rfl)
      refine AllSteps.cons (o := { dst := none, op := .store 38 (.tmp 2) (.tmp 206), type := _, pos := _, after := _, guard := none }) rfl (fun a W hf hS hd K hK => ?_) ?_
      · have e2 : a.eval (.tmp 2) = .pointer (some ⟨q, 0, none⟩) := hf.lit 2 (by decide) rfl
        have d206 := (hd 11 (by decide +kernel)).get (s := 206) rfl
        obtain ⟨cur, hc1, hc2⟩ := (HR.out W hS).len
        rw [← HXE.out] at d206
        exact stepV_fin (wanted_none rfl) rfl e2 d206 hc1 hc2 HFq.out hK
      refine AllSteps.cons (o := { dst := some 3, op := .assign (.tmp 218), type := _, pos := _, after := _, guard := none }) rfl (fun a W hf hS hd K hK => ?_) ?_
      · have e218 : a.eval (.tmp 218) = .bool false := (hd 23 (by decide +kernel)).get (s := 218) rfl
        exact step_val (wanted_none rfl) (exec_asg rfl rfl) (hK _ _ (GV.refl _ _ _ _) e218)
      exact AllSteps.nil
    · intro a W hf hS hp
      have h3 := (hp 25 (by decide)).get (s := 3) rfl
      obtain ⟨v, cs, h5, h6⟩ := (hp 24 (by decide)).fin
      have e2 : a.eval (.tmp 2) = .pointer (some ⟨q, 0, none⟩) := hf.lit 2 (by decide) rfl
      go_wp2_with fail
      refine bodyPost_ret (results_agg_tmp rfl aggDer (show a.tmps.getD 2 undef = _ from e2) h6.length h5.cellsAll) hf.defers ⟨cs, ?_, ?_, (HR.out W hS).below⟩
      · rw [HBE.out, show a.tmps.getD 3 undef = .bool false from h3]
      · exact h6.mono (fun b hb => by have := HQW.out; omega)
  | true =>
    have HOK19 := hqZ hok19
    clear hok19
    have HBE : Hid (B = ([tx l1, tx l2].all rightB && [x3].all timeB)) := hqZ (by rw [HB.out]; simp only [List.all_cons, List.all_nil, ptB, HOK19.out, Bool.and_true, Bool.true_and, Bool.and_false, Bool.false_and, Bool.and_assoc]; first | done | ac_rfl)
    obtain ⟨wd, hwd⟩ : ∃ wd, wd = World.drew wb1 := ⟨_, rfl⟩
    have hvd : VC w q [(p, [.string (tx l1), .string (tx l2), .int .i64 x3, .string (tx l4), .slice a4 m4.length c4], 64), (p1, cs1, 38)] [(tkTv (l4, m4), cs1)] [(.slice a4 m4.length c4, m4)] wd := by rw [hwd]; exact HCb1.out.drew
    have HXE : Hid (X = .mk 2 16 0 [] [.mk 1 0 0 l1 [], .mk 1 0 0 l2 [], .mk 0 0 (numU x3) [] [], tkTv (l4, m4)]) := hqZ HX2.out
    have HR : Hid (∀ W, GV (fun b => q < b) q X wd W → VR w q [(p, [.string (tx l1), .string (tx l2), .int .i64 x3, .string (tx l4), .slice a4 m4.length c4], 64), (p1, cs1, 38)] [(tkTv (l4, m4), cs1)] [(.slice a4 m4.length c4, m4)] W) := hqZ (fun W h => hvd.gv h)
    have HZD : Hid (∀ W, GV (fun b => q < b) q X wd W → q < W.heap.size ∧ ∀ b, W.heap.size ≤ b → q < b) := hqZ (fun W h => ⟨(HR.out W h).lt, fun b hb => Nat.lt_of_lt_of_le (HR.out W h).lt hb⟩)
    have HFq : Hid (¬ (fun b => q < b) q) := hqZ (Nat.lt_irrefl q)
    have HQW : Hid (w.heap.size = q) := hqZ hvd.hq.symm
    clear hvd HCb1
    refine wp_region_held (S := fun W => GV (fun b => q < b) q X wd W) (by kernel_rfl) ?_
    change wpAnyH _ _ _ _ _ _ _ _ (World.drew _)
    rw [← hwd]
    clear hwd
    refine tkH 0 195 none (.pointer (some ⟨p, 0, none⟩)) rfl (by kernel_rfl) (fun _ _ _ h => h) (by rfl) (by intro W hW; go_simp) (GV.refl _ _ _ _) ?_
    simp only [Act.put, zq1, zq2, zq3]
    refine tkH 1 196 none (.string (tx l1)) rfl (by kernel_rfl) (fun _ _ _ h => h) (by rfl) (by intro W hW; have hc : W.cell? ⟨p, 0, none⟩ = some (.string (tx l1)) := ((HR.out W hW).blkAt 0 rfl).cell 0; go_simp) (GV.refl _ _ _ _) ?_
    simp only [Act.put, zq1, zq2, zq3]
    refine tkH 3 198 none (.pointer (some ⟨p, 1, none⟩)) rfl (by kernel_rfl) (fun _ _ _ h => h) (by rfl) (by intro W hW; go_simp) (GV.refl _ _ _ _) ?_
    simp only [Act.put, zq1, zq2, zq3]
    refine tkH 4 199 none (.string (tx l2)) rfl (by kernel_rfl) (fun _ _ _ h => h) (by rfl) (by intro W hW; have hc : W.cell? ⟨p, 1, none⟩ = some (.string (tx l2)) := ((HR.out W hW).blkAt 0 rfl).cell 1; go_simp) (GV.refl _ _ _ _) ?_
    simp only [Act.put, zq1, zq2, zq3]
    refine tkH 6 201 none (.pointer (some ⟨p, 2, none⟩)) rfl (by kernel_rfl) (fun _ _ _ h => h) (by rfl) (by intro W hW; go_simp) (GV.refl _ _ _ _) ?_
    simp only [Act.put, zq1, zq2, zq3]
    refine tkH 7 202 none (.int .i64 x3) rfl (by kernel_rfl) (fun _ _ _ h => h) (by rfl) (by intro W hW; have hc : W.cell? ⟨p, 2, none⟩ = some (.int .i64 x3) := ((HR.out W hW).blkAt 0 rfl).cell 2; go_simp) (GV.refl _ _ _ _) ?_
    simp only [Act.put, zq1, zq2, zq3]
    refine tkH 9 204 none (.agg cs1.toArray) rfl (by kernel_rfl) (fun _ _ _ h => h) (by rfl) (by intro W hW; exact exec_ldAgg rfl aggDer rfl HCL1.out ((HR.out W hW).blkAt 1 rfl).cellsAll) (GV.refl _ _ _ _) ?_
    simp only [Act.put, zq1, zq2, zq3]
    refine tkH 12 207 none (.bool true) rfl (by kernel_rfl) (fun _ _ _ h => h) (by rfl) (by intro W hW; go_simp) (GV.refl _ _ _ _) ?_
    simp only [Act.put, zq1, zq2, zq3]
    refine anyH_steps (G := GV (fun b => q < b) q X) (Post := postV (fun b => q < b) q X [.any, .any, .val (.mk 1 0 0 l1 []), .any, .any, .val (.mk 1 0 0 l2 []), .any, .any, .val (.mk 0 0 (numU x3) [] []), .any, .vals [.mk 1 0 0 l1 [], .mk 1 0 0 l2 [], .mk 0 0 (numU x3) [] [], tkTv (l4, m4)], .val (.mk 2 16 0 [] [.mk 1 0 0 l1 [], .mk 1 0 0 l2 [], .mk 0 0 (numU x3) [] [], tkTv (l4, m4)]), .any, .is (.bool true), .is (.pointer (some ⟨p, 0, none⟩)), .is (.string (tx l1)), .is (.pointer (some ⟨p, 1, none⟩)), .is (.string (tx l2)), .row [.string (tx l1), .string (tx l2)], .is (.pointer (some ⟨p, 2, none⟩)), .is (.int .i64 x3), .row [.int .i64 x3], .is (.bool ([tx l1, tx l2].all rightB && [x3].all timeB)), .is (.bool ([tx l1, tx l2].all rightB && [x3].all timeB)), .fin, .is (.bool ([tx l1, tx l2].all rightB && [x3].all timeB))]) (ds := [197, 200, 203, 205, 206, 208, 209, 210, 211, 212, 213, 214, 215, 216, 217, 218, 3]) (GV.refl _ _ _) GV.trans (fun W W' h g => GV.trans _ _ _ h g) (fun i v W W' h g => PK.stable HFq.out h g) [2, 5, 8, 10, 11, 13, 14, 15, 16, 17, 18, 19, 20, 21, 22, 23, 24, 25] 397 rfl (by decide +kernel) (by decide +kernel) ?_ ?_ (GV.refl _ _ _ _) (by decide +kernel)
    · refine AllSteps.cons (o := { dst := some 197, op := .call { callee := .value (.func 26), args := #[.tmp 196], argTypes := #[9] }, type := _, pos := _, after := _, guard := none }) rfl (fun a W hf hS hd K hK => ?_) ?_
      · have e196 : a.eval (.tmp 196) = .string (tx l1) := hf.lit 196 (by decide) rfl
        exact stepV_mk (wanted_none rfl) rfl enters_mtext (vs := #[.string (tx l1)]) (by simp [e196]) (mtext_any l1 W HZ1.out) (HZD.out W hS).1 (HZD.out W hS).2 hK
      refine AllSteps.cons (o := { dst := some 200, op := .call { callee := .value (.func 26), args := #[.tmp 199], argTypes := #[9] }, type := _, pos := _, after := _, guard := none }) rfl (fun a W hf hS hd K hK => ?_) ?_
      · have e199 : a.eval (.tmp 199) = .string (tx l2) := hf.lit 199 (by decide) rfl
        exact stepV_mk (wanted_none rfl) rfl enters_mtext (vs := #[.string (tx l2)]) (by simp [e199]) (mtext_any l2 W HZ2.out) (HZD.out W hS).1 (HZD.out W hS).2 hK
      refine AllSteps.cons (o := { dst := some 203, op := .call { callee := .value (.func 27), args := #[.tmp 202], argTypes := #[2] }, type := _, pos := _, after := _, guard := none }) rfl (fun a W hf hS hd K hK => ?_) ?_
      · have e202 : a.eval (.tmp 202) = .int .i64 x3 := hf.lit 202 (by decide) rfl
        exact stepV_mk (wanted_none rfl) rfl enters_mnum (vs := #[.int .i64 x3]) (by simp [e202]) (mnumI_any x3 W HZ3.out.1 HZ3.out.2) (HZD.out W hS).1 (HZD.out W hS).2 hK
      refine AllSteps.cons (o := { dst := some 205, op := .buildSlice 36 4 #[(0, .tmp 197), (1, .tmp 200), (2, .tmp 203), (3, .tmp 204)], type := _, pos := _, after := _, guard := none }) rfl (fun a W hf hS hd K hK => ?_) ?_
      · have d197 := (hd 2 (by decide +kernel)).get (s := 197) rfl
        have d200 := (hd 5 (by decide +kernel)).get (s := 200) rfl
        have d203 := (hd 8 (by decide +kernel)).get (s := 203) rfl
        have e204 : a.eval (.tmp 204) = .agg cs1.toArray := hf.lit 204 (by decide) rfl
        exact stepV_vals (wanted_none rfl) rfl elDer (ps := [.tmp 197, .tmp 200, .tmp 203, .tmp 204]) rfl (l := [.mk 1 0 0 l1 [], .mk 1 0 0 l2 [], .mk 0 0 (numU x3) [] [], tkTv (l4, m4)]) ⟨d197, d200, d203, ⟨_, e204, (HR.out W hS).treeAt 0 rfl⟩, trivial⟩ rfl (by decide) (by decide) (HZD.out W hS).1 (HZD.out W hS).2 hK
      refine AllSteps.cons (o := { dst := some 206, op := .call { callee := .value (.func 25), args := #[.const (.int .i64 16), .tmp 205], argTypes := #[3, 36] }, type := _, pos := _, after := _, guard := none }) rfl (fun a W hf hS hd K hK => ?_) ?_
      · have d205 := (hd 10 (by decide +kernel)).get (s := 205) rfl
        exact stepV_seq (wanted_none rfl) rfl enters_seq d205 (HZD.out W hS).1 (fun v w1 h1 h2 => hK v w1 h1 h2) HFq.out
      refine AllSteps.cons (o := { dst := some 208, op := .move (.tmp 207), type := _, pos := _, after := _, guard := none }) rfl (fun a W hf hS hd K hK => ?_) ?_
      · have e207 : a.eval (.tmp 207) = .bool true := hf.lit 207 (by decide) rfl
        exact step_val (v := .bool true) (wanted_none rfl) (exec_move rfl e207) (hK _ _ (GV.refl _ _ _ _) rfl)
      refine AllSteps.cons (o := { dst := some 209, op := .fieldAddr 64 (.tmp 17) 0, type := _, pos := _, after := _, guard := some (13, true) }) rfl (fun a W hf hS hd K hK => ?_) ?_
      · have e208 : a.eval (.tmp 208) = .bool true := (hd 13 (by decide +kernel)).get (s := 208) rfl
        have e17 : a.eval (.tmp 17) = .pointer (some ⟨p, 0, none⟩) := hf.lit 17 (by decide) rfl
        exact step_val (v := .pointer (some ⟨p, 0, none⟩)) (wanted_some rfl rfl e208) (exec_field rfl e17 (by go_simp)) (hK _ _ (GV.refl _ _ _ _) rfl)
      refine AllSteps.cons (o := { dst := some 210, op := .load 9 (.tmp 209), type := _, pos := _, after := _, guard := some (13, true) }) rfl (fun a W hf hS hd K hK => ?_) ?_
      · have e208 : a.eval (.tmp 208) = .bool true := (hd 13 (by decide +kernel)).get (s := 208) rfl
        have e209 : a.eval (.tmp 209) = .pointer (some ⟨p, 0, none⟩) := (hd 14 (by decide +kernel)).get (s := 209) rfl
        have hc : W.cell? ⟨p, 0, none⟩ = some (.string (tx l1)) := ((HR.out W hS).blkAt 0 rfl).cell 0
        exact step_val (v := .string (tx l1)) (wanted_some rfl rfl e208) (exec_load rfl e209 (by go_simp)) (hK _ _ (GV.refl _ _ _ _) rfl)
      refine AllSteps.cons (o := { dst := some 211, op := .fieldAddr 64 (.tmp 17) 1, type := _, pos := _, after := _, guard := some (13, true) }) rfl (fun a W hf hS hd K hK => ?_) ?_
      · have e208 : a.eval (.tmp 208) = .bool true := (hd 13 (by decide +kernel)).get (s := 208) rfl
        have e17 : a.eval (.tmp 17) = .pointer (some ⟨p, 0, none⟩) := hf.lit 17 (by decide) rfl
        exact step_val (v := .pointer (some ⟨p, 1, none⟩)) (wanted_some rfl rfl e208) (exec_field rfl e17 (by go_simp)) (hK _ _ (GV.refl _ _ _ _) rfl)
      refine AllSteps.cons (o := { dst := some 212, op := .load 9 (.tmp 211), type := _, pos := _, after := _, guard := some (13, true) }) rfl (fun a W hf hS hd K hK => ?_) ?_
      · have e208 : a.eval (.tmp 208) = .bool true := (hd 13 (by decide +kernel)).get (s := 208) rfl
        have e211 : a.eval (.tmp 211) = .pointer (some ⟨p, 1, none⟩) := (hd 16 (by decide +kernel)).get (s := 211) rfl
        have hc : W.cell? ⟨p, 1, none⟩ = some (.string (tx l2)) := ((HR.out W hS).blkAt 0 rfl).cell 1
        exact step_val (v := .string (tx l2)) (wanted_some rfl rfl e208) (exec_load rfl e211 (by go_simp)) (hK _ _ (GV.refl _ _ _ _) rfl)
      refine AllSteps.cons (o := { dst := some 213, op := .buildSlice 93 2 #[(0, .tmp 210), (1, .tmp 212)], type := _, pos := _, after := _, guard := some (13, true) }) rfl (fun a W hf hS hd K hK => ?_) ?_
      · have e208 : a.eval (.tmp 208) = .bool true := (hd 13 (by decide +kernel)).get (s := 208) rfl
        have e210 : a.eval (.tmp 210) = .string (tx l1) := (hd 15 (by decide +kernel)).get (s := 210) rfl
        have e212 : a.eval (.tmp 212) = .string (tx l2) := (hd 17 (by decide +kernel)).get (s := 212) rfl
        exact stepV_row (wanted_some rfl rfl e208) rfl elStr (ps := [.tmp 210, .tmp 212]) rfl (cs := [.string (tx l1), .string (tx l2)]) (by simp only [List.map_cons, List.map_nil, e210, e212]) (by intro u hu; simp only [List.mem_cons, List.not_mem_nil, or_false] at hu; rcases hu with rfl | rfl <;> exact ⟨rfl, rfl⟩) rfl (by decide) (by decide) (HZD.out W hS).1 (HZD.out W hS).2 hK
      refine AllSteps.cons (o := { dst := some 214, op := .fieldAddr 64 (.tmp 17) 2, type := _, pos := _, after := _, guard := some (13, true) }) rfl (fun a W hf hS hd K hK => ?_) ?_
      · have e208 : a.eval (.tmp 208) = .bool true := (hd 13 (by decide +kernel)).get (s := 208) rfl
        have e17 : a.eval (.tmp 17) = .pointer (some ⟨p, 0, none⟩) := hf.lit 17 (by decide) rfl
        exact step_val (v := .pointer (some ⟨p, 2, none⟩)) (wanted_some rfl rfl e208) (exec_field rfl e17 (by go_simp)) (hK _ _ (GV.refl _ _ _ _) rfl)
      refine AllSteps.cons (o := { dst := some 215, op := .load 2 (.tmp 214), type := _, pos := _, after := _, guard := some (13, true) }) rfl (fun a W hf hS hd K hK => ?_) ?_
      · have e208 : a.eval (.tmp 208) = .bool true := (hd 13 (by decide +kernel)).get (s := 208) rfl
        have e214 : a.eval (.tmp 214) = .pointer (some ⟨p, 2, none⟩) := (hd 19 (by decide +kernel)).get (s := 214) rfl
        have hc : W.cell? ⟨p, 2, none⟩ = some (.int .i64 x3) := ((HR.out W hS).blkAt 0 rfl).cell 2
        exact step_val (v := .int .i64 x3) (wanted_some rfl rfl e208) (exec_load rfl e214 (by go_simp)) (hK _ _ (GV.refl _ _ _ _) rfl)
      refine AllSteps.cons (o := { dst := some 216, op := .buildSlice 116 1 #[(0, .tmp 215)], type := _, pos := _, after := _, guard := some (13, true) }) rfl (fun a W hf hS hd K hK => ?_) ?_
      · have e208 : a.eval (.tmp 208) = .bool true := (hd 13 (by decide +kernel)).get (s := 208) rfl
        have e215 : a.eval (.tmp 215) = .int .i64 x3 := (hd 20 (by decide +kernel)).get (s := 215) rfl
        exact stepV_row (wanted_some rfl rfl e208) rfl elI64 (ps := [.tmp 215]) rfl (cs := [.int .i64 x3]) (by simp only [List.map_cons, List.map_nil, e215]) (by intro u hu; simp only [List.mem_cons, List.not_mem_nil, or_false] at hu; rcases hu with rfl <;> exact ⟨rfl, rfl⟩) rfl (by decide) (by decide) (HZD.out W hS).1 (HZD.out W hS).2 hK
      refine AllSteps.cons (o := { dst := some 217, op := .call { callee := .value (.func 29), args := #[.tmp 213, .tmp 216], argTypes := #[93, 116] }, type := _, pos := _, after := _, guard := some (13, true) }) rfl (fun a W hf hS hd K hK => ?_) ?_
      · have e208 : a.eval (.tmp 208) = .bool true := (hd 13 (by decide +kernel)).get (s := 208) rfl
        have d213 := (hd 18 (by decide +kernel)).get (s := 213) rfl
        have d216 := (hd 21 (by decide +kernel)).get (s := 216) rfl
        exact stepV_is (wanted_some rfl rfl e208) rfl enters_mright (vs := #[a.eval (.tmp 213), a.eval (.tmp 216)]) (by first | (simp only [List.map_toArray, List.map_cons, List.map_nil]; done) | (simp only [List.map_toArray, List.map_cons, List.map_nil]; rfl)) (u := (.bool ([tx l1, tx l2].all rightB && [x3].all timeB))) (mright_any [tx l1, tx l2] [x3] _ _ W d213.1 d216.1 HSZ.out) (HZD.out W hS).1 hK
      refine AllSteps.cons (o := { dst := some 218, op := .pick (.tmp 208) (.tmp 217) (.const (.bool false)), type := _, pos := _, after := _, guard := none }) rfl (fun a W hf hS hd K hK => ?_) ?_
      · have e208 : a.eval (.tmp 208) = .bool true := (hd 13 (by decide +kernel)).get (s := 208) rfl
        have d217 := (hd 22 (by decide +kernel)).get (s := 217) rfl
        exact step_val (wanted_none rfl) (exec_pickT rfl e208 rfl) (hK _ _ (GV.refl _ _ _ _) d217)
      refine AllSteps.cons (o := { dst := none, op := .store 38 (.tmp 2) (.tmp 206), type := _, pos := _, after := _, guard := none }) rfl (fun a W hf hS hd K hK => ?_) ?_
      · have e2 : a.eval (.tmp 2) = .pointer (some ⟨q, 0, none⟩) := hf.lit 2 (by decide) rfl
        have d206 := (hd 11 (by decide +kernel)).get (s := 206) rfl
        obtain ⟨cur, hc1, hc2⟩ := (HR.out W hS).len
        rw [← HXE.out] at d206
        exact stepV_fin (wanted_none rfl) rfl e2 d206 hc1 hc2 HFq.out hK
      refine AllSteps.cons (o := { dst := some 3, op := .assign (.tmp 218), type := _, pos := _, after := _, guard := none }) rfl (fun a W hf hS hd K hK => ?_) ?_
      · have d218 := (hd 23 (by decide +kernel)).get (s := 218) rfl
        exact step_val (wanted_none rfl) (exec_asg rfl rfl) (hK _ _ (GV.refl _ _ _ _) d218)
      exact AllSteps.nil
    · intro a W hf hS hp
      have h3 := (hp 25 (by decide)).get (s := 3) rfl
      obtain ⟨v, cs, h5, h6⟩ := (hp 24 (by decide)).fin
      have e2 : a.eval (.tmp 2) = .pointer (some ⟨q, 0, none⟩) := hf.lit 2 (by decide) rfl
      go_wp2_with fail
      refine bodyPost_ret (results_agg_tmp rfl aggDer (show a.tmps.getD 2 undef = _ from e2) h6.length h5.cellsAll) hf.defers ⟨cs, ?_, ?_, (HR.out W hS).below⟩
      · rw [HBE.out, show a.tmps.getD 3 undef = .bool ([tx l1, tx l2].all rightB && [x3].all timeB) from h3]
      · exact h6.mono (fun b hb => by have := HQW.out; omega)
set_option maxHeartbeats 16000000 in
set_option maxRecDepth 100000 in
theorem msgValue_17 (F0 : Nat → Prop) (l1 : List UInt8) (l2 : List UInt8) (x3 : Int) (l4 m4 : List UInt8) (v4 : Value) (l5 : List UInt8) (v5 : Value) (w : World) (hz1 : l1.length ≤ 140737488355328) (hz2 : l2.length ≤ 140737488355328) (hz3 : -9223372036854775808 ≤ x3 ∧ x3 ≤ 9223372036854775807) (hb4 : Bs w v4 m4) (hz4 : l4.length ≤ 140737488355328 ∧ m4.length ≤ 140737488355328) (hb5 : Bs w v5 l5) (hz5 : l5.length ≤ 140737488355328) :
    Calls Try.prog 10 #[.iface 66 (.agg #[.string (tx l1), .string (tx l2), .int .i64 x3, .string (tx l4), v4, v5])] w (VlRes w (.mk 2 17 0 [] ([.s l1, .s l2, .n x3, .i (l4, m4), .b l5].map ptTv)) ([.s l1, .s l2, .n x3, .i (l4, m4), .b l5].all ptB)) := by
  obtain ⟨a4, c4, rfl, hc4, hm4⟩ := hb4.form
  obtain ⟨a5, c5, rfl, hc5, hm5⟩ := hb5.form
  have HC : Hid (VC w w.heap.size [(w.heap.size + 1, [.string (tx l1), .string (tx l2), .int .i64 x3, .string (tx l4), .slice a4 m4.length c4, .slice a5 l5.length c5], 66)] [] [(.slice a4 m4.length c4, m4), (.slice a5 l5.length c5, l5)] ((w.alloc (.cells zs5.toArray 38)).alloc (.cells [.string (tx l1), .string (tx l2), .int .i64 x3, .string (tx l4), .slice a4 m4.length c4, .slice a5 l5.length c5].toArray 66))) := hqZ (VC.start (by intro r hr; simp only [List.mem_cons, List.not_mem_nil, or_false] at hr; rcases hr with rfl | rfl; exact hb4; exact hb5) _ _)
  have HSZ : Hid (∀ u ∈ [tx l1, tx l2], u.size ≤ maxLen) := hqZ (by intro u hu; simp only [List.mem_cons, List.not_mem_nil, or_false] at hu; rcases hu with rfl | rfl; exact szTx hz1; exact szTx hz2)
  have HZ1 := hqZ hz1
  clear hz1
  have HZ2 := hqZ hz2
  clear hz2
  have HZ3 := hqZ hz3
  clear hz3
  have HZ4 := hqZ hz4
  clear hz4
  have HZ5 := hqZ hz5
  clear hz5
  clear hb4
  clear hb5
  obtain ⟨z11, hta11⟩ := tan 54 66 (.agg #[.string (tx l1), .string (tx l2), .int .i64 x3, .string (tx l4), .slice a4 m4.length c4, .slice a5 l5.length c5]) zero_11 (by kernel_rfl) (by decide)
  obtain ⟨z12, hta12⟩ := tan 56 66 (.agg #[.string (tx l1), .string (tx l2), .int .i64 x3, .string (tx l4), .slice a4 m4.length c4, .slice a5 l5.length c5]) zero_12 (by kernel_rfl) (by decide)
  obtain ⟨z13, hta13⟩ := tan 59 66 (.agg #[.string (tx l1), .string (tx l2), .int .i64 x3, .string (tx l4), .slice a4 m4.length c4, .slice a5 l5.length c5]) zero_13 (by kernel_rfl) (by decide)
  obtain ⟨z14, hta14⟩ := tan 60 66 (.agg #[.string (tx l1), .string (tx l2), .int .i64 x3, .string (tx l4), .slice a4 m4.length c4, .slice a5 l5.length c5]) zero_14 (by kernel_rfl) (by decide)
  obtain ⟨z15, hta15⟩ := tan 62 66 (.agg #[.string (tx l1), .string (tx l2), .int .i64 x3, .string (tx l4), .slice a4 m4.length c4, .slice a5 l5.length c5]) zero_15 (by kernel_rfl) (by decide)
  obtain ⟨z16, hta16⟩ := tan 64 66 (.agg #[.string (tx l1), .string (tx l2), .int .i64 x3, .string (tx l4), .slice a4 m4.length c4, .slice a5 l5.length c5]) zero_16 (by kernel_rfl) (by decide)
  have hta : ∀ W, (Instr.typeAssert (.iface 66 (.agg #[.string (tx l1), .string (tx l2), .int .i64 x3, .string (tx l4), .slice a4 m4.length c4, .slice a5 l5.length c5])) 20 66 true).run Try.prog W = .ok (.tuple #[.agg #[.string (tx l1), .string (tx l2), .int .i64 x3, .string (tx l4), .slice a4 m4.length c4, .slice a5 l5.length c5], .bool true]) W := fun W => ta_is _ _ _ (by kernel_rfl) W
  obtain ⟨B, hB⟩ : ∃ B, B = [.s l1, .s l2, .n x3, .i (l4, m4), .b l5].all ptB := ⟨_, rfl⟩
  obtain ⟨X, hX⟩ : ∃ X : Tv, X = .mk 2 17 0 [] ([.s l1, .s l2, .n x3, .i (l4, m4), .b l5].map ptTv) := ⟨_, rfl⟩
  rw [← hB, ← hX]
  have HB := hqZ hB
  have HX2 := hqZ hX
  clear hB hX
  go_enter Try.func10, Try.ntmps10
  go_upto_region 27 with fail
  clear hta hta11 hta12 hta13 hta14 hta15 hta16
  show Code.wp _ _ _ _ ((w.alloc (.cells zs5.toArray 38)).alloc (.cells [.string (tx l1), .string (tx l2), .int .i64 x3, .string (tx l4), .slice a4 m4.length c4, .slice a5 l5.length c5].toArray 66))
  obtain ⟨W0, hW0⟩ : ∃ W0, W0 = (w.alloc (.cells zs5.toArray 38)).alloc (.cells [.string (tx l1), .string (tx l2), .int .i64 x3, .string (tx l4), .slice a4 m4.length c4, .slice a5 l5.length c5].toArray 66) := ⟨_, rfl⟩
  rw [← hW0] at HC ⊢
  clear hW0
  obtain ⟨p, hp⟩ : ∃ p, p = w.heap.size + 1 := ⟨_, rfl⟩
  obtain ⟨q, hq⟩ : ∃ q, q = w.heap.size := ⟨_, rfl⟩
  rw [← hp, ← hq] at HC ⊢
  clear hp hq
  have HTV1 := hqZ (tickValue_any (l4, m4) (.slice a4 m4.length c4) W0 (HC.out.rowAt 0 rfl) HZ4.out.1 HZ4.out.2)
  have HM1 := hqZ (HC.out.blkAt 0 rfl)
  rw [show rightB (tx (l4, m4).1) = rT (l4, m4) from rfl] at HTV1
  go_wp2_with ((with_reducible show wpList _ _ _ (⟨some 224, _, _, _, _, _⟩ :: _) _ _); refine wpList_ldAgg rfl (.tmp 223) aggTicket rfl rfl (cs := [.string (tx l4), .slice a4 m4.length c4]) rfl (HM1.out.cellsAt 3 2) ?_)
  refine HTV1.out.mono ?_
  rintro e wa1 ⟨cs1, rfl, htv, hb⟩
  have HCa1 := hqZ (HC.out.step hb)
  have HTT1 : Hid (TvF wa1 (fun b => q < b) (tkTv (l4, m4)) cs1) := hqZ (htv.mono (fun b hb => by have := HC.out.lt; omega))
  have HCL1 := hqZ htv.length
  have HCO1 := hqZ htv.one
  have HN1 := hqZ (Blk.new wa1 zs5 38)
  clear htv hb HTV1
  go_upto_region 28 with ((with_reducible show wpList _ _ _ (⟨none, .store _ (.tmp 21) (.tmp 227), _, _, _, _⟩ :: _) _ _); refine wpList_stAgg rfl (.tmp 21) (.tmp 227) aggDer rfl rfl (vs := cs1) rfl HCL1.out HN1.out (Nat.le_refl _) HCO1.out ?_)
  intro wb1 h2 k2
  have h2' : Blk wb1 wa1.heap.size cs1 38 := by
    rw [List.drop_of_length_le (by decide), List.append_nil] at h2
    exact h2
  have hb2 : Below wa1.heap.size wa1 wb1 := ((Below.refl _ _).alloc (Nat.le_refl _) _).trans (k2.below (by omega))
  have HCb1 := hqZ (((HCa1.out.addTree HTT1.out).step hb2).addBlk h2' HCa1.out.lt)
  obtain ⟨p1, hp1⟩ : ∃ p1, p1 = wa1.heap.size := ⟨_, rfl⟩
  rw [← hp1] at HCb1 ⊢
  clear h2 k2 h2' hb2 hp1 HCa1 HTT1 HN1 HCO1
  go_upto_region 28 with fail
  cases hok22 : rT (l4, m4) with
  | false =>
    have HOK22 := hqZ hok22
    clear hok22
    have HBE : Hid (B = false) := hqZ (by rw [HB.out]; simp only [List.all_cons, List.all_nil, ptB, HOK22.out, Bool.and_true, Bool.true_and, Bool.and_false, Bool.false_and, Bool.and_assoc])
    obtain ⟨wd, hwd⟩ : ∃ wd, wd = World.drew wb1 := ⟨_, rfl⟩
    have hvd : VC w q [(p, [.string (tx l1), .string (tx l2), .int .i64 x3, .string (tx l4), .slice a4 m4.length c4, .slice a5 l5.length c5], 66), (p1, cs1, 38)] [(tkTv (l4, m4), cs1)] [(.slice a4 m4.length c4, m4), (.slice a5 l5.length c5, l5)] wd := by rw [hwd]; exact HCb1.out.drew
    have HXE : Hid (X = .mk 2 17 0 [] [.mk 1 0 0 l1 [], .mk 1 0 0 l2 [], .mk 0 0 (numU x3) [] [], tkTv (l4, m4), .mk 1 0 0 l5 []]) := hqZ HX2.out
    have HR : Hid (∀ W, GV (fun b => q < b) q X wd W → VR w q [(p, [.string (tx l1), .string (tx l2), .int .i64 x3, .string (tx l4), .slice a4 m4.length c4, .slice a5 l5.length c5], 66), (p1, cs1, 38)] [(tkTv (l4, m4), cs1)] [(.slice a4 m4.length c4, m4), (.slice a5 l5.length c5, l5)] W) := hqZ (fun W h => hvd.gv h)
    have HZD : Hid (∀ W, GV (fun b => q < b) q X wd W → q < W.heap.size ∧ ∀ b, W.heap.size ≤ b → q < b) := hqZ (fun W h => ⟨(HR.out W h).lt, fun b hb => Nat.lt_of_lt_of_le (HR.out W h).lt hb⟩)
    have HFq : Hid (¬ (fun b => q < b) q) := hqZ (Nat.lt_irrefl q)
    have HQW : Hid (w.heap.size = q) := hqZ hvd.hq.symm
    clear hvd HCb1
    refine wp_region_held (S := fun W => GV (fun b => q < b) q X wd W) (by kernel_rfl) ?_
    change wpAnyH _ _ _ _ _ _ _ _ (World.drew _)
    rw [← hwd]
    clear hwd
    refine tkH 0 229 none (.pointer (some ⟨p, 0, none⟩)) rfl (by kernel_rfl) (fun _ _ _ h => h) (by rfl) (by intro W hW; go_simp) (GV.refl _ _ _ _) ?_
    simp only [Act.put, zq1, zq2, zq3]
    refine tkH 1 230 none (.string (tx l1)) rfl (by kernel_rfl) (fun _ _ _ h => h) (by rfl) (by intro W hW; have hc : W.cell? ⟨p, 0, none⟩ = some (.string (tx l1)) := ((HR.out W hW).blkAt 0 rfl).cell 0; go_simp) (GV.refl _ _ _ _) ?_
    simp only [Act.put, zq1, zq2, zq3]
    refine tkH 3 232 none (.pointer (some ⟨p, 1, none⟩)) rfl (by kernel_rfl) (fun _ _ _ h => h) (by rfl) (by intro W hW; go_simp) (GV.refl _ _ _ _) ?_
    simp only [Act.put, zq1, zq2, zq3]
    refine tkH 4 233 none (.string (tx l2)) rfl (by kernel_rfl) (fun _ _ _ h => h) (by rfl) (by intro W hW; have hc : W.cell? ⟨p, 1, none⟩ = some (.string (tx l2)) := ((HR.out W hW).blkAt 0 rfl).cell 1; go_simp) (GV.refl _ _ _ _) ?_
    simp only [Act.put, zq1, zq2, zq3]
    refine tkH 6 235 none (.pointer (some ⟨p, 2, none⟩)) rfl (by kernel_rfl) (fun _ _ _ h => h) (by rfl) (by intro W hW; go_simp) (GV.refl _ _ _ _) ?_
    simp only [Act.put, zq1, zq2, zq3]
    refine tkH 7 236 none (.int .i64 x3) rfl (by kernel_rfl) (fun _ _ _ h => h) (by rfl) (by intro W hW; have hc : W.cell? ⟨p, 2, none⟩ = some (.int .i64 x3) := ((HR.out W hW).blkAt 0 rfl).cell 2; go_simp) (GV.refl _ _ _ _) ?_
    simp only [Act.put, zq1, zq2, zq3]
    refine tkH 9 238 none (.agg cs1.toArray) rfl (by kernel_rfl) (fun _ _ _ h => h) (by rfl) (by intro W hW; exact exec_ldAgg rfl aggDer rfl HCL1.out ((HR.out W hW).blkAt 1 rfl).cellsAll) (GV.refl _ _ _ _) ?_
    simp only [Act.put, zq1, zq2, zq3]
    refine tkH 10 239 none (.pointer (some ⟨p, 5, none⟩)) rfl (by kernel_rfl) (fun _ _ _ h => h) (by rfl) (by intro W hW; go_simp) (GV.refl _ _ _ _) ?_
    simp only [Act.put, zq1, zq2, zq3]
    refine tkH 11 240 none (.slice a5 l5.length c5) rfl (by kernel_rfl) (fun _ _ _ h => h) (by rfl) (by intro W hW; have hc : W.cell? ⟨p, 5, none⟩ = some (.slice a5 l5.length c5) := ((HR.out W hW).blkAt 0 rfl).cell 5; go_simp) (GV.refl _ _ _ _) ?_
    simp only [Act.put, zq1, zq2, zq3]
    refine tkH 15 244 none (.bool false) rfl (by kernel_rfl) (fun _ _ _ h => h) (by rfl) (by intro W hW; go_simp) (GV.refl _ _ _ _) ?_
    simp only [Act.put, zq1, zq2, zq3]
    refine anyH_steps (G := GV (fun b => q < b) q X) (Post := postV (fun b => q < b) q X [.any, .any, .val (.mk 1 0 0 l1 []), .any, .any, .val (.mk 1 0 0 l2 []), .any, .any, .val (.mk 0 0 (numU x3) [] []), .any, .any, .any, .val (.mk 1 0 0 l5 []), .vals [.mk 1 0 0 l1 [], .mk 1 0 0 l2 [], .mk 0 0 (numU x3) [] [], tkTv (l4, m4), .mk 1 0 0 l5 []], .val (.mk 2 17 0 [] [.mk 1 0 0 l1 [], .mk 1 0 0 l2 [], .mk 0 0 (numU x3) [] [], tkTv (l4, m4), .mk 1 0 0 l5 []]), .any, .is (.bool false), .any, .any, .any, .any, .any, .any, .any, .any, .any, .is (.bool false), .fin, .is (.bool false)]) (ds := [231, 234, 237, 241, 242, 243, 245, 246, 247, 248, 249, 250, 251, 252, 253, 254, 255, 3]) (GV.refl _ _ _) GV.trans (fun W W' h g => GV.trans _ _ _ h g) (fun i v W W' h g => PK.stable HFq.out h g) [2, 5, 8, 12, 13, 14, 16, 17, 18, 19, 20, 21, 22, 23, 24, 25, 26, 27, 28] 397 rfl (by decide +kernel) (by decide +kernel) ?_ ?_ (GV.refl _ _ _ _) (by decide +kernel)
    · refine AllSteps.cons (o := { dst := some 231, op := .call { callee := .value (.func 26), args := #[.tmp 230], argTypes := #[9] }, type := _, pos := _, after := _, guard := none }) rfl (fun a W hf hS hd K hK => ?_) ?_
      · have e230 : a.eval (.tmp 230) = .string (tx l1) := hf.lit 230 (by decide) rfl
        exact stepV_mk (wanted_none rfl) rfl enters_mtext (vs := #[.string (tx l1)]) (by simp [e230]) (mtext_any l1 W HZ1.out) (HZD.out W hS).1 (HZD.out W hS).2 hK
      refine AllSteps.cons (o := { dst := some 234, op := .call { callee := .value (.func 26), args := #[.tmp 233], argTypes := #[9] }, type := _, pos := _, after := _, guard := none }) rfl (fun a W hf hS hd K hK => ?_) ?_
      · have e233 : a.eval (.tmp 233) = .string (tx l2) := hf.lit 233 (by decide) rfl
        exact stepV_mk (wanted_none rfl) rfl enters_mtext (vs := #[.string (tx l2)]) (by simp [e233]) (mtext_any l2 W HZ2.out) (HZD.out W hS).1 (HZD.out W hS).2 hK
      refine AllSteps.cons (o := { dst := some 237, op := .call { callee := .value (.func 27), args := #[.tmp 236], argTypes := #[2] }, type := _, pos := _, after := _, guard := none }) rfl (fun a W hf hS hd K hK => ?_) ?_
      · have e236 : a.eval (.tmp 236) = .int .i64 x3 := hf.lit 236 (by decide) rfl
        exact stepV_mk (wanted_none rfl) rfl enters_mnum (vs := #[.int .i64 x3]) (by simp [e236]) (mnumI_any x3 W HZ3.out.1 HZ3.out.2) (HZD.out W hS).1 (HZD.out W hS).2 hK
      refine AllSteps.cons (o := { dst := some 241, op := .call { callee := .value (.func 28), args := #[.tmp 240], argTypes := #[22] }, type := _, pos := _, after := _, guard := none }) rfl (fun a W hf hS hd K hK => ?_) ?_
      · have e240 : a.eval (.tmp 240) = .slice a5 l5.length c5 := hf.lit 240 (by decide) rfl
        exact stepV_mk (wanted_none rfl) rfl enters_raw (vs := #[.slice a5 l5.length c5]) (by simp [e240]) (rawNew_any _ l5 W ((HR.out W hS).rowAt 1 rfl) HZ5.out) (HZD.out W hS).1 (HZD.out W hS).2 hK
      refine AllSteps.cons (o := { dst := some 242, op := .buildSlice 36 5 #[(0, .tmp 231), (1, .tmp 234), (2, .tmp 237), (3, .tmp 238), (4, .tmp 241)], type := _, pos := _, after := _, guard := none }) rfl (fun a W hf hS hd K hK => ?_) ?_
      · have d231 := (hd 2 (by decide +kernel)).get (s := 231) rfl
        have d234 := (hd 5 (by decide +kernel)).get (s := 234) rfl
        have d237 := (hd 8 (by decide +kernel)).get (s := 237) rfl
        have e238 : a.eval (.tmp 238) = .agg cs1.toArray := hf.lit 238 (by decide) rfl
        have d241 := (hd 12 (by decide +kernel)).get (s := 241) rfl
        exact stepV_vals (wanted_none rfl) rfl elDer (ps := [.tmp 231, .tmp 234, .tmp 237, .tmp 238, .tmp 241]) rfl (l := [.mk 1 0 0 l1 [], .mk 1 0 0 l2 [], .mk 0 0 (numU x3) [] [], tkTv (l4, m4), .mk 1 0 0 l5 []]) ⟨d231, d234, d237, ⟨_, e238, (HR.out W hS).treeAt 0 rfl⟩, d241, trivial⟩ rfl (by decide) (by decide) (HZD.out W hS).1 (HZD.out W hS).2 hK
      refine AllSteps.cons (o := { dst := some 243, op := .call { callee := .value (.func 25), args := #[.const (.int .i64 17), .tmp 242], argTypes := #[3, 36] }, type := _, pos := _, after := _, guard := none }) rfl (fun a W hf hS hd K hK => ?_) ?_
      · have d242 := (hd 13 (by decide +kernel)).get (s := 242) rfl
        exact stepV_seq (wanted_none rfl) rfl enters_seq d242 (HZD.out W hS).1 (fun v w1 h1 h2 => hK v w1 h1 h2) HFq.out
      refine AllSteps.cons (o := { dst := some 245, op := .move (.tmp 244), type := _, pos := _, after := _, guard := none }) rfl (fun a W hf hS hd K hK => ?_) ?_
      · have e244 : a.eval (.tmp 244) = .bool false := hf.lit 244 (by decide) rfl
        exact step_val (v := .bool false) (wanted_none rfl) (exec_move rfl e244) (hK _ _ (GV.refl _ _ _ _) rfl)
      refine AllSteps.cons (o := { dst := some 246, op := .fieldAddr 66 (.tmp 20) 0, type := _, pos := _, after := _, guard := some (16, true) }) rfl (fun a W hf hS hd K hK => ?_) ?_
      · have e245 : a.eval (.tmp 245) = .bool false := (hd 16 (by decide +kernel)).get (s := 245) rfl
        exact step_skip (wanted_no rfl rfl e245 rfl) (hK _ _ (GV.refl _ _ _ _) trivial)
      refine AllSteps.cons (o := { dst := some 247, op := .load 9 (.tmp 246), type := _, pos := _, after := _, guard := some (16, true) }) rfl (fun a W hf hS hd K hK => ?_) ?_
      · have e245 : a.eval (.tmp 245) = .bool false := (hd 16 (by decide +kernel)).get (s := 245) rfl
        exact step_skip (wanted_no rfl rfl e245 rfl) (hK _ _ (GV.refl _ _ _ _) trivial)
      refine AllSteps.cons (o := { dst := some 248, op := .fieldAddr 66 (.tmp 20) 1, type := _, pos := _, after := _, guard := some (16, true) }) rfl (fun a W hf hS hd K hK => ?_) ?_
      · have e245 : a.eval (.tmp 245) = .bool false := (hd 16 (by decide +kernel)).get (s := 245) rfl
        exact step_skip (wanted_no rfl rfl e245 rfl) (hK _ _ (GV.refl _ _ _ _) trivial)
      refine AllSteps.cons (o := { dst := some 249, op := .load 9 (.tmp 248), type := _, pos := _, after := _, guard := some (16, true) }) rfl (fun a W hf hS hd K hK => ?_) ?_
      · have e245 : a.eval (.tmp 245) = .bool false := (hd 16 (by decide +kernel)).get (s := 245) rfl
        exact step_skip (wanted_no rfl rfl e245 rfl) (hK _ _ (GV.refl _ _ _ _) trivial)
      refine AllSteps.cons (o := { dst := some 250, op := .buildSlice 93 2 #[(0, .tmp 247), (1, .tmp 249)], type := _, pos := _, after := _, guard := some (16, true) }) rfl (fun a W hf hS hd K hK => ?_) ?_
      · have e245 : a.eval (.tmp 245) = .bool false := (hd 16 (by decide +kernel)).get (s := 245) rfl
        exact step_skip (wanted_no rfl rfl e245 rfl) (hK _ _ (GV.refl _ _ _ _) trivial)
      refine AllSteps.cons (o := { dst := some 251, op := .fieldAddr 66 (.tmp 20) 2, type := _, pos := _, after := _, guard := some (16, true) }) rfl (fun a W hf hS hd K hK => ?_) ?_
      · have e245 : a.eval (.tmp 245) = .bool false := (hd 16 (by decide +kernel)).get (s := 245) rfl
        exact step_skip (wanted_no rfl rfl e245 rfl) (hK _ _ (GV.refl _ _ _ _) trivial)
      refine AllSteps.cons (o := { dst := some 252, op := .load 2 (.tmp 251), type := _, pos := _, after := _, guard := some (16, true) }) rfl (fun a W hf hS hd K hK => ?_) ?_
      · have e245 : a.eval (.tmp 245) = .bool false := (hd 16 (by decide +kernel)).get (s := 245) rfl
        exact step_skip (wanted_no rfl rfl e245 rfl) (hK _ _ (GV.refl _ _ _ _) trivial)
      refine AllSteps.cons (o := { dst := some 253, op := .buildSlice 116 1 #[(0, .tmp 252)], type := _, pos := _, after := _, guard := some (16, true) }) rfl (fun a W hf hS hd K hK => ?_) ?_
      · have e245 : a.eval (.tmp 245) = .bool false := (hd 16 (by decide +kernel)).get (s := 245) rfl
        exact step_skip (wanted_no rfl rfl e245 rfl) (hK _ _ (GV.refl _ _ _ _) trivial)
      refine AllSteps.cons (o := { dst := some 254, op := .call { callee := .value (.func 29), args := #[.tmp 250, .tmp 253], argTypes := #[93, 116] }, type := _, pos := _, after := _, guard := some (16, true) }) rfl (fun a W hf hS hd K hK => ?_) ?_
      · have e245 : a.eval (.tmp 245) = .bool false := (hd 16 (by decide +kernel)).get (s := 245) rfl
        exact step_skip (wanted_no rfl rfl e245 rfl) (hK _ _ (GV.refl _ _ _ _) trivial)
      refine AllSteps.cons (o := { dst := some 255, op := .pick (.tmp 245) (.tmp 254) (.const (.bool false)), type := _, pos := _, after := _, guard := none }) rfl (fun a W hf hS hd K hK => ?_) ?_
      · have e245 : a.eval (.tmp 245) = .bool false := (hd 16 (by decide +kernel)).get (s := 245) rfl
        exact step_val (v := .bool false) (wanted_none rfl) (exec_pickF rfl e245 rfl) (hK _ _ (GV.refl _ _ _ _) rfl)
      refine AllSteps.cons (o := { dst := none, op := .store 38 (.tmp 2) (.tmp 243), type := _, pos := _, after := _, guard := none }) rfl (fun a W hf hS hd K hK => ?_) ?_
      · have e2 : a.eval (.tmp 2) = .pointer (some ⟨q, 0, none⟩) := hf.lit 2 (by decide) rfl
        have d243 := (hd 14 (by decide +kernel)).get (s := 243) rfl
        obtain ⟨cur, hc1, hc2⟩ := (HR.out W hS).len
        rw [← HXE.out] at d243
        exact stepV_fin (wanted_none rfl) rfl e2 d243 hc1 hc2 HFq.out hK
      refine AllSteps.cons (o := { dst := some 3, op := .assign (.tmp 255), type := _, pos := _, after := _, guard := none }) rfl (fun a W hf hS hd K hK => ?_) ?_
      · have e255 : a.eval (.tmp 255) = .bool false := (hd 26 (by decide +kernel)).get (s := 255) rfl
        exact step_val (wanted_none rfl) (exec_asg rfl rfl) (hK _ _ (GV.refl _ _ _ _) e255)
      exact AllSteps.nil
    · intro a W hf hS hp
      have h3 := (hp 28 (by decide)).get (s := 3) rfl
      obtain ⟨v, cs, h5, h6⟩ := (hp 27 (by decide)).fin
      have e2 : a.eval (.tmp 2) = .pointer (some ⟨q, 0, none⟩) := hf.lit 2 (by decide) rfl
      go_wp2_with fail
      refine bodyPost_ret (results_agg_tmp rfl aggDer (show a.tmps.getD 2 undef = _ from e2) h6.length h5.cellsAll) hf.defers ⟨cs, ?_, ?_, (HR.out W hS).below⟩
      · rw [HBE.out, show a.tmps.getD 3 undef = .bool false from h3]
      · exact h6.mono (fun b hb => by have := HQW.out; omega)
  | true =>
    have HOK22 := hqZ hok22
    clear hok22
    have HBE : Hid (B = ([tx l1, tx l2].all rightB && [x3].all timeB)) := hqZ (by rw [HB.out]; simp only [List.all_cons, List.all_nil, ptB, HOK22.out, Bool.and_true, Bool.true_and, Bool.and_false, Bool.false_and, Bool.and_assoc]; first | done | ac_rfl)
    obtain ⟨wd, hwd⟩ : ∃ wd, wd = World.drew wb1 := ⟨_, rfl⟩
    have hvd : VC w q [(p, [.string (tx l1), .string (tx l2), .int .i64 x3, .string (tx l4), .slice a4 m4.length c4, .slice a5 l5.length c5], 66), (p1, cs1, 38)] [(tkTv (l4, m4), cs1)] [(.slice a4 m4.length c4, m4), (.slice a5 l5.length c5, l5)] wd := by rw [hwd]; exact HCb1.out.drew
    have HXE : Hid (X = .mk 2 17 0 [] [.mk 1 0 0 l1 [], .mk 1 0 0 l2 [], .mk 0 0 (numU x3) [] [], tkTv (l4, m4), .mk 1 0 0 l5 []]) := hqZ HX2.out
    have HR : Hid (∀ W, GV (fun b => q < b) q X wd W → VR w q [(p, [.string (tx l1), .string (tx l2), .int .i64 x3, .string (tx l4), .slice a4 m4.length c4, .slice a5 l5.length c5], 66), (p1, cs1, 38)] [(tkTv (l4, m4), cs1)] [(.slice a4 m4.length c4, m4), (.slice a5 l5.length c5, l5)] W) := hqZ (fun W h => hvd.gv h)
    have HZD : Hid (∀ W, GV (fun b => q < b) q X wd W → q < W.heap.size ∧ ∀ b, W.heap.size ≤ b → q < b) := hqZ (fun W h => ⟨(HR.out W h).lt, fun b hb => Nat.lt_of_lt_of_le (HR.out W h).lt hb⟩)
    have HFq : Hid (¬ (fun b => q < b) q) := hqZ (Nat.lt_irrefl q)
    have HQW : Hid (w.heap.size = q) := hqZ hvd.hq.symm
    clear hvd HCb1
    refine wp_region_held (S := fun W => GV (fun b => q < b) q X wd W) (by kernel_rfl) ?_
    change wpAnyH _ _ _ _ _ _ _ _ (World.drew _)
    rw [← hwd]
    clear hwd
    refine tkH 0 229 none (.pointer (some ⟨p, 0, none⟩)) rfl (by kernel_rfl) (fun _ _ _ h => h) (by rfl) (by intro W hW; go_simp) (GV.refl _ _ _ _) ?_
    simp only [Act.put, zq1, zq2, zq3]
    refine tkH 1 230 none (.string (tx l1)) rfl (by kernel_rfl) (fun _ _ _ h => h) (by rfl) (by intro W hW; have hc : W.cell? ⟨p, 0, none⟩ = some (.string (tx l1)) := ((HR.out W hW).blkAt 0 rfl).cell 0; go_simp) (GV.refl _ _ _ _) ?_
    simp only [Act.put, zq1, zq2, zq3]
    refine tkH 3 232 none (.pointer (some ⟨p, 1, none⟩)) rfl (by kernel_rfl) (fun _ _ _ h => h) (by rfl) (by intro W hW; go_simp) (GV.refl _ _ _ _) ?_
    simp only [Act.put, zq1, zq2, zq3]
    refine tkH 4 233 none (.string (tx l2)) rfl (by kernel_rfl) (fun _ _ _ h => h) (by rfl) (by intro W hW; have hc : W.cell? ⟨p, 1, none⟩ = some (.string (tx l2)) := ((HR.out W hW).blkAt 0 rfl).cell 1; go_simp) (GV.refl _ _ _ _) ?_
    simp only [Act.put, zq1, zq2, zq3]
    refine tkH 6 235 none (.pointer (some ⟨p, 2, none⟩)) rfl (by kernel_rfl) (fun _ _ _ h => h) (by rfl) (by intro W hW; go_simp) (GV.refl _ _ _ _) ?_
    simp only [Act.put, zq1, zq2, zq3]
    refine tkH 7 236 none (.int .i64 x3) rfl (by kernel_rfl) (fun _ _ _ h => h) (by rfl) (by intro W hW; have hc : W.cell? ⟨p, 2, none⟩ = some (.int .i64 x3) := ((HR.out W hW).blkAt 0 rfl).cell 2; go_simp) (GV.refl _ _ _ _) ?_
    simp only [Act.put, zq1, zq2, zq3]
    refine tkH 9 238 none (.agg cs1.toArray) rfl (by kernel_rfl) (fun _ _ _ h => h) (by rfl) (by intro W hW; exact exec_ldAgg rfl aggDer rfl HCL1.out ((HR.out W hW).blkAt 1 rfl).cellsAll) (GV.refl _ _ _ _) ?_
    simp only [Act.put, zq1, zq2, zq3]
    refine tkH 10 239 none (.pointer (some ⟨p, 5, none⟩)) rfl (by kernel_rfl) (fun _ _ _ h => h) (by rfl) (by intro W hW; go_simp) (GV.refl _ _ _ _) ?_
    simp only [Act.put, zq1, zq2, zq3]
    refine tkH 11 240 none (.slice a5 l5.length c5) rfl (by kernel_rfl) (fun _ _ _ h => h) (by rfl) (by intro W hW; have hc : W.cell? ⟨p, 5, none⟩ = some (.slice a5 l5.length c5) := ((HR.out W hW).blkAt 0 rfl).cell 5; go_simp) (GV.refl _ _ _ _) ?_
    simp only [Act.put, zq1, zq2, zq3]
    refine tkH 15 244 none (.bool true) rfl (by kernel_rfl) (fun _ _ _ h => h) (by rfl) (by intro W hW; go_simp) (GV.refl _ _ _ _) ?_
    simp only [Act.put, zq1, zq2, zq3]
    refine anyH_steps (G := GV (fun b => q < b) q X) (Post := postV (fun b => q < b) q X [.any, .any, .val (.mk 1 0 0 l1 []), .any, .any, .val (.mk 1 0 0 l2 []), .any, .any, .val (.mk 0 0 (numU x3) [] []), .any, .any, .any, .val (.mk 1 0 0 l5 []), .vals [.mk 1 0 0 l1 [], .mk 1 0 0 l2 [], .mk 0 0 (numU x3) [] [], tkTv (l4, m4), .mk 1 0 0 l5 []], .val (.mk 2 17 0 [] [.mk 1 0 0 l1 [], .mk 1 0 0 l2 [], .mk 0 0 (numU x3) [] [], tkTv (l4, m4), .mk 1 0 0 l5 []]), .any, .is (.bool true), .is (.pointer (some ⟨p, 0, none⟩)), .is (.string (tx l1)), .is (.pointer (some ⟨p, 1, none⟩)), .is (.string (tx l2)), .row [.string (tx l1), .string (tx l2)], .is (.pointer (some ⟨p, 2, none⟩)), .is (.int .i64 x3), .row [.int .i64 x3], .is (.bool ([tx l1, tx l2].all rightB && [x3].all timeB)), .is (.bool ([tx l1, tx l2].all rightB && [x3].all timeB)), .fin, .is (.bool ([tx l1, tx l2].all rightB && [x3].all timeB))]) (ds := [231, 234, 237, 241, 242, 243, 245, 246, 247, 248, 249, 250, 251, 252, 253, 254, 255, 3]) (GV.refl _ _ _) GV.trans (fun W W' h g => GV.trans _ _ _ h g) (fun i v W W' h g => PK.stable HFq.out h g) [2, 5, 8, 12, 13, 14, 16, 17, 18, 19, 20, 21, 22, 23, 24, 25, 26, 27, 28] 397 rfl (by decide +kernel) (by decide +kernel) ?_ ?_ (GV.refl _ _ _ _) (by decide +kernel)
    · refine AllSteps.cons (o := { dst := some 231, op := .call { callee := .value (.func 26), args := #[.tmp 230], argTypes := #[9] }, type := _, pos := _, after := _, guard := none }) rfl (fun a W hf hS hd K hK => ?_) ?_
      · have e230 : a.eval (.tmp 230) = .string (tx l1) := hf.lit 230 (by decide) rfl
        exact stepV_mk (wanted_none rfl) rfl enters_mtext (vs := #[.string (tx l1)]) (by simp [e230]) (mtext_any l1 W HZ1.out) (HZD.out W hS).1 (HZD.out W hS).2 hK
      refine AllSteps.cons (o := { dst := some 234, op := .call { callee := .value (.func 26), args := #[.tmp 233], argTypes := #[9] }, type := _, pos := _, after := _, guard := none }) rfl (fun a W hf hS hd K hK => ?_) ?_
      · have e233 : a.eval (.tmp 233) = .string (tx l2) := hf.lit 233 (by decide) rfl
        exact stepV_mk (wanted_none rfl) rfl enters_mtext (vs := #[.string (tx l2)]) (by simp [e233]) (mtext_any l2 W HZ2.out) (HZD.out W hS).1 (HZD.out W hS).2 hK
      refine AllSteps.cons (o := { dst := some 237, op := .call { callee := .value (.func 27), args := #[.tmp 236], argTypes := #[2] }, type := _, pos := _, after := _, guard := none }) rfl (fun a W hf hS hd K hK => ?_) ?_
      · have e236 : a.eval (.tmp 236) = .int .i64 x3 := hf.lit 236 (by decide) rfl
        exact stepV_mk (wanted_none rfl) rfl enters_mnum (vs := #[.int .i64 x3]) (by simp [e236]) (mnumI_any x3 W HZ3.out.1 HZ3.out.2) (HZD.out W hS).1 (HZD.out W hS).2 hK
      refine AllSteps.cons (o := { dst := some 241, op := .call { callee := .value (.func 28), args := #[.tmp 240], argTypes := #[22] }, type := _, pos := _, after := _, guard := none }) rfl (fun a W hf hS hd K hK => ?_) ?_
      · have e240 : a.eval (.tmp 240) = .slice a5 l5.length c5 := hf.lit 240 (by decide) rfl
        exact stepV_mk (wanted_none rfl) rfl enters_raw (vs := #[.slice a5 l5.length c5]) (by simp [e240]) (rawNew_any _ l5 W ((HR.out W hS).rowAt 1 rfl) HZ5.out) (HZD.out W hS).1 (HZD.out W hS).2 hK
      refine AllSteps.cons (o := { dst := some 242, op := .buildSlice 36 5 #[(0, .tmp 231), (1, .tmp 234), (2, .tmp 237), (3, .tmp 238), (4, .tmp 241)], type := _, pos := _, after := _, guard := none }) rfl (fun a W hf hS hd K hK => ?_) ?_
      · have d231 := (hd 2 (by decide +kernel)).get (s := 231) rfl
        have d234 := (hd 5 (by decide +kernel)).get (s := 234) rfl
        have d237 := (hd 8 (by decide +kernel)).get (s := 237) rfl
        have e238 : a.eval (.tmp 238) = .agg cs1.toArray := hf.lit 238 (by decide) rfl
        have d241 := (hd 12 (by decide +kernel)).get (s := 241) rfl
        exact stepV_vals (wanted_none rfl) rfl elDer (ps := [.tmp 231, .tmp 234, .tmp 237, .tmp 238, .tmp 241]) rfl (l := [.mk 1 0 0 l1 [], .mk 1 0 0 l2 [], .mk 0 0 (numU x3) [] [], tkTv (l4, m4), .mk 1 0 0 l5 []]) ⟨d231, d234, d237, ⟨_, e238, (HR.out W hS).treeAt 0 rfl⟩, d241, trivial⟩ rfl (by decide) (by decide) (HZD.out W hS).1 (HZD.out W hS).2 hK
      refine AllSteps.cons (o := { dst := some 243, op := .call { callee := .value (.func 25), args := #[.const (.int .i64 17), .tmp 242], argTypes := #[3, 36] }, type := _, pos := _, after := _, guard := none }) rfl (fun a W hf hS hd K hK => ?_) ?_
      · have d242 := (hd 13 (by decide +kernel)).get (s := 242) rfl
        exact stepV_seq (wanted_none rfl) rfl enters_seq d242 (HZD.out W hS).1 (fun v w1 h1 h2 => hK v w1 h1 h2) HFq.out
      refine AllSteps.cons (o := { dst := some 245, op := .move (.tmp 244), type := _, pos := _, after := _, guard := none }) rfl (fun a W hf hS hd K hK => ?_) ?_
      · have e244 : a.eval (.tmp 244) = .bool true := hf.lit 244 (by decide) rfl
        exact step_val (v := .bool true) (wanted_none rfl) (exec_move rfl e244) (hK _ _ (GV.refl _ _ _ _) rfl)
      refine AllSteps.cons (o := { dst := some 246, op := .fieldAddr 66 (.tmp 20) 0, type := _, pos := _, after := _, guard := some (16, true) }) rfl (fun a W hf hS hd K hK => ?_) ?_
      · have e245 : a.eval (.tmp 245) = .bool true := (hd 16 (by decide +kernel)).get (s := 245) rfl
        have e20 : a.eval (.tmp 20) = .pointer (some ⟨p, 0, none⟩) := hf.lit 20 (by decide) rfl
        exact step_val (v := .pointer (some ⟨p, 0, none⟩)) (wanted_some rfl rfl e245) (exec_field rfl e20 (by go_simp)) (hK _ _ (GV.refl _ _ _ _) rfl)
      refine AllSteps.cons (o := { dst := some 247, op := .load 9 (.tmp 246), type := _, pos := _, after := _, guard := some (16, true) }) rfl (fun a W hf hS hd K hK => ?_) ?_
      · have e245 : a.eval (.tmp 245) = .bool true := (hd 16 (by decide +kernel)).get (s := 245) rfl
        have e246 : a.eval (.tmp 246) = .pointer (some ⟨p, 0, none⟩) := (hd 17 (by decide +kernel)).get (s := 246) rfl
        have hc : W.cell? ⟨p, 0, none⟩ = some (.string (tx l1)) := ((HR.out W hS).blkAt 0 rfl).cell 0
        exact step_val (v := .string (tx l1)) (wanted_some rfl rfl e245) (exec_load rfl e246 (by go_simp)) (hK _ _ (GV.refl _ _ _ _) rfl)
      refine AllSteps.cons (o := { dst := some 248, op := .fieldAddr 66 (.tmp 20) 1, type := _, pos := _, after := _, guard := some (16, true) }) rfl (fun a W hf hS hd K hK => ?_) ?_
      · have e245 : a.eval (.tmp 245) = .bool true := (hd 16 (by decide +kernel)).get (s := 245) rfl
        have e20 : a.eval (.tmp 20) = .pointer (some ⟨p, 0, none⟩) := hf.lit 20 (by decide) rfl
        exact step_val (v := .pointer (some ⟨p, 1, none⟩)) (wanted_some rfl rfl e245) (exec_field rfl e20 (by go_simp)) (hK _ _ (GV.refl _ _ _ _) rfl)
      refine AllSteps.cons (o := { dst := some 249, op := .load 9 (.tmp 248), type := _, pos := _, after := _, guard := some (16, true) }) rfl (fun a W hf hS hd K hK => ?_) ?_
      · have e245 : a.eval (.tmp 245) = .bool true := (hd 16 (by decide +kernel)).get (s := 245) rfl
        have e248 : a.eval (.tmp 248) = .pointer (some ⟨p, 1, none⟩) := (hd 19 (by decide +kernel)).get (s := 248) rfl
        have hc : W.cell? ⟨p, 1, none⟩ = some (.string (tx l2)) := ((HR.out W hS).blkAt 0 rfl).cell 1
        exact step_val (v := .string (tx l2)) (wanted_some rfl rfl e245) (exec_load rfl e248 (by go_simp)) (hK _ _ (GV.refl _ _ _ _) rfl)
      refine AllSteps.cons (o := { dst := some 250, op := .buildSlice 93 2 #[(0, .tmp 247), (1, .tmp 249)], type := _, pos := _, after := _, guard := some (16, true) }) rfl (fun a W hf hS hd K hK => ?_) ?_
      · have e245 : a.eval (.tmp 245) = .bool true := (hd 16 (by decide +kernel)).get (s := 245) rfl
        have e247 : a.eval (.tmp 247) = .string (tx l1) := (hd 18 (by decide +kernel)).get (s := 247) rfl
        have e249 : a.eval (.tmp 249) = .string (tx l2) := (hd 20 (by decide +kernel)).get (s := 249) rfl
        exact stepV_row (wanted_some rfl rfl e245) rfl elStr (ps := [.tmp 247, .tmp 249]) rfl (cs := [.string (tx l1), .string (tx l2)]) (by simp only [List.map_cons, List.map_nil, e247, e249]) (by intro u hu; simp only [List.mem_cons, List.not_mem_nil, or_false] at hu; rcases hu with rfl | rfl <;> exact ⟨rfl, rfl⟩) rfl (by decide) (by decide) (HZD.out W hS).1 (HZD.out W hS).2 hK
      refine AllSteps.cons (o := { dst := some 251, op := .fieldAddr 66 (.tmp 20) 2, type := _, pos := _, after := _, guard := some (16, true) }) rfl (fun a W hf hS hd K hK => ?_) ?_
      · have e245 : a.eval (.tmp 245) = .bool true := (hd 16 (by decide +kernel)).get (s := 245) rfl
        have e20 : a.eval (.tmp 20) = .pointer (some ⟨p, 0, none⟩) := hf.lit 20 (by decide) rfl
        exact step_val (v := .pointer (some ⟨p, 2, none⟩)) (wanted_some rfl rfl e245) (exec_field rfl e20 (by go_simp)) (hK _ _ (GV.refl _ _ _ _) rfl)
      refine AllSteps.cons (o := { dst := some 252, op := .load 2 (.tmp 251), type := _, pos := _, after := _, guard := some (16, true) }) rfl (fun a W hf hS hd K hK => ?_) ?_
      · have e245 : a.eval (.tmp 245) = .bool true := (hd 16 (by decide +kernel)).get (s := 245) rfl
        have e251 : a.eval (.tmp 251) = .pointer (some ⟨p, 2, none⟩) := (hd 22 (by decide +kernel)).get (s := 251) rfl
        have hc : W.cell? ⟨p, 2, none⟩ = some (.int .i64 x3) := ((HR.out W hS).blkAt 0 rfl).cell 2
        exact step_val (v := .int .i64 x3) (wanted_some rfl rfl e245) (exec_load rfl e251 (by go_simp)) (hK _ _ (GV.refl _ _ _ _) rfl)
      refine AllSteps.cons (o := { dst := some 253, op := .buildSlice 116 1 #[(0, .tmp 252)], type := _, pos := _, after := _, guard := some (16, true) }) rfl (fun a W hf hS hd K hK => ?_) ?_
      · have e245 : a.eval (.tmp 245) = .bool true := (hd 16 (by decide +kernel)).get (s := 245) rfl
        have e252 : a.eval (.tmp 252) = .int .i64 x3 := (hd 23 (by decide +kernel)).get (s := 252) rfl
        exact stepV_row (wanted_some rfl rfl e245) rfl elI64 (ps := [.tmp 252]) rfl (cs := [.int .i64 x3]) (by simp only [List.map_cons, List.map_nil, e252]) (by intro u hu; simp only [List.mem_cons, List.not_mem_nil, or_false] at hu; rcases hu with rfl <;> exact ⟨rfl, rfl⟩) rfl (by decide) (by decide) (HZD.out W hS).1 (HZD.out W hS).2 hK
      refine AllSteps.cons (o := { dst := some 254, op := .call { callee := .value (.func 29), args := #[.tmp 250, .tmp 253], argTypes := #[93, 116] }, type := _, pos := _, after := _, guard := some (16, true) }) rfl (fun a W hf hS hd K hK => ?_) ?_
      · have e245 : a.eval (.tmp 245) = .bool true := (hd 16 (by decide +kernel)).get (s := 245) rfl
        have d250 := (hd 21 (by decide +kernel)).get (s := 250) rfl
        have d253 := (hd 24 (by decide +kernel)).get (s := 253) rfl
        exact stepV_is (wanted_some rfl rfl e245) rfl enters_mright (vs := #[a.eval (.tmp 250), a.eval (.tmp 253)]) (by first | (simp only [List.map_toArray, List.map_cons, List.map_nil]; done) | (simp only [List.map_toArray, List.map_cons, List.map_nil]; rfl)) (u := (.bool ([tx l1, tx l2].all rightB && [x3].all timeB))) (mright_any [tx l1, tx l2] [x3] _ _ W d250.1 d253.1 HSZ.out) (HZD.out W hS).1 hK
      refine AllSteps.cons (o := { dst := some 255, op := .pick (.tmp 245) (.tmp 254) (.const (.bool false)), type := _, pos := _, after := _, guard := none }) rfl (fun a W hf hS hd K hK => ?_) ?_
      · have e245 : a.eval (.tmp 245) = .bool true := (hd 16 (by decide +kernel)).get (s := 245) rfl
        have d254 := (hd 25 (by decide +kernel)).get (s := 254) rfl
        exact step_val (wanted_none rfl) (exec_pickT rfl e245 rfl) (hK _ _ (GV.refl _ _ _ _) d254)
      refine AllSteps.cons (o := { dst := none, op := .store 38 (.tmp 2) (.tmp 243), type := _, pos := _, after := _, guard := none }) rfl (fun a W hf hS hd K hK => ?_) ?_
      · have e2 : a.eval (.tmp 2) = .pointer (some ⟨q, 0, none⟩) := hf.lit 2 (by decide) rfl
        have d243 := (hd 14 (by decide +kernel)).get (s := 243) rfl
        obtain ⟨cur, hc1, hc2⟩ := (HR.out W hS).len
        rw [← HXE.out] at d243
        exact stepV_fin (wanted_none rfl) rfl e2 d243 hc1 hc2 HFq.out hK
      refine AllSteps.cons (o := { dst := some 3, op := .assign (.tmp 255), type := _, pos := _, after := _, guard := none }) rfl (fun a W hf hS hd K hK => ?_) ?_
      · have d255 := (hd 26 (by decide +kernel)).get (s := 255) rfl
        exact step_val (wanted_none rfl) (exec_asg rfl rfl) (hK _ _ (GV.refl _ _ _ _) d255)
      exact AllSteps.nil
    · intro a W hf hS hp
      have h3 := (hp 28 (by decide)).get (s := 3) rfl
      obtain ⟨v, cs, h5, h6⟩ := (hp 27 (by decide)).fin
      have e2 : a.eval (.tmp 2) = .pointer (some ⟨q, 0, none⟩) := hf.lit 2 (by decide) rfl
      go_wp2_with fail
      refine bodyPost_ret (results_agg_tmp rfl aggDer (show a.tmps.getD 2 undef = _ from e2) h6.length h5.cellsAll) hf.defers ⟨cs, ?_, ?_, (HR.out W hS).below⟩
      · rw [HBE.out, show a.tmps.getD 3 undef = .bool ([tx l1, tx l2].all rightB && [x3].all timeB) from h3]
      · exact h6.mono (fun b hb => by have := HQW.out; omega)
end Go.Proofs.Ytpjkidcfidmfaaa
