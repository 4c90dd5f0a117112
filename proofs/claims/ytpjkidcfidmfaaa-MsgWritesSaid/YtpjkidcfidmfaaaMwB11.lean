/- Texts of this proof, one behind the other: MValF, MPure, DerCount, DerLaw2. -/
import Derived.Test.YtpjkidcfidmfaaaMwB10
import Derived.Deep.DeepCutAuto
namespace Go.Proofs.Ytpjkidcfidmfaaa
set_option linter.unusedSimpArgs false
set_option linter.unusedVariables false
open Go.RowKit
set_option maxHeartbeats 16000000 in
set_option maxRecDepth 100000 in
theorem msgValue_20 (F0 : Nat → Prop) (l1 : List UInt8) (x2 : Int) (x3 : Int) (t4 : Bool) (l5 m5 : List UInt8) (v5 : Value) (l6 : List UInt8) (v6 : Value) (w : World) (hz1 : l1.length ≤ 140737488355328) (hz2 : -9223372036854775808 ≤ x2 ∧ x2 ≤ 9223372036854775807) (hz3 : -9223372036854775808 ≤ x3 ∧ x3 ≤ 9223372036854775807) (hb5 : Bs w v5 m5) (hz5 : l5.length ≤ 140737488355328 ∧ m5.length ≤ 140737488355328) (hb6 : Bs w v6 l6) (hz6 : l6.length ≤ 140737488355328) :
    Calls Try.prog 10 #[.iface 72 (.agg #[.string (tx l1), .int .i64 x2, .int .i64 x3, .bool t4, .string (tx l5), v5, v6])] w (VlRes w (.mk 2 20 0 [] ([.s l1, .n x2, .n x3, .t t4, .i (l5, m5), .b l6].map ptTv)) ([.s l1, .n x2, .n x3, .t t4, .i (l5, m5), .b l6].all ptB)) := by
  obtain ⟨a5, c5, rfl, hc5, hm5⟩ := hb5.form
  obtain ⟨a6, c6, rfl, hc6, hm6⟩ := hb6.form
  have HC : Hid (VC w w.heap.size [(w.heap.size + 1, [.string (tx l1), .int .i64 x2, .int .i64 x3, .bool t4, .string (tx l5), .slice a5 m5.length c5, .slice a6 l6.length c6], 72)] [] [(.slice a5 m5.length c5, m5), (.slice a6 l6.length c6, l6)] ((w.alloc (.cells zs5.toArray 38)).alloc (.cells [.string (tx l1), .int .i64 x2, .int .i64 x3, .bool t4, .string (tx l5), .slice a5 m5.length c5, .slice a6 l6.length c6].toArray 72))) := hqZ (VC.start (by intro r hr; simp only [List.mem_cons, List.not_mem_nil, or_false] at hr; rcases hr with rfl | rfl; exact hb5; exact hb6) _ _)
  have HSZ : Hid (∀ u ∈ [tx l1], u.size ≤ maxLen) := hqZ (by intro u hu; simp only [List.mem_cons, List.not_mem_nil, or_false] at hu; rcases hu with rfl; exact szTx hz1)
  have HZ1 := hqZ hz1
  clear hz1
  have HZ2 := hqZ hz2
  clear hz2
  have HZ3 := hqZ hz3
  clear hz3
  have HZ5 := hqZ hz5
  clear hz5
  have HZ6 := hqZ hz6
  clear hz6
  clear hb5
  clear hb6
  obtain ⟨z11, hta11⟩ := tan 54 72 (.agg #[.string (tx l1), .int .i64 x2, .int .i64 x3, .bool t4, .string (tx l5), .slice a5 m5.length c5, .slice a6 l6.length c6]) zero_11 (by kernel_rfl) (by decide)
  obtain ⟨z12, hta12⟩ := tan 56 72 (.agg #[.string (tx l1), .int .i64 x2, .int .i64 x3, .bool t4, .string (tx l5), .slice a5 m5.length c5, .slice a6 l6.length c6]) zero_12 (by kernel_rfl) (by decide)
  obtain ⟨z13, hta13⟩ := tan 59 72 (.agg #[.string (tx l1), .int .i64 x2, .int .i64 x3, .bool t4, .string (tx l5), .slice a5 m5.length c5, .slice a6 l6.length c6]) zero_13 (by kernel_rfl) (by decide)
  obtain ⟨z14, hta14⟩ := tan 60 72 (.agg #[.string (tx l1), .int .i64 x2, .int .i64 x3, .bool t4, .string (tx l5), .slice a5 m5.length c5, .slice a6 l6.length c6]) zero_14 (by kernel_rfl) (by decide)
  obtain ⟨z15, hta15⟩ := tan 62 72 (.agg #[.string (tx l1), .int .i64 x2, .int .i64 x3, .bool t4, .string (tx l5), .slice a5 m5.length c5, .slice a6 l6.length c6]) zero_15 (by kernel_rfl) (by decide)
  obtain ⟨z16, hta16⟩ := tan 64 72 (.agg #[.string (tx l1), .int .i64 x2, .int .i64 x3, .bool t4, .string (tx l5), .slice a5 m5.length c5, .slice a6 l6.length c6]) zero_16 (by kernel_rfl) (by decide)
  obtain ⟨z17, hta17⟩ := tan 66 72 (.agg #[.string (tx l1), .int .i64 x2, .int .i64 x3, .bool t4, .string (tx l5), .slice a5 m5.length c5, .slice a6 l6.length c6]) zero_17 (by kernel_rfl) (by decide)
  obtain ⟨z18, hta18⟩ := tan 68 72 (.agg #[.string (tx l1), .int .i64 x2, .int .i64 x3, .bool t4, .string (tx l5), .slice a5 m5.length c5, .slice a6 l6.length c6]) zero_18 (by kernel_rfl) (by decide)
  obtain ⟨z19, hta19⟩ := tan 70 72 (.agg #[.string (tx l1), .int .i64 x2, .int .i64 x3, .bool t4, .string (tx l5), .slice a5 m5.length c5, .slice a6 l6.length c6]) zero_19 (by kernel_rfl) (by decide)
  have hta : ∀ W, (Instr.typeAssert (.iface 72 (.agg #[.string (tx l1), .int .i64 x2, .int .i64 x3, .bool t4, .string (tx l5), .slice a5 m5.length c5, .slice a6 l6.length c6])) 20 72 true).run Try.prog W = .ok (.tuple #[.agg #[.string (tx l1), .int .i64 x2, .int .i64 x3, .bool t4, .string (tx l5), .slice a5 m5.length c5, .slice a6 l6.length c6], .bool true]) W := fun W => ta_is _ _ _ (by kernel_rfl) W
  obtain ⟨B, hB⟩ : ∃ B, B = [.s l1, .n x2, .n x3, .t t4, .i (l5, m5), .b l6].all ptB := ⟨_, rfl⟩
  obtain ⟨X, hX⟩ : ∃ X : Tv, X = .mk 2 20 0 [] ([.s l1, .n x2, .n x3, .t t4, .i (l5, m5), .b l6].map ptTv) := ⟨_, rfl⟩
  rw [← hB, ← hX]
  have HB := hqZ hB
  have HX2 := hqZ hX
  clear hB hX
  go_enter Try.func10, Try.ntmps10
  go_upto_region 37 with fail
  clear hta hta11 hta12 hta13 hta14 hta15 hta16 hta17 hta18 hta19
  show Code.wp _ _ _ _ ((w.alloc (.cells zs5.toArray 38)).alloc (.cells [.string (tx l1), .int .i64 x2, .int .i64 x3, .bool t4, .string (tx l5), .slice a5 m5.length c5, .slice a6 l6.length c6].toArray 72))
  obtain ⟨W0, hW0⟩ : ∃ W0, W0 = (w.alloc (.cells zs5.toArray 38)).alloc (.cells [.string (tx l1), .int .i64 x2, .int .i64 x3, .bool t4, .string (tx l5), .slice a5 m5.length c5, .slice a6 l6.length c6].toArray 72) := ⟨_, rfl⟩
  rw [← hW0] at HC ⊢
  clear hW0
  obtain ⟨p, hp⟩ : ∃ p, p = w.heap.size + 1 := ⟨_, rfl⟩
  obtain ⟨q, hq⟩ : ∃ q, q = w.heap.size := ⟨_, rfl⟩
  rw [← hp, ← hq] at HC ⊢
  clear hp hq
  have HTV1 := hqZ (tickValue_any (l5, m5) (.slice a5 m5.length c5) W0 (HC.out.rowAt 0 rfl) HZ5.out.1 HZ5.out.2)
  have HM1 := hqZ (HC.out.blkAt 0 rfl)
  rw [show rightB (tx (l5, m5).1) = rT (l5, m5) from rfl] at HTV1
  go_wp2_with ((with_reducible show wpList _ _ _ (⟨some 323, _, _, _, _, _⟩ :: _) _ _); refine wpList_ldAgg rfl (.tmp 322) aggTicket rfl rfl (cs := [.string (tx l5), .slice a5 m5.length c5]) rfl (HM1.out.cellsAt 4 2) ?_)
  refine HTV1.out.mono ?_
  rintro e wa1 ⟨cs1, rfl, htv, hb⟩
  have HCa1 := hqZ (HC.out.step hb)
  have HTT1 : Hid (TvF wa1 (fun b => q < b) (tkTv (l5, m5)) cs1) := hqZ (htv.mono (fun b hb => by have := HC.out.lt; omega))
  have HCL1 := hqZ htv.length
  have HCO1 := hqZ htv.one
  have HN1 := hqZ (Blk.new wa1 zs5 38)
  clear htv hb HTV1
  go_upto_region 38 with ((with_reducible show wpList _ _ _ (⟨none, .store _ (.tmp 26) (.tmp 326), _, _, _, _⟩ :: _) _ _); refine wpList_stAgg rfl (.tmp 26) (.tmp 326) aggDer rfl rfl (vs := cs1) rfl HCL1.out HN1.out (Nat.le_refl _) HCO1.out ?_)
  intro wb1 h2 k2
  have h2' : Blk wb1 wa1.heap.size cs1 38 := by
    rw [List.drop_of_length_le (by decide), List.append_nil] at h2
    exact h2
  have hb2 : Below wa1.heap.size wa1 wb1 := ((Below.refl _ _).alloc (Nat.le_refl _) _).trans (k2.below (by omega))
  have HCb1 := hqZ (((HCa1.out.addTree HTT1.out).step hb2).addBlk h2' HCa1.out.lt)
  obtain ⟨p1, hp1⟩ : ∃ p1, p1 = wa1.heap.size := ⟨_, rfl⟩
  rw [← hp1] at HCb1 ⊢
  clear h2 k2 h2' hb2 hp1 HCa1 HTT1 HN1 HCO1
  go_upto_region 38 with fail
  cases hok27 : rT (l5, m5) with
  | false =>
    have HOK27 := hqZ hok27
    clear hok27
    have HBE : Hid (B = false) := hqZ (by rw [HB.out]; simp only [List.all_cons, List.all_nil, ptB, HOK27.out, Bool.and_true, Bool.true_and, Bool.and_false, Bool.false_and, Bool.and_assoc])
    obtain ⟨wd, hwd⟩ : ∃ wd, wd = World.drew wb1 := ⟨_, rfl⟩
    have hvd : VC w q [(p, [.string (tx l1), .int .i64 x2, .int .i64 x3, .bool t4, .string (tx l5), .slice a5 m5.length c5, .slice a6 l6.length c6], 72), (p1, cs1, 38)] [(tkTv (l5, m5), cs1)] [(.slice a5 m5.length c5, m5), (.slice a6 l6.length c6, l6)] wd := by rw [hwd]; exact HCb1.out.drew
    have HXE : Hid (X = .mk 2 20 0 [] [.mk 1 0 0 l1 [], .mk 0 0 (numU x2) [] [], .mk 0 0 (numU x3) [] [], .mk 0 0 (if t4 then 1 else 0) [] [], tkTv (l5, m5), .mk 1 0 0 l6 []]) := hqZ HX2.out
    have HR : Hid (∀ W, GV (fun b => q < b) q X wd W → VR w q [(p, [.string (tx l1), .int .i64 x2, .int .i64 x3, .bool t4, .string (tx l5), .slice a5 m5.length c5, .slice a6 l6.length c6], 72), (p1, cs1, 38)] [(tkTv (l5, m5), cs1)] [(.slice a5 m5.length c5, m5), (.slice a6 l6.length c6, l6)] W) := hqZ (fun W h => hvd.gv h)
    have HZD : Hid (∀ W, GV (fun b => q < b) q X wd W → q < W.heap.size ∧ ∀ b, W.heap.size ≤ b → q < b) := hqZ (fun W h => ⟨(HR.out W h).lt, fun b hb => Nat.lt_of_lt_of_le (HR.out W h).lt hb⟩)
    have HFq : Hid (¬ (fun b => q < b) q) := hqZ (Nat.lt_irrefl q)
    have HQW : Hid (w.heap.size = q) := hqZ hvd.hq.symm
    clear hvd HCb1
    refine wp_region_held (S := fun W => GV (fun b => q < b) q X wd W) (by kernel_rfl) ?_
    change wpAnyH _ _ _ _ _ _ _ _ (World.drew _)
    rw [← hwd]
    clear hwd
    refine tkH 0 328 none (.pointer (some ⟨p, 0, none⟩)) rfl (by kernel_rfl) (fun _ _ _ h => h) (by rfl) (by intro W hW; go_simp) (GV.refl _ _ _ _) ?_
    simp only [Act.put, zq1, zq2, zq3]
    refine tkH 1 329 none (.string (tx l1)) rfl (by kernel_rfl) (fun _ _ _ h => h) (by rfl) (by intro W hW; have hc : W.cell? ⟨p, 0, none⟩ = some (.string (tx l1)) := ((HR.out W hW).blkAt 0 rfl).cell 0; go_simp) (GV.refl _ _ _ _) ?_
    simp only [Act.put, zq1, zq2, zq3]
    refine tkH 3 331 none (.pointer (some ⟨p, 1, none⟩)) rfl (by kernel_rfl) (fun _ _ _ h => h) (by rfl) (by intro W hW; go_simp) (GV.refl _ _ _ _) ?_
    simp only [Act.put, zq1, zq2, zq3]
    refine tkH 4 332 none (.int .i64 x2) rfl (by kernel_rfl) (fun _ _ _ h => h) (by rfl) (by intro W hW; have hc : W.cell? ⟨p, 1, none⟩ = some (.int .i64 x2) := ((HR.out W hW).blkAt 0 rfl).cell 1; go_simp) (GV.refl _ _ _ _) ?_
    simp only [Act.put, zq1, zq2, zq3]
    refine tkH 6 334 none (.pointer (some ⟨p, 2, none⟩)) rfl (by kernel_rfl) (fun _ _ _ h => h) (by rfl) (by intro W hW; go_simp) (GV.refl _ _ _ _) ?_
    simp only [Act.put, zq1, zq2, zq3]
    refine tkH 7 335 none (.int .i64 x3) rfl (by kernel_rfl) (fun _ _ _ h => h) (by rfl) (by intro W hW; have hc : W.cell? ⟨p, 2, none⟩ = some (.int .i64 x3) := ((HR.out W hW).blkAt 0 rfl).cell 2; go_simp) (GV.refl _ _ _ _) ?_
    simp only [Act.put, zq1, zq2, zq3]
    refine tkH 9 337 none (.pointer (some ⟨p, 3, none⟩)) rfl (by kernel_rfl) (fun _ _ _ h => h) (by rfl) (by intro W hW; go_simp) (GV.refl _ _ _ _) ?_
    simp only [Act.put, zq1, zq2, zq3]
    refine tkH 10 338 none (.bool t4) rfl (by kernel_rfl) (fun _ _ _ h => h) (by rfl) (by intro W hW; have hc : W.cell? ⟨p, 3, none⟩ = some (.bool t4) := ((HR.out W hW).blkAt 0 rfl).cell 3; go_simp) (GV.refl _ _ _ _) ?_
    simp only [Act.put, zq1, zq2, zq3]
    refine tkH 12 340 none (.agg cs1.toArray) rfl (by kernel_rfl) (fun _ _ _ h => h) (by rfl) (by intro W hW; exact exec_ldAgg rfl aggDer rfl HCL1.out ((HR.out W hW).blkAt 1 rfl).cellsAll) (GV.refl _ _ _ _) ?_
    simp only [Act.put, zq1, zq2, zq3]
    refine tkH 13 341 none (.pointer (some ⟨p, 6, none⟩)) rfl (by kernel_rfl) (fun _ _ _ h => h) (by rfl) (by intro W hW; go_simp) (GV.refl _ _ _ _) ?_
    simp only [Act.put, zq1, zq2, zq3]
    refine tkH 14 342 none (.slice a6 l6.length c6) rfl (by kernel_rfl) (fun _ _ _ h => h) (by rfl) (by intro W hW; have hc : W.cell? ⟨p, 6, none⟩ = some (.slice a6 l6.length c6) := ((HR.out W hW).blkAt 0 rfl).cell 6; go_simp) (GV.refl _ _ _ _) ?_
    simp only [Act.put, zq1, zq2, zq3]
    refine tkH 18 346 none (.bool false) rfl (by kernel_rfl) (fun _ _ _ h => h) (by rfl) (by intro W hW; go_simp) (GV.refl _ _ _ _) ?_
    simp only [Act.put, zq1, zq2, zq3]
    refine anyH_steps (G := GV (fun b => q < b) q X) (Post := postV (fun b => q < b) q X [.any, .any, .val (.mk 1 0 0 l1 []), .any, .any, .val (.mk 0 0 (numU x2) [] []), .any, .any, .val (.mk 0 0 (numU x3) [] []), .any, .any, .val (.mk 0 0 (if t4 then 1 else 0) [] []), .any, .any, .any, .val (.mk 1 0 0 l6 []), .vals [.mk 1 0 0 l1 [], .mk 0 0 (numU x2) [] [], .mk 0 0 (numU x3) [] [], .mk 0 0 (if t4 then 1 else 0) [] [], tkTv (l5, m5), .mk 1 0 0 l6 []], .val (.mk 2 20 0 [] [.mk 1 0 0 l1 [], .mk 0 0 (numU x2) [] [], .mk 0 0 (numU x3) [] [], .mk 0 0 (if t4 then 1 else 0) [] [], tkTv (l5, m5), .mk 1 0 0 l6 []]), .any, .is (.bool false), .any, .any, .any, .any, .any, .any, .any, .any, .any, .is (.bool false), .fin, .is (.bool false)]) (ds := [330, 333, 336, 339, 343, 344, 345, 347, 348, 349, 350, 351, 352, 353, 354, 355, 356, 357, 3]) (GV.refl _ _ _) GV.trans (fun W W' h g => GV.trans _ _ _ h g) (fun i v W W' h g => PK.stable HFq.out h g) [2, 5, 8, 11, 15, 16, 17, 19, 20, 21, 22, 23, 24, 25, 26, 27, 28, 29, 30, 31] 397 rfl (by decide +kernel) (by decide +kernel) ?_ ?_ (GV.refl _ _ _ _) (by decide +kernel)
    · refine AllSteps.cons (o := { dst := some 330, op := .call { callee := .value (.func 26), args := #[.tmp 329], argTypes := #[9] }, type := _, pos := _, after := _, guard := none }) rfl (fun a W hf hS hd K hK => ?_) ?_
      · have e329 : a.eval (.tmp 329) = .string (tx l1) := hf.lit 329 (by decide) rfl
        exact stepV_mk (wanted_none rfl) rfl enters_mtext (vs := #[.string (tx l1)]) (by simp [e329]) (mtext_any l1 W HZ1.out) (HZD.out W hS).1 (HZD.out W hS).2 hK
      refine AllSteps.cons (o := { dst := some 333, op := .call { callee := .value (.func 27), args := #[.tmp 332], argTypes := #[2] }, type := _, pos := _, after := _, guard := none }) rfl (fun a W hf hS hd K hK => ?_) ?_
      · have e332 : a.eval (.tmp 332) = .int .i64 x2 := hf.lit 332 (by decide) rfl
        exact stepV_mk (wanted_none rfl) rfl enters_mnum (vs := #[.int .i64 x2]) (by simp [e332]) (mnumI_any x2 W HZ2.out.1 HZ2.out.2) (HZD.out W hS).1 (HZD.out W hS).2 hK
      refine AllSteps.cons (o := { dst := some 336, op := .call { callee := .value (.func 27), args := #[.tmp 335], argTypes := #[2] }, type := _, pos := _, after := _, guard := none }) rfl (fun a W hf hS hd K hK => ?_) ?_
      · have e335 : a.eval (.tmp 335) = .int .i64 x3 := hf.lit 335 (by decide) rfl
        exact stepV_mk (wanted_none rfl) rfl enters_mnum (vs := #[.int .i64 x3]) (by simp [e335]) (mnumI_any x3 W HZ3.out.1 HZ3.out.2) (HZD.out W hS).1 (HZD.out W hS).2 hK
      refine AllSteps.cons (o := { dst := some 339, op := .call { callee := .value (.func 32), args := #[.tmp 338], argTypes := #[4] }, type := _, pos := _, after := _, guard := none }) rfl (fun a W hf hS hd K hK => ?_) ?_
      · have e338 : a.eval (.tmp 338) = .bool t4 := hf.lit 338 (by decide) rfl
        exact stepV_mk (wanted_none rfl) rfl enters_mtruth (vs := #[.bool t4]) (by simp [e338]) (mtruth_any t4 W) (HZD.out W hS).1 (HZD.out W hS).2 hK
      refine AllSteps.cons (o := { dst := some 343, op := .call { callee := .value (.func 28), args := #[.tmp 342], argTypes := #[22] }, type := _, pos := _, after := _, guard := none }) rfl (fun a W hf hS hd K hK => ?_) ?_
      · have e342 : a.eval (.tmp 342) = .slice a6 l6.length c6 := hf.lit 342 (by decide) rfl
        exact stepV_mk (wanted_none rfl) rfl enters_raw (vs := #[.slice a6 l6.length c6]) (by simp [e342]) (rawNew_any _ l6 W ((HR.out W hS).rowAt 1 rfl) HZ6.out) (HZD.out W hS).1 (HZD.out W hS).2 hK
      refine AllSteps.cons (o := { dst := some 344, op := .buildSlice 36 6 #[(0, .tmp 330), (1, .tmp 333), (2, .tmp 336), (3, .tmp 339), (4, .tmp 340), (5, .tmp 343)], type := _, pos := _, after := _, guard := none }) rfl (fun a W hf hS hd K hK => ?_) ?_
      · have d330 := (hd 2 (by decide +kernel)).get (s := 330) rfl
        have d333 := (hd 5 (by decide +kernel)).get (s := 333) rfl
        have d336 := (hd 8 (by decide +kernel)).get (s := 336) rfl
        have d339 := (hd 11 (by decide +kernel)).get (s := 339) rfl
        have e340 : a.eval (.tmp 340) = .agg cs1.toArray := hf.lit 340 (by decide) rfl
        have d343 := (hd 15 (by decide +kernel)).get (s := 343) rfl
        exact stepV_vals (wanted_none rfl) rfl elDer (ps := [.tmp 330, .tmp 333, .tmp 336, .tmp 339, .tmp 340, .tmp 343]) rfl (l := [.mk 1 0 0 l1 [], .mk 0 0 (numU x2) [] [], .mk 0 0 (numU x3) [] [], .mk 0 0 (if t4 then 1 else 0) [] [], tkTv (l5, m5), .mk 1 0 0 l6 []]) ⟨d330, d333, d336, d339, ⟨_, e340, (HR.out W hS).treeAt 0 rfl⟩, d343, trivial⟩ rfl (by decide) (by decide) (HZD.out W hS).1 (HZD.out W hS).2 hK
      refine AllSteps.cons (o := { dst := some 345, op := .call { callee := .value (.func 25), args := #[.const (.int .i64 20), .tmp 344], argTypes := #[3, 36] }, type := _, pos := _, after := _, guard := none }) rfl (fun a W hf hS hd K hK => ?_) ?_
      · have d344 := (hd 16 (by decide +kernel)).get (s := 344) rfl
        exact stepV_seq (wanted_none rfl) rfl enters_seq d344 (HZD.out W hS).1 (fun v w1 h1 h2 => hK v w1 h1 h2) HFq.out
      refine AllSteps.cons (o := { dst := some 347, op := .move (.tmp 346), type := _, pos := _, after := _, guard := none }) rfl (fun a W hf hS hd K hK => ?_) ?_
      · have e346 : a.eval (.tmp 346) = .bool false := hf.lit 346 (by decide) rfl
        exact step_val (v := .bool false) (wanted_none rfl) (exec_move rfl e346) (hK _ _ (GV.refl _ _ _ _) rfl)
      refine AllSteps.cons (o := { dst := some 348, op := .fieldAddr 72 (.tmp 25) 0, type := _, pos := _, after := _, guard := some (19, true) }) rfl (fun a W hf hS hd K hK => ?_) ?_
      · have e347 : a.eval (.tmp 347) = .bool false := (hd 19 (by decide +kernel)).get (s := 347) rfl
        exact step_skip (wanted_no rfl rfl e347 rfl) (hK _ _ (GV.refl _ _ _ _) trivial)
      refine AllSteps.cons (o := { dst := some 349, op := .load 9 (.tmp 348), type := _, pos := _, after := _, guard := some (19, true) }) rfl (fun a W hf hS hd K hK => ?_) ?_
      · have e347 : a.eval (.tmp 347) = .bool false := (hd 19 (by decide +kernel)).get (s := 347) rfl
        exact step_skip (wanted_no rfl rfl e347 rfl) (hK _ _ (GV.refl _ _ _ _) trivial)
      refine AllSteps.cons (o := { dst := some 350, op := .buildSlice 93 1 #[(0, .tmp 349)], type := _, pos := _, after := _, guard := some (19, true) }) rfl (fun a W hf hS hd K hK => ?_) ?_
      · have e347 : a.eval (.tmp 347) = .bool false := (hd 19 (by decide +kernel)).get (s := 347) rfl
        exact step_skip (wanted_no rfl rfl e347 rfl) (hK _ _ (GV.refl _ _ _ _) trivial)
      refine AllSteps.cons (o := { dst := some 351, op := .fieldAddr 72 (.tmp 25) 1, type := _, pos := _, after := _, guard := some (19, true) }) rfl (fun a W hf hS hd K hK => ?_) ?_
      · have e347 : a.eval (.tmp 347) = .bool false := (hd 19 (by decide +kernel)).get (s := 347) rfl
        exact step_skip (wanted_no rfl rfl e347 rfl) (hK _ _ (GV.refl _ _ _ _) trivial)
      refine AllSteps.cons (o := { dst := some 352, op := .load 2 (.tmp 351), type := _, pos := _, after := _, guard := some (19, true) }) rfl (fun a W hf hS hd K hK => ?_) ?_
      · have e347 : a.eval (.tmp 347) = .bool false := (hd 19 (by decide +kernel)).get (s := 347) rfl
        exact step_skip (wanted_no rfl rfl e347 rfl) (hK _ _ (GV.refl _ _ _ _) trivial)
      refine AllSteps.cons (o := { dst := some 353, op := .fieldAddr 72 (.tmp 25) 2, type := _, pos := _, after := _, guard := some (19, true) }) rfl (fun a W hf hS hd K hK => ?_) ?_
      · have e347 : a.eval (.tmp 347) = .bool false := (hd 19 (by decide +kernel)).get (s := 347) rfl
        exact step_skip (wanted_no rfl rfl e347 rfl) (hK _ _ (GV.refl _ _ _ _) trivial)
      refine AllSteps.cons (o := { dst := some 354, op := .load 2 (.tmp 353), type := _, pos := _, after := _, guard := some (19, true) }) rfl (fun a W hf hS hd K hK => ?_) ?_
      · have e347 : a.eval (.tmp 347) = .bool false := (hd 19 (by decide +kernel)).get (s := 347) rfl
        exact step_skip (wanted_no rfl rfl e347 rfl) (hK _ _ (GV.refl _ _ _ _) trivial)
      refine AllSteps.cons (o := { dst := some 355, op := .buildSlice 116 2 #[(0, .tmp 352), (1, .tmp 354)], type := _, pos := _, after := _, guard := some (19, true) }) rfl (fun a W hf hS hd K hK => ?_) ?_
      · have e347 : a.eval (.tmp 347) = .bool false := (hd 19 (by decide +kernel)).get (s := 347) rfl
        exact step_skip (wanted_no rfl rfl e347 rfl) (hK _ _ (GV.refl _ _ _ _) trivial)
      refine AllSteps.cons (o := { dst := some 356, op := .call { callee := .value (.func 29), args := #[.tmp 350, .tmp 355], argTypes := #[93, 116] }, type := _, pos := _, after := _, guard := some (19, true) }) rfl (fun a W hf hS hd K hK => ?_) ?_
      · have e347 : a.eval (.tmp 347) = .bool false := (hd 19 (by decide +kernel)).get (s := 347) rfl
        exact step_skip (wanted_no rfl rfl e347 rfl) (hK _ _ (GV.refl _ _ _ _) trivial)
      refine AllSteps.cons (o := { dst := some 357, op := .pick (.tmp 347) (.tmp 356) (.const (.bool false)), type := _, pos := _, after := _, guard := none }) rfl (fun a W hf hS hd K hK => ?_) ?_
      · have e347 : a.eval (.tmp 347) = .bool false := (hd 19 (by decide +kernel)).get (s := 347) rfl
        exact step_val (v := .bool false) (wanted_none rfl) (exec_pickF rfl e347 rfl) (hK _ _ (GV.refl _ _ _ _) rfl)
      refine AllSteps.cons (o := { dst := none, op := .store 38 (.tmp 2) (.tmp 345), type := _, pos := _, after := _, guard := none }) rfl (fun a W hf hS hd K hK => ?_) ?_
      · have e2 : a.eval (.tmp 2) = .pointer (some ⟨q, 0, none⟩) := hf.lit 2 (by decide) rfl
        have d345 := (hd 17 (by decide +kernel)).get (s := 345) rfl
        obtain ⟨cur, hc1, hc2⟩ := (HR.out W hS).len
        rw [← HXE.out] at d345
        exact stepV_fin (wanted_none rfl) rfl e2 d345 hc1 hc2 HFq.out hK
      refine AllSteps.cons (o := { dst := some 3, op := .assign (.tmp 357), type := _, pos := _, after := _, guard := none }) rfl (fun a W hf hS hd K hK => ?_) ?_
      · have e357 : a.eval (.tmp 357) = .bool false := (hd 29 (by decide +kernel)).get (s := 357) rfl
        exact step_val (wanted_none rfl) (exec_asg rfl rfl) (hK _ _ (GV.refl _ _ _ _) e357)
      exact AllSteps.nil
    · intro a W hf hS hp
      have h3 := (hp 31 (by decide)).get (s := 3) rfl
      obtain ⟨v, cs, h5, h6⟩ := (hp 30 (by decide)).fin
      have e2 : a.eval (.tmp 2) = .pointer (some ⟨q, 0, none⟩) := hf.lit 2 (by decide) rfl
      go_wp2_with fail
      refine bodyPost_ret (results_agg_tmp rfl aggDer (show a.tmps.getD 2 undef = _ from e2) h6.length h5.cellsAll) hf.defers ⟨cs, ?_, ?_, (HR.out W hS).below⟩
      · rw [HBE.out, show a.tmps.getD 3 undef = .bool false from h3]
      · exact h6.mono (fun b hb => by have := HQW.out; omega)
  | true =>
    have HOK27 := hqZ hok27
    clear hok27
    have HBE : Hid (B = ([tx l1].all rightB && [x2, x3].all timeB)) := hqZ (by rw [HB.out]; simp only [List.all_cons, List.all_nil, ptB, HOK27.out, Bool.and_true, Bool.true_and, Bool.and_false, Bool.false_and, Bool.and_assoc]; first | done | ac_rfl)
    obtain ⟨wd, hwd⟩ : ∃ wd, wd = World.drew wb1 := ⟨_, rfl⟩
    have hvd : VC w q [(p, [.string (tx l1), .int .i64 x2, .int .i64 x3, .bool t4, .string (tx l5), .slice a5 m5.length c5, .slice a6 l6.length c6], 72), (p1, cs1, 38)] [(tkTv (l5, m5), cs1)] [(.slice a5 m5.length c5, m5), (.slice a6 l6.length c6, l6)] wd := by rw [hwd]; exact HCb1.out.drew
    have HXE : Hid (X = .mk 2 20 0 [] [.mk 1 0 0 l1 [], .mk 0 0 (numU x2) [] [], .mk 0 0 (numU x3) [] [], .mk 0 0 (if t4 then 1 else 0) [] [], tkTv (l5, m5), .mk 1 0 0 l6 []]) := hqZ HX2.out
    have HR : Hid (∀ W, GV (fun b => q < b) q X wd W → VR w q [(p, [.string (tx l1), .int .i64 x2, .int .i64 x3, .bool t4, .string (tx l5), .slice a5 m5.length c5, .slice a6 l6.length c6], 72), (p1, cs1, 38)] [(tkTv (l5, m5), cs1)] [(.slice a5 m5.length c5, m5), (.slice a6 l6.length c6, l6)] W) := hqZ (fun W h => hvd.gv h)
    have HZD : Hid (∀ W, GV (fun b => q < b) q X wd W → q < W.heap.size ∧ ∀ b, W.heap.size ≤ b → q < b) := hqZ (fun W h => ⟨(HR.out W h).lt, fun b hb => Nat.lt_of_lt_of_le (HR.out W h).lt hb⟩)
    have HFq : Hid (¬ (fun b => q < b) q) := hqZ (Nat.lt_irrefl q)
    have HQW : Hid (w.heap.size = q) := hqZ hvd.hq.symm
    clear hvd HCb1
    refine wp_region_held (S := fun W => GV (fun b => q < b) q X wd W) (by kernel_rfl) ?_
    change wpAnyH _ _ _ _ _ _ _ _ (World.drew _)
    rw [← hwd]
    clear hwd
    refine tkH 0 328 none (.pointer (some ⟨p, 0, none⟩)) rfl (by kernel_rfl) (fun _ _ _ h => h) (by rfl) (by intro W hW; go_simp) (GV.refl _ _ _ _) ?_
    simp only [Act.put, zq1, zq2, zq3]
    refine tkH 1 329 none (.string (tx l1)) rfl (by kernel_rfl) (fun _ _ _ h => h) (by rfl) (by intro W hW; have hc : W.cell? ⟨p, 0, none⟩ = some (.string (tx l1)) := ((HR.out W hW).blkAt 0 rfl).cell 0; go_simp) (GV.refl _ _ _ _) ?_
    simp only [Act.put, zq1, zq2, zq3]
    refine tkH 3 331 none (.pointer (some ⟨p, 1, none⟩)) rfl (by kernel_rfl) (fun _ _ _ h => h) (by rfl) (by intro W hW; go_simp) (GV.refl _ _ _ _) ?_
    simp only [Act.put, zq1, zq2, zq3]
    refine tkH 4 332 none (.int .i64 x2) rfl (by kernel_rfl) (fun _ _ _ h => h) (by rfl) (by intro W hW; have hc : W.cell? ⟨p, 1, none⟩ = some (.int .i64 x2) := ((HR.out W hW).blkAt 0 rfl).cell 1; go_simp) (GV.refl _ _ _ _) ?_
    simp only [Act.put, zq1, zq2, zq3]
    refine tkH 6 334 none (.pointer (some ⟨p, 2, none⟩)) rfl (by kernel_rfl) (fun _ _ _ h => h) (by rfl) (by intro W hW; go_simp) (GV.refl _ _ _ _) ?_
    simp only [Act.put, zq1, zq2, zq3]
    refine tkH 7 335 none (.int .i64 x3) rfl (by kernel_rfl) (fun _ _ _ h => h) (by rfl) (by intro W hW; have hc : W.cell? ⟨p, 2, none⟩ = some (.int .i64 x3) := ((HR.out W hW).blkAt 0 rfl).cell 2; go_simp) (GV.refl _ _ _ _) ?_
    simp only [Act.put, zq1, zq2, zq3]
    refine tkH 9 337 none (.pointer (some ⟨p, 3, none⟩)) rfl (by kernel_rfl) (fun _ _ _ h => h) (by rfl) (by intro W hW; go_simp) (GV.refl _ _ _ _) ?_
    simp only [Act.put, zq1, zq2, zq3]
    refine tkH 10 338 none (.bool t4) rfl (by kernel_rfl) (fun _ _ _ h => h) (by rfl) (by intro W hW; have hc : W.cell? ⟨p, 3, none⟩ = some (.bool t4) := ((HR.out W hW).blkAt 0 rfl).cell 3; go_simp) (GV.refl _ _ _ _) ?_
    simp only [Act.put, zq1, zq2, zq3]
    refine tkH 12 340 none (.agg cs1.toArray) rfl (by kernel_rfl) (fun _ _ _ h => h) (by rfl) (by intro W hW; exact exec_ldAgg rfl aggDer rfl HCL1.out ((HR.out W hW).blkAt 1 rfl).cellsAll) (GV.refl _ _ _ _) ?_
    simp only [Act.put, zq1, zq2, zq3]
    refine tkH 13 341 none (.pointer (some ⟨p, 6, none⟩)) rfl (by kernel_rfl) (fun _ _ _ h => h) (by rfl) (by intro W hW; go_simp) (GV.refl _ _ _ _) ?_
    simp only [Act.put, zq1, zq2, zq3]
    refine tkH 14 342 none (.slice a6 l6.length c6) rfl (by kernel_rfl) (fun _ _ _ h => h) (by rfl) (by intro W hW; have hc : W.cell? ⟨p, 6, none⟩ = some (.slice a6 l6.length c6) := ((HR.out W hW).blkAt 0 rfl).cell 6; go_simp) (GV.refl _ _ _ _) ?_
    simp only [Act.put, zq1, zq2, zq3]
    refine tkH 18 346 none (.bool true) rfl (by kernel_rfl) (fun _ _ _ h => h) (by rfl) (by intro W hW; go_simp) (GV.refl _ _ _ _) ?_
    simp only [Act.put, zq1, zq2, zq3]
    refine anyH_steps (G := GV (fun b => q < b) q X) (Post := postV (fun b => q < b) q X [.any, .any, .val (.mk 1 0 0 l1 []), .any, .any, .val (.mk 0 0 (numU x2) [] []), .any, .any, .val (.mk 0 0 (numU x3) [] []), .any, .any, .val (.mk 0 0 (if t4 then 1 else 0) [] []), .any, .any, .any, .val (.mk 1 0 0 l6 []), .vals [.mk 1 0 0 l1 [], .mk 0 0 (numU x2) [] [], .mk 0 0 (numU x3) [] [], .mk 0 0 (if t4 then 1 else 0) [] [], tkTv (l5, m5), .mk 1 0 0 l6 []], .val (.mk 2 20 0 [] [.mk 1 0 0 l1 [], .mk 0 0 (numU x2) [] [], .mk 0 0 (numU x3) [] [], .mk 0 0 (if t4 then 1 else 0) [] [], tkTv (l5, m5), .mk 1 0 0 l6 []]), .any, .is (.bool true), .is (.pointer (some ⟨p, 0, none⟩)), .is (.string (tx l1)), .row [.string (tx l1)], .is (.pointer (some ⟨p, 1, none⟩)), .is (.int .i64 x2), .is (.pointer (some ⟨p, 2, none⟩)), .is (.int .i64 x3), .row [.int .i64 x2, .int .i64 x3], .is (.bool ([tx l1].all rightB && [x2, x3].all timeB)), .is (.bool ([tx l1].all rightB && [x2, x3].all timeB)), .fin, .is (.bool ([tx l1].all rightB && [x2, x3].all timeB))]) (ds := [330, 333, 336, 339, 343, 344, 345, 347, 348, 349, 350, 351, 352, 353, 354, 355, 356, 357, 3]) (GV.refl _ _ _) GV.trans (fun W W' h g => GV.trans _ _ _ h g) (fun i v W W' h g => PK.stable HFq.out h g) [2, 5, 8, 11, 15, 16, 17, 19, 20, 21, 22, 23, 24, 25, 26, 27, 28, 29, 30, 31] 397 rfl (by decide +kernel) (by decide +kernel) ?_ ?_ (GV.refl _ _ _ _) (by decide +kernel)
    · refine AllSteps.cons (o := { dst := some 330, op := .call { callee := .value (.func 26), args := #[.tmp 329], argTypes := #[9] }, type := _, pos := _, after := _, guard := none }) rfl (fun a W hf hS hd K hK => ?_) ?_
      · have e329 : a.eval (.tmp 329) = .string (tx l1) := hf.lit 329 (by decide) rfl
        exact stepV_mk (wanted_none rfl) rfl enters_mtext (vs := #[.string (tx l1)]) (by simp [e329]) (mtext_any l1 W HZ1.out) (HZD.out W hS).1 (HZD.out W hS).2 hK
      refine AllSteps.cons (o := { dst := some 333, op := .call { callee := .value (.func 27), args := #[.tmp 332], argTypes := #[2] }, type := _, pos := _, after := _, guard := none }) rfl (fun a W hf hS hd K hK => ?_) ?_
      · have e332 : a.eval (.tmp 332) = .int .i64 x2 := hf.lit 332 (by decide) rfl
        exact stepV_mk (wanted_none rfl) rfl enters_mnum (vs := #[.int .i64 x2]) (by simp [e332]) (mnumI_any x2 W HZ2.out.1 HZ2.out.2) (HZD.out W hS).1 (HZD.out W hS).2 hK
      refine AllSteps.cons (o := { dst := some 336, op := .call { callee := .value (.func 27), args := #[.tmp 335], argTypes := #[2] }, type := _, pos := _, after := _, guard := none }) rfl (fun a W hf hS hd K hK => ?_) ?_
      · have e335 : a.eval (.tmp 335) = .int .i64 x3 := hf.lit 335 (by decide) rfl
        exact stepV_mk (wanted_none rfl) rfl enters_mnum (vs := #[.int .i64 x3]) (by simp [e335]) (mnumI_any x3 W HZ3.out.1 HZ3.out.2) (HZD.out W hS).1 (HZD.out W hS).2 hK
      refine AllSteps.cons (o := { dst := some 339, op := .call { callee := .value (.func 32), args := #[.tmp 338], argTypes := #[4] }, type := _, pos := _, after := _, guard := none }) rfl (fun a W hf hS hd K hK => ?_) ?_
      · have e338 : a.eval (.tmp 338) = .bool t4 := hf.lit 338 (by decide) rfl
        exact stepV_mk (wanted_none rfl) rfl enters_mtruth (vs := #[.bool t4]) (by simp [e338]) (mtruth_any t4 W) (HZD.out W hS).1 (HZD.out W hS).2 hK
      refine AllSteps.cons (o := { dst := some 343, op := .call { callee := .value (.func 28), args := #[.tmp 342], argTypes := #[22] }, type := _, pos := _, after := _, guard := none }) rfl (fun a W hf hS hd K hK => ?_) ?_
      · have e342 : a.eval (.tmp 342) = .slice a6 l6.length c6 := hf.lit 342 (by decide) rfl
        exact stepV_mk (wanted_none rfl) rfl enters_raw (vs := #[.slice a6 l6.length c6]) (by simp [e342]) (rawNew_any _ l6 W ((HR.out W hS).rowAt 1 rfl) HZ6.out) (HZD.out W hS).1 (HZD.out W hS).2 hK
      refine AllSteps.cons (o := { dst := some 344, op := .buildSlice 36 6 #[(0, .tmp 330), (1, .tmp 333), (2, .tmp 336), (3, .tmp 339), (4, .tmp 340), (5, .tmp 343)], type := _, pos := _, after := _, guard := none }) rfl (fun a W hf hS hd K hK => ?_) ?_
      · have d330 := (hd 2 (by decide +kernel)).get (s := 330) rfl
        have d333 := (hd 5 (by decide +kernel)).get (s := 333) rfl
        have d336 := (hd 8 (by decide +kernel)).get (s := 336) rfl
        have d339 := (hd 11 (by decide +kernel)).get (s := 339) rfl
        have e340 : a.eval (.tmp 340) = .agg cs1.toArray := hf.lit 340 (by decide) rfl
        have d343 := (hd 15 (by decide +kernel)).get (s := 343) rfl
        exact stepV_vals (wanted_none rfl) rfl elDer (ps := [.tmp 330, .tmp 333, .tmp 336, .tmp 339, .tmp 340, .tmp 343]) rfl (l := [.mk 1 0 0 l1 [], .mk 0 0 (numU x2) [] [], .mk 0 0 (numU x3) [] [], .mk 0 0 (if t4 then 1 else 0) [] [], tkTv (l5, m5), .mk 1 0 0 l6 []]) ⟨d330, d333, d336, d339, ⟨_, e340, (HR.out W hS).treeAt 0 rfl⟩, d343, trivial⟩ rfl (by decide) (by decide) (HZD.out W hS).1 (HZD.out W hS).2 hK
      refine AllSteps.cons (o := { dst := some 345, op := .call { callee := .value (.func 25), args := #[.const (.int .i64 20), .tmp 344], argTypes := #[3, 36] }, type := _, pos := _, after := _, guard := none }) rfl (fun a W hf hS hd K hK => ?_) ?_
      · have d344 := (hd 16 (by decide +kernel)).get (s := 344) rfl
        exact stepV_seq (wanted_none rfl) rfl enters_seq d344 (HZD.out W hS).1 (fun v w1 h1 h2 => hK v w1 h1 h2) HFq.out
      refine AllSteps.cons (o := { dst := some 347, op := .move (.tmp 346), type := _, pos := _, after := _, guard := none }) rfl (fun a W hf hS hd K hK => ?_) ?_
      · have e346 : a.eval (.tmp 346) = .bool true := hf.lit 346 (by decide) rfl
        exact step_val (v := .bool true) (wanted_none rfl) (exec_move rfl e346) (hK _ _ (GV.refl _ _ _ _) rfl)
      refine AllSteps.cons (o := { dst := some 348, op := .fieldAddr 72 (.tmp 25) 0, type := _, pos := _, after := _, guard := some (19, true) }) rfl (fun a W hf hS hd K hK => ?_) ?_
      · have e347 : a.eval (.tmp 347) = .bool true := (hd 19 (by decide +kernel)).get (s := 347) rfl
        have e25 : a.eval (.tmp 25) = .pointer (some ⟨p, 0, none⟩) := hf.lit 25 (by decide) rfl
        exact step_val (v := .pointer (some ⟨p, 0, none⟩)) (wanted_some rfl rfl e347) (exec_field rfl e25 (by go_simp)) (hK _ _ (GV.refl _ _ _ _) rfl)
      refine AllSteps.cons (o := { dst := some 349, op := .load 9 (.tmp 348), type := _, pos := _, after := _, guard := some (19, true) }) rfl (fun a W hf hS hd K hK => ?_) ?_
      · have e347 : a.eval (.tmp 347) = .bool true := (hd 19 (by decide +kernel)).get (s := 347) rfl
        have e348 : a.eval (.tmp 348) = .pointer (some ⟨p, 0, none⟩) := (hd 20 (by decide +kernel)).get (s := 348) rfl
        have hc : W.cell? ⟨p, 0, none⟩ = some (.string (tx l1)) := ((HR.out W hS).blkAt 0 rfl).cell 0
        exact step_val (v := .string (tx l1)) (wanted_some rfl rfl e347) (exec_load rfl e348 (by go_simp)) (hK _ _ (GV.refl _ _ _ _) rfl)
      refine AllSteps.cons (o := { dst := some 350, op := .buildSlice 93 1 #[(0, .tmp 349)], type := _, pos := _, after := _, guard := some (19, true) }) rfl (fun a W hf hS hd K hK => ?_) ?_
      · have e347 : a.eval (.tmp 347) = .bool true := (hd 19 (by decide +kernel)).get (s := 347) rfl
        have e349 : a.eval (.tmp 349) = .string (tx l1) := (hd 21 (by decide +kernel)).get (s := 349) rfl
        exact stepV_row (wanted_some rfl rfl e347) rfl elStr (ps := [.tmp 349]) rfl (cs := [.string (tx l1)]) (by simp only [List.map_cons, List.map_nil, e349]) (by intro u hu; simp only [List.mem_cons, List.not_mem_nil, or_false] at hu; rcases hu with rfl <;> exact ⟨rfl, rfl⟩) rfl (by decide) (by decide) (HZD.out W hS).1 (HZD.out W hS).2 hK
      refine AllSteps.cons (o := { dst := some 351, op := .fieldAddr 72 (.tmp 25) 1, type := _, pos := _, after := _, guard := some (19, true) }) rfl (fun a W hf hS hd K hK => ?_) ?_
      · have e347 : a.eval (.tmp 347) = .bool true := (hd 19 (by decide +kernel)).get (s := 347) rfl
        have e25 : a.eval (.tmp 25) = .pointer (some ⟨p, 0, none⟩) := hf.lit 25 (by decide) rfl
        exact step_val (v := .pointer (some ⟨p, 1, none⟩)) (wanted_some rfl rfl e347) (exec_field rfl e25 (by go_simp)) (hK _ _ (GV.refl _ _ _ _) rfl)
      refine AllSteps.cons (o := { dst := some 352, op := .load 2 (.tmp 351), type := _, pos := _, after := _, guard := some (19, true) }) rfl (fun a W hf hS hd K hK => ?_) ?_
      · have e347 : a.eval (.tmp 347) = .bool true := (hd 19 (by decide +kernel)).get (s := 347) rfl
        have e351 : a.eval (.tmp 351) = .pointer (some ⟨p, 1, none⟩) := (hd 23 (by decide +kernel)).get (s := 351) rfl
        have hc : W.cell? ⟨p, 1, none⟩ = some (.int .i64 x2) := ((HR.out W hS).blkAt 0 rfl).cell 1
        exact step_val (v := .int .i64 x2) (wanted_some rfl rfl e347) (exec_load rfl e351 (by go_simp)) (hK _ _ (GV.refl _ _ _ _) rfl)
      refine AllSteps.cons (o := { dst := some 353, op := .fieldAddr 72 (.tmp 25) 2, type := _, pos := _, after := _, guard := some (19, true) }) rfl (fun a W hf hS hd K hK => ?_) ?_
      · have e347 : a.eval (.tmp 347) = .bool true := (hd 19 (by decide +kernel)).get (s := 347) rfl
        have e25 : a.eval (.tmp 25) = .pointer (some ⟨p, 0, none⟩) := hf.lit 25 (by decide) rfl
        exact step_val (v := .pointer (some ⟨p, 2, none⟩)) (wanted_some rfl rfl e347) (exec_field rfl e25 (by go_simp)) (hK _ _ (GV.refl _ _ _ _) rfl)
      refine AllSteps.cons (o := { dst := some 354, op := .load 2 (.tmp 353), type := _, pos := _, after := _, guard := some (19, true) }) rfl (fun a W hf hS hd K hK => ?_) ?_
      · have e347 : a.eval (.tmp 347) = .bool true := (hd 19 (by decide +kernel)).get (s := 347) rfl
        have e353 : a.eval (.tmp 353) = .pointer (some ⟨p, 2, none⟩) := (hd 25 (by decide +kernel)).get (s := 353) rfl
        have hc : W.cell? ⟨p, 2, none⟩ = some (.int .i64 x3) := ((HR.out W hS).blkAt 0 rfl).cell 2
        exact step_val (v := .int .i64 x3) (wanted_some rfl rfl e347) (exec_load rfl e353 (by go_simp)) (hK _ _ (GV.refl _ _ _ _) rfl)
      refine AllSteps.cons (o := { dst := some 355, op := .buildSlice 116 2 #[(0, .tmp 352), (1, .tmp 354)], type := _, pos := _, after := _, guard := some (19, true) }) rfl (fun a W hf hS hd K hK => ?_) ?_
      · have e347 : a.eval (.tmp 347) = .bool true := (hd 19 (by decide +kernel)).get (s := 347) rfl
        have e352 : a.eval (.tmp 352) = .int .i64 x2 := (hd 24 (by decide +kernel)).get (s := 352) rfl
        have e354 : a.eval (.tmp 354) = .int .i64 x3 := (hd 26 (by decide +kernel)).get (s := 354) rfl
        exact stepV_row (wanted_some rfl rfl e347) rfl elI64 (ps := [.tmp 352, .tmp 354]) rfl (cs := [.int .i64 x2, .int .i64 x3]) (by simp only [List.map_cons, List.map_nil, e352, e354]) (by intro u hu; simp only [List.mem_cons, List.not_mem_nil, or_false] at hu; rcases hu with rfl | rfl <;> exact ⟨rfl, rfl⟩) rfl (by decide) (by decide) (HZD.out W hS).1 (HZD.out W hS).2 hK
      refine AllSteps.cons (o := { dst := some 356, op := .call { callee := .value (.func 29), args := #[.tmp 350, .tmp 355], argTypes := #[93, 116] }, type := _, pos := _, after := _, guard := some (19, true) }) rfl (fun a W hf hS hd K hK => ?_) ?_
      · have e347 : a.eval (.tmp 347) = .bool true := (hd 19 (by decide +kernel)).get (s := 347) rfl
        have d350 := (hd 22 (by decide +kernel)).get (s := 350) rfl
        have d355 := (hd 27 (by decide +kernel)).get (s := 355) rfl
        exact stepV_is (wanted_some rfl rfl e347) rfl enters_mright (vs := #[a.eval (.tmp 350), a.eval (.tmp 355)]) (by first | (simp only [List.map_toArray, List.map_cons, List.map_nil]; done) | (simp only [List.map_toArray, List.map_cons, List.map_nil]; rfl)) (u := (.bool ([tx l1].all rightB && [x2, x3].all timeB))) (mright_any [tx l1] [x2, x3] _ _ W d350.1 d355.1 HSZ.out) (HZD.out W hS).1 hK
      refine AllSteps.cons (o := { dst := some 357, op := .pick (.tmp 347) (.tmp 356) (.const (.bool false)), type := _, pos := _, after := _, guard := none }) rfl (fun a W hf hS hd K hK => ?_) ?_
      · have e347 : a.eval (.tmp 347) = .bool true := (hd 19 (by decide +kernel)).get (s := 347) rfl
        have d356 := (hd 28 (by decide +kernel)).get (s := 356) rfl
        exact step_val (wanted_none rfl) (exec_pickT rfl e347 rfl) (hK _ _ (GV.refl _ _ _ _) d356)
      refine AllSteps.cons (o := { dst := none, op := .store 38 (.tmp 2) (.tmp 345), type := _, pos := _, after := _, guard := none }) rfl (fun a W hf hS hd K hK => ?_) ?_
      · have e2 : a.eval (.tmp 2) = .pointer (some ⟨q, 0, none⟩) := hf.lit 2 (by decide) rfl
        have d345 := (hd 17 (by decide +kernel)).get (s := 345) rfl
        obtain ⟨cur, hc1, hc2⟩ := (HR.out W hS).len
        rw [← HXE.out] at d345
        exact stepV_fin (wanted_none rfl) rfl e2 d345 hc1 hc2 HFq.out hK
      refine AllSteps.cons (o := { dst := some 3, op := .assign (.tmp 357), type := _, pos := _, after := _, guard := none }) rfl (fun a W hf hS hd K hK => ?_) ?_
      · have d357 := (hd 29 (by decide +kernel)).get (s := 357) rfl
        exact step_val (wanted_none rfl) (exec_asg rfl rfl) (hK _ _ (GV.refl _ _ _ _) d357)
      exact AllSteps.nil
    · intro a W hf hS hp
      have h3 := (hp 31 (by decide)).get (s := 3) rfl
      obtain ⟨v, cs, h5, h6⟩ := (hp 30 (by decide)).fin
      have e2 : a.eval (.tmp 2) = .pointer (some ⟨q, 0, none⟩) := hf.lit 2 (by decide) rfl
      go_wp2_with fail
      refine bodyPost_ret (results_agg_tmp rfl aggDer (show a.tmps.getD 2 undef = _ from e2) h6.length h5.cellsAll) hf.defers ⟨cs, ?_, ?_, (HR.out W hS).below⟩
      · rw [HBE.out, show a.tmps.getD 3 undef = .bool ([tx l1].all rightB && [x2, x3].all timeB) from h3]
      · exact h6.mono (fun b hb => by have := HQW.out; omega)
set_option maxHeartbeats 16000000 in
set_option maxRecDepth 100000 in
theorem msgValue_21 (F0 : Nat → Prop) (l1 : List UInt8) (l2 : List UInt8) (v2 : Value) (w : World) (hz1 : l1.length ≤ 140737488355328) (hb2 : Bs w v2 l2) (hz2 : l2.length ≤ 140737488355328) :
    Calls Try.prog 10 #[.iface 74 (.agg #[.string (tx l1), v2])] w (VlRes w (.mk 2 21 0 [] ([.s l1, .b l2].map ptTv)) ([.s l1, .b l2].all ptB)) := by
  obtain ⟨a2, c2, rfl, hc2, hm2⟩ := hb2.form
  have HC : Hid (VC w w.heap.size [(w.heap.size + 1, [.string (tx l1), .slice a2 l2.length c2], 74)] [] [(.slice a2 l2.length c2, l2)] ((w.alloc (.cells zs5.toArray 38)).alloc (.cells [.string (tx l1), .slice a2 l2.length c2].toArray 74))) := hqZ (VC.start (by intro r hr; simp only [List.mem_cons, List.not_mem_nil, or_false] at hr; rcases hr with rfl; exact hb2) _ _)
  have HSZ : Hid (∀ u ∈ [tx l1], u.size ≤ maxLen) := hqZ (by intro u hu; simp only [List.mem_cons, List.not_mem_nil, or_false] at hu; rcases hu with rfl; exact szTx hz1)
  have HZ1 := hqZ hz1
  clear hz1
  have HZ2 := hqZ hz2
  clear hz2
  clear hb2
  obtain ⟨z11, hta11⟩ := tan 54 74 (.agg #[.string (tx l1), .slice a2 l2.length c2]) zero_11 (by kernel_rfl) (by decide)
  obtain ⟨z12, hta12⟩ := tan 56 74 (.agg #[.string (tx l1), .slice a2 l2.length c2]) zero_12 (by kernel_rfl) (by decide)
  obtain ⟨z13, hta13⟩ := tan 59 74 (.agg #[.string (tx l1), .slice a2 l2.length c2]) zero_13 (by kernel_rfl) (by decide)
  obtain ⟨z14, hta14⟩ := tan 60 74 (.agg #[.string (tx l1), .slice a2 l2.length c2]) zero_14 (by kernel_rfl) (by decide)
  obtain ⟨z15, hta15⟩ := tan 62 74 (.agg #[.string (tx l1), .slice a2 l2.length c2]) zero_15 (by kernel_rfl) (by decide)
  obtain ⟨z16, hta16⟩ := tan 64 74 (.agg #[.string (tx l1), .slice a2 l2.length c2]) zero_16 (by kernel_rfl) (by decide)
  obtain ⟨z17, hta17⟩ := tan 66 74 (.agg #[.string (tx l1), .slice a2 l2.length c2]) zero_17 (by kernel_rfl) (by decide)
  obtain ⟨z18, hta18⟩ := tan 68 74 (.agg #[.string (tx l1), .slice a2 l2.length c2]) zero_18 (by kernel_rfl) (by decide)
  obtain ⟨z19, hta19⟩ := tan 70 74 (.agg #[.string (tx l1), .slice a2 l2.length c2]) zero_19 (by kernel_rfl) (by decide)
  obtain ⟨z20, hta20⟩ := tan 72 74 (.agg #[.string (tx l1), .slice a2 l2.length c2]) zero_20 (by kernel_rfl) (by decide)
  have hta : ∀ W, (Instr.typeAssert (.iface 74 (.agg #[.string (tx l1), .slice a2 l2.length c2])) 20 74 true).run Try.prog W = .ok (.tuple #[.agg #[.string (tx l1), .slice a2 l2.length c2], .bool true]) W := fun W => ta_is _ _ _ (by kernel_rfl) W
  obtain ⟨B, hB⟩ : ∃ B, B = [.s l1, .b l2].all ptB := ⟨_, rfl⟩
  obtain ⟨X, hX⟩ : ∃ X : Tv, X = .mk 2 21 0 [] ([.s l1, .b l2].map ptTv) := ⟨_, rfl⟩
  rw [← hB, ← hX]
  have HB := hqZ hB
  have HX2 := hqZ hX
  clear hB hX
  go_enter Try.func10, Try.ntmps10
  go_upto_region 41 with fail
  clear hta hta11 hta12 hta13 hta14 hta15 hta16 hta17 hta18 hta19 hta20
  show Code.wp _ _ _ _ ((w.alloc (.cells zs5.toArray 38)).alloc (.cells [.string (tx l1), .slice a2 l2.length c2].toArray 74))
  obtain ⟨W0, hW0⟩ : ∃ W0, W0 = (w.alloc (.cells zs5.toArray 38)).alloc (.cells [.string (tx l1), .slice a2 l2.length c2].toArray 74) := ⟨_, rfl⟩
  rw [← hW0] at HC ⊢
  clear hW0
  obtain ⟨p, hp⟩ : ∃ p, p = w.heap.size + 1 := ⟨_, rfl⟩
  obtain ⟨q, hq⟩ : ∃ q, q = w.heap.size := ⟨_, rfl⟩
  rw [← hp, ← hq] at HC ⊢
  clear hp hq
  have HBE : Hid (B = ([tx l1].all rightB && [].all timeB)) := hqZ (by rw [HB.out]; simp only [List.all_cons, List.all_nil, ptB, Bool.and_true, Bool.true_and, Bool.and_false, Bool.false_and, Bool.and_assoc]; first | done | ac_rfl)
  obtain ⟨wd, hwd⟩ : ∃ wd, wd = World.drew W0 := ⟨_, rfl⟩
  have hvd : VC w q [(p, [.string (tx l1), .slice a2 l2.length c2], 74)] [] [(.slice a2 l2.length c2, l2)] wd := by rw [hwd]; exact HC.out.drew
  have HXE : Hid (X = .mk 2 21 0 [] [.mk 1 0 0 l1 [], .mk 1 0 0 l2 []]) := hqZ HX2.out
  have HR : Hid (∀ W, GV (fun b => q < b) q X wd W → VR w q [(p, [.string (tx l1), .slice a2 l2.length c2], 74)] [] [(.slice a2 l2.length c2, l2)] W) := hqZ (fun W h => hvd.gv h)
  have HZD : Hid (∀ W, GV (fun b => q < b) q X wd W → q < W.heap.size ∧ ∀ b, W.heap.size ≤ b → q < b) := hqZ (fun W h => ⟨(HR.out W h).lt, fun b hb => Nat.lt_of_lt_of_le (HR.out W h).lt hb⟩)
  have HFq : Hid (¬ (fun b => q < b) q) := hqZ (Nat.lt_irrefl q)
  have HQW : Hid (w.heap.size = q) := hqZ hvd.hq.symm
  clear hvd HC
  refine wp_region_held (S := fun W => GV (fun b => q < b) q X wd W) (by kernel_rfl) ?_
  change wpAnyH _ _ _ _ _ _ _ _ (World.drew _)
  rw [← hwd]
  clear hwd
  refine tkH 0 361 none (.pointer (some ⟨p, 0, none⟩)) rfl (by kernel_rfl) (fun _ _ _ h => h) (by rfl) (by intro W hW; go_simp) (GV.refl _ _ _ _) ?_
  simp only [Act.put, zq1, zq2, zq3]
  refine tkH 1 362 none (.string (tx l1)) rfl (by kernel_rfl) (fun _ _ _ h => h) (by rfl) (by intro W hW; have hc : W.cell? ⟨p, 0, none⟩ = some (.string (tx l1)) := ((HR.out W hW).blkAt 0 rfl).cell 0; go_simp) (GV.refl _ _ _ _) ?_
  simp only [Act.put, zq1, zq2, zq3]
  refine tkH 3 364 none (.pointer (some ⟨p, 1, none⟩)) rfl (by kernel_rfl) (fun _ _ _ h => h) (by rfl) (by intro W hW; go_simp) (GV.refl _ _ _ _) ?_
  simp only [Act.put, zq1, zq2, zq3]
  refine tkH 4 365 none (.slice a2 l2.length c2) rfl (by kernel_rfl) (fun _ _ _ h => h) (by rfl) (by intro W hW; have hc : W.cell? ⟨p, 1, none⟩ = some (.slice a2 l2.length c2) := ((HR.out W hW).blkAt 0 rfl).cell 1; go_simp) (GV.refl _ _ _ _) ?_
  simp only [Act.put, zq1, zq2, zq3]
  refine tkH 8 369 none (.pointer (some ⟨p, 0, none⟩)) rfl (by kernel_rfl) (fun _ _ _ h => h) (by rfl) (by intro W hW; go_simp) (GV.refl _ _ _ _) ?_
  simp only [Act.put, zq1, zq2, zq3]
  refine tkH 9 370 none (.string (tx l1)) rfl (by kernel_rfl) (fun _ _ _ h => h) (by rfl) (by intro W hW; have hc : W.cell? ⟨p, 0, none⟩ = some (.string (tx l1)) := ((HR.out W hW).blkAt 0 rfl).cell 0; go_simp) (GV.refl _ _ _ _) ?_
  simp only [Act.put, zq1, zq2, zq3]
  refine anyH_steps (G := GV (fun b => q < b) q X) (Post := postV (fun b => q < b) q X [.any, .any, .val (.mk 1 0 0 l1 []), .any, .any, .val (.mk 1 0 0 l2 []), .vals [.mk 1 0 0 l1 [], .mk 1 0 0 l2 []], .val (.mk 2 21 0 [] [.mk 1 0 0 l1 [], .mk 1 0 0 l2 []]), .any, .any, .row [.string (tx l1)], .is (.bool ([tx l1].all rightB && [].all timeB)), .fin, .is (.bool ([tx l1].all rightB && [].all timeB))]) (ds := [363, 366, 367, 368, 371, 372, 3]) (GV.refl _ _ _) GV.trans (fun W W' h g => GV.trans _ _ _ h g) (fun i v W W' h g => PK.stable HFq.out h g) [2, 5, 6, 7, 10, 11, 12, 13] 397 rfl (by decide +kernel) (by decide +kernel) ?_ ?_ (GV.refl _ _ _ _) (by decide +kernel)
  · refine AllSteps.cons (o := { dst := some 363, op := .call { callee := .value (.func 26), args := #[.tmp 362], argTypes := #[9] }, type := _, pos := _, after := _, guard := none }) rfl (fun a W hf hS hd K hK => ?_) ?_
    · have e362 : a.eval (.tmp 362) = .string (tx l1) := hf.lit 362 (by decide) rfl
      exact stepV_mk (wanted_none rfl) rfl enters_mtext (vs := #[.string (tx l1)]) (by simp [e362]) (mtext_any l1 W HZ1.out) (HZD.out W hS).1 (HZD.out W hS).2 hK
    refine AllSteps.cons (o := { dst := some 366, op := .call { callee := .value (.func 28), args := #[.tmp 365], argTypes := #[22] }, type := _, pos := _, after := _, guard := none }) rfl (fun a W hf hS hd K hK => ?_) ?_
    · have e365 : a.eval (.tmp 365) = .slice a2 l2.length c2 := hf.lit 365 (by decide) rfl
      exact stepV_mk (wanted_none rfl) rfl enters_raw (vs := #[.slice a2 l2.length c2]) (by simp [e365]) (rawNew_any _ l2 W ((HR.out W hS).rowAt 0 rfl) HZ2.out) (HZD.out W hS).1 (HZD.out W hS).2 hK
    refine AllSteps.cons (o := { dst := some 367, op := .buildSlice 36 2 #[(0, .tmp 363), (1, .tmp 366)], type := _, pos := _, after := _, guard := none }) rfl (fun a W hf hS hd K hK => ?_) ?_
    · have d363 := (hd 2 (by decide +kernel)).get (s := 363) rfl
      have d366 := (hd 5 (by decide +kernel)).get (s := 366) rfl
      exact stepV_vals (wanted_none rfl) rfl elDer (ps := [.tmp 363, .tmp 366]) rfl (l := [.mk 1 0 0 l1 [], .mk 1 0 0 l2 []]) ⟨d363, d366, trivial⟩ rfl (by decide) (by decide) (HZD.out W hS).1 (HZD.out W hS).2 hK
    refine AllSteps.cons (o := { dst := some 368, op := .call { callee := .value (.func 25), args := #[.const (.int .i64 21), .tmp 367], argTypes := #[3, 36] }, type := _, pos := _, after := _, guard := none }) rfl (fun a W hf hS hd K hK => ?_) ?_
    · have d367 := (hd 6 (by decide +kernel)).get (s := 367) rfl
      exact stepV_seq (wanted_none rfl) rfl enters_seq d367 (HZD.out W hS).1 (fun v w1 h1 h2 => hK v w1 h1 h2) HFq.out
    refine AllSteps.cons (o := { dst := some 371, op := .buildSlice 93 1 #[(0, .tmp 370)], type := _, pos := _, after := _, guard := none }) rfl (fun a W hf hS hd K hK => ?_) ?_
    · have e370 : a.eval (.tmp 370) = .string (tx l1) := hf.lit 370 (by decide) rfl
      exact stepV_row (wanted_none rfl) rfl elStr (ps := [.tmp 370]) rfl (cs := [.string (tx l1)]) (by simp only [List.map_cons, List.map_nil, e370]) (by intro u hu; simp only [List.mem_cons, List.not_mem_nil, or_false] at hu; rcases hu with rfl <;> exact ⟨rfl, rfl⟩) rfl (by decide) (by decide) (HZD.out W hS).1 (HZD.out W hS).2 hK
    refine AllSteps.cons (o := { dst := some 372, op := .call { callee := .value (.func 29), args := #[.tmp 371, .const (.slice none 0 0)], argTypes := #[93, 116] }, type := _, pos := _, after := _, guard := none }) rfl (fun a W hf hS hd K hK => ?_) ?_
    · have d371 := (hd 10 (by decide +kernel)).get (s := 371) rfl
      exact stepV_is (wanted_none rfl) rfl enters_mright (vs := #[a.eval (.tmp 371), .slice none 0 0]) (by first | (simp only [List.map_toArray, List.map_cons, List.map_nil]; done) | (simp only [List.map_toArray, List.map_cons, List.map_nil]; rfl)) (u := (.bool ([tx l1].all rightB && [].all timeB))) (mright_any [tx l1] [] _ _ W d371.1 (Sl.nil _ _ _) HSZ.out) (HZD.out W hS).1 hK
    refine AllSteps.cons (o := { dst := none, op := .store 38 (.tmp 2) (.tmp 368), type := _, pos := _, after := _, guard := none }) rfl (fun a W hf hS hd K hK => ?_) ?_
    · have e2 : a.eval (.tmp 2) = .pointer (some ⟨q, 0, none⟩) := hf.lit 2 (by decide) rfl
      have d368 := (hd 7 (by decide +kernel)).get (s := 368) rfl
      obtain ⟨cur, hc1, hc2⟩ := (HR.out W hS).len
      rw [← HXE.out] at d368
      exact stepV_fin (wanted_none rfl) rfl e2 d368 hc1 hc2 HFq.out hK
    refine AllSteps.cons (o := { dst := some 3, op := .assign (.tmp 372), type := _, pos := _, after := _, guard := none }) rfl (fun a W hf hS hd K hK => ?_) ?_
    · have d372 := (hd 11 (by decide +kernel)).get (s := 372) rfl
      exact step_val (wanted_none rfl) (exec_asg rfl rfl) (hK _ _ (GV.refl _ _ _ _) d372)
    exact AllSteps.nil
  · intro a W hf hS hp
    have h3 := (hp 13 (by decide)).get (s := 3) rfl
    obtain ⟨v, cs, h5, h6⟩ := (hp 12 (by decide)).fin
    have e2 : a.eval (.tmp 2) = .pointer (some ⟨q, 0, none⟩) := hf.lit 2 (by decide) rfl
    go_wp2_with fail
    refine bodyPost_ret (results_agg_tmp rfl aggDer (show a.tmps.getD 2 undef = _ from e2) h6.length h5.cellsAll) hf.defers ⟨cs, ?_, ?_, (HR.out W hS).below⟩
    · rw [HBE.out, show a.tmps.getD 3 undef = .bool ([tx l1].all rightB && [].all timeB) from h3]
    · exact h6.mono (fun b hb => by have := HQW.out; omega)
set_option maxHeartbeats 16000000 in
set_option maxRecDepth 100000 in
theorem msgValue_22 (F0 : Nat → Prop) (l1 : List UInt8) (x2 : Int) (x3 : Int) (w : World) (hz1 : l1.length ≤ 140737488355328) (hz2 : -9223372036854775808 ≤ x2 ∧ x2 ≤ 9223372036854775807) (hz3 : -9223372036854775808 ≤ x3 ∧ x3 ≤ 9223372036854775807) :
    Calls Try.prog 10 #[.iface 76 (.agg #[.string (tx l1), .int .i64 x2, .int .i64 x3])] w (VlRes w (.mk 2 22 0 [] ([.s l1, .n x2, .n x3].map ptTv)) ([.s l1, .n x2, .n x3].all ptB)) := by
  have HC : Hid (VC w w.heap.size [(w.heap.size + 1, [.string (tx l1), .int .i64 x2, .int .i64 x3], 76)] [] [] ((w.alloc (.cells zs5.toArray 38)).alloc (.cells [.string (tx l1), .int .i64 x2, .int .i64 x3].toArray 76))) := hqZ (VC.start (by intro r hr; cases hr) _ _)
  have HSZ : Hid (∀ u ∈ [tx l1], u.size ≤ maxLen) := hqZ (by intro u hu; simp only [List.mem_cons, List.not_mem_nil, or_false] at hu; rcases hu with rfl; exact szTx hz1)
  have HZ1 := hqZ hz1
  clear hz1
  have HZ2 := hqZ hz2
  clear hz2
  have HZ3 := hqZ hz3
  clear hz3
  obtain ⟨z11, hta11⟩ := tan 54 76 (.agg #[.string (tx l1), .int .i64 x2, .int .i64 x3]) zero_11 (by kernel_rfl) (by decide)
  obtain ⟨z12, hta12⟩ := tan 56 76 (.agg #[.string (tx l1), .int .i64 x2, .int .i64 x3]) zero_12 (by kernel_rfl) (by decide)
  obtain ⟨z13, hta13⟩ := tan 59 76 (.agg #[.string (tx l1), .int .i64 x2, .int .i64 x3]) zero_13 (by kernel_rfl) (by decide)
  obtain ⟨z14, hta14⟩ := tan 60 76 (.agg #[.string (tx l1), .int .i64 x2, .int .i64 x3]) zero_14 (by kernel_rfl) (by decide)
  obtain ⟨z15, hta15⟩ := tan 62 76 (.agg #[.string (tx l1), .int .i64 x2, .int .i64 x3]) zero_15 (by kernel_rfl) (by decide)
  obtain ⟨z16, hta16⟩ := tan 64 76 (.agg #[.string (tx l1), .int .i64 x2, .int .i64 x3]) zero_16 (by kernel_rfl) (by decide)
  obtain ⟨z17, hta17⟩ := tan 66 76 (.agg #[.string (tx l1), .int .i64 x2, .int .i64 x3]) zero_17 (by kernel_rfl) (by decide)
  obtain ⟨z18, hta18⟩ := tan 68 76 (.agg #[.string (tx l1), .int .i64 x2, .int .i64 x3]) zero_18 (by kernel_rfl) (by decide)
  obtain ⟨z19, hta19⟩ := tan 70 76 (.agg #[.string (tx l1), .int .i64 x2, .int .i64 x3]) zero_19 (by kernel_rfl) (by decide)
  obtain ⟨z20, hta20⟩ := tan 72 76 (.agg #[.string (tx l1), .int .i64 x2, .int .i64 x3]) zero_20 (by kernel_rfl) (by decide)
  obtain ⟨z21, hta21⟩ := tan 74 76 (.agg #[.string (tx l1), .int .i64 x2, .int .i64 x3]) zero_21 (by kernel_rfl) (by decide)
  have hta : ∀ W, (Instr.typeAssert (.iface 76 (.agg #[.string (tx l1), .int .i64 x2, .int .i64 x3])) 20 76 true).run Try.prog W = .ok (.tuple #[.agg #[.string (tx l1), .int .i64 x2, .int .i64 x3], .bool true]) W := fun W => ta_is _ _ _ (by kernel_rfl) W
  obtain ⟨B, hB⟩ : ∃ B, B = [.s l1, .n x2, .n x3].all ptB := ⟨_, rfl⟩
  obtain ⟨X, hX⟩ : ∃ X : Tv, X = .mk 2 22 0 [] ([.s l1, .n x2, .n x3].map ptTv) := ⟨_, rfl⟩
  rw [← hB, ← hX]
  have HB := hqZ hB
  have HX2 := hqZ hX
  clear hB hX
  go_enter Try.func10, Try.ntmps10
  go_upto_region 44 with fail
  clear hta hta11 hta12 hta13 hta14 hta15 hta16 hta17 hta18 hta19 hta20 hta21
  show Code.wp _ _ _ _ ((w.alloc (.cells zs5.toArray 38)).alloc (.cells [.string (tx l1), .int .i64 x2, .int .i64 x3].toArray 76))
  obtain ⟨W0, hW0⟩ : ∃ W0, W0 = (w.alloc (.cells zs5.toArray 38)).alloc (.cells [.string (tx l1), .int .i64 x2, .int .i64 x3].toArray 76) := ⟨_, rfl⟩
  rw [← hW0] at HC ⊢
  clear hW0
  obtain ⟨p, hp⟩ : ∃ p, p = w.heap.size + 1 := ⟨_, rfl⟩
  obtain ⟨q, hq⟩ : ∃ q, q = w.heap.size := ⟨_, rfl⟩
  rw [← hp, ← hq] at HC ⊢
  clear hp hq
  have HBE : Hid (B = ([tx l1].all rightB && [x2, x3].all timeB)) := hqZ (by rw [HB.out]; simp only [List.all_cons, List.all_nil, ptB, Bool.and_true, Bool.true_and, Bool.and_false, Bool.false_and, Bool.and_assoc]; first | done | ac_rfl)
  obtain ⟨wd, hwd⟩ : ∃ wd, wd = World.drew W0 := ⟨_, rfl⟩
  have hvd : VC w q [(p, [.string (tx l1), .int .i64 x2, .int .i64 x3], 76)] [] [] wd := by rw [hwd]; exact HC.out.drew
  have HXE : Hid (X = .mk 2 22 0 [] [.mk 1 0 0 l1 [], .mk 0 0 (numU x2) [] [], .mk 0 0 (numU x3) [] []]) := hqZ HX2.out
  have HR : Hid (∀ W, GV (fun b => q < b) q X wd W → VR w q [(p, [.string (tx l1), .int .i64 x2, .int .i64 x3], 76)] [] [] W) := hqZ (fun W h => hvd.gv h)
  have HZD : Hid (∀ W, GV (fun b => q < b) q X wd W → q < W.heap.size ∧ ∀ b, W.heap.size ≤ b → q < b) := hqZ (fun W h => ⟨(HR.out W h).lt, fun b hb => Nat.lt_of_lt_of_le (HR.out W h).lt hb⟩)
  have HFq : Hid (¬ (fun b => q < b) q) := hqZ (Nat.lt_irrefl q)
  have HQW : Hid (w.heap.size = q) := hqZ hvd.hq.symm
  clear hvd HC
  refine wp_region_held (S := fun W => GV (fun b => q < b) q X wd W) (by kernel_rfl) ?_
  change wpAnyH _ _ _ _ _ _ _ _ (World.drew _)
  rw [← hwd]
  clear hwd
  refine tkH 0 376 none (.pointer (some ⟨p, 0, none⟩)) rfl (by kernel_rfl) (fun _ _ _ h => h) (by rfl) (by intro W hW; go_simp) (GV.refl _ _ _ _) ?_
  simp only [Act.put, zq1, zq2, zq3]
  refine tkH 1 377 none (.string (tx l1)) rfl (by kernel_rfl) (fun _ _ _ h => h) (by rfl) (by intro W hW; have hc : W.cell? ⟨p, 0, none⟩ = some (.string (tx l1)) := ((HR.out W hW).blkAt 0 rfl).cell 0; go_simp) (GV.refl _ _ _ _) ?_
  simp only [Act.put, zq1, zq2, zq3]
  refine tkH 3 379 none (.pointer (some ⟨p, 1, none⟩)) rfl (by kernel_rfl) (fun _ _ _ h => h) (by rfl) (by intro W hW; go_simp) (GV.refl _ _ _ _) ?_
  simp only [Act.put, zq1, zq2, zq3]
  refine tkH 4 380 none (.int .i64 x2) rfl (by kernel_rfl) (fun _ _ _ h => h) (by rfl) (by intro W hW; have hc : W.cell? ⟨p, 1, none⟩ = some (.int .i64 x2) := ((HR.out W hW).blkAt 0 rfl).cell 1; go_simp) (GV.refl _ _ _ _) ?_
  simp only [Act.put, zq1, zq2, zq3]
  refine tkH 6 382 none (.pointer (some ⟨p, 2, none⟩)) rfl (by kernel_rfl) (fun _ _ _ h => h) (by rfl) (by intro W hW; go_simp) (GV.refl _ _ _ _) ?_
  simp only [Act.put, zq1, zq2, zq3]
  refine tkH 7 383 none (.int .i64 x3) rfl (by kernel_rfl) (fun _ _ _ h => h) (by rfl) (by intro W hW; have hc : W.cell? ⟨p, 2, none⟩ = some (.int .i64 x3) := ((HR.out W hW).blkAt 0 rfl).cell 2; go_simp) (GV.refl _ _ _ _) ?_
  simp only [Act.put, zq1, zq2, zq3]
  refine tkH 11 387 none (.pointer (some ⟨p, 0, none⟩)) rfl (by kernel_rfl) (fun _ _ _ h => h) (by rfl) (by intro W hW; go_simp) (GV.refl _ _ _ _) ?_
  simp only [Act.put, zq1, zq2, zq3]
  refine tkH 12 388 none (.string (tx l1)) rfl (by kernel_rfl) (fun _ _ _ h => h) (by rfl) (by intro W hW; have hc : W.cell? ⟨p, 0, none⟩ = some (.string (tx l1)) := ((HR.out W hW).blkAt 0 rfl).cell 0; go_simp) (GV.refl _ _ _ _) ?_
  simp only [Act.put, zq1, zq2, zq3]
  refine tkH 14 390 none (.pointer (some ⟨p, 1, none⟩)) rfl (by kernel_rfl) (fun _ _ _ h => h) (by rfl) (by intro W hW; go_simp) (GV.refl _ _ _ _) ?_
  simp only [Act.put, zq1, zq2, zq3]
  refine tkH 15 391 none (.int .i64 x2) rfl (by kernel_rfl) (fun _ _ _ h => h) (by rfl) (by intro W hW; have hc : W.cell? ⟨p, 1, none⟩ = some (.int .i64 x2) := ((HR.out W hW).blkAt 0 rfl).cell 1; go_simp) (GV.refl _ _ _ _) ?_
  simp only [Act.put, zq1, zq2, zq3]
  refine tkH 16 392 none (.pointer (some ⟨p, 2, none⟩)) rfl (by kernel_rfl) (fun _ _ _ h => h) (by rfl) (by intro W hW; go_simp) (GV.refl _ _ _ _) ?_
  simp only [Act.put, zq1, zq2, zq3]
  refine tkH 17 393 none (.int .i64 x3) rfl (by kernel_rfl) (fun _ _ _ h => h) (by rfl) (by intro W hW; have hc : W.cell? ⟨p, 2, none⟩ = some (.int .i64 x3) := ((HR.out W hW).blkAt 0 rfl).cell 2; go_simp) (GV.refl _ _ _ _) ?_
  simp only [Act.put, zq1, zq2, zq3]
  refine anyH_steps (G := GV (fun b => q < b) q X) (Post := postV (fun b => q < b) q X [.any, .any, .val (.mk 1 0 0 l1 []), .any, .any, .val (.mk 0 0 (numU x2) [] []), .any, .any, .val (.mk 0 0 (numU x3) [] []), .vals [.mk 1 0 0 l1 [], .mk 0 0 (numU x2) [] [], .mk 0 0 (numU x3) [] []], .val (.mk 2 22 0 [] [.mk 1 0 0 l1 [], .mk 0 0 (numU x2) [] [], .mk 0 0 (numU x3) [] []]), .any, .any, .row [.string (tx l1)], .any, .any, .any, .any, .row [.int .i64 x2, .int .i64 x3], .is (.bool ([tx l1].all rightB && [x2, x3].all timeB)), .fin, .is (.bool ([tx l1].all rightB && [x2, x3].all timeB))]) (ds := [378, 381, 384, 385, 386, 389, 394, 395, 3]) (GV.refl _ _ _) GV.trans (fun W W' h g => GV.trans _ _ _ h g) (fun i v W W' h g => PK.stable HFq.out h g) [2, 5, 8, 9, 10, 13, 18, 19, 20, 21] 397 rfl (by decide +kernel) (by decide +kernel) ?_ ?_ (GV.refl _ _ _ _) (by decide +kernel)
  · refine AllSteps.cons (o := { dst := some 378, op := .call { callee := .value (.func 26), args := #[.tmp 377], argTypes := #[9] }, type := _, pos := _, after := _, guard := none }) rfl (fun a W hf hS hd K hK => ?_) ?_
    · have e377 : a.eval (.tmp 377) = .string (tx l1) := hf.lit 377 (by decide) rfl
      exact stepV_mk (wanted_none rfl) rfl enters_mtext (vs := #[.string (tx l1)]) (by simp [e377]) (mtext_any l1 W HZ1.out) (HZD.out W hS).1 (HZD.out W hS).2 hK
    refine AllSteps.cons (o := { dst := some 381, op := .call { callee := .value (.func 27), args := #[.tmp 380], argTypes := #[2] }, type := _, pos := _, after := _, guard := none }) rfl (fun a W hf hS hd K hK => ?_) ?_
    · have e380 : a.eval (.tmp 380) = .int .i64 x2 := hf.lit 380 (by decide) rfl
      exact stepV_mk (wanted_none rfl) rfl enters_mnum (vs := #[.int .i64 x2]) (by simp [e380]) (mnumI_any x2 W HZ2.out.1 HZ2.out.2) (HZD.out W hS).1 (HZD.out W hS).2 hK
    refine AllSteps.cons (o := { dst := some 384, op := .call { callee := .value (.func 27), args := #[.tmp 383], argTypes := #[2] }, type := _, pos := _, after := _, guard := none }) rfl (fun a W hf hS hd K hK => ?_) ?_
    · have e383 : a.eval (.tmp 383) = .int .i64 x3 := hf.lit 383 (by decide) rfl
      exact stepV_mk (wanted_none rfl) rfl enters_mnum (vs := #[.int .i64 x3]) (by simp [e383]) (mnumI_any x3 W HZ3.out.1 HZ3.out.2) (HZD.out W hS).1 (HZD.out W hS).2 hK
    refine AllSteps.cons (o := { dst := some 385, op := .buildSlice 36 3 #[(0, .tmp 378), (1, .tmp 381), (2, .tmp 384)], type := _, pos := _, after := _, guard := none }) rfl (fun a W hf hS hd K hK => ?_) ?_
    · have d378 := (hd 2 (by decide +kernel)).get (s := 378) rfl
      have d381 := (hd 5 (by decide +kernel)).get (s := 381) rfl
      have d384 := (hd 8 (by decide +kernel)).get (s := 384) rfl
      exact stepV_vals (wanted_none rfl) rfl elDer (ps := [.tmp 378, .tmp 381, .tmp 384]) rfl (l := [.mk 1 0 0 l1 [], .mk 0 0 (numU x2) [] [], .mk 0 0 (numU x3) [] []]) ⟨d378, d381, d384, trivial⟩ rfl (by decide) (by decide) (HZD.out W hS).1 (HZD.out W hS).2 hK
    refine AllSteps.cons (o := { dst := some 386, op := .call { callee := .value (.func 25), args := #[.const (.int .i64 22), .tmp 385], argTypes := #[3, 36] }, type := _, pos := _, after := _, guard := none }) rfl (fun a W hf hS hd K hK => ?_) ?_
    · have d385 := (hd 9 (by decide +kernel)).get (s := 385) rfl
      exact stepV_seq (wanted_none rfl) rfl enters_seq d385 (HZD.out W hS).1 (fun v w1 h1 h2 => hK v w1 h1 h2) HFq.out
    refine AllSteps.cons (o := { dst := some 389, op := .buildSlice 93 1 #[(0, .tmp 388)], type := _, pos := _, after := _, guard := none }) rfl (fun a W hf hS hd K hK => ?_) ?_
    · have e388 : a.eval (.tmp 388) = .string (tx l1) := hf.lit 388 (by decide) rfl
      exact stepV_row (wanted_none rfl) rfl elStr (ps := [.tmp 388]) rfl (cs := [.string (tx l1)]) (by simp only [List.map_cons, List.map_nil, e388]) (by intro u hu; simp only [List.mem_cons, List.not_mem_nil, or_false] at hu; rcases hu with rfl <;> exact ⟨rfl, rfl⟩) rfl (by decide) (by decide) (HZD.out W hS).1 (HZD.out W hS).2 hK
    refine AllSteps.cons (o := { dst := some 394, op := .buildSlice 116 2 #[(0, .tmp 391), (1, .tmp 393)], type := _, pos := _, after := _, guard := none }) rfl (fun a W hf hS hd K hK => ?_) ?_
    · have e391 : a.eval (.tmp 391) = .int .i64 x2 := hf.lit 391 (by decide) rfl
      have e393 : a.eval (.tmp 393) = .int .i64 x3 := hf.lit 393 (by decide) rfl
      exact stepV_row (wanted_none rfl) rfl elI64 (ps := [.tmp 391, .tmp 393]) rfl (cs := [.int .i64 x2, .int .i64 x3]) (by simp only [List.map_cons, List.map_nil, e391, e393]) (by intro u hu; simp only [List.mem_cons, List.not_mem_nil, or_false] at hu; rcases hu with rfl | rfl <;> exact ⟨rfl, rfl⟩) rfl (by decide) (by decide) (HZD.out W hS).1 (HZD.out W hS).2 hK
    refine AllSteps.cons (o := { dst := some 395, op := .call { callee := .value (.func 29), args := #[.tmp 389, .tmp 394], argTypes := #[93, 116] }, type := _, pos := _, after := _, guard := none }) rfl (fun a W hf hS hd K hK => ?_) ?_
    · have d389 := (hd 13 (by decide +kernel)).get (s := 389) rfl
      have d394 := (hd 18 (by decide +kernel)).get (s := 394) rfl
      exact stepV_is (wanted_none rfl) rfl enters_mright (vs := #[a.eval (.tmp 389), a.eval (.tmp 394)]) (by first | (simp only [List.map_toArray, List.map_cons, List.map_nil]; done) | (simp only [List.map_toArray, List.map_cons, List.map_nil]; rfl)) (u := (.bool ([tx l1].all rightB && [x2, x3].all timeB))) (mright_any [tx l1] [x2, x3] _ _ W d389.1 d394.1 HSZ.out) (HZD.out W hS).1 hK
    refine AllSteps.cons (o := { dst := none, op := .store 38 (.tmp 2) (.tmp 386), type := _, pos := _, after := _, guard := none }) rfl (fun a W hf hS hd K hK => ?_) ?_
    · have e2 : a.eval (.tmp 2) = .pointer (some ⟨q, 0, none⟩) := hf.lit 2 (by decide) rfl
      have d386 := (hd 10 (by decide +kernel)).get (s := 386) rfl
      obtain ⟨cur, hc1, hc2⟩ := (HR.out W hS).len
      rw [← HXE.out] at d386
      exact stepV_fin (wanted_none rfl) rfl e2 d386 hc1 hc2 HFq.out hK
    refine AllSteps.cons (o := { dst := some 3, op := .assign (.tmp 395), type := _, pos := _, after := _, guard := none }) rfl (fun a W hf hS hd K hK => ?_) ?_
    · have d395 := (hd 19 (by decide +kernel)).get (s := 395) rfl
      exact step_val (wanted_none rfl) (exec_asg rfl rfl) (hK _ _ (GV.refl _ _ _ _) d395)
    exact AllSteps.nil
  · intro a W hf hS hp
    have h3 := (hp 21 (by decide)).get (s := 3) rfl
    obtain ⟨v, cs, h5, h6⟩ := (hp 20 (by decide)).fin
    have e2 : a.eval (.tmp 2) = .pointer (some ⟨q, 0, none⟩) := hf.lit 2 (by decide) rfl
    go_wp2_with fail
    refine bodyPost_ret (results_agg_tmp rfl aggDer (show a.tmps.getD 2 undef = _ from e2) h6.length h5.cellsAll) hf.defers ⟨cs, ?_, ?_, (HR.out W hS).below⟩
    · rw [HBE.out, show a.tmps.getD 3 undef = .bool ([tx l1].all rightB && [x2, x3].all timeB) from h3]
    · exact h6.mono (fun b hb => by have := HQW.out; omega)
def isS (x : Tv) : Bool := decide (x.kind = 1 ∧ x.tag = 0) && rightB (tx x.b)
def isB (x : Tv) : Bool := decide (x.kind = 1 ∧ x.tag = 0)
def tkR (x : Tv) : Bool := decide (x.kind = 2 ∧ x.tag = 1) && (match x.l with | [a, b] => isS a && isB b | _ => false)
def fitK (k : Kd) (x : Tv) : Bool :=
  match k with
  | .s => isS x
  | .n => decide (x.kind = 0 ∧ x.tag = 0) && decide (x.n ≤ maxT)
  | .b => isB x
  | .t => decide (x.kind = 0 ∧ x.tag = 0) && decide (x.n ≤ 1)
  | .i => tkR x
  | .x => decide (x.kind = 2 ∧ x.tag = 0) && (decide (x.l.length ≤ 1) && x.l.all tkR)
def fitsK : List Kd → List Tv → Bool
  | [], [] => true
  | k :: ks, x :: l => fitK k x && fitsK ks l
  | _, _ => false
def msgR (x : Tv) : Bool := decide (x.kind = 2) && (!(shapeS x.tag).isEmpty && fitsK (shapeS x.tag) x.l)
def ptOf (k : Kd) (x : Tv) : Pt :=
  match k with
  | .s => .s x.b
  | .n => .n x.n
  | .b => .b x.b
  | .t => .t (x.n == 1)
  | .i => .i (tkOf x)
  | .x => .x (x.l.map tkOf)
def ptsOf : List Kd → List Tv → List Pt
  | k :: ks, x :: l => ptOf k x :: ptsOf ks l
  | _, _ => []
theorem nextS_yes {k : Int} {x : Tv} {r : List Tv} {b : Bool} (h : x.kind = k ∧ x.tag = 0) : nextS k (x :: r) b = (x, r, b) := if_pos h
theorem nextS_no {k : Int} {x : Tv} {r : List Tv} {b : Bool} (h : ¬ (x.kind = k ∧ x.tag = 0)) : nextS k (x :: r) b = (.zero, [], true) := if_neg h
theorem partS_yes {k : Int} {x : Tv} {r : List Tv} {b : Bool} (h : x.kind = 2 ∧ x.tag = k) : partS k (x :: r) b = (x, r, b) := if_pos h
theorem partS_no {k : Int} {x : Tv} {r : List Tv} {b : Bool} (h : ¬ (x.kind = 2 ∧ x.tag = k)) : partS k (x :: r) b = (.zero, [], true) := if_neg h
theorem nextS_bad (k : Int) (rem : List Tv) : (nextS k rem true).2.2 = true := by
  unfold nextS
  cases rem with
  | nil => rfl
  | cons x r =>
    simp only
    split <;> rfl
theorem partS_bad (k : Int) (rem : List Tv) : (partS k rem true).2.2 = true := by
  unfold partS
  cases rem with
  | nil => rfl
  | cons x r =>
    simp only
    split <;> rfl
theorem stepS_bad (k : Kd) (rem : List Tv) (b2 : Bool) : (stepS k (rem, true, b2)).2.2.1 = true := by
  cases k
  · simp only [stepS, nameS]; split <;> first | exact nextS_bad _ _ | rfl
  · simp only [stepS, numS]; split <;> first | exact nextS_bad _ _ | rfl
  · simp only [stepS, bytesS]; exact nextS_bad _ _
  · simp only [stepS, truthS]; split <;> first | exact nextS_bad _ _ | rfl
  · simp only [stepS, tickS]; split <;> exact partS_bad _ _
  · simp only [stepS, extraS]; exact partS_bad _ _
theorem stepS_bad2 (k : Kd) (rem : List Tv) (b : Bool) : (stepS k (rem, b, true)).2.2.2 = true := by
  cases k
  · rfl
  · rfl
  · rfl
  · rfl
  · simp only [stepS, tickS]; split <;> rfl
  · simp only [stepS, extraS]; split
    · split <;> rfl
    · rfl
theorem runS_bad : ∀ (ks : List Kd) (rem : List Tv) (b2 : Bool), (runS ks (rem, true, b2)).2.2.1 = true
  | [], _, _ => rfl
  | k :: ks, rem, b2 => by
    have h := stepS_bad k rem b2
    show (runS ks (stepS k (rem, true, b2)).2).2.2.1 = true
    obtain ⟨r, b, c, e⟩ : ∃ r b c, (stepS k (rem, true, b2)).2 = (r, b, c) := ⟨_, _, _, rfl⟩
    rw [e] at h ⊢
    simp only at h
    subst h
    exact runS_bad ks r c
theorem runS_bad2 : ∀ (ks : List Kd) (rem : List Tv) (b : Bool), (runS ks (rem, b, true)).2.2.2 = true
  | [], _, _ => rfl
  | k :: ks, rem, b => by
    have h := stepS_bad2 k rem b
    show (runS ks (stepS k (rem, b, true)).2).2.2.2 = true
    obtain ⟨r, b', c, e⟩ : ∃ r b' c, (stepS k (rem, b, true)).2 = (r, b', c) := ⟨_, _, _, rfl⟩
    rw [e] at h ⊢
    simp only at h
    subst h
    exact runS_bad2 ks r b'
theorem nameS_yes {x : Tv} {r : List Tv} {b : Bool} (h : x.kind = 1 ∧ x.tag = 0) : nameS (x :: r) b = (x.b, r, if rightB (tx x.b) = true then b else true) := by unfold nameS; rw [nextS_yes h]
theorem nameS_no {x : Tv} {r : List Tv} {b : Bool} (h : ¬ (x.kind = 1 ∧ x.tag = 0)) : (nameS (x :: r) b).2 = ([], true) := by simp [nameS, nextS_no h]
theorem nameS_nil {b : Bool} : (nameS [] b).2 = ([], true) := by
  show (([] : List Tv), if rightB (tx Tv.zero.b) = true then true else true) = ([], true)
  cases rightB (tx Tv.zero.b) <;> rfl
theorem bytesS_yes {x : Tv} {r : List Tv} {b : Bool} (h : x.kind = 1 ∧ x.tag = 0) : bytesS (x :: r) b = (x.b, r, b) := by unfold bytesS; rw [nextS_yes h]
theorem bytesS_no {x : Tv} {r : List Tv} {b : Bool} (h : ¬ (x.kind = 1 ∧ x.tag = 0)) : (bytesS (x :: r) b).2 = ([], true) := by simp [bytesS, nextS_no h]
theorem bytesS_nil {b : Bool} : (bytesS [] b).2 = ([], true) := by simp [bytesS, nextS]
theorem ticketS_eq (x : Tv) : ticketS x = if tkR x = true then (match x.l with | [a, b] => some (a.b, b.b) | _ => none) else none := by
  unfold ticketS tkR
  by_cases h : x.kind = 2 ∧ x.tag = 1
  · rw [show decide (x.kind = 2 ∧ x.tag = 1) = true from decide_eq_true h, Bool.true_and]
    generalize x.l = l
    match l with
    | [] => rw [if_neg (by rw [nameS_nil, bytesS_nil]; simp)]; simp
    | [a] =>
      rw [if_neg ?_]
      · simp
      · by_cases ha : a.kind = 1 ∧ a.tag = 0
        · rw [nameS_yes ha, bytesS_nil]; simp
        · rw [nameS_no ha, bytesS_nil]; simp
    | [a, b] =>
      simp only
      by_cases ha : a.kind = 1 ∧ a.tag = 0
      · by_cases hb : b.kind = 1 ∧ b.tag = 0
        · by_cases hr : rightB (tx a.b) = true
          · rw [nameS_yes ha, if_pos hr, bytesS_yes hb, if_pos ⟨h.1, h.2, rfl, rfl⟩, if_pos (by simp [isS, isB, ha, hb, hr])]
          · rw [nameS_yes ha, if_neg hr, bytesS_yes hb, if_neg (by simp), if_neg (by simp [isS, hr])]
        · rw [nameS_yes ha, bytesS_no hb, if_neg (by simp), if_neg (by simp [isB, hb])]
      · rw [nameS_no ha, bytesS_nil, if_neg (by simp), if_neg (by simp [isS, ha])]
    | a :: b :: c :: l =>
      simp only
      rw [if_neg ?_, if_neg (by simp)]
      by_cases ha : a.kind = 1 ∧ a.tag = 0
      · by_cases hb : b.kind = 1 ∧ b.tag = 0
        · rw [nameS_yes ha, bytesS_yes hb]; simp
        · rw [nameS_yes ha, bytesS_no hb]; simp
      · rw [nameS_no ha, bytesS_nil]; simp
  · rw [if_neg (fun hc => h ⟨hc.1, hc.2.1⟩), decide_eq_false h, Bool.false_and, if_neg (by simp)]
theorem ticketS_isSome (x : Tv) : (ticketS x).isSome = tkR x := by
  rw [ticketS_eq]
  by_cases h : tkR x = true
  · rw [if_pos h, h]
    unfold tkR at h
    match hl : x.l with
    | [a, b] => rfl
    | [] => rw [hl] at h; simp at h
    | [a] => rw [hl] at h; simp at h
    | a :: b :: c :: l => rw [hl] at h; simp at h
  · rw [if_neg h]
    simp at h
    rw [h]; rfl
theorem allT_eq (l : List Tv) : allT l = l.all tkR := by
  unfold allT
  congr 1
  funext x
  exact ticketS_isSome x
theorem stepS_fit {k : Kd} {x : Tv} {r : List Tv} (h : fitK k x = true) : stepS k (x :: r, false, false) = (ptOf k x, r, false, false) := by
  cases k
  · simp only [fitK, isS, Bool.and_eq_true, decide_eq_true_eq] at h
    simp only [stepS, nameS, nextS_yes h.1, h.2, if_true]; rfl
  · simp only [fitK, Bool.and_eq_true, decide_eq_true_eq] at h
    simp only [stepS, numS, nextS_yes h.1]
    rw [if_neg (by omega)]; rfl
  · simp only [fitK, isB, decide_eq_true_eq] at h
    simp only [stepS, bytesS, nextS_yes h]; rfl
  · simp only [fitK, Bool.and_eq_true, decide_eq_true_eq] at h
    simp only [stepS, truthS, nextS_yes h.1]
    rw [if_neg (by omega)]; rfl
  · simp only [fitK] at h
    have h1 : x.kind = 2 ∧ x.tag = 1 := by unfold tkR at h; simp only [Bool.and_eq_true, decide_eq_true_eq] at h; exact h.1
    have hs : (ticketS x).isSome = true := by rw [ticketS_isSome]; exact h
    obtain ⟨t, ht⟩ := Option.isSome_iff_exists.1 hs
    simp only [stepS, tickS, partS_yes h1, ht, ptOf, tkOf]; rfl
  · simp only [fitK, Bool.and_eq_true, decide_eq_true_eq] at h
    simp only [stepS, extraS, partS_yes h.1, allT_eq, h.2.2, if_true]
    rw [if_neg (by omega)]; rfl
theorem stepS_no {k : Kd} {x : Tv} {r : List Tv} (h : fitK k x = false) : (stepS k (x :: r, false, false)).2.2.1 = true ∨ (stepS k (x :: r, false, false)).2.2.2 = true := by
  cases k
  · left
    simp only [fitK, isS] at h
    by_cases hk : x.kind = 1 ∧ x.tag = 0
    · rw [decide_eq_true hk, Bool.true_and] at h
      simp only [stepS, nameS, nextS_yes hk, h]; rfl
    · show (nameS (x :: r) false).2.2 = true; rw [nameS_no hk]
  · left
    simp only [fitK] at h
    by_cases hk : x.kind = 0 ∧ x.tag = 0
    · rw [decide_eq_true hk, Bool.true_and] at h
      simp only [stepS, numS, nextS_yes hk]
      rw [if_pos (by simp at h; omega)]
    · show (numS (x :: r) false).2.2 = true; simp [numS, nextS_no hk]; split <;> rfl
  · left
    simp only [fitK, isB, decide_eq_false_iff_not] at h
    simp only [stepS, bytesS, nextS_no h]
  · left
    simp only [fitK] at h
    by_cases hk : x.kind = 0 ∧ x.tag = 0
    · rw [decide_eq_true hk, Bool.true_and] at h
      simp only [stepS, truthS, nextS_yes hk]
      rw [if_pos (by simp at h; omega)]
    · show (truthS (x :: r) false).2.2 = true; simp [truthS, nextS_no hk]
  · simp only [fitK] at h
    by_cases hk : x.kind = 2 ∧ x.tag = 1
    · right
      have hs : ticketS x = none := by
        have := ticketS_isSome x
        rw [h] at this
        simpa using this
      simp only [stepS, tickS, partS_yes hk, hs]
    · left
      simp only [stepS, tickS, partS_no hk]; split <;> rfl
  · simp only [fitK] at h
    by_cases hk : x.kind = 2 ∧ x.tag = 0
    · right
      rw [decide_eq_true hk, Bool.true_and] at h
      simp only [stepS, extraS, partS_yes hk, allT_eq]
      split
      · rename_i ha
        rw [ha, Bool.and_true] at h
        rw [if_pos (by simp at h; omega)]
      · rfl
    · left
      simp only [stepS, extraS, partS_no hk]
theorem stepS_nil (k : Kd) : (stepS k ([], false, false)).2.2.1 = true := by
  cases k
  · show (nameS [] false).2.2 = true; rw [nameS_nil]
  · show (numS [] false).2.2 = true
    show (if maxT < Tv.zero.n then ((0 : Nat), ([] : List Tv), true) else (Tv.zero.n, [], true)).2.2 = true
    rw [if_neg (by show ¬ maxT < 0; omega)]
  · rfl
  · show (if 1 < Tv.zero.n then true else true) = true
    rw [if_neg (by show ¬ 1 < 0; omega)]
  · show (tickS [] false false).2.2.1 = true; simp only [tickS, partS]; split <;> rfl
  · rfl
theorem runS_fits : ∀ (ks : List Kd) (l : List Tv), fitsK ks l = true → runS ks (l, false, false) = (ptsOf ks l, [], false, false)
  | [], [], _ => rfl
  | [], _ :: _, h => by simp [fitsK] at h
  | _ :: _, [], h => by simp [fitsK] at h
  | k :: ks, x :: l, h => by
    simp only [fitsK, Bool.and_eq_true] at h
    simp only [runS, stepS_fit h.1, runS_fits ks l h.2, ptsOf]
theorem runS_not : ∀ (ks : List Kd) (l : List Tv), fitsK ks l = false → ¬ ((runS ks (l, false, false)).2.2.2 = false ∧ (runS ks (l, false, false)).2.2.1 = false ∧ (runS ks (l, false, false)).2.1.isEmpty = true)
  | [], [], h => by simp [fitsK] at h
  | [], x :: l, _ => by simp [runS]
  | k :: ks, [], _ => by
    intro hc
    have h1 : (runS ks (stepS k ([], false, false)).2).2.2.1 = false := hc.2.1
    obtain ⟨r, b, c, e⟩ : ∃ r b c, (stepS k ([], false, false)).2 = (r, b, c) := ⟨_, _, _, rfl⟩
    have h2 := stepS_nil k
    rw [e] at h1 h2
    simp only at h2
    subst h2
    rw [runS_bad] at h1
    cases h1
  | k :: ks, x :: l, h => by
    intro hc
    simp only [fitsK] at h
    by_cases hf : fitK k x = true
    · rw [hf, Bool.true_and] at h
      simp only [runS, stepS_fit hf] at hc
      exact runS_not ks l h hc
    · simp at hf
      have h1 : (runS ks (stepS k (x :: l, false, false)).2).2.2.1 = false := hc.2.1
      have h0 : (runS ks (stepS k (x :: l, false, false)).2).2.2.2 = false := hc.1
      obtain ⟨r, b, c, e⟩ : ∃ r b c, (stepS k (x :: l, false, false)).2 = (r, b, c) := ⟨_, _, _, rfl⟩
      have h2 := stepS_no (r := l) hf
      rw [e] at h0 h1 h2
      simp only at h2
      rcases h2 with h2 | h2
      · subst h2
        rw [runS_bad] at h1
        cases h1
      · subst h2
        rw [runS_bad2] at h0
        cases h0
theorem ofS_eq (x : Tv) : ofS x = if msgR x = true then some (ptsOf (shapeS x.tag) x.l) else none := by
  unfold ofS msgR
  by_cases hk : x.kind = 2
  · by_cases he : (shapeS x.tag).isEmpty = false
    · by_cases hf : fitsK (shapeS x.tag) x.l = true
      · rw [runS_fits _ _ hf, if_pos ⟨hk, he, rfl, rfl, rfl⟩, if_pos (by simp [hk, he, hf])]
      · simp at hf
        rw [if_neg (fun hc => runS_not _ _ hf ⟨hc.2.2.1, hc.2.2.2.1, hc.2.2.2.2⟩), if_neg (by simp [hf])]
    · rw [if_neg (fun hc => he hc.2.1), if_neg (by simp at he; simp [he])]
  · rw [if_neg (fun hc => hk hc.1), if_neg (by simp [hk])]
mutual
def Bw : Tv → Prop
  | .mk _ _ _ b l => b.length ≤ 140737488351232 ∧ BsW l
def BsW : List Tv → Prop
  | [] => True
  | x :: l => Bw x ∧ BsW l
end
theorem BsW.mem : ∀ {l : List Tv}, BsW l → ∀ x ∈ l, Bw x
  | [], _, x, hx => by simp at hx
  | y :: l, h, x, hx => by
    rcases List.mem_cons.1 hx with e | hx
    · rw [e]; exact h.1
    · exact h.2.mem x hx
theorem BsW.of : ∀ {l : List Tv}, (∀ x ∈ l, Bw x) → BsW l
  | [], _ => trivial
  | y :: l, h => ⟨h y (by simp), BsW.of (fun x hx => h x (by simp [hx]))⟩
mutual
def sizeT : Tv → Nat
  | .mk _ _ _ b l => 1 + b.length + sizesT l
def sizesT : List Tv → Nat
  | [] => 0
  | x :: l => sizeT x + sizesT l
end
theorem shortB_le8 (n : Nat) : (shortB n).length ≤ 8 := (shortB_few n).1
theorem headS_le (k t : Int) (n : Nat) : (headS k t n).length ≤ 10 := by
  unfold headS
  split
  · simp
  · have := shortB_le8 n
    simp
    omega
mutual
theorem writeS_le : ∀ x : Tv, (writeS x).length ≤ 18 * sizeT x
  | .mk k t n b l => by
    have h1 := writesS_le l
    have h2 := headS_le k t (bodyOf k n b (writesS l)).length
    have h3 := shortB_le8 n
    have h4 : (bodyOf k n b (writesS l)).length ≤ 8 + b.length + (writesS l).length := by
      unfold bodyOf
      split
      · omega
      · split <;> omega
    rw [writeS, List.length_append, sizeT]
    omega
theorem writesS_le : ∀ l : List Tv, (writesS l).length ≤ 18 * sizesT l
  | [] => by simp [writesS, sizesT]
  | x :: l => by
    have h1 := writeS_le x
    have h2 := writesS_le l
    rw [writesS, List.length_append, sizesT]
    omega
end
end Go.Proofs.Ytpjkidcfidmfaaa
namespace Go.Proofs.Ytpjkidcfidmfaaa
set_option linter.unusedSimpArgs false
set_option linter.unusedVariables false
theorem getN_shortR : ∀ (f n : Nat), 0 < f → n < 256 ^ f → getN (shortR f n) = n ∧ (1 ≤ n → (shortR f n).getD 0 0 ≠ 0) ∧ 0 < (shortR f n).length
  | 0, n, h, _ => by omega
  | f + 1, n, _, hn => by
    rw [shortR]
    by_cases h : n < 256
    · rw [if_pos h]
      refine ⟨?_, fun h1 => ?_, by simp⟩
      · show getN ([] ++ [UInt8.ofNat n]) = n
        rw [getN_snoc]
        have : (UInt8.ofNat n).toNat = n := by simp; omega
        rw [this]
        simp [getN]
      · simp
        intro e
        have := congrArg UInt8.toNat e
        simp at this
        omega
    · rw [if_neg h]
      have hf : 0 < f := by
        rcases Nat.eq_zero_or_pos f with e | e
        · subst e; omega
        · exact e
      have hq : n / 256 < 256 ^ f := by
        rw [Nat.pow_succ] at hn
        exact Nat.div_lt_of_lt_mul (by rw [Nat.mul_comm]; exact hn)
      obtain ⟨h1, h2, h3⟩ := getN_shortR f (n / 256) hf hq
      refine ⟨?_, fun _ => ?_, by simp⟩
      · rw [getN_snoc, h1]
        have : (UInt8.ofNat (n % 256)).toNat = n % 256 := by simp
        rw [this]
        omega
      · rw [List.getD_eq_getElem?_getD, List.getElem?_append_left h3, ← List.getD_eq_getElem?_getD]
        exact h2 (by omega)
theorem pow64 : (256 : Nat) ^ 8 = 18446744073709551616 := by decide
theorem getN_shortB (n : Nat) (hn : n < 18446744073709551616) : getN (shortB n) = n := by
  rw [shortB_eq n (by rw [pow64]; exact hn)]
  exact (getN_shortR 8 n (by decide) (by rw [pow64]; exact hn)).1
theorem shortB_first (n : Nat) (hn : n < 18446744073709551616) : ¬ (1 < (shortB n).length ∧ (shortB n).getD 0 0 = 0) := by
  rintro ⟨h1, h2⟩
  rw [shortB_eq n (by rw [pow64]; exact hn)] at h1 h2
  by_cases h : n < 256
  · rw [shortR, if_pos h] at h1
    simp at h1
  · exact (getN_shortR 8 n (by decide) (by rw [pow64]; exact hn)).2.1 (by omega) h2
theorem shortB_len (n : Nat) (hn : n < 65536) : (shortB n).length = if n < 256 then 1 else 2 := by
  rw [shortB_eq n (by rw [pow64]; omega), shortR]
  split
  · rfl
  · rw [shortR, if_pos (by omega)]
    rfl
theorem getD1_cons (x y : UInt8) (l : List UInt8) : (x :: y :: l).getD 1 0 = y := rfl
theorem size_of_head (k t : Int) (m : Nat) (rest : List UInt8) (hm : m ≤ 4096) (hr : m ≤ rest.length) : sizeS (headS k t m ++ rest) = (m, (headS k t m).length, 0) := by
  unfold headS
  by_cases h : m < 128
  · rw [if_pos h]
    generalize UInt8.ofNat (k * 64 + t).toNat = f
    have hc : (UInt8.ofNat m).toNat = m := by simp; omega
    simp only [List.cons_append, List.nil_append, sizeS, getD1_cons, List.length_cons, hc]
    rw [if_neg (by omega), if_pos h, if_neg (by omega)]
    rfl
  · rw [if_neg h]
    generalize UInt8.ofNat (k * 64 + t).toNat = f
    have hl := shortB_len m (by omega)
    have hg := getN_shortB m (by omega)
    generalize shortB m = s at hl hg
    have hs : s.length = 1 ∨ s.length = 2 := by rw [hl]; split <;> simp
    have hc : (UInt8.ofNat (128 + s.length)).toNat = 128 + s.length := by simp; omega
    have htake : ((f :: UInt8.ofNat (128 + s.length) :: (s ++ rest)).drop 2).take (128 + s.length - 128) = s := by
      simp only [List.drop_succ_cons, List.drop_zero]
      rw [show 128 + s.length - 128 = s.length by omega, List.take_left]
    simp only [List.cons_append, sizeS, getD1_cons, hc, htake, hg, List.length_cons, List.length_append]
    rw [if_neg (by omega), if_neg (by omega), if_neg (by omega), if_neg (by omega), if_neg (by
      rintro (h1 | ⟨h1, h2⟩)
      · omega
      · rw [if_pos h2] at hl; omega), if_neg (by omega)]
    rw [show 128 + s.length - 126 = s.length + 1 + 1 by omega]
theorem headS_first (k t : Int) (m : Nat) (rest : List UInt8) : (headS k t m ++ rest).getD 0 0 = UInt8.ofNat (k * 64 + t).toNat := by
  unfold headS
  split <;> rfl
theorem headS_pos (k t : Int) (m : Nat) : 2 ≤ (headS k t m).length := by
  unfold headS
  split <;> simp
theorem writeS_two (x : Tv) : 2 ≤ (writeS x).length := by
  rw [writeS_eq, List.length_append]
  have := headS_pos x.kind x.tag (bodyS x).length
  omega
theorem listS_write {d : Nat} (hd : ∀ x : Tv, rightS d x = true → Nw x → (writeS x).length ≤ 4096 → ∀ rest, readS d (writeS x ++ rest) = (x, (writeS x).length, 0)) :
    ∀ (l : List Tv) (f : Nat), (∀ x ∈ l, rightS d x = true ∧ Nw x) → (writesS l).length ≤ 4096 → (writesS l).length ≤ f → listS (readS d) f (writesS l) = (l, 0)
  | [], f, _, _, _ => listS_nil _ _
  | x :: l, f, h, hl, hf => by
    have h2 := writeS_two x
    rw [writesS, List.length_append] at hl hf
    obtain ⟨f, rfl⟩ : ∃ g, f = g + 1 := ⟨f - 1, by omega⟩
    have hx := hd x (h x (by simp)).1 (h x (by simp)).2 (by omega) (writesS l)
    have hne : writeS x ++ writesS l ≠ [] := by
      intro e
      have h3 := congrArg List.length e
      rw [List.length_append, List.length_nil] at h3
      omega
    rw [writesS, listS_ok hne hx, List.drop_left, listS_write hd l f (fun y hy => h y (by simp [hy])) (by omega) (by omega)]
theorem readS_write : ∀ (d : Nat) (x : Tv), rightS d x = true → Nw x → (writeS x).length ≤ 4096 → ∀ rest, readS d (writeS x ++ rest) = (x, (writeS x).length, 0)
  | 0, x, h, _, _, _ => by simp [rightS] at h
  | d + 1, .mk k t n b l, h, hn, hlen, rest => by
    have hw := writeS_eq (.mk k t n b l)
    simp only [Tv.kind, Tv.tag] at hw
    have hbody : bodyS (.mk k t n b l) = bodyOf k n b (writesS l) := rfl
    rw [rightS] at h
    simp only [Bool.and_eq_true, decide_eq_true_eq] at h
    obtain ⟨⟨ht0, ht1⟩, hkind⟩ := h
    have hbl : (bodyS (.mk k t n b l)).length ≤ 4096 := by rw [hw, List.length_append] at hlen; omega
    have hsz := size_of_head k t (bodyS (.mk k t n b l)).length (bodyS (.mk k t n b l) ++ rest) hbl (by simp)
    have hfirst := headS_first k t (bodyS (.mk k t n b l)).length (bodyS (.mk k t n b l) ++ rest)
    have htotal : (writeS (.mk k t n b l)).length = (headS k t (bodyS (.mk k t n b l)).length).length + (bodyS (.mk k t n b l)).length := by rw [hw, List.length_append]
    have hdrop : ((headS k t (bodyS (.mk k t n b l)).length ++ (bodyS (.mk k t n b l) ++ rest)).drop (headS k t (bodyS (.mk k t n b l)).length).length).take (bodyS (.mk k t n b l)).length = bodyS (.mk k t n b l) := by
      rw [List.drop_left, List.take_left]
    have hdrop0 : (headS k t (bodyS (.mk k t n b l)).length ++ (bodyS (.mk k t n b l) ++ rest)).drop (headS k t (bodyS (.mk k t n b l)).length).length = bodyS (.mk k t n b l) ++ rest := List.drop_left
    rw [htotal, hw, List.append_assoc, readS, hsz]
    simp only [hfirst, hdrop0, List.take_left]
    rw [if_neg (by decide)]
    generalize hbd : bodyS (.mk k t n b l) = bd at *
    split at hkind
    · rename_i hk
      subst hk
      simp only [Bool.and_eq_true, decide_eq_true_eq] at hkind
      obtain ⟨rfl, hl0⟩ := hkind
      obtain rfl := List.eq_nil_of_length_eq_zero hl0
      have hbs : bd = shortB n := by rw [hbody]; rfl
      have hf : (UInt8.ofNat ((0 : Int) * 64 + t).toNat).toNat = t.toNat := by simp; omega
      rw [hf, if_neg (by omega), if_pos (by omega)]
      have hfew := shortB_few n
      have hgb : getB bd = (n, true) := by
        unfold getB
        rw [hbs, if_neg (by omega), getN_shortB n hn.1]
      rw [hgb, if_neg (by
        rintro (h1 | ⟨h1, h2⟩)
        · simp at h1
        · refine shortB_first n hn.1 ⟨by rw [← hbs]; exact h1, ?_⟩
          have e3 : (bd ++ rest).getD 0 0 = (shortB n).getD 0 0 := by rw [List.getD_eq_getElem?_getD, List.getD_eq_getElem?_getD, List.getElem?_append_left (by omega), hbs]
          rw [← e3]
          exact h2), show ((t.toNat % 64 : Nat) : Int) = t by omega]
    · split at hkind
      · rename_i hk0 hk
        subst hk
        simp only [Bool.and_eq_true, decide_eq_true_eq] at hkind
        obtain ⟨rfl, hl0⟩ := hkind
        obtain rfl := List.eq_nil_of_length_eq_zero hl0
        have hbs : bd = b := by rw [hbody]; rfl
        have hf : (UInt8.ofNat ((1 : Int) * 64 + t).toNat).toNat = 64 + t.toNat := by simp; omega
        rw [hf, if_neg (by omega), if_neg (by omega), if_pos (by omega), hbs, show (((64 + t.toNat) % 64 : Nat) : Int) = t by omega]
      · split at hkind
        · rename_i hk0 hk1 hk
          subst hk
          simp only [Bool.and_eq_true, decide_eq_true_eq] at hkind
          obtain ⟨⟨hall, rfl⟩, rfl⟩ := hkind
          have hbs : bd = writesS l := by rw [hbody]; rfl
          have hf : (UInt8.ofNat ((2 : Int) * 64 + t).toNat).toNat = 128 + t.toNat := by simp; omega
          have hls := listS_write (fun x h1 h2 h3 => readS_write d x h1 h2 h3) l bd.length (fun x hx => ⟨List.all_eq_true.1 hall x hx, hn.2.mem x hx⟩) (by rw [← hbs]; exact hbl) (by rw [hbs]; exact Nat.le_refl _)
          rw [← hbs] at hls
          rw [hf, if_neg (by omega), if_neg (by omega), if_neg (by omega), hls]
          simp only [if_true]
          rw [show (((128 + t.toNat) % 64 : Nat) : Int) = t by omega]
        · simp at hkind
theorem wholeS_write {x : Tv} (h : rightS 8 x = true) (hn : Nw x) (hl : (writeS x).length ≤ 4096) : wholeS (writeS x) = (x, 0) := by
  have := readS_write 8 x h hn hl []
  rw [List.append_nil] at this
  unfold wholeS
  rw [if_neg (by omega), this]
  simp
theorem wrS_cases (x : Tv) : (wrS x = ([], 7) ∧ rightS 8 x = false) ∨ (wrS x = ([], 20) ∧ rightS 8 x = true ∧ 4096 < (writeS x).length) ∨ (wrS x = (writeS x, 0) ∧ rightS 8 x = true ∧ (writeS x).length ≤ 4096) := by
  unfold wrS
  by_cases h : rightS 8 x = false
  · rw [if_pos h]; exact .inl ⟨rfl, h⟩
  · have ht : rightS 8 x = true := by simpa using h
    rw [if_neg h]
    by_cases hl : 4096 < (writeS x).length
    · rw [if_pos hl]; exact .inr (.inl ⟨rfl, ht, hl⟩)
    · rw [if_neg hl]; exact .inr (.inr ⟨rfl, ht, by omega⟩)
end Go.Proofs.Ytpjkidcfidmfaaa
