/- Texts of this proof, one behind the other: MValC. -/
import Derived.Test.YtpjkidcfidmfaaaMwB7
import Derived.Deep.DeepCutAuto
namespace Go.Proofs.Ytpjkidcfidmfaaa
set_option linter.unusedSimpArgs false
set_option linter.unusedVariables false
open Go.RowKit
set_option maxHeartbeats 16000000 in
set_option maxRecDepth 100000 in
theorem msgValue_13 (F0 : Nat → Prop) (l1 : List UInt8) (x2 : Int) (x3 : Int) (t4 : Bool) (t5 : Bool) (l6 m6 : List UInt8) (v6 : Value) (l7 : List UInt8) (v7 : Value) (k8 : List (List UInt8 × List UInt8)) (v8 : Value) (w : World) (hz1 : l1.length ≤ 140737488355328) (hz2 : -9223372036854775808 ≤ x2 ∧ x2 ≤ 9223372036854775807) (hz3 : -9223372036854775808 ≤ x3 ∧ x3 ≤ 9223372036854775807) (hb6 : Bs w v6 m6) (hz6 : l6.length ≤ 140737488355328 ∧ m6.length ≤ 140737488355328) (hb7 : Bs w v7 l7) (hz7 : l7.length ≤ 140737488355328) (hb8 : TksV w F0 k8 v8) (hz8 : (∀ t ∈ k8, t.1.length ≤ 140737488355328 ∧ t.2.length ≤ 140737488355328) ∧ k8.length ≤ 1954687338211) :
    Calls Try.prog 10 #[.iface 59 (.agg #[.string (tx l1), .int .i64 x2, .int .i64 x3, .bool t4, .bool t5, .string (tx l6), v6, v7, v8])] w (VlRes w (.mk 2 13 0 [] ([.s l1, .n x2, .n x3, .t t4, .t t5, .i (l6, m6), .b l7, .x k8].map ptTv)) ([.s l1, .n x2, .n x3, .t t4, .t t5, .i (l6, m6), .b l7, .x k8].all ptB)) := by
  obtain ⟨a6, c6, rfl, hc6, hm6⟩ := hb6.form
  obtain ⟨a7, c7, rfl, hc7, hm7⟩ := hb7.form
  obtain ⟨rows8, hx8, hy8⟩ := hb8
  obtain ⟨a8, c8, rfl, hc8, hm8⟩ := hx8.form
  have HTKS : Hid (TksV w F0 k8 (.slice a8 k8.length c8)) := hqZ ⟨rows8, hx8, hy8⟩
  clear hx8 hy8
  have HC : Hid (VC w w.heap.size [(w.heap.size + 1, [.string (tx l1), .int .i64 x2, .int .i64 x3, .bool t4, .bool t5, .string (tx l6), .slice a6 m6.length c6, .slice a7 l7.length c7, .slice a8 k8.length c8], 59)] [] [(.slice a6 m6.length c6, m6), (.slice a7 l7.length c7, l7)] ((w.alloc (.cells zs5.toArray 38)).alloc (.cells [.string (tx l1), .int .i64 x2, .int .i64 x3, .bool t4, .bool t5, .string (tx l6), .slice a6 m6.length c6, .slice a7 l7.length c7, .slice a8 k8.length c8].toArray 59))) := hqZ (VC.start (by intro r hr; simp only [List.mem_cons, List.not_mem_nil, or_false] at hr; rcases hr with rfl | rfl; exact hb6; exact hb7) _ _)
  have HSZ : Hid (∀ u ∈ [tx l1], u.size ≤ maxLen) := hqZ (by intro u hu; simp only [List.mem_cons, List.not_mem_nil, or_false] at hu; rcases hu with rfl; exact szTx hz1)
  have HZ1 := hqZ hz1
  clear hz1
  have HZ2 := hqZ hz2
  clear hz2
  have HZ3 := hqZ hz3
  clear hz3
  have HZ6 := hqZ hz6
  clear hz6
  have HZ7 := hqZ hz7
  clear hz7
  have HZ8 := hqZ hz8
  clear hz8
  clear hb6
  clear hb7
  obtain ⟨z11, hta11⟩ := tan 54 59 (.agg #[.string (tx l1), .int .i64 x2, .int .i64 x3, .bool t4, .bool t5, .string (tx l6), .slice a6 m6.length c6, .slice a7 l7.length c7, .slice a8 k8.length c8]) zero_11 (by kernel_rfl) (by decide)
  obtain ⟨z12, hta12⟩ := tan 56 59 (.agg #[.string (tx l1), .int .i64 x2, .int .i64 x3, .bool t4, .bool t5, .string (tx l6), .slice a6 m6.length c6, .slice a7 l7.length c7, .slice a8 k8.length c8]) zero_12 (by kernel_rfl) (by decide)
  have hta : ∀ W, (Instr.typeAssert (.iface 59 (.agg #[.string (tx l1), .int .i64 x2, .int .i64 x3, .bool t4, .bool t5, .string (tx l6), .slice a6 m6.length c6, .slice a7 l7.length c7, .slice a8 k8.length c8])) 20 59 true).run Try.prog W = .ok (.tuple #[.agg #[.string (tx l1), .int .i64 x2, .int .i64 x3, .bool t4, .bool t5, .string (tx l6), .slice a6 m6.length c6, .slice a7 l7.length c7, .slice a8 k8.length c8], .bool true]) W := fun W => ta_is _ _ _ (by kernel_rfl) W
  obtain ⟨B, hB⟩ : ∃ B, B = [.s l1, .n x2, .n x3, .t t4, .t t5, .i (l6, m6), .b l7, .x k8].all ptB := ⟨_, rfl⟩
  obtain ⟨X, hX⟩ : ∃ X : Tv, X = .mk 2 13 0 [] ([.s l1, .n x2, .n x3, .t t4, .t t5, .i (l6, m6), .b l7, .x k8].map ptTv) := ⟨_, rfl⟩
  rw [← hB, ← hX]
  have HB := hqZ hB
  have HX2 := hqZ hX
  clear hB hX
  go_enter Try.func10, Try.ntmps10
  go_upto_region 11 with fail
  clear hta hta11 hta12
  show Code.wp _ _ _ _ ((w.alloc (.cells zs5.toArray 38)).alloc (.cells [.string (tx l1), .int .i64 x2, .int .i64 x3, .bool t4, .bool t5, .string (tx l6), .slice a6 m6.length c6, .slice a7 l7.length c7, .slice a8 k8.length c8].toArray 59))
  obtain ⟨W0, hW0⟩ : ∃ W0, W0 = (w.alloc (.cells zs5.toArray 38)).alloc (.cells [.string (tx l1), .int .i64 x2, .int .i64 x3, .bool t4, .bool t5, .string (tx l6), .slice a6 m6.length c6, .slice a7 l7.length c7, .slice a8 k8.length c8].toArray 59) := ⟨_, rfl⟩
  rw [← hW0] at HC ⊢
  clear hW0
  obtain ⟨p, hp⟩ : ∃ p, p = w.heap.size + 1 := ⟨_, rfl⟩
  obtain ⟨q, hq⟩ : ∃ q, q = w.heap.size := ⟨_, rfl⟩
  rw [← hp, ← hq] at HC ⊢
  clear hp hq
  have HTV1 := hqZ (tickValue_any (l6, m6) (.slice a6 m6.length c6) W0 (HC.out.rowAt 0 rfl) HZ6.out.1 HZ6.out.2)
  have HM1 := hqZ (HC.out.blkAt 0 rfl)
  rw [show rightB (tx (l6, m6).1) = rT (l6, m6) from rfl] at HTV1
  go_wp2_with ((with_reducible show wpList _ _ _ (⟨some 88, _, _, _, _, _⟩ :: _) _ _); refine wpList_ldAgg rfl (.tmp 87) aggTicket rfl rfl (cs := [.string (tx l6), .slice a6 m6.length c6]) rfl (HM1.out.cellsAt 5 2) ?_)
  refine HTV1.out.mono ?_
  rintro e wa1 ⟨cs1, rfl, htv, hb⟩
  have HCa1 := hqZ (HC.out.step hb)
  have HTT1 : Hid (TvF wa1 (fun b => q < b) (tkTv (l6, m6)) cs1) := hqZ (htv.mono (fun b hb => by have := HC.out.lt; omega))
  have HCL1 := hqZ htv.length
  have HCO1 := hqZ htv.one
  have HN1 := hqZ (Blk.new wa1 zs5 38)
  clear htv hb HTV1
  go_upto_region 12 with ((with_reducible show wpList _ _ _ (⟨none, .store _ (.tmp 9) (.tmp 91), _, _, _, _⟩ :: _) _ _); refine wpList_stAgg rfl (.tmp 9) (.tmp 91) aggDer rfl rfl (vs := cs1) rfl HCL1.out HN1.out (Nat.le_refl _) HCO1.out ?_)
  intro wb1 h2 k2
  have h2' : Blk wb1 wa1.heap.size cs1 38 := by
    rw [List.drop_of_length_le (by decide), List.append_nil] at h2
    exact h2
  have hb2 : Below wa1.heap.size wa1 wb1 := ((Below.refl _ _).alloc (Nat.le_refl _) _).trans (k2.below (by omega))
  have HCb1 := hqZ (((HCa1.out.addTree HTT1.out).step hb2).addBlk h2' HCa1.out.lt)
  obtain ⟨p1, hp1⟩ : ∃ p1, p1 = wa1.heap.size := ⟨_, rfl⟩
  rw [← hp1] at HCb1 ⊢
  clear h2 k2 h2' hb2 hp1 HCa1 HTT1 HN1 HCO1
  go_upto_region 12 with fail
  have hcx : wb1.cell? ⟨p, 8, none⟩ = some (.slice a8 k8.length c8) := (HCb1.out.blkAt 0 rfl).cell 8
  have HTV2 := hqZ (tickets_any k8 F0 (.slice a8 k8.length c8) wb1 (by obtain ⟨rows, h1, h2⟩ := HTKS.out; exact ⟨rows, h1.below HCb1.out.below, h2.below HCb1.out.below⟩) HZ8.out.1 HZ8.out.2)
  go_wp2_with fail
  refine HTV2.out.mono ?_
  rintro e wa2 ⟨cs2, rfl, htv, hb⟩
  have HCa2 := hqZ (HCb1.out.step hb)
  have HTT2 : Hid (TvF wa2 (fun b => q < b) (tksTv k8) cs2) := hqZ (htv.mono (fun b hb => by have := HCb1.out.lt; omega))
  have HCL2 := hqZ htv.length
  have HCO2 := hqZ htv.one
  have HN2 := hqZ (Blk.new wa2 zs5 38)
  clear htv hb HTV2 hcx
  go_upto_region 13 with ((with_reducible show wpList _ _ _ (⟨none, .store _ (.tmp 11) (.tmp 97), _, _, _, _⟩ :: _) _ _); refine wpList_stAgg rfl (.tmp 11) (.tmp 97) aggDer rfl rfl (vs := cs2) rfl HCL2.out HN2.out (Nat.le_refl _) HCO2.out ?_)
  intro wb2 h2 k2
  have h2' : Blk wb2 wa2.heap.size cs2 38 := by
    rw [List.drop_of_length_le (by decide), List.append_nil] at h2
    exact h2
  have hb2 : Below wa2.heap.size wa2 wb2 := ((Below.refl _ _).alloc (Nat.le_refl _) _).trans (k2.below (by omega))
  have HCb2 := hqZ (((HCa2.out.addTree HTT2.out).step hb2).addBlk h2' HCa2.out.lt)
  obtain ⟨p2, hp2⟩ : ∃ p2, p2 = wa2.heap.size := ⟨_, rfl⟩
  rw [← hp2] at HCb2 ⊢
  clear h2 k2 h2' hb2 hp2 HCa2 HTT2 HN2 HCO2
  go_upto_region 13 with fail
  cases hok10 : rT (l6, m6) with
  | false =>
    have HOK10 := hqZ hok10
    clear hok10
    generalize tksB k8 = bo12
    have HBE : Hid (B = false) := hqZ (by rw [HB.out]; simp only [List.all_cons, List.all_nil, ptB, HOK10.out, Bool.and_true, Bool.true_and, Bool.and_false, Bool.false_and, Bool.and_assoc])
    obtain ⟨wd, hwd⟩ : ∃ wd, wd = World.drew wb2 := ⟨_, rfl⟩
    have hvd : VC w q [(p, [.string (tx l1), .int .i64 x2, .int .i64 x3, .bool t4, .bool t5, .string (tx l6), .slice a6 m6.length c6, .slice a7 l7.length c7, .slice a8 k8.length c8], 59), (p1, cs1, 38), (p2, cs2, 38)] [(tkTv (l6, m6), cs1), (tksTv k8, cs2)] [(.slice a6 m6.length c6, m6), (.slice a7 l7.length c7, l7)] wd := by rw [hwd]; exact HCb2.out.drew
    have HXE : Hid (X = .mk 2 13 0 [] [.mk 1 0 0 l1 [], .mk 0 0 (numU x2) [] [], .mk 0 0 (numU x3) [] [], .mk 0 0 (if t4 then 1 else 0) [] [], .mk 0 0 (if t5 then 1 else 0) [] [], tkTv (l6, m6), .mk 1 0 0 l7 [], tksTv k8]) := hqZ HX2.out
    have HR : Hid (∀ W, GV (fun b => q < b) q X wd W → VR w q [(p, [.string (tx l1), .int .i64 x2, .int .i64 x3, .bool t4, .bool t5, .string (tx l6), .slice a6 m6.length c6, .slice a7 l7.length c7, .slice a8 k8.length c8], 59), (p1, cs1, 38), (p2, cs2, 38)] [(tkTv (l6, m6), cs1), (tksTv k8, cs2)] [(.slice a6 m6.length c6, m6), (.slice a7 l7.length c7, l7)] W) := hqZ (fun W h => hvd.gv h)
    have HZD : Hid (∀ W, GV (fun b => q < b) q X wd W → q < W.heap.size ∧ ∀ b, W.heap.size ≤ b → q < b) := hqZ (fun W h => ⟨(HR.out W h).lt, fun b hb => Nat.lt_of_lt_of_le (HR.out W h).lt hb⟩)
    have HFq : Hid (¬ (fun b => q < b) q) := hqZ (Nat.lt_irrefl q)
    have HQW : Hid (w.heap.size = q) := hqZ hvd.hq.symm
    clear hvd HCb2
    refine wp_region_held (S := fun W => GV (fun b => q < b) q X wd W) (by kernel_rfl) ?_
    change wpAnyH _ _ _ _ _ _ _ _ (World.drew _)
    rw [← hwd]
    clear hwd
    refine tkH 0 99 none (.pointer (some ⟨p, 0, none⟩)) rfl (by kernel_rfl) (fun _ _ _ h => h) (by rfl) (by intro W hW; go_simp) (GV.refl _ _ _ _) ?_
    simp only [Act.put, zq1, zq2, zq3]
    refine tkH 1 100 none (.string (tx l1)) rfl (by kernel_rfl) (fun _ _ _ h => h) (by rfl) (by intro W hW; have hc : W.cell? ⟨p, 0, none⟩ = some (.string (tx l1)) := ((HR.out W hW).blkAt 0 rfl).cell 0; go_simp) (GV.refl _ _ _ _) ?_
    simp only [Act.put, zq1, zq2, zq3]
    refine tkH 3 102 none (.pointer (some ⟨p, 1, none⟩)) rfl (by kernel_rfl) (fun _ _ _ h => h) (by rfl) (by intro W hW; go_simp) (GV.refl _ _ _ _) ?_
    simp only [Act.put, zq1, zq2, zq3]
    refine tkH 4 103 none (.int .i64 x2) rfl (by kernel_rfl) (fun _ _ _ h => h) (by rfl) (by intro W hW; have hc : W.cell? ⟨p, 1, none⟩ = some (.int .i64 x2) := ((HR.out W hW).blkAt 0 rfl).cell 1; go_simp) (GV.refl _ _ _ _) ?_
    simp only [Act.put, zq1, zq2, zq3]
    refine tkH 6 105 none (.pointer (some ⟨p, 2, none⟩)) rfl (by kernel_rfl) (fun _ _ _ h => h) (by rfl) (by intro W hW; go_simp) (GV.refl _ _ _ _) ?_
    simp only [Act.put, zq1, zq2, zq3]
    refine tkH 7 106 none (.int .i64 x3) rfl (by kernel_rfl) (fun _ _ _ h => h) (by rfl) (by intro W hW; have hc : W.cell? ⟨p, 2, none⟩ = some (.int .i64 x3) := ((HR.out W hW).blkAt 0 rfl).cell 2; go_simp) (GV.refl _ _ _ _) ?_
    simp only [Act.put, zq1, zq2, zq3]
    refine tkH 9 108 none (.pointer (some ⟨p, 3, none⟩)) rfl (by kernel_rfl) (fun _ _ _ h => h) (by rfl) (by intro W hW; go_simp) (GV.refl _ _ _ _) ?_
    simp only [Act.put, zq1, zq2, zq3]
    refine tkH 10 109 none (.bool t4) rfl (by kernel_rfl) (fun _ _ _ h => h) (by rfl) (by intro W hW; have hc : W.cell? ⟨p, 3, none⟩ = some (.bool t4) := ((HR.out W hW).blkAt 0 rfl).cell 3; go_simp) (GV.refl _ _ _ _) ?_
    simp only [Act.put, zq1, zq2, zq3]
    refine tkH 12 111 none (.pointer (some ⟨p, 4, none⟩)) rfl (by kernel_rfl) (fun _ _ _ h => h) (by rfl) (by intro W hW; go_simp) (GV.refl _ _ _ _) ?_
    simp only [Act.put, zq1, zq2, zq3]
    refine tkH 13 112 none (.bool t5) rfl (by kernel_rfl) (fun _ _ _ h => h) (by rfl) (by intro W hW; have hc : W.cell? ⟨p, 4, none⟩ = some (.bool t5) := ((HR.out W hW).blkAt 0 rfl).cell 4; go_simp) (GV.refl _ _ _ _) ?_
    simp only [Act.put, zq1, zq2, zq3]
    refine tkH 15 114 none (.agg cs1.toArray) rfl (by kernel_rfl) (fun _ _ _ h => h) (by rfl) (by intro W hW; exact exec_ldAgg rfl aggDer rfl HCL1.out ((HR.out W hW).blkAt 1 rfl).cellsAll) (GV.refl _ _ _ _) ?_
    simp only [Act.put, zq1, zq2, zq3]
    refine tkH 16 115 none (.pointer (some ⟨p, 7, none⟩)) rfl (by kernel_rfl) (fun _ _ _ h => h) (by rfl) (by intro W hW; go_simp) (GV.refl _ _ _ _) ?_
    simp only [Act.put, zq1, zq2, zq3]
    refine tkH 17 116 none (.slice a7 l7.length c7) rfl (by kernel_rfl) (fun _ _ _ h => h) (by rfl) (by intro W hW; have hc : W.cell? ⟨p, 7, none⟩ = some (.slice a7 l7.length c7) := ((HR.out W hW).blkAt 0 rfl).cell 7; go_simp) (GV.refl _ _ _ _) ?_
    simp only [Act.put, zq1, zq2, zq3]
    refine tkH 19 118 none (.agg cs2.toArray) rfl (by kernel_rfl) (fun _ _ _ h => h) (by rfl) (by intro W hW; exact exec_ldAgg rfl aggDer rfl HCL2.out ((HR.out W hW).blkAt 2 rfl).cellsAll) (GV.refl _ _ _ _) ?_
    simp only [Act.put, zq1, zq2, zq3]
    refine tkH 22 121 none (.bool false) rfl (by kernel_rfl) (fun _ _ _ h => h) (by rfl) (by intro W hW; go_simp) (GV.refl _ _ _ _) ?_
    simp only [Act.put, zq1, zq2, zq3]
    refine anyH_steps (G := GV (fun b => q < b) q X) (Post := postV (fun b => q < b) q X [.any, .any, .val (.mk 1 0 0 l1 []), .any, .any, .val (.mk 0 0 (numU x2) [] []), .any, .any, .val (.mk 0 0 (numU x3) [] []), .any, .any, .val (.mk 0 0 (if t4 then 1 else 0) [] []), .any, .any, .val (.mk 0 0 (if t5 then 1 else 0) [] []), .any, .any, .any, .val (.mk 1 0 0 l7 []), .any, .vals [.mk 1 0 0 l1 [], .mk 0 0 (numU x2) [] [], .mk 0 0 (numU x3) [] [], .mk 0 0 (if t4 then 1 else 0) [] [], .mk 0 0 (if t5 then 1 else 0) [] [], tkTv (l6, m6), .mk 1 0 0 l7 [], tksTv k8], .val (.mk 2 13 0 [] [.mk 1 0 0 l1 [], .mk 0 0 (numU x2) [] [], .mk 0 0 (numU x3) [] [], .mk 0 0 (if t4 then 1 else 0) [] [], .mk 0 0 (if t5 then 1 else 0) [] [], tkTv (l6, m6), .mk 1 0 0 l7 [], tksTv k8]), .any, .is (.bool false), .any, .is (.bool false), .is (.bool false), .any, .any, .any, .any, .any, .any, .any, .any, .any, .is (.bool false), .fin, .is (.bool false)]) (ds := [101, 104, 107, 110, 113, 117, 119, 120, 122, 123, 124, 125, 126, 127, 128, 129, 130, 131, 132, 133, 134, 135, 3]) (GV.refl _ _ _) GV.trans (fun W W' h g => GV.trans _ _ _ h g) (fun i v W W' h g => PK.stable HFq.out h g) [2, 5, 8, 11, 14, 18, 20, 21, 23, 24, 25, 26, 27, 28, 29, 30, 31, 32, 33, 34, 35, 36, 37, 38] 397 rfl (by decide +kernel) (by decide +kernel) ?_ ?_ (GV.refl _ _ _ _) (by decide +kernel)
    · refine AllSteps.cons (o := { dst := some 101, op := .call { callee := .value (.func 26), args := #[.tmp 100], argTypes := #[9] }, type := _, pos := _, after := _, guard := none }) rfl (fun a W hf hS hd K hK => ?_) ?_
      · have e100 : a.eval (.tmp 100) = .string (tx l1) := hf.lit 100 (by decide) rfl
        exact stepV_mk (wanted_none rfl) rfl enters_mtext (vs := #[.string (tx l1)]) (by simp [e100]) (mtext_any l1 W HZ1.out) (HZD.out W hS).1 (HZD.out W hS).2 hK
      refine AllSteps.cons (o := { dst := some 104, op := .call { callee := .value (.func 27), args := #[.tmp 103], argTypes := #[2] }, type := _, pos := _, after := _, guard := none }) rfl (fun a W hf hS hd K hK => ?_) ?_
      · have e103 : a.eval (.tmp 103) = .int .i64 x2 := hf.lit 103 (by decide) rfl
        exact stepV_mk (wanted_none rfl) rfl enters_mnum (vs := #[.int .i64 x2]) (by simp [e103]) (mnumI_any x2 W HZ2.out.1 HZ2.out.2) (HZD.out W hS).1 (HZD.out W hS).2 hK
      refine AllSteps.cons (o := { dst := some 107, op := .call { callee := .value (.func 27), args := #[.tmp 106], argTypes := #[2] }, type := _, pos := _, after := _, guard := none }) rfl (fun a W hf hS hd K hK => ?_) ?_
      · have e106 : a.eval (.tmp 106) = .int .i64 x3 := hf.lit 106 (by decide) rfl
        exact stepV_mk (wanted_none rfl) rfl enters_mnum (vs := #[.int .i64 x3]) (by simp [e106]) (mnumI_any x3 W HZ3.out.1 HZ3.out.2) (HZD.out W hS).1 (HZD.out W hS).2 hK
      refine AllSteps.cons (o := { dst := some 110, op := .call { callee := .value (.func 32), args := #[.tmp 109], argTypes := #[4] }, type := _, pos := _, after := _, guard := none }) rfl (fun a W hf hS hd K hK => ?_) ?_
      · have e109 : a.eval (.tmp 109) = .bool t4 := hf.lit 109 (by decide) rfl
        exact stepV_mk (wanted_none rfl) rfl enters_mtruth (vs := #[.bool t4]) (by simp [e109]) (mtruth_any t4 W) (HZD.out W hS).1 (HZD.out W hS).2 hK
      refine AllSteps.cons (o := { dst := some 113, op := .call { callee := .value (.func 32), args := #[.tmp 112], argTypes := #[4] }, type := _, pos := _, after := _, guard := none }) rfl (fun a W hf hS hd K hK => ?_) ?_
      · have e112 : a.eval (.tmp 112) = .bool t5 := hf.lit 112 (by decide) rfl
        exact stepV_mk (wanted_none rfl) rfl enters_mtruth (vs := #[.bool t5]) (by simp [e112]) (mtruth_any t5 W) (HZD.out W hS).1 (HZD.out W hS).2 hK
      refine AllSteps.cons (o := { dst := some 117, op := .call { callee := .value (.func 28), args := #[.tmp 116], argTypes := #[22] }, type := _, pos := _, after := _, guard := none }) rfl (fun a W hf hS hd K hK => ?_) ?_
      · have e116 : a.eval (.tmp 116) = .slice a7 l7.length c7 := hf.lit 116 (by decide) rfl
        exact stepV_mk (wanted_none rfl) rfl enters_raw (vs := #[.slice a7 l7.length c7]) (by simp [e116]) (rawNew_any _ l7 W ((HR.out W hS).rowAt 1 rfl) HZ7.out) (HZD.out W hS).1 (HZD.out W hS).2 hK
      refine AllSteps.cons (o := { dst := some 119, op := .buildSlice 36 8 #[(0, .tmp 101), (1, .tmp 104), (2, .tmp 107), (3, .tmp 110), (4, .tmp 113), (5, .tmp 114), (6, .tmp 117), (7, .tmp 118)], type := _, pos := _, after := _, guard := none }) rfl (fun a W hf hS hd K hK => ?_) ?_
      · have d101 := (hd 2 (by decide +kernel)).get (s := 101) rfl
        have d104 := (hd 5 (by decide +kernel)).get (s := 104) rfl
        have d107 := (hd 8 (by decide +kernel)).get (s := 107) rfl
        have d110 := (hd 11 (by decide +kernel)).get (s := 110) rfl
        have d113 := (hd 14 (by decide +kernel)).get (s := 113) rfl
        have e114 : a.eval (.tmp 114) = .agg cs1.toArray := hf.lit 114 (by decide) rfl
        have d117 := (hd 18 (by decide +kernel)).get (s := 117) rfl
        have e118 : a.eval (.tmp 118) = .agg cs2.toArray := hf.lit 118 (by decide) rfl
        exact stepV_vals (wanted_none rfl) rfl elDer (ps := [.tmp 101, .tmp 104, .tmp 107, .tmp 110, .tmp 113, .tmp 114, .tmp 117, .tmp 118]) rfl (l := [.mk 1 0 0 l1 [], .mk 0 0 (numU x2) [] [], .mk 0 0 (numU x3) [] [], .mk 0 0 (if t4 then 1 else 0) [] [], .mk 0 0 (if t5 then 1 else 0) [] [], tkTv (l6, m6), .mk 1 0 0 l7 [], tksTv k8]) ⟨d101, d104, d107, d110, d113, ⟨_, e114, (HR.out W hS).treeAt 0 rfl⟩, d117, ⟨_, e118, (HR.out W hS).treeAt 1 rfl⟩, trivial⟩ rfl (by decide) (by decide) (HZD.out W hS).1 (HZD.out W hS).2 hK
      refine AllSteps.cons (o := { dst := some 120, op := .call { callee := .value (.func 25), args := #[.const (.int .i64 13), .tmp 119], argTypes := #[3, 36] }, type := _, pos := _, after := _, guard := none }) rfl (fun a W hf hS hd K hK => ?_) ?_
      · have d119 := (hd 20 (by decide +kernel)).get (s := 119) rfl
        exact stepV_seq (wanted_none rfl) rfl enters_seq d119 (HZD.out W hS).1 (fun v w1 h1 h2 => hK v w1 h1 h2) HFq.out
      refine AllSteps.cons (o := { dst := some 122, op := .move (.tmp 121), type := _, pos := _, after := _, guard := none }) rfl (fun a W hf hS hd K hK => ?_) ?_
      · have e121 : a.eval (.tmp 121) = .bool false := hf.lit 121 (by decide) rfl
        exact step_val (v := .bool false) (wanted_none rfl) (exec_move rfl e121) (hK _ _ (GV.refl _ _ _ _) rfl)
      refine AllSteps.cons (o := { dst := some 123, op := .move (.tmp 12), type := _, pos := _, after := _, guard := some (23, true) }) rfl (fun a W hf hS hd K hK => ?_) ?_
      · have e122 : a.eval (.tmp 122) = .bool false := (hd 23 (by decide +kernel)).get (s := 122) rfl
        exact step_skip (wanted_no rfl rfl e122 rfl) (hK _ _ (GV.refl _ _ _ _) trivial)
      refine AllSteps.cons (o := { dst := some 124, op := .pick (.tmp 122) (.tmp 123) (.const (.bool false)), type := _, pos := _, after := _, guard := none }) rfl (fun a W hf hS hd K hK => ?_) ?_
      · have e122 : a.eval (.tmp 122) = .bool false := (hd 23 (by decide +kernel)).get (s := 122) rfl
        exact step_val (v := .bool false) (wanted_none rfl) (exec_pickF rfl e122 rfl) (hK _ _ (GV.refl _ _ _ _) rfl)
      refine AllSteps.cons (o := { dst := some 125, op := .move (.tmp 124), type := _, pos := _, after := _, guard := none }) rfl (fun a W hf hS hd K hK => ?_) ?_
      · have e124 : a.eval (.tmp 124) = .bool false := (hd 25 (by decide +kernel)).get (s := 124) rfl
        exact step_val (v := .bool false) (wanted_none rfl) (exec_move rfl e124) (hK _ _ (GV.refl _ _ _ _) rfl)
      refine AllSteps.cons (o := { dst := some 126, op := .fieldAddr 59 (.tmp 8) 0, type := _, pos := _, after := _, guard := some (26, true) }) rfl (fun a W hf hS hd K hK => ?_) ?_
      · have e125 : a.eval (.tmp 125) = .bool false := (hd 26 (by decide +kernel)).get (s := 125) rfl
        exact step_skip (wanted_no rfl rfl e125 rfl) (hK _ _ (GV.refl _ _ _ _) trivial)
      refine AllSteps.cons (o := { dst := some 127, op := .load 9 (.tmp 126), type := _, pos := _, after := _, guard := some (26, true) }) rfl (fun a W hf hS hd K hK => ?_) ?_
      · have e125 : a.eval (.tmp 125) = .bool false := (hd 26 (by decide +kernel)).get (s := 125) rfl
        exact step_skip (wanted_no rfl rfl e125 rfl) (hK _ _ (GV.refl _ _ _ _) trivial)
      refine AllSteps.cons (o := { dst := some 128, op := .buildSlice 93 1 #[(0, .tmp 127)], type := _, pos := _, after := _, guard := some (26, true) }) rfl (fun a W hf hS hd K hK => ?_) ?_
      · have e125 : a.eval (.tmp 125) = .bool false := (hd 26 (by decide +kernel)).get (s := 125) rfl
        exact step_skip (wanted_no rfl rfl e125 rfl) (hK _ _ (GV.refl _ _ _ _) trivial)
      refine AllSteps.cons (o := { dst := some 129, op := .fieldAddr 59 (.tmp 8) 1, type := _, pos := _, after := _, guard := some (26, true) }) rfl (fun a W hf hS hd K hK => ?_) ?_
      · have e125 : a.eval (.tmp 125) = .bool false := (hd 26 (by decide +kernel)).get (s := 125) rfl
        exact step_skip (wanted_no rfl rfl e125 rfl) (hK _ _ (GV.refl _ _ _ _) trivial)
      refine AllSteps.cons (o := { dst := some 130, op := .load 2 (.tmp 129), type := _, pos := _, after := _, guard := some (26, true) }) rfl (fun a W hf hS hd K hK => ?_) ?_
      · have e125 : a.eval (.tmp 125) = .bool false := (hd 26 (by decide +kernel)).get (s := 125) rfl
        exact step_skip (wanted_no rfl rfl e125 rfl) (hK _ _ (GV.refl _ _ _ _) trivial)
      refine AllSteps.cons (o := { dst := some 131, op := .fieldAddr 59 (.tmp 8) 2, type := _, pos := _, after := _, guard := some (26, true) }) rfl (fun a W hf hS hd K hK => ?_) ?_
      · have e125 : a.eval (.tmp 125) = .bool false := (hd 26 (by decide +kernel)).get (s := 125) rfl
        exact step_skip (wanted_no rfl rfl e125 rfl) (hK _ _ (GV.refl _ _ _ _) trivial)
      refine AllSteps.cons (o := { dst := some 132, op := .load 2 (.tmp 131), type := _, pos := _, after := _, guard := some (26, true) }) rfl (fun a W hf hS hd K hK => ?_) ?_
      · have e125 : a.eval (.tmp 125) = .bool false := (hd 26 (by decide +kernel)).get (s := 125) rfl
        exact step_skip (wanted_no rfl rfl e125 rfl) (hK _ _ (GV.refl _ _ _ _) trivial)
      refine AllSteps.cons (o := { dst := some 133, op := .buildSlice 116 2 #[(0, .tmp 130), (1, .tmp 132)], type := _, pos := _, after := _, guard := some (26, true) }) rfl (fun a W hf hS hd K hK => ?_) ?_
      · have e125 : a.eval (.tmp 125) = .bool false := (hd 26 (by decide +kernel)).get (s := 125) rfl
        exact step_skip (wanted_no rfl rfl e125 rfl) (hK _ _ (GV.refl _ _ _ _) trivial)
      refine AllSteps.cons (o := { dst := some 134, op := .call { callee := .value (.func 29), args := #[.tmp 128, .tmp 133], argTypes := #[93, 116] }, type := _, pos := _, after := _, guard := some (26, true) }) rfl (fun a W hf hS hd K hK => ?_) ?_
      · have e125 : a.eval (.tmp 125) = .bool false := (hd 26 (by decide +kernel)).get (s := 125) rfl
        exact step_skip (wanted_no rfl rfl e125 rfl) (hK _ _ (GV.refl _ _ _ _) trivial)
      refine AllSteps.cons (o := { dst := some 135, op := .pick (.tmp 125) (.tmp 134) (.const (.bool false)), type := _, pos := _, after := _, guard := none }) rfl (fun a W hf hS hd K hK => ?_) ?_
      · have e125 : a.eval (.tmp 125) = .bool false := (hd 26 (by decide +kernel)).get (s := 125) rfl
        exact step_val (v := .bool false) (wanted_none rfl) (exec_pickF rfl e125 rfl) (hK _ _ (GV.refl _ _ _ _) rfl)
      refine AllSteps.cons (o := { dst := none, op := .store 38 (.tmp 2) (.tmp 120), type := _, pos := _, after := _, guard := none }) rfl (fun a W hf hS hd K hK => ?_) ?_
      · have e2 : a.eval (.tmp 2) = .pointer (some ⟨q, 0, none⟩) := hf.lit 2 (by decide) rfl
        have d120 := (hd 21 (by decide +kernel)).get (s := 120) rfl
        obtain ⟨cur, hc1, hc2⟩ := (HR.out W hS).len
        rw [← HXE.out] at d120
        exact stepV_fin (wanted_none rfl) rfl e2 d120 hc1 hc2 HFq.out hK
      refine AllSteps.cons (o := { dst := some 3, op := .assign (.tmp 135), type := _, pos := _, after := _, guard := none }) rfl (fun a W hf hS hd K hK => ?_) ?_
      · have e135 : a.eval (.tmp 135) = .bool false := (hd 36 (by decide +kernel)).get (s := 135) rfl
        exact step_val (wanted_none rfl) (exec_asg rfl rfl) (hK _ _ (GV.refl _ _ _ _) e135)
      exact AllSteps.nil
    · intro a W hf hS hp
      have h3 := (hp 38 (by decide)).get (s := 3) rfl
      obtain ⟨v, cs, h5, h6⟩ := (hp 37 (by decide)).fin
      have e2 : a.eval (.tmp 2) = .pointer (some ⟨q, 0, none⟩) := hf.lit 2 (by decide) rfl
      go_wp2_with fail
      refine bodyPost_ret (results_agg_tmp rfl aggDer (show a.tmps.getD 2 undef = _ from e2) h6.length h5.cellsAll) hf.defers ⟨cs, ?_, ?_, (HR.out W hS).below⟩
      · rw [HBE.out, show a.tmps.getD 3 undef = .bool false from h3]
      · exact h6.mono (fun b hb => by have := HQW.out; omega)
  | true =>
    have HOK10 := hqZ hok10
    clear hok10
    cases hok12 : tksB k8 with
    | false =>
      have HOK12 := hqZ hok12
      clear hok12
      have HBE : Hid (B = false) := hqZ (by rw [HB.out]; simp only [List.all_cons, List.all_nil, ptB, HOK10.out, HOK12.out, Bool.and_true, Bool.true_and, Bool.and_false, Bool.false_and, Bool.and_assoc])
      obtain ⟨wd, hwd⟩ : ∃ wd, wd = World.drew wb2 := ⟨_, rfl⟩
      have hvd : VC w q [(p, [.string (tx l1), .int .i64 x2, .int .i64 x3, .bool t4, .bool t5, .string (tx l6), .slice a6 m6.length c6, .slice a7 l7.length c7, .slice a8 k8.length c8], 59), (p1, cs1, 38), (p2, cs2, 38)] [(tkTv (l6, m6), cs1), (tksTv k8, cs2)] [(.slice a6 m6.length c6, m6), (.slice a7 l7.length c7, l7)] wd := by rw [hwd]; exact HCb2.out.drew
      have HXE : Hid (X = .mk 2 13 0 [] [.mk 1 0 0 l1 [], .mk 0 0 (numU x2) [] [], .mk 0 0 (numU x3) [] [], .mk 0 0 (if t4 then 1 else 0) [] [], .mk 0 0 (if t5 then 1 else 0) [] [], tkTv (l6, m6), .mk 1 0 0 l7 [], tksTv k8]) := hqZ HX2.out
      have HR : Hid (∀ W, GV (fun b => q < b) q X wd W → VR w q [(p, [.string (tx l1), .int .i64 x2, .int .i64 x3, .bool t4, .bool t5, .string (tx l6), .slice a6 m6.length c6, .slice a7 l7.length c7, .slice a8 k8.length c8], 59), (p1, cs1, 38), (p2, cs2, 38)] [(tkTv (l6, m6), cs1), (tksTv k8, cs2)] [(.slice a6 m6.length c6, m6), (.slice a7 l7.length c7, l7)] W) := hqZ (fun W h => hvd.gv h)
      have HZD : Hid (∀ W, GV (fun b => q < b) q X wd W → q < W.heap.size ∧ ∀ b, W.heap.size ≤ b → q < b) := hqZ (fun W h => ⟨(HR.out W h).lt, fun b hb => Nat.lt_of_lt_of_le (HR.out W h).lt hb⟩)
      have HFq : Hid (¬ (fun b => q < b) q) := hqZ (Nat.lt_irrefl q)
      have HQW : Hid (w.heap.size = q) := hqZ hvd.hq.symm
      clear hvd HCb2
      refine wp_region_held (S := fun W => GV (fun b => q < b) q X wd W) (by kernel_rfl) ?_
      change wpAnyH _ _ _ _ _ _ _ _ (World.drew _)
      rw [← hwd]
      clear hwd
      refine tkH 0 99 none (.pointer (some ⟨p, 0, none⟩)) rfl (by kernel_rfl) (fun _ _ _ h => h) (by rfl) (by intro W hW; go_simp) (GV.refl _ _ _ _) ?_
      simp only [Act.put, zq1, zq2, zq3]
      refine tkH 1 100 none (.string (tx l1)) rfl (by kernel_rfl) (fun _ _ _ h => h) (by rfl) (by intro W hW; have hc : W.cell? ⟨p, 0, none⟩ = some (.string (tx l1)) := ((HR.out W hW).blkAt 0 rfl).cell 0; go_simp) (GV.refl _ _ _ _) ?_
      simp only [Act.put, zq1, zq2, zq3]
      refine tkH 3 102 none (.pointer (some ⟨p, 1, none⟩)) rfl (by kernel_rfl) (fun _ _ _ h => h) (by rfl) (by intro W hW; go_simp) (GV.refl _ _ _ _) ?_
      simp only [Act.put, zq1, zq2, zq3]
      refine tkH 4 103 none (.int .i64 x2) rfl (by kernel_rfl) (fun _ _ _ h => h) (by rfl) (by intro W hW; have hc : W.cell? ⟨p, 1, none⟩ = some (.int .i64 x2) := ((HR.out W hW).blkAt 0 rfl).cell 1; go_simp) (GV.refl _ _ _ _) ?_
      simp only [Act.put, zq1, zq2, zq3]
      refine tkH 6 105 none (.pointer (some ⟨p, 2, none⟩)) rfl (by kernel_rfl) (fun _ _ _ h => h) (by rfl) (by intro W hW; go_simp) (GV.refl _ _ _ _) ?_
      simp only [Act.put, zq1, zq2, zq3]
      refine tkH 7 106 none (.int .i64 x3) rfl (by kernel_rfl) (fun _ _ _ h => h) (by rfl) (by intro W hW; have hc : W.cell? ⟨p, 2, none⟩ = some (.int .i64 x3) := ((HR.out W hW).blkAt 0 rfl).cell 2; go_simp) (GV.refl _ _ _ _) ?_
      simp only [Act.put, zq1, zq2, zq3]
      refine tkH 9 108 none (.pointer (some ⟨p, 3, none⟩)) rfl (by kernel_rfl) (fun _ _ _ h => h) (by rfl) (by intro W hW; go_simp) (GV.refl _ _ _ _) ?_
      simp only [Act.put, zq1, zq2, zq3]
      refine tkH 10 109 none (.bool t4) rfl (by kernel_rfl) (fun _ _ _ h => h) (by rfl) (by intro W hW; have hc : W.cell? ⟨p, 3, none⟩ = some (.bool t4) := ((HR.out W hW).blkAt 0 rfl).cell 3; go_simp) (GV.refl _ _ _ _) ?_
      simp only [Act.put, zq1, zq2, zq3]
      refine tkH 12 111 none (.pointer (some ⟨p, 4, none⟩)) rfl (by kernel_rfl) (fun _ _ _ h => h) (by rfl) (by intro W hW; go_simp) (GV.refl _ _ _ _) ?_
      simp only [Act.put, zq1, zq2, zq3]
      refine tkH 13 112 none (.bool t5) rfl (by kernel_rfl) (fun _ _ _ h => h) (by rfl) (by intro W hW; have hc : W.cell? ⟨p, 4, none⟩ = some (.bool t5) := ((HR.out W hW).blkAt 0 rfl).cell 4; go_simp) (GV.refl _ _ _ _) ?_
      simp only [Act.put, zq1, zq2, zq3]
      refine tkH 15 114 none (.agg cs1.toArray) rfl (by kernel_rfl) (fun _ _ _ h => h) (by rfl) (by intro W hW; exact exec_ldAgg rfl aggDer rfl HCL1.out ((HR.out W hW).blkAt 1 rfl).cellsAll) (GV.refl _ _ _ _) ?_
      simp only [Act.put, zq1, zq2, zq3]
      refine tkH 16 115 none (.pointer (some ⟨p, 7, none⟩)) rfl (by kernel_rfl) (fun _ _ _ h => h) (by rfl) (by intro W hW; go_simp) (GV.refl _ _ _ _) ?_
      simp only [Act.put, zq1, zq2, zq3]
      refine tkH 17 116 none (.slice a7 l7.length c7) rfl (by kernel_rfl) (fun _ _ _ h => h) (by rfl) (by intro W hW; have hc : W.cell? ⟨p, 7, none⟩ = some (.slice a7 l7.length c7) := ((HR.out W hW).blkAt 0 rfl).cell 7; go_simp) (GV.refl _ _ _ _) ?_
      simp only [Act.put, zq1, zq2, zq3]
      refine tkH 19 118 none (.agg cs2.toArray) rfl (by kernel_rfl) (fun _ _ _ h => h) (by rfl) (by intro W hW; exact exec_ldAgg rfl aggDer rfl HCL2.out ((HR.out W hW).blkAt 2 rfl).cellsAll) (GV.refl _ _ _ _) ?_
      simp only [Act.put, zq1, zq2, zq3]
      refine tkH 22 121 none (.bool true) rfl (by kernel_rfl) (fun _ _ _ h => h) (by rfl) (by intro W hW; go_simp) (GV.refl _ _ _ _) ?_
      simp only [Act.put, zq1, zq2, zq3]
      refine anyH_steps (G := GV (fun b => q < b) q X) (Post := postV (fun b => q < b) q X [.any, .any, .val (.mk 1 0 0 l1 []), .any, .any, .val (.mk 0 0 (numU x2) [] []), .any, .any, .val (.mk 0 0 (numU x3) [] []), .any, .any, .val (.mk 0 0 (if t4 then 1 else 0) [] []), .any, .any, .val (.mk 0 0 (if t5 then 1 else 0) [] []), .any, .any, .any, .val (.mk 1 0 0 l7 []), .any, .vals [.mk 1 0 0 l1 [], .mk 0 0 (numU x2) [] [], .mk 0 0 (numU x3) [] [], .mk 0 0 (if t4 then 1 else 0) [] [], .mk 0 0 (if t5 then 1 else 0) [] [], tkTv (l6, m6), .mk 1 0 0 l7 [], tksTv k8], .val (.mk 2 13 0 [] [.mk 1 0 0 l1 [], .mk 0 0 (numU x2) [] [], .mk 0 0 (numU x3) [] [], .mk 0 0 (if t4 then 1 else 0) [] [], .mk 0 0 (if t5 then 1 else 0) [] [], tkTv (l6, m6), .mk 1 0 0 l7 [], tksTv k8]), .any, .is (.bool true), .is (.bool false), .is (.bool false), .is (.bool false), .any, .any, .any, .any, .any, .any, .any, .any, .any, .is (.bool false), .fin, .is (.bool false)]) (ds := [101, 104, 107, 110, 113, 117, 119, 120, 122, 123, 124, 125, 126, 127, 128, 129, 130, 131, 132, 133, 134, 135, 3]) (GV.refl _ _ _) GV.trans (fun W W' h g => GV.trans _ _ _ h g) (fun i v W W' h g => PK.stable HFq.out h g) [2, 5, 8, 11, 14, 18, 20, 21, 23, 24, 25, 26, 27, 28, 29, 30, 31, 32, 33, 34, 35, 36, 37, 38] 397 rfl (by decide +kernel) (by decide +kernel) ?_ ?_ (GV.refl _ _ _ _) (by decide +kernel)
      · refine AllSteps.cons (o := { dst := some 101, op := .call { callee := .value (.func 26), args := #[.tmp 100], argTypes := #[9] }, type := _, pos := _, after := _, guard := none }) rfl (fun a W hf hS hd K hK => ?_) ?_
        · have e100 : a.eval (.tmp 100) = .string (tx l1) := hf.lit 100 (by decide) rfl
          exact stepV_mk (wanted_none rfl) rfl enters_mtext (vs := #[.string (tx l1)]) (by simp [e100]) (mtext_any l1 W HZ1.out) (HZD.out W hS).1 (HZD.out W hS).2 hK
        refine AllSteps.cons (o := { dst := some 104, op := .call { callee := .value (.func 27), args := #[.tmp 103], argTypes := #[2] }, type := _, pos := _, after := _, guard := none }) rfl (fun a W hf hS hd K hK => ?_) ?_
        · have e103 : a.eval (.tmp 103) = .int .i64 x2 := hf.lit 103 (by decide) rfl
          exact stepV_mk (wanted_none rfl) rfl enters_mnum (vs := #[.int .i64 x2]) (by simp [e103]) (mnumI_any x2 W HZ2.out.1 HZ2.out.2) (HZD.out W hS).1 (HZD.out W hS).2 hK
        refine AllSteps.cons (o := { dst := some 107, op := .call { callee := .value (.func 27), args := #[.tmp 106], argTypes := #[2] }, type := _, pos := _, after := _, guard := none }) rfl (fun a W hf hS hd K hK => ?_) ?_
        · have e106 : a.eval (.tmp 106) = .int .i64 x3 := hf.lit 106 (by decide) rfl
          exact stepV_mk (wanted_none rfl) rfl enters_mnum (vs := #[.int .i64 x3]) (by simp [e106]) (mnumI_any x3 W HZ3.out.1 HZ3.out.2) (HZD.out W hS).1 (HZD.out W hS).2 hK
        refine AllSteps.cons (o := { dst := some 110, op := .call { callee := .value (.func 32), args := #[.tmp 109], argTypes := #[4] }, type := _, pos := _, after := _, guard := none }) rfl (fun a W hf hS hd K hK => ?_) ?_
        · have e109 : a.eval (.tmp 109) = .bool t4 := hf.lit 109 (by decide) rfl
          exact stepV_mk (wanted_none rfl) rfl enters_mtruth (vs := #[.bool t4]) (by simp [e109]) (mtruth_any t4 W) (HZD.out W hS).1 (HZD.out W hS).2 hK
        refine AllSteps.cons (o := { dst := some 113, op := .call { callee := .value (.func 32), args := #[.tmp 112], argTypes := #[4] }, type := _, pos := _, after := _, guard := none }) rfl (fun a W hf hS hd K hK => ?_) ?_
        · have e112 : a.eval (.tmp 112) = .bool t5 := hf.lit 112 (by decide) rfl
          exact stepV_mk (wanted_none rfl) rfl enters_mtruth (vs := #[.bool t5]) (by simp [e112]) (mtruth_any t5 W) (HZD.out W hS).1 (HZD.out W hS).2 hK
        refine AllSteps.cons (o := { dst := some 117, op := .call { callee := .value (.func 28), args := #[.tmp 116], argTypes := #[22] }, type := _, pos := _, after := _, guard := none }) rfl (fun a W hf hS hd K hK => ?_) ?_
        · have e116 : a.eval (.tmp 116) = .slice a7 l7.length c7 := hf.lit 116 (by decide) rfl
          exact stepV_mk (wanted_none rfl) rfl enters_raw (vs := #[.slice a7 l7.length c7]) (by simp [e116]) (rawNew_any _ l7 W ((HR.out W hS).rowAt 1 rfl) HZ7.out) (HZD.out W hS).1 (HZD.out W hS).2 hK
        refine AllSteps.cons (o := { dst := some 119, op := .buildSlice 36 8 #[(0, .tmp 101), (1, .tmp 104), (2, .tmp 107), (3, .tmp 110), (4, .tmp 113), (5, .tmp 114), (6, .tmp 117), (7, .tmp 118)], type := _, pos := _, after := _, guard := none }) rfl (fun a W hf hS hd K hK => ?_) ?_
        · have d101 := (hd 2 (by decide +kernel)).get (s := 101) rfl
          have d104 := (hd 5 (by decide +kernel)).get (s := 104) rfl
          have d107 := (hd 8 (by decide +kernel)).get (s := 107) rfl
          have d110 := (hd 11 (by decide +kernel)).get (s := 110) rfl
          have d113 := (hd 14 (by decide +kernel)).get (s := 113) rfl
          have e114 : a.eval (.tmp 114) = .agg cs1.toArray := hf.lit 114 (by decide) rfl
          have d117 := (hd 18 (by decide +kernel)).get (s := 117) rfl
          have e118 : a.eval (.tmp 118) = .agg cs2.toArray := hf.lit 118 (by decide) rfl
          exact stepV_vals (wanted_none rfl) rfl elDer (ps := [.tmp 101, .tmp 104, .tmp 107, .tmp 110, .tmp 113, .tmp 114, .tmp 117, .tmp 118]) rfl (l := [.mk 1 0 0 l1 [], .mk 0 0 (numU x2) [] [], .mk 0 0 (numU x3) [] [], .mk 0 0 (if t4 then 1 else 0) [] [], .mk 0 0 (if t5 then 1 else 0) [] [], tkTv (l6, m6), .mk 1 0 0 l7 [], tksTv k8]) ⟨d101, d104, d107, d110, d113, ⟨_, e114, (HR.out W hS).treeAt 0 rfl⟩, d117, ⟨_, e118, (HR.out W hS).treeAt 1 rfl⟩, trivial⟩ rfl (by decide) (by decide) (HZD.out W hS).1 (HZD.out W hS).2 hK
        refine AllSteps.cons (o := { dst := some 120, op := .call { callee := .value (.func 25), args := #[.const (.int .i64 13), .tmp 119], argTypes := #[3, 36] }, type := _, pos := _, after := _, guard := none }) rfl (fun a W hf hS hd K hK => ?_) ?_
        · have d119 := (hd 20 (by decide +kernel)).get (s := 119) rfl
          exact stepV_seq (wanted_none rfl) rfl enters_seq d119 (HZD.out W hS).1 (fun v w1 h1 h2 => hK v w1 h1 h2) HFq.out
        refine AllSteps.cons (o := { dst := some 122, op := .move (.tmp 121), type := _, pos := _, after := _, guard := none }) rfl (fun a W hf hS hd K hK => ?_) ?_
        · have e121 : a.eval (.tmp 121) = .bool true := hf.lit 121 (by decide) rfl
          exact step_val (v := .bool true) (wanted_none rfl) (exec_move rfl e121) (hK _ _ (GV.refl _ _ _ _) rfl)
        refine AllSteps.cons (o := { dst := some 123, op := .move (.tmp 12), type := _, pos := _, after := _, guard := some (23, true) }) rfl (fun a W hf hS hd K hK => ?_) ?_
        · have e122 : a.eval (.tmp 122) = .bool true := (hd 23 (by decide +kernel)).get (s := 122) rfl
          have e12 : a.eval (.tmp 12) = .bool false := hf.lit 12 (by decide) rfl
          exact step_val (v := .bool false) (wanted_some rfl rfl e122) (exec_move rfl e12) (hK _ _ (GV.refl _ _ _ _) rfl)
        refine AllSteps.cons (o := { dst := some 124, op := .pick (.tmp 122) (.tmp 123) (.const (.bool false)), type := _, pos := _, after := _, guard := none }) rfl (fun a W hf hS hd K hK => ?_) ?_
        · have e122 : a.eval (.tmp 122) = .bool true := (hd 23 (by decide +kernel)).get (s := 122) rfl
          have e123 : a.eval (.tmp 123) = .bool false := (hd 24 (by decide +kernel)).get (s := 123) rfl
          exact step_val (v := .bool false) (wanted_none rfl) (exec_pickT rfl e122 e123) (hK _ _ (GV.refl _ _ _ _) rfl)
        refine AllSteps.cons (o := { dst := some 125, op := .move (.tmp 124), type := _, pos := _, after := _, guard := none }) rfl (fun a W hf hS hd K hK => ?_) ?_
        · have e124 : a.eval (.tmp 124) = .bool false := (hd 25 (by decide +kernel)).get (s := 124) rfl
          exact step_val (v := .bool false) (wanted_none rfl) (exec_move rfl e124) (hK _ _ (GV.refl _ _ _ _) rfl)
        refine AllSteps.cons (o := { dst := some 126, op := .fieldAddr 59 (.tmp 8) 0, type := _, pos := _, after := _, guard := some (26, true) }) rfl (fun a W hf hS hd K hK => ?_) ?_
        · have e125 : a.eval (.tmp 125) = .bool false := (hd 26 (by decide +kernel)).get (s := 125) rfl
          exact step_skip (wanted_no rfl rfl e125 rfl) (hK _ _ (GV.refl _ _ _ _) trivial)
        refine AllSteps.cons (o := { dst := some 127, op := .load 9 (.tmp 126), type := _, pos := _, after := _, guard := some (26, true) }) rfl (fun a W hf hS hd K hK => ?_) ?_
        · have e125 : a.eval (.tmp 125) = .bool false := (hd 26 (by decide +kernel)).get (s := 125) rfl
          exact step_skip (wanted_no rfl rfl e125 rfl) (hK _ _ (GV.refl _ _ _ _) trivial)
        refine AllSteps.cons (o := { dst := some 128, op := .buildSlice 93 1 #[(0, .tmp 127)], type := _, pos := _, after := _, guard := some (26, true) }) rfl (fun a W hf hS hd K hK => ?_) ?_
        · have e125 : a.eval (.tmp 125) = .bool false := (hd 26 (by decide +kernel)).get (s := 125) rfl
          exact step_skip (wanted_no rfl rfl e125 rfl) (hK _ _ (GV.refl _ _ _ _) trivial)
        refine AllSteps.cons (o := { dst := some 129, op := .fieldAddr 59 (.tmp 8) 1, type := _, pos := _, after := _, guard := some (26, true) }) rfl (fun a W hf hS hd K hK => ?_) ?_
        · have e125 : a.eval (.tmp 125) = .bool false := (hd 26 (by decide +kernel)).get (s := 125) rfl
          exact step_skip (wanted_no rfl rfl e125 rfl) (hK _ _ (GV.refl _ _ _ _) trivial)
        refine AllSteps.cons (o := { dst := some 130, op := .load 2 (.tmp 129), type := _, pos := _, after := _, guard := some (26, true) }) rfl (fun a W hf hS hd K hK => ?_) ?_
        · have e125 : a.eval (.tmp 125) = .bool false := (hd 26 (by decide +kernel)).get (s := 125) rfl
          exact step_skip (wanted_no rfl rfl e125 rfl) (hK _ _ (GV.refl _ _ _ _) trivial)
        refine AllSteps.cons (o := { dst := some 131, op := .fieldAddr 59 (.tmp 8) 2, type := _, pos := _, after := _, guard := some (26, true) }) rfl (fun a W hf hS hd K hK => ?_) ?_
        · have e125 : a.eval (.tmp 125) = .bool false := (hd 26 (by decide +kernel)).get (s := 125) rfl
          exact step_skip (wanted_no rfl rfl e125 rfl) (hK _ _ (GV.refl _ _ _ _) trivial)
        refine AllSteps.cons (o := { dst := some 132, op := .load 2 (.tmp 131), type := _, pos := _, after := _, guard := some (26, true) }) rfl (fun a W hf hS hd K hK => ?_) ?_
        · have e125 : a.eval (.tmp 125) = .bool false := (hd 26 (by decide +kernel)).get (s := 125) rfl
          exact step_skip (wanted_no rfl rfl e125 rfl) (hK _ _ (GV.refl _ _ _ _) trivial)
        refine AllSteps.cons (o := { dst := some 133, op := .buildSlice 116 2 #[(0, .tmp 130), (1, .tmp 132)], type := _, pos := _, after := _, guard := some (26, true) }) rfl (fun a W hf hS hd K hK => ?_) ?_
        · have e125 : a.eval (.tmp 125) = .bool false := (hd 26 (by decide +kernel)).get (s := 125) rfl
          exact step_skip (wanted_no rfl rfl e125 rfl) (hK _ _ (GV.refl _ _ _ _) trivial)
        refine AllSteps.cons (o := { dst := some 134, op := .call { callee := .value (.func 29), args := #[.tmp 128, .tmp 133], argTypes := #[93, 116] }, type := _, pos := _, after := _, guard := some (26, true) }) rfl (fun a W hf hS hd K hK => ?_) ?_
        · have e125 : a.eval (.tmp 125) = .bool false := (hd 26 (by decide +kernel)).get (s := 125) rfl
          exact step_skip (wanted_no rfl rfl e125 rfl) (hK _ _ (GV.refl _ _ _ _) trivial)
        refine AllSteps.cons (o := { dst := some 135, op := .pick (.tmp 125) (.tmp 134) (.const (.bool false)), type := _, pos := _, after := _, guard := none }) rfl (fun a W hf hS hd K hK => ?_) ?_
        · have e125 : a.eval (.tmp 125) = .bool false := (hd 26 (by decide +kernel)).get (s := 125) rfl
          exact step_val (v := .bool false) (wanted_none rfl) (exec_pickF rfl e125 rfl) (hK _ _ (GV.refl _ _ _ _) rfl)
        refine AllSteps.cons (o := { dst := none, op := .store 38 (.tmp 2) (.tmp 120), type := _, pos := _, after := _, guard := none }) rfl (fun a W hf hS hd K hK => ?_) ?_
        · have e2 : a.eval (.tmp 2) = .pointer (some ⟨q, 0, none⟩) := hf.lit 2 (by decide) rfl
          have d120 := (hd 21 (by decide +kernel)).get (s := 120) rfl
          obtain ⟨cur, hc1, hc2⟩ := (HR.out W hS).len
          rw [← HXE.out] at d120
          exact stepV_fin (wanted_none rfl) rfl e2 d120 hc1 hc2 HFq.out hK
        refine AllSteps.cons (o := { dst := some 3, op := .assign (.tmp 135), type := _, pos := _, after := _, guard := none }) rfl (fun a W hf hS hd K hK => ?_) ?_
        · have e135 : a.eval (.tmp 135) = .bool false := (hd 36 (by decide +kernel)).get (s := 135) rfl
          exact step_val (wanted_none rfl) (exec_asg rfl rfl) (hK _ _ (GV.refl _ _ _ _) e135)
        exact AllSteps.nil
      · intro a W hf hS hp
        have h3 := (hp 38 (by decide)).get (s := 3) rfl
        obtain ⟨v, cs, h5, h6⟩ := (hp 37 (by decide)).fin
        have e2 : a.eval (.tmp 2) = .pointer (some ⟨q, 0, none⟩) := hf.lit 2 (by decide) rfl
        go_wp2_with fail
        refine bodyPost_ret (results_agg_tmp rfl aggDer (show a.tmps.getD 2 undef = _ from e2) h6.length h5.cellsAll) hf.defers ⟨cs, ?_, ?_, (HR.out W hS).below⟩
        · rw [HBE.out, show a.tmps.getD 3 undef = .bool false from h3]
        · exact h6.mono (fun b hb => by have := HQW.out; omega)
    | true =>
      have HOK12 := hqZ hok12
      clear hok12
      have HBE : Hid (B = ([tx l1].all rightB && [x2, x3].all timeB)) := hqZ (by rw [HB.out]; simp only [List.all_cons, List.all_nil, ptB, HOK10.out, HOK12.out, Bool.and_true, Bool.true_and, Bool.and_false, Bool.false_and, Bool.and_assoc]; first | done | ac_rfl)
      obtain ⟨wd, hwd⟩ : ∃ wd, wd = World.drew wb2 := ⟨_, rfl⟩
      have hvd : VC w q [(p, [.string (tx l1), .int .i64 x2, .int .i64 x3, .bool t4, .bool t5, .string (tx l6), .slice a6 m6.length c6, .slice a7 l7.length c7, .slice a8 k8.length c8], 59), (p1, cs1, 38), (p2, cs2, 38)] [(tkTv (l6, m6), cs1), (tksTv k8, cs2)] [(.slice a6 m6.length c6, m6), (.slice a7 l7.length c7, l7)] wd := by rw [hwd]; exact HCb2.out.drew
      have HXE : Hid (X = .mk 2 13 0 [] [.mk 1 0 0 l1 [], .mk 0 0 (numU x2) [] [], .mk 0 0 (numU x3) [] [], .mk 0 0 (if t4 then 1 else 0) [] [], .mk 0 0 (if t5 then 1 else 0) [] [], tkTv (l6, m6), .mk 1 0 0 l7 [], tksTv k8]) := hqZ HX2.out
      have HR : Hid (∀ W, GV (fun b => q < b) q X wd W → VR w q [(p, [.string (tx l1), .int .i64 x2, .int .i64 x3, .bool t4, .bool t5, .string (tx l6), .slice a6 m6.length c6, .slice a7 l7.length c7, .slice a8 k8.length c8], 59), (p1, cs1, 38), (p2, cs2, 38)] [(tkTv (l6, m6), cs1), (tksTv k8, cs2)] [(.slice a6 m6.length c6, m6), (.slice a7 l7.length c7, l7)] W) := hqZ (fun W h => hvd.gv h)
      have HZD : Hid (∀ W, GV (fun b => q < b) q X wd W → q < W.heap.size ∧ ∀ b, W.heap.size ≤ b → q < b) := hqZ (fun W h => ⟨(HR.out W h).lt, fun b hb => Nat.lt_of_lt_of_le (HR.out W h).lt hb⟩)
      have HFq : Hid (¬ (fun b => q < b) q) := hqZ (Nat.lt_irrefl q)
      have HQW : Hid (w.heap.size = q) := hqZ hvd.hq.symm
      clear hvd HCb2
      refine wp_region_held (S := fun W => GV (fun b => q < b) q X wd W) (by kernel_rfl) ?_
      change wpAnyH _ _ _ _ _ _ _ _ (World.drew _)
      rw [← hwd]
      clear hwd
      refine tkH 0 99 none (.pointer (some ⟨p, 0, none⟩)) rfl (by kernel_rfl) (fun _ _ _ h => h) (by rfl) (by intro W hW; go_simp) (GV.refl _ _ _ _) ?_
      simp only [Act.put, zq1, zq2, zq3]
      refine tkH 1 100 none (.string (tx l1)) rfl (by kernel_rfl) (fun _ _ _ h => h) (by rfl) (by intro W hW; have hc : W.cell? ⟨p, 0, none⟩ = some (.string (tx l1)) := ((HR.out W hW).blkAt 0 rfl).cell 0; go_simp) (GV.refl _ _ _ _) ?_
      simp only [Act.put, zq1, zq2, zq3]
      refine tkH 3 102 none (.pointer (some ⟨p, 1, none⟩)) rfl (by kernel_rfl) (fun _ _ _ h => h) (by rfl) (by intro W hW; go_simp) (GV.refl _ _ _ _) ?_
      simp only [Act.put, zq1, zq2, zq3]
      refine tkH 4 103 none (.int .i64 x2) rfl (by kernel_rfl) (fun _ _ _ h => h) (by rfl) (by intro W hW; have hc : W.cell? ⟨p, 1, none⟩ = some (.int .i64 x2) := ((HR.out W hW).blkAt 0 rfl).cell 1; go_simp) (GV.refl _ _ _ _) ?_
      simp only [Act.put, zq1, zq2, zq3]
      refine tkH 6 105 none (.pointer (some ⟨p, 2, none⟩)) rfl (by kernel_rfl) (fun _ _ _ h => h) (by rfl) (by intro W hW; go_simp) (GV.refl _ _ _ _) ?_
      simp only [Act.put, zq1, zq2, zq3]
      refine tkH 7 106 none (.int .i64 x3) rfl (by kernel_rfl) (fun _ _ _ h => h) (by rfl) (by intro W hW; have hc : W.cell? ⟨p, 2, none⟩ = some (.int .i64 x3) := ((HR.out W hW).blkAt 0 rfl).cell 2; go_simp) (GV.refl _ _ _ _) ?_
      simp only [Act.put, zq1, zq2, zq3]
      refine tkH 9 108 none (.pointer (some ⟨p, 3, none⟩)) rfl (by kernel_rfl) (fun _ _ _ h => h) (by rfl) (by intro W hW; go_simp) (GV.refl _ _ _ _) ?_
      simp only [Act.put, zq1, zq2, zq3]
      refine tkH 10 109 none (.bool t4) rfl (by kernel_rfl) (fun _ _ _ h => h) (by rfl) (by intro W hW; have hc : W.cell? ⟨p, 3, none⟩ = some (.bool t4) := ((HR.out W hW).blkAt 0 rfl).cell 3; go_simp) (GV.refl _ _ _ _) ?_
      simp only [Act.put, zq1, zq2, zq3]
      refine tkH 12 111 none (.pointer (some ⟨p, 4, none⟩)) rfl (by kernel_rfl) (fun _ _ _ h => h) (by rfl) (by intro W hW; go_simp) (GV.refl _ _ _ _) ?_
      simp only [Act.put, zq1, zq2, zq3]
      refine tkH 13 112 none (.bool t5) rfl (by kernel_rfl) (fun _ _ _ h => h) (by rfl) (by intro W hW; have hc : W.cell? ⟨p, 4, none⟩ = some (.bool t5) := ((HR.out W hW).blkAt 0 rfl).cell 4; go_simp) (GV.refl _ _ _ _) ?_
      simp only [Act.put, zq1, zq2, zq3]
      refine tkH 15 114 none (.agg cs1.toArray) rfl (by kernel_rfl) (fun _ _ _ h => h) (by rfl) (by intro W hW; exact exec_ldAgg rfl aggDer rfl HCL1.out ((HR.out W hW).blkAt 1 rfl).cellsAll) (GV.refl _ _ _ _) ?_
      simp only [Act.put, zq1, zq2, zq3]
      refine tkH 16 115 none (.pointer (some ⟨p, 7, none⟩)) rfl (by kernel_rfl) (fun _ _ _ h => h) (by rfl) (by intro W hW; go_simp) (GV.refl _ _ _ _) ?_
      simp only [Act.put, zq1, zq2, zq3]
      refine tkH 17 116 none (.slice a7 l7.length c7) rfl (by kernel_rfl) (fun _ _ _ h => h) (by rfl) (by intro W hW; have hc : W.cell? ⟨p, 7, none⟩ = some (.slice a7 l7.length c7) := ((HR.out W hW).blkAt 0 rfl).cell 7; go_simp) (GV.refl _ _ _ _) ?_
      simp only [Act.put, zq1, zq2, zq3]
      refine tkH 19 118 none (.agg cs2.toArray) rfl (by kernel_rfl) (fun _ _ _ h => h) (by rfl) (by intro W hW; exact exec_ldAgg rfl aggDer rfl HCL2.out ((HR.out W hW).blkAt 2 rfl).cellsAll) (GV.refl _ _ _ _) ?_
      simp only [Act.put, zq1, zq2, zq3]
      refine tkH 22 121 none (.bool true) rfl (by kernel_rfl) (fun _ _ _ h => h) (by rfl) (by intro W hW; go_simp) (GV.refl _ _ _ _) ?_
      simp only [Act.put, zq1, zq2, zq3]
      refine anyH_steps (G := GV (fun b => q < b) q X) (Post := postV (fun b => q < b) q X [.any, .any, .val (.mk 1 0 0 l1 []), .any, .any, .val (.mk 0 0 (numU x2) [] []), .any, .any, .val (.mk 0 0 (numU x3) [] []), .any, .any, .val (.mk 0 0 (if t4 then 1 else 0) [] []), .any, .any, .val (.mk 0 0 (if t5 then 1 else 0) [] []), .any, .any, .any, .val (.mk 1 0 0 l7 []), .any, .vals [.mk 1 0 0 l1 [], .mk 0 0 (numU x2) [] [], .mk 0 0 (numU x3) [] [], .mk 0 0 (if t4 then 1 else 0) [] [], .mk 0 0 (if t5 then 1 else 0) [] [], tkTv (l6, m6), .mk 1 0 0 l7 [], tksTv k8], .val (.mk 2 13 0 [] [.mk 1 0 0 l1 [], .mk 0 0 (numU x2) [] [], .mk 0 0 (numU x3) [] [], .mk 0 0 (if t4 then 1 else 0) [] [], .mk 0 0 (if t5 then 1 else 0) [] [], tkTv (l6, m6), .mk 1 0 0 l7 [], tksTv k8]), .any, .is (.bool true), .is (.bool true), .is (.bool true), .is (.bool true), .is (.pointer (some ⟨p, 0, none⟩)), .is (.string (tx l1)), .row [.string (tx l1)], .is (.pointer (some ⟨p, 1, none⟩)), .is (.int .i64 x2), .is (.pointer (some ⟨p, 2, none⟩)), .is (.int .i64 x3), .row [.int .i64 x2, .int .i64 x3], .is (.bool ([tx l1].all rightB && [x2, x3].all timeB)), .is (.bool ([tx l1].all rightB && [x2, x3].all timeB)), .fin, .is (.bool ([tx l1].all rightB && [x2, x3].all timeB))]) (ds := [101, 104, 107, 110, 113, 117, 119, 120, 122, 123, 124, 125, 126, 127, 128, 129, 130, 131, 132, 133, 134, 135, 3]) (GV.refl _ _ _) GV.trans (fun W W' h g => GV.trans _ _ _ h g) (fun i v W W' h g => PK.stable HFq.out h g) [2, 5, 8, 11, 14, 18, 20, 21, 23, 24, 25, 26, 27, 28, 29, 30, 31, 32, 33, 34, 35, 36, 37, 38] 397 rfl (by decide +kernel) (by decide +kernel) ?_ ?_ (GV.refl _ _ _ _) (by decide +kernel)
      · refine AllSteps.cons (o := { dst := some 101, op := .call { callee := .value (.func 26), args := #[.tmp 100], argTypes := #[9] }, type := _, pos := _, after := _, guard := none }) rfl (fun a W hf hS hd K hK => ?_) ?_
        · have e100 : a.eval (.tmp 100) = .string (tx l1) := hf.lit 100 (by decide) rfl
          exact stepV_mk (wanted_none rfl) rfl enters_mtext (vs := #[.string (tx l1)]) (by simp [e100]) (mtext_any l1 W HZ1.out) (HZD.out W hS).1 (HZD.out W hS).2 hK
        refine AllSteps.cons (o := { dst := some 104, op := .call { callee := .value (.func 27), args := #[.tmp 103], argTypes := #[2] }, type := _, pos := _, after := _, guard := none }) rfl (fun a W hf hS hd K hK => ?_) ?_
        · have e103 : a.eval (.tmp 103) = .int .i64 x2 := hf.lit 103 (by decide) rfl
          exact stepV_mk (wanted_none rfl) rfl enters_mnum (vs := #[.int .i64 x2]) (by simp [e103]) (mnumI_any x2 W HZ2.out.1 HZ2.out.2) (HZD.out W hS).1 (HZD.out W hS).2 hK
        refine AllSteps.cons (o := { dst := some 107, op := .call { callee := .value (.func 27), args := #[.tmp 106], argTypes := #[2] }, type := _, pos := _, after := _, guard := none }) rfl (fun a W hf hS hd K hK => ?_) ?_
        · have e106 : a.eval (.tmp 106) = .int .i64 x3 := hf.lit 106 (by decide) rfl
          exact stepV_mk (wanted_none rfl) rfl enters_mnum (vs := #[.int .i64 x3]) (by simp [e106]) (mnumI_any x3 W HZ3.out.1 HZ3.out.2) (HZD.out W hS).1 (HZD.out W hS).2 hK
        refine AllSteps.cons (o := { dst := some 110, op := .call { callee := .value (.func 32), args := #[.tmp 109], argTypes := #[4] }, type := _, pos := _, after := _, guard := none }) rfl (fun a W hf hS hd K hK => ?_) ?_
        · have e109 : a.eval (.tmp 109) = .bool t4 := hf.lit 109 (by decide) rfl
          exact stepV_mk (wanted_none rfl) rfl enters_mtruth (vs := #[.bool t4]) (by simp [e109]) (mtruth_any t4 W) (HZD.out W hS).1 (HZD.out W hS).2 hK
        refine AllSteps.cons (o := { dst := some 113, op := .call { callee := .value (.func 32), args := #[.tmp 112], argTypes := #[4] }, type := _, pos := _, after := _, guard := none }) rfl (fun a W hf hS hd K hK => ?_) ?_
        · have e112 : a.eval (.tmp 112) = .bool t5 := hf.lit 112 (by decide) rfl
          exact stepV_mk (wanted_none rfl) rfl enters_mtruth (vs := #[.bool t5]) (by simp [e112]) (mtruth_any t5 W) (HZD.out W hS).1 (HZD.out W hS).2 hK
        refine AllSteps.cons (o := { dst := some 117, op := .call { callee := .value (.func 28), args := #[.tmp 116], argTypes := #[22] }, type := _, pos := _, after := _, guard := none }) rfl (fun a W hf hS hd K hK => ?_) ?_
        · have e116 : a.eval (.tmp 116) = .slice a7 l7.length c7 := hf.lit 116 (by decide) rfl
          exact stepV_mk (wanted_none rfl) rfl enters_raw (vs := #[.slice a7 l7.length c7]) (by simp [e116]) (rawNew_any _ l7 W ((HR.out W hS).rowAt 1 rfl) HZ7.out) (HZD.out W hS).1 (HZD.out W hS).2 hK
        refine AllSteps.cons (o := { dst := some 119, op := .buildSlice 36 8 #[(0, .tmp 101), (1, .tmp 104), (2, .tmp 107), (3, .tmp 110), (4, .tmp 113), (5, .tmp 114), (6, .tmp 117), (7, .tmp 118)], type := _, pos := _, after := _, guard := none }) rfl (fun a W hf hS hd K hK => ?_) ?_
        · have d101 := (hd 2 (by decide +kernel)).get (s := 101) rfl
          have d104 := (hd 5 (by decide +kernel)).get (s := 104) rfl
          have d107 := (hd 8 (by decide +kernel)).get (s := 107) rfl
          have d110 := (hd 11 (by decide +kernel)).get (s := 110) rfl
          have d113 := (hd 14 (by decide +kernel)).get (s := 113) rfl
          have e114 : a.eval (.tmp 114) = .agg cs1.toArray := hf.lit 114 (by decide) rfl
          have d117 := (hd 18 (by decide +kernel)).get (s := 117) rfl
          have e118 : a.eval (.tmp 118) = .agg cs2.toArray := hf.lit 118 (by decide) rfl
          exact stepV_vals (wanted_none rfl) rfl elDer (ps := [.tmp 101, .tmp 104, .tmp 107, .tmp 110, .tmp 113, .tmp 114, .tmp 117, .tmp 118]) rfl (l := [.mk 1 0 0 l1 [], .mk 0 0 (numU x2) [] [], .mk 0 0 (numU x3) [] [], .mk 0 0 (if t4 then 1 else 0) [] [], .mk 0 0 (if t5 then 1 else 0) [] [], tkTv (l6, m6), .mk 1 0 0 l7 [], tksTv k8]) ⟨d101, d104, d107, d110, d113, ⟨_, e114, (HR.out W hS).treeAt 0 rfl⟩, d117, ⟨_, e118, (HR.out W hS).treeAt 1 rfl⟩, trivial⟩ rfl (by decide) (by decide) (HZD.out W hS).1 (HZD.out W hS).2 hK
        refine AllSteps.cons (o := { dst := some 120, op := .call { callee := .value (.func 25), args := #[.const (.int .i64 13), .tmp 119], argTypes := #[3, 36] }, type := _, pos := _, after := _, guard := none }) rfl (fun a W hf hS hd K hK => ?_) ?_
        · have d119 := (hd 20 (by decide +kernel)).get (s := 119) rfl
          exact stepV_seq (wanted_none rfl) rfl enters_seq d119 (HZD.out W hS).1 (fun v w1 h1 h2 => hK v w1 h1 h2) HFq.out
        refine AllSteps.cons (o := { dst := some 122, op := .move (.tmp 121), type := _, pos := _, after := _, guard := none }) rfl (fun a W hf hS hd K hK => ?_) ?_
        · have e121 : a.eval (.tmp 121) = .bool true := hf.lit 121 (by decide) rfl
          exact step_val (v := .bool true) (wanted_none rfl) (exec_move rfl e121) (hK _ _ (GV.refl _ _ _ _) rfl)
        refine AllSteps.cons (o := { dst := some 123, op := .move (.tmp 12), type := _, pos := _, after := _, guard := some (23, true) }) rfl (fun a W hf hS hd K hK => ?_) ?_
        · have e122 : a.eval (.tmp 122) = .bool true := (hd 23 (by decide +kernel)).get (s := 122) rfl
          have e12 : a.eval (.tmp 12) = .bool true := hf.lit 12 (by decide) rfl
          exact step_val (v := .bool true) (wanted_some rfl rfl e122) (exec_move rfl e12) (hK _ _ (GV.refl _ _ _ _) rfl)
        refine AllSteps.cons (o := { dst := some 124, op := .pick (.tmp 122) (.tmp 123) (.const (.bool false)), type := _, pos := _, after := _, guard := none }) rfl (fun a W hf hS hd K hK => ?_) ?_
        · have e122 : a.eval (.tmp 122) = .bool true := (hd 23 (by decide +kernel)).get (s := 122) rfl
          have e123 : a.eval (.tmp 123) = .bool true := (hd 24 (by decide +kernel)).get (s := 123) rfl
          exact step_val (v := .bool true) (wanted_none rfl) (exec_pickT rfl e122 e123) (hK _ _ (GV.refl _ _ _ _) rfl)
        refine AllSteps.cons (o := { dst := some 125, op := .move (.tmp 124), type := _, pos := _, after := _, guard := none }) rfl (fun a W hf hS hd K hK => ?_) ?_
        · have e124 : a.eval (.tmp 124) = .bool true := (hd 25 (by decide +kernel)).get (s := 124) rfl
          exact step_val (v := .bool true) (wanted_none rfl) (exec_move rfl e124) (hK _ _ (GV.refl _ _ _ _) rfl)
        refine AllSteps.cons (o := { dst := some 126, op := .fieldAddr 59 (.tmp 8) 0, type := _, pos := _, after := _, guard := some (26, true) }) rfl (fun a W hf hS hd K hK => ?_) ?_
        · have e125 : a.eval (.tmp 125) = .bool true := (hd 26 (by decide +kernel)).get (s := 125) rfl
          have e8 : a.eval (.tmp 8) = .pointer (some ⟨p, 0, none⟩) := hf.lit 8 (by decide) rfl
          exact step_val (v := .pointer (some ⟨p, 0, none⟩)) (wanted_some rfl rfl e125) (exec_field rfl e8 (by go_simp)) (hK _ _ (GV.refl _ _ _ _) rfl)
        refine AllSteps.cons (o := { dst := some 127, op := .load 9 (.tmp 126), type := _, pos := _, after := _, guard := some (26, true) }) rfl (fun a W hf hS hd K hK => ?_) ?_
        · have e125 : a.eval (.tmp 125) = .bool true := (hd 26 (by decide +kernel)).get (s := 125) rfl
          have e126 : a.eval (.tmp 126) = .pointer (some ⟨p, 0, none⟩) := (hd 27 (by decide +kernel)).get (s := 126) rfl
          have hc : W.cell? ⟨p, 0, none⟩ = some (.string (tx l1)) := ((HR.out W hS).blkAt 0 rfl).cell 0
          exact step_val (v := .string (tx l1)) (wanted_some rfl rfl e125) (exec_load rfl e126 (by go_simp)) (hK _ _ (GV.refl _ _ _ _) rfl)
        refine AllSteps.cons (o := { dst := some 128, op := .buildSlice 93 1 #[(0, .tmp 127)], type := _, pos := _, after := _, guard := some (26, true) }) rfl (fun a W hf hS hd K hK => ?_) ?_
        · have e125 : a.eval (.tmp 125) = .bool true := (hd 26 (by decide +kernel)).get (s := 125) rfl
          have e127 : a.eval (.tmp 127) = .string (tx l1) := (hd 28 (by decide +kernel)).get (s := 127) rfl
          exact stepV_row (wanted_some rfl rfl e125) rfl elStr (ps := [.tmp 127]) rfl (cs := [.string (tx l1)]) (by simp only [List.map_cons, List.map_nil, e127]) (by intro u hu; simp only [List.mem_cons, List.not_mem_nil, or_false] at hu; rcases hu with rfl <;> exact ⟨rfl, rfl⟩) rfl (by decide) (by decide) (HZD.out W hS).1 (HZD.out W hS).2 hK
        refine AllSteps.cons (o := { dst := some 129, op := .fieldAddr 59 (.tmp 8) 1, type := _, pos := _, after := _, guard := some (26, true) }) rfl (fun a W hf hS hd K hK => ?_) ?_
        · have e125 : a.eval (.tmp 125) = .bool true := (hd 26 (by decide +kernel)).get (s := 125) rfl
          have e8 : a.eval (.tmp 8) = .pointer (some ⟨p, 0, none⟩) := hf.lit 8 (by decide) rfl
          exact step_val (v := .pointer (some ⟨p, 1, none⟩)) (wanted_some rfl rfl e125) (exec_field rfl e8 (by go_simp)) (hK _ _ (GV.refl _ _ _ _) rfl)
        refine AllSteps.cons (o := { dst := some 130, op := .load 2 (.tmp 129), type := _, pos := _, after := _, guard := some (26, true) }) rfl (fun a W hf hS hd K hK => ?_) ?_
        · have e125 : a.eval (.tmp 125) = .bool true := (hd 26 (by decide +kernel)).get (s := 125) rfl
          have e129 : a.eval (.tmp 129) = .pointer (some ⟨p, 1, none⟩) := (hd 30 (by decide +kernel)).get (s := 129) rfl
          have hc : W.cell? ⟨p, 1, none⟩ = some (.int .i64 x2) := ((HR.out W hS).blkAt 0 rfl).cell 1
          exact step_val (v := .int .i64 x2) (wanted_some rfl rfl e125) (exec_load rfl e129 (by go_simp)) (hK _ _ (GV.refl _ _ _ _) rfl)
        refine AllSteps.cons (o := { dst := some 131, op := .fieldAddr 59 (.tmp 8) 2, type := _, pos := _, after := _, guard := some (26, true) }) rfl (fun a W hf hS hd K hK => ?_) ?_
        · have e125 : a.eval (.tmp 125) = .bool true := (hd 26 (by decide +kernel)).get (s := 125) rfl
          have e8 : a.eval (.tmp 8) = .pointer (some ⟨p, 0, none⟩) := hf.lit 8 (by decide) rfl
          exact step_val (v := .pointer (some ⟨p, 2, none⟩)) (wanted_some rfl rfl e125) (exec_field rfl e8 (by go_simp)) (hK _ _ (GV.refl _ _ _ _) rfl)
        refine AllSteps.cons (o := { dst := some 132, op := .load 2 (.tmp 131), type := _, pos := _, after := _, guard := some (26, true) }) rfl (fun a W hf hS hd K hK => ?_) ?_
        · have e125 : a.eval (.tmp 125) = .bool true := (hd 26 (by decide +kernel)).get (s := 125) rfl
          have e131 : a.eval (.tmp 131) = .pointer (some ⟨p, 2, none⟩) := (hd 32 (by decide +kernel)).get (s := 131) rfl
          have hc : W.cell? ⟨p, 2, none⟩ = some (.int .i64 x3) := ((HR.out W hS).blkAt 0 rfl).cell 2
          exact step_val (v := .int .i64 x3) (wanted_some rfl rfl e125) (exec_load rfl e131 (by go_simp)) (hK _ _ (GV.refl _ _ _ _) rfl)
        refine AllSteps.cons (o := { dst := some 133, op := .buildSlice 116 2 #[(0, .tmp 130), (1, .tmp 132)], type := _, pos := _, after := _, guard := some (26, true) }) rfl (fun a W hf hS hd K hK => ?_) ?_
        · have e125 : a.eval (.tmp 125) = .bool true := (hd 26 (by decide +kernel)).get (s := 125) rfl
          have e130 : a.eval (.tmp 130) = .int .i64 x2 := (hd 31 (by decide +kernel)).get (s := 130) rfl
          have e132 : a.eval (.tmp 132) = .int .i64 x3 := (hd 33 (by decide +kernel)).get (s := 132) rfl
          exact stepV_row (wanted_some rfl rfl e125) rfl elI64 (ps := [.tmp 130, .tmp 132]) rfl (cs := [.int .i64 x2, .int .i64 x3]) (by simp only [List.map_cons, List.map_nil, e130, e132]) (by intro u hu; simp only [List.mem_cons, List.not_mem_nil, or_false] at hu; rcases hu with rfl | rfl <;> exact ⟨rfl, rfl⟩) rfl (by decide) (by decide) (HZD.out W hS).1 (HZD.out W hS).2 hK
        refine AllSteps.cons (o := { dst := some 134, op := .call { callee := .value (.func 29), args := #[.tmp 128, .tmp 133], argTypes := #[93, 116] }, type := _, pos := _, after := _, guard := some (26, true) }) rfl (fun a W hf hS hd K hK => ?_) ?_
        · have e125 : a.eval (.tmp 125) = .bool true := (hd 26 (by decide +kernel)).get (s := 125) rfl
          have d128 := (hd 29 (by decide +kernel)).get (s := 128) rfl
          have d133 := (hd 34 (by decide +kernel)).get (s := 133) rfl
          exact stepV_is (wanted_some rfl rfl e125) rfl enters_mright (vs := #[a.eval (.tmp 128), a.eval (.tmp 133)]) (by first | (simp only [List.map_toArray, List.map_cons, List.map_nil]; done) | (simp only [List.map_toArray, List.map_cons, List.map_nil]; rfl)) (u := (.bool ([tx l1].all rightB && [x2, x3].all timeB))) (mright_any [tx l1] [x2, x3] _ _ W d128.1 d133.1 HSZ.out) (HZD.out W hS).1 hK
        refine AllSteps.cons (o := { dst := some 135, op := .pick (.tmp 125) (.tmp 134) (.const (.bool false)), type := _, pos := _, after := _, guard := none }) rfl (fun a W hf hS hd K hK => ?_) ?_
        · have e125 : a.eval (.tmp 125) = .bool true := (hd 26 (by decide +kernel)).get (s := 125) rfl
          have d134 := (hd 35 (by decide +kernel)).get (s := 134) rfl
          exact step_val (wanted_none rfl) (exec_pickT rfl e125 rfl) (hK _ _ (GV.refl _ _ _ _) d134)
        refine AllSteps.cons (o := { dst := none, op := .store 38 (.tmp 2) (.tmp 120), type := _, pos := _, after := _, guard := none }) rfl (fun a W hf hS hd K hK => ?_) ?_
        · have e2 : a.eval (.tmp 2) = .pointer (some ⟨q, 0, none⟩) := hf.lit 2 (by decide) rfl
          have d120 := (hd 21 (by decide +kernel)).get (s := 120) rfl
          obtain ⟨cur, hc1, hc2⟩ := (HR.out W hS).len
          rw [← HXE.out] at d120
          exact stepV_fin (wanted_none rfl) rfl e2 d120 hc1 hc2 HFq.out hK
        refine AllSteps.cons (o := { dst := some 3, op := .assign (.tmp 135), type := _, pos := _, after := _, guard := none }) rfl (fun a W hf hS hd K hK => ?_) ?_
        · have d135 := (hd 36 (by decide +kernel)).get (s := 135) rfl
          exact step_val (wanted_none rfl) (exec_asg rfl rfl) (hK _ _ (GV.refl _ _ _ _) d135)
        exact AllSteps.nil
      · intro a W hf hS hp
        have h3 := (hp 38 (by decide)).get (s := 3) rfl
        obtain ⟨v, cs, h5, h6⟩ := (hp 37 (by decide)).fin
        have e2 : a.eval (.tmp 2) = .pointer (some ⟨q, 0, none⟩) := hf.lit 2 (by decide) rfl
        go_wp2_with fail
        refine bodyPost_ret (results_agg_tmp rfl aggDer (show a.tmps.getD 2 undef = _ from e2) h6.length h5.cellsAll) hf.defers ⟨cs, ?_, ?_, (HR.out W hS).below⟩
        · rw [HBE.out, show a.tmps.getD 3 undef = .bool ([tx l1].all rightB && [x2, x3].all timeB) from h3]
        · exact h6.mono (fun b hb => by have := HQW.out; omega)
end Go.Proofs.Ytpjkidcfidmfaaa
