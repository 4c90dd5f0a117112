/- Texts of this proof, one behind the other: MValA, MValB. -/
import Derived.Test.YtpjkidcfidmfaaaMwB6
import Derived.Deep.DeepCutAuto
namespace Go.Proofs.Ytpjkidcfidmfaaa
set_option linter.unusedSimpArgs false
set_option linter.unusedVariables false
open Go.RowKit
set_option maxHeartbeats 16000000 in
set_option maxRecDepth 100000 in
theorem msgValue_11 (F0 : Nat → Prop) (l1 : List UInt8) (x2 : Int) (x3 : Int) (l4 : List UInt8) (v4 : Value) (w : World) (hz1 : l1.length ≤ 140737488355328) (hz2 : -9223372036854775808 ≤ x2 ∧ x2 ≤ 9223372036854775807) (hz3 : -9223372036854775808 ≤ x3 ∧ x3 ≤ 9223372036854775807) (hb4 : Bs w v4 l4) (hz4 : l4.length ≤ 140737488355328) :
    Calls Try.prog 10 #[.iface 54 (.agg #[.string (tx l1), .int .i64 x2, .int .i64 x3, v4])] w (VlRes w (.mk 2 11 0 [] ([.s l1, .n x2, .n x3, .b l4].map ptTv)) ([.s l1, .n x2, .n x3, .b l4].all ptB)) := by
  obtain ⟨a4, c4, rfl, hc4, hm4⟩ := hb4.form
  have HC : Hid (VC w w.heap.size [(w.heap.size + 1, [.string (tx l1), .int .i64 x2, .int .i64 x3, .slice a4 l4.length c4], 54)] [] [(.slice a4 l4.length c4, l4)] ((w.alloc (.cells zs5.toArray 38)).alloc (.cells [.string (tx l1), .int .i64 x2, .int .i64 x3, .slice a4 l4.length c4].toArray 54))) := hqZ (VC.start (by intro r hr; simp only [List.mem_cons, List.not_mem_nil, or_false] at hr; rcases hr with rfl; exact hb4) _ _)
  have HSZ : Hid (∀ u ∈ [tx l1], u.size ≤ maxLen) := hqZ (by intro u hu; simp only [List.mem_cons, List.not_mem_nil, or_false] at hu; rcases hu with rfl; exact szTx hz1)
  have HZ1 := hqZ hz1
  clear hz1
  have HZ2 := hqZ hz2
  clear hz2
  have HZ3 := hqZ hz3
  clear hz3
  have HZ4 := hqZ hz4
  clear hz4
  clear hb4
  have hta : ∀ W, (Instr.typeAssert (.iface 54 (.agg #[.string (tx l1), .int .i64 x2, .int .i64 x3, .slice a4 l4.length c4])) 20 54 true).run Try.prog W = .ok (.tuple #[.agg #[.string (tx l1), .int .i64 x2, .int .i64 x3, .slice a4 l4.length c4], .bool true]) W := fun W => ta_is _ _ _ (by kernel_rfl) W
  obtain ⟨B, hB⟩ : ∃ B, B = [.s l1, .n x2, .n x3, .b l4].all ptB := ⟨_, rfl⟩
  obtain ⟨X, hX⟩ : ∃ X : Tv, X = .mk 2 11 0 [] ([.s l1, .n x2, .n x3, .b l4].map ptTv) := ⟨_, rfl⟩
  rw [← hB, ← hX]
  have HB := hqZ hB
  have HX2 := hqZ hX
  clear hB hX
  go_enter Try.func10, Try.ntmps10
  go_upto_region 4 with fail
  clear hta 
  show Code.wp _ _ _ _ ((w.alloc (.cells zs5.toArray 38)).alloc (.cells [.string (tx l1), .int .i64 x2, .int .i64 x3, .slice a4 l4.length c4].toArray 54))
  obtain ⟨W0, hW0⟩ : ∃ W0, W0 = (w.alloc (.cells zs5.toArray 38)).alloc (.cells [.string (tx l1), .int .i64 x2, .int .i64 x3, .slice a4 l4.length c4].toArray 54) := ⟨_, rfl⟩
  rw [← hW0] at HC ⊢
  clear hW0
  obtain ⟨p, hp⟩ : ∃ p, p = w.heap.size + 1 := ⟨_, rfl⟩
  obtain ⟨q, hq⟩ : ∃ q, q = w.heap.size := ⟨_, rfl⟩
  rw [← hp, ← hq] at HC ⊢
  clear hp hq
  have HBE : Hid (B = ([tx l1].all rightB && [x2, x3].all timeB)) := hqZ (by rw [HB.out]; simp only [List.all_cons, List.all_nil, ptB, Bool.and_true, Bool.true_and, Bool.and_false, Bool.false_and, Bool.and_assoc]; first | done | ac_rfl)
  obtain ⟨wd, hwd⟩ : ∃ wd, wd = World.drew W0 := ⟨_, rfl⟩
  have hvd : VC w q [(p, [.string (tx l1), .int .i64 x2, .int .i64 x3, .slice a4 l4.length c4], 54)] [] [(.slice a4 l4.length c4, l4)] wd := by rw [hwd]; exact HC.out.drew
  have HXE : Hid (X = .mk 2 11 0 [] [.mk 1 0 0 l1 [], .mk 0 0 (numU x2) [] [], .mk 0 0 (numU x3) [] [], .mk 1 0 0 l4 []]) := hqZ HX2.out
  have HR : Hid (∀ W, GV (fun b => q < b) q X wd W → VR w q [(p, [.string (tx l1), .int .i64 x2, .int .i64 x3, .slice a4 l4.length c4], 54)] [] [(.slice a4 l4.length c4, l4)] W) := hqZ (fun W h => hvd.gv h)
  have HZD : Hid (∀ W, GV (fun b => q < b) q X wd W → q < W.heap.size ∧ ∀ b, W.heap.size ≤ b → q < b) := hqZ (fun W h => ⟨(HR.out W h).lt, fun b hb => Nat.lt_of_lt_of_le (HR.out W h).lt hb⟩)
  have HFq : Hid (¬ (fun b => q < b) q) := hqZ (Nat.lt_irrefl q)
  have HQW : Hid (w.heap.size = q) := hqZ hvd.hq.symm
  clear hvd HC
  refine wp_region_held (S := fun W => GV (fun b => q < b) q X wd W) (by kernel_rfl) ?_
  change wpAnyH _ _ _ _ _ _ _ _ (World.drew _)
  rw [← hwd]
  clear hwd
  refine tkH 0 34 none (.pointer (some ⟨p, 0, none⟩)) rfl (by kernel_rfl) (fun _ _ _ h => h) (by rfl) (by intro W hW; go_simp) (GV.refl _ _ _ _) ?_
  simp only [Act.put, zq1, zq2, zq3]
  refine tkH 1 35 none (.string (tx l1)) rfl (by kernel_rfl) (fun _ _ _ h => h) (by rfl) (by intro W hW; have hc : W.cell? ⟨p, 0, none⟩ = some (.string (tx l1)) := ((HR.out W hW).blkAt 0 rfl).cell 0; go_simp) (GV.refl _ _ _ _) ?_
  simp only [Act.put, zq1, zq2, zq3]
  refine tkH 3 37 none (.pointer (some ⟨p, 1, none⟩)) rfl (by kernel_rfl) (fun _ _ _ h => h) (by rfl) (by intro W hW; go_simp) (GV.refl _ _ _ _) ?_
  simp only [Act.put, zq1, zq2, zq3]
  refine tkH 4 38 none (.int .i64 x2) rfl (by kernel_rfl) (fun _ _ _ h => h) (by rfl) (by intro W hW; have hc : W.cell? ⟨p, 1, none⟩ = some (.int .i64 x2) := ((HR.out W hW).blkAt 0 rfl).cell 1; go_simp) (GV.refl _ _ _ _) ?_
  simp only [Act.put, zq1, zq2, zq3]
  refine tkH 6 40 none (.pointer (some ⟨p, 2, none⟩)) rfl (by kernel_rfl) (fun _ _ _ h => h) (by rfl) (by intro W hW; go_simp) (GV.refl _ _ _ _) ?_
  simp only [Act.put, zq1, zq2, zq3]
  refine tkH 7 41 none (.int .i64 x3) rfl (by kernel_rfl) (fun _ _ _ h => h) (by rfl) (by intro W hW; have hc : W.cell? ⟨p, 2, none⟩ = some (.int .i64 x3) := ((HR.out W hW).blkAt 0 rfl).cell 2; go_simp) (GV.refl _ _ _ _) ?_
  simp only [Act.put, zq1, zq2, zq3]
  refine tkH 9 43 none (.pointer (some ⟨p, 3, none⟩)) rfl (by kernel_rfl) (fun _ _ _ h => h) (by rfl) (by intro W hW; go_simp) (GV.refl _ _ _ _) ?_
  simp only [Act.put, zq1, zq2, zq3]
  refine tkH 10 44 none (.slice a4 l4.length c4) rfl (by kernel_rfl) (fun _ _ _ h => h) (by rfl) (by intro W hW; have hc : W.cell? ⟨p, 3, none⟩ = some (.slice a4 l4.length c4) := ((HR.out W hW).blkAt 0 rfl).cell 3; go_simp) (GV.refl _ _ _ _) ?_
  simp only [Act.put, zq1, zq2, zq3]
  refine tkH 14 48 none (.pointer (some ⟨p, 0, none⟩)) rfl (by kernel_rfl) (fun _ _ _ h => h) (by rfl) (by intro W hW; go_simp) (GV.refl _ _ _ _) ?_
  simp only [Act.put, zq1, zq2, zq3]
  refine tkH 15 49 none (.string (tx l1)) rfl (by kernel_rfl) (fun _ _ _ h => h) (by rfl) (by intro W hW; have hc : W.cell? ⟨p, 0, none⟩ = some (.string (tx l1)) := ((HR.out W hW).blkAt 0 rfl).cell 0; go_simp) (GV.refl _ _ _ _) ?_
  simp only [Act.put, zq1, zq2, zq3]
  refine tkH 17 51 none (.pointer (some ⟨p, 1, none⟩)) rfl (by kernel_rfl) (fun _ _ _ h => h) (by rfl) (by intro W hW; go_simp) (GV.refl _ _ _ _) ?_
  simp only [Act.put, zq1, zq2, zq3]
  refine tkH 18 52 none (.int .i64 x2) rfl (by kernel_rfl) (fun _ _ _ h => h) (by rfl) (by intro W hW; have hc : W.cell? ⟨p, 1, none⟩ = some (.int .i64 x2) := ((HR.out W hW).blkAt 0 rfl).cell 1; go_simp) (GV.refl _ _ _ _) ?_
  simp only [Act.put, zq1, zq2, zq3]
  refine tkH 19 53 none (.pointer (some ⟨p, 2, none⟩)) rfl (by kernel_rfl) (fun _ _ _ h => h) (by rfl) (by intro W hW; go_simp) (GV.refl _ _ _ _) ?_
  simp only [Act.put, zq1, zq2, zq3]
  refine tkH 20 54 none (.int .i64 x3) rfl (by kernel_rfl) (fun _ _ _ h => h) (by rfl) (by intro W hW; have hc : W.cell? ⟨p, 2, none⟩ = some (.int .i64 x3) := ((HR.out W hW).blkAt 0 rfl).cell 2; go_simp) (GV.refl _ _ _ _) ?_
  simp only [Act.put, zq1, zq2, zq3]
  refine anyH_steps (G := GV (fun b => q < b) q X) (Post := postV (fun b => q < b) q X [.any, .any, .val (.mk 1 0 0 l1 []), .any, .any, .val (.mk 0 0 (numU x2) [] []), .any, .any, .val (.mk 0 0 (numU x3) [] []), .any, .any, .val (.mk 1 0 0 l4 []), .vals [.mk 1 0 0 l1 [], .mk 0 0 (numU x2) [] [], .mk 0 0 (numU x3) [] [], .mk 1 0 0 l4 []], .val (.mk 2 11 0 [] [.mk 1 0 0 l1 [], .mk 0 0 (numU x2) [] [], .mk 0 0 (numU x3) [] [], .mk 1 0 0 l4 []]), .any, .any, .row [.string (tx l1)], .any, .any, .any, .any, .row [.int .i64 x2, .int .i64 x3], .is (.bool ([tx l1].all rightB && [x2, x3].all timeB)), .fin, .is (.bool ([tx l1].all rightB && [x2, x3].all timeB))]) (ds := [36, 39, 42, 45, 46, 47, 50, 55, 56, 3]) (GV.refl _ _ _) GV.trans (fun W W' h g => GV.trans _ _ _ h g) (fun i v W W' h g => PK.stable HFq.out h g) [2, 5, 8, 11, 12, 13, 16, 21, 22, 23, 24] 397 rfl (by decide +kernel) (by decide +kernel) ?_ ?_ (GV.refl _ _ _ _) (by decide +kernel)
  · refine AllSteps.cons (o := { dst := some 36, op := .call { callee := .value (.func 26), args := #[.tmp 35], argTypes := #[9] }, type := _, pos := _, after := _, guard := none }) rfl (fun a W hf hS hd K hK => ?_) ?_
    · have e35 : a.eval (.tmp 35) = .string (tx l1) := hf.lit 35 (by decide) rfl
      exact stepV_mk (wanted_none rfl) rfl enters_mtext (vs := #[.string (tx l1)]) (by simp [e35]) (mtext_any l1 W HZ1.out) (HZD.out W hS).1 (HZD.out W hS).2 hK
    refine AllSteps.cons (o := { dst := some 39, op := .call { callee := .value (.func 27), args := #[.tmp 38], argTypes := #[2] }, type := _, pos := _, after := _, guard := none }) rfl (fun a W hf hS hd K hK => ?_) ?_
    · have e38 : a.eval (.tmp 38) = .int .i64 x2 := hf.lit 38 (by decide) rfl
      exact stepV_mk (wanted_none rfl) rfl enters_mnum (vs := #[.int .i64 x2]) (by simp [e38]) (mnumI_any x2 W HZ2.out.1 HZ2.out.2) (HZD.out W hS).1 (HZD.out W hS).2 hK
    refine AllSteps.cons (o := { dst := some 42, op := .call { callee := .value (.func 27), args := #[.tmp 41], argTypes := #[2] }, type := _, pos := _, after := _, guard := none }) rfl (fun a W hf hS hd K hK => ?_) ?_
    · have e41 : a.eval (.tmp 41) = .int .i64 x3 := hf.lit 41 (by decide) rfl
      exact stepV_mk (wanted_none rfl) rfl enters_mnum (vs := #[.int .i64 x3]) (by simp [e41]) (mnumI_any x3 W HZ3.out.1 HZ3.out.2) (HZD.out W hS).1 (HZD.out W hS).2 hK
    refine AllSteps.cons (o := { dst := some 45, op := .call { callee := .value (.func 28), args := #[.tmp 44], argTypes := #[22] }, type := _, pos := _, after := _, guard := none }) rfl (fun a W hf hS hd K hK => ?_) ?_
    · have e44 : a.eval (.tmp 44) = .slice a4 l4.length c4 := hf.lit 44 (by decide) rfl
      exact stepV_mk (wanted_none rfl) rfl enters_raw (vs := #[.slice a4 l4.length c4]) (by simp [e44]) (rawNew_any _ l4 W ((HR.out W hS).rowAt 0 rfl) HZ4.out) (HZD.out W hS).1 (HZD.out W hS).2 hK
    refine AllSteps.cons (o := { dst := some 46, op := .buildSlice 36 4 #[(0, .tmp 36), (1, .tmp 39), (2, .tmp 42), (3, .tmp 45)], type := _, pos := _, after := _, guard := none }) rfl (fun a W hf hS hd K hK => ?_) ?_
    · have d36 := (hd 2 (by decide +kernel)).get (s := 36) rfl
      have d39 := (hd 5 (by decide +kernel)).get (s := 39) rfl
      have d42 := (hd 8 (by decide +kernel)).get (s := 42) rfl
      have d45 := (hd 11 (by decide +kernel)).get (s := 45) rfl
      exact stepV_vals (wanted_none rfl) rfl elDer (ps := [.tmp 36, .tmp 39, .tmp 42, .tmp 45]) rfl (l := [.mk 1 0 0 l1 [], .mk 0 0 (numU x2) [] [], .mk 0 0 (numU x3) [] [], .mk 1 0 0 l4 []]) ⟨d36, d39, d42, d45, trivial⟩ rfl (by decide) (by decide) (HZD.out W hS).1 (HZD.out W hS).2 hK
    refine AllSteps.cons (o := { dst := some 47, op := .call { callee := .value (.func 25), args := #[.const (.int .i64 11), .tmp 46], argTypes := #[3, 36] }, type := _, pos := _, after := _, guard := none }) rfl (fun a W hf hS hd K hK => ?_) ?_
    · have d46 := (hd 12 (by decide +kernel)).get (s := 46) rfl
      exact stepV_seq (wanted_none rfl) rfl enters_seq d46 (HZD.out W hS).1 (fun v w1 h1 h2 => hK v w1 h1 h2) HFq.out
    refine AllSteps.cons (o := { dst := some 50, op := .buildSlice 93 1 #[(0, .tmp 49)], type := _, pos := _, after := _, guard := none }) rfl (fun a W hf hS hd K hK => ?_) ?_
    · have e49 : a.eval (.tmp 49) = .string (tx l1) := hf.lit 49 (by decide) rfl
      exact stepV_row (wanted_none rfl) rfl elStr (ps := [.tmp 49]) rfl (cs := [.string (tx l1)]) (by simp only [List.map_cons, List.map_nil, e49]) (by intro u hu; simp only [List.mem_cons, List.not_mem_nil, or_false] at hu; rcases hu with rfl <;> exact ⟨rfl, rfl⟩) rfl (by decide) (by decide) (HZD.out W hS).1 (HZD.out W hS).2 hK
    refine AllSteps.cons (o := { dst := some 55, op := .buildSlice 116 2 #[(0, .tmp 52), (1, .tmp 54)], type := _, pos := _, after := _, guard := none }) rfl (fun a W hf hS hd K hK => ?_) ?_
    · have e52 : a.eval (.tmp 52) = .int .i64 x2 := hf.lit 52 (by decide) rfl
      have e54 : a.eval (.tmp 54) = .int .i64 x3 := hf.lit 54 (by decide) rfl
      exact stepV_row (wanted_none rfl) rfl elI64 (ps := [.tmp 52, .tmp 54]) rfl (cs := [.int .i64 x2, .int .i64 x3]) (by simp only [List.map_cons, List.map_nil, e52, e54]) (by intro u hu; simp only [List.mem_cons, List.not_mem_nil, or_false] at hu; rcases hu with rfl | rfl <;> exact ⟨rfl, rfl⟩) rfl (by decide) (by decide) (HZD.out W hS).1 (HZD.out W hS).2 hK
    refine AllSteps.cons (o := { dst := some 56, op := .call { callee := .value (.func 29), args := #[.tmp 50, .tmp 55], argTypes := #[93, 116] }, type := _, pos := _, after := _, guard := none }) rfl (fun a W hf hS hd K hK => ?_) ?_
    · have d50 := (hd 16 (by decide +kernel)).get (s := 50) rfl
      have d55 := (hd 21 (by decide +kernel)).get (s := 55) rfl
      exact stepV_is (wanted_none rfl) rfl enters_mright (vs := #[a.eval (.tmp 50), a.eval (.tmp 55)]) (by first | (simp only [List.map_toArray, List.map_cons, List.map_nil]; done) | (simp only [List.map_toArray, List.map_cons, List.map_nil]; rfl)) (u := (.bool ([tx l1].all rightB && [x2, x3].all timeB))) (mright_any [tx l1] [x2, x3] _ _ W d50.1 d55.1 HSZ.out) (HZD.out W hS).1 hK
    refine AllSteps.cons (o := { dst := none, op := .store 38 (.tmp 2) (.tmp 47), type := _, pos := _, after := _, guard := none }) rfl (fun a W hf hS hd K hK => ?_) ?_
    · have e2 : a.eval (.tmp 2) = .pointer (some ⟨q, 0, none⟩) := hf.lit 2 (by decide) rfl
      have d47 := (hd 13 (by decide +kernel)).get (s := 47) rfl
      obtain ⟨cur, hc1, hc2⟩ := (HR.out W hS).len
      rw [← HXE.out] at d47
      exact stepV_fin (wanted_none rfl) rfl e2 d47 hc1 hc2 HFq.out hK
    refine AllSteps.cons (o := { dst := some 3, op := .assign (.tmp 56), type := _, pos := _, after := _, guard := none }) rfl (fun a W hf hS hd K hK => ?_) ?_
    · have d56 := (hd 22 (by decide +kernel)).get (s := 56) rfl
      exact step_val (wanted_none rfl) (exec_asg rfl rfl) (hK _ _ (GV.refl _ _ _ _) d56)
    exact AllSteps.nil
  · intro a W hf hS hp
    have h3 := (hp 24 (by decide)).get (s := 3) rfl
    obtain ⟨v, cs, h5, h6⟩ := (hp 23 (by decide)).fin
    have e2 : a.eval (.tmp 2) = .pointer (some ⟨q, 0, none⟩) := hf.lit 2 (by decide) rfl
    go_wp2_with fail
    refine bodyPost_ret (results_agg_tmp rfl aggDer (show a.tmps.getD 2 undef = _ from e2) h6.length h5.cellsAll) hf.defers ⟨cs, ?_, ?_, (HR.out W hS).below⟩
    · rw [HBE.out, show a.tmps.getD 3 undef = .bool ([tx l1].all rightB && [x2, x3].all timeB) from h3]
    · exact h6.mono (fun b hb => by have := HQW.out; omega)
set_option maxHeartbeats 16000000 in
set_option maxRecDepth 100000 in
theorem msgValue_15 (F0 : Nat → Prop) (l1 : List UInt8) (l2 : List UInt8) (x3 : Int) (w : World) (hz1 : l1.length ≤ 140737488355328) (hz2 : l2.length ≤ 140737488355328) (hz3 : -9223372036854775808 ≤ x3 ∧ x3 ≤ 9223372036854775807) :
    Calls Try.prog 10 #[.iface 62 (.agg #[.string (tx l1), .string (tx l2), .int .i64 x3])] w (VlRes w (.mk 2 15 0 [] ([.s l1, .s l2, .n x3].map ptTv)) ([.s l1, .s l2, .n x3].all ptB)) := by
  have HC : Hid (VC w w.heap.size [(w.heap.size + 1, [.string (tx l1), .string (tx l2), .int .i64 x3], 62)] [] [] ((w.alloc (.cells zs5.toArray 38)).alloc (.cells [.string (tx l1), .string (tx l2), .int .i64 x3].toArray 62))) := hqZ (VC.start (by intro r hr; cases hr) _ _)
  have HSZ : Hid (∀ u ∈ [tx l1, tx l2], u.size ≤ maxLen) := hqZ (by intro u hu; simp only [List.mem_cons, List.not_mem_nil, or_false] at hu; rcases hu with rfl | rfl; exact szTx hz1; exact szTx hz2)
  have HZ1 := hqZ hz1
  clear hz1
  have HZ2 := hqZ hz2
  clear hz2
  have HZ3 := hqZ hz3
  clear hz3
  obtain ⟨z11, hta11⟩ := tan 54 62 (.agg #[.string (tx l1), .string (tx l2), .int .i64 x3]) zero_11 (by kernel_rfl) (by decide)
  obtain ⟨z12, hta12⟩ := tan 56 62 (.agg #[.string (tx l1), .string (tx l2), .int .i64 x3]) zero_12 (by kernel_rfl) (by decide)
  obtain ⟨z13, hta13⟩ := tan 59 62 (.agg #[.string (tx l1), .string (tx l2), .int .i64 x3]) zero_13 (by kernel_rfl) (by decide)
  obtain ⟨z14, hta14⟩ := tan 60 62 (.agg #[.string (tx l1), .string (tx l2), .int .i64 x3]) zero_14 (by kernel_rfl) (by decide)
  have hta : ∀ W, (Instr.typeAssert (.iface 62 (.agg #[.string (tx l1), .string (tx l2), .int .i64 x3])) 20 62 true).run Try.prog W = .ok (.tuple #[.agg #[.string (tx l1), .string (tx l2), .int .i64 x3], .bool true]) W := fun W => ta_is _ _ _ (by kernel_rfl) W
  obtain ⟨B, hB⟩ : ∃ B, B = [.s l1, .s l2, .n x3].all ptB := ⟨_, rfl⟩
  obtain ⟨X, hX⟩ : ∃ X : Tv, X = .mk 2 15 0 [] ([.s l1, .s l2, .n x3].map ptTv) := ⟨_, rfl⟩
  rw [← hB, ← hX]
  have HB := hqZ hB
  have HX2 := hqZ hX
  clear hB hX
  go_enter Try.func10, Try.ntmps10
  go_upto_region 20 with fail
  clear hta hta11 hta12 hta13 hta14
  show Code.wp _ _ _ _ ((w.alloc (.cells zs5.toArray 38)).alloc (.cells [.string (tx l1), .string (tx l2), .int .i64 x3].toArray 62))
  obtain ⟨W0, hW0⟩ : ∃ W0, W0 = (w.alloc (.cells zs5.toArray 38)).alloc (.cells [.string (tx l1), .string (tx l2), .int .i64 x3].toArray 62) := ⟨_, rfl⟩
  rw [← hW0] at HC ⊢
  clear hW0
  obtain ⟨p, hp⟩ : ∃ p, p = w.heap.size + 1 := ⟨_, rfl⟩
  obtain ⟨q, hq⟩ : ∃ q, q = w.heap.size := ⟨_, rfl⟩
  rw [← hp, ← hq] at HC ⊢
  clear hp hq
  have HBE : Hid (B = ([tx l1, tx l2].all rightB && [x3].all timeB)) := hqZ (by rw [HB.out]; simp only [List.all_cons, List.all_nil, ptB, Bool.and_true, Bool.true_and, Bool.and_false, Bool.false_and, Bool.and_assoc]; first | done | ac_rfl)
  obtain ⟨wd, hwd⟩ : ∃ wd, wd = World.drew W0 := ⟨_, rfl⟩
  have hvd : VC w q [(p, [.string (tx l1), .string (tx l2), .int .i64 x3], 62)] [] [] wd := by rw [hwd]; exact HC.out.drew
  have HXE : Hid (X = .mk 2 15 0 [] [.mk 1 0 0 l1 [], .mk 1 0 0 l2 [], .mk 0 0 (numU x3) [] []]) := hqZ HX2.out
  have HR : Hid (∀ W, GV (fun b => q < b) q X wd W → VR w q [(p, [.string (tx l1), .string (tx l2), .int .i64 x3], 62)] [] [] W) := hqZ (fun W h => hvd.gv h)
  have HZD : Hid (∀ W, GV (fun b => q < b) q X wd W → q < W.heap.size ∧ ∀ b, W.heap.size ≤ b → q < b) := hqZ (fun W h => ⟨(HR.out W h).lt, fun b hb => Nat.lt_of_lt_of_le (HR.out W h).lt hb⟩)
  have HFq : Hid (¬ (fun b => q < b) q) := hqZ (Nat.lt_irrefl q)
  have HQW : Hid (w.heap.size = q) := hqZ hvd.hq.symm
  clear hvd HC
  refine wp_region_held (S := fun W => GV (fun b => q < b) q X wd W) (by kernel_rfl) ?_
  change wpAnyH _ _ _ _ _ _ _ _ (World.drew _)
  rw [← hwd]
  clear hwd
  refine tkH 0 165 none (.pointer (some ⟨p, 0, none⟩)) rfl (by kernel_rfl) (fun _ _ _ h => h) (by rfl) (by intro W hW; go_simp) (GV.refl _ _ _ _) ?_
  simp only [Act.put, zq1, zq2, zq3]
  refine tkH 1 166 none (.string (tx l1)) rfl (by kernel_rfl) (fun _ _ _ h => h) (by rfl) (by intro W hW; have hc : W.cell? ⟨p, 0, none⟩ = some (.string (tx l1)) := ((HR.out W hW).blkAt 0 rfl).cell 0; go_simp) (GV.refl _ _ _ _) ?_
  simp only [Act.put, zq1, zq2, zq3]
  refine tkH 3 168 none (.pointer (some ⟨p, 1, none⟩)) rfl (by kernel_rfl) (fun _ _ _ h => h) (by rfl) (by intro W hW; go_simp) (GV.refl _ _ _ _) ?_
  simp only [Act.put, zq1, zq2, zq3]
  refine tkH 4 169 none (.string (tx l2)) rfl (by kernel_rfl) (fun _ _ _ h => h) (by rfl) (by intro W hW; have hc : W.cell? ⟨p, 1, none⟩ = some (.string (tx l2)) := ((HR.out W hW).blkAt 0 rfl).cell 1; go_simp) (GV.refl _ _ _ _) ?_
  simp only [Act.put, zq1, zq2, zq3]
  refine tkH 6 171 none (.pointer (some ⟨p, 2, none⟩)) rfl (by kernel_rfl) (fun _ _ _ h => h) (by rfl) (by intro W hW; go_simp) (GV.refl _ _ _ _) ?_
  simp only [Act.put, zq1, zq2, zq3]
  refine tkH 7 172 none (.int .i64 x3) rfl (by kernel_rfl) (fun _ _ _ h => h) (by rfl) (by intro W hW; have hc : W.cell? ⟨p, 2, none⟩ = some (.int .i64 x3) := ((HR.out W hW).blkAt 0 rfl).cell 2; go_simp) (GV.refl _ _ _ _) ?_
  simp only [Act.put, zq1, zq2, zq3]
  refine tkH 11 176 none (.pointer (some ⟨p, 0, none⟩)) rfl (by kernel_rfl) (fun _ _ _ h => h) (by rfl) (by intro W hW; go_simp) (GV.refl _ _ _ _) ?_
  simp only [Act.put, zq1, zq2, zq3]
  refine tkH 12 177 none (.string (tx l1)) rfl (by kernel_rfl) (fun _ _ _ h => h) (by rfl) (by intro W hW; have hc : W.cell? ⟨p, 0, none⟩ = some (.string (tx l1)) := ((HR.out W hW).blkAt 0 rfl).cell 0; go_simp) (GV.refl _ _ _ _) ?_
  simp only [Act.put, zq1, zq2, zq3]
  refine tkH 13 178 none (.pointer (some ⟨p, 1, none⟩)) rfl (by kernel_rfl) (fun _ _ _ h => h) (by rfl) (by intro W hW; go_simp) (GV.refl _ _ _ _) ?_
  simp only [Act.put, zq1, zq2, zq3]
  refine tkH 14 179 none (.string (tx l2)) rfl (by kernel_rfl) (fun _ _ _ h => h) (by rfl) (by intro W hW; have hc : W.cell? ⟨p, 1, none⟩ = some (.string (tx l2)) := ((HR.out W hW).blkAt 0 rfl).cell 1; go_simp) (GV.refl _ _ _ _) ?_
  simp only [Act.put, zq1, zq2, zq3]
  refine tkH 16 181 none (.pointer (some ⟨p, 2, none⟩)) rfl (by kernel_rfl) (fun _ _ _ h => h) (by rfl) (by intro W hW; go_simp) (GV.refl _ _ _ _) ?_
  simp only [Act.put, zq1, zq2, zq3]
  refine tkH 17 182 none (.int .i64 x3) rfl (by kernel_rfl) (fun _ _ _ h => h) (by rfl) (by intro W hW; have hc : W.cell? ⟨p, 2, none⟩ = some (.int .i64 x3) := ((HR.out W hW).blkAt 0 rfl).cell 2; go_simp) (GV.refl _ _ _ _) ?_
  simp only [Act.put, zq1, zq2, zq3]
  refine anyH_steps (G := GV (fun b => q < b) q X) (Post := postV (fun b => q < b) q X [.any, .any, .val (.mk 1 0 0 l1 []), .any, .any, .val (.mk 1 0 0 l2 []), .any, .any, .val (.mk 0 0 (numU x3) [] []), .vals [.mk 1 0 0 l1 [], .mk 1 0 0 l2 [], .mk 0 0 (numU x3) [] []], .val (.mk 2 15 0 [] [.mk 1 0 0 l1 [], .mk 1 0 0 l2 [], .mk 0 0 (numU x3) [] []]), .any, .any, .any, .any, .row [.string (tx l1), .string (tx l2)], .any, .any, .row [.int .i64 x3], .is (.bool ([tx l1, tx l2].all rightB && [x3].all timeB)), .fin, .is (.bool ([tx l1, tx l2].all rightB && [x3].all timeB))]) (ds := [167, 170, 173, 174, 175, 180, 183, 184, 3]) (GV.refl _ _ _) GV.trans (fun W W' h g => GV.trans _ _ _ h g) (fun i v W W' h g => PK.stable HFq.out h g) [2, 5, 8, 9, 10, 15, 18, 19, 20, 21] 397 rfl (by decide +kernel) (by decide +kernel) ?_ ?_ (GV.refl _ _ _ _) (by decide +kernel)
  · refine AllSteps.cons (o := { dst := some 167, op := .call { callee := .value (.func 26), args := #[.tmp 166], argTypes := #[9] }, type := _, pos := _, after := _, guard := none }) rfl (fun a W hf hS hd K hK => ?_) ?_
    · have e166 : a.eval (.tmp 166) = .string (tx l1) := hf.lit 166 (by decide) rfl
      exact stepV_mk (wanted_none rfl) rfl enters_mtext (vs := #[.string (tx l1)]) (by simp [e166]) (mtext_any l1 W HZ1.out) (HZD.out W hS).1 (HZD.out W hS).2 hK
    refine AllSteps.cons (o := { dst := some 170, op := .call { callee := .value (.func 26), args := #[.tmp 169], argTypes := #[9] }, type := _, pos := _, after := _, guard := none }) rfl (fun a W hf hS hd K hK => ?_) ?_
    · have e169 : a.eval (.tmp 169) = .string (tx l2) := hf.lit 169 (by decide) rfl
      exact stepV_mk (wanted_none rfl) rfl enters_mtext (vs := #[.string (tx l2)]) (by simp [e169]) (mtext_any l2 W HZ2.out) (HZD.out W hS).1 (HZD.out W hS).2 hK
    refine AllSteps.cons (o := { dst := some 173, op := .call { callee := .value (.func 27), args := #[.tmp 172], argTypes := #[2] }, type := _, pos := _, after := _, guard := none }) rfl (fun a W hf hS hd K hK => ?_) ?_
    · have e172 : a.eval (.tmp 172) = .int .i64 x3 := hf.lit 172 (by decide) rfl
      exact stepV_mk (wanted_none rfl) rfl enters_mnum (vs := #[.int .i64 x3]) (by simp [e172]) (mnumI_any x3 W HZ3.out.1 HZ3.out.2) (HZD.out W hS).1 (HZD.out W hS).2 hK
    refine AllSteps.cons (o := { dst := some 174, op := .buildSlice 36 3 #[(0, .tmp 167), (1, .tmp 170), (2, .tmp 173)], type := _, pos := _, after := _, guard := none }) rfl (fun a W hf hS hd K hK => ?_) ?_
    · have d167 := (hd 2 (by decide +kernel)).get (s := 167) rfl
      have d170 := (hd 5 (by decide +kernel)).get (s := 170) rfl
      have d173 := (hd 8 (by decide +kernel)).get (s := 173) rfl
      exact stepV_vals (wanted_none rfl) rfl elDer (ps := [.tmp 167, .tmp 170, .tmp 173]) rfl (l := [.mk 1 0 0 l1 [], .mk 1 0 0 l2 [], .mk 0 0 (numU x3) [] []]) ⟨d167, d170, d173, trivial⟩ rfl (by decide) (by decide) (HZD.out W hS).1 (HZD.out W hS).2 hK
    refine AllSteps.cons (o := { dst := some 175, op := .call { callee := .value (.func 25), args := #[.const (.int .i64 15), .tmp 174], argTypes := #[3, 36] }, type := _, pos := _, after := _, guard := none }) rfl (fun a W hf hS hd K hK => ?_) ?_
    · have d174 := (hd 9 (by decide +kernel)).get (s := 174) rfl
      exact stepV_seq (wanted_none rfl) rfl enters_seq d174 (HZD.out W hS).1 (fun v w1 h1 h2 => hK v w1 h1 h2) HFq.out
    refine AllSteps.cons (o := { dst := some 180, op := .buildSlice 93 2 #[(0, .tmp 177), (1, .tmp 179)], type := _, pos := _, after := _, guard := none }) rfl (fun a W hf hS hd K hK => ?_) ?_
    · have e177 : a.eval (.tmp 177) = .string (tx l1) := hf.lit 177 (by decide) rfl
      have e179 : a.eval (.tmp 179) = .string (tx l2) := hf.lit 179 (by decide) rfl
      exact stepV_row (wanted_none rfl) rfl elStr (ps := [.tmp 177, .tmp 179]) rfl (cs := [.string (tx l1), .string (tx l2)]) (by simp only [List.map_cons, List.map_nil, e177, e179]) (by intro u hu; simp only [List.mem_cons, List.not_mem_nil, or_false] at hu; rcases hu with rfl | rfl <;> exact ⟨rfl, rfl⟩) rfl (by decide) (by decide) (HZD.out W hS).1 (HZD.out W hS).2 hK
    refine AllSteps.cons (o := { dst := some 183, op := .buildSlice 116 1 #[(0, .tmp 182)], type := _, pos := _, after := _, guard := none }) rfl (fun a W hf hS hd K hK => ?_) ?_
    · have e182 : a.eval (.tmp 182) = .int .i64 x3 := hf.lit 182 (by decide) rfl
      exact stepV_row (wanted_none rfl) rfl elI64 (ps := [.tmp 182]) rfl (cs := [.int .i64 x3]) (by simp only [List.map_cons, List.map_nil, e182]) (by intro u hu; simp only [List.mem_cons, List.not_mem_nil, or_false] at hu; rcases hu with rfl <;> exact ⟨rfl, rfl⟩) rfl (by decide) (by decide) (HZD.out W hS).1 (HZD.out W hS).2 hK
    refine AllSteps.cons (o := { dst := some 184, op := .call { callee := .value (.func 29), args := #[.tmp 180, .tmp 183], argTypes := #[93, 116] }, type := _, pos := _, after := _, guard := none }) rfl (fun a W hf hS hd K hK => ?_) ?_
    · have d180 := (hd 15 (by decide +kernel)).get (s := 180) rfl
      have d183 := (hd 18 (by decide +kernel)).get (s := 183) rfl
      exact stepV_is (wanted_none rfl) rfl enters_mright (vs := #[a.eval (.tmp 180), a.eval (.tmp 183)]) (by first | (simp only [List.map_toArray, List.map_cons, List.map_nil]; done) | (simp only [List.map_toArray, List.map_cons, List.map_nil]; rfl)) (u := (.bool ([tx l1, tx l2].all rightB && [x3].all timeB))) (mright_any [tx l1, tx l2] [x3] _ _ W d180.1 d183.1 HSZ.out) (HZD.out W hS).1 hK
    refine AllSteps.cons (o := { dst := none, op := .store 38 (.tmp 2) (.tmp 175), type := _, pos := _, after := _, guard := none }) rfl (fun a W hf hS hd K hK => ?_) ?_
    · have e2 : a.eval (.tmp 2) = .pointer (some ⟨q, 0, none⟩) := hf.lit 2 (by decide) rfl
      have d175 := (hd 10 (by decide +kernel)).get (s := 175) rfl
      obtain ⟨cur, hc1, hc2⟩ := (HR.out W hS).len
      rw [← HXE.out] at d175
      exact stepV_fin (wanted_none rfl) rfl e2 d175 hc1 hc2 HFq.out hK
    refine AllSteps.cons (o := { dst := some 3, op := .assign (.tmp 184), type := _, pos := _, after := _, guard := none }) rfl (fun a W hf hS hd K hK => ?_) ?_
    · have d184 := (hd 19 (by decide +kernel)).get (s := 184) rfl
      exact step_val (wanted_none rfl) (exec_asg rfl rfl) (hK _ _ (GV.refl _ _ _ _) d184)
    exact AllSteps.nil
  · intro a W hf hS hp
    have h3 := (hp 21 (by decide)).get (s := 3) rfl
    obtain ⟨v, cs, h5, h6⟩ := (hp 20 (by decide)).fin
    have e2 : a.eval (.tmp 2) = .pointer (some ⟨q, 0, none⟩) := hf.lit 2 (by decide) rfl
    go_wp2_with fail
    refine bodyPost_ret (results_agg_tmp rfl aggDer (show a.tmps.getD 2 undef = _ from e2) h6.length h5.cellsAll) hf.defers ⟨cs, ?_, ?_, (HR.out W hS).below⟩
    · rw [HBE.out, show a.tmps.getD 3 undef = .bool ([tx l1, tx l2].all rightB && [x3].all timeB) from h3]
    · exact h6.mono (fun b hb => by have := HQW.out; omega)
set_option maxHeartbeats 16000000 in
set_option maxRecDepth 100000 in
theorem msgValue_12 (F0 : Nat → Prop) (l1 : List UInt8) (l2 m2 : List UInt8) (v2 : Value) (l3 : List UInt8) (v3 : Value) (w : World) (hz1 : l1.length ≤ 140737488355328) (hb2 : Bs w v2 m2) (hz2 : l2.length ≤ 140737488355328 ∧ m2.length ≤ 140737488355328) (hb3 : Bs w v3 l3) (hz3 : l3.length ≤ 140737488355328) :
    Calls Try.prog 10 #[.iface 56 (.agg #[.string (tx l1), .string (tx l2), v2, v3])] w (VlRes w (.mk 2 12 0 [] ([.s l1, .i (l2, m2), .b l3].map ptTv)) ([.s l1, .i (l2, m2), .b l3].all ptB)) := by
  obtain ⟨a2, c2, rfl, hc2, hm2⟩ := hb2.form
  obtain ⟨a3, c3, rfl, hc3, hm3⟩ := hb3.form
  have HC : Hid (VC w w.heap.size [(w.heap.size + 1, [.string (tx l1), .string (tx l2), .slice a2 m2.length c2, .slice a3 l3.length c3], 56)] [] [(.slice a2 m2.length c2, m2), (.slice a3 l3.length c3, l3)] ((w.alloc (.cells zs5.toArray 38)).alloc (.cells [.string (tx l1), .string (tx l2), .slice a2 m2.length c2, .slice a3 l3.length c3].toArray 56))) := hqZ (VC.start (by intro r hr; simp only [List.mem_cons, List.not_mem_nil, or_false] at hr; rcases hr with rfl | rfl; exact hb2; exact hb3) _ _)
  have HSZ : Hid (∀ u ∈ [tx l1], u.size ≤ maxLen) := hqZ (by intro u hu; simp only [List.mem_cons, List.not_mem_nil, or_false] at hu; rcases hu with rfl; exact szTx hz1)
  have HZ1 := hqZ hz1
  clear hz1
  have HZ2 := hqZ hz2
  clear hz2
  have HZ3 := hqZ hz3
  clear hz3
  clear hb2
  clear hb3
  obtain ⟨z11, hta11⟩ := tan 54 56 (.agg #[.string (tx l1), .string (tx l2), .slice a2 m2.length c2, .slice a3 l3.length c3]) zero_11 (by kernel_rfl) (by decide)
  have hta : ∀ W, (Instr.typeAssert (.iface 56 (.agg #[.string (tx l1), .string (tx l2), .slice a2 m2.length c2, .slice a3 l3.length c3])) 20 56 true).run Try.prog W = .ok (.tuple #[.agg #[.string (tx l1), .string (tx l2), .slice a2 m2.length c2, .slice a3 l3.length c3], .bool true]) W := fun W => ta_is _ _ _ (by kernel_rfl) W
  obtain ⟨B, hB⟩ : ∃ B, B = [.s l1, .i (l2, m2), .b l3].all ptB := ⟨_, rfl⟩
  obtain ⟨X, hX⟩ : ∃ X : Tv, X = .mk 2 12 0 [] ([.s l1, .i (l2, m2), .b l3].map ptTv) := ⟨_, rfl⟩
  rw [← hB, ← hX]
  have HB := hqZ hB
  have HX2 := hqZ hX
  clear hB hX
  go_enter Try.func10, Try.ntmps10
  go_upto_region 7 with fail
  clear hta hta11
  show Code.wp _ _ _ _ ((w.alloc (.cells zs5.toArray 38)).alloc (.cells [.string (tx l1), .string (tx l2), .slice a2 m2.length c2, .slice a3 l3.length c3].toArray 56))
  obtain ⟨W0, hW0⟩ : ∃ W0, W0 = (w.alloc (.cells zs5.toArray 38)).alloc (.cells [.string (tx l1), .string (tx l2), .slice a2 m2.length c2, .slice a3 l3.length c3].toArray 56) := ⟨_, rfl⟩
  rw [← hW0] at HC ⊢
  clear hW0
  obtain ⟨p, hp⟩ : ∃ p, p = w.heap.size + 1 := ⟨_, rfl⟩
  obtain ⟨q, hq⟩ : ∃ q, q = w.heap.size := ⟨_, rfl⟩
  rw [← hp, ← hq] at HC ⊢
  clear hp hq
  have HTV1 := hqZ (tickValue_any (l2, m2) (.slice a2 m2.length c2) W0 (HC.out.rowAt 0 rfl) HZ2.out.1 HZ2.out.2)
  have HM1 := hqZ (HC.out.blkAt 0 rfl)
  rw [show rightB (tx (l2, m2).1) = rT (l2, m2) from rfl] at HTV1
  go_wp2_with ((with_reducible show wpList _ _ _ (⟨some 62, _, _, _, _, _⟩ :: _) _ _); refine wpList_ldAgg rfl (.tmp 61) aggTicket rfl rfl (cs := [.string (tx l2), .slice a2 m2.length c2]) rfl (HM1.out.cellsAt 1 2) ?_)
  refine HTV1.out.mono ?_
  rintro e wa1 ⟨cs1, rfl, htv, hb⟩
  have HCa1 := hqZ (HC.out.step hb)
  have HTT1 : Hid (TvF wa1 (fun b => q < b) (tkTv (l2, m2)) cs1) := hqZ (htv.mono (fun b hb => by have := HC.out.lt; omega))
  have HCL1 := hqZ htv.length
  have HCO1 := hqZ htv.one
  have HN1 := hqZ (Blk.new wa1 zs5 38)
  clear htv hb HTV1
  go_upto_region 8 with ((with_reducible show wpList _ _ _ (⟨none, .store _ (.tmp 6) (.tmp 65), _, _, _, _⟩ :: _) _ _); refine wpList_stAgg rfl (.tmp 6) (.tmp 65) aggDer rfl rfl (vs := cs1) rfl HCL1.out HN1.out (Nat.le_refl _) HCO1.out ?_)
  intro wb1 h2 k2
  have h2' : Blk wb1 wa1.heap.size cs1 38 := by
    rw [List.drop_of_length_le (by decide), List.append_nil] at h2
    exact h2
  have hb2 : Below wa1.heap.size wa1 wb1 := ((Below.refl _ _).alloc (Nat.le_refl _) _).trans (k2.below (by omega))
  have HCb1 := hqZ (((HCa1.out.addTree HTT1.out).step hb2).addBlk h2' HCa1.out.lt)
  obtain ⟨p1, hp1⟩ : ∃ p1, p1 = wa1.heap.size := ⟨_, rfl⟩
  rw [← hp1] at HCb1 ⊢
  clear h2 k2 h2' hb2 hp1 HCa1 HTT1 HN1 HCO1
  go_upto_region 8 with fail
  cases hok7 : rT (l2, m2) with
  | false =>
    have HOK7 := hqZ hok7
    clear hok7
    have HBE : Hid (B = false) := hqZ (by rw [HB.out]; simp only [List.all_cons, List.all_nil, ptB, HOK7.out, Bool.and_true, Bool.true_and, Bool.and_false, Bool.false_and, Bool.and_assoc])
    obtain ⟨wd, hwd⟩ : ∃ wd, wd = World.drew wb1 := ⟨_, rfl⟩
    have hvd : VC w q [(p, [.string (tx l1), .string (tx l2), .slice a2 m2.length c2, .slice a3 l3.length c3], 56), (p1, cs1, 38)] [(tkTv (l2, m2), cs1)] [(.slice a2 m2.length c2, m2), (.slice a3 l3.length c3, l3)] wd := by rw [hwd]; exact HCb1.out.drew
    have HXE : Hid (X = .mk 2 12 0 [] [.mk 1 0 0 l1 [], tkTv (l2, m2), .mk 1 0 0 l3 []]) := hqZ HX2.out
    have HR : Hid (∀ W, GV (fun b => q < b) q X wd W → VR w q [(p, [.string (tx l1), .string (tx l2), .slice a2 m2.length c2, .slice a3 l3.length c3], 56), (p1, cs1, 38)] [(tkTv (l2, m2), cs1)] [(.slice a2 m2.length c2, m2), (.slice a3 l3.length c3, l3)] W) := hqZ (fun W h => hvd.gv h)
    have HZD : Hid (∀ W, GV (fun b => q < b) q X wd W → q < W.heap.size ∧ ∀ b, W.heap.size ≤ b → q < b) := hqZ (fun W h => ⟨(HR.out W h).lt, fun b hb => Nat.lt_of_lt_of_le (HR.out W h).lt hb⟩)
    have HFq : Hid (¬ (fun b => q < b) q) := hqZ (Nat.lt_irrefl q)
    have HQW : Hid (w.heap.size = q) := hqZ hvd.hq.symm
    clear hvd HCb1
    refine wp_region_held (S := fun W => GV (fun b => q < b) q X wd W) (by kernel_rfl) ?_
    change wpAnyH _ _ _ _ _ _ _ _ (World.drew _)
    rw [← hwd]
    clear hwd
    refine tkH 0 67 none (.pointer (some ⟨p, 0, none⟩)) rfl (by kernel_rfl) (fun _ _ _ h => h) (by rfl) (by intro W hW; go_simp) (GV.refl _ _ _ _) ?_
    simp only [Act.put, zq1, zq2, zq3]
    refine tkH 1 68 none (.string (tx l1)) rfl (by kernel_rfl) (fun _ _ _ h => h) (by rfl) (by intro W hW; have hc : W.cell? ⟨p, 0, none⟩ = some (.string (tx l1)) := ((HR.out W hW).blkAt 0 rfl).cell 0; go_simp) (GV.refl _ _ _ _) ?_
    simp only [Act.put, zq1, zq2, zq3]
    refine tkH 3 70 none (.agg cs1.toArray) rfl (by kernel_rfl) (fun _ _ _ h => h) (by rfl) (by intro W hW; exact exec_ldAgg rfl aggDer rfl HCL1.out ((HR.out W hW).blkAt 1 rfl).cellsAll) (GV.refl _ _ _ _) ?_
    simp only [Act.put, zq1, zq2, zq3]
    refine tkH 4 71 none (.pointer (some ⟨p, 3, none⟩)) rfl (by kernel_rfl) (fun _ _ _ h => h) (by rfl) (by intro W hW; go_simp) (GV.refl _ _ _ _) ?_
    simp only [Act.put, zq1, zq2, zq3]
    refine tkH 5 72 none (.slice a3 l3.length c3) rfl (by kernel_rfl) (fun _ _ _ h => h) (by rfl) (by intro W hW; have hc : W.cell? ⟨p, 3, none⟩ = some (.slice a3 l3.length c3) := ((HR.out W hW).blkAt 0 rfl).cell 3; go_simp) (GV.refl _ _ _ _) ?_
    simp only [Act.put, zq1, zq2, zq3]
    refine tkH 9 76 none (.bool false) rfl (by kernel_rfl) (fun _ _ _ h => h) (by rfl) (by intro W hW; go_simp) (GV.refl _ _ _ _) ?_
    simp only [Act.put, zq1, zq2, zq3]
    refine anyH_steps (G := GV (fun b => q < b) q X) (Post := postV (fun b => q < b) q X [.any, .any, .val (.mk 1 0 0 l1 []), .any, .any, .any, .val (.mk 1 0 0 l3 []), .vals [.mk 1 0 0 l1 [], tkTv (l2, m2), .mk 1 0 0 l3 []], .val (.mk 2 12 0 [] [.mk 1 0 0 l1 [], tkTv (l2, m2), .mk 1 0 0 l3 []]), .any, .is (.bool false), .any, .any, .any, .any, .is (.bool false), .fin, .is (.bool false)]) (ds := [69, 73, 74, 75, 77, 78, 79, 80, 81, 82, 3]) (GV.refl _ _ _) GV.trans (fun W W' h g => GV.trans _ _ _ h g) (fun i v W W' h g => PK.stable HFq.out h g) [2, 6, 7, 8, 10, 11, 12, 13, 14, 15, 16, 17] 397 rfl (by decide +kernel) (by decide +kernel) ?_ ?_ (GV.refl _ _ _ _) (by decide +kernel)
    · refine AllSteps.cons (o := { dst := some 69, op := .call { callee := .value (.func 26), args := #[.tmp 68], argTypes := #[9] }, type := _, pos := _, after := _, guard := none }) rfl (fun a W hf hS hd K hK => ?_) ?_
      · have e68 : a.eval (.tmp 68) = .string (tx l1) := hf.lit 68 (by decide) rfl
        exact stepV_mk (wanted_none rfl) rfl enters_mtext (vs := #[.string (tx l1)]) (by simp [e68]) (mtext_any l1 W HZ1.out) (HZD.out W hS).1 (HZD.out W hS).2 hK
      refine AllSteps.cons (o := { dst := some 73, op := .call { callee := .value (.func 28), args := #[.tmp 72], argTypes := #[22] }, type := _, pos := _, after := _, guard := none }) rfl (fun a W hf hS hd K hK => ?_) ?_
      · have e72 : a.eval (.tmp 72) = .slice a3 l3.length c3 := hf.lit 72 (by decide) rfl
        exact stepV_mk (wanted_none rfl) rfl enters_raw (vs := #[.slice a3 l3.length c3]) (by simp [e72]) (rawNew_any _ l3 W ((HR.out W hS).rowAt 1 rfl) HZ3.out) (HZD.out W hS).1 (HZD.out W hS).2 hK
      refine AllSteps.cons (o := { dst := some 74, op := .buildSlice 36 3 #[(0, .tmp 69), (1, .tmp 70), (2, .tmp 73)], type := _, pos := _, after := _, guard := none }) rfl (fun a W hf hS hd K hK => ?_) ?_
      · have d69 := (hd 2 (by decide +kernel)).get (s := 69) rfl
        have e70 : a.eval (.tmp 70) = .agg cs1.toArray := hf.lit 70 (by decide) rfl
        have d73 := (hd 6 (by decide +kernel)).get (s := 73) rfl
        exact stepV_vals (wanted_none rfl) rfl elDer (ps := [.tmp 69, .tmp 70, .tmp 73]) rfl (l := [.mk 1 0 0 l1 [], tkTv (l2, m2), .mk 1 0 0 l3 []]) ⟨d69, ⟨_, e70, (HR.out W hS).treeAt 0 rfl⟩, d73, trivial⟩ rfl (by decide) (by decide) (HZD.out W hS).1 (HZD.out W hS).2 hK
      refine AllSteps.cons (o := { dst := some 75, op := .call { callee := .value (.func 25), args := #[.const (.int .i64 12), .tmp 74], argTypes := #[3, 36] }, type := _, pos := _, after := _, guard := none }) rfl (fun a W hf hS hd K hK => ?_) ?_
      · have d74 := (hd 7 (by decide +kernel)).get (s := 74) rfl
        exact stepV_seq (wanted_none rfl) rfl enters_seq d74 (HZD.out W hS).1 (fun v w1 h1 h2 => hK v w1 h1 h2) HFq.out
      refine AllSteps.cons (o := { dst := some 77, op := .move (.tmp 76), type := _, pos := _, after := _, guard := none }) rfl (fun a W hf hS hd K hK => ?_) ?_
      · have e76 : a.eval (.tmp 76) = .bool false := hf.lit 76 (by decide) rfl
        exact step_val (v := .bool false) (wanted_none rfl) (exec_move rfl e76) (hK _ _ (GV.refl _ _ _ _) rfl)
      refine AllSteps.cons (o := { dst := some 78, op := .fieldAddr 56 (.tmp 5) 0, type := _, pos := _, after := _, guard := some (10, true) }) rfl (fun a W hf hS hd K hK => ?_) ?_
      · have e77 : a.eval (.tmp 77) = .bool false := (hd 10 (by decide +kernel)).get (s := 77) rfl
        exact step_skip (wanted_no rfl rfl e77 rfl) (hK _ _ (GV.refl _ _ _ _) trivial)
      refine AllSteps.cons (o := { dst := some 79, op := .load 9 (.tmp 78), type := _, pos := _, after := _, guard := some (10, true) }) rfl (fun a W hf hS hd K hK => ?_) ?_
      · have e77 : a.eval (.tmp 77) = .bool false := (hd 10 (by decide +kernel)).get (s := 77) rfl
        exact step_skip (wanted_no rfl rfl e77 rfl) (hK _ _ (GV.refl _ _ _ _) trivial)
      refine AllSteps.cons (o := { dst := some 80, op := .buildSlice 93 1 #[(0, .tmp 79)], type := _, pos := _, after := _, guard := some (10, true) }) rfl (fun a W hf hS hd K hK => ?_) ?_
      · have e77 : a.eval (.tmp 77) = .bool false := (hd 10 (by decide +kernel)).get (s := 77) rfl
        exact step_skip (wanted_no rfl rfl e77 rfl) (hK _ _ (GV.refl _ _ _ _) trivial)
      refine AllSteps.cons (o := { dst := some 81, op := .call { callee := .value (.func 29), args := #[.tmp 80, .const (.slice none 0 0)], argTypes := #[93, 116] }, type := _, pos := _, after := _, guard := some (10, true) }) rfl (fun a W hf hS hd K hK => ?_) ?_
      · have e77 : a.eval (.tmp 77) = .bool false := (hd 10 (by decide +kernel)).get (s := 77) rfl
        exact step_skip (wanted_no rfl rfl e77 rfl) (hK _ _ (GV.refl _ _ _ _) trivial)
      refine AllSteps.cons (o := { dst := some 82, op := .pick (.tmp 77) (.tmp 81) (.const (.bool false)), type := _, pos := _, after := _, guard := none }) rfl (fun a W hf hS hd K hK => ?_) ?_
      · have e77 : a.eval (.tmp 77) = .bool false := (hd 10 (by decide +kernel)).get (s := 77) rfl
        exact step_val (v := .bool false) (wanted_none rfl) (exec_pickF rfl e77 rfl) (hK _ _ (GV.refl _ _ _ _) rfl)
      refine AllSteps.cons (o := { dst := none, op := .store 38 (.tmp 2) (.tmp 75), type := _, pos := _, after := _, guard := none }) rfl (fun a W hf hS hd K hK => ?_) ?_
      · have e2 : a.eval (.tmp 2) = .pointer (some ⟨q, 0, none⟩) := hf.lit 2 (by decide) rfl
        have d75 := (hd 8 (by decide +kernel)).get (s := 75) rfl
        obtain ⟨cur, hc1, hc2⟩ := (HR.out W hS).len
        rw [← HXE.out] at d75
        exact stepV_fin (wanted_none rfl) rfl e2 d75 hc1 hc2 HFq.out hK
      refine AllSteps.cons (o := { dst := some 3, op := .assign (.tmp 82), type := _, pos := _, after := _, guard := none }) rfl (fun a W hf hS hd K hK => ?_) ?_
      · have e82 : a.eval (.tmp 82) = .bool false := (hd 15 (by decide +kernel)).get (s := 82) rfl
        exact step_val (wanted_none rfl) (exec_asg rfl rfl) (hK _ _ (GV.refl _ _ _ _) e82)
      exact AllSteps.nil
    · intro a W hf hS hp
      have h3 := (hp 17 (by decide)).get (s := 3) rfl
      obtain ⟨v, cs, h5, h6⟩ := (hp 16 (by decide)).fin
      have e2 : a.eval (.tmp 2) = .pointer (some ⟨q, 0, none⟩) := hf.lit 2 (by decide) rfl
      go_wp2_with fail
      refine bodyPost_ret (results_agg_tmp rfl aggDer (show a.tmps.getD 2 undef = _ from e2) h6.length h5.cellsAll) hf.defers ⟨cs, ?_, ?_, (HR.out W hS).below⟩
      · rw [HBE.out, show a.tmps.getD 3 undef = .bool false from h3]
      · exact h6.mono (fun b hb => by have := HQW.out; omega)
  | true =>
    have HOK7 := hqZ hok7
    clear hok7
    have HBE : Hid (B = ([tx l1].all rightB && [].all timeB)) := hqZ (by rw [HB.out]; simp only [List.all_cons, List.all_nil, ptB, HOK7.out, Bool.and_true, Bool.true_and, Bool.and_false, Bool.false_and, Bool.and_assoc]; first | done | ac_rfl)
    obtain ⟨wd, hwd⟩ : ∃ wd, wd = World.drew wb1 := ⟨_, rfl⟩
    have hvd : VC w q [(p, [.string (tx l1), .string (tx l2), .slice a2 m2.length c2, .slice a3 l3.length c3], 56), (p1, cs1, 38)] [(tkTv (l2, m2), cs1)] [(.slice a2 m2.length c2, m2), (.slice a3 l3.length c3, l3)] wd := by rw [hwd]; exact HCb1.out.drew
    have HXE : Hid (X = .mk 2 12 0 [] [.mk 1 0 0 l1 [], tkTv (l2, m2), .mk 1 0 0 l3 []]) := hqZ HX2.out
    have HR : Hid (∀ W, GV (fun b => q < b) q X wd W → VR w q [(p, [.string (tx l1), .string (tx l2), .slice a2 m2.length c2, .slice a3 l3.length c3], 56), (p1, cs1, 38)] [(tkTv (l2, m2), cs1)] [(.slice a2 m2.length c2, m2), (.slice a3 l3.length c3, l3)] W) := hqZ (fun W h => hvd.gv h)
    have HZD : Hid (∀ W, GV (fun b => q < b) q X wd W → q < W.heap.size ∧ ∀ b, W.heap.size ≤ b → q < b) := hqZ (fun W h => ⟨(HR.out W h).lt, fun b hb => Nat.lt_of_lt_of_le (HR.out W h).lt hb⟩)
    have HFq : Hid (¬ (fun b => q < b) q) := hqZ (Nat.lt_irrefl q)
    have HQW : Hid (w.heap.size = q) := hqZ hvd.hq.symm
    clear hvd HCb1
    refine wp_region_held (S := fun W => GV (fun b => q < b) q X wd W) (by kernel_rfl) ?_
    change wpAnyH _ _ _ _ _ _ _ _ (World.drew _)
    rw [← hwd]
    clear hwd
    refine tkH 0 67 none (.pointer (some ⟨p, 0, none⟩)) rfl (by kernel_rfl) (fun _ _ _ h => h) (by rfl) (by intro W hW; go_simp) (GV.refl _ _ _ _) ?_
    simp only [Act.put, zq1, zq2, zq3]
    refine tkH 1 68 none (.string (tx l1)) rfl (by kernel_rfl) (fun _ _ _ h => h) (by rfl) (by intro W hW; have hc : W.cell? ⟨p, 0, none⟩ = some (.string (tx l1)) := ((HR.out W hW).blkAt 0 rfl).cell 0; go_simp) (GV.refl _ _ _ _) ?_
    simp only [Act.put, zq1, zq2, zq3]
    refine tkH 3 70 none (.agg cs1.toArray) rfl (by kernel_rfl) (fun _ _ _ h => h) (by rfl) (by intro W hW; exact exec_ldAgg rfl aggDer rfl HCL1.out ((HR.out W hW).blkAt 1 rfl).cellsAll) (GV.refl _ _ _ _) ?_
    simp only [Act.put, zq1, zq2, zq3]
    refine tkH 4 71 none (.pointer (some ⟨p, 3, none⟩)) rfl (by kernel_rfl) (fun _ _ _ h => h) (by rfl) (by intro W hW; go_simp) (GV.refl _ _ _ _) ?_
    simp only [Act.put, zq1, zq2, zq3]
    refine tkH 5 72 none (.slice a3 l3.length c3) rfl (by kernel_rfl) (fun _ _ _ h => h) (by rfl) (by intro W hW; have hc : W.cell? ⟨p, 3, none⟩ = some (.slice a3 l3.length c3) := ((HR.out W hW).blkAt 0 rfl).cell 3; go_simp) (GV.refl _ _ _ _) ?_
    simp only [Act.put, zq1, zq2, zq3]
    refine tkH 9 76 none (.bool true) rfl (by kernel_rfl) (fun _ _ _ h => h) (by rfl) (by intro W hW; go_simp) (GV.refl _ _ _ _) ?_
    simp only [Act.put, zq1, zq2, zq3]
    refine anyH_steps (G := GV (fun b => q < b) q X) (Post := postV (fun b => q < b) q X [.any, .any, .val (.mk 1 0 0 l1 []), .any, .any, .any, .val (.mk 1 0 0 l3 []), .vals [.mk 1 0 0 l1 [], tkTv (l2, m2), .mk 1 0 0 l3 []], .val (.mk 2 12 0 [] [.mk 1 0 0 l1 [], tkTv (l2, m2), .mk 1 0 0 l3 []]), .any, .is (.bool true), .is (.pointer (some ⟨p, 0, none⟩)), .is (.string (tx l1)), .row [.string (tx l1)], .is (.bool ([tx l1].all rightB && [].all timeB)), .is (.bool ([tx l1].all rightB && [].all timeB)), .fin, .is (.bool ([tx l1].all rightB && [].all timeB))]) (ds := [69, 73, 74, 75, 77, 78, 79, 80, 81, 82, 3]) (GV.refl _ _ _) GV.trans (fun W W' h g => GV.trans _ _ _ h g) (fun i v W W' h g => PK.stable HFq.out h g) [2, 6, 7, 8, 10, 11, 12, 13, 14, 15, 16, 17] 397 rfl (by decide +kernel) (by decide +kernel) ?_ ?_ (GV.refl _ _ _ _) (by decide +kernel)
    · refine AllSteps.cons (o := { dst := some 69, op := .call { callee := .value (.func 26), args := #[.tmp 68], argTypes := #[9] }, type := _, pos := _, after := _, guard := none }) rfl (fun a W hf hS hd K hK => ?_) ?_
      · have e68 : a.eval (.tmp 68) = .string (tx l1) := hf.lit 68 (by decide) rfl
        exact stepV_mk (wanted_none rfl) rfl enters_mtext (vs := #[.string (tx l1)]) (by simp [e68]) (mtext_any l1 W HZ1.out) (HZD.out W hS).1 (HZD.out W hS).2 hK
      refine AllSteps.cons (o := { dst := some 73, op := .call { callee := .value (.func 28), args := #[.tmp 72], argTypes := #[22] }, type := _, pos := _, after := _, guard := none }) rfl (fun a W hf hS hd K hK => ?_) ?_
      · have e72 : a.eval (.tmp 72) = .slice a3 l3.length c3 := hf.lit 72 (by decide) rfl
        exact stepV_mk (wanted_none rfl) rfl enters_raw (vs := #[.slice a3 l3.length c3]) (by simp [e72]) (rawNew_any _ l3 W ((HR.out W hS).rowAt 1 rfl) HZ3.out) (HZD.out W hS).1 (HZD.out W hS).2 hK
      refine AllSteps.cons (o := { dst := some 74, op := .buildSlice 36 3 #[(0, .tmp 69), (1, .tmp 70), (2, .tmp 73)], type := _, pos := _, after := _, guard := none }) rfl (fun a W hf hS hd K hK => ?_) ?_
      · have d69 := (hd 2 (by decide +kernel)).get (s := 69) rfl
        have e70 : a.eval (.tmp 70) = .agg cs1.toArray := hf.lit 70 (by decide) rfl
        have d73 := (hd 6 (by decide +kernel)).get (s := 73) rfl
        exact stepV_vals (wanted_none rfl) rfl elDer (ps := [.tmp 69, .tmp 70, .tmp 73]) rfl (l := [.mk 1 0 0 l1 [], tkTv (l2, m2), .mk 1 0 0 l3 []]) ⟨d69, ⟨_, e70, (HR.out W hS).treeAt 0 rfl⟩, d73, trivial⟩ rfl (by decide) (by decide) (HZD.out W hS).1 (HZD.out W hS).2 hK
      refine AllSteps.cons (o := { dst := some 75, op := .call { callee := .value (.func 25), args := #[.const (.int .i64 12), .tmp 74], argTypes := #[3, 36] }, type := _, pos := _, after := _, guard := none }) rfl (fun a W hf hS hd K hK => ?_) ?_
      · have d74 := (hd 7 (by decide +kernel)).get (s := 74) rfl
        exact stepV_seq (wanted_none rfl) rfl enters_seq d74 (HZD.out W hS).1 (fun v w1 h1 h2 => hK v w1 h1 h2) HFq.out
      refine AllSteps.cons (o := { dst := some 77, op := .move (.tmp 76), type := _, pos := _, after := _, guard := none }) rfl (fun a W hf hS hd K hK => ?_) ?_
      · have e76 : a.eval (.tmp 76) = .bool true := hf.lit 76 (by decide) rfl
        exact step_val (v := .bool true) (wanted_none rfl) (exec_move rfl e76) (hK _ _ (GV.refl _ _ _ _) rfl)
      refine AllSteps.cons (o := { dst := some 78, op := .fieldAddr 56 (.tmp 5) 0, type := _, pos := _, after := _, guard := some (10, true) }) rfl (fun a W hf hS hd K hK => ?_) ?_
      · have e77 : a.eval (.tmp 77) = .bool true := (hd 10 (by decide +kernel)).get (s := 77) rfl
        have e5 : a.eval (.tmp 5) = .pointer (some ⟨p, 0, none⟩) := hf.lit 5 (by decide) rfl
        exact step_val (v := .pointer (some ⟨p, 0, none⟩)) (wanted_some rfl rfl e77) (exec_field rfl e5 (by go_simp)) (hK _ _ (GV.refl _ _ _ _) rfl)
      refine AllSteps.cons (o := { dst := some 79, op := .load 9 (.tmp 78), type := _, pos := _, after := _, guard := some (10, true) }) rfl (fun a W hf hS hd K hK => ?_) ?_
      · have e77 : a.eval (.tmp 77) = .bool true := (hd 10 (by decide +kernel)).get (s := 77) rfl
        have e78 : a.eval (.tmp 78) = .pointer (some ⟨p, 0, none⟩) := (hd 11 (by decide +kernel)).get (s := 78) rfl
        have hc : W.cell? ⟨p, 0, none⟩ = some (.string (tx l1)) := ((HR.out W hS).blkAt 0 rfl).cell 0
        exact step_val (v := .string (tx l1)) (wanted_some rfl rfl e77) (exec_load rfl e78 (by go_simp)) (hK _ _ (GV.refl _ _ _ _) rfl)
      refine AllSteps.cons (o := { dst := some 80, op := .buildSlice 93 1 #[(0, .tmp 79)], type := _, pos := _, after := _, guard := some (10, true) }) rfl (fun a W hf hS hd K hK => ?_) ?_
      · have e77 : a.eval (.tmp 77) = .bool true := (hd 10 (by decide +kernel)).get (s := 77) rfl
        have e79 : a.eval (.tmp 79) = .string (tx l1) := (hd 12 (by decide +kernel)).get (s := 79) rfl
        exact stepV_row (wanted_some rfl rfl e77) rfl elStr (ps := [.tmp 79]) rfl (cs := [.string (tx l1)]) (by simp only [List.map_cons, List.map_nil, e79]) (by intro u hu; simp only [List.mem_cons, List.not_mem_nil, or_false] at hu; rcases hu with rfl <;> exact ⟨rfl, rfl⟩) rfl (by decide) (by decide) (HZD.out W hS).1 (HZD.out W hS).2 hK
      refine AllSteps.cons (o := { dst := some 81, op := .call { callee := .value (.func 29), args := #[.tmp 80, .const (.slice none 0 0)], argTypes := #[93, 116] }, type := _, pos := _, after := _, guard := some (10, true) }) rfl (fun a W hf hS hd K hK => ?_) ?_
      · have e77 : a.eval (.tmp 77) = .bool true := (hd 10 (by decide +kernel)).get (s := 77) rfl
        have d80 := (hd 13 (by decide +kernel)).get (s := 80) rfl
        exact stepV_is (wanted_some rfl rfl e77) rfl enters_mright (vs := #[a.eval (.tmp 80), .slice none 0 0]) (by first | (simp only [List.map_toArray, List.map_cons, List.map_nil]; done) | (simp only [List.map_toArray, List.map_cons, List.map_nil]; rfl)) (u := (.bool ([tx l1].all rightB && [].all timeB))) (mright_any [tx l1] [] _ _ W d80.1 (Sl.nil _ _ _) HSZ.out) (HZD.out W hS).1 hK
      refine AllSteps.cons (o := { dst := some 82, op := .pick (.tmp 77) (.tmp 81) (.const (.bool false)), type := _, pos := _, after := _, guard := none }) rfl (fun a W hf hS hd K hK => ?_) ?_
      · have e77 : a.eval (.tmp 77) = .bool true := (hd 10 (by decide +kernel)).get (s := 77) rfl
        have d81 := (hd 14 (by decide +kernel)).get (s := 81) rfl
        exact step_val (wanted_none rfl) (exec_pickT rfl e77 rfl) (hK _ _ (GV.refl _ _ _ _) d81)
      refine AllSteps.cons (o := { dst := none, op := .store 38 (.tmp 2) (.tmp 75), type := _, pos := _, after := _, guard := none }) rfl (fun a W hf hS hd K hK => ?_) ?_
      · have e2 : a.eval (.tmp 2) = .pointer (some ⟨q, 0, none⟩) := hf.lit 2 (by decide) rfl
        have d75 := (hd 8 (by decide +kernel)).get (s := 75) rfl
        obtain ⟨cur, hc1, hc2⟩ := (HR.out W hS).len
        rw [← HXE.out] at d75
        exact stepV_fin (wanted_none rfl) rfl e2 d75 hc1 hc2 HFq.out hK
      refine AllSteps.cons (o := { dst := some 3, op := .assign (.tmp 82), type := _, pos := _, after := _, guard := none }) rfl (fun a W hf hS hd K hK => ?_) ?_
      · have d82 := (hd 15 (by decide +kernel)).get (s := 82) rfl
        exact step_val (wanted_none rfl) (exec_asg rfl rfl) (hK _ _ (GV.refl _ _ _ _) d82)
      exact AllSteps.nil
    · intro a W hf hS hp
      have h3 := (hp 17 (by decide)).get (s := 3) rfl
      obtain ⟨v, cs, h5, h6⟩ := (hp 16 (by decide)).fin
      have e2 : a.eval (.tmp 2) = .pointer (some ⟨q, 0, none⟩) := hf.lit 2 (by decide) rfl
      go_wp2_with fail
      refine bodyPost_ret (results_agg_tmp rfl aggDer (show a.tmps.getD 2 undef = _ from e2) h6.length h5.cellsAll) hf.defers ⟨cs, ?_, ?_, (HR.out W hS).below⟩
      · rw [HBE.out, show a.tmps.getD 3 undef = .bool ([tx l1].all rightB && [].all timeB) from h3]
      · exact h6.mono (fun b hb => by have := HQW.out; omega)
set_option maxHeartbeats 16000000 in
set_option maxRecDepth 100000 in
theorem msgValue_14 (F0 : Nat → Prop) (l1 : List UInt8) (l2 m2 : List UInt8) (v2 : Value) (l3 : List UInt8) (v3 : Value) (w : World) (hz1 : l1.length ≤ 140737488355328) (hb2 : Bs w v2 m2) (hz2 : l2.length ≤ 140737488355328 ∧ m2.length ≤ 140737488355328) (hb3 : Bs w v3 l3) (hz3 : l3.length ≤ 140737488355328) :
    Calls Try.prog 10 #[.iface 60 (.agg #[.string (tx l1), .string (tx l2), v2, v3])] w (VlRes w (.mk 2 14 0 [] ([.s l1, .i (l2, m2), .b l3].map ptTv)) ([.s l1, .i (l2, m2), .b l3].all ptB)) := by
  obtain ⟨a2, c2, rfl, hc2, hm2⟩ := hb2.form
  obtain ⟨a3, c3, rfl, hc3, hm3⟩ := hb3.form
  have HC : Hid (VC w w.heap.size [(w.heap.size + 1, [.string (tx l1), .string (tx l2), .slice a2 m2.length c2, .slice a3 l3.length c3], 60)] [] [(.slice a2 m2.length c2, m2), (.slice a3 l3.length c3, l3)] ((w.alloc (.cells zs5.toArray 38)).alloc (.cells [.string (tx l1), .string (tx l2), .slice a2 m2.length c2, .slice a3 l3.length c3].toArray 60))) := hqZ (VC.start (by intro r hr; simp only [List.mem_cons, List.not_mem_nil, or_false] at hr; rcases hr with rfl | rfl; exact hb2; exact hb3) _ _)
  have HSZ : Hid (∀ u ∈ [tx l1], u.size ≤ maxLen) := hqZ (by intro u hu; simp only [List.mem_cons, List.not_mem_nil, or_false] at hu; rcases hu with rfl; exact szTx hz1)
  have HZ1 := hqZ hz1
  clear hz1
  have HZ2 := hqZ hz2
  clear hz2
  have HZ3 := hqZ hz3
  clear hz3
  clear hb2
  clear hb3
  obtain ⟨z11, hta11⟩ := tan 54 60 (.agg #[.string (tx l1), .string (tx l2), .slice a2 m2.length c2, .slice a3 l3.length c3]) zero_11 (by kernel_rfl) (by decide)
  obtain ⟨z12, hta12⟩ := tan 56 60 (.agg #[.string (tx l1), .string (tx l2), .slice a2 m2.length c2, .slice a3 l3.length c3]) zero_12 (by kernel_rfl) (by decide)
  obtain ⟨z13, hta13⟩ := tan 59 60 (.agg #[.string (tx l1), .string (tx l2), .slice a2 m2.length c2, .slice a3 l3.length c3]) zero_13 (by kernel_rfl) (by decide)
  have hta : ∀ W, (Instr.typeAssert (.iface 60 (.agg #[.string (tx l1), .string (tx l2), .slice a2 m2.length c2, .slice a3 l3.length c3])) 20 60 true).run Try.prog W = .ok (.tuple #[.agg #[.string (tx l1), .string (tx l2), .slice a2 m2.length c2, .slice a3 l3.length c3], .bool true]) W := fun W => ta_is _ _ _ (by kernel_rfl) W
  obtain ⟨B, hB⟩ : ∃ B, B = [.s l1, .i (l2, m2), .b l3].all ptB := ⟨_, rfl⟩
  obtain ⟨X, hX⟩ : ∃ X : Tv, X = .mk 2 14 0 [] ([.s l1, .i (l2, m2), .b l3].map ptTv) := ⟨_, rfl⟩
  rw [← hB, ← hX]
  have HB := hqZ hB
  have HX2 := hqZ hX
  clear hB hX
  go_enter Try.func10, Try.ntmps10
  go_upto_region 16 with fail
  clear hta hta11 hta12 hta13
  show Code.wp _ _ _ _ ((w.alloc (.cells zs5.toArray 38)).alloc (.cells [.string (tx l1), .string (tx l2), .slice a2 m2.length c2, .slice a3 l3.length c3].toArray 60))
  obtain ⟨W0, hW0⟩ : ∃ W0, W0 = (w.alloc (.cells zs5.toArray 38)).alloc (.cells [.string (tx l1), .string (tx l2), .slice a2 m2.length c2, .slice a3 l3.length c3].toArray 60) := ⟨_, rfl⟩
  rw [← hW0] at HC ⊢
  clear hW0
  obtain ⟨p, hp⟩ : ∃ p, p = w.heap.size + 1 := ⟨_, rfl⟩
  obtain ⟨q, hq⟩ : ∃ q, q = w.heap.size := ⟨_, rfl⟩
  rw [← hp, ← hq] at HC ⊢
  clear hp hq
  have HTV1 := hqZ (tickValue_any (l2, m2) (.slice a2 m2.length c2) W0 (HC.out.rowAt 0 rfl) HZ2.out.1 HZ2.out.2)
  have HM1 := hqZ (HC.out.blkAt 0 rfl)
  rw [show rightB (tx (l2, m2).1) = rT (l2, m2) from rfl] at HTV1
  go_wp2_with ((with_reducible show wpList _ _ _ (⟨some 141, _, _, _, _, _⟩ :: _) _ _); refine wpList_ldAgg rfl (.tmp 140) aggTicket rfl rfl (cs := [.string (tx l2), .slice a2 m2.length c2]) rfl (HM1.out.cellsAt 1 2) ?_)
  refine HTV1.out.mono ?_
  rintro e wa1 ⟨cs1, rfl, htv, hb⟩
  have HCa1 := hqZ (HC.out.step hb)
  have HTT1 : Hid (TvF wa1 (fun b => q < b) (tkTv (l2, m2)) cs1) := hqZ (htv.mono (fun b hb => by have := HC.out.lt; omega))
  have HCL1 := hqZ htv.length
  have HCO1 := hqZ htv.one
  have HN1 := hqZ (Blk.new wa1 zs5 38)
  clear htv hb HTV1
  go_upto_region 17 with ((with_reducible show wpList _ _ _ (⟨none, .store _ (.tmp 14) (.tmp 144), _, _, _, _⟩ :: _) _ _); refine wpList_stAgg rfl (.tmp 14) (.tmp 144) aggDer rfl rfl (vs := cs1) rfl HCL1.out HN1.out (Nat.le_refl _) HCO1.out ?_)
  intro wb1 h2 k2
  have h2' : Blk wb1 wa1.heap.size cs1 38 := by
    rw [List.drop_of_length_le (by decide), List.append_nil] at h2
    exact h2
  have hb2 : Below wa1.heap.size wa1 wb1 := ((Below.refl _ _).alloc (Nat.le_refl _) _).trans (k2.below (by omega))
  have HCb1 := hqZ (((HCa1.out.addTree HTT1.out).step hb2).addBlk h2' HCa1.out.lt)
  obtain ⟨p1, hp1⟩ : ∃ p1, p1 = wa1.heap.size := ⟨_, rfl⟩
  rw [← hp1] at HCb1 ⊢
  clear h2 k2 h2' hb2 hp1 HCa1 HTT1 HN1 HCO1
  go_upto_region 17 with fail
  cases hok15 : rT (l2, m2) with
  | false =>
    have HOK15 := hqZ hok15
    clear hok15
    have HBE : Hid (B = false) := hqZ (by rw [HB.out]; simp only [List.all_cons, List.all_nil, ptB, HOK15.out, Bool.and_true, Bool.true_and, Bool.and_false, Bool.false_and, Bool.and_assoc])
    obtain ⟨wd, hwd⟩ : ∃ wd, wd = World.drew wb1 := ⟨_, rfl⟩
    have hvd : VC w q [(p, [.string (tx l1), .string (tx l2), .slice a2 m2.length c2, .slice a3 l3.length c3], 60), (p1, cs1, 38)] [(tkTv (l2, m2), cs1)] [(.slice a2 m2.length c2, m2), (.slice a3 l3.length c3, l3)] wd := by rw [hwd]; exact HCb1.out.drew
    have HXE : Hid (X = .mk 2 14 0 [] [.mk 1 0 0 l1 [], tkTv (l2, m2), .mk 1 0 0 l3 []]) := hqZ HX2.out
    have HR : Hid (∀ W, GV (fun b => q < b) q X wd W → VR w q [(p, [.string (tx l1), .string (tx l2), .slice a2 m2.length c2, .slice a3 l3.length c3], 60), (p1, cs1, 38)] [(tkTv (l2, m2), cs1)] [(.slice a2 m2.length c2, m2), (.slice a3 l3.length c3, l3)] W) := hqZ (fun W h => hvd.gv h)
    have HZD : Hid (∀ W, GV (fun b => q < b) q X wd W → q < W.heap.size ∧ ∀ b, W.heap.size ≤ b → q < b) := hqZ (fun W h => ⟨(HR.out W h).lt, fun b hb => Nat.lt_of_lt_of_le (HR.out W h).lt hb⟩)
    have HFq : Hid (¬ (fun b => q < b) q) := hqZ (Nat.lt_irrefl q)
    have HQW : Hid (w.heap.size = q) := hqZ hvd.hq.symm
    clear hvd HCb1
    refine wp_region_held (S := fun W => GV (fun b => q < b) q X wd W) (by kernel_rfl) ?_
    change wpAnyH _ _ _ _ _ _ _ _ (World.drew _)
    rw [← hwd]
    clear hwd
    refine tkH 0 146 none (.pointer (some ⟨p, 0, none⟩)) rfl (by kernel_rfl) (fun _ _ _ h => h) (by rfl) (by intro W hW; go_simp) (GV.refl _ _ _ _) ?_
    simp only [Act.put, zq1, zq2, zq3]
    refine tkH 1 147 none (.string (tx l1)) rfl (by kernel_rfl) (fun _ _ _ h => h) (by rfl) (by intro W hW; have hc : W.cell? ⟨p, 0, none⟩ = some (.string (tx l1)) := ((HR.out W hW).blkAt 0 rfl).cell 0; go_simp) (GV.refl _ _ _ _) ?_
    simp only [Act.put, zq1, zq2, zq3]
    refine tkH 3 149 none (.agg cs1.toArray) rfl (by kernel_rfl) (fun _ _ _ h => h) (by rfl) (by intro W hW; exact exec_ldAgg rfl aggDer rfl HCL1.out ((HR.out W hW).blkAt 1 rfl).cellsAll) (GV.refl _ _ _ _) ?_
    simp only [Act.put, zq1, zq2, zq3]
    refine tkH 4 150 none (.pointer (some ⟨p, 3, none⟩)) rfl (by kernel_rfl) (fun _ _ _ h => h) (by rfl) (by intro W hW; go_simp) (GV.refl _ _ _ _) ?_
    simp only [Act.put, zq1, zq2, zq3]
    refine tkH 5 151 none (.slice a3 l3.length c3) rfl (by kernel_rfl) (fun _ _ _ h => h) (by rfl) (by intro W hW; have hc : W.cell? ⟨p, 3, none⟩ = some (.slice a3 l3.length c3) := ((HR.out W hW).blkAt 0 rfl).cell 3; go_simp) (GV.refl _ _ _ _) ?_
    simp only [Act.put, zq1, zq2, zq3]
    refine tkH 9 155 none (.bool false) rfl (by kernel_rfl) (fun _ _ _ h => h) (by rfl) (by intro W hW; go_simp) (GV.refl _ _ _ _) ?_
    simp only [Act.put, zq1, zq2, zq3]
    refine anyH_steps (G := GV (fun b => q < b) q X) (Post := postV (fun b => q < b) q X [.any, .any, .val (.mk 1 0 0 l1 []), .any, .any, .any, .val (.mk 1 0 0 l3 []), .vals [.mk 1 0 0 l1 [], tkTv (l2, m2), .mk 1 0 0 l3 []], .val (.mk 2 14 0 [] [.mk 1 0 0 l1 [], tkTv (l2, m2), .mk 1 0 0 l3 []]), .any, .is (.bool false), .any, .any, .any, .any, .is (.bool false), .fin, .is (.bool false)]) (ds := [148, 152, 153, 154, 156, 157, 158, 159, 160, 161, 3]) (GV.refl _ _ _) GV.trans (fun W W' h g => GV.trans _ _ _ h g) (fun i v W W' h g => PK.stable HFq.out h g) [2, 6, 7, 8, 10, 11, 12, 13, 14, 15, 16, 17] 397 rfl (by decide +kernel) (by decide +kernel) ?_ ?_ (GV.refl _ _ _ _) (by decide +kernel)
    · refine AllSteps.cons (o := { dst := some 148, op := .call { callee := .value (.func 26), args := #[.tmp 147], argTypes := #[9] }, type := _, pos := _, after := _, guard := none }) rfl (fun a W hf hS hd K hK => ?_) ?_
      · have e147 : a.eval (.tmp 147) = .string (tx l1) := hf.lit 147 (by decide) rfl
        exact stepV_mk (wanted_none rfl) rfl enters_mtext (vs := #[.string (tx l1)]) (by simp [e147]) (mtext_any l1 W HZ1.out) (HZD.out W hS).1 (HZD.out W hS).2 hK
      refine AllSteps.cons (o := { dst := some 152, op := .call { callee := .value (.func 28), args := #[.tmp 151], argTypes := #[22] }, type := _, pos := _, after := _, guard := none }) rfl (fun a W hf hS hd K hK => ?_) ?_
      · have e151 : a.eval (.tmp 151) = .slice a3 l3.length c3 := hf.lit 151 (by decide) rfl
        exact stepV_mk (wanted_none rfl) rfl enters_raw (vs := #[.slice a3 l3.length c3]) (by simp [e151]) (rawNew_any _ l3 W ((HR.out W hS).rowAt 1 rfl) HZ3.out) (HZD.out W hS).1 (HZD.out W hS).2 hK
      refine AllSteps.cons (o := { dst := some 153, op := .buildSlice 36 3 #[(0, .tmp 148), (1, .tmp 149), (2, .tmp 152)], type := _, pos := _, after := _, guard := none }) rfl (fun a W hf hS hd K hK => ?_) ?_
      · have d148 := (hd 2 (by decide +kernel)).get (s := 148) rfl
        have e149 : a.eval (.tmp 149) = .agg cs1.toArray := hf.lit 149 (by decide) rfl
        have d152 := (hd 6 (by decide +kernel)).get (s := 152) rfl
        exact stepV_vals (wanted_none rfl) rfl elDer (ps := [.tmp 148, .tmp 149, .tmp 152]) rfl (l := [.mk 1 0 0 l1 [], tkTv (l2, m2), .mk 1 0 0 l3 []]) ⟨d148, ⟨_, e149, (HR.out W hS).treeAt 0 rfl⟩, d152, trivial⟩ rfl (by decide) (by decide) (HZD.out W hS).1 (HZD.out W hS).2 hK
      refine AllSteps.cons (o := { dst := some 154, op := .call { callee := .value (.func 25), args := #[.const (.int .i64 14), .tmp 153], argTypes := #[3, 36] }, type := _, pos := _, after := _, guard := none }) rfl (fun a W hf hS hd K hK => ?_) ?_
      · have d153 := (hd 7 (by decide +kernel)).get (s := 153) rfl
        exact stepV_seq (wanted_none rfl) rfl enters_seq d153 (HZD.out W hS).1 (fun v w1 h1 h2 => hK v w1 h1 h2) HFq.out
      refine AllSteps.cons (o := { dst := some 156, op := .move (.tmp 155), type := _, pos := _, after := _, guard := none }) rfl (fun a W hf hS hd K hK => ?_) ?_
      · have e155 : a.eval (.tmp 155) = .bool false := hf.lit 155 (by decide) rfl
        exact step_val (v := .bool false) (wanted_none rfl) (exec_move rfl e155) (hK _ _ (GV.refl _ _ _ _) rfl)
      refine AllSteps.cons (o := { dst := some 157, op := .fieldAddr 60 (.tmp 13) 0, type := _, pos := _, after := _, guard := some (10, true) }) rfl (fun a W hf hS hd K hK => ?_) ?_
      · have e156 : a.eval (.tmp 156) = .bool false := (hd 10 (by decide +kernel)).get (s := 156) rfl
        exact step_skip (wanted_no rfl rfl e156 rfl) (hK _ _ (GV.refl _ _ _ _) trivial)
      refine AllSteps.cons (o := { dst := some 158, op := .load 9 (.tmp 157), type := _, pos := _, after := _, guard := some (10, true) }) rfl (fun a W hf hS hd K hK => ?_) ?_
      · have e156 : a.eval (.tmp 156) = .bool false := (hd 10 (by decide +kernel)).get (s := 156) rfl
        exact step_skip (wanted_no rfl rfl e156 rfl) (hK _ _ (GV.refl _ _ _ _) trivial)
      refine AllSteps.cons (o := { dst := some 159, op := .buildSlice 93 1 #[(0, .tmp 158)], type := _, pos := _, after := _, guard := some (10, true) }) rfl (fun a W hf hS hd K hK => ?_) ?_
      · have e156 : a.eval (.tmp 156) = .bool false := (hd 10 (by decide +kernel)).get (s := 156) rfl
        exact step_skip (wanted_no rfl rfl e156 rfl) (hK _ _ (GV.refl _ _ _ _) trivial)
      refine AllSteps.cons (o := { dst := some 160, op := .call { callee := .value (.func 29), args := #[.tmp 159, .const (.slice none 0 0)], argTypes := #[93, 116] }, type := _, pos := _, after := _, guard := some (10, true) }) rfl (fun a W hf hS hd K hK => ?_) ?_
      · have e156 : a.eval (.tmp 156) = .bool false := (hd 10 (by decide +kernel)).get (s := 156) rfl
        exact step_skip (wanted_no rfl rfl e156 rfl) (hK _ _ (GV.refl _ _ _ _) trivial)
      refine AllSteps.cons (o := { dst := some 161, op := .pick (.tmp 156) (.tmp 160) (.const (.bool false)), type := _, pos := _, after := _, guard := none }) rfl (fun a W hf hS hd K hK => ?_) ?_
      · have e156 : a.eval (.tmp 156) = .bool false := (hd 10 (by decide +kernel)).get (s := 156) rfl
        exact step_val (v := .bool false) (wanted_none rfl) (exec_pickF rfl e156 rfl) (hK _ _ (GV.refl _ _ _ _) rfl)
      refine AllSteps.cons (o := { dst := none, op := .store 38 (.tmp 2) (.tmp 154), type := _, pos := _, after := _, guard := none }) rfl (fun a W hf hS hd K hK => ?_) ?_
      · have e2 : a.eval (.tmp 2) = .pointer (some ⟨q, 0, none⟩) := hf.lit 2 (by decide) rfl
        have d154 := (hd 8 (by decide +kernel)).get (s := 154) rfl
        obtain ⟨cur, hc1, hc2⟩ := (HR.out W hS).len
        rw [← HXE.out] at d154
        exact stepV_fin (wanted_none rfl) rfl e2 d154 hc1 hc2 HFq.out hK
      refine AllSteps.cons (o := { dst := some 3, op := .assign (.tmp 161), type := _, pos := _, after := _, guard := none }) rfl (fun a W hf hS hd K hK => ?_) ?_
      · have e161 : a.eval (.tmp 161) = .bool false := (hd 15 (by decide +kernel)).get (s := 161) rfl
        exact step_val (wanted_none rfl) (exec_asg rfl rfl) (hK _ _ (GV.refl _ _ _ _) e161)
      exact AllSteps.nil
    · intro a W hf hS hp
      have h3 := (hp 17 (by decide)).get (s := 3) rfl
      obtain ⟨v, cs, h5, h6⟩ := (hp 16 (by decide)).fin
      have e2 : a.eval (.tmp 2) = .pointer (some ⟨q, 0, none⟩) := hf.lit 2 (by decide) rfl
      go_wp2_with fail
      refine bodyPost_ret (results_agg_tmp rfl aggDer (show a.tmps.getD 2 undef = _ from e2) h6.length h5.cellsAll) hf.defers ⟨cs, ?_, ?_, (HR.out W hS).below⟩
      · rw [HBE.out, show a.tmps.getD 3 undef = .bool false from h3]
      · exact h6.mono (fun b hb => by have := HQW.out; omega)
  | true =>
    have HOK15 := hqZ hok15
    clear hok15
    have HBE : Hid (B = ([tx l1].all rightB && [].all timeB)) := hqZ (by rw [HB.out]; simp only [List.all_cons, List.all_nil, ptB, HOK15.out, Bool.and_true, Bool.true_and, Bool.and_false, Bool.false_and, Bool.and_assoc]; first | done | ac_rfl)
    obtain ⟨wd, hwd⟩ : ∃ wd, wd = World.drew wb1 := ⟨_, rfl⟩
    have hvd : VC w q [(p, [.string (tx l1), .string (tx l2), .slice a2 m2.length c2, .slice a3 l3.length c3], 60), (p1, cs1, 38)] [(tkTv (l2, m2), cs1)] [(.slice a2 m2.length c2, m2), (.slice a3 l3.length c3, l3)] wd := by rw [hwd]; exact HCb1.out.drew
    have HXE : Hid (X = .mk 2 14 0 [] [.mk 1 0 0 l1 [], tkTv (l2, m2), .mk 1 0 0 l3 []]) := hqZ HX2.out
    have HR : Hid (∀ W, GV (fun b => q < b) q X wd W → VR w q [(p, [.string (tx l1), .string (tx l2), .slice a2 m2.length c2, .slice a3 l3.length c3], 60), (p1, cs1, 38)] [(tkTv (l2, m2), cs1)] [(.slice a2 m2.length c2, m2), (.slice a3 l3.length c3, l3)] W) := hqZ (fun W h => hvd.gv h)
    have HZD : Hid (∀ W, GV (fun b => q < b) q X wd W → q < W.heap.size ∧ ∀ b, W.heap.size ≤ b → q < b) := hqZ (fun W h => ⟨(HR.out W h).lt, fun b hb => Nat.lt_of_lt_of_le (HR.out W h).lt hb⟩)
    have HFq : Hid (¬ (fun b => q < b) q) := hqZ (Nat.lt_irrefl q)
    have HQW : Hid (w.heap.size = q) := hqZ hvd.hq.symm
    clear hvd HCb1
    refine wp_region_held (S := fun W => GV (fun b => q < b) q X wd W) (by kernel_rfl) ?_
    change wpAnyH _ _ _ _ _ _ _ _ (World.drew _)
    rw [← hwd]
    clear hwd
    refine tkH 0 146 none (.pointer (some ⟨p, 0, none⟩)) rfl (by kernel_rfl) (fun _ _ _ h => h) (by rfl) (by intro W hW; go_simp) (GV.refl _ _ _ _) ?_
    simp only [Act.put, zq1, zq2, zq3]
    refine tkH 1 147 none (.string (tx l1)) rfl (by kernel_rfl) (fun _ _ _ h => h) (by rfl) (by intro W hW; have hc : W.cell? ⟨p, 0, none⟩ = some (.string (tx l1)) := ((HR.out W hW).blkAt 0 rfl).cell 0; go_simp) (GV.refl _ _ _ _) ?_
    simp only [Act.put, zq1, zq2, zq3]
    refine tkH 3 149 none (.agg cs1.toArray) rfl (by kernel_rfl) (fun _ _ _ h => h) (by rfl) (by intro W hW; exact exec_ldAgg rfl aggDer rfl HCL1.out ((HR.out W hW).blkAt 1 rfl).cellsAll) (GV.refl _ _ _ _) ?_
    simp only [Act.put, zq1, zq2, zq3]
    refine tkH 4 150 none (.pointer (some ⟨p, 3, none⟩)) rfl (by kernel_rfl) (fun _ _ _ h => h) (by rfl) (by intro W hW; go_simp) (GV.refl _ _ _ _) ?_
    simp only [Act.put, zq1, zq2, zq3]
    refine tkH 5 151 none (.slice a3 l3.length c3) rfl (by kernel_rfl) (fun _ _ _ h => h) (by rfl) (by intro W hW; have hc : W.cell? ⟨p, 3, none⟩ = some (.slice a3 l3.length c3) := ((HR.out W hW).blkAt 0 rfl).cell 3; go_simp) (GV.refl _ _ _ _) ?_
    simp only [Act.put, zq1, zq2, zq3]
    refine tkH 9 155 none (.bool true) rfl (by kernel_rfl) (fun _ _ _ h => h) (by rfl) (by intro W hW; go_simp) (GV.refl _ _ _ _) ?_
    simp only [Act.put, zq1, zq2, zq3]
    refine anyH_steps (G := GV (fun b => q < b) q X) (Post := postV (fun b => q < b) q X [.any, .any, .val (.mk 1 0 0 l1 []), .any, .any, .any, .val (.mk 1 0 0 l3 []), .vals [.mk 1 0 0 l1 [], tkTv (l2, m2), .mk 1 0 0 l3 []], .val (.mk 2 14 0 [] [.mk 1 0 0 l1 [], tkTv (l2, m2), .mk 1 0 0 l3 []]), .any, .is (.bool true), .is (.pointer (some ⟨p, 0, none⟩)), .is (.string (tx l1)), .row [.string (tx l1)], .is (.bool ([tx l1].all rightB && [].all timeB)), .is (.bool ([tx l1].all rightB && [].all timeB)), .fin, .is (.bool ([tx l1].all rightB && [].all timeB))]) (ds := [148, 152, 153, 154, 156, 157, 158, 159, 160, 161, 3]) (GV.refl _ _ _) GV.trans (fun W W' h g => GV.trans _ _ _ h g) (fun i v W W' h g => PK.stable HFq.out h g) [2, 6, 7, 8, 10, 11, 12, 13, 14, 15, 16, 17] 397 rfl (by decide +kernel) (by decide +kernel) ?_ ?_ (GV.refl _ _ _ _) (by decide +kernel)
    · refine AllSteps.cons (o := { dst := some 148, op := .call { callee := .value (.func 26), args := #[.tmp 147], argTypes := #[9] }, type := _, pos := _, after := _, guard := none }) rfl (fun a W hf hS hd K hK => ?_) ?_
      · have e147 : a.eval (.tmp 147) = .string (tx l1) := hf.lit 147 (by decide) rfl
        exact stepV_mk (wanted_none rfl) rfl enters_mtext (vs := #[.string (tx l1)]) (by simp [e147]) (mtext_any l1 W HZ1.out) (HZD.out W hS).1 (HZD.out W hS).2 hK
      refine AllSteps.cons (o := { dst := some 152, op := .call { callee := .value (.func 28), args := #[.tmp 151], argTypes := #[22] }, type := _, pos := _, after := _, guard := none }) rfl (fun a W hf hS hd K hK => ?_) ?_
      · have e151 : a.eval (.tmp 151) = .slice a3 l3.length c3 := hf.lit 151 (by decide) rfl
        exact stepV_mk (wanted_none rfl) rfl enters_raw (vs := #[.slice a3 l3.length c3]) (by simp [e151]) (rawNew_any _ l3 W ((HR.out W hS).rowAt 1 rfl) HZ3.out) (HZD.out W hS).1 (HZD.out W hS).2 hK
      refine AllSteps.cons (o := { dst := some 153, op := .buildSlice 36 3 #[(0, .tmp 148), (1, .tmp 149), (2, .tmp 152)], type := _, pos := _, after := _, guard := none }) rfl (fun a W hf hS hd K hK => ?_) ?_
      · have d148 := (hd 2 (by decide +kernel)).get (s := 148) rfl
        have e149 : a.eval (.tmp 149) = .agg cs1.toArray := hf.lit 149 (by decide) rfl
        have d152 := (hd 6 (by decide +kernel)).get (s := 152) rfl
        exact stepV_vals (wanted_none rfl) rfl elDer (ps := [.tmp 148, .tmp 149, .tmp 152]) rfl (l := [.mk 1 0 0 l1 [], tkTv (l2, m2), .mk 1 0 0 l3 []]) ⟨d148, ⟨_, e149, (HR.out W hS).treeAt 0 rfl⟩, d152, trivial⟩ rfl (by decide) (by decide) (HZD.out W hS).1 (HZD.out W hS).2 hK
      refine AllSteps.cons (o := { dst := some 154, op := .call { callee := .value (.func 25), args := #[.const (.int .i64 14), .tmp 153], argTypes := #[3, 36] }, type := _, pos := _, after := _, guard := none }) rfl (fun a W hf hS hd K hK => ?_) ?_
      · have d153 := (hd 7 (by decide +kernel)).get (s := 153) rfl
        exact stepV_seq (wanted_none rfl) rfl enters_seq d153 (HZD.out W hS).1 (fun v w1 h1 h2 => hK v w1 h1 h2) HFq.out
      refine AllSteps.cons (o := { dst := some 156, op := .move (.tmp 155), type := _, pos := _, after := _, guard := none }) rfl (fun a W hf hS hd K hK => ?_) ?_
      · have e155 : a.eval (.tmp 155) = .bool true := hf.lit 155 (by decide) rfl
        exact step_val (v := .bool true) (wanted_none rfl) (exec_move rfl e155) (hK _ _ (GV.refl _ _ _ _) rfl)
      refine AllSteps.cons (o := { dst := some 157, op := .fieldAddr 60 (.tmp 13) 0, type := _, pos := _, after := _, guard := some (10, true) }) rfl (fun a W hf hS hd K hK => ?_) ?_
      · have e156 : a.eval (.tmp 156) = .bool true := (hd 10 (by decide +kernel)).get (s := 156) rfl
        have e13 : a.eval (.tmp 13) = .pointer (some ⟨p, 0, none⟩) := hf.lit 13 (by decide) rfl
        exact step_val (v := .pointer (some ⟨p, 0, none⟩)) (wanted_some rfl rfl e156) (exec_field rfl e13 (by go_simp)) (hK _ _ (GV.refl _ _ _ _) rfl)
      refine AllSteps.cons (o := { dst := some 158, op := .load 9 (.tmp 157), type := _, pos := _, after := _, guard := some (10, true) }) rfl (fun a W hf hS hd K hK => ?_) ?_
      · have e156 : a.eval (.tmp 156) = .bool true := (hd 10 (by decide +kernel)).get (s := 156) rfl
        have e157 : a.eval (.tmp 157) = .pointer (some ⟨p, 0, none⟩) := (hd 11 (by decide +kernel)).get (s := 157) rfl
        have hc : W.cell? ⟨p, 0, none⟩ = some (.string (tx l1)) := ((HR.out W hS).blkAt 0 rfl).cell 0
        exact step_val (v := .string (tx l1)) (wanted_some rfl rfl e156) (exec_load rfl e157 (by go_simp)) (hK _ _ (GV.refl _ _ _ _) rfl)
      refine AllSteps.cons (o := { dst := some 159, op := .buildSlice 93 1 #[(0, .tmp 158)], type := _, pos := _, after := _, guard := some (10, true) }) rfl (fun a W hf hS hd K hK => ?_) ?_
      · have e156 : a.eval (.tmp 156) = .bool true := (hd 10 (by decide +kernel)).get (s := 156) rfl
        have e158 : a.eval (.tmp 158) = .string (tx l1) := (hd 12 (by decide +kernel)).get (s := 158) rfl
        exact stepV_row (wanted_some rfl rfl e156) rfl elStr (ps := [.tmp 158]) rfl (cs := [.string (tx l1)]) (by simp only [List.map_cons, List.map_nil, e158]) (by intro u hu; simp only [List.mem_cons, List.not_mem_nil, or_false] at hu; rcases hu with rfl <;> exact ⟨rfl, rfl⟩) rfl (by decide) (by decide) (HZD.out W hS).1 (HZD.out W hS).2 hK
      refine AllSteps.cons (o := { dst := some 160, op := .call { callee := .value (.func 29), args := #[.tmp 159, .const (.slice none 0 0)], argTypes := #[93, 116] }, type := _, pos := _, after := _, guard := some (10, true) }) rfl (fun a W hf hS hd K hK => ?_) ?_
      · have e156 : a.eval (.tmp 156) = .bool true := (hd 10 (by decide +kernel)).get (s := 156) rfl
        have d159 := (hd 13 (by decide +kernel)).get (s := 159) rfl
        exact stepV_is (wanted_some rfl rfl e156) rfl enters_mright (vs := #[a.eval (.tmp 159), .slice none 0 0]) (by first | (simp only [List.map_toArray, List.map_cons, List.map_nil]; done) | (simp only [List.map_toArray, List.map_cons, List.map_nil]; rfl)) (u := (.bool ([tx l1].all rightB && [].all timeB))) (mright_any [tx l1] [] _ _ W d159.1 (Sl.nil _ _ _) HSZ.out) (HZD.out W hS).1 hK
      refine AllSteps.cons (o := { dst := some 161, op := .pick (.tmp 156) (.tmp 160) (.const (.bool false)), type := _, pos := _, after := _, guard := none }) rfl (fun a W hf hS hd K hK => ?_) ?_
      · have e156 : a.eval (.tmp 156) = .bool true := (hd 10 (by decide +kernel)).get (s := 156) rfl
        have d160 := (hd 14 (by decide +kernel)).get (s := 160) rfl
        exact step_val (wanted_none rfl) (exec_pickT rfl e156 rfl) (hK _ _ (GV.refl _ _ _ _) d160)
      refine AllSteps.cons (o := { dst := none, op := .store 38 (.tmp 2) (.tmp 154), type := _, pos := _, after := _, guard := none }) rfl (fun a W hf hS hd K hK => ?_) ?_
      · have e2 : a.eval (.tmp 2) = .pointer (some ⟨q, 0, none⟩) := hf.lit 2 (by decide) rfl
        have d154 := (hd 8 (by decide +kernel)).get (s := 154) rfl
        obtain ⟨cur, hc1, hc2⟩ := (HR.out W hS).len
        rw [← HXE.out] at d154
        exact stepV_fin (wanted_none rfl) rfl e2 d154 hc1 hc2 HFq.out hK
      refine AllSteps.cons (o := { dst := some 3, op := .assign (.tmp 161), type := _, pos := _, after := _, guard := none }) rfl (fun a W hf hS hd K hK => ?_) ?_
      · have d161 := (hd 15 (by decide +kernel)).get (s := 161) rfl
        exact step_val (wanted_none rfl) (exec_asg rfl rfl) (hK _ _ (GV.refl _ _ _ _) d161)
      exact AllSteps.nil
    · intro a W hf hS hp
      have h3 := (hp 17 (by decide)).get (s := 3) rfl
      obtain ⟨v, cs, h5, h6⟩ := (hp 16 (by decide)).fin
      have e2 : a.eval (.tmp 2) = .pointer (some ⟨q, 0, none⟩) := hf.lit 2 (by decide) rfl
      go_wp2_with fail
      refine bodyPost_ret (results_agg_tmp rfl aggDer (show a.tmps.getD 2 undef = _ from e2) h6.length h5.cellsAll) hf.defers ⟨cs, ?_, ?_, (HR.out W hS).below⟩
      · rw [HBE.out, show a.tmps.getD 3 undef = .bool ([tx l1].all rightB && [].all timeB) from h3]
      · exact h6.mono (fun b hb => by have := HQW.out; omega)
end Go.Proofs.Ytpjkidcfidmfaaa
