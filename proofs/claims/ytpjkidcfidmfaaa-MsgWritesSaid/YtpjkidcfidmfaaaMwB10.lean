/- Texts of this proof, one behind the other: MValE. -/
import Derived.Test.YtpjkidcfidmfaaaMwB9
import Derived.Deep.DeepCutAuto
namespace Go.Proofs.Ytpjkidcfidmfaaa
set_option linter.unusedSimpArgs false
set_option linter.unusedVariables false
open Go.RowKit
set_option maxHeartbeats 16000000 in
set_option maxRecDepth 100000 in
theorem msgValue_18 (F0 : Nat → Prop) (l1 : List UInt8) (l2 : List UInt8) (x3 : Int) (l4 : List UInt8) (v4 : Value) (w : World) (hz1 : l1.length ≤ 140737488355328) (hz2 : l2.length ≤ 140737488355328) (hz3 : -9223372036854775808 ≤ x3 ∧ x3 ≤ 9223372036854775807) (hb4 : Bs w v4 l4) (hz4 : l4.length ≤ 140737488355328) :
    Calls Try.prog 10 #[.iface 68 (.agg #[.string (tx l1), .string (tx l2), .int .i64 x3, v4])] w (VlRes w (.mk 2 18 0 [] ([.s l1, .s l2, .n x3, .b l4].map ptTv)) ([.s l1, .s l2, .n x3, .b l4].all ptB)) := by
  obtain ⟨a4, c4, rfl, hc4, hm4⟩ := hb4.form
  have HC : Hid (VC w w.heap.size [(w.heap.size + 1, [.string (tx l1), .string (tx l2), .int .i64 x3, .slice a4 l4.length c4], 68)] [] [(.slice a4 l4.length c4, l4)] ((w.alloc (.cells zs5.toArray 38)).alloc (.cells [.string (tx l1), .string (tx l2), .int .i64 x3, .slice a4 l4.length c4].toArray 68))) := hqZ (VC.start (by intro r hr; simp only [List.mem_cons, List.not_mem_nil, or_false] at hr; rcases hr with rfl; exact hb4) _ _)
  have HSZ : Hid (∀ u ∈ [tx l1, tx l2], u.size ≤ maxLen) := hqZ (by intro u hu; simp only [List.mem_cons, List.not_mem_nil, or_false] at hu; rcases hu with rfl | rfl; exact szTx hz1; exact szTx hz2)
  have HZ1 := hqZ hz1
  clear hz1
  have HZ2 := hqZ hz2
  clear hz2
  have HZ3 := hqZ hz3
  clear hz3
  have HZ4 := hqZ hz4
  clear hz4
  clear hb4
  obtain ⟨z11, hta11⟩ := tan 54 68 (.agg #[.string (tx l1), .string (tx l2), .int .i64 x3, .slice a4 l4.length c4]) zero_11 (by kernel_rfl) (by decide)
  obtain ⟨z12, hta12⟩ := tan 56 68 (.agg #[.string (tx l1), .string (tx l2), .int .i64 x3, .slice a4 l4.length c4]) zero_12 (by kernel_rfl) (by decide)
  obtain ⟨z13, hta13⟩ := tan 59 68 (.agg #[.string (tx l1), .string (tx l2), .int .i64 x3, .slice a4 l4.length c4]) zero_13 (by kernel_rfl) (by decide)
  obtain ⟨z14, hta14⟩ := tan 60 68 (.agg #[.string (tx l1), .string (tx l2), .int .i64 x3, .slice a4 l4.length c4]) zero_14 (by kernel_rfl) (by decide)
  obtain ⟨z15, hta15⟩ := tan 62 68 (.agg #[.string (tx l1), .string (tx l2), .int .i64 x3, .slice a4 l4.length c4]) zero_15 (by kernel_rfl) (by decide)
  obtain ⟨z16, hta16⟩ := tan 64 68 (.agg #[.string (tx l1), .string (tx l2), .int .i64 x3, .slice a4 l4.length c4]) zero_16 (by kernel_rfl) (by decide)
  obtain ⟨z17, hta17⟩ := tan 66 68 (.agg #[.string (tx l1), .string (tx l2), .int .i64 x3, .slice a4 l4.length c4]) zero_17 (by kernel_rfl) (by decide)
  have hta : ∀ W, (Instr.typeAssert (.iface 68 (.agg #[.string (tx l1), .string (tx l2), .int .i64 x3, .slice a4 l4.length c4])) 20 68 true).run Try.prog W = .ok (.tuple #[.agg #[.string (tx l1), .string (tx l2), .int .i64 x3, .slice a4 l4.length c4], .bool true]) W := fun W => ta_is _ _ _ (by kernel_rfl) W
  obtain ⟨B, hB⟩ : ∃ B, B = [.s l1, .s l2, .n x3, .b l4].all ptB := ⟨_, rfl⟩
  obtain ⟨X, hX⟩ : ∃ X : Tv, X = .mk 2 18 0 [] ([.s l1, .s l2, .n x3, .b l4].map ptTv) := ⟨_, rfl⟩
  rw [← hB, ← hX]
  have HB := hqZ hB
  have HX2 := hqZ hX
  clear hB hX
  go_enter Try.func10, Try.ntmps10
  go_upto_region 31 with fail
  clear hta hta11 hta12 hta13 hta14 hta15 hta16 hta17
  show Code.wp _ _ _ _ ((w.alloc (.cells zs5.toArray 38)).alloc (.cells [.string (tx l1), .string (tx l2), .int .i64 x3, .slice a4 l4.length c4].toArray 68))
  obtain ⟨W0, hW0⟩ : ∃ W0, W0 = (w.alloc (.cells zs5.toArray 38)).alloc (.cells [.string (tx l1), .string (tx l2), .int .i64 x3, .slice a4 l4.length c4].toArray 68) := ⟨_, rfl⟩
  rw [← hW0] at HC ⊢
  clear hW0
  obtain ⟨p, hp⟩ : ∃ p, p = w.heap.size + 1 := ⟨_, rfl⟩
  obtain ⟨q, hq⟩ : ∃ q, q = w.heap.size := ⟨_, rfl⟩
  rw [← hp, ← hq] at HC ⊢
  clear hp hq
  have HBE : Hid (B = ([tx l1, tx l2].all rightB && [x3].all timeB)) := hqZ (by rw [HB.out]; simp only [List.all_cons, List.all_nil, ptB, Bool.and_true, Bool.true_and, Bool.and_false, Bool.false_and, Bool.and_assoc]; first | done | ac_rfl)
  obtain ⟨wd, hwd⟩ : ∃ wd, wd = World.drew W0 := ⟨_, rfl⟩
  have hvd : VC w q [(p, [.string (tx l1), .string (tx l2), .int .i64 x3, .slice a4 l4.length c4], 68)] [] [(.slice a4 l4.length c4, l4)] wd := by rw [hwd]; exact HC.out.drew
  have HXE : Hid (X = .mk 2 18 0 [] [.mk 1 0 0 l1 [], .mk 1 0 0 l2 [], .mk 0 0 (numU x3) [] [], .mk 1 0 0 l4 []]) := hqZ HX2.out
  have HR : Hid (∀ W, GV (fun b => q < b) q X wd W → VR w q [(p, [.string (tx l1), .string (tx l2), .int .i64 x3, .slice a4 l4.length c4], 68)] [] [(.slice a4 l4.length c4, l4)] W) := hqZ (fun W h => hvd.gv h)
  have HZD : Hid (∀ W, GV (fun b => q < b) q X wd W → q < W.heap.size ∧ ∀ b, W.heap.size ≤ b → q < b) := hqZ (fun W h => ⟨(HR.out W h).lt, fun b hb => Nat.lt_of_lt_of_le (HR.out W h).lt hb⟩)
  have HFq : Hid (¬ (fun b => q < b) q) := hqZ (Nat.lt_irrefl q)
  have HQW : Hid (w.heap.size = q) := hqZ hvd.hq.symm
  clear hvd HC
  refine wp_region_held (S := fun W => GV (fun b => q < b) q X wd W) (by kernel_rfl) ?_
  change wpAnyH _ _ _ _ _ _ _ _ (World.drew _)
  rw [← hwd]
  clear hwd
  refine tkH 0 259 none (.pointer (some ⟨p, 0, none⟩)) rfl (by kernel_rfl) (fun _ _ _ h => h) (by rfl) (by intro W hW; go_simp) (GV.refl _ _ _ _) ?_
  simp only [Act.put, zq1, zq2, zq3]
  refine tkH 1 260 none (.string (tx l1)) rfl (by kernel_rfl) (fun _ _ _ h => h) (by rfl) (by intro W hW; have hc : W.cell? ⟨p, 0, none⟩ = some (.string (tx l1)) := ((HR.out W hW).blkAt 0 rfl).cell 0; go_simp) (GV.refl _ _ _ _) ?_
  simp only [Act.put, zq1, zq2, zq3]
  refine tkH 3 262 none (.pointer (some ⟨p, 1, none⟩)) rfl (by kernel_rfl) (fun _ _ _ h => h) (by rfl) (by intro W hW; go_simp) (GV.refl _ _ _ _) ?_
  simp only [Act.put, zq1, zq2, zq3]
  refine tkH 4 263 none (.string (tx l2)) rfl (by kernel_rfl) (fun _ _ _ h => h) (by rfl) (by intro W hW; have hc : W.cell? ⟨p, 1, none⟩ = some (.string (tx l2)) := ((HR.out W hW).blkAt 0 rfl).cell 1; go_simp) (GV.refl _ _ _ _) ?_
  simp only [Act.put, zq1, zq2, zq3]
  refine tkH 6 265 none (.pointer (some ⟨p, 2, none⟩)) rfl (by kernel_rfl) (fun _ _ _ h => h) (by rfl) (by intro W hW; go_simp) (GV.refl _ _ _ _) ?_
  simp only [Act.put, zq1, zq2, zq3]
  refine tkH 7 266 none (.int .i64 x3) rfl (by kernel_rfl) (fun _ _ _ h => h) (by rfl) (by intro W hW; have hc : W.cell? ⟨p, 2, none⟩ = some (.int .i64 x3) := ((HR.out W hW).blkAt 0 rfl).cell 2; go_simp) (GV.refl _ _ _ _) ?_
  simp only [Act.put, zq1, zq2, zq3]
  refine tkH 9 268 none (.pointer (some ⟨p, 3, none⟩)) rfl (by kernel_rfl) (fun _ _ _ h => h) (by rfl) (by intro W hW; go_simp) (GV.refl _ _ _ _) ?_
  simp only [Act.put, zq1, zq2, zq3]
  refine tkH 10 269 none (.slice a4 l4.length c4) rfl (by kernel_rfl) (fun _ _ _ h => h) (by rfl) (by intro W hW; have hc : W.cell? ⟨p, 3, none⟩ = some (.slice a4 l4.length c4) := ((HR.out W hW).blkAt 0 rfl).cell 3; go_simp) (GV.refl _ _ _ _) ?_
  simp only [Act.put, zq1, zq2, zq3]
  refine tkH 14 273 none (.pointer (some ⟨p, 0, none⟩)) rfl (by kernel_rfl) (fun _ _ _ h => h) (by rfl) (by intro W hW; go_simp) (GV.refl _ _ _ _) ?_
  simp only [Act.put, zq1, zq2, zq3]
  refine tkH 15 274 none (.string (tx l1)) rfl (by kernel_rfl) (fun _ _ _ h => h) (by rfl) (by intro W hW; have hc : W.cell? ⟨p, 0, none⟩ = some (.string (tx l1)) := ((HR.out W hW).blkAt 0 rfl).cell 0; go_simp) (GV.refl _ _ _ _) ?_
  simp only [Act.put, zq1, zq2, zq3]
  refine tkH 16 275 none (.pointer (some ⟨p, 1, none⟩)) rfl (by kernel_rfl) (fun _ _ _ h => h) (by rfl) (by intro W hW; go_simp) (GV.refl _ _ _ _) ?_
  simp only [Act.put, zq1, zq2, zq3]
  refine tkH 17 276 none (.string (tx l2)) rfl (by kernel_rfl) (fun _ _ _ h => h) (by rfl) (by intro W hW; have hc : W.cell? ⟨p, 1, none⟩ = some (.string (tx l2)) := ((HR.out W hW).blkAt 0 rfl).cell 1; go_simp) (GV.refl _ _ _ _) ?_
  simp only [Act.put, zq1, zq2, zq3]
  refine tkH 19 278 none (.pointer (some ⟨p, 2, none⟩)) rfl (by kernel_rfl) (fun _ _ _ h => h) (by rfl) (by intro W hW; go_simp) (GV.refl _ _ _ _) ?_
  simp only [Act.put, zq1, zq2, zq3]
  refine tkH 20 279 none (.int .i64 x3) rfl (by kernel_rfl) (fun _ _ _ h => h) (by rfl) (by intro W hW; have hc : W.cell? ⟨p, 2, none⟩ = some (.int .i64 x3) := ((HR.out W hW).blkAt 0 rfl).cell 2; go_simp) (GV.refl _ _ _ _) ?_
  simp only [Act.put, zq1, zq2, zq3]
  refine anyH_steps (G := GV (fun b => q < b) q X) (Post := postV (fun b => q < b) q X [.any, .any, .val (.mk 1 0 0 l1 []), .any, .any, .val (.mk 1 0 0 l2 []), .any, .any, .val (.mk 0 0 (numU x3) [] []), .any, .any, .val (.mk 1 0 0 l4 []), .vals [.mk 1 0 0 l1 [], .mk 1 0 0 l2 [], .mk 0 0 (numU x3) [] [], .mk 1 0 0 l4 []], .val (.mk 2 18 0 [] [.mk 1 0 0 l1 [], .mk 1 0 0 l2 [], .mk 0 0 (numU x3) [] [], .mk 1 0 0 l4 []]), .any, .any, .any, .any, .row [.string (tx l1), .string (tx l2)], .any, .any, .row [.int .i64 x3], .is (.bool ([tx l1, tx l2].all rightB && [x3].all timeB)), .fin, .is (.bool ([tx l1, tx l2].all rightB && [x3].all timeB))]) (ds := [261, 264, 267, 270, 271, 272, 277, 280, 281, 3]) (GV.refl _ _ _) GV.trans (fun W W' h g => GV.trans _ _ _ h g) (fun i v W W' h g => PK.stable HFq.out h g) [2, 5, 8, 11, 12, 13, 18, 21, 22, 23, 24] 397 rfl (by decide +kernel) (by decide +kernel) ?_ ?_ (GV.refl _ _ _ _) (by decide +kernel)
  · refine AllSteps.cons (o := { dst := some 261, op := .call { callee := .value (.func 26), args := #[.tmp 260], argTypes := #[9] }, type := _, pos := _, after := _, guard := none }) rfl (fun a W hf hS hd K hK => ?_) ?_
    · have e260 : a.eval (.tmp 260) = .string (tx l1) := hf.lit 260 (by decide) rfl
      exact stepV_mk (wanted_none rfl) rfl enters_mtext (vs := #[.string (tx l1)]) (by simp [e260]) (mtext_any l1 W HZ1.out) (HZD.out W hS).1 (HZD.out W hS).2 hK
    refine AllSteps.cons (o := { dst := some 264, op := .call { callee := .value (.func 26), args := #[.tmp 263], argTypes := #[9] }, type := _, pos := _, after := _, guard := none }) rfl (fun a W hf hS hd K hK => ?_) ?_
    · have e263 : a.eval (.tmp 263) = .string (tx l2) := hf.lit 263 (by decide) rfl
      exact stepV_mk (wanted_none rfl) rfl enters_mtext (vs := #[.string (tx l2)]) (by simp [e263]) (mtext_any l2 W HZ2.out) (HZD.out W hS).1 (HZD.out W hS).2 hK
    refine AllSteps.cons (o := { dst := some 267, op := .call { callee := .value (.func 27), args := #[.tmp 266], argTypes := #[2] }, type := _, pos := _, after := _, guard := none }) rfl (fun a W hf hS hd K hK => ?_) ?_
    · have e266 : a.eval (.tmp 266) = .int .i64 x3 := hf.lit 266 (by decide) rfl
      exact stepV_mk (wanted_none rfl) rfl enters_mnum (vs := #[.int .i64 x3]) (by simp [e266]) (mnumI_any x3 W HZ3.out.1 HZ3.out.2) (HZD.out W hS).1 (HZD.out W hS).2 hK
    refine AllSteps.cons (o := { dst := some 270, op := .call { callee := .value (.func 28), args := #[.tmp 269], argTypes := #[22] }, type := _, pos := _, after := _, guard := none }) rfl (fun a W hf hS hd K hK => ?_) ?_
    · have e269 : a.eval (.tmp 269) = .slice a4 l4.length c4 := hf.lit 269 (by decide) rfl
      exact stepV_mk (wanted_none rfl) rfl enters_raw (vs := #[.slice a4 l4.length c4]) (by simp [e269]) (rawNew_any _ l4 W ((HR.out W hS).rowAt 0 rfl) HZ4.out) (HZD.out W hS).1 (HZD.out W hS).2 hK
    refine AllSteps.cons (o := { dst := some 271, op := .buildSlice 36 4 #[(0, .tmp 261), (1, .tmp 264), (2, .tmp 267), (3, .tmp 270)], type := _, pos := _, after := _, guard := none }) rfl (fun a W hf hS hd K hK => ?_) ?_
    · have d261 := (hd 2 (by decide +kernel)).get (s := 261) rfl
      have d264 := (hd 5 (by decide +kernel)).get (s := 264) rfl
      have d267 := (hd 8 (by decide +kernel)).get (s := 267) rfl
      have d270 := (hd 11 (by decide +kernel)).get (s := 270) rfl
      exact stepV_vals (wanted_none rfl) rfl elDer (ps := [.tmp 261, .tmp 264, .tmp 267, .tmp 270]) rfl (l := [.mk 1 0 0 l1 [], .mk 1 0 0 l2 [], .mk 0 0 (numU x3) [] [], .mk 1 0 0 l4 []]) ⟨d261, d264, d267, d270, trivial⟩ rfl (by decide) (by decide) (HZD.out W hS).1 (HZD.out W hS).2 hK
    refine AllSteps.cons (o := { dst := some 272, op := .call { callee := .value (.func 25), args := #[.const (.int .i64 18), .tmp 271], argTypes := #[3, 36] }, type := _, pos := _, after := _, guard := none }) rfl (fun a W hf hS hd K hK => ?_) ?_
    · have d271 := (hd 12 (by decide +kernel)).get (s := 271) rfl
      exact stepV_seq (wanted_none rfl) rfl enters_seq d271 (HZD.out W hS).1 (fun v w1 h1 h2 => hK v w1 h1 h2) HFq.out
    refine AllSteps.cons (o := { dst := some 277, op := .buildSlice 93 2 #[(0, .tmp 274), (1, .tmp 276)], type := _, pos := _, after := _, guard := none }) rfl (fun a W hf hS hd K hK => ?_) ?_
    · have e274 : a.eval (.tmp 274) = .string (tx l1) := hf.lit 274 (by decide) rfl
      have e276 : a.eval (.tmp 276) = .string (tx l2) := hf.lit 276 (by decide) rfl
      exact stepV_row (wanted_none rfl) rfl elStr (ps := [.tmp 274, .tmp 276]) rfl (cs := [.string (tx l1), .string (tx l2)]) (by simp only [List.map_cons, List.map_nil, e274, e276]) (by intro u hu; simp only [List.mem_cons, List.not_mem_nil, or_false] at hu; rcases hu with rfl | rfl <;> exact ⟨rfl, rfl⟩) rfl (by decide) (by decide) (HZD.out W hS).1 (HZD.out W hS).2 hK
    refine AllSteps.cons (o := { dst := some 280, op := .buildSlice 116 1 #[(0, .tmp 279)], type := _, pos := _, after := _, guard := none }) rfl (fun a W hf hS hd K hK => ?_) ?_
    · have e279 : a.eval (.tmp 279) = .int .i64 x3 := hf.lit 279 (by decide) rfl
      exact stepV_row (wanted_none rfl) rfl elI64 (ps := [.tmp 279]) rfl (cs := [.int .i64 x3]) (by simp only [List.map_cons, List.map_nil, e279]) (by intro u hu; simp only [List.mem_cons, List.not_mem_nil, or_false] at hu; rcases hu with rfl <;> exact ⟨rfl, rfl⟩) rfl (by decide) (by decide) (HZD.out W hS).1 (HZD.out W hS).2 hK
    refine AllSteps.cons (o := { dst := some 281, op := .call { callee := .value (.func 29), args := #[.tmp 277, .tmp 280], argTypes := #[93, 116] }, type := _, pos := _, after := _, guard := none }) rfl (fun a W hf hS hd K hK => ?_) ?_
    · have d277 := (hd 18 (by decide +kernel)).get (s := 277) rfl
      have d280 := (hd 21 (by decide +kernel)).get (s := 280) rfl
      exact stepV_is (wanted_none rfl) rfl enters_mright (vs := #[a.eval (.tmp 277), a.eval (.tmp 280)]) (by first | (simp only [List.map_toArray, List.map_cons, List.map_nil]; done) | (simp only [List.map_toArray, List.map_cons, List.map_nil]; rfl)) (u := (.bool ([tx l1, tx l2].all rightB && [x3].all timeB))) (mright_any [tx l1, tx l2] [x3] _ _ W d277.1 d280.1 HSZ.out) (HZD.out W hS).1 hK
    refine AllSteps.cons (o := { dst := none, op := .store 38 (.tmp 2) (.tmp 272), type := _, pos := _, after := _, guard := none }) rfl (fun a W hf hS hd K hK => ?_) ?_
    · have e2 : a.eval (.tmp 2) = .pointer (some ⟨q, 0, none⟩) := hf.lit 2 (by decide) rfl
      have d272 := (hd 13 (by decide +kernel)).get (s := 272) rfl
      obtain ⟨cur, hc1, hc2⟩ := (HR.out W hS).len
      rw [← HXE.out] at d272
      exact stepV_fin (wanted_none rfl) rfl e2 d272 hc1 hc2 HFq.out hK
    refine AllSteps.cons (o := { dst := some 3, op := .assign (.tmp 281), type := _, pos := _, after := _, guard := none }) rfl (fun a W hf hS hd K hK => ?_) ?_
    · have d281 := (hd 22 (by decide +kernel)).get (s := 281) rfl
      exact step_val (wanted_none rfl) (exec_asg rfl rfl) (hK _ _ (GV.refl _ _ _ _) d281)
    exact AllSteps.nil
  · intro a W hf hS hp
    have h3 := (hp 24 (by decide)).get (s := 3) rfl
    obtain ⟨v, cs, h5, h6⟩ := (hp 23 (by decide)).fin
    have e2 : a.eval (.tmp 2) = .pointer (some ⟨q, 0, none⟩) := hf.lit 2 (by decide) rfl
    go_wp2_with fail
    refine bodyPost_ret (results_agg_tmp rfl aggDer (show a.tmps.getD 2 undef = _ from e2) h6.length h5.cellsAll) hf.defers ⟨cs, ?_, ?_, (HR.out W hS).below⟩
    · rw [HBE.out, show a.tmps.getD 3 undef = .bool ([tx l1, tx l2].all rightB && [x3].all timeB) from h3]
    · exact h6.mono (fun b hb => by have := HQW.out; omega)
set_option maxHeartbeats 16000000 in
set_option maxRecDepth 100000 in
theorem msgValue_19 (F0 : Nat → Prop) (l1 : List UInt8) (l2 : List UInt8) (x3 : Int) (x4 : Int) (x5 : Int) (l6 : List UInt8) (v6 : Value) (w : World) (hz1 : l1.length ≤ 140737488355328) (hz2 : l2.length ≤ 140737488355328) (hz3 : -9223372036854775808 ≤ x3 ∧ x3 ≤ 9223372036854775807) (hz4 : -9223372036854775808 ≤ x4 ∧ x4 ≤ 9223372036854775807) (hz5 : -9223372036854775808 ≤ x5 ∧ x5 ≤ 9223372036854775807) (hb6 : Bs w v6 l6) (hz6 : l6.length ≤ 140737488355328) :
    Calls Try.prog 10 #[.iface 70 (.agg #[.string (tx l1), .string (tx l2), .int .i64 x3, .int .i64 x4, .int .i64 x5, v6])] w (VlRes w (.mk 2 19 0 [] ([.s l1, .s l2, .n x3, .n x4, .n x5, .b l6].map ptTv)) ([.s l1, .s l2, .n x3, .n x4, .n x5, .b l6].all ptB)) := by
  obtain ⟨a6, c6, rfl, hc6, hm6⟩ := hb6.form
  have HC : Hid (VC w w.heap.size [(w.heap.size + 1, [.string (tx l1), .string (tx l2), .int .i64 x3, .int .i64 x4, .int .i64 x5, .slice a6 l6.length c6], 70)] [] [(.slice a6 l6.length c6, l6)] ((w.alloc (.cells zs5.toArray 38)).alloc (.cells [.string (tx l1), .string (tx l2), .int .i64 x3, .int .i64 x4, .int .i64 x5, .slice a6 l6.length c6].toArray 70))) := hqZ (VC.start (by intro r hr; simp only [List.mem_cons, List.not_mem_nil, or_false] at hr; rcases hr with rfl; exact hb6) _ _)
  have HSZ : Hid (∀ u ∈ [tx l1, tx l2], u.size ≤ maxLen) := hqZ (by intro u hu; simp only [List.mem_cons, List.not_mem_nil, or_false] at hu; rcases hu with rfl | rfl; exact szTx hz1; exact szTx hz2)
  have HZ1 := hqZ hz1
  clear hz1
  have HZ2 := hqZ hz2
  clear hz2
  have HZ3 := hqZ hz3
  clear hz3
  have HZ4 := hqZ hz4
  clear hz4
  have HZ5 := hqZ hz5
  clear hz5
  have HZ6 := hqZ hz6
  clear hz6
  clear hb6
  obtain ⟨z11, hta11⟩ := tan 54 70 (.agg #[.string (tx l1), .string (tx l2), .int .i64 x3, .int .i64 x4, .int .i64 x5, .slice a6 l6.length c6]) zero_11 (by kernel_rfl) (by decide)
  obtain ⟨z12, hta12⟩ := tan 56 70 (.agg #[.string (tx l1), .string (tx l2), .int .i64 x3, .int .i64 x4, .int .i64 x5, .slice a6 l6.length c6]) zero_12 (by kernel_rfl) (by decide)
  obtain ⟨z13, hta13⟩ := tan 59 70 (.agg #[.string (tx l1), .string (tx l2), .int .i64 x3, .int .i64 x4, .int .i64 x5, .slice a6 l6.length c6]) zero_13 (by kernel_rfl) (by decide)
  obtain ⟨z14, hta14⟩ := tan 60 70 (.agg #[.string (tx l1), .string (tx l2), .int .i64 x3, .int .i64 x4, .int .i64 x5, .slice a6 l6.length c6]) zero_14 (by kernel_rfl) (by decide)
  obtain ⟨z15, hta15⟩ := tan 62 70 (.agg #[.string (tx l1), .string (tx l2), .int .i64 x3, .int .i64 x4, .int .i64 x5, .slice a6 l6.length c6]) zero_15 (by kernel_rfl) (by decide)
  obtain ⟨z16, hta16⟩ := tan 64 70 (.agg #[.string (tx l1), .string (tx l2), .int .i64 x3, .int .i64 x4, .int .i64 x5, .slice a6 l6.length c6]) zero_16 (by kernel_rfl) (by decide)
  obtain ⟨z17, hta17⟩ := tan 66 70 (.agg #[.string (tx l1), .string (tx l2), .int .i64 x3, .int .i64 x4, .int .i64 x5, .slice a6 l6.length c6]) zero_17 (by kernel_rfl) (by decide)
  obtain ⟨z18, hta18⟩ := tan 68 70 (.agg #[.string (tx l1), .string (tx l2), .int .i64 x3, .int .i64 x4, .int .i64 x5, .slice a6 l6.length c6]) zero_18 (by kernel_rfl) (by decide)
  have hta : ∀ W, (Instr.typeAssert (.iface 70 (.agg #[.string (tx l1), .string (tx l2), .int .i64 x3, .int .i64 x4, .int .i64 x5, .slice a6 l6.length c6])) 20 70 true).run Try.prog W = .ok (.tuple #[.agg #[.string (tx l1), .string (tx l2), .int .i64 x3, .int .i64 x4, .int .i64 x5, .slice a6 l6.length c6], .bool true]) W := fun W => ta_is _ _ _ (by kernel_rfl) W
  obtain ⟨B, hB⟩ : ∃ B, B = [.s l1, .s l2, .n x3, .n x4, .n x5, .b l6].all ptB := ⟨_, rfl⟩
  obtain ⟨X, hX⟩ : ∃ X : Tv, X = .mk 2 19 0 [] ([.s l1, .s l2, .n x3, .n x4, .n x5, .b l6].map ptTv) := ⟨_, rfl⟩
  rw [← hB, ← hX]
  have HB := hqZ hB
  have HX2 := hqZ hX
  clear hB hX
  go_enter Try.func10, Try.ntmps10
  go_upto_region 34 with fail
  clear hta hta11 hta12 hta13 hta14 hta15 hta16 hta17 hta18
  show Code.wp _ _ _ _ ((w.alloc (.cells zs5.toArray 38)).alloc (.cells [.string (tx l1), .string (tx l2), .int .i64 x3, .int .i64 x4, .int .i64 x5, .slice a6 l6.length c6].toArray 70))
  obtain ⟨W0, hW0⟩ : ∃ W0, W0 = (w.alloc (.cells zs5.toArray 38)).alloc (.cells [.string (tx l1), .string (tx l2), .int .i64 x3, .int .i64 x4, .int .i64 x5, .slice a6 l6.length c6].toArray 70) := ⟨_, rfl⟩
  rw [← hW0] at HC ⊢
  clear hW0
  obtain ⟨p, hp⟩ : ∃ p, p = w.heap.size + 1 := ⟨_, rfl⟩
  obtain ⟨q, hq⟩ : ∃ q, q = w.heap.size := ⟨_, rfl⟩
  rw [← hp, ← hq] at HC ⊢
  clear hp hq
  have HBE : Hid (B = ([tx l1, tx l2].all rightB && [x3, x4, x5].all timeB)) := hqZ (by rw [HB.out]; simp only [List.all_cons, List.all_nil, ptB, Bool.and_true, Bool.true_and, Bool.and_false, Bool.false_and, Bool.and_assoc]; first | done | ac_rfl)
  obtain ⟨wd, hwd⟩ : ∃ wd, wd = World.drew W0 := ⟨_, rfl⟩
  have hvd : VC w q [(p, [.string (tx l1), .string (tx l2), .int .i64 x3, .int .i64 x4, .int .i64 x5, .slice a6 l6.length c6], 70)] [] [(.slice a6 l6.length c6, l6)] wd := by rw [hwd]; exact HC.out.drew
  have HXE : Hid (X = .mk 2 19 0 [] [.mk 1 0 0 l1 [], .mk 1 0 0 l2 [], .mk 0 0 (numU x3) [] [], .mk 0 0 (numU x4) [] [], .mk 0 0 (numU x5) [] [], .mk 1 0 0 l6 []]) := hqZ HX2.out
  have HR : Hid (∀ W, GV (fun b => q < b) q X wd W → VR w q [(p, [.string (tx l1), .string (tx l2), .int .i64 x3, .int .i64 x4, .int .i64 x5, .slice a6 l6.length c6], 70)] [] [(.slice a6 l6.length c6, l6)] W) := hqZ (fun W h => hvd.gv h)
  have HZD : Hid (∀ W, GV (fun b => q < b) q X wd W → q < W.heap.size ∧ ∀ b, W.heap.size ≤ b → q < b) := hqZ (fun W h => ⟨(HR.out W h).lt, fun b hb => Nat.lt_of_lt_of_le (HR.out W h).lt hb⟩)
  have HFq : Hid (¬ (fun b => q < b) q) := hqZ (Nat.lt_irrefl q)
  have HQW : Hid (w.heap.size = q) := hqZ hvd.hq.symm
  clear hvd HC
  refine wp_region_held (S := fun W => GV (fun b => q < b) q X wd W) (by kernel_rfl) ?_
  change wpAnyH _ _ _ _ _ _ _ _ (World.drew _)
  rw [← hwd]
  clear hwd
  refine tkH 0 285 none (.pointer (some ⟨p, 0, none⟩)) rfl (by kernel_rfl) (fun _ _ _ h => h) (by rfl) (by intro W hW; go_simp) (GV.refl _ _ _ _) ?_
  simp only [Act.put, zq1, zq2, zq3]
  refine tkH 1 286 none (.string (tx l1)) rfl (by kernel_rfl) (fun _ _ _ h => h) (by rfl) (by intro W hW; have hc : W.cell? ⟨p, 0, none⟩ = some (.string (tx l1)) := ((HR.out W hW).blkAt 0 rfl).cell 0; go_simp) (GV.refl _ _ _ _) ?_
  simp only [Act.put, zq1, zq2, zq3]
  refine tkH 3 288 none (.pointer (some ⟨p, 1, none⟩)) rfl (by kernel_rfl) (fun _ _ _ h => h) (by rfl) (by intro W hW; go_simp) (GV.refl _ _ _ _) ?_
  simp only [Act.put, zq1, zq2, zq3]
  refine tkH 4 289 none (.string (tx l2)) rfl (by kernel_rfl) (fun _ _ _ h => h) (by rfl) (by intro W hW; have hc : W.cell? ⟨p, 1, none⟩ = some (.string (tx l2)) := ((HR.out W hW).blkAt 0 rfl).cell 1; go_simp) (GV.refl _ _ _ _) ?_
  simp only [Act.put, zq1, zq2, zq3]
  refine tkH 6 291 none (.pointer (some ⟨p, 2, none⟩)) rfl (by kernel_rfl) (fun _ _ _ h => h) (by rfl) (by intro W hW; go_simp) (GV.refl _ _ _ _) ?_
  simp only [Act.put, zq1, zq2, zq3]
  refine tkH 7 292 none (.int .i64 x3) rfl (by kernel_rfl) (fun _ _ _ h => h) (by rfl) (by intro W hW; have hc : W.cell? ⟨p, 2, none⟩ = some (.int .i64 x3) := ((HR.out W hW).blkAt 0 rfl).cell 2; go_simp) (GV.refl _ _ _ _) ?_
  simp only [Act.put, zq1, zq2, zq3]
  refine tkH 9 294 none (.pointer (some ⟨p, 3, none⟩)) rfl (by kernel_rfl) (fun _ _ _ h => h) (by rfl) (by intro W hW; go_simp) (GV.refl _ _ _ _) ?_
  simp only [Act.put, zq1, zq2, zq3]
  refine tkH 10 295 none (.int .i64 x4) rfl (by kernel_rfl) (fun _ _ _ h => h) (by rfl) (by intro W hW; have hc : W.cell? ⟨p, 3, none⟩ = some (.int .i64 x4) := ((HR.out W hW).blkAt 0 rfl).cell 3; go_simp) (GV.refl _ _ _ _) ?_
  simp only [Act.put, zq1, zq2, zq3]
  refine tkH 12 297 none (.pointer (some ⟨p, 4, none⟩)) rfl (by kernel_rfl) (fun _ _ _ h => h) (by rfl) (by intro W hW; go_simp) (GV.refl _ _ _ _) ?_
  simp only [Act.put, zq1, zq2, zq3]
  refine tkH 13 298 none (.int .i64 x5) rfl (by kernel_rfl) (fun _ _ _ h => h) (by rfl) (by intro W hW; have hc : W.cell? ⟨p, 4, none⟩ = some (.int .i64 x5) := ((HR.out W hW).blkAt 0 rfl).cell 4; go_simp) (GV.refl _ _ _ _) ?_
  simp only [Act.put, zq1, zq2, zq3]
  refine tkH 15 300 none (.pointer (some ⟨p, 5, none⟩)) rfl (by kernel_rfl) (fun _ _ _ h => h) (by rfl) (by intro W hW; go_simp) (GV.refl _ _ _ _) ?_
  simp only [Act.put, zq1, zq2, zq3]
  refine tkH 16 301 none (.slice a6 l6.length c6) rfl (by kernel_rfl) (fun _ _ _ h => h) (by rfl) (by intro W hW; have hc : W.cell? ⟨p, 5, none⟩ = some (.slice a6 l6.length c6) := ((HR.out W hW).blkAt 0 rfl).cell 5; go_simp) (GV.refl _ _ _ _) ?_
  simp only [Act.put, zq1, zq2, zq3]
  refine tkH 20 305 none (.pointer (some ⟨p, 0, none⟩)) rfl (by kernel_rfl) (fun _ _ _ h => h) (by rfl) (by intro W hW; go_simp) (GV.refl _ _ _ _) ?_
  simp only [Act.put, zq1, zq2, zq3]
  refine tkH 21 306 none (.string (tx l1)) rfl (by kernel_rfl) (fun _ _ _ h => h) (by rfl) (by intro W hW; have hc : W.cell? ⟨p, 0, none⟩ = some (.string (tx l1)) := ((HR.out W hW).blkAt 0 rfl).cell 0; go_simp) (GV.refl _ _ _ _) ?_
  simp only [Act.put, zq1, zq2, zq3]
  refine tkH 22 307 none (.pointer (some ⟨p, 1, none⟩)) rfl (by kernel_rfl) (fun _ _ _ h => h) (by rfl) (by intro W hW; go_simp) (GV.refl _ _ _ _) ?_
  simp only [Act.put, zq1, zq2, zq3]
  refine tkH 23 308 none (.string (tx l2)) rfl (by kernel_rfl) (fun _ _ _ h => h) (by rfl) (by intro W hW; have hc : W.cell? ⟨p, 1, none⟩ = some (.string (tx l2)) := ((HR.out W hW).blkAt 0 rfl).cell 1; go_simp) (GV.refl _ _ _ _) ?_
  simp only [Act.put, zq1, zq2, zq3]
  refine tkH 25 310 none (.pointer (some ⟨p, 2, none⟩)) rfl (by kernel_rfl) (fun _ _ _ h => h) (by rfl) (by intro W hW; go_simp) (GV.refl _ _ _ _) ?_
  simp only [Act.put, zq1, zq2, zq3]
  refine tkH 26 311 none (.int .i64 x3) rfl (by kernel_rfl) (fun _ _ _ h => h) (by rfl) (by intro W hW; have hc : W.cell? ⟨p, 2, none⟩ = some (.int .i64 x3) := ((HR.out W hW).blkAt 0 rfl).cell 2; go_simp) (GV.refl _ _ _ _) ?_
  simp only [Act.put, zq1, zq2, zq3]
  refine tkH 27 312 none (.pointer (some ⟨p, 3, none⟩)) rfl (by kernel_rfl) (fun _ _ _ h => h) (by rfl) (by intro W hW; go_simp) (GV.refl _ _ _ _) ?_
  simp only [Act.put, zq1, zq2, zq3]
  refine tkH 28 313 none (.int .i64 x4) rfl (by kernel_rfl) (fun _ _ _ h => h) (by rfl) (by intro W hW; have hc : W.cell? ⟨p, 3, none⟩ = some (.int .i64 x4) := ((HR.out W hW).blkAt 0 rfl).cell 3; go_simp) (GV.refl _ _ _ _) ?_
  simp only [Act.put, zq1, zq2, zq3]
  refine tkH 29 314 none (.pointer (some ⟨p, 4, none⟩)) rfl (by kernel_rfl) (fun _ _ _ h => h) (by rfl) (by intro W hW; go_simp) (GV.refl _ _ _ _) ?_
  simp only [Act.put, zq1, zq2, zq3]
  refine tkH 30 315 none (.int .i64 x5) rfl (by kernel_rfl) (fun _ _ _ h => h) (by rfl) (by intro W hW; have hc : W.cell? ⟨p, 4, none⟩ = some (.int .i64 x5) := ((HR.out W hW).blkAt 0 rfl).cell 4; go_simp) (GV.refl _ _ _ _) ?_
  simp only [Act.put, zq1, zq2, zq3]
  refine anyH_steps (G := GV (fun b => q < b) q X) (Post := postV (fun b => q < b) q X [.any, .any, .val (.mk 1 0 0 l1 []), .any, .any, .val (.mk 1 0 0 l2 []), .any, .any, .val (.mk 0 0 (numU x3) [] []), .any, .any, .val (.mk 0 0 (numU x4) [] []), .any, .any, .val (.mk 0 0 (numU x5) [] []), .any, .any, .val (.mk 1 0 0 l6 []), .vals [.mk 1 0 0 l1 [], .mk 1 0 0 l2 [], .mk 0 0 (numU x3) [] [], .mk 0 0 (numU x4) [] [], .mk 0 0 (numU x5) [] [], .mk 1 0 0 l6 []], .val (.mk 2 19 0 [] [.mk 1 0 0 l1 [], .mk 1 0 0 l2 [], .mk 0 0 (numU x3) [] [], .mk 0 0 (numU x4) [] [], .mk 0 0 (numU x5) [] [], .mk 1 0 0 l6 []]), .any, .any, .any, .any, .row [.string (tx l1), .string (tx l2)], .any, .any, .any, .any, .any, .any, .row [.int .i64 x3, .int .i64 x4, .int .i64 x5], .is (.bool ([tx l1, tx l2].all rightB && [x3, x4, x5].all timeB)), .fin, .is (.bool ([tx l1, tx l2].all rightB && [x3, x4, x5].all timeB))]) (ds := [287, 290, 293, 296, 299, 302, 303, 304, 309, 316, 317, 3]) (GV.refl _ _ _) GV.trans (fun W W' h g => GV.trans _ _ _ h g) (fun i v W W' h g => PK.stable HFq.out h g) [2, 5, 8, 11, 14, 17, 18, 19, 24, 31, 32, 33, 34] 397 rfl (by decide +kernel) (by decide +kernel) ?_ ?_ (GV.refl _ _ _ _) (by decide +kernel)
  · refine AllSteps.cons (o := { dst := some 287, op := .call { callee := .value (.func 26), args := #[.tmp 286], argTypes := #[9] }, type := _, pos := _, after := _, guard := none }) rfl (fun a W hf hS hd K hK => ?_) ?_
    · have e286 : a.eval (.tmp 286) = .string (tx l1) := hf.lit 286 (by decide) rfl
      exact stepV_mk (wanted_none rfl) rfl enters_mtext (vs := #[.string (tx l1)]) (by simp [e286]) (mtext_any l1 W HZ1.out) (HZD.out W hS).1 (HZD.out W hS).2 hK
    refine AllSteps.cons (o := { dst := some 290, op := .call { callee := .value (.func 26), args := #[.tmp 289], argTypes := #[9] }, type := _, pos := _, after := _, guard := none }) rfl (fun a W hf hS hd K hK => ?_) ?_
    · have e289 : a.eval (.tmp 289) = .string (tx l2) := hf.lit 289 (by decide) rfl
      exact stepV_mk (wanted_none rfl) rfl enters_mtext (vs := #[.string (tx l2)]) (by simp [e289]) (mtext_any l2 W HZ2.out) (HZD.out W hS).1 (HZD.out W hS).2 hK
    refine AllSteps.cons (o := { dst := some 293, op := .call { callee := .value (.func 27), args := #[.tmp 292], argTypes := #[2] }, type := _, pos := _, after := _, guard := none }) rfl (fun a W hf hS hd K hK => ?_) ?_
    · have e292 : a.eval (.tmp 292) = .int .i64 x3 := hf.lit 292 (by decide) rfl
      exact stepV_mk (wanted_none rfl) rfl enters_mnum (vs := #[.int .i64 x3]) (by simp [e292]) (mnumI_any x3 W HZ3.out.1 HZ3.out.2) (HZD.out W hS).1 (HZD.out W hS).2 hK
    refine AllSteps.cons (o := { dst := some 296, op := .call { callee := .value (.func 27), args := #[.tmp 295], argTypes := #[2] }, type := _, pos := _, after := _, guard := none }) rfl (fun a W hf hS hd K hK => ?_) ?_
    · have e295 : a.eval (.tmp 295) = .int .i64 x4 := hf.lit 295 (by decide) rfl
      exact stepV_mk (wanted_none rfl) rfl enters_mnum (vs := #[.int .i64 x4]) (by simp [e295]) (mnumI_any x4 W HZ4.out.1 HZ4.out.2) (HZD.out W hS).1 (HZD.out W hS).2 hK
    refine AllSteps.cons (o := { dst := some 299, op := .call { callee := .value (.func 27), args := #[.tmp 298], argTypes := #[2] }, type := _, pos := _, after := _, guard := none }) rfl (fun a W hf hS hd K hK => ?_) ?_
    · have e298 : a.eval (.tmp 298) = .int .i64 x5 := hf.lit 298 (by decide) rfl
      exact stepV_mk (wanted_none rfl) rfl enters_mnum (vs := #[.int .i64 x5]) (by simp [e298]) (mnumI_any x5 W HZ5.out.1 HZ5.out.2) (HZD.out W hS).1 (HZD.out W hS).2 hK
    refine AllSteps.cons (o := { dst := some 302, op := .call { callee := .value (.func 28), args := #[.tmp 301], argTypes := #[22] }, type := _, pos := _, after := _, guard := none }) rfl (fun a W hf hS hd K hK => ?_) ?_
    · have e301 : a.eval (.tmp 301) = .slice a6 l6.length c6 := hf.lit 301 (by decide) rfl
      exact stepV_mk (wanted_none rfl) rfl enters_raw (vs := #[.slice a6 l6.length c6]) (by simp [e301]) (rawNew_any _ l6 W ((HR.out W hS).rowAt 0 rfl) HZ6.out) (HZD.out W hS).1 (HZD.out W hS).2 hK
    refine AllSteps.cons (o := { dst := some 303, op := .buildSlice 36 6 #[(0, .tmp 287), (1, .tmp 290), (2, .tmp 293), (3, .tmp 296), (4, .tmp 299), (5, .tmp 302)], type := _, pos := _, after := _, guard := none }) rfl (fun a W hf hS hd K hK => ?_) ?_
    · have d287 := (hd 2 (by decide +kernel)).get (s := 287) rfl
      have d290 := (hd 5 (by decide +kernel)).get (s := 290) rfl
      have d293 := (hd 8 (by decide +kernel)).get (s := 293) rfl
      have d296 := (hd 11 (by decide +kernel)).get (s := 296) rfl
      have d299 := (hd 14 (by decide +kernel)).get (s := 299) rfl
      have d302 := (hd 17 (by decide +kernel)).get (s := 302) rfl
      exact stepV_vals (wanted_none rfl) rfl elDer (ps := [.tmp 287, .tmp 290, .tmp 293, .tmp 296, .tmp 299, .tmp 302]) rfl (l := [.mk 1 0 0 l1 [], .mk 1 0 0 l2 [], .mk 0 0 (numU x3) [] [], .mk 0 0 (numU x4) [] [], .mk 0 0 (numU x5) [] [], .mk 1 0 0 l6 []]) ⟨d287, d290, d293, d296, d299, d302, trivial⟩ rfl (by decide) (by decide) (HZD.out W hS).1 (HZD.out W hS).2 hK
    refine AllSteps.cons (o := { dst := some 304, op := .call { callee := .value (.func 25), args := #[.const (.int .i64 19), .tmp 303], argTypes := #[3, 36] }, type := _, pos := _, after := _, guard := none }) rfl (fun a W hf hS hd K hK => ?_) ?_
    · have d303 := (hd 18 (by decide +kernel)).get (s := 303) rfl
      exact stepV_seq (wanted_none rfl) rfl enters_seq d303 (HZD.out W hS).1 (fun v w1 h1 h2 => hK v w1 h1 h2) HFq.out
    refine AllSteps.cons (o := { dst := some 309, op := .buildSlice 93 2 #[(0, .tmp 306), (1, .tmp 308)], type := _, pos := _, after := _, guard := none }) rfl (fun a W hf hS hd K hK => ?_) ?_
    · have e306 : a.eval (.tmp 306) = .string (tx l1) := hf.lit 306 (by decide) rfl
      have e308 : a.eval (.tmp 308) = .string (tx l2) := hf.lit 308 (by decide) rfl
      exact stepV_row (wanted_none rfl) rfl elStr (ps := [.tmp 306, .tmp 308]) rfl (cs := [.string (tx l1), .string (tx l2)]) (by simp only [List.map_cons, List.map_nil, e306, e308]) (by intro u hu; simp only [List.mem_cons, List.not_mem_nil, or_false] at hu; rcases hu with rfl | rfl <;> exact ⟨rfl, rfl⟩) rfl (by decide) (by decide) (HZD.out W hS).1 (HZD.out W hS).2 hK
    refine AllSteps.cons (o := { dst := some 316, op := .buildSlice 116 3 #[(0, .tmp 311), (1, .tmp 313), (2, .tmp 315)], type := _, pos := _, after := _, guard := none }) rfl (fun a W hf hS hd K hK => ?_) ?_
    · have e311 : a.eval (.tmp 311) = .int .i64 x3 := hf.lit 311 (by decide) rfl
      have e313 : a.eval (.tmp 313) = .int .i64 x4 := hf.lit 313 (by decide) rfl
      have e315 : a.eval (.tmp 315) = .int .i64 x5 := hf.lit 315 (by decide) rfl
      exact stepV_row (wanted_none rfl) rfl elI64 (ps := [.tmp 311, .tmp 313, .tmp 315]) rfl (cs := [.int .i64 x3, .int .i64 x4, .int .i64 x5]) (by simp only [List.map_cons, List.map_nil, e311, e313, e315]) (by intro u hu; simp only [List.mem_cons, List.not_mem_nil, or_false] at hu; rcases hu with rfl | rfl | rfl <;> exact ⟨rfl, rfl⟩) rfl (by decide) (by decide) (HZD.out W hS).1 (HZD.out W hS).2 hK
    refine AllSteps.cons (o := { dst := some 317, op := .call { callee := .value (.func 29), args := #[.tmp 309, .tmp 316], argTypes := #[93, 116] }, type := _, pos := _, after := _, guard := none }) rfl (fun a W hf hS hd K hK => ?_) ?_
    · have d309 := (hd 24 (by decide +kernel)).get (s := 309) rfl
      have d316 := (hd 31 (by decide +kernel)).get (s := 316) rfl
      exact stepV_is (wanted_none rfl) rfl enters_mright (vs := #[a.eval (.tmp 309), a.eval (.tmp 316)]) (by first | (simp only [List.map_toArray, List.map_cons, List.map_nil]; done) | (simp only [List.map_toArray, List.map_cons, List.map_nil]; rfl)) (u := (.bool ([tx l1, tx l2].all rightB && [x3, x4, x5].all timeB))) (mright_any [tx l1, tx l2] [x3, x4, x5] _ _ W d309.1 d316.1 HSZ.out) (HZD.out W hS).1 hK
    refine AllSteps.cons (o := { dst := none, op := .store 38 (.tmp 2) (.tmp 304), type := _, pos := _, after := _, guard := none }) rfl (fun a W hf hS hd K hK => ?_) ?_
    · have e2 : a.eval (.tmp 2) = .pointer (some ⟨q, 0, none⟩) := hf.lit 2 (by decide) rfl
      have d304 := (hd 19 (by decide +kernel)).get (s := 304) rfl
      obtain ⟨cur, hc1, hc2⟩ := (HR.out W hS).len
      rw [← HXE.out] at d304
      exact stepV_fin (wanted_none rfl) rfl e2 d304 hc1 hc2 HFq.out hK
    refine AllSteps.cons (o := { dst := some 3, op := .assign (.tmp 317), type := _, pos := _, after := _, guard := none }) rfl (fun a W hf hS hd K hK => ?_) ?_
    · have d317 := (hd 32 (by decide +kernel)).get (s := 317) rfl
      exact step_val (wanted_none rfl) (exec_asg rfl rfl) (hK _ _ (GV.refl _ _ _ _) d317)
    exact AllSteps.nil
  · intro a W hf hS hp
    have h3 := (hp 34 (by decide)).get (s := 3) rfl
    obtain ⟨v, cs, h5, h6⟩ := (hp 33 (by decide)).fin
    have e2 : a.eval (.tmp 2) = .pointer (some ⟨q, 0, none⟩) := hf.lit 2 (by decide) rfl
    go_wp2_with fail
    refine bodyPost_ret (results_agg_tmp rfl aggDer (show a.tmps.getD 2 undef = _ from e2) h6.length h5.cellsAll) hf.defers ⟨cs, ?_, ?_, (HR.out W hS).below⟩
    · rw [HBE.out, show a.tmps.getD 3 undef = .bool ([tx l1, tx l2].all rightB && [x3, x4, x5].all timeB) from h3]
    · exact h6.mono (fun b hb => by have := HQW.out; omega)
end Go.Proofs.Ytpjkidcfidmfaaa
