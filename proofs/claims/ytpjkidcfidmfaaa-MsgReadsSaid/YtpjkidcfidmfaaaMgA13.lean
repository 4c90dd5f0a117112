/- Texts of this proof, one behind the other: MValF, MValue. -/
import Derived.Test.YtpjkidcfidmfaaaMgA12
import Derived.Deep.DeepCutAuto
/- msg.Value, some of its ways. Printed by tools/genmvalue.py. -/
namespace Go.Proofs.Ytpjkidcfidmfaaa
set_option linter.unusedSimpArgs false
set_option linter.unusedVariables false
open Go.RowKit
set_option maxHeartbeats 16000000 in
set_option maxRecDepth 100000 in
theorem msgValue_20 (F0 : Nat → Prop) (l1 : List UInt8) (x2 : Int) (x3 : Int) (t4 : Bool) (l5 m5 : List UInt8) (v5 : Value) (l6 : List UInt8) (v6 : Value) (w : World) (hz1 : l1.length ≤ 1099511627776) (hz2 : -9223372036854775808 ≤ x2 ∧ x2 ≤ 9223372036854775807) (hz3 : -9223372036854775808 ≤ x3 ∧ x3 ≤ 9223372036854775807) (hb5 : Bs w v5 m5) (hz5 : l5.length ≤ 1099511627776 ∧ m5.length ≤ 1099511627776) (hb6 : Bs w v6 l6) (hz6 : l6.length ≤ 1099511627776) :
    Calls Try.prog 10 #[.iface 72 (.agg #[.string (tx l1), .int .i64 x2, .int .i64 x3, .bool t4, .string (tx l5), v5, v6])] w (VlRes w (.mk 2 20 0 [] ([.s l1, .n x2, .n x3, .t t4, .i (l5, m5), .b l6].map ptTv)) ([.s l1, .n x2, .n x3, .t t4, .i (l5, m5), .b l6].all ptB)) := by
  obtain ⟨a5, c5, rfl, hc5, hm5⟩ := hb5.form
  obtain ⟨a6, c6, rfl, hc6, hm6⟩ := hb6.form
  have HC : Hid (VC w w.heap.size [(w.heap.size + 1, [.string (tx l1), .int .i64 x2, .int .i64 x3, .bool t4, .string (tx l5), .slice a5 m5.length c5, .slice a6 l6.length c6], 72)] [] [(.slice a5 m5.length c5, m5), (.slice a6 l6.length c6, l6)] ((w.alloc (.cells zs5.toArray 38)).alloc (.cells [.string (tx l1), .int .i64 x2, .int .i64 x3, .bool t4, .string (tx l5), .slice a5 m5.length c5, .slice a6 l6.length c6].toArray 72))) := Lib.hid (VC.start (by intro r hr; simp only [List.mem_cons, List.not_mem_nil, or_false] at hr; rcases hr with rfl | rfl; exact hb5; exact hb6) _ _)
  have HSZ : Hid (∀ u ∈ [tx l1], u.size ≤ maxLen) := Lib.hid (by intro u hu; simp only [List.mem_cons, List.not_mem_nil, or_false] at hu; rcases hu with rfl; exact szTx hz1)
  have HZ1 := Lib.hid hz1
  clear hz1
  have HZ2 := Lib.hid hz2
  clear hz2
  have HZ3 := Lib.hid hz3
  clear hz3
  have HZ5 := Lib.hid hz5
  clear hz5
  have HZ6 := Lib.hid hz6
  clear hz6
  clear hb5
  clear hb6
  obtain ⟨z11, hta11⟩ := tan 54 72 (.agg #[.string (tx l1), .int .i64 x2, .int .i64 x3, .bool t4, .string (tx l5), .slice a5 m5.length c5, .slice a6 l6.length c6]) zero_11 (by kernel_rfl) (by decide)
  obtain ⟨z12, hta12⟩ := tan 56 72 (.agg #[.string (tx l1), .int .i64 x2, .int .i64 x3, .bool t4, .string (tx l5), .slice a5 m5.length c5, .slice a6 l6.length c6]) zero_12 (by kernel_rfl) (by decide)
  obtain ⟨z13, hta13⟩ := tan 59 72 (.agg #[.string (tx l1), .int .i64 x2, .int .i64 x3, .bool t4, .string (tx l5), .slice a5 m5.length c5, .slice a6 l6.length c6]) zero_13 (by kernel_rfl) (by decide)
  obtain ⟨z14, hta14⟩ := tan 60 72 (.agg #[.string (tx l1), .int .i64 x2, .int .i64 x3, .bool t4, .string (tx l5), .slice a5 m5.length c5, .slice a6 l6.length c6]) zero_14 (by kernel_rfl) (by decide)
  obtain ⟨z15, hta15⟩ := tan 62 72 (.agg #[.string (tx l1), .int .i64 x2, .int .i64 x3, .bool t4, .string (tx l5), .slice a5 m5.length c5, .slice a6 l6.length c6]) zero_15 (by kernel_rfl) (by decide)
  obtain ⟨z16, hta16⟩ := tan 64 72 (.agg #[.string (tx l1), .int .i64 x2, .int .i64 x3, .bool t4, .string (tx l5), .slice a5 m5.length c5, .slice a6 l6.length c6]) zero_16 (by kernel_rfl) (by decide)
  obtain ⟨z17, hta17⟩ := tan 66 72 (.agg #[.string (tx l1), .int .i64 x2, .int .i64 x3, .bool t4, .string (tx l5), .slice a5 m5.length c5, .slice a6 l6.length c6]) zero_17 (by kernel_rfl) (by decide)
  obtain ⟨z18, hta18⟩ := tan 68 72 (.agg #[.string (tx l1), .int .i64 x2, .int .i64 x3, .bool t4, .string (tx l5), .slice a5 m5.length c5, .slice a6 l6.length c6]) zero_18 (by kernel_rfl) (by decide)
  obtain ⟨z19, hta19⟩ := tan 70 72 (.agg #[.string (tx l1), .int .i64 x2, .int .i64 x3, .bool t4, .string (tx l5), .slice a5 m5.length c5, .slice a6 l6.length c6]) zero_19 (by kernel_rfl) (by decide)
  have hta : ∀ W, (Instr.typeAssert (.iface 72 (.agg #[.string (tx l1), .int .i64 x2, .int .i64 x3, .bool t4, .string (tx l5), .slice a5 m5.length c5, .slice a6 l6.length c6])) 20 72 true).run Try.prog W = .ok (.tuple #[.agg #[.string (tx l1), .int .i64 x2, .int .i64 x3, .bool t4, .string (tx l5), .slice a5 m5.length c5, .slice a6 l6.length c6], .bool true]) W := fun W => ta_is _ _ _ (by kernel_rfl) W
  obtain ⟨B, hB⟩ : ∃ B, B = [.s l1, .n x2, .n x3, .t t4, .i (l5, m5), .b l6].all ptB := ⟨_, rfl⟩
  obtain ⟨X, hX⟩ : ∃ X : Tv, X = .mk 2 20 0 [] ([.s l1, .n x2, .n x3, .t t4, .i (l5, m5), .b l6].map ptTv) := ⟨_, rfl⟩
  rw [← hB, ← hX]
  have HB := Lib.hid hB
  have HX2 := Lib.hid hX
  clear hB hX
  go_enter Try.func10, Try.ntmps10
  go_upto_region 37 with fail
  clear hta hta11 hta12 hta13 hta14 hta15 hta16 hta17 hta18 hta19
  show Code.wp _ _ _ _ ((w.alloc (.cells zs5.toArray 38)).alloc (.cells [.string (tx l1), .int .i64 x2, .int .i64 x3, .bool t4, .string (tx l5), .slice a5 m5.length c5, .slice a6 l6.length c6].toArray 72))
  obtain ⟨W0, hW0⟩ : ∃ W0, W0 = (w.alloc (.cells zs5.toArray 38)).alloc (.cells [.string (tx l1), .int .i64 x2, .int .i64 x3, .bool t4, .string (tx l5), .slice a5 m5.length c5, .slice a6 l6.length c6].toArray 72) := ⟨_, rfl⟩
  rw [← hW0] at HC ⊢
  clear hW0
  obtain ⟨p, hp⟩ : ∃ p, p = w.heap.size + 1 := ⟨_, rfl⟩
  obtain ⟨q, hq⟩ : ∃ q, q = w.heap.size := ⟨_, rfl⟩
  rw [← hp, ← hq] at HC ⊢
  clear hp hq
  have HTV1 := Lib.hid (tickValue_any (l5, m5) (.slice a5 m5.length c5) W0 (HC.out.rowAt 0 rfl) HZ5.out.1 HZ5.out.2)
  have HM1 := Lib.hid (HC.out.blkAt 0 rfl)
  rw [show rightB (tx (l5, m5).1) = rT (l5, m5) from rfl] at HTV1
  go_wp2_with ((with_reducible show wpList _ _ _ (⟨some 323, _, _, _, _, _⟩ :: _) _ _); refine wpList_ldAgg rfl (.tmp 322) aggTicket rfl rfl (cs := [.string (tx l5), .slice a5 m5.length c5]) rfl (HM1.out.cellsAt 4 2) ?_)
  refine HTV1.out.mono ?_
  rintro e wa1 ⟨cs1, rfl, htv, hb⟩
  have HCa1 := Lib.hid (HC.out.step hb)
  have HTT1 : Hid (TvF wa1 (fun b => q < b) (tkTv (l5, m5)) cs1) := Lib.hid (htv.mono (fun b hb => by have := HC.out.lt; omega))
  have HCL1 := Lib.hid htv.length
  have HCO1 := Lib.hid htv.one
  have HN1 := Lib.hid (Blk.new wa1 zs5 38)
  clear htv hb HTV1
  go_upto_region 38 with ((with_reducible show wpList _ _ _ (⟨none, .store _ (.tmp 26) (.tmp 326), _, _, _, _⟩ :: _) _ _); refine wpList_stAgg rfl (.tmp 26) (.tmp 326) aggDer rfl rfl (vs := cs1) rfl HCL1.out HN1.out (Nat.le_refl _) HCO1.out ?_)
  intro wb1 h2 k2
  have h2' : Blk wb1 wa1.heap.size cs1 38 := by
    rw [List.drop_of_length_le (by decide), List.append_nil] at h2
    exact h2
  have hb2 : Below wa1.heap.size wa1 wb1 := ((Below.refl _ _).alloc (Nat.le_refl _) _).trans (k2.below (by omega))
  have HCb1 := Lib.hid (((HCa1.out.addTree HTT1.out).step hb2).addBlk h2' HCa1.out.lt)
  obtain ⟨p1, hp1⟩ : ∃ p1, p1 = wa1.heap.size := ⟨_, rfl⟩
  rw [← hp1] at HCb1 ⊢
  clear h2 k2 h2' hb2 hp1 HCa1 HTT1 HN1 HCO1
  go_upto_region 38 with fail
  cases hok27 : rT (l5, m5) with
  | false =>
    have HOK27 := Lib.hid hok27
    clear hok27
    have HBE : Hid (B = false) := Lib.hid (by rw [HB.out]; simp only [List.all_cons, List.all_nil, ptB, HOK27.out, Bool.and_true, Bool.true_and, Bool.and_false, Bool.false_and, Bool.and_assoc])
    obtain ⟨wd, hwd⟩ : ∃ wd, wd = World.drew wb1 := ⟨_, rfl⟩
    have hvd : VC w q [(p, [.string (tx l1), .int .i64 x2, .int .i64 x3, .bool t4, .string (tx l5), .slice a5 m5.length c5, .slice a6 l6.length c6], 72), (p1, cs1, 38)] [(tkTv (l5, m5), cs1)] [(.slice a5 m5.length c5, m5), (.slice a6 l6.length c6, l6)] wd := by rw [hwd]; exact HCb1.out.drew
    have HXE : Hid (X = .mk 2 20 0 [] [.mk 1 0 0 l1 [], .mk 0 0 (numU x2) [] [], .mk 0 0 (numU x3) [] [], .mk 0 0 (if t4 then 1 else 0) [] [], tkTv (l5, m5), .mk 1 0 0 l6 []]) := Lib.hid HX2.out
    have HR : Hid (∀ W, GV (fun b => q < b) q X wd W → VR w q [(p, [.string (tx l1), .int .i64 x2, .int .i64 x3, .bool t4, .string (tx l5), .slice a5 m5.length c5, .slice a6 l6.length c6], 72), (p1, cs1, 38)] [(tkTv (l5, m5), cs1)] [(.slice a5 m5.length c5, m5), (.slice a6 l6.length c6, l6)] W) := Lib.hid (fun W h => hvd.gv h)
    have HZD : Hid (∀ W, GV (fun b => q < b) q X wd W → q < W.heap.size ∧ ∀ b, W.heap.size ≤ b → q < b) := Lib.hid (fun W h => ⟨(HR.out W h).lt, fun b hb => Nat.lt_of_lt_of_le (HR.out W h).lt hb⟩)
    have HFq : Hid (¬ (fun b => q < b) q) := Lib.hid (Nat.lt_irrefl q)
    have HQW : Hid (w.heap.size = q) := Lib.hid hvd.hq.symm
    clear hvd HCb1
    refine wp_region_held (S := fun W => GV (fun b => q < b) q X wd W) (by kernel_rfl) ?_
    change wpAnyH _ _ _ _ _ _ _ _ (World.drew _)
    rw [← hwd]
    clear hwd
    refine tkH 0 328 none (.pointer (some ⟨p, 0, none⟩)) rfl (by kernel_rfl) (fun _ _ _ h => h) (by rfl) (by intro W hW; go_simp) (GV.refl _ _ _ _) ?_
    simp only [Act.put, q1, q2, q3]
    refine tkH 1 329 none (.string (tx l1)) rfl (by kernel_rfl) (fun _ _ _ h => h) (by rfl) (by intro W hW; have hc : W.cell? ⟨p, 0, none⟩ = some (.string (tx l1)) := ((HR.out W hW).blkAt 0 rfl).cell 0; go_simp) (GV.refl _ _ _ _) ?_
    simp only [Act.put, q1, q2, q3]
    refine tkH 3 331 none (.pointer (some ⟨p, 1, none⟩)) rfl (by kernel_rfl) (fun _ _ _ h => h) (by rfl) (by intro W hW; go_simp) (GV.refl _ _ _ _) ?_
    simp only [Act.put, q1, q2, q3]
    refine tkH 4 332 none (.int .i64 x2) rfl (by kernel_rfl) (fun _ _ _ h => h) (by rfl) (by intro W hW; have hc : W.cell? ⟨p, 1, none⟩ = some (.int .i64 x2) := ((HR.out W hW).blkAt 0 rfl).cell 1; go_simp) (GV.refl _ _ _ _) ?_
    simp only [Act.put, q1, q2, q3]
    refine tkH 6 334 none (.pointer (some ⟨p, 2, none⟩)) rfl (by kernel_rfl) (fun _ _ _ h => h) (by rfl) (by intro W hW; go_simp) (GV.refl _ _ _ _) ?_
    simp only [Act.put, q1, q2, q3]
    refine tkH 7 335 none (.int .i64 x3) rfl (by kernel_rfl) (fun _ _ _ h => h) (by rfl) (by intro W hW; have hc : W.cell? ⟨p, 2, none⟩ = some (.int .i64 x3) := ((HR.out W hW).blkAt 0 rfl).cell 2; go_simp) (GV.refl _ _ _ _) ?_
    simp only [Act.put, q1, q2, q3]
    refine tkH 9 337 none (.pointer (some ⟨p, 3, none⟩)) rfl (by kernel_rfl) (fun _ _ _ h => h) (by rfl) (by intro W hW; go_simp) (GV.refl _ _ _ _) ?_
    simp only [Act.put, q1, q2, q3]
    refine tkH 10 338 none (.bool t4) rfl (by kernel_rfl) (fun _ _ _ h => h) (by rfl) (by intro W hW; have hc : W.cell? ⟨p, 3, none⟩ = some (.bool t4) := ((HR.out W hW).blkAt 0 rfl).cell 3; go_simp) (GV.refl _ _ _ _) ?_
    simp only [Act.put, q1, q2, q3]
    refine tkH 12 340 none (.agg cs1.toArray) rfl (by kernel_rfl) (fun _ _ _ h => h) (by rfl) (by intro W hW; exact exec_ldAgg rfl aggDer rfl HCL1.out ((HR.out W hW).blkAt 1 rfl).cellsAll) (GV.refl _ _ _ _) ?_
    simp only [Act.put, q1, q2, q3]
    refine tkH 13 341 none (.pointer (some ⟨p, 6, none⟩)) rfl (by kernel_rfl) (fun _ _ _ h => h) (by rfl) (by intro W hW; go_simp) (GV.refl _ _ _ _) ?_
    simp only [Act.put, q1, q2, q3]
    refine tkH 14 342 none (.slice a6 l6.length c6) rfl (by kernel_rfl) (fun _ _ _ h => h) (by rfl) (by intro W hW; have hc : W.cell? ⟨p, 6, none⟩ = some (.slice a6 l6.length c6) := ((HR.out W hW).blkAt 0 rfl).cell 6; go_simp) (GV.refl _ _ _ _) ?_
    simp only [Act.put, q1, q2, q3]
    refine tkH 18 346 none (.bool false) rfl (by kernel_rfl) (fun _ _ _ h => h) (by rfl) (by intro W hW; go_simp) (GV.refl _ _ _ _) ?_
    simp only [Act.put, q1, q2, q3]
    refine anyH_steps (G := GV (fun b => q < b) q X) (Post := postV (fun b => q < b) q X [.any, .any, .val (.mk 1 0 0 l1 []), .any, .any, .val (.mk 0 0 (numU x2) [] []), .any, .any, .val (.mk 0 0 (numU x3) [] []), .any, .any, .val (.mk 0 0 (if t4 then 1 else 0) [] []), .any, .any, .any, .val (.mk 1 0 0 l6 []), .vals [.mk 1 0 0 l1 [], .mk 0 0 (numU x2) [] [], .mk 0 0 (numU x3) [] [], .mk 0 0 (if t4 then 1 else 0) [] [], tkTv (l5, m5), .mk 1 0 0 l6 []], .val (.mk 2 20 0 [] [.mk 1 0 0 l1 [], .mk 0 0 (numU x2) [] [], .mk 0 0 (numU x3) [] [], .mk 0 0 (if t4 then 1 else 0) [] [], tkTv (l5, m5), .mk 1 0 0 l6 []]), .any, .is (.bool false), .any, .any, .any, .any, .any, .any, .any, .any, .any, .is (.bool false), .fin, .is (.bool false)]) (ds := [330, 333, 336, 339, 343, 344, 345, 347, 348, 349, 350, 351, 352, 353, 354, 355, 356, 357, 3]) (GV.refl _ _ _) GV.trans (fun W W' h g => GV.trans _ _ _ h g) (fun i v W W' h g => PK.stable HFq.out h g) [2, 5, 8, 11, 15, 16, 17, 19, 20, 21, 22, 23, 24, 25, 26, 27, 28, 29, 30, 31] 397 rfl (by decide +kernel) (by decide +kernel) ?_ ?_ (GV.refl _ _ _ _) (by decide +kernel)
    · refine AllSteps.cons (o := { dst := some 330, op := .call { callee := .value (.func 26), args := #[.tmp 329], argTypes := #[9] }, type := _, pos := _, after := _, guard := none }) rfl (fun a W hf hS hd K hK => ?_) ?_
      · have e329 : a.eval (.tmp 329) = .string (tx l1) := hf.lit 329 (by decide) rfl
        exact stepV_mk (wanted_none rfl) rfl enters_mtext (vs := #[.string (tx l1)]) (by simp [e329]) (mtext_any l1 W HZ1.out) (HZD.out W hS).1 (HZD.out W hS).2 hK
      refine AllSteps.cons (o := { dst := some 333, op := .call { callee := .value (.func 27), args := #[.tmp 332], argTypes := #[2] }, type := _, pos := _, after := _, guard := none }) rfl (fun a W hf hS hd K hK => ?_) ?_
      · have e332 : a.eval (.tmp 332) = .int .i64 x2 := hf.lit 332 (by decide) rfl
        exact stepV_mk (wanted_none rfl) rfl enters_mnum (vs := #[.int .i64 x2]) (by simp [e332]) (mnumI_any x2 W HZ2.out.1 HZ2.out.2) (HZD.out W hS).1 (HZD.out W hS).2 hK
      refine AllSteps.cons (o := { dst := some 336, op := .call { callee := .value (.func 27), args := #[.tmp 335], argTypes := #[2] }, type := _, pos := _, after := _, guard := none }) rfl (fun a W hf hS hd K hK => ?_) ?_
      · have e335 : a.eval (.tmp 335) = .int .i64 x3 := hf.lit 335 (by decide) rfl
        exact stepV_mk (wanted_none rfl) rfl enters_mnum (vs := #[.int .i64 x3]) (by simp [e335]) (mnumI_any x3 W HZ3.out.1 HZ3.out.2) (HZD.out W hS).1 (HZD.out W hS).2 hK
      refine AllSteps.cons (o := { dst := some 339, op := .call { callee := .value (.func 32), args := #[.tmp 338], argTypes := #[4] }, type := _, pos := _, after := _, guard := none }) rfl (fun a W hf hS hd K hK => ?_) ?_
      · have e338 : a.eval (.tmp 338) = .bool t4 := hf.lit 338 (by decide) rfl
        exact stepV_mk (wanted_none rfl) rfl enters_mtruth (vs := #[.bool t4]) (by simp [e338]) (mtruth_any t4 W) (HZD.out W hS).1 (HZD.out W hS).2 hK
      refine AllSteps.cons (o := { dst := some 343, op := .call { callee := .value (.func 28), args := #[.tmp 342], argTypes := #[22] }, type := _, pos := _, after := _, guard := none }) rfl (fun a W hf hS hd K hK => ?_) ?_
      · have e342 : a.eval (.tmp 342) = .slice a6 l6.length c6 := hf.lit 342 (by decide) rfl
        exact stepV_mk (wanted_none rfl) rfl enters_raw (vs := #[.slice a6 l6.length c6]) (by simp [e342]) (rawNew_any _ l6 W ((HR.out W hS).rowAt 1 rfl) HZ6.out) (HZD.out W hS).1 (HZD.out W hS).2 hK
      refine AllSteps.cons (o := { dst := some 344, op := .buildSlice 36 6 #[(0, .tmp 330), (1, .tmp 333), (2, .tmp 336), (3, .tmp 339), (4, .tmp 340), (5, .tmp 343)], type := _, pos := _, after := _, guard := none }) rfl (fun a W hf hS hd K hK => ?_) ?_
      · have d330 := (hd 2 (by decide +kernel)).get (s := 330) rfl
        have d333 := (hd 5 (by decide +kernel)).get (s := 333) rfl
        have d336 := (hd 8 (by decide +kernel)).get (s := 336) rfl
        have d339 := (hd 11 (by decide +kernel)).get (s := 339) rfl
        have e340 : a.eval (.tmp 340) = .agg cs1.toArray := hf.lit 340 (by decide) rfl
        have d343 := (hd 15 (by decide +kernel)).get (s := 343) rfl
        exact stepV_vals (wanted_none rfl) rfl elDer (ps := [.tmp 330, .tmp 333, .tmp 336, .tmp 339, .tmp 340, .tmp 343]) rfl (l := [.mk 1 0 0 l1 [], .mk 0 0 (numU x2) [] [], .mk 0 0 (numU x3) [] [], .mk 0 0 (if t4 then 1 else 0) [] [], tkTv (l5, m5), .mk 1 0 0 l6 []]) ⟨d330, d333, d336, d339, ⟨_, e340, (HR.out W hS).treeAt 0 rfl⟩, d343, trivial⟩ rfl (by decide) (by decide) (HZD.out W hS).1 (HZD.out W hS).2 hK
      refine AllSteps.cons (o := { dst := some 345, op := .call { callee := .value (.func 25), args := #[.const (.int .i64 20), .tmp 344], argTypes := #[3, 36] }, type := _, pos := _, after := _, guard := none }) rfl (fun a W hf hS hd K hK => ?_) ?_
      · have d344 := (hd 16 (by decide +kernel)).get (s := 344) rfl
        exact stepV_seq (wanted_none rfl) rfl enters_seq d344 (HZD.out W hS).1 (fun v w1 h1 h2 => hK v w1 h1 h2) HFq.out
      refine AllSteps.cons (o := { dst := some 347, op := .move (.tmp 346), type := _, pos := _, after := _, guard := none }) rfl (fun a W hf hS hd K hK => ?_) ?_
      · have e346 : a.eval (.tmp 346) = .bool false := hf.lit 346 (by decide) rfl
        exact step_val (v := .bool false) (wanted_none rfl) (exec_move rfl e346) (hK _ _ (GV.refl _ _ _ _) rfl)
      refine AllSteps.cons (o := { dst := some 348, op := .fieldAddr 72 (.tmp 25) 0, type := _, pos := _, after := _, guard := some (19, true) }) rfl (fun a W hf hS hd K hK => ?_) ?_
      · have e347 : a.eval (.tmp 347) = .bool false := (hd 19 (by decide +kernel)).get (s := 347) rfl
        exact step_skip (wanted_no rfl rfl e347 rfl) (hK _ _ (GV.refl _ _ _ _) trivial)
      refine AllSteps.cons (o := { dst := some 349, op := .load 9 (.tmp 348), type := _, pos := _, after := _, guard := some (19, true) }) rfl (fun a W hf hS hd K hK => ?_) ?_
      · have e347 : a.eval (.tmp 347) = .bool false := (hd 19 (by decide +kernel)).get (s := 347) rfl
        exact step_skip (wanted_no rfl rfl e347 rfl) (hK _ _ (GV.refl _ _ _ _) trivial)
      refine AllSteps.cons (o := { dst := some 350, op := .buildSlice 93 1 #[(0, .tmp 349)], type := _, pos := _, after := _, guard := some (19, true) }) rfl (fun a W hf hS hd K hK => ?_) ?_
      · have e347 : a.eval (.tmp 347) = .bool false := (hd 19 (by decide +kernel)).get (s := 347) rfl
        exact step_skip (wanted_no rfl rfl e347 rfl) (hK _ _ (GV.refl _ _ _ _) trivial)
      refine AllSteps.cons (o := { dst := some 351, op := .fieldAddr 72 (.tmp 25) 1, type := _, pos := _, after := _, guard := some (19, true) }) rfl (fun a W hf hS hd K hK => ?_) ?_
      · have e347 : a.eval (.tmp 347) = .bool false := (hd 19 (by decide +kernel)).get (s := 347) rfl
        exact step_skip (wanted_no rfl rfl e347 rfl) (hK _ _ (GV.refl _ _ _ _) trivial)
      refine AllSteps.cons (o := { dst := some 352, op := .load 2 (.tmp 351), type := _, pos := _, after := _, guard := some (19, true) }) rfl (fun a W hf hS hd K hK => ?_) ?_
      · have e347 : a.eval (.tmp 347) = .bool false := (hd 19 (by decide +kernel)).get (s := 347) rfl
        exact step_skip (wanted_no rfl rfl e347 rfl) (hK _ _ (GV.refl _ _ _ _) trivial)
      refine AllSteps.cons (o := { dst := some 353, op := .fieldAddr 72 (.tmp 25) 2, type := _, pos := _, after := _, guard := some (19, true) }) rfl (fun a W hf hS hd K hK => ?_) ?_
      · have e347 : a.eval (.tmp 347) = .bool false := (hd 19 (by decide +kernel)).get (s := 347) rfl
        exact step_skip (wanted_no rfl rfl e347 rfl) (hK _ _ (GV.refl _ _ _ _) trivial)
      refine AllSteps.cons (o := { dst := some 354, op := .load 2 (.tmp 353), type := _, pos := _, after := _, guard := some (19, true) }) rfl (fun a W hf hS hd K hK => ?_) ?_
      · have e347 : a.eval (.tmp 347) = .bool false := (hd 19 (by decide +kernel)).get (s := 347) rfl
        exact step_skip (wanted_no rfl rfl e347 rfl) (hK _ _ (GV.refl _ _ _ _) trivial)
      refine AllSteps.cons (o := { dst := some 355, op := .buildSlice 116 2 #[(0, .tmp 352), (1, .tmp 354)], type := _, pos := _, after := _, guard := some (19, true) }) rfl (fun a W hf hS hd K hK => ?_) ?_
      · have e347 : a.eval (.tmp 347) = .bool false := (hd 19 (by decide +kernel)).get (s := 347) rfl
        exact step_skip (wanted_no rfl rfl e347 rfl) (hK _ _ (GV.refl _ _ _ _) trivial)
      refine AllSteps.cons (o := { dst := some 356, op := .call { callee := .value (.func 29), args := #[.tmp 350, .tmp 355], argTypes := #[93, 116] }, type := _, pos := _, after := _, guard := some (19, true) }) rfl (fun a W hf hS hd K hK => ?_) ?_
      · have e347 : a.eval (.tmp 347) = .bool false := (hd 19 (by decide +kernel)).get (s := 347) rfl
        exact step_skip (wanted_no rfl rfl e347 rfl) (hK _ _ (GV.refl _ _ _ _) trivial)
      refine AllSteps.cons (o := { dst := some 357, op := .pick (.tmp 347) (.tmp 356) (.const (.bool false)), type := _, pos := _, after := _, guard := none }) rfl (fun a W hf hS hd K hK => ?_) ?_
      · have e347 : a.eval (.tmp 347) = .bool false := (hd 19 (by decide +kernel)).get (s := 347) rfl
        exact step_val (v := .bool false) (wanted_none rfl) (exec_pickF rfl e347 rfl) (hK _ _ (GV.refl _ _ _ _) rfl)
      refine AllSteps.cons (o := { dst := none, op := .store 38 (.tmp 2) (.tmp 345), type := _, pos := _, after := _, guard := none }) rfl (fun a W hf hS hd K hK => ?_) ?_
      · have e2 : a.eval (.tmp 2) = .pointer (some ⟨q, 0, none⟩) := hf.lit 2 (by decide) rfl
        have d345 := (hd 17 (by decide +kernel)).get (s := 345) rfl
        obtain ⟨cur, hc1, hc2⟩ := (HR.out W hS).len
        rw [← HXE.out] at d345
        exact stepV_fin (wanted_none rfl) rfl e2 d345 hc1 hc2 HFq.out hK
      refine AllSteps.cons (o := { dst := some 3, op := .assign (.tmp 357), type := _, pos := _, after := _, guard := none }) rfl (fun a W hf hS hd K hK => ?_) ?_
      · have e357 : a.eval (.tmp 357) = .bool false := (hd 29 (by decide +kernel)).get (s := 357) rfl
        exact step_val (wanted_none rfl) (exec_asg rfl rfl) (hK _ _ (GV.refl _ _ _ _) e357)
      exact AllSteps.nil
    · intro a W hf hS hp
      have h3 := (hp 31 (by decide)).get (s := 3) rfl
      obtain ⟨v, cs, h5, h6⟩ := (hp 30 (by decide)).fin
      have e2 : a.eval (.tmp 2) = .pointer (some ⟨q, 0, none⟩) := hf.lit 2 (by decide) rfl
      go_wp2_with fail
      refine bodyPost_ret (results_agg_tmp rfl aggDer (show a.tmps.getD 2 undef = _ from e2) h6.length h5.cellsAll) hf.defers ⟨cs, ?_, ?_, (HR.out W hS).below⟩
      · rw [HBE.out, show a.tmps.getD 3 undef = .bool false from h3]
      · exact h6.mono (fun b hb => by have := HQW.out; omega)
  | true =>
    have HOK27 := Lib.hid hok27
    clear hok27
    have HBE : Hid (B = ([tx l1].all rightB && [x2, x3].all timeB)) := Lib.hid (by rw [HB.out]; simp only [List.all_cons, List.all_nil, ptB, HOK27.out, Bool.and_true, Bool.true_and, Bool.and_false, Bool.false_and, Bool.and_assoc]; first | done | ac_rfl)
    obtain ⟨wd, hwd⟩ : ∃ wd, wd = World.drew wb1 := ⟨_, rfl⟩
    have hvd : VC w q [(p, [.string (tx l1), .int .i64 x2, .int .i64 x3, .bool t4, .string (tx l5), .slice a5 m5.length c5, .slice a6 l6.length c6], 72), (p1, cs1, 38)] [(tkTv (l5, m5), cs1)] [(.slice a5 m5.length c5, m5), (.slice a6 l6.length c6, l6)] wd := by rw [hwd]; exact HCb1.out.drew
    have HXE : Hid (X = .mk 2 20 0 [] [.mk 1 0 0 l1 [], .mk 0 0 (numU x2) [] [], .mk 0 0 (numU x3) [] [], .mk 0 0 (if t4 then 1 else 0) [] [], tkTv (l5, m5), .mk 1 0 0 l6 []]) := Lib.hid HX2.out
    have HR : Hid (∀ W, GV (fun b => q < b) q X wd W → VR w q [(p, [.string (tx l1), .int .i64 x2, .int .i64 x3, .bool t4, .string (tx l5), .slice a5 m5.length c5, .slice a6 l6.length c6], 72), (p1, cs1, 38)] [(tkTv (l5, m5), cs1)] [(.slice a5 m5.length c5, m5), (.slice a6 l6.length c6, l6)] W) := Lib.hid (fun W h => hvd.gv h)
    have HZD : Hid (∀ W, GV (fun b => q < b) q X wd W → q < W.heap.size ∧ ∀ b, W.heap.size ≤ b → q < b) := Lib.hid (fun W h => ⟨(HR.out W h).lt, fun b hb => Nat.lt_of_lt_of_le (HR.out W h).lt hb⟩)
    have HFq : Hid (¬ (fun b => q < b) q) := Lib.hid (Nat.lt_irrefl q)
    have HQW : Hid (w.heap.size = q) := Lib.hid hvd.hq.symm
    clear hvd HCb1
    refine wp_region_held (S := fun W => GV (fun b => q < b) q X wd W) (by kernel_rfl) ?_
    change wpAnyH _ _ _ _ _ _ _ _ (World.drew _)
    rw [← hwd]
    clear hwd
    refine tkH 0 328 none (.pointer (some ⟨p, 0, none⟩)) rfl (by kernel_rfl) (fun _ _ _ h => h) (by rfl) (by intro W hW; go_simp) (GV.refl _ _ _ _) ?_
    simp only [Act.put, q1, q2, q3]
    refine tkH 1 329 none (.string (tx l1)) rfl (by kernel_rfl) (fun _ _ _ h => h) (by rfl) (by intro W hW; have hc : W.cell? ⟨p, 0, none⟩ = some (.string (tx l1)) := ((HR.out W hW).blkAt 0 rfl).cell 0; go_simp) (GV.refl _ _ _ _) ?_
    simp only [Act.put, q1, q2, q3]
    refine tkH 3 331 none (.pointer (some ⟨p, 1, none⟩)) rfl (by kernel_rfl) (fun _ _ _ h => h) (by rfl) (by intro W hW; go_simp) (GV.refl _ _ _ _) ?_
    simp only [Act.put, q1, q2, q3]
    refine tkH 4 332 none (.int .i64 x2) rfl (by kernel_rfl) (fun _ _ _ h => h) (by rfl) (by intro W hW; have hc : W.cell? ⟨p, 1, none⟩ = some (.int .i64 x2) := ((HR.out W hW).blkAt 0 rfl).cell 1; go_simp) (GV.refl _ _ _ _) ?_
    simp only [Act.put, q1, q2, q3]
    refine tkH 6 334 none (.pointer (some ⟨p, 2, none⟩)) rfl (by kernel_rfl) (fun _ _ _ h => h) (by rfl) (by intro W hW; go_simp) (GV.refl _ _ _ _) ?_
    simp only [Act.put, q1, q2, q3]
    refine tkH 7 335 none (.int .i64 x3) rfl (by kernel_rfl) (fun _ _ _ h => h) (by rfl) (by intro W hW; have hc : W.cell? ⟨p, 2, none⟩ = some (.int .i64 x3) := ((HR.out W hW).blkAt 0 rfl).cell 2; go_simp) (GV.refl _ _ _ _) ?_
    simp only [Act.put, q1, q2, q3]
    refine tkH 9 337 none (.pointer (some ⟨p, 3, none⟩)) rfl (by kernel_rfl) (fun _ _ _ h => h) (by rfl) (by intro W hW; go_simp) (GV.refl _ _ _ _) ?_
    simp only [Act.put, q1, q2, q3]
    refine tkH 10 338 none (.bool t4) rfl (by kernel_rfl) (fun _ _ _ h => h) (by rfl) (by intro W hW; have hc : W.cell? ⟨p, 3, none⟩ = some (.bool t4) := ((HR.out W hW).blkAt 0 rfl).cell 3; go_simp) (GV.refl _ _ _ _) ?_
    simp only [Act.put, q1, q2, q3]
    refine tkH 12 340 none (.agg cs1.toArray) rfl (by kernel_rfl) (fun _ _ _ h => h) (by rfl) (by intro W hW; exact exec_ldAgg rfl aggDer rfl HCL1.out ((HR.out W hW).blkAt 1 rfl).cellsAll) (GV.refl _ _ _ _) ?_
    simp only [Act.put, q1, q2, q3]
    refine tkH 13 341 none (.pointer (some ⟨p, 6, none⟩)) rfl (by kernel_rfl) (fun _ _ _ h => h) (by rfl) (by intro W hW; go_simp) (GV.refl _ _ _ _) ?_
    simp only [Act.put, q1, q2, q3]
    refine tkH 14 342 none (.slice a6 l6.length c6) rfl (by kernel_rfl) (fun _ _ _ h => h) (by rfl) (by intro W hW; have hc : W.cell? ⟨p, 6, none⟩ = some (.slice a6 l6.length c6) := ((HR.out W hW).blkAt 0 rfl).cell 6; go_simp) (GV.refl _ _ _ _) ?_
    simp only [Act.put, q1, q2, q3]
    refine tkH 18 346 none (.bool true) rfl (by kernel_rfl) (fun _ _ _ h => h) (by rfl) (by intro W hW; go_simp) (GV.refl _ _ _ _) ?_
    simp only [Act.put, q1, q2, q3]
    refine anyH_steps (G := GV (fun b => q < b) q X) (Post := postV (fun b => q < b) q X [.any, .any, .val (.mk 1 0 0 l1 []), .any, .any, .val (.mk 0 0 (numU x2) [] []), .any, .any, .val (.mk 0 0 (numU x3) [] []), .any, .any, .val (.mk 0 0 (if t4 then 1 else 0) [] []), .any, .any, .any, .val (.mk 1 0 0 l6 []), .vals [.mk 1 0 0 l1 [], .mk 0 0 (numU x2) [] [], .mk 0 0 (numU x3) [] [], .mk 0 0 (if t4 then 1 else 0) [] [], tkTv (l5, m5), .mk 1 0 0 l6 []], .val (.mk 2 20 0 [] [.mk 1 0 0 l1 [], .mk 0 0 (numU x2) [] [], .mk 0 0 (numU x3) [] [], .mk 0 0 (if t4 then 1 else 0) [] [], tkTv (l5, m5), .mk 1 0 0 l6 []]), .any, .is (.bool true), .is (.pointer (some ⟨p, 0, none⟩)), .is (.string (tx l1)), .row [.string (tx l1)], .is (.pointer (some ⟨p, 1, none⟩)), .is (.int .i64 x2), .is (.pointer (some ⟨p, 2, none⟩)), .is (.int .i64 x3), .row [.int .i64 x2, .int .i64 x3], .is (.bool ([tx l1].all rightB && [x2, x3].all timeB)), .is (.bool ([tx l1].all rightB && [x2, x3].all timeB)), .fin, .is (.bool ([tx l1].all rightB && [x2, x3].all timeB))]) (ds := [330, 333, 336, 339, 343, 344, 345, 347, 348, 349, 350, 351, 352, 353, 354, 355, 356, 357, 3]) (GV.refl _ _ _) GV.trans (fun W W' h g => GV.trans _ _ _ h g) (fun i v W W' h g => PK.stable HFq.out h g) [2, 5, 8, 11, 15, 16, 17, 19, 20, 21, 22, 23, 24, 25, 26, 27, 28, 29, 30, 31] 397 rfl (by decide +kernel) (by decide +kernel) ?_ ?_ (GV.refl _ _ _ _) (by decide +kernel)
    · refine AllSteps.cons (o := { dst := some 330, op := .call { callee := .value (.func 26), args := #[.tmp 329], argTypes := #[9] }, type := _, pos := _, after := _, guard := none }) rfl (fun a W hf hS hd K hK => ?_) ?_
      · have e329 : a.eval (.tmp 329) = .string (tx l1) := hf.lit 329 (by decide) rfl
        exact stepV_mk (wanted_none rfl) rfl enters_mtext (vs := #[.string (tx l1)]) (by simp [e329]) (mtext_any l1 W HZ1.out) (HZD.out W hS).1 (HZD.out W hS).2 hK
      refine AllSteps.cons (o := { dst := some 333, op := .call { callee := .value (.func 27), args := #[.tmp 332], argTypes := #[2] }, type := _, pos := _, after := _, guard := none }) rfl (fun a W hf hS hd K hK => ?_) ?_
      · have e332 : a.eval (.tmp 332) = .int .i64 x2 := hf.lit 332 (by decide) rfl
        exact stepV_mk (wanted_none rfl) rfl enters_mnum (vs := #[.int .i64 x2]) (by simp [e332]) (mnumI_any x2 W HZ2.out.1 HZ2.out.2) (HZD.out W hS).1 (HZD.out W hS).2 hK
      refine AllSteps.cons (o := { dst := some 336, op := .call { callee := .value (.func 27), args := #[.tmp 335], argTypes := #[2] }, type := _, pos := _, after := _, guard := none }) rfl (fun a W hf hS hd K hK => ?_) ?_
      · have e335 : a.eval (.tmp 335) = .int .i64 x3 := hf.lit 335 (by decide) rfl
        exact stepV_mk (wanted_none rfl) rfl enters_mnum (vs := #[.int .i64 x3]) (by simp [e335]) (mnumI_any x3 W HZ3.out.1 HZ3.out.2) (HZD.out W hS).1 (HZD.out W hS).2 hK
      refine AllSteps.cons (o := { dst := some 339, op := .call { callee := .value (.func 32), args := #[.tmp 338], argTypes := #[4] }, type := _, pos := _, after := _, guard := none }) rfl (fun a W hf hS hd K hK => ?_) ?_
      · have e338 : a.eval (.tmp 338) = .bool t4 := hf.lit 338 (by decide) rfl
        exact stepV_mk (wanted_none rfl) rfl enters_mtruth (vs := #[.bool t4]) (by simp [e338]) (mtruth_any t4 W) (HZD.out W hS).1 (HZD.out W hS).2 hK
      refine AllSteps.cons (o := { dst := some 343, op := .call { callee := .value (.func 28), args := #[.tmp 342], argTypes := #[22] }, type := _, pos := _, after := _, guard := none }) rfl (fun a W hf hS hd K hK => ?_) ?_
      · have e342 : a.eval (.tmp 342) = .slice a6 l6.length c6 := hf.lit 342 (by decide) rfl
        exact stepV_mk (wanted_none rfl) rfl enters_raw (vs := #[.slice a6 l6.length c6]) (by simp [e342]) (rawNew_any _ l6 W ((HR.out W hS).rowAt 1 rfl) HZ6.out) (HZD.out W hS).1 (HZD.out W hS).2 hK
      refine AllSteps.cons (o := { dst := some 344, op := .buildSlice 36 6 #[(0, .tmp 330), (1, .tmp 333), (2, .tmp 336), (3, .tmp 339), (4, .tmp 340), (5, .tmp 343)], type := _, pos := _, after := _, guard := none }) rfl (fun a W hf hS hd K hK => ?_) ?_
      · have d330 := (hd 2 (by decide +kernel)).get (s := 330) rfl
        have d333 := (hd 5 (by decide +kernel)).get (s := 333) rfl
        have d336 := (hd 8 (by decide +kernel)).get (s := 336) rfl
        have d339 := (hd 11 (by decide +kernel)).get (s := 339) rfl
        have e340 : a.eval (.tmp 340) = .agg cs1.toArray := hf.lit 340 (by decide) rfl
        have d343 := (hd 15 (by decide +kernel)).get (s := 343) rfl
        exact stepV_vals (wanted_none rfl) rfl elDer (ps := [.tmp 330, .tmp 333, .tmp 336, .tmp 339, .tmp 340, .tmp 343]) rfl (l := [.mk 1 0 0 l1 [], .mk 0 0 (numU x2) [] [], .mk 0 0 (numU x3) [] [], .mk 0 0 (if t4 then 1 else 0) [] [], tkTv (l5, m5), .mk 1 0 0 l6 []]) ⟨d330, d333, d336, d339, ⟨_, e340, (HR.out W hS).treeAt 0 rfl⟩, d343, trivial⟩ rfl (by decide) (by decide) (HZD.out W hS).1 (HZD.out W hS).2 hK
      refine AllSteps.cons (o := { dst := some 345, op := .call { callee := .value (.func 25), args := #[.const (.int .i64 20), .tmp 344], argTypes := #[3, 36] }, type := _, pos := _, after := _, guard := none }) rfl (fun a W hf hS hd K hK => ?_) ?_
      · have d344 := (hd 16 (by decide +kernel)).get (s := 344) rfl
        exact stepV_seq (wanted_none rfl) rfl enters_seq d344 (HZD.out W hS).1 (fun v w1 h1 h2 => hK v w1 h1 h2) HFq.out
      refine AllSteps.cons (o := { dst := some 347, op := .move (.tmp 346), type := _, pos := _, after := _, guard := none }) rfl (fun a W hf hS hd K hK => ?_) ?_
      · have e346 : a.eval (.tmp 346) = .bool true := hf.lit 346 (by decide) rfl
        exact step_val (v := .bool true) (wanted_none rfl) (exec_move rfl e346) (hK _ _ (GV.refl _ _ _ _) rfl)
      refine AllSteps.cons (o := { dst := some 348, op := .fieldAddr 72 (.tmp 25) 0, type := _, pos := _, after := _, guard := some (19, true) }) rfl (fun a W hf hS hd K hK => ?_) ?_
      · have e347 : a.eval (.tmp 347) = .bool true := (hd 19 (by decide +kernel)).get (s := 347) rfl
        have e25 : a.eval (.tmp 25) = .pointer (some ⟨p, 0, none⟩) := hf.lit 25 (by decide) rfl
        exact step_val (v := .pointer (some ⟨p, 0, none⟩)) (wanted_some rfl rfl e347) (exec_field rfl e25 (by go_simp)) (hK _ _ (GV.refl _ _ _ _) rfl)
      refine AllSteps.cons (o := { dst := some 349, op := .load 9 (.tmp 348), type := _, pos := _, after := _, guard := some (19, true) }) rfl (fun a W hf hS hd K hK => ?_) ?_
      · have e347 : a.eval (.tmp 347) = .bool true := (hd 19 (by decide +kernel)).get (s := 347) rfl
        have e348 : a.eval (.tmp 348) = .pointer (some ⟨p, 0, none⟩) := (hd 20 (by decide +kernel)).get (s := 348) rfl
        have hc : W.cell? ⟨p, 0, none⟩ = some (.string (tx l1)) := ((HR.out W hS).blkAt 0 rfl).cell 0
        exact step_val (v := .string (tx l1)) (wanted_some rfl rfl e347) (exec_load rfl e348 (by go_simp)) (hK _ _ (GV.refl _ _ _ _) rfl)
      refine AllSteps.cons (o := { dst := some 350, op := .buildSlice 93 1 #[(0, .tmp 349)], type := _, pos := _, after := _, guard := some (19, true) }) rfl (fun a W hf hS hd K hK => ?_) ?_
      · have e347 : a.eval (.tmp 347) = .bool true := (hd 19 (by decide +kernel)).get (s := 347) rfl
        have e349 : a.eval (.tmp 349) = .string (tx l1) := (hd 21 (by decide +kernel)).get (s := 349) rfl
        exact stepV_row (wanted_some rfl rfl e347) rfl elStr (ps := [.tmp 349]) rfl (cs := [.string (tx l1)]) (by simp only [List.map_cons, List.map_nil, e349]) (by intro u hu; simp only [List.mem_cons, List.not_mem_nil, or_false] at hu; rcases hu with rfl <;> exact ⟨rfl, rfl⟩) rfl (by decide) (by decide) (HZD.out W hS).1 (HZD.out W hS).2 hK
      refine AllSteps.cons (o := { dst := some 351, op := .fieldAddr 72 (.tmp 25) 1, type := _, pos := _, after := _, guard := some (19, true) }) rfl (fun a W hf hS hd K hK => ?_) ?_
      · have e347 : a.eval (.tmp 347) = .bool true := (hd 19 (by decide +kernel)).get (s := 347) rfl
        have e25 : a.eval (.tmp 25) = .pointer (some ⟨p, 0, none⟩) := hf.lit 25 (by decide) rfl
        exact step_val (v := .pointer (some ⟨p, 1, none⟩)) (wanted_some rfl rfl e347) (exec_field rfl e25 (by go_simp)) (hK _ _ (GV.refl _ _ _ _) rfl)
      refine AllSteps.cons (o := { dst := some 352, op := .load 2 (.tmp 351), type := _, pos := _, after := _, guard := some (19, true) }) rfl (fun a W hf hS hd K hK => ?_) ?_
      · have e347 : a.eval (.tmp 347) = .bool true := (hd 19 (by decide +kernel)).get (s := 347) rfl
        have e351 : a.eval (.tmp 351) = .pointer (some ⟨p, 1, none⟩) := (hd 23 (by decide +kernel)).get (s := 351) rfl
        have hc : W.cell? ⟨p, 1, none⟩ = some (.int .i64 x2) := ((HR.out W hS).blkAt 0 rfl).cell 1
        exact step_val (v := .int .i64 x2) (wanted_some rfl rfl e347) (exec_load rfl e351 (by go_simp)) (hK _ _ (GV.refl _ _ _ _) rfl)
      refine AllSteps.cons (o := { dst := some 353, op := .fieldAddr 72 (.tmp 25) 2, type := _, pos := _, after := _, guard := some (19, true) }) rfl (fun a W hf hS hd K hK => ?_) ?_
      · have e347 : a.eval (.tmp 347) = .bool true := (hd 19 (by decide +kernel)).get (s := 347) rfl
        have e25 : a.eval (.tmp 25) = .pointer (some ⟨p, 0, none⟩) := hf.lit 25 (by decide) rfl
        exact step_val (v := .pointer (some ⟨p, 2, none⟩)) (wanted_some rfl rfl e347) (exec_field rfl e25 (by go_simp)) (hK _ _ (GV.refl _ _ _ _) rfl)
      refine AllSteps.cons (o := { dst := some 354, op := .load 2 (.tmp 353), type := _, pos := _, after := _, guard := some (19, true) }) rfl (fun a W hf hS hd K hK => ?_) ?_
      · have e347 : a.eval (.tmp 347) = .bool true := (hd 19 (by decide +kernel)).get (s := 347) rfl
        have e353 : a.eval (.tmp 353) = .pointer (some ⟨p, 2, none⟩) := (hd 25 (by decide +kernel)).get (s := 353) rfl
        have hc : W.cell? ⟨p, 2, none⟩ = some (.int .i64 x3) := ((HR.out W hS).blkAt 0 rfl).cell 2
        exact step_val (v := .int .i64 x3) (wanted_some rfl rfl e347) (exec_load rfl e353 (by go_simp)) (hK _ _ (GV.refl _ _ _ _) rfl)
      refine AllSteps.cons (o := { dst := some 355, op := .buildSlice 116 2 #[(0, .tmp 352), (1, .tmp 354)], type := _, pos := _, after := _, guard := some (19, true) }) rfl (fun a W hf hS hd K hK => ?_) ?_
      · have e347 : a.eval (.tmp 347) = .bool true := (hd 19 (by decide +kernel)).get (s := 347) rfl
        have e352 : a.eval (.tmp 352) = .int .i64 x2 := (hd 24 (by decide +kernel)).get (s := 352) rfl
        have e354 : a.eval (.tmp 354) = .int .i64 x3 := (hd 26 (by decide +kernel)).get (s := 354) rfl
        exact stepV_row (wanted_some rfl rfl e347) rfl elI64 (ps := [.tmp 352, .tmp 354]) rfl (cs := [.int .i64 x2, .int .i64 x3]) (by simp only [List.map_cons, List.map_nil, e352, e354]) (by intro u hu; simp only [List.mem_cons, List.not_mem_nil, or_false] at hu; rcases hu with rfl | rfl <;> exact ⟨rfl, rfl⟩) rfl (by decide) (by decide) (HZD.out W hS).1 (HZD.out W hS).2 hK
      refine AllSteps.cons (o := { dst := some 356, op := .call { callee := .value (.func 29), args := #[.tmp 350, .tmp 355], argTypes := #[93, 116] }, type := _, pos := _, after := _, guard := some (19, true) }) rfl (fun a W hf hS hd K hK => ?_) ?_
      · have e347 : a.eval (.tmp 347) = .bool true := (hd 19 (by decide +kernel)).get (s := 347) rfl
        have d350 := (hd 22 (by decide +kernel)).get (s := 350) rfl
        have d355 := (hd 27 (by decide +kernel)).get (s := 355) rfl
        exact stepV_is (wanted_some rfl rfl e347) rfl enters_mright (vs := #[a.eval (.tmp 350), a.eval (.tmp 355)]) (by first | (simp only [List.map_toArray, List.map_cons, List.map_nil]; done) | (simp only [List.map_toArray, List.map_cons, List.map_nil]; rfl)) (u := (.bool ([tx l1].all rightB && [x2, x3].all timeB))) (mright_any [tx l1] [x2, x3] _ _ W d350.1 d355.1 HSZ.out) (HZD.out W hS).1 hK
      refine AllSteps.cons (o := { dst := some 357, op := .pick (.tmp 347) (.tmp 356) (.const (.bool false)), type := _, pos := _, after := _, guard := none }) rfl (fun a W hf hS hd K hK => ?_) ?_
      · have e347 : a.eval (.tmp 347) = .bool true := (hd 19 (by decide +kernel)).get (s := 347) rfl
        have d356 := (hd 28 (by decide +kernel)).get (s := 356) rfl
        exact step_val (wanted_none rfl) (exec_pickT rfl e347 rfl) (hK _ _ (GV.refl _ _ _ _) d356)
      refine AllSteps.cons (o := { dst := none, op := .store 38 (.tmp 2) (.tmp 345), type := _, pos := _, after := _, guard := none }) rfl (fun a W hf hS hd K hK => ?_) ?_
      · have e2 : a.eval (.tmp 2) = .pointer (some ⟨q, 0, none⟩) := hf.lit 2 (by decide) rfl
        have d345 := (hd 17 (by decide +kernel)).get (s := 345) rfl
        obtain ⟨cur, hc1, hc2⟩ := (HR.out W hS).len
        rw [← HXE.out] at d345
        exact stepV_fin (wanted_none rfl) rfl e2 d345 hc1 hc2 HFq.out hK
      refine AllSteps.cons (o := { dst := some 3, op := .assign (.tmp 357), type := _, pos := _, after := _, guard := none }) rfl (fun a W hf hS hd K hK => ?_) ?_
      · have d357 := (hd 29 (by decide +kernel)).get (s := 357) rfl
        exact step_val (wanted_none rfl) (exec_asg rfl rfl) (hK _ _ (GV.refl _ _ _ _) d357)
      exact AllSteps.nil
    · intro a W hf hS hp
      have h3 := (hp 31 (by decide)).get (s := 3) rfl
      obtain ⟨v, cs, h5, h6⟩ := (hp 30 (by decide)).fin
      have e2 : a.eval (.tmp 2) = .pointer (some ⟨q, 0, none⟩) := hf.lit 2 (by decide) rfl
      go_wp2_with fail
      refine bodyPost_ret (results_agg_tmp rfl aggDer (show a.tmps.getD 2 undef = _ from e2) h6.length h5.cellsAll) hf.defers ⟨cs, ?_, ?_, (HR.out W hS).below⟩
      · rw [HBE.out, show a.tmps.getD 3 undef = .bool ([tx l1].all rightB && [x2, x3].all timeB) from h3]
      · exact h6.mono (fun b hb => by have := HQW.out; omega)
set_option maxHeartbeats 16000000 in
set_option maxRecDepth 100000 in
theorem msgValue_21 (F0 : Nat → Prop) (l1 : List UInt8) (l2 : List UInt8) (v2 : Value) (w : World) (hz1 : l1.length ≤ 1099511627776) (hb2 : Bs w v2 l2) (hz2 : l2.length ≤ 1099511627776) :
    Calls Try.prog 10 #[.iface 74 (.agg #[.string (tx l1), v2])] w (VlRes w (.mk 2 21 0 [] ([.s l1, .b l2].map ptTv)) ([.s l1, .b l2].all ptB)) := by
  obtain ⟨a2, c2, rfl, hc2, hm2⟩ := hb2.form
  have HC : Hid (VC w w.heap.size [(w.heap.size + 1, [.string (tx l1), .slice a2 l2.length c2], 74)] [] [(.slice a2 l2.length c2, l2)] ((w.alloc (.cells zs5.toArray 38)).alloc (.cells [.string (tx l1), .slice a2 l2.length c2].toArray 74))) := Lib.hid (VC.start (by intro r hr; simp only [List.mem_cons, List.not_mem_nil, or_false] at hr; rcases hr with rfl; exact hb2) _ _)
  have HSZ : Hid (∀ u ∈ [tx l1], u.size ≤ maxLen) := Lib.hid (by intro u hu; simp only [List.mem_cons, List.not_mem_nil, or_false] at hu; rcases hu with rfl; exact szTx hz1)
  have HZ1 := Lib.hid hz1
  clear hz1
  have HZ2 := Lib.hid hz2
  clear hz2
  clear hb2
  obtain ⟨z11, hta11⟩ := tan 54 74 (.agg #[.string (tx l1), .slice a2 l2.length c2]) zero_11 (by kernel_rfl) (by decide)
  obtain ⟨z12, hta12⟩ := tan 56 74 (.agg #[.string (tx l1), .slice a2 l2.length c2]) zero_12 (by kernel_rfl) (by decide)
  obtain ⟨z13, hta13⟩ := tan 59 74 (.agg #[.string (tx l1), .slice a2 l2.length c2]) zero_13 (by kernel_rfl) (by decide)
  obtain ⟨z14, hta14⟩ := tan 60 74 (.agg #[.string (tx l1), .slice a2 l2.length c2]) zero_14 (by kernel_rfl) (by decide)
  obtain ⟨z15, hta15⟩ := tan 62 74 (.agg #[.string (tx l1), .slice a2 l2.length c2]) zero_15 (by kernel_rfl) (by decide)
  obtain ⟨z16, hta16⟩ := tan 64 74 (.agg #[.string (tx l1), .slice a2 l2.length c2]) zero_16 (by kernel_rfl) (by decide)
  obtain ⟨z17, hta17⟩ := tan 66 74 (.agg #[.string (tx l1), .slice a2 l2.length c2]) zero_17 (by kernel_rfl) (by decide)
  obtain ⟨z18, hta18⟩ := tan 68 74 (.agg #[.string (tx l1), .slice a2 l2.length c2]) zero_18 (by kernel_rfl) (by decide)
  obtain ⟨z19, hta19⟩ := tan 70 74 (.agg #[.string (tx l1), .slice a2 l2.length c2]) zero_19 (by kernel_rfl) (by decide)
  obtain ⟨z20, hta20⟩ := tan 72 74 (.agg #[.string (tx l1), .slice a2 l2.length c2]) zero_20 (by kernel_rfl) (by decide)
  have hta : ∀ W, (Instr.typeAssert (.iface 74 (.agg #[.string (tx l1), .slice a2 l2.length c2])) 20 74 true).run Try.prog W = .ok (.tuple #[.agg #[.string (tx l1), .slice a2 l2.length c2], .bool true]) W := fun W => ta_is _ _ _ (by kernel_rfl) W
  obtain ⟨B, hB⟩ : ∃ B, B = [.s l1, .b l2].all ptB := ⟨_, rfl⟩
  obtain ⟨X, hX⟩ : ∃ X : Tv, X = .mk 2 21 0 [] ([.s l1, .b l2].map ptTv) := ⟨_, rfl⟩
  rw [← hB, ← hX]
  have HB := Lib.hid hB
  have HX2 := Lib.hid hX
  clear hB hX
  go_enter Try.func10, Try.ntmps10
  go_upto_region 41 with fail
  clear hta hta11 hta12 hta13 hta14 hta15 hta16 hta17 hta18 hta19 hta20
  show Code.wp _ _ _ _ ((w.alloc (.cells zs5.toArray 38)).alloc (.cells [.string (tx l1), .slice a2 l2.length c2].toArray 74))
  obtain ⟨W0, hW0⟩ : ∃ W0, W0 = (w.alloc (.cells zs5.toArray 38)).alloc (.cells [.string (tx l1), .slice a2 l2.length c2].toArray 74) := ⟨_, rfl⟩
  rw [← hW0] at HC ⊢
  clear hW0
  obtain ⟨p, hp⟩ : ∃ p, p = w.heap.size + 1 := ⟨_, rfl⟩
  obtain ⟨q, hq⟩ : ∃ q, q = w.heap.size := ⟨_, rfl⟩
  rw [← hp, ← hq] at HC ⊢
  clear hp hq
  have HBE : Hid (B = ([tx l1].all rightB && [].all timeB)) := Lib.hid (by rw [HB.out]; simp only [List.all_cons, List.all_nil, ptB, Bool.and_true, Bool.true_and, Bool.and_false, Bool.false_and, Bool.and_assoc]; first | done | ac_rfl)
  obtain ⟨wd, hwd⟩ : ∃ wd, wd = World.drew W0 := ⟨_, rfl⟩
  have hvd : VC w q [(p, [.string (tx l1), .slice a2 l2.length c2], 74)] [] [(.slice a2 l2.length c2, l2)] wd := by rw [hwd]; exact HC.out.drew
  have HXE : Hid (X = .mk 2 21 0 [] [.mk 1 0 0 l1 [], .mk 1 0 0 l2 []]) := Lib.hid HX2.out
  have HR : Hid (∀ W, GV (fun b => q < b) q X wd W → VR w q [(p, [.string (tx l1), .slice a2 l2.length c2], 74)] [] [(.slice a2 l2.length c2, l2)] W) := Lib.hid (fun W h => hvd.gv h)
  have HZD : Hid (∀ W, GV (fun b => q < b) q X wd W → q < W.heap.size ∧ ∀ b, W.heap.size ≤ b → q < b) := Lib.hid (fun W h => ⟨(HR.out W h).lt, fun b hb => Nat.lt_of_lt_of_le (HR.out W h).lt hb⟩)
  have HFq : Hid (¬ (fun b => q < b) q) := Lib.hid (Nat.lt_irrefl q)
  have HQW : Hid (w.heap.size = q) := Lib.hid hvd.hq.symm
  clear hvd HC
  refine wp_region_held (S := fun W => GV (fun b => q < b) q X wd W) (by kernel_rfl) ?_
  change wpAnyH _ _ _ _ _ _ _ _ (World.drew _)
  rw [← hwd]
  clear hwd
  refine tkH 0 361 none (.pointer (some ⟨p, 0, none⟩)) rfl (by kernel_rfl) (fun _ _ _ h => h) (by rfl) (by intro W hW; go_simp) (GV.refl _ _ _ _) ?_
  simp only [Act.put, q1, q2, q3]
  refine tkH 1 362 none (.string (tx l1)) rfl (by kernel_rfl) (fun _ _ _ h => h) (by rfl) (by intro W hW; have hc : W.cell? ⟨p, 0, none⟩ = some (.string (tx l1)) := ((HR.out W hW).blkAt 0 rfl).cell 0; go_simp) (GV.refl _ _ _ _) ?_
  simp only [Act.put, q1, q2, q3]
  refine tkH 3 364 none (.pointer (some ⟨p, 1, none⟩)) rfl (by kernel_rfl) (fun _ _ _ h => h) (by rfl) (by intro W hW; go_simp) (GV.refl _ _ _ _) ?_
  simp only [Act.put, q1, q2, q3]
  refine tkH 4 365 none (.slice a2 l2.length c2) rfl (by kernel_rfl) (fun _ _ _ h => h) (by rfl) (by intro W hW; have hc : W.cell? ⟨p, 1, none⟩ = some (.slice a2 l2.length c2) := ((HR.out W hW).blkAt 0 rfl).cell 1; go_simp) (GV.refl _ _ _ _) ?_
  simp only [Act.put, q1, q2, q3]
  refine tkH 8 369 none (.pointer (some ⟨p, 0, none⟩)) rfl (by kernel_rfl) (fun _ _ _ h => h) (by rfl) (by intro W hW; go_simp) (GV.refl _ _ _ _) ?_
  simp only [Act.put, q1, q2, q3]
  refine tkH 9 370 none (.string (tx l1)) rfl (by kernel_rfl) (fun _ _ _ h => h) (by rfl) (by intro W hW; have hc : W.cell? ⟨p, 0, none⟩ = some (.string (tx l1)) := ((HR.out W hW).blkAt 0 rfl).cell 0; go_simp) (GV.refl _ _ _ _) ?_
  simp only [Act.put, q1, q2, q3]
  refine anyH_steps (G := GV (fun b => q < b) q X) (Post := postV (fun b => q < b) q X [.any, .any, .val (.mk 1 0 0 l1 []), .any, .any, .val (.mk 1 0 0 l2 []), .vals [.mk 1 0 0 l1 [], .mk 1 0 0 l2 []], .val (.mk 2 21 0 [] [.mk 1 0 0 l1 [], .mk 1 0 0 l2 []]), .any, .any, .row [.string (tx l1)], .is (.bool ([tx l1].all rightB && [].all timeB)), .fin, .is (.bool ([tx l1].all rightB && [].all timeB))]) (ds := [363, 366, 367, 368, 371, 372, 3]) (GV.refl _ _ _) GV.trans (fun W W' h g => GV.trans _ _ _ h g) (fun i v W W' h g => PK.stable HFq.out h g) [2, 5, 6, 7, 10, 11, 12, 13] 397 rfl (by decide +kernel) (by decide +kernel) ?_ ?_ (GV.refl _ _ _ _) (by decide +kernel)
  · refine AllSteps.cons (o := { dst := some 363, op := .call { callee := .value (.func 26), args := #[.tmp 362], argTypes := #[9] }, type := _, pos := _, after := _, guard := none }) rfl (fun a W hf hS hd K hK => ?_) ?_
    · have e362 : a.eval (.tmp 362) = .string (tx l1) := hf.lit 362 (by decide) rfl
      exact stepV_mk (wanted_none rfl) rfl enters_mtext (vs := #[.string (tx l1)]) (by simp [e362]) (mtext_any l1 W HZ1.out) (HZD.out W hS).1 (HZD.out W hS).2 hK
    refine AllSteps.cons (o := { dst := some 366, op := .call { callee := .value (.func 28), args := #[.tmp 365], argTypes := #[22] }, type := _, pos := _, after := _, guard := none }) rfl (fun a W hf hS hd K hK => ?_) ?_
    · have e365 : a.eval (.tmp 365) = .slice a2 l2.length c2 := hf.lit 365 (by decide) rfl
      exact stepV_mk (wanted_none rfl) rfl enters_raw (vs := #[.slice a2 l2.length c2]) (by simp [e365]) (rawNew_any _ l2 W ((HR.out W hS).rowAt 0 rfl) HZ2.out) (HZD.out W hS).1 (HZD.out W hS).2 hK
    refine AllSteps.cons (o := { dst := some 367, op := .buildSlice 36 2 #[(0, .tmp 363), (1, .tmp 366)], type := _, pos := _, after := _, guard := none }) rfl (fun a W hf hS hd K hK => ?_) ?_
    · have d363 := (hd 2 (by decide +kernel)).get (s := 363) rfl
      have d366 := (hd 5 (by decide +kernel)).get (s := 366) rfl
      exact stepV_vals (wanted_none rfl) rfl elDer (ps := [.tmp 363, .tmp 366]) rfl (l := [.mk 1 0 0 l1 [], .mk 1 0 0 l2 []]) ⟨d363, d366, trivial⟩ rfl (by decide) (by decide) (HZD.out W hS).1 (HZD.out W hS).2 hK
    refine AllSteps.cons (o := { dst := some 368, op := .call { callee := .value (.func 25), args := #[.const (.int .i64 21), .tmp 367], argTypes := #[3, 36] }, type := _, pos := _, after := _, guard := none }) rfl (fun a W hf hS hd K hK => ?_) ?_
    · have d367 := (hd 6 (by decide +kernel)).get (s := 367) rfl
      exact stepV_seq (wanted_none rfl) rfl enters_seq d367 (HZD.out W hS).1 (fun v w1 h1 h2 => hK v w1 h1 h2) HFq.out
    refine AllSteps.cons (o := { dst := some 371, op := .buildSlice 93 1 #[(0, .tmp 370)], type := _, pos := _, after := _, guard := none }) rfl (fun a W hf hS hd K hK => ?_) ?_
    · have e370 : a.eval (.tmp 370) = .string (tx l1) := hf.lit 370 (by decide) rfl
      exact stepV_row (wanted_none rfl) rfl elStr (ps := [.tmp 370]) rfl (cs := [.string (tx l1)]) (by simp only [List.map_cons, List.map_nil, e370]) (by intro u hu; simp only [List.mem_cons, List.not_mem_nil, or_false] at hu; rcases hu with rfl <;> exact ⟨rfl, rfl⟩) rfl (by decide) (by decide) (HZD.out W hS).1 (HZD.out W hS).2 hK
    refine AllSteps.cons (o := { dst := some 372, op := .call { callee := .value (.func 29), args := #[.tmp 371, .const (.slice none 0 0)], argTypes := #[93, 116] }, type := _, pos := _, after := _, guard := none }) rfl (fun a W hf hS hd K hK => ?_) ?_
    · have d371 := (hd 10 (by decide +kernel)).get (s := 371) rfl
      exact stepV_is (wanted_none rfl) rfl enters_mright (vs := #[a.eval (.tmp 371), .slice none 0 0]) (by first | (simp only [List.map_toArray, List.map_cons, List.map_nil]; done) | (simp only [List.map_toArray, List.map_cons, List.map_nil]; rfl)) (u := (.bool ([tx l1].all rightB && [].all timeB))) (mright_any [tx l1] [] _ _ W d371.1 (Sl.nil _ _ _) HSZ.out) (HZD.out W hS).1 hK
    refine AllSteps.cons (o := { dst := none, op := .store 38 (.tmp 2) (.tmp 368), type := _, pos := _, after := _, guard := none }) rfl (fun a W hf hS hd K hK => ?_) ?_
    · have e2 : a.eval (.tmp 2) = .pointer (some ⟨q, 0, none⟩) := hf.lit 2 (by decide) rfl
      have d368 := (hd 7 (by decide +kernel)).get (s := 368) rfl
      obtain ⟨cur, hc1, hc2⟩ := (HR.out W hS).len
      rw [← HXE.out] at d368
      exact stepV_fin (wanted_none rfl) rfl e2 d368 hc1 hc2 HFq.out hK
    refine AllSteps.cons (o := { dst := some 3, op := .assign (.tmp 372), type := _, pos := _, after := _, guard := none }) rfl (fun a W hf hS hd K hK => ?_) ?_
    · have d372 := (hd 11 (by decide +kernel)).get (s := 372) rfl
      exact step_val (wanted_none rfl) (exec_asg rfl rfl) (hK _ _ (GV.refl _ _ _ _) d372)
    exact AllSteps.nil
  · intro a W hf hS hp
    have h3 := (hp 13 (by decide)).get (s := 3) rfl
    obtain ⟨v, cs, h5, h6⟩ := (hp 12 (by decide)).fin
    have e2 : a.eval (.tmp 2) = .pointer (some ⟨q, 0, none⟩) := hf.lit 2 (by decide) rfl
    go_wp2_with fail
    refine bodyPost_ret (results_agg_tmp rfl aggDer (show a.tmps.getD 2 undef = _ from e2) h6.length h5.cellsAll) hf.defers ⟨cs, ?_, ?_, (HR.out W hS).below⟩
    · rw [HBE.out, show a.tmps.getD 3 undef = .bool ([tx l1].all rightB && [].all timeB) from h3]
    · exact h6.mono (fun b hb => by have := HQW.out; omega)
set_option maxHeartbeats 16000000 in
set_option maxRecDepth 100000 in
theorem msgValue_22 (F0 : Nat → Prop) (l1 : List UInt8) (x2 : Int) (x3 : Int) (w : World) (hz1 : l1.length ≤ 1099511627776) (hz2 : -9223372036854775808 ≤ x2 ∧ x2 ≤ 9223372036854775807) (hz3 : -9223372036854775808 ≤ x3 ∧ x3 ≤ 9223372036854775807) :
    Calls Try.prog 10 #[.iface 76 (.agg #[.string (tx l1), .int .i64 x2, .int .i64 x3])] w (VlRes w (.mk 2 22 0 [] ([.s l1, .n x2, .n x3].map ptTv)) ([.s l1, .n x2, .n x3].all ptB)) := by
  have HC : Hid (VC w w.heap.size [(w.heap.size + 1, [.string (tx l1), .int .i64 x2, .int .i64 x3], 76)] [] [] ((w.alloc (.cells zs5.toArray 38)).alloc (.cells [.string (tx l1), .int .i64 x2, .int .i64 x3].toArray 76))) := Lib.hid (VC.start (by intro r hr; cases hr) _ _)
  have HSZ : Hid (∀ u ∈ [tx l1], u.size ≤ maxLen) := Lib.hid (by intro u hu; simp only [List.mem_cons, List.not_mem_nil, or_false] at hu; rcases hu with rfl; exact szTx hz1)
  have HZ1 := Lib.hid hz1
  clear hz1
  have HZ2 := Lib.hid hz2
  clear hz2
  have HZ3 := Lib.hid hz3
  clear hz3
  obtain ⟨z11, hta11⟩ := tan 54 76 (.agg #[.string (tx l1), .int .i64 x2, .int .i64 x3]) zero_11 (by kernel_rfl) (by decide)
  obtain ⟨z12, hta12⟩ := tan 56 76 (.agg #[.string (tx l1), .int .i64 x2, .int .i64 x3]) zero_12 (by kernel_rfl) (by decide)
  obtain ⟨z13, hta13⟩ := tan 59 76 (.agg #[.string (tx l1), .int .i64 x2, .int .i64 x3]) zero_13 (by kernel_rfl) (by decide)
  obtain ⟨z14, hta14⟩ := tan 60 76 (.agg #[.string (tx l1), .int .i64 x2, .int .i64 x3]) zero_14 (by kernel_rfl) (by decide)
  obtain ⟨z15, hta15⟩ := tan 62 76 (.agg #[.string (tx l1), .int .i64 x2, .int .i64 x3]) zero_15 (by kernel_rfl) (by decide)
  obtain ⟨z16, hta16⟩ := tan 64 76 (.agg #[.string (tx l1), .int .i64 x2, .int .i64 x3]) zero_16 (by kernel_rfl) (by decide)
  obtain ⟨z17, hta17⟩ := tan 66 76 (.agg #[.string (tx l1), .int .i64 x2, .int .i64 x3]) zero_17 (by kernel_rfl) (by decide)
  obtain ⟨z18, hta18⟩ := tan 68 76 (.agg #[.string (tx l1), .int .i64 x2, .int .i64 x3]) zero_18 (by kernel_rfl) (by decide)
  obtain ⟨z19, hta19⟩ := tan 70 76 (.agg #[.string (tx l1), .int .i64 x2, .int .i64 x3]) zero_19 (by kernel_rfl) (by decide)
  obtain ⟨z20, hta20⟩ := tan 72 76 (.agg #[.string (tx l1), .int .i64 x2, .int .i64 x3]) zero_20 (by kernel_rfl) (by decide)
  obtain ⟨z21, hta21⟩ := tan 74 76 (.agg #[.string (tx l1), .int .i64 x2, .int .i64 x3]) zero_21 (by kernel_rfl) (by decide)
  have hta : ∀ W, (Instr.typeAssert (.iface 76 (.agg #[.string (tx l1), .int .i64 x2, .int .i64 x3])) 20 76 true).run Try.prog W = .ok (.tuple #[.agg #[.string (tx l1), .int .i64 x2, .int .i64 x3], .bool true]) W := fun W => ta_is _ _ _ (by kernel_rfl) W
  obtain ⟨B, hB⟩ : ∃ B, B = [.s l1, .n x2, .n x3].all ptB := ⟨_, rfl⟩
  obtain ⟨X, hX⟩ : ∃ X : Tv, X = .mk 2 22 0 [] ([.s l1, .n x2, .n x3].map ptTv) := ⟨_, rfl⟩
  rw [← hB, ← hX]
  have HB := Lib.hid hB
  have HX2 := Lib.hid hX
  clear hB hX
  go_enter Try.func10, Try.ntmps10
  go_upto_region 44 with fail
  clear hta hta11 hta12 hta13 hta14 hta15 hta16 hta17 hta18 hta19 hta20 hta21
  show Code.wp _ _ _ _ ((w.alloc (.cells zs5.toArray 38)).alloc (.cells [.string (tx l1), .int .i64 x2, .int .i64 x3].toArray 76))
  obtain ⟨W0, hW0⟩ : ∃ W0, W0 = (w.alloc (.cells zs5.toArray 38)).alloc (.cells [.string (tx l1), .int .i64 x2, .int .i64 x3].toArray 76) := ⟨_, rfl⟩
  rw [← hW0] at HC ⊢
  clear hW0
  obtain ⟨p, hp⟩ : ∃ p, p = w.heap.size + 1 := ⟨_, rfl⟩
  obtain ⟨q, hq⟩ : ∃ q, q = w.heap.size := ⟨_, rfl⟩
  rw [← hp, ← hq] at HC ⊢
  clear hp hq
  have HBE : Hid (B = ([tx l1].all rightB && [x2, x3].all timeB)) := Lib.hid (by rw [HB.out]; simp only [List.all_cons, List.all_nil, ptB, Bool.and_true, Bool.true_and, Bool.and_false, Bool.false_and, Bool.and_assoc]; first | done | ac_rfl)
  obtain ⟨wd, hwd⟩ : ∃ wd, wd = World.drew W0 := ⟨_, rfl⟩
  have hvd : VC w q [(p, [.string (tx l1), .int .i64 x2, .int .i64 x3], 76)] [] [] wd := by rw [hwd]; exact HC.out.drew
  have HXE : Hid (X = .mk 2 22 0 [] [.mk 1 0 0 l1 [], .mk 0 0 (numU x2) [] [], .mk 0 0 (numU x3) [] []]) := Lib.hid HX2.out
  have HR : Hid (∀ W, GV (fun b => q < b) q X wd W → VR w q [(p, [.string (tx l1), .int .i64 x2, .int .i64 x3], 76)] [] [] W) := Lib.hid (fun W h => hvd.gv h)
  have HZD : Hid (∀ W, GV (fun b => q < b) q X wd W → q < W.heap.size ∧ ∀ b, W.heap.size ≤ b → q < b) := Lib.hid (fun W h => ⟨(HR.out W h).lt, fun b hb => Nat.lt_of_lt_of_le (HR.out W h).lt hb⟩)
  have HFq : Hid (¬ (fun b => q < b) q) := Lib.hid (Nat.lt_irrefl q)
  have HQW : Hid (w.heap.size = q) := Lib.hid hvd.hq.symm
  clear hvd HC
  refine wp_region_held (S := fun W => GV (fun b => q < b) q X wd W) (by kernel_rfl) ?_
  change wpAnyH _ _ _ _ _ _ _ _ (World.drew _)
  rw [← hwd]
  clear hwd
  refine tkH 0 376 none (.pointer (some ⟨p, 0, none⟩)) rfl (by kernel_rfl) (fun _ _ _ h => h) (by rfl) (by intro W hW; go_simp) (GV.refl _ _ _ _) ?_
  simp only [Act.put, q1, q2, q3]
  refine tkH 1 377 none (.string (tx l1)) rfl (by kernel_rfl) (fun _ _ _ h => h) (by rfl) (by intro W hW; have hc : W.cell? ⟨p, 0, none⟩ = some (.string (tx l1)) := ((HR.out W hW).blkAt 0 rfl).cell 0; go_simp) (GV.refl _ _ _ _) ?_
  simp only [Act.put, q1, q2, q3]
  refine tkH 3 379 none (.pointer (some ⟨p, 1, none⟩)) rfl (by kernel_rfl) (fun _ _ _ h => h) (by rfl) (by intro W hW; go_simp) (GV.refl _ _ _ _) ?_
  simp only [Act.put, q1, q2, q3]
  refine tkH 4 380 none (.int .i64 x2) rfl (by kernel_rfl) (fun _ _ _ h => h) (by rfl) (by intro W hW; have hc : W.cell? ⟨p, 1, none⟩ = some (.int .i64 x2) := ((HR.out W hW).blkAt 0 rfl).cell 1; go_simp) (GV.refl _ _ _ _) ?_
  simp only [Act.put, q1, q2, q3]
  refine tkH 6 382 none (.pointer (some ⟨p, 2, none⟩)) rfl (by kernel_rfl) (fun _ _ _ h => h) (by rfl) (by intro W hW; go_simp) (GV.refl _ _ _ _) ?_
  simp only [Act.put, q1, q2, q3]
  refine tkH 7 383 none (.int .i64 x3) rfl (by kernel_rfl) (fun _ _ _ h => h) (by rfl) (by intro W hW; have hc : W.cell? ⟨p, 2, none⟩ = some (.int .i64 x3) := ((HR.out W hW).blkAt 0 rfl).cell 2; go_simp) (GV.refl _ _ _ _) ?_
  simp only [Act.put, q1, q2, q3]
  refine tkH 11 387 none (.pointer (some ⟨p, 0, none⟩)) rfl (by kernel_rfl) (fun _ _ _ h => h) (by rfl) (by intro W hW; go_simp) (GV.refl _ _ _ _) ?_
  simp only [Act.put, q1, q2, q3]
  refine tkH 12 388 none (.string (tx l1)) rfl (by kernel_rfl) (fun _ _ _ h => h) (by rfl) (by intro W hW; have hc : W.cell? ⟨p, 0, none⟩ = some (.string (tx l1)) := ((HR.out W hW).blkAt 0 rfl).cell 0; go_simp) (GV.refl _ _ _ _) ?_
  simp only [Act.put, q1, q2, q3]
  refine tkH 14 390 none (.pointer (some ⟨p, 1, none⟩)) rfl (by kernel_rfl) (fun _ _ _ h => h) (by rfl) (by intro W hW; go_simp) (GV.refl _ _ _ _) ?_
  simp only [Act.put, q1, q2, q3]
  refine tkH 15 391 none (.int .i64 x2) rfl (by kernel_rfl) (fun _ _ _ h => h) (by rfl) (by intro W hW; have hc : W.cell? ⟨p, 1, none⟩ = some (.int .i64 x2) := ((HR.out W hW).blkAt 0 rfl).cell 1; go_simp) (GV.refl _ _ _ _) ?_
  simp only [Act.put, q1, q2, q3]
  refine tkH 16 392 none (.pointer (some ⟨p, 2, none⟩)) rfl (by kernel_rfl) (fun _ _ _ h => h) (by rfl) (by intro W hW; go_simp) (GV.refl _ _ _ _) ?_
  simp only [Act.put, q1, q2, q3]
  refine tkH 17 393 none (.int .i64 x3) rfl (by kernel_rfl) (fun _ _ _ h => h) (by rfl) (by intro W hW; have hc : W.cell? ⟨p, 2, none⟩ = some (.int .i64 x3) := ((HR.out W hW).blkAt 0 rfl).cell 2; go_simp) (GV.refl _ _ _ _) ?_
  simp only [Act.put, q1, q2, q3]
  refine anyH_steps (G := GV (fun b => q < b) q X) (Post := postV (fun b => q < b) q X [.any, .any, .val (.mk 1 0 0 l1 []), .any, .any, .val (.mk 0 0 (numU x2) [] []), .any, .any, .val (.mk 0 0 (numU x3) [] []), .vals [.mk 1 0 0 l1 [], .mk 0 0 (numU x2) [] [], .mk 0 0 (numU x3) [] []], .val (.mk 2 22 0 [] [.mk 1 0 0 l1 [], .mk 0 0 (numU x2) [] [], .mk 0 0 (numU x3) [] []]), .any, .any, .row [.string (tx l1)], .any, .any, .any, .any, .row [.int .i64 x2, .int .i64 x3], .is (.bool ([tx l1].all rightB && [x2, x3].all timeB)), .fin, .is (.bool ([tx l1].all rightB && [x2, x3].all timeB))]) (ds := [378, 381, 384, 385, 386, 389, 394, 395, 3]) (GV.refl _ _ _) GV.trans (fun W W' h g => GV.trans _ _ _ h g) (fun i v W W' h g => PK.stable HFq.out h g) [2, 5, 8, 9, 10, 13, 18, 19, 20, 21] 397 rfl (by decide +kernel) (by decide +kernel) ?_ ?_ (GV.refl _ _ _ _) (by decide +kernel)
  · refine AllSteps.cons (o := { dst := some 378, op := .call { callee := .value (.func 26), args := #[.tmp 377], argTypes := #[9] }, type := _, pos := _, after := _, guard := none }) rfl (fun a W hf hS hd K hK => ?_) ?_
    · have e377 : a.eval (.tmp 377) = .string (tx l1) := hf.lit 377 (by decide) rfl
      exact stepV_mk (wanted_none rfl) rfl enters_mtext (vs := #[.string (tx l1)]) (by simp [e377]) (mtext_any l1 W HZ1.out) (HZD.out W hS).1 (HZD.out W hS).2 hK
    refine AllSteps.cons (o := { dst := some 381, op := .call { callee := .value (.func 27), args := #[.tmp 380], argTypes := #[2] }, type := _, pos := _, after := _, guard := none }) rfl (fun a W hf hS hd K hK => ?_) ?_
    · have e380 : a.eval (.tmp 380) = .int .i64 x2 := hf.lit 380 (by decide) rfl
      exact stepV_mk (wanted_none rfl) rfl enters_mnum (vs := #[.int .i64 x2]) (by simp [e380]) (mnumI_any x2 W HZ2.out.1 HZ2.out.2) (HZD.out W hS).1 (HZD.out W hS).2 hK
    refine AllSteps.cons (o := { dst := some 384, op := .call { callee := .value (.func 27), args := #[.tmp 383], argTypes := #[2] }, type := _, pos := _, after := _, guard := none }) rfl (fun a W hf hS hd K hK => ?_) ?_
    · have e383 : a.eval (.tmp 383) = .int .i64 x3 := hf.lit 383 (by decide) rfl
      exact stepV_mk (wanted_none rfl) rfl enters_mnum (vs := #[.int .i64 x3]) (by simp [e383]) (mnumI_any x3 W HZ3.out.1 HZ3.out.2) (HZD.out W hS).1 (HZD.out W hS).2 hK
    refine AllSteps.cons (o := { dst := some 385, op := .buildSlice 36 3 #[(0, .tmp 378), (1, .tmp 381), (2, .tmp 384)], type := _, pos := _, after := _, guard := none }) rfl (fun a W hf hS hd K hK => ?_) ?_
    · have d378 := (hd 2 (by decide +kernel)).get (s := 378) rfl
      have d381 := (hd 5 (by decide +kernel)).get (s := 381) rfl
      have d384 := (hd 8 (by decide +kernel)).get (s := 384) rfl
      exact stepV_vals (wanted_none rfl) rfl elDer (ps := [.tmp 378, .tmp 381, .tmp 384]) rfl (l := [.mk 1 0 0 l1 [], .mk 0 0 (numU x2) [] [], .mk 0 0 (numU x3) [] []]) ⟨d378, d381, d384, trivial⟩ rfl (by decide) (by decide) (HZD.out W hS).1 (HZD.out W hS).2 hK
    refine AllSteps.cons (o := { dst := some 386, op := .call { callee := .value (.func 25), args := #[.const (.int .i64 22), .tmp 385], argTypes := #[3, 36] }, type := _, pos := _, after := _, guard := none }) rfl (fun a W hf hS hd K hK => ?_) ?_
    · have d385 := (hd 9 (by decide +kernel)).get (s := 385) rfl
      exact stepV_seq (wanted_none rfl) rfl enters_seq d385 (HZD.out W hS).1 (fun v w1 h1 h2 => hK v w1 h1 h2) HFq.out
    refine AllSteps.cons (o := { dst := some 389, op := .buildSlice 93 1 #[(0, .tmp 388)], type := _, pos := _, after := _, guard := none }) rfl (fun a W hf hS hd K hK => ?_) ?_
    · have e388 : a.eval (.tmp 388) = .string (tx l1) := hf.lit 388 (by decide) rfl
      exact stepV_row (wanted_none rfl) rfl elStr (ps := [.tmp 388]) rfl (cs := [.string (tx l1)]) (by simp only [List.map_cons, List.map_nil, e388]) (by intro u hu; simp only [List.mem_cons, List.not_mem_nil, or_false] at hu; rcases hu with rfl <;> exact ⟨rfl, rfl⟩) rfl (by decide) (by decide) (HZD.out W hS).1 (HZD.out W hS).2 hK
    refine AllSteps.cons (o := { dst := some 394, op := .buildSlice 116 2 #[(0, .tmp 391), (1, .tmp 393)], type := _, pos := _, after := _, guard := none }) rfl (fun a W hf hS hd K hK => ?_) ?_
    · have e391 : a.eval (.tmp 391) = .int .i64 x2 := hf.lit 391 (by decide) rfl
      have e393 : a.eval (.tmp 393) = .int .i64 x3 := hf.lit 393 (by decide) rfl
      exact stepV_row (wanted_none rfl) rfl elI64 (ps := [.tmp 391, .tmp 393]) rfl (cs := [.int .i64 x2, .int .i64 x3]) (by simp only [List.map_cons, List.map_nil, e391, e393]) (by intro u hu; simp only [List.mem_cons, List.not_mem_nil, or_false] at hu; rcases hu with rfl | rfl <;> exact ⟨rfl, rfl⟩) rfl (by decide) (by decide) (HZD.out W hS).1 (HZD.out W hS).2 hK
    refine AllSteps.cons (o := { dst := some 395, op := .call { callee := .value (.func 29), args := #[.tmp 389, .tmp 394], argTypes := #[93, 116] }, type := _, pos := _, after := _, guard := none }) rfl (fun a W hf hS hd K hK => ?_) ?_
    · have d389 := (hd 13 (by decide +kernel)).get (s := 389) rfl
      have d394 := (hd 18 (by decide +kernel)).get (s := 394) rfl
      exact stepV_is (wanted_none rfl) rfl enters_mright (vs := #[a.eval (.tmp 389), a.eval (.tmp 394)]) (by first | (simp only [List.map_toArray, List.map_cons, List.map_nil]; done) | (simp only [List.map_toArray, List.map_cons, List.map_nil]; rfl)) (u := (.bool ([tx l1].all rightB && [x2, x3].all timeB))) (mright_any [tx l1] [x2, x3] _ _ W d389.1 d394.1 HSZ.out) (HZD.out W hS).1 hK
    refine AllSteps.cons (o := { dst := none, op := .store 38 (.tmp 2) (.tmp 386), type := _, pos := _, after := _, guard := none }) rfl (fun a W hf hS hd K hK => ?_) ?_
    · have e2 : a.eval (.tmp 2) = .pointer (some ⟨q, 0, none⟩) := hf.lit 2 (by decide) rfl
      have d386 := (hd 10 (by decide +kernel)).get (s := 386) rfl
      obtain ⟨cur, hc1, hc2⟩ := (HR.out W hS).len
      rw [← HXE.out] at d386
      exact stepV_fin (wanted_none rfl) rfl e2 d386 hc1 hc2 HFq.out hK
    refine AllSteps.cons (o := { dst := some 3, op := .assign (.tmp 395), type := _, pos := _, after := _, guard := none }) rfl (fun a W hf hS hd K hK => ?_) ?_
    · have d395 := (hd 19 (by decide +kernel)).get (s := 395) rfl
      exact step_val (wanted_none rfl) (exec_asg rfl rfl) (hK _ _ (GV.refl _ _ _ _) d395)
    exact AllSteps.nil
  · intro a W hf hS hp
    have h3 := (hp 21 (by decide)).get (s := 3) rfl
    obtain ⟨v, cs, h5, h6⟩ := (hp 20 (by decide)).fin
    have e2 : a.eval (.tmp 2) = .pointer (some ⟨q, 0, none⟩) := hf.lit 2 (by decide) rfl
    go_wp2_with fail
    refine bodyPost_ret (results_agg_tmp rfl aggDer (show a.tmps.getD 2 undef = _ from e2) h6.length h5.cellsAll) hf.defers ⟨cs, ?_, ?_, (HR.out W hS).below⟩
    · rw [HBE.out, show a.tmps.getD 3 undef = .bool ([tx l1].all rightB && [x2, x3].all timeB) from h3]
    · exact h6.mono (fun b hb => by have := HQW.out; omega)
end Go.Proofs.Ytpjkidcfidmfaaa
/- msg.Value of any message, and of what is none. Printed by tools/genmio.py. -/
namespace Go.Proofs.Ytpjkidcfidmfaaa
set_option linter.unusedSimpArgs false
set_option linter.unusedVariables false
open Go.RowKit
/-- Parts that memory has room for. -/
def PtOk : Pt → Prop
  | .s l => l.length ≤ 1099511627776
  | .n x => -9223372036854775808 ≤ x ∧ x ≤ 9223372036854775807
  | .b l => l.length ≤ 1099511627776
  | .t _ => True
  | .i t => t.1.length ≤ 1099511627776 ∧ t.2.length ≤ 1099511627776
  | .x l => (∀ t ∈ l, t.1.length ≤ 1099511627776 ∧ t.2.length ≤ 1099511627776) ∧ l.length ≤ 1954687338211
theorem map_cons_ex {pts : List Pt} {k : Kd} {ks : List Kd} (h : pts.map kdOf = k :: ks) : ∃ p r, pts = p :: r ∧ kdOf p = k ∧ r.map kdOf = ks := by
  cases pts with
  | nil => simp at h
  | cons p r =>
    simp only [List.map_cons, List.cons.injEq] at h
    exact ⟨p, r, rfl, h.1, h.2⟩
theorem map_nil_ex {pts : List Pt} (h : pts.map kdOf = []) : pts = [] := List.map_eq_nil_iff.1 h
theorem kd_s {p : Pt} (h : kdOf p = .s) : ∃ y : List UInt8, p = .s y := by
  cases p <;> first | exact ⟨_, rfl⟩ | cases h
theorem kd_n {p : Pt} (h : kdOf p = .n) : ∃ y : Int, p = .n y := by
  cases p <;> first | exact ⟨_, rfl⟩ | cases h
theorem kd_b {p : Pt} (h : kdOf p = .b) : ∃ y : List UInt8, p = .b y := by
  cases p <;> first | exact ⟨_, rfl⟩ | cases h
theorem kd_t {p : Pt} (h : kdOf p = .t) : ∃ y : Bool, p = .t y := by
  cases p <;> first | exact ⟨_, rfl⟩ | cases h
theorem kd_i {p : Pt} (h : kdOf p = .i) : ∃ y : List UInt8 × List UInt8, p = .i y := by
  cases p <;> first | exact ⟨_, rfl⟩ | cases h
theorem kd_x {p : Pt} (h : kdOf p = .x) : ∃ y : List (List UInt8 × List UInt8), p = .x y := by
  cases p <;> first | exact ⟨_, rfl⟩ | cases h
theorem msgValue_any (t : Int) (pts : List Pt) (F : Nat → Prop) (v : Value) (w : World) (hk : pts.map kdOf = shapeS t) (hne : (shapeS t).isEmpty = false) (hv : MsgV w F t pts v) (hok : ∀ p ∈ pts, PtOk p) :
    Calls Try.prog 10 #[v] w (VlRes w (msgTv t pts) (pts.all ptB)) := by
  obtain ⟨ht1, ht2⟩ := shape_tag hne
  rcases (by omega : t = 11 ∨ t = 12 ∨ t = 13 ∨ t = 14 ∨ t = 15 ∨ t = 16 ∨ t = 17 ∨ t = 18 ∨ t = 19 ∨ t = 20 ∨ t = 21 ∨ t = 22) with rfl | rfl | rfl | rfl | rfl | rfl | rfl | rfl | rfl | rfl | rfl | rfl
  · have k0 : pts.map kdOf = [.s, .n, .n, .b] := hk
    clear hk
    obtain ⟨p1, r1, rfl, e1, k1⟩ := map_cons_ex k0
    obtain ⟨y1, rfl⟩ := kd_s e1
    obtain ⟨p2, r2, rfl, e2, k2⟩ := map_cons_ex k1
    obtain ⟨y2, rfl⟩ := kd_n e2
    obtain ⟨p3, r3, rfl, e3, k3⟩ := map_cons_ex k2
    obtain ⟨y3, rfl⟩ := kd_n e3
    obtain ⟨p4, r4, rfl, e4, k4⟩ := map_cons_ex k3
    obtain ⟨y4, rfl⟩ := kd_b e4
    obtain rfl := map_nil_ex k4
    obtain ⟨cs, rfl, hp⟩ := hv
    obtain ⟨a1, b1, rfl, g1, hp⟩ := hp
    obtain rfl := g1
    obtain ⟨a2, b2, rfl, g2, hp⟩ := hp
    obtain rfl := g2
    obtain ⟨a3, b3, rfl, g3, hp⟩ := hp
    obtain rfl := g3
    obtain ⟨a4, b4, rfl, g4, hp⟩ := hp
    obtain ⟨v4, rfl, hb4, ho4⟩ := g4
    obtain rfl : _ = [] := hp
    exact msgValue_11 F y1 y2 y3 y4 v4 w (show PtOk (.s y1) from hok _ (by simp)) (show PtOk (.n y2) from hok _ (by simp)) (show PtOk (.n y3) from hok _ (by simp)) hb4 (show PtOk (.b y4) from hok _ (by simp))
  · have k0 : pts.map kdOf = [.s, .i, .b] := hk
    clear hk
    obtain ⟨p1, r1, rfl, e1, k1⟩ := map_cons_ex k0
    obtain ⟨y1, rfl⟩ := kd_s e1
    obtain ⟨p2, r2, rfl, e2, k2⟩ := map_cons_ex k1
    obtain ⟨y2, rfl⟩ := kd_i e2
    obtain ⟨p3, r3, rfl, e3, k3⟩ := map_cons_ex k2
    obtain ⟨y3, rfl⟩ := kd_b e3
    obtain rfl := map_nil_ex k3
    obtain ⟨cs, rfl, hp⟩ := hv
    obtain ⟨a1, b1, rfl, g1, hp⟩ := hp
    obtain rfl := g1
    obtain ⟨a2, b2, rfl, g2, hp⟩ := hp
    obtain ⟨v2, rfl, hb2, ho2⟩ := g2
    obtain ⟨a3, b3, rfl, g3, hp⟩ := hp
    obtain ⟨v3, rfl, hb3, ho3⟩ := g3
    obtain rfl : _ = [] := hp
    exact msgValue_12 F y1 y2.1 y2.2 v2 y3 v3 w (show PtOk (.s y1) from hok _ (by simp)) hb2 (show PtOk (.i y2) from hok _ (by simp)) hb3 (show PtOk (.b y3) from hok _ (by simp))
  · have k0 : pts.map kdOf = [.s, .n, .n, .t, .t, .i, .b, .x] := hk
    clear hk
    obtain ⟨p1, r1, rfl, e1, k1⟩ := map_cons_ex k0
    obtain ⟨y1, rfl⟩ := kd_s e1
    obtain ⟨p2, r2, rfl, e2, k2⟩ := map_cons_ex k1
    obtain ⟨y2, rfl⟩ := kd_n e2
    obtain ⟨p3, r3, rfl, e3, k3⟩ := map_cons_ex k2
    obtain ⟨y3, rfl⟩ := kd_n e3
    obtain ⟨p4, r4, rfl, e4, k4⟩ := map_cons_ex k3
    obtain ⟨y4, rfl⟩ := kd_t e4
    obtain ⟨p5, r5, rfl, e5, k5⟩ := map_cons_ex k4
    obtain ⟨y5, rfl⟩ := kd_t e5
    obtain ⟨p6, r6, rfl, e6, k6⟩ := map_cons_ex k5
    obtain ⟨y6, rfl⟩ := kd_i e6
    obtain ⟨p7, r7, rfl, e7, k7⟩ := map_cons_ex k6
    obtain ⟨y7, rfl⟩ := kd_b e7
    obtain ⟨p8, r8, rfl, e8, k8⟩ := map_cons_ex k7
    obtain ⟨y8, rfl⟩ := kd_x e8
    obtain rfl := map_nil_ex k8
    obtain ⟨cs, rfl, hp⟩ := hv
    obtain ⟨a1, b1, rfl, g1, hp⟩ := hp
    obtain rfl := g1
    obtain ⟨a2, b2, rfl, g2, hp⟩ := hp
    obtain rfl := g2
    obtain ⟨a3, b3, rfl, g3, hp⟩ := hp
    obtain rfl := g3
    obtain ⟨a4, b4, rfl, g4, hp⟩ := hp
    obtain rfl := g4
    obtain ⟨a5, b5, rfl, g5, hp⟩ := hp
    obtain rfl := g5
    obtain ⟨a6, b6, rfl, g6, hp⟩ := hp
    obtain ⟨v6, rfl, hb6, ho6⟩ := g6
    obtain ⟨a7, b7, rfl, g7, hp⟩ := hp
    obtain ⟨v7, rfl, hb7, ho7⟩ := g7
    obtain ⟨a8, b8, rfl, g8, hp⟩ := hp
    obtain ⟨v8, rfl, hb8⟩ := g8
    obtain rfl : _ = [] := hp
    exact msgValue_13 F y1 y2 y3 y4 y5 y6.1 y6.2 v6 y7 v7 y8 v8 w (show PtOk (.s y1) from hok _ (by simp)) (show PtOk (.n y2) from hok _ (by simp)) (show PtOk (.n y3) from hok _ (by simp)) hb6 (show PtOk (.i y6) from hok _ (by simp)) hb7 (show PtOk (.b y7) from hok _ (by simp)) hb8 (show PtOk (.x y8) from hok _ (by simp))
  · have k0 : pts.map kdOf = [.s, .i, .b] := hk
    clear hk
    obtain ⟨p1, r1, rfl, e1, k1⟩ := map_cons_ex k0
    obtain ⟨y1, rfl⟩ := kd_s e1
    obtain ⟨p2, r2, rfl, e2, k2⟩ := map_cons_ex k1
    obtain ⟨y2, rfl⟩ := kd_i e2
    obtain ⟨p3, r3, rfl, e3, k3⟩ := map_cons_ex k2
    obtain ⟨y3, rfl⟩ := kd_b e3
    obtain rfl := map_nil_ex k3
    obtain ⟨cs, rfl, hp⟩ := hv
    obtain ⟨a1, b1, rfl, g1, hp⟩ := hp
    obtain rfl := g1
    obtain ⟨a2, b2, rfl, g2, hp⟩ := hp
    obtain ⟨v2, rfl, hb2, ho2⟩ := g2
    obtain ⟨a3, b3, rfl, g3, hp⟩ := hp
    obtain ⟨v3, rfl, hb3, ho3⟩ := g3
    obtain rfl : _ = [] := hp
    exact msgValue_14 F y1 y2.1 y2.2 v2 y3 v3 w (show PtOk (.s y1) from hok _ (by simp)) hb2 (show PtOk (.i y2) from hok _ (by simp)) hb3 (show PtOk (.b y3) from hok _ (by simp))
  · have k0 : pts.map kdOf = [.s, .s, .n] := hk
    clear hk
    obtain ⟨p1, r1, rfl, e1, k1⟩ := map_cons_ex k0
    obtain ⟨y1, rfl⟩ := kd_s e1
    obtain ⟨p2, r2, rfl, e2, k2⟩ := map_cons_ex k1
    obtain ⟨y2, rfl⟩ := kd_s e2
    obtain ⟨p3, r3, rfl, e3, k3⟩ := map_cons_ex k2
    obtain ⟨y3, rfl⟩ := kd_n e3
    obtain rfl := map_nil_ex k3
    obtain ⟨cs, rfl, hp⟩ := hv
    obtain ⟨a1, b1, rfl, g1, hp⟩ := hp
    obtain rfl := g1
    obtain ⟨a2, b2, rfl, g2, hp⟩ := hp
    obtain rfl := g2
    obtain ⟨a3, b3, rfl, g3, hp⟩ := hp
    obtain rfl := g3
    obtain rfl : _ = [] := hp
    exact msgValue_15 F y1 y2 y3 w (show PtOk (.s y1) from hok _ (by simp)) (show PtOk (.s y2) from hok _ (by simp)) (show PtOk (.n y3) from hok _ (by simp))
  · have k0 : pts.map kdOf = [.s, .s, .n, .i] := hk
    clear hk
    obtain ⟨p1, r1, rfl, e1, k1⟩ := map_cons_ex k0
    obtain ⟨y1, rfl⟩ := kd_s e1
    obtain ⟨p2, r2, rfl, e2, k2⟩ := map_cons_ex k1
    obtain ⟨y2, rfl⟩ := kd_s e2
    obtain ⟨p3, r3, rfl, e3, k3⟩ := map_cons_ex k2
    obtain ⟨y3, rfl⟩ := kd_n e3
    obtain ⟨p4, r4, rfl, e4, k4⟩ := map_cons_ex k3
    obtain ⟨y4, rfl⟩ := kd_i e4
    obtain rfl := map_nil_ex k4
    obtain ⟨cs, rfl, hp⟩ := hv
    obtain ⟨a1, b1, rfl, g1, hp⟩ := hp
    obtain rfl := g1
    obtain ⟨a2, b2, rfl, g2, hp⟩ := hp
    obtain rfl := g2
    obtain ⟨a3, b3, rfl, g3, hp⟩ := hp
    obtain rfl := g3
    obtain ⟨a4, b4, rfl, g4, hp⟩ := hp
    obtain ⟨v4, rfl, hb4, ho4⟩ := g4
    obtain rfl : _ = [] := hp
    exact msgValue_16 F y1 y2 y3 y4.1 y4.2 v4 w (show PtOk (.s y1) from hok _ (by simp)) (show PtOk (.s y2) from hok _ (by simp)) (show PtOk (.n y3) from hok _ (by simp)) hb4 (show PtOk (.i y4) from hok _ (by simp))
  · have k0 : pts.map kdOf = [.s, .s, .n, .i, .b] := hk
    clear hk
    obtain ⟨p1, r1, rfl, e1, k1⟩ := map_cons_ex k0
    obtain ⟨y1, rfl⟩ := kd_s e1
    obtain ⟨p2, r2, rfl, e2, k2⟩ := map_cons_ex k1
    obtain ⟨y2, rfl⟩ := kd_s e2
    obtain ⟨p3, r3, rfl, e3, k3⟩ := map_cons_ex k2
    obtain ⟨y3, rfl⟩ := kd_n e3
    obtain ⟨p4, r4, rfl, e4, k4⟩ := map_cons_ex k3
    obtain ⟨y4, rfl⟩ := kd_i e4
    obtain ⟨p5, r5, rfl, e5, k5⟩ := map_cons_ex k4
    obtain ⟨y5, rfl⟩ := kd_b e5
    obtain rfl := map_nil_ex k5
    obtain ⟨cs, rfl, hp⟩ := hv
    obtain ⟨a1, b1, rfl, g1, hp⟩ := hp
    obtain rfl := g1
    obtain ⟨a2, b2, rfl, g2, hp⟩ := hp
    obtain rfl := g2
    obtain ⟨a3, b3, rfl, g3, hp⟩ := hp
    obtain rfl := g3
    obtain ⟨a4, b4, rfl, g4, hp⟩ := hp
    obtain ⟨v4, rfl, hb4, ho4⟩ := g4
    obtain ⟨a5, b5, rfl, g5, hp⟩ := hp
    obtain ⟨v5, rfl, hb5, ho5⟩ := g5
    obtain rfl : _ = [] := hp
    exact msgValue_17 F y1 y2 y3 y4.1 y4.2 v4 y5 v5 w (show PtOk (.s y1) from hok _ (by simp)) (show PtOk (.s y2) from hok _ (by simp)) (show PtOk (.n y3) from hok _ (by simp)) hb4 (show PtOk (.i y4) from hok _ (by simp)) hb5 (show PtOk (.b y5) from hok _ (by simp))
  · have k0 : pts.map kdOf = [.s, .s, .n, .b] := hk
    clear hk
    obtain ⟨p1, r1, rfl, e1, k1⟩ := map_cons_ex k0
    obtain ⟨y1, rfl⟩ := kd_s e1
    obtain ⟨p2, r2, rfl, e2, k2⟩ := map_cons_ex k1
    obtain ⟨y2, rfl⟩ := kd_s e2
    obtain ⟨p3, r3, rfl, e3, k3⟩ := map_cons_ex k2
    obtain ⟨y3, rfl⟩ := kd_n e3
    obtain ⟨p4, r4, rfl, e4, k4⟩ := map_cons_ex k3
    obtain ⟨y4, rfl⟩ := kd_b e4
    obtain rfl := map_nil_ex k4
    obtain ⟨cs, rfl, hp⟩ := hv
    obtain ⟨a1, b1, rfl, g1, hp⟩ := hp
    obtain rfl := g1
    obtain ⟨a2, b2, rfl, g2, hp⟩ := hp
    obtain rfl := g2
    obtain ⟨a3, b3, rfl, g3, hp⟩ := hp
    obtain rfl := g3
    obtain ⟨a4, b4, rfl, g4, hp⟩ := hp
    obtain ⟨v4, rfl, hb4, ho4⟩ := g4
    obtain rfl : _ = [] := hp
    exact msgValue_18 F y1 y2 y3 y4 v4 w (show PtOk (.s y1) from hok _ (by simp)) (show PtOk (.s y2) from hok _ (by simp)) (show PtOk (.n y3) from hok _ (by simp)) hb4 (show PtOk (.b y4) from hok _ (by simp))
  · have k0 : pts.map kdOf = [.s, .s, .n, .n, .n, .b] := hk
    clear hk
    obtain ⟨p1, r1, rfl, e1, k1⟩ := map_cons_ex k0
    obtain ⟨y1, rfl⟩ := kd_s e1
    obtain ⟨p2, r2, rfl, e2, k2⟩ := map_cons_ex k1
    obtain ⟨y2, rfl⟩ := kd_s e2
    obtain ⟨p3, r3, rfl, e3, k3⟩ := map_cons_ex k2
    obtain ⟨y3, rfl⟩ := kd_n e3
    obtain ⟨p4, r4, rfl, e4, k4⟩ := map_cons_ex k3
    obtain ⟨y4, rfl⟩ := kd_n e4
    obtain ⟨p5, r5, rfl, e5, k5⟩ := map_cons_ex k4
    obtain ⟨y5, rfl⟩ := kd_n e5
    obtain ⟨p6, r6, rfl, e6, k6⟩ := map_cons_ex k5
    obtain ⟨y6, rfl⟩ := kd_b e6
    obtain rfl := map_nil_ex k6
    obtain ⟨cs, rfl, hp⟩ := hv
    obtain ⟨a1, b1, rfl, g1, hp⟩ := hp
    obtain rfl := g1
    obtain ⟨a2, b2, rfl, g2, hp⟩ := hp
    obtain rfl := g2
    obtain ⟨a3, b3, rfl, g3, hp⟩ := hp
    obtain rfl := g3
    obtain ⟨a4, b4, rfl, g4, hp⟩ := hp
    obtain rfl := g4
    obtain ⟨a5, b5, rfl, g5, hp⟩ := hp
    obtain rfl := g5
    obtain ⟨a6, b6, rfl, g6, hp⟩ := hp
    obtain ⟨v6, rfl, hb6, ho6⟩ := g6
    obtain rfl : _ = [] := hp
    exact msgValue_19 F y1 y2 y3 y4 y5 y6 v6 w (show PtOk (.s y1) from hok _ (by simp)) (show PtOk (.s y2) from hok _ (by simp)) (show PtOk (.n y3) from hok _ (by simp)) (show PtOk (.n y4) from hok _ (by simp)) (show PtOk (.n y5) from hok _ (by simp)) hb6 (show PtOk (.b y6) from hok _ (by simp))
  · have k0 : pts.map kdOf = [.s, .n, .n, .t, .i, .b] := hk
    clear hk
    obtain ⟨p1, r1, rfl, e1, k1⟩ := map_cons_ex k0
    obtain ⟨y1, rfl⟩ := kd_s e1
    obtain ⟨p2, r2, rfl, e2, k2⟩ := map_cons_ex k1
    obtain ⟨y2, rfl⟩ := kd_n e2
    obtain ⟨p3, r3, rfl, e3, k3⟩ := map_cons_ex k2
    obtain ⟨y3, rfl⟩ := kd_n e3
    obtain ⟨p4, r4, rfl, e4, k4⟩ := map_cons_ex k3
    obtain ⟨y4, rfl⟩ := kd_t e4
    obtain ⟨p5, r5, rfl, e5, k5⟩ := map_cons_ex k4
    obtain ⟨y5, rfl⟩ := kd_i e5
    obtain ⟨p6, r6, rfl, e6, k6⟩ := map_cons_ex k5
    obtain ⟨y6, rfl⟩ := kd_b e6
    obtain rfl := map_nil_ex k6
    obtain ⟨cs, rfl, hp⟩ := hv
    obtain ⟨a1, b1, rfl, g1, hp⟩ := hp
    obtain rfl := g1
    obtain ⟨a2, b2, rfl, g2, hp⟩ := hp
    obtain rfl := g2
    obtain ⟨a3, b3, rfl, g3, hp⟩ := hp
    obtain rfl := g3
    obtain ⟨a4, b4, rfl, g4, hp⟩ := hp
    obtain rfl := g4
    obtain ⟨a5, b5, rfl, g5, hp⟩ := hp
    obtain ⟨v5, rfl, hb5, ho5⟩ := g5
    obtain ⟨a6, b6, rfl, g6, hp⟩ := hp
    obtain ⟨v6, rfl, hb6, ho6⟩ := g6
    obtain rfl : _ = [] := hp
    exact msgValue_20 F y1 y2 y3 y4 y5.1 y5.2 v5 y6 v6 w (show PtOk (.s y1) from hok _ (by simp)) (show PtOk (.n y2) from hok _ (by simp)) (show PtOk (.n y3) from hok _ (by simp)) hb5 (show PtOk (.i y5) from hok _ (by simp)) hb6 (show PtOk (.b y6) from hok _ (by simp))
  · have k0 : pts.map kdOf = [.s, .b] := hk
    clear hk
    obtain ⟨p1, r1, rfl, e1, k1⟩ := map_cons_ex k0
    obtain ⟨y1, rfl⟩ := kd_s e1
    obtain ⟨p2, r2, rfl, e2, k2⟩ := map_cons_ex k1
    obtain ⟨y2, rfl⟩ := kd_b e2
    obtain rfl := map_nil_ex k2
    obtain ⟨cs, rfl, hp⟩ := hv
    obtain ⟨a1, b1, rfl, g1, hp⟩ := hp
    obtain rfl := g1
    obtain ⟨a2, b2, rfl, g2, hp⟩ := hp
    obtain ⟨v2, rfl, hb2, ho2⟩ := g2
    obtain rfl : _ = [] := hp
    exact msgValue_21 F y1 y2 v2 w (show PtOk (.s y1) from hok _ (by simp)) hb2 (show PtOk (.b y2) from hok _ (by simp))
  · have k0 : pts.map kdOf = [.s, .n, .n] := hk
    clear hk
    obtain ⟨p1, r1, rfl, e1, k1⟩ := map_cons_ex k0
    obtain ⟨y1, rfl⟩ := kd_s e1
    obtain ⟨p2, r2, rfl, e2, k2⟩ := map_cons_ex k1
    obtain ⟨y2, rfl⟩ := kd_n e2
    obtain ⟨p3, r3, rfl, e3, k3⟩ := map_cons_ex k2
    obtain ⟨y3, rfl⟩ := kd_n e3
    obtain rfl := map_nil_ex k3
    obtain ⟨cs, rfl, hp⟩ := hv
    obtain ⟨a1, b1, rfl, g1, hp⟩ := hp
    obtain rfl := g1
    obtain ⟨a2, b2, rfl, g2, hp⟩ := hp
    obtain rfl := g2
    obtain ⟨a3, b3, rfl, g3, hp⟩ := hp
    obtain rfl := g3
    obtain rfl : _ = [] := hp
    exact msgValue_22 F y1 y2 y3 w (show PtOk (.s y1) from hok _ (by simp)) (show PtOk (.n y2) from hok _ (by simp)) (show PtOk (.n y3) from hok _ (by simp))
/-- Not a message of any type. -/
def NoMsg (v : Value) : Prop := NotT 54 v ∧ NotT 56 v ∧ NotT 59 v ∧ NotT 60 v ∧ NotT 62 v ∧ NotT 64 v ∧ NotT 66 v ∧ NotT 68 v ∧ NotT 70 v ∧ NotT 72 v ∧ NotT 74 v ∧ NotT 76 v
end Go.Proofs.Ytpjkidcfidmfaaa
