/- Texts of this proof, one behind the other: MValB. -/
import Derived.Test.YtpjkidcfidmfaaaMgA8
import Derived.Deep.DeepCutAuto
/- msg.Value, some of its ways. Printed by tools/genmvalue.py. -/
namespace Go.Proofs.Ytpjkidcfidmfaaa
set_option linter.unusedSimpArgs false
set_option linter.unusedVariables false
open Go.RowKit
set_option maxHeartbeats 16000000 in
set_option maxRecDepth 100000 in
theorem msgValue_12 (F0 : Nat → Prop) (l1 : List UInt8) (l2 m2 : List UInt8) (v2 : Value) (l3 : List UInt8) (v3 : Value) (w : World) (hz1 : l1.length ≤ 1099511627776) (hb2 : Bs w v2 m2) (hz2 : l2.length ≤ 1099511627776 ∧ m2.length ≤ 1099511627776) (hb3 : Bs w v3 l3) (hz3 : l3.length ≤ 1099511627776) :
    Calls Try.prog 10 #[.iface 56 (.agg #[.string (tx l1), .string (tx l2), v2, v3])] w (VlRes w (.mk 2 12 0 [] ([.s l1, .i (l2, m2), .b l3].map ptTv)) ([.s l1, .i (l2, m2), .b l3].all ptB)) := by
  obtain ⟨a2, c2, rfl, hc2, hm2⟩ := hb2.form
  obtain ⟨a3, c3, rfl, hc3, hm3⟩ := hb3.form
  have HC : Hid (VC w w.heap.size [(w.heap.size + 1, [.string (tx l1), .string (tx l2), .slice a2 m2.length c2, .slice a3 l3.length c3], 56)] [] [(.slice a2 m2.length c2, m2), (.slice a3 l3.length c3, l3)] ((w.alloc (.cells zs5.toArray 38)).alloc (.cells [.string (tx l1), .string (tx l2), .slice a2 m2.length c2, .slice a3 l3.length c3].toArray 56))) := Lib.hid (VC.start (by intro r hr; simp only [List.mem_cons, List.not_mem_nil, or_false] at hr; rcases hr with rfl | rfl; exact hb2; exact hb3) _ _)
  have HSZ : Hid (∀ u ∈ [tx l1], u.size ≤ maxLen) := Lib.hid (by intro u hu; simp only [List.mem_cons, List.not_mem_nil, or_false] at hu; rcases hu with rfl; exact szTx hz1)
  have HZ1 := Lib.hid hz1
  clear hz1
  have HZ2 := Lib.hid hz2
  clear hz2
  have HZ3 := Lib.hid hz3
  clear hz3
  clear hb2
  clear hb3
  obtain ⟨z11, hta11⟩ := tan 54 56 (.agg #[.string (tx l1), .string (tx l2), .slice a2 m2.length c2, .slice a3 l3.length c3]) zero_11 (by kernel_rfl) (by decide)
  have hta : ∀ W, (Instr.typeAssert (.iface 56 (.agg #[.string (tx l1), .string (tx l2), .slice a2 m2.length c2, .slice a3 l3.length c3])) 20 56 true).run Try.prog W = .ok (.tuple #[.agg #[.string (tx l1), .string (tx l2), .slice a2 m2.length c2, .slice a3 l3.length c3], .bool true]) W := fun W => ta_is _ _ _ (by kernel_rfl) W
  obtain ⟨B, hB⟩ : ∃ B, B = [.s l1, .i (l2, m2), .b l3].all ptB := ⟨_, rfl⟩
  obtain ⟨X, hX⟩ : ∃ X : Tv, X = .mk 2 12 0 [] ([.s l1, .i (l2, m2), .b l3].map ptTv) := ⟨_, rfl⟩
  rw [← hB, ← hX]
  have HB := Lib.hid hB
  have HX2 := Lib.hid hX
  clear hB hX
  go_enter Try.func10, Try.ntmps10
  go_upto_region 7 with fail
  clear hta hta11
  show Code.wp _ _ _ _ ((w.alloc (.cells zs5.toArray 38)).alloc (.cells [.string (tx l1), .string (tx l2), .slice a2 m2.length c2, .slice a3 l3.length c3].toArray 56))
  obtain ⟨W0, hW0⟩ : ∃ W0, W0 = (w.alloc (.cells zs5.toArray 38)).alloc (.cells [.string (tx l1), .string (tx l2), .slice a2 m2.length c2, .slice a3 l3.length c3].toArray 56) := ⟨_, rfl⟩
  rw [← hW0] at HC ⊢
  clear hW0
  obtain ⟨p, hp⟩ : ∃ p, p = w.heap.size + 1 := ⟨_, rfl⟩
  obtain ⟨q, hq⟩ : ∃ q, q = w.heap.size := ⟨_, rfl⟩
  rw [← hp, ← hq] at HC ⊢
  clear hp hq
  have HTV1 := Lib.hid (tickValue_any (l2, m2) (.slice a2 m2.length c2) W0 (HC.out.rowAt 0 rfl) HZ2.out.1 HZ2.out.2)
  have HM1 := Lib.hid (HC.out.blkAt 0 rfl)
  rw [show rightB (tx (l2, m2).1) = rT (l2, m2) from rfl] at HTV1
  go_wp2_with ((with_reducible show wpList _ _ _ (⟨some 62, _, _, _, _, _⟩ :: _) _ _); refine wpList_ldAgg rfl (.tmp 61) aggTicket rfl rfl (cs := [.string (tx l2), .slice a2 m2.length c2]) rfl (HM1.out.cellsAt 1 2) ?_)
  refine HTV1.out.mono ?_
  rintro e wa1 ⟨cs1, rfl, htv, hb⟩
  have HCa1 := Lib.hid (HC.out.step hb)
  have HTT1 : Hid (TvF wa1 (fun b => q < b) (tkTv (l2, m2)) cs1) := Lib.hid (htv.mono (fun b hb => by have := HC.out.lt; omega))
  have HCL1 := Lib.hid htv.length
  have HCO1 := Lib.hid htv.one
  have HN1 := Lib.hid (Blk.new wa1 zs5 38)
  clear htv hb HTV1
  go_upto_region 8 with ((with_reducible show wpList _ _ _ (⟨none, .store _ (.tmp 6) (.tmp 65), _, _, _, _⟩ :: _) _ _); refine wpList_stAgg rfl (.tmp 6) (.tmp 65) aggDer rfl rfl (vs := cs1) rfl HCL1.out HN1.out (Nat.le_refl _) HCO1.out ?_)
  intro wb1 h2 k2
  have h2' : Blk wb1 wa1.heap.size cs1 38 := by
    rw [List.drop_of_length_le (by decide), List.append_nil] at h2
    exact h2
  have hb2 : Below wa1.heap.size wa1 wb1 := ((Below.refl _ _).alloc (Nat.le_refl _) _).trans (k2.below (by omega))
  have HCb1 := Lib.hid (((HCa1.out.addTree HTT1.out).step hb2).addBlk h2' HCa1.out.lt)
  obtain ⟨p1, hp1⟩ : ∃ p1, p1 = wa1.heap.size := ⟨_, rfl⟩
  rw [← hp1] at HCb1 ⊢
  clear h2 k2 h2' hb2 hp1 HCa1 HTT1 HN1 HCO1
  go_upto_region 8 with fail
  cases hok7 : rT (l2, m2) with
  | false =>
    have HOK7 := Lib.hid hok7
    clear hok7
    have HBE : Hid (B = false) := Lib.hid (by rw [HB.out]; simp only [List.all_cons, List.all_nil, ptB, HOK7.out, Bool.and_true, Bool.true_and, Bool.and_false, Bool.false_and, Bool.and_assoc])
    obtain ⟨wd, hwd⟩ : ∃ wd, wd = World.drew wb1 := ⟨_, rfl⟩
    have hvd : VC w q [(p, [.string (tx l1), .string (tx l2), .slice a2 m2.length c2, .slice a3 l3.length c3], 56), (p1, cs1, 38)] [(tkTv (l2, m2), cs1)] [(.slice a2 m2.length c2, m2), (.slice a3 l3.length c3, l3)] wd := by rw [hwd]; exact HCb1.out.drew
    have HXE : Hid (X = .mk 2 12 0 [] [.mk 1 0 0 l1 [], tkTv (l2, m2), .mk 1 0 0 l3 []]) := Lib.hid HX2.out
    have HR : Hid (∀ W, GV (fun b => q < b) q X wd W → VR w q [(p, [.string (tx l1), .string (tx l2), .slice a2 m2.length c2, .slice a3 l3.length c3], 56), (p1, cs1, 38)] [(tkTv (l2, m2), cs1)] [(.slice a2 m2.length c2, m2), (.slice a3 l3.length c3, l3)] W) := Lib.hid (fun W h => hvd.gv h)
    have HZD : Hid (∀ W, GV (fun b => q < b) q X wd W → q < W.heap.size ∧ ∀ b, W.heap.size ≤ b → q < b) := Lib.hid (fun W h => ⟨(HR.out W h).lt, fun b hb => Nat.lt_of_lt_of_le (HR.out W h).lt hb⟩)
    have HFq : Hid (¬ (fun b => q < b) q) := Lib.hid (Nat.lt_irrefl q)
    have HQW : Hid (w.heap.size = q) := Lib.hid hvd.hq.symm
    clear hvd HCb1
    refine wp_region_held (S := fun W => GV (fun b => q < b) q X wd W) (by kernel_rfl) ?_
    change wpAnyH _ _ _ _ _ _ _ _ (World.drew _)
    rw [← hwd]
    clear hwd
    refine tkH 0 67 none (.pointer (some ⟨p, 0, none⟩)) rfl (by kernel_rfl) (fun _ _ _ h => h) (by rfl) (by intro W hW; go_simp) (GV.refl _ _ _ _) ?_
    simp only [Act.put, q1, q2, q3]
    refine tkH 1 68 none (.string (tx l1)) rfl (by kernel_rfl) (fun _ _ _ h => h) (by rfl) (by intro W hW; have hc : W.cell? ⟨p, 0, none⟩ = some (.string (tx l1)) := ((HR.out W hW).blkAt 0 rfl).cell 0; go_simp) (GV.refl _ _ _ _) ?_
    simp only [Act.put, q1, q2, q3]
    refine tkH 3 70 none (.agg cs1.toArray) rfl (by kernel_rfl) (fun _ _ _ h => h) (by rfl) (by intro W hW; exact exec_ldAgg rfl aggDer rfl HCL1.out ((HR.out W hW).blkAt 1 rfl).cellsAll) (GV.refl _ _ _ _) ?_
    simp only [Act.put, q1, q2, q3]
    refine tkH 4 71 none (.pointer (some ⟨p, 3, none⟩)) rfl (by kernel_rfl) (fun _ _ _ h => h) (by rfl) (by intro W hW; go_simp) (GV.refl _ _ _ _) ?_
    simp only [Act.put, q1, q2, q3]
    refine tkH 5 72 none (.slice a3 l3.length c3) rfl (by kernel_rfl) (fun _ _ _ h => h) (by rfl) (by intro W hW; have hc : W.cell? ⟨p, 3, none⟩ = some (.slice a3 l3.length c3) := ((HR.out W hW).blkAt 0 rfl).cell 3; go_simp) (GV.refl _ _ _ _) ?_
    simp only [Act.put, q1, q2, q3]
    refine tkH 9 76 none (.bool false) rfl (by kernel_rfl) (fun _ _ _ h => h) (by rfl) (by intro W hW; go_simp) (GV.refl _ _ _ _) ?_
    simp only [Act.put, q1, q2, q3]
    refine anyH_steps (G := GV (fun b => q < b) q X) (Post := postV (fun b => q < b) q X [.any, .any, .val (.mk 1 0 0 l1 []), .any, .any, .any, .val (.mk 1 0 0 l3 []), .vals [.mk 1 0 0 l1 [], tkTv (l2, m2), .mk 1 0 0 l3 []], .val (.mk 2 12 0 [] [.mk 1 0 0 l1 [], tkTv (l2, m2), .mk 1 0 0 l3 []]), .any, .is (.bool false), .any, .any, .any, .any, .is (.bool false), .fin, .is (.bool false)]) (ds := [69, 73, 74, 75, 77, 78, 79, 80, 81, 82, 3]) (GV.refl _ _ _) GV.trans (fun W W' h g => GV.trans _ _ _ h g) (fun i v W W' h g => PK.stable HFq.out h g) [2, 6, 7, 8, 10, 11, 12, 13, 14, 15, 16, 17] 397 rfl (by decide +kernel) (by decide +kernel) ?_ ?_ (GV.refl _ _ _ _) (by decide +kernel)
    · refine AllSteps.cons (o := { dst := some 69, op := .call { callee := .value (.func 26), args := #[.tmp 68], argTypes := #[9] }, type := _, pos := _, after := _, guard := none }) rfl (fun a W hf hS hd K hK => ?_) ?_
      · have e68 : a.eval (.tmp 68) = .string (tx l1) := hf.lit 68 (by decide) rfl
        exact stepV_mk (wanted_none rfl) rfl enters_mtext (vs := #[.string (tx l1)]) (by simp [e68]) (mtext_any l1 W HZ1.out) (HZD.out W hS).1 (HZD.out W hS).2 hK
      refine AllSteps.cons (o := { dst := some 73, op := .call { callee := .value (.func 28), args := #[.tmp 72], argTypes := #[22] }, type := _, pos := _, after := _, guard := none }) rfl (fun a W hf hS hd K hK => ?_) ?_
      · have e72 : a.eval (.tmp 72) = .slice a3 l3.length c3 := hf.lit 72 (by decide) rfl
        exact stepV_mk (wanted_none rfl) rfl enters_raw (vs := #[.slice a3 l3.length c3]) (by simp [e72]) (rawNew_any _ l3 W ((HR.out W hS).rowAt 1 rfl) HZ3.out) (HZD.out W hS).1 (HZD.out W hS).2 hK
      refine AllSteps.cons (o := { dst := some 74, op := .buildSlice 36 3 #[(0, .tmp 69), (1, .tmp 70), (2, .tmp 73)], type := _, pos := _, after := _, guard := none }) rfl (fun a W hf hS hd K hK => ?_) ?_
      · have d69 := (hd 2 (by decide +kernel)).get (s := 69) rfl
        have e70 : a.eval (.tmp 70) = .agg cs1.toArray := hf.lit 70 (by decide) rfl
        have d73 := (hd 6 (by decide +kernel)).get (s := 73) rfl
        exact stepV_vals (wanted_none rfl) rfl elDer (ps := [.tmp 69, .tmp 70, .tmp 73]) rfl (l := [.mk 1 0 0 l1 [], tkTv (l2, m2), .mk 1 0 0 l3 []]) ⟨d69, ⟨_, e70, (HR.out W hS).treeAt 0 rfl⟩, d73, trivial⟩ rfl (by decide) (by decide) (HZD.out W hS).1 (HZD.out W hS).2 hK
      refine AllSteps.cons (o := { dst := some 75, op := .call { callee := .value (.func 25), args := #[.const (.int .i64 12), .tmp 74], argTypes := #[3, 36] }, type := _, pos := _, after := _, guard := none }) rfl (fun a W hf hS hd K hK => ?_) ?_
      · have d74 := (hd 7 (by decide +kernel)).get (s := 74) rfl
        exact stepV_seq (wanted_none rfl) rfl enters_seq d74 (HZD.out W hS).1 (fun v w1 h1 h2 => hK v w1 h1 h2) HFq.out
      refine AllSteps.cons (o := { dst := some 77, op := .move (.tmp 76), type := _, pos := _, after := _, guard := none }) rfl (fun a W hf hS hd K hK => ?_) ?_
      · have e76 : a.eval (.tmp 76) = .bool false := hf.lit 76 (by decide) rfl
        exact step_val (v := .bool false) (wanted_none rfl) (exec_move rfl e76) (hK _ _ (GV.refl _ _ _ _) rfl)
      refine AllSteps.cons (o := { dst := some 78, op := .fieldAddr 56 (.tmp 5) 0, type := _, pos := _, after := _, guard := some (10, true) }) rfl (fun a W hf hS hd K hK => ?_) ?_
      · have e77 : a.eval (.tmp 77) = .bool false := (hd 10 (by decide +kernel)).get (s := 77) rfl
        exact step_skip (wanted_no rfl rfl e77 rfl) (hK _ _ (GV.refl _ _ _ _) trivial)
      refine AllSteps.cons (o := { dst := some 79, op := .load 9 (.tmp 78), type := _, pos := _, after := _, guard := some (10, true) }) rfl (fun a W hf hS hd K hK => ?_) ?_
      · have e77 : a.eval (.tmp 77) = .bool false := (hd 10 (by decide +kernel)).get (s := 77) rfl
        exact step_skip (wanted_no rfl rfl e77 rfl) (hK _ _ (GV.refl _ _ _ _) trivial)
      refine AllSteps.cons (o := { dst := some 80, op := .buildSlice 93 1 #[(0, .tmp 79)], type := _, pos := _, after := _, guard := some (10, true) }) rfl (fun a W hf hS hd K hK => ?_) ?_
      · have e77 : a.eval (.tmp 77) = .bool false := (hd 10 (by decide +kernel)).get (s := 77) rfl
        exact step_skip (wanted_no rfl rfl e77 rfl) (hK _ _ (GV.refl _ _ _ _) trivial)
      refine AllSteps.cons (o := { dst := some 81, op := .call { callee := .value (.func 29), args := #[.tmp 80, .const (.slice none 0 0)], argTypes := #[93, 116] }, type := _, pos := _, after := _, guard := some (10, true) }) rfl (fun a W hf hS hd K hK => ?_) ?_
      · have e77 : a.eval (.tmp 77) = .bool false := (hd 10 (by decide +kernel)).get (s := 77) rfl
        exact step_skip (wanted_no rfl rfl e77 rfl) (hK _ _ (GV.refl _ _ _ _) trivial)
      refine AllSteps.cons (o := { dst := some 82, op := .pick (.tmp 77) (.tmp 81) (.const (.bool false)), type := _, pos := _, after := _, guard := none }) rfl (fun a W hf hS hd K hK => ?_) ?_
      · have e77 : a.eval (.tmp 77) = .bool false := (hd 10 (by decide +kernel)).get (s := 77) rfl
        exact step_val (v := .bool false) (wanted_none rfl) (exec_pickF rfl e77 rfl) (hK _ _ (GV.refl _ _ _ _) rfl)
      refine AllSteps.cons (o := { dst := none, op := .store 38 (.tmp 2) (.tmp 75), type := _, pos := _, after := _, guard := none }) rfl (fun a W hf hS hd K hK => ?_) ?_
      · have e2 : a.eval (.tmp 2) = .pointer (some ⟨q, 0, none⟩) := hf.lit 2 (by decide) rfl
        have d75 := (hd 8 (by decide +kernel)).get (s := 75) rfl
        obtain ⟨cur, hc1, hc2⟩ := (HR.out W hS).len
        rw [← HXE.out] at d75
        exact stepV_fin (wanted_none rfl) rfl e2 d75 hc1 hc2 HFq.out hK
      refine AllSteps.cons (o := { dst := some 3, op := .assign (.tmp 82), type := _, pos := _, after := _, guard := none }) rfl (fun a W hf hS hd K hK => ?_) ?_
      · have e82 : a.eval (.tmp 82) = .bool false := (hd 15 (by decide +kernel)).get (s := 82) rfl
        exact step_val (wanted_none rfl) (exec_asg rfl rfl) (hK _ _ (GV.refl _ _ _ _) e82)
      exact AllSteps.nil
    · intro a W hf hS hp
      have h3 := (hp 17 (by decide)).get (s := 3) rfl
      obtain ⟨v, cs, h5, h6⟩ := (hp 16 (by decide)).fin
      have e2 : a.eval (.tmp 2) = .pointer (some ⟨q, 0, none⟩) := hf.lit 2 (by decide) rfl
      go_wp2_with fail
      refine bodyPost_ret (results_agg_tmp rfl aggDer (show a.tmps.getD 2 undef = _ from e2) h6.length h5.cellsAll) hf.defers ⟨cs, ?_, ?_, (HR.out W hS).below⟩
      · rw [HBE.out, show a.tmps.getD 3 undef = .bool false from h3]
      · exact h6.mono (fun b hb => by have := HQW.out; omega)
  | true =>
    have HOK7 := Lib.hid hok7
    clear hok7
    have HBE : Hid (B = ([tx l1].all rightB && [].all timeB)) := Lib.hid (by rw [HB.out]; simp only [List.all_cons, List.all_nil, ptB, HOK7.out, Bool.and_true, Bool.true_and, Bool.and_false, Bool.false_and, Bool.and_assoc]; first | done | ac_rfl)
    obtain ⟨wd, hwd⟩ : ∃ wd, wd = World.drew wb1 := ⟨_, rfl⟩
    have hvd : VC w q [(p, [.string (tx l1), .string (tx l2), .slice a2 m2.length c2, .slice a3 l3.length c3], 56), (p1, cs1, 38)] [(tkTv (l2, m2), cs1)] [(.slice a2 m2.length c2, m2), (.slice a3 l3.length c3, l3)] wd := by rw [hwd]; exact HCb1.out.drew
    have HXE : Hid (X = .mk 2 12 0 [] [.mk 1 0 0 l1 [], tkTv (l2, m2), .mk 1 0 0 l3 []]) := Lib.hid HX2.out
    have HR : Hid (∀ W, GV (fun b => q < b) q X wd W → VR w q [(p, [.string (tx l1), .string (tx l2), .slice a2 m2.length c2, .slice a3 l3.length c3], 56), (p1, cs1, 38)] [(tkTv (l2, m2), cs1)] [(.slice a2 m2.length c2, m2), (.slice a3 l3.length c3, l3)] W) := Lib.hid (fun W h => hvd.gv h)
    have HZD : Hid (∀ W, GV (fun b => q < b) q X wd W → q < W.heap.size ∧ ∀ b, W.heap.size ≤ b → q < b) := Lib.hid (fun W h => ⟨(HR.out W h).lt, fun b hb => Nat.lt_of_lt_of_le (HR.out W h).lt hb⟩)
    have HFq : Hid (¬ (fun b => q < b) q) := Lib.hid (Nat.lt_irrefl q)
    have HQW : Hid (w.heap.size = q) := Lib.hid hvd.hq.symm
    clear hvd HCb1
    refine wp_region_held (S := fun W => GV (fun b => q < b) q X wd W) (by kernel_rfl) ?_
    change wpAnyH _ _ _ _ _ _ _ _ (World.drew _)
    rw [← hwd]
    clear hwd
    refine tkH 0 67 none (.pointer (some ⟨p, 0, none⟩)) rfl (by kernel_rfl) (fun _ _ _ h => h) (by rfl) (by intro W hW; go_simp) (GV.refl _ _ _ _) ?_
    simp only [Act.put, q1, q2, q3]
    refine tkH 1 68 none (.string (tx l1)) rfl (by kernel_rfl) (fun _ _ _ h => h) (by rfl) (by intro W hW; have hc : W.cell? ⟨p, 0, none⟩ = some (.string (tx l1)) := ((HR.out W hW).blkAt 0 rfl).cell 0; go_simp) (GV.refl _ _ _ _) ?_
    simp only [Act.put, q1, q2, q3]
    refine tkH 3 70 none (.agg cs1.toArray) rfl (by kernel_rfl) (fun _ _ _ h => h) (by rfl) (by intro W hW; exact exec_ldAgg rfl aggDer rfl HCL1.out ((HR.out W hW).blkAt 1 rfl).cellsAll) (GV.refl _ _ _ _) ?_
    simp only [Act.put, q1, q2, q3]
    refine tkH 4 71 none (.pointer (some ⟨p, 3, none⟩)) rfl (by kernel_rfl) (fun _ _ _ h => h) (by rfl) (by intro W hW; go_simp) (GV.refl _ _ _ _) ?_
    simp only [Act.put, q1, q2, q3]
    refine tkH 5 72 none (.slice a3 l3.length c3) rfl (by kernel_rfl) (fun _ _ _ h => h) (by rfl) (by intro W hW; have hc : W.cell? ⟨p, 3, none⟩ = some (.slice a3 l3.length c3) := ((HR.out W hW).blkAt 0 rfl).cell 3; go_simp) (GV.refl _ _ _ _) ?_
    simp only [Act.put, q1, q2, q3]
    refine tkH 9 76 none (.bool true) rfl (by kernel_rfl) (fun _ _ _ h => h) (by rfl) (by intro W hW; go_simp) (GV.refl _ _ _ _) ?_
    simp only [Act.put, q1, q2, q3]
    refine anyH_steps (G := GV (fun b => q < b) q X) (Post := postV (fun b => q < b) q X [.any, .any, .val (.mk 1 0 0 l1 []), .any, .any, .any, .val (.mk 1 0 0 l3 []), .vals [.mk 1 0 0 l1 [], tkTv (l2, m2), .mk 1 0 0 l3 []], .val (.mk 2 12 0 [] [.mk 1 0 0 l1 [], tkTv (l2, m2), .mk 1 0 0 l3 []]), .any, .is (.bool true), .is (.pointer (some ⟨p, 0, none⟩)), .is (.string (tx l1)), .row [.string (tx l1)], .is (.bool ([tx l1].all rightB && [].all timeB)), .is (.bool ([tx l1].all rightB && [].all timeB)), .fin, .is (.bool ([tx l1].all rightB && [].all timeB))]) (ds := [69, 73, 74, 75, 77, 78, 79, 80, 81, 82, 3]) (GV.refl _ _ _) GV.trans (fun W W' h g => GV.trans _ _ _ h g) (fun i v W W' h g => PK.stable HFq.out h g) [2, 6, 7, 8, 10, 11, 12, 13, 14, 15, 16, 17] 397 rfl (by decide +kernel) (by decide +kernel) ?_ ?_ (GV.refl _ _ _ _) (by decide +kernel)
    · refine AllSteps.cons (o := { dst := some 69, op := .call { callee := .value (.func 26), args := #[.tmp 68], argTypes := #[9] }, type := _, pos := _, after := _, guard := none }) rfl (fun a W hf hS hd K hK => ?_) ?_
      · have e68 : a.eval (.tmp 68) = .string (tx l1) := hf.lit 68 (by decide) rfl
        exact stepV_mk (wanted_none rfl) rfl enters_mtext (vs := #[.string (tx l1)]) (by simp [e68]) (mtext_any l1 W HZ1.out) (HZD.out W hS).1 (HZD.out W hS).2 hK
      refine AllSteps.cons (o := { dst := some 73, op := .call { callee := .value (.func 28), args := #[.tmp 72], argTypes := #[22] }, type := _, pos := _, after := _, guard := none }) rfl (fun a W hf hS hd K hK => ?_) ?_
      · have e72 : a.eval (.tmp 72) = .slice a3 l3.length c3 := hf.lit 72 (by decide) rfl
        exact stepV_mk (wanted_none rfl) rfl enters_raw (vs := #[.slice a3 l3.length c3]) (by simp [e72]) (rawNew_any _ l3 W ((HR.out W hS).rowAt 1 rfl) HZ3.out) (HZD.out W hS).1 (HZD.out W hS).2 hK
      refine AllSteps.cons (o := { dst := some 74, op := .buildSlice 36 3 #[(0, .tmp 69), (1, .tmp 70), (2, .tmp 73)], type := _, pos := _, after := _, guard := none }) rfl (fun a W hf hS hd K hK => ?_) ?_
      · have d69 := (hd 2 (by decide +kernel)).get (s := 69) rfl
        have e70 : a.eval (.tmp 70) = .agg cs1.toArray := hf.lit 70 (by decide) rfl
        have d73 := (hd 6 (by decide +kernel)).get (s := 73) rfl
        exact stepV_vals (wanted_none rfl) rfl elDer (ps := [.tmp 69, .tmp 70, .tmp 73]) rfl (l := [.mk 1 0 0 l1 [], tkTv (l2, m2), .mk 1 0 0 l3 []]) ⟨d69, ⟨_, e70, (HR.out W hS).treeAt 0 rfl⟩, d73, trivial⟩ rfl (by decide) (by decide) (HZD.out W hS).1 (HZD.out W hS).2 hK
      refine AllSteps.cons (o := { dst := some 75, op := .call { callee := .value (.func 25), args := #[.const (.int .i64 12), .tmp 74], argTypes := #[3, 36] }, type := _, pos := _, after := _, guard := none }) rfl (fun a W hf hS hd K hK => ?_) ?_
      · have d74 := (hd 7 (by decide +kernel)).get (s := 74) rfl
        exact stepV_seq (wanted_none rfl) rfl enters_seq d74 (HZD.out W hS).1 (fun v w1 h1 h2 => hK v w1 h1 h2) HFq.out
      refine AllSteps.cons (o := { dst := some 77, op := .move (.tmp 76), type := _, pos := _, after := _, guard := none }) rfl (fun a W hf hS hd K hK => ?_) ?_
      · have e76 : a.eval (.tmp 76) = .bool true := hf.lit 76 (by decide) rfl
        exact step_val (v := .bool true) (wanted_none rfl) (exec_move rfl e76) (hK _ _ (GV.refl _ _ _ _) rfl)
      refine AllSteps.cons (o := { dst := some 78, op := .fieldAddr 56 (.tmp 5) 0, type := _, pos := _, after := _, guard := some (10, true) }) rfl (fun a W hf hS hd K hK => ?_) ?_
      · have e77 : a.eval (.tmp 77) = .bool true := (hd 10 (by decide +kernel)).get (s := 77) rfl
        have e5 : a.eval (.tmp 5) = .pointer (some ⟨p, 0, none⟩) := hf.lit 5 (by decide) rfl
        exact step_val (v := .pointer (some ⟨p, 0, none⟩)) (wanted_some rfl rfl e77) (exec_field rfl e5 (by go_simp)) (hK _ _ (GV.refl _ _ _ _) rfl)
      refine AllSteps.cons (o := { dst := some 79, op := .load 9 (.tmp 78), type := _, pos := _, after := _, guard := some (10, true) }) rfl (fun a W hf hS hd K hK => ?_) ?_
      · have e77 : a.eval (.tmp 77) = .bool true := (hd 10 (by decide +kernel)).get (s := 77) rfl
        have e78 : a.eval (.tmp 78) = .pointer (some ⟨p, 0, none⟩) := (hd 11 (by decide +kernel)).get (s := 78) rfl
        have hc : W.cell? ⟨p, 0, none⟩ = some (.string (tx l1)) := ((HR.out W hS).blkAt 0 rfl).cell 0
        exact step_val (v := .string (tx l1)) (wanted_some rfl rfl e77) (exec_load rfl e78 (by go_simp)) (hK _ _ (GV.refl _ _ _ _) rfl)
      refine AllSteps.cons (o := { dst := some 80, op := .buildSlice 93 1 #[(0, .tmp 79)], type := _, pos := _, after := _, guard := some (10, true) }) rfl (fun a W hf hS hd K hK => ?_) ?_
      · have e77 : a.eval (.tmp 77) = .bool true := (hd 10 (by decide +kernel)).get (s := 77) rfl
        have e79 : a.eval (.tmp 79) = .string (tx l1) := (hd 12 (by decide +kernel)).get (s := 79) rfl
        exact stepV_row (wanted_some rfl rfl e77) rfl elStr (ps := [.tmp 79]) rfl (cs := [.string (tx l1)]) (by simp only [List.map_cons, List.map_nil, e79]) (by intro u hu; simp only [List.mem_cons, List.not_mem_nil, or_false] at hu; rcases hu with rfl <;> exact ⟨rfl, rfl⟩) rfl (by decide) (by decide) (HZD.out W hS).1 (HZD.out W hS).2 hK
      refine AllSteps.cons (o := { dst := some 81, op := .call { callee := .value (.func 29), args := #[.tmp 80, .const (.slice none 0 0)], argTypes := #[93, 116] }, type := _, pos := _, after := _, guard := some (10, true) }) rfl (fun a W hf hS hd K hK => ?_) ?_
      · have e77 : a.eval (.tmp 77) = .bool true := (hd 10 (by decide +kernel)).get (s := 77) rfl
        have d80 := (hd 13 (by decide +kernel)).get (s := 80) rfl
        exact stepV_is (wanted_some rfl rfl e77) rfl enters_mright (vs := #[a.eval (.tmp 80), .slice none 0 0]) (by first | (simp only [List.map_toArray, List.map_cons, List.map_nil]; done) | (simp only [List.map_toArray, List.map_cons, List.map_nil]; rfl)) (u := (.bool ([tx l1].all rightB && [].all timeB))) (mright_any [tx l1] [] _ _ W d80.1 (Sl.nil _ _ _) HSZ.out) (HZD.out W hS).1 hK
      refine AllSteps.cons (o := { dst := some 82, op := .pick (.tmp 77) (.tmp 81) (.const (.bool false)), type := _, pos := _, after := _, guard := none }) rfl (fun a W hf hS hd K hK => ?_) ?_
      · have e77 : a.eval (.tmp 77) = .bool true := (hd 10 (by decide +kernel)).get (s := 77) rfl
        have d81 := (hd 14 (by decide +kernel)).get (s := 81) rfl
        exact step_val (wanted_none rfl) (exec_pickT rfl e77 rfl) (hK _ _ (GV.refl _ _ _ _) d81)
      refine AllSteps.cons (o := { dst := none, op := .store 38 (.tmp 2) (.tmp 75), type := _, pos := _, after := _, guard := none }) rfl (fun a W hf hS hd K hK => ?_) ?_
      · have e2 : a.eval (.tmp 2) = .pointer (some ⟨q, 0, none⟩) := hf.lit 2 (by decide) rfl
        have d75 := (hd 8 (by decide +kernel)).get (s := 75) rfl
        obtain ⟨cur, hc1, hc2⟩ := (HR.out W hS).len
        rw [← HXE.out] at d75
        exact stepV_fin (wanted_none rfl) rfl e2 d75 hc1 hc2 HFq.out hK
      refine AllSteps.cons (o := { dst := some 3, op := .assign (.tmp 82), type := _, pos := _, after := _, guard := none }) rfl (fun a W hf hS hd K hK => ?_) ?_
      · have d82 := (hd 15 (by decide +kernel)).get (s := 82) rfl
        exact step_val (wanted_none rfl) (exec_asg rfl rfl) (hK _ _ (GV.refl _ _ _ _) d82)
      exact AllSteps.nil
    · intro a W hf hS hp
      have h3 := (hp 17 (by decide)).get (s := 3) rfl
      obtain ⟨v, cs, h5, h6⟩ := (hp 16 (by decide)).fin
      have e2 : a.eval (.tmp 2) = .pointer (some ⟨q, 0, none⟩) := hf.lit 2 (by decide) rfl
      go_wp2_with fail
      refine bodyPost_ret (results_agg_tmp rfl aggDer (show a.tmps.getD 2 undef = _ from e2) h6.length h5.cellsAll) hf.defers ⟨cs, ?_, ?_, (HR.out W hS).below⟩
      · rw [HBE.out, show a.tmps.getD 3 undef = .bool ([tx l1].all rightB && [].all timeB) from h3]
      · exact h6.mono (fun b hb => by have := HQW.out; omega)
set_option maxHeartbeats 16000000 in
set_option maxRecDepth 100000 in
theorem msgValue_14 (F0 : Nat → Prop) (l1 : List UInt8) (l2 m2 : List UInt8) (v2 : Value) (l3 : List UInt8) (v3 : Value) (w : World) (hz1 : l1.length ≤ 1099511627776) (hb2 : Bs w v2 m2) (hz2 : l2.length ≤ 1099511627776 ∧ m2.length ≤ 1099511627776) (hb3 : Bs w v3 l3) (hz3 : l3.length ≤ 1099511627776) :
    Calls Try.prog 10 #[.iface 60 (.agg #[.string (tx l1), .string (tx l2), v2, v3])] w (VlRes w (.mk 2 14 0 [] ([.s l1, .i (l2, m2), .b l3].map ptTv)) ([.s l1, .i (l2, m2), .b l3].all ptB)) := by
  obtain ⟨a2, c2, rfl, hc2, hm2⟩ := hb2.form
  obtain ⟨a3, c3, rfl, hc3, hm3⟩ := hb3.form
  have HC : Hid (VC w w.heap.size [(w.heap.size + 1, [.string (tx l1), .string (tx l2), .slice a2 m2.length c2, .slice a3 l3.length c3], 60)] [] [(.slice a2 m2.length c2, m2), (.slice a3 l3.length c3, l3)] ((w.alloc (.cells zs5.toArray 38)).alloc (.cells [.string (tx l1), .string (tx l2), .slice a2 m2.length c2, .slice a3 l3.length c3].toArray 60))) := Lib.hid (VC.start (by intro r hr; simp only [List.mem_cons, List.not_mem_nil, or_false] at hr; rcases hr with rfl | rfl; exact hb2; exact hb3) _ _)
  have HSZ : Hid (∀ u ∈ [tx l1], u.size ≤ maxLen) := Lib.hid (by intro u hu; simp only [List.mem_cons, List.not_mem_nil, or_false] at hu; rcases hu with rfl; exact szTx hz1)
  have HZ1 := Lib.hid hz1
  clear hz1
  have HZ2 := Lib.hid hz2
  clear hz2
  have HZ3 := Lib.hid hz3
  clear hz3
  clear hb2
  clear hb3
  obtain ⟨z11, hta11⟩ := tan 54 60 (.agg #[.string (tx l1), .string (tx l2), .slice a2 m2.length c2, .slice a3 l3.length c3]) zero_11 (by kernel_rfl) (by decide)
  obtain ⟨z12, hta12⟩ := tan 56 60 (.agg #[.string (tx l1), .string (tx l2), .slice a2 m2.length c2, .slice a3 l3.length c3]) zero_12 (by kernel_rfl) (by decide)
  obtain ⟨z13, hta13⟩ := tan 59 60 (.agg #[.string (tx l1), .string (tx l2), .slice a2 m2.length c2, .slice a3 l3.length c3]) zero_13 (by kernel_rfl) (by decide)
  have hta : ∀ W, (Instr.typeAssert (.iface 60 (.agg #[.string (tx l1), .string (tx l2), .slice a2 m2.length c2, .slice a3 l3.length c3])) 20 60 true).run Try.prog W = .ok (.tuple #[.agg #[.string (tx l1), .string (tx l2), .slice a2 m2.length c2, .slice a3 l3.length c3], .bool true]) W := fun W => ta_is _ _ _ (by kernel_rfl) W
  obtain ⟨B, hB⟩ : ∃ B, B = [.s l1, .i (l2, m2), .b l3].all ptB := ⟨_, rfl⟩
  obtain ⟨X, hX⟩ : ∃ X : Tv, X = .mk 2 14 0 [] ([.s l1, .i (l2, m2), .b l3].map ptTv) := ⟨_, rfl⟩
  rw [← hB, ← hX]
  have HB := Lib.hid hB
  have HX2 := Lib.hid hX
  clear hB hX
  go_enter Try.func10, Try.ntmps10
  go_upto_region 16 with fail
  clear hta hta11 hta12 hta13
  show Code.wp _ _ _ _ ((w.alloc (.cells zs5.toArray 38)).alloc (.cells [.string (tx l1), .string (tx l2), .slice a2 m2.length c2, .slice a3 l3.length c3].toArray 60))
  obtain ⟨W0, hW0⟩ : ∃ W0, W0 = (w.alloc (.cells zs5.toArray 38)).alloc (.cells [.string (tx l1), .string (tx l2), .slice a2 m2.length c2, .slice a3 l3.length c3].toArray 60) := ⟨_, rfl⟩
  rw [← hW0] at HC ⊢
  clear hW0
  obtain ⟨p, hp⟩ : ∃ p, p = w.heap.size + 1 := ⟨_, rfl⟩
  obtain ⟨q, hq⟩ : ∃ q, q = w.heap.size := ⟨_, rfl⟩
  rw [← hp, ← hq] at HC ⊢
  clear hp hq
  have HTV1 := Lib.hid (tickValue_any (l2, m2) (.slice a2 m2.length c2) W0 (HC.out.rowAt 0 rfl) HZ2.out.1 HZ2.out.2)
  have HM1 := Lib.hid (HC.out.blkAt 0 rfl)
  rw [show rightB (tx (l2, m2).1) = rT (l2, m2) from rfl] at HTV1
  go_wp2_with ((with_reducible show wpList _ _ _ (⟨some 141, _, _, _, _, _⟩ :: _) _ _); refine wpList_ldAgg rfl (.tmp 140) aggTicket rfl rfl (cs := [.string (tx l2), .slice a2 m2.length c2]) rfl (HM1.out.cellsAt 1 2) ?_)
  refine HTV1.out.mono ?_
  rintro e wa1 ⟨cs1, rfl, htv, hb⟩
  have HCa1 := Lib.hid (HC.out.step hb)
  have HTT1 : Hid (TvF wa1 (fun b => q < b) (tkTv (l2, m2)) cs1) := Lib.hid (htv.mono (fun b hb => by have := HC.out.lt; omega))
  have HCL1 := Lib.hid htv.length
  have HCO1 := Lib.hid htv.one
  have HN1 := Lib.hid (Blk.new wa1 zs5 38)
  clear htv hb HTV1
  go_upto_region 17 with ((with_reducible show wpList _ _ _ (⟨none, .store _ (.tmp 14) (.tmp 144), _, _, _, _⟩ :: _) _ _); refine wpList_stAgg rfl (.tmp 14) (.tmp 144) aggDer rfl rfl (vs := cs1) rfl HCL1.out HN1.out (Nat.le_refl _) HCO1.out ?_)
  intro wb1 h2 k2
  have h2' : Blk wb1 wa1.heap.size cs1 38 := by
    rw [List.drop_of_length_le (by decide), List.append_nil] at h2
    exact h2
  have hb2 : Below wa1.heap.size wa1 wb1 := ((Below.refl _ _).alloc (Nat.le_refl _) _).trans (k2.below (by omega))
  have HCb1 := Lib.hid (((HCa1.out.addTree HTT1.out).step hb2).addBlk h2' HCa1.out.lt)
  obtain ⟨p1, hp1⟩ : ∃ p1, p1 = wa1.heap.size := ⟨_, rfl⟩
  rw [← hp1] at HCb1 ⊢
  clear h2 k2 h2' hb2 hp1 HCa1 HTT1 HN1 HCO1
  go_upto_region 17 with fail
  cases hok15 : rT (l2, m2) with
  | false =>
    have HOK15 := Lib.hid hok15
    clear hok15
    have HBE : Hid (B = false) := Lib.hid (by rw [HB.out]; simp only [List.all_cons, List.all_nil, ptB, HOK15.out, Bool.and_true, Bool.true_and, Bool.and_false, Bool.false_and, Bool.and_assoc])
    obtain ⟨wd, hwd⟩ : ∃ wd, wd = World.drew wb1 := ⟨_, rfl⟩
    have hvd : VC w q [(p, [.string (tx l1), .string (tx l2), .slice a2 m2.length c2, .slice a3 l3.length c3], 60), (p1, cs1, 38)] [(tkTv (l2, m2), cs1)] [(.slice a2 m2.length c2, m2), (.slice a3 l3.length c3, l3)] wd := by rw [hwd]; exact HCb1.out.drew
    have HXE : Hid (X = .mk 2 14 0 [] [.mk 1 0 0 l1 [], tkTv (l2, m2), .mk 1 0 0 l3 []]) := Lib.hid HX2.out
    have HR : Hid (∀ W, GV (fun b => q < b) q X wd W → VR w q [(p, [.string (tx l1), .string (tx l2), .slice a2 m2.length c2, .slice a3 l3.length c3], 60), (p1, cs1, 38)] [(tkTv (l2, m2), cs1)] [(.slice a2 m2.length c2, m2), (.slice a3 l3.length c3, l3)] W) := Lib.hid (fun W h => hvd.gv h)
    have HZD : Hid (∀ W, GV (fun b => q < b) q X wd W → q < W.heap.size ∧ ∀ b, W.heap.size ≤ b → q < b) := Lib.hid (fun W h => ⟨(HR.out W h).lt, fun b hb => Nat.lt_of_lt_of_le (HR.out W h).lt hb⟩)
    have HFq : Hid (¬ (fun b => q < b) q) := Lib.hid (Nat.lt_irrefl q)
    have HQW : Hid (w.heap.size = q) := Lib.hid hvd.hq.symm
    clear hvd HCb1
    refine wp_region_held (S := fun W => GV (fun b => q < b) q X wd W) (by kernel_rfl) ?_
    change wpAnyH _ _ _ _ _ _ _ _ (World.drew _)
    rw [← hwd]
    clear hwd
    refine tkH 0 146 none (.pointer (some ⟨p, 0, none⟩)) rfl (by kernel_rfl) (fun _ _ _ h => h) (by rfl) (by intro W hW; go_simp) (GV.refl _ _ _ _) ?_
    simp only [Act.put, q1, q2, q3]
    refine tkH 1 147 none (.string (tx l1)) rfl (by kernel_rfl) (fun _ _ _ h => h) (by rfl) (by intro W hW; have hc : W.cell? ⟨p, 0, none⟩ = some (.string (tx l1)) := ((HR.out W hW).blkAt 0 rfl).cell 0; go_simp) (GV.refl _ _ _ _) ?_
    simp only [Act.put, q1, q2, q3]
    refine tkH 3 149 none (.agg cs1.toArray) rfl (by kernel_rfl) (fun _ _ _ h => h) (by rfl) (by intro W hW; exact exec_ldAgg rfl aggDer rfl HCL1.out ((HR.out W hW).blkAt 1 rfl).cellsAll) (GV.refl _ _ _ _) ?_
    simp only [Act.put, q1, q2, q3]
    refine tkH 4 150 none (.pointer (some ⟨p, 3, none⟩)) rfl (by kernel_rfl) (fun _ _ _ h => h) (by rfl) (by intro W hW; go_simp) (GV.refl _ _ _ _) ?_
    simp only [Act.put, q1, q2, q3]
    refine tkH 5 151 none (.slice a3 l3.length c3) rfl (by kernel_rfl) (fun _ _ _ h => h) (by rfl) (by intro W hW; have hc : W.cell? ⟨p, 3, none⟩ = some (.slice a3 l3.length c3) := ((HR.out W hW).blkAt 0 rfl).cell 3; go_simp) (GV.refl _ _ _ _) ?_
    simp only [Act.put, q1, q2, q3]
    refine tkH 9 155 none (.bool false) rfl (by kernel_rfl) (fun _ _ _ h => h) (by rfl) (by intro W hW; go_simp) (GV.refl _ _ _ _) ?_
    simp only [Act.put, q1, q2, q3]
    refine anyH_steps (G := GV (fun b => q < b) q X) (Post := postV (fun b => q < b) q X [.any, .any, .val (.mk 1 0 0 l1 []), .any, .any, .any, .val (.mk 1 0 0 l3 []), .vals [.mk 1 0 0 l1 [], tkTv (l2, m2), .mk 1 0 0 l3 []], .val (.mk 2 14 0 [] [.mk 1 0 0 l1 [], tkTv (l2, m2), .mk 1 0 0 l3 []]), .any, .is (.bool false), .any, .any, .any, .any, .is (.bool false), .fin, .is (.bool false)]) (ds := [148, 152, 153, 154, 156, 157, 158, 159, 160, 161, 3]) (GV.refl _ _ _) GV.trans (fun W W' h g => GV.trans _ _ _ h g) (fun i v W W' h g => PK.stable HFq.out h g) [2, 6, 7, 8, 10, 11, 12, 13, 14, 15, 16, 17] 397 rfl (by decide +kernel) (by decide +kernel) ?_ ?_ (GV.refl _ _ _ _) (by decide +kernel)
    · refine AllSteps.cons (o := { dst := some 148, op := .call { callee := .value (.func 26), args := #[.tmp 147], argTypes := #[9] }, type := _, pos := _, after := _, guard := none }) rfl (fun a W hf hS hd K hK => ?_) ?_
      · have e147 : a.eval (.tmp 147) = .string (tx l1) := hf.lit 147 (by decide) rfl
        exact stepV_mk (wanted_none rfl) rfl enters_mtext (vs := #[.string (tx l1)]) (by simp [e147]) (mtext_any l1 W HZ1.out) (HZD.out W hS).1 (HZD.out W hS).2 hK
      refine AllSteps.cons (o := { dst := some 152, op := .call { callee := .value (.func 28), args := #[.tmp 151], argTypes := #[22] }, type := _, pos := _, after := _, guard := none }) rfl (fun a W hf hS hd K hK => ?_) ?_
      · have e151 : a.eval (.tmp 151) = .slice a3 l3.length c3 := hf.lit 151 (by decide) rfl
        exact stepV_mk (wanted_none rfl) rfl enters_raw (vs := #[.slice a3 l3.length c3]) (by simp [e151]) (rawNew_any _ l3 W ((HR.out W hS).rowAt 1 rfl) HZ3.out) (HZD.out W hS).1 (HZD.out W hS).2 hK
      refine AllSteps.cons (o := { dst := some 153, op := .buildSlice 36 3 #[(0, .tmp 148), (1, .tmp 149), (2, .tmp 152)], type := _, pos := _, after := _, guard := none }) rfl (fun a W hf hS hd K hK => ?_) ?_
      · have d148 := (hd 2 (by decide +kernel)).get (s := 148) rfl
        have e149 : a.eval (.tmp 149) = .agg cs1.toArray := hf.lit 149 (by decide) rfl
        have d152 := (hd 6 (by decide +kernel)).get (s := 152) rfl
        exact stepV_vals (wanted_none rfl) rfl elDer (ps := [.tmp 148, .tmp 149, .tmp 152]) rfl (l := [.mk 1 0 0 l1 [], tkTv (l2, m2), .mk 1 0 0 l3 []]) ⟨d148, ⟨_, e149, (HR.out W hS).treeAt 0 rfl⟩, d152, trivial⟩ rfl (by decide) (by decide) (HZD.out W hS).1 (HZD.out W hS).2 hK
      refine AllSteps.cons (o := { dst := some 154, op := .call { callee := .value (.func 25), args := #[.const (.int .i64 14), .tmp 153], argTypes := #[3, 36] }, type := _, pos := _, after := _, guard := none }) rfl (fun a W hf hS hd K hK => ?_) ?_
      · have d153 := (hd 7 (by decide +kernel)).get (s := 153) rfl
        exact stepV_seq (wanted_none rfl) rfl enters_seq d153 (HZD.out W hS).1 (fun v w1 h1 h2 => hK v w1 h1 h2) HFq.out
      refine AllSteps.cons (o := { dst := some 156, op := .move (.tmp 155), type := _, pos := _, after := _, guard := none }) rfl (fun a W hf hS hd K hK => ?_) ?_
      · have e155 : a.eval (.tmp 155) = .bool false := hf.lit 155 (by decide) rfl
        exact step_val (v := .bool false) (wanted_none rfl) (exec_move rfl e155) (hK _ _ (GV.refl _ _ _ _) rfl)
      refine AllSteps.cons (o := { dst := some 157, op := .fieldAddr 60 (.tmp 13) 0, type := _, pos := _, after := _, guard := some (10, true) }) rfl (fun a W hf hS hd K hK => ?_) ?_
      · have e156 : a.eval (.tmp 156) = .bool false := (hd 10 (by decide +kernel)).get (s := 156) rfl
        exact step_skip (wanted_no rfl rfl e156 rfl) (hK _ _ (GV.refl _ _ _ _) trivial)
      refine AllSteps.cons (o := { dst := some 158, op := .load 9 (.tmp 157), type := _, pos := _, after := _, guard := some (10, true) }) rfl (fun a W hf hS hd K hK => ?_) ?_
      · have e156 : a.eval (.tmp 156) = .bool false := (hd 10 (by decide +kernel)).get (s := 156) rfl
        exact step_skip (wanted_no rfl rfl e156 rfl) (hK _ _ (GV.refl _ _ _ _) trivial)
      refine AllSteps.cons (o := { dst := some 159, op := .buildSlice 93 1 #[(0, .tmp 158)], type := _, pos := _, after := _, guard := some (10, true) }) rfl (fun a W hf hS hd K hK => ?_) ?_
      · have e156 : a.eval (.tmp 156) = .bool false := (hd 10 (by decide +kernel)).get (s := 156) rfl
        exact step_skip (wanted_no rfl rfl e156 rfl) (hK _ _ (GV.refl _ _ _ _) trivial)
      refine AllSteps.cons (o := { dst := some 160, op := .call { callee := .value (.func 29), args := #[.tmp 159, .const (.slice none 0 0)], argTypes := #[93, 116] }, type := _, pos := _, after := _, guard := some (10, true) }) rfl (fun a W hf hS hd K hK => ?_) ?_
      · have e156 : a.eval (.tmp 156) = .bool false := (hd 10 (by decide +kernel)).get (s := 156) rfl
        exact step_skip (wanted_no rfl rfl e156 rfl) (hK _ _ (GV.refl _ _ _ _) trivial)
      refine AllSteps.cons (o := { dst := some 161, op := .pick (.tmp 156) (.tmp 160) (.const (.bool false)), type := _, pos := _, after := _, guard := none }) rfl (fun a W hf hS hd K hK => ?_) ?_
      · have e156 : a.eval (.tmp 156) = .bool false := (hd 10 (by decide +kernel)).get (s := 156) rfl
        exact step_val (v := .bool false) (wanted_none rfl) (exec_pickF rfl e156 rfl) (hK _ _ (GV.refl _ _ _ _) rfl)
      refine AllSteps.cons (o := { dst := none, op := .store 38 (.tmp 2) (.tmp 154), type := _, pos := _, after := _, guard := none }) rfl (fun a W hf hS hd K hK => ?_) ?_
      · have e2 : a.eval (.tmp 2) = .pointer (some ⟨q, 0, none⟩) := hf.lit 2 (by decide) rfl
        have d154 := (hd 8 (by decide +kernel)).get (s := 154) rfl
        obtain ⟨cur, hc1, hc2⟩ := (HR.out W hS).len
        rw [← HXE.out] at d154
        exact stepV_fin (wanted_none rfl) rfl e2 d154 hc1 hc2 HFq.out hK
      refine AllSteps.cons (o := { dst := some 3, op := .assign (.tmp 161), type := _, pos := _, after := _, guard := none }) rfl (fun a W hf hS hd K hK => ?_) ?_
      · have e161 : a.eval (.tmp 161) = .bool false := (hd 15 (by decide +kernel)).get (s := 161) rfl
        exact step_val (wanted_none rfl) (exec_asg rfl rfl) (hK _ _ (GV.refl _ _ _ _) e161)
      exact AllSteps.nil
    · intro a W hf hS hp
      have h3 := (hp 17 (by decide)).get (s := 3) rfl
      obtain ⟨v, cs, h5, h6⟩ := (hp 16 (by decide)).fin
      have e2 : a.eval (.tmp 2) = .pointer (some ⟨q, 0, none⟩) := hf.lit 2 (by decide) rfl
      go_wp2_with fail
      refine bodyPost_ret (results_agg_tmp rfl aggDer (show a.tmps.getD 2 undef = _ from e2) h6.length h5.cellsAll) hf.defers ⟨cs, ?_, ?_, (HR.out W hS).below⟩
      · rw [HBE.out, show a.tmps.getD 3 undef = .bool false from h3]
      · exact h6.mono (fun b hb => by have := HQW.out; omega)
  | true =>
    have HOK15 := Lib.hid hok15
    clear hok15
    have HBE : Hid (B = ([tx l1].all rightB && [].all timeB)) := Lib.hid (by rw [HB.out]; simp only [List.all_cons, List.all_nil, ptB, HOK15.out, Bool.and_true, Bool.true_and, Bool.and_false, Bool.false_and, Bool.and_assoc]; first | done | ac_rfl)
    obtain ⟨wd, hwd⟩ : ∃ wd, wd = World.drew wb1 := ⟨_, rfl⟩
    have hvd : VC w q [(p, [.string (tx l1), .string (tx l2), .slice a2 m2.length c2, .slice a3 l3.length c3], 60), (p1, cs1, 38)] [(tkTv (l2, m2), cs1)] [(.slice a2 m2.length c2, m2), (.slice a3 l3.length c3, l3)] wd := by rw [hwd]; exact HCb1.out.drew
    have HXE : Hid (X = .mk 2 14 0 [] [.mk 1 0 0 l1 [], tkTv (l2, m2), .mk 1 0 0 l3 []]) := Lib.hid HX2.out
    have HR : Hid (∀ W, GV (fun b => q < b) q X wd W → VR w q [(p, [.string (tx l1), .string (tx l2), .slice a2 m2.length c2, .slice a3 l3.length c3], 60), (p1, cs1, 38)] [(tkTv (l2, m2), cs1)] [(.slice a2 m2.length c2, m2), (.slice a3 l3.length c3, l3)] W) := Lib.hid (fun W h => hvd.gv h)
    have HZD : Hid (∀ W, GV (fun b => q < b) q X wd W → q < W.heap.size ∧ ∀ b, W.heap.size ≤ b → q < b) := Lib.hid (fun W h => ⟨(HR.out W h).lt, fun b hb => Nat.lt_of_lt_of_le (HR.out W h).lt hb⟩)
    have HFq : Hid (¬ (fun b => q < b) q) := Lib.hid (Nat.lt_irrefl q)
    have HQW : Hid (w.heap.size = q) := Lib.hid hvd.hq.symm
    clear hvd HCb1
    refine wp_region_held (S := fun W => GV (fun b => q < b) q X wd W) (by kernel_rfl) ?_
    change wpAnyH _ _ _ _ _ _ _ _ (World.drew _)
    rw [← hwd]
    clear hwd
    refine tkH 0 146 none (.pointer (some ⟨p, 0, none⟩)) rfl (by kernel_rfl) (fun _ _ _ h => h) (by rfl) (by intro W hW; go_simp) (GV.refl _ _ _ _) ?_
    simp only [Act.put, q1, q2, q3]
    refine tkH 1 147 none (.string (tx l1)) rfl (by kernel_rfl) (fun _ _ _ h => h) (by rfl) (by intro W hW; have hc : W.cell? ⟨p, 0, none⟩ = some (.string (tx l1)) := ((HR.out W hW).blkAt 0 rfl).cell 0; go_simp) (GV.refl _ _ _ _) ?_
    simp only [Act.put, q1, q2, q3]
    refine tkH 3 149 none (.agg cs1.toArray) rfl (by kernel_rfl) (fun _ _ _ h => h) (by rfl) (by intro W hW; exact exec_ldAgg rfl aggDer rfl HCL1.out ((HR.out W hW).blkAt 1 rfl).cellsAll) (GV.refl _ _ _ _) ?_
    simp only [Act.put, q1, q2, q3]
    refine tkH 4 150 none (.pointer (some ⟨p, 3, none⟩)) rfl (by kernel_rfl) (fun _ _ _ h => h) (by rfl) (by intro W hW; go_simp) (GV.refl _ _ _ _) ?_
    simp only [Act.put, q1, q2, q3]
    refine tkH 5 151 none (.slice a3 l3.length c3) rfl (by kernel_rfl) (fun _ _ _ h => h) (by rfl) (by intro W hW; have hc : W.cell? ⟨p, 3, none⟩ = some (.slice a3 l3.length c3) := ((HR.out W hW).blkAt 0 rfl).cell 3; go_simp) (GV.refl _ _ _ _) ?_
    simp only [Act.put, q1, q2, q3]
    refine tkH 9 155 none (.bool true) rfl (by kernel_rfl) (fun _ _ _ h => h) (by rfl) (by intro W hW; go_simp) (GV.refl _ _ _ _) ?_
    simp only [Act.put, q1, q2, q3]
    refine anyH_steps (G := GV (fun b => q < b) q X) (Post := postV (fun b => q < b) q X [.any, .any, .val (.mk 1 0 0 l1 []), .any, .any, .any, .val (.mk 1 0 0 l3 []), .vals [.mk 1 0 0 l1 [], tkTv (l2, m2), .mk 1 0 0 l3 []], .val (.mk 2 14 0 [] [.mk 1 0 0 l1 [], tkTv (l2, m2), .mk 1 0 0 l3 []]), .any, .is (.bool true), .is (.pointer (some ⟨p, 0, none⟩)), .is (.string (tx l1)), .row [.string (tx l1)], .is (.bool ([tx l1].all rightB && [].all timeB)), .is (.bool ([tx l1].all rightB && [].all timeB)), .fin, .is (.bool ([tx l1].all rightB && [].all timeB))]) (ds := [148, 152, 153, 154, 156, 157, 158, 159, 160, 161, 3]) (GV.refl _ _ _) GV.trans (fun W W' h g => GV.trans _ _ _ h g) (fun i v W W' h g => PK.stable HFq.out h g) [2, 6, 7, 8, 10, 11, 12, 13, 14, 15, 16, 17] 397 rfl (by decide +kernel) (by decide +kernel) ?_ ?_ (GV.refl _ _ _ _) (by decide +kernel)
    · refine AllSteps.cons (o := { dst := some 148, op := .call { callee := .value (.func 26), args := #[.tmp 147], argTypes := #[9] }, type := _, pos := _, after := _, guard := none }) rfl (fun a W hf hS hd K hK => ?_) ?_
      · have e147 : a.eval (.tmp 147) = .string (tx l1) := hf.lit 147 (by decide) rfl
        exact stepV_mk (wanted_none rfl) rfl enters_mtext (vs := #[.string (tx l1)]) (by simp [e147]) (mtext_any l1 W HZ1.out) (HZD.out W hS).1 (HZD.out W hS).2 hK
      refine AllSteps.cons (o := { dst := some 152, op := .call { callee := .value (.func 28), args := #[.tmp 151], argTypes := #[22] }, type := _, pos := _, after := _, guard := none }) rfl (fun a W hf hS hd K hK => ?_) ?_
      · have e151 : a.eval (.tmp 151) = .slice a3 l3.length c3 := hf.lit 151 (by decide) rfl
        exact stepV_mk (wanted_none rfl) rfl enters_raw (vs := #[.slice a3 l3.length c3]) (by simp [e151]) (rawNew_any _ l3 W ((HR.out W hS).rowAt 1 rfl) HZ3.out) (HZD.out W hS).1 (HZD.out W hS).2 hK
      refine AllSteps.cons (o := { dst := some 153, op := .buildSlice 36 3 #[(0, .tmp 148), (1, .tmp 149), (2, .tmp 152)], type := _, pos := _, after := _, guard := none }) rfl (fun a W hf hS hd K hK => ?_) ?_
      · have d148 := (hd 2 (by decide +kernel)).get (s := 148) rfl
        have e149 : a.eval (.tmp 149) = .agg cs1.toArray := hf.lit 149 (by decide) rfl
        have d152 := (hd 6 (by decide +kernel)).get (s := 152) rfl
        exact stepV_vals (wanted_none rfl) rfl elDer (ps := [.tmp 148, .tmp 149, .tmp 152]) rfl (l := [.mk 1 0 0 l1 [], tkTv (l2, m2), .mk 1 0 0 l3 []]) ⟨d148, ⟨_, e149, (HR.out W hS).treeAt 0 rfl⟩, d152, trivial⟩ rfl (by decide) (by decide) (HZD.out W hS).1 (HZD.out W hS).2 hK
      refine AllSteps.cons (o := { dst := some 154, op := .call { callee := .value (.func 25), args := #[.const (.int .i64 14), .tmp 153], argTypes := #[3, 36] }, type := _, pos := _, after := _, guard := none }) rfl (fun a W hf hS hd K hK => ?_) ?_
      · have d153 := (hd 7 (by decide +kernel)).get (s := 153) rfl
        exact stepV_seq (wanted_none rfl) rfl enters_seq d153 (HZD.out W hS).1 (fun v w1 h1 h2 => hK v w1 h1 h2) HFq.out
      refine AllSteps.cons (o := { dst := some 156, op := .move (.tmp 155), type := _, pos := _, after := _, guard := none }) rfl (fun a W hf hS hd K hK => ?_) ?_
      · have e155 : a.eval (.tmp 155) = .bool true := hf.lit 155 (by decide) rfl
        exact step_val (v := .bool true) (wanted_none rfl) (exec_move rfl e155) (hK _ _ (GV.refl _ _ _ _) rfl)
      refine AllSteps.cons (o := { dst := some 157, op := .fieldAddr 60 (.tmp 13) 0, type := _, pos := _, after := _, guard := some (10, true) }) rfl (fun a W hf hS hd K hK => ?_) ?_
      · have e156 : a.eval (.tmp 156) = .bool true := (hd 10 (by decide +kernel)).get (s := 156) rfl
        have e13 : a.eval (.tmp 13) = .pointer (some ⟨p, 0, none⟩) := hf.lit 13 (by decide) rfl
        exact step_val (v := .pointer (some ⟨p, 0, none⟩)) (wanted_some rfl rfl e156) (exec_field rfl e13 (by go_simp)) (hK _ _ (GV.refl _ _ _ _) rfl)
      refine AllSteps.cons (o := { dst := some 158, op := .load 9 (.tmp 157), type := _, pos := _, after := _, guard := some (10, true) }) rfl (fun a W hf hS hd K hK => ?_) ?_
      · have e156 : a.eval (.tmp 156) = .bool true := (hd 10 (by decide +kernel)).get (s := 156) rfl
        have e157 : a.eval (.tmp 157) = .pointer (some ⟨p, 0, none⟩) := (hd 11 (by decide +kernel)).get (s := 157) rfl
        have hc : W.cell? ⟨p, 0, none⟩ = some (.string (tx l1)) := ((HR.out W hS).blkAt 0 rfl).cell 0
        exact step_val (v := .string (tx l1)) (wanted_some rfl rfl e156) (exec_load rfl e157 (by go_simp)) (hK _ _ (GV.refl _ _ _ _) rfl)
      refine AllSteps.cons (o := { dst := some 159, op := .buildSlice 93 1 #[(0, .tmp 158)], type := _, pos := _, after := _, guard := some (10, true) }) rfl (fun a W hf hS hd K hK => ?_) ?_
      · have e156 : a.eval (.tmp 156) = .bool true := (hd 10 (by decide +kernel)).get (s := 156) rfl
        have e158 : a.eval (.tmp 158) = .string (tx l1) := (hd 12 (by decide +kernel)).get (s := 158) rfl
        exact stepV_row (wanted_some rfl rfl e156) rfl elStr (ps := [.tmp 158]) rfl (cs := [.string (tx l1)]) (by simp only [List.map_cons, List.map_nil, e158]) (by intro u hu; simp only [List.mem_cons, List.not_mem_nil, or_false] at hu; rcases hu with rfl <;> exact ⟨rfl, rfl⟩) rfl (by decide) (by decide) (HZD.out W hS).1 (HZD.out W hS).2 hK
      refine AllSteps.cons (o := { dst := some 160, op := .call { callee := .value (.func 29), args := #[.tmp 159, .const (.slice none 0 0)], argTypes := #[93, 116] }, type := _, pos := _, after := _, guard := some (10, true) }) rfl (fun a W hf hS hd K hK => ?_) ?_
      · have e156 : a.eval (.tmp 156) = .bool true := (hd 10 (by decide +kernel)).get (s := 156) rfl
        have d159 := (hd 13 (by decide +kernel)).get (s := 159) rfl
        exact stepV_is (wanted_some rfl rfl e156) rfl enters_mright (vs := #[a.eval (.tmp 159), .slice none 0 0]) (by first | (simp only [List.map_toArray, List.map_cons, List.map_nil]; done) | (simp only [List.map_toArray, List.map_cons, List.map_nil]; rfl)) (u := (.bool ([tx l1].all rightB && [].all timeB))) (mright_any [tx l1] [] _ _ W d159.1 (Sl.nil _ _ _) HSZ.out) (HZD.out W hS).1 hK
      refine AllSteps.cons (o := { dst := some 161, op := .pick (.tmp 156) (.tmp 160) (.const (.bool false)), type := _, pos := _, after := _, guard := none }) rfl (fun a W hf hS hd K hK => ?_) ?_
      · have e156 : a.eval (.tmp 156) = .bool true := (hd 10 (by decide +kernel)).get (s := 156) rfl
        have d160 := (hd 14 (by decide +kernel)).get (s := 160) rfl
        exact step_val (wanted_none rfl) (exec_pickT rfl e156 rfl) (hK _ _ (GV.refl _ _ _ _) d160)
      refine AllSteps.cons (o := { dst := none, op := .store 38 (.tmp 2) (.tmp 154), type := _, pos := _, after := _, guard := none }) rfl (fun a W hf hS hd K hK => ?_) ?_
      · have e2 : a.eval (.tmp 2) = .pointer (some ⟨q, 0, none⟩) := hf.lit 2 (by decide) rfl
        have d154 := (hd 8 (by decide +kernel)).get (s := 154) rfl
        obtain ⟨cur, hc1, hc2⟩ := (HR.out W hS).len
        rw [← HXE.out] at d154
        exact stepV_fin (wanted_none rfl) rfl e2 d154 hc1 hc2 HFq.out hK
      refine AllSteps.cons (o := { dst := some 3, op := .assign (.tmp 161), type := _, pos := _, after := _, guard := none }) rfl (fun a W hf hS hd K hK => ?_) ?_
      · have d161 := (hd 15 (by decide +kernel)).get (s := 161) rfl
        exact step_val (wanted_none rfl) (exec_asg rfl rfl) (hK _ _ (GV.refl _ _ _ _) d161)
      exact AllSteps.nil
    · intro a W hf hS hp
      have h3 := (hp 17 (by decide)).get (s := 3) rfl
      obtain ⟨v, cs, h5, h6⟩ := (hp 16 (by decide)).fin
      have e2 : a.eval (.tmp 2) = .pointer (some ⟨q, 0, none⟩) := hf.lit 2 (by decide) rfl
      go_wp2_with fail
      refine bodyPost_ret (results_agg_tmp rfl aggDer (show a.tmps.getD 2 undef = _ from e2) h6.length h5.cellsAll) hf.defers ⟨cs, ?_, ?_, (HR.out W hS).below⟩
      · rw [HBE.out, show a.tmps.getD 3 undef = .bool ([tx l1].all rightB && [].all timeB) from h3]
      · exact h6.mono (fun b hb => by have := HQW.out; omega)
end Go.Proofs.Ytpjkidcfidmfaaa
