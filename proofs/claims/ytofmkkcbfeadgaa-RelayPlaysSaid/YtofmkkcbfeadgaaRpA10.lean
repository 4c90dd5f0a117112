/- Texts of this proof, one behind the other: MMsgOA, MMsgOB. -/
import Derived.Test.YtofmkkcbfeadgaaRpA9
namespace Go.Proofs.Ytofmkkcbfeadgaa
set_option linter.unusedSimpArgs false
set_option linter.unusedVariables false
open Go.RowKit
set_option maxHeartbeats 16000000 in
set_option maxRecDepth 100000 in
theorem msgOf_0 (x : Tv) (F : Nat → Prop) (cs : List Value) (w : World) (h : TvF w F x cs) (hF : ∀ b, F b → b < w.heap.size) (hL : Lw x) (htag : x.tag ≠ 11 ∧ x.tag ≠ 12 ∧ x.tag ≠ 13 ∧ x.tag ≠ 14 ∧ x.tag ≠ 15 ∧ x.tag ≠ 16 ∧ x.tag ≠ 17 ∧ x.tag ≠ 18 ∧ x.tag ≠ 19 ∧ x.tag ≠ 20 ∧ x.tag ≠ 21 ∧ x.tag ≠ 22) :
    Calls Try.prog 28 #[.agg cs.toArray] w (OfM w F x) := by
  have HTG := hI htag
  clear htag
  have HLN := hI h.length
  have HQ0 := hI (Blk.new w cs 70)
  have hB0 : Below w.heap.size w (w.alloc (.cells cs.toArray 70)) := (Below.refl _ _).alloc (Nat.le_refl _) _
  have HB0 := hI hB0
  have HTK := hI (take_any x F cs _ (h.below hB0) (fun b hb => by have := hF b hb; simp; omega))
  have HL : Hid (∀ y ∈ x.l, y.l.length ≤ 1954687338211) := hI (fun y hy => by
    obtain ⟨k, t, n, b, l⟩ := x
    have h1 := LsW.mem hL.2 y hy
    obtain ⟨k2, t2, n2, b2, l2⟩ := y
    exact h1.1)
  have HF := hI hF
  obtain ⟨q, hq⟩ : ∃ q, q = w.heap.size := ⟨_, rfl⟩
  have HQ : Hid (∀ W, Below q w W → BelowO w W) := hI (fun W h => by rw [hq] at h; exact h)
  have hopen := h.open_
  clear h hB0 hL
  go_enter Try.func28, Try.ntmps28
  go_wp2_with ((with_reducible show wpList _ _ _ (⟨some 6, _, _, _, _, _⟩ :: _) _ _); refine wpList_ldAgg rfl (.tmp 1) aggDer rfl rfl (cs := cs) HLN.out HQ0.out.cellsAll ?_)
  refine HTK.out.mono ?_
  rintro e w0 ⟨p, rfl, ht, hb, hp⟩
  obtain ⟨bv, lv, rows, rfl, hb1, hb2, hb3, hb4, hb5⟩ := hopen
  obtain ⟨pm, hpm⟩ : ∃ pm, pm = w0.heap.size := ⟨_, rfl⟩
  have hA0 : Below w0.heap.size w0 (w0.alloc (.cells [.pointer (some ⟨p, 0, none⟩), .bool false].toArray 120)) := (Below.refl _ _).alloc (Nat.le_refl _) _
  have hpl := ht.lt
  have hz0 : w.heap.size ≤ w0.heap.size := by have := hb.size; simp at this; omega
  have ht0 : Tkn (w0.alloc (.cells [.pointer (some ⟨p, 0, none⟩), .bool false].toArray 120)) F pm p x.l false false := by
    refine ⟨by rw [hpm]; exact Blk.new _ _ _, ht.below hA0, by omega, fun h => ?_, fun b hb => ?_⟩
    · have := HF.out _ h; omega
    · have := HF.out _ hb; simp; omega
  have hq0 := (HQ0.out.below hb (by simp)).alloc (.cells [.pointer (some ⟨p, 0, none⟩), .bool false].toArray 120)
  have hbt : Below w.heap.size w (w0.alloc (.cells [.pointer (some ⟨p, 0, none⟩), .bool false].toArray 120)) := (HB0.out.trans (hb.mono (by simp))).trans (hA0.mono hz0)
  obtain ⟨wt, hwt⟩ : ∃ wt, wt = w0.alloc (.cells [.pointer (some ⟨p, 0, none⟩), .bool false].toArray 120) := ⟨_, rfl⟩
  rw [← hwt] at ht0 hq0 hbt
  have HT := hI ht0
  have HBT := hI hbt
  have HQT := hI hq0
  have HP : Hid (w.heap.size < p ∧ w.heap.size < pm ∧ w.heap.size < wt.heap.size) := hI (by simp at hp; have := ht0.lt; exact ⟨by omega, by omega, by omega⟩)
  have cT : wt.cell? ⟨w.heap.size, 1, none⟩ = some (.int .i64 x.tag) := HQT.out.cell 1
  have HKb : Hid (∀ W, Keeps (Sm pm p wt.heap.size) wt W → Below w.heap.size w W ∧ Blk W w.heap.size [.int .i64 x.kind, .int .i64 x.tag, .int .u64 (x.n : Int), bv, lv] 70) := hI (fun W hk =>
    ⟨HBT.out.trans (hk.below (fun b hb => by have := HP.out; rcases hb with h | h | h <;> omega)), HQT.out.keep hk (fun h => by have := HP.out; rcases h with h | h | h <;> omega)⟩)
  clear ht hb hp hb1 hb2 hb3 hb4 hb5 HQ0 HB0 HTK hA0 hpl hz0 ht0 hq0 hbt
  go_upto_region 2 with fail
  show Code.wp _ _ _ _ (w0.alloc (.cells [.pointer (some ⟨p, 0, none⟩), .bool false].toArray 120))
  rw [← hwt, ← hpm]
  clear hwt hpm
  rw [← hq] at *
  clear hq
  obtain ⟨t, hxt⟩ : ∃ t, t = x.tag := ⟨_, rfl⟩
  obtain ⟨l, hxl⟩ : ∃ l, l = x.l := ⟨_, rfl⟩
  have HXT := hI hxt
  have HXL := hI hxl
  rw [← hxt] at cT HKb HQT ⊢
  rw [← hxl] at HT HL
  clear hxt hxl
  have ho : OutM wt F x .nilIface l false false := by
    unfold OutM
    rw [if_pos]
    unfold shapeS
    obtain ⟨h11, h12, h13, h14, h15, h16, h17, h18, h19, h20, h21, h22⟩ := HTG.out
    rw [if_neg h11]; rw [if_neg h12]; rw [if_neg h13]; rw [if_neg h14]; rw [if_neg h15]; rw [if_neg h16]; rw [if_neg h17]; rw [if_neg h18]; rw [if_neg h19]; rw [if_neg h20]; rw [if_neg h21]; rw [if_neg h22]
    rfl
  have htag := HTG.out
  rw [← HXT.out] at htag
  obtain ⟨h11, h12, h13, h14, h15, h16, h17, h18, h19, h20, h21, h22⟩ := htag
  have e11 : (t == 11) = false := by simpa using h11
  have e12 : (t == 12) = false := by simpa using h12
  have e13 : (t == 13) = false := by simpa using h13
  have e14 : (t == 14) = false := by simpa using h14
  have e15 : (t == 15) = false := by simpa using h15
  have e16 : (t == 16) = false := by simpa using h16
  have e17 : (t == 17) = false := by simpa using h17
  have e18 : (t == 18) = false := by simpa using h18
  have e19 : (t == 19) = false := by simpa using h19
  have e20 : (t == 20) = false := by simpa using h20
  have e21 : (t == 21) = false := by simpa using h21
  have e22 : (t == 22) = false := by simpa using h22
  clear h11 h12 h13 h14 h15 h16 h17 h18 h19 h20 h21 h22
  have ht := HT.out
  have hk : Keeps (Sm pm p wt.heap.size) wt wt := Keeps.refl _ _
  obtain ⟨hb, hq⟩ := HKb.out _ hk
  have c0 : wt.cell? ⟨q, 0, none⟩ = some (.int .i64 x.kind) := hq.cell 0
  have m0 := ht.ptr
  have m1 : wt.cell? ⟨pm, 1, none⟩ = some (.bool false) := ht.1.cell 1
  have HX := hI (OutM.no ho (HQ.out _ hb))
  clear ht hk ho hb hq
  by_cases hk2 : x.kind = 2
  · have HK2 := hI hk2
    have hkb : (x.kind != 2) = false := by simpa using hk2
    clear hk2
    go_wp2_with fail
    go_ret2
    exact HX.out (fun h => h.2.1 rfl)
  · have hkb : (x.kind != 2) = true := by simpa using hk2
    have HK2 := hI hk2
    clear hk2
    go_wp2_with fail
    go_ret2
    exact HX.out (fun h => HK2.out h.1)
set_option maxHeartbeats 16000000 in
set_option maxRecDepth 100000 in
theorem msgOf_11 (x : Tv) (F : Nat → Prop) (cs : List Value) (w : World) (h : TvF w F x cs) (hF : ∀ b, F b → b < w.heap.size) (hL : Lw x) (htag : x.tag = 11) :
    Calls Try.prog 28 #[.agg cs.toArray] w (OfM w F x) := by
  have HTG := hI htag
  clear htag
  have HLN := hI h.length
  have HQ0 := hI (Blk.new w cs 70)
  have hB0 : Below w.heap.size w (w.alloc (.cells cs.toArray 70)) := (Below.refl _ _).alloc (Nat.le_refl _) _
  have HB0 := hI hB0
  have HTK := hI (take_any x F cs _ (h.below hB0) (fun b hb => by have := hF b hb; simp; omega))
  have HL : Hid (∀ y ∈ x.l, y.l.length ≤ 1954687338211) := hI (fun y hy => by
    obtain ⟨k, t, n, b, l⟩ := x
    have h1 := LsW.mem hL.2 y hy
    obtain ⟨k2, t2, n2, b2, l2⟩ := y
    exact h1.1)
  have HF := hI hF
  obtain ⟨q, hq⟩ : ∃ q, q = w.heap.size := ⟨_, rfl⟩
  have HQ : Hid (∀ W, Below q w W → BelowO w W) := hI (fun W h => by rw [hq] at h; exact h)
  have hopen := h.open_
  clear h hB0 hL
  go_enter Try.func28, Try.ntmps28
  go_wp2_with ((with_reducible show wpList _ _ _ (⟨some 6, _, _, _, _, _⟩ :: _) _ _); refine wpList_ldAgg rfl (.tmp 1) aggDer rfl rfl (cs := cs) HLN.out HQ0.out.cellsAll ?_)
  refine HTK.out.mono ?_
  rintro e w0 ⟨p, rfl, ht, hb, hp⟩
  obtain ⟨bv, lv, rows, rfl, hb1, hb2, hb3, hb4, hb5⟩ := hopen
  obtain ⟨pm, hpm⟩ : ∃ pm, pm = w0.heap.size := ⟨_, rfl⟩
  have hA0 : Below w0.heap.size w0 (w0.alloc (.cells [.pointer (some ⟨p, 0, none⟩), .bool false].toArray 120)) := (Below.refl _ _).alloc (Nat.le_refl _) _
  have hpl := ht.lt
  have hz0 : w.heap.size ≤ w0.heap.size := by have := hb.size; simp at this; omega
  have ht0 : Tkn (w0.alloc (.cells [.pointer (some ⟨p, 0, none⟩), .bool false].toArray 120)) F pm p x.l false false := by
    refine ⟨by rw [hpm]; exact Blk.new _ _ _, ht.below hA0, by omega, fun h => ?_, fun b hb => ?_⟩
    · have := HF.out _ h; omega
    · have := HF.out _ hb; simp; omega
  have hq0 := (HQ0.out.below hb (by simp)).alloc (.cells [.pointer (some ⟨p, 0, none⟩), .bool false].toArray 120)
  have hbt : Below w.heap.size w (w0.alloc (.cells [.pointer (some ⟨p, 0, none⟩), .bool false].toArray 120)) := (HB0.out.trans (hb.mono (by simp))).trans (hA0.mono hz0)
  obtain ⟨wt, hwt⟩ : ∃ wt, wt = w0.alloc (.cells [.pointer (some ⟨p, 0, none⟩), .bool false].toArray 120) := ⟨_, rfl⟩
  rw [← hwt] at ht0 hq0 hbt
  have HT := hI ht0
  have HBT := hI hbt
  have HQT := hI hq0
  have HP : Hid (w.heap.size < p ∧ w.heap.size < pm ∧ w.heap.size < wt.heap.size) := hI (by simp at hp; have := ht0.lt; exact ⟨by omega, by omega, by omega⟩)
  have cT : wt.cell? ⟨w.heap.size, 1, none⟩ = some (.int .i64 x.tag) := HQT.out.cell 1
  have HKb : Hid (∀ W, Keeps (Sm pm p wt.heap.size) wt W → Below w.heap.size w W ∧ Blk W w.heap.size [.int .i64 x.kind, .int .i64 x.tag, .int .u64 (x.n : Int), bv, lv] 70) := hI (fun W hk =>
    ⟨HBT.out.trans (hk.below (fun b hb => by have := HP.out; rcases hb with h | h | h <;> omega)), HQT.out.keep hk (fun h => by have := HP.out; rcases h with h | h | h <;> omega)⟩)
  clear ht hb hp hb1 hb2 hb3 hb4 hb5 HQ0 HB0 HTK hA0 hpl hz0 ht0 hq0 hbt
  go_upto_region 2 with fail
  show Code.wp _ _ _ _ (w0.alloc (.cells [.pointer (some ⟨p, 0, none⟩), .bool false].toArray 120))
  rw [← hwt, ← hpm]
  clear hwt hpm
  rw [← hq] at *
  clear hq
  have hxt : 11 = x.tag := HTG.out.symm
  obtain ⟨l, hxl⟩ : ∃ l, l = x.l := ⟨_, rfl⟩
  have HXT := hI hxt
  have HXL := hI hxl
  rw [← hxt] at cT HKb HQT ⊢
  rw [← hxl] at HT HL
  clear hxt hxl HTG
  have HOM : Hid (∀ W o pts rem bad bad2, (shapeS x.tag).isEmpty = false → runS (shapeS x.tag) (x.l, false, false) = (pts, rem, bad, bad2) → MsgV W F x.tag pts o → OutM W F x o rem bad bad2) := hI (fun W o pts rem bad bad2 h0 h1 h2 => by unfold OutM; rw [if_neg (by rw [h0]; decide)]; exact ⟨pts, h1, h2⟩)
  rw [← HXT.out] at HOM
  rw [← HXL.out] at HOM
  clear HXT HXL
  go_upto_region 5 with fail
  refine wp_region_held (S := fun W : World => W.cell? ⟨pm, 0, none⟩ = some (.pointer (some ⟨p, 0, none⟩))) (by kernel_rfl) ?_
  change wpAnyH _ _ _ _ _ _ _ _ (World.drew _)
  have HS : (World.drew wt).cell? ⟨pm, 0, none⟩ = some (.pointer (some ⟨p, 0, none⟩)) := HT.out.ptr
  have HT0 := hI HT.out.drew
  have HK0 : Hid (Keeps (Sm pm p wt.heap.size) wt wt.drew) := hI (Keeps.refl _ _).drew
  have HR0 : Hid (runS (shapeS 11) (l, false, false) = runS [.s, .n, .n, .b] (l, false, false)) := hI rfl
  have HP0 : Hid (PtsV wt.drew F [] []) := hI rfl
  generalize World.drew wt = wd at HS HT0 HK0 HP0 ⊢
  refine tkH 0 14 none (.pointer (some ⟨pm, 0, none⟩)) rfl (by kernel_rfl) (fun _ _ _ h => h) (by rfl) (by intro W hW; go_simp) HS ?_
  simp only [Act.put, q1, q2, q3]
  refine tkH 1 15 none (.pointer (some ⟨pm, 0, none⟩)) rfl (by kernel_rfl) (fun _ _ _ h => h) (by rfl) (by intro W hW; go_simp) HS ?_
  simp only [Act.put, q1, q2, q3]
  refine tkH 2 16 none (.pointer (some ⟨pm, 0, none⟩)) rfl (by kernel_rfl) (fun _ _ _ h => h) (by rfl) (by intro W hW; go_simp) HS ?_
  simp only [Act.put, q1, q2, q3]
  refine tkH 3 17 none (.pointer (some ⟨p, 0, none⟩)) rfl (by kernel_rfl) (fun _ _ _ h => h) (by rfl) (by intro W hW; have hc0 : W.cell? ⟨pm, 0, none⟩ = some (.pointer (some ⟨p, 0, none⟩)) := hW; go_simp) HS ?_
  simp only [Act.put, q1, q2, q3]
  refine tkH 5 19 none (.pointer (some ⟨pm, 0, none⟩)) rfl (by kernel_rfl) (fun _ _ _ h => h) (by rfl) (by intro W hW; go_simp) HS ?_
  simp only [Act.put, q1, q2, q3]
  refine tkH 6 20 none (.pointer (some ⟨pm, 0, none⟩)) rfl (by kernel_rfl) (fun _ _ _ h => h) (by rfl) (by intro W hW; go_simp) HS ?_
  simp only [Act.put, q1, q2, q3]
  refine tkH 7 21 none (.pointer (some ⟨pm, 0, none⟩)) rfl (by kernel_rfl) (fun _ _ _ h => h) (by rfl) (by intro W hW; go_simp) HS ?_
  simp only [Act.put, q1, q2, q3]
  refine tkH 8 22 none (.pointer (some ⟨p, 0, none⟩)) rfl (by kernel_rfl) (fun _ _ _ h => h) (by rfl) (by intro W hW; have hc0 : W.cell? ⟨pm, 0, none⟩ = some (.pointer (some ⟨p, 0, none⟩)) := hW; go_simp) HS ?_
  simp only [Act.put, q1, q2, q3]
  refine tkH 10 24 none (.pointer (some ⟨pm, 0, none⟩)) rfl (by kernel_rfl) (fun _ _ _ h => h) (by rfl) (by intro W hW; go_simp) HS ?_
  simp only [Act.put, q1, q2, q3]
  refine tkH 11 25 none (.pointer (some ⟨pm, 0, none⟩)) rfl (by kernel_rfl) (fun _ _ _ h => h) (by rfl) (by intro W hW; go_simp) HS ?_
  simp only [Act.put, q1, q2, q3]
  refine tkH 12 26 none (.pointer (some ⟨pm, 0, none⟩)) rfl (by kernel_rfl) (fun _ _ _ h => h) (by rfl) (by intro W hW; go_simp) HS ?_
  simp only [Act.put, q1, q2, q3]
  refine tkH 13 27 none (.pointer (some ⟨p, 0, none⟩)) rfl (by kernel_rfl) (fun _ _ _ h => h) (by rfl) (by intro W hW; have hc0 : W.cell? ⟨pm, 0, none⟩ = some (.pointer (some ⟨p, 0, none⟩)) := hW; go_simp) HS ?_
  simp only [Act.put, q1, q2, q3]
  refine tkH 15 29 none (.pointer (some ⟨pm, 0, none⟩)) rfl (by kernel_rfl) (fun _ _ _ h => h) (by rfl) (by intro W hW; go_simp) HS ?_
  simp only [Act.put, q1, q2, q3]
  refine tkH 16 30 none (.pointer (some ⟨pm, 0, none⟩)) rfl (by kernel_rfl) (fun _ _ _ h => h) (by rfl) (by intro W hW; go_simp) HS ?_
  simp only [Act.put, q1, q2, q3]
  refine tkH 17 31 none (.pointer (some ⟨pm, 0, none⟩)) rfl (by kernel_rfl) (fun _ _ _ h => h) (by rfl) (by intro W hW; go_simp) HS ?_
  simp only [Act.put, q1, q2, q3]
  refine tkH 18 32 none (.pointer (some ⟨p, 0, none⟩)) rfl (by kernel_rfl) (fun _ _ _ h => h) (by rfl) (by intro W hW; have hc0 : W.cell? ⟨pm, 0, none⟩ = some (.pointer (some ⟨p, 0, none⟩)) := hW; go_simp) HS ?_
  simp only [Act.put, q1, q2, q3]
  refine anyH_ready (rs := [4]) (by decide +kernel) (by simp) ?_
  refine AllReadyH.cons (o := { dst := some 18, op := .call { callee := .value (.func 44), args := #[.tmp 17], argTypes := #[117] }, type := _, pos := _, after := _, guard := none }) rfl (fun K hK => ?_) AllReadyH.nil
  go_simp
  refine (nameK_any l false false pm p F wd HT0.out).mono ?_
  rintro e v1 ⟨rfl, ht, hk⟩
  have HR1 : Hid (runS (shapeS 11) (l, false, false) = (.s (nameS l false).1 :: (runS [.n, .n, .b] ((nameS l false).2.1, (nameS l false).2.2, false)).1, (runS [.n, .n, .b] ((nameS l false).2.1, (nameS l false).2.2, false)).2)) := hI (HR0.out.trans rfl)
  have HP1 : Hid (PtsV v1 F ([] ++ [.s (nameS l false).1]) ([] ++ [.string (tx (nameS l false).1)])) := hI ((HP0.out.keep hk HT0.out.hs (by rfl)).snoc (p := .s (nameS l false).1) rfl)
  have HT1 := hI ht
  have HK1 := hI (keepsM rfl HK0.out (HK0.out.size) hk)
  clear ht hk HT0 HK0 HR0 HP0
  generalize nameS l false = st at *
  obtain ⟨x1, l1, b1⟩ := st
  simp only at *
  have HS := HT1.out.ptr
  refine hK _ _ HS ?_
  clear hK K
  try simp only [Act.put, q1, q2, q3]
  refine anyH_ready (rs := [9]) (by decide +kernel) (by simp) ?_
  refine AllReadyH.cons (o := { dst := some 23, op := .call { callee := .value (.func 45), args := #[.tmp 22], argTypes := #[117] }, type := _, pos := _, after := _, guard := none }) rfl (fun K hK => ?_) AllReadyH.nil
  go_simp
  refine (numK_any l1 b1 false pm p F v1 HT1.out).mono ?_
  rintro e v2 ⟨rfl, ht, hk⟩
  have HR2 : Hid (runS (shapeS 11) (l, false, false) = (.s x1 :: .n (numS l1 b1).1 :: (runS [.n, .b] ((numS l1 b1).2.1, (numS l1 b1).2.2, false)).1, (runS [.n, .b] ((numS l1 b1).2.1, (numS l1 b1).2.2, false)).2)) := hI (HR1.out.trans rfl)
  have HP2 : Hid (PtsV v2 F ([.s x1] ++ [.n (numS l1 b1).1]) ([.string (tx x1)] ++ [.int .i64 (numS l1 b1).1])) := hI ((HP1.out.keep hk HT1.out.hs (by rfl)).snoc (p := .n (numS l1 b1).1) rfl)
  have HT2 := hI ht
  have HK2 := hI (keepsM rfl HK1.out (HK1.out.size) hk)
  clear ht hk HT1 HK1 HR1 HP1
  generalize numS l1 b1 = st at *
  obtain ⟨x2, l2, b2⟩ := st
  simp only at *
  have HS := HT2.out.ptr
  refine hK _ _ HS ?_
  clear hK K
  try simp only [Act.put, q1, q2, q3]
  refine anyH_ready (rs := [14]) (by decide +kernel) (by simp) ?_
  refine AllReadyH.cons (o := { dst := some 28, op := .call { callee := .value (.func 45), args := #[.tmp 27], argTypes := #[117] }, type := _, pos := _, after := _, guard := none }) rfl (fun K hK => ?_) AllReadyH.nil
  go_simp
  refine (numK_any l2 b2 false pm p F v2 HT2.out).mono ?_
  rintro e v3 ⟨rfl, ht, hk⟩
  have HR3 : Hid (runS (shapeS 11) (l, false, false) = (.s x1 :: .n x2 :: .n (numS l2 b2).1 :: (runS [.b] ((numS l2 b2).2.1, (numS l2 b2).2.2, false)).1, (runS [.b] ((numS l2 b2).2.1, (numS l2 b2).2.2, false)).2)) := hI (HR2.out.trans rfl)
  have HP3 : Hid (PtsV v3 F ([.s x1, .n x2] ++ [.n (numS l2 b2).1]) ([.string (tx x1), .int .i64 x2] ++ [.int .i64 (numS l2 b2).1])) := hI ((HP2.out.keep hk HT2.out.hs (by rfl)).snoc (p := .n (numS l2 b2).1) rfl)
  have HT3 := hI ht
  have HK3 := hI (keepsM rfl HK2.out (HK2.out.size) hk)
  clear ht hk HT2 HK2 HR2 HP2
  generalize numS l2 b2 = st at *
  obtain ⟨x3, l3, b3⟩ := st
  simp only at *
  have HS := HT3.out.ptr
  refine hK _ _ HS ?_
  clear hK K
  try simp only [Act.put, q1, q2, q3]
  refine anyH_ready (rs := [19]) (by decide +kernel) (by simp) ?_
  refine AllReadyH.cons (o := { dst := some 33, op := .call { callee := .value (.func 46), args := #[.tmp 32], argTypes := #[117] }, type := _, pos := _, after := _, guard := none }) rfl (fun K hK => ?_) AllReadyH.nil
  go_simp
  refine (bytesK_any l3 b3 false pm p F v3 HT3.out).mono ?_
  rintro e v4 ⟨vb, ⟨rfl, ht, hk⟩, hb, ho⟩
  have HR4 : Hid (runS (shapeS 11) (l, false, false) = (.s x1 :: .n x2 :: .n x3 :: .b (bytesS l3 b3).1 :: (runS [] ((bytesS l3 b3).2.1, (bytesS l3 b3).2.2, false)).1, (runS [] ((bytesS l3 b3).2.1, (bytesS l3 b3).2.2, false)).2)) := hI (HR3.out.trans rfl)
  obtain ⟨ab4, cb4, rfl, hcb4, hmb4⟩ := hb.form
  have HP4 : Hid (PtsV v4 F ([.s x1, .n x2, .n x3] ++ [.b (bytesS l3 b3).1]) ([.string (tx x1), .int .i64 x2, .int .i64 x3] ++ [.slice ab4 (bytesS l3 b3).1.length cb4])) := hI ((HP3.out.keep hk HT3.out.hs (by rfl)).snoc (p := .b (bytesS l3 b3).1) ⟨_, rfl, hb, ho⟩)
  have HT4 := hI ht
  have HK4 := hI (keepsM rfl HK3.out (HK3.out.size) hk)
  clear ht hk hb ho HT3 HK3 HR3 HP3
  generalize bytesS l3 b3 = st at *
  obtain ⟨x4, l4, b4⟩ := st
  simp only at *
  generalize hz4 : x4.length = z4 at *
  have HS := HT4.out.ptr
  refine hK _ _ HS ?_
  clear hK K
  try simp only [Act.put, q1, q2, q3]
  refine tkH 20 34 none (.agg #[.string (tx x1), .int .i64 x2, .int .i64 x3, .slice ab4 z4 cb4]) rfl (by kernel_rfl) (fun _ _ _ h => h) (by rfl) (by intro W hW; go_simp) HS ?_
  simp only [Act.put, q1, q2, q3]
  refine tkH 21 35 none (.iface 82 (.agg #[.string (tx x1), .int .i64 x2, .int .i64 x3, .slice ab4 z4 cb4])) rfl (by kernel_rfl) (fun _ _ _ h => h) (by rfl) (by intro W hW; go_simp) HS ?_
  simp only [Act.put, q1, q2, q3]
  refine tkH 22 5 none (.iface 82 (.agg #[.string (tx x1), .int .i64 x2, .int .i64 x3, .slice ab4 z4 cb4])) rfl (by kernel_rfl) (fun _ _ _ h => h) (by rfl) (by intro W hW; go_simp) HS ?_
  simp only [Act.put, q1, q2, q3]
  refine wpAnyH_done (by decide +kernel) ?_ _
  have ho := HOM.out _ _ _ _ _ _ (by decide) HR4.out ⟨_, rfl, HP4.out⟩
  have ht := HT4.out
  have hk := HK4.out
  obtain ⟨hb, hq⟩ := HKb.out _ hk
  have c0 : v4.cell? ⟨q, 0, none⟩ = some (.int .i64 x.kind) := hq.cell 0
  have m0 := ht.ptr
  have m1 : v4.cell? ⟨pm, 1, none⟩ = some (.bool false) := ht.1.cell 1
  have HX := hI (OutM.no ho (HQ.out _ hb))
  have HY := hI (OutM.yes ho (HQ.out _ hb))
  have HD := hI (done_any l4 b4 p F v4 ht.2.1)
  clear ht hk ho hb hq
  by_cases hk2 : x.kind = 2
  · have HK2 := hI hk2
    have hkb : (x.kind != 2) = false := by simpa using hk2
    clear hk2
    generalize hdn : (!b4 && l4.isEmpty) = dn at *
    clear hdn
    go_wp2_with fail
    refine HD.out.mono ?_
    rintro e w2 ⟨rfl, rfl⟩
    cases dn with
    | true =>
      go_wp2_with fail
      go_ret2
      exact HY.out HK2.out (by simp) (by first | rfl | trivial) (by first | rfl | trivial)
    | false =>
      go_wp2_with fail
      go_ret2
      exact HX.out (fun h => by simp at h)
  · have hkb : (x.kind != 2) = true := by simpa using hk2
    have HK2 := hI hk2
    clear hk2
    go_wp2_with fail
    go_ret2
    exact HX.out (fun h => HK2.out h.1)
set_option maxHeartbeats 16000000 in
set_option maxRecDepth 100000 in
theorem msgOf_12 (x : Tv) (F : Nat → Prop) (cs : List Value) (w : World) (h : TvF w F x cs) (hF : ∀ b, F b → b < w.heap.size) (hL : Lw x) (htag : x.tag = 12) :
    Calls Try.prog 28 #[.agg cs.toArray] w (OfM w F x) := by
  have HTG := hI htag
  clear htag
  have HLN := hI h.length
  have HQ0 := hI (Blk.new w cs 70)
  have hB0 : Below w.heap.size w (w.alloc (.cells cs.toArray 70)) := (Below.refl _ _).alloc (Nat.le_refl _) _
  have HB0 := hI hB0
  have HTK := hI (take_any x F cs _ (h.below hB0) (fun b hb => by have := hF b hb; simp; omega))
  have HL : Hid (∀ y ∈ x.l, y.l.length ≤ 1954687338211) := hI (fun y hy => by
    obtain ⟨k, t, n, b, l⟩ := x
    have h1 := LsW.mem hL.2 y hy
    obtain ⟨k2, t2, n2, b2, l2⟩ := y
    exact h1.1)
  have HF := hI hF
  obtain ⟨q, hq⟩ : ∃ q, q = w.heap.size := ⟨_, rfl⟩
  have HQ : Hid (∀ W, Below q w W → BelowO w W) := hI (fun W h => by rw [hq] at h; exact h)
  have hopen := h.open_
  clear h hB0 hL
  go_enter Try.func28, Try.ntmps28
  go_wp2_with ((with_reducible show wpList _ _ _ (⟨some 6, _, _, _, _, _⟩ :: _) _ _); refine wpList_ldAgg rfl (.tmp 1) aggDer rfl rfl (cs := cs) HLN.out HQ0.out.cellsAll ?_)
  refine HTK.out.mono ?_
  rintro e w0 ⟨p, rfl, ht, hb, hp⟩
  obtain ⟨bv, lv, rows, rfl, hb1, hb2, hb3, hb4, hb5⟩ := hopen
  obtain ⟨pm, hpm⟩ : ∃ pm, pm = w0.heap.size := ⟨_, rfl⟩
  have hA0 : Below w0.heap.size w0 (w0.alloc (.cells [.pointer (some ⟨p, 0, none⟩), .bool false].toArray 120)) := (Below.refl _ _).alloc (Nat.le_refl _) _
  have hpl := ht.lt
  have hz0 : w.heap.size ≤ w0.heap.size := by have := hb.size; simp at this; omega
  have ht0 : Tkn (w0.alloc (.cells [.pointer (some ⟨p, 0, none⟩), .bool false].toArray 120)) F pm p x.l false false := by
    refine ⟨by rw [hpm]; exact Blk.new _ _ _, ht.below hA0, by omega, fun h => ?_, fun b hb => ?_⟩
    · have := HF.out _ h; omega
    · have := HF.out _ hb; simp; omega
  have hq0 := (HQ0.out.below hb (by simp)).alloc (.cells [.pointer (some ⟨p, 0, none⟩), .bool false].toArray 120)
  have hbt : Below w.heap.size w (w0.alloc (.cells [.pointer (some ⟨p, 0, none⟩), .bool false].toArray 120)) := (HB0.out.trans (hb.mono (by simp))).trans (hA0.mono hz0)
  obtain ⟨wt, hwt⟩ : ∃ wt, wt = w0.alloc (.cells [.pointer (some ⟨p, 0, none⟩), .bool false].toArray 120) := ⟨_, rfl⟩
  rw [← hwt] at ht0 hq0 hbt
  have HT := hI ht0
  have HBT := hI hbt
  have HQT := hI hq0
  have HP : Hid (w.heap.size < p ∧ w.heap.size < pm ∧ w.heap.size < wt.heap.size) := hI (by simp at hp; have := ht0.lt; exact ⟨by omega, by omega, by omega⟩)
  have cT : wt.cell? ⟨w.heap.size, 1, none⟩ = some (.int .i64 x.tag) := HQT.out.cell 1
  have HKb : Hid (∀ W, Keeps (Sm pm p wt.heap.size) wt W → Below w.heap.size w W ∧ Blk W w.heap.size [.int .i64 x.kind, .int .i64 x.tag, .int .u64 (x.n : Int), bv, lv] 70) := hI (fun W hk =>
    ⟨HBT.out.trans (hk.below (fun b hb => by have := HP.out; rcases hb with h | h | h <;> omega)), HQT.out.keep hk (fun h => by have := HP.out; rcases h with h | h | h <;> omega)⟩)
  clear ht hb hp hb1 hb2 hb3 hb4 hb5 HQ0 HB0 HTK hA0 hpl hz0 ht0 hq0 hbt
  go_upto_region 2 with fail
  show Code.wp _ _ _ _ (w0.alloc (.cells [.pointer (some ⟨p, 0, none⟩), .bool false].toArray 120))
  rw [← hwt, ← hpm]
  clear hwt hpm
  rw [← hq] at *
  clear hq
  have hxt : 12 = x.tag := HTG.out.symm
  obtain ⟨l, hxl⟩ : ∃ l, l = x.l := ⟨_, rfl⟩
  have HXT := hI hxt
  have HXL := hI hxl
  rw [← hxt] at cT HKb HQT ⊢
  rw [← hxl] at HT HL
  clear hxt hxl HTG
  have HOM : Hid (∀ W o pts rem bad bad2, (shapeS x.tag).isEmpty = false → runS (shapeS x.tag) (x.l, false, false) = (pts, rem, bad, bad2) → MsgV W F x.tag pts o → OutM W F x o rem bad bad2) := hI (fun W o pts rem bad bad2 h0 h1 h2 => by unfold OutM; rw [if_neg (by rw [h0]; decide)]; exact ⟨pts, h1, h2⟩)
  rw [← HXT.out] at HOM
  rw [← HXL.out] at HOM
  clear HXT HXL
  go_upto_region 7 with fail
  refine wp_region_held (S := fun W : World => W.cell? ⟨pm, 0, none⟩ = some (.pointer (some ⟨p, 0, none⟩))) (by kernel_rfl) ?_
  change wpAnyH _ _ _ _ _ _ _ _ (World.drew _)
  have HS : (World.drew wt).cell? ⟨pm, 0, none⟩ = some (.pointer (some ⟨p, 0, none⟩)) := HT.out.ptr
  have HT0 := hI HT.out.drew
  have HK0 : Hid (Keeps (Sm pm p wt.heap.size) wt wt.drew) := hI (Keeps.refl _ _).drew
  have HR0 : Hid (runS (shapeS 12) (l, false, false) = runS [.s, .i, .b] (l, false, false)) := hI rfl
  have HP0 : Hid (PtsV wt.drew F [] []) := hI rfl
  generalize World.drew wt = wd at HS HT0 HK0 HP0 ⊢
  refine tkH 0 38 none (.pointer (some ⟨pm, 0, none⟩)) rfl (by kernel_rfl) (fun _ _ _ h => h) (by rfl) (by intro W hW; go_simp) HS ?_
  simp only [Act.put, q1, q2, q3]
  refine tkH 1 39 none (.pointer (some ⟨pm, 0, none⟩)) rfl (by kernel_rfl) (fun _ _ _ h => h) (by rfl) (by intro W hW; go_simp) HS ?_
  simp only [Act.put, q1, q2, q3]
  refine tkH 2 40 none (.pointer (some ⟨pm, 0, none⟩)) rfl (by kernel_rfl) (fun _ _ _ h => h) (by rfl) (by intro W hW; go_simp) HS ?_
  simp only [Act.put, q1, q2, q3]
  refine tkH 3 41 none (.pointer (some ⟨p, 0, none⟩)) rfl (by kernel_rfl) (fun _ _ _ h => h) (by rfl) (by intro W hW; have hc0 : W.cell? ⟨pm, 0, none⟩ = some (.pointer (some ⟨p, 0, none⟩)) := hW; go_simp) HS ?_
  simp only [Act.put, q1, q2, q3]
  refine tkH 5 43 none (.pointer (some ⟨pm, 0, none⟩)) rfl (by kernel_rfl) (fun _ _ _ h => h) (by rfl) (by intro W hW; go_simp) HS ?_
  simp only [Act.put, q1, q2, q3]
  refine tkH 7 45 none (.pointer (some ⟨pm, 0, none⟩)) rfl (by kernel_rfl) (fun _ _ _ h => h) (by rfl) (by intro W hW; go_simp) HS ?_
  simp only [Act.put, q1, q2, q3]
  refine tkH 8 46 none (.pointer (some ⟨pm, 0, none⟩)) rfl (by kernel_rfl) (fun _ _ _ h => h) (by rfl) (by intro W hW; go_simp) HS ?_
  simp only [Act.put, q1, q2, q3]
  refine tkH 9 47 none (.pointer (some ⟨pm, 0, none⟩)) rfl (by kernel_rfl) (fun _ _ _ h => h) (by rfl) (by intro W hW; go_simp) HS ?_
  simp only [Act.put, q1, q2, q3]
  refine tkH 10 48 none (.pointer (some ⟨p, 0, none⟩)) rfl (by kernel_rfl) (fun _ _ _ h => h) (by rfl) (by intro W hW; have hc0 : W.cell? ⟨pm, 0, none⟩ = some (.pointer (some ⟨p, 0, none⟩)) := hW; go_simp) HS ?_
  simp only [Act.put, q1, q2, q3]
  refine anyH_ready (rs := [4]) (by decide +kernel) (by simp) ?_
  refine AllReadyH.cons (o := { dst := some 42, op := .call { callee := .value (.func 44), args := #[.tmp 41], argTypes := #[117] }, type := _, pos := _, after := _, guard := none }) rfl (fun K hK => ?_) AllReadyH.nil
  go_simp
  refine (nameK_any l false false pm p F wd HT0.out).mono ?_
  rintro e v1 ⟨rfl, ht, hk⟩
  have HR1 : Hid (runS (shapeS 12) (l, false, false) = (.s (nameS l false).1 :: (runS [.i, .b] ((nameS l false).2.1, (nameS l false).2.2, false)).1, (runS [.i, .b] ((nameS l false).2.1, (nameS l false).2.2, false)).2)) := hI (HR0.out.trans rfl)
  have HP1 : Hid (PtsV v1 F ([] ++ [.s (nameS l false).1]) ([] ++ [.string (tx (nameS l false).1)])) := hI ((HP0.out.keep hk HT0.out.hs (by rfl)).snoc (p := .s (nameS l false).1) rfl)
  have HT1 := hI ht
  have HK1 := hI (keepsM rfl HK0.out (HK0.out.size) hk)
  clear ht hk HT0 HK0 HR0 HP0
  generalize nameS l false = st at *
  obtain ⟨x1, l1, b1⟩ := st
  simp only at *
  have HS := HT1.out.ptr
  refine hK _ _ HS ?_
  clear hK K
  try simp only [Act.put, q1, q2, q3]
  refine anyH_ready (rs := [6]) (by decide +kernel) (by simp) ?_
  refine AllReadyH.cons (o := { dst := some 44, op := .call { callee := .value (.func 47), args := #[.tmp 43], argTypes := #[116] }, type := _, pos := _, after := _, guard := none }) rfl (fun K hK => ?_) AllReadyH.nil
  go_simp
  refine (ticket_any l1 b1 false pm p F v1 HT1.out).mono ?_
  rintro e v2 ⟨vb, ⟨rfl, ht, hk⟩, bv2, rfl, hb, ho⟩
  have HR2 : Hid (runS (shapeS 12) (l, false, false) = (.s x1 :: .i (tickS l1 b1 false).1 :: (runS [.b] (tickS l1 b1 false).2).1, (runS [.b] (tickS l1 b1 false).2).2)) := hI (HR1.out.trans rfl)
  obtain ⟨ab2, cb2, rfl, hcb2, hmb2⟩ := hb.form
  have HP2 : Hid (PtsV v2 F ([.s x1] ++ [.i (tickS l1 b1 false).1]) ([.string (tx x1)] ++ [.string (tx (tickS l1 b1 false).1.1), .slice ab2 (tickS l1 b1 false).1.2.length cb2])) := hI ((HP1.out.keep hk HT1.out.hs (by rfl)).snoc (p := .i (tickS l1 b1 false).1) ⟨_, rfl, hb, ho⟩)
  have HT2 := hI ht
  have HK2 := hI (keepsM rfl HK1.out (HK1.out.size) hk)
  clear ht hk hb ho HT1 HK1 HR1 HP1
  generalize tickS l1 b1 false = st at *
  obtain ⟨x2, l2, b2, c2⟩ := st
  simp only at *
  obtain ⟨y2, x2⟩ := x2
  simp only at *
  generalize hz2 : x2.length = z2 at *
  generalize hy2 : tx y2 = ty2 at *
  have HS := HT2.out.ptr
  refine hK _ _ HS ?_
  clear hK K
  try simp only [Act.put, q1, q2, q3]
  refine anyH_ready (rs := [11]) (by decide +kernel) (by simp) ?_
  refine AllReadyH.cons (o := { dst := some 49, op := .call { callee := .value (.func 46), args := #[.tmp 48], argTypes := #[117] }, type := _, pos := _, after := _, guard := none }) rfl (fun K hK => ?_) AllReadyH.nil
  go_simp
  refine (bytesK_any l2 b2 c2 pm p F v2 HT2.out).mono ?_
  rintro e v3 ⟨vb, ⟨rfl, ht, hk⟩, hb, ho⟩
  have HR3 : Hid (runS (shapeS 12) (l, false, false) = (.s x1 :: .i (y2, x2) :: .b (bytesS l2 b2).1 :: (runS [] ((bytesS l2 b2).2.1, (bytesS l2 b2).2.2, c2)).1, (runS [] ((bytesS l2 b2).2.1, (bytesS l2 b2).2.2, c2)).2)) := hI (HR2.out.trans rfl)
  obtain ⟨ab3, cb3, rfl, hcb3, hmb3⟩ := hb.form
  have HP3 : Hid (PtsV v3 F ([.s x1, .i (y2, x2)] ++ [.b (bytesS l2 b2).1]) ([.string (tx x1), .string ty2, .slice ab2 z2 cb2] ++ [.slice ab3 (bytesS l2 b2).1.length cb3])) := hI ((HP2.out.keep hk HT2.out.hs (by rfl)).snoc (p := .b (bytesS l2 b2).1) ⟨_, rfl, hb, ho⟩)
  have HT3 := hI ht
  have HK3 := hI (keepsM rfl HK2.out (HK2.out.size) hk)
  clear ht hk hb ho HT2 HK2 HR2 HP2
  generalize bytesS l2 b2 = st at *
  obtain ⟨x3, l3, b3⟩ := st
  simp only at *
  generalize hz3 : x3.length = z3 at *
  have HS := HT3.out.ptr
  refine hK _ _ HS ?_
  clear hK K
  try simp only [Act.put, q1, q2, q3]
  refine tkH 12 50 none (.agg #[.string (tx x1), .string ty2, .slice ab2 z2 cb2, .slice ab3 z3 cb3]) rfl (by kernel_rfl) (fun _ _ _ h => h) (by rfl) (by intro W hW; go_simp) HS ?_
  simp only [Act.put, q1, q2, q3]
  refine tkH 13 51 none (.iface 91 (.agg #[.string (tx x1), .string ty2, .slice ab2 z2 cb2, .slice ab3 z3 cb3])) rfl (by kernel_rfl) (fun _ _ _ h => h) (by rfl) (by intro W hW; go_simp) HS ?_
  simp only [Act.put, q1, q2, q3]
  refine tkH 14 5 none (.iface 91 (.agg #[.string (tx x1), .string ty2, .slice ab2 z2 cb2, .slice ab3 z3 cb3])) rfl (by kernel_rfl) (fun _ _ _ h => h) (by rfl) (by intro W hW; go_simp) HS ?_
  simp only [Act.put, q1, q2, q3]
  refine wpAnyH_done (by decide +kernel) ?_ _
  have ho := HOM.out _ _ _ _ _ _ (by decide) HR3.out ⟨_, rfl, HP3.out⟩
  have ht := HT3.out
  have hk := HK3.out
  obtain ⟨hb, hq⟩ := HKb.out _ hk
  have c0 : v3.cell? ⟨q, 0, none⟩ = some (.int .i64 x.kind) := hq.cell 0
  have m0 := ht.ptr
  have m1 : v3.cell? ⟨pm, 1, none⟩ = some (.bool c2) := ht.1.cell 1
  have HX := hI (OutM.no ho (HQ.out _ hb))
  have HY := hI (OutM.yes ho (HQ.out _ hb))
  have HD := hI (done_any l3 b3 p F v3 ht.2.1)
  clear ht hk ho hb hq
  by_cases hk2 : x.kind = 2
  · have HK2 := hI hk2
    have hkb : (x.kind != 2) = false := by simpa using hk2
    clear hk2
    generalize hdn : (!b3 && l3.isEmpty) = dn at *
    clear hdn
    cases c2 with
    | true =>
      go_wp2_with fail
      go_ret2
      exact HX.out (fun h => by simp at h)
    | false =>
      go_wp2_with fail
      refine HD.out.mono ?_
      rintro e w2 ⟨rfl, rfl⟩
      cases dn with
      | true =>
        go_wp2_with fail
        go_ret2
        exact HY.out HK2.out (by simp) (by first | rfl | trivial) (by first | rfl | trivial)
      | false =>
        go_wp2_with fail
        go_ret2
        exact HX.out (fun h => by simp at h)
  · have hkb : (x.kind != 2) = true := by simpa using hk2
    have HK2 := hI hk2
    clear hk2
    go_wp2_with fail
    go_ret2
    exact HX.out (fun h => HK2.out h.1)
set_option maxHeartbeats 16000000 in
set_option maxRecDepth 100000 in
theorem msgOf_14 (x : Tv) (F : Nat → Prop) (cs : List Value) (w : World) (h : TvF w F x cs) (hF : ∀ b, F b → b < w.heap.size) (hL : Lw x) (htag : x.tag = 14) :
    Calls Try.prog 28 #[.agg cs.toArray] w (OfM w F x) := by
  have HTG := hI htag
  clear htag
  have HLN := hI h.length
  have HQ0 := hI (Blk.new w cs 70)
  have hB0 : Below w.heap.size w (w.alloc (.cells cs.toArray 70)) := (Below.refl _ _).alloc (Nat.le_refl _) _
  have HB0 := hI hB0
  have HTK := hI (take_any x F cs _ (h.below hB0) (fun b hb => by have := hF b hb; simp; omega))
  have HL : Hid (∀ y ∈ x.l, y.l.length ≤ 1954687338211) := hI (fun y hy => by
    obtain ⟨k, t, n, b, l⟩ := x
    have h1 := LsW.mem hL.2 y hy
    obtain ⟨k2, t2, n2, b2, l2⟩ := y
    exact h1.1)
  have HF := hI hF
  obtain ⟨q, hq⟩ : ∃ q, q = w.heap.size := ⟨_, rfl⟩
  have HQ : Hid (∀ W, Below q w W → BelowO w W) := hI (fun W h => by rw [hq] at h; exact h)
  have hopen := h.open_
  clear h hB0 hL
  go_enter Try.func28, Try.ntmps28
  go_wp2_with ((with_reducible show wpList _ _ _ (⟨some 6, _, _, _, _, _⟩ :: _) _ _); refine wpList_ldAgg rfl (.tmp 1) aggDer rfl rfl (cs := cs) HLN.out HQ0.out.cellsAll ?_)
  refine HTK.out.mono ?_
  rintro e w0 ⟨p, rfl, ht, hb, hp⟩
  obtain ⟨bv, lv, rows, rfl, hb1, hb2, hb3, hb4, hb5⟩ := hopen
  obtain ⟨pm, hpm⟩ : ∃ pm, pm = w0.heap.size := ⟨_, rfl⟩
  have hA0 : Below w0.heap.size w0 (w0.alloc (.cells [.pointer (some ⟨p, 0, none⟩), .bool false].toArray 120)) := (Below.refl _ _).alloc (Nat.le_refl _) _
  have hpl := ht.lt
  have hz0 : w.heap.size ≤ w0.heap.size := by have := hb.size; simp at this; omega
  have ht0 : Tkn (w0.alloc (.cells [.pointer (some ⟨p, 0, none⟩), .bool false].toArray 120)) F pm p x.l false false := by
    refine ⟨by rw [hpm]; exact Blk.new _ _ _, ht.below hA0, by omega, fun h => ?_, fun b hb => ?_⟩
    · have := HF.out _ h; omega
    · have := HF.out _ hb; simp; omega
  have hq0 := (HQ0.out.below hb (by simp)).alloc (.cells [.pointer (some ⟨p, 0, none⟩), .bool false].toArray 120)
  have hbt : Below w.heap.size w (w0.alloc (.cells [.pointer (some ⟨p, 0, none⟩), .bool false].toArray 120)) := (HB0.out.trans (hb.mono (by simp))).trans (hA0.mono hz0)
  obtain ⟨wt, hwt⟩ : ∃ wt, wt = w0.alloc (.cells [.pointer (some ⟨p, 0, none⟩), .bool false].toArray 120) := ⟨_, rfl⟩
  rw [← hwt] at ht0 hq0 hbt
  have HT := hI ht0
  have HBT := hI hbt
  have HQT := hI hq0
  have HP : Hid (w.heap.size < p ∧ w.heap.size < pm ∧ w.heap.size < wt.heap.size) := hI (by simp at hp; have := ht0.lt; exact ⟨by omega, by omega, by omega⟩)
  have cT : wt.cell? ⟨w.heap.size, 1, none⟩ = some (.int .i64 x.tag) := HQT.out.cell 1
  have HKb : Hid (∀ W, Keeps (Sm pm p wt.heap.size) wt W → Below w.heap.size w W ∧ Blk W w.heap.size [.int .i64 x.kind, .int .i64 x.tag, .int .u64 (x.n : Int), bv, lv] 70) := hI (fun W hk =>
    ⟨HBT.out.trans (hk.below (fun b hb => by have := HP.out; rcases hb with h | h | h <;> omega)), HQT.out.keep hk (fun h => by have := HP.out; rcases h with h | h | h <;> omega)⟩)
  clear ht hb hp hb1 hb2 hb3 hb4 hb5 HQ0 HB0 HTK hA0 hpl hz0 ht0 hq0 hbt
  go_upto_region 2 with fail
  show Code.wp _ _ _ _ (w0.alloc (.cells [.pointer (some ⟨p, 0, none⟩), .bool false].toArray 120))
  rw [← hwt, ← hpm]
  clear hwt hpm
  rw [← hq] at *
  clear hq
  have hxt : 14 = x.tag := HTG.out.symm
  obtain ⟨l, hxl⟩ : ∃ l, l = x.l := ⟨_, rfl⟩
  have HXT := hI hxt
  have HXL := hI hxl
  rw [← hxt] at cT HKb HQT ⊢
  rw [← hxl] at HT HL
  clear hxt hxl HTG
  have HOM : Hid (∀ W o pts rem bad bad2, (shapeS x.tag).isEmpty = false → runS (shapeS x.tag) (x.l, false, false) = (pts, rem, bad, bad2) → MsgV W F x.tag pts o → OutM W F x o rem bad bad2) := hI (fun W o pts rem bad bad2 h0 h1 h2 => by unfold OutM; rw [if_neg (by rw [h0]; decide)]; exact ⟨pts, h1, h2⟩)
  rw [← HXT.out] at HOM
  rw [← HXL.out] at HOM
  clear HXT HXL
  go_upto_region 11 with fail
  refine wp_region_held (S := fun W : World => W.cell? ⟨pm, 0, none⟩ = some (.pointer (some ⟨p, 0, none⟩))) (by kernel_rfl) ?_
  change wpAnyH _ _ _ _ _ _ _ _ (World.drew _)
  have HS : (World.drew wt).cell? ⟨pm, 0, none⟩ = some (.pointer (some ⟨p, 0, none⟩)) := HT.out.ptr
  have HT0 := hI HT.out.drew
  have HK0 : Hid (Keeps (Sm pm p wt.heap.size) wt wt.drew) := hI (Keeps.refl _ _).drew
  have HR0 : Hid (runS (shapeS 14) (l, false, false) = runS [.s, .i, .b] (l, false, false)) := hI rfl
  have HP0 : Hid (PtsV wt.drew F [] []) := hI rfl
  generalize World.drew wt = wd at HS HT0 HK0 HP0 ⊢
  refine tkH 0 92 none (.pointer (some ⟨pm, 0, none⟩)) rfl (by kernel_rfl) (fun _ _ _ h => h) (by rfl) (by intro W hW; go_simp) HS ?_
  simp only [Act.put, q1, q2, q3]
  refine tkH 1 93 none (.pointer (some ⟨pm, 0, none⟩)) rfl (by kernel_rfl) (fun _ _ _ h => h) (by rfl) (by intro W hW; go_simp) HS ?_
  simp only [Act.put, q1, q2, q3]
  refine tkH 2 94 none (.pointer (some ⟨pm, 0, none⟩)) rfl (by kernel_rfl) (fun _ _ _ h => h) (by rfl) (by intro W hW; go_simp) HS ?_
  simp only [Act.put, q1, q2, q3]
  refine tkH 3 95 none (.pointer (some ⟨p, 0, none⟩)) rfl (by kernel_rfl) (fun _ _ _ h => h) (by rfl) (by intro W hW; have hc0 : W.cell? ⟨pm, 0, none⟩ = some (.pointer (some ⟨p, 0, none⟩)) := hW; go_simp) HS ?_
  simp only [Act.put, q1, q2, q3]
  refine tkH 5 97 none (.pointer (some ⟨pm, 0, none⟩)) rfl (by kernel_rfl) (fun _ _ _ h => h) (by rfl) (by intro W hW; go_simp) HS ?_
  simp only [Act.put, q1, q2, q3]
  refine tkH 7 99 none (.pointer (some ⟨pm, 0, none⟩)) rfl (by kernel_rfl) (fun _ _ _ h => h) (by rfl) (by intro W hW; go_simp) HS ?_
  simp only [Act.put, q1, q2, q3]
  refine tkH 8 100 none (.pointer (some ⟨pm, 0, none⟩)) rfl (by kernel_rfl) (fun _ _ _ h => h) (by rfl) (by intro W hW; go_simp) HS ?_
  simp only [Act.put, q1, q2, q3]
  refine tkH 9 101 none (.pointer (some ⟨pm, 0, none⟩)) rfl (by kernel_rfl) (fun _ _ _ h => h) (by rfl) (by intro W hW; go_simp) HS ?_
  simp only [Act.put, q1, q2, q3]
  refine tkH 10 102 none (.pointer (some ⟨p, 0, none⟩)) rfl (by kernel_rfl) (fun _ _ _ h => h) (by rfl) (by intro W hW; have hc0 : W.cell? ⟨pm, 0, none⟩ = some (.pointer (some ⟨p, 0, none⟩)) := hW; go_simp) HS ?_
  simp only [Act.put, q1, q2, q3]
  refine anyH_ready (rs := [4]) (by decide +kernel) (by simp) ?_
  refine AllReadyH.cons (o := { dst := some 96, op := .call { callee := .value (.func 44), args := #[.tmp 95], argTypes := #[117] }, type := _, pos := _, after := _, guard := none }) rfl (fun K hK => ?_) AllReadyH.nil
  go_simp
  refine (nameK_any l false false pm p F wd HT0.out).mono ?_
  rintro e v1 ⟨rfl, ht, hk⟩
  have HR1 : Hid (runS (shapeS 14) (l, false, false) = (.s (nameS l false).1 :: (runS [.i, .b] ((nameS l false).2.1, (nameS l false).2.2, false)).1, (runS [.i, .b] ((nameS l false).2.1, (nameS l false).2.2, false)).2)) := hI (HR0.out.trans rfl)
  have HP1 : Hid (PtsV v1 F ([] ++ [.s (nameS l false).1]) ([] ++ [.string (tx (nameS l false).1)])) := hI ((HP0.out.keep hk HT0.out.hs (by rfl)).snoc (p := .s (nameS l false).1) rfl)
  have HT1 := hI ht
  have HK1 := hI (keepsM rfl HK0.out (HK0.out.size) hk)
  clear ht hk HT0 HK0 HR0 HP0
  generalize nameS l false = st at *
  obtain ⟨x1, l1, b1⟩ := st
  simp only at *
  have HS := HT1.out.ptr
  refine hK _ _ HS ?_
  clear hK K
  try simp only [Act.put, q1, q2, q3]
  refine anyH_ready (rs := [6]) (by decide +kernel) (by simp) ?_
  refine AllReadyH.cons (o := { dst := some 98, op := .call { callee := .value (.func 47), args := #[.tmp 97], argTypes := #[116] }, type := _, pos := _, after := _, guard := none }) rfl (fun K hK => ?_) AllReadyH.nil
  go_simp
  refine (ticket_any l1 b1 false pm p F v1 HT1.out).mono ?_
  rintro e v2 ⟨vb, ⟨rfl, ht, hk⟩, bv2, rfl, hb, ho⟩
  have HR2 : Hid (runS (shapeS 14) (l, false, false) = (.s x1 :: .i (tickS l1 b1 false).1 :: (runS [.b] (tickS l1 b1 false).2).1, (runS [.b] (tickS l1 b1 false).2).2)) := hI (HR1.out.trans rfl)
  obtain ⟨ab2, cb2, rfl, hcb2, hmb2⟩ := hb.form
  have HP2 : Hid (PtsV v2 F ([.s x1] ++ [.i (tickS l1 b1 false).1]) ([.string (tx x1)] ++ [.string (tx (tickS l1 b1 false).1.1), .slice ab2 (tickS l1 b1 false).1.2.length cb2])) := hI ((HP1.out.keep hk HT1.out.hs (by rfl)).snoc (p := .i (tickS l1 b1 false).1) ⟨_, rfl, hb, ho⟩)
  have HT2 := hI ht
  have HK2 := hI (keepsM rfl HK1.out (HK1.out.size) hk)
  clear ht hk hb ho HT1 HK1 HR1 HP1
  generalize tickS l1 b1 false = st at *
  obtain ⟨x2, l2, b2, c2⟩ := st
  simp only at *
  obtain ⟨y2, x2⟩ := x2
  simp only at *
  generalize hz2 : x2.length = z2 at *
  generalize hy2 : tx y2 = ty2 at *
  have HS := HT2.out.ptr
  refine hK _ _ HS ?_
  clear hK K
  try simp only [Act.put, q1, q2, q3]
  refine anyH_ready (rs := [11]) (by decide +kernel) (by simp) ?_
  refine AllReadyH.cons (o := { dst := some 103, op := .call { callee := .value (.func 46), args := #[.tmp 102], argTypes := #[117] }, type := _, pos := _, after := _, guard := none }) rfl (fun K hK => ?_) AllReadyH.nil
  go_simp
  refine (bytesK_any l2 b2 c2 pm p F v2 HT2.out).mono ?_
  rintro e v3 ⟨vb, ⟨rfl, ht, hk⟩, hb, ho⟩
  have HR3 : Hid (runS (shapeS 14) (l, false, false) = (.s x1 :: .i (y2, x2) :: .b (bytesS l2 b2).1 :: (runS [] ((bytesS l2 b2).2.1, (bytesS l2 b2).2.2, c2)).1, (runS [] ((bytesS l2 b2).2.1, (bytesS l2 b2).2.2, c2)).2)) := hI (HR2.out.trans rfl)
  obtain ⟨ab3, cb3, rfl, hcb3, hmb3⟩ := hb.form
  have HP3 : Hid (PtsV v3 F ([.s x1, .i (y2, x2)] ++ [.b (bytesS l2 b2).1]) ([.string (tx x1), .string ty2, .slice ab2 z2 cb2] ++ [.slice ab3 (bytesS l2 b2).1.length cb3])) := hI ((HP2.out.keep hk HT2.out.hs (by rfl)).snoc (p := .b (bytesS l2 b2).1) ⟨_, rfl, hb, ho⟩)
  have HT3 := hI ht
  have HK3 := hI (keepsM rfl HK2.out (HK2.out.size) hk)
  clear ht hk hb ho HT2 HK2 HR2 HP2
  generalize bytesS l2 b2 = st at *
  obtain ⟨x3, l3, b3⟩ := st
  simp only at *
  generalize hz3 : x3.length = z3 at *
  have HS := HT3.out.ptr
  refine hK _ _ HS ?_
  clear hK K
  try simp only [Act.put, q1, q2, q3]
  refine tkH 12 104 none (.agg #[.string (tx x1), .string ty2, .slice ab2 z2 cb2, .slice ab3 z3 cb3]) rfl (by kernel_rfl) (fun _ _ _ h => h) (by rfl) (by intro W hW; go_simp) HS ?_
  simp only [Act.put, q1, q2, q3]
  refine tkH 13 105 none (.iface 92 (.agg #[.string (tx x1), .string ty2, .slice ab2 z2 cb2, .slice ab3 z3 cb3])) rfl (by kernel_rfl) (fun _ _ _ h => h) (by rfl) (by intro W hW; go_simp) HS ?_
  simp only [Act.put, q1, q2, q3]
  refine tkH 14 5 none (.iface 92 (.agg #[.string (tx x1), .string ty2, .slice ab2 z2 cb2, .slice ab3 z3 cb3])) rfl (by kernel_rfl) (fun _ _ _ h => h) (by rfl) (by intro W hW; go_simp) HS ?_
  simp only [Act.put, q1, q2, q3]
  refine wpAnyH_done (by decide +kernel) ?_ _
  have ho := HOM.out _ _ _ _ _ _ (by decide) HR3.out ⟨_, rfl, HP3.out⟩
  have ht := HT3.out
  have hk := HK3.out
  obtain ⟨hb, hq⟩ := HKb.out _ hk
  have c0 : v3.cell? ⟨q, 0, none⟩ = some (.int .i64 x.kind) := hq.cell 0
  have m0 := ht.ptr
  have m1 : v3.cell? ⟨pm, 1, none⟩ = some (.bool c2) := ht.1.cell 1
  have HX := hI (OutM.no ho (HQ.out _ hb))
  have HY := hI (OutM.yes ho (HQ.out _ hb))
  have HD := hI (done_any l3 b3 p F v3 ht.2.1)
  clear ht hk ho hb hq
  by_cases hk2 : x.kind = 2
  · have HK2 := hI hk2
    have hkb : (x.kind != 2) = false := by simpa using hk2
    clear hk2
    generalize hdn : (!b3 && l3.isEmpty) = dn at *
    clear hdn
    cases c2 with
    | true =>
      go_wp2_with fail
      go_ret2
      exact HX.out (fun h => by simp at h)
    | false =>
      go_wp2_with fail
      refine HD.out.mono ?_
      rintro e w2 ⟨rfl, rfl⟩
      cases dn with
      | true =>
        go_wp2_with fail
        go_ret2
        exact HY.out HK2.out (by simp) (by first | rfl | trivial) (by first | rfl | trivial)
      | false =>
        go_wp2_with fail
        go_ret2
        exact HX.out (fun h => by simp at h)
  · have hkb : (x.kind != 2) = true := by simpa using hk2
    have HK2 := hI hk2
    clear hk2
    go_wp2_with fail
    go_ret2
    exact HX.out (fun h => HK2.out h.1)
set_option maxHeartbeats 16000000 in
set_option maxRecDepth 100000 in
theorem msgOf_13 (x : Tv) (F : Nat → Prop) (cs : List Value) (w : World) (h : TvF w F x cs) (hF : ∀ b, F b → b < w.heap.size) (hL : Lw x) (htag : x.tag = 13) :
    Calls Try.prog 28 #[.agg cs.toArray] w (OfM w F x) := by
  have HTG := hI htag
  clear htag
  have HLN := hI h.length
  have HQ0 := hI (Blk.new w cs 70)
  have hB0 : Below w.heap.size w (w.alloc (.cells cs.toArray 70)) := (Below.refl _ _).alloc (Nat.le_refl _) _
  have HB0 := hI hB0
  have HTK := hI (take_any x F cs _ (h.below hB0) (fun b hb => by have := hF b hb; simp; omega))
  have HL : Hid (∀ y ∈ x.l, y.l.length ≤ 1954687338211) := hI (fun y hy => by
    obtain ⟨k, t, n, b, l⟩ := x
    have h1 := LsW.mem hL.2 y hy
    obtain ⟨k2, t2, n2, b2, l2⟩ := y
    exact h1.1)
  have HF := hI hF
  obtain ⟨q, hq⟩ : ∃ q, q = w.heap.size := ⟨_, rfl⟩
  have HQ : Hid (∀ W, Below q w W → BelowO w W) := hI (fun W h => by rw [hq] at h; exact h)
  have hopen := h.open_
  clear h hB0 hL
  go_enter Try.func28, Try.ntmps28
  go_wp2_with ((with_reducible show wpList _ _ _ (⟨some 6, _, _, _, _, _⟩ :: _) _ _); refine wpList_ldAgg rfl (.tmp 1) aggDer rfl rfl (cs := cs) HLN.out HQ0.out.cellsAll ?_)
  refine HTK.out.mono ?_
  rintro e w0 ⟨p, rfl, ht, hb, hp⟩
  obtain ⟨bv, lv, rows, rfl, hb1, hb2, hb3, hb4, hb5⟩ := hopen
  obtain ⟨pm, hpm⟩ : ∃ pm, pm = w0.heap.size := ⟨_, rfl⟩
  have hA0 : Below w0.heap.size w0 (w0.alloc (.cells [.pointer (some ⟨p, 0, none⟩), .bool false].toArray 120)) := (Below.refl _ _).alloc (Nat.le_refl _) _
  have hpl := ht.lt
  have hz0 : w.heap.size ≤ w0.heap.size := by have := hb.size; simp at this; omega
  have ht0 : Tkn (w0.alloc (.cells [.pointer (some ⟨p, 0, none⟩), .bool false].toArray 120)) F pm p x.l false false := by
    refine ⟨by rw [hpm]; exact Blk.new _ _ _, ht.below hA0, by omega, fun h => ?_, fun b hb => ?_⟩
    · have := HF.out _ h; omega
    · have := HF.out _ hb; simp; omega
  have hq0 := (HQ0.out.below hb (by simp)).alloc (.cells [.pointer (some ⟨p, 0, none⟩), .bool false].toArray 120)
  have hbt : Below w.heap.size w (w0.alloc (.cells [.pointer (some ⟨p, 0, none⟩), .bool false].toArray 120)) := (HB0.out.trans (hb.mono (by simp))).trans (hA0.mono hz0)
  obtain ⟨wt, hwt⟩ : ∃ wt, wt = w0.alloc (.cells [.pointer (some ⟨p, 0, none⟩), .bool false].toArray 120) := ⟨_, rfl⟩
  rw [← hwt] at ht0 hq0 hbt
  have HT := hI ht0
  have HBT := hI hbt
  have HQT := hI hq0
  have HP : Hid (w.heap.size < p ∧ w.heap.size < pm ∧ w.heap.size < wt.heap.size) := hI (by simp at hp; have := ht0.lt; exact ⟨by omega, by omega, by omega⟩)
  have cT : wt.cell? ⟨w.heap.size, 1, none⟩ = some (.int .i64 x.tag) := HQT.out.cell 1
  have HKb : Hid (∀ W, Keeps (Sm pm p wt.heap.size) wt W → Below w.heap.size w W ∧ Blk W w.heap.size [.int .i64 x.kind, .int .i64 x.tag, .int .u64 (x.n : Int), bv, lv] 70) := hI (fun W hk =>
    ⟨HBT.out.trans (hk.below (fun b hb => by have := HP.out; rcases hb with h | h | h <;> omega)), HQT.out.keep hk (fun h => by have := HP.out; rcases h with h | h | h <;> omega)⟩)
  clear ht hb hp hb1 hb2 hb3 hb4 hb5 HQ0 HB0 HTK hA0 hpl hz0 ht0 hq0 hbt
  go_upto_region 2 with fail
  show Code.wp _ _ _ _ (w0.alloc (.cells [.pointer (some ⟨p, 0, none⟩), .bool false].toArray 120))
  rw [← hwt, ← hpm]
  clear hwt hpm
  rw [← hq] at *
  clear hq
  have hxt : 13 = x.tag := HTG.out.symm
  obtain ⟨l, hxl⟩ : ∃ l, l = x.l := ⟨_, rfl⟩
  have HXT := hI hxt
  have HXL := hI hxl
  rw [← hxt] at cT HKb HQT ⊢
  rw [← hxl] at HT HL
  clear hxt hxl HTG
  have HOM : Hid (∀ W o pts rem bad bad2, (shapeS x.tag).isEmpty = false → runS (shapeS x.tag) (x.l, false, false) = (pts, rem, bad, bad2) → MsgV W F x.tag pts o → OutM W F x o rem bad bad2) := hI (fun W o pts rem bad bad2 h0 h1 h2 => by unfold OutM; rw [if_neg (by rw [h0]; decide)]; exact ⟨pts, h1, h2⟩)
  rw [← HXT.out] at HOM
  rw [← HXL.out] at HOM
  clear HXT HXL
  go_upto_region 9 with fail
  refine wp_region_held (S := fun W : World => W.cell? ⟨pm, 0, none⟩ = some (.pointer (some ⟨p, 0, none⟩))) (by kernel_rfl) ?_
  change wpAnyH _ _ _ _ _ _ _ _ (World.drew _)
  have HS : (World.drew wt).cell? ⟨pm, 0, none⟩ = some (.pointer (some ⟨p, 0, none⟩)) := HT.out.ptr
  have HT0 := hI HT.out.drew
  have HK0 : Hid (Keeps (Sm pm p wt.heap.size) wt wt.drew) := hI (Keeps.refl _ _).drew
  have HR0 : Hid (runS (shapeS 13) (l, false, false) = runS [.s, .n, .n, .t, .t, .i, .b, .x] (l, false, false)) := hI rfl
  have HP0 : Hid (PtsV wt.drew F [] []) := hI rfl
  generalize World.drew wt = wd at HS HT0 HK0 HP0 ⊢
  have HL0 := HL
  refine tkH 0 54 none (.pointer (some ⟨pm, 0, none⟩)) rfl (by kernel_rfl) (fun _ _ _ h => h) (by rfl) (by intro W hW; go_simp) HS ?_
  simp only [Act.put, q1, q2, q3]
  refine tkH 1 55 none (.pointer (some ⟨pm, 0, none⟩)) rfl (by kernel_rfl) (fun _ _ _ h => h) (by rfl) (by intro W hW; go_simp) HS ?_
  simp only [Act.put, q1, q2, q3]
  refine tkH 2 56 none (.pointer (some ⟨pm, 0, none⟩)) rfl (by kernel_rfl) (fun _ _ _ h => h) (by rfl) (by intro W hW; go_simp) HS ?_
  simp only [Act.put, q1, q2, q3]
  refine tkH 3 57 none (.pointer (some ⟨p, 0, none⟩)) rfl (by kernel_rfl) (fun _ _ _ h => h) (by rfl) (by intro W hW; have hc0 : W.cell? ⟨pm, 0, none⟩ = some (.pointer (some ⟨p, 0, none⟩)) := hW; go_simp) HS ?_
  simp only [Act.put, q1, q2, q3]
  refine tkH 5 59 none (.pointer (some ⟨pm, 0, none⟩)) rfl (by kernel_rfl) (fun _ _ _ h => h) (by rfl) (by intro W hW; go_simp) HS ?_
  simp only [Act.put, q1, q2, q3]
  refine tkH 6 60 none (.pointer (some ⟨pm, 0, none⟩)) rfl (by kernel_rfl) (fun _ _ _ h => h) (by rfl) (by intro W hW; go_simp) HS ?_
  simp only [Act.put, q1, q2, q3]
  refine tkH 7 61 none (.pointer (some ⟨pm, 0, none⟩)) rfl (by kernel_rfl) (fun _ _ _ h => h) (by rfl) (by intro W hW; go_simp) HS ?_
  simp only [Act.put, q1, q2, q3]
  refine tkH 8 62 none (.pointer (some ⟨p, 0, none⟩)) rfl (by kernel_rfl) (fun _ _ _ h => h) (by rfl) (by intro W hW; have hc0 : W.cell? ⟨pm, 0, none⟩ = some (.pointer (some ⟨p, 0, none⟩)) := hW; go_simp) HS ?_
  simp only [Act.put, q1, q2, q3]
  refine tkH 10 64 none (.pointer (some ⟨pm, 0, none⟩)) rfl (by kernel_rfl) (fun _ _ _ h => h) (by rfl) (by intro W hW; go_simp) HS ?_
  simp only [Act.put, q1, q2, q3]
  refine tkH 11 65 none (.pointer (some ⟨pm, 0, none⟩)) rfl (by kernel_rfl) (fun _ _ _ h => h) (by rfl) (by intro W hW; go_simp) HS ?_
  simp only [Act.put, q1, q2, q3]
  refine tkH 12 66 none (.pointer (some ⟨pm, 0, none⟩)) rfl (by kernel_rfl) (fun _ _ _ h => h) (by rfl) (by intro W hW; go_simp) HS ?_
  simp only [Act.put, q1, q2, q3]
  refine tkH 13 67 none (.pointer (some ⟨p, 0, none⟩)) rfl (by kernel_rfl) (fun _ _ _ h => h) (by rfl) (by intro W hW; have hc0 : W.cell? ⟨pm, 0, none⟩ = some (.pointer (some ⟨p, 0, none⟩)) := hW; go_simp) HS ?_
  simp only [Act.put, q1, q2, q3]
  refine tkH 15 69 none (.pointer (some ⟨pm, 0, none⟩)) rfl (by kernel_rfl) (fun _ _ _ h => h) (by rfl) (by intro W hW; go_simp) HS ?_
  simp only [Act.put, q1, q2, q3]
  refine tkH 16 70 none (.pointer (some ⟨pm, 0, none⟩)) rfl (by kernel_rfl) (fun _ _ _ h => h) (by rfl) (by intro W hW; go_simp) HS ?_
  simp only [Act.put, q1, q2, q3]
  refine tkH 17 71 none (.pointer (some ⟨pm, 0, none⟩)) rfl (by kernel_rfl) (fun _ _ _ h => h) (by rfl) (by intro W hW; go_simp) HS ?_
  simp only [Act.put, q1, q2, q3]
  refine tkH 18 72 none (.pointer (some ⟨p, 0, none⟩)) rfl (by kernel_rfl) (fun _ _ _ h => h) (by rfl) (by intro W hW; have hc0 : W.cell? ⟨pm, 0, none⟩ = some (.pointer (some ⟨p, 0, none⟩)) := hW; go_simp) HS ?_
  simp only [Act.put, q1, q2, q3]
  refine tkH 20 74 none (.pointer (some ⟨pm, 0, none⟩)) rfl (by kernel_rfl) (fun _ _ _ h => h) (by rfl) (by intro W hW; go_simp) HS ?_
  simp only [Act.put, q1, q2, q3]
  refine tkH 21 75 none (.pointer (some ⟨pm, 0, none⟩)) rfl (by kernel_rfl) (fun _ _ _ h => h) (by rfl) (by intro W hW; go_simp) HS ?_
  simp only [Act.put, q1, q2, q3]
  refine tkH 22 76 none (.pointer (some ⟨pm, 0, none⟩)) rfl (by kernel_rfl) (fun _ _ _ h => h) (by rfl) (by intro W hW; go_simp) HS ?_
  simp only [Act.put, q1, q2, q3]
  refine tkH 23 77 none (.pointer (some ⟨p, 0, none⟩)) rfl (by kernel_rfl) (fun _ _ _ h => h) (by rfl) (by intro W hW; have hc0 : W.cell? ⟨pm, 0, none⟩ = some (.pointer (some ⟨p, 0, none⟩)) := hW; go_simp) HS ?_
  simp only [Act.put, q1, q2, q3]
  refine tkH 25 79 none (.pointer (some ⟨pm, 0, none⟩)) rfl (by kernel_rfl) (fun _ _ _ h => h) (by rfl) (by intro W hW; go_simp) HS ?_
  simp only [Act.put, q1, q2, q3]
  refine tkH 27 81 none (.pointer (some ⟨pm, 0, none⟩)) rfl (by kernel_rfl) (fun _ _ _ h => h) (by rfl) (by intro W hW; go_simp) HS ?_
  simp only [Act.put, q1, q2, q3]
  refine tkH 28 82 none (.pointer (some ⟨pm, 0, none⟩)) rfl (by kernel_rfl) (fun _ _ _ h => h) (by rfl) (by intro W hW; go_simp) HS ?_
  simp only [Act.put, q1, q2, q3]
  refine tkH 29 83 none (.pointer (some ⟨pm, 0, none⟩)) rfl (by kernel_rfl) (fun _ _ _ h => h) (by rfl) (by intro W hW; go_simp) HS ?_
  simp only [Act.put, q1, q2, q3]
  refine tkH 30 84 none (.pointer (some ⟨p, 0, none⟩)) rfl (by kernel_rfl) (fun _ _ _ h => h) (by rfl) (by intro W hW; have hc0 : W.cell? ⟨pm, 0, none⟩ = some (.pointer (some ⟨p, 0, none⟩)) := hW; go_simp) HS ?_
  simp only [Act.put, q1, q2, q3]
  refine tkH 32 86 none (.pointer (some ⟨pm, 0, none⟩)) rfl (by kernel_rfl) (fun _ _ _ h => h) (by rfl) (by intro W hW; go_simp) HS ?_
  simp only [Act.put, q1, q2, q3]
  refine anyH_ready (rs := [4]) (by decide +kernel) (by simp) ?_
  refine AllReadyH.cons (o := { dst := some 58, op := .call { callee := .value (.func 44), args := #[.tmp 57], argTypes := #[117] }, type := _, pos := _, after := _, guard := none }) rfl (fun K hK => ?_) AllReadyH.nil
  go_simp
  refine (nameK_any l false false pm p F wd HT0.out).mono ?_
  rintro e v1 ⟨rfl, ht, hk⟩
  have HR1 : Hid (runS (shapeS 13) (l, false, false) = (.s (nameS l false).1 :: (runS [.n, .n, .t, .t, .i, .b, .x] ((nameS l false).2.1, (nameS l false).2.2, false)).1, (runS [.n, .n, .t, .t, .i, .b, .x] ((nameS l false).2.1, (nameS l false).2.2, false)).2)) := hI (HR0.out.trans rfl)
  have HL1 : Hid (∀ y ∈ (nameS l false).2.1, y.l.length ≤ 1954687338211) := hI (fun y hy => HL0.out y (nameS_sub y hy))
  have HP1 : Hid (PtsV v1 F ([] ++ [.s (nameS l false).1]) ([] ++ [.string (tx (nameS l false).1)])) := hI ((HP0.out.keep hk HT0.out.hs (by rfl)).snoc (p := .s (nameS l false).1) rfl)
  have HT1 := hI ht
  have HK1 := hI (keepsM rfl HK0.out (HK0.out.size) hk)
  clear ht hk HT0 HK0 HR0 HP0 HL0
  generalize nameS l false = st at *
  obtain ⟨x1, l1, b1⟩ := st
  simp only at *
  have HS := HT1.out.ptr
  refine hK _ _ HS ?_
  clear hK K
  try simp only [Act.put, q1, q2, q3]
  refine anyH_ready (rs := [9]) (by decide +kernel) (by simp) ?_
  refine AllReadyH.cons (o := { dst := some 63, op := .call { callee := .value (.func 45), args := #[.tmp 62], argTypes := #[117] }, type := _, pos := _, after := _, guard := none }) rfl (fun K hK => ?_) AllReadyH.nil
  go_simp
  refine (numK_any l1 b1 false pm p F v1 HT1.out).mono ?_
  rintro e v2 ⟨rfl, ht, hk⟩
  have HR2 : Hid (runS (shapeS 13) (l, false, false) = (.s x1 :: .n (numS l1 b1).1 :: (runS [.n, .t, .t, .i, .b, .x] ((numS l1 b1).2.1, (numS l1 b1).2.2, false)).1, (runS [.n, .t, .t, .i, .b, .x] ((numS l1 b1).2.1, (numS l1 b1).2.2, false)).2)) := hI (HR1.out.trans rfl)
  have HL2 : Hid (∀ y ∈ (numS l1 b1).2.1, y.l.length ≤ 1954687338211) := hI (fun y hy => HL1.out y (numS_sub y hy))
  have HP2 : Hid (PtsV v2 F ([.s x1] ++ [.n (numS l1 b1).1]) ([.string (tx x1)] ++ [.int .i64 (numS l1 b1).1])) := hI ((HP1.out.keep hk HT1.out.hs (by rfl)).snoc (p := .n (numS l1 b1).1) rfl)
  have HT2 := hI ht
  have HK2 := hI (keepsM rfl HK1.out (HK1.out.size) hk)
  clear ht hk HT1 HK1 HR1 HP1 HL1
  generalize numS l1 b1 = st at *
  obtain ⟨x2, l2, b2⟩ := st
  simp only at *
  have HS := HT2.out.ptr
  refine hK _ _ HS ?_
  clear hK K
  try simp only [Act.put, q1, q2, q3]
  refine anyH_ready (rs := [14]) (by decide +kernel) (by simp) ?_
  refine AllReadyH.cons (o := { dst := some 68, op := .call { callee := .value (.func 45), args := #[.tmp 67], argTypes := #[117] }, type := _, pos := _, after := _, guard := none }) rfl (fun K hK => ?_) AllReadyH.nil
  go_simp
  refine (numK_any l2 b2 false pm p F v2 HT2.out).mono ?_
  rintro e v3 ⟨rfl, ht, hk⟩
  have HR3 : Hid (runS (shapeS 13) (l, false, false) = (.s x1 :: .n x2 :: .n (numS l2 b2).1 :: (runS [.t, .t, .i, .b, .x] ((numS l2 b2).2.1, (numS l2 b2).2.2, false)).1, (runS [.t, .t, .i, .b, .x] ((numS l2 b2).2.1, (numS l2 b2).2.2, false)).2)) := hI (HR2.out.trans rfl)
  have HL3 : Hid (∀ y ∈ (numS l2 b2).2.1, y.l.length ≤ 1954687338211) := hI (fun y hy => HL2.out y (numS_sub y hy))
  have HP3 : Hid (PtsV v3 F ([.s x1, .n x2] ++ [.n (numS l2 b2).1]) ([.string (tx x1), .int .i64 x2] ++ [.int .i64 (numS l2 b2).1])) := hI ((HP2.out.keep hk HT2.out.hs (by rfl)).snoc (p := .n (numS l2 b2).1) rfl)
  have HT3 := hI ht
  have HK3 := hI (keepsM rfl HK2.out (HK2.out.size) hk)
  clear ht hk HT2 HK2 HR2 HP2 HL2
  generalize numS l2 b2 = st at *
  obtain ⟨x3, l3, b3⟩ := st
  simp only at *
  have HS := HT3.out.ptr
  refine hK _ _ HS ?_
  clear hK K
  try simp only [Act.put, q1, q2, q3]
  refine anyH_ready (rs := [19]) (by decide +kernel) (by simp) ?_
  refine AllReadyH.cons (o := { dst := some 73, op := .call { callee := .value (.func 48), args := #[.tmp 72], argTypes := #[117] }, type := _, pos := _, after := _, guard := none }) rfl (fun K hK => ?_) AllReadyH.nil
  go_simp
  refine (truthK_any l3 b3 false pm p F v3 HT3.out).mono ?_
  rintro e v4 ⟨rfl, ht, hk⟩
  have HR4 : Hid (runS (shapeS 13) (l, false, false) = (.s x1 :: .n x2 :: .n x3 :: .t (truthS l3 b3).1 :: (runS [.t, .i, .b, .x] ((truthS l3 b3).2.1, (truthS l3 b3).2.2, false)).1, (runS [.t, .i, .b, .x] ((truthS l3 b3).2.1, (truthS l3 b3).2.2, false)).2)) := hI (HR3.out.trans rfl)
  have HL4 : Hid (∀ y ∈ (truthS l3 b3).2.1, y.l.length ≤ 1954687338211) := hI (fun y hy => HL3.out y (truthS_sub y hy))
  have HP4 : Hid (PtsV v4 F ([.s x1, .n x2, .n x3] ++ [.t (truthS l3 b3).1]) ([.string (tx x1), .int .i64 x2, .int .i64 x3] ++ [.bool (truthS l3 b3).1])) := hI ((HP3.out.keep hk HT3.out.hs (by rfl)).snoc (p := .t (truthS l3 b3).1) rfl)
  have HT4 := hI ht
  have HK4 := hI (keepsM rfl HK3.out (HK3.out.size) hk)
  clear ht hk HT3 HK3 HR3 HP3 HL3
  generalize truthS l3 b3 = st at *
  obtain ⟨x4, l4, b4⟩ := st
  simp only at *
  have HS := HT4.out.ptr
  refine hK _ _ HS ?_
  clear hK K
  try simp only [Act.put, q1, q2, q3]
  refine anyH_ready (rs := [24]) (by decide +kernel) (by simp) ?_
  refine AllReadyH.cons (o := { dst := some 78, op := .call { callee := .value (.func 48), args := #[.tmp 77], argTypes := #[117] }, type := _, pos := _, after := _, guard := none }) rfl (fun K hK => ?_) AllReadyH.nil
  go_simp
  refine (truthK_any l4 b4 false pm p F v4 HT4.out).mono ?_
  rintro e v5 ⟨rfl, ht, hk⟩
  have HR5 : Hid (runS (shapeS 13) (l, false, false) = (.s x1 :: .n x2 :: .n x3 :: .t x4 :: .t (truthS l4 b4).1 :: (runS [.i, .b, .x] ((truthS l4 b4).2.1, (truthS l4 b4).2.2, false)).1, (runS [.i, .b, .x] ((truthS l4 b4).2.1, (truthS l4 b4).2.2, false)).2)) := hI (HR4.out.trans rfl)
  have HL5 : Hid (∀ y ∈ (truthS l4 b4).2.1, y.l.length ≤ 1954687338211) := hI (fun y hy => HL4.out y (truthS_sub y hy))
  have HP5 : Hid (PtsV v5 F ([.s x1, .n x2, .n x3, .t x4] ++ [.t (truthS l4 b4).1]) ([.string (tx x1), .int .i64 x2, .int .i64 x3, .bool x4] ++ [.bool (truthS l4 b4).1])) := hI ((HP4.out.keep hk HT4.out.hs (by rfl)).snoc (p := .t (truthS l4 b4).1) rfl)
  have HT5 := hI ht
  have HK5 := hI (keepsM rfl HK4.out (HK4.out.size) hk)
  clear ht hk HT4 HK4 HR4 HP4 HL4
  generalize truthS l4 b4 = st at *
  obtain ⟨x5, l5, b5⟩ := st
  simp only at *
  have HS := HT5.out.ptr
  refine hK _ _ HS ?_
  clear hK K
  try simp only [Act.put, q1, q2, q3]
  refine anyH_ready (rs := [26]) (by decide +kernel) (by simp) ?_
  refine AllReadyH.cons (o := { dst := some 80, op := .call { callee := .value (.func 47), args := #[.tmp 79], argTypes := #[116] }, type := _, pos := _, after := _, guard := none }) rfl (fun K hK => ?_) AllReadyH.nil
  go_simp
  refine (ticket_any l5 b5 false pm p F v5 HT5.out).mono ?_
  rintro e v6 ⟨vb, ⟨rfl, ht, hk⟩, bv6, rfl, hb, ho⟩
  have HR6 : Hid (runS (shapeS 13) (l, false, false) = (.s x1 :: .n x2 :: .n x3 :: .t x4 :: .t x5 :: .i (tickS l5 b5 false).1 :: (runS [.b, .x] (tickS l5 b5 false).2).1, (runS [.b, .x] (tickS l5 b5 false).2).2)) := hI (HR5.out.trans rfl)
  have HL6 : Hid (∀ y ∈ (tickS l5 b5 false).2.1, y.l.length ≤ 1954687338211) := hI (fun y hy => HL5.out y (tickS_sub y hy))
  obtain ⟨ab6, cb6, rfl, hcb6, hmb6⟩ := hb.form
  have HP6 : Hid (PtsV v6 F ([.s x1, .n x2, .n x3, .t x4, .t x5] ++ [.i (tickS l5 b5 false).1]) ([.string (tx x1), .int .i64 x2, .int .i64 x3, .bool x4, .bool x5] ++ [.string (tx (tickS l5 b5 false).1.1), .slice ab6 (tickS l5 b5 false).1.2.length cb6])) := hI ((HP5.out.keep hk HT5.out.hs (by rfl)).snoc (p := .i (tickS l5 b5 false).1) ⟨_, rfl, hb, ho⟩)
  have HT6 := hI ht
  have HK6 := hI (keepsM rfl HK5.out (HK5.out.size) hk)
  clear ht hk hb ho HT5 HK5 HR5 HP5 HL5
  generalize tickS l5 b5 false = st at *
  obtain ⟨x6, l6, b6, c6⟩ := st
  simp only at *
  obtain ⟨y6, x6⟩ := x6
  simp only at *
  generalize hz6 : x6.length = z6 at *
  generalize hy6 : tx y6 = ty6 at *
  have HS := HT6.out.ptr
  refine hK _ _ HS ?_
  clear hK K
  try simp only [Act.put, q1, q2, q3]
  refine anyH_ready (rs := [31]) (by decide +kernel) (by simp) ?_
  refine AllReadyH.cons (o := { dst := some 85, op := .call { callee := .value (.func 46), args := #[.tmp 84], argTypes := #[117] }, type := _, pos := _, after := _, guard := none }) rfl (fun K hK => ?_) AllReadyH.nil
  go_simp
  refine (bytesK_any l6 b6 c6 pm p F v6 HT6.out).mono ?_
  rintro e v7 ⟨vb, ⟨rfl, ht, hk⟩, hb, ho⟩
  have HR7 : Hid (runS (shapeS 13) (l, false, false) = (.s x1 :: .n x2 :: .n x3 :: .t x4 :: .t x5 :: .i (y6, x6) :: .b (bytesS l6 b6).1 :: (runS [.x] ((bytesS l6 b6).2.1, (bytesS l6 b6).2.2, c6)).1, (runS [.x] ((bytesS l6 b6).2.1, (bytesS l6 b6).2.2, c6)).2)) := hI (HR6.out.trans rfl)
  have HL7 : Hid (∀ y ∈ (bytesS l6 b6).2.1, y.l.length ≤ 1954687338211) := hI (fun y hy => HL6.out y (bytesS_sub y hy))
  obtain ⟨ab7, cb7, rfl, hcb7, hmb7⟩ := hb.form
  have HP7 : Hid (PtsV v7 F ([.s x1, .n x2, .n x3, .t x4, .t x5, .i (y6, x6)] ++ [.b (bytesS l6 b6).1]) ([.string (tx x1), .int .i64 x2, .int .i64 x3, .bool x4, .bool x5, .string ty6, .slice ab6 z6 cb6] ++ [.slice ab7 (bytesS l6 b6).1.length cb7])) := hI ((HP6.out.keep hk HT6.out.hs (by rfl)).snoc (p := .b (bytesS l6 b6).1) ⟨_, rfl, hb, ho⟩)
  have HT7 := hI ht
  have HK7 := hI (keepsM rfl HK6.out (HK6.out.size) hk)
  clear ht hk hb ho HT6 HK6 HR6 HP6 HL6
  generalize bytesS l6 b6 = st at *
  obtain ⟨x7, l7, b7⟩ := st
  simp only at *
  generalize hz7 : x7.length = z7 at *
  have HS := HT7.out.ptr
  refine hK _ _ HS ?_
  clear hK K
  try simp only [Act.put, q1, q2, q3]
  refine anyH_ready (rs := [33]) (by decide +kernel) (by simp) ?_
  refine AllReadyH.cons (o := { dst := some 87, op := .call { callee := .value (.func 49), args := #[.tmp 86], argTypes := #[116] }, type := _, pos := _, after := _, guard := none }) rfl (fun K hK => ?_) AllReadyH.nil
  go_simp
  refine (extra_any l7 b7 c6 pm p F v7 HT7.out HL7.out).mono ?_
  rintro e v8 ⟨vb, ⟨rfl, ht, hk⟩, hx⟩
  have HR8 : Hid (runS (shapeS 13) (l, false, false) = (.s x1 :: .n x2 :: .n x3 :: .t x4 :: .t x5 :: .i (y6, x6) :: .b x7 :: .x (extraS l7 b7 c6).1 :: (runS [] (extraS l7 b7 c6).2).1, (runS [] (extraS l7 b7 c6).2).2)) := hI (HR7.out.trans rfl)
  obtain ⟨rows, hx1, hx2⟩ := hx
  obtain ⟨ab8, cb8, rfl, hcb8, hmb8⟩ := hx1.form
  have HP8 : Hid (PtsV v8 F ([.s x1, .n x2, .n x3, .t x4, .t x5, .i (y6, x6), .b x7] ++ [.x (extraS l7 b7 c6).1]) ([.string (tx x1), .int .i64 x2, .int .i64 x3, .bool x4, .bool x5, .string ty6, .slice ab6 z6 cb6, .slice ab7 z7 cb7] ++ [.slice ab8 (extraS l7 b7 c6).1.length cb8])) := hI ((HP7.out.keep hk HT7.out.hs (by rfl)).snoc (p := .x (extraS l7 b7 c6).1) ⟨_, rfl, rows, hx1, hx2⟩)
  have HT8 := hI ht
  have HK8 := hI (keepsM rfl HK7.out (HK7.out.size) hk)
  clear ht hk hx1 hx2 HT7 HK7 HR7 HP7
  generalize extraS l7 b7 c6 = st at *
  obtain ⟨x8, l8, b8, c8⟩ := st
  simp only at *
  generalize hz8 : x8.length = z8 at *
  have HS := HT8.out.ptr
  refine hK _ _ HS ?_
  clear hK K
  try simp only [Act.put, q1, q2, q3]
  refine tkH 34 88 none (.agg #[.string (tx x1), .int .i64 x2, .int .i64 x3, .bool x4, .bool x5, .string ty6, .slice ab6 z6 cb6, .slice ab7 z7 cb7, .slice ab8 z8 cb8]) rfl (by kernel_rfl) (fun _ _ _ h => h) (by rfl) (by intro W hW; go_simp) HS ?_
  simp only [Act.put, q1, q2, q3]
  refine tkH 35 89 none (.iface 87 (.agg #[.string (tx x1), .int .i64 x2, .int .i64 x3, .bool x4, .bool x5, .string ty6, .slice ab6 z6 cb6, .slice ab7 z7 cb7, .slice ab8 z8 cb8])) rfl (by kernel_rfl) (fun _ _ _ h => h) (by rfl) (by intro W hW; go_simp) HS ?_
  simp only [Act.put, q1, q2, q3]
  refine tkH 36 5 none (.iface 87 (.agg #[.string (tx x1), .int .i64 x2, .int .i64 x3, .bool x4, .bool x5, .string ty6, .slice ab6 z6 cb6, .slice ab7 z7 cb7, .slice ab8 z8 cb8])) rfl (by kernel_rfl) (fun _ _ _ h => h) (by rfl) (by intro W hW; go_simp) HS ?_
  simp only [Act.put, q1, q2, q3]
  refine wpAnyH_done (by decide +kernel) ?_ _
  have ho := HOM.out _ _ _ _ _ _ (by decide) HR8.out ⟨_, rfl, HP8.out⟩
  have ht := HT8.out
  have hk := HK8.out
  obtain ⟨hb, hq⟩ := HKb.out _ hk
  have c0 : v8.cell? ⟨q, 0, none⟩ = some (.int .i64 x.kind) := hq.cell 0
  have m0 := ht.ptr
  have m1 : v8.cell? ⟨pm, 1, none⟩ = some (.bool c8) := ht.1.cell 1
  have HX := hI (OutM.no ho (HQ.out _ hb))
  have HY := hI (OutM.yes ho (HQ.out _ hb))
  have HD := hI (done_any l8 b8 p F v8 ht.2.1)
  clear ht hk ho hb hq
  by_cases hk2 : x.kind = 2
  · have HK2 := hI hk2
    have hkb : (x.kind != 2) = false := by simpa using hk2
    clear hk2
    generalize hdn : (!b8 && l8.isEmpty) = dn at *
    clear hdn
    cases c8 with
    | true =>
      go_wp2_with fail
      go_ret2
      exact HX.out (fun h => by simp at h)
    | false =>
      go_wp2_with fail
      refine HD.out.mono ?_
      rintro e w2 ⟨rfl, rfl⟩
      cases dn with
      | true =>
        go_wp2_with fail
        go_ret2
        exact HY.out HK2.out (by simp) (by first | rfl | trivial) (by first | rfl | trivial)
      | false =>
        go_wp2_with fail
        go_ret2
        exact HX.out (fun h => by simp at h)
  · have hkb : (x.kind != 2) = true := by simpa using hk2
    have HK2 := hI hk2
    clear hk2
    go_wp2_with fail
    go_ret2
    exact HX.out (fun h => HK2.out h.1)
end Go.Proofs.Ytofmkkcbfeadgaa
