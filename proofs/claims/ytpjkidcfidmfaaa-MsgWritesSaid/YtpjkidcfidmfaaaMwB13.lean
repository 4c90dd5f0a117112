/- Texts of this proof, one behind the other: MMsgOB, MMsgOC. -/
import Derived.Test.YtpjkidcfidmfaaaMwB12
namespace Go.Proofs.Ytpjkidcfidmfaaa
set_option linter.unusedSimpArgs false
set_option linter.unusedVariables false
open Go.RowKit
set_option maxHeartbeats 16000000 in
set_option maxRecDepth 100000 in
theorem msgOf_13 (x : Tv) (F : Nat → Prop) (cs : List Value) (w : World) (h : TvF w F x cs) (hF : ∀ b, F b → b < w.heap.size) (hL : Lw x) (htag : x.tag = 13) :
    Calls Try.prog 19 #[.agg cs.toArray] w (OfM w F x) := by
  have HTG := hqZ htag
  clear htag
  have HLN := hqZ h.length
  have HQ0 := hqZ (Blk.new w cs 38)
  have hB0 : Below w.heap.size w (w.alloc (.cells cs.toArray 38)) := (Below.refl _ _).alloc (Nat.le_refl _) _
  have HB0 := hqZ hB0
  have HTK := hqZ (take_any x F cs _ (h.below hB0) (fun b hb => by have := hF b hb; simp; omega))
  have HL : Hid (∀ y ∈ x.l, y.l.length ≤ 1954687338211) := hqZ (fun y hy => by
    obtain ⟨k, t, n, b, l⟩ := x
    have h1 := LsW.mem hL.2 y hy
    obtain ⟨k2, t2, n2, b2, l2⟩ := y
    exact h1.1)
  have HF := hqZ hF
  obtain ⟨q, hq⟩ : ∃ q, q = w.heap.size := ⟨_, rfl⟩
  have HQ : Hid (∀ W, Below q w W → BelowO w W) := hqZ (fun W h => by rw [hq] at h; exact h)
  have hopen := h.open_
  clear h hB0 hL
  go_enter Try.func19, Try.ntmps19
  go_wp2_with ((with_reducible show wpList _ _ _ (⟨some 6, _, _, _, _, _⟩ :: _) _ _); refine wpList_ldAgg rfl (.tmp 1) aggDer rfl rfl (cs := cs) HLN.out HQ0.out.cellsAll ?_)
  refine HTK.out.mono ?_
  rintro e w0 ⟨p, rfl, ht, hb, hp⟩
  obtain ⟨bv, lv, rows, rfl, hb1, hb2, hb3, hb4, hb5⟩ := hopen
  obtain ⟨pm, hpm⟩ : ∃ pm, pm = w0.heap.size := ⟨_, rfl⟩
  have hA0 : Below w0.heap.size w0 (w0.alloc (.cells [.pointer (some ⟨p, 0, none⟩), .bool false].toArray 104)) := (Below.refl _ _).alloc (Nat.le_refl _) _
  have hpl := ht.lt
  have hz0 : w.heap.size ≤ w0.heap.size := by have := hb.size; simp at this; omega
  have ht0 : Tkn (w0.alloc (.cells [.pointer (some ⟨p, 0, none⟩), .bool false].toArray 104)) F pm p x.l false false := by
    refine ⟨by rw [hpm]; exact Blk.new _ _ _, ht.below hA0, by omega, fun h => ?_, fun b hb => ?_⟩
    · have := HF.out _ h; omega
    · have := HF.out _ hb; simp; omega
  have hq0 := (HQ0.out.below hb (by simp)).alloc (.cells [.pointer (some ⟨p, 0, none⟩), .bool false].toArray 104)
  have hbt : Below w.heap.size w (w0.alloc (.cells [.pointer (some ⟨p, 0, none⟩), .bool false].toArray 104)) := (HB0.out.trans (hb.mono (by simp))).trans (hA0.mono hz0)
  obtain ⟨wt, hwt⟩ : ∃ wt, wt = w0.alloc (.cells [.pointer (some ⟨p, 0, none⟩), .bool false].toArray 104) := ⟨_, rfl⟩
  rw [← hwt] at ht0 hq0 hbt
  have HT := hqZ ht0
  have HBT := hqZ hbt
  have HQT := hqZ hq0
  have HP : Hid (w.heap.size < p ∧ w.heap.size < pm ∧ w.heap.size < wt.heap.size) := hqZ (by simp at hp; have := ht0.lt; exact ⟨by omega, by omega, by omega⟩)
  have cT : wt.cell? ⟨w.heap.size, 1, none⟩ = some (.int .i64 x.tag) := HQT.out.cell 1
  have HKb : Hid (∀ W, Keeps (Sm pm p wt.heap.size) wt W → Below w.heap.size w W ∧ Blk W w.heap.size [.int .i64 x.kind, .int .i64 x.tag, .int .u64 (x.n : Int), bv, lv] 38) := hqZ (fun W hk =>
    ⟨HBT.out.trans (hk.below (fun b hb => by have := HP.out; rcases hb with h | h | h <;> omega)), HQT.out.keep hk (fun h => by have := HP.out; rcases h with h | h | h <;> omega)⟩)
  clear ht hb hp hb1 hb2 hb3 hb4 hb5 HQ0 HB0 HTK hA0 hpl hz0 ht0 hq0 hbt
  go_upto_region 2 with fail
  show Code.wp _ _ _ _ (w0.alloc (.cells [.pointer (some ⟨p, 0, none⟩), .bool false].toArray 104))
  rw [← hwt, ← hpm]
  clear hwt hpm
  rw [← hq] at *
  clear hq
  have hxt : 13 = x.tag := HTG.out.symm
  obtain ⟨l, hxl⟩ : ∃ l, l = x.l := ⟨_, rfl⟩
  have HXT := hqZ hxt
  have HXL := hqZ hxl
  rw [← hxt] at cT HKb HQT ⊢
  rw [← hxl] at HT HL
  clear hxt hxl HTG
  have HOM : Hid (∀ W o pts rem bad bad2, (shapeS x.tag).isEmpty = false → runS (shapeS x.tag) (x.l, false, false) = (pts, rem, bad, bad2) → MsgV W F x.tag pts o → OutM W F x o rem bad bad2) := hqZ (fun W o pts rem bad bad2 h0 h1 h2 => by unfold OutM; rw [if_neg (by rw [h0]; decide)]; exact ⟨pts, h1, h2⟩)
  rw [← HXT.out] at HOM
  rw [← HXL.out] at HOM
  clear HXT HXL
  go_upto_region 9 with fail
  refine wp_region_held (S := fun W : World => W.cell? ⟨pm, 0, none⟩ = some (.pointer (some ⟨p, 0, none⟩))) (by kernel_rfl) ?_
  change wpAnyH _ _ _ _ _ _ _ _ (World.drew _)
  have HS : (World.drew wt).cell? ⟨pm, 0, none⟩ = some (.pointer (some ⟨p, 0, none⟩)) := HT.out.ptr
  have HT0 := hqZ HT.out.drew
  have HK0 : Hid (Keeps (Sm pm p wt.heap.size) wt wt.drew) := hqZ (Keeps.refl _ _).drew
  have HR0 : Hid (runS (shapeS 13) (l, false, false) = runS [.s, .n, .n, .t, .t, .i, .b, .x] (l, false, false)) := hqZ rfl
  have HP0 : Hid (PtsV wt.drew F [] []) := hqZ rfl
  generalize World.drew wt = wd at HS HT0 HK0 HP0 ⊢
  have HL0 := HL
  refine tkH 0 54 none (.pointer (some ⟨pm, 0, none⟩)) rfl (by kernel_rfl) (fun _ _ _ h => h) (by rfl) (by intro W hW; go_simp) HS ?_
  simp only [Act.put, zq1, zq2, zq3]
  refine tkH 1 55 none (.pointer (some ⟨pm, 0, none⟩)) rfl (by kernel_rfl) (fun _ _ _ h => h) (by rfl) (by intro W hW; go_simp) HS ?_
  simp only [Act.put, zq1, zq2, zq3]
  refine tkH 2 56 none (.pointer (some ⟨pm, 0, none⟩)) rfl (by kernel_rfl) (fun _ _ _ h => h) (by rfl) (by intro W hW; go_simp) HS ?_
  simp only [Act.put, zq1, zq2, zq3]
  refine tkH 3 57 none (.pointer (some ⟨p, 0, none⟩)) rfl (by kernel_rfl) (fun _ _ _ h => h) (by rfl) (by intro W hW; have hc0 : W.cell? ⟨pm, 0, none⟩ = some (.pointer (some ⟨p, 0, none⟩)) := hW; go_simp) HS ?_
  simp only [Act.put, zq1, zq2, zq3]
  refine tkH 5 59 none (.pointer (some ⟨pm, 0, none⟩)) rfl (by kernel_rfl) (fun _ _ _ h => h) (by rfl) (by intro W hW; go_simp) HS ?_
  simp only [Act.put, zq1, zq2, zq3]
  refine tkH 6 60 none (.pointer (some ⟨pm, 0, none⟩)) rfl (by kernel_rfl) (fun _ _ _ h => h) (by rfl) (by intro W hW; go_simp) HS ?_
  simp only [Act.put, zq1, zq2, zq3]
  refine tkH 7 61 none (.pointer (some ⟨pm, 0, none⟩)) rfl (by kernel_rfl) (fun _ _ _ h => h) (by rfl) (by intro W hW; go_simp) HS ?_
  simp only [Act.put, zq1, zq2, zq3]
  refine tkH 8 62 none (.pointer (some ⟨p, 0, none⟩)) rfl (by kernel_rfl) (fun _ _ _ h => h) (by rfl) (by intro W hW; have hc0 : W.cell? ⟨pm, 0, none⟩ = some (.pointer (some ⟨p, 0, none⟩)) := hW; go_simp) HS ?_
  simp only [Act.put, zq1, zq2, zq3]
  refine tkH 10 64 none (.pointer (some ⟨pm, 0, none⟩)) rfl (by kernel_rfl) (fun _ _ _ h => h) (by rfl) (by intro W hW; go_simp) HS ?_
  simp only [Act.put, zq1, zq2, zq3]
  refine tkH 11 65 none (.pointer (some ⟨pm, 0, none⟩)) rfl (by kernel_rfl) (fun _ _ _ h => h) (by rfl) (by intro W hW; go_simp) HS ?_
  simp only [Act.put, zq1, zq2, zq3]
  refine tkH 12 66 none (.pointer (some ⟨pm, 0, none⟩)) rfl (by kernel_rfl) (fun _ _ _ h => h) (by rfl) (by intro W hW; go_simp) HS ?_
  simp only [Act.put, zq1, zq2, zq3]
  refine tkH 13 67 none (.pointer (some ⟨p, 0, none⟩)) rfl (by kernel_rfl) (fun _ _ _ h => h) (by rfl) (by intro W hW; have hc0 : W.cell? ⟨pm, 0, none⟩ = some (.pointer (some ⟨p, 0, none⟩)) := hW; go_simp) HS ?_
  simp only [Act.put, zq1, zq2, zq3]
  refine tkH 15 69 none (.pointer (some ⟨pm, 0, none⟩)) rfl (by kernel_rfl) (fun _ _ _ h => h) (by rfl) (by intro W hW; go_simp) HS ?_
  simp only [Act.put, zq1, zq2, zq3]
  refine tkH 16 70 none (.pointer (some ⟨pm, 0, none⟩)) rfl (by kernel_rfl) (fun _ _ _ h => h) (by rfl) (by intro W hW; go_simp) HS ?_
  simp only [Act.put, zq1, zq2, zq3]
  refine tkH 17 71 none (.pointer (some ⟨pm, 0, none⟩)) rfl (by kernel_rfl) (fun _ _ _ h => h) (by rfl) (by intro W hW; go_simp) HS ?_
  simp only [Act.put, zq1, zq2, zq3]
  refine tkH 18 72 none (.pointer (some ⟨p, 0, none⟩)) rfl (by kernel_rfl) (fun _ _ _ h => h) (by rfl) (by intro W hW; have hc0 : W.cell? ⟨pm, 0, none⟩ = some (.pointer (some ⟨p, 0, none⟩)) := hW; go_simp) HS ?_
  simp only [Act.put, zq1, zq2, zq3]
  refine tkH 20 74 none (.pointer (some ⟨pm, 0, none⟩)) rfl (by kernel_rfl) (fun _ _ _ h => h) (by rfl) (by intro W hW; go_simp) HS ?_
  simp only [Act.put, zq1, zq2, zq3]
  refine tkH 21 75 none (.pointer (some ⟨pm, 0, none⟩)) rfl (by kernel_rfl) (fun _ _ _ h => h) (by rfl) (by intro W hW; go_simp) HS ?_
  simp only [Act.put, zq1, zq2, zq3]
  refine tkH 22 76 none (.pointer (some ⟨pm, 0, none⟩)) rfl (by kernel_rfl) (fun _ _ _ h => h) (by rfl) (by intro W hW; go_simp) HS ?_
  simp only [Act.put, zq1, zq2, zq3]
  refine tkH 23 77 none (.pointer (some ⟨p, 0, none⟩)) rfl (by kernel_rfl) (fun _ _ _ h => h) (by rfl) (by intro W hW; have hc0 : W.cell? ⟨pm, 0, none⟩ = some (.pointer (some ⟨p, 0, none⟩)) := hW; go_simp) HS ?_
  simp only [Act.put, zq1, zq2, zq3]
  refine tkH 25 79 none (.pointer (some ⟨pm, 0, none⟩)) rfl (by kernel_rfl) (fun _ _ _ h => h) (by rfl) (by intro W hW; go_simp) HS ?_
  simp only [Act.put, zq1, zq2, zq3]
  refine tkH 27 81 none (.pointer (some ⟨pm, 0, none⟩)) rfl (by kernel_rfl) (fun _ _ _ h => h) (by rfl) (by intro W hW; go_simp) HS ?_
  simp only [Act.put, zq1, zq2, zq3]
  refine tkH 28 82 none (.pointer (some ⟨pm, 0, none⟩)) rfl (by kernel_rfl) (fun _ _ _ h => h) (by rfl) (by intro W hW; go_simp) HS ?_
  simp only [Act.put, zq1, zq2, zq3]
  refine tkH 29 83 none (.pointer (some ⟨pm, 0, none⟩)) rfl (by kernel_rfl) (fun _ _ _ h => h) (by rfl) (by intro W hW; go_simp) HS ?_
  simp only [Act.put, zq1, zq2, zq3]
  refine tkH 30 84 none (.pointer (some ⟨p, 0, none⟩)) rfl (by kernel_rfl) (fun _ _ _ h => h) (by rfl) (by intro W hW; have hc0 : W.cell? ⟨pm, 0, none⟩ = some (.pointer (some ⟨p, 0, none⟩)) := hW; go_simp) HS ?_
  simp only [Act.put, zq1, zq2, zq3]
  refine tkH 32 86 none (.pointer (some ⟨pm, 0, none⟩)) rfl (by kernel_rfl) (fun _ _ _ h => h) (by rfl) (by intro W hW; go_simp) HS ?_
  simp only [Act.put, zq1, zq2, zq3]
  refine anyH_ready (rs := [4]) (by decide +kernel) (by simp) ?_
  refine AllReadyH.cons (o := { dst := some 58, op := .call { callee := .value (.func 35), args := #[.tmp 57], argTypes := #[101] }, type := _, pos := _, after := _, guard := none }) rfl (fun K hK => ?_) AllReadyH.nil
  go_simp
  refine (nameK_any l false false pm p F wd HT0.out).mono ?_
  rintro e v1 ⟨rfl, ht, hk⟩
  have HR1 : Hid (runS (shapeS 13) (l, false, false) = (.s (nameS l false).1 :: (runS [.n, .n, .t, .t, .i, .b, .x] ((nameS l false).2.1, (nameS l false).2.2, false)).1, (runS [.n, .n, .t, .t, .i, .b, .x] ((nameS l false).2.1, (nameS l false).2.2, false)).2)) := hqZ (HR0.out.trans rfl)
  have HL1 : Hid (∀ y ∈ (nameS l false).2.1, y.l.length ≤ 1954687338211) := hqZ (fun y hy => HL0.out y (nameS_sub y hy))
  have HP1 : Hid (PtsV v1 F ([] ++ [.s (nameS l false).1]) ([] ++ [.string (tx (nameS l false).1)])) := hqZ ((HP0.out.keep hk HT0.out.hs (by rfl)).snoc (p := .s (nameS l false).1) rfl)
  have HT1 := hqZ ht
  have HK1 := hqZ (keepsM rfl HK0.out (HK0.out.size) hk)
  clear ht hk HT0 HK0 HR0 HP0 HL0
  generalize nameS l false = st at *
  obtain ⟨x1, l1, b1⟩ := st
  simp only at *
  have HS := HT1.out.ptr
  refine hK _ _ HS ?_
  clear hK K
  try simp only [Act.put, zq1, zq2, zq3]
  refine anyH_ready (rs := [9]) (by decide +kernel) (by simp) ?_
  refine AllReadyH.cons (o := { dst := some 63, op := .call { callee := .value (.func 36), args := #[.tmp 62], argTypes := #[101] }, type := _, pos := _, after := _, guard := none }) rfl (fun K hK => ?_) AllReadyH.nil
  go_simp
  refine (numK_any l1 b1 false pm p F v1 HT1.out).mono ?_
  rintro e v2 ⟨rfl, ht, hk⟩
  have HR2 : Hid (runS (shapeS 13) (l, false, false) = (.s x1 :: .n (numS l1 b1).1 :: (runS [.n, .t, .t, .i, .b, .x] ((numS l1 b1).2.1, (numS l1 b1).2.2, false)).1, (runS [.n, .t, .t, .i, .b, .x] ((numS l1 b1).2.1, (numS l1 b1).2.2, false)).2)) := hqZ (HR1.out.trans rfl)
  have HL2 : Hid (∀ y ∈ (numS l1 b1).2.1, y.l.length ≤ 1954687338211) := hqZ (fun y hy => HL1.out y (numS_sub y hy))
  have HP2 : Hid (PtsV v2 F ([.s x1] ++ [.n (numS l1 b1).1]) ([.string (tx x1)] ++ [.int .i64 (numS l1 b1).1])) := hqZ ((HP1.out.keep hk HT1.out.hs (by rfl)).snoc (p := .n (numS l1 b1).1) rfl)
  have HT2 := hqZ ht
  have HK2 := hqZ (keepsM rfl HK1.out (HK1.out.size) hk)
  clear ht hk HT1 HK1 HR1 HP1 HL1
  generalize numS l1 b1 = st at *
  obtain ⟨x2, l2, b2⟩ := st
  simp only at *
  have HS := HT2.out.ptr
  refine hK _ _ HS ?_
  clear hK K
  try simp only [Act.put, zq1, zq2, zq3]
  refine anyH_ready (rs := [14]) (by decide +kernel) (by simp) ?_
  refine AllReadyH.cons (o := { dst := some 68, op := .call { callee := .value (.func 36), args := #[.tmp 67], argTypes := #[101] }, type := _, pos := _, after := _, guard := none }) rfl (fun K hK => ?_) AllReadyH.nil
  go_simp
  refine (numK_any l2 b2 false pm p F v2 HT2.out).mono ?_
  rintro e v3 ⟨rfl, ht, hk⟩
  have HR3 : Hid (runS (shapeS 13) (l, false, false) = (.s x1 :: .n x2 :: .n (numS l2 b2).1 :: (runS [.t, .t, .i, .b, .x] ((numS l2 b2).2.1, (numS l2 b2).2.2, false)).1, (runS [.t, .t, .i, .b, .x] ((numS l2 b2).2.1, (numS l2 b2).2.2, false)).2)) := hqZ (HR2.out.trans rfl)
  have HL3 : Hid (∀ y ∈ (numS l2 b2).2.1, y.l.length ≤ 1954687338211) := hqZ (fun y hy => HL2.out y (numS_sub y hy))
  have HP3 : Hid (PtsV v3 F ([.s x1, .n x2] ++ [.n (numS l2 b2).1]) ([.string (tx x1), .int .i64 x2] ++ [.int .i64 (numS l2 b2).1])) := hqZ ((HP2.out.keep hk HT2.out.hs (by rfl)).snoc (p := .n (numS l2 b2).1) rfl)
  have HT3 := hqZ ht
  have HK3 := hqZ (keepsM rfl HK2.out (HK2.out.size) hk)
  clear ht hk HT2 HK2 HR2 HP2 HL2
  generalize numS l2 b2 = st at *
  obtain ⟨x3, l3, b3⟩ := st
  simp only at *
  have HS := HT3.out.ptr
  refine hK _ _ HS ?_
  clear hK K
  try simp only [Act.put, zq1, zq2, zq3]
  refine anyH_ready (rs := [19]) (by decide +kernel) (by simp) ?_
  refine AllReadyH.cons (o := { dst := some 73, op := .call { callee := .value (.func 39), args := #[.tmp 72], argTypes := #[101] }, type := _, pos := _, after := _, guard := none }) rfl (fun K hK => ?_) AllReadyH.nil
  go_simp
  refine (truthK_any l3 b3 false pm p F v3 HT3.out).mono ?_
  rintro e v4 ⟨rfl, ht, hk⟩
  have HR4 : Hid (runS (shapeS 13) (l, false, false) = (.s x1 :: .n x2 :: .n x3 :: .t (truthS l3 b3).1 :: (runS [.t, .i, .b, .x] ((truthS l3 b3).2.1, (truthS l3 b3).2.2, false)).1, (runS [.t, .i, .b, .x] ((truthS l3 b3).2.1, (truthS l3 b3).2.2, false)).2)) := hqZ (HR3.out.trans rfl)
  have HL4 : Hid (∀ y ∈ (truthS l3 b3).2.1, y.l.length ≤ 1954687338211) := hqZ (fun y hy => HL3.out y (truthS_sub y hy))
  have HP4 : Hid (PtsV v4 F ([.s x1, .n x2, .n x3] ++ [.t (truthS l3 b3).1]) ([.string (tx x1), .int .i64 x2, .int .i64 x3] ++ [.bool (truthS l3 b3).1])) := hqZ ((HP3.out.keep hk HT3.out.hs (by rfl)).snoc (p := .t (truthS l3 b3).1) rfl)
  have HT4 := hqZ ht
  have HK4 := hqZ (keepsM rfl HK3.out (HK3.out.size) hk)
  clear ht hk HT3 HK3 HR3 HP3 HL3
  generalize truthS l3 b3 = st at *
  obtain ⟨x4, l4, b4⟩ := st
  simp only at *
  have HS := HT4.out.ptr
  refine hK _ _ HS ?_
  clear hK K
  try simp only [Act.put, zq1, zq2, zq3]
  refine anyH_ready (rs := [24]) (by decide +kernel) (by simp) ?_
  refine AllReadyH.cons (o := { dst := some 78, op := .call { callee := .value (.func 39), args := #[.tmp 77], argTypes := #[101] }, type := _, pos := _, after := _, guard := none }) rfl (fun K hK => ?_) AllReadyH.nil
  go_simp
  refine (truthK_any l4 b4 false pm p F v4 HT4.out).mono ?_
  rintro e v5 ⟨rfl, ht, hk⟩
  have HR5 : Hid (runS (shapeS 13) (l, false, false) = (.s x1 :: .n x2 :: .n x3 :: .t x4 :: .t (truthS l4 b4).1 :: (runS [.i, .b, .x] ((truthS l4 b4).2.1, (truthS l4 b4).2.2, false)).1, (runS [.i, .b, .x] ((truthS l4 b4).2.1, (truthS l4 b4).2.2, false)).2)) := hqZ (HR4.out.trans rfl)
  have HL5 : Hid (∀ y ∈ (truthS l4 b4).2.1, y.l.length ≤ 1954687338211) := hqZ (fun y hy => HL4.out y (truthS_sub y hy))
  have HP5 : Hid (PtsV v5 F ([.s x1, .n x2, .n x3, .t x4] ++ [.t (truthS l4 b4).1]) ([.string (tx x1), .int .i64 x2, .int .i64 x3, .bool x4] ++ [.bool (truthS l4 b4).1])) := hqZ ((HP4.out.keep hk HT4.out.hs (by rfl)).snoc (p := .t (truthS l4 b4).1) rfl)
  have HT5 := hqZ ht
  have HK5 := hqZ (keepsM rfl HK4.out (HK4.out.size) hk)
  clear ht hk HT4 HK4 HR4 HP4 HL4
  generalize truthS l4 b4 = st at *
  obtain ⟨x5, l5, b5⟩ := st
  simp only at *
  have HS := HT5.out.ptr
  refine hK _ _ HS ?_
  clear hK K
  try simp only [Act.put, zq1, zq2, zq3]
  refine anyH_ready (rs := [26]) (by decide +kernel) (by simp) ?_
  refine AllReadyH.cons (o := { dst := some 80, op := .call { callee := .value (.func 38), args := #[.tmp 79], argTypes := #[100] }, type := _, pos := _, after := _, guard := none }) rfl (fun K hK => ?_) AllReadyH.nil
  go_simp
  refine (ticket_any l5 b5 false pm p F v5 HT5.out).mono ?_
  rintro e v6 ⟨vb, ⟨rfl, ht, hk⟩, bv6, rfl, hb, ho⟩
  have HR6 : Hid (runS (shapeS 13) (l, false, false) = (.s x1 :: .n x2 :: .n x3 :: .t x4 :: .t x5 :: .i (tickS l5 b5 false).1 :: (runS [.b, .x] (tickS l5 b5 false).2).1, (runS [.b, .x] (tickS l5 b5 false).2).2)) := hqZ (HR5.out.trans rfl)
  have HL6 : Hid (∀ y ∈ (tickS l5 b5 false).2.1, y.l.length ≤ 1954687338211) := hqZ (fun y hy => HL5.out y (tickS_sub y hy))
  obtain ⟨ab6, cb6, rfl, hcb6, hmb6⟩ := hb.form
  have HP6 : Hid (PtsV v6 F ([.s x1, .n x2, .n x3, .t x4, .t x5] ++ [.i (tickS l5 b5 false).1]) ([.string (tx x1), .int .i64 x2, .int .i64 x3, .bool x4, .bool x5] ++ [.string (tx (tickS l5 b5 false).1.1), .slice ab6 (tickS l5 b5 false).1.2.length cb6])) := hqZ ((HP5.out.keep hk HT5.out.hs (by rfl)).snoc (p := .i (tickS l5 b5 false).1) ⟨_, rfl, hb, ho⟩)
  have HT6 := hqZ ht
  have HK6 := hqZ (keepsM rfl HK5.out (HK5.out.size) hk)
  clear ht hk hb ho HT5 HK5 HR5 HP5 HL5
  generalize tickS l5 b5 false = st at *
  obtain ⟨x6, l6, b6, c6⟩ := st
  simp only at *
  obtain ⟨y6, x6⟩ := x6
  simp only at *
  generalize hz6 : x6.length = z6 at *
  generalize hy6 : tx y6 = ty6 at *
  have HS := HT6.out.ptr
  refine hK _ _ HS ?_
  clear hK K
  try simp only [Act.put, zq1, zq2, zq3]
  refine anyH_ready (rs := [31]) (by decide +kernel) (by simp) ?_
  refine AllReadyH.cons (o := { dst := some 85, op := .call { callee := .value (.func 37), args := #[.tmp 84], argTypes := #[101] }, type := _, pos := _, after := _, guard := none }) rfl (fun K hK => ?_) AllReadyH.nil
  go_simp
  refine (bytesK_any l6 b6 c6 pm p F v6 HT6.out).mono ?_
  rintro e v7 ⟨vb, ⟨rfl, ht, hk⟩, hb, ho⟩
  have HR7 : Hid (runS (shapeS 13) (l, false, false) = (.s x1 :: .n x2 :: .n x3 :: .t x4 :: .t x5 :: .i (y6, x6) :: .b (bytesS l6 b6).1 :: (runS [.x] ((bytesS l6 b6).2.1, (bytesS l6 b6).2.2, c6)).1, (runS [.x] ((bytesS l6 b6).2.1, (bytesS l6 b6).2.2, c6)).2)) := hqZ (HR6.out.trans rfl)
  have HL7 : Hid (∀ y ∈ (bytesS l6 b6).2.1, y.l.length ≤ 1954687338211) := hqZ (fun y hy => HL6.out y (bytesS_sub y hy))
  obtain ⟨ab7, cb7, rfl, hcb7, hmb7⟩ := hb.form
  have HP7 : Hid (PtsV v7 F ([.s x1, .n x2, .n x3, .t x4, .t x5, .i (y6, x6)] ++ [.b (bytesS l6 b6).1]) ([.string (tx x1), .int .i64 x2, .int .i64 x3, .bool x4, .bool x5, .string ty6, .slice ab6 z6 cb6] ++ [.slice ab7 (bytesS l6 b6).1.length cb7])) := hqZ ((HP6.out.keep hk HT6.out.hs (by rfl)).snoc (p := .b (bytesS l6 b6).1) ⟨_, rfl, hb, ho⟩)
  have HT7 := hqZ ht
  have HK7 := hqZ (keepsM rfl HK6.out (HK6.out.size) hk)
  clear ht hk hb ho HT6 HK6 HR6 HP6 HL6
  generalize bytesS l6 b6 = st at *
  obtain ⟨x7, l7, b7⟩ := st
  simp only at *
  generalize hz7 : x7.length = z7 at *
  have HS := HT7.out.ptr
  refine hK _ _ HS ?_
  clear hK K
  try simp only [Act.put, zq1, zq2, zq3]
  refine anyH_ready (rs := [33]) (by decide +kernel) (by simp) ?_
  refine AllReadyH.cons (o := { dst := some 87, op := .call { callee := .value (.func 40), args := #[.tmp 86], argTypes := #[100] }, type := _, pos := _, after := _, guard := none }) rfl (fun K hK => ?_) AllReadyH.nil
  go_simp
  refine (extra_any l7 b7 c6 pm p F v7 HT7.out HL7.out).mono ?_
  rintro e v8 ⟨vb, ⟨rfl, ht, hk⟩, hx⟩
  have HR8 : Hid (runS (shapeS 13) (l, false, false) = (.s x1 :: .n x2 :: .n x3 :: .t x4 :: .t x5 :: .i (y6, x6) :: .b x7 :: .x (extraS l7 b7 c6).1 :: (runS [] (extraS l7 b7 c6).2).1, (runS [] (extraS l7 b7 c6).2).2)) := hqZ (HR7.out.trans rfl)
  obtain ⟨rows, hx1, hx2⟩ := hx
  obtain ⟨ab8, cb8, rfl, hcb8, hmb8⟩ := hx1.form
  have HP8 : Hid (PtsV v8 F ([.s x1, .n x2, .n x3, .t x4, .t x5, .i (y6, x6), .b x7] ++ [.x (extraS l7 b7 c6).1]) ([.string (tx x1), .int .i64 x2, .int .i64 x3, .bool x4, .bool x5, .string ty6, .slice ab6 z6 cb6, .slice ab7 z7 cb7] ++ [.slice ab8 (extraS l7 b7 c6).1.length cb8])) := hqZ ((HP7.out.keep hk HT7.out.hs (by rfl)).snoc (p := .x (extraS l7 b7 c6).1) ⟨_, rfl, rows, hx1, hx2⟩)
  have HT8 := hqZ ht
  have HK8 := hqZ (keepsM rfl HK7.out (HK7.out.size) hk)
  clear ht hk hx1 hx2 HT7 HK7 HR7 HP7
  generalize extraS l7 b7 c6 = st at *
  obtain ⟨x8, l8, b8, c8⟩ := st
  simp only at *
  generalize hz8 : x8.length = z8 at *
  have HS := HT8.out.ptr
  refine hK _ _ HS ?_
  clear hK K
  try simp only [Act.put, zq1, zq2, zq3]
  refine tkH 34 88 none (.agg #[.string (tx x1), .int .i64 x2, .int .i64 x3, .bool x4, .bool x5, .string ty6, .slice ab6 z6 cb6, .slice ab7 z7 cb7, .slice ab8 z8 cb8]) rfl (by kernel_rfl) (fun _ _ _ h => h) (by rfl) (by intro W hW; go_simp) HS ?_
  simp only [Act.put, zq1, zq2, zq3]
  refine tkH 35 89 none (.iface 59 (.agg #[.string (tx x1), .int .i64 x2, .int .i64 x3, .bool x4, .bool x5, .string ty6, .slice ab6 z6 cb6, .slice ab7 z7 cb7, .slice ab8 z8 cb8])) rfl (by kernel_rfl) (fun _ _ _ h => h) (by rfl) (by intro W hW; go_simp) HS ?_
  simp only [Act.put, zq1, zq2, zq3]
  refine tkH 36 5 none (.iface 59 (.agg #[.string (tx x1), .int .i64 x2, .int .i64 x3, .bool x4, .bool x5, .string ty6, .slice ab6 z6 cb6, .slice ab7 z7 cb7, .slice ab8 z8 cb8])) rfl (by kernel_rfl) (fun _ _ _ h => h) (by rfl) (by intro W hW; go_simp) HS ?_
  simp only [Act.put, zq1, zq2, zq3]
  refine wpAnyH_done (by decide +kernel) ?_ _
  have ho := HOM.out _ _ _ _ _ _ (by decide) HR8.out ⟨_, rfl, HP8.out⟩
  have ht := HT8.out
  have hk := HK8.out
  obtain ⟨hb, hq⟩ := HKb.out _ hk
  have c0 : v8.cell? ⟨q, 0, none⟩ = some (.int .i64 x.kind) := hq.cell 0
  have m0 := ht.ptr
  have m1 : v8.cell? ⟨pm, 1, none⟩ = some (.bool c8) := ht.1.cell 1
  have HX := hqZ (OutM.no ho (HQ.out _ hb))
  have HY := hqZ (OutM.yes ho (HQ.out _ hb))
  have HD := hqZ (done_any l8 b8 p F v8 ht.2.1)
  clear ht hk ho hb hq
  by_cases hk2 : x.kind = 2
  · have HK2 := hqZ hk2
    have hkb : (x.kind != 2) = false := by simpa using hk2
    clear hk2
    generalize hdn : (!b8 && l8.isEmpty) = dn at *
    clear hdn
    cases c8 with
    | true =>
      go_wp2_with fail
      go_ret2
      exact HX.out (fun h => by simp at h)
    | false =>
      go_wp2_with fail
      refine HD.out.mono ?_
      rintro e w2 ⟨rfl, rfl⟩
      cases dn with
      | true =>
        go_wp2_with fail
        go_ret2
        exact HY.out HK2.out (by simp) (by first | rfl | trivial) (by first | rfl | trivial)
      | false =>
        go_wp2_with fail
        go_ret2
        exact HX.out (fun h => by simp at h)
  · have hkb : (x.kind != 2) = true := by simpa using hk2
    have HK2 := hqZ hk2
    clear hk2
    go_wp2_with fail
    go_ret2
    exact HX.out (fun h => HK2.out h.1)
set_option maxHeartbeats 16000000 in
set_option maxRecDepth 100000 in
theorem msgOf_15 (x : Tv) (F : Nat → Prop) (cs : List Value) (w : World) (h : TvF w F x cs) (hF : ∀ b, F b → b < w.heap.size) (hL : Lw x) (htag : x.tag = 15) :
    Calls Try.prog 19 #[.agg cs.toArray] w (OfM w F x) := by
  have HTG := hqZ htag
  clear htag
  have HLN := hqZ h.length
  have HQ0 := hqZ (Blk.new w cs 38)
  have hB0 : Below w.heap.size w (w.alloc (.cells cs.toArray 38)) := (Below.refl _ _).alloc (Nat.le_refl _) _
  have HB0 := hqZ hB0
  have HTK := hqZ (take_any x F cs _ (h.below hB0) (fun b hb => by have := hF b hb; simp; omega))
  have HL : Hid (∀ y ∈ x.l, y.l.length ≤ 1954687338211) := hqZ (fun y hy => by
    obtain ⟨k, t, n, b, l⟩ := x
    have h1 := LsW.mem hL.2 y hy
    obtain ⟨k2, t2, n2, b2, l2⟩ := y
    exact h1.1)
  have HF := hqZ hF
  obtain ⟨q, hq⟩ : ∃ q, q = w.heap.size := ⟨_, rfl⟩
  have HQ : Hid (∀ W, Below q w W → BelowO w W) := hqZ (fun W h => by rw [hq] at h; exact h)
  have hopen := h.open_
  clear h hB0 hL
  go_enter Try.func19, Try.ntmps19
  go_wp2_with ((with_reducible show wpList _ _ _ (⟨some 6, _, _, _, _, _⟩ :: _) _ _); refine wpList_ldAgg rfl (.tmp 1) aggDer rfl rfl (cs := cs) HLN.out HQ0.out.cellsAll ?_)
  refine HTK.out.mono ?_
  rintro e w0 ⟨p, rfl, ht, hb, hp⟩
  obtain ⟨bv, lv, rows, rfl, hb1, hb2, hb3, hb4, hb5⟩ := hopen
  obtain ⟨pm, hpm⟩ : ∃ pm, pm = w0.heap.size := ⟨_, rfl⟩
  have hA0 : Below w0.heap.size w0 (w0.alloc (.cells [.pointer (some ⟨p, 0, none⟩), .bool false].toArray 104)) := (Below.refl _ _).alloc (Nat.le_refl _) _
  have hpl := ht.lt
  have hz0 : w.heap.size ≤ w0.heap.size := by have := hb.size; simp at this; omega
  have ht0 : Tkn (w0.alloc (.cells [.pointer (some ⟨p, 0, none⟩), .bool false].toArray 104)) F pm p x.l false false := by
    refine ⟨by rw [hpm]; exact Blk.new _ _ _, ht.below hA0, by omega, fun h => ?_, fun b hb => ?_⟩
    · have := HF.out _ h; omega
    · have := HF.out _ hb; simp; omega
  have hq0 := (HQ0.out.below hb (by simp)).alloc (.cells [.pointer (some ⟨p, 0, none⟩), .bool false].toArray 104)
  have hbt : Below w.heap.size w (w0.alloc (.cells [.pointer (some ⟨p, 0, none⟩), .bool false].toArray 104)) := (HB0.out.trans (hb.mono (by simp))).trans (hA0.mono hz0)
  obtain ⟨wt, hwt⟩ : ∃ wt, wt = w0.alloc (.cells [.pointer (some ⟨p, 0, none⟩), .bool false].toArray 104) := ⟨_, rfl⟩
  rw [← hwt] at ht0 hq0 hbt
  have HT := hqZ ht0
  have HBT := hqZ hbt
  have HQT := hqZ hq0
  have HP : Hid (w.heap.size < p ∧ w.heap.size < pm ∧ w.heap.size < wt.heap.size) := hqZ (by simp at hp; have := ht0.lt; exact ⟨by omega, by omega, by omega⟩)
  have cT : wt.cell? ⟨w.heap.size, 1, none⟩ = some (.int .i64 x.tag) := HQT.out.cell 1
  have HKb : Hid (∀ W, Keeps (Sm pm p wt.heap.size) wt W → Below w.heap.size w W ∧ Blk W w.heap.size [.int .i64 x.kind, .int .i64 x.tag, .int .u64 (x.n : Int), bv, lv] 38) := hqZ (fun W hk =>
    ⟨HBT.out.trans (hk.below (fun b hb => by have := HP.out; rcases hb with h | h | h <;> omega)), HQT.out.keep hk (fun h => by have := HP.out; rcases h with h | h | h <;> omega)⟩)
  clear ht hb hp hb1 hb2 hb3 hb4 hb5 HQ0 HB0 HTK hA0 hpl hz0 ht0 hq0 hbt
  go_upto_region 2 with fail
  show Code.wp _ _ _ _ (w0.alloc (.cells [.pointer (some ⟨p, 0, none⟩), .bool false].toArray 104))
  rw [← hwt, ← hpm]
  clear hwt hpm
  rw [← hq] at *
  clear hq
  have hxt : 15 = x.tag := HTG.out.symm
  obtain ⟨l, hxl⟩ : ∃ l, l = x.l := ⟨_, rfl⟩
  have HXT := hqZ hxt
  have HXL := hqZ hxl
  rw [← hxt] at cT HKb HQT ⊢
  rw [← hxl] at HT HL
  clear hxt hxl HTG
  have HOM : Hid (∀ W o pts rem bad bad2, (shapeS x.tag).isEmpty = false → runS (shapeS x.tag) (x.l, false, false) = (pts, rem, bad, bad2) → MsgV W F x.tag pts o → OutM W F x o rem bad bad2) := hqZ (fun W o pts rem bad bad2 h0 h1 h2 => by unfold OutM; rw [if_neg (by rw [h0]; decide)]; exact ⟨pts, h1, h2⟩)
  rw [← HXT.out] at HOM
  rw [← HXL.out] at HOM
  clear HXT HXL
  go_upto_region 13 with fail
  refine wp_region_held (S := fun W : World => W.cell? ⟨pm, 0, none⟩ = some (.pointer (some ⟨p, 0, none⟩))) (by kernel_rfl) ?_
  change wpAnyH _ _ _ _ _ _ _ _ (World.drew _)
  have HS : (World.drew wt).cell? ⟨pm, 0, none⟩ = some (.pointer (some ⟨p, 0, none⟩)) := HT.out.ptr
  have HT0 := hqZ HT.out.drew
  have HK0 : Hid (Keeps (Sm pm p wt.heap.size) wt wt.drew) := hqZ (Keeps.refl _ _).drew
  have HR0 : Hid (runS (shapeS 15) (l, false, false) = runS [.s, .s, .n] (l, false, false)) := hqZ rfl
  have HP0 : Hid (PtsV wt.drew F [] []) := hqZ rfl
  generalize World.drew wt = wd at HS HT0 HK0 HP0 ⊢
  refine tkH 0 108 none (.pointer (some ⟨pm, 0, none⟩)) rfl (by kernel_rfl) (fun _ _ _ h => h) (by rfl) (by intro W hW; go_simp) HS ?_
  simp only [Act.put, zq1, zq2, zq3]
  refine tkH 1 109 none (.pointer (some ⟨pm, 0, none⟩)) rfl (by kernel_rfl) (fun _ _ _ h => h) (by rfl) (by intro W hW; go_simp) HS ?_
  simp only [Act.put, zq1, zq2, zq3]
  refine tkH 2 110 none (.pointer (some ⟨pm, 0, none⟩)) rfl (by kernel_rfl) (fun _ _ _ h => h) (by rfl) (by intro W hW; go_simp) HS ?_
  simp only [Act.put, zq1, zq2, zq3]
  refine tkH 3 111 none (.pointer (some ⟨p, 0, none⟩)) rfl (by kernel_rfl) (fun _ _ _ h => h) (by rfl) (by intro W hW; have hc0 : W.cell? ⟨pm, 0, none⟩ = some (.pointer (some ⟨p, 0, none⟩)) := hW; go_simp) HS ?_
  simp only [Act.put, zq1, zq2, zq3]
  refine tkH 5 113 none (.pointer (some ⟨pm, 0, none⟩)) rfl (by kernel_rfl) (fun _ _ _ h => h) (by rfl) (by intro W hW; go_simp) HS ?_
  simp only [Act.put, zq1, zq2, zq3]
  refine tkH 6 114 none (.pointer (some ⟨pm, 0, none⟩)) rfl (by kernel_rfl) (fun _ _ _ h => h) (by rfl) (by intro W hW; go_simp) HS ?_
  simp only [Act.put, zq1, zq2, zq3]
  refine tkH 7 115 none (.pointer (some ⟨pm, 0, none⟩)) rfl (by kernel_rfl) (fun _ _ _ h => h) (by rfl) (by intro W hW; go_simp) HS ?_
  simp only [Act.put, zq1, zq2, zq3]
  refine tkH 8 116 none (.pointer (some ⟨p, 0, none⟩)) rfl (by kernel_rfl) (fun _ _ _ h => h) (by rfl) (by intro W hW; have hc0 : W.cell? ⟨pm, 0, none⟩ = some (.pointer (some ⟨p, 0, none⟩)) := hW; go_simp) HS ?_
  simp only [Act.put, zq1, zq2, zq3]
  refine tkH 10 118 none (.pointer (some ⟨pm, 0, none⟩)) rfl (by kernel_rfl) (fun _ _ _ h => h) (by rfl) (by intro W hW; go_simp) HS ?_
  simp only [Act.put, zq1, zq2, zq3]
  refine tkH 11 119 none (.pointer (some ⟨pm, 0, none⟩)) rfl (by kernel_rfl) (fun _ _ _ h => h) (by rfl) (by intro W hW; go_simp) HS ?_
  simp only [Act.put, zq1, zq2, zq3]
  refine tkH 12 120 none (.pointer (some ⟨pm, 0, none⟩)) rfl (by kernel_rfl) (fun _ _ _ h => h) (by rfl) (by intro W hW; go_simp) HS ?_
  simp only [Act.put, zq1, zq2, zq3]
  refine tkH 13 121 none (.pointer (some ⟨p, 0, none⟩)) rfl (by kernel_rfl) (fun _ _ _ h => h) (by rfl) (by intro W hW; have hc0 : W.cell? ⟨pm, 0, none⟩ = some (.pointer (some ⟨p, 0, none⟩)) := hW; go_simp) HS ?_
  simp only [Act.put, zq1, zq2, zq3]
  refine anyH_ready (rs := [4]) (by decide +kernel) (by simp) ?_
  refine AllReadyH.cons (o := { dst := some 112, op := .call { callee := .value (.func 35), args := #[.tmp 111], argTypes := #[101] }, type := _, pos := _, after := _, guard := none }) rfl (fun K hK => ?_) AllReadyH.nil
  go_simp
  refine (nameK_any l false false pm p F wd HT0.out).mono ?_
  rintro e v1 ⟨rfl, ht, hk⟩
  have HR1 : Hid (runS (shapeS 15) (l, false, false) = (.s (nameS l false).1 :: (runS [.s, .n] ((nameS l false).2.1, (nameS l false).2.2, false)).1, (runS [.s, .n] ((nameS l false).2.1, (nameS l false).2.2, false)).2)) := hqZ (HR0.out.trans rfl)
  have HP1 : Hid (PtsV v1 F ([] ++ [.s (nameS l false).1]) ([] ++ [.string (tx (nameS l false).1)])) := hqZ ((HP0.out.keep hk HT0.out.hs (by rfl)).snoc (p := .s (nameS l false).1) rfl)
  have HT1 := hqZ ht
  have HK1 := hqZ (keepsM rfl HK0.out (HK0.out.size) hk)
  clear ht hk HT0 HK0 HR0 HP0
  generalize nameS l false = st at *
  obtain ⟨x1, l1, b1⟩ := st
  simp only at *
  have HS := HT1.out.ptr
  refine hK _ _ HS ?_
  clear hK K
  try simp only [Act.put, zq1, zq2, zq3]
  refine anyH_ready (rs := [9]) (by decide +kernel) (by simp) ?_
  refine AllReadyH.cons (o := { dst := some 117, op := .call { callee := .value (.func 35), args := #[.tmp 116], argTypes := #[101] }, type := _, pos := _, after := _, guard := none }) rfl (fun K hK => ?_) AllReadyH.nil
  go_simp
  refine (nameK_any l1 b1 false pm p F v1 HT1.out).mono ?_
  rintro e v2 ⟨rfl, ht, hk⟩
  have HR2 : Hid (runS (shapeS 15) (l, false, false) = (.s x1 :: .s (nameS l1 b1).1 :: (runS [.n] ((nameS l1 b1).2.1, (nameS l1 b1).2.2, false)).1, (runS [.n] ((nameS l1 b1).2.1, (nameS l1 b1).2.2, false)).2)) := hqZ (HR1.out.trans rfl)
  have HP2 : Hid (PtsV v2 F ([.s x1] ++ [.s (nameS l1 b1).1]) ([.string (tx x1)] ++ [.string (tx (nameS l1 b1).1)])) := hqZ ((HP1.out.keep hk HT1.out.hs (by rfl)).snoc (p := .s (nameS l1 b1).1) rfl)
  have HT2 := hqZ ht
  have HK2 := hqZ (keepsM rfl HK1.out (HK1.out.size) hk)
  clear ht hk HT1 HK1 HR1 HP1
  generalize nameS l1 b1 = st at *
  obtain ⟨x2, l2, b2⟩ := st
  simp only at *
  have HS := HT2.out.ptr
  refine hK _ _ HS ?_
  clear hK K
  try simp only [Act.put, zq1, zq2, zq3]
  refine anyH_ready (rs := [14]) (by decide +kernel) (by simp) ?_
  refine AllReadyH.cons (o := { dst := some 122, op := .call { callee := .value (.func 36), args := #[.tmp 121], argTypes := #[101] }, type := _, pos := _, after := _, guard := none }) rfl (fun K hK => ?_) AllReadyH.nil
  go_simp
  refine (numK_any l2 b2 false pm p F v2 HT2.out).mono ?_
  rintro e v3 ⟨rfl, ht, hk⟩
  have HR3 : Hid (runS (shapeS 15) (l, false, false) = (.s x1 :: .s x2 :: .n (numS l2 b2).1 :: (runS [] ((numS l2 b2).2.1, (numS l2 b2).2.2, false)).1, (runS [] ((numS l2 b2).2.1, (numS l2 b2).2.2, false)).2)) := hqZ (HR2.out.trans rfl)
  have HP3 : Hid (PtsV v3 F ([.s x1, .s x2] ++ [.n (numS l2 b2).1]) ([.string (tx x1), .string (tx x2)] ++ [.int .i64 (numS l2 b2).1])) := hqZ ((HP2.out.keep hk HT2.out.hs (by rfl)).snoc (p := .n (numS l2 b2).1) rfl)
  have HT3 := hqZ ht
  have HK3 := hqZ (keepsM rfl HK2.out (HK2.out.size) hk)
  clear ht hk HT2 HK2 HR2 HP2
  generalize numS l2 b2 = st at *
  obtain ⟨x3, l3, b3⟩ := st
  simp only at *
  have HS := HT3.out.ptr
  refine hK _ _ HS ?_
  clear hK K
  try simp only [Act.put, zq1, zq2, zq3]
  refine tkH 15 123 none (.agg #[.string (tx x1), .string (tx x2), .int .i64 x3]) rfl (by kernel_rfl) (fun _ _ _ h => h) (by rfl) (by intro W hW; go_simp) HS ?_
  simp only [Act.put, zq1, zq2, zq3]
  refine tkH 16 124 none (.iface 62 (.agg #[.string (tx x1), .string (tx x2), .int .i64 x3])) rfl (by kernel_rfl) (fun _ _ _ h => h) (by rfl) (by intro W hW; go_simp) HS ?_
  simp only [Act.put, zq1, zq2, zq3]
  refine tkH 17 5 none (.iface 62 (.agg #[.string (tx x1), .string (tx x2), .int .i64 x3])) rfl (by kernel_rfl) (fun _ _ _ h => h) (by rfl) (by intro W hW; go_simp) HS ?_
  simp only [Act.put, zq1, zq2, zq3]
  refine wpAnyH_done (by decide +kernel) ?_ _
  have ho := HOM.out _ _ _ _ _ _ (by decide) HR3.out ⟨_, rfl, HP3.out⟩
  have ht := HT3.out
  have hk := HK3.out
  obtain ⟨hb, hq⟩ := HKb.out _ hk
  have c0 : v3.cell? ⟨q, 0, none⟩ = some (.int .i64 x.kind) := hq.cell 0
  have m0 := ht.ptr
  have m1 : v3.cell? ⟨pm, 1, none⟩ = some (.bool false) := ht.1.cell 1
  have HX := hqZ (OutM.no ho (HQ.out _ hb))
  have HY := hqZ (OutM.yes ho (HQ.out _ hb))
  have HD := hqZ (done_any l3 b3 p F v3 ht.2.1)
  clear ht hk ho hb hq
  by_cases hk2 : x.kind = 2
  · have HK2 := hqZ hk2
    have hkb : (x.kind != 2) = false := by simpa using hk2
    clear hk2
    generalize hdn : (!b3 && l3.isEmpty) = dn at *
    clear hdn
    go_wp2_with fail
    refine HD.out.mono ?_
    rintro e w2 ⟨rfl, rfl⟩
    cases dn with
    | true =>
      go_wp2_with fail
      go_ret2
      exact HY.out HK2.out (by simp) (by first | rfl | trivial) (by first | rfl | trivial)
    | false =>
      go_wp2_with fail
      go_ret2
      exact HX.out (fun h => by simp at h)
  · have hkb : (x.kind != 2) = true := by simpa using hk2
    have HK2 := hqZ hk2
    clear hk2
    go_wp2_with fail
    go_ret2
    exact HX.out (fun h => HK2.out h.1)
set_option maxHeartbeats 16000000 in
set_option maxRecDepth 100000 in
theorem msgOf_16 (x : Tv) (F : Nat → Prop) (cs : List Value) (w : World) (h : TvF w F x cs) (hF : ∀ b, F b → b < w.heap.size) (hL : Lw x) (htag : x.tag = 16) :
    Calls Try.prog 19 #[.agg cs.toArray] w (OfM w F x) := by
  have HTG := hqZ htag
  clear htag
  have HLN := hqZ h.length
  have HQ0 := hqZ (Blk.new w cs 38)
  have hB0 : Below w.heap.size w (w.alloc (.cells cs.toArray 38)) := (Below.refl _ _).alloc (Nat.le_refl _) _
  have HB0 := hqZ hB0
  have HTK := hqZ (take_any x F cs _ (h.below hB0) (fun b hb => by have := hF b hb; simp; omega))
  have HL : Hid (∀ y ∈ x.l, y.l.length ≤ 1954687338211) := hqZ (fun y hy => by
    obtain ⟨k, t, n, b, l⟩ := x
    have h1 := LsW.mem hL.2 y hy
    obtain ⟨k2, t2, n2, b2, l2⟩ := y
    exact h1.1)
  have HF := hqZ hF
  obtain ⟨q, hq⟩ : ∃ q, q = w.heap.size := ⟨_, rfl⟩
  have HQ : Hid (∀ W, Below q w W → BelowO w W) := hqZ (fun W h => by rw [hq] at h; exact h)
  have hopen := h.open_
  clear h hB0 hL
  go_enter Try.func19, Try.ntmps19
  go_wp2_with ((with_reducible show wpList _ _ _ (⟨some 6, _, _, _, _, _⟩ :: _) _ _); refine wpList_ldAgg rfl (.tmp 1) aggDer rfl rfl (cs := cs) HLN.out HQ0.out.cellsAll ?_)
  refine HTK.out.mono ?_
  rintro e w0 ⟨p, rfl, ht, hb, hp⟩
  obtain ⟨bv, lv, rows, rfl, hb1, hb2, hb3, hb4, hb5⟩ := hopen
  obtain ⟨pm, hpm⟩ : ∃ pm, pm = w0.heap.size := ⟨_, rfl⟩
  have hA0 : Below w0.heap.size w0 (w0.alloc (.cells [.pointer (some ⟨p, 0, none⟩), .bool false].toArray 104)) := (Below.refl _ _).alloc (Nat.le_refl _) _
  have hpl := ht.lt
  have hz0 : w.heap.size ≤ w0.heap.size := by have := hb.size; simp at this; omega
  have ht0 : Tkn (w0.alloc (.cells [.pointer (some ⟨p, 0, none⟩), .bool false].toArray 104)) F pm p x.l false false := by
    refine ⟨by rw [hpm]; exact Blk.new _ _ _, ht.below hA0, by omega, fun h => ?_, fun b hb => ?_⟩
    · have := HF.out _ h; omega
    · have := HF.out _ hb; simp; omega
  have hq0 := (HQ0.out.below hb (by simp)).alloc (.cells [.pointer (some ⟨p, 0, none⟩), .bool false].toArray 104)
  have hbt : Below w.heap.size w (w0.alloc (.cells [.pointer (some ⟨p, 0, none⟩), .bool false].toArray 104)) := (HB0.out.trans (hb.mono (by simp))).trans (hA0.mono hz0)
  obtain ⟨wt, hwt⟩ : ∃ wt, wt = w0.alloc (.cells [.pointer (some ⟨p, 0, none⟩), .bool false].toArray 104) := ⟨_, rfl⟩
  rw [← hwt] at ht0 hq0 hbt
  have HT := hqZ ht0
  have HBT := hqZ hbt
  have HQT := hqZ hq0
  have HP : Hid (w.heap.size < p ∧ w.heap.size < pm ∧ w.heap.size < wt.heap.size) := hqZ (by simp at hp; have := ht0.lt; exact ⟨by omega, by omega, by omega⟩)
  have cT : wt.cell? ⟨w.heap.size, 1, none⟩ = some (.int .i64 x.tag) := HQT.out.cell 1
  have HKb : Hid (∀ W, Keeps (Sm pm p wt.heap.size) wt W → Below w.heap.size w W ∧ Blk W w.heap.size [.int .i64 x.kind, .int .i64 x.tag, .int .u64 (x.n : Int), bv, lv] 38) := hqZ (fun W hk =>
    ⟨HBT.out.trans (hk.below (fun b hb => by have := HP.out; rcases hb with h | h | h <;> omega)), HQT.out.keep hk (fun h => by have := HP.out; rcases h with h | h | h <;> omega)⟩)
  clear ht hb hp hb1 hb2 hb3 hb4 hb5 HQ0 HB0 HTK hA0 hpl hz0 ht0 hq0 hbt
  go_upto_region 2 with fail
  show Code.wp _ _ _ _ (w0.alloc (.cells [.pointer (some ⟨p, 0, none⟩), .bool false].toArray 104))
  rw [← hwt, ← hpm]
  clear hwt hpm
  rw [← hq] at *
  clear hq
  have hxt : 16 = x.tag := HTG.out.symm
  obtain ⟨l, hxl⟩ : ∃ l, l = x.l := ⟨_, rfl⟩
  have HXT := hqZ hxt
  have HXL := hqZ hxl
  rw [← hxt] at cT HKb HQT ⊢
  rw [← hxl] at HT HL
  clear hxt hxl HTG
  have HOM : Hid (∀ W o pts rem bad bad2, (shapeS x.tag).isEmpty = false → runS (shapeS x.tag) (x.l, false, false) = (pts, rem, bad, bad2) → MsgV W F x.tag pts o → OutM W F x o rem bad bad2) := hqZ (fun W o pts rem bad bad2 h0 h1 h2 => by unfold OutM; rw [if_neg (by rw [h0]; decide)]; exact ⟨pts, h1, h2⟩)
  rw [← HXT.out] at HOM
  rw [← HXL.out] at HOM
  clear HXT HXL
  go_upto_region 15 with fail
  refine wp_region_held (S := fun W : World => W.cell? ⟨pm, 0, none⟩ = some (.pointer (some ⟨p, 0, none⟩))) (by kernel_rfl) ?_
  change wpAnyH _ _ _ _ _ _ _ _ (World.drew _)
  have HS : (World.drew wt).cell? ⟨pm, 0, none⟩ = some (.pointer (some ⟨p, 0, none⟩)) := HT.out.ptr
  have HT0 := hqZ HT.out.drew
  have HK0 : Hid (Keeps (Sm pm p wt.heap.size) wt wt.drew) := hqZ (Keeps.refl _ _).drew
  have HR0 : Hid (runS (shapeS 16) (l, false, false) = runS [.s, .s, .n, .i] (l, false, false)) := hqZ rfl
  have HP0 : Hid (PtsV wt.drew F [] []) := hqZ rfl
  generalize World.drew wt = wd at HS HT0 HK0 HP0 ⊢
  refine tkH 0 127 none (.pointer (some ⟨pm, 0, none⟩)) rfl (by kernel_rfl) (fun _ _ _ h => h) (by rfl) (by intro W hW; go_simp) HS ?_
  simp only [Act.put, zq1, zq2, zq3]
  refine tkH 1 128 none (.pointer (some ⟨pm, 0, none⟩)) rfl (by kernel_rfl) (fun _ _ _ h => h) (by rfl) (by intro W hW; go_simp) HS ?_
  simp only [Act.put, zq1, zq2, zq3]
  refine tkH 2 129 none (.pointer (some ⟨pm, 0, none⟩)) rfl (by kernel_rfl) (fun _ _ _ h => h) (by rfl) (by intro W hW; go_simp) HS ?_
  simp only [Act.put, zq1, zq2, zq3]
  refine tkH 3 130 none (.pointer (some ⟨p, 0, none⟩)) rfl (by kernel_rfl) (fun _ _ _ h => h) (by rfl) (by intro W hW; have hc0 : W.cell? ⟨pm, 0, none⟩ = some (.pointer (some ⟨p, 0, none⟩)) := hW; go_simp) HS ?_
  simp only [Act.put, zq1, zq2, zq3]
  refine tkH 5 132 none (.pointer (some ⟨pm, 0, none⟩)) rfl (by kernel_rfl) (fun _ _ _ h => h) (by rfl) (by intro W hW; go_simp) HS ?_
  simp only [Act.put, zq1, zq2, zq3]
  refine tkH 6 133 none (.pointer (some ⟨pm, 0, none⟩)) rfl (by kernel_rfl) (fun _ _ _ h => h) (by rfl) (by intro W hW; go_simp) HS ?_
  simp only [Act.put, zq1, zq2, zq3]
  refine tkH 7 134 none (.pointer (some ⟨pm, 0, none⟩)) rfl (by kernel_rfl) (fun _ _ _ h => h) (by rfl) (by intro W hW; go_simp) HS ?_
  simp only [Act.put, zq1, zq2, zq3]
  refine tkH 8 135 none (.pointer (some ⟨p, 0, none⟩)) rfl (by kernel_rfl) (fun _ _ _ h => h) (by rfl) (by intro W hW; have hc0 : W.cell? ⟨pm, 0, none⟩ = some (.pointer (some ⟨p, 0, none⟩)) := hW; go_simp) HS ?_
  simp only [Act.put, zq1, zq2, zq3]
  refine tkH 10 137 none (.pointer (some ⟨pm, 0, none⟩)) rfl (by kernel_rfl) (fun _ _ _ h => h) (by rfl) (by intro W hW; go_simp) HS ?_
  simp only [Act.put, zq1, zq2, zq3]
  refine tkH 11 138 none (.pointer (some ⟨pm, 0, none⟩)) rfl (by kernel_rfl) (fun _ _ _ h => h) (by rfl) (by intro W hW; go_simp) HS ?_
  simp only [Act.put, zq1, zq2, zq3]
  refine tkH 12 139 none (.pointer (some ⟨pm, 0, none⟩)) rfl (by kernel_rfl) (fun _ _ _ h => h) (by rfl) (by intro W hW; go_simp) HS ?_
  simp only [Act.put, zq1, zq2, zq3]
  refine tkH 13 140 none (.pointer (some ⟨p, 0, none⟩)) rfl (by kernel_rfl) (fun _ _ _ h => h) (by rfl) (by intro W hW; have hc0 : W.cell? ⟨pm, 0, none⟩ = some (.pointer (some ⟨p, 0, none⟩)) := hW; go_simp) HS ?_
  simp only [Act.put, zq1, zq2, zq3]
  refine tkH 15 142 none (.pointer (some ⟨pm, 0, none⟩)) rfl (by kernel_rfl) (fun _ _ _ h => h) (by rfl) (by intro W hW; go_simp) HS ?_
  simp only [Act.put, zq1, zq2, zq3]
  refine anyH_ready (rs := [4]) (by decide +kernel) (by simp) ?_
  refine AllReadyH.cons (o := { dst := some 131, op := .call { callee := .value (.func 35), args := #[.tmp 130], argTypes := #[101] }, type := _, pos := _, after := _, guard := none }) rfl (fun K hK => ?_) AllReadyH.nil
  go_simp
  refine (nameK_any l false false pm p F wd HT0.out).mono ?_
  rintro e v1 ⟨rfl, ht, hk⟩
  have HR1 : Hid (runS (shapeS 16) (l, false, false) = (.s (nameS l false).1 :: (runS [.s, .n, .i] ((nameS l false).2.1, (nameS l false).2.2, false)).1, (runS [.s, .n, .i] ((nameS l false).2.1, (nameS l false).2.2, false)).2)) := hqZ (HR0.out.trans rfl)
  have HP1 : Hid (PtsV v1 F ([] ++ [.s (nameS l false).1]) ([] ++ [.string (tx (nameS l false).1)])) := hqZ ((HP0.out.keep hk HT0.out.hs (by rfl)).snoc (p := .s (nameS l false).1) rfl)
  have HT1 := hqZ ht
  have HK1 := hqZ (keepsM rfl HK0.out (HK0.out.size) hk)
  clear ht hk HT0 HK0 HR0 HP0
  generalize nameS l false = st at *
  obtain ⟨x1, l1, b1⟩ := st
  simp only at *
  have HS := HT1.out.ptr
  refine hK _ _ HS ?_
  clear hK K
  try simp only [Act.put, zq1, zq2, zq3]
  refine anyH_ready (rs := [9]) (by decide +kernel) (by simp) ?_
  refine AllReadyH.cons (o := { dst := some 136, op := .call { callee := .value (.func 35), args := #[.tmp 135], argTypes := #[101] }, type := _, pos := _, after := _, guard := none }) rfl (fun K hK => ?_) AllReadyH.nil
  go_simp
  refine (nameK_any l1 b1 false pm p F v1 HT1.out).mono ?_
  rintro e v2 ⟨rfl, ht, hk⟩
  have HR2 : Hid (runS (shapeS 16) (l, false, false) = (.s x1 :: .s (nameS l1 b1).1 :: (runS [.n, .i] ((nameS l1 b1).2.1, (nameS l1 b1).2.2, false)).1, (runS [.n, .i] ((nameS l1 b1).2.1, (nameS l1 b1).2.2, false)).2)) := hqZ (HR1.out.trans rfl)
  have HP2 : Hid (PtsV v2 F ([.s x1] ++ [.s (nameS l1 b1).1]) ([.string (tx x1)] ++ [.string (tx (nameS l1 b1).1)])) := hqZ ((HP1.out.keep hk HT1.out.hs (by rfl)).snoc (p := .s (nameS l1 b1).1) rfl)
  have HT2 := hqZ ht
  have HK2 := hqZ (keepsM rfl HK1.out (HK1.out.size) hk)
  clear ht hk HT1 HK1 HR1 HP1
  generalize nameS l1 b1 = st at *
  obtain ⟨x2, l2, b2⟩ := st
  simp only at *
  have HS := HT2.out.ptr
  refine hK _ _ HS ?_
  clear hK K
  try simp only [Act.put, zq1, zq2, zq3]
  refine anyH_ready (rs := [14]) (by decide +kernel) (by simp) ?_
  refine AllReadyH.cons (o := { dst := some 141, op := .call { callee := .value (.func 36), args := #[.tmp 140], argTypes := #[101] }, type := _, pos := _, after := _, guard := none }) rfl (fun K hK => ?_) AllReadyH.nil
  go_simp
  refine (numK_any l2 b2 false pm p F v2 HT2.out).mono ?_
  rintro e v3 ⟨rfl, ht, hk⟩
  have HR3 : Hid (runS (shapeS 16) (l, false, false) = (.s x1 :: .s x2 :: .n (numS l2 b2).1 :: (runS [.i] ((numS l2 b2).2.1, (numS l2 b2).2.2, false)).1, (runS [.i] ((numS l2 b2).2.1, (numS l2 b2).2.2, false)).2)) := hqZ (HR2.out.trans rfl)
  have HP3 : Hid (PtsV v3 F ([.s x1, .s x2] ++ [.n (numS l2 b2).1]) ([.string (tx x1), .string (tx x2)] ++ [.int .i64 (numS l2 b2).1])) := hqZ ((HP2.out.keep hk HT2.out.hs (by rfl)).snoc (p := .n (numS l2 b2).1) rfl)
  have HT3 := hqZ ht
  have HK3 := hqZ (keepsM rfl HK2.out (HK2.out.size) hk)
  clear ht hk HT2 HK2 HR2 HP2
  generalize numS l2 b2 = st at *
  obtain ⟨x3, l3, b3⟩ := st
  simp only at *
  have HS := HT3.out.ptr
  refine hK _ _ HS ?_
  clear hK K
  try simp only [Act.put, zq1, zq2, zq3]
  refine anyH_ready (rs := [16]) (by decide +kernel) (by simp) ?_
  refine AllReadyH.cons (o := { dst := some 143, op := .call { callee := .value (.func 38), args := #[.tmp 142], argTypes := #[100] }, type := _, pos := _, after := _, guard := none }) rfl (fun K hK => ?_) AllReadyH.nil
  go_simp
  refine (ticket_any l3 b3 false pm p F v3 HT3.out).mono ?_
  rintro e v4 ⟨vb, ⟨rfl, ht, hk⟩, bv4, rfl, hb, ho⟩
  have HR4 : Hid (runS (shapeS 16) (l, false, false) = (.s x1 :: .s x2 :: .n x3 :: .i (tickS l3 b3 false).1 :: (runS [] (tickS l3 b3 false).2).1, (runS [] (tickS l3 b3 false).2).2)) := hqZ (HR3.out.trans rfl)
  obtain ⟨ab4, cb4, rfl, hcb4, hmb4⟩ := hb.form
  have HP4 : Hid (PtsV v4 F ([.s x1, .s x2, .n x3] ++ [.i (tickS l3 b3 false).1]) ([.string (tx x1), .string (tx x2), .int .i64 x3] ++ [.string (tx (tickS l3 b3 false).1.1), .slice ab4 (tickS l3 b3 false).1.2.length cb4])) := hqZ ((HP3.out.keep hk HT3.out.hs (by rfl)).snoc (p := .i (tickS l3 b3 false).1) ⟨_, rfl, hb, ho⟩)
  have HT4 := hqZ ht
  have HK4 := hqZ (keepsM rfl HK3.out (HK3.out.size) hk)
  clear ht hk hb ho HT3 HK3 HR3 HP3
  generalize tickS l3 b3 false = st at *
  obtain ⟨x4, l4, b4, c4⟩ := st
  simp only at *
  obtain ⟨y4, x4⟩ := x4
  simp only at *
  generalize hz4 : x4.length = z4 at *
  generalize hy4 : tx y4 = ty4 at *
  have HS := HT4.out.ptr
  refine hK _ _ HS ?_
  clear hK K
  try simp only [Act.put, zq1, zq2, zq3]
  refine tkH 17 144 none (.agg #[.string (tx x1), .string (tx x2), .int .i64 x3, .string ty4, .slice ab4 z4 cb4]) rfl (by kernel_rfl) (fun _ _ _ h => h) (by rfl) (by intro W hW; go_simp) HS ?_
  simp only [Act.put, zq1, zq2, zq3]
  refine tkH 18 145 none (.iface 64 (.agg #[.string (tx x1), .string (tx x2), .int .i64 x3, .string ty4, .slice ab4 z4 cb4])) rfl (by kernel_rfl) (fun _ _ _ h => h) (by rfl) (by intro W hW; go_simp) HS ?_
  simp only [Act.put, zq1, zq2, zq3]
  refine tkH 19 5 none (.iface 64 (.agg #[.string (tx x1), .string (tx x2), .int .i64 x3, .string ty4, .slice ab4 z4 cb4])) rfl (by kernel_rfl) (fun _ _ _ h => h) (by rfl) (by intro W hW; go_simp) HS ?_
  simp only [Act.put, zq1, zq2, zq3]
  refine wpAnyH_done (by decide +kernel) ?_ _
  have ho := HOM.out _ _ _ _ _ _ (by decide) HR4.out ⟨_, rfl, HP4.out⟩
  have ht := HT4.out
  have hk := HK4.out
  obtain ⟨hb, hq⟩ := HKb.out _ hk
  have c0 : v4.cell? ⟨q, 0, none⟩ = some (.int .i64 x.kind) := hq.cell 0
  have m0 := ht.ptr
  have m1 : v4.cell? ⟨pm, 1, none⟩ = some (.bool c4) := ht.1.cell 1
  have HX := hqZ (OutM.no ho (HQ.out _ hb))
  have HY := hqZ (OutM.yes ho (HQ.out _ hb))
  have HD := hqZ (done_any l4 b4 p F v4 ht.2.1)
  clear ht hk ho hb hq
  by_cases hk2 : x.kind = 2
  · have HK2 := hqZ hk2
    have hkb : (x.kind != 2) = false := by simpa using hk2
    clear hk2
    generalize hdn : (!b4 && l4.isEmpty) = dn at *
    clear hdn
    cases c4 with
    | true =>
      go_wp2_with fail
      go_ret2
      exact HX.out (fun h => by simp at h)
    | false =>
      go_wp2_with fail
      refine HD.out.mono ?_
      rintro e w2 ⟨rfl, rfl⟩
      cases dn with
      | true =>
        go_wp2_with fail
        go_ret2
        exact HY.out HK2.out (by simp) (by first | rfl | trivial) (by first | rfl | trivial)
      | false =>
        go_wp2_with fail
        go_ret2
        exact HX.out (fun h => by simp at h)
  · have hkb : (x.kind != 2) = true := by simpa using hk2
    have HK2 := hqZ hk2
    clear hk2
    go_wp2_with fail
    go_ret2
    exact HX.out (fun h => HK2.out h.1)
set_option maxHeartbeats 16000000 in
set_option maxRecDepth 100000 in
theorem msgOf_17 (x : Tv) (F : Nat → Prop) (cs : List Value) (w : World) (h : TvF w F x cs) (hF : ∀ b, F b → b < w.heap.size) (hL : Lw x) (htag : x.tag = 17) :
    Calls Try.prog 19 #[.agg cs.toArray] w (OfM w F x) := by
  have HTG := hqZ htag
  clear htag
  have HLN := hqZ h.length
  have HQ0 := hqZ (Blk.new w cs 38)
  have hB0 : Below w.heap.size w (w.alloc (.cells cs.toArray 38)) := (Below.refl _ _).alloc (Nat.le_refl _) _
  have HB0 := hqZ hB0
  have HTK := hqZ (take_any x F cs _ (h.below hB0) (fun b hb => by have := hF b hb; simp; omega))
  have HL : Hid (∀ y ∈ x.l, y.l.length ≤ 1954687338211) := hqZ (fun y hy => by
    obtain ⟨k, t, n, b, l⟩ := x
    have h1 := LsW.mem hL.2 y hy
    obtain ⟨k2, t2, n2, b2, l2⟩ := y
    exact h1.1)
  have HF := hqZ hF
  obtain ⟨q, hq⟩ : ∃ q, q = w.heap.size := ⟨_, rfl⟩
  have HQ : Hid (∀ W, Below q w W → BelowO w W) := hqZ (fun W h => by rw [hq] at h; exact h)
  have hopen := h.open_
  clear h hB0 hL
  go_enter Try.func19, Try.ntmps19
  go_wp2_with ((with_reducible show wpList _ _ _ (⟨some 6, _, _, _, _, _⟩ :: _) _ _); refine wpList_ldAgg rfl (.tmp 1) aggDer rfl rfl (cs := cs) HLN.out HQ0.out.cellsAll ?_)
  refine HTK.out.mono ?_
  rintro e w0 ⟨p, rfl, ht, hb, hp⟩
  obtain ⟨bv, lv, rows, rfl, hb1, hb2, hb3, hb4, hb5⟩ := hopen
  obtain ⟨pm, hpm⟩ : ∃ pm, pm = w0.heap.size := ⟨_, rfl⟩
  have hA0 : Below w0.heap.size w0 (w0.alloc (.cells [.pointer (some ⟨p, 0, none⟩), .bool false].toArray 104)) := (Below.refl _ _).alloc (Nat.le_refl _) _
  have hpl := ht.lt
  have hz0 : w.heap.size ≤ w0.heap.size := by have := hb.size; simp at this; omega
  have ht0 : Tkn (w0.alloc (.cells [.pointer (some ⟨p, 0, none⟩), .bool false].toArray 104)) F pm p x.l false false := by
    refine ⟨by rw [hpm]; exact Blk.new _ _ _, ht.below hA0, by omega, fun h => ?_, fun b hb => ?_⟩
    · have := HF.out _ h; omega
    · have := HF.out _ hb; simp; omega
  have hq0 := (HQ0.out.below hb (by simp)).alloc (.cells [.pointer (some ⟨p, 0, none⟩), .bool false].toArray 104)
  have hbt : Below w.heap.size w (w0.alloc (.cells [.pointer (some ⟨p, 0, none⟩), .bool false].toArray 104)) := (HB0.out.trans (hb.mono (by simp))).trans (hA0.mono hz0)
  obtain ⟨wt, hwt⟩ : ∃ wt, wt = w0.alloc (.cells [.pointer (some ⟨p, 0, none⟩), .bool false].toArray 104) := ⟨_, rfl⟩
  rw [← hwt] at ht0 hq0 hbt
  have HT := hqZ ht0
  have HBT := hqZ hbt
  have HQT := hqZ hq0
  have HP : Hid (w.heap.size < p ∧ w.heap.size < pm ∧ w.heap.size < wt.heap.size) := hqZ (by simp at hp; have := ht0.lt; exact ⟨by omega, by omega, by omega⟩)
  have cT : wt.cell? ⟨w.heap.size, 1, none⟩ = some (.int .i64 x.tag) := HQT.out.cell 1
  have HKb : Hid (∀ W, Keeps (Sm pm p wt.heap.size) wt W → Below w.heap.size w W ∧ Blk W w.heap.size [.int .i64 x.kind, .int .i64 x.tag, .int .u64 (x.n : Int), bv, lv] 38) := hqZ (fun W hk =>
    ⟨HBT.out.trans (hk.below (fun b hb => by have := HP.out; rcases hb with h | h | h <;> omega)), HQT.out.keep hk (fun h => by have := HP.out; rcases h with h | h | h <;> omega)⟩)
  clear ht hb hp hb1 hb2 hb3 hb4 hb5 HQ0 HB0 HTK hA0 hpl hz0 ht0 hq0 hbt
  go_upto_region 2 with fail
  show Code.wp _ _ _ _ (w0.alloc (.cells [.pointer (some ⟨p, 0, none⟩), .bool false].toArray 104))
  rw [← hwt, ← hpm]
  clear hwt hpm
  rw [← hq] at *
  clear hq
  have hxt : 17 = x.tag := HTG.out.symm
  obtain ⟨l, hxl⟩ : ∃ l, l = x.l := ⟨_, rfl⟩
  have HXT := hqZ hxt
  have HXL := hqZ hxl
  rw [← hxt] at cT HKb HQT ⊢
  rw [← hxl] at HT HL
  clear hxt hxl HTG
  have HOM : Hid (∀ W o pts rem bad bad2, (shapeS x.tag).isEmpty = false → runS (shapeS x.tag) (x.l, false, false) = (pts, rem, bad, bad2) → MsgV W F x.tag pts o → OutM W F x o rem bad bad2) := hqZ (fun W o pts rem bad bad2 h0 h1 h2 => by unfold OutM; rw [if_neg (by rw [h0]; decide)]; exact ⟨pts, h1, h2⟩)
  rw [← HXT.out] at HOM
  rw [← HXL.out] at HOM
  clear HXT HXL
  go_upto_region 17 with fail
  refine wp_region_held (S := fun W : World => W.cell? ⟨pm, 0, none⟩ = some (.pointer (some ⟨p, 0, none⟩))) (by kernel_rfl) ?_
  change wpAnyH _ _ _ _ _ _ _ _ (World.drew _)
  have HS : (World.drew wt).cell? ⟨pm, 0, none⟩ = some (.pointer (some ⟨p, 0, none⟩)) := HT.out.ptr
  have HT0 := hqZ HT.out.drew
  have HK0 : Hid (Keeps (Sm pm p wt.heap.size) wt wt.drew) := hqZ (Keeps.refl _ _).drew
  have HR0 : Hid (runS (shapeS 17) (l, false, false) = runS [.s, .s, .n, .i, .b] (l, false, false)) := hqZ rfl
  have HP0 : Hid (PtsV wt.drew F [] []) := hqZ rfl
  generalize World.drew wt = wd at HS HT0 HK0 HP0 ⊢
  refine tkH 0 148 none (.pointer (some ⟨pm, 0, none⟩)) rfl (by kernel_rfl) (fun _ _ _ h => h) (by rfl) (by intro W hW; go_simp) HS ?_
  simp only [Act.put, zq1, zq2, zq3]
  refine tkH 1 149 none (.pointer (some ⟨pm, 0, none⟩)) rfl (by kernel_rfl) (fun _ _ _ h => h) (by rfl) (by intro W hW; go_simp) HS ?_
  simp only [Act.put, zq1, zq2, zq3]
  refine tkH 2 150 none (.pointer (some ⟨pm, 0, none⟩)) rfl (by kernel_rfl) (fun _ _ _ h => h) (by rfl) (by intro W hW; go_simp) HS ?_
  simp only [Act.put, zq1, zq2, zq3]
  refine tkH 3 151 none (.pointer (some ⟨p, 0, none⟩)) rfl (by kernel_rfl) (fun _ _ _ h => h) (by rfl) (by intro W hW; have hc0 : W.cell? ⟨pm, 0, none⟩ = some (.pointer (some ⟨p, 0, none⟩)) := hW; go_simp) HS ?_
  simp only [Act.put, zq1, zq2, zq3]
  refine tkH 5 153 none (.pointer (some ⟨pm, 0, none⟩)) rfl (by kernel_rfl) (fun _ _ _ h => h) (by rfl) (by intro W hW; go_simp) HS ?_
  simp only [Act.put, zq1, zq2, zq3]
  refine tkH 6 154 none (.pointer (some ⟨pm, 0, none⟩)) rfl (by kernel_rfl) (fun _ _ _ h => h) (by rfl) (by intro W hW; go_simp) HS ?_
  simp only [Act.put, zq1, zq2, zq3]
  refine tkH 7 155 none (.pointer (some ⟨pm, 0, none⟩)) rfl (by kernel_rfl) (fun _ _ _ h => h) (by rfl) (by intro W hW; go_simp) HS ?_
  simp only [Act.put, zq1, zq2, zq3]
  refine tkH 8 156 none (.pointer (some ⟨p, 0, none⟩)) rfl (by kernel_rfl) (fun _ _ _ h => h) (by rfl) (by intro W hW; have hc0 : W.cell? ⟨pm, 0, none⟩ = some (.pointer (some ⟨p, 0, none⟩)) := hW; go_simp) HS ?_
  simp only [Act.put, zq1, zq2, zq3]
  refine tkH 10 158 none (.pointer (some ⟨pm, 0, none⟩)) rfl (by kernel_rfl) (fun _ _ _ h => h) (by rfl) (by intro W hW; go_simp) HS ?_
  simp only [Act.put, zq1, zq2, zq3]
  refine tkH 11 159 none (.pointer (some ⟨pm, 0, none⟩)) rfl (by kernel_rfl) (fun _ _ _ h => h) (by rfl) (by intro W hW; go_simp) HS ?_
  simp only [Act.put, zq1, zq2, zq3]
  refine tkH 12 160 none (.pointer (some ⟨pm, 0, none⟩)) rfl (by kernel_rfl) (fun _ _ _ h => h) (by rfl) (by intro W hW; go_simp) HS ?_
  simp only [Act.put, zq1, zq2, zq3]
  refine tkH 13 161 none (.pointer (some ⟨p, 0, none⟩)) rfl (by kernel_rfl) (fun _ _ _ h => h) (by rfl) (by intro W hW; have hc0 : W.cell? ⟨pm, 0, none⟩ = some (.pointer (some ⟨p, 0, none⟩)) := hW; go_simp) HS ?_
  simp only [Act.put, zq1, zq2, zq3]
  refine tkH 15 163 none (.pointer (some ⟨pm, 0, none⟩)) rfl (by kernel_rfl) (fun _ _ _ h => h) (by rfl) (by intro W hW; go_simp) HS ?_
  simp only [Act.put, zq1, zq2, zq3]
  refine tkH 17 165 none (.pointer (some ⟨pm, 0, none⟩)) rfl (by kernel_rfl) (fun _ _ _ h => h) (by rfl) (by intro W hW; go_simp) HS ?_
  simp only [Act.put, zq1, zq2, zq3]
  refine tkH 18 166 none (.pointer (some ⟨pm, 0, none⟩)) rfl (by kernel_rfl) (fun _ _ _ h => h) (by rfl) (by intro W hW; go_simp) HS ?_
  simp only [Act.put, zq1, zq2, zq3]
  refine tkH 19 167 none (.pointer (some ⟨pm, 0, none⟩)) rfl (by kernel_rfl) (fun _ _ _ h => h) (by rfl) (by intro W hW; go_simp) HS ?_
  simp only [Act.put, zq1, zq2, zq3]
  refine tkH 20 168 none (.pointer (some ⟨p, 0, none⟩)) rfl (by kernel_rfl) (fun _ _ _ h => h) (by rfl) (by intro W hW; have hc0 : W.cell? ⟨pm, 0, none⟩ = some (.pointer (some ⟨p, 0, none⟩)) := hW; go_simp) HS ?_
  simp only [Act.put, zq1, zq2, zq3]
  refine anyH_ready (rs := [4]) (by decide +kernel) (by simp) ?_
  refine AllReadyH.cons (o := { dst := some 152, op := .call { callee := .value (.func 35), args := #[.tmp 151], argTypes := #[101] }, type := _, pos := _, after := _, guard := none }) rfl (fun K hK => ?_) AllReadyH.nil
  go_simp
  refine (nameK_any l false false pm p F wd HT0.out).mono ?_
  rintro e v1 ⟨rfl, ht, hk⟩
  have HR1 : Hid (runS (shapeS 17) (l, false, false) = (.s (nameS l false).1 :: (runS [.s, .n, .i, .b] ((nameS l false).2.1, (nameS l false).2.2, false)).1, (runS [.s, .n, .i, .b] ((nameS l false).2.1, (nameS l false).2.2, false)).2)) := hqZ (HR0.out.trans rfl)
  have HP1 : Hid (PtsV v1 F ([] ++ [.s (nameS l false).1]) ([] ++ [.string (tx (nameS l false).1)])) := hqZ ((HP0.out.keep hk HT0.out.hs (by rfl)).snoc (p := .s (nameS l false).1) rfl)
  have HT1 := hqZ ht
  have HK1 := hqZ (keepsM rfl HK0.out (HK0.out.size) hk)
  clear ht hk HT0 HK0 HR0 HP0
  generalize nameS l false = st at *
  obtain ⟨x1, l1, b1⟩ := st
  simp only at *
  have HS := HT1.out.ptr
  refine hK _ _ HS ?_
  clear hK K
  try simp only [Act.put, zq1, zq2, zq3]
  refine anyH_ready (rs := [9]) (by decide +kernel) (by simp) ?_
  refine AllReadyH.cons (o := { dst := some 157, op := .call { callee := .value (.func 35), args := #[.tmp 156], argTypes := #[101] }, type := _, pos := _, after := _, guard := none }) rfl (fun K hK => ?_) AllReadyH.nil
  go_simp
  refine (nameK_any l1 b1 false pm p F v1 HT1.out).mono ?_
  rintro e v2 ⟨rfl, ht, hk⟩
  have HR2 : Hid (runS (shapeS 17) (l, false, false) = (.s x1 :: .s (nameS l1 b1).1 :: (runS [.n, .i, .b] ((nameS l1 b1).2.1, (nameS l1 b1).2.2, false)).1, (runS [.n, .i, .b] ((nameS l1 b1).2.1, (nameS l1 b1).2.2, false)).2)) := hqZ (HR1.out.trans rfl)
  have HP2 : Hid (PtsV v2 F ([.s x1] ++ [.s (nameS l1 b1).1]) ([.string (tx x1)] ++ [.string (tx (nameS l1 b1).1)])) := hqZ ((HP1.out.keep hk HT1.out.hs (by rfl)).snoc (p := .s (nameS l1 b1).1) rfl)
  have HT2 := hqZ ht
  have HK2 := hqZ (keepsM rfl HK1.out (HK1.out.size) hk)
  clear ht hk HT1 HK1 HR1 HP1
  generalize nameS l1 b1 = st at *
  obtain ⟨x2, l2, b2⟩ := st
  simp only at *
  have HS := HT2.out.ptr
  refine hK _ _ HS ?_
  clear hK K
  try simp only [Act.put, zq1, zq2, zq3]
  refine anyH_ready (rs := [14]) (by decide +kernel) (by simp) ?_
  refine AllReadyH.cons (o := { dst := some 162, op := .call { callee := .value (.func 36), args := #[.tmp 161], argTypes := #[101] }, type := _, pos := _, after := _, guard := none }) rfl (fun K hK => ?_) AllReadyH.nil
  go_simp
  refine (numK_any l2 b2 false pm p F v2 HT2.out).mono ?_
  rintro e v3 ⟨rfl, ht, hk⟩
  have HR3 : Hid (runS (shapeS 17) (l, false, false) = (.s x1 :: .s x2 :: .n (numS l2 b2).1 :: (runS [.i, .b] ((numS l2 b2).2.1, (numS l2 b2).2.2, false)).1, (runS [.i, .b] ((numS l2 b2).2.1, (numS l2 b2).2.2, false)).2)) := hqZ (HR2.out.trans rfl)
  have HP3 : Hid (PtsV v3 F ([.s x1, .s x2] ++ [.n (numS l2 b2).1]) ([.string (tx x1), .string (tx x2)] ++ [.int .i64 (numS l2 b2).1])) := hqZ ((HP2.out.keep hk HT2.out.hs (by rfl)).snoc (p := .n (numS l2 b2).1) rfl)
  have HT3 := hqZ ht
  have HK3 := hqZ (keepsM rfl HK2.out (HK2.out.size) hk)
  clear ht hk HT2 HK2 HR2 HP2
  generalize numS l2 b2 = st at *
  obtain ⟨x3, l3, b3⟩ := st
  simp only at *
  have HS := HT3.out.ptr
  refine hK _ _ HS ?_
  clear hK K
  try simp only [Act.put, zq1, zq2, zq3]
  refine anyH_ready (rs := [16]) (by decide +kernel) (by simp) ?_
  refine AllReadyH.cons (o := { dst := some 164, op := .call { callee := .value (.func 38), args := #[.tmp 163], argTypes := #[100] }, type := _, pos := _, after := _, guard := none }) rfl (fun K hK => ?_) AllReadyH.nil
  go_simp
  refine (ticket_any l3 b3 false pm p F v3 HT3.out).mono ?_
  rintro e v4 ⟨vb, ⟨rfl, ht, hk⟩, bv4, rfl, hb, ho⟩
  have HR4 : Hid (runS (shapeS 17) (l, false, false) = (.s x1 :: .s x2 :: .n x3 :: .i (tickS l3 b3 false).1 :: (runS [.b] (tickS l3 b3 false).2).1, (runS [.b] (tickS l3 b3 false).2).2)) := hqZ (HR3.out.trans rfl)
  obtain ⟨ab4, cb4, rfl, hcb4, hmb4⟩ := hb.form
  have HP4 : Hid (PtsV v4 F ([.s x1, .s x2, .n x3] ++ [.i (tickS l3 b3 false).1]) ([.string (tx x1), .string (tx x2), .int .i64 x3] ++ [.string (tx (tickS l3 b3 false).1.1), .slice ab4 (tickS l3 b3 false).1.2.length cb4])) := hqZ ((HP3.out.keep hk HT3.out.hs (by rfl)).snoc (p := .i (tickS l3 b3 false).1) ⟨_, rfl, hb, ho⟩)
  have HT4 := hqZ ht
  have HK4 := hqZ (keepsM rfl HK3.out (HK3.out.size) hk)
  clear ht hk hb ho HT3 HK3 HR3 HP3
  generalize tickS l3 b3 false = st at *
  obtain ⟨x4, l4, b4, c4⟩ := st
  simp only at *
  obtain ⟨y4, x4⟩ := x4
  simp only at *
  generalize hz4 : x4.length = z4 at *
  generalize hy4 : tx y4 = ty4 at *
  have HS := HT4.out.ptr
  refine hK _ _ HS ?_
  clear hK K
  try simp only [Act.put, zq1, zq2, zq3]
  refine anyH_ready (rs := [21]) (by decide +kernel) (by simp) ?_
  refine AllReadyH.cons (o := { dst := some 169, op := .call { callee := .value (.func 37), args := #[.tmp 168], argTypes := #[101] }, type := _, pos := _, after := _, guard := none }) rfl (fun K hK => ?_) AllReadyH.nil
  go_simp
  refine (bytesK_any l4 b4 c4 pm p F v4 HT4.out).mono ?_
  rintro e v5 ⟨vb, ⟨rfl, ht, hk⟩, hb, ho⟩
  have HR5 : Hid (runS (shapeS 17) (l, false, false) = (.s x1 :: .s x2 :: .n x3 :: .i (y4, x4) :: .b (bytesS l4 b4).1 :: (runS [] ((bytesS l4 b4).2.1, (bytesS l4 b4).2.2, c4)).1, (runS [] ((bytesS l4 b4).2.1, (bytesS l4 b4).2.2, c4)).2)) := hqZ (HR4.out.trans rfl)
  obtain ⟨ab5, cb5, rfl, hcb5, hmb5⟩ := hb.form
  have HP5 : Hid (PtsV v5 F ([.s x1, .s x2, .n x3, .i (y4, x4)] ++ [.b (bytesS l4 b4).1]) ([.string (tx x1), .string (tx x2), .int .i64 x3, .string ty4, .slice ab4 z4 cb4] ++ [.slice ab5 (bytesS l4 b4).1.length cb5])) := hqZ ((HP4.out.keep hk HT4.out.hs (by rfl)).snoc (p := .b (bytesS l4 b4).1) ⟨_, rfl, hb, ho⟩)
  have HT5 := hqZ ht
  have HK5 := hqZ (keepsM rfl HK4.out (HK4.out.size) hk)
  clear ht hk hb ho HT4 HK4 HR4 HP4
  generalize bytesS l4 b4 = st at *
  obtain ⟨x5, l5, b5⟩ := st
  simp only at *
  generalize hz5 : x5.length = z5 at *
  have HS := HT5.out.ptr
  refine hK _ _ HS ?_
  clear hK K
  try simp only [Act.put, zq1, zq2, zq3]
  refine tkH 22 170 none (.agg #[.string (tx x1), .string (tx x2), .int .i64 x3, .string ty4, .slice ab4 z4 cb4, .slice ab5 z5 cb5]) rfl (by kernel_rfl) (fun _ _ _ h => h) (by rfl) (by intro W hW; go_simp) HS ?_
  simp only [Act.put, zq1, zq2, zq3]
  refine tkH 23 171 none (.iface 66 (.agg #[.string (tx x1), .string (tx x2), .int .i64 x3, .string ty4, .slice ab4 z4 cb4, .slice ab5 z5 cb5])) rfl (by kernel_rfl) (fun _ _ _ h => h) (by rfl) (by intro W hW; go_simp) HS ?_
  simp only [Act.put, zq1, zq2, zq3]
  refine tkH 24 5 none (.iface 66 (.agg #[.string (tx x1), .string (tx x2), .int .i64 x3, .string ty4, .slice ab4 z4 cb4, .slice ab5 z5 cb5])) rfl (by kernel_rfl) (fun _ _ _ h => h) (by rfl) (by intro W hW; go_simp) HS ?_
  simp only [Act.put, zq1, zq2, zq3]
  refine wpAnyH_done (by decide +kernel) ?_ _
  have ho := HOM.out _ _ _ _ _ _ (by decide) HR5.out ⟨_, rfl, HP5.out⟩
  have ht := HT5.out
  have hk := HK5.out
  obtain ⟨hb, hq⟩ := HKb.out _ hk
  have c0 : v5.cell? ⟨q, 0, none⟩ = some (.int .i64 x.kind) := hq.cell 0
  have m0 := ht.ptr
  have m1 : v5.cell? ⟨pm, 1, none⟩ = some (.bool c4) := ht.1.cell 1
  have HX := hqZ (OutM.no ho (HQ.out _ hb))
  have HY := hqZ (OutM.yes ho (HQ.out _ hb))
  have HD := hqZ (done_any l5 b5 p F v5 ht.2.1)
  clear ht hk ho hb hq
  by_cases hk2 : x.kind = 2
  · have HK2 := hqZ hk2
    have hkb : (x.kind != 2) = false := by simpa using hk2
    clear hk2
    generalize hdn : (!b5 && l5.isEmpty) = dn at *
    clear hdn
    cases c4 with
    | true =>
      go_wp2_with fail
      go_ret2
      exact HX.out (fun h => by simp at h)
    | false =>
      go_wp2_with fail
      refine HD.out.mono ?_
      rintro e w2 ⟨rfl, rfl⟩
      cases dn with
      | true =>
        go_wp2_with fail
        go_ret2
        exact HY.out HK2.out (by simp) (by first | rfl | trivial) (by first | rfl | trivial)
      | false =>
        go_wp2_with fail
        go_ret2
        exact HX.out (fun h => by simp at h)
  · have hkb : (x.kind != 2) = true := by simpa using hk2
    have HK2 := hqZ hk2
    clear hk2
    go_wp2_with fail
    go_ret2
    exact HX.out (fun h => HK2.out h.1)
end Go.Proofs.Ytpjkidcfidmfaaa
