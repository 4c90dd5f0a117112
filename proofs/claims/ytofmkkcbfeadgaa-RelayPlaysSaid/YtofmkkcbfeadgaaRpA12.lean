/- Texts of this proof, one behind the other: MMsgOE, MMsgOf, MIO, MAlive, MLen, RelP, DerWrO, MIOO, RelAlive, ResZ, RelL. -/
import Derived.Test.YtofmkkcbfeadgaaRpA11
namespace Go.Proofs.Ytofmkkcbfeadgaa
set_option linter.unusedSimpArgs false
set_option linter.unusedVariables false
open Go.RowKit
set_option maxHeartbeats 16000000 in
set_option maxRecDepth 100000 in
theorem msgOf_20 (x : Tv) (F : Nat → Prop) (cs : List Value) (w : World) (h : TvF w F x cs) (hF : ∀ b, F b → b < w.heap.size) (hL : Lw x) (htag : x.tag = 20) :
    Calls Try.prog 28 #[.agg cs.toArray] w (OfM w F x) := by
  have HTG := hI htag
  clear htag
  have HLN := hI h.length
  have HQ0 := hI (Blk.new w cs 70)
  have hB0 : Below w.heap.size w (w.alloc (.cells cs.toArray 70)) := (Below.refl _ _).alloc (Nat.le_refl _) _
  have HB0 := hI hB0
  have HTK := hI (take_any x F cs _ (h.below hB0) (fun b hb => by have := hF b hb; simp; omega))
  have HL : Hid (∀ y ∈ x.l, y.l.length ≤ 1954687338211) := hI (fun y hy => by
    obtain ⟨k, t, n, b, l⟩ := x
    have h1 := LsW.mem hL.2 y hy
    obtain ⟨k2, t2, n2, b2, l2⟩ := y
    exact h1.1)
  have HF := hI hF
  obtain ⟨q, hq⟩ : ∃ q, q = w.heap.size := ⟨_, rfl⟩
  have HQ : Hid (∀ W, Below q w W → BelowO w W) := hI (fun W h => by rw [hq] at h; exact h)
  have hopen := h.open_
  clear h hB0 hL
  go_enter Try.func28, Try.ntmps28
  go_wp2_with ((with_reducible show wpList _ _ _ (⟨some 6, _, _, _, _, _⟩ :: _) _ _); refine wpList_ldAgg rfl (.tmp 1) aggDer rfl rfl (cs := cs) HLN.out HQ0.out.cellsAll ?_)
  refine HTK.out.mono ?_
  rintro e w0 ⟨p, rfl, ht, hb, hp⟩
  obtain ⟨bv, lv, rows, rfl, hb1, hb2, hb3, hb4, hb5⟩ := hopen
  obtain ⟨pm, hpm⟩ : ∃ pm, pm = w0.heap.size := ⟨_, rfl⟩
  have hA0 : Below w0.heap.size w0 (w0.alloc (.cells [.pointer (some ⟨p, 0, none⟩), .bool false].toArray 120)) := (Below.refl _ _).alloc (Nat.le_refl _) _
  have hpl := ht.lt
  have hz0 : w.heap.size ≤ w0.heap.size := by have := hb.size; simp at this; omega
  have ht0 : Tkn (w0.alloc (.cells [.pointer (some ⟨p, 0, none⟩), .bool false].toArray 120)) F pm p x.l false false := by
    refine ⟨by rw [hpm]; exact Blk.new _ _ _, ht.below hA0, by omega, fun h => ?_, fun b hb => ?_⟩
    · have := HF.out _ h; omega
    · have := HF.out _ hb; simp; omega
  have hq0 := (HQ0.out.below hb (by simp)).alloc (.cells [.pointer (some ⟨p, 0, none⟩), .bool false].toArray 120)
  have hbt : Below w.heap.size w (w0.alloc (.cells [.pointer (some ⟨p, 0, none⟩), .bool false].toArray 120)) := (HB0.out.trans (hb.mono (by simp))).trans (hA0.mono hz0)
  obtain ⟨wt, hwt⟩ : ∃ wt, wt = w0.alloc (.cells [.pointer (some ⟨p, 0, none⟩), .bool false].toArray 120) := ⟨_, rfl⟩
  rw [← hwt] at ht0 hq0 hbt
  have HT := hI ht0
  have HBT := hI hbt
  have HQT := hI hq0
  have HP : Hid (w.heap.size < p ∧ w.heap.size < pm ∧ w.heap.size < wt.heap.size) := hI (by simp at hp; have := ht0.lt; exact ⟨by omega, by omega, by omega⟩)
  have cT : wt.cell? ⟨w.heap.size, 1, none⟩ = some (.int .i64 x.tag) := HQT.out.cell 1
  have HKb : Hid (∀ W, Keeps (Sm pm p wt.heap.size) wt W → Below w.heap.size w W ∧ Blk W w.heap.size [.int .i64 x.kind, .int .i64 x.tag, .int .u64 (x.n : Int), bv, lv] 70) := hI (fun W hk =>
    ⟨HBT.out.trans (hk.below (fun b hb => by have := HP.out; rcases hb with h | h | h <;> omega)), HQT.out.keep hk (fun h => by have := HP.out; rcases h with h | h | h <;> omega)⟩)
  clear ht hb hp hb1 hb2 hb3 hb4 hb5 HQ0 HB0 HTK hA0 hpl hz0 ht0 hq0 hbt
  go_upto_region 2 with fail
  show Code.wp _ _ _ _ (w0.alloc (.cells [.pointer (some ⟨p, 0, none⟩), .bool false].toArray 120))
  rw [← hwt, ← hpm]
  clear hwt hpm
  rw [← hq] at *
  clear hq
  have hxt : 20 = x.tag := HTG.out.symm
  obtain ⟨l, hxl⟩ : ∃ l, l = x.l := ⟨_, rfl⟩
  have HXT := hI hxt
  have HXL := hI hxl
  rw [← hxt] at cT HKb HQT ⊢
  rw [← hxl] at HT HL
  clear hxt hxl HTG
  have HOM : Hid (∀ W o pts rem bad bad2, (shapeS x.tag).isEmpty = false → runS (shapeS x.tag) (x.l, false, false) = (pts, rem, bad, bad2) → MsgV W F x.tag pts o → OutM W F x o rem bad bad2) := hI (fun W o pts rem bad bad2 h0 h1 h2 => by unfold OutM; rw [if_neg (by rw [h0]; decide)]; exact ⟨pts, h1, h2⟩)
  rw [← HXT.out] at HOM
  rw [← HXL.out] at HOM
  clear HXT HXL
  go_upto_region 23 with fail
  refine wp_region_held (S := fun W : World => W.cell? ⟨pm, 0, none⟩ = some (.pointer (some ⟨p, 0, none⟩))) (by kernel_rfl) ?_
  change wpAnyH _ _ _ _ _ _ _ _ (World.drew _)
  have HS : (World.drew wt).cell? ⟨pm, 0, none⟩ = some (.pointer (some ⟨p, 0, none⟩)) := HT.out.ptr
  have HT0 := hI HT.out.drew
  have HK0 : Hid (Keeps (Sm pm p wt.heap.size) wt wt.drew) := hI (Keeps.refl _ _).drew
  have HR0 : Hid (runS (shapeS 20) (l, false, false) = runS [.s, .n, .n, .t, .i, .b] (l, false, false)) := hI rfl
  have HP0 : Hid (PtsV wt.drew F [] []) := hI rfl
  generalize World.drew wt = wd at HS HT0 HK0 HP0 ⊢
  refine tkH 0 232 none (.pointer (some ⟨pm, 0, none⟩)) rfl (by kernel_rfl) (fun _ _ _ h => h) (by rfl) (by intro W hW; go_simp) HS ?_
  simp only [Act.put, q1, q2, q3]
  refine tkH 1 233 none (.pointer (some ⟨pm, 0, none⟩)) rfl (by kernel_rfl) (fun _ _ _ h => h) (by rfl) (by intro W hW; go_simp) HS ?_
  simp only [Act.put, q1, q2, q3]
  refine tkH 2 234 none (.pointer (some ⟨pm, 0, none⟩)) rfl (by kernel_rfl) (fun _ _ _ h => h) (by rfl) (by intro W hW; go_simp) HS ?_
  simp only [Act.put, q1, q2, q3]
  refine tkH 3 235 none (.pointer (some ⟨p, 0, none⟩)) rfl (by kernel_rfl) (fun _ _ _ h => h) (by rfl) (by intro W hW; have hc0 : W.cell? ⟨pm, 0, none⟩ = some (.pointer (some ⟨p, 0, none⟩)) := hW; go_simp) HS ?_
  simp only [Act.put, q1, q2, q3]
  refine tkH 5 237 none (.pointer (some ⟨pm, 0, none⟩)) rfl (by kernel_rfl) (fun _ _ _ h => h) (by rfl) (by intro W hW; go_simp) HS ?_
  simp only [Act.put, q1, q2, q3]
  refine tkH 6 238 none (.pointer (some ⟨pm, 0, none⟩)) rfl (by kernel_rfl) (fun _ _ _ h => h) (by rfl) (by intro W hW; go_simp) HS ?_
  simp only [Act.put, q1, q2, q3]
  refine tkH 7 239 none (.pointer (some ⟨pm, 0, none⟩)) rfl (by kernel_rfl) (fun _ _ _ h => h) (by rfl) (by intro W hW; go_simp) HS ?_
  simp only [Act.put, q1, q2, q3]
  refine tkH 8 240 none (.pointer (some ⟨p, 0, none⟩)) rfl (by kernel_rfl) (fun _ _ _ h => h) (by rfl) (by intro W hW; have hc0 : W.cell? ⟨pm, 0, none⟩ = some (.pointer (some ⟨p, 0, none⟩)) := hW; go_simp) HS ?_
  simp only [Act.put, q1, q2, q3]
  refine tkH 10 242 none (.pointer (some ⟨pm, 0, none⟩)) rfl (by kernel_rfl) (fun _ _ _ h => h) (by rfl) (by intro W hW; go_simp) HS ?_
  simp only [Act.put, q1, q2, q3]
  refine tkH 11 243 none (.pointer (some ⟨pm, 0, none⟩)) rfl (by kernel_rfl) (fun _ _ _ h => h) (by rfl) (by intro W hW; go_simp) HS ?_
  simp only [Act.put, q1, q2, q3]
  refine tkH 12 244 none (.pointer (some ⟨pm, 0, none⟩)) rfl (by kernel_rfl) (fun _ _ _ h => h) (by rfl) (by intro W hW; go_simp) HS ?_
  simp only [Act.put, q1, q2, q3]
  refine tkH 13 245 none (.pointer (some ⟨p, 0, none⟩)) rfl (by kernel_rfl) (fun _ _ _ h => h) (by rfl) (by intro W hW; have hc0 : W.cell? ⟨pm, 0, none⟩ = some (.pointer (some ⟨p, 0, none⟩)) := hW; go_simp) HS ?_
  simp only [Act.put, q1, q2, q3]
  refine tkH 15 247 none (.pointer (some ⟨pm, 0, none⟩)) rfl (by kernel_rfl) (fun _ _ _ h => h) (by rfl) (by intro W hW; go_simp) HS ?_
  simp only [Act.put, q1, q2, q3]
  refine tkH 16 248 none (.pointer (some ⟨pm, 0, none⟩)) rfl (by kernel_rfl) (fun _ _ _ h => h) (by rfl) (by intro W hW; go_simp) HS ?_
  simp only [Act.put, q1, q2, q3]
  refine tkH 17 249 none (.pointer (some ⟨pm, 0, none⟩)) rfl (by kernel_rfl) (fun _ _ _ h => h) (by rfl) (by intro W hW; go_simp) HS ?_
  simp only [Act.put, q1, q2, q3]
  refine tkH 18 250 none (.pointer (some ⟨p, 0, none⟩)) rfl (by kernel_rfl) (fun _ _ _ h => h) (by rfl) (by intro W hW; have hc0 : W.cell? ⟨pm, 0, none⟩ = some (.pointer (some ⟨p, 0, none⟩)) := hW; go_simp) HS ?_
  simp only [Act.put, q1, q2, q3]
  refine tkH 20 252 none (.pointer (some ⟨pm, 0, none⟩)) rfl (by kernel_rfl) (fun _ _ _ h => h) (by rfl) (by intro W hW; go_simp) HS ?_
  simp only [Act.put, q1, q2, q3]
  refine tkH 22 254 none (.pointer (some ⟨pm, 0, none⟩)) rfl (by kernel_rfl) (fun _ _ _ h => h) (by rfl) (by intro W hW; go_simp) HS ?_
  simp only [Act.put, q1, q2, q3]
  refine tkH 23 255 none (.pointer (some ⟨pm, 0, none⟩)) rfl (by kernel_rfl) (fun _ _ _ h => h) (by rfl) (by intro W hW; go_simp) HS ?_
  simp only [Act.put, q1, q2, q3]
  refine tkH 24 256 none (.pointer (some ⟨pm, 0, none⟩)) rfl (by kernel_rfl) (fun _ _ _ h => h) (by rfl) (by intro W hW; go_simp) HS ?_
  simp only [Act.put, q1, q2, q3]
  refine tkH 25 257 none (.pointer (some ⟨p, 0, none⟩)) rfl (by kernel_rfl) (fun _ _ _ h => h) (by rfl) (by intro W hW; have hc0 : W.cell? ⟨pm, 0, none⟩ = some (.pointer (some ⟨p, 0, none⟩)) := hW; go_simp) HS ?_
  simp only [Act.put, q1, q2, q3]
  refine anyH_ready (rs := [4]) (by decide +kernel) (by simp) ?_
  refine AllReadyH.cons (o := { dst := some 236, op := .call { callee := .value (.func 44), args := #[.tmp 235], argTypes := #[117] }, type := _, pos := _, after := _, guard := none }) rfl (fun K hK => ?_) AllReadyH.nil
  go_simp
  refine (nameK_any l false false pm p F wd HT0.out).mono ?_
  rintro e v1 ⟨rfl, ht, hk⟩
  have HR1 : Hid (runS (shapeS 20) (l, false, false) = (.s (nameS l false).1 :: (runS [.n, .n, .t, .i, .b] ((nameS l false).2.1, (nameS l false).2.2, false)).1, (runS [.n, .n, .t, .i, .b] ((nameS l false).2.1, (nameS l false).2.2, false)).2)) := hI (HR0.out.trans rfl)
  have HP1 : Hid (PtsV v1 F ([] ++ [.s (nameS l false).1]) ([] ++ [.string (tx (nameS l false).1)])) := hI ((HP0.out.keep hk HT0.out.hs (by rfl)).snoc (p := .s (nameS l false).1) rfl)
  have HT1 := hI ht
  have HK1 := hI (keepsM rfl HK0.out (HK0.out.size) hk)
  clear ht hk HT0 HK0 HR0 HP0
  generalize nameS l false = st at *
  obtain ⟨x1, l1, b1⟩ := st
  simp only at *
  have HS := HT1.out.ptr
  refine hK _ _ HS ?_
  clear hK K
  try simp only [Act.put, q1, q2, q3]
  refine anyH_ready (rs := [9]) (by decide +kernel) (by simp) ?_
  refine AllReadyH.cons (o := { dst := some 241, op := .call { callee := .value (.func 45), args := #[.tmp 240], argTypes := #[117] }, type := _, pos := _, after := _, guard := none }) rfl (fun K hK => ?_) AllReadyH.nil
  go_simp
  refine (numK_any l1 b1 false pm p F v1 HT1.out).mono ?_
  rintro e v2 ⟨rfl, ht, hk⟩
  have HR2 : Hid (runS (shapeS 20) (l, false, false) = (.s x1 :: .n (numS l1 b1).1 :: (runS [.n, .t, .i, .b] ((numS l1 b1).2.1, (numS l1 b1).2.2, false)).1, (runS [.n, .t, .i, .b] ((numS l1 b1).2.1, (numS l1 b1).2.2, false)).2)) := hI (HR1.out.trans rfl)
  have HP2 : Hid (PtsV v2 F ([.s x1] ++ [.n (numS l1 b1).1]) ([.string (tx x1)] ++ [.int .i64 (numS l1 b1).1])) := hI ((HP1.out.keep hk HT1.out.hs (by rfl)).snoc (p := .n (numS l1 b1).1) rfl)
  have HT2 := hI ht
  have HK2 := hI (keepsM rfl HK1.out (HK1.out.size) hk)
  clear ht hk HT1 HK1 HR1 HP1
  generalize numS l1 b1 = st at *
  obtain ⟨x2, l2, b2⟩ := st
  simp only at *
  have HS := HT2.out.ptr
  refine hK _ _ HS ?_
  clear hK K
  try simp only [Act.put, q1, q2, q3]
  refine anyH_ready (rs := [14]) (by decide +kernel) (by simp) ?_
  refine AllReadyH.cons (o := { dst := some 246, op := .call { callee := .value (.func 45), args := #[.tmp 245], argTypes := #[117] }, type := _, pos := _, after := _, guard := none }) rfl (fun K hK => ?_) AllReadyH.nil
  go_simp
  refine (numK_any l2 b2 false pm p F v2 HT2.out).mono ?_
  rintro e v3 ⟨rfl, ht, hk⟩
  have HR3 : Hid (runS (shapeS 20) (l, false, false) = (.s x1 :: .n x2 :: .n (numS l2 b2).1 :: (runS [.t, .i, .b] ((numS l2 b2).2.1, (numS l2 b2).2.2, false)).1, (runS [.t, .i, .b] ((numS l2 b2).2.1, (numS l2 b2).2.2, false)).2)) := hI (HR2.out.trans rfl)
  have HP3 : Hid (PtsV v3 F ([.s x1, .n x2] ++ [.n (numS l2 b2).1]) ([.string (tx x1), .int .i64 x2] ++ [.int .i64 (numS l2 b2).1])) := hI ((HP2.out.keep hk HT2.out.hs (by rfl)).snoc (p := .n (numS l2 b2).1) rfl)
  have HT3 := hI ht
  have HK3 := hI (keepsM rfl HK2.out (HK2.out.size) hk)
  clear ht hk HT2 HK2 HR2 HP2
  generalize numS l2 b2 = st at *
  obtain ⟨x3, l3, b3⟩ := st
  simp only at *
  have HS := HT3.out.ptr
  refine hK _ _ HS ?_
  clear hK K
  try simp only [Act.put, q1, q2, q3]
  refine anyH_ready (rs := [19]) (by decide +kernel) (by simp) ?_
  refine AllReadyH.cons (o := { dst := some 251, op := .call { callee := .value (.func 48), args := #[.tmp 250], argTypes := #[117] }, type := _, pos := _, after := _, guard := none }) rfl (fun K hK => ?_) AllReadyH.nil
  go_simp
  refine (truthK_any l3 b3 false pm p F v3 HT3.out).mono ?_
  rintro e v4 ⟨rfl, ht, hk⟩
  have HR4 : Hid (runS (shapeS 20) (l, false, false) = (.s x1 :: .n x2 :: .n x3 :: .t (truthS l3 b3).1 :: (runS [.i, .b] ((truthS l3 b3).2.1, (truthS l3 b3).2.2, false)).1, (runS [.i, .b] ((truthS l3 b3).2.1, (truthS l3 b3).2.2, false)).2)) := hI (HR3.out.trans rfl)
  have HP4 : Hid (PtsV v4 F ([.s x1, .n x2, .n x3] ++ [.t (truthS l3 b3).1]) ([.string (tx x1), .int .i64 x2, .int .i64 x3] ++ [.bool (truthS l3 b3).1])) := hI ((HP3.out.keep hk HT3.out.hs (by rfl)).snoc (p := .t (truthS l3 b3).1) rfl)
  have HT4 := hI ht
  have HK4 := hI (keepsM rfl HK3.out (HK3.out.size) hk)
  clear ht hk HT3 HK3 HR3 HP3
  generalize truthS l3 b3 = st at *
  obtain ⟨x4, l4, b4⟩ := st
  simp only at *
  have HS := HT4.out.ptr
  refine hK _ _ HS ?_
  clear hK K
  try simp only [Act.put, q1, q2, q3]
  refine anyH_ready (rs := [21]) (by decide +kernel) (by simp) ?_
  refine AllReadyH.cons (o := { dst := some 253, op := .call { callee := .value (.func 47), args := #[.tmp 252], argTypes := #[116] }, type := _, pos := _, after := _, guard := none }) rfl (fun K hK => ?_) AllReadyH.nil
  go_simp
  refine (ticket_any l4 b4 false pm p F v4 HT4.out).mono ?_
  rintro e v5 ⟨vb, ⟨rfl, ht, hk⟩, bv5, rfl, hb, ho⟩
  have HR5 : Hid (runS (shapeS 20) (l, false, false) = (.s x1 :: .n x2 :: .n x3 :: .t x4 :: .i (tickS l4 b4 false).1 :: (runS [.b] (tickS l4 b4 false).2).1, (runS [.b] (tickS l4 b4 false).2).2)) := hI (HR4.out.trans rfl)
  obtain ⟨ab5, cb5, rfl, hcb5, hmb5⟩ := hb.form
  have HP5 : Hid (PtsV v5 F ([.s x1, .n x2, .n x3, .t x4] ++ [.i (tickS l4 b4 false).1]) ([.string (tx x1), .int .i64 x2, .int .i64 x3, .bool x4] ++ [.string (tx (tickS l4 b4 false).1.1), .slice ab5 (tickS l4 b4 false).1.2.length cb5])) := hI ((HP4.out.keep hk HT4.out.hs (by rfl)).snoc (p := .i (tickS l4 b4 false).1) ⟨_, rfl, hb, ho⟩)
  have HT5 := hI ht
  have HK5 := hI (keepsM rfl HK4.out (HK4.out.size) hk)
  clear ht hk hb ho HT4 HK4 HR4 HP4
  generalize tickS l4 b4 false = st at *
  obtain ⟨x5, l5, b5, c5⟩ := st
  simp only at *
  obtain ⟨y5, x5⟩ := x5
  simp only at *
  generalize hz5 : x5.length = z5 at *
  generalize hy5 : tx y5 = ty5 at *
  have HS := HT5.out.ptr
  refine hK _ _ HS ?_
  clear hK K
  try simp only [Act.put, q1, q2, q3]
  refine anyH_ready (rs := [26]) (by decide +kernel) (by simp) ?_
  refine AllReadyH.cons (o := { dst := some 258, op := .call { callee := .value (.func 46), args := #[.tmp 257], argTypes := #[117] }, type := _, pos := _, after := _, guard := none }) rfl (fun K hK => ?_) AllReadyH.nil
  go_simp
  refine (bytesK_any l5 b5 c5 pm p F v5 HT5.out).mono ?_
  rintro e v6 ⟨vb, ⟨rfl, ht, hk⟩, hb, ho⟩
  have HR6 : Hid (runS (shapeS 20) (l, false, false) = (.s x1 :: .n x2 :: .n x3 :: .t x4 :: .i (y5, x5) :: .b (bytesS l5 b5).1 :: (runS [] ((bytesS l5 b5).2.1, (bytesS l5 b5).2.2, c5)).1, (runS [] ((bytesS l5 b5).2.1, (bytesS l5 b5).2.2, c5)).2)) := hI (HR5.out.trans rfl)
  obtain ⟨ab6, cb6, rfl, hcb6, hmb6⟩ := hb.form
  have HP6 : Hid (PtsV v6 F ([.s x1, .n x2, .n x3, .t x4, .i (y5, x5)] ++ [.b (bytesS l5 b5).1]) ([.string (tx x1), .int .i64 x2, .int .i64 x3, .bool x4, .string ty5, .slice ab5 z5 cb5] ++ [.slice ab6 (bytesS l5 b5).1.length cb6])) := hI ((HP5.out.keep hk HT5.out.hs (by rfl)).snoc (p := .b (bytesS l5 b5).1) ⟨_, rfl, hb, ho⟩)
  have HT6 := hI ht
  have HK6 := hI (keepsM rfl HK5.out (HK5.out.size) hk)
  clear ht hk hb ho HT5 HK5 HR5 HP5
  generalize bytesS l5 b5 = st at *
  obtain ⟨x6, l6, b6⟩ := st
  simp only at *
  generalize hz6 : x6.length = z6 at *
  have HS := HT6.out.ptr
  refine hK _ _ HS ?_
  clear hK K
  try simp only [Act.put, q1, q2, q3]
  refine tkH 27 259 none (.agg #[.string (tx x1), .int .i64 x2, .int .i64 x3, .bool x4, .string ty5, .slice ab5 z5 cb5, .slice ab6 z6 cb6]) rfl (by kernel_rfl) (fun _ _ _ h => h) (by rfl) (by intro W hW; go_simp) HS ?_
  simp only [Act.put, q1, q2, q3]
  refine tkH 28 260 none (.iface 89 (.agg #[.string (tx x1), .int .i64 x2, .int .i64 x3, .bool x4, .string ty5, .slice ab5 z5 cb5, .slice ab6 z6 cb6])) rfl (by kernel_rfl) (fun _ _ _ h => h) (by rfl) (by intro W hW; go_simp) HS ?_
  simp only [Act.put, q1, q2, q3]
  refine tkH 29 5 none (.iface 89 (.agg #[.string (tx x1), .int .i64 x2, .int .i64 x3, .bool x4, .string ty5, .slice ab5 z5 cb5, .slice ab6 z6 cb6])) rfl (by kernel_rfl) (fun _ _ _ h => h) (by rfl) (by intro W hW; go_simp) HS ?_
  simp only [Act.put, q1, q2, q3]
  refine wpAnyH_done (by decide +kernel) ?_ _
  have ho := HOM.out _ _ _ _ _ _ (by decide) HR6.out ⟨_, rfl, HP6.out⟩
  have ht := HT6.out
  have hk := HK6.out
  obtain ⟨hb, hq⟩ := HKb.out _ hk
  have c0 : v6.cell? ⟨q, 0, none⟩ = some (.int .i64 x.kind) := hq.cell 0
  have m0 := ht.ptr
  have m1 : v6.cell? ⟨pm, 1, none⟩ = some (.bool c5) := ht.1.cell 1
  have HX := hI (OutM.no ho (HQ.out _ hb))
  have HY := hI (OutM.yes ho (HQ.out _ hb))
  have HD := hI (done_any l6 b6 p F v6 ht.2.1)
  clear ht hk ho hb hq
  by_cases hk2 : x.kind = 2
  · have HK2 := hI hk2
    have hkb : (x.kind != 2) = false := by simpa using hk2
    clear hk2
    generalize hdn : (!b6 && l6.isEmpty) = dn at *
    clear hdn
    cases c5 with
    | true =>
      go_wp2_with fail
      go_ret2
      exact HX.out (fun h => by simp at h)
    | false =>
      go_wp2_with fail
      refine HD.out.mono ?_
      rintro e w2 ⟨rfl, rfl⟩
      cases dn with
      | true =>
        go_wp2_with fail
        go_ret2
        exact HY.out HK2.out (by simp) (by first | rfl | trivial) (by first | rfl | trivial)
      | false =>
        go_wp2_with fail
        go_ret2
        exact HX.out (fun h => by simp at h)
  · have hkb : (x.kind != 2) = true := by simpa using hk2
    have HK2 := hI hk2
    clear hk2
    go_wp2_with fail
    go_ret2
    exact HX.out (fun h => HK2.out h.1)
set_option maxHeartbeats 16000000 in
set_option maxRecDepth 100000 in
theorem msgOf_21 (x : Tv) (F : Nat → Prop) (cs : List Value) (w : World) (h : TvF w F x cs) (hF : ∀ b, F b → b < w.heap.size) (hL : Lw x) (htag : x.tag = 21) :
    Calls Try.prog 28 #[.agg cs.toArray] w (OfM w F x) := by
  have HTG := hI htag
  clear htag
  have HLN := hI h.length
  have HQ0 := hI (Blk.new w cs 70)
  have hB0 : Below w.heap.size w (w.alloc (.cells cs.toArray 70)) := (Below.refl _ _).alloc (Nat.le_refl _) _
  have HB0 := hI hB0
  have HTK := hI (take_any x F cs _ (h.below hB0) (fun b hb => by have := hF b hb; simp; omega))
  have HL : Hid (∀ y ∈ x.l, y.l.length ≤ 1954687338211) := hI (fun y hy => by
    obtain ⟨k, t, n, b, l⟩ := x
    have h1 := LsW.mem hL.2 y hy
    obtain ⟨k2, t2, n2, b2, l2⟩ := y
    exact h1.1)
  have HF := hI hF
  obtain ⟨q, hq⟩ : ∃ q, q = w.heap.size := ⟨_, rfl⟩
  have HQ : Hid (∀ W, Below q w W → BelowO w W) := hI (fun W h => by rw [hq] at h; exact h)
  have hopen := h.open_
  clear h hB0 hL
  go_enter Try.func28, Try.ntmps28
  go_wp2_with ((with_reducible show wpList _ _ _ (⟨some 6, _, _, _, _, _⟩ :: _) _ _); refine wpList_ldAgg rfl (.tmp 1) aggDer rfl rfl (cs := cs) HLN.out HQ0.out.cellsAll ?_)
  refine HTK.out.mono ?_
  rintro e w0 ⟨p, rfl, ht, hb, hp⟩
  obtain ⟨bv, lv, rows, rfl, hb1, hb2, hb3, hb4, hb5⟩ := hopen
  obtain ⟨pm, hpm⟩ : ∃ pm, pm = w0.heap.size := ⟨_, rfl⟩
  have hA0 : Below w0.heap.size w0 (w0.alloc (.cells [.pointer (some ⟨p, 0, none⟩), .bool false].toArray 120)) := (Below.refl _ _).alloc (Nat.le_refl _) _
  have hpl := ht.lt
  have hz0 : w.heap.size ≤ w0.heap.size := by have := hb.size; simp at this; omega
  have ht0 : Tkn (w0.alloc (.cells [.pointer (some ⟨p, 0, none⟩), .bool false].toArray 120)) F pm p x.l false false := by
    refine ⟨by rw [hpm]; exact Blk.new _ _ _, ht.below hA0, by omega, fun h => ?_, fun b hb => ?_⟩
    · have := HF.out _ h; omega
    · have := HF.out _ hb; simp; omega
  have hq0 := (HQ0.out.below hb (by simp)).alloc (.cells [.pointer (some ⟨p, 0, none⟩), .bool false].toArray 120)
  have hbt : Below w.heap.size w (w0.alloc (.cells [.pointer (some ⟨p, 0, none⟩), .bool false].toArray 120)) := (HB0.out.trans (hb.mono (by simp))).trans (hA0.mono hz0)
  obtain ⟨wt, hwt⟩ : ∃ wt, wt = w0.alloc (.cells [.pointer (some ⟨p, 0, none⟩), .bool false].toArray 120) := ⟨_, rfl⟩
  rw [← hwt] at ht0 hq0 hbt
  have HT := hI ht0
  have HBT := hI hbt
  have HQT := hI hq0
  have HP : Hid (w.heap.size < p ∧ w.heap.size < pm ∧ w.heap.size < wt.heap.size) := hI (by simp at hp; have := ht0.lt; exact ⟨by omega, by omega, by omega⟩)
  have cT : wt.cell? ⟨w.heap.size, 1, none⟩ = some (.int .i64 x.tag) := HQT.out.cell 1
  have HKb : Hid (∀ W, Keeps (Sm pm p wt.heap.size) wt W → Below w.heap.size w W ∧ Blk W w.heap.size [.int .i64 x.kind, .int .i64 x.tag, .int .u64 (x.n : Int), bv, lv] 70) := hI (fun W hk =>
    ⟨HBT.out.trans (hk.below (fun b hb => by have := HP.out; rcases hb with h | h | h <;> omega)), HQT.out.keep hk (fun h => by have := HP.out; rcases h with h | h | h <;> omega)⟩)
  clear ht hb hp hb1 hb2 hb3 hb4 hb5 HQ0 HB0 HTK hA0 hpl hz0 ht0 hq0 hbt
  go_upto_region 2 with fail
  show Code.wp _ _ _ _ (w0.alloc (.cells [.pointer (some ⟨p, 0, none⟩), .bool false].toArray 120))
  rw [← hwt, ← hpm]
  clear hwt hpm
  rw [← hq] at *
  clear hq
  have hxt : 21 = x.tag := HTG.out.symm
  obtain ⟨l, hxl⟩ : ∃ l, l = x.l := ⟨_, rfl⟩
  have HXT := hI hxt
  have HXL := hI hxl
  rw [← hxt] at cT HKb HQT ⊢
  rw [← hxl] at HT HL
  clear hxt hxl HTG
  have HOM : Hid (∀ W o pts rem bad bad2, (shapeS x.tag).isEmpty = false → runS (shapeS x.tag) (x.l, false, false) = (pts, rem, bad, bad2) → MsgV W F x.tag pts o → OutM W F x o rem bad bad2) := hI (fun W o pts rem bad bad2 h0 h1 h2 => by unfold OutM; rw [if_neg (by rw [h0]; decide)]; exact ⟨pts, h1, h2⟩)
  rw [← HXT.out] at HOM
  rw [← HXL.out] at HOM
  clear HXT HXL
  go_upto_region 25 with fail
  refine wp_region_held (S := fun W : World => W.cell? ⟨pm, 0, none⟩ = some (.pointer (some ⟨p, 0, none⟩))) (by kernel_rfl) ?_
  change wpAnyH _ _ _ _ _ _ _ _ (World.drew _)
  have HS : (World.drew wt).cell? ⟨pm, 0, none⟩ = some (.pointer (some ⟨p, 0, none⟩)) := HT.out.ptr
  have HT0 := hI HT.out.drew
  have HK0 : Hid (Keeps (Sm pm p wt.heap.size) wt wt.drew) := hI (Keeps.refl _ _).drew
  have HR0 : Hid (runS (shapeS 21) (l, false, false) = runS [.s, .b] (l, false, false)) := hI rfl
  have HP0 : Hid (PtsV wt.drew F [] []) := hI rfl
  generalize World.drew wt = wd at HS HT0 HK0 HP0 ⊢
  refine tkH 0 263 none (.pointer (some ⟨pm, 0, none⟩)) rfl (by kernel_rfl) (fun _ _ _ h => h) (by rfl) (by intro W hW; go_simp) HS ?_
  simp only [Act.put, q1, q2, q3]
  refine tkH 1 264 none (.pointer (some ⟨pm, 0, none⟩)) rfl (by kernel_rfl) (fun _ _ _ h => h) (by rfl) (by intro W hW; go_simp) HS ?_
  simp only [Act.put, q1, q2, q3]
  refine tkH 2 265 none (.pointer (some ⟨pm, 0, none⟩)) rfl (by kernel_rfl) (fun _ _ _ h => h) (by rfl) (by intro W hW; go_simp) HS ?_
  simp only [Act.put, q1, q2, q3]
  refine tkH 3 266 none (.pointer (some ⟨p, 0, none⟩)) rfl (by kernel_rfl) (fun _ _ _ h => h) (by rfl) (by intro W hW; have hc0 : W.cell? ⟨pm, 0, none⟩ = some (.pointer (some ⟨p, 0, none⟩)) := hW; go_simp) HS ?_
  simp only [Act.put, q1, q2, q3]
  refine tkH 5 268 none (.pointer (some ⟨pm, 0, none⟩)) rfl (by kernel_rfl) (fun _ _ _ h => h) (by rfl) (by intro W hW; go_simp) HS ?_
  simp only [Act.put, q1, q2, q3]
  refine tkH 6 269 none (.pointer (some ⟨pm, 0, none⟩)) rfl (by kernel_rfl) (fun _ _ _ h => h) (by rfl) (by intro W hW; go_simp) HS ?_
  simp only [Act.put, q1, q2, q3]
  refine tkH 7 270 none (.pointer (some ⟨pm, 0, none⟩)) rfl (by kernel_rfl) (fun _ _ _ h => h) (by rfl) (by intro W hW; go_simp) HS ?_
  simp only [Act.put, q1, q2, q3]
  refine tkH 8 271 none (.pointer (some ⟨p, 0, none⟩)) rfl (by kernel_rfl) (fun _ _ _ h => h) (by rfl) (by intro W hW; have hc0 : W.cell? ⟨pm, 0, none⟩ = some (.pointer (some ⟨p, 0, none⟩)) := hW; go_simp) HS ?_
  simp only [Act.put, q1, q2, q3]
  refine anyH_ready (rs := [4]) (by decide +kernel) (by simp) ?_
  refine AllReadyH.cons (o := { dst := some 267, op := .call { callee := .value (.func 44), args := #[.tmp 266], argTypes := #[117] }, type := _, pos := _, after := _, guard := none }) rfl (fun K hK => ?_) AllReadyH.nil
  go_simp
  refine (nameK_any l false false pm p F wd HT0.out).mono ?_
  rintro e v1 ⟨rfl, ht, hk⟩
  have HR1 : Hid (runS (shapeS 21) (l, false, false) = (.s (nameS l false).1 :: (runS [.b] ((nameS l false).2.1, (nameS l false).2.2, false)).1, (runS [.b] ((nameS l false).2.1, (nameS l false).2.2, false)).2)) := hI (HR0.out.trans rfl)
  have HP1 : Hid (PtsV v1 F ([] ++ [.s (nameS l false).1]) ([] ++ [.string (tx (nameS l false).1)])) := hI ((HP0.out.keep hk HT0.out.hs (by rfl)).snoc (p := .s (nameS l false).1) rfl)
  have HT1 := hI ht
  have HK1 := hI (keepsM rfl HK0.out (HK0.out.size) hk)
  clear ht hk HT0 HK0 HR0 HP0
  generalize nameS l false = st at *
  obtain ⟨x1, l1, b1⟩ := st
  simp only at *
  have HS := HT1.out.ptr
  refine hK _ _ HS ?_
  clear hK K
  try simp only [Act.put, q1, q2, q3]
  refine anyH_ready (rs := [9]) (by decide +kernel) (by simp) ?_
  refine AllReadyH.cons (o := { dst := some 272, op := .call { callee := .value (.func 46), args := #[.tmp 271], argTypes := #[117] }, type := _, pos := _, after := _, guard := none }) rfl (fun K hK => ?_) AllReadyH.nil
  go_simp
  refine (bytesK_any l1 b1 false pm p F v1 HT1.out).mono ?_
  rintro e v2 ⟨vb, ⟨rfl, ht, hk⟩, hb, ho⟩
  have HR2 : Hid (runS (shapeS 21) (l, false, false) = (.s x1 :: .b (bytesS l1 b1).1 :: (runS [] ((bytesS l1 b1).2.1, (bytesS l1 b1).2.2, false)).1, (runS [] ((bytesS l1 b1).2.1, (bytesS l1 b1).2.2, false)).2)) := hI (HR1.out.trans rfl)
  obtain ⟨ab2, cb2, rfl, hcb2, hmb2⟩ := hb.form
  have HP2 : Hid (PtsV v2 F ([.s x1] ++ [.b (bytesS l1 b1).1]) ([.string (tx x1)] ++ [.slice ab2 (bytesS l1 b1).1.length cb2])) := hI ((HP1.out.keep hk HT1.out.hs (by rfl)).snoc (p := .b (bytesS l1 b1).1) ⟨_, rfl, hb, ho⟩)
  have HT2 := hI ht
  have HK2 := hI (keepsM rfl HK1.out (HK1.out.size) hk)
  clear ht hk hb ho HT1 HK1 HR1 HP1
  generalize bytesS l1 b1 = st at *
  obtain ⟨x2, l2, b2⟩ := st
  simp only at *
  generalize hz2 : x2.length = z2 at *
  have HS := HT2.out.ptr
  refine hK _ _ HS ?_
  clear hK K
  try simp only [Act.put, q1, q2, q3]
  refine tkH 10 273 none (.agg #[.string (tx x1), .slice ab2 z2 cb2]) rfl (by kernel_rfl) (fun _ _ _ h => h) (by rfl) (by intro W hW; go_simp) HS ?_
  simp only [Act.put, q1, q2, q3]
  refine tkH 11 274 none (.iface 102 (.agg #[.string (tx x1), .slice ab2 z2 cb2])) rfl (by kernel_rfl) (fun _ _ _ h => h) (by rfl) (by intro W hW; go_simp) HS ?_
  simp only [Act.put, q1, q2, q3]
  refine tkH 12 5 none (.iface 102 (.agg #[.string (tx x1), .slice ab2 z2 cb2])) rfl (by kernel_rfl) (fun _ _ _ h => h) (by rfl) (by intro W hW; go_simp) HS ?_
  simp only [Act.put, q1, q2, q3]
  refine wpAnyH_done (by decide +kernel) ?_ _
  have ho := HOM.out _ _ _ _ _ _ (by decide) HR2.out ⟨_, rfl, HP2.out⟩
  have ht := HT2.out
  have hk := HK2.out
  obtain ⟨hb, hq⟩ := HKb.out _ hk
  have c0 : v2.cell? ⟨q, 0, none⟩ = some (.int .i64 x.kind) := hq.cell 0
  have m0 := ht.ptr
  have m1 : v2.cell? ⟨pm, 1, none⟩ = some (.bool false) := ht.1.cell 1
  have HX := hI (OutM.no ho (HQ.out _ hb))
  have HY := hI (OutM.yes ho (HQ.out _ hb))
  have HD := hI (done_any l2 b2 p F v2 ht.2.1)
  clear ht hk ho hb hq
  by_cases hk2 : x.kind = 2
  · have HK2 := hI hk2
    have hkb : (x.kind != 2) = false := by simpa using hk2
    clear hk2
    generalize hdn : (!b2 && l2.isEmpty) = dn at *
    clear hdn
    go_wp2_with fail
    refine HD.out.mono ?_
    rintro e w2 ⟨rfl, rfl⟩
    cases dn with
    | true =>
      go_wp2_with fail
      go_ret2
      exact HY.out HK2.out (by simp) (by first | rfl | trivial) (by first | rfl | trivial)
    | false =>
      go_wp2_with fail
      go_ret2
      exact HX.out (fun h => by simp at h)
  · have hkb : (x.kind != 2) = true := by simpa using hk2
    have HK2 := hI hk2
    clear hk2
    go_wp2_with fail
    go_ret2
    exact HX.out (fun h => HK2.out h.1)
set_option maxHeartbeats 16000000 in
set_option maxRecDepth 100000 in
theorem msgOf_22 (x : Tv) (F : Nat → Prop) (cs : List Value) (w : World) (h : TvF w F x cs) (hF : ∀ b, F b → b < w.heap.size) (hL : Lw x) (htag : x.tag = 22) :
    Calls Try.prog 28 #[.agg cs.toArray] w (OfM w F x) := by
  have HTG := hI htag
  clear htag
  have HLN := hI h.length
  have HQ0 := hI (Blk.new w cs 70)
  have hB0 : Below w.heap.size w (w.alloc (.cells cs.toArray 70)) := (Below.refl _ _).alloc (Nat.le_refl _) _
  have HB0 := hI hB0
  have HTK := hI (take_any x F cs _ (h.below hB0) (fun b hb => by have := hF b hb; simp; omega))
  have HL : Hid (∀ y ∈ x.l, y.l.length ≤ 1954687338211) := hI (fun y hy => by
    obtain ⟨k, t, n, b, l⟩ := x
    have h1 := LsW.mem hL.2 y hy
    obtain ⟨k2, t2, n2, b2, l2⟩ := y
    exact h1.1)
  have HF := hI hF
  obtain ⟨q, hq⟩ : ∃ q, q = w.heap.size := ⟨_, rfl⟩
  have HQ : Hid (∀ W, Below q w W → BelowO w W) := hI (fun W h => by rw [hq] at h; exact h)
  have hopen := h.open_
  clear h hB0 hL
  go_enter Try.func28, Try.ntmps28
  go_wp2_with ((with_reducible show wpList _ _ _ (⟨some 6, _, _, _, _, _⟩ :: _) _ _); refine wpList_ldAgg rfl (.tmp 1) aggDer rfl rfl (cs := cs) HLN.out HQ0.out.cellsAll ?_)
  refine HTK.out.mono ?_
  rintro e w0 ⟨p, rfl, ht, hb, hp⟩
  obtain ⟨bv, lv, rows, rfl, hb1, hb2, hb3, hb4, hb5⟩ := hopen
  obtain ⟨pm, hpm⟩ : ∃ pm, pm = w0.heap.size := ⟨_, rfl⟩
  have hA0 : Below w0.heap.size w0 (w0.alloc (.cells [.pointer (some ⟨p, 0, none⟩), .bool false].toArray 120)) := (Below.refl _ _).alloc (Nat.le_refl _) _
  have hpl := ht.lt
  have hz0 : w.heap.size ≤ w0.heap.size := by have := hb.size; simp at this; omega
  have ht0 : Tkn (w0.alloc (.cells [.pointer (some ⟨p, 0, none⟩), .bool false].toArray 120)) F pm p x.l false false := by
    refine ⟨by rw [hpm]; exact Blk.new _ _ _, ht.below hA0, by omega, fun h => ?_, fun b hb => ?_⟩
    · have := HF.out _ h; omega
    · have := HF.out _ hb; simp; omega
  have hq0 := (HQ0.out.below hb (by simp)).alloc (.cells [.pointer (some ⟨p, 0, none⟩), .bool false].toArray 120)
  have hbt : Below w.heap.size w (w0.alloc (.cells [.pointer (some ⟨p, 0, none⟩), .bool false].toArray 120)) := (HB0.out.trans (hb.mono (by simp))).trans (hA0.mono hz0)
  obtain ⟨wt, hwt⟩ : ∃ wt, wt = w0.alloc (.cells [.pointer (some ⟨p, 0, none⟩), .bool false].toArray 120) := ⟨_, rfl⟩
  rw [← hwt] at ht0 hq0 hbt
  have HT := hI ht0
  have HBT := hI hbt
  have HQT := hI hq0
  have HP : Hid (w.heap.size < p ∧ w.heap.size < pm ∧ w.heap.size < wt.heap.size) := hI (by simp at hp; have := ht0.lt; exact ⟨by omega, by omega, by omega⟩)
  have cT : wt.cell? ⟨w.heap.size, 1, none⟩ = some (.int .i64 x.tag) := HQT.out.cell 1
  have HKb : Hid (∀ W, Keeps (Sm pm p wt.heap.size) wt W → Below w.heap.size w W ∧ Blk W w.heap.size [.int .i64 x.kind, .int .i64 x.tag, .int .u64 (x.n : Int), bv, lv] 70) := hI (fun W hk =>
    ⟨HBT.out.trans (hk.below (fun b hb => by have := HP.out; rcases hb with h | h | h <;> omega)), HQT.out.keep hk (fun h => by have := HP.out; rcases h with h | h | h <;> omega)⟩)
  clear ht hb hp hb1 hb2 hb3 hb4 hb5 HQ0 HB0 HTK hA0 hpl hz0 ht0 hq0 hbt
  go_upto_region 2 with fail
  show Code.wp _ _ _ _ (w0.alloc (.cells [.pointer (some ⟨p, 0, none⟩), .bool false].toArray 120))
  rw [← hwt, ← hpm]
  clear hwt hpm
  rw [← hq] at *
  clear hq
  have hxt : 22 = x.tag := HTG.out.symm
  obtain ⟨l, hxl⟩ : ∃ l, l = x.l := ⟨_, rfl⟩
  have HXT := hI hxt
  have HXL := hI hxl
  rw [← hxt] at cT HKb HQT ⊢
  rw [← hxl] at HT HL
  clear hxt hxl HTG
  have HOM : Hid (∀ W o pts rem bad bad2, (shapeS x.tag).isEmpty = false → runS (shapeS x.tag) (x.l, false, false) = (pts, rem, bad, bad2) → MsgV W F x.tag pts o → OutM W F x o rem bad bad2) := hI (fun W o pts rem bad bad2 h0 h1 h2 => by unfold OutM; rw [if_neg (by rw [h0]; decide)]; exact ⟨pts, h1, h2⟩)
  rw [← HXT.out] at HOM
  rw [← HXL.out] at HOM
  clear HXT HXL
  go_upto_region 27 with fail
  refine wp_region_held (S := fun W : World => W.cell? ⟨pm, 0, none⟩ = some (.pointer (some ⟨p, 0, none⟩))) (by kernel_rfl) ?_
  change wpAnyH _ _ _ _ _ _ _ _ (World.drew _)
  have HS : (World.drew wt).cell? ⟨pm, 0, none⟩ = some (.pointer (some ⟨p, 0, none⟩)) := HT.out.ptr
  have HT0 := hI HT.out.drew
  have HK0 : Hid (Keeps (Sm pm p wt.heap.size) wt wt.drew) := hI (Keeps.refl _ _).drew
  have HR0 : Hid (runS (shapeS 22) (l, false, false) = runS [.s, .n, .n] (l, false, false)) := hI rfl
  have HP0 : Hid (PtsV wt.drew F [] []) := hI rfl
  generalize World.drew wt = wd at HS HT0 HK0 HP0 ⊢
  refine tkH 0 277 none (.pointer (some ⟨pm, 0, none⟩)) rfl (by kernel_rfl) (fun _ _ _ h => h) (by rfl) (by intro W hW; go_simp) HS ?_
  simp only [Act.put, q1, q2, q3]
  refine tkH 1 278 none (.pointer (some ⟨pm, 0, none⟩)) rfl (by kernel_rfl) (fun _ _ _ h => h) (by rfl) (by intro W hW; go_simp) HS ?_
  simp only [Act.put, q1, q2, q3]
  refine tkH 2 279 none (.pointer (some ⟨pm, 0, none⟩)) rfl (by kernel_rfl) (fun _ _ _ h => h) (by rfl) (by intro W hW; go_simp) HS ?_
  simp only [Act.put, q1, q2, q3]
  refine tkH 3 280 none (.pointer (some ⟨p, 0, none⟩)) rfl (by kernel_rfl) (fun _ _ _ h => h) (by rfl) (by intro W hW; have hc0 : W.cell? ⟨pm, 0, none⟩ = some (.pointer (some ⟨p, 0, none⟩)) := hW; go_simp) HS ?_
  simp only [Act.put, q1, q2, q3]
  refine tkH 5 282 none (.pointer (some ⟨pm, 0, none⟩)) rfl (by kernel_rfl) (fun _ _ _ h => h) (by rfl) (by intro W hW; go_simp) HS ?_
  simp only [Act.put, q1, q2, q3]
  refine tkH 6 283 none (.pointer (some ⟨pm, 0, none⟩)) rfl (by kernel_rfl) (fun _ _ _ h => h) (by rfl) (by intro W hW; go_simp) HS ?_
  simp only [Act.put, q1, q2, q3]
  refine tkH 7 284 none (.pointer (some ⟨pm, 0, none⟩)) rfl (by kernel_rfl) (fun _ _ _ h => h) (by rfl) (by intro W hW; go_simp) HS ?_
  simp only [Act.put, q1, q2, q3]
  refine tkH 8 285 none (.pointer (some ⟨p, 0, none⟩)) rfl (by kernel_rfl) (fun _ _ _ h => h) (by rfl) (by intro W hW; have hc0 : W.cell? ⟨pm, 0, none⟩ = some (.pointer (some ⟨p, 0, none⟩)) := hW; go_simp) HS ?_
  simp only [Act.put, q1, q2, q3]
  refine tkH 10 287 none (.pointer (some ⟨pm, 0, none⟩)) rfl (by kernel_rfl) (fun _ _ _ h => h) (by rfl) (by intro W hW; go_simp) HS ?_
  simp only [Act.put, q1, q2, q3]
  refine tkH 11 288 none (.pointer (some ⟨pm, 0, none⟩)) rfl (by kernel_rfl) (fun _ _ _ h => h) (by rfl) (by intro W hW; go_simp) HS ?_
  simp only [Act.put, q1, q2, q3]
  refine tkH 12 289 none (.pointer (some ⟨pm, 0, none⟩)) rfl (by kernel_rfl) (fun _ _ _ h => h) (by rfl) (by intro W hW; go_simp) HS ?_
  simp only [Act.put, q1, q2, q3]
  refine tkH 13 290 none (.pointer (some ⟨p, 0, none⟩)) rfl (by kernel_rfl) (fun _ _ _ h => h) (by rfl) (by intro W hW; have hc0 : W.cell? ⟨pm, 0, none⟩ = some (.pointer (some ⟨p, 0, none⟩)) := hW; go_simp) HS ?_
  simp only [Act.put, q1, q2, q3]
  refine anyH_ready (rs := [4]) (by decide +kernel) (by simp) ?_
  refine AllReadyH.cons (o := { dst := some 281, op := .call { callee := .value (.func 44), args := #[.tmp 280], argTypes := #[117] }, type := _, pos := _, after := _, guard := none }) rfl (fun K hK => ?_) AllReadyH.nil
  go_simp
  refine (nameK_any l false false pm p F wd HT0.out).mono ?_
  rintro e v1 ⟨rfl, ht, hk⟩
  have HR1 : Hid (runS (shapeS 22) (l, false, false) = (.s (nameS l false).1 :: (runS [.n, .n] ((nameS l false).2.1, (nameS l false).2.2, false)).1, (runS [.n, .n] ((nameS l false).2.1, (nameS l false).2.2, false)).2)) := hI (HR0.out.trans rfl)
  have HP1 : Hid (PtsV v1 F ([] ++ [.s (nameS l false).1]) ([] ++ [.string (tx (nameS l false).1)])) := hI ((HP0.out.keep hk HT0.out.hs (by rfl)).snoc (p := .s (nameS l false).1) rfl)
  have HT1 := hI ht
  have HK1 := hI (keepsM rfl HK0.out (HK0.out.size) hk)
  clear ht hk HT0 HK0 HR0 HP0
  generalize nameS l false = st at *
  obtain ⟨x1, l1, b1⟩ := st
  simp only at *
  have HS := HT1.out.ptr
  refine hK _ _ HS ?_
  clear hK K
  try simp only [Act.put, q1, q2, q3]
  refine anyH_ready (rs := [9]) (by decide +kernel) (by simp) ?_
  refine AllReadyH.cons (o := { dst := some 286, op := .call { callee := .value (.func 45), args := #[.tmp 285], argTypes := #[117] }, type := _, pos := _, after := _, guard := none }) rfl (fun K hK => ?_) AllReadyH.nil
  go_simp
  refine (numK_any l1 b1 false pm p F v1 HT1.out).mono ?_
  rintro e v2 ⟨rfl, ht, hk⟩
  have HR2 : Hid (runS (shapeS 22) (l, false, false) = (.s x1 :: .n (numS l1 b1).1 :: (runS [.n] ((numS l1 b1).2.1, (numS l1 b1).2.2, false)).1, (runS [.n] ((numS l1 b1).2.1, (numS l1 b1).2.2, false)).2)) := hI (HR1.out.trans rfl)
  have HP2 : Hid (PtsV v2 F ([.s x1] ++ [.n (numS l1 b1).1]) ([.string (tx x1)] ++ [.int .i64 (numS l1 b1).1])) := hI ((HP1.out.keep hk HT1.out.hs (by rfl)).snoc (p := .n (numS l1 b1).1) rfl)
  have HT2 := hI ht
  have HK2 := hI (keepsM rfl HK1.out (HK1.out.size) hk)
  clear ht hk HT1 HK1 HR1 HP1
  generalize numS l1 b1 = st at *
  obtain ⟨x2, l2, b2⟩ := st
  simp only at *
  have HS := HT2.out.ptr
  refine hK _ _ HS ?_
  clear hK K
  try simp only [Act.put, q1, q2, q3]
  refine anyH_ready (rs := [14]) (by decide +kernel) (by simp) ?_
  refine AllReadyH.cons (o := { dst := some 291, op := .call { callee := .value (.func 45), args := #[.tmp 290], argTypes := #[117] }, type := _, pos := _, after := _, guard := none }) rfl (fun K hK => ?_) AllReadyH.nil
  go_simp
  refine (numK_any l2 b2 false pm p F v2 HT2.out).mono ?_
  rintro e v3 ⟨rfl, ht, hk⟩
  have HR3 : Hid (runS (shapeS 22) (l, false, false) = (.s x1 :: .n x2 :: .n (numS l2 b2).1 :: (runS [] ((numS l2 b2).2.1, (numS l2 b2).2.2, false)).1, (runS [] ((numS l2 b2).2.1, (numS l2 b2).2.2, false)).2)) := hI (HR2.out.trans rfl)
  have HP3 : Hid (PtsV v3 F ([.s x1, .n x2] ++ [.n (numS l2 b2).1]) ([.string (tx x1), .int .i64 x2] ++ [.int .i64 (numS l2 b2).1])) := hI ((HP2.out.keep hk HT2.out.hs (by rfl)).snoc (p := .n (numS l2 b2).1) rfl)
  have HT3 := hI ht
  have HK3 := hI (keepsM rfl HK2.out (HK2.out.size) hk)
  clear ht hk HT2 HK2 HR2 HP2
  generalize numS l2 b2 = st at *
  obtain ⟨x3, l3, b3⟩ := st
  simp only at *
  have HS := HT3.out.ptr
  refine hK _ _ HS ?_
  clear hK K
  try simp only [Act.put, q1, q2, q3]
  refine tkH 15 292 none (.agg #[.string (tx x1), .int .i64 x2, .int .i64 x3]) rfl (by kernel_rfl) (fun _ _ _ h => h) (by rfl) (by intro W hW; go_simp) HS ?_
  simp only [Act.put, q1, q2, q3]
  refine tkH 16 293 none (.iface 104 (.agg #[.string (tx x1), .int .i64 x2, .int .i64 x3])) rfl (by kernel_rfl) (fun _ _ _ h => h) (by rfl) (by intro W hW; go_simp) HS ?_
  simp only [Act.put, q1, q2, q3]
  refine tkH 17 5 none (.iface 104 (.agg #[.string (tx x1), .int .i64 x2, .int .i64 x3])) rfl (by kernel_rfl) (fun _ _ _ h => h) (by rfl) (by intro W hW; go_simp) HS ?_
  simp only [Act.put, q1, q2, q3]
  refine wpAnyH_done (by decide +kernel) ?_ _
  have ho := HOM.out _ _ _ _ _ _ (by decide) HR3.out ⟨_, rfl, HP3.out⟩
  have ht := HT3.out
  have hk := HK3.out
  obtain ⟨hb, hq⟩ := HKb.out _ hk
  have c0 : v3.cell? ⟨q, 0, none⟩ = some (.int .i64 x.kind) := hq.cell 0
  have m0 := ht.ptr
  have m1 : v3.cell? ⟨pm, 1, none⟩ = some (.bool false) := ht.1.cell 1
  have HX := hI (OutM.no ho (HQ.out _ hb))
  have HY := hI (OutM.yes ho (HQ.out _ hb))
  have HD := hI (done_any l3 b3 p F v3 ht.2.1)
  clear ht hk ho hb hq
  by_cases hk2 : x.kind = 2
  · have HK2 := hI hk2
    have hkb : (x.kind != 2) = false := by simpa using hk2
    clear hk2
    generalize hdn : (!b3 && l3.isEmpty) = dn at *
    clear hdn
    go_wp2_with fail
    refine HD.out.mono ?_
    rintro e w2 ⟨rfl, rfl⟩
    cases dn with
    | true =>
      go_wp2_with fail
      go_ret2
      exact HY.out HK2.out (by simp) (by first | rfl | trivial) (by first | rfl | trivial)
    | false =>
      go_wp2_with fail
      go_ret2
      exact HX.out (fun h => by simp at h)
  · have hkb : (x.kind != 2) = true := by simpa using hk2
    have HK2 := hI hk2
    clear hk2
    go_wp2_with fail
    go_ret2
    exact HX.out (fun h => HK2.out h.1)
end Go.Proofs.Ytofmkkcbfeadgaa
namespace Go.Proofs.Ytofmkkcbfeadgaa
theorem msgOf_any (x : Tv) (F : Nat → Prop) (cs : List Value) (w : World) (h : TvF w F x cs) (hF : ∀ b, F b → b < w.heap.size) (hL : Lw x) :
    Calls Try.prog 28 #[.agg cs.toArray] w (OfM w F x) := by
  rcases (by omega : x.tag = 11 ∨ x.tag = 12 ∨ x.tag = 13 ∨ x.tag = 14 ∨ x.tag = 15 ∨ x.tag = 16 ∨ x.tag = 17 ∨ x.tag = 18 ∨ x.tag = 19 ∨ x.tag = 20 ∨ x.tag = 21 ∨ x.tag = 22 ∨ (x.tag ≠ 11 ∧ x.tag ≠ 12 ∧ x.tag ≠ 13 ∧ x.tag ≠ 14 ∧ x.tag ≠ 15 ∧ x.tag ≠ 16 ∧ x.tag ≠ 17 ∧ x.tag ≠ 18 ∧ x.tag ≠ 19 ∧ x.tag ≠ 20 ∧ x.tag ≠ 21 ∧ x.tag ≠ 22)) with ht | ht | ht | ht | ht | ht | ht | ht | ht | ht | ht | ht | ht
  · exact msgOf_11 x F cs w h hF hL ht
  · exact msgOf_12 x F cs w h hF hL ht
  · exact msgOf_13 x F cs w h hF hL ht
  · exact msgOf_14 x F cs w h hF hL ht
  · exact msgOf_15 x F cs w h hF hL ht
  · exact msgOf_16 x F cs w h hF hL ht
  · exact msgOf_17 x F cs w h hF hL ht
  · exact msgOf_18 x F cs w h hF hL ht
  · exact msgOf_19 x F cs w h hF hL ht
  · exact msgOf_20 x F cs w h hF hL ht
  · exact msgOf_21 x F cs w h hF hL ht
  · exact msgOf_22 x F cs w h hF hL ht
  · exact msgOf_0 x F cs w h hF hL ht
end Go.Proofs.Ytofmkkcbfeadgaa
namespace Go.Proofs.Ytofmkkcbfeadgaa
set_option linter.unusedSimpArgs false
set_option linter.unusedVariables false
open Go.RowKit
/-- A message's bytes, and the error's number. -/
def wrM (t : Int) (pts : List Pt) : List UInt8 × Int := if pts.all ptB = true then wrS (msgTv t pts) else ([], 7)
theorem msgTv_nw (t : Int) (pts : List Pt) (h : pts.all ptB = true) : Nw (msgTv t pts) := by
  refine ⟨by decide, NsW.of fun x hx => ?_⟩
  obtain ⟨p, hp, rfl⟩ := List.mem_map.1 hx
  have hb := List.all_eq_true.1 h p hp
  have htk : ∀ t, Nw (tkTv t) := fun t => ⟨by decide, ⟨by decide, trivial⟩, ⟨by decide, trivial⟩, trivial⟩
  cases p with
  | s l => exact ⟨by decide, trivial⟩
  | n x =>
    obtain ⟨h0, h1⟩ := (timeB_iff x).1 hb
    obtain ⟨n, rfl⟩ := Int.eq_ofNat_of_zero_le h0
    exact ⟨by show n < _; omega, trivial⟩
  | b l => exact ⟨by decide, trivial⟩
  | t b => cases b <;> exact ⟨by decide, trivial⟩
  | i t => exact htk t
  | x l =>
    refine ⟨by decide, NsW.of fun y hy => ?_⟩
    obtain ⟨t, ht, rfl⟩ := List.mem_map.1 hy
    exact htk t
/-- The message that bytes are, and the error's number. -/
def rdV (x : Tv) (code : Int) : Option (Int × List Pt) × Int :=
  if code = 0 then (match ofS x with | some pts => (some (x.tag, pts), 0) | none => (none, 4)) else (none, code)
def rdM (b : List UInt8) : Option (Int × List Pt) × Int := rdV (wholeS b).1 (wholeS b).2
def MrdRes (w : World) (r : Option (Int × List Pt) × Int) (e : Ending) (w' : World) : Prop :=
  ∃ v, e = .returned (.tuple #[v, .int .i64 r.2]) ∧ Below w.heap.size w w' ∧ (match r.1 with | some m => MsgV w' (fun b => b < w'.heap.size) m.1 m.2 v | none => v = .nilIface)
theorem MsgV.tight {w : World} {F G : Nat → Prop} {t : Int} {l : List Pt} {v : Value} (h : MsgV w F t l v) (hg : ∀ b, F b → G b) : MsgV w G t l v := by
  obtain ⟨cs, e, h⟩ := h
  refine ⟨cs, e, ?_⟩
  clear e
  induction l generalizing cs with
  | nil => exact h
  | cons p l ih =>
    obtain ⟨a, b, rfl, h1, h2⟩ := h
    refine ⟨a, b, rfl, ?_, ih _ h2⟩
    cases p with
    | s l => exact h1
    | n x => exact h1
    | t b => exact h1
    | b l => obtain ⟨v, e, h3, h4⟩ := h1; exact ⟨v, e, h3, fun hn y hy => hg y (h4 hn y hy)⟩
    | i t => obtain ⟨v, e, h3, h4⟩ := h1; exact ⟨v, e, h3, fun hn y hy => hg y (h4 hn y hy)⟩
    | x l =>
      obtain ⟨v, e, rows, h3, h4⟩ := h1
      refine ⟨v, e, rows, h3, ?_⟩
      clear h3 e h2 ih
      induction l generalizing rows with
      | nil => exact h4
      | cons t l ih2 =>
        obtain ⟨bv, rs, e, h5, h6, h7⟩ := h4
        exact ⟨bv, rs, e, h5, fun hn y hy => hg y (h6 hn y hy), ih2 _ h7⟩
set_option maxHeartbeats 1000000 in
set_option maxRecDepth 100000 in
theorem msgRead_any (v : Value) (b : List UInt8) (w : World) (h : Bs w v b) : Calls Try.prog 17 #[v] w (MrdRes w (rdM b)) := by
  obtain ⟨a, c, rfl, hc, hm⟩ := h.form
  have HW := hI (derWhole_any (.slice a b.length c) b w h)
  obtain ⟨r, hr⟩ : ∃ r, r = rdM b := ⟨_, rfl⟩
  rw [← hr]
  have HRD : Hid (r = rdV (wholeS b).1 (wholeS b).2) := hI hr
  clear h hr
  go_enter Try.func17, Try.ntmps17
  go_wp2_with fail
  refine HW.out.mono ?_
  rintro e w1 ⟨cs, rfl, ht, hb⟩
  have HT := hI ht
  have HB := hI hb
  have HL := hI ht.length
  have HO := hI ht.one
  have HN4 := hI (Blk.new w1 zs5 70)
  have HLW : Hid ((wholeS b).2 = 0 → Lw (wholeS b).1) := hI (fun h => by
    obtain ⟨x, e⟩ : ∃ x, wholeS b = (x, 0) := ⟨_, by rw [← h]⟩
    rw [e]
    exact (wholeS_back e).2.2.1)
  clear ht hb HW
  generalize wholeS b = z at *
  obtain ⟨x, code⟩ := z
  simp only at *
  go_upto_region 2 with ((with_reducible show wpList _ _ _ (⟨none, .store _ (.tmp 4) (.tmp 11), _, _, _, _⟩ :: _) _ _); refine wpList_stAgg rfl (.tmp 4) (.tmp 11) aggDer rfl rfl (vs := cs) rfl HL.out HN4.out (Nat.le_refl _) HO.out ?_)
  intro w2 h2 k2
  have h2' : Blk w2 w1.heap.size cs 70 := by
    rw [List.drop_of_length_le (by decide), List.append_nil] at h2
    exact h2
  have hb2 : Below w1.heap.size w1 w2 := ((Below.refl _ _).alloc (Nat.le_refl _) _).trans (k2.below (by omega))
  have H2 := hI h2'
  have HT2 := hI (HT.out.below hb2)
  have HZ2 : Hid (w1.heap.size ≤ w2.heap.size) := hI hb2.size
  have HB2 : Hid (Below w.heap.size w w2) := hI (HB.out.trans (hb2.mono HB.out.size))
  clear h2 k2 h2' hb2
  by_cases hcd : code = 0
  · subst hcd
    have HOF := hI (msgOf_any x _ cs w2 HT2.out (fun b hb => Nat.lt_of_lt_of_le hb.2 HZ2.out) (HLW.out rfl))
    go_wp2_with ((with_reducible show wpList _ _ _ (⟨some 17, _, _, _, _, _⟩ :: _) _ _); refine wpList_ldAgg rfl (.tmp 4) aggDer rfl rfl (cs := cs) HL.out H2.out.cellsAll ?_)
    refine HOF.out.mono ?_
    rintro e w3 ⟨v, rfl, hb3, hm⟩
    have HB3 : Hid (Below w.heap.size w w3) := hI (HB2.out.trans (hb3.mono HB2.out.size))
    have HZ3 : Hid (w1.heap.size ≤ w3.heap.size) := hI (Nat.le_trans HZ2.out hb3.size)
    clear hb3 HOF
    cases ho : ofS x with
    | some pts =>
      have HO := hI ho
      rw [ho] at hm
      have HM := hI hm
      clear ho hm
      have hso : (some pts).isSome = true := rfl
      rw [hso]
      clear hso
      go_wp2_with fail
      go_ret2
      have hr : r = (some (x.tag, pts), 0) := by have h := HRD.out; unfold rdV at h; rw [if_pos rfl, HO.out] at h; exact h
      rw [hr]
      exact ⟨v, rfl, HB3.out, HM.out.tight (fun b hb => Nat.lt_of_lt_of_le hb.2 HZ3.out)⟩
    | none =>
      have HO := hI ho
      rw [ho] at hm
      simp only at hm
      subst hm
      clear ho
      have hso : (none : Option (List Pt)).isSome = false := rfl
      rw [hso]
      clear hso
      go_wp2_with fail
      go_ret2
      have hr : r = (none, 4) := by have h := HRD.out; unfold rdV at h; rw [if_pos rfl, HO.out] at h; exact h
      rw [hr]
      exact ⟨_, rfl, HB3.out, rfl⟩
  · have hnb : (code != 0) = true := by simpa using hcd
    have HCD := hI hcd
    clear hcd
    go_wp2_with fail
    go_ret2
    have hr : r = (none, code) := by
      have h := HRD.out
      unfold rdV at h
      rw [if_neg HCD.out] at h
      exact h
    rw [hr]
    exact ⟨_, rfl, HB2.out, rfl⟩
def annB : List UInt8 := [97, 110, 110]
def bobB : List UInt8 := [98, 111, 98]
theorem writesS_mem : ∀ {l : List Tv} {x : Tv}, x ∈ l → (writeS x).length ≤ (writesS l).length
  | y :: l, x, h => by
    rw [writesS, List.length_append]
    rcases List.mem_cons.1 h with rfl | h
    · omega
    · have := writesS_mem h; omega
theorem writeS_bytes (t : Int) (n : Nat) (b : List UInt8) (l : List Tv) : b.length ≤ (writeS (.mk 1 t n b l)).length := by
  rw [writeS, List.length_append]
  have : bodyOf 1 n b (writesS l) = b := rfl
  rw [this]; omega
theorem writeS_list (t : Int) (n : Nat) (b : List UInt8) (l : List Tv) : (writesS l).length ≤ (writeS (.mk 2 t n b l)).length := by
  rw [writeS, List.length_append]
  have : bodyOf 2 n b (writesS l) = writesS l := rfl
  rw [this]; omega
theorem tk_len (t : List UInt8 × List UInt8) : t.1.length ≤ (writeS (tkTv t)).length ∧ t.2.length ≤ (writeS (tkTv t)).length := by
  have h := writeS_list 1 0 [] [.mk 1 0 0 t.1 [], .mk 1 0 0 t.2 []]
  have h1 := writeS_bytes 0 0 t.1 []
  have h2 := writeS_bytes 0 0 t.2 []
  have h3 : (writesS [Tv.mk 1 0 0 t.1 [], .mk 1 0 0 t.2 []]).length = (writeS (.mk 1 0 0 t.1 [])).length + (writeS (.mk 1 0 0 t.2 [])).length := by simp [writesS]
  show _ ≤ (writeS (.mk 2 1 0 [] [.mk 1 0 0 t.1 [], .mk 1 0 0 t.2 []])).length ∧ _ ≤ (writeS (.mk 2 1 0 [] [.mk 1 0 0 t.1 [], .mk 1 0 0 t.2 []])).length
  omega
theorem ptOk_len (p : Pt) (hb : ptB p = true) (h : (writeS (ptTv p)).length ≤ 1000000) : PtOk p := by
  cases p with
  | s l => have := writeS_bytes 0 0 l []; show l.length ≤ _; have h : (writeS (.mk 1 0 0 l [])).length ≤ 1000000 := h; omega
  | n x => obtain ⟨h1, h2⟩ := (timeB_iff x).1 hb; show _ ≤ x ∧ x ≤ _; omega
  | b l => have := writeS_bytes 0 0 l []; show l.length ≤ _; have h : (writeS (.mk 1 0 0 l [])).length ≤ 1000000 := h; omega
  | t b => trivial
  | i t => have := tk_len t; have h : (writeS (tkTv t)).length ≤ 1000000 := h; show _ ≤ _ ∧ _ ≤ _; omega
  | x l =>
    have hb : (l.all rT && decide (l.length ≤ 1)) = true := hb
    rw [Bool.and_eq_true, decide_eq_true_eq] at hb
    have h : (writeS (.mk 2 0 0 [] ((l.takeWhile rT).map tkTv))).length ≤ 1000000 := h
    rw [takeWhile_all _ _ hb.1] at h
    have h1 := writeS_list 0 0 [] (l.map tkTv)
    refine ⟨fun t ht => ?_, by omega⟩
    have h2 := writesS_mem (List.mem_map_of_mem (f := tkTv) ht)
    have h3 := tk_len t
    omega
theorem ptsOk_len (t : Int) (pts : List Pt) (hb : pts.all ptB = true) (h : (writeS (msgTv t pts)).length ≤ 1000000) : ∀ p ∈ pts, PtOk p := by
  intro p hp
  refine ptOk_len p (List.all_eq_true.1 hb p hp) ?_
  have h1 := writeS_list t 0 [] (pts.map ptTv)
  have h2 := writesS_mem (List.mem_map_of_mem (f := ptTv) hp)
  have h : (writeS (.mk 2 t 0 [] (pts.map ptTv))).length ≤ 1000000 := h
  omega
end Go.Proofs.Ytofmkkcbfeadgaa
namespace Go.Proofs.Ytofmkkcbfeadgaa
set_option linter.unusedSimpArgs false
set_option linter.unusedVariables false
open Go.RowKit Go.Maps Go.MapKept Go.WideMaps
/-- What reading tells of a message. -/
theorem rdM_some {b : List UInt8} {t : Int} {pts : List Pt} {e : Int} (h : rdM b = (some (t, pts), e)) : e = 0 ∧ pts.map kdOf = shapeS t ∧ (shapeS t).isEmpty = false ∧ pts.all ptB = true ∧ wholeS b = (msgTv t pts, 0) ∧ msgR (msgTv t pts) = true ∧ writeS (msgTv t pts) = b := by
  obtain ⟨x, er, hwh⟩ : ∃ x er, wholeS b = (x, er) := ⟨_, _, rfl⟩
  unfold rdM rdV at h
  rw [hwh] at h
  simp only at h
  by_cases he : er = 0
  · subst he
    rw [if_pos rfl, ofS_eq] at h
    by_cases hr : msgR x = true
    · rw [if_pos hr] at h
      simp only [Prod.mk.injEq, Option.some.injEq] at h
      obtain ⟨⟨rfl, rfl⟩, rfl⟩ := h
      have hback := wholeS_back hwh
      have hmb := msg_back hback.2.2.2.1 hr
      exact ⟨rfl, hmb.2.2.1, hmb.2.2.2, hmb.2.1, by rw [hmb.1]; exact hwh, by rw [hmb.1]; exact hr, by rw [hmb.1]; exact hback.2.2.2.2⟩
    · rw [if_neg hr] at h
      simp at h
  · rw [if_neg he] at h
    simp at h
theorem rdM_none {b : List UInt8} {e : Int} (h : rdM b = (none, e)) : e ≠ 0 := by
  obtain ⟨x, er, hwh⟩ : ∃ x er, wholeS b = (x, er) := ⟨_, _, rfl⟩
  unfold rdM rdV at h
  rw [hwh] at h
  simp only at h
  by_cases he : er = 0
  · subst he
    rw [if_pos rfl] at h
    split at h
    · simp at h
    · simp only [Prod.mk.injEq] at h
      omega
  · rw [if_neg he] at h
    simp only [Prod.mk.injEq] at h
    omega
theorem toM_len {t : Int} {pts : List Pt} (h : ∀ p ∈ pts, PtOk p) : (toM t pts).length ≤ 1099511627776 := by
  have hs : ∀ i, (strOf (pts.getD i (.n 0))).length ≤ 1099511627776 := by
    intro i
    by_cases hi : i < pts.length
    · have hm : pts.getD i (.n 0) ∈ pts := by
        rw [List.getD_eq_getElem?_getD, List.getElem?_eq_getElem hi]
        exact List.getElem_mem hi
      have := h _ hm
      generalize pts.getD i (.n 0) = p at this
      cases p <;> first | exact this | simp [strOf]
    · rw [List.getD_eq_getElem?_getD, List.getElem?_eq_none (by omega)]
      simp [strOf]
  unfold toM
  split
  · decide
  · split
    · exact hs 1
    · exact hs 0
/-- The mail behind Put, and the error's number. -/
def putS (T : Mail) (b : List UInt8) : Mail × Int := match rdM b with
  | (some m, _) => if hasV T (tx (toM m.1 m.2)) = false then (T, 9) else if (getV T (tx (toM m.1 m.2)) []).length = 16 then (T, 8) else (putV T (tx (toM m.1 m.2)) (getV T (tx (toM m.1 m.2)) [] ++ [b]), 0)
  | (none, e) => (T, e)
def PutR (p : Nat) (l : List Res) (w : World) (r : Mail × Int) (e : Ending) (w' : World) : Prop := e = .returned (.int .i64 r.2) ∧ Hold w' (relR p r.1 :: l) ∧ KB w w'
set_option maxRecDepth 100000 in
set_option maxHeartbeats 8000000 in
theorem relPut_any (p : Nat) (T : Mail) (bv : Value) (m : List UInt8) (l : List Res) (w : World) (h : Hold w (relR p T :: l)) (hb : Bs w bv m) (hl : m.length ≤ 500) (hT : MailOk T) :
    Calls Try.prog 11 #[.pointer (some ⟨p, 0, none⟩), bv] w (PutR p l w (putS T m)) := by
  obtain ⟨ba, bc, rfl, hbc, hbm⟩ := hb.form
  have HC0 := hI h
  have HB0 := hI hb
  have HLM := hI hl
  have HTO := hI hT
  have HRD := hI (msgRead_any _ m w hb)
  obtain ⟨om, er, hrd⟩ : ∃ om er, rdM m = (om, er) := ⟨_, _, rfl⟩
  rw [hrd] at HRD
  have HRE := hI hrd
  clear h hb hl hT hrd hbc hbm
  go_enter Try.func11, Try.ntmps11
  go_wp2_with fail
  refine HRD.out.mono ?_
  rintro e w1 ⟨v1, rfl, hb1, hm1⟩
  have HC1 := hI (HC0.out.step hb1)
  have HKB1 := hI (KB.below hb1)
  have HB1 := hI (HB0.out.below hb1)
  clear hb1 HRD HC0 HB0
  cases om with
  | none =>
    have hv : v1 = .nilIface := hm1
    subst hv
    have hne : ¬ er = 0 := rdM_none HRE.out
    have hne2 : (er != 0) = true := by simpa using hne
    have HR : Hid (putS T m = (T, er)) := hI (by unfold putS; rw [HRE.out])
    clear hm1
    go_wp2_with fail
    go_ret
    rw [HR.out]
    exact ⟨rfl, HC1.out, HKB1.out⟩
  | some tm =>
    obtain ⟨t, pts⟩ := tm
    have hms := rdM_some HRE.out
    obtain rfl : er = 0 := hms.1
    have hm1 : MsgV w1 (fun b => b < w1.heap.size) t pts v1 := hm1
    have hok : ∀ p ∈ pts, PtOk p := ptsOk_len t pts hms.2.2.2.1 (by rw [hms.2.2.2.2.2.2]; have := HLM.out; omega)
    have hsz : (tx (toM t pts)).size ≤ maxLen := by have := toM_len (t := t) hok; rw [tx_size]; unfold maxLen; omega
    obtain ⟨cs, rfl, hcs⟩ := hm1
    have HTO1 := hI (msgTo_any t pts _ _ w1 hms.2.1 hms.2.2.1 ⟨cs, rfl, hcs⟩)
    have HRP : Hid (putS T m = if hasV T (tx (toM t pts)) = false then (T, 9) else if (getV T (tx (toM t pts)) []).length = 16 then (T, 8) else (putV T (tx (toM t pts)) (getV T (tx (toM t pts)) [] ++ [m]), 0)) := hI (by unfold putS; rw [HRE.out])
    obtain ⟨s, hs⟩ : ∃ s, s = tx (toM t pts) := ⟨_, rfl⟩
    have HTO2 : Hid (Calls Try.prog 22 #[.iface (typM t) (.agg cs.toArray)] w1 fun e w' => e = .returned (.string s) ∧ Below w1.heap.size w1 w') := hI (by rw [hs]; exact HTO1.out)
    rw [← hs] at HRP hsz
    have HK := hI (kS_key hsz)
    clear hms hok hcs HTO1 hs hsz HRE
    go_wp2_with fail
    refine HTO2.out.mono ?_
    rintro e w2 ⟨rfl, hb2⟩
    have HC2 := hI (HC1.out.step hb2)
    have HKB2 := hI (HKB1.out.trans (KB.below hb2))
    have HB2 := hI (HB1.out.below hb2)
    clear hb2 HTO2 HC1 HB1
    obtain ⟨b, G, X, rfl, hp, hpb, hpl, hx, hend⟩ := relR_open HC2.out
    have c0 : w2.cell? ⟨p, 0, none⟩ = some (.map (some b)) := hp.cell 0
    have HX := hI hx
    have HE := hI hend
    have HP := hI hp
    have HPB : Hid (¬ p = b) := hI hpb
    have HPL := hI hpl
    obtain ⟨rows, hrows⟩ := MailX.look hx.box s
    obtain ⟨la, lc, hv, hcl, hcm⟩ := hrows.1.form
    have HV := hI hv
    have hhas : hasV X.vals s = hasV X.mail s := MailX.has X s
    have HHAS := hI hhas
    have HFW : Hid (X.vals.length < maxLen) := hI (by
      have : X.vals.length = X.mail.length := by simp [MailX.vals, MailX.mail]
      have h2 := HTO.out.few
      unfold maxLen
      omega)
    have hget := HTO.out.get s
    obtain ⟨L, hL⟩ : ∃ L, L = getV X.mail s [] := ⟨_, rfl⟩
    have HL0 := hI hL
    rw [← hL] at hrows HV hget HRP
    rw [HV.out] at hrows
    have HSL0 := hI hrows.1
    have HOW := hI hrows.2.1
    have HRB := hI hrows.2.2
    have HLE : Hid (L.length ≤ 1099511627776) := hI (by have := hget.1; omega)
    obtain ⟨K, hK⟩ : ∃ K, K = hasV X.mail s := ⟨_, rfl⟩
    rw [← hK] at HHAS HRP
    clear hp hx hend hv hhas hL hpb hpl hrows hcl hcm hget hK
    cases K with
    | false =>
      have HR : Hid (putS X.mail m = (X.mail, 9)) := hI (by rw [HRP.out, if_pos rfl])
      go_wp2_with (at_lookup; refine wpList_lookupV_ok _ rfl _ _ _ rfl 9 30 strKV kS_inj Try.underlying26 (zRows _) b _ rfl HX.out.map s HK.out ?_; rw [HV.out, HHAS.out])
      go_ret
      rw [HR.out]
      exact ⟨rfl, HC2.out, HKB2.out⟩
    | true =>
      by_cases h16 : L.length = 16
      · have HR : Hid (putS X.mail m = (X.mail, 8)) := hI (by rw [HRP.out, if_neg (by decide), if_pos h16])
        have h16' : (L.length : Int) = 16 := by omega
        clear h16
        go_wp2_with (at_lookup; refine wpList_lookupV_ok _ rfl _ _ _ rfl 9 30 strKV kS_inj Try.underlying26 (zRows _) b _ rfl HX.out.map s HK.out ?_; rw [HV.out, HHAS.out])
        go_ret
        rw [HR.out]
        exact ⟨rfl, HC2.out, HKB2.out⟩
      have HR : Hid (putS X.mail m = (putV X.mail s (L ++ [m]), 0)) := hI (by rw [HRP.out, if_neg (by decide), if_neg h16])
      have h16' : ((L.length : Int) == 16) = false := by simp; omega
      have H16 := hI h16
      clear h16
      go_upto_region 10 with (at_lookup; refine wpList_lookupV_ok _ rfl _ _ _ rfl 9 30 strKV kS_inj Try.underlying26 (zRows _) b _ rfl HX.out.map s HK.out ?_; rw [HV.out, HHAS.out])
      obtain ⟨wd, hwd⟩ : ∃ wd, wd = World.drew w2 := ⟨_, rfl⟩
      obtain ⟨N, hN⟩ : ∃ N, N = w2.heap.size := ⟨_, rfl⟩
      have HN := hI hN
      have HWD : Hid (wd.heap.size = w2.heap.size) := hI (by rw [hwd]; rfl)
      have hbd : Below w2.heap.size w2 wd := by rw [hwd]; exact (Below.refl _ _).drew
      have HS : Hid (Keeps (fun y => y = b ∨ N ≤ y) w2 wd) := hI (by rw [hwd]; exact (Keeps.refl _ _).drew)
      have HM : Hid (MapAt Try.prog 9 kS wd b X.vals) := hI (HX.out.map.keep (Keeps.of_below hbd) (by have := HX.out.map.lt; omega))
      have HBN : Hid (b < N) := hI (by rw [hN]; exact HX.out.map.lt)
      have HSL := hI (HSL0.out.below hbd)
      have HBD := hI (HB2.out.below hbd)
      clear hN hbd
      refine wp_region_held (S := fun W : World => Keeps (fun y => y = b ∨ N ≤ y) w2 W) (by kernel_rfl) ?_
      change wpAnyH _ _ _ _ _ _ _ _ (World.drew _)
      rw [← hwd]
      clear hwd
      refine tkH 0 36 none (.pointer (some ⟨p, 0, none⟩)) rfl (by kernel_rfl) (fun _ _ _ h => h) (by rfl) (by intro W hW; go_simp) HS.out ?_
      simp only [Act.put, q1, q2, q3]
      refine tkH 1 37 none (.pointer (some ⟨p, 0, none⟩)) rfl (by kernel_rfl) (fun _ _ _ h => h) (by rfl) (by intro W hW; go_simp) HS.out ?_
      simp only [Act.put, q1, q2, q3]
      refine tkH 2 38 none (.pointer (some ⟨p, 0, none⟩)) rfl (by kernel_rfl) (fun _ _ _ h => h) (by rfl) (by intro W hW; go_simp) HS.out ?_
      simp only [Act.put, q1, q2, q3]
      refine tkH 3 39 none (.map (some b)) rfl (by kernel_rfl) (fun _ _ _ h => h) (by rfl) (by intro W hW; have hc : W.cell? ⟨p, 0, none⟩ = some (.map (some b)) := (HP.out.keep hW (fun e => e.elim HPB.out (fun h => by have := HPL.out; have := HN.out; omega))).cell 0; go_simp) HS.out ?_
      simp only [Act.put, q1, q2, q3]
      refine tkH 4 40 none (.string s) rfl (by kernel_rfl) (fun _ _ _ h => h) (by rfl) (by intro W hW; go_simp) HS.out ?_
      simp only [Act.put, q1, q2, q3]
      refine tkH 5 41 none (.slice la L.length lc) rfl (by kernel_rfl) (fun _ _ _ h => h) (by rfl) (by intro W hW; go_simp) HS.out ?_
      simp only [Act.put, q1, q2, q3]
      refine tkH 7 43 none (.slice ba m.length bc) rfl (by kernel_rfl) (fun _ _ _ h => h) (by rfl) (by intro W hW; go_simp) HS.out ?_
      simp only [Act.put, q1, q2, q3]
      refine anyH_ready (rs := [6]) (by decide +kernel) (by simp) ?_
      refine AllReadyH.cons (o := { dst := some 42, op := .call { callee := .value (.func 23), args := #[.tmp 41], argTypes := #[30] }, type := _, pos := _, after := _, guard := none }) rfl (fun K hK => ?_) AllReadyH.nil
      go_simp
      refine (cloneR_any (.slice la L.length lc) L.length rows wd HSL.out HLE.out).mono ?_
      rintro e w3 ⟨v3, rfl, ho3, hv3, hb3⟩
      have HO3 := hI ho3
      have HV3 := hI hv3
      have HS : Hid (Keeps (fun y => y = b ∨ N ≤ y) w2 w3) := hI (HS.out.trans ((Keeps.of_below hb3).mono (fun k hk => .inr (Nat.le_trans (Nat.le_trans (Nat.le_of_eq HN.out) HS.out.size) hk))))
      have HM3 : Hid (MapAt Try.prog 9 kS w3 b X.vals) := hI (HM.out.keep (Keeps.of_below hb3) (by have := HM.out.lt; omega))
      have HB3 : Hid (Bs w3 (.slice ba m.length bc) m) := hI (HBD.out.below hb3)
      have HZ3 : Hid (N ≤ wd.heap.size ∧ wd.heap.size ≤ w3.heap.size) := hI ⟨by rw [HN.out, ← HWD.out]; exact Nat.le_refl _, hb3.size⟩
      clear ho3 hv3 hb3
      refine hK _ _ HS.out ?_
      clear hK K
      try simp only [Act.put, q1, q2, q3]
      refine anyH_ready (rs := [8]) (by decide +kernel) (by simp) ?_
      refine AllReadyH.cons (o := { dst := some 44, op := .call { callee := .value (.func 24), args := #[.tmp 43], argTypes := #[27] }, type := _, pos := _, after := _, guard := none }) rfl (fun K hK => ?_) AllReadyH.nil
      go_simp
      refine (cloneB_any (.slice ba m.length bc) m w3 HB3.out (by have := HLM.out; omega)).mono ?_
      rintro e w4 ⟨v4, rfl, hbs4, hv4, hb4⟩
      obtain ⟨a4, c4, rfl, _⟩ := hbs4.form
      have HO4 := hI (HO3.out.below hb4)
      have HBS4 := hI hbs4
      have HV4 := hI hv4
      have HS : Hid (Keeps (fun y => y = b ∨ N ≤ y) w2 w4) := hI (HS.out.trans ((Keeps.of_below hb4).mono (fun k hk => .inr (Nat.le_trans (Nat.le_trans (Nat.le_of_eq HN.out) HS.out.size) hk))))
      have HM4 : Hid (MapAt Try.prog 9 kS w4 b X.vals) := hI (HM3.out.keep (Keeps.of_below hb4) (by have := HM3.out.lt; omega))
      have HZ4 : Hid (w3.heap.size ≤ w4.heap.size) := hI hb4.size
      clear hbs4 hv4 hb4
      refine hK _ _ HS.out ?_
      clear hK K
      try simp only [Act.put, q1, q2, q3]
      refine anyH_ready (rs := [9]) (by decide +kernel) (by simp) ?_
      refine AllReadyH.cons (o := { dst := some 45, op := .buildSlice 30 1 #[(0, .tmp 44)], type := _, pos := _, after := _, guard := none }) rfl (fun K hK => ?_) AllReadyH.nil
      go_simp
      obtain ⟨w5, hw5⟩ : ∃ w5, w5 = w4.alloc (.cells #[.slice a4 m.length c4] 27) := ⟨_, rfl⟩
      obtain ⟨q5, hq5⟩ : ∃ q5, q5 = w4.heap.size := ⟨_, rfl⟩
      rw [← hw5, ← hq5]
      have hb5 : Below w4.heap.size w4 w5 := by rw [hw5]; exact (Below.refl _ _).alloc (Nat.le_refl _) _
      have HL5 : Hid (Sl w5 1 (.slice (some ⟨q5, 0, none⟩) 1 1) 1 [.slice a4 m.length c4]) := hI (by rw [hw5]; exact Sl.lit hq5.symm rfl (by simp [Value.oneCell']) (by unfold maxLen; decide))
      have HO5 := hI (HO4.out.below hb5)
      have HBS5 : Hid (Bs w5 (.slice a4 m.length c4) m) := hI (HBS4.out.below hb5)
      have HS : Hid (Keeps (fun y => y = b ∨ N ≤ y) w2 w5) := hI (HS.out.trans ((Keeps.of_below hb5).mono (fun k hk => .inr (Nat.le_trans (Nat.le_trans (Nat.le_of_eq HN.out) HS.out.size) hk))))
      have HM5 : Hid (MapAt Try.prog 9 kS w5 b X.vals) := hI (HM4.out.keep (Keeps.of_below hb5) (by have := HM4.out.lt; omega))
      have HZ5 : Hid (w4.heap.size ≤ w5.heap.size) := hI hb5.size
      clear hb5 hw5 hq5
      refine hK _ _ HS.out ?_
      clear hK K
      try simp only [Act.put, q1, q2, q3]
      refine anyH_ready (rs := [10]) (by decide +kernel) (by simp) ?_
      refine AllReadyH.cons (o := { dst := some 46, op := .call { callee := .builtin .append, args := #[.tmp 42, .tmp 45], argTypes := #[30, 30] }, type := _, pos := _, after := _, guard := none }) rfl (fun K hK => ?_) AllReadyH.nil
      refine step_app2 rfl (.tmp 42) (.tmp 45) elRows rfl wd.heap.size (by rfl) HO5.out (fun y hy => by have h1 := HV3.out y hy; have h2 := HZ4.out; have h3 := HZ5.out; omega) (by rfl) HL5.out (by have h1 := HLE.out; unfold maxLen; omega) (by have h1 := HLE.out; omega) (by have h1 := HZ3.out; have h2 := HZ4.out; have h3 := HZ5.out; omega) ?_
      intro v6 w6 ho6 hk6 hv6
      have HO6 := hI ho6
      have HBS6 : Hid (Bs w6 (.slice a4 m.length c4) m) := hI (HBS5.out.keepF (F := fun y => w3.heap.size ≤ y ∧ y < w4.heap.size) hk6 (fun _ y hy => HV4.out y hy) (fun y hy hl => by
        rintro (⟨h1, _⟩ | h1)
        · have h2 := (HV3.out y h1).2
          omega
        · omega))
      have HV6 : Hid (∀ y, v6.ownBlock = some y → N ≤ y ∧ y < w6.heap.size) := hI (fun y hy => by
        have h1 := hv6 y hy
        have h3 := HZ3.out
        have h4 := HZ4.out
        have h5 := HZ5.out
        refine ⟨?_, h1.2⟩
        rcases h1.1 with h | h
        · have h2 := (HV3.out y h).1
          omega
        · omega)
      have HS : Hid (Keeps (fun y => y = b ∨ N ≤ y) w2 w6) := hI (HS.out.trans (hk6.mono (fun k hk => .inr (by
        have h3 := HZ3.out
        have h4 := HZ4.out
        have h5 := HZ5.out
        rcases hk with h | h <;> omega))))
      have HM : Hid (MapAt Try.prog 9 kS w6 b X.vals) := hI (HM5.out.keep hk6 (by
        have h1 := HM3.out.lt
        have h2 := HBN.out
        have h3 := HZ3.out
        have h4 := HZ4.out
        have h5 := HZ5.out
        rintro (h | h) <;> omega))
      have HZ6 : Hid (w5.heap.size ≤ w6.heap.size) := hI hk6.size
      clear ho6 hk6 hv6
      refine hK _ _ HS.out ?_
      clear hK K
      try simp only [Act.put, q1, q2, q3]
      refine anyH_ready (rs := [11]) (by decide +kernel) (by simp) ?_
      refine AllReadyH.cons (o := { dst := none, op := .mapUpdate 26 (.tmp 39) (.tmp 40) (.tmp 46), type := _, pos := _, after := _, guard := none }) rfl (fun K hK => ?_) AllReadyH.nil
      refine step_updateV rfl (.tmp 39) (.tmp 40) (.tmp 46) rfl 9 30 strKV kS_inj Try.underlying26 b _ (by rfl) HM.out HFW.out s (by exact HK.out) ?_
      intro w9 hm hk9 hz9
      have HK9 := hI hk9
      have HM9 := hI hm
      have HS : Hid (Keeps (fun y => y = b ∨ N ≤ y) w2 w9) := hI (HS.out.trans (hk9.mono (fun k hk => hk.imp id (fun h => Nat.le_trans (Nat.le_trans (Nat.le_of_eq HN.out) HS.out.size) h))))
      have HZ9 := hI hz9
      clear hm hk9 hz9
      refine hK _ _ HS.out ?_
      clear hK K
      try simp only [Act.put, q1, q2, q3]
      refine wpAnyH_done (by decide +kernel) ?_ _
      have hnS : ∀ y, G y → y < w2.heap.size → ¬ (y = b ∨ N ≤ y) := fun y hy hlt e => by
        rw [HN.out] at e
        rcases e with e | e
        · exact HX.out.not (by rw [← e]; exact hy)
        · omega
      have hz : N ≤ w9.heap.size := by rw [HN.out]; exact HS.out.size
      have hsub : ∀ y, G y → y < w9.heap.size := fun y hy => Nat.lt_of_lt_of_le (HX.out.lt y hy) HS.out.size
      have hbG : ¬ (G b ∨ N ≤ b ∧ b < w9.heap.size) := fun h => h.elim HX.out.not (fun h => by have := HBN.out; omega)
      have hv6b : ∀ y, v6.ownBlock = some y → ¬ (y = b ∨ w6.heap.size ≤ y) := fun y hy e => by
        have h1 := HV6.out y hy
        have h2 := HBN.out
        omega
      have hbx9 : Box w9 (fun y => G y ∨ N ≤ y ∧ y < w9.heap.size) v6 (L ++ [m]) := by
        refine ⟨rows ++ [.slice a4 m.length c4], ?_, fun _ y hy => ?_, ?_⟩
        · have := (HO6.out.keep HK9.out hv6b).sl
          rw [show (L ++ [m]).length = L.length + 1 by simp]
          exact this
        · have h1 := HV6.out y hy
          have h2 := HZ9.out
          exact .inr ⟨h1.1, by omega⟩
        · refine RowsB.snoc (HRB.out.keep HS.out hnS (fun _ h => .inl h)) (HBS6.out.keepF (F := fun y => w3.heap.size ≤ y ∧ y < w4.heap.size) HK9.out (fun _ y hy => HV4.out y hy) (fun y hy hlt e => ?_)) (fun _ y hy => ?_)
          · have h2 := HBN.out
            have h3 := HZ3.out
            have h4 := HZ5.out
            have h5 := HZ6.out
            omega
          · have h1 := HV4.out y hy
            have h2 := HZ9.out
            have h3 := HZ3.out
            have h4 := HZ5.out
            have h5 := HZ6.out
            exact .inr ⟨by omega, by omega⟩
      have HSN : Hid (Keeps (fun y => y = b ∨ w2.heap.size ≤ y) w2 w9) := hI (by have := HS.out; rw [HN.out] at this; exact this)
      have hbx : Bxs w9 (fun y => G y ∨ N ≤ y ∧ y < w9.heap.size) b (putV X s (v6, L ++ [m])) := HX.out.put HM9.out HSN.out (fun _ h => .inl h) hbx9 hbG (fun y hy => hy.elim (hsub y) (fun h => h.2))
      have hfin := HE.out w9 _ _ hbx (fun y h => h.elim .inl (fun h => .inr (by rw [← HN.out]; exact h.1))) HSN.out
      rw [MailX.put_mail] at hfin
      have HFIN := hI hfin
      clear hfin hbx hnS hz hsub hbG hv6b hbx9
      go_wp2_with fail
      go_ret
      rw [HR.out]
      exact ⟨rfl, HFIN.out, HKB2.out.trans (KB.map HX.out.map HSN.out)⟩
end Go.Proofs.Ytofmkkcbfeadgaa
namespace Go.Proofs.Ytofmkkcbfeadgaa
set_option linter.unusedSimpArgs false
set_option linter.unusedVariables false
open Go.RowKit
def WtResO (w : World) (r : List UInt8 × Int) (e : Ending) (w' : World) : Prop := ∃ v, e = .returned (.tuple #[v, .int .i64 r.2]) ∧ OwnBs w' w.heap.size v r.1 ∧ Below w.heap.size w w'
set_option maxHeartbeats 4000000 in
set_option maxRecDepth 100000 in
theorem derWriteO_any (x : Tv) (F : Nat → Prop) (cs : List Value) (w : World) (h : TvF w F x cs) (hn : Nw x) (hlen : rightS 8 x = true → (writeS x).length ≤ 1073741824) :
    Calls Try.prog 26 #[.agg cs.toArray] w (WtResO w (wrS x)) := by
  have hcl := h.length
  have HCL := hI hcl
  have HN := hI (Blk.new w cs 70)
  have HT := hI h
  have HR := hI (derRightIt_any x F cs (w.alloc (.cells cs.toArray 70)) (h.below ((Below.refl _ _).alloc (Nat.le_refl _) _)))
  have HNW := hI hn
  have HLEN := hI hlen
  clear h hcl hn hlen
  go_enter Try.func26, Try.ntmps26
  go_wp2_with ((with_reducible show wpList _ _ _ (⟨some 5, _, _, _, _, _⟩ :: _) _ _); refine wpList_ldAgg rfl (.tmp 1) aggDer rfl rfl (cs := cs) HCL.out HN.out.cellsAll ?_)
  refine HR.out.mono ?_
  rintro e w1 ⟨rfl, hb1⟩
  have hz1 := hb1.size
  simp at hz1
  have hba : Below w.heap.size w w1 := ((Below.refl _ _).alloc (Nat.le_refl _) _).trans (hb1.mono (by simp))
  have HB1 := hI hba
  have HN1 := hI (HN.out.below hb1 (by simp))
  have HT1 := hI (HT.out.below hba)
  clear hb1 hba HR
  obtain ⟨r, hr⟩ : ∃ r, r = rightS 8 x := ⟨_, rfl⟩
  rw [← hr]
  cases r with
  | false =>
    have HS : Hid (wrS x = ([], 7)) := hI (by unfold wrS; rw [if_pos hr.symm])
    clear hr
    go_wp2_with fail
    go_ret2
    rw [HS.out]
    exact ⟨_, rfl, Own.nil _ _ _ _ _, HB1.out⟩
  | true =>
    have hlen := HLEN.out hr.symm
    have HC := hI (derWrite_any x F cs w1 HT1.out (rightS_ok 8 x hr.symm HNW.out) hlen)
    have hS : wrS x = if 4096 < (writeS x).length then ([], 20) else (writeS x, 0) := by unfold wrS; rw [if_neg (by rw [← hr]; decide)]
    have HS0 := hI hS
    clear hr hS
    generalize writeS x = bs at HC HS0 hlen
    go_wp2_with ((with_reducible show wpList _ _ _ (⟨some 8, _, _, _, _, _⟩ :: _) _ _); refine wpList_ldAgg rfl (.tmp 1) aggDer rfl rfl (cs := cs) HCL.out HN1.out.cellsAll ?_)
    refine HC.out.mono ?_
    rintro e w2 ⟨v2, rfl, ho2, hb2⟩
    obtain ⟨a2, c2, rfl, hc2, hm2⟩ := ho2.sl.form
    have HO : Hid (OwnBs w2 w.heap.size (.slice a2 bs.length c2) bs) := hI (ho2.base (by omega))
    have HB2 : Hid (Below w.heap.size w w2) := hI (HB1.out.trans (hb2.mono (by omega)))
    unfold maxLen at hm2
    clear ho2 hb2 HC
    by_cases hl : 4096 < bs.length
    · have hl' : (4096 : Int) < bs.length := by omega
      have HS : Hid (wrS x = ([], 20)) := hI (by rw [HS0.out, if_pos hl])
      clear hl
      go_wp2_with fail
      go_ret2
      rw [HS.out]
      exact ⟨_, rfl, Own.nil _ _ _ _ _, HB2.out⟩
    · have hl' : ¬ (4096 : Int) < bs.length := by omega
      have HS : Hid (wrS x = (bs, 0)) := hI (by rw [HS0.out, if_neg hl])
      clear hl
      go_wp2_with fail
      go_ret2
      rw [HS.out]
      exact ⟨_, rfl, HO.out, HB2.out⟩
set_option maxHeartbeats 1000000 in
set_option maxRecDepth 100000 in
theorem msgWriteO_of (v : Value) (x : Tv) (b : Bool) (w : World) (hval : Calls Try.prog 25 #[v] w (VlRes w x b)) (hn : b = true → Nw x ∧ (writeS x).length ≤ 1073741824) :
    Calls Try.prog 16 #[v] w (WtResO w (if b = true then wrS x else ([], 7))) := by
  have HV := hI hval
  have HN := hI hn
  obtain ⟨r, hr⟩ : ∃ r, r = (if b = true then wrS x else ([], 7)) := ⟨_, rfl⟩
  rw [← hr]
  have HR := hI hr
  clear hval hn hr
  go_enter Try.func16, Try.ntmps16
  go_wp2_with fail
  refine HV.out.mono ?_
  rintro e w1 ⟨cs, rfl, ht, hb⟩
  have HT := hI ht
  have HB := hI hb
  have HL := hI ht.length
  have HO := hI ht.one
  have HN4 := hI (Blk.new w1 zs5 70)
  clear ht hb HV
  go_upto_region 2 with ((with_reducible show wpList _ _ _ (⟨none, .store _ (.tmp 4) (.tmp 9), _, _, _, _⟩ :: _) _ _); refine wpList_stAgg rfl (.tmp 4) (.tmp 9) aggDer rfl rfl (vs := cs) rfl HL.out HN4.out (Nat.le_refl _) HO.out ?_)
  intro w2 h2 k2
  have h2' : Blk w2 w1.heap.size cs 70 := by
    rw [List.drop_of_length_le (by decide), List.append_nil] at h2
    exact h2
  have hb2 : Below w1.heap.size w1 w2 := ((Below.refl _ _).alloc (Nat.le_refl _) _).trans (k2.below (by omega))
  have H2 := hI h2'
  have HT2 := hI (HT.out.below hb2)
  have HB2 : Hid (Below w.heap.size w w2) := hI (HB.out.trans (hb2.mono HB.out.size))
  clear h2 k2 h2' hb2
  cases b with
  | false =>
    go_wp2_with fail
    go_ret2
    rw [show r = ([], 7) from HR.out]
    exact ⟨_, rfl, Own.nil _ _ _ _ _, HB2.out⟩
  | true =>
    have HWR := hI (derWriteO_any x _ cs w2 HT2.out (HN.out rfl).1 (fun _ => (HN.out rfl).2))
    go_wp2_with ((with_reducible show wpList _ _ _ (⟨some 13, _, _, _, _, _⟩ :: _) _ _); refine wpList_ldAgg rfl (.tmp 4) aggDer rfl rfl (cs := cs) HL.out H2.out.cellsAll ?_)
    refine HWR.out.mono ?_
    rintro e w3 ⟨v3, rfl, hbs, hb3⟩
    obtain ⟨a3, c3, rfl, _⟩ := hbs.sl.form
    have HBS : Hid (OwnBs w3 w.heap.size (.slice a3 (wrS x).1.length c3) (wrS x).1) := hI (hbs.base HB2.out.size)
    have HB3 : Hid (Below w.heap.size w w3) := hI (HB2.out.trans (hb3.mono HB2.out.size))
    clear hbs hb3
    go_wp2_with fail
    go_ret2
    rw [show r = wrS x from HR.out]
    exact ⟨_, rfl, HBS.out, HB3.out⟩
def bob23 : ByteArray := ⟨#[98, 111, 98]⟩
def ex23 : List UInt8 := [143, 13, 64, 3, 97, 110, 110, 64, 3, 98, 111, 98, 0, 1, 1]
theorem exW23 : wrM 15 [.s annB, .s bobB, .n 1] = (ex23, 0) := by decide +kernel
theorem exR23 : rdM ex23 = (some (15, [.s annB, .s bobB, .n 1]), 0) := by
  have h1 : wholeS ex23 = (msgTv 15 [.s annB, .s bobB, .n 1], 0) := by kernel_rfl
  have h2 : msgR (msgTv 15 [.s annB, .s bobB, .n 1]) = true := by decide +kernel
  unfold rdM rdV
  rw [h1, if_pos rfl, ofS_eq, if_pos h2]
  rfl
theorem exL23 : (writeS (msgTv 15 [.s annB, .s bobB, .n 1])).length ≤ 1073741824 := by
  have : writeS (msgTv 15 [.s annB, .s bobB, .n 1]) = ex23 := by kernel_rfl
  rw [this]
  decide
theorem exO23 : openS [] bob23 = ([(bob23, [])], 0) := by kernel_rfl
theorem exO23b : openS [(bob23, [])] bob23 = ([(bob23, [])], 10) := by kernel_rfl
theorem exP23 : putS [(bob23, [])] ex23 = ([(bob23, [ex23])], 0) := by
  unfold putS
  rw [exR23]
  have h : tx (toM 15 [.s annB, .s bobB, .n 1]) = bob23 := by kernel_rfl
  simp only [h]
  decide +kernel
theorem exR1 : rdM [1] = (none, 1) := by
  have h1 : wholeS [1] = (Tv.zero, 1) := by kernel_rfl
  unfold rdM rdV
  rw [h1]
  rfl
theorem exP1 : putS [(bob23, [])] [1] = ([(bob23, [])], 1) := by
  unfold putS
  rw [exR1]
theorem exG23 : getS [(bob23, [ex23])] bob23 = (ex23, [(bob23, [])], 0) := by kernel_rfl
theorem exG23b : getS [(bob23, [])] bob23 = ([], [(bob23, [])], 9) := by kernel_rfl
theorem mailOk_nil : MailOk [] := ⟨.nil, by decide, by simp⟩
theorem mailOk_one (s : ByteArray) (L : List (List UInt8)) (h : L.length ≤ 16 ∧ ∀ b ∈ L, b.length ≤ 500) : MailOk [(s, L)] := ⟨by simp, by simp, by simpa using h⟩
theorem Own.ge {w : World} {B : Nat} {e : TypeId} {sz : Nat} {v : Value} {n : Nat} {cs : List Value} (h : Own w B e sz v n cs) (hn : 0 < n) {k : Nat} (hk : v.ownBlock = some k) : B ≤ k ∧ k < w.heap.size := by
  obtain ⟨h4, h5, ⟨a, e1, e2⟩ | ⟨g, cap, cur, e1, e2, e3, _⟩⟩ := h
  · omega
  · rw [e1] at hk
    simp [Value.ownBlock] at hk
    subst hk
    exact ⟨e2, block_lt e3⟩
/-- A Call is written. -/
theorem msgWriteCall (a b : List UInt8) (n : Int) (w : World) (ha : a.length ≤ 1099511627776) (hb : b.length ≤ 1099511627776) (h1 : -9223372036854775808 ≤ n ∧ n ≤ 9223372036854775807) (hlen : [Pt.s a, .s b, .n n].all ptB = true → (writeS (msgTv 15 [.s a, .s b, .n n])).length ≤ 1073741824) :
    Calls Try.prog 16 #[.iface 54 (.agg #[.string (tx a), .string (tx b), .int .i64 n])] w (WtResO w (wrM 15 [.s a, .s b, .n n])) :=
  msgWriteO_of _ _ _ w (msgValue_15 (fun _ => True) a b n w ha hb h1) (fun h => ⟨msgTv_nw 15 [.s a, .s b, .n n] h, hlen h⟩)
set_option maxHeartbeats 4000000 in
set_option maxRecDepth 100000 in
theorem alive23_any (w : World) : Calls Try.prog 5 #[] w fun e w' => e = .returned (.bool true) ∧ Below w.heap.size w w' := by
  have HC := hI (Hold.start w)
  have hsz : bob23.size ≤ maxLen := by unfold maxLen; decide
  have HSZ := hI hsz
  clear hsz
  go_enter Try.func5, Try.ntmps5
  go_wp2_with fail
  refine (relNew_any _ _ HC.out).mono ?_
  rintro e w1 ⟨p, rfl, hc⟩
  have HC := hI hc
  clear hc
  have HW := hI (msgWriteCall annB bobB 1 w1 (by decide) (by decide) (by decide) (fun _ => exL23))
  rw [exW23] at HW
  go_wp2_with fail
  refine HW.out.mono ?_
  rintro e w2 ⟨v2, rfl, hb2, hw2⟩
  obtain ⟨a2, c2, rfl, _⟩ := hb2.sl.form
  have HC : Hid (Hold w2 [.row (.slice a2 ex23.length c2) ex23, relR p [], .base w]) := hI (HC.out.addRow hw2 hb2.bs (fun k h0 hk => (hb2.ge h0 hk).1))
  have hlen : ex23.length = 15 := rfl
  have HLE := hI hlen
  clear hb2 hw2 HW hlen
  go_wp2_with fail
  have h3 := relOpen_any p [] bob23 _ w2 HC.out.swap HSZ.out (by decide)
  rw [exO23] at h3
  refine h3.mono ?_
  rintro e w3 ⟨rfl, hc, _⟩
  have HC := hI hc
  clear hc h3
  go_wp2_with fail
  have h4 := relPut_any p [(bob23, [])] (.slice a2 ex23.length c2) ex23 _ w3 HC.out (HC.out.rowOf (by simp)) (by decide) (mailOk_one _ _ (by simp))
  rw [exP23] at h4
  refine h4.mono ?_
  rintro e w4 ⟨rfl, hc, _⟩
  have HC := hI hc
  clear hc h4
  go_wp2_with fail
  have h5 := relGet_any p [(bob23, [ex23])] bob23 _ w4 HC.out HSZ.out (mailOk_one _ _ (by decide))
  rw [exG23] at h5
  refine h5.mono ?_
  rintro e w5 ⟨v5, rfl, hb5, hc, _⟩
  have HB5 := hI hb5
  obtain ⟨a5, c5, rfl, _⟩ := hb5.form
  have HC := hI hc
  clear hc h5 hb5
  go_wp2_with fail
  have h6 := relGet_any p [(bob23, [])] bob23 _ w5 HC.out HSZ.out (mailOk_one _ _ (by simp))
  rw [exG23b] at h6
  refine h6.mono ?_
  rintro e w6 ⟨v6, rfl, _, hc, hkb⟩
  have HC := hI hc
  have HB6 := hI (hkb.bs HB5.out)
  clear hc h6 hkb
  go_wp2_with fail
  refine (same_b _ _ ex23 ex23 w6 (HC.out.rowOf (by simp)) HB6.out).mono ?_
  rintro e w7 ⟨rfl, hb⟩
  have HC := hI (HC.out.step hb)
  clear hb
  rw [show decide (ex23 = ex23) = true from by simp]
  go_wp2_with fail
  have h8 := relOpen_any p [(bob23, [])] bob23 _ w7 HC.out HSZ.out (by simp)
  rw [exO23b] at h8
  refine h8.mono ?_
  rintro e w8 ⟨rfl, hc, _⟩
  have HC := hI hc
  clear hc h8
  go_wp2_with fail
  have h9 := relPut_any p [(bob23, [])] (.slice (some ⟨w8.heap.size, 0, none⟩) 1 1) [1] _ _ (HC.out.alloc (.cells #[.int .u8 1] 5)) (Sl.lit (cs := #[.int .u8 1]) rfl rfl (by decide) (by unfold maxLen; decide)) (by decide) (mailOk_one _ _ (by simp))
  rw [exP1] at h9
  refine h9.mono ?_
  rintro e w9 ⟨rfl, hc, _⟩
  have HC := hI hc
  clear hc h9
  go_wp2_with fail
  go_ret
  exact ⟨rfl, HC.out.baseOf (by simp)⟩
theorem Hold.blkTurn {W W' : World} {l : List Res} {g : Nat} {cur cur' : List Value} {T : TypeId} (h : Hold W (.blk g cur T :: l)) (hb : Blk W' g cur' T) (hk : Keeps (fun k => k = g) W W') : Hold W' (.blk g cur' T :: l) :=
  h.turn fun F hF => ⟨F, ⟨hb, hF.2⟩, fun b hb => .inl hb, hk.mono fun k hk => .inl ((hF.2 k).2 hk)⟩
end Go.Proofs.Ytofmkkcbfeadgaa
namespace Go.Proofs.Ytofmkkcbfeadgaa
set_option linter.unusedSimpArgs false
set_option linter.unusedVariables false
open Go.RowKit Go.Maps Go.MapKept Go.WideMaps
/-- The law's boxes, with the very values that the map has. -/
def lawX (w0 : World) (b : Nat) (G : Nat → Prop) (X : MailX) : Res where
  holds W F := Below w0.heap.size w0 W ∧ (∀ y, y < w0.heap.size → G y) ∧ Bxs W G b X ∧ ∀ y, F y ↔ y = b ∨ G y
  frame := by
    rintro W W' F S ⟨h1, h2, ⟨h4, h5, h6, h7⟩, hf⟩ hk hs
    have hg : ∀ y, G y → y < W.heap.size → ¬ S y := fun y hy _ => hs y ((hf y).2 (.inr hy))
    refine ⟨⟨hk.os.trans h1.os, hk.tape.trans h1.tape, hk.output.trans h1.output, Nat.le_trans h1.size hk.size, fun y hy => (hk.block y (hs y ((hf y).2 (.inr (h2 y hy))))).trans (h1.block y hy)⟩, h2, ⟨h4.keep hk (hs b ((hf b).2 (.inl rfl))), fun x hx => (h5 x hx).keep hk hg (fun _ h => h), h6, fun y hy => Nat.lt_of_lt_of_le (h7 y hy) hk.size⟩, hf⟩
  lt := by
    rintro W F y ⟨h1, h2, ⟨h4, h5, h6, h7⟩, hf⟩ hy
    rcases (hf y).1 hy with rfl | hy
    · exact h4.lt
    · exact h7 y hy
theorem lawR_exact {W w0 : World} {b : Nat} {T : Mail} {l : List Res} (h : Hold W (lawR w0 b T :: l)) : ∃ G X, T = MailX.mail X ∧ Hold W (lawX w0 b G X :: l) := by
  obtain ⟨F1, F2, ⟨G, X, hT, h1, h2, h4, hf⟩, k2, k3⟩ := Hold.cons.1 h
  exact ⟨G, X, hT, Hold.cons.2 ⟨F1, F2, ⟨h1, h2, h4, hf⟩, k2, k3⟩⟩
theorem lawX_R {W w0 : World} {b : Nat} {G : Nat → Prop} {X : MailX} {T : Mail} {l : List Res} (h : Hold W (lawX w0 b G X :: l)) (hT : T = MailX.mail X) : Hold W (lawR w0 b T :: l) := by
  obtain ⟨F1, F2, ⟨h1, h2, h4, hf⟩, k2, k3⟩ := Hold.cons.1 h
  exact Hold.cons.2 ⟨F1, F2, ⟨G, X, hT, h1, h2, h4, hf⟩, k2, k3⟩
theorem lawX_of {W w0 : World} {b : Nat} {G : Nat → Prop} {X : MailX} {l : List Res} (h : Hold W l) (hm : lawX w0 b G X ∈ l) : Below w0.heap.size w0 W ∧ (∀ y, y < w0.heap.size → G y) ∧ Bxs W G b X := by
  obtain ⟨F, h1, h2, h3, _⟩ := h.get hm
  exact ⟨h1, h2, h3⟩
theorem lawX_put {W w0 : World} {b : Nat} {G : Nat → Prop} {X : MailX} {T : Mail} {l : List Res} (h : Hold W (lawX w0 b G X :: l)) (hT : T = MailX.mail X) {W' : World} {s : ByteArray} {v : Value} {L : List (List UInt8)}
    (hm : MapAt Try.prog 9 kS W' b (putV X.vals s v)) (hk : Keeps (fun y => y = b ∨ W.heap.size ≤ y) W W') (hn : Box W' (fun y => G y ∨ W.heap.size ≤ y ∧ y < W'.heap.size) v L) : Hold W' (lawR w0 b (putV T s L) :: l) := by
  obtain ⟨F1, F2, ⟨h1, h2, h4, hf⟩, k2, k3⟩ := Hold.cons.1 h
  have hbl := h4.map.lt
  have hb0 : w0.heap.size ≤ b := by
    rcases Nat.lt_or_ge b w0.heap.size with h | h
    · exact (h4.not (h2 b h)).elim
    · exact h
  have hz := h1.size
  have hb' := h4.put hm hk (fun _ h => .inl h) hn (fun h => h.elim h4.not (fun h => by omega)) (fun y hy => hy.elim (fun h => Nat.lt_of_lt_of_le (h4.lt y h) hk.size) (fun h => h.2))
  refine Hold.cons.2 ⟨fun y => y = b ∨ (G y ∨ W.heap.size ≤ y ∧ y < W'.heap.size), F2, ⟨_, putV X s (v, L), by rw [hT, MailX.put_mail], h1.trans (hk.below (fun k hk => by omega)), fun y hy => .inl (h2 y hy), hb', fun _ => Iff.rfl⟩, (Res.all l).frame k2 hk ?_, ?_⟩
  · rintro y hy (rfl | hc)
    · exact k3 y ((hf y).2 (.inl rfl)) hy
    · have := (Res.all l).lt k2 hy
      omega
  · rintro y (rfl | hy | hy) hc
    · exact k3 y ((hf y).2 (.inl rfl)) hc
    · exact k3 y ((hf y).2 (.inr hy)) hc
    · have := (Res.all l).lt k2 hc
      omega
/-- The law's boxes, asked for one name. -/
theorem lawX_look {W : World} {b : Nat} {G : Nat → Prop} {X : MailX} {T : Mail} (h : Bxs W G b X) (hT : T = MailX.mail X) (s : ByteArray) : X.vals.length = T.length ∧ hasV X.vals s = hasV T s ∧
    ∃ la lc, getV X.vals s (.slice none 0 0) = .slice la (getV T s []).length lc ∧ (getV T s []).length ≤ lc ∧ Box W G (.slice la (getV T s []).length lc) (getV T s []) := by
  subst hT
  have hb := MailX.look h.box s
  obtain ⟨la, lc, hv, hlc, _⟩ := hb.form
  exact ⟨by simp [MailX.vals, MailX.mail], MailX.has X s, la, lc, hv, hlc, by rw [← hv]; exact hb⟩
theorem Box.empty (W : World) (G : Nat → Prop) (a : Option Addr) : Box W G (.slice a 0 0) [] := ⟨[], ⟨rfl, by simp, a, 0, rfl, Nat.le_refl _, Nat.zero_le _, fun _ => rfl, .inl rfl⟩, by simp, rfl⟩
/-- A look-up, as a step of a region that draws its order. -/
theorem step_lookupV {α : Type} [DecidableEq α] {kL : α → Lit} {P : Program} {w : World} {ops : Array Oper} {o : Oper} {a : Act} {K' : Act → World → Prop} {Q : Exit → Act → World → Prop} {E : Prop} (hgd : o.guard = none) (m x : Operand) {t : TypeId} (hop : o.op = Op.lookup t m x false) (k e : TypeId) (K : Keyed P k) (hk : KInj kL) (ht : P.underlying t = some (.map k e)) {z : Value} (hz : (zeroValue e).run P w = .ok z w) (b : Nat) (M : List (α × Value))
    (hm : a.eval m = .map (some b)) (hown : MapAt P k kL w b M) (s : α) (hkey : keyOf P k (a.eval x) = some (kL s))
    (h : K' (a.put o.dst (getV M s z)) w) : if Region.wanted o (yielded ops a.tmps) = true then Oper.wp P o a w K' Q else E := by
  have hw : Region.wanted o (yielded ops a.tmps) = true := by simp [Region.wanted, hgd]
  rw [if_pos hw]
  obtain ⟨D, hd, ho⟩ := hown
  obtain ⟨v, ps, hrun, hv⟩ := ho.lookup K ht hz (zd := .held z) (zp := []) rfl hkey
  rw [hd.at hk] at hv
  simp only [rawR, Option.some.injEq, Prod.mk.injEq, DataW.held.injEq] at hv
  rw [hv.1] at hrun
  unfold Oper.wp
  simp [execOp, hop, hm, hrun, Result.andThen]
  exact h
/-- A step. -/
structure Rst where
  kind : Int
  name : ByteArray
  bv : Value
  b : List UInt8
def Rst.cells (x : Rst) : List Value := [.int .i64 x.kind, .string x.name, x.bv]
theorem Rst.cells_length (x : Rst) : x.cells.length = 3 := rfl
def Rst.In (w : World) (x : Rst) : Prop := x.name.size ≤ maxLen ∧ Bs w x.bv x.b
theorem Rst.cells_one {w : World} {x : Rst} (h : x.In w) : ∀ c ∈ x.cells, c.oneCell' = true := by
  obtain ⟨a, c, e, _⟩ := h.2.form
  intro u hu
  simp only [Rst.cells, List.mem_cons, List.not_mem_nil, or_false] at hu
  rcases hu with rfl | rfl | rfl
  · rfl
  · rfl
  · rw [e]; rfl
theorem aggRst : AggTy Try.prog 29 3 := AggTy.mk Try.underlying29 rfl (by kernel_rfl)
def zsRst : List Value := [.int .i64 0, .string .empty, .slice none 0 0]
theorem rs_cells {w W : World} {b o n c : Nat} {l : List Rst} (h : Sl w 3 (.slice (some ⟨b, o, none⟩) n c) n (l.map Rst.cells).flatten) (hb : Below w.heap.size w W) (k : Nat) (hk : k < l.length) : CellsAt W b (o + k * 3) l[k].cells := by
  obtain ⟨b', o', he, hcell⟩ := h.addr (by rw [flat_length (n := 3) Rst.cells l (fun x _ => x.cells_length)]; omega)
  simp only [Option.some.injEq, Addr.mk.injEq, and_true] at he
  obtain ⟨rfl, rfl⟩ := he
  intro j u hj
  have hj' : j < 3 := (List.getElem?_eq_some_iff.1 hj).1
  have := hcell (k * 3 + j) u (by rw [flatC_at (n := 3) Rst.cells l (fun x _ => x.cells_length) k j hk hj']; exact hj)
  rw [Nat.add_assoc]
  exact below_cell hb this
theorem mailOk_snoc {T : Mail} (h : MailOk T) (s : ByteArray) (m : List UInt8) (hs : hasV T s = true) (hl : ¬ (getV T s []).length = 16) (hm : m.length ≤ 500) : MailOk (putV T s (getV T s [] ++ [m])) := by
  have h1 := h.get s
  refine h.put s _ (.inl hs) ⟨by simp; omega, fun b hb => ?_⟩
  rcases List.mem_append.1 hb with hb | hb
  · exact h1.2 b hb
  · rw [List.mem_singleton.1 hb]; exact hm
theorem mailOk_rest {T : Mail} (h : MailOk T) (s : ByteArray) {m : List UInt8} {L : List (List UInt8)} (hg : getV T s [] = m :: L) (hs : hasV T s = true) : MailOk (putV T s L) := by
  have h1 := h.get s
  rw [hg] at h1
  refine h.put s _ (.inl hs) ⟨by have := h1.1; simp at this; omega, fun b hb => h1.2 b (by simp [hb])⟩
theorem has_of_get {T : Mail} {s : ByteArray} {m : List UInt8} {L : List (List UInt8)} (h : getV T s [] = m :: L) : hasV T s = true := by
  cases hh : hasV T s with
  | true => rfl
  | false => rw [getV_no hh] at h; cases h
end Go.Proofs.Ytofmkkcbfeadgaa
