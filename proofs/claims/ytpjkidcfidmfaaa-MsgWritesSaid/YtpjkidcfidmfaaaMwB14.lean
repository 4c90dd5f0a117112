/- Texts of this proof, one behind the other: MMsgOD, MMsgOE, MMsgOf, MIO. -/
import Derived.Test.YtpjkidcfidmfaaaMwB13
namespace Go.Proofs.Ytpjkidcfidmfaaa
set_option linter.unusedSimpArgs false
set_option linter.unusedVariables false
open Go.RowKit
set_option maxHeartbeats 16000000 in
set_option maxRecDepth 100000 in
theorem msgOf_18 (x : Tv) (F : Nat → Prop) (cs : List Value) (w : World) (h : TvF w F x cs) (hF : ∀ b, F b → b < w.heap.size) (hL : Lw x) (htag : x.tag = 18) :
    Calls Try.prog 19 #[.agg cs.toArray] w (OfM w F x) := by
  have HTG := hqZ htag
  clear htag
  have HLN := hqZ h.length
  have HQ0 := hqZ (Blk.new w cs 38)
  have hB0 : Below w.heap.size w (w.alloc (.cells cs.toArray 38)) := (Below.refl _ _).alloc (Nat.le_refl _) _
  have HB0 := hqZ hB0
  have HTK := hqZ (take_any x F cs _ (h.below hB0) (fun b hb => by have := hF b hb; simp; omega))
  have HL : Hid (∀ y ∈ x.l, y.l.length ≤ 1954687338211) := hqZ (fun y hy => by
    obtain ⟨k, t, n, b, l⟩ := x
    have h1 := LsW.mem hL.2 y hy
    obtain ⟨k2, t2, n2, b2, l2⟩ := y
    exact h1.1)
  have HF := hqZ hF
  obtain ⟨q, hq⟩ : ∃ q, q = w.heap.size := ⟨_, rfl⟩
  have HQ : Hid (∀ W, Below q w W → BelowO w W) := hqZ (fun W h => by rw [hq] at h; exact h)
  have hopen := h.open_
  clear h hB0 hL
  go_enter Try.func19, Try.ntmps19
  go_wp2_with ((with_reducible show wpList _ _ _ (⟨some 6, _, _, _, _, _⟩ :: _) _ _); refine wpList_ldAgg rfl (.tmp 1) aggDer rfl rfl (cs := cs) HLN.out HQ0.out.cellsAll ?_)
  refine HTK.out.mono ?_
  rintro e w0 ⟨p, rfl, ht, hb, hp⟩
  obtain ⟨bv, lv, rows, rfl, hb1, hb2, hb3, hb4, hb5⟩ := hopen
  obtain ⟨pm, hpm⟩ : ∃ pm, pm = w0.heap.size := ⟨_, rfl⟩
  have hA0 : Below w0.heap.size w0 (w0.alloc (.cells [.pointer (some ⟨p, 0, none⟩), .bool false].toArray 104)) := (Below.refl _ _).alloc (Nat.le_refl _) _
  have hpl := ht.lt
  have hz0 : w.heap.size ≤ w0.heap.size := by have := hb.size; simp at this; omega
  have ht0 : Tkn (w0.alloc (.cells [.pointer (some ⟨p, 0, none⟩), .bool false].toArray 104)) F pm p x.l false false := by
    refine ⟨by rw [hpm]; exact Blk.new _ _ _, ht.below hA0, by omega, fun h => ?_, fun b hb => ?_⟩
    · have := HF.out _ h; omega
    · have := HF.out _ hb; simp; omega
  have hq0 := (HQ0.out.below hb (by simp)).alloc (.cells [.pointer (some ⟨p, 0, none⟩), .bool false].toArray 104)
  have hbt : Below w.heap.size w (w0.alloc (.cells [.pointer (some ⟨p, 0, none⟩), .bool false].toArray 104)) := (HB0.out.trans (hb.mono (by simp))).trans (hA0.mono hz0)
  obtain ⟨wt, hwt⟩ : ∃ wt, wt = w0.alloc (.cells [.pointer (some ⟨p, 0, none⟩), .bool false].toArray 104) := ⟨_, rfl⟩
  rw [← hwt] at ht0 hq0 hbt
  have HT := hqZ ht0
  have HBT := hqZ hbt
  have HQT := hqZ hq0
  have HP : Hid (w.heap.size < p ∧ w.heap.size < pm ∧ w.heap.size < wt.heap.size) := hqZ (by simp at hp; have := ht0.lt; exact ⟨by omega, by omega, by omega⟩)
  have cT : wt.cell? ⟨w.heap.size, 1, none⟩ = some (.int .i64 x.tag) := HQT.out.cell 1
  have HKb : Hid (∀ W, Keeps (Sm pm p wt.heap.size) wt W → Below w.heap.size w W ∧ Blk W w.heap.size [.int .i64 x.kind, .int .i64 x.tag, .int .u64 (x.n : Int), bv, lv] 38) := hqZ (fun W hk =>
    ⟨HBT.out.trans (hk.below (fun b hb => by have := HP.out; rcases hb with h | h | h <;> omega)), HQT.out.keep hk (fun h => by have := HP.out; rcases h with h | h | h <;> omega)⟩)
  clear ht hb hp hb1 hb2 hb3 hb4 hb5 HQ0 HB0 HTK hA0 hpl hz0 ht0 hq0 hbt
  go_upto_region 2 with fail
  show Code.wp _ _ _ _ (w0.alloc (.cells [.pointer (some ⟨p, 0, none⟩), .bool false].toArray 104))
  rw [← hwt, ← hpm]
  clear hwt hpm
  rw [← hq] at *
  clear hq
  have hxt : 18 = x.tag := HTG.out.symm
  obtain ⟨l, hxl⟩ : ∃ l, l = x.l := ⟨_, rfl⟩
  have HXT := hqZ hxt
  have HXL := hqZ hxl
  rw [← hxt] at cT HKb HQT ⊢
  rw [← hxl] at HT HL
  clear hxt hxl HTG
  have HOM : Hid (∀ W o pts rem bad bad2, (shapeS x.tag).isEmpty = false → runS (shapeS x.tag) (x.l, false, false) = (pts, rem, bad, bad2) → MsgV W F x.tag pts o → OutM W F x o rem bad bad2) := hqZ (fun W o pts rem bad bad2 h0 h1 h2 => by unfold OutM; rw [if_neg (by rw [h0]; decide)]; exact ⟨pts, h1, h2⟩)
  rw [← HXT.out] at HOM
  rw [← HXL.out] at HOM
  clear HXT HXL
  go_upto_region 19 with fail
  refine wp_region_held (S := fun W : World => W.cell? ⟨pm, 0, none⟩ = some (.pointer (some ⟨p, 0, none⟩))) (by kernel_rfl) ?_
  change wpAnyH _ _ _ _ _ _ _ _ (World.drew _)
  have HS : (World.drew wt).cell? ⟨pm, 0, none⟩ = some (.pointer (some ⟨p, 0, none⟩)) := HT.out.ptr
  have HT0 := hqZ HT.out.drew
  have HK0 : Hid (Keeps (Sm pm p wt.heap.size) wt wt.drew) := hqZ (Keeps.refl _ _).drew
  have HR0 : Hid (runS (shapeS 18) (l, false, false) = runS [.s, .s, .n, .b] (l, false, false)) := hqZ rfl
  have HP0 : Hid (PtsV wt.drew F [] []) := hqZ rfl
  generalize World.drew wt = wd at HS HT0 HK0 HP0 ⊢
  refine tkH 0 174 none (.pointer (some ⟨pm, 0, none⟩)) rfl (by kernel_rfl) (fun _ _ _ h => h) (by rfl) (by intro W hW; go_simp) HS ?_
  simp only [Act.put, zq1, zq2, zq3]
  refine tkH 1 175 none (.pointer (some ⟨pm, 0, none⟩)) rfl (by kernel_rfl) (fun _ _ _ h => h) (by rfl) (by intro W hW; go_simp) HS ?_
  simp only [Act.put, zq1, zq2, zq3]
  refine tkH 2 176 none (.pointer (some ⟨pm, 0, none⟩)) rfl (by kernel_rfl) (fun _ _ _ h => h) (by rfl) (by intro W hW; go_simp) HS ?_
  simp only [Act.put, zq1, zq2, zq3]
  refine tkH 3 177 none (.pointer (some ⟨p, 0, none⟩)) rfl (by kernel_rfl) (fun _ _ _ h => h) (by rfl) (by intro W hW; have hc0 : W.cell? ⟨pm, 0, none⟩ = some (.pointer (some ⟨p, 0, none⟩)) := hW; go_simp) HS ?_
  simp only [Act.put, zq1, zq2, zq3]
  refine tkH 5 179 none (.pointer (some ⟨pm, 0, none⟩)) rfl (by kernel_rfl) (fun _ _ _ h => h) (by rfl) (by intro W hW; go_simp) HS ?_
  simp only [Act.put, zq1, zq2, zq3]
  refine tkH 6 180 none (.pointer (some ⟨pm, 0, none⟩)) rfl (by kernel_rfl) (fun _ _ _ h => h) (by rfl) (by intro W hW; go_simp) HS ?_
  simp only [Act.put, zq1, zq2, zq3]
  refine tkH 7 181 none (.pointer (some ⟨pm, 0, none⟩)) rfl (by kernel_rfl) (fun _ _ _ h => h) (by rfl) (by intro W hW; go_simp) HS ?_
  simp only [Act.put, zq1, zq2, zq3]
  refine tkH 8 182 none (.pointer (some ⟨p, 0, none⟩)) rfl (by kernel_rfl) (fun _ _ _ h => h) (by rfl) (by intro W hW; have hc0 : W.cell? ⟨pm, 0, none⟩ = some (.pointer (some ⟨p, 0, none⟩)) := hW; go_simp) HS ?_
  simp only [Act.put, zq1, zq2, zq3]
  refine tkH 10 184 none (.pointer (some ⟨pm, 0, none⟩)) rfl (by kernel_rfl) (fun _ _ _ h => h) (by rfl) (by intro W hW; go_simp) HS ?_
  simp only [Act.put, zq1, zq2, zq3]
  refine tkH 11 185 none (.pointer (some ⟨pm, 0, none⟩)) rfl (by kernel_rfl) (fun _ _ _ h => h) (by rfl) (by intro W hW; go_simp) HS ?_
  simp only [Act.put, zq1, zq2, zq3]
  refine tkH 12 186 none (.pointer (some ⟨pm, 0, none⟩)) rfl (by kernel_rfl) (fun _ _ _ h => h) (by rfl) (by intro W hW; go_simp) HS ?_
  simp only [Act.put, zq1, zq2, zq3]
  refine tkH 13 187 none (.pointer (some ⟨p, 0, none⟩)) rfl (by kernel_rfl) (fun _ _ _ h => h) (by rfl) (by intro W hW; have hc0 : W.cell? ⟨pm, 0, none⟩ = some (.pointer (some ⟨p, 0, none⟩)) := hW; go_simp) HS ?_
  simp only [Act.put, zq1, zq2, zq3]
  refine tkH 15 189 none (.pointer (some ⟨pm, 0, none⟩)) rfl (by kernel_rfl) (fun _ _ _ h => h) (by rfl) (by intro W hW; go_simp) HS ?_
  simp only [Act.put, zq1, zq2, zq3]
  refine tkH 16 190 none (.pointer (some ⟨pm, 0, none⟩)) rfl (by kernel_rfl) (fun _ _ _ h => h) (by rfl) (by intro W hW; go_simp) HS ?_
  simp only [Act.put, zq1, zq2, zq3]
  refine tkH 17 191 none (.pointer (some ⟨pm, 0, none⟩)) rfl (by kernel_rfl) (fun _ _ _ h => h) (by rfl) (by intro W hW; go_simp) HS ?_
  simp only [Act.put, zq1, zq2, zq3]
  refine tkH 18 192 none (.pointer (some ⟨p, 0, none⟩)) rfl (by kernel_rfl) (fun _ _ _ h => h) (by rfl) (by intro W hW; have hc0 : W.cell? ⟨pm, 0, none⟩ = some (.pointer (some ⟨p, 0, none⟩)) := hW; go_simp) HS ?_
  simp only [Act.put, zq1, zq2, zq3]
  refine anyH_ready (rs := [4]) (by decide +kernel) (by simp) ?_
  refine AllReadyH.cons (o := { dst := some 178, op := .call { callee := .value (.func 35), args := #[.tmp 177], argTypes := #[101] }, type := _, pos := _, after := _, guard := none }) rfl (fun K hK => ?_) AllReadyH.nil
  go_simp
  refine (nameK_any l false false pm p F wd HT0.out).mono ?_
  rintro e v1 ⟨rfl, ht, hk⟩
  have HR1 : Hid (runS (shapeS 18) (l, false, false) = (.s (nameS l false).1 :: (runS [.s, .n, .b] ((nameS l false).2.1, (nameS l false).2.2, false)).1, (runS [.s, .n, .b] ((nameS l false).2.1, (nameS l false).2.2, false)).2)) := hqZ (HR0.out.trans rfl)
  have HP1 : Hid (PtsV v1 F ([] ++ [.s (nameS l false).1]) ([] ++ [.string (tx (nameS l false).1)])) := hqZ ((HP0.out.keep hk HT0.out.hs (by rfl)).snoc (p := .s (nameS l false).1) rfl)
  have HT1 := hqZ ht
  have HK1 := hqZ (keepsM rfl HK0.out (HK0.out.size) hk)
  clear ht hk HT0 HK0 HR0 HP0
  generalize nameS l false = st at *
  obtain ⟨x1, l1, b1⟩ := st
  simp only at *
  have HS := HT1.out.ptr
  refine hK _ _ HS ?_
  clear hK K
  try simp only [Act.put, zq1, zq2, zq3]
  refine anyH_ready (rs := [9]) (by decide +kernel) (by simp) ?_
  refine AllReadyH.cons (o := { dst := some 183, op := .call { callee := .value (.func 35), args := #[.tmp 182], argTypes := #[101] }, type := _, pos := _, after := _, guard := none }) rfl (fun K hK => ?_) AllReadyH.nil
  go_simp
  refine (nameK_any l1 b1 false pm p F v1 HT1.out).mono ?_
  rintro e v2 ⟨rfl, ht, hk⟩
  have HR2 : Hid (runS (shapeS 18) (l, false, false) = (.s x1 :: .s (nameS l1 b1).1 :: (runS [.n, .b] ((nameS l1 b1).2.1, (nameS l1 b1).2.2, false)).1, (runS [.n, .b] ((nameS l1 b1).2.1, (nameS l1 b1).2.2, false)).2)) := hqZ (HR1.out.trans rfl)
  have HP2 : Hid (PtsV v2 F ([.s x1] ++ [.s (nameS l1 b1).1]) ([.string (tx x1)] ++ [.string (tx (nameS l1 b1).1)])) := hqZ ((HP1.out.keep hk HT1.out.hs (by rfl)).snoc (p := .s (nameS l1 b1).1) rfl)
  have HT2 := hqZ ht
  have HK2 := hqZ (keepsM rfl HK1.out (HK1.out.size) hk)
  clear ht hk HT1 HK1 HR1 HP1
  generalize nameS l1 b1 = st at *
  obtain ⟨x2, l2, b2⟩ := st
  simp only at *
  have HS := HT2.out.ptr
  refine hK _ _ HS ?_
  clear hK K
  try simp only [Act.put, zq1, zq2, zq3]
  refine anyH_ready (rs := [14]) (by decide +kernel) (by simp) ?_
  refine AllReadyH.cons (o := { dst := some 188, op := .call { callee := .value (.func 36), args := #[.tmp 187], argTypes := #[101] }, type := _, pos := _, after := _, guard := none }) rfl (fun K hK => ?_) AllReadyH.nil
  go_simp
  refine (numK_any l2 b2 false pm p F v2 HT2.out).mono ?_
  rintro e v3 ⟨rfl, ht, hk⟩
  have HR3 : Hid (runS (shapeS 18) (l, false, false) = (.s x1 :: .s x2 :: .n (numS l2 b2).1 :: (runS [.b] ((numS l2 b2).2.1, (numS l2 b2).2.2, false)).1, (runS [.b] ((numS l2 b2).2.1, (numS l2 b2).2.2, false)).2)) := hqZ (HR2.out.trans rfl)
  have HP3 : Hid (PtsV v3 F ([.s x1, .s x2] ++ [.n (numS l2 b2).1]) ([.string (tx x1), .string (tx x2)] ++ [.int .i64 (numS l2 b2).1])) := hqZ ((HP2.out.keep hk HT2.out.hs (by rfl)).snoc (p := .n (numS l2 b2).1) rfl)
  have HT3 := hqZ ht
  have HK3 := hqZ (keepsM rfl HK2.out (HK2.out.size) hk)
  clear ht hk HT2 HK2 HR2 HP2
  generalize numS l2 b2 = st at *
  obtain ⟨x3, l3, b3⟩ := st
  simp only at *
  have HS := HT3.out.ptr
  refine hK _ _ HS ?_
  clear hK K
  try simp only [Act.put, zq1, zq2, zq3]
  refine anyH_ready (rs := [19]) (by decide +kernel) (by simp) ?_
  refine AllReadyH.cons (o := { dst := some 193, op := .call { callee := .value (.func 37), args := #[.tmp 192], argTypes := #[101] }, type := _, pos := _, after := _, guard := none }) rfl (fun K hK => ?_) AllReadyH.nil
  go_simp
  refine (bytesK_any l3 b3 false pm p F v3 HT3.out).mono ?_
  rintro e v4 ⟨vb, ⟨rfl, ht, hk⟩, hb, ho⟩
  have HR4 : Hid (runS (shapeS 18) (l, false, false) = (.s x1 :: .s x2 :: .n x3 :: .b (bytesS l3 b3).1 :: (runS [] ((bytesS l3 b3).2.1, (bytesS l3 b3).2.2, false)).1, (runS [] ((bytesS l3 b3).2.1, (bytesS l3 b3).2.2, false)).2)) := hqZ (HR3.out.trans rfl)
  obtain ⟨ab4, cb4, rfl, hcb4, hmb4⟩ := hb.form
  have HP4 : Hid (PtsV v4 F ([.s x1, .s x2, .n x3] ++ [.b (bytesS l3 b3).1]) ([.string (tx x1), .string (tx x2), .int .i64 x3] ++ [.slice ab4 (bytesS l3 b3).1.length cb4])) := hqZ ((HP3.out.keep hk HT3.out.hs (by rfl)).snoc (p := .b (bytesS l3 b3).1) ⟨_, rfl, hb, ho⟩)
  have HT4 := hqZ ht
  have HK4 := hqZ (keepsM rfl HK3.out (HK3.out.size) hk)
  clear ht hk hb ho HT3 HK3 HR3 HP3
  generalize bytesS l3 b3 = st at *
  obtain ⟨x4, l4, b4⟩ := st
  simp only at *
  generalize hz4 : x4.length = z4 at *
  have HS := HT4.out.ptr
  refine hK _ _ HS ?_
  clear hK K
  try simp only [Act.put, zq1, zq2, zq3]
  refine tkH 20 194 none (.agg #[.string (tx x1), .string (tx x2), .int .i64 x3, .slice ab4 z4 cb4]) rfl (by kernel_rfl) (fun _ _ _ h => h) (by rfl) (by intro W hW; go_simp) HS ?_
  simp only [Act.put, zq1, zq2, zq3]
  refine tkH 21 195 none (.iface 68 (.agg #[.string (tx x1), .string (tx x2), .int .i64 x3, .slice ab4 z4 cb4])) rfl (by kernel_rfl) (fun _ _ _ h => h) (by rfl) (by intro W hW; go_simp) HS ?_
  simp only [Act.put, zq1, zq2, zq3]
  refine tkH 22 5 none (.iface 68 (.agg #[.string (tx x1), .string (tx x2), .int .i64 x3, .slice ab4 z4 cb4])) rfl (by kernel_rfl) (fun _ _ _ h => h) (by rfl) (by intro W hW; go_simp) HS ?_
  simp only [Act.put, zq1, zq2, zq3]
  refine wpAnyH_done (by decide +kernel) ?_ _
  have ho := HOM.out _ _ _ _ _ _ (by decide) HR4.out ⟨_, rfl, HP4.out⟩
  have ht := HT4.out
  have hk := HK4.out
  obtain ⟨hb, hq⟩ := HKb.out _ hk
  have c0 : v4.cell? ⟨q, 0, none⟩ = some (.int .i64 x.kind) := hq.cell 0
  have m0 := ht.ptr
  have m1 : v4.cell? ⟨pm, 1, none⟩ = some (.bool false) := ht.1.cell 1
  have HX := hqZ (OutM.no ho (HQ.out _ hb))
  have HY := hqZ (OutM.yes ho (HQ.out _ hb))
  have HD := hqZ (done_any l4 b4 p F v4 ht.2.1)
  clear ht hk ho hb hq
  by_cases hk2 : x.kind = 2
  · have HK2 := hqZ hk2
    have hkb : (x.kind != 2) = false := by simpa using hk2
    clear hk2
    generalize hdn : (!b4 && l4.isEmpty) = dn at *
    clear hdn
    go_wp2_with fail
    refine HD.out.mono ?_
    rintro e w2 ⟨rfl, rfl⟩
    cases dn with
    | true =>
      go_wp2_with fail
      go_ret2
      exact HY.out HK2.out (by simp) (by first | rfl | trivial) (by first | rfl | trivial)
    | false =>
      go_wp2_with fail
      go_ret2
      exact HX.out (fun h => by simp at h)
  · have hkb : (x.kind != 2) = true := by simpa using hk2
    have HK2 := hqZ hk2
    clear hk2
    go_wp2_with fail
    go_ret2
    exact HX.out (fun h => HK2.out h.1)
set_option maxHeartbeats 16000000 in
set_option maxRecDepth 100000 in
theorem msgOf_19 (x : Tv) (F : Nat → Prop) (cs : List Value) (w : World) (h : TvF w F x cs) (hF : ∀ b, F b → b < w.heap.size) (hL : Lw x) (htag : x.tag = 19) :
    Calls Try.prog 19 #[.agg cs.toArray] w (OfM w F x) := by
  have HTG := hqZ htag
  clear htag
  have HLN := hqZ h.length
  have HQ0 := hqZ (Blk.new w cs 38)
  have hB0 : Below w.heap.size w (w.alloc (.cells cs.toArray 38)) := (Below.refl _ _).alloc (Nat.le_refl _) _
  have HB0 := hqZ hB0
  have HTK := hqZ (take_any x F cs _ (h.below hB0) (fun b hb => by have := hF b hb; simp; omega))
  have HL : Hid (∀ y ∈ x.l, y.l.length ≤ 1954687338211) := hqZ (fun y hy => by
    obtain ⟨k, t, n, b, l⟩ := x
    have h1 := LsW.mem hL.2 y hy
    obtain ⟨k2, t2, n2, b2, l2⟩ := y
    exact h1.1)
  have HF := hqZ hF
  obtain ⟨q, hq⟩ : ∃ q, q = w.heap.size := ⟨_, rfl⟩
  have HQ : Hid (∀ W, Below q w W → BelowO w W) := hqZ (fun W h => by rw [hq] at h; exact h)
  have hopen := h.open_
  clear h hB0 hL
  go_enter Try.func19, Try.ntmps19
  go_wp2_with ((with_reducible show wpList _ _ _ (⟨some 6, _, _, _, _, _⟩ :: _) _ _); refine wpList_ldAgg rfl (.tmp 1) aggDer rfl rfl (cs := cs) HLN.out HQ0.out.cellsAll ?_)
  refine HTK.out.mono ?_
  rintro e w0 ⟨p, rfl, ht, hb, hp⟩
  obtain ⟨bv, lv, rows, rfl, hb1, hb2, hb3, hb4, hb5⟩ := hopen
  obtain ⟨pm, hpm⟩ : ∃ pm, pm = w0.heap.size := ⟨_, rfl⟩
  have hA0 : Below w0.heap.size w0 (w0.alloc (.cells [.pointer (some ⟨p, 0, none⟩), .bool false].toArray 104)) := (Below.refl _ _).alloc (Nat.le_refl _) _
  have hpl := ht.lt
  have hz0 : w.heap.size ≤ w0.heap.size := by have := hb.size; simp at this; omega
  have ht0 : Tkn (w0.alloc (.cells [.pointer (some ⟨p, 0, none⟩), .bool false].toArray 104)) F pm p x.l false false := by
    refine ⟨by rw [hpm]; exact Blk.new _ _ _, ht.below hA0, by omega, fun h => ?_, fun b hb => ?_⟩
    · have := HF.out _ h; omega
    · have := HF.out _ hb; simp; omega
  have hq0 := (HQ0.out.below hb (by simp)).alloc (.cells [.pointer (some ⟨p, 0, none⟩), .bool false].toArray 104)
  have hbt : Below w.heap.size w (w0.alloc (.cells [.pointer (some ⟨p, 0, none⟩), .bool false].toArray 104)) := (HB0.out.trans (hb.mono (by simp))).trans (hA0.mono hz0)
  obtain ⟨wt, hwt⟩ : ∃ wt, wt = w0.alloc (.cells [.pointer (some ⟨p, 0, none⟩), .bool false].toArray 104) := ⟨_, rfl⟩
  rw [← hwt] at ht0 hq0 hbt
  have HT := hqZ ht0
  have HBT := hqZ hbt
  have HQT := hqZ hq0
  have HP : Hid (w.heap.size < p ∧ w.heap.size < pm ∧ w.heap.size < wt.heap.size) := hqZ (by simp at hp; have := ht0.lt; exact ⟨by omega, by omega, by omega⟩)
  have cT : wt.cell? ⟨w.heap.size, 1, none⟩ = some (.int .i64 x.tag) := HQT.out.cell 1
  have HKb : Hid (∀ W, Keeps (Sm pm p wt.heap.size) wt W → Below w.heap.size w W ∧ Blk W w.heap.size [.int .i64 x.kind, .int .i64 x.tag, .int .u64 (x.n : Int), bv, lv] 38) := hqZ (fun W hk =>
    ⟨HBT.out.trans (hk.below (fun b hb => by have := HP.out; rcases hb with h | h | h <;> omega)), HQT.out.keep hk (fun h => by have := HP.out; rcases h with h | h | h <;> omega)⟩)
  clear ht hb hp hb1 hb2 hb3 hb4 hb5 HQ0 HB0 HTK hA0 hpl hz0 ht0 hq0 hbt
  go_upto_region 2 with fail
  show Code.wp _ _ _ _ (w0.alloc (.cells [.pointer (some ⟨p, 0, none⟩), .bool false].toArray 104))
  rw [← hwt, ← hpm]
  clear hwt hpm
  rw [← hq] at *
  clear hq
  have hxt : 19 = x.tag := HTG.out.symm
  obtain ⟨l, hxl⟩ : ∃ l, l = x.l := ⟨_, rfl⟩
  have HXT := hqZ hxt
  have HXL := hqZ hxl
  rw [← hxt] at cT HKb HQT ⊢
  rw [← hxl] at HT HL
  clear hxt hxl HTG
  have HOM : Hid (∀ W o pts rem bad bad2, (shapeS x.tag).isEmpty = false → runS (shapeS x.tag) (x.l, false, false) = (pts, rem, bad, bad2) → MsgV W F x.tag pts o → OutM W F x o rem bad bad2) := hqZ (fun W o pts rem bad bad2 h0 h1 h2 => by unfold OutM; rw [if_neg (by rw [h0]; decide)]; exact ⟨pts, h1, h2⟩)
  rw [← HXT.out] at HOM
  rw [← HXL.out] at HOM
  clear HXT HXL
  go_upto_region 21 with fail
  refine wp_region_held (S := fun W : World => W.cell? ⟨pm, 0, none⟩ = some (.pointer (some ⟨p, 0, none⟩))) (by kernel_rfl) ?_
  change wpAnyH _ _ _ _ _ _ _ _ (World.drew _)
  have HS : (World.drew wt).cell? ⟨pm, 0, none⟩ = some (.pointer (some ⟨p, 0, none⟩)) := HT.out.ptr
  have HT0 := hqZ HT.out.drew
  have HK0 : Hid (Keeps (Sm pm p wt.heap.size) wt wt.drew) := hqZ (Keeps.refl _ _).drew
  have HR0 : Hid (runS (shapeS 19) (l, false, false) = runS [.s, .s, .n, .n, .n, .b] (l, false, false)) := hqZ rfl
  have HP0 : Hid (PtsV wt.drew F [] []) := hqZ rfl
  generalize World.drew wt = wd at HS HT0 HK0 HP0 ⊢
  refine tkH 0 198 none (.pointer (some ⟨pm, 0, none⟩)) rfl (by kernel_rfl) (fun _ _ _ h => h) (by rfl) (by intro W hW; go_simp) HS ?_
  simp only [Act.put, zq1, zq2, zq3]
  refine tkH 1 199 none (.pointer (some ⟨pm, 0, none⟩)) rfl (by kernel_rfl) (fun _ _ _ h => h) (by rfl) (by intro W hW; go_simp) HS ?_
  simp only [Act.put, zq1, zq2, zq3]
  refine tkH 2 200 none (.pointer (some ⟨pm, 0, none⟩)) rfl (by kernel_rfl) (fun _ _ _ h => h) (by rfl) (by intro W hW; go_simp) HS ?_
  simp only [Act.put, zq1, zq2, zq3]
  refine tkH 3 201 none (.pointer (some ⟨p, 0, none⟩)) rfl (by kernel_rfl) (fun _ _ _ h => h) (by rfl) (by intro W hW; have hc0 : W.cell? ⟨pm, 0, none⟩ = some (.pointer (some ⟨p, 0, none⟩)) := hW; go_simp) HS ?_
  simp only [Act.put, zq1, zq2, zq3]
  refine tkH 5 203 none (.pointer (some ⟨pm, 0, none⟩)) rfl (by kernel_rfl) (fun _ _ _ h => h) (by rfl) (by intro W hW; go_simp) HS ?_
  simp only [Act.put, zq1, zq2, zq3]
  refine tkH 6 204 none (.pointer (some ⟨pm, 0, none⟩)) rfl (by kernel_rfl) (fun _ _ _ h => h) (by rfl) (by intro W hW; go_simp) HS ?_
  simp only [Act.put, zq1, zq2, zq3]
  refine tkH 7 205 none (.pointer (some ⟨pm, 0, none⟩)) rfl (by kernel_rfl) (fun _ _ _ h => h) (by rfl) (by intro W hW; go_simp) HS ?_
  simp only [Act.put, zq1, zq2, zq3]
  refine tkH 8 206 none (.pointer (some ⟨p, 0, none⟩)) rfl (by kernel_rfl) (fun _ _ _ h => h) (by rfl) (by intro W hW; have hc0 : W.cell? ⟨pm, 0, none⟩ = some (.pointer (some ⟨p, 0, none⟩)) := hW; go_simp) HS ?_
  simp only [Act.put, zq1, zq2, zq3]
  refine tkH 10 208 none (.pointer (some ⟨pm, 0, none⟩)) rfl (by kernel_rfl) (fun _ _ _ h => h) (by rfl) (by intro W hW; go_simp) HS ?_
  simp only [Act.put, zq1, zq2, zq3]
  refine tkH 11 209 none (.pointer (some ⟨pm, 0, none⟩)) rfl (by kernel_rfl) (fun _ _ _ h => h) (by rfl) (by intro W hW; go_simp) HS ?_
  simp only [Act.put, zq1, zq2, zq3]
  refine tkH 12 210 none (.pointer (some ⟨pm, 0, none⟩)) rfl (by kernel_rfl) (fun _ _ _ h => h) (by rfl) (by intro W hW; go_simp) HS ?_
  simp only [Act.put, zq1, zq2, zq3]
  refine tkH 13 211 none (.pointer (some ⟨p, 0, none⟩)) rfl (by kernel_rfl) (fun _ _ _ h => h) (by rfl) (by intro W hW; have hc0 : W.cell? ⟨pm, 0, none⟩ = some (.pointer (some ⟨p, 0, none⟩)) := hW; go_simp) HS ?_
  simp only [Act.put, zq1, zq2, zq3]
  refine tkH 15 213 none (.pointer (some ⟨pm, 0, none⟩)) rfl (by kernel_rfl) (fun _ _ _ h => h) (by rfl) (by intro W hW; go_simp) HS ?_
  simp only [Act.put, zq1, zq2, zq3]
  refine tkH 16 214 none (.pointer (some ⟨pm, 0, none⟩)) rfl (by kernel_rfl) (fun _ _ _ h => h) (by rfl) (by intro W hW; go_simp) HS ?_
  simp only [Act.put, zq1, zq2, zq3]
  refine tkH 17 215 none (.pointer (some ⟨pm, 0, none⟩)) rfl (by kernel_rfl) (fun _ _ _ h => h) (by rfl) (by intro W hW; go_simp) HS ?_
  simp only [Act.put, zq1, zq2, zq3]
  refine tkH 18 216 none (.pointer (some ⟨p, 0, none⟩)) rfl (by kernel_rfl) (fun _ _ _ h => h) (by rfl) (by intro W hW; have hc0 : W.cell? ⟨pm, 0, none⟩ = some (.pointer (some ⟨p, 0, none⟩)) := hW; go_simp) HS ?_
  simp only [Act.put, zq1, zq2, zq3]
  refine tkH 20 218 none (.pointer (some ⟨pm, 0, none⟩)) rfl (by kernel_rfl) (fun _ _ _ h => h) (by rfl) (by intro W hW; go_simp) HS ?_
  simp only [Act.put, zq1, zq2, zq3]
  refine tkH 21 219 none (.pointer (some ⟨pm, 0, none⟩)) rfl (by kernel_rfl) (fun _ _ _ h => h) (by rfl) (by intro W hW; go_simp) HS ?_
  simp only [Act.put, zq1, zq2, zq3]
  refine tkH 22 220 none (.pointer (some ⟨pm, 0, none⟩)) rfl (by kernel_rfl) (fun _ _ _ h => h) (by rfl) (by intro W hW; go_simp) HS ?_
  simp only [Act.put, zq1, zq2, zq3]
  refine tkH 23 221 none (.pointer (some ⟨p, 0, none⟩)) rfl (by kernel_rfl) (fun _ _ _ h => h) (by rfl) (by intro W hW; have hc0 : W.cell? ⟨pm, 0, none⟩ = some (.pointer (some ⟨p, 0, none⟩)) := hW; go_simp) HS ?_
  simp only [Act.put, zq1, zq2, zq3]
  refine tkH 25 223 none (.pointer (some ⟨pm, 0, none⟩)) rfl (by kernel_rfl) (fun _ _ _ h => h) (by rfl) (by intro W hW; go_simp) HS ?_
  simp only [Act.put, zq1, zq2, zq3]
  refine tkH 26 224 none (.pointer (some ⟨pm, 0, none⟩)) rfl (by kernel_rfl) (fun _ _ _ h => h) (by rfl) (by intro W hW; go_simp) HS ?_
  simp only [Act.put, zq1, zq2, zq3]
  refine tkH 27 225 none (.pointer (some ⟨pm, 0, none⟩)) rfl (by kernel_rfl) (fun _ _ _ h => h) (by rfl) (by intro W hW; go_simp) HS ?_
  simp only [Act.put, zq1, zq2, zq3]
  refine tkH 28 226 none (.pointer (some ⟨p, 0, none⟩)) rfl (by kernel_rfl) (fun _ _ _ h => h) (by rfl) (by intro W hW; have hc0 : W.cell? ⟨pm, 0, none⟩ = some (.pointer (some ⟨p, 0, none⟩)) := hW; go_simp) HS ?_
  simp only [Act.put, zq1, zq2, zq3]
  refine anyH_ready (rs := [4]) (by decide +kernel) (by simp) ?_
  refine AllReadyH.cons (o := { dst := some 202, op := .call { callee := .value (.func 35), args := #[.tmp 201], argTypes := #[101] }, type := _, pos := _, after := _, guard := none }) rfl (fun K hK => ?_) AllReadyH.nil
  go_simp
  refine (nameK_any l false false pm p F wd HT0.out).mono ?_
  rintro e v1 ⟨rfl, ht, hk⟩
  have HR1 : Hid (runS (shapeS 19) (l, false, false) = (.s (nameS l false).1 :: (runS [.s, .n, .n, .n, .b] ((nameS l false).2.1, (nameS l false).2.2, false)).1, (runS [.s, .n, .n, .n, .b] ((nameS l false).2.1, (nameS l false).2.2, false)).2)) := hqZ (HR0.out.trans rfl)
  have HP1 : Hid (PtsV v1 F ([] ++ [.s (nameS l false).1]) ([] ++ [.string (tx (nameS l false).1)])) := hqZ ((HP0.out.keep hk HT0.out.hs (by rfl)).snoc (p := .s (nameS l false).1) rfl)
  have HT1 := hqZ ht
  have HK1 := hqZ (keepsM rfl HK0.out (HK0.out.size) hk)
  clear ht hk HT0 HK0 HR0 HP0
  generalize nameS l false = st at *
  obtain ⟨x1, l1, b1⟩ := st
  simp only at *
  have HS := HT1.out.ptr
  refine hK _ _ HS ?_
  clear hK K
  try simp only [Act.put, zq1, zq2, zq3]
  refine anyH_ready (rs := [9]) (by decide +kernel) (by simp) ?_
  refine AllReadyH.cons (o := { dst := some 207, op := .call { callee := .value (.func 35), args := #[.tmp 206], argTypes := #[101] }, type := _, pos := _, after := _, guard := none }) rfl (fun K hK => ?_) AllReadyH.nil
  go_simp
  refine (nameK_any l1 b1 false pm p F v1 HT1.out).mono ?_
  rintro e v2 ⟨rfl, ht, hk⟩
  have HR2 : Hid (runS (shapeS 19) (l, false, false) = (.s x1 :: .s (nameS l1 b1).1 :: (runS [.n, .n, .n, .b] ((nameS l1 b1).2.1, (nameS l1 b1).2.2, false)).1, (runS [.n, .n, .n, .b] ((nameS l1 b1).2.1, (nameS l1 b1).2.2, false)).2)) := hqZ (HR1.out.trans rfl)
  have HP2 : Hid (PtsV v2 F ([.s x1] ++ [.s (nameS l1 b1).1]) ([.string (tx x1)] ++ [.string (tx (nameS l1 b1).1)])) := hqZ ((HP1.out.keep hk HT1.out.hs (by rfl)).snoc (p := .s (nameS l1 b1).1) rfl)
  have HT2 := hqZ ht
  have HK2 := hqZ (keepsM rfl HK1.out (HK1.out.size) hk)
  clear ht hk HT1 HK1 HR1 HP1
  generalize nameS l1 b1 = st at *
  obtain ⟨x2, l2, b2⟩ := st
  simp only at *
  have HS := HT2.out.ptr
  refine hK _ _ HS ?_
  clear hK K
  try simp only [Act.put, zq1, zq2, zq3]
  refine anyH_ready (rs := [14]) (by decide +kernel) (by simp) ?_
  refine AllReadyH.cons (o := { dst := some 212, op := .call { callee := .value (.func 36), args := #[.tmp 211], argTypes := #[101] }, type := _, pos := _, after := _, guard := none }) rfl (fun K hK => ?_) AllReadyH.nil
  go_simp
  refine (numK_any l2 b2 false pm p F v2 HT2.out).mono ?_
  rintro e v3 ⟨rfl, ht, hk⟩
  have HR3 : Hid (runS (shapeS 19) (l, false, false) = (.s x1 :: .s x2 :: .n (numS l2 b2).1 :: (runS [.n, .n, .b] ((numS l2 b2).2.1, (numS l2 b2).2.2, false)).1, (runS [.n, .n, .b] ((numS l2 b2).2.1, (numS l2 b2).2.2, false)).2)) := hqZ (HR2.out.trans rfl)
  have HP3 : Hid (PtsV v3 F ([.s x1, .s x2] ++ [.n (numS l2 b2).1]) ([.string (tx x1), .string (tx x2)] ++ [.int .i64 (numS l2 b2).1])) := hqZ ((HP2.out.keep hk HT2.out.hs (by rfl)).snoc (p := .n (numS l2 b2).1) rfl)
  have HT3 := hqZ ht
  have HK3 := hqZ (keepsM rfl HK2.out (HK2.out.size) hk)
  clear ht hk HT2 HK2 HR2 HP2
  generalize numS l2 b2 = st at *
  obtain ⟨x3, l3, b3⟩ := st
  simp only at *
  have HS := HT3.out.ptr
  refine hK _ _ HS ?_
  clear hK K
  try simp only [Act.put, zq1, zq2, zq3]
  refine anyH_ready (rs := [19]) (by decide +kernel) (by simp) ?_
  refine AllReadyH.cons (o := { dst := some 217, op := .call { callee := .value (.func 36), args := #[.tmp 216], argTypes := #[101] }, type := _, pos := _, after := _, guard := none }) rfl (fun K hK => ?_) AllReadyH.nil
  go_simp
  refine (numK_any l3 b3 false pm p F v3 HT3.out).mono ?_
  rintro e v4 ⟨rfl, ht, hk⟩
  have HR4 : Hid (runS (shapeS 19) (l, false, false) = (.s x1 :: .s x2 :: .n x3 :: .n (numS l3 b3).1 :: (runS [.n, .b] ((numS l3 b3).2.1, (numS l3 b3).2.2, false)).1, (runS [.n, .b] ((numS l3 b3).2.1, (numS l3 b3).2.2, false)).2)) := hqZ (HR3.out.trans rfl)
  have HP4 : Hid (PtsV v4 F ([.s x1, .s x2, .n x3] ++ [.n (numS l3 b3).1]) ([.string (tx x1), .string (tx x2), .int .i64 x3] ++ [.int .i64 (numS l3 b3).1])) := hqZ ((HP3.out.keep hk HT3.out.hs (by rfl)).snoc (p := .n (numS l3 b3).1) rfl)
  have HT4 := hqZ ht
  have HK4 := hqZ (keepsM rfl HK3.out (HK3.out.size) hk)
  clear ht hk HT3 HK3 HR3 HP3
  generalize numS l3 b3 = st at *
  obtain ⟨x4, l4, b4⟩ := st
  simp only at *
  have HS := HT4.out.ptr
  refine hK _ _ HS ?_
  clear hK K
  try simp only [Act.put, zq1, zq2, zq3]
  refine anyH_ready (rs := [24]) (by decide +kernel) (by simp) ?_
  refine AllReadyH.cons (o := { dst := some 222, op := .call { callee := .value (.func 36), args := #[.tmp 221], argTypes := #[101] }, type := _, pos := _, after := _, guard := none }) rfl (fun K hK => ?_) AllReadyH.nil
  go_simp
  refine (numK_any l4 b4 false pm p F v4 HT4.out).mono ?_
  rintro e v5 ⟨rfl, ht, hk⟩
  have HR5 : Hid (runS (shapeS 19) (l, false, false) = (.s x1 :: .s x2 :: .n x3 :: .n x4 :: .n (numS l4 b4).1 :: (runS [.b] ((numS l4 b4).2.1, (numS l4 b4).2.2, false)).1, (runS [.b] ((numS l4 b4).2.1, (numS l4 b4).2.2, false)).2)) := hqZ (HR4.out.trans rfl)
  have HP5 : Hid (PtsV v5 F ([.s x1, .s x2, .n x3, .n x4] ++ [.n (numS l4 b4).1]) ([.string (tx x1), .string (tx x2), .int .i64 x3, .int .i64 x4] ++ [.int .i64 (numS l4 b4).1])) := hqZ ((HP4.out.keep hk HT4.out.hs (by rfl)).snoc (p := .n (numS l4 b4).1) rfl)
  have HT5 := hqZ ht
  have HK5 := hqZ (keepsM rfl HK4.out (HK4.out.size) hk)
  clear ht hk HT4 HK4 HR4 HP4
  generalize numS l4 b4 = st at *
  obtain ⟨x5, l5, b5⟩ := st
  simp only at *
  have HS := HT5.out.ptr
  refine hK _ _ HS ?_
  clear hK K
  try simp only [Act.put, zq1, zq2, zq3]
  refine anyH_ready (rs := [29]) (by decide +kernel) (by simp) ?_
  refine AllReadyH.cons (o := { dst := some 227, op := .call { callee := .value (.func 37), args := #[.tmp 226], argTypes := #[101] }, type := _, pos := _, after := _, guard := none }) rfl (fun K hK => ?_) AllReadyH.nil
  go_simp
  refine (bytesK_any l5 b5 false pm p F v5 HT5.out).mono ?_
  rintro e v6 ⟨vb, ⟨rfl, ht, hk⟩, hb, ho⟩
  have HR6 : Hid (runS (shapeS 19) (l, false, false) = (.s x1 :: .s x2 :: .n x3 :: .n x4 :: .n x5 :: .b (bytesS l5 b5).1 :: (runS [] ((bytesS l5 b5).2.1, (bytesS l5 b5).2.2, false)).1, (runS [] ((bytesS l5 b5).2.1, (bytesS l5 b5).2.2, false)).2)) := hqZ (HR5.out.trans rfl)
  obtain ⟨ab6, cb6, rfl, hcb6, hmb6⟩ := hb.form
  have HP6 : Hid (PtsV v6 F ([.s x1, .s x2, .n x3, .n x4, .n x5] ++ [.b (bytesS l5 b5).1]) ([.string (tx x1), .string (tx x2), .int .i64 x3, .int .i64 x4, .int .i64 x5] ++ [.slice ab6 (bytesS l5 b5).1.length cb6])) := hqZ ((HP5.out.keep hk HT5.out.hs (by rfl)).snoc (p := .b (bytesS l5 b5).1) ⟨_, rfl, hb, ho⟩)
  have HT6 := hqZ ht
  have HK6 := hqZ (keepsM rfl HK5.out (HK5.out.size) hk)
  clear ht hk hb ho HT5 HK5 HR5 HP5
  generalize bytesS l5 b5 = st at *
  obtain ⟨x6, l6, b6⟩ := st
  simp only at *
  generalize hz6 : x6.length = z6 at *
  have HS := HT6.out.ptr
  refine hK _ _ HS ?_
  clear hK K
  try simp only [Act.put, zq1, zq2, zq3]
  refine tkH 30 228 none (.agg #[.string (tx x1), .string (tx x2), .int .i64 x3, .int .i64 x4, .int .i64 x5, .slice ab6 z6 cb6]) rfl (by kernel_rfl) (fun _ _ _ h => h) (by rfl) (by intro W hW; go_simp) HS ?_
  simp only [Act.put, zq1, zq2, zq3]
  refine tkH 31 229 none (.iface 70 (.agg #[.string (tx x1), .string (tx x2), .int .i64 x3, .int .i64 x4, .int .i64 x5, .slice ab6 z6 cb6])) rfl (by kernel_rfl) (fun _ _ _ h => h) (by rfl) (by intro W hW; go_simp) HS ?_
  simp only [Act.put, zq1, zq2, zq3]
  refine tkH 32 5 none (.iface 70 (.agg #[.string (tx x1), .string (tx x2), .int .i64 x3, .int .i64 x4, .int .i64 x5, .slice ab6 z6 cb6])) rfl (by kernel_rfl) (fun _ _ _ h => h) (by rfl) (by intro W hW; go_simp) HS ?_
  simp only [Act.put, zq1, zq2, zq3]
  refine wpAnyH_done (by decide +kernel) ?_ _
  have ho := HOM.out _ _ _ _ _ _ (by decide) HR6.out ⟨_, rfl, HP6.out⟩
  have ht := HT6.out
  have hk := HK6.out
  obtain ⟨hb, hq⟩ := HKb.out _ hk
  have c0 : v6.cell? ⟨q, 0, none⟩ = some (.int .i64 x.kind) := hq.cell 0
  have m0 := ht.ptr
  have m1 : v6.cell? ⟨pm, 1, none⟩ = some (.bool false) := ht.1.cell 1
  have HX := hqZ (OutM.no ho (HQ.out _ hb))
  have HY := hqZ (OutM.yes ho (HQ.out _ hb))
  have HD := hqZ (done_any l6 b6 p F v6 ht.2.1)
  clear ht hk ho hb hq
  by_cases hk2 : x.kind = 2
  · have HK2 := hqZ hk2
    have hkb : (x.kind != 2) = false := by simpa using hk2
    clear hk2
    generalize hdn : (!b6 && l6.isEmpty) = dn at *
    clear hdn
    go_wp2_with fail
    refine HD.out.mono ?_
    rintro e w2 ⟨rfl, rfl⟩
    cases dn with
    | true =>
      go_wp2_with fail
      go_ret2
      exact HY.out HK2.out (by simp) (by first | rfl | trivial) (by first | rfl | trivial)
    | false =>
      go_wp2_with fail
      go_ret2
      exact HX.out (fun h => by simp at h)
  · have hkb : (x.kind != 2) = true := by simpa using hk2
    have HK2 := hqZ hk2
    clear hk2
    go_wp2_with fail
    go_ret2
    exact HX.out (fun h => HK2.out h.1)
set_option maxHeartbeats 16000000 in
set_option maxRecDepth 100000 in
theorem msgOf_20 (x : Tv) (F : Nat → Prop) (cs : List Value) (w : World) (h : TvF w F x cs) (hF : ∀ b, F b → b < w.heap.size) (hL : Lw x) (htag : x.tag = 20) :
    Calls Try.prog 19 #[.agg cs.toArray] w (OfM w F x) := by
  have HTG := hqZ htag
  clear htag
  have HLN := hqZ h.length
  have HQ0 := hqZ (Blk.new w cs 38)
  have hB0 : Below w.heap.size w (w.alloc (.cells cs.toArray 38)) := (Below.refl _ _).alloc (Nat.le_refl _) _
  have HB0 := hqZ hB0
  have HTK := hqZ (take_any x F cs _ (h.below hB0) (fun b hb => by have := hF b hb; simp; omega))
  have HL : Hid (∀ y ∈ x.l, y.l.length ≤ 1954687338211) := hqZ (fun y hy => by
    obtain ⟨k, t, n, b, l⟩ := x
    have h1 := LsW.mem hL.2 y hy
    obtain ⟨k2, t2, n2, b2, l2⟩ := y
    exact h1.1)
  have HF := hqZ hF
  obtain ⟨q, hq⟩ : ∃ q, q = w.heap.size := ⟨_, rfl⟩
  have HQ : Hid (∀ W, Below q w W → BelowO w W) := hqZ (fun W h => by rw [hq] at h; exact h)
  have hopen := h.open_
  clear h hB0 hL
  go_enter Try.func19, Try.ntmps19
  go_wp2_with ((with_reducible show wpList _ _ _ (⟨some 6, _, _, _, _, _⟩ :: _) _ _); refine wpList_ldAgg rfl (.tmp 1) aggDer rfl rfl (cs := cs) HLN.out HQ0.out.cellsAll ?_)
  refine HTK.out.mono ?_
  rintro e w0 ⟨p, rfl, ht, hb, hp⟩
  obtain ⟨bv, lv, rows, rfl, hb1, hb2, hb3, hb4, hb5⟩ := hopen
  obtain ⟨pm, hpm⟩ : ∃ pm, pm = w0.heap.size := ⟨_, rfl⟩
  have hA0 : Below w0.heap.size w0 (w0.alloc (.cells [.pointer (some ⟨p, 0, none⟩), .bool false].toArray 104)) := (Below.refl _ _).alloc (Nat.le_refl _) _
  have hpl := ht.lt
  have hz0 : w.heap.size ≤ w0.heap.size := by have := hb.size; simp at this; omega
  have ht0 : Tkn (w0.alloc (.cells [.pointer (some ⟨p, 0, none⟩), .bool false].toArray 104)) F pm p x.l false false := by
    refine ⟨by rw [hpm]; exact Blk.new _ _ _, ht.below hA0, by omega, fun h => ?_, fun b hb => ?_⟩
    · have := HF.out _ h; omega
    · have := HF.out _ hb; simp; omega
  have hq0 := (HQ0.out.below hb (by simp)).alloc (.cells [.pointer (some ⟨p, 0, none⟩), .bool false].toArray 104)
  have hbt : Below w.heap.size w (w0.alloc (.cells [.pointer (some ⟨p, 0, none⟩), .bool false].toArray 104)) := (HB0.out.trans (hb.mono (by simp))).trans (hA0.mono hz0)
  obtain ⟨wt, hwt⟩ : ∃ wt, wt = w0.alloc (.cells [.pointer (some ⟨p, 0, none⟩), .bool false].toArray 104) := ⟨_, rfl⟩
  rw [← hwt] at ht0 hq0 hbt
  have HT := hqZ ht0
  have HBT := hqZ hbt
  have HQT := hqZ hq0
  have HP : Hid (w.heap.size < p ∧ w.heap.size < pm ∧ w.heap.size < wt.heap.size) := hqZ (by simp at hp; have := ht0.lt; exact ⟨by omega, by omega, by omega⟩)
  have cT : wt.cell? ⟨w.heap.size, 1, none⟩ = some (.int .i64 x.tag) := HQT.out.cell 1
  have HKb : Hid (∀ W, Keeps (Sm pm p wt.heap.size) wt W → Below w.heap.size w W ∧ Blk W w.heap.size [.int .i64 x.kind, .int .i64 x.tag, .int .u64 (x.n : Int), bv, lv] 38) := hqZ (fun W hk =>
    ⟨HBT.out.trans (hk.below (fun b hb => by have := HP.out; rcases hb with h | h | h <;> omega)), HQT.out.keep hk (fun h => by have := HP.out; rcases h with h | h | h <;> omega)⟩)
  clear ht hb hp hb1 hb2 hb3 hb4 hb5 HQ0 HB0 HTK hA0 hpl hz0 ht0 hq0 hbt
  go_upto_region 2 with fail
  show Code.wp _ _ _ _ (w0.alloc (.cells [.pointer (some ⟨p, 0, none⟩), .bool false].toArray 104))
  rw [← hwt, ← hpm]
  clear hwt hpm
  rw [← hq] at *
  clear hq
  have hxt : 20 = x.tag := HTG.out.symm
  obtain ⟨l, hxl⟩ : ∃ l, l = x.l := ⟨_, rfl⟩
  have HXT := hqZ hxt
  have HXL := hqZ hxl
  rw [← hxt] at cT HKb HQT ⊢
  rw [← hxl] at HT HL
  clear hxt hxl HTG
  have HOM : Hid (∀ W o pts rem bad bad2, (shapeS x.tag).isEmpty = false → runS (shapeS x.tag) (x.l, false, false) = (pts, rem, bad, bad2) → MsgV W F x.tag pts o → OutM W F x o rem bad bad2) := hqZ (fun W o pts rem bad bad2 h0 h1 h2 => by unfold OutM; rw [if_neg (by rw [h0]; decide)]; exact ⟨pts, h1, h2⟩)
  rw [← HXT.out] at HOM
  rw [← HXL.out] at HOM
  clear HXT HXL
  go_upto_region 23 with fail
  refine wp_region_held (S := fun W : World => W.cell? ⟨pm, 0, none⟩ = some (.pointer (some ⟨p, 0, none⟩))) (by kernel_rfl) ?_
  change wpAnyH _ _ _ _ _ _ _ _ (World.drew _)
  have HS : (World.drew wt).cell? ⟨pm, 0, none⟩ = some (.pointer (some ⟨p, 0, none⟩)) := HT.out.ptr
  have HT0 := hqZ HT.out.drew
  have HK0 : Hid (Keeps (Sm pm p wt.heap.size) wt wt.drew) := hqZ (Keeps.refl _ _).drew
  have HR0 : Hid (runS (shapeS 20) (l, false, false) = runS [.s, .n, .n, .t, .i, .b] (l, false, false)) := hqZ rfl
  have HP0 : Hid (PtsV wt.drew F [] []) := hqZ rfl
  generalize World.drew wt = wd at HS HT0 HK0 HP0 ⊢
  refine tkH 0 232 none (.pointer (some ⟨pm, 0, none⟩)) rfl (by kernel_rfl) (fun _ _ _ h => h) (by rfl) (by intro W hW; go_simp) HS ?_
  simp only [Act.put, zq1, zq2, zq3]
  refine tkH 1 233 none (.pointer (some ⟨pm, 0, none⟩)) rfl (by kernel_rfl) (fun _ _ _ h => h) (by rfl) (by intro W hW; go_simp) HS ?_
  simp only [Act.put, zq1, zq2, zq3]
  refine tkH 2 234 none (.pointer (some ⟨pm, 0, none⟩)) rfl (by kernel_rfl) (fun _ _ _ h => h) (by rfl) (by intro W hW; go_simp) HS ?_
  simp only [Act.put, zq1, zq2, zq3]
  refine tkH 3 235 none (.pointer (some ⟨p, 0, none⟩)) rfl (by kernel_rfl) (fun _ _ _ h => h) (by rfl) (by intro W hW; have hc0 : W.cell? ⟨pm, 0, none⟩ = some (.pointer (some ⟨p, 0, none⟩)) := hW; go_simp) HS ?_
  simp only [Act.put, zq1, zq2, zq3]
  refine tkH 5 237 none (.pointer (some ⟨pm, 0, none⟩)) rfl (by kernel_rfl) (fun _ _ _ h => h) (by rfl) (by intro W hW; go_simp) HS ?_
  simp only [Act.put, zq1, zq2, zq3]
  refine tkH 6 238 none (.pointer (some ⟨pm, 0, none⟩)) rfl (by kernel_rfl) (fun _ _ _ h => h) (by rfl) (by intro W hW; go_simp) HS ?_
  simp only [Act.put, zq1, zq2, zq3]
  refine tkH 7 239 none (.pointer (some ⟨pm, 0, none⟩)) rfl (by kernel_rfl) (fun _ _ _ h => h) (by rfl) (by intro W hW; go_simp) HS ?_
  simp only [Act.put, zq1, zq2, zq3]
  refine tkH 8 240 none (.pointer (some ⟨p, 0, none⟩)) rfl (by kernel_rfl) (fun _ _ _ h => h) (by rfl) (by intro W hW; have hc0 : W.cell? ⟨pm, 0, none⟩ = some (.pointer (some ⟨p, 0, none⟩)) := hW; go_simp) HS ?_
  simp only [Act.put, zq1, zq2, zq3]
  refine tkH 10 242 none (.pointer (some ⟨pm, 0, none⟩)) rfl (by kernel_rfl) (fun _ _ _ h => h) (by rfl) (by intro W hW; go_simp) HS ?_
  simp only [Act.put, zq1, zq2, zq3]
  refine tkH 11 243 none (.pointer (some ⟨pm, 0, none⟩)) rfl (by kernel_rfl) (fun _ _ _ h => h) (by rfl) (by intro W hW; go_simp) HS ?_
  simp only [Act.put, zq1, zq2, zq3]
  refine tkH 12 244 none (.pointer (some ⟨pm, 0, none⟩)) rfl (by kernel_rfl) (fun _ _ _ h => h) (by rfl) (by intro W hW; go_simp) HS ?_
  simp only [Act.put, zq1, zq2, zq3]
  refine tkH 13 245 none (.pointer (some ⟨p, 0, none⟩)) rfl (by kernel_rfl) (fun _ _ _ h => h) (by rfl) (by intro W hW; have hc0 : W.cell? ⟨pm, 0, none⟩ = some (.pointer (some ⟨p, 0, none⟩)) := hW; go_simp) HS ?_
  simp only [Act.put, zq1, zq2, zq3]
  refine tkH 15 247 none (.pointer (some ⟨pm, 0, none⟩)) rfl (by kernel_rfl) (fun _ _ _ h => h) (by rfl) (by intro W hW; go_simp) HS ?_
  simp only [Act.put, zq1, zq2, zq3]
  refine tkH 16 248 none (.pointer (some ⟨pm, 0, none⟩)) rfl (by kernel_rfl) (fun _ _ _ h => h) (by rfl) (by intro W hW; go_simp) HS ?_
  simp only [Act.put, zq1, zq2, zq3]
  refine tkH 17 249 none (.pointer (some ⟨pm, 0, none⟩)) rfl (by kernel_rfl) (fun _ _ _ h => h) (by rfl) (by intro W hW; go_simp) HS ?_
  simp only [Act.put, zq1, zq2, zq3]
  refine tkH 18 250 none (.pointer (some ⟨p, 0, none⟩)) rfl (by kernel_rfl) (fun _ _ _ h => h) (by rfl) (by intro W hW; have hc0 : W.cell? ⟨pm, 0, none⟩ = some (.pointer (some ⟨p, 0, none⟩)) := hW; go_simp) HS ?_
  simp only [Act.put, zq1, zq2, zq3]
  refine tkH 20 252 none (.pointer (some ⟨pm, 0, none⟩)) rfl (by kernel_rfl) (fun _ _ _ h => h) (by rfl) (by intro W hW; go_simp) HS ?_
  simp only [Act.put, zq1, zq2, zq3]
  refine tkH 22 254 none (.pointer (some ⟨pm, 0, none⟩)) rfl (by kernel_rfl) (fun _ _ _ h => h) (by rfl) (by intro W hW; go_simp) HS ?_
  simp only [Act.put, zq1, zq2, zq3]
  refine tkH 23 255 none (.pointer (some ⟨pm, 0, none⟩)) rfl (by kernel_rfl) (fun _ _ _ h => h) (by rfl) (by intro W hW; go_simp) HS ?_
  simp only [Act.put, zq1, zq2, zq3]
  refine tkH 24 256 none (.pointer (some ⟨pm, 0, none⟩)) rfl (by kernel_rfl) (fun _ _ _ h => h) (by rfl) (by intro W hW; go_simp) HS ?_
  simp only [Act.put, zq1, zq2, zq3]
  refine tkH 25 257 none (.pointer (some ⟨p, 0, none⟩)) rfl (by kernel_rfl) (fun _ _ _ h => h) (by rfl) (by intro W hW; have hc0 : W.cell? ⟨pm, 0, none⟩ = some (.pointer (some ⟨p, 0, none⟩)) := hW; go_simp) HS ?_
  simp only [Act.put, zq1, zq2, zq3]
  refine anyH_ready (rs := [4]) (by decide +kernel) (by simp) ?_
  refine AllReadyH.cons (o := { dst := some 236, op := .call { callee := .value (.func 35), args := #[.tmp 235], argTypes := #[101] }, type := _, pos := _, after := _, guard := none }) rfl (fun K hK => ?_) AllReadyH.nil
  go_simp
  refine (nameK_any l false false pm p F wd HT0.out).mono ?_
  rintro e v1 ⟨rfl, ht, hk⟩
  have HR1 : Hid (runS (shapeS 20) (l, false, false) = (.s (nameS l false).1 :: (runS [.n, .n, .t, .i, .b] ((nameS l false).2.1, (nameS l false).2.2, false)).1, (runS [.n, .n, .t, .i, .b] ((nameS l false).2.1, (nameS l false).2.2, false)).2)) := hqZ (HR0.out.trans rfl)
  have HP1 : Hid (PtsV v1 F ([] ++ [.s (nameS l false).1]) ([] ++ [.string (tx (nameS l false).1)])) := hqZ ((HP0.out.keep hk HT0.out.hs (by rfl)).snoc (p := .s (nameS l false).1) rfl)
  have HT1 := hqZ ht
  have HK1 := hqZ (keepsM rfl HK0.out (HK0.out.size) hk)
  clear ht hk HT0 HK0 HR0 HP0
  generalize nameS l false = st at *
  obtain ⟨x1, l1, b1⟩ := st
  simp only at *
  have HS := HT1.out.ptr
  refine hK _ _ HS ?_
  clear hK K
  try simp only [Act.put, zq1, zq2, zq3]
  refine anyH_ready (rs := [9]) (by decide +kernel) (by simp) ?_
  refine AllReadyH.cons (o := { dst := some 241, op := .call { callee := .value (.func 36), args := #[.tmp 240], argTypes := #[101] }, type := _, pos := _, after := _, guard := none }) rfl (fun K hK => ?_) AllReadyH.nil
  go_simp
  refine (numK_any l1 b1 false pm p F v1 HT1.out).mono ?_
  rintro e v2 ⟨rfl, ht, hk⟩
  have HR2 : Hid (runS (shapeS 20) (l, false, false) = (.s x1 :: .n (numS l1 b1).1 :: (runS [.n, .t, .i, .b] ((numS l1 b1).2.1, (numS l1 b1).2.2, false)).1, (runS [.n, .t, .i, .b] ((numS l1 b1).2.1, (numS l1 b1).2.2, false)).2)) := hqZ (HR1.out.trans rfl)
  have HP2 : Hid (PtsV v2 F ([.s x1] ++ [.n (numS l1 b1).1]) ([.string (tx x1)] ++ [.int .i64 (numS l1 b1).1])) := hqZ ((HP1.out.keep hk HT1.out.hs (by rfl)).snoc (p := .n (numS l1 b1).1) rfl)
  have HT2 := hqZ ht
  have HK2 := hqZ (keepsM rfl HK1.out (HK1.out.size) hk)
  clear ht hk HT1 HK1 HR1 HP1
  generalize numS l1 b1 = st at *
  obtain ⟨x2, l2, b2⟩ := st
  simp only at *
  have HS := HT2.out.ptr
  refine hK _ _ HS ?_
  clear hK K
  try simp only [Act.put, zq1, zq2, zq3]
  refine anyH_ready (rs := [14]) (by decide +kernel) (by simp) ?_
  refine AllReadyH.cons (o := { dst := some 246, op := .call { callee := .value (.func 36), args := #[.tmp 245], argTypes := #[101] }, type := _, pos := _, after := _, guard := none }) rfl (fun K hK => ?_) AllReadyH.nil
  go_simp
  refine (numK_any l2 b2 false pm p F v2 HT2.out).mono ?_
  rintro e v3 ⟨rfl, ht, hk⟩
  have HR3 : Hid (runS (shapeS 20) (l, false, false) = (.s x1 :: .n x2 :: .n (numS l2 b2).1 :: (runS [.t, .i, .b] ((numS l2 b2).2.1, (numS l2 b2).2.2, false)).1, (runS [.t, .i, .b] ((numS l2 b2).2.1, (numS l2 b2).2.2, false)).2)) := hqZ (HR2.out.trans rfl)
  have HP3 : Hid (PtsV v3 F ([.s x1, .n x2] ++ [.n (numS l2 b2).1]) ([.string (tx x1), .int .i64 x2] ++ [.int .i64 (numS l2 b2).1])) := hqZ ((HP2.out.keep hk HT2.out.hs (by rfl)).snoc (p := .n (numS l2 b2).1) rfl)
  have HT3 := hqZ ht
  have HK3 := hqZ (keepsM rfl HK2.out (HK2.out.size) hk)
  clear ht hk HT2 HK2 HR2 HP2
  generalize numS l2 b2 = st at *
  obtain ⟨x3, l3, b3⟩ := st
  simp only at *
  have HS := HT3.out.ptr
  refine hK _ _ HS ?_
  clear hK K
  try simp only [Act.put, zq1, zq2, zq3]
  refine anyH_ready (rs := [19]) (by decide +kernel) (by simp) ?_
  refine AllReadyH.cons (o := { dst := some 251, op := .call { callee := .value (.func 39), args := #[.tmp 250], argTypes := #[101] }, type := _, pos := _, after := _, guard := none }) rfl (fun K hK => ?_) AllReadyH.nil
  go_simp
  refine (truthK_any l3 b3 false pm p F v3 HT3.out).mono ?_
  rintro e v4 ⟨rfl, ht, hk⟩
  have HR4 : Hid (runS (shapeS 20) (l, false, false) = (.s x1 :: .n x2 :: .n x3 :: .t (truthS l3 b3).1 :: (runS [.i, .b] ((truthS l3 b3).2.1, (truthS l3 b3).2.2, false)).1, (runS [.i, .b] ((truthS l3 b3).2.1, (truthS l3 b3).2.2, false)).2)) := hqZ (HR3.out.trans rfl)
  have HP4 : Hid (PtsV v4 F ([.s x1, .n x2, .n x3] ++ [.t (truthS l3 b3).1]) ([.string (tx x1), .int .i64 x2, .int .i64 x3] ++ [.bool (truthS l3 b3).1])) := hqZ ((HP3.out.keep hk HT3.out.hs (by rfl)).snoc (p := .t (truthS l3 b3).1) rfl)
  have HT4 := hqZ ht
  have HK4 := hqZ (keepsM rfl HK3.out (HK3.out.size) hk)
  clear ht hk HT3 HK3 HR3 HP3
  generalize truthS l3 b3 = st at *
  obtain ⟨x4, l4, b4⟩ := st
  simp only at *
  have HS := HT4.out.ptr
  refine hK _ _ HS ?_
  clear hK K
  try simp only [Act.put, zq1, zq2, zq3]
  refine anyH_ready (rs := [21]) (by decide +kernel) (by simp) ?_
  refine AllReadyH.cons (o := { dst := some 253, op := .call { callee := .value (.func 38), args := #[.tmp 252], argTypes := #[100] }, type := _, pos := _, after := _, guard := none }) rfl (fun K hK => ?_) AllReadyH.nil
  go_simp
  refine (ticket_any l4 b4 false pm p F v4 HT4.out).mono ?_
  rintro e v5 ⟨vb, ⟨rfl, ht, hk⟩, bv5, rfl, hb, ho⟩
  have HR5 : Hid (runS (shapeS 20) (l, false, false) = (.s x1 :: .n x2 :: .n x3 :: .t x4 :: .i (tickS l4 b4 false).1 :: (runS [.b] (tickS l4 b4 false).2).1, (runS [.b] (tickS l4 b4 false).2).2)) := hqZ (HR4.out.trans rfl)
  obtain ⟨ab5, cb5, rfl, hcb5, hmb5⟩ := hb.form
  have HP5 : Hid (PtsV v5 F ([.s x1, .n x2, .n x3, .t x4] ++ [.i (tickS l4 b4 false).1]) ([.string (tx x1), .int .i64 x2, .int .i64 x3, .bool x4] ++ [.string (tx (tickS l4 b4 false).1.1), .slice ab5 (tickS l4 b4 false).1.2.length cb5])) := hqZ ((HP4.out.keep hk HT4.out.hs (by rfl)).snoc (p := .i (tickS l4 b4 false).1) ⟨_, rfl, hb, ho⟩)
  have HT5 := hqZ ht
  have HK5 := hqZ (keepsM rfl HK4.out (HK4.out.size) hk)
  clear ht hk hb ho HT4 HK4 HR4 HP4
  generalize tickS l4 b4 false = st at *
  obtain ⟨x5, l5, b5, c5⟩ := st
  simp only at *
  obtain ⟨y5, x5⟩ := x5
  simp only at *
  generalize hz5 : x5.length = z5 at *
  generalize hy5 : tx y5 = ty5 at *
  have HS := HT5.out.ptr
  refine hK _ _ HS ?_
  clear hK K
  try simp only [Act.put, zq1, zq2, zq3]
  refine anyH_ready (rs := [26]) (by decide +kernel) (by simp) ?_
  refine AllReadyH.cons (o := { dst := some 258, op := .call { callee := .value (.func 37), args := #[.tmp 257], argTypes := #[101] }, type := _, pos := _, after := _, guard := none }) rfl (fun K hK => ?_) AllReadyH.nil
  go_simp
  refine (bytesK_any l5 b5 c5 pm p F v5 HT5.out).mono ?_
  rintro e v6 ⟨vb, ⟨rfl, ht, hk⟩, hb, ho⟩
  have HR6 : Hid (runS (shapeS 20) (l, false, false) = (.s x1 :: .n x2 :: .n x3 :: .t x4 :: .i (y5, x5) :: .b (bytesS l5 b5).1 :: (runS [] ((bytesS l5 b5).2.1, (bytesS l5 b5).2.2, c5)).1, (runS [] ((bytesS l5 b5).2.1, (bytesS l5 b5).2.2, c5)).2)) := hqZ (HR5.out.trans rfl)
  obtain ⟨ab6, cb6, rfl, hcb6, hmb6⟩ := hb.form
  have HP6 : Hid (PtsV v6 F ([.s x1, .n x2, .n x3, .t x4, .i (y5, x5)] ++ [.b (bytesS l5 b5).1]) ([.string (tx x1), .int .i64 x2, .int .i64 x3, .bool x4, .string ty5, .slice ab5 z5 cb5] ++ [.slice ab6 (bytesS l5 b5).1.length cb6])) := hqZ ((HP5.out.keep hk HT5.out.hs (by rfl)).snoc (p := .b (bytesS l5 b5).1) ⟨_, rfl, hb, ho⟩)
  have HT6 := hqZ ht
  have HK6 := hqZ (keepsM rfl HK5.out (HK5.out.size) hk)
  clear ht hk hb ho HT5 HK5 HR5 HP5
  generalize bytesS l5 b5 = st at *
  obtain ⟨x6, l6, b6⟩ := st
  simp only at *
  generalize hz6 : x6.length = z6 at *
  have HS := HT6.out.ptr
  refine hK _ _ HS ?_
  clear hK K
  try simp only [Act.put, zq1, zq2, zq3]
  refine tkH 27 259 none (.agg #[.string (tx x1), .int .i64 x2, .int .i64 x3, .bool x4, .string ty5, .slice ab5 z5 cb5, .slice ab6 z6 cb6]) rfl (by kernel_rfl) (fun _ _ _ h => h) (by rfl) (by intro W hW; go_simp) HS ?_
  simp only [Act.put, zq1, zq2, zq3]
  refine tkH 28 260 none (.iface 72 (.agg #[.string (tx x1), .int .i64 x2, .int .i64 x3, .bool x4, .string ty5, .slice ab5 z5 cb5, .slice ab6 z6 cb6])) rfl (by kernel_rfl) (fun _ _ _ h => h) (by rfl) (by intro W hW; go_simp) HS ?_
  simp only [Act.put, zq1, zq2, zq3]
  refine tkH 29 5 none (.iface 72 (.agg #[.string (tx x1), .int .i64 x2, .int .i64 x3, .bool x4, .string ty5, .slice ab5 z5 cb5, .slice ab6 z6 cb6])) rfl (by kernel_rfl) (fun _ _ _ h => h) (by rfl) (by intro W hW; go_simp) HS ?_
  simp only [Act.put, zq1, zq2, zq3]
  refine wpAnyH_done (by decide +kernel) ?_ _
  have ho := HOM.out _ _ _ _ _ _ (by decide) HR6.out ⟨_, rfl, HP6.out⟩
  have ht := HT6.out
  have hk := HK6.out
  obtain ⟨hb, hq⟩ := HKb.out _ hk
  have c0 : v6.cell? ⟨q, 0, none⟩ = some (.int .i64 x.kind) := hq.cell 0
  have m0 := ht.ptr
  have m1 : v6.cell? ⟨pm, 1, none⟩ = some (.bool c5) := ht.1.cell 1
  have HX := hqZ (OutM.no ho (HQ.out _ hb))
  have HY := hqZ (OutM.yes ho (HQ.out _ hb))
  have HD := hqZ (done_any l6 b6 p F v6 ht.2.1)
  clear ht hk ho hb hq
  by_cases hk2 : x.kind = 2
  · have HK2 := hqZ hk2
    have hkb : (x.kind != 2) = false := by simpa using hk2
    clear hk2
    generalize hdn : (!b6 && l6.isEmpty) = dn at *
    clear hdn
    cases c5 with
    | true =>
      go_wp2_with fail
      go_ret2
      exact HX.out (fun h => by simp at h)
    | false =>
      go_wp2_with fail
      refine HD.out.mono ?_
      rintro e w2 ⟨rfl, rfl⟩
      cases dn with
      | true =>
        go_wp2_with fail
        go_ret2
        exact HY.out HK2.out (by simp) (by first | rfl | trivial) (by first | rfl | trivial)
      | false =>
        go_wp2_with fail
        go_ret2
        exact HX.out (fun h => by simp at h)
  · have hkb : (x.kind != 2) = true := by simpa using hk2
    have HK2 := hqZ hk2
    clear hk2
    go_wp2_with fail
    go_ret2
    exact HX.out (fun h => HK2.out h.1)
set_option maxHeartbeats 16000000 in
set_option maxRecDepth 100000 in
theorem msgOf_21 (x : Tv) (F : Nat → Prop) (cs : List Value) (w : World) (h : TvF w F x cs) (hF : ∀ b, F b → b < w.heap.size) (hL : Lw x) (htag : x.tag = 21) :
    Calls Try.prog 19 #[.agg cs.toArray] w (OfM w F x) := by
  have HTG := hqZ htag
  clear htag
  have HLN := hqZ h.length
  have HQ0 := hqZ (Blk.new w cs 38)
  have hB0 : Below w.heap.size w (w.alloc (.cells cs.toArray 38)) := (Below.refl _ _).alloc (Nat.le_refl _) _
  have HB0 := hqZ hB0
  have HTK := hqZ (take_any x F cs _ (h.below hB0) (fun b hb => by have := hF b hb; simp; omega))
  have HL : Hid (∀ y ∈ x.l, y.l.length ≤ 1954687338211) := hqZ (fun y hy => by
    obtain ⟨k, t, n, b, l⟩ := x
    have h1 := LsW.mem hL.2 y hy
    obtain ⟨k2, t2, n2, b2, l2⟩ := y
    exact h1.1)
  have HF := hqZ hF
  obtain ⟨q, hq⟩ : ∃ q, q = w.heap.size := ⟨_, rfl⟩
  have HQ : Hid (∀ W, Below q w W → BelowO w W) := hqZ (fun W h => by rw [hq] at h; exact h)
  have hopen := h.open_
  clear h hB0 hL
  go_enter Try.func19, Try.ntmps19
  go_wp2_with ((with_reducible show wpList _ _ _ (⟨some 6, _, _, _, _, _⟩ :: _) _ _); refine wpList_ldAgg rfl (.tmp 1) aggDer rfl rfl (cs := cs) HLN.out HQ0.out.cellsAll ?_)
  refine HTK.out.mono ?_
  rintro e w0 ⟨p, rfl, ht, hb, hp⟩
  obtain ⟨bv, lv, rows, rfl, hb1, hb2, hb3, hb4, hb5⟩ := hopen
  obtain ⟨pm, hpm⟩ : ∃ pm, pm = w0.heap.size := ⟨_, rfl⟩
  have hA0 : Below w0.heap.size w0 (w0.alloc (.cells [.pointer (some ⟨p, 0, none⟩), .bool false].toArray 104)) := (Below.refl _ _).alloc (Nat.le_refl _) _
  have hpl := ht.lt
  have hz0 : w.heap.size ≤ w0.heap.size := by have := hb.size; simp at this; omega
  have ht0 : Tkn (w0.alloc (.cells [.pointer (some ⟨p, 0, none⟩), .bool false].toArray 104)) F pm p x.l false false := by
    refine ⟨by rw [hpm]; exact Blk.new _ _ _, ht.below hA0, by omega, fun h => ?_, fun b hb => ?_⟩
    · have := HF.out _ h; omega
    · have := HF.out _ hb; simp; omega
  have hq0 := (HQ0.out.below hb (by simp)).alloc (.cells [.pointer (some ⟨p, 0, none⟩), .bool false].toArray 104)
  have hbt : Below w.heap.size w (w0.alloc (.cells [.pointer (some ⟨p, 0, none⟩), .bool false].toArray 104)) := (HB0.out.trans (hb.mono (by simp))).trans (hA0.mono hz0)
  obtain ⟨wt, hwt⟩ : ∃ wt, wt = w0.alloc (.cells [.pointer (some ⟨p, 0, none⟩), .bool false].toArray 104) := ⟨_, rfl⟩
  rw [← hwt] at ht0 hq0 hbt
  have HT := hqZ ht0
  have HBT := hqZ hbt
  have HQT := hqZ hq0
  have HP : Hid (w.heap.size < p ∧ w.heap.size < pm ∧ w.heap.size < wt.heap.size) := hqZ (by simp at hp; have := ht0.lt; exact ⟨by omega, by omega, by omega⟩)
  have cT : wt.cell? ⟨w.heap.size, 1, none⟩ = some (.int .i64 x.tag) := HQT.out.cell 1
  have HKb : Hid (∀ W, Keeps (Sm pm p wt.heap.size) wt W → Below w.heap.size w W ∧ Blk W w.heap.size [.int .i64 x.kind, .int .i64 x.tag, .int .u64 (x.n : Int), bv, lv] 38) := hqZ (fun W hk =>
    ⟨HBT.out.trans (hk.below (fun b hb => by have := HP.out; rcases hb with h | h | h <;> omega)), HQT.out.keep hk (fun h => by have := HP.out; rcases h with h | h | h <;> omega)⟩)
  clear ht hb hp hb1 hb2 hb3 hb4 hb5 HQ0 HB0 HTK hA0 hpl hz0 ht0 hq0 hbt
  go_upto_region 2 with fail
  show Code.wp _ _ _ _ (w0.alloc (.cells [.pointer (some ⟨p, 0, none⟩), .bool false].toArray 104))
  rw [← hwt, ← hpm]
  clear hwt hpm
  rw [← hq] at *
  clear hq
  have hxt : 21 = x.tag := HTG.out.symm
  obtain ⟨l, hxl⟩ : ∃ l, l = x.l := ⟨_, rfl⟩
  have HXT := hqZ hxt
  have HXL := hqZ hxl
  rw [← hxt] at cT HKb HQT ⊢
  rw [← hxl] at HT HL
  clear hxt hxl HTG
  have HOM : Hid (∀ W o pts rem bad bad2, (shapeS x.tag).isEmpty = false → runS (shapeS x.tag) (x.l, false, false) = (pts, rem, bad, bad2) → MsgV W F x.tag pts o → OutM W F x o rem bad bad2) := hqZ (fun W o pts rem bad bad2 h0 h1 h2 => by unfold OutM; rw [if_neg (by rw [h0]; decide)]; exact ⟨pts, h1, h2⟩)
  rw [← HXT.out] at HOM
  rw [← HXL.out] at HOM
  clear HXT HXL
  go_upto_region 25 with fail
  refine wp_region_held (S := fun W : World => W.cell? ⟨pm, 0, none⟩ = some (.pointer (some ⟨p, 0, none⟩))) (by kernel_rfl) ?_
  change wpAnyH _ _ _ _ _ _ _ _ (World.drew _)
  have HS : (World.drew wt).cell? ⟨pm, 0, none⟩ = some (.pointer (some ⟨p, 0, none⟩)) := HT.out.ptr
  have HT0 := hqZ HT.out.drew
  have HK0 : Hid (Keeps (Sm pm p wt.heap.size) wt wt.drew) := hqZ (Keeps.refl _ _).drew
  have HR0 : Hid (runS (shapeS 21) (l, false, false) = runS [.s, .b] (l, false, false)) := hqZ rfl
  have HP0 : Hid (PtsV wt.drew F [] []) := hqZ rfl
  generalize World.drew wt = wd at HS HT0 HK0 HP0 ⊢
  refine tkH 0 263 none (.pointer (some ⟨pm, 0, none⟩)) rfl (by kernel_rfl) (fun _ _ _ h => h) (by rfl) (by intro W hW; go_simp) HS ?_
  simp only [Act.put, zq1, zq2, zq3]
  refine tkH 1 264 none (.pointer (some ⟨pm, 0, none⟩)) rfl (by kernel_rfl) (fun _ _ _ h => h) (by rfl) (by intro W hW; go_simp) HS ?_
  simp only [Act.put, zq1, zq2, zq3]
  refine tkH 2 265 none (.pointer (some ⟨pm, 0, none⟩)) rfl (by kernel_rfl) (fun _ _ _ h => h) (by rfl) (by intro W hW; go_simp) HS ?_
  simp only [Act.put, zq1, zq2, zq3]
  refine tkH 3 266 none (.pointer (some ⟨p, 0, none⟩)) rfl (by kernel_rfl) (fun _ _ _ h => h) (by rfl) (by intro W hW; have hc0 : W.cell? ⟨pm, 0, none⟩ = some (.pointer (some ⟨p, 0, none⟩)) := hW; go_simp) HS ?_
  simp only [Act.put, zq1, zq2, zq3]
  refine tkH 5 268 none (.pointer (some ⟨pm, 0, none⟩)) rfl (by kernel_rfl) (fun _ _ _ h => h) (by rfl) (by intro W hW; go_simp) HS ?_
  simp only [Act.put, zq1, zq2, zq3]
  refine tkH 6 269 none (.pointer (some ⟨pm, 0, none⟩)) rfl (by kernel_rfl) (fun _ _ _ h => h) (by rfl) (by intro W hW; go_simp) HS ?_
  simp only [Act.put, zq1, zq2, zq3]
  refine tkH 7 270 none (.pointer (some ⟨pm, 0, none⟩)) rfl (by kernel_rfl) (fun _ _ _ h => h) (by rfl) (by intro W hW; go_simp) HS ?_
  simp only [Act.put, zq1, zq2, zq3]
  refine tkH 8 271 none (.pointer (some ⟨p, 0, none⟩)) rfl (by kernel_rfl) (fun _ _ _ h => h) (by rfl) (by intro W hW; have hc0 : W.cell? ⟨pm, 0, none⟩ = some (.pointer (some ⟨p, 0, none⟩)) := hW; go_simp) HS ?_
  simp only [Act.put, zq1, zq2, zq3]
  refine anyH_ready (rs := [4]) (by decide +kernel) (by simp) ?_
  refine AllReadyH.cons (o := { dst := some 267, op := .call { callee := .value (.func 35), args := #[.tmp 266], argTypes := #[101] }, type := _, pos := _, after := _, guard := none }) rfl (fun K hK => ?_) AllReadyH.nil
  go_simp
  refine (nameK_any l false false pm p F wd HT0.out).mono ?_
  rintro e v1 ⟨rfl, ht, hk⟩
  have HR1 : Hid (runS (shapeS 21) (l, false, false) = (.s (nameS l false).1 :: (runS [.b] ((nameS l false).2.1, (nameS l false).2.2, false)).1, (runS [.b] ((nameS l false).2.1, (nameS l false).2.2, false)).2)) := hqZ (HR0.out.trans rfl)
  have HP1 : Hid (PtsV v1 F ([] ++ [.s (nameS l false).1]) ([] ++ [.string (tx (nameS l false).1)])) := hqZ ((HP0.out.keep hk HT0.out.hs (by rfl)).snoc (p := .s (nameS l false).1) rfl)
  have HT1 := hqZ ht
  have HK1 := hqZ (keepsM rfl HK0.out (HK0.out.size) hk)
  clear ht hk HT0 HK0 HR0 HP0
  generalize nameS l false = st at *
  obtain ⟨x1, l1, b1⟩ := st
  simp only at *
  have HS := HT1.out.ptr
  refine hK _ _ HS ?_
  clear hK K
  try simp only [Act.put, zq1, zq2, zq3]
  refine anyH_ready (rs := [9]) (by decide +kernel) (by simp) ?_
  refine AllReadyH.cons (o := { dst := some 272, op := .call { callee := .value (.func 37), args := #[.tmp 271], argTypes := #[101] }, type := _, pos := _, after := _, guard := none }) rfl (fun K hK => ?_) AllReadyH.nil
  go_simp
  refine (bytesK_any l1 b1 false pm p F v1 HT1.out).mono ?_
  rintro e v2 ⟨vb, ⟨rfl, ht, hk⟩, hb, ho⟩
  have HR2 : Hid (runS (shapeS 21) (l, false, false) = (.s x1 :: .b (bytesS l1 b1).1 :: (runS [] ((bytesS l1 b1).2.1, (bytesS l1 b1).2.2, false)).1, (runS [] ((bytesS l1 b1).2.1, (bytesS l1 b1).2.2, false)).2)) := hqZ (HR1.out.trans rfl)
  obtain ⟨ab2, cb2, rfl, hcb2, hmb2⟩ := hb.form
  have HP2 : Hid (PtsV v2 F ([.s x1] ++ [.b (bytesS l1 b1).1]) ([.string (tx x1)] ++ [.slice ab2 (bytesS l1 b1).1.length cb2])) := hqZ ((HP1.out.keep hk HT1.out.hs (by rfl)).snoc (p := .b (bytesS l1 b1).1) ⟨_, rfl, hb, ho⟩)
  have HT2 := hqZ ht
  have HK2 := hqZ (keepsM rfl HK1.out (HK1.out.size) hk)
  clear ht hk hb ho HT1 HK1 HR1 HP1
  generalize bytesS l1 b1 = st at *
  obtain ⟨x2, l2, b2⟩ := st
  simp only at *
  generalize hz2 : x2.length = z2 at *
  have HS := HT2.out.ptr
  refine hK _ _ HS ?_
  clear hK K
  try simp only [Act.put, zq1, zq2, zq3]
  refine tkH 10 273 none (.agg #[.string (tx x1), .slice ab2 z2 cb2]) rfl (by kernel_rfl) (fun _ _ _ h => h) (by rfl) (by intro W hW; go_simp) HS ?_
  simp only [Act.put, zq1, zq2, zq3]
  refine tkH 11 274 none (.iface 74 (.agg #[.string (tx x1), .slice ab2 z2 cb2])) rfl (by kernel_rfl) (fun _ _ _ h => h) (by rfl) (by intro W hW; go_simp) HS ?_
  simp only [Act.put, zq1, zq2, zq3]
  refine tkH 12 5 none (.iface 74 (.agg #[.string (tx x1), .slice ab2 z2 cb2])) rfl (by kernel_rfl) (fun _ _ _ h => h) (by rfl) (by intro W hW; go_simp) HS ?_
  simp only [Act.put, zq1, zq2, zq3]
  refine wpAnyH_done (by decide +kernel) ?_ _
  have ho := HOM.out _ _ _ _ _ _ (by decide) HR2.out ⟨_, rfl, HP2.out⟩
  have ht := HT2.out
  have hk := HK2.out
  obtain ⟨hb, hq⟩ := HKb.out _ hk
  have c0 : v2.cell? ⟨q, 0, none⟩ = some (.int .i64 x.kind) := hq.cell 0
  have m0 := ht.ptr
  have m1 : v2.cell? ⟨pm, 1, none⟩ = some (.bool false) := ht.1.cell 1
  have HX := hqZ (OutM.no ho (HQ.out _ hb))
  have HY := hqZ (OutM.yes ho (HQ.out _ hb))
  have HD := hqZ (done_any l2 b2 p F v2 ht.2.1)
  clear ht hk ho hb hq
  by_cases hk2 : x.kind = 2
  · have HK2 := hqZ hk2
    have hkb : (x.kind != 2) = false := by simpa using hk2
    clear hk2
    generalize hdn : (!b2 && l2.isEmpty) = dn at *
    clear hdn
    go_wp2_with fail
    refine HD.out.mono ?_
    rintro e w2 ⟨rfl, rfl⟩
    cases dn with
    | true =>
      go_wp2_with fail
      go_ret2
      exact HY.out HK2.out (by simp) (by first | rfl | trivial) (by first | rfl | trivial)
    | false =>
      go_wp2_with fail
      go_ret2
      exact HX.out (fun h => by simp at h)
  · have hkb : (x.kind != 2) = true := by simpa using hk2
    have HK2 := hqZ hk2
    clear hk2
    go_wp2_with fail
    go_ret2
    exact HX.out (fun h => HK2.out h.1)
set_option maxHeartbeats 16000000 in
set_option maxRecDepth 100000 in
theorem msgOf_22 (x : Tv) (F : Nat → Prop) (cs : List Value) (w : World) (h : TvF w F x cs) (hF : ∀ b, F b → b < w.heap.size) (hL : Lw x) (htag : x.tag = 22) :
    Calls Try.prog 19 #[.agg cs.toArray] w (OfM w F x) := by
  have HTG := hqZ htag
  clear htag
  have HLN := hqZ h.length
  have HQ0 := hqZ (Blk.new w cs 38)
  have hB0 : Below w.heap.size w (w.alloc (.cells cs.toArray 38)) := (Below.refl _ _).alloc (Nat.le_refl _) _
  have HB0 := hqZ hB0
  have HTK := hqZ (take_any x F cs _ (h.below hB0) (fun b hb => by have := hF b hb; simp; omega))
  have HL : Hid (∀ y ∈ x.l, y.l.length ≤ 1954687338211) := hqZ (fun y hy => by
    obtain ⟨k, t, n, b, l⟩ := x
    have h1 := LsW.mem hL.2 y hy
    obtain ⟨k2, t2, n2, b2, l2⟩ := y
    exact h1.1)
  have HF := hqZ hF
  obtain ⟨q, hq⟩ : ∃ q, q = w.heap.size := ⟨_, rfl⟩
  have HQ : Hid (∀ W, Below q w W → BelowO w W) := hqZ (fun W h => by rw [hq] at h; exact h)
  have hopen := h.open_
  clear h hB0 hL
  go_enter Try.func19, Try.ntmps19
  go_wp2_with ((with_reducible show wpList _ _ _ (⟨some 6, _, _, _, _, _⟩ :: _) _ _); refine wpList_ldAgg rfl (.tmp 1) aggDer rfl rfl (cs := cs) HLN.out HQ0.out.cellsAll ?_)
  refine HTK.out.mono ?_
  rintro e w0 ⟨p, rfl, ht, hb, hp⟩
  obtain ⟨bv, lv, rows, rfl, hb1, hb2, hb3, hb4, hb5⟩ := hopen
  obtain ⟨pm, hpm⟩ : ∃ pm, pm = w0.heap.size := ⟨_, rfl⟩
  have hA0 : Below w0.heap.size w0 (w0.alloc (.cells [.pointer (some ⟨p, 0, none⟩), .bool false].toArray 104)) := (Below.refl _ _).alloc (Nat.le_refl _) _
  have hpl := ht.lt
  have hz0 : w.heap.size ≤ w0.heap.size := by have := hb.size; simp at this; omega
  have ht0 : Tkn (w0.alloc (.cells [.pointer (some ⟨p, 0, none⟩), .bool false].toArray 104)) F pm p x.l false false := by
    refine ⟨by rw [hpm]; exact Blk.new _ _ _, ht.below hA0, by omega, fun h => ?_, fun b hb => ?_⟩
    · have := HF.out _ h; omega
    · have := HF.out _ hb; simp; omega
  have hq0 := (HQ0.out.below hb (by simp)).alloc (.cells [.pointer (some ⟨p, 0, none⟩), .bool false].toArray 104)
  have hbt : Below w.heap.size w (w0.alloc (.cells [.pointer (some ⟨p, 0, none⟩), .bool false].toArray 104)) := (HB0.out.trans (hb.mono (by simp))).trans (hA0.mono hz0)
  obtain ⟨wt, hwt⟩ : ∃ wt, wt = w0.alloc (.cells [.pointer (some ⟨p, 0, none⟩), .bool false].toArray 104) := ⟨_, rfl⟩
  rw [← hwt] at ht0 hq0 hbt
  have HT := hqZ ht0
  have HBT := hqZ hbt
  have HQT := hqZ hq0
  have HP : Hid (w.heap.size < p ∧ w.heap.size < pm ∧ w.heap.size < wt.heap.size) := hqZ (by simp at hp; have := ht0.lt; exact ⟨by omega, by omega, by omega⟩)
  have cT : wt.cell? ⟨w.heap.size, 1, none⟩ = some (.int .i64 x.tag) := HQT.out.cell 1
  have HKb : Hid (∀ W, Keeps (Sm pm p wt.heap.size) wt W → Below w.heap.size w W ∧ Blk W w.heap.size [.int .i64 x.kind, .int .i64 x.tag, .int .u64 (x.n : Int), bv, lv] 38) := hqZ (fun W hk =>
    ⟨HBT.out.trans (hk.below (fun b hb => by have := HP.out; rcases hb with h | h | h <;> omega)), HQT.out.keep hk (fun h => by have := HP.out; rcases h with h | h | h <;> omega)⟩)
  clear ht hb hp hb1 hb2 hb3 hb4 hb5 HQ0 HB0 HTK hA0 hpl hz0 ht0 hq0 hbt
  go_upto_region 2 with fail
  show Code.wp _ _ _ _ (w0.alloc (.cells [.pointer (some ⟨p, 0, none⟩), .bool false].toArray 104))
  rw [← hwt, ← hpm]
  clear hwt hpm
  rw [← hq] at *
  clear hq
  have hxt : 22 = x.tag := HTG.out.symm
  obtain ⟨l, hxl⟩ : ∃ l, l = x.l := ⟨_, rfl⟩
  have HXT := hqZ hxt
  have HXL := hqZ hxl
  rw [← hxt] at cT HKb HQT ⊢
  rw [← hxl] at HT HL
  clear hxt hxl HTG
  have HOM : Hid (∀ W o pts rem bad bad2, (shapeS x.tag).isEmpty = false → runS (shapeS x.tag) (x.l, false, false) = (pts, rem, bad, bad2) → MsgV W F x.tag pts o → OutM W F x o rem bad bad2) := hqZ (fun W o pts rem bad bad2 h0 h1 h2 => by unfold OutM; rw [if_neg (by rw [h0]; decide)]; exact ⟨pts, h1, h2⟩)
  rw [← HXT.out] at HOM
  rw [← HXL.out] at HOM
  clear HXT HXL
  go_upto_region 27 with fail
  refine wp_region_held (S := fun W : World => W.cell? ⟨pm, 0, none⟩ = some (.pointer (some ⟨p, 0, none⟩))) (by kernel_rfl) ?_
  change wpAnyH _ _ _ _ _ _ _ _ (World.drew _)
  have HS : (World.drew wt).cell? ⟨pm, 0, none⟩ = some (.pointer (some ⟨p, 0, none⟩)) := HT.out.ptr
  have HT0 := hqZ HT.out.drew
  have HK0 : Hid (Keeps (Sm pm p wt.heap.size) wt wt.drew) := hqZ (Keeps.refl _ _).drew
  have HR0 : Hid (runS (shapeS 22) (l, false, false) = runS [.s, .n, .n] (l, false, false)) := hqZ rfl
  have HP0 : Hid (PtsV wt.drew F [] []) := hqZ rfl
  generalize World.drew wt = wd at HS HT0 HK0 HP0 ⊢
  refine tkH 0 277 none (.pointer (some ⟨pm, 0, none⟩)) rfl (by kernel_rfl) (fun _ _ _ h => h) (by rfl) (by intro W hW; go_simp) HS ?_
  simp only [Act.put, zq1, zq2, zq3]
  refine tkH 1 278 none (.pointer (some ⟨pm, 0, none⟩)) rfl (by kernel_rfl) (fun _ _ _ h => h) (by rfl) (by intro W hW; go_simp) HS ?_
  simp only [Act.put, zq1, zq2, zq3]
  refine tkH 2 279 none (.pointer (some ⟨pm, 0, none⟩)) rfl (by kernel_rfl) (fun _ _ _ h => h) (by rfl) (by intro W hW; go_simp) HS ?_
  simp only [Act.put, zq1, zq2, zq3]
  refine tkH 3 280 none (.pointer (some ⟨p, 0, none⟩)) rfl (by kernel_rfl) (fun _ _ _ h => h) (by rfl) (by intro W hW; have hc0 : W.cell? ⟨pm, 0, none⟩ = some (.pointer (some ⟨p, 0, none⟩)) := hW; go_simp) HS ?_
  simp only [Act.put, zq1, zq2, zq3]
  refine tkH 5 282 none (.pointer (some ⟨pm, 0, none⟩)) rfl (by kernel_rfl) (fun _ _ _ h => h) (by rfl) (by intro W hW; go_simp) HS ?_
  simp only [Act.put, zq1, zq2, zq3]
  refine tkH 6 283 none (.pointer (some ⟨pm, 0, none⟩)) rfl (by kernel_rfl) (fun _ _ _ h => h) (by rfl) (by intro W hW; go_simp) HS ?_
  simp only [Act.put, zq1, zq2, zq3]
  refine tkH 7 284 none (.pointer (some ⟨pm, 0, none⟩)) rfl (by kernel_rfl) (fun _ _ _ h => h) (by rfl) (by intro W hW; go_simp) HS ?_
  simp only [Act.put, zq1, zq2, zq3]
  refine tkH 8 285 none (.pointer (some ⟨p, 0, none⟩)) rfl (by kernel_rfl) (fun _ _ _ h => h) (by rfl) (by intro W hW; have hc0 : W.cell? ⟨pm, 0, none⟩ = some (.pointer (some ⟨p, 0, none⟩)) := hW; go_simp) HS ?_
  simp only [Act.put, zq1, zq2, zq3]
  refine tkH 10 287 none (.pointer (some ⟨pm, 0, none⟩)) rfl (by kernel_rfl) (fun _ _ _ h => h) (by rfl) (by intro W hW; go_simp) HS ?_
  simp only [Act.put, zq1, zq2, zq3]
  refine tkH 11 288 none (.pointer (some ⟨pm, 0, none⟩)) rfl (by kernel_rfl) (fun _ _ _ h => h) (by rfl) (by intro W hW; go_simp) HS ?_
  simp only [Act.put, zq1, zq2, zq3]
  refine tkH 12 289 none (.pointer (some ⟨pm, 0, none⟩)) rfl (by kernel_rfl) (fun _ _ _ h => h) (by rfl) (by intro W hW; go_simp) HS ?_
  simp only [Act.put, zq1, zq2, zq3]
  refine tkH 13 290 none (.pointer (some ⟨p, 0, none⟩)) rfl (by kernel_rfl) (fun _ _ _ h => h) (by rfl) (by intro W hW; have hc0 : W.cell? ⟨pm, 0, none⟩ = some (.pointer (some ⟨p, 0, none⟩)) := hW; go_simp) HS ?_
  simp only [Act.put, zq1, zq2, zq3]
  refine anyH_ready (rs := [4]) (by decide +kernel) (by simp) ?_
  refine AllReadyH.cons (o := { dst := some 281, op := .call { callee := .value (.func 35), args := #[.tmp 280], argTypes := #[101] }, type := _, pos := _, after := _, guard := none }) rfl (fun K hK => ?_) AllReadyH.nil
  go_simp
  refine (nameK_any l false false pm p F wd HT0.out).mono ?_
  rintro e v1 ⟨rfl, ht, hk⟩
  have HR1 : Hid (runS (shapeS 22) (l, false, false) = (.s (nameS l false).1 :: (runS [.n, .n] ((nameS l false).2.1, (nameS l false).2.2, false)).1, (runS [.n, .n] ((nameS l false).2.1, (nameS l false).2.2, false)).2)) := hqZ (HR0.out.trans rfl)
  have HP1 : Hid (PtsV v1 F ([] ++ [.s (nameS l false).1]) ([] ++ [.string (tx (nameS l false).1)])) := hqZ ((HP0.out.keep hk HT0.out.hs (by rfl)).snoc (p := .s (nameS l false).1) rfl)
  have HT1 := hqZ ht
  have HK1 := hqZ (keepsM rfl HK0.out (HK0.out.size) hk)
  clear ht hk HT0 HK0 HR0 HP0
  generalize nameS l false = st at *
  obtain ⟨x1, l1, b1⟩ := st
  simp only at *
  have HS := HT1.out.ptr
  refine hK _ _ HS ?_
  clear hK K
  try simp only [Act.put, zq1, zq2, zq3]
  refine anyH_ready (rs := [9]) (by decide +kernel) (by simp) ?_
  refine AllReadyH.cons (o := { dst := some 286, op := .call { callee := .value (.func 36), args := #[.tmp 285], argTypes := #[101] }, type := _, pos := _, after := _, guard := none }) rfl (fun K hK => ?_) AllReadyH.nil
  go_simp
  refine (numK_any l1 b1 false pm p F v1 HT1.out).mono ?_
  rintro e v2 ⟨rfl, ht, hk⟩
  have HR2 : Hid (runS (shapeS 22) (l, false, false) = (.s x1 :: .n (numS l1 b1).1 :: (runS [.n] ((numS l1 b1).2.1, (numS l1 b1).2.2, false)).1, (runS [.n] ((numS l1 b1).2.1, (numS l1 b1).2.2, false)).2)) := hqZ (HR1.out.trans rfl)
  have HP2 : Hid (PtsV v2 F ([.s x1] ++ [.n (numS l1 b1).1]) ([.string (tx x1)] ++ [.int .i64 (numS l1 b1).1])) := hqZ ((HP1.out.keep hk HT1.out.hs (by rfl)).snoc (p := .n (numS l1 b1).1) rfl)
  have HT2 := hqZ ht
  have HK2 := hqZ (keepsM rfl HK1.out (HK1.out.size) hk)
  clear ht hk HT1 HK1 HR1 HP1
  generalize numS l1 b1 = st at *
  obtain ⟨x2, l2, b2⟩ := st
  simp only at *
  have HS := HT2.out.ptr
  refine hK _ _ HS ?_
  clear hK K
  try simp only [Act.put, zq1, zq2, zq3]
  refine anyH_ready (rs := [14]) (by decide +kernel) (by simp) ?_
  refine AllReadyH.cons (o := { dst := some 291, op := .call { callee := .value (.func 36), args := #[.tmp 290], argTypes := #[101] }, type := _, pos := _, after := _, guard := none }) rfl (fun K hK => ?_) AllReadyH.nil
  go_simp
  refine (numK_any l2 b2 false pm p F v2 HT2.out).mono ?_
  rintro e v3 ⟨rfl, ht, hk⟩
  have HR3 : Hid (runS (shapeS 22) (l, false, false) = (.s x1 :: .n x2 :: .n (numS l2 b2).1 :: (runS [] ((numS l2 b2).2.1, (numS l2 b2).2.2, false)).1, (runS [] ((numS l2 b2).2.1, (numS l2 b2).2.2, false)).2)) := hqZ (HR2.out.trans rfl)
  have HP3 : Hid (PtsV v3 F ([.s x1, .n x2] ++ [.n (numS l2 b2).1]) ([.string (tx x1), .int .i64 x2] ++ [.int .i64 (numS l2 b2).1])) := hqZ ((HP2.out.keep hk HT2.out.hs (by rfl)).snoc (p := .n (numS l2 b2).1) rfl)
  have HT3 := hqZ ht
  have HK3 := hqZ (keepsM rfl HK2.out (HK2.out.size) hk)
  clear ht hk HT2 HK2 HR2 HP2
  generalize numS l2 b2 = st at *
  obtain ⟨x3, l3, b3⟩ := st
  simp only at *
  have HS := HT3.out.ptr
  refine hK _ _ HS ?_
  clear hK K
  try simp only [Act.put, zq1, zq2, zq3]
  refine tkH 15 292 none (.agg #[.string (tx x1), .int .i64 x2, .int .i64 x3]) rfl (by kernel_rfl) (fun _ _ _ h => h) (by rfl) (by intro W hW; go_simp) HS ?_
  simp only [Act.put, zq1, zq2, zq3]
  refine tkH 16 293 none (.iface 76 (.agg #[.string (tx x1), .int .i64 x2, .int .i64 x3])) rfl (by kernel_rfl) (fun _ _ _ h => h) (by rfl) (by intro W hW; go_simp) HS ?_
  simp only [Act.put, zq1, zq2, zq3]
  refine tkH 17 5 none (.iface 76 (.agg #[.string (tx x1), .int .i64 x2, .int .i64 x3])) rfl (by kernel_rfl) (fun _ _ _ h => h) (by rfl) (by intro W hW; go_simp) HS ?_
  simp only [Act.put, zq1, zq2, zq3]
  refine wpAnyH_done (by decide +kernel) ?_ _
  have ho := HOM.out _ _ _ _ _ _ (by decide) HR3.out ⟨_, rfl, HP3.out⟩
  have ht := HT3.out
  have hk := HK3.out
  obtain ⟨hb, hq⟩ := HKb.out _ hk
  have c0 : v3.cell? ⟨q, 0, none⟩ = some (.int .i64 x.kind) := hq.cell 0
  have m0 := ht.ptr
  have m1 : v3.cell? ⟨pm, 1, none⟩ = some (.bool false) := ht.1.cell 1
  have HX := hqZ (OutM.no ho (HQ.out _ hb))
  have HY := hqZ (OutM.yes ho (HQ.out _ hb))
  have HD := hqZ (done_any l3 b3 p F v3 ht.2.1)
  clear ht hk ho hb hq
  by_cases hk2 : x.kind = 2
  · have HK2 := hqZ hk2
    have hkb : (x.kind != 2) = false := by simpa using hk2
    clear hk2
    generalize hdn : (!b3 && l3.isEmpty) = dn at *
    clear hdn
    go_wp2_with fail
    refine HD.out.mono ?_
    rintro e w2 ⟨rfl, rfl⟩
    cases dn with
    | true =>
      go_wp2_with fail
      go_ret2
      exact HY.out HK2.out (by simp) (by first | rfl | trivial) (by first | rfl | trivial)
    | false =>
      go_wp2_with fail
      go_ret2
      exact HX.out (fun h => by simp at h)
  · have hkb : (x.kind != 2) = true := by simpa using hk2
    have HK2 := hqZ hk2
    clear hk2
    go_wp2_with fail
    go_ret2
    exact HX.out (fun h => HK2.out h.1)
end Go.Proofs.Ytpjkidcfidmfaaa
namespace Go.Proofs.Ytpjkidcfidmfaaa
theorem msgOf_any (x : Tv) (F : Nat → Prop) (cs : List Value) (w : World) (h : TvF w F x cs) (hF : ∀ b, F b → b < w.heap.size) (hL : Lw x) :
    Calls Try.prog 19 #[.agg cs.toArray] w (OfM w F x) := by
  rcases (by omega : x.tag = 11 ∨ x.tag = 12 ∨ x.tag = 13 ∨ x.tag = 14 ∨ x.tag = 15 ∨ x.tag = 16 ∨ x.tag = 17 ∨ x.tag = 18 ∨ x.tag = 19 ∨ x.tag = 20 ∨ x.tag = 21 ∨ x.tag = 22 ∨ (x.tag ≠ 11 ∧ x.tag ≠ 12 ∧ x.tag ≠ 13 ∧ x.tag ≠ 14 ∧ x.tag ≠ 15 ∧ x.tag ≠ 16 ∧ x.tag ≠ 17 ∧ x.tag ≠ 18 ∧ x.tag ≠ 19 ∧ x.tag ≠ 20 ∧ x.tag ≠ 21 ∧ x.tag ≠ 22)) with ht | ht | ht | ht | ht | ht | ht | ht | ht | ht | ht | ht | ht
  · exact msgOf_11 x F cs w h hF hL ht
  · exact msgOf_12 x F cs w h hF hL ht
  · exact msgOf_13 x F cs w h hF hL ht
  · exact msgOf_14 x F cs w h hF hL ht
  · exact msgOf_15 x F cs w h hF hL ht
  · exact msgOf_16 x F cs w h hF hL ht
  · exact msgOf_17 x F cs w h hF hL ht
  · exact msgOf_18 x F cs w h hF hL ht
  · exact msgOf_19 x F cs w h hF hL ht
  · exact msgOf_20 x F cs w h hF hL ht
  · exact msgOf_21 x F cs w h hF hL ht
  · exact msgOf_22 x F cs w h hF hL ht
  · exact msgOf_0 x F cs w h hF hL ht
end Go.Proofs.Ytpjkidcfidmfaaa
namespace Go.Proofs.Ytpjkidcfidmfaaa
set_option linter.unusedSimpArgs false
set_option linter.unusedVariables false
open Go.RowKit
def wrM (t : Int) (pts : List Pt) : List UInt8 × Int := if pts.all ptB = true then wrS (msgTv t pts) else ([], 7)
theorem msgTv_nw (t : Int) (pts : List Pt) (h : pts.all ptB = true) : Nw (msgTv t pts) := by
  refine ⟨by decide, NsW.of fun x hx => ?_⟩
  obtain ⟨p, hp, rfl⟩ := List.mem_map.1 hx
  have hb := List.all_eq_true.1 h p hp
  have htk : ∀ t, Nw (tkTv t) := fun t => ⟨by decide, ⟨by decide, trivial⟩, ⟨by decide, trivial⟩, trivial⟩
  cases p with
  | s l => exact ⟨by decide, trivial⟩
  | n x =>
    obtain ⟨h0, h1⟩ := (timeB_iff x).1 hb
    obtain ⟨n, rfl⟩ := Int.eq_ofNat_of_zero_le h0
    exact ⟨by show n < _; omega, trivial⟩
  | b l => exact ⟨by decide, trivial⟩
  | t b => cases b <;> exact ⟨by decide, trivial⟩
  | i t => exact htk t
  | x l =>
    refine ⟨by decide, NsW.of fun y hy => ?_⟩
    obtain ⟨t, ht, rfl⟩ := List.mem_map.1 hy
    exact htk t
set_option maxHeartbeats 1000000 in
set_option maxRecDepth 100000 in
theorem msgWrite_of (v : Value) (x : Tv) (b : Bool) (w : World) (hval : Calls Try.prog 10 #[v] w (VlRes w x b)) (hn : b = true → Nw x ∧ (writeS x).length ≤ 140737521909760) :
    Calls Try.prog 9 #[v] w (WtRes w (if b = true then wrS x else ([], 7))) := by
  have HV := hqZ hval
  have HN := hqZ hn
  obtain ⟨r, hr⟩ : ∃ r, r = (if b = true then wrS x else ([], 7)) := ⟨_, rfl⟩
  rw [← hr]
  have HR := hqZ hr
  clear hval hn hr
  go_enter Try.func9, Try.ntmps9
  go_wp2_with fail
  refine HV.out.mono ?_
  rintro e w1 ⟨cs, rfl, ht, hb⟩
  have HT := hqZ ht
  have HB := hqZ hb
  have HL := hqZ ht.length
  have HO := hqZ ht.one
  have HN4 := hqZ (Blk.new w1 zs5 38)
  clear ht hb HV
  go_upto_region 2 with ((with_reducible show wpList _ _ _ (⟨none, .store _ (.tmp 4) (.tmp 9), _, _, _, _⟩ :: _) _ _); refine wpList_stAgg rfl (.tmp 4) (.tmp 9) aggDer rfl rfl (vs := cs) rfl HL.out HN4.out (Nat.le_refl _) HO.out ?_)
  intro w2 h2 k2
  have h2' : Blk w2 w1.heap.size cs 38 := by
    rw [List.drop_of_length_le (by decide), List.append_nil] at h2
    exact h2
  have hb2 : Below w1.heap.size w1 w2 := ((Below.refl _ _).alloc (Nat.le_refl _) _).trans (k2.below (by omega))
  have H2 := hqZ h2'
  have HT2 := hqZ (HT.out.below hb2)
  have HB2 : Hid (Below w.heap.size w w2) := hqZ (HB.out.trans (hb2.mono HB.out.size))
  clear h2 k2 h2' hb2
  cases b with
  | false =>
    go_wp2_with fail
    go_ret2
    rw [show r = ([], 7) from HR.out]
    exact ⟨_, rfl, Sl.nil _ _ _, HB2.out⟩
  | true =>
    have HWR := hqZ (derWriteIt_any x _ cs w2 HT2.out (HN.out rfl).1 (fun _ => (HN.out rfl).2))
    go_wp2_with ((with_reducible show wpList _ _ _ (⟨some 13, _, _, _, _, _⟩ :: _) _ _); refine wpList_ldAgg rfl (.tmp 4) aggDer rfl rfl (cs := cs) HL.out H2.out.cellsAll ?_)
    refine HWR.out.mono ?_
    rintro e w3 ⟨v3, rfl, hbs, hb3⟩
    obtain ⟨a3, c3, rfl, _⟩ := hbs.form
    have HBS := hqZ hbs
    have HB3 : Hid (Below w.heap.size w w3) := hqZ (HB2.out.trans (hb3.mono HB2.out.size))
    clear hbs hb3
    go_wp2_with fail
    go_ret2
    rw [show r = wrS x from HR.out]
    exact ⟨_, rfl, HBS.out, HB3.out⟩
theorem msgWrite_any (t : Int) (pts : List Pt) (F : Nat → Prop) (v : Value) (w : World) (hk : pts.map kdOf = shapeS t) (hne : (shapeS t).isEmpty = false) (hv : MsgV w F t pts v) (hok : ∀ p ∈ pts, PtOk p) (hlen : pts.all ptB = true → (writeS (msgTv t pts)).length ≤ 140737521909760) :
    Calls Try.prog 9 #[v] w (WtRes w (wrM t pts)) :=
  msgWrite_of v _ _ w (msgValue_any t pts F v w hk hne hv hok) (fun h => ⟨msgTv_nw t pts h, hlen h⟩)
theorem msgWrite_none (v : Value) (w : World) (h : NoMsg v) : Calls Try.prog 9 #[v] w (WtRes w ([], 7)) :=
  msgWrite_of v _ _ w (msgValue_none v w h) (fun h => by cases h)
def rdV (x : Tv) (code : Int) : Option (Int × List Pt) × Int :=
  if code = 0 then (match ofS x with | some pts => (some (x.tag, pts), 0) | none => (none, 4)) else (none, code)
def rdM (b : List UInt8) : Option (Int × List Pt) × Int := rdV (wholeS b).1 (wholeS b).2
def MrdRes (w : World) (r : Option (Int × List Pt) × Int) (e : Ending) (w' : World) : Prop :=
  ∃ v, e = .returned (.tuple #[v, .int .i64 r.2]) ∧ Below w.heap.size w w' ∧ (match r.1 with | some m => MsgV w' (fun b => b < w'.heap.size) m.1 m.2 v | none => v = .nilIface)
theorem MsgV.tight {w : World} {F G : Nat → Prop} {t : Int} {l : List Pt} {v : Value} (h : MsgV w F t l v) (hg : ∀ b, F b → G b) : MsgV w G t l v := by
  obtain ⟨cs, e, h⟩ := h
  refine ⟨cs, e, ?_⟩
  clear e
  induction l generalizing cs with
  | nil => exact h
  | cons p l ih =>
    obtain ⟨a, b, rfl, h1, h2⟩ := h
    refine ⟨a, b, rfl, ?_, ih _ h2⟩
    cases p with
    | s l => exact h1
    | n x => exact h1
    | t b => exact h1
    | b l => obtain ⟨v, e, h3, h4⟩ := h1; exact ⟨v, e, h3, fun hn y hy => hg y (h4 hn y hy)⟩
    | i t => obtain ⟨v, e, h3, h4⟩ := h1; exact ⟨v, e, h3, fun hn y hy => hg y (h4 hn y hy)⟩
    | x l =>
      obtain ⟨v, e, rows, h3, h4⟩ := h1
      refine ⟨v, e, rows, h3, ?_⟩
      clear h3 e h2 ih
      induction l generalizing rows with
      | nil => exact h4
      | cons t l ih2 =>
        obtain ⟨bv, rs, e, h5, h6, h7⟩ := h4
        exact ⟨bv, rs, e, h5, fun hn y hy => hg y (h6 hn y hy), ih2 _ h7⟩
set_option maxHeartbeats 1000000 in
set_option maxRecDepth 100000 in
theorem msgRead_any (v : Value) (b : List UInt8) (w : World) (h : Bs w v b) : Calls Try.prog 6 #[v] w (MrdRes w (rdM b)) := by
  obtain ⟨a, c, rfl, hc, hm⟩ := h.form
  have HW := hqZ (derWhole_any (.slice a b.length c) b w h)
  obtain ⟨r, hr⟩ : ∃ r, r = rdM b := ⟨_, rfl⟩
  rw [← hr]
  have HRD : Hid (r = rdV (wholeS b).1 (wholeS b).2) := hqZ hr
  clear h hr
  go_enter Try.func6, Try.ntmps6
  go_wp2_with fail
  refine HW.out.mono ?_
  rintro e w1 ⟨cs, rfl, ht, hb⟩
  have HT := hqZ ht
  have HB := hqZ hb
  have HL := hqZ ht.length
  have HO := hqZ ht.one
  have HN4 := hqZ (Blk.new w1 zs5 38)
  have HLW : Hid ((wholeS b).2 = 0 → Lw (wholeS b).1) := hqZ (fun h => by
    obtain ⟨x, e⟩ : ∃ x, wholeS b = (x, 0) := ⟨_, by rw [← h]⟩
    rw [e]
    exact (wholeS_back e).2.2.1)
  clear ht hb HW
  generalize wholeS b = z at *
  obtain ⟨x, code⟩ := z
  simp only at *
  go_upto_region 2 with ((with_reducible show wpList _ _ _ (⟨none, .store _ (.tmp 4) (.tmp 11), _, _, _, _⟩ :: _) _ _); refine wpList_stAgg rfl (.tmp 4) (.tmp 11) aggDer rfl rfl (vs := cs) rfl HL.out HN4.out (Nat.le_refl _) HO.out ?_)
  intro w2 h2 k2
  have h2' : Blk w2 w1.heap.size cs 38 := by
    rw [List.drop_of_length_le (by decide), List.append_nil] at h2
    exact h2
  have hb2 : Below w1.heap.size w1 w2 := ((Below.refl _ _).alloc (Nat.le_refl _) _).trans (k2.below (by omega))
  have H2 := hqZ h2'
  have HT2 := hqZ (HT.out.below hb2)
  have HZ2 : Hid (w1.heap.size ≤ w2.heap.size) := hqZ hb2.size
  have HB2 : Hid (Below w.heap.size w w2) := hqZ (HB.out.trans (hb2.mono HB.out.size))
  clear h2 k2 h2' hb2
  by_cases hcd : code = 0
  · subst hcd
    have HOF := hqZ (msgOf_any x _ cs w2 HT2.out (fun b hb => Nat.lt_of_lt_of_le hb.2 HZ2.out) (HLW.out rfl))
    go_wp2_with ((with_reducible show wpList _ _ _ (⟨some 17, _, _, _, _, _⟩ :: _) _ _); refine wpList_ldAgg rfl (.tmp 4) aggDer rfl rfl (cs := cs) HL.out H2.out.cellsAll ?_)
    refine HOF.out.mono ?_
    rintro e w3 ⟨v, rfl, hb3, hm⟩
    have HB3 : Hid (Below w.heap.size w w3) := hqZ (HB2.out.trans (hb3.mono HB2.out.size))
    have HZ3 : Hid (w1.heap.size ≤ w3.heap.size) := hqZ (Nat.le_trans HZ2.out hb3.size)
    clear hb3 HOF
    cases ho : ofS x with
    | some pts =>
      have HO := hqZ ho
      rw [ho] at hm
      have HM := hqZ hm
      clear ho hm
      have hso : (some pts).isSome = true := rfl
      rw [hso]
      clear hso
      go_wp2_with fail
      go_ret2
      have hr : r = (some (x.tag, pts), 0) := by have h := HRD.out; unfold rdV at h; rw [if_pos rfl, HO.out] at h; exact h
      rw [hr]
      exact ⟨v, rfl, HB3.out, HM.out.tight (fun b hb => Nat.lt_of_lt_of_le hb.2 HZ3.out)⟩
    | none =>
      have HO := hqZ ho
      rw [ho] at hm
      simp only at hm
      subst hm
      clear ho
      have hso : (none : Option (List Pt)).isSome = false := rfl
      rw [hso]
      clear hso
      go_wp2_with fail
      go_ret2
      have hr : r = (none, 4) := by have h := HRD.out; unfold rdV at h; rw [if_pos rfl, HO.out] at h; exact h
      rw [hr]
      exact ⟨_, rfl, HB3.out, rfl⟩
  · have hnb : (code != 0) = true := by simpa using hcd
    have HCD := hqZ hcd
    clear hcd
    go_wp2_with fail
    go_ret2
    have hr : r = (none, code) := by
      have h := HRD.out
      unfold rdV at h
      rw [if_neg HCD.out] at h
      exact h
    rw [hr]
    exact ⟨_, rfl, HB2.out, rfl⟩
end Go.Proofs.Ytpjkidcfidmfaaa
