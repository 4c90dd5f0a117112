/- Texts of this proof, one behind the other: MMsgOE, MMsgOf, MIO, MAlive, MLen, MsgReads, Open. -/
import Derived.Test.YtpjkidcfidmfaaaMgA16
import Derived.OpenShut
import Derived.Deep.Slices
import Derived.ChangeArms
import Derived.WideShapes
namespace Go.Proofs.Ytpjkidcfidmfaaa
set_option linter.unusedSimpArgs false
set_option linter.unusedVariables false
open Go.RowKit
set_option maxHeartbeats 16000000 in
set_option maxRecDepth 100000 in
theorem msgOf_20 (x : Tv) (F : Nat → Prop) (cs : List Value) (w : World) (h : TvF w F x cs) (hF : ∀ b, F b → b < w.heap.size) (hL : Lw x) (htag : x.tag = 20) :
    Calls Try.prog 19 #[.agg cs.toArray] w (OfM w F x) := by
  have HTG := Lib.hid htag
  clear htag
  have HLN := Lib.hid h.length
  have HQ0 := Lib.hid (Blk.new w cs 38)
  have hB0 : Below w.heap.size w (w.alloc (.cells cs.toArray 38)) := (Below.refl _ _).alloc (Nat.le_refl _) _
  have HB0 := Lib.hid hB0
  have HTK := Lib.hid (take_any x F cs _ (h.below hB0) (fun b hb => by have := hF b hb; simp; omega))
  have HL : Hid (∀ y ∈ x.l, y.l.length ≤ 1954687338211) := Lib.hid (fun y hy => by
    obtain ⟨k, t, n, b, l⟩ := x
    have h1 := LsW.mem hL.2 y hy
    obtain ⟨k2, t2, n2, b2, l2⟩ := y
    exact h1.1)
  have HF := Lib.hid hF
  obtain ⟨q, hq⟩ : ∃ q, q = w.heap.size := ⟨_, rfl⟩
  have HQ : Hid (∀ W, Below q w W → BelowO w W) := Lib.hid (fun W h => by rw [hq] at h; exact h)
  have hopen := h.open_
  clear h hB0 hL
  go_enter Try.func19, Try.ntmps19
  go_wp2_with ((with_reducible show wpList _ _ _ (⟨some 6, _, _, _, _, _⟩ :: _) _ _); refine wpList_ldAgg rfl (.tmp 1) aggDer rfl rfl (cs := cs) HLN.out HQ0.out.cellsAll ?_)
  refine HTK.out.mono ?_
  rintro e w0 ⟨p, rfl, ht, hb, hp⟩
  obtain ⟨bv, lv, rows, rfl, hb1, hb2, hb3, hb4, hb5⟩ := hopen
  obtain ⟨pm, hpm⟩ : ∃ pm, pm = w0.heap.size := ⟨_, rfl⟩
  have hA0 : Below w0.heap.size w0 (w0.alloc (.cells [.pointer (some ⟨p, 0, none⟩), .bool false].toArray 104)) := (Below.refl _ _).alloc (Nat.le_refl _) _
  have hpl := ht.lt
  have hz0 : w.heap.size ≤ w0.heap.size := by have := hb.size; simp at this; omega
  have ht0 : Tkn (w0.alloc (.cells [.pointer (some ⟨p, 0, none⟩), .bool false].toArray 104)) F pm p x.l false false := by
    refine ⟨by rw [hpm]; exact Blk.new _ _ _, ht.below hA0, by omega, fun h => ?_, fun b hb => ?_⟩
    · have := HF.out _ h; omega
    · have := HF.out _ hb; simp; omega
  have hq0 := (HQ0.out.below hb (by simp)).alloc (.cells [.pointer (some ⟨p, 0, none⟩), .bool false].toArray 104)
  have hbt : Below w.heap.size w (w0.alloc (.cells [.pointer (some ⟨p, 0, none⟩), .bool false].toArray 104)) := (HB0.out.trans (hb.mono (by simp))).trans (hA0.mono hz0)
  obtain ⟨wt, hwt⟩ : ∃ wt, wt = w0.alloc (.cells [.pointer (some ⟨p, 0, none⟩), .bool false].toArray 104) := ⟨_, rfl⟩
  rw [← hwt] at ht0 hq0 hbt
  have HT := Lib.hid ht0
  have HBT := Lib.hid hbt
  have HQT := Lib.hid hq0
  have HP : Hid (w.heap.size < p ∧ w.heap.size < pm ∧ w.heap.size < wt.heap.size) := Lib.hid (by simp at hp; have := ht0.lt; exact ⟨by omega, by omega, by omega⟩)
  have cT : wt.cell? ⟨w.heap.size, 1, none⟩ = some (.int .i64 x.tag) := HQT.out.cell 1
  have HKb : Hid (∀ W, Keeps (Sm pm p wt.heap.size) wt W → Below w.heap.size w W ∧ Blk W w.heap.size [.int .i64 x.kind, .int .i64 x.tag, .int .u64 (x.n : Int), bv, lv] 38) := Lib.hid (fun W hk =>
    ⟨HBT.out.trans (hk.below (fun b hb => by have := HP.out; rcases hb with h | h | h <;> omega)), HQT.out.keep hk (fun h => by have := HP.out; rcases h with h | h | h <;> omega)⟩)
  clear ht hb hp hb1 hb2 hb3 hb4 hb5 HQ0 HB0 HTK hA0 hpl hz0 ht0 hq0 hbt
  go_upto_region 2 with fail
  show Code.wp _ _ _ _ (w0.alloc (.cells [.pointer (some ⟨p, 0, none⟩), .bool false].toArray 104))
  rw [← hwt, ← hpm]
  clear hwt hpm
  rw [← hq] at *
  clear hq
  have hxt : 20 = x.tag := HTG.out.symm
  obtain ⟨l, hxl⟩ : ∃ l, l = x.l := ⟨_, rfl⟩
  have HXT := Lib.hid hxt
  have HXL := Lib.hid hxl
  rw [← hxt] at cT HKb HQT ⊢
  rw [← hxl] at HT HL
  clear hxt hxl HTG
  have HOM : Hid (∀ W o pts rem bad bad2, (shapeS x.tag).isEmpty = false → runS (shapeS x.tag) (x.l, false, false) = (pts, rem, bad, bad2) → MsgV W F x.tag pts o → OutM W F x o rem bad bad2) := Lib.hid (fun W o pts rem bad bad2 h0 h1 h2 => by unfold OutM; rw [if_neg (by rw [h0]; decide)]; exact ⟨pts, h1, h2⟩)
  rw [← HXT.out] at HOM
  rw [← HXL.out] at HOM
  clear HXT HXL
  go_upto_region 23 with fail
  refine wp_region_held (S := fun W : World => W.cell? ⟨pm, 0, none⟩ = some (.pointer (some ⟨p, 0, none⟩))) (by kernel_rfl) ?_
  change wpAnyH _ _ _ _ _ _ _ _ (World.drew _)
  have HS : (World.drew wt).cell? ⟨pm, 0, none⟩ = some (.pointer (some ⟨p, 0, none⟩)) := HT.out.ptr
  have HT0 := Lib.hid HT.out.drew
  have HK0 : Hid (Keeps (Sm pm p wt.heap.size) wt wt.drew) := Lib.hid (Keeps.refl _ _).drew
  have HR0 : Hid (runS (shapeS 20) (l, false, false) = runS [.s, .n, .n, .t, .i, .b] (l, false, false)) := Lib.hid rfl
  have HP0 : Hid (PtsV wt.drew F [] []) := Lib.hid rfl
  generalize World.drew wt = wd at HS HT0 HK0 HP0 ⊢
  refine tkH 0 232 none (.pointer (some ⟨pm, 0, none⟩)) rfl (by kernel_rfl) (fun _ _ _ h => h) (by rfl) (by intro W hW; go_simp) HS ?_
  simp only [Act.put, q1, q2, q3]
  refine tkH 1 233 none (.pointer (some ⟨pm, 0, none⟩)) rfl (by kernel_rfl) (fun _ _ _ h => h) (by rfl) (by intro W hW; go_simp) HS ?_
  simp only [Act.put, q1, q2, q3]
  refine tkH 2 234 none (.pointer (some ⟨pm, 0, none⟩)) rfl (by kernel_rfl) (fun _ _ _ h => h) (by rfl) (by intro W hW; go_simp) HS ?_
  simp only [Act.put, q1, q2, q3]
  refine tkH 3 235 none (.pointer (some ⟨p, 0, none⟩)) rfl (by kernel_rfl) (fun _ _ _ h => h) (by rfl) (by intro W hW; have hc0 : W.cell? ⟨pm, 0, none⟩ = some (.pointer (some ⟨p, 0, none⟩)) := hW; go_simp) HS ?_
  simp only [Act.put, q1, q2, q3]
  refine tkH 5 237 none (.pointer (some ⟨pm, 0, none⟩)) rfl (by kernel_rfl) (fun _ _ _ h => h) (by rfl) (by intro W hW; go_simp) HS ?_
  simp only [Act.put, q1, q2, q3]
  refine tkH 6 238 none (.pointer (some ⟨pm, 0, none⟩)) rfl (by kernel_rfl) (fun _ _ _ h => h) (by rfl) (by intro W hW; go_simp) HS ?_
  simp only [Act.put, q1, q2, q3]
  refine tkH 7 239 none (.pointer (some ⟨pm, 0, none⟩)) rfl (by kernel_rfl) (fun _ _ _ h => h) (by rfl) (by intro W hW; go_simp) HS ?_
  simp only [Act.put, q1, q2, q3]
  refine tkH 8 240 none (.pointer (some ⟨p, 0, none⟩)) rfl (by kernel_rfl) (fun _ _ _ h => h) (by rfl) (by intro W hW; have hc0 : W.cell? ⟨pm, 0, none⟩ = some (.pointer (some ⟨p, 0, none⟩)) := hW; go_simp) HS ?_
  simp only [Act.put, q1, q2, q3]
  refine tkH 10 242 none (.pointer (some ⟨pm, 0, none⟩)) rfl (by kernel_rfl) (fun _ _ _ h => h) (by rfl) (by intro W hW; go_simp) HS ?_
  simp only [Act.put, q1, q2, q3]
  refine tkH 11 243 none (.pointer (some ⟨pm, 0, none⟩)) rfl (by kernel_rfl) (fun _ _ _ h => h) (by rfl) (by intro W hW; go_simp) HS ?_
  simp only [Act.put, q1, q2, q3]
  refine tkH 12 244 none (.pointer (some ⟨pm, 0, none⟩)) rfl (by kernel_rfl) (fun _ _ _ h => h) (by rfl) (by intro W hW; go_simp) HS ?_
  simp only [Act.put, q1, q2, q3]
  refine tkH 13 245 none (.pointer (some ⟨p, 0, none⟩)) rfl (by kernel_rfl) (fun _ _ _ h => h) (by rfl) (by intro W hW; have hc0 : W.cell? ⟨pm, 0, none⟩ = some (.pointer (some ⟨p, 0, none⟩)) := hW; go_simp) HS ?_
  simp only [Act.put, q1, q2, q3]
  refine tkH 15 247 none (.pointer (some ⟨pm, 0, none⟩)) rfl (by kernel_rfl) (fun _ _ _ h => h) (by rfl) (by intro W hW; go_simp) HS ?_
  simp only [Act.put, q1, q2, q3]
  refine tkH 16 248 none (.pointer (some ⟨pm, 0, none⟩)) rfl (by kernel_rfl) (fun _ _ _ h => h) (by rfl) (by intro W hW; go_simp) HS ?_
  simp only [Act.put, q1, q2, q3]
  refine tkH 17 249 none (.pointer (some ⟨pm, 0, none⟩)) rfl (by kernel_rfl) (fun _ _ _ h => h) (by rfl) (by intro W hW; go_simp) HS ?_
  simp only [Act.put, q1, q2, q3]
  refine tkH 18 250 none (.pointer (some ⟨p, 0, none⟩)) rfl (by kernel_rfl) (fun _ _ _ h => h) (by rfl) (by intro W hW; have hc0 : W.cell? ⟨pm, 0, none⟩ = some (.pointer (some ⟨p, 0, none⟩)) := hW; go_simp) HS ?_
  simp only [Act.put, q1, q2, q3]
  refine tkH 20 252 none (.pointer (some ⟨pm, 0, none⟩)) rfl (by kernel_rfl) (fun _ _ _ h => h) (by rfl) (by intro W hW; go_simp) HS ?_
  simp only [Act.put, q1, q2, q3]
  refine tkH 22 254 none (.pointer (some ⟨pm, 0, none⟩)) rfl (by kernel_rfl) (fun _ _ _ h => h) (by rfl) (by intro W hW; go_simp) HS ?_
  simp only [Act.put, q1, q2, q3]
  refine tkH 23 255 none (.pointer (some ⟨pm, 0, none⟩)) rfl (by kernel_rfl) (fun _ _ _ h => h) (by rfl) (by intro W hW; go_simp) HS ?_
  simp only [Act.put, q1, q2, q3]
  refine tkH 24 256 none (.pointer (some ⟨pm, 0, none⟩)) rfl (by kernel_rfl) (fun _ _ _ h => h) (by rfl) (by intro W hW; go_simp) HS ?_
  simp only [Act.put, q1, q2, q3]
  refine tkH 25 257 none (.pointer (some ⟨p, 0, none⟩)) rfl (by kernel_rfl) (fun _ _ _ h => h) (by rfl) (by intro W hW; have hc0 : W.cell? ⟨pm, 0, none⟩ = some (.pointer (some ⟨p, 0, none⟩)) := hW; go_simp) HS ?_
  simp only [Act.put, q1, q2, q3]
  refine anyH_ready (rs := [4]) (by decide +kernel) (by simp) ?_
  refine AllReadyH.cons (o := { dst := some 236, op := .call { callee := .value (.func 35), args := #[.tmp 235], argTypes := #[101] }, type := _, pos := _, after := _, guard := none }) rfl (fun K hK => ?_) AllReadyH.nil
  go_simp
  refine (nameK_any l false false pm p F wd HT0.out).mono ?_
  rintro e v1 ⟨rfl, ht, hk⟩
  have HR1 : Hid (runS (shapeS 20) (l, false, false) = (.s (nameS l false).1 :: (runS [.n, .n, .t, .i, .b] ((nameS l false).2.1, (nameS l false).2.2, false)).1, (runS [.n, .n, .t, .i, .b] ((nameS l false).2.1, (nameS l false).2.2, false)).2)) := Lib.hid (HR0.out.trans rfl)
  have HP1 : Hid (PtsV v1 F ([] ++ [.s (nameS l false).1]) ([] ++ [.string (tx (nameS l false).1)])) := Lib.hid ((HP0.out.keep hk HT0.out.hs (by rfl)).snoc (p := .s (nameS l false).1) rfl)
  have HT1 := Lib.hid ht
  have HK1 := Lib.hid (keepsM rfl HK0.out (HK0.out.size) hk)
  clear ht hk HT0 HK0 HR0 HP0
  generalize nameS l false = st at *
  obtain ⟨x1, l1, b1⟩ := st
  simp only at *
  have HS := HT1.out.ptr
  refine hK _ _ HS ?_
  clear hK K
  try simp only [Act.put, q1, q2, q3]
  refine anyH_ready (rs := [9]) (by decide +kernel) (by simp) ?_
  refine AllReadyH.cons (o := { dst := some 241, op := .call { callee := .value (.func 36), args := #[.tmp 240], argTypes := #[101] }, type := _, pos := _, after := _, guard := none }) rfl (fun K hK => ?_) AllReadyH.nil
  go_simp
  refine (numK_any l1 b1 false pm p F v1 HT1.out).mono ?_
  rintro e v2 ⟨rfl, ht, hk⟩
  have HR2 : Hid (runS (shapeS 20) (l, false, false) = (.s x1 :: .n (numS l1 b1).1 :: (runS [.n, .t, .i, .b] ((numS l1 b1).2.1, (numS l1 b1).2.2, false)).1, (runS [.n, .t, .i, .b] ((numS l1 b1).2.1, (numS l1 b1).2.2, false)).2)) := Lib.hid (HR1.out.trans rfl)
  have HP2 : Hid (PtsV v2 F ([.s x1] ++ [.n (numS l1 b1).1]) ([.string (tx x1)] ++ [.int .i64 (numS l1 b1).1])) := Lib.hid ((HP1.out.keep hk HT1.out.hs (by rfl)).snoc (p := .n (numS l1 b1).1) rfl)
  have HT2 := Lib.hid ht
  have HK2 := Lib.hid (keepsM rfl HK1.out (HK1.out.size) hk)
  clear ht hk HT1 HK1 HR1 HP1
  generalize numS l1 b1 = st at *
  obtain ⟨x2, l2, b2⟩ := st
  simp only at *
  have HS := HT2.out.ptr
  refine hK _ _ HS ?_
  clear hK K
  try simp only [Act.put, q1, q2, q3]
  refine anyH_ready (rs := [14]) (by decide +kernel) (by simp) ?_
  refine AllReadyH.cons (o := { dst := some 246, op := .call { callee := .value (.func 36), args := #[.tmp 245], argTypes := #[101] }, type := _, pos := _, after := _, guard := none }) rfl (fun K hK => ?_) AllReadyH.nil
  go_simp
  refine (numK_any l2 b2 false pm p F v2 HT2.out).mono ?_
  rintro e v3 ⟨rfl, ht, hk⟩
  have HR3 : Hid (runS (shapeS 20) (l, false, false) = (.s x1 :: .n x2 :: .n (numS l2 b2).1 :: (runS [.t, .i, .b] ((numS l2 b2).2.1, (numS l2 b2).2.2, false)).1, (runS [.t, .i, .b] ((numS l2 b2).2.1, (numS l2 b2).2.2, false)).2)) := Lib.hid (HR2.out.trans rfl)
  have HP3 : Hid (PtsV v3 F ([.s x1, .n x2] ++ [.n (numS l2 b2).1]) ([.string (tx x1), .int .i64 x2] ++ [.int .i64 (numS l2 b2).1])) := Lib.hid ((HP2.out.keep hk HT2.out.hs (by rfl)).snoc (p := .n (numS l2 b2).1) rfl)
  have HT3 := Lib.hid ht
  have HK3 := Lib.hid (keepsM rfl HK2.out (HK2.out.size) hk)
  clear ht hk HT2 HK2 HR2 HP2
  generalize numS l2 b2 = st at *
  obtain ⟨x3, l3, b3⟩ := st
  simp only at *
  have HS := HT3.out.ptr
  refine hK _ _ HS ?_
  clear hK K
  try simp only [Act.put, q1, q2, q3]
  refine anyH_ready (rs := [19]) (by decide +kernel) (by simp) ?_
  refine AllReadyH.cons (o := { dst := some 251, op := .call { callee := .value (.func 39), args := #[.tmp 250], argTypes := #[101] }, type := _, pos := _, after := _, guard := none }) rfl (fun K hK => ?_) AllReadyH.nil
  go_simp
  refine (truthK_any l3 b3 false pm p F v3 HT3.out).mono ?_
  rintro e v4 ⟨rfl, ht, hk⟩
  have HR4 : Hid (runS (shapeS 20) (l, false, false) = (.s x1 :: .n x2 :: .n x3 :: .t (truthS l3 b3).1 :: (runS [.i, .b] ((truthS l3 b3).2.1, (truthS l3 b3).2.2, false)).1, (runS [.i, .b] ((truthS l3 b3).2.1, (truthS l3 b3).2.2, false)).2)) := Lib.hid (HR3.out.trans rfl)
  have HP4 : Hid (PtsV v4 F ([.s x1, .n x2, .n x3] ++ [.t (truthS l3 b3).1]) ([.string (tx x1), .int .i64 x2, .int .i64 x3] ++ [.bool (truthS l3 b3).1])) := Lib.hid ((HP3.out.keep hk HT3.out.hs (by rfl)).snoc (p := .t (truthS l3 b3).1) rfl)
  have HT4 := Lib.hid ht
  have HK4 := Lib.hid (keepsM rfl HK3.out (HK3.out.size) hk)
  clear ht hk HT3 HK3 HR3 HP3
  generalize truthS l3 b3 = st at *
  obtain ⟨x4, l4, b4⟩ := st
  simp only at *
  have HS := HT4.out.ptr
  refine hK _ _ HS ?_
  clear hK K
  try simp only [Act.put, q1, q2, q3]
  refine anyH_ready (rs := [21]) (by decide +kernel) (by simp) ?_
  refine AllReadyH.cons (o := { dst := some 253, op := .call { callee := .value (.func 38), args := #[.tmp 252], argTypes := #[100] }, type := _, pos := _, after := _, guard := none }) rfl (fun K hK => ?_) AllReadyH.nil
  go_simp
  refine (ticket_any l4 b4 false pm p F v4 HT4.out).mono ?_
  rintro e v5 ⟨vb, ⟨rfl, ht, hk⟩, bv5, rfl, hb, ho⟩
  have HR5 : Hid (runS (shapeS 20) (l, false, false) = (.s x1 :: .n x2 :: .n x3 :: .t x4 :: .i (tickS l4 b4 false).1 :: (runS [.b] (tickS l4 b4 false).2).1, (runS [.b] (tickS l4 b4 false).2).2)) := Lib.hid (HR4.out.trans rfl)
  obtain ⟨ab5, cb5, rfl, hcb5, hmb5⟩ := hb.form
  have HP5 : Hid (PtsV v5 F ([.s x1, .n x2, .n x3, .t x4] ++ [.i (tickS l4 b4 false).1]) ([.string (tx x1), .int .i64 x2, .int .i64 x3, .bool x4] ++ [.string (tx (tickS l4 b4 false).1.1), .slice ab5 (tickS l4 b4 false).1.2.length cb5])) := Lib.hid ((HP4.out.keep hk HT4.out.hs (by rfl)).snoc (p := .i (tickS l4 b4 false).1) ⟨_, rfl, hb, ho⟩)
  have HT5 := Lib.hid ht
  have HK5 := Lib.hid (keepsM rfl HK4.out (HK4.out.size) hk)
  clear ht hk hb ho HT4 HK4 HR4 HP4
  generalize tickS l4 b4 false = st at *
  obtain ⟨x5, l5, b5, c5⟩ := st
  simp only at *
  obtain ⟨y5, x5⟩ := x5
  simp only at *
  generalize hz5 : x5.length = z5 at *
  generalize hy5 : tx y5 = ty5 at *
  have HS := HT5.out.ptr
  refine hK _ _ HS ?_
  clear hK K
  try simp only [Act.put, q1, q2, q3]
  refine anyH_ready (rs := [26]) (by decide +kernel) (by simp) ?_
  refine AllReadyH.cons (o := { dst := some 258, op := .call { callee := .value (.func 37), args := #[.tmp 257], argTypes := #[101] }, type := _, pos := _, after := _, guard := none }) rfl (fun K hK => ?_) AllReadyH.nil
  go_simp
  refine (bytesK_any l5 b5 c5 pm p F v5 HT5.out).mono ?_
  rintro e v6 ⟨vb, ⟨rfl, ht, hk⟩, hb, ho⟩
  have HR6 : Hid (runS (shapeS 20) (l, false, false) = (.s x1 :: .n x2 :: .n x3 :: .t x4 :: .i (y5, x5) :: .b (bytesS l5 b5).1 :: (runS [] ((bytesS l5 b5).2.1, (bytesS l5 b5).2.2, c5)).1, (runS [] ((bytesS l5 b5).2.1, (bytesS l5 b5).2.2, c5)).2)) := Lib.hid (HR5.out.trans rfl)
  obtain ⟨ab6, cb6, rfl, hcb6, hmb6⟩ := hb.form
  have HP6 : Hid (PtsV v6 F ([.s x1, .n x2, .n x3, .t x4, .i (y5, x5)] ++ [.b (bytesS l5 b5).1]) ([.string (tx x1), .int .i64 x2, .int .i64 x3, .bool x4, .string ty5, .slice ab5 z5 cb5] ++ [.slice ab6 (bytesS l5 b5).1.length cb6])) := Lib.hid ((HP5.out.keep hk HT5.out.hs (by rfl)).snoc (p := .b (bytesS l5 b5).1) ⟨_, rfl, hb, ho⟩)
  have HT6 := Lib.hid ht
  have HK6 := Lib.hid (keepsM rfl HK5.out (HK5.out.size) hk)
  clear ht hk hb ho HT5 HK5 HR5 HP5
  generalize bytesS l5 b5 = st at *
  obtain ⟨x6, l6, b6⟩ := st
  simp only at *
  generalize hz6 : x6.length = z6 at *
  have HS := HT6.out.ptr
  refine hK _ _ HS ?_
  clear hK K
  try simp only [Act.put, q1, q2, q3]
  refine tkH 27 259 none (.agg #[.string (tx x1), .int .i64 x2, .int .i64 x3, .bool x4, .string ty5, .slice ab5 z5 cb5, .slice ab6 z6 cb6]) rfl (by kernel_rfl) (fun _ _ _ h => h) (by rfl) (by intro W hW; go_simp) HS ?_
  simp only [Act.put, q1, q2, q3]
  refine tkH 28 260 none (.iface 72 (.agg #[.string (tx x1), .int .i64 x2, .int .i64 x3, .bool x4, .string ty5, .slice ab5 z5 cb5, .slice ab6 z6 cb6])) rfl (by kernel_rfl) (fun _ _ _ h => h) (by rfl) (by intro W hW; go_simp) HS ?_
  simp only [Act.put, q1, q2, q3]
  refine tkH 29 5 none (.iface 72 (.agg #[.string (tx x1), .int .i64 x2, .int .i64 x3, .bool x4, .string ty5, .slice ab5 z5 cb5, .slice ab6 z6 cb6])) rfl (by kernel_rfl) (fun _ _ _ h => h) (by rfl) (by intro W hW; go_simp) HS ?_
  simp only [Act.put, q1, q2, q3]
  refine wpAnyH_done (by decide +kernel) ?_ _
  have ho := HOM.out _ _ _ _ _ _ (by decide) HR6.out ⟨_, rfl, HP6.out⟩
  have ht := HT6.out
  have hk := HK6.out
  obtain ⟨hb, hq⟩ := HKb.out _ hk
  have c0 : v6.cell? ⟨q, 0, none⟩ = some (.int .i64 x.kind) := hq.cell 0
  have m0 := ht.ptr
  have m1 : v6.cell? ⟨pm, 1, none⟩ = some (.bool c5) := ht.1.cell 1
  have HX := Lib.hid (OutM.no ho (HQ.out _ hb))
  have HY := Lib.hid (OutM.yes ho (HQ.out _ hb))
  have HD := Lib.hid (done_any l6 b6 p F v6 ht.2.1)
  clear ht hk ho hb hq
  by_cases hk2 : x.kind = 2
  · have HK2 := Lib.hid hk2
    have hkb : (x.kind != 2) = false := by simpa using hk2
    clear hk2
    generalize hdn : (!b6 && l6.isEmpty) = dn at *
    clear hdn
    cases c5 with
    | true =>
      go_wp2_with fail
      go_ret2
      exact HX.out (fun h => by simp at h)
    | false =>
      go_wp2_with fail
      refine HD.out.mono ?_
      rintro e w2 ⟨rfl, rfl⟩
      cases dn with
      | true =>
        go_wp2_with fail
        go_ret2
        exact HY.out HK2.out (by simp) (by first | rfl | trivial) (by first | rfl | trivial)
      | false =>
        go_wp2_with fail
        go_ret2
        exact HX.out (fun h => by simp at h)
  · have hkb : (x.kind != 2) = true := by simpa using hk2
    have HK2 := Lib.hid hk2
    clear hk2
    go_wp2_with fail
    go_ret2
    exact HX.out (fun h => HK2.out h.1)
set_option maxHeartbeats 16000000 in
set_option maxRecDepth 100000 in
theorem msgOf_21 (x : Tv) (F : Nat → Prop) (cs : List Value) (w : World) (h : TvF w F x cs) (hF : ∀ b, F b → b < w.heap.size) (hL : Lw x) (htag : x.tag = 21) :
    Calls Try.prog 19 #[.agg cs.toArray] w (OfM w F x) := by
  have HTG := Lib.hid htag
  clear htag
  have HLN := Lib.hid h.length
  have HQ0 := Lib.hid (Blk.new w cs 38)
  have hB0 : Below w.heap.size w (w.alloc (.cells cs.toArray 38)) := (Below.refl _ _).alloc (Nat.le_refl _) _
  have HB0 := Lib.hid hB0
  have HTK := Lib.hid (take_any x F cs _ (h.below hB0) (fun b hb => by have := hF b hb; simp; omega))
  have HL : Hid (∀ y ∈ x.l, y.l.length ≤ 1954687338211) := Lib.hid (fun y hy => by
    obtain ⟨k, t, n, b, l⟩ := x
    have h1 := LsW.mem hL.2 y hy
    obtain ⟨k2, t2, n2, b2, l2⟩ := y
    exact h1.1)
  have HF := Lib.hid hF
  obtain ⟨q, hq⟩ : ∃ q, q = w.heap.size := ⟨_, rfl⟩
  have HQ : Hid (∀ W, Below q w W → BelowO w W) := Lib.hid (fun W h => by rw [hq] at h; exact h)
  have hopen := h.open_
  clear h hB0 hL
  go_enter Try.func19, Try.ntmps19
  go_wp2_with ((with_reducible show wpList _ _ _ (⟨some 6, _, _, _, _, _⟩ :: _) _ _); refine wpList_ldAgg rfl (.tmp 1) aggDer rfl rfl (cs := cs) HLN.out HQ0.out.cellsAll ?_)
  refine HTK.out.mono ?_
  rintro e w0 ⟨p, rfl, ht, hb, hp⟩
  obtain ⟨bv, lv, rows, rfl, hb1, hb2, hb3, hb4, hb5⟩ := hopen
  obtain ⟨pm, hpm⟩ : ∃ pm, pm = w0.heap.size := ⟨_, rfl⟩
  have hA0 : Below w0.heap.size w0 (w0.alloc (.cells [.pointer (some ⟨p, 0, none⟩), .bool false].toArray 104)) := (Below.refl _ _).alloc (Nat.le_refl _) _
  have hpl := ht.lt
  have hz0 : w.heap.size ≤ w0.heap.size := by have := hb.size; simp at this; omega
  have ht0 : Tkn (w0.alloc (.cells [.pointer (some ⟨p, 0, none⟩), .bool false].toArray 104)) F pm p x.l false false := by
    refine ⟨by rw [hpm]; exact Blk.new _ _ _, ht.below hA0, by omega, fun h => ?_, fun b hb => ?_⟩
    · have := HF.out _ h; omega
    · have := HF.out _ hb; simp; omega
  have hq0 := (HQ0.out.below hb (by simp)).alloc (.cells [.pointer (some ⟨p, 0, none⟩), .bool false].toArray 104)
  have hbt : Below w.heap.size w (w0.alloc (.cells [.pointer (some ⟨p, 0, none⟩), .bool false].toArray 104)) := (HB0.out.trans (hb.mono (by simp))).trans (hA0.mono hz0)
  obtain ⟨wt, hwt⟩ : ∃ wt, wt = w0.alloc (.cells [.pointer (some ⟨p, 0, none⟩), .bool false].toArray 104) := ⟨_, rfl⟩
  rw [← hwt] at ht0 hq0 hbt
  have HT := Lib.hid ht0
  have HBT := Lib.hid hbt
  have HQT := Lib.hid hq0
  have HP : Hid (w.heap.size < p ∧ w.heap.size < pm ∧ w.heap.size < wt.heap.size) := Lib.hid (by simp at hp; have := ht0.lt; exact ⟨by omega, by omega, by omega⟩)
  have cT : wt.cell? ⟨w.heap.size, 1, none⟩ = some (.int .i64 x.tag) := HQT.out.cell 1
  have HKb : Hid (∀ W, Keeps (Sm pm p wt.heap.size) wt W → Below w.heap.size w W ∧ Blk W w.heap.size [.int .i64 x.kind, .int .i64 x.tag, .int .u64 (x.n : Int), bv, lv] 38) := Lib.hid (fun W hk =>
    ⟨HBT.out.trans (hk.below (fun b hb => by have := HP.out; rcases hb with h | h | h <;> omega)), HQT.out.keep hk (fun h => by have := HP.out; rcases h with h | h | h <;> omega)⟩)
  clear ht hb hp hb1 hb2 hb3 hb4 hb5 HQ0 HB0 HTK hA0 hpl hz0 ht0 hq0 hbt
  go_upto_region 2 with fail
  show Code.wp _ _ _ _ (w0.alloc (.cells [.pointer (some ⟨p, 0, none⟩), .bool false].toArray 104))
  rw [← hwt, ← hpm]
  clear hwt hpm
  rw [← hq] at *
  clear hq
  have hxt : 21 = x.tag := HTG.out.symm
  obtain ⟨l, hxl⟩ : ∃ l, l = x.l := ⟨_, rfl⟩
  have HXT := Lib.hid hxt
  have HXL := Lib.hid hxl
  rw [← hxt] at cT HKb HQT ⊢
  rw [← hxl] at HT HL
  clear hxt hxl HTG
  have HOM : Hid (∀ W o pts rem bad bad2, (shapeS x.tag).isEmpty = false → runS (shapeS x.tag) (x.l, false, false) = (pts, rem, bad, bad2) → MsgV W F x.tag pts o → OutM W F x o rem bad bad2) := Lib.hid (fun W o pts rem bad bad2 h0 h1 h2 => by unfold OutM; rw [if_neg (by rw [h0]; decide)]; exact ⟨pts, h1, h2⟩)
  rw [← HXT.out] at HOM
  rw [← HXL.out] at HOM
  clear HXT HXL
  go_upto_region 25 with fail
  refine wp_region_held (S := fun W : World => W.cell? ⟨pm, 0, none⟩ = some (.pointer (some ⟨p, 0, none⟩))) (by kernel_rfl) ?_
  change wpAnyH _ _ _ _ _ _ _ _ (World.drew _)
  have HS : (World.drew wt).cell? ⟨pm, 0, none⟩ = some (.pointer (some ⟨p, 0, none⟩)) := HT.out.ptr
  have HT0 := Lib.hid HT.out.drew
  have HK0 : Hid (Keeps (Sm pm p wt.heap.size) wt wt.drew) := Lib.hid (Keeps.refl _ _).drew
  have HR0 : Hid (runS (shapeS 21) (l, false, false) = runS [.s, .b] (l, false, false)) := Lib.hid rfl
  have HP0 : Hid (PtsV wt.drew F [] []) := Lib.hid rfl
  generalize World.drew wt = wd at HS HT0 HK0 HP0 ⊢
  refine tkH 0 263 none (.pointer (some ⟨pm, 0, none⟩)) rfl (by kernel_rfl) (fun _ _ _ h => h) (by rfl) (by intro W hW; go_simp) HS ?_
  simp only [Act.put, q1, q2, q3]
  refine tkH 1 264 none (.pointer (some ⟨pm, 0, none⟩)) rfl (by kernel_rfl) (fun _ _ _ h => h) (by rfl) (by intro W hW; go_simp) HS ?_
  simp only [Act.put, q1, q2, q3]
  refine tkH 2 265 none (.pointer (some ⟨pm, 0, none⟩)) rfl (by kernel_rfl) (fun _ _ _ h => h) (by rfl) (by intro W hW; go_simp) HS ?_
  simp only [Act.put, q1, q2, q3]
  refine tkH 3 266 none (.pointer (some ⟨p, 0, none⟩)) rfl (by kernel_rfl) (fun _ _ _ h => h) (by rfl) (by intro W hW; have hc0 : W.cell? ⟨pm, 0, none⟩ = some (.pointer (some ⟨p, 0, none⟩)) := hW; go_simp) HS ?_
  simp only [Act.put, q1, q2, q3]
  refine tkH 5 268 none (.pointer (some ⟨pm, 0, none⟩)) rfl (by kernel_rfl) (fun _ _ _ h => h) (by rfl) (by intro W hW; go_simp) HS ?_
  simp only [Act.put, q1, q2, q3]
  refine tkH 6 269 none (.pointer (some ⟨pm, 0, none⟩)) rfl (by kernel_rfl) (fun _ _ _ h => h) (by rfl) (by intro W hW; go_simp) HS ?_
  simp only [Act.put, q1, q2, q3]
  refine tkH 7 270 none (.pointer (some ⟨pm, 0, none⟩)) rfl (by kernel_rfl) (fun _ _ _ h => h) (by rfl) (by intro W hW; go_simp) HS ?_
  simp only [Act.put, q1, q2, q3]
  refine tkH 8 271 none (.pointer (some ⟨p, 0, none⟩)) rfl (by kernel_rfl) (fun _ _ _ h => h) (by rfl) (by intro W hW; have hc0 : W.cell? ⟨pm, 0, none⟩ = some (.pointer (some ⟨p, 0, none⟩)) := hW; go_simp) HS ?_
  simp only [Act.put, q1, q2, q3]
  refine anyH_ready (rs := [4]) (by decide +kernel) (by simp) ?_
  refine AllReadyH.cons (o := { dst := some 267, op := .call { callee := .value (.func 35), args := #[.tmp 266], argTypes := #[101] }, type := _, pos := _, after := _, guard := none }) rfl (fun K hK => ?_) AllReadyH.nil
  go_simp
  refine (nameK_any l false false pm p F wd HT0.out).mono ?_
  rintro e v1 ⟨rfl, ht, hk⟩
  have HR1 : Hid (runS (shapeS 21) (l, false, false) = (.s (nameS l false).1 :: (runS [.b] ((nameS l false).2.1, (nameS l false).2.2, false)).1, (runS [.b] ((nameS l false).2.1, (nameS l false).2.2, false)).2)) := Lib.hid (HR0.out.trans rfl)
  have HP1 : Hid (PtsV v1 F ([] ++ [.s (nameS l false).1]) ([] ++ [.string (tx (nameS l false).1)])) := Lib.hid ((HP0.out.keep hk HT0.out.hs (by rfl)).snoc (p := .s (nameS l false).1) rfl)
  have HT1 := Lib.hid ht
  have HK1 := Lib.hid (keepsM rfl HK0.out (HK0.out.size) hk)
  clear ht hk HT0 HK0 HR0 HP0
  generalize nameS l false = st at *
  obtain ⟨x1, l1, b1⟩ := st
  simp only at *
  have HS := HT1.out.ptr
  refine hK _ _ HS ?_
  clear hK K
  try simp only [Act.put, q1, q2, q3]
  refine anyH_ready (rs := [9]) (by decide +kernel) (by simp) ?_
  refine AllReadyH.cons (o := { dst := some 272, op := .call { callee := .value (.func 37), args := #[.tmp 271], argTypes := #[101] }, type := _, pos := _, after := _, guard := none }) rfl (fun K hK => ?_) AllReadyH.nil
  go_simp
  refine (bytesK_any l1 b1 false pm p F v1 HT1.out).mono ?_
  rintro e v2 ⟨vb, ⟨rfl, ht, hk⟩, hb, ho⟩
  have HR2 : Hid (runS (shapeS 21) (l, false, false) = (.s x1 :: .b (bytesS l1 b1).1 :: (runS [] ((bytesS l1 b1).2.1, (bytesS l1 b1).2.2, false)).1, (runS [] ((bytesS l1 b1).2.1, (bytesS l1 b1).2.2, false)).2)) := Lib.hid (HR1.out.trans rfl)
  obtain ⟨ab2, cb2, rfl, hcb2, hmb2⟩ := hb.form
  have HP2 : Hid (PtsV v2 F ([.s x1] ++ [.b (bytesS l1 b1).1]) ([.string (tx x1)] ++ [.slice ab2 (bytesS l1 b1).1.length cb2])) := Lib.hid ((HP1.out.keep hk HT1.out.hs (by rfl)).snoc (p := .b (bytesS l1 b1).1) ⟨_, rfl, hb, ho⟩)
  have HT2 := Lib.hid ht
  have HK2 := Lib.hid (keepsM rfl HK1.out (HK1.out.size) hk)
  clear ht hk hb ho HT1 HK1 HR1 HP1
  generalize bytesS l1 b1 = st at *
  obtain ⟨x2, l2, b2⟩ := st
  simp only at *
  generalize hz2 : x2.length = z2 at *
  have HS := HT2.out.ptr
  refine hK _ _ HS ?_
  clear hK K
  try simp only [Act.put, q1, q2, q3]
  refine tkH 10 273 none (.agg #[.string (tx x1), .slice ab2 z2 cb2]) rfl (by kernel_rfl) (fun _ _ _ h => h) (by rfl) (by intro W hW; go_simp) HS ?_
  simp only [Act.put, q1, q2, q3]
  refine tkH 11 274 none (.iface 74 (.agg #[.string (tx x1), .slice ab2 z2 cb2])) rfl (by kernel_rfl) (fun _ _ _ h => h) (by rfl) (by intro W hW; go_simp) HS ?_
  simp only [Act.put, q1, q2, q3]
  refine tkH 12 5 none (.iface 74 (.agg #[.string (tx x1), .slice ab2 z2 cb2])) rfl (by kernel_rfl) (fun _ _ _ h => h) (by rfl) (by intro W hW; go_simp) HS ?_
  simp only [Act.put, q1, q2, q3]
  refine wpAnyH_done (by decide +kernel) ?_ _
  have ho := HOM.out _ _ _ _ _ _ (by decide) HR2.out ⟨_, rfl, HP2.out⟩
  have ht := HT2.out
  have hk := HK2.out
  obtain ⟨hb, hq⟩ := HKb.out _ hk
  have c0 : v2.cell? ⟨q, 0, none⟩ = some (.int .i64 x.kind) := hq.cell 0
  have m0 := ht.ptr
  have m1 : v2.cell? ⟨pm, 1, none⟩ = some (.bool false) := ht.1.cell 1
  have HX := Lib.hid (OutM.no ho (HQ.out _ hb))
  have HY := Lib.hid (OutM.yes ho (HQ.out _ hb))
  have HD := Lib.hid (done_any l2 b2 p F v2 ht.2.1)
  clear ht hk ho hb hq
  by_cases hk2 : x.kind = 2
  · have HK2 := Lib.hid hk2
    have hkb : (x.kind != 2) = false := by simpa using hk2
    clear hk2
    generalize hdn : (!b2 && l2.isEmpty) = dn at *
    clear hdn
    go_wp2_with fail
    refine HD.out.mono ?_
    rintro e w2 ⟨rfl, rfl⟩
    cases dn with
    | true =>
      go_wp2_with fail
      go_ret2
      exact HY.out HK2.out (by simp) (by first | rfl | trivial) (by first | rfl | trivial)
    | false =>
      go_wp2_with fail
      go_ret2
      exact HX.out (fun h => by simp at h)
  · have hkb : (x.kind != 2) = true := by simpa using hk2
    have HK2 := Lib.hid hk2
    clear hk2
    go_wp2_with fail
    go_ret2
    exact HX.out (fun h => HK2.out h.1)
set_option maxHeartbeats 16000000 in
set_option maxRecDepth 100000 in
theorem msgOf_22 (x : Tv) (F : Nat → Prop) (cs : List Value) (w : World) (h : TvF w F x cs) (hF : ∀ b, F b → b < w.heap.size) (hL : Lw x) (htag : x.tag = 22) :
    Calls Try.prog 19 #[.agg cs.toArray] w (OfM w F x) := by
  have HTG := Lib.hid htag
  clear htag
  have HLN := Lib.hid h.length
  have HQ0 := Lib.hid (Blk.new w cs 38)
  have hB0 : Below w.heap.size w (w.alloc (.cells cs.toArray 38)) := (Below.refl _ _).alloc (Nat.le_refl _) _
  have HB0 := Lib.hid hB0
  have HTK := Lib.hid (take_any x F cs _ (h.below hB0) (fun b hb => by have := hF b hb; simp; omega))
  have HL : Hid (∀ y ∈ x.l, y.l.length ≤ 1954687338211) := Lib.hid (fun y hy => by
    obtain ⟨k, t, n, b, l⟩ := x
    have h1 := LsW.mem hL.2 y hy
    obtain ⟨k2, t2, n2, b2, l2⟩ := y
    exact h1.1)
  have HF := Lib.hid hF
  obtain ⟨q, hq⟩ : ∃ q, q = w.heap.size := ⟨_, rfl⟩
  have HQ : Hid (∀ W, Below q w W → BelowO w W) := Lib.hid (fun W h => by rw [hq] at h; exact h)
  have hopen := h.open_
  clear h hB0 hL
  go_enter Try.func19, Try.ntmps19
  go_wp2_with ((with_reducible show wpList _ _ _ (⟨some 6, _, _, _, _, _⟩ :: _) _ _); refine wpList_ldAgg rfl (.tmp 1) aggDer rfl rfl (cs := cs) HLN.out HQ0.out.cellsAll ?_)
  refine HTK.out.mono ?_
  rintro e w0 ⟨p, rfl, ht, hb, hp⟩
  obtain ⟨bv, lv, rows, rfl, hb1, hb2, hb3, hb4, hb5⟩ := hopen
  obtain ⟨pm, hpm⟩ : ∃ pm, pm = w0.heap.size := ⟨_, rfl⟩
  have hA0 : Below w0.heap.size w0 (w0.alloc (.cells [.pointer (some ⟨p, 0, none⟩), .bool false].toArray 104)) := (Below.refl _ _).alloc (Nat.le_refl _) _
  have hpl := ht.lt
  have hz0 : w.heap.size ≤ w0.heap.size := by have := hb.size; simp at this; omega
  have ht0 : Tkn (w0.alloc (.cells [.pointer (some ⟨p, 0, none⟩), .bool false].toArray 104)) F pm p x.l false false := by
    refine ⟨by rw [hpm]; exact Blk.new _ _ _, ht.below hA0, by omega, fun h => ?_, fun b hb => ?_⟩
    · have := HF.out _ h; omega
    · have := HF.out _ hb; simp; omega
  have hq0 := (HQ0.out.below hb (by simp)).alloc (.cells [.pointer (some ⟨p, 0, none⟩), .bool false].toArray 104)
  have hbt : Below w.heap.size w (w0.alloc (.cells [.pointer (some ⟨p, 0, none⟩), .bool false].toArray 104)) := (HB0.out.trans (hb.mono (by simp))).trans (hA0.mono hz0)
  obtain ⟨wt, hwt⟩ : ∃ wt, wt = w0.alloc (.cells [.pointer (some ⟨p, 0, none⟩), .bool false].toArray 104) := ⟨_, rfl⟩
  rw [← hwt] at ht0 hq0 hbt
  have HT := Lib.hid ht0
  have HBT := Lib.hid hbt
  have HQT := Lib.hid hq0
  have HP : Hid (w.heap.size < p ∧ w.heap.size < pm ∧ w.heap.size < wt.heap.size) := Lib.hid (by simp at hp; have := ht0.lt; exact ⟨by omega, by omega, by omega⟩)
  have cT : wt.cell? ⟨w.heap.size, 1, none⟩ = some (.int .i64 x.tag) := HQT.out.cell 1
  have HKb : Hid (∀ W, Keeps (Sm pm p wt.heap.size) wt W → Below w.heap.size w W ∧ Blk W w.heap.size [.int .i64 x.kind, .int .i64 x.tag, .int .u64 (x.n : Int), bv, lv] 38) := Lib.hid (fun W hk =>
    ⟨HBT.out.trans (hk.below (fun b hb => by have := HP.out; rcases hb with h | h | h <;> omega)), HQT.out.keep hk (fun h => by have := HP.out; rcases h with h | h | h <;> omega)⟩)
  clear ht hb hp hb1 hb2 hb3 hb4 hb5 HQ0 HB0 HTK hA0 hpl hz0 ht0 hq0 hbt
  go_upto_region 2 with fail
  show Code.wp _ _ _ _ (w0.alloc (.cells [.pointer (some ⟨p, 0, none⟩), .bool false].toArray 104))
  rw [← hwt, ← hpm]
  clear hwt hpm
  rw [← hq] at *
  clear hq
  have hxt : 22 = x.tag := HTG.out.symm
  obtain ⟨l, hxl⟩ : ∃ l, l = x.l := ⟨_, rfl⟩
  have HXT := Lib.hid hxt
  have HXL := Lib.hid hxl
  rw [← hxt] at cT HKb HQT ⊢
  rw [← hxl] at HT HL
  clear hxt hxl HTG
  have HOM : Hid (∀ W o pts rem bad bad2, (shapeS x.tag).isEmpty = false → runS (shapeS x.tag) (x.l, false, false) = (pts, rem, bad, bad2) → MsgV W F x.tag pts o → OutM W F x o rem bad bad2) := Lib.hid (fun W o pts rem bad bad2 h0 h1 h2 => by unfold OutM; rw [if_neg (by rw [h0]; decide)]; exact ⟨pts, h1, h2⟩)
  rw [← HXT.out] at HOM
  rw [← HXL.out] at HOM
  clear HXT HXL
  go_upto_region 27 with fail
  refine wp_region_held (S := fun W : World => W.cell? ⟨pm, 0, none⟩ = some (.pointer (some ⟨p, 0, none⟩))) (by kernel_rfl) ?_
  change wpAnyH _ _ _ _ _ _ _ _ (World.drew _)
  have HS : (World.drew wt).cell? ⟨pm, 0, none⟩ = some (.pointer (some ⟨p, 0, none⟩)) := HT.out.ptr
  have HT0 := Lib.hid HT.out.drew
  have HK0 : Hid (Keeps (Sm pm p wt.heap.size) wt wt.drew) := Lib.hid (Keeps.refl _ _).drew
  have HR0 : Hid (runS (shapeS 22) (l, false, false) = runS [.s, .n, .n] (l, false, false)) := Lib.hid rfl
  have HP0 : Hid (PtsV wt.drew F [] []) := Lib.hid rfl
  generalize World.drew wt = wd at HS HT0 HK0 HP0 ⊢
  refine tkH 0 277 none (.pointer (some ⟨pm, 0, none⟩)) rfl (by kernel_rfl) (fun _ _ _ h => h) (by rfl) (by intro W hW; go_simp) HS ?_
  simp only [Act.put, q1, q2, q3]
  refine tkH 1 278 none (.pointer (some ⟨pm, 0, none⟩)) rfl (by kernel_rfl) (fun _ _ _ h => h) (by rfl) (by intro W hW; go_simp) HS ?_
  simp only [Act.put, q1, q2, q3]
  refine tkH 2 279 none (.pointer (some ⟨pm, 0, none⟩)) rfl (by kernel_rfl) (fun _ _ _ h => h) (by rfl) (by intro W hW; go_simp) HS ?_
  simp only [Act.put, q1, q2, q3]
  refine tkH 3 280 none (.pointer (some ⟨p, 0, none⟩)) rfl (by kernel_rfl) (fun _ _ _ h => h) (by rfl) (by intro W hW; have hc0 : W.cell? ⟨pm, 0, none⟩ = some (.pointer (some ⟨p, 0, none⟩)) := hW; go_simp) HS ?_
  simp only [Act.put, q1, q2, q3]
  refine tkH 5 282 none (.pointer (some ⟨pm, 0, none⟩)) rfl (by kernel_rfl) (fun _ _ _ h => h) (by rfl) (by intro W hW; go_simp) HS ?_
  simp only [Act.put, q1, q2, q3]
  refine tkH 6 283 none (.pointer (some ⟨pm, 0, none⟩)) rfl (by kernel_rfl) (fun _ _ _ h => h) (by rfl) (by intro W hW; go_simp) HS ?_
  simp only [Act.put, q1, q2, q3]
  refine tkH 7 284 none (.pointer (some ⟨pm, 0, none⟩)) rfl (by kernel_rfl) (fun _ _ _ h => h) (by rfl) (by intro W hW; go_simp) HS ?_
  simp only [Act.put, q1, q2, q3]
  refine tkH 8 285 none (.pointer (some ⟨p, 0, none⟩)) rfl (by kernel_rfl) (fun _ _ _ h => h) (by rfl) (by intro W hW; have hc0 : W.cell? ⟨pm, 0, none⟩ = some (.pointer (some ⟨p, 0, none⟩)) := hW; go_simp) HS ?_
  simp only [Act.put, q1, q2, q3]
  refine tkH 10 287 none (.pointer (some ⟨pm, 0, none⟩)) rfl (by kernel_rfl) (fun _ _ _ h => h) (by rfl) (by intro W hW; go_simp) HS ?_
  simp only [Act.put, q1, q2, q3]
  refine tkH 11 288 none (.pointer (some ⟨pm, 0, none⟩)) rfl (by kernel_rfl) (fun _ _ _ h => h) (by rfl) (by intro W hW; go_simp) HS ?_
  simp only [Act.put, q1, q2, q3]
  refine tkH 12 289 none (.pointer (some ⟨pm, 0, none⟩)) rfl (by kernel_rfl) (fun _ _ _ h => h) (by rfl) (by intro W hW; go_simp) HS ?_
  simp only [Act.put, q1, q2, q3]
  refine tkH 13 290 none (.pointer (some ⟨p, 0, none⟩)) rfl (by kernel_rfl) (fun _ _ _ h => h) (by rfl) (by intro W hW; have hc0 : W.cell? ⟨pm, 0, none⟩ = some (.pointer (some ⟨p, 0, none⟩)) := hW; go_simp) HS ?_
  simp only [Act.put, q1, q2, q3]
  refine anyH_ready (rs := [4]) (by decide +kernel) (by simp) ?_
  refine AllReadyH.cons (o := { dst := some 281, op := .call { callee := .value (.func 35), args := #[.tmp 280], argTypes := #[101] }, type := _, pos := _, after := _, guard := none }) rfl (fun K hK => ?_) AllReadyH.nil
  go_simp
  refine (nameK_any l false false pm p F wd HT0.out).mono ?_
  rintro e v1 ⟨rfl, ht, hk⟩
  have HR1 : Hid (runS (shapeS 22) (l, false, false) = (.s (nameS l false).1 :: (runS [.n, .n] ((nameS l false).2.1, (nameS l false).2.2, false)).1, (runS [.n, .n] ((nameS l false).2.1, (nameS l false).2.2, false)).2)) := Lib.hid (HR0.out.trans rfl)
  have HP1 : Hid (PtsV v1 F ([] ++ [.s (nameS l false).1]) ([] ++ [.string (tx (nameS l false).1)])) := Lib.hid ((HP0.out.keep hk HT0.out.hs (by rfl)).snoc (p := .s (nameS l false).1) rfl)
  have HT1 := Lib.hid ht
  have HK1 := Lib.hid (keepsM rfl HK0.out (HK0.out.size) hk)
  clear ht hk HT0 HK0 HR0 HP0
  generalize nameS l false = st at *
  obtain ⟨x1, l1, b1⟩ := st
  simp only at *
  have HS := HT1.out.ptr
  refine hK _ _ HS ?_
  clear hK K
  try simp only [Act.put, q1, q2, q3]
  refine anyH_ready (rs := [9]) (by decide +kernel) (by simp) ?_
  refine AllReadyH.cons (o := { dst := some 286, op := .call { callee := .value (.func 36), args := #[.tmp 285], argTypes := #[101] }, type := _, pos := _, after := _, guard := none }) rfl (fun K hK => ?_) AllReadyH.nil
  go_simp
  refine (numK_any l1 b1 false pm p F v1 HT1.out).mono ?_
  rintro e v2 ⟨rfl, ht, hk⟩
  have HR2 : Hid (runS (shapeS 22) (l, false, false) = (.s x1 :: .n (numS l1 b1).1 :: (runS [.n] ((numS l1 b1).2.1, (numS l1 b1).2.2, false)).1, (runS [.n] ((numS l1 b1).2.1, (numS l1 b1).2.2, false)).2)) := Lib.hid (HR1.out.trans rfl)
  have HP2 : Hid (PtsV v2 F ([.s x1] ++ [.n (numS l1 b1).1]) ([.string (tx x1)] ++ [.int .i64 (numS l1 b1).1])) := Lib.hid ((HP1.out.keep hk HT1.out.hs (by rfl)).snoc (p := .n (numS l1 b1).1) rfl)
  have HT2 := Lib.hid ht
  have HK2 := Lib.hid (keepsM rfl HK1.out (HK1.out.size) hk)
  clear ht hk HT1 HK1 HR1 HP1
  generalize numS l1 b1 = st at *
  obtain ⟨x2, l2, b2⟩ := st
  simp only at *
  have HS := HT2.out.ptr
  refine hK _ _ HS ?_
  clear hK K
  try simp only [Act.put, q1, q2, q3]
  refine anyH_ready (rs := [14]) (by decide +kernel) (by simp) ?_
  refine AllReadyH.cons (o := { dst := some 291, op := .call { callee := .value (.func 36), args := #[.tmp 290], argTypes := #[101] }, type := _, pos := _, after := _, guard := none }) rfl (fun K hK => ?_) AllReadyH.nil
  go_simp
  refine (numK_any l2 b2 false pm p F v2 HT2.out).mono ?_
  rintro e v3 ⟨rfl, ht, hk⟩
  have HR3 : Hid (runS (shapeS 22) (l, false, false) = (.s x1 :: .n x2 :: .n (numS l2 b2).1 :: (runS [] ((numS l2 b2).2.1, (numS l2 b2).2.2, false)).1, (runS [] ((numS l2 b2).2.1, (numS l2 b2).2.2, false)).2)) := Lib.hid (HR2.out.trans rfl)
  have HP3 : Hid (PtsV v3 F ([.s x1, .n x2] ++ [.n (numS l2 b2).1]) ([.string (tx x1), .int .i64 x2] ++ [.int .i64 (numS l2 b2).1])) := Lib.hid ((HP2.out.keep hk HT2.out.hs (by rfl)).snoc (p := .n (numS l2 b2).1) rfl)
  have HT3 := Lib.hid ht
  have HK3 := Lib.hid (keepsM rfl HK2.out (HK2.out.size) hk)
  clear ht hk HT2 HK2 HR2 HP2
  generalize numS l2 b2 = st at *
  obtain ⟨x3, l3, b3⟩ := st
  simp only at *
  have HS := HT3.out.ptr
  refine hK _ _ HS ?_
  clear hK K
  try simp only [Act.put, q1, q2, q3]
  refine tkH 15 292 none (.agg #[.string (tx x1), .int .i64 x2, .int .i64 x3]) rfl (by kernel_rfl) (fun _ _ _ h => h) (by rfl) (by intro W hW; go_simp) HS ?_
  simp only [Act.put, q1, q2, q3]
  refine tkH 16 293 none (.iface 76 (.agg #[.string (tx x1), .int .i64 x2, .int .i64 x3])) rfl (by kernel_rfl) (fun _ _ _ h => h) (by rfl) (by intro W hW; go_simp) HS ?_
  simp only [Act.put, q1, q2, q3]
  refine tkH 17 5 none (.iface 76 (.agg #[.string (tx x1), .int .i64 x2, .int .i64 x3])) rfl (by kernel_rfl) (fun _ _ _ h => h) (by rfl) (by intro W hW; go_simp) HS ?_
  simp only [Act.put, q1, q2, q3]
  refine wpAnyH_done (by decide +kernel) ?_ _
  have ho := HOM.out _ _ _ _ _ _ (by decide) HR3.out ⟨_, rfl, HP3.out⟩
  have ht := HT3.out
  have hk := HK3.out
  obtain ⟨hb, hq⟩ := HKb.out _ hk
  have c0 : v3.cell? ⟨q, 0, none⟩ = some (.int .i64 x.kind) := hq.cell 0
  have m0 := ht.ptr
  have m1 : v3.cell? ⟨pm, 1, none⟩ = some (.bool false) := ht.1.cell 1
  have HX := Lib.hid (OutM.no ho (HQ.out _ hb))
  have HY := Lib.hid (OutM.yes ho (HQ.out _ hb))
  have HD := Lib.hid (done_any l3 b3 p F v3 ht.2.1)
  clear ht hk ho hb hq
  by_cases hk2 : x.kind = 2
  · have HK2 := Lib.hid hk2
    have hkb : (x.kind != 2) = false := by simpa using hk2
    clear hk2
    generalize hdn : (!b3 && l3.isEmpty) = dn at *
    clear hdn
    go_wp2_with fail
    refine HD.out.mono ?_
    rintro e w2 ⟨rfl, rfl⟩
    cases dn with
    | true =>
      go_wp2_with fail
      go_ret2
      exact HY.out HK2.out (by simp) (by first | rfl | trivial) (by first | rfl | trivial)
    | false =>
      go_wp2_with fail
      go_ret2
      exact HX.out (fun h => by simp at h)
  · have hkb : (x.kind != 2) = true := by simpa using hk2
    have HK2 := Lib.hid hk2
    clear hk2
    go_wp2_with fail
    go_ret2
    exact HX.out (fun h => HK2.out h.1)
end Go.Proofs.Ytpjkidcfidmfaaa
/- Contract of msg.Of, all ways. Printed by tools/genmsgof.py. -/
namespace Go.Proofs.Ytpjkidcfidmfaaa
theorem msgOf_any (x : Tv) (F : Nat → Prop) (cs : List Value) (w : World) (h : TvF w F x cs) (hF : ∀ b, F b → b < w.heap.size) (hL : Lw x) :
    Calls Try.prog 19 #[.agg cs.toArray] w (OfM w F x) := by
  rcases (by omega : x.tag = 11 ∨ x.tag = 12 ∨ x.tag = 13 ∨ x.tag = 14 ∨ x.tag = 15 ∨ x.tag = 16 ∨ x.tag = 17 ∨ x.tag = 18 ∨ x.tag = 19 ∨ x.tag = 20 ∨ x.tag = 21 ∨ x.tag = 22 ∨ (x.tag ≠ 11 ∧ x.tag ≠ 12 ∧ x.tag ≠ 13 ∧ x.tag ≠ 14 ∧ x.tag ≠ 15 ∧ x.tag ≠ 16 ∧ x.tag ≠ 17 ∧ x.tag ≠ 18 ∧ x.tag ≠ 19 ∧ x.tag ≠ 20 ∧ x.tag ≠ 21 ∧ x.tag ≠ 22)) with ht | ht | ht | ht | ht | ht | ht | ht | ht | ht | ht | ht | ht
  · exact msgOf_11 x F cs w h hF hL ht
  · exact msgOf_12 x F cs w h hF hL ht
  · exact msgOf_13 x F cs w h hF hL ht
  · exact msgOf_14 x F cs w h hF hL ht
  · exact msgOf_15 x F cs w h hF hL ht
  · exact msgOf_16 x F cs w h hF hL ht
  · exact msgOf_17 x F cs w h hF hL ht
  · exact msgOf_18 x F cs w h hF hL ht
  · exact msgOf_19 x F cs w h hF hL ht
  · exact msgOf_20 x F cs w h hF hL ht
  · exact msgOf_21 x F cs w h hF hL ht
  · exact msgOf_22 x F cs w h hF hL ht
  · exact msgOf_0 x F cs w h hF hL ht
end Go.Proofs.Ytpjkidcfidmfaaa
/- msg.Write and msg.Read. Printed by tools/genmio.py. -/
namespace Go.Proofs.Ytpjkidcfidmfaaa
set_option linter.unusedSimpArgs false
set_option linter.unusedVariables false
open Go.RowKit
/-- A message's bytes, and the error's number. -/
def wrM (t : Int) (pts : List Pt) : List UInt8 × Int := if pts.all ptB = true then wrS (msgTv t pts) else ([], 7)
theorem msgTv_nw (t : Int) (pts : List Pt) (h : pts.all ptB = true) : Nw (msgTv t pts) := by
  refine ⟨by decide, NsW.of fun x hx => ?_⟩
  obtain ⟨p, hp, rfl⟩ := List.mem_map.1 hx
  have hb := List.all_eq_true.1 h p hp
  have htk : ∀ t, Nw (tkTv t) := fun t => ⟨by decide, ⟨by decide, trivial⟩, ⟨by decide, trivial⟩, trivial⟩
  cases p with
  | s l => exact ⟨by decide, trivial⟩
  | n x =>
    obtain ⟨h0, h1⟩ := (timeB_iff x).1 hb
    obtain ⟨n, rfl⟩ := Int.eq_ofNat_of_zero_le h0
    exact ⟨by show n < _; omega, trivial⟩
  | b l => exact ⟨by decide, trivial⟩
  | t b => cases b <;> exact ⟨by decide, trivial⟩
  | i t => exact htk t
  | x l =>
    refine ⟨by decide, NsW.of fun y hy => ?_⟩
    obtain ⟨t, ht, rfl⟩ := List.mem_map.1 hy
    exact htk t
set_option maxHeartbeats 1000000 in
set_option maxRecDepth 100000 in
theorem msgWrite_of (v : Value) (x : Tv) (b : Bool) (w : World) (hval : Calls Try.prog 10 #[v] w (VlRes w x b)) (hn : b = true → Nw x ∧ (writeS x).length ≤ 1073741824) :
    Calls Try.prog 9 #[v] w (WtRes w (if b = true then wrS x else ([], 7))) := by
  have HV := Lib.hid hval
  have HN := Lib.hid hn
  obtain ⟨r, hr⟩ : ∃ r, r = (if b = true then wrS x else ([], 7)) := ⟨_, rfl⟩
  rw [← hr]
  have HR := Lib.hid hr
  clear hval hn hr
  go_enter Try.func9, Try.ntmps9
  go_wp2_with fail
  refine HV.out.mono ?_
  rintro e w1 ⟨cs, rfl, ht, hb⟩
  have HT := Lib.hid ht
  have HB := Lib.hid hb
  have HL := Lib.hid ht.length
  have HO := Lib.hid ht.one
  have HN4 := Lib.hid (Blk.new w1 zs5 38)
  clear ht hb HV
  go_upto_region 2 with ((with_reducible show wpList _ _ _ (⟨none, .store _ (.tmp 4) (.tmp 9), _, _, _, _⟩ :: _) _ _); refine wpList_stAgg rfl (.tmp 4) (.tmp 9) aggDer rfl rfl (vs := cs) rfl HL.out HN4.out (Nat.le_refl _) HO.out ?_)
  intro w2 h2 k2
  have h2' : Blk w2 w1.heap.size cs 38 := by
    rw [List.drop_of_length_le (by decide), List.append_nil] at h2
    exact h2
  have hb2 : Below w1.heap.size w1 w2 := ((Below.refl _ _).alloc (Nat.le_refl _) _).trans (k2.below (by omega))
  have H2 := Lib.hid h2'
  have HT2 := Lib.hid (HT.out.below hb2)
  have HB2 : Hid (Below w.heap.size w w2) := Lib.hid (HB.out.trans (hb2.mono HB.out.size))
  clear h2 k2 h2' hb2
  cases b with
  | false =>
    go_wp2_with fail
    go_ret2
    rw [show r = ([], 7) from HR.out]
    exact ⟨_, rfl, Sl.nil _ _ _, HB2.out⟩
  | true =>
    have HWR := Lib.hid (derWriteIt_any x _ cs w2 HT2.out (HN.out rfl).1 (fun _ => (HN.out rfl).2))
    go_wp2_with ((with_reducible show wpList _ _ _ (⟨some 13, _, _, _, _, _⟩ :: _) _ _); refine wpList_ldAgg rfl (.tmp 4) aggDer rfl rfl (cs := cs) HL.out H2.out.cellsAll ?_)
    refine HWR.out.mono ?_
    rintro e w3 ⟨v3, rfl, hbs, hb3⟩
    obtain ⟨a3, c3, rfl, _⟩ := hbs.form
    have HBS := Lib.hid hbs
    have HB3 : Hid (Below w.heap.size w w3) := Lib.hid (HB2.out.trans (hb3.mono HB2.out.size))
    clear hbs hb3
    go_wp2_with fail
    go_ret2
    rw [show r = wrS x from HR.out]
    exact ⟨_, rfl, HBS.out, HB3.out⟩
theorem msgWrite_any (t : Int) (pts : List Pt) (F : Nat → Prop) (v : Value) (w : World) (hk : pts.map kdOf = shapeS t) (hne : (shapeS t).isEmpty = false) (hv : MsgV w F t pts v) (hok : ∀ p ∈ pts, PtOk p) (hlen : pts.all ptB = true → (writeS (msgTv t pts)).length ≤ 1073741824) :
    Calls Try.prog 9 #[v] w (WtRes w (wrM t pts)) :=
  msgWrite_of v _ _ w (msgValue_any t pts F v w hk hne hv hok) (fun h => ⟨msgTv_nw t pts h, hlen h⟩)
/-- The message that bytes are, and the error's number. -/
def rdV (x : Tv) (code : Int) : Option (Int × List Pt) × Int :=
  if code = 0 then (match ofS x with | some pts => (some (x.tag, pts), 0) | none => (none, 4)) else (none, code)
def rdM (b : List UInt8) : Option (Int × List Pt) × Int := rdV (wholeS b).1 (wholeS b).2
def MrdRes (w : World) (r : Option (Int × List Pt) × Int) (e : Ending) (w' : World) : Prop :=
  ∃ v, e = .returned (.tuple #[v, .int .i64 r.2]) ∧ Below w.heap.size w w' ∧ (match r.1 with | some m => MsgV w' (fun b => b < w'.heap.size) m.1 m.2 v | none => v = .nilIface)
theorem MsgV.tight {w : World} {F G : Nat → Prop} {t : Int} {l : List Pt} {v : Value} (h : MsgV w F t l v) (hg : ∀ b, F b → G b) : MsgV w G t l v := by
  obtain ⟨cs, e, h⟩ := h
  refine ⟨cs, e, ?_⟩
  clear e
  induction l generalizing cs with
  | nil => exact h
  | cons p l ih =>
    obtain ⟨a, b, rfl, h1, h2⟩ := h
    refine ⟨a, b, rfl, ?_, ih _ h2⟩
    cases p with
    | s l => exact h1
    | n x => exact h1
    | t b => exact h1
    | b l => obtain ⟨v, e, h3, h4⟩ := h1; exact ⟨v, e, h3, fun hn y hy => hg y (h4 hn y hy)⟩
    | i t => obtain ⟨v, e, h3, h4⟩ := h1; exact ⟨v, e, h3, fun hn y hy => hg y (h4 hn y hy)⟩
    | x l =>
      obtain ⟨v, e, rows, h3, h4⟩ := h1
      refine ⟨v, e, rows, h3, ?_⟩
      clear h3 e h2 ih
      induction l generalizing rows with
      | nil => exact h4
      | cons t l ih2 =>
        obtain ⟨bv, rs, e, h5, h6, h7⟩ := h4
        exact ⟨bv, rs, e, h5, fun hn y hy => hg y (h6 hn y hy), ih2 _ h7⟩
set_option maxHeartbeats 1000000 in
set_option maxRecDepth 100000 in
theorem msgRead_any (v : Value) (b : List UInt8) (w : World) (h : Bs w v b) : Calls Try.prog 6 #[v] w (MrdRes w (rdM b)) := by
  obtain ⟨a, c, rfl, hc, hm⟩ := h.form
  have HW := Lib.hid (derWhole_any (.slice a b.length c) b w h)
  obtain ⟨r, hr⟩ : ∃ r, r = rdM b := ⟨_, rfl⟩
  rw [← hr]
  have HRD : Hid (r = rdV (wholeS b).1 (wholeS b).2) := Lib.hid hr
  clear h hr
  go_enter Try.func6, Try.ntmps6
  go_wp2_with fail
  refine HW.out.mono ?_
  rintro e w1 ⟨cs, rfl, ht, hb⟩
  have HT := Lib.hid ht
  have HB := Lib.hid hb
  have HL := Lib.hid ht.length
  have HO := Lib.hid ht.one
  have HN4 := Lib.hid (Blk.new w1 zs5 38)
  have HLW : Hid ((wholeS b).2 = 0 → Lw (wholeS b).1) := Lib.hid (fun h => by
    obtain ⟨x, e⟩ : ∃ x, wholeS b = (x, 0) := ⟨_, by rw [← h]⟩
    rw [e]
    exact (wholeS_back e).2.2.1)
  clear ht hb HW
  generalize wholeS b = z at *
  obtain ⟨x, code⟩ := z
  simp only at *
  go_upto_region 2 with ((with_reducible show wpList _ _ _ (⟨none, .store _ (.tmp 4) (.tmp 11), _, _, _, _⟩ :: _) _ _); refine wpList_stAgg rfl (.tmp 4) (.tmp 11) aggDer rfl rfl (vs := cs) rfl HL.out HN4.out (Nat.le_refl _) HO.out ?_)
  intro w2 h2 k2
  have h2' : Blk w2 w1.heap.size cs 38 := by
    rw [List.drop_of_length_le (by decide), List.append_nil] at h2
    exact h2
  have hb2 : Below w1.heap.size w1 w2 := ((Below.refl _ _).alloc (Nat.le_refl _) _).trans (k2.below (by omega))
  have H2 := Lib.hid h2'
  have HT2 := Lib.hid (HT.out.below hb2)
  have HZ2 : Hid (w1.heap.size ≤ w2.heap.size) := Lib.hid hb2.size
  have HB2 : Hid (Below w.heap.size w w2) := Lib.hid (HB.out.trans (hb2.mono HB.out.size))
  clear h2 k2 h2' hb2
  by_cases hcd : code = 0
  · subst hcd
    have HOF := Lib.hid (msgOf_any x _ cs w2 HT2.out (fun b hb => Nat.lt_of_lt_of_le hb.2 HZ2.out) (HLW.out rfl))
    go_wp2_with ((with_reducible show wpList _ _ _ (⟨some 17, _, _, _, _, _⟩ :: _) _ _); refine wpList_ldAgg rfl (.tmp 4) aggDer rfl rfl (cs := cs) HL.out H2.out.cellsAll ?_)
    refine HOF.out.mono ?_
    rintro e w3 ⟨v, rfl, hb3, hm⟩
    have HB3 : Hid (Below w.heap.size w w3) := Lib.hid (HB2.out.trans (hb3.mono HB2.out.size))
    have HZ3 : Hid (w1.heap.size ≤ w3.heap.size) := Lib.hid (Nat.le_trans HZ2.out hb3.size)
    clear hb3 HOF
    cases ho : ofS x with
    | some pts =>
      have HO := Lib.hid ho
      rw [ho] at hm
      have HM := Lib.hid hm
      clear ho hm
      have hso : (some pts).isSome = true := rfl
      rw [hso]
      clear hso
      go_wp2_with fail
      go_ret2
      have hr : r = (some (x.tag, pts), 0) := by have h := HRD.out; unfold rdV at h; rw [if_pos rfl, HO.out] at h; exact h
      rw [hr]
      exact ⟨v, rfl, HB3.out, HM.out.tight (fun b hb => Nat.lt_of_lt_of_le hb.2 HZ3.out)⟩
    | none =>
      have HO := Lib.hid ho
      rw [ho] at hm
      simp only at hm
      subst hm
      clear ho
      have hso : (none : Option (List Pt)).isSome = false := rfl
      rw [hso]
      clear hso
      go_wp2_with fail
      go_ret2
      have hr : r = (none, 4) := by have h := HRD.out; unfold rdV at h; rw [if_pos rfl, HO.out] at h; exact h
      rw [hr]
      exact ⟨_, rfl, HB3.out, rfl⟩
  · have hnb : (code != 0) = true := by simpa using hcd
    have HCD := Lib.hid hcd
    clear hcd
    go_wp2_with fail
    go_ret2
    have hr : r = (none, code) := by
      have h := HRD.out
      unfold rdV at h
      rw [if_neg HCD.out] at h
      exact h
    rw [hr]
    exact ⟨_, rfl, HB2.out, rfl⟩
end Go.Proofs.Ytpjkidcfidmfaaa
/- The document's example of layer 11. -/
namespace Go.Proofs.Ytpjkidcfidmfaaa
set_option linter.unusedSimpArgs false
set_option linter.unusedVariables false
open Go.RowKit
def annB : List UInt8 := [97, 110, 110]
def AnnB : List UInt8 := [65, 110, 110]
def bobB : List UInt8 := [98, 111, 98]
def exB11 : List UInt8 := [143, 13, 64, 3, 97, 110, 110, 64, 3, 98, 111, 98, 0, 1, 7]
theorem exW11 : wrM 15 [.s annB, .s bobB, .n 7] = (exB11, 0) := by decide +kernel
theorem exN11 : wrM 15 [.s AnnB, .s bobB, .n 0] = ([], 7) := by decide +kernel
theorem exA11 : [Pt.s AnnB, Pt.s bobB, Pt.n 0].all ptB = false := by decide +kernel
theorem exR11 : rdM exB11 = (some (15, [.s annB, .s bobB, .n 7]), 0) := by
  have h1 : wholeS exB11 = (msgTv 15 [.s annB, .s bobB, .n 7], 0) := by kernel_rfl
  have h2 : msgR (msgTv 15 [.s annB, .s bobB, .n 7]) = true := by decide +kernel
  unfold rdM rdV
  rw [h1, if_pos rfl, ofS_eq, if_pos h2]
  rfl
theorem exL11 : (writeS (msgTv 15 [.s annB, .s bobB, .n 7])).length ≤ 1073741824 := by
  have : writeS (msgTv 15 [.s annB, .s bobB, .n 7]) = exB11 := by kernel_rfl
  rw [this]
  decide
/-- A Call, as a message in memory. -/
theorem callV (w : World) (a b : List UInt8) (n : Int) : MsgV w (fun _ => True) 15 [.s a, .s b, .n n] (.iface 62 (.agg #[.string (tx a), .string (tx b), .int .i64 n])) :=
  ⟨[.string (tx a), .string (tx b), .int .i64 n], rfl, [.string (tx a)], _, rfl, rfl, [.string (tx b)], _, rfl, rfl, [.int .i64 n], [], rfl, rfl, rfl⟩
theorem callOk (a b : List UInt8) (n : Int) (ha : a.length ≤ 1099511627776) (hb : b.length ≤ 1099511627776) (h1 : -9223372036854775808 ≤ n ∧ n ≤ 9223372036854775807) : ∀ p ∈ [Pt.s a, .s b, .n n], PtOk p := by
  intro p hp
  simp only [List.mem_cons, List.not_mem_nil, or_false] at hp
  rcases hp with rfl | rfl | rfl
  · exact ha
  · exact hb
  · exact h1
set_option maxHeartbeats 4000000 in
set_option maxRecDepth 100000 in
theorem alive11_any (w : World) : Calls Try.prog 5 #[] w fun e w' => e = .returned (.bool true) ∧ Below w.heap.size w w' := by
  have HW1 := Lib.hid (msgWrite_any 15 [.s annB, .s bobB, .n 7] (fun _ => True) _ w rfl rfl (callV w annB bobB 7) (callOk _ _ _ (by decide) (by decide) (by decide)) (fun _ => exL11))
  rw [exW11] at HW1
  go_enter Try.func5, Try.ntmps5
  go_wp2_with fail
  refine HW1.out.mono ?_
  rintro e w1 ⟨v1, rfl, hb1, hw1⟩
  have HB1 := Lib.hid hw1
  have HS1 := Lib.hid hb1
  obtain ⟨a1, c1, rfl, _⟩ := hb1.form
  have HR := Lib.hid (msgRead_any _ exB11 w1 hb1)
  rw [exR11] at HR
  clear hb1 hw1 HW1
  go_wp2_with fail
  refine HR.out.mono ?_
  rintro e w2 ⟨v2, rfl, hw2, hm⟩
  have hm : MsgV w2 (fun b => b < w2.heap.size) 15 [.s annB, .s bobB, .n 7] v2 := hm
  obtain ⟨cs, rfl, hp⟩ := hm
  obtain ⟨_, _, rfl, rfl, _, _, rfl, rfl, _, _, rfl, rfl, hp⟩ := hp
  obtain rfl : _ = [] := hp
  have HB2 : Hid (Below w.heap.size w w2) := Lib.hid (HB1.out.trans (hw2.mono HB1.out.size))
  have HS2 := Lib.hid (HS1.out.below hw2)
  clear hw2 HR
  have hty : typM 15 = 62 := rfl
  have ha : tx annB = ⟨#[97, 110, 110]⟩ := rfl
  have hb : tx bobB = ⟨#[98, 111, 98]⟩ := rfl
  have hk : tx kdcB = ⟨#[107, 100, 99]⟩ := rfl
  simp only [List.cons_append, List.nil_append, hty, ha, hb]
  have HA := Lib.hid ha
  have HBB := Lib.hid hb
  have HKB := Lib.hid hk
  have hta : ∀ W, (Instr.typeAssert (.iface 62 (.agg #[.string ⟨#[97, 110, 110]⟩, .string ⟨#[98, 111, 98]⟩, .int .i64 7])) 20 62 true).run Try.prog W = .ok (.tuple #[.agg #[.string ⟨#[97, 110, 110]⟩, .string ⟨#[98, 111, 98]⟩, .int .i64 7], .bool true]) W := fun W => ta_is _ _ _ (by kernel_rfl) W
  clear ha hb hk hm hty
  obtain ⟨w3, hw3⟩ : ∃ w3, w3 = w2.alloc (.cells #[.string ⟨#[97, 110, 110]⟩, .string ⟨#[98, 111, 98]⟩, .int .i64 7] 62) := ⟨_, rfl⟩
  have HB3 : Hid (Below w.heap.size w w3) := Lib.hid (by rw [hw3]; exact HB2.out.alloc HB2.out.size _)
  have HS3 := Lib.hid (show Bs w3 (.slice a1 exB11.length c1) exB11 by rw [hw3]; exact HS2.out.alloc _)
  have HQ3 : Hid (Blk w3 w2.heap.size [.string ⟨#[97, 110, 110]⟩, .string ⟨#[98, 111, 98]⟩, .int .i64 7] 62) := Lib.hid (by rw [hw3]; exact Blk.new _ _ _)
  have HW2 := Lib.hid (msgWrite_any 15 [.s AnnB, .s bobB, .n 0] (fun _ => True) _ w3 rfl rfl (callV w3 AnnB bobB 0) (callOk _ _ _ (by decide) (by decide) (by decide)) (fun h => by rw [exA11] at h; cases h))
  rw [exN11] at HW2
  go_upto_region 4 with fail
  show Code.wp _ _ _ _ (w2.alloc (.cells #[.string ⟨#[97, 110, 110]⟩, .string ⟨#[98, 111, 98]⟩, .int .i64 7] 62))
  rw [← hw3]
  clear hw3 hta
  go_wp2_with fail
  refine HW2.out.mono ?_
  rintro e w4 ⟨v4, rfl, hb4, hw4⟩
  obtain ⟨a4, c4, rfl, _⟩ := hb4.form
  have HB4 : Hid (Below w.heap.size w w4) := Lib.hid (HB3.out.trans (hw4.mono HB3.out.size))
  have HS4 := Lib.hid (HS3.out.below hw4)
  have HQ4 := Lib.hid (HQ3.out.below hw4 HQ3.out.lt)
  clear hw4 hb4 HW2
  obtain ⟨g, o, rfl, hc⟩ := HS4.out.addr (by rw [bCells_length]; decide)
  have c0 : w4.cell? ⟨g, o, none⟩ = some (.int .u8 143) := hc 0 _ rfl
  have q0 : w4.cell? ⟨w2.heap.size, 0, none⟩ = some (.string ⟨#[97, 110, 110]⟩) := HQ4.out.cell 0
  have q1 : w4.cell? ⟨w2.heap.size, 1, none⟩ = some (.string ⟨#[98, 111, 98]⟩) := HQ4.out.cell 1
  have q2 : w4.cell? ⟨w2.heap.size, 2, none⟩ = some (.int .i64 7) := HQ4.out.cell 2
  have hlen : exB11.length = 15 := rfl
  have hlen0 : ([] : List UInt8).length = 0 := rfl
  rw [hlen, hlen0]
  have HT1 := Lib.hid (msgTo_15 annB bobB 7 w4)
  clear hc hlen hlen0
  go_wp2_with fail
  refine HT1.out.mono ?_
  rintro e w5 ⟨rfl, hb5⟩
  rw [HBB.out]
  have HB5 : Hid (Below w.heap.size w w5) := Lib.hid (HB4.out.trans (hb5.mono HB4.out.size))
  have HT2 := Lib.hid (msgTo_11 [] 0 0 none 0 0 w5)
  clear hb5 HT1
  go_wp2_with fail
  refine HT2.out.mono ?_
  rintro e w6 ⟨rfl, hb6⟩
  rw [HKB.out]
  have HB6 : Hid (Below w.heap.size w w6) := Lib.hid (HB5.out.trans (hb6.mono HB5.out.size))
  have hno : NoMsg (.iface 3 (.int .i64 5)) := ⟨.inr ⟨_, _, rfl, by decide⟩, .inr ⟨_, _, rfl, by decide⟩, .inr ⟨_, _, rfl, by decide⟩, .inr ⟨_, _, rfl, by decide⟩, .inr ⟨_, _, rfl, by decide⟩, .inr ⟨_, _, rfl, by decide⟩, .inr ⟨_, _, rfl, by decide⟩, .inr ⟨_, _, rfl, by decide⟩, .inr ⟨_, _, rfl, by decide⟩, .inr ⟨_, _, rfl, by decide⟩, .inr ⟨_, _, rfl, by decide⟩, .inr ⟨_, _, rfl, by decide⟩⟩
  have HT3 := Lib.hid (msgTo_none (.iface 3 (.int .i64 5)) w6 hno)
  clear hb6 HT2 hno
  go_wp2_with fail
  refine HT3.out.mono ?_
  rintro e w7 ⟨rfl, hb7⟩
  have HB7 : Hid (Below w.heap.size w w7) := Lib.hid (HB6.out.trans (hb7.mono HB6.out.size))
  rw [show tx [] = ⟨#[]⟩ from rfl]
  clear hb7
  go_wp2_with fail
  go_ret
  exact ⟨rfl, HB7.out⟩
end Go.Proofs.Ytpjkidcfidmfaaa
/- Parts of a message are no longer than its bytes. -/
namespace Go.Proofs.Ytpjkidcfidmfaaa
set_option linter.unusedSimpArgs false
set_option linter.unusedVariables false
open Go.RowKit
theorem writesS_mem : ∀ {l : List Tv} {x : Tv}, x ∈ l → (writeS x).length ≤ (writesS l).length
  | y :: l, x, h => by
    rw [writesS, List.length_append]
    rcases List.mem_cons.1 h with rfl | h
    · omega
    · have := writesS_mem h; omega
theorem writeS_bytes (t : Int) (n : Nat) (b : List UInt8) (l : List Tv) : b.length ≤ (writeS (.mk 1 t n b l)).length := by
  rw [writeS, List.length_append]
  have : bodyOf 1 n b (writesS l) = b := rfl
  rw [this]; omega
theorem writeS_list (t : Int) (n : Nat) (b : List UInt8) (l : List Tv) : (writesS l).length ≤ (writeS (.mk 2 t n b l)).length := by
  rw [writeS, List.length_append]
  have : bodyOf 2 n b (writesS l) = writesS l := rfl
  rw [this]; omega
theorem tk_len (t : List UInt8 × List UInt8) : t.1.length ≤ (writeS (tkTv t)).length ∧ t.2.length ≤ (writeS (tkTv t)).length := by
  have h := writeS_list 1 0 [] [.mk 1 0 0 t.1 [], .mk 1 0 0 t.2 []]
  have h1 := writeS_bytes 0 0 t.1 []
  have h2 := writeS_bytes 0 0 t.2 []
  have h3 : (writesS [Tv.mk 1 0 0 t.1 [], .mk 1 0 0 t.2 []]).length = (writeS (.mk 1 0 0 t.1 [])).length + (writeS (.mk 1 0 0 t.2 [])).length := by simp [writesS]
  show _ ≤ (writeS (.mk 2 1 0 [] [.mk 1 0 0 t.1 [], .mk 1 0 0 t.2 []])).length ∧ _ ≤ (writeS (.mk 2 1 0 [] [.mk 1 0 0 t.1 [], .mk 1 0 0 t.2 []])).length
  omega
theorem ptOk_len (p : Pt) (hb : ptB p = true) (h : (writeS (ptTv p)).length ≤ 1000000) : PtOk p := by
  cases p with
  | s l => have := writeS_bytes 0 0 l []; show l.length ≤ _; have h : (writeS (.mk 1 0 0 l [])).length ≤ 1000000 := h; omega
  | n x => obtain ⟨h1, h2⟩ := (timeB_iff x).1 hb; show _ ≤ x ∧ x ≤ _; omega
  | b l => have := writeS_bytes 0 0 l []; show l.length ≤ _; have h : (writeS (.mk 1 0 0 l [])).length ≤ 1000000 := h; omega
  | t b => trivial
  | i t => have := tk_len t; have h : (writeS (tkTv t)).length ≤ 1000000 := h; show _ ≤ _ ∧ _ ≤ _; omega
  | x l =>
    have hb : (l.all rT && decide (l.length ≤ 1)) = true := hb
    rw [Bool.and_eq_true, decide_eq_true_eq] at hb
    have h : (writeS (.mk 2 0 0 [] ((l.takeWhile rT).map tkTv))).length ≤ 1000000 := h
    rw [takeWhile_all _ _ hb.1] at h
    have h1 := writeS_list 0 0 [] (l.map tkTv)
    refine ⟨fun t ht => ?_, by omega⟩
    have h2 := writesS_mem (List.mem_map_of_mem (f := tkTv) ht)
    have h3 := tk_len t
    omega
theorem ptsOk_len (t : Int) (pts : List Pt) (hb : pts.all ptB = true) (h : (writeS (msgTv t pts)).length ≤ 1000000) : ∀ p ∈ pts, PtOk p := by
  intro p hp
  refine ptOk_len p (List.all_eq_true.1 hb p hp) ?_
  have h1 := writeS_list t 0 [] (pts.map ptTv)
  have h2 := writesS_mem (List.mem_map_of_mem (f := ptTv) hp)
  have h : (writeS (.mk 2 t 0 [] (pts.map ptTv))).length ≤ 1000000 := h
  omega
end Go.Proofs.Ytpjkidcfidmfaaa
/- The statement MsgReads, walked. Printed by tools/genmsgreads.py. -/
namespace Go.Proofs.Ytpjkidcfidmfaaa
set_option linter.unusedSimpArgs false
set_option linter.unusedVariables false
open Go.RowKit
set_option maxHeartbeats 8000000 in
set_option maxRecDepth 100000 in
theorem msgReads_walk (v : Value) (b : List UInt8) (w : World) (h : Bs w v b) :
    Calls Try.prog 3 #[v] w fun e w' => e = .returned (.bool true) ∧ Below w.heap.size w w' := by
  obtain ⟨a, c, rfl, hc, hm⟩ := h.form
  have HBS := Lib.hid h
  unfold maxLen at hm
  clear h
  go_enter Try.func3, Try.ntmps3
  go_wp2_with fail
  refine (alive11_any w).mono ?_
  rintro e w1 ⟨rfl, hb1⟩
  have HB1 := Lib.hid hb1
  have HBS1 := Lib.hid (HBS.out.below hb1)
  clear hb1
  by_cases hl : 5000 < b.length
  · have hl' : (5000 : Int) < b.length := by omega
    go_wp2_with fail
    go_ret
    exact ⟨rfl, HB1.out⟩
  · have hl' : ¬ (5000 : Int) < b.length := by omega
    have HRD := Lib.hid (msgRead_any _ b w1 HBS1.out)
    obtain ⟨x, er, hwh⟩ : ∃ x er, wholeS b = (x, er) := ⟨_, _, rfl⟩
    have HWE := Lib.hid hwh
    have HRR : Hid (rdM b = rdV x er) := Lib.hid (by unfold rdM; rw [hwh])
    rw [HRR.out] at HRD
    clear hwh HRR
    go_wp2_with fail
    refine HRD.out.mono ?_
    rintro e w2 ⟨v2, rfl, hb2, hm2⟩
    have HB2 : Hid (Below w.heap.size w w2) := Lib.hid (HB1.out.trans (hb2.mono HB1.out.size))
    have HBS2 := Lib.hid (HBS1.out.below hb2)
    have HM2 := Lib.hid hm2
    have HWH := Lib.hid (refWhole_any _ b w2 HBS2.out)
    rw [HWE.out] at HWH
    clear hb2 hm2 HRD HBS1 HB1
    obtain ⟨rc, hrc⟩ : ∃ rc, rc = (rdV x er).2 := ⟨_, rfl⟩
    rw [← hrc]
    have HRC := Lib.hid hrc
    clear hrc
    go_wp2_with fail
    refine HWH.out.mono ?_
    rintro e w3 ⟨cs, rfl, htv, hb3⟩
    have HCL := Lib.hid htv.length
    have HCO := Lib.hid htv.one
    have HTV3 : Hid (TvF w3 (fun y => w2.heap.size ≤ y ∧ y < w3.heap.size) x cs) := Lib.hid htv
    have HN3 := Lib.hid (Blk.new w3 zs5 30)
    have HB3 : Hid (Below w.heap.size w w3) := Lib.hid (HB2.out.trans (hb3.mono HB2.out.size))
    have HB23 := Lib.hid hb3
    clear htv hb3 HWH
    go_upto_region 7 with ((with_reducible show wpList _ _ _ (⟨none, .store _ (.tmp 5) (.tmp 24), _, _, _, _⟩ :: _) _ _); refine wpList_stAgg rfl (.tmp 5) (.tmp 24) aggRef rfl rfl (vs := cs) rfl HCL.out HN3.out (Nat.le_refl _) HCO.out ?_)
    intro w4 h4 k4
    have h4' : Blk w4 w3.heap.size cs 30 := by
      rw [List.drop_of_length_le (by decide), List.append_nil] at h4
      exact h4
    have hb4 : Below w3.heap.size w3 w4 := ((Below.refl _ _).alloc (Nat.le_refl _) _).trans (k4.below (by omega))
    have H4 := Lib.hid h4'
    have HTV4 := Lib.hid (HTV3.out.below hb4)
    have HB4 : Hid (Below w.heap.size w w4) := Lib.hid (HB3.out.trans (hb4.mono HB3.out.size))
    have HB24 : Hid (Below w2.heap.size w2 w4) := Lib.hid (HB23.out.trans (hb4.mono HB23.out.size))
    obtain ⟨p5, hp5⟩ : ∃ p5, p5 = w3.heap.size := ⟨_, rfl⟩
    rw [← hp5] at H4 ⊢
    clear h4 k4 h4' hb4 hp5 HTV3 HN3 HB23
    by_cases hec : er = 0
    · subst hec
      have HRT := Lib.hid (refRight11_any x _ cs w4 HTV4.out)
      obtain ⟨d, hd⟩ : ∃ d, d = msgR x := ⟨_, rfl⟩
      rw [← hd] at HRT
      have HD := Lib.hid hd
      clear hd
      go_wp2_with ((with_reducible show wpList _ _ _ (⟨some 35, _, _, _, _, _⟩ :: _) _ _); refine wpList_ldAgg rfl (.tmp 5) aggRef rfl rfl (cs := cs) HCL.out H4.out.cellsAll ?_)
      refine HRT.out.mono ?_
      rintro e w5 ⟨rfl, hb5⟩
      have HB5 : Hid (Below w.heap.size w w5) := Lib.hid (HB4.out.trans (hb5.mono HB4.out.size))
      have HB25 : Hid (Below w2.heap.size w2 w5) := Lib.hid (HB24.out.trans (hb5.mono HB24.out.size))
      have H5 := Lib.hid (H4.out.below hb5 H4.out.lt)
      have HTV5 := Lib.hid (HTV4.out.below hb5)
      clear hb5 HRT
      cases d with
      | false =>
        have hv : rdV x 0 = (none, 4) := by
          unfold rdV
          rw [if_pos rfl, ofS_eq, if_neg (by rw [← HD.out]; decide)]
        obtain rfl : rc = 4 := by rw [HRC.out, hv]
        have hn : v2 = .nilIface := by have := HM2.out; rw [hv] at this; exact this
        subst hn
        clear hv
        go_wp2_with fail
        go_ret
        exact ⟨rfl, HB5.out⟩
      | true =>
        have hback := wholeS_back HWE.out
        have hmb := msg_back hback.2.2.2.1 HD.out.symm
        have hv : rdV x 0 = (some (x.tag, ptsOf (shapeS x.tag) x.l), 0) := by
          unfold rdV
          rw [if_pos rfl, ofS_eq, if_pos HD.out.symm]
        obtain rfl : rc = 0 := by rw [HRC.out, hv]
        have hm := HM2.out
        rw [hv] at hm
        have hm : MsgV w2 (fun b => b < w2.heap.size) x.tag (ptsOf (shapeS x.tag) x.l) v2 := hm
        obtain ⟨t, ht⟩ : ∃ t, t = x.tag := ⟨_, rfl⟩
        obtain ⟨pts, hpts⟩ : ∃ pts, pts = ptsOf (shapeS x.tag) x.l := ⟨_, rfl⟩
        rw [← hpts, ← ht] at hm hmb
        have HMB := Lib.hid hmb
        have HM5 := Lib.hid (hm.below HB25.out)
        have HBK := Lib.hid hback
        clear hv hm hmb hback ht hpts HD HM2
        have HLN : Hid ((writeS (msgTv t pts)).length ≤ 1000000) := Lib.hid (by rw [HMB.out.1, HBK.out.2.2.2.2]; omega)
        have HOK : Hid (∀ p ∈ pts, PtOk p) := Lib.hid (ptsOk_len t pts HMB.out.2.1 HLN.out)
        have HVF : Hid (∃ T y, v2 = .iface T y) := Lib.hid (by obtain ⟨cs, e, _⟩ := HM5.out; exact ⟨_, _, e⟩)
        obtain ⟨vT, vy, hvy⟩ := HVF.out
        subst hvy
        have HWR := Lib.hid (msgWrite_any t pts _ _ w5 HMB.out.2.2.1 HMB.out.2.2.2 HM5.out HOK.out (fun _ => by have := HLN.out; omega))
        have HWM : Hid (wrM t pts = (b, 0)) := Lib.hid (by unfold wrM; rw [if_pos HMB.out.2.1, HMB.out.1]; exact HBK.out.1)
        rw [HWM.out] at HWR
        clear HWM HVF
        go_wp2_with fail
        refine HWR.out.mono ?_
        rintro e w6 ⟨v6, rfl, hs6, hb6⟩
        obtain ⟨a6, c6, rfl, _⟩ := hs6.form
        have HB6 : Hid (Below w.heap.size w w6) := Lib.hid (HB5.out.trans (hb6.mono HB5.out.size))
        have HB26 : Hid (Below w2.heap.size w2 w6) := Lib.hid (HB25.out.trans (hb6.mono HB25.out.size))
        have H6 := Lib.hid (H5.out.below hb6 H5.out.lt)
        have HTV6 := Lib.hid (HTV5.out.below hb6)
        have HM6 := Lib.hid (HM5.out.below hb6)
        have HS6 := Lib.hid hs6
        have HVL := Lib.hid (msgValue_any t pts _ _ w6 HMB.out.2.2.1 HMB.out.2.2.2 HM6.out HOK.out)
        rw [HMB.out.1, HMB.out.2.1] at HVL
        clear hb6 hs6 HWR H5 HTV5 HM5 HOK
        go_wp2_with fail
        refine HVL.out.mono ?_
        rintro e w7 ⟨cy, rfl, hty, hb7⟩
        have HYL := Lib.hid hty.length
        have HYO := Lib.hid hty.one
        have HY7 := Lib.hid hty
        have HN7 := Lib.hid (Blk.new w7 zs5 38)
        have HB7 : Hid (Below w6.heap.size w6 w7) := Lib.hid hb7
        clear hty hb7 HVL
        go_upto_region 13 with ((with_reducible show wpList _ _ _ (⟨none, .store _ (.tmp 9) (.tmp 52), _, _, _, _⟩ :: _) _ _); refine wpList_stAgg rfl (.tmp 9) (.tmp 52) aggDer rfl rfl (vs := cy) rfl HYL.out HN7.out (Nat.le_refl _) HYO.out ?_)
        intro w8 h8 k8
        have h8' : Blk w8 w7.heap.size cy 38 := by
          rw [List.drop_of_length_le (by decide), List.append_nil] at h8
          exact h8
        have hb8 : Below w7.heap.size w7 w8 := ((Below.refl _ _).alloc (Nat.le_refl _) _).trans (k8.below (by omega))
        have H8 := Lib.hid h8'
        have HY8 := Lib.hid (HY7.out.below hb8)
        have HB68 : Hid (Below w6.heap.size w6 w8) := Lib.hid (HB7.out.trans (hb8.mono HB7.out.size))
        have HB8 : Hid (Below w.heap.size w w8) := Lib.hid (HB6.out.trans (HB68.out.mono HB6.out.size))
        obtain ⟨p9, hp9⟩ : ∃ p9, p9 = w7.heap.size := ⟨_, rfl⟩
        rw [← hp9] at H8 ⊢
        clear h8 k8 h8' hb8 hp9 HY7 HN7 HB7
        go_upto_region 13 with fail
        have HX8 := Lib.hid (H6.out.below HB68.out H6.out.lt)
        have HTX8 := Lib.hid (HTV6.out.below HB68.out)
        have HM8 := Lib.hid (HM6.out.below HB68.out)
        have HS8 := Lib.hid (HS6.out.below HB68.out)
        have HA8 := Lib.hid ((HBS2.out.below HB26.out).below HB68.out)
        have hp5 : p5 < w8.heap.size := HX8.out.lt
        have hp9 : p9 < w8.heap.size := H8.out.lt
        have HLW := Lib.hid HBK.out.2.2.1
        obtain ⟨wd, hwd⟩ : ∃ wd, wd = World.drew w8 := ⟨_, rfl⟩
        have HS0 : Hid (Below w8.heap.size w8 wd) := Lib.hid (by rw [hwd]; exact (Below.refl _ _).drew)
        clear HB68 HB26 H6 HTV6 HM6 HS6 HBS2
        refine wp_region_held (S := fun W => Below w8.heap.size w8 W) (by kernel_rfl) ?_
        change wpAnyH _ _ _ _ _ _ _ _ (World.drew _)
        rw [← hwd]
        clear hwd
        refine tkH 0 54 none (.int .i64 0) rfl (by kernel_rfl) (fun _ _ _ h => h) (by rfl) (by intro W hW; go_simp) HS0.out ?_
        simp only [Act.put, q1, q2, q3]
        refine tkH 1 55 none (.bool true) rfl (by kernel_rfl) (fun _ _ _ h => h) (by rfl) (by intro W hW; go_simp) HS0.out ?_
        simp only [Act.put, q1, q2, q3]
        refine tkH 2 56 none (.bool true) rfl (by kernel_rfl) (fun _ _ _ h => h) (by rfl) (by intro W hW; go_simp) HS0.out ?_
        simp only [Act.put, q1, q2, q3]
        refine tkH 3 57 (some (2, true)) (.int .i64 0) rfl (by kernel_rfl) (fun _ _ _ h => h) (by rfl) (by intro W hW; go_simp) HS0.out ?_
        simp only [Act.put, q1, q2, q3]
        refine tkH 4 58 (some (2, true)) (.bool true) rfl (by kernel_rfl) (fun _ _ _ h => h) (by rfl) (by intro W hW; go_simp) HS0.out ?_
        simp only [Act.put, q1, q2, q3]
        refine tkH 5 59 none (.bool true) rfl (by kernel_rfl) (fun _ _ _ h => h) (by rfl) (by intro W hW; go_simp) HS0.out ?_
        simp only [Act.put, q1, q2, q3]
        refine tkH 6 60 none (.bool true) rfl (by kernel_rfl) (fun _ _ _ h => h) (by rfl) (by intro W hW; go_simp) HS0.out ?_
        simp only [Act.put, q1, q2, q3]
        refine tkH 7 61 (some (6, true)) (.slice a b.length c) rfl (by kernel_rfl) (fun _ _ _ h => h) (by rfl) (by intro W hW; go_simp) HS0.out ?_
        simp only [Act.put, q1, q2, q3]
        refine tkH 8 62 (some (6, true)) (.slice a6 b.length c6) rfl (by kernel_rfl) (fun _ _ _ h => h) (by rfl) (by intro W hW; go_simp) HS0.out ?_
        simp only [Act.put, q1, q2, q3]
        refine anyH_ready (rs := [9]) (by decide +kernel) (by simp) ?_
        refine AllReadyH.cons (o := { dst := some 63, op := .call { callee := .value (.func 11), args := #[.tmp 61, .tmp 62], argTypes := #[22, 22] }, type := _, pos := _, after := _, guard := some (6, true) }) rfl (fun K hK => ?_) AllReadyH.nil
        go_simp
        refine (same_b _ _ b b wd (HA8.out.below HS0.out) (HS8.out.below HS0.out)).mono ?_
        rintro e v1 ⟨rfl, hb⟩
        have HS0 : Hid (Below w8.heap.size w8 v1) := Lib.hid (HS0.out.trans (hb.mono HS0.out.size))
        clear hb
        rw [show decide (b = b) = true from by simp]
        refine hK _ _ HS0.out ?_
        clear hK K
        try simp only [Act.put, q1, q2, q3]
        refine tkH 10 64 none (.bool true) rfl (by kernel_rfl) (fun _ _ _ h => h) (by rfl) (by intro W hW; go_simp) HS0.out ?_
        simp only [Act.put, q1, q2, q3]
        refine tkH 11 65 none (.bool true) rfl (by kernel_rfl) (fun _ _ _ h => h) (by rfl) (by intro W hW; go_simp) HS0.out ?_
        simp only [Act.put, q1, q2, q3]
        refine tkH 12 66 (some (11, true)) (.bool true) rfl (by kernel_rfl) (fun _ _ _ h => h) (by rfl) (by intro W hW; go_simp) HS0.out ?_
        simp only [Act.put, q1, q2, q3]
        refine tkH 13 67 none (.bool true) rfl (by kernel_rfl) (fun _ _ _ h => h) (by rfl) (by intro W hW; go_simp) HS0.out ?_
        simp only [Act.put, q1, q2, q3]
        refine tkH 14 68 none (.bool true) rfl (by kernel_rfl) (fun _ _ _ h => h) (by rfl) (by intro W hW; go_simp) HS0.out ?_
        simp only [Act.put, q1, q2, q3]
        refine tkH 15 69 (some (14, true)) (.agg cy.toArray) rfl (by kernel_rfl) (fun _ _ _ h => h) (by rfl) (by intro W hW; exact exec_ldAgg rfl aggDer rfl HYL.out (H8.out.below hW hp9).cellsAll) HS0.out ?_
        simp only [Act.put, q1, q2, q3]
        refine tkH 17 71 (some (14, true)) (.agg cs.toArray) rfl (by kernel_rfl) (fun _ _ _ h => h) (by rfl) (by intro W hW; exact exec_ldAgg rfl aggRef rfl HCL.out (HX8.out.below hW hp5).cellsAll) HS0.out ?_
        simp only [Act.put, q1, q2, q3]
        refine anyH_ready (rs := [16]) (by decide +kernel) (by simp) ?_
        refine AllReadyH.cons (o := { dst := some 70, op := .call { callee := .value (.func 13), args := #[.tmp 69], argTypes := #[38] }, type := _, pos := _, after := _, guard := some (14, true) }) rfl (fun K hK => ?_) AllReadyH.nil
        go_simp
        refine (plain_any x _ cy v1 (HY8.out.below HS0.out) HLW.out).mono ?_
        rintro e v2 ⟨cz, rfl, htz, hb⟩
        have HS0 : Hid (Below w8.heap.size w8 v2) := Lib.hid (HS0.out.trans (hb.mono HS0.out.size))
        clear hb
        have HTZ := Lib.hid htz
        clear htz
        refine hK _ _ HS0.out ?_
        clear hK K
        try simp only [Act.put, q1, q2, q3]
        refine anyH_ready (rs := [18]) (by decide +kernel) (by simp) ?_
        refine AllReadyH.cons (o := { dst := some 72, op := .call { callee := .value (.func 12), args := #[.tmp 70, .tmp 71], argTypes := #[30, 30] }, type := _, pos := _, after := _, guard := some (14, true) }) rfl (fun K hK => ?_) AllReadyH.nil
        go_simp
        refine (refSameT_any x x _ _ cz cs v2 HTZ.out (HTX8.out.below HS0.out)).mono ?_
        rintro e v3 ⟨rfl, hb⟩
        have HS0 : Hid (Below w8.heap.size w8 v3) := Lib.hid (HS0.out.trans (hb.mono HS0.out.size))
        clear hb
        rw [(tvEq_iff x x).2 rfl]
        refine hK _ _ HS0.out ?_
        clear hK K
        try simp only [Act.put, q1, q2, q3]
        refine tkH 19 73 none (.bool true) rfl (by kernel_rfl) (fun _ _ _ h => h) (by rfl) (by intro W hW; go_simp) HS0.out ?_
        simp only [Act.put, q1, q2, q3]
        refine tkH 20 74 none (.bool true) rfl (by kernel_rfl) (fun _ _ _ h => h) (by rfl) (by intro W hW; go_simp) HS0.out ?_
        simp only [Act.put, q1, q2, q3]
        refine tkH 21 75 (some (20, true)) (.iface vT vy) rfl (by kernel_rfl) (fun _ _ _ h => h) (by rfl) (by intro W hW; go_simp) HS0.out ?_
        simp only [Act.put, q1, q2, q3]
        refine tkH 23 77 (some (20, true)) (.agg cs.toArray) rfl (by kernel_rfl) (fun _ _ _ h => h) (by rfl) (by intro W hW; exact exec_ldAgg rfl aggRef rfl HCL.out (HX8.out.below hW hp5).cellsAll) HS0.out ?_
        simp only [Act.put, q1, q2, q3]
        refine anyH_ready (rs := [22]) (by decide +kernel) (by simp) ?_
        refine AllReadyH.cons (o := { dst := some 76, op := .call { callee := .value (.func 14), args := #[.tmp 75], argTypes := #[20] }, type := _, pos := _, after := _, guard := some (20, true) }) rfl (fun K hK => ?_) AllReadyH.nil
        go_simp
        refine (msgTo_any t pts _ _ v3 HMB.out.2.2.1 HMB.out.2.2.2 (HM8.out.below HS0.out)).mono ?_
        rintro e v4 ⟨rfl, hb⟩
        have HS0 : Hid (Below w8.heap.size w8 v4) := Lib.hid (HS0.out.trans (hb.mono HS0.out.size))
        clear hb
        refine hK _ _ HS0.out ?_
        clear hK K
        try simp only [Act.put, q1, q2, q3]
        refine anyH_ready (rs := [24]) (by decide +kernel) (by simp) ?_
        refine AllReadyH.cons (o := { dst := some 78, op := .call { callee := .value (.func 15), args := #[.tmp 77], argTypes := #[30] }, type := _, pos := _, after := _, guard := some (20, true) }) rfl (fun K hK => ?_) AllReadyH.nil
        go_simp
        refine (refTo_any t pts _ cs v4 (by rw [HMB.out.1]; exact HTX8.out.below HS0.out) HMB.out.2.2.1 HMB.out.2.2.2).mono ?_
        rintro e v5 ⟨rfl, hb⟩
        have HS0 : Hid (Below w8.heap.size w8 v5) := Lib.hid (HS0.out.trans (hb.mono HS0.out.size))
        clear hb
        refine hK _ _ HS0.out ?_
        clear hK K
        try simp only [Act.put, q1, q2, q3]
        refine tkH 25 79 (some (20, true)) (.bool true) rfl (by kernel_rfl) (fun _ _ _ h => h) (by rfl) (by intro W hW; go_simp) HS0.out ?_
        simp only [Act.put, q1, q2, q3]
        refine tkH 26 80 none (.bool true) rfl (by kernel_rfl) (fun _ _ _ h => h) (by rfl) (by intro W hW; go_simp) HS0.out ?_
        simp only [Act.put, q1, q2, q3]
        refine tkH 27 2 none (.bool true) rfl (by kernel_rfl) (fun _ _ _ h => h) (by rfl) (by intro W hW; go_simp) HS0.out ?_
        simp only [Act.put, q1, q2, q3]
        refine wpAnyH_done (by decide +kernel) ?_ _
        go_wp2_with fail
        go_ret
        exact ⟨rfl, HB8.out.trans (HS0.out.mono HB8.out.size)⟩
    · have hv : rdV x er = (none, er) := by
        unfold rdV
        rw [if_neg hec]
      obtain rfl : rc = er := by rw [HRC.out, hv]
      have hn : v2 = .nilIface := by have := HM2.out; rw [hv] at this; exact this
      subst hn
      have hne : (rc != 0) = true := by simpa using hec
      clear hv hec
      go_wp2_with fail
      go_ret
      exact ⟨rfl, HB4.out⟩
end Go.Proofs.Ytpjkidcfidmfaaa
/- Arguments that are slices of structs, opened: what can be read as data has cells of the right forms. No program. -/
namespace Go.Proofs.Ytpjkidcfidmfaaa
set_option linter.unusedSimpArgs false
set_option linter.unusedVariables false
open Go.RowKit
def flatFs (rec : TypeId → Option (List TypeId)) (cells : TypeId → Nat) : List Field → Nat → Option (List TypeId × Nat)
  | [], o => some ([], o)
  | f :: fs, o =>
    match rec f.type with
    | some l => if f.offset = o ∧ l.length = cells f.type then (flatFs rec cells fs (o + l.length)).map fun x => (l ++ x.1, x.2) else none
    | none => none
/-- The types of a type's cells, structs and arrays taken apart. -/
def flatTy (P : Program) : Nat → TypeId → Option (List TypeId)
  | 0, _ => none
  | fuel + 1, t =>
    match P.underlying t with
    | some (.struct fs) => match flatFs (flatTy P fuel) P.cellsOf fs.toList 0 with
      | some (l, o) => if o = P.cellsOf t then some l else none
      | none => none
    | some (.array n e) => match flatTy P fuel e with
      | some l => if l.length = P.cellsOf e ∧ n * l.length = P.cellsOf t then some ((List.range n).flatMap fun _ => l) else none
      | none => none
    | some _ => some [t]
    | none => none
theorem flatFs_ok {rec : TypeId → Option (List TypeId)} {cells : TypeId → Nat} : ∀ {fs : List Field} {o : Nat} {L : List TypeId} {o' : Nat}, flatFs rec cells fs o = some (L, o') →
    o' = o + L.length ∧ ∀ j t', L[j]? = some t' → ∃ f ∈ fs, ∃ l k, rec f.type = some l ∧ l[k]? = some t' ∧ f.offset + k = o + j ∧ l.length = cells f.type ∧ f.offset + l.length ≤ o'
  | [], o, L, o', h => by
    simp only [flatFs, Option.some.injEq, Prod.mk.injEq] at h
    obtain ⟨rfl, rfl⟩ := h
    exact ⟨rfl, fun j t' h => by simp at h⟩
  | f :: fs, o, L, o', h => by
    simp only [flatFs] at h
    split at h
    · rename_i l hl
      split at h
      · rename_i hc
        obtain ⟨⟨L1, o1⟩, h1, h2⟩ := Option.map_eq_some_iff.1 h
        simp only [Prod.mk.injEq] at h2
        obtain ⟨rfl, rfl⟩ := h2
        obtain ⟨e1, e2⟩ := flatFs_ok h1
        refine ⟨by simp; omega, fun j t' hj => ?_⟩
        by_cases hjl : j < l.length
        · rw [List.getElem?_append_left hjl] at hj
          exact ⟨f, by simp, l, j, hl, hj, by omega, hc.2, by omega⟩
        · rw [List.getElem?_append_right (by omega)] at hj
          obtain ⟨f', hf', l', k, q1, q2, q3, q4, q5⟩ := e2 _ _ hj
          exact ⟨f', by simp [hf'], l', k, q1, q2, by omega, q4, by omega⟩
      · simp at h
    · simp at h
theorem getElem?_slice {α : Type} (l : List α) (o n k : Nat) (hk : k < n) : ((l.drop o).take n)[k]? = l[o + k]? := by
  rw [List.getElem?_take, if_pos hk, List.getElem?_drop]
section
variable {H : Type} {enc : TypeId × Value → H} {P : Program} {w : World} {base : Nat} {spare : Nat → Bool} {held : Bool}
/-- A cell of a type that is neither a struct nor an array reads by itself. -/
def Leaf (enc : TypeId × Value → H) (P : Program) (w : World) (base : Nat) (spare : Nat → Bool) (held : Bool) (t : TypeId) (c : Value) : Prop :=
  (∃ d, P.underlying t = some d ∧ (∀ fs, d ≠ .struct fs) ∧ ∀ n e, d ≠ .array n e) ∧ ∃ n y, DataW.trod enc P w base spare held n t [c] = some y
def Leaves (enc : TypeId × Value → H) (P : Program) (w : World) (base : Nat) (spare : Nat → Bool) (held : Bool) (ts : List TypeId) (cs : List Value) : Prop :=
  cs.length = ts.length ∧ ∀ (j : Nat) t' c, ts[j]? = some t' → cs[j]? = some c → Leaf enc P w base spare held t' c
theorem length_flatMap_const {α : Type} (l : List α) : ∀ n : Nat, ((List.range n).flatMap fun _ => l).length = n * l.length := by
  intro n
  induction n with
  | zero => simp
  | succ n ih =>
    rw [List.range_succ, List.flatMap_append, List.length_append, ih, Nat.add_mul]
    simp
theorem flatMap_const_get {α : Type} (l : List α) : ∀ (n j : Nat) (x : α), ((List.range n).flatMap fun _ => l)[j]? = some x → ∃ i k, i < n ∧ k < l.length ∧ j = i * l.length + k ∧ l[k]? = some x := by
  intro n
  induction n with
  | zero => intro j x h; simp at h
  | succ n ih =>
    intro j x h
    rw [List.range_succ, List.flatMap_append] at h
    simp only [List.flatMap_cons, List.flatMap_nil, List.append_nil] at h
    have hlen := length_flatMap_const l n
    by_cases hj : j < n * l.length
    · rw [List.getElem?_append_left (by omega)] at h
      obtain ⟨i, k, h1, h2, h3, h4⟩ := ih j x h
      exact ⟨i, k, by omega, h2, h3, h4⟩
    · rw [List.getElem?_append_right (by omega), hlen] at h
      exact ⟨n, j - n * l.length, by omega, (List.getElem?_eq_some_iff.1 h).1, by omega, h⟩
theorem trod_leaves : ∀ (m : Nat) (t : TypeId) (ts : List TypeId) (n : Nat) (cs : List Value) (x : DataW H × List MemPlace), flatTy P m t = some ts → P.cellsOf t = ts.length → cs.length = P.cellsOf t →
    DataW.trod enc P w base spare held n t cs = some x → Leaves enc P w base spare held ts cs := by
  intro m
  induction m with
  | zero => intro t ts n cs x h; simp [flatTy] at h
  | succ m ih =>
    intro t ts n cs x hf hts hcs h
    refine ⟨by omega, fun j t' c hj hc => ?_⟩
    rw [flatTy] at hf
    split at hf
    · rename_i fs hu
      split at hf
      · rename_i l o hfl
        split at hf
        · rename_i ho
          obtain rfl : l = ts := by simpa using hf
          obtain ⟨e1, e2⟩ := flatFs_ok hfl
          obtain ⟨f, hfm, l', k, q1, q2, q3, q4, q5⟩ := e2 j t' hj
          obtain ⟨xs, n', rfl, _, _, hxl, hfield⟩ := DataW.trod_struct hu h
          obtain ⟨i, hi⟩ := List.mem_iff_getElem?.1 hfm
          have hi' : fs[i]? = some f := by simpa using hi
          have hlt : i < xs.length := by
            have := (Array.getElem?_eq_some_iff.1 hi').1
            omega
          have ht := hfield i f hi'
          rw [List.getElem?_eq_getElem hlt] at ht
          have hk : k < l'.length := (List.getElem?_eq_some_iff.1 q2).1
          have hjl : j < cs.length := (List.getElem?_eq_some_iff.1 hc).1
          have hlen : ((cs.drop f.offset).take (P.cellsOf f.type)).length = P.cellsOf f.type := by
            rw [List.length_take, List.length_drop]
            omega
          have r := ih f.type l' n' _ _ q1 (by omega) hlen ht
          exact r.2 k t' c q2 (by rw [getElem?_slice _ _ _ _ (by omega), q3]; simpa using hc)
        · simp at hf
      · simp at hf
    · rename_i nn e hu
      split at hf
      · rename_i l hl
        split at hf
        · rename_i ho
          obtain rfl : ((List.range nn).flatMap fun _ => l) = ts := by simpa using hf
          obtain ⟨i, k, q1, q2, q3, q4⟩ := flatMap_const_get l nn j t' hj
          obtain ⟨xs, n', rfl, _, _, hxl, hel⟩ := DataW.trod_array hu h
          have hlt : i < xs.length := by omega
          have ht := hel i q1
          rw [List.getElem?_eq_getElem hlt] at ht
          have hmul : i * P.cellsOf e + P.cellsOf e ≤ P.cellsOf t := by
            rw [← ho.2, ← ho.1, ← Nat.succ_mul]
            exact Nat.mul_le_mul_right _ q1
          have hlen : ((cs.drop (i * P.cellsOf e)).take (P.cellsOf e)).length = P.cellsOf e := by
            rw [List.length_take, List.length_drop]
            omega
          have r := ih e l n' _ _ hl (by omega) hlen ht
          exact r.2 k t' c q4 (by rw [getElem?_slice _ _ _ _ (by omega), ← ho.1, ← q3]; exact hc)
        · simp at hf
      · simp at hf
    · rename_i d hd1 hd2 hu
      obtain rfl : [t] = ts := by simpa using hf
      have h1 : cs.length = 1 := by simpa [hts] using hcs
      match cs, h1 with
      | [c0], _ =>
        cases j with
        | zero =>
          simp only [List.getElem?_cons_zero, Option.some.injEq] at hj hc
          subst hj hc
          exact ⟨⟨d, hu, fun fs e => hd1 fs e, fun n e he => hd2 n e he⟩, n, x, h⟩
        | succ j => simp at hj
    · simp at hf
theorem Leaf.int {k : IntKind} {t : TypeId} {c : Value} (ht : P.underlying t = some (.int k)) (h : Leaf enc P w base spare held t c) : ∃ n, c = .int k n ∧ (Lit.int k n).wf = true := by
  obtain ⟨_, n, y, hy⟩ := h
  obtain ⟨m, e, _, hw⟩ := DataW.trod_int ht hy
  exact ⟨m, by simpa using e, hw⟩
theorem Leaf.bool {t : TypeId} {c : Value} (ht : P.underlying t = some .bool) (h : Leaf enc P w base spare held t c) : ∃ b, c = .bool b := by
  obtain ⟨_, n, y, hy⟩ := h
  obtain ⟨m, e, _⟩ := DataW.trod_bool ht hy
  exact ⟨m, by simpa using e⟩
theorem Leaf.string {t : TypeId} {c : Value} (ht : P.underlying t = some .string) (h : Leaf enc P w base spare held t c) : ∃ s : ByteArray, c = .string s ∧ s.size ≤ maxLen := by
  obtain ⟨_, n, y, hy⟩ := h
  obtain ⟨m, e, _, hw⟩ := DataW.trod_string ht hy
  exact ⟨m, by simpa using e, hw⟩
theorem Leaf.one {t : TypeId} {c : Value} (h : Leaf enc P w base spare held t c) : c.oneCell' = true := by
  obtain ⟨⟨d, hu, h1, h2⟩, n, y, hy⟩ := h
  cases n with
  | zero => simp [DataW.trod] at hy
  | succ n =>
    cases c with
    | agg cs => 
      unfold DataW.trod at hy
      rw [hu] at hy
      split at hy <;> simp_all
    | tuple vs =>
      unfold DataW.trod at hy
      rw [hu] at hy
      split at hy <;> simp_all
    | _ => rfl
theorem Leaves.one {ts : List TypeId} {cs : List Value} (h : Leaves enc P w base spare held ts cs) : ∀ u ∈ cs, u.oneCell' = true := by
  intro u hu
  obtain ⟨j, hj⟩ := List.mem_iff_getElem?.1 hu
  have hl : j < cs.length := (List.getElem?_eq_some_iff.1 hj).1
  have : j < ts.length := by have := h.1; omega
  exact (h.2 j ts[j] u (List.getElem?_eq_getElem this) hj).one
theorem Leaves.cons {t : TypeId} {ts : List TypeId} {cs : List Value} (h : Leaves enc P w base spare held (t :: ts) cs) : ∃ c cs', cs = c :: cs' ∧ Leaf enc P w base spare held t c ∧ Leaves enc P w base spare held ts cs' := by
  obtain ⟨h1, h2⟩ := h
  cases cs with
  | nil => simp at h1
  | cons c cs' => exact ⟨c, cs', rfl, h2 0 t c rfl rfl, by simpa using h1, fun j t' c' hj hc => h2 (j + 1) t' c' (by simpa using hj) (by simpa using hc)⟩
theorem Leaves.nil {cs : List Value} (h : Leaves enc P w base spare held [] cs) : cs = [] := by simpa using h.1
theorem addr_of_cell {a : Addr} {u : Value} (h : w.cell? a = some u) : a = ⟨a.block, a.off, none⟩ := by
  obtain ⟨b, o, s⟩ := a
  cases s with
  | none => rfl
  | some n => simp [World.cell?] at h; split at h <;> simp at h
/-- A slice of structs (or of whatever), each element's cells by their types. -/
theorem open_elems {t e : TypeId} {v : Value} {d : DataW H} {ps : List MemPlace} {m : Nat} {ts : List TypeId} (ht : P.underlying t = some (.slice e)) (hf : flatTy P m e = some ts) (hc : P.cellsOf e = ts.length) (hpos : 0 < ts.length)
    (hv : ∃ a len cap, v = .slice a len cap) (h : DataW.Trod enc P w base spare held t v d ps) :
    ∃ (n : Nat) (xs : List (List Value)), xs.length = n ∧ (∀ x ∈ xs, Leaves enc P w base spare held ts x) ∧ Sl w ts.length v n xs.flatten := by
  obtain ⟨a, len, cap, rfl⟩ := hv
  obtain ⟨fuel, hy⟩ := h
  rcases Deep.open_slice ht hy with ⟨h1, _⟩ | ⟨a', len', cap', m', n', D, Pl, h1, hb, hl, hm, hm', hx, hel⟩
  · simp only [Value.cells, List.cons.injEq, and_true, Value.slice.injEq] at h1
    obtain ⟨rfl, rfl, rfl⟩ := h1
    exact ⟨0, [], rfl, by simp, Sl.nil _ _ _⟩
  · simp only [Value.cells, List.cons.injEq, and_true, Value.slice.injEq] at h1
    obtain ⟨rfl, rfl, rfl⟩ := h1
    have hlm : len ≤ m' := by rw [hm']; split <;> omega
    have key : ∀ i, ∃ cs', i < len → cs'.length = ts.length ∧ Leaves enc P w base spare held ts cs' ∧ ∀ j u, cs'[j]? = some u → w.cell? (a'.add (i * ts.length + j)) = some u := by
      intro i
      by_cases hi : i < len
      · obtain ⟨cs', h2, h3⟩ := hel i (by omega)
        obtain ⟨_, h4, h5⟩ := World.cells?_some h2
        rw [hc] at h4
        refine ⟨cs', fun _ => ⟨h4, trod_leaves m e ts n' cs' _ hf hc (by omega) h3, fun j u hj => ?_⟩⟩
        have hjl := (List.getElem?_eq_some_iff.1 hj).1
        have := h5 j (by omega)
        rw [Deep.add_add, hc] at this
        rw [this, hj]
      · exact ⟨[], fun h => absurd h hi⟩
    obtain ⟨f, hf'⟩ : ∃ f : Nat → List Value, ∀ i, i < len → (f i).length = ts.length ∧ Leaves enc P w base spare held ts (f i) ∧ ∀ j u, (f i)[j]? = some u → w.cell? (a'.add (i * ts.length + j)) = some u :=
      ⟨fun i => (key i).choose, fun i hi => (key i).choose_spec hi⟩
    refine ⟨len, (List.range len).map f, by simp, ?_, ?_⟩
    · intro x hx
      obtain ⟨i, hi, rfl⟩ := List.mem_map.1 hx
      exact (hf' i (List.mem_range.1 hi)).2.1
    · have hlen : ∀ k, k ≤ len → (((List.range k).map f).flatten).length = k * ts.length := by
        intro k
        induction k with
        | zero => simp
        | succ k ih =>
          intro hk
          rw [List.range_succ, List.map_append, List.flatten_append, List.length_append, ih (by omega)]
          simp only [List.map_cons, List.map_nil, List.flatten_cons, List.flatten_nil, List.append_nil, (hf' k (by omega)).1, Nat.add_mul, Nat.one_mul]
      have hget : ∀ k, k ≤ len → ∀ j u, (((List.range k).map f).flatten)[j]? = some u → w.cell? (a'.add j) = some u := by
        intro k
        induction k with
        | zero => intro _ j u h; simp at h
        | succ k ih =>
          intro hk j u h
          rw [List.range_succ, List.map_append, List.flatten_append] at h
          simp only [List.map_cons, List.map_nil, List.flatten_cons, List.flatten_nil, List.append_nil] at h
          by_cases hj : j < k * ts.length
          · rw [List.getElem?_append_left (by rw [hlen k (by omega)]; exact hj)] at h
            exact ih (by omega) j u h
          · rw [List.getElem?_append_right (by rw [hlen k (by omega)]; omega), hlen k (by omega)] at h
            have := (hf' k (by omega)).2.2 _ u h
            rwa [show k * ts.length + (j - k * ts.length) = j by omega] at this
      refine ⟨hlen len (Nat.le_refl _), ?_, some a', cap, rfl, hl, hm, fun h => by simp at h, ?_⟩
      · intro u hu
        obtain ⟨x, hx, hu⟩ := List.mem_flatten.1 hu
        obtain ⟨i, hi, rfl⟩ := List.mem_map.1 hx
        exact (hf' i (List.mem_range.1 hi)).2.1.one u hu
      · by_cases h0 : len = 0
        · subst h0; exact .inl rfl
        · have hpos' : 0 < ((List.range len).map f).flatten.length := by rw [hlen len (Nat.le_refl _)]; exact Nat.mul_pos (by omega) hpos
          have hc0 := hget len (Nat.le_refl _) 0 _ (List.getElem?_eq_getElem hpos')
          have ea : a' = ⟨a'.block, a'.off, none⟩ := by
            have := addr_of_cell hc0
            simpa [Addr.add] using this
          refine .inr ⟨a'.block, a'.off, by rw [← ea], fun j u hj => ?_⟩
          have := hget len (Nat.le_refl _) j u hj
          rw [ea, Addr.add_lit] at this
          exact this
/-- Each of some lists is one of a function's values: then they are a list's. -/
theorem exists_map {α β : Type} (f : α → β) : ∀ (xs : List β), (∀ x ∈ xs, ∃ a, x = f a) → ∃ l : List α, xs = l.map f
  | [], _ => ⟨[], rfl⟩
  | x :: xs, h => by
    obtain ⟨a, rfl⟩ := h x (by simp)
    obtain ⟨l, rfl⟩ := exists_map f xs (fun y hy => h y (by simp [hy]))
    exact ⟨a :: l, rfl⟩
end
end Go.Proofs.Ytpjkidcfidmfaaa
