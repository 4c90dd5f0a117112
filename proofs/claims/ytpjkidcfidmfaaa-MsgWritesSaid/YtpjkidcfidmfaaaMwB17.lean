/- Texts of this proof, one behind the other: MsgW2, MsgW3, MItB, MsgW4. -/
import Derived.Test.YtpjkidcfidmfaaaMwB16
import Derived.Deep.DeepCutAuto
namespace Go.Proofs.Ytpjkidcfidmfaaa
set_option linter.unusedSimpArgs false
set_option linter.unusedVariables false
open Go.RowKit
set_option maxHeartbeats 16000000 in
set_option maxRecDepth 100000 in
theorem msgW_2 (pick n m l : Int) (la lb lts lx ly lt : List UInt8) (ex : List (List UInt8 × List UInt8)) (ax ay at1 ae : Option Addr) (cx cy ct ce : Nat) (set1 mesh : Bool) (w w1 : World) (q : Nat) (u21 u22 u23 u24 u25 u26 u27 u28 u29 u30 u31 u32 u33 u34 u35 u36 u37 u38 u39 u40 u41 u42 u43 u44 u45 u46 u47 u48 u49 u50 u51 u52 u53 u54 u55 u56 u57 u58 : Value) (H : MwH pick n m l la lb lts lx ly lt ex ax ay at1 ae cx cy ct ce set1 mesh w w1 q) (hp : bits .and .i64 pick 15 = 2) : Code.wp Try.prog mwRest (bodyPost Try.prog Try.f4 (fun e w' => e = .returned (.bool true) ∧ Below w.heap.size w w')) (mwFrame pick n m l la lb lts lx ly lt ex ax ay at1 ae cx cy ct ce set1 mesh q u21 u22 u23 u24 u25 u26 u27 u28 u29 u30 u31 u32 u33 u34 u35 u36 u37 u38 u39 u40 u41 u42 u43 u44 u45 u46 u47 u48 u49 u50 u51 u52 u53 u54 u55 u56 u57 u58) w1 := by
  obtain ⟨HB1, HQ1, HX1, HT1, HE1, HN, HM, HLL, HMA, HMB, HMS, HMX, HMT, HME, HME2⟩ := H
  unfold mwFrame
  conv => arg 2; whnf
  obtain ⟨q0, q1, q2, q3, q4, q5, q6, q7, q8, q9, q10, q11, q12⟩ := cel13 HQ1.out
  have HIT := hqZ (it_2 pick (tx la) (tx lb) (tx lts) n m l ax ay at1 ae lx.length cx ly.length cy lt.length ct ex.length ce set1 mesh w1 hp)
  go_wp2_with ((with_reducible show wpList _ _ _ (⟨some 60, _, _, _, _, _⟩ :: _) _ _); refine wpList_ldAgg rfl (.tmp 1) aggIn rfl rfl (cs := [.int .i64 pick, .string (tx la), .string (tx lb), .int .i64 n, .int .i64 m, .int .i64 l, .slice ax lx.length cx, .slice ay ly.length cy, .string (tx lts), .slice at1 lt.length ct, .slice ae ex.length ce, .bool set1, .bool mesh]) rfl HQ1.out.cellsAll ?_)
  refine HIT.out.mono ?_
  rintro e w2 ⟨rfl, hb2⟩
  have HB2 : Hid (Below w.heap.size w w2) := hqZ (HB1.out.trans (hb2.mono HB1.out.size))
  have HQ2 := hqZ (HQ1.out.below hb2 HQ1.out.lt)
  have HX2 := hqZ (HX1.out.below hb2)
  have HT2 := hqZ (HT1.out.below hb2)
  have HE2 : Hid (TksV w2 (fun _ => True) ex (.slice ae ex.length ce)) := hqZ (by obtain ⟨rows, h1, h2⟩ := HE1.out; exact ⟨rows, h1.below hb2, h2.below hb2⟩)
  have HOK : Hid (∀ p ∈ ([.s la, .n n, .n m, .t set1, .t mesh, .i (lts, lt), .b lx, .x ex] : List Pt), PtOk p) := hqZ (by
    intro p hp
    simp only [List.mem_cons, List.not_mem_nil, or_false] at hp
    rcases hp with rfl | rfl | rfl | rfl | rfl | rfl | rfl | rfl
    · exact (by have := HMA.out; show la.length ≤ _; omega)
    · exact HN.out
    · exact HM.out
    · exact trivial
    · exact trivial
    · exact (by have := HMS.out; have := HMT.out; show lts.length ≤ _ ∧ lt.length ≤ _; omega)
    · exact (by have := HMX.out; show lx.length ≤ _; omega)
    · exact ⟨fun t ht => by have := HME.out t ht; omega, by have := HME2.out; omega⟩
    )
  have HPM : Hid (∀ p ∈ ([.s la, .n n, .n m, .t set1, .t mesh, .i (lts, lt), .b lx] : List Pt), PtM p) := hqZ (by
    intro p hp
    simp only [List.mem_cons, List.not_mem_nil, or_false] at hp
    rcases hp with rfl | rfl | rfl | rfl | rfl | rfl | rfl
    · exact HMA.out
    · exact trivial
    · exact trivial
    · exact trivial
    · exact trivial
    · exact ⟨HMS.out, HMT.out⟩
    · exact HMX.out
    )
  have HMV : Hid (MsgV w2 (fun _ => True) 13 [.s la, .n n, .n m, .t set1, .t mesh, .i (lts, lt), .b lx, .x ex] (.iface 59 (.agg #[.string (tx la), .int .i64 n, .int .i64 m, .bool set1, .bool mesh, .string (tx lts), .slice at1 lt.length ct, .slice ax lx.length cx, .slice ae ex.length ce]))) := hqZ ⟨[.string (tx la), .int .i64 n, .int .i64 m, .bool set1, .bool mesh, .string (tx lts), .slice at1 lt.length ct, .slice ax lx.length cx, .slice ae ex.length ce], rfl, [.string (tx la)], _, rfl, rfl, [.int .i64 n], _, rfl, rfl, [.int .i64 m], _, rfl, rfl, [.bool set1], _, rfl, rfl, [.bool mesh], _, rfl, rfl, [.string (tx lts), .slice at1 lt.length ct], _, rfl, ⟨_, rfl, HT2.out, fun _ _ _ => trivial⟩, [.slice ax lx.length cx], _, rfl, ⟨_, rfl, HX2.out, fun _ _ _ => trivial⟩, [.slice ae ex.length ce], _, rfl, ⟨_, rfl, HE2.out⟩, rfl⟩
  have HWR := hqZ (msgWrite_any 13 [.s la, .n n, .n m, .t set1, .t mesh, .i (lts, lt), .b lx, .x ex] _ _ w2 rfl rfl HMV.out HOK.out (fun h => msgTv_lenX 13 [.s la, .n n, .n m, .t set1, .t mesh, .i (lts, lt), .b lx] ex (by simp) HPM.out HME.out h))
  have HWC := hqZ (wrM_cases 13 [.s la, .n n, .n m, .t set1, .t mesh, .i (lts, lt), .b lx, .x ex] rfl rfl)
  obtain ⟨wr, hwr⟩ : ∃ wr, wr = wrM 13 [.s la, .n n, .n m, .t set1, .t mesh, .i (lts, lt), .b lx, .x ex] := ⟨_, rfl⟩
  rw [← hwr] at HWR HWC
  clear hb2 HIT HOK HPM HMV HE1 HX1 HT1 HQ1 hwr
  go_wp2_with fail
  refine HWR.out.mono ?_
  rintro e w3 ⟨v3, rfl, hs3, hb3⟩
  have HB3 : Hid (Below w.heap.size w w3) := hqZ (HB2.out.trans (hb3.mono HB2.out.size))
  have HQ3 := hqZ (HQ2.out.below hb3 HQ2.out.lt)
  have HX3 := hqZ (HX2.out.below hb3)
  have HT3 := hqZ (HT2.out.below hb3)
  have HE3 : Hid (TksV w3 (fun _ => True) ex (.slice ae ex.length ce)) := hqZ (by obtain ⟨rows, h1, h2⟩ := HE2.out; exact ⟨rows, h1.below hb3, h2.below hb3⟩)
  have q0 : w3.cell? ⟨q, 0, none⟩ = some (.int .i64 pick) := HQ3.out.cell 0
  clear hb3 HWR HX2 HT2 HE2 HQ2
  rcases HWC.out with rfl | rfl | ⟨b, rfl, hwh, hrd, hmr, hpb⟩
  · obtain ⟨a3, c3, rfl, _⟩ := hs3.form
    rw [show ([] : List UInt8).length = 0 from rfl]
    clear hs3 HWC
    go_wp2_with fail
    go_ret
    exact ⟨rfl, HB3.out⟩
  · obtain ⟨a3, c3, rfl, _⟩ := hs3.form
    rw [show ([] : List UInt8).length = 0 from rfl]
    clear hs3 HWC
    go_wp2_with fail
    go_ret
    exact ⟨rfl, HB3.out⟩
  · obtain ⟨a3, c3, rfl, _⟩ := hs3.form
    have HS3 := hqZ hs3
    have HWH := hqZ (refWhole_any _ b w3 hs3)
    rw [hwh] at HWH
    have HRD := hqZ hrd
    have HMR := hqZ hmr
    have HPB := hqZ hpb
    clear hs3 HWC hwh hrd hmr hpb
    simp only
    go_wp2_with fail
    refine HWH.out.mono ?_
    rintro e w4 ⟨cr, rfl, htv, hb4⟩
    have HRL := hqZ htv.length
    have HRO := hqZ htv.one
    have HTV4 := hqZ htv
    have HN4 := hqZ (Blk.new w4 zs5 30)
    have HB34 := hqZ hb4
    clear htv hb4 HWH
    go_upto_region 9 with ((with_reducible show wpList _ _ _ (⟨none, .store _ (.tmp 5) (.tmp 91), _, _, _, _⟩ :: _) _ _); refine wpList_stAgg rfl (.tmp 5) (.tmp 91) aggRef rfl rfl (vs := cr) rfl HRL.out HN4.out (Nat.le_refl _) HRO.out ?_)
    intro w5 h5 k5
    have h5' : Blk w5 w4.heap.size cr 30 := by
      rw [List.drop_of_length_le (by decide), List.append_nil] at h5
      exact h5
    have hb5 : Below w4.heap.size w4 w5 := ((Below.refl _ _).alloc (Nat.le_refl _) _).trans (k5.below (by omega))
    have HP5 := hqZ h5'
    have HTV5 := hqZ (HTV4.out.below hb5)
    have HB35 : Hid (Below w3.heap.size w3 w5) := hqZ (HB34.out.trans (hb5.mono HB34.out.size))
    obtain ⟨p5, hp5⟩ : ∃ p5, p5 = w4.heap.size := ⟨_, rfl⟩
    rw [← hp5] at HP5 ⊢
    clear h5 k5 h5' hb5 hp5 HTV4 HN4 HB34
    go_upto_region 9 with fail
    have HS5 := hqZ (HS3.out.below HB35.out)
    have HRC := hqZ (msgRead_any _ b w5 HS5.out)
    rw [HRD.out] at HRC
    go_wp2_with fail
    refine HRC.out.mono ?_
    rintro e w6 ⟨v6, rfl, hb6, hm6⟩
    have hm6 : MsgV w6 (fun b => b < w6.heap.size) 13 [.s la, .n n, .n m, .t set1, .t mesh, .i (lts, lt), .b lx, .x ex] v6 := hm6
    obtain ⟨cs6, rfl, hp6⟩ := hm6
    obtain ⟨e1, f1, rfl, g1, hp6⟩ := hp6
    obtain rfl := g1
    obtain ⟨e2, f2, rfl, g2, hp6⟩ := hp6
    obtain rfl := g2
    obtain ⟨e3, f3, rfl, g3, hp6⟩ := hp6
    obtain rfl := g3
    obtain ⟨e4, f4, rfl, g4, hp6⟩ := hp6
    obtain rfl := g4
    obtain ⟨e5, f5, rfl, g5, hp6⟩ := hp6
    obtain rfl := g5
    obtain ⟨e6, f6, rfl, g6, hp6⟩ := hp6
    obtain ⟨vv6, rfl, hy6, _⟩ := g6
    obtain ⟨ya6, yc6, rfl, _⟩ := hy6.form
    have HY6 := hqZ hy6
    clear hy6
    obtain ⟨e7, f7, rfl, g7, hp6⟩ := hp6
    obtain ⟨vv7, rfl, hy7, _⟩ := g7
    obtain ⟨ya7, yc7, rfl, _⟩ := hy7.form
    have HY7 := hqZ hy7
    clear hy7
    obtain ⟨e8, f8, rfl, g8, hp6⟩ := hp6
    obtain ⟨vv8, rfl, hy8⟩ := g8
    obtain ⟨ya8, yc8, rfl⟩ : ∃ a c, vv8 = .slice a ex.length c := by obtain ⟨rows, h1, _⟩ := hy8; obtain ⟨a, c, e, _⟩ := h1.form; exact ⟨a, c, e⟩
    have HY8 := hqZ hy8
    clear hy8
    obtain rfl : _ = [] := hp6
    have hty : typM 13 = 59 := rfl
    simp only [List.cons_append, List.nil_append, hty]
    clear hty
    have HB36 : Hid (Below w3.heap.size w3 w6) := hqZ (HB35.out.trans (hb6.mono HB35.out.size))
    have HP6 := hqZ (HP5.out.below hb6 HP5.out.lt)
    have HTV6 := hqZ (HTV5.out.below hb6)
    have HRT := hqZ (refRight11_any (msgTv 13 [.s la, .n n, .n m, .t set1, .t mesh, .i (lts, lt), .b lx, .x ex]) _ cr w6 HTV6.out)
    rw [HMR.out] at HRT
    have hr1 : ∀ W, Blk W p5 cr 30 → W.cell? ⟨p5, 1, none⟩ = some (.int .i64 13) := fun W hW => by
      obtain ⟨bv, lv, rows, e, _⟩ := HTV6.out.open_
      have h := hW.cell 1
      rw [e] at h
      exact h
    have HR1 := hqZ hr1
    clear hb6 hr1 HRC HP5 HTV5 HB35
    go_wp2_with ((with_reducible show wpList _ _ _ (⟨some 105, _, _, _, _, _⟩ :: _) _ _); refine wpList_ldAgg rfl (.tmp 5) aggRef rfl rfl (cs := cr) HRL.out HP6.out.cellsAll ?_)
    refine HRT.out.mono ?_
    rintro e w7 ⟨rfl, hb7⟩
    have hb7' := hb7
    have HB37 : Hid (Below w3.heap.size w3 w7) := hqZ (HB36.out.trans (hb7.mono HB36.out.size))
    have HP7 := hqZ (HP6.out.below hb7 HP6.out.lt)
    have r1 := HR1.out w7 HP7.out
    have HQ7 := hqZ (HQ3.out.below HB37.out HQ3.out.lt)
    have q0 : w7.cell? ⟨q, 0, none⟩ = some (.int .i64 pick) := HQ7.out.cell 0
    obtain ⟨z11, hta11⟩ := tan 54 59 (.agg #[.string (tx la), .int .i64 n, .int .i64 m, .bool set1, .bool mesh, .string (tx lts), .slice ya6 lt.length yc6, .slice ya7 lx.length yc7, .slice ya8 ex.length yc8]) zero_11 (by kernel_rfl) (by decide)
    obtain ⟨z12, hta12⟩ := tan 56 59 (.agg #[.string (tx la), .int .i64 n, .int .i64 m, .bool set1, .bool mesh, .string (tx lts), .slice ya6 lt.length yc6, .slice ya7 lx.length yc7, .slice ya8 ex.length yc8]) zero_12 (by kernel_rfl) (by decide)
    have hta : ∀ W, (Instr.typeAssert (.iface 59 (.agg #[.string (tx la), .int .i64 n, .int .i64 m, .bool set1, .bool mesh, .string (tx lts), .slice ya6 lt.length yc6, .slice ya7 lx.length yc7, .slice ya8 ex.length yc8])) 20 59 true).run Try.prog W = .ok (.tuple #[.agg #[.string (tx la), .int .i64 n, .int .i64 m, .bool set1, .bool mesh, .string (tx lts), .slice ya6 lt.length yc6, .slice ya7 lx.length yc7, .slice ya8 ex.length yc8], .bool true]) W := fun W => ta_is _ _ _ (by kernel_rfl) W
    clear hb7 HRT
    obtain ⟨w8, hw8⟩ : ∃ w8, w8 = w7.alloc (.cells #[.string (tx la), .int .i64 n, .int .i64 m, .bool set1, .bool mesh, .string (tx lts), .slice ya6 lt.length yc6, .slice ya7 lx.length yc7, .slice ya8 ex.length yc8] 59) := ⟨_, rfl⟩
    obtain ⟨p9, hp9⟩ : ∃ p9, p9 = w7.heap.size := ⟨_, rfl⟩
    have HP9 : Hid (Blk w8 p9 [.string (tx la), .int .i64 n, .int .i64 m, .bool set1, .bool mesh, .string (tx lts), .slice ya6 lt.length yc6, .slice ya7 lx.length yc7, .slice ya8 ex.length yc8] 59) := hqZ (by rw [hw8, hp9]; exact Blk.new _ _ _)
    have HB38 : Hid (Below w3.heap.size w3 w8) := hqZ (by rw [hw8]; exact HB37.out.alloc HB37.out.size _)
    have HB68 : Hid (Below w6.heap.size w6 w8) := hqZ (by rw [hw8]; exact hb7'.alloc hb7'.size _)
    go_upto_region 21 with fail
    show Code.wp _ _ _ _ (w7.alloc (.cells #[.string (tx la), .int .i64 n, .int .i64 m, .bool set1, .bool mesh, .string (tx lts), .slice ya6 lt.length yc6, .slice ya7 lx.length yc7, .slice ya8 ex.length yc8] 59))
    rw [← hw8, ← hp9]
    clear hw8 hp9 hta hta11 hta12
    have HB8 : Hid (Below w.heap.size w w8) := hqZ (HB3.out.trans (HB38.out.mono HB3.out.size))
    have HQ8 := hqZ (HQ3.out.below HB38.out HQ3.out.lt)
    have HX8 := hqZ (HX3.out.below HB38.out)
    have HT8 := hqZ (HT3.out.below HB38.out)
    have HY86 := hqZ (HY6.out.below HB68.out)
    have HY87 := hqZ (HY7.out.below HB68.out)
    clear q0 r1 HQ7 HP7 HP6
    obtain ⟨q0, q1, q2, q3, q4, q5, q6, q7, q8, q9, q10, q11, q12⟩ := cel13 HQ8.out
    obtain ⟨y0, y1, y2, y3, y4, y5, y6, y7, y8⟩ := cel9 HP9.out
    clear q0 q1 q2 q3 q4 q5 q6 q7 q8 q9 q10 q11 q12 y0 y1 y2 y3 y4 y5 y6 y7 y8
    have HE8 : Hid (TksV w8 (fun _ => True) ex (.slice ae ex.length ce)) := hqZ (by obtain ⟨rows, h1, h2⟩ := HE3.out; exact ⟨rows, h1.below HB38.out, h2.below HB38.out⟩)
    have HYE8 : Hid (TksV w8 (fun b => b < w6.heap.size) ex (.slice ya8 ex.length yc8)) := hqZ (by obtain ⟨rows, h1, h2⟩ := HY8.out; exact ⟨rows, h1.below HB68.out, h2.below HB68.out⟩)
    have hle : ex.length ≤ 1 := by
      have h := HPB.out
      simp only [List.all_cons, Bool.and_eq_true] at h
      have h8 := h.2.2.2.2.2.2.2.1
      have h8 : (ex.all rT && decide (ex.length ≤ 1)) = true := h8
      rw [Bool.and_eq_true, decide_eq_true_eq] at h8
      exact h8.2
    obtain ⟨wd, hwd⟩ : ∃ wd, wd = World.drew w8 := ⟨_, rfl⟩
    have HS0 : Hid (Below w8.heap.size w8 wd) := hqZ (by rw [hwd]; exact (Below.refl _ _).drew)
    have hqlt : q < w8.heap.size := HQ8.out.lt
    have hplt : p9 < w8.heap.size := HP9.out.lt
    by_cases hez : ex.length = 0
    · have hez1 : ((ex.length : Int) == 0) = true := by rw [hez]; rfl
      clear hez
      refine wp_region_held (S := fun W => Below w8.heap.size w8 W) (by kernel_rfl) ?_
      change wpAnyH _ _ _ _ _ _ _ _ (World.drew _)
      rw [← hwd]
      clear hwd
      refine tkH 0 179 none (.pointer (some ⟨p9, 0, none⟩)) rfl (by kernel_rfl) (fun _ _ _ h => h) (by rfl) (by intro W hW; go_simp) HS0.out ?_
      simp only [Act.put, zq1, zq2, zq3]
      refine tkH 1 180 none (.string (tx la)) rfl (by kernel_rfl) (fun _ _ _ h => h) (by rfl) (by intro W hW; have hc : W.cell? ⟨p9, 0, none⟩ = some (.string (tx la)) := ((HP9.out).below hW hplt).cell 0; go_simp) HS0.out ?_
      simp only [Act.put, zq1, zq2, zq3]
      refine tkH 2 181 none (.pointer (some ⟨q, 1, none⟩)) rfl (by kernel_rfl) (fun _ _ _ h => h) (by rfl) (by intro W hW; go_simp) HS0.out ?_
      simp only [Act.put, zq1, zq2, zq3]
      refine tkH 3 182 none (.string (tx la)) rfl (by kernel_rfl) (fun _ _ _ h => h) (by rfl) (by intro W hW; have hc : W.cell? ⟨q, 1, none⟩ = some (.string (tx la)) := ((HQ8.out).below hW hqlt).cell 1; go_simp) HS0.out ?_
      simp only [Act.put, zq1, zq2, zq3]
      refine tkH 4 183 none (.bool true) rfl (by kernel_rfl) (fun _ _ _ h => h) (by rfl) (by intro W hW; go_simp) HS0.out ?_
      simp only [Act.put, zq1, zq2, zq3]
      refine tkH 5 184 none (.bool true) rfl (by kernel_rfl) (fun _ _ _ h => h) (by rfl) (by intro W hW; go_simp) HS0.out ?_
      simp only [Act.put, zq1, zq2, zq3]
      refine tkH 6 185 (some (5, true)) (.pointer (some ⟨p9, 1, none⟩)) rfl (by kernel_rfl) (fun _ _ _ h => h) (by rfl) (by intro W hW; go_simp) HS0.out ?_
      simp only [Act.put, zq1, zq2, zq3]
      refine tkH 7 186 (some (5, true)) (.int .i64 n) rfl (by kernel_rfl) (fun _ _ _ h => h) (by rfl) (by intro W hW; have hc : W.cell? ⟨p9, 1, none⟩ = some (.int .i64 n) := ((HP9.out).below hW hplt).cell 1; go_simp) HS0.out ?_
      simp only [Act.put, zq1, zq2, zq3]
      refine tkH 8 187 (some (5, true)) (.pointer (some ⟨q, 3, none⟩)) rfl (by kernel_rfl) (fun _ _ _ h => h) (by rfl) (by intro W hW; go_simp) HS0.out ?_
      simp only [Act.put, zq1, zq2, zq3]
      refine tkH 9 188 (some (5, true)) (.int .i64 n) rfl (by kernel_rfl) (fun _ _ _ h => h) (by rfl) (by intro W hW; have hc : W.cell? ⟨q, 3, none⟩ = some (.int .i64 n) := ((HQ8.out).below hW hqlt).cell 3; go_simp) HS0.out ?_
      simp only [Act.put, zq1, zq2, zq3]
      refine tkH 10 189 (some (5, true)) (.bool true) rfl (by kernel_rfl) (fun _ _ _ h => h) (by rfl) (by intro W hW; go_simp) HS0.out ?_
      simp only [Act.put, zq1, zq2, zq3]
      refine tkH 11 190 none (.bool true) rfl (by kernel_rfl) (fun _ _ _ h => h) (by rfl) (by intro W hW; go_simp) HS0.out ?_
      simp only [Act.put, zq1, zq2, zq3]
      refine tkH 12 191 none (.bool true) rfl (by kernel_rfl) (fun _ _ _ h => h) (by rfl) (by intro W hW; go_simp) HS0.out ?_
      simp only [Act.put, zq1, zq2, zq3]
      refine tkH 13 192 (some (12, true)) (.pointer (some ⟨p9, 2, none⟩)) rfl (by kernel_rfl) (fun _ _ _ h => h) (by rfl) (by intro W hW; go_simp) HS0.out ?_
      simp only [Act.put, zq1, zq2, zq3]
      refine tkH 14 193 (some (12, true)) (.int .i64 m) rfl (by kernel_rfl) (fun _ _ _ h => h) (by rfl) (by intro W hW; have hc : W.cell? ⟨p9, 2, none⟩ = some (.int .i64 m) := ((HP9.out).below hW hplt).cell 2; go_simp) HS0.out ?_
      simp only [Act.put, zq1, zq2, zq3]
      refine tkH 15 194 (some (12, true)) (.pointer (some ⟨q, 4, none⟩)) rfl (by kernel_rfl) (fun _ _ _ h => h) (by rfl) (by intro W hW; go_simp) HS0.out ?_
      simp only [Act.put, zq1, zq2, zq3]
      refine tkH 16 195 (some (12, true)) (.int .i64 m) rfl (by kernel_rfl) (fun _ _ _ h => h) (by rfl) (by intro W hW; have hc : W.cell? ⟨q, 4, none⟩ = some (.int .i64 m) := ((HQ8.out).below hW hqlt).cell 4; go_simp) HS0.out ?_
      simp only [Act.put, zq1, zq2, zq3]
      refine tkH 17 196 (some (12, true)) (.bool true) rfl (by kernel_rfl) (fun _ _ _ h => h) (by rfl) (by intro W hW; go_simp) HS0.out ?_
      simp only [Act.put, zq1, zq2, zq3]
      refine tkH 18 197 none (.bool true) rfl (by kernel_rfl) (fun _ _ _ h => h) (by rfl) (by intro W hW; go_simp) HS0.out ?_
      simp only [Act.put, zq1, zq2, zq3]
      refine tkH 19 198 none (.bool true) rfl (by kernel_rfl) (fun _ _ _ h => h) (by rfl) (by intro W hW; go_simp) HS0.out ?_
      simp only [Act.put, zq1, zq2, zq3]
      refine tkH 20 199 (some (19, true)) (.pointer (some ⟨p9, 3, none⟩)) rfl (by kernel_rfl) (fun _ _ _ h => h) (by rfl) (by intro W hW; go_simp) HS0.out ?_
      simp only [Act.put, zq1, zq2, zq3]
      refine tkH 21 200 (some (19, true)) (.bool set1) rfl (by kernel_rfl) (fun _ _ _ h => h) (by rfl) (by intro W hW; have hc : W.cell? ⟨p9, 3, none⟩ = some (.bool set1) := ((HP9.out).below hW hplt).cell 3; go_simp) HS0.out ?_
      simp only [Act.put, zq1, zq2, zq3]
      refine tkH 22 201 (some (19, true)) (.pointer (some ⟨q, 11, none⟩)) rfl (by kernel_rfl) (fun _ _ _ h => h) (by rfl) (by intro W hW; go_simp) HS0.out ?_
      simp only [Act.put, zq1, zq2, zq3]
      refine tkH 23 202 (some (19, true)) (.bool set1) rfl (by kernel_rfl) (fun _ _ _ h => h) (by rfl) (by intro W hW; have hc : W.cell? ⟨q, 11, none⟩ = some (.bool set1) := ((HQ8.out).below hW hqlt).cell 11; go_simp) HS0.out ?_
      simp only [Act.put, zq1, zq2, zq3]
      refine tkH 24 203 (some (19, true)) (.bool true) rfl (by kernel_rfl) (fun _ _ _ h => h) (by rfl) (by intro W hW; go_simp) HS0.out ?_
      simp only [Act.put, zq1, zq2, zq3]
      refine tkH 25 204 none (.bool true) rfl (by kernel_rfl) (fun _ _ _ h => h) (by rfl) (by intro W hW; go_simp) HS0.out ?_
      simp only [Act.put, zq1, zq2, zq3]
      refine tkH 26 205 none (.bool true) rfl (by kernel_rfl) (fun _ _ _ h => h) (by rfl) (by intro W hW; go_simp) HS0.out ?_
      simp only [Act.put, zq1, zq2, zq3]
      refine tkH 27 206 (some (26, true)) (.pointer (some ⟨p9, 4, none⟩)) rfl (by kernel_rfl) (fun _ _ _ h => h) (by rfl) (by intro W hW; go_simp) HS0.out ?_
      simp only [Act.put, zq1, zq2, zq3]
      refine tkH 28 207 (some (26, true)) (.bool mesh) rfl (by kernel_rfl) (fun _ _ _ h => h) (by rfl) (by intro W hW; have hc : W.cell? ⟨p9, 4, none⟩ = some (.bool mesh) := ((HP9.out).below hW hplt).cell 4; go_simp) HS0.out ?_
      simp only [Act.put, zq1, zq2, zq3]
      refine tkH 29 208 (some (26, true)) (.pointer (some ⟨q, 12, none⟩)) rfl (by kernel_rfl) (fun _ _ _ h => h) (by rfl) (by intro W hW; go_simp) HS0.out ?_
      simp only [Act.put, zq1, zq2, zq3]
      refine tkH 30 209 (some (26, true)) (.bool mesh) rfl (by kernel_rfl) (fun _ _ _ h => h) (by rfl) (by intro W hW; have hc : W.cell? ⟨q, 12, none⟩ = some (.bool mesh) := ((HQ8.out).below hW hqlt).cell 12; go_simp) HS0.out ?_
      simp only [Act.put, zq1, zq2, zq3]
      refine tkH 31 210 (some (26, true)) (.bool true) rfl (by kernel_rfl) (fun _ _ _ h => h) (by rfl) (by intro W hW; go_simp) HS0.out ?_
      simp only [Act.put, zq1, zq2, zq3]
      refine tkH 32 211 none (.bool true) rfl (by kernel_rfl) (fun _ _ _ h => h) (by rfl) (by intro W hW; go_simp) HS0.out ?_
      simp only [Act.put, zq1, zq2, zq3]
      refine tkH 33 212 none (.bool true) rfl (by kernel_rfl) (fun _ _ _ h => h) (by rfl) (by intro W hW; go_simp) HS0.out ?_
      simp only [Act.put, zq1, zq2, zq3]
      refine tkH 34 213 (some (33, true)) (.pointer (some ⟨p9, 5, none⟩)) rfl (by kernel_rfl) (fun _ _ _ h => h) (by rfl) (by intro W hW; go_simp) HS0.out ?_
      simp only [Act.put, zq1, zq2, zq3]
      refine tkH 35 214 (some (33, true)) (.agg #[.string (tx lts), .slice ya6 lt.length yc6]) rfl (by kernel_rfl) (fun _ _ _ h => h) (by rfl) (by intro W hW; exact exec_ldAgg rfl aggTicket rfl (cs := [.string (tx lts), .slice ya6 lt.length yc6]) rfl ((HP9.out.below hW hplt).cellsAt 5 2)) HS0.out ?_
      simp only [Act.put, zq1, zq2, zq3]
      refine tkH 36 215 (some (33, true)) (.pointer (some ⟨q, 8, none⟩)) rfl (by kernel_rfl) (fun _ _ _ h => h) (by rfl) (by intro W hW; go_simp) HS0.out ?_
      simp only [Act.put, zq1, zq2, zq3]
      refine tkH 37 216 (some (33, true)) (.agg #[.string (tx lts), .slice at1 lt.length ct]) rfl (by kernel_rfl) (fun _ _ _ h => h) (by rfl) (by intro W hW; exact exec_ldAgg rfl aggTicket rfl (cs := [.string (tx lts), .slice at1 lt.length ct]) rfl ((HQ8.out.below hW hqlt).cellsAt 8 2)) HS0.out ?_
      simp only [Act.put, zq1, zq2, zq3]
      refine anyH_ready (rs := [38]) (by decide +kernel) (by simp) ?_
      refine AllReadyH.cons (o := { dst := some 217, op := .call { callee := .value (.func 17), args := #[.tmp 214, .tmp 216], argTypes := #[48, 48] }, type := _, pos := _, after := _, guard := some (33, true) }) rfl (fun K hK => ?_) AllReadyH.nil
      go_simp
      refine (sameTk_any (tx lts) _ _ lt wd (HY86.out.below HS0.out) (HT8.out.below HS0.out)).mono ?_
      rintro e x1 ⟨rfl, hb9⟩
      have HS0 : Hid (Below w8.heap.size w8 x1) := hqZ (HS0.out.trans (hb9.mono HS0.out.size))
      clear hb9
      refine hK _ _ HS0.out ?_
      clear hK K
      try simp only [Act.put, zq1, zq2, zq3]
      refine tkH 39 218 none (.bool true) rfl (by kernel_rfl) (fun _ _ _ h => h) (by rfl) (by intro W hW; go_simp) HS0.out ?_
      simp only [Act.put, zq1, zq2, zq3]
      refine tkH 40 219 none (.bool true) rfl (by kernel_rfl) (fun _ _ _ h => h) (by rfl) (by intro W hW; go_simp) HS0.out ?_
      simp only [Act.put, zq1, zq2, zq3]
      refine tkH 41 220 (some (40, true)) (.pointer (some ⟨p9, 7, none⟩)) rfl (by kernel_rfl) (fun _ _ _ h => h) (by rfl) (by intro W hW; go_simp) HS0.out ?_
      simp only [Act.put, zq1, zq2, zq3]
      refine tkH 42 221 (some (40, true)) (.slice ya7 lx.length yc7) rfl (by kernel_rfl) (fun _ _ _ h => h) (by rfl) (by intro W hW; have hc : W.cell? ⟨p9, 7, none⟩ = some (.slice ya7 lx.length yc7) := ((HP9.out).below hW hplt).cell 7; go_simp) HS0.out ?_
      simp only [Act.put, zq1, zq2, zq3]
      refine tkH 43 222 (some (40, true)) (.pointer (some ⟨q, 6, none⟩)) rfl (by kernel_rfl) (fun _ _ _ h => h) (by rfl) (by intro W hW; go_simp) HS0.out ?_
      simp only [Act.put, zq1, zq2, zq3]
      refine tkH 44 223 (some (40, true)) (.slice ax lx.length cx) rfl (by kernel_rfl) (fun _ _ _ h => h) (by rfl) (by intro W hW; have hc : W.cell? ⟨q, 6, none⟩ = some (.slice ax lx.length cx) := ((HQ8.out).below hW hqlt).cell 6; go_simp) HS0.out ?_
      simp only [Act.put, zq1, zq2, zq3]
      refine anyH_ready (rs := [45]) (by decide +kernel) (by simp) ?_
      refine AllReadyH.cons (o := { dst := some 224, op := .call { callee := .value (.func 11), args := #[.tmp 221, .tmp 223], argTypes := #[22, 22] }, type := _, pos := _, after := _, guard := some (40, true) }) rfl (fun K hK => ?_) AllReadyH.nil
      go_simp
      refine (same_b _ _ lx lx x1 (HY87.out.below HS0.out) (HX8.out.below HS0.out)).mono ?_
      rintro e x2 ⟨rfl, hb9⟩
      have HS0 : Hid (Below w8.heap.size w8 x2) := hqZ (HS0.out.trans (hb9.mono HS0.out.size))
      clear hb9
      rw [show decide (lx = lx) = true from by simp]
      refine hK _ _ HS0.out ?_
      clear hK K
      try simp only [Act.put, zq1, zq2, zq3]
      refine tkH 46 225 none (.bool true) rfl (by kernel_rfl) (fun _ _ _ h => h) (by rfl) (by intro W hW; go_simp) HS0.out ?_
      simp only [Act.put, zq1, zq2, zq3]
      refine tkH 47 226 none (.bool true) rfl (by kernel_rfl) (fun _ _ _ h => h) (by rfl) (by intro W hW; go_simp) HS0.out ?_
      simp only [Act.put, zq1, zq2, zq3]
      refine tkH 48 227 (some (47, true)) (.pointer (some ⟨p9, 8, none⟩)) rfl (by kernel_rfl) (fun _ _ _ h => h) (by rfl) (by intro W hW; go_simp) HS0.out ?_
      simp only [Act.put, zq1, zq2, zq3]
      refine tkH 49 228 (some (47, true)) (.slice ya8 ex.length yc8) rfl (by kernel_rfl) (fun _ _ _ h => h) (by rfl) (by intro W hW; have hc : W.cell? ⟨p9, 8, none⟩ = some (.slice ya8 ex.length yc8) := ((HP9.out).below hW hplt).cell 8; go_simp) HS0.out ?_
      simp only [Act.put, zq1, zq2, zq3]
      refine tkH 50 229 (some (47, true)) (.int .i64 ex.length) rfl (by kernel_rfl) (fun _ _ _ h => h) (by rfl) (by intro W hW; go_simp) HS0.out ?_
      simp only [Act.put, zq1, zq2, zq3]
      refine tkH 51 230 (some (47, true)) (.pointer (some ⟨q, 10, none⟩)) rfl (by kernel_rfl) (fun _ _ _ h => h) (by rfl) (by intro W hW; go_simp) HS0.out ?_
      simp only [Act.put, zq1, zq2, zq3]
      refine tkH 52 231 (some (47, true)) (.slice ae ex.length ce) rfl (by kernel_rfl) (fun _ _ _ h => h) (by rfl) (by intro W hW; have hc : W.cell? ⟨q, 10, none⟩ = some (.slice ae ex.length ce) := ((HQ8.out).below hW hqlt).cell 10; go_simp) HS0.out ?_
      simp only [Act.put, zq1, zq2, zq3]
      refine tkH 53 232 (some (47, true)) (.int .i64 ex.length) rfl (by kernel_rfl) (fun _ _ _ h => h) (by rfl) (by intro W hW; go_simp) HS0.out ?_
      simp only [Act.put, zq1, zq2, zq3]
      refine tkH 54 233 (some (47, true)) (.bool true) rfl (by kernel_rfl) (fun _ _ _ h => h) (by rfl) (by intro W hW; go_simp) HS0.out ?_
      simp only [Act.put, zq1, zq2, zq3]
      refine tkH 55 234 none (.bool true) rfl (by kernel_rfl) (fun _ _ _ h => h) (by rfl) (by intro W hW; go_simp) HS0.out ?_
      simp only [Act.put, zq1, zq2, zq3]
      refine tkH 56 235 none (.bool true) rfl (by kernel_rfl) (fun _ _ _ h => h) (by rfl) (by intro W hW; go_simp) HS0.out ?_
      simp only [Act.put, zq1, zq2, zq3]
      refine tkH 57 236 (some (56, true)) (.pointer (some ⟨p9, 8, none⟩)) rfl (by kernel_rfl) (fun _ _ _ h => h) (by rfl) (by intro W hW; go_simp) HS0.out ?_
      simp only [Act.put, zq1, zq2, zq3]
      refine tkH 58 237 (some (56, true)) (.slice ya8 ex.length yc8) rfl (by kernel_rfl) (fun _ _ _ h => h) (by rfl) (by intro W hW; have hc : W.cell? ⟨p9, 8, none⟩ = some (.slice ya8 ex.length yc8) := ((HP9.out).below hW hplt).cell 8; go_simp) HS0.out ?_
      simp only [Act.put, zq1, zq2, zq3]
      refine tkH 59 238 (some (56, true)) (.int .i64 ex.length) rfl (by kernel_rfl) (fun _ _ _ h => h) (by rfl) (by intro W hW; go_simp) HS0.out ?_
      simp only [Act.put, zq1, zq2, zq3]
      refine tkH 60 239 (some (56, true)) (.bool true) rfl (by kernel_rfl) (fun _ _ _ h => h) (by rfl) (by intro W hW; go_simp) HS0.out ?_
      simp only [Act.put, zq1, zq2, zq3]
      refine tkH 61 240 (some (56, true)) (.bool true) rfl (by kernel_rfl) (fun _ _ _ h => h) (by rfl) (by intro W hW; go_simp) HS0.out ?_
      simp only [Act.put, zq1, zq2, zq3]
      refine skH 62 241 (some (61, false)) rfl (by kernel_rfl) (fun _ _ _ h => h) (by rfl) HS0.out ?_
      simp only [Act.put, zq1, zq2, zq3]
      refine skH 63 242 (some (61, false)) rfl (by kernel_rfl) (fun _ _ _ h => h) (by rfl) HS0.out ?_
      simp only [Act.put, zq1, zq2, zq3]
      refine skH 64 243 (some (61, false)) rfl (by kernel_rfl) (fun _ _ _ h => h) (by rfl) HS0.out ?_
      simp only [Act.put, zq1, zq2, zq3]
      refine skH 65 244 (some (61, false)) rfl (by kernel_rfl) (fun _ _ _ h => h) (by rfl) HS0.out ?_
      simp only [Act.put, zq1, zq2, zq3]
      refine skH 66 245 (some (61, false)) rfl (by kernel_rfl) (fun _ _ _ h => h) (by rfl) HS0.out ?_
      simp only [Act.put, zq1, zq2, zq3]
      refine skH 67 246 (some (61, false)) rfl (by kernel_rfl) (fun _ _ _ h => h) (by rfl) HS0.out ?_
      simp only [Act.put, zq1, zq2, zq3]
      refine skH 68 247 (some (61, false)) rfl (by kernel_rfl) (fun _ _ _ h => h) (by rfl) HS0.out ?_
      simp only [Act.put, zq1, zq2, zq3]
      refine skH 69 248 (some (61, false)) rfl (by kernel_rfl) (fun _ _ _ h => h) (by rfl) HS0.out ?_
      simp only [Act.put, zq1, zq2, zq3]
      refine skH 70 249 (some (61, false)) rfl (by kernel_rfl) (fun _ _ _ h => h) (by rfl) HS0.out ?_
      simp only [Act.put, zq1, zq2, zq3]
      refine tkH 71 250 (some (56, true)) (.bool true) rfl (by kernel_rfl) (fun _ _ _ h => h) (by rfl) (by intro W hW; go_simp) HS0.out ?_
      simp only [Act.put, zq1, zq2, zq3]
      refine tkH 72 251 none (.bool true) rfl (by kernel_rfl) (fun _ _ _ h => h) (by rfl) (by intro W hW; go_simp) HS0.out ?_
      simp only [Act.put, zq1, zq2, zq3]
      refine tkH 73 2 none (.bool true) rfl (by kernel_rfl) (fun _ _ _ h => h) (by rfl) (by intro W hW; go_simp) HS0.out ?_
      simp only [Act.put, zq1, zq2, zq3]
      refine wpAnyH_done (by decide +kernel) ?_ _
      go_wp2_with fail
      go_ret
      exact ⟨rfl, HB8.out.trans (HS0.out.mono HB8.out.size)⟩
    · have hez1 : ((ex.length : Int) == 0) = false := beq_eq_false_iff_ne.2 (by omega)
      have hpos : (0 : Int) < (ex.length : Int) := by omega
      have hp0 : 0 < ex.length := by omega
      obtain ⟨gb, go, gv, rfl, hgc, hgb⟩ := HYE8.out.first hp0
      obtain ⟨ga, gc, rfl, _⟩ := hgb.form
      obtain ⟨hb, ho, hv, rfl, hhc, hhb⟩ := HE8.out.first hp0
      obtain ⟨ha, hc1, rfl, _⟩ := hhb.form
      obtain ⟨gn, hgn⟩ : ∃ gn, gn = ex[0].2.length := ⟨_, rfl⟩
      have HGC : Hid (∀ W, Below w8.heap.size w8 W → CellsAt W gb go [.string (tx ex[0].1), .slice ga ex[0].2.length gc]) := hqZ (fun W hW i u hi => below_cell hW (hgc i u hi))
      have HHC : Hid (∀ W, Below w8.heap.size w8 W → CellsAt W hb ho [.string (tx ex[0].1), .slice ha ex[0].2.length hc1]) := hqZ (fun W hW i u hi => below_cell hW (hhc i u hi))
      have HGB := hqZ hgb
      have HHB := hqZ hhb
      clear hez hgc hgb hhc hhb hgn
      refine wp_region_held (S := fun W => Below w8.heap.size w8 W) (by kernel_rfl) ?_
      change wpAnyH _ _ _ _ _ _ _ _ (World.drew _)
      rw [← hwd]
      clear hwd
      refine tkH 0 179 none (.pointer (some ⟨p9, 0, none⟩)) rfl (by kernel_rfl) (fun _ _ _ h => h) (by rfl) (by intro W hW; go_simp) HS0.out ?_
      simp only [Act.put, zq1, zq2, zq3]
      refine tkH 1 180 none (.string (tx la)) rfl (by kernel_rfl) (fun _ _ _ h => h) (by rfl) (by intro W hW; have hc : W.cell? ⟨p9, 0, none⟩ = some (.string (tx la)) := ((HP9.out).below hW hplt).cell 0; go_simp) HS0.out ?_
      simp only [Act.put, zq1, zq2, zq3]
      refine tkH 2 181 none (.pointer (some ⟨q, 1, none⟩)) rfl (by kernel_rfl) (fun _ _ _ h => h) (by rfl) (by intro W hW; go_simp) HS0.out ?_
      simp only [Act.put, zq1, zq2, zq3]
      refine tkH 3 182 none (.string (tx la)) rfl (by kernel_rfl) (fun _ _ _ h => h) (by rfl) (by intro W hW; have hc : W.cell? ⟨q, 1, none⟩ = some (.string (tx la)) := ((HQ8.out).below hW hqlt).cell 1; go_simp) HS0.out ?_
      simp only [Act.put, zq1, zq2, zq3]
      refine tkH 4 183 none (.bool true) rfl (by kernel_rfl) (fun _ _ _ h => h) (by rfl) (by intro W hW; go_simp) HS0.out ?_
      simp only [Act.put, zq1, zq2, zq3]
      refine tkH 5 184 none (.bool true) rfl (by kernel_rfl) (fun _ _ _ h => h) (by rfl) (by intro W hW; go_simp) HS0.out ?_
      simp only [Act.put, zq1, zq2, zq3]
      refine tkH 6 185 (some (5, true)) (.pointer (some ⟨p9, 1, none⟩)) rfl (by kernel_rfl) (fun _ _ _ h => h) (by rfl) (by intro W hW; go_simp) HS0.out ?_
      simp only [Act.put, zq1, zq2, zq3]
      refine tkH 7 186 (some (5, true)) (.int .i64 n) rfl (by kernel_rfl) (fun _ _ _ h => h) (by rfl) (by intro W hW; have hc : W.cell? ⟨p9, 1, none⟩ = some (.int .i64 n) := ((HP9.out).below hW hplt).cell 1; go_simp) HS0.out ?_
      simp only [Act.put, zq1, zq2, zq3]
      refine tkH 8 187 (some (5, true)) (.pointer (some ⟨q, 3, none⟩)) rfl (by kernel_rfl) (fun _ _ _ h => h) (by rfl) (by intro W hW; go_simp) HS0.out ?_
      simp only [Act.put, zq1, zq2, zq3]
      refine tkH 9 188 (some (5, true)) (.int .i64 n) rfl (by kernel_rfl) (fun _ _ _ h => h) (by rfl) (by intro W hW; have hc : W.cell? ⟨q, 3, none⟩ = some (.int .i64 n) := ((HQ8.out).below hW hqlt).cell 3; go_simp) HS0.out ?_
      simp only [Act.put, zq1, zq2, zq3]
      refine tkH 10 189 (some (5, true)) (.bool true) rfl (by kernel_rfl) (fun _ _ _ h => h) (by rfl) (by intro W hW; go_simp) HS0.out ?_
      simp only [Act.put, zq1, zq2, zq3]
      refine tkH 11 190 none (.bool true) rfl (by kernel_rfl) (fun _ _ _ h => h) (by rfl) (by intro W hW; go_simp) HS0.out ?_
      simp only [Act.put, zq1, zq2, zq3]
      refine tkH 12 191 none (.bool true) rfl (by kernel_rfl) (fun _ _ _ h => h) (by rfl) (by intro W hW; go_simp) HS0.out ?_
      simp only [Act.put, zq1, zq2, zq3]
      refine tkH 13 192 (some (12, true)) (.pointer (some ⟨p9, 2, none⟩)) rfl (by kernel_rfl) (fun _ _ _ h => h) (by rfl) (by intro W hW; go_simp) HS0.out ?_
      simp only [Act.put, zq1, zq2, zq3]
      refine tkH 14 193 (some (12, true)) (.int .i64 m) rfl (by kernel_rfl) (fun _ _ _ h => h) (by rfl) (by intro W hW; have hc : W.cell? ⟨p9, 2, none⟩ = some (.int .i64 m) := ((HP9.out).below hW hplt).cell 2; go_simp) HS0.out ?_
      simp only [Act.put, zq1, zq2, zq3]
      refine tkH 15 194 (some (12, true)) (.pointer (some ⟨q, 4, none⟩)) rfl (by kernel_rfl) (fun _ _ _ h => h) (by rfl) (by intro W hW; go_simp) HS0.out ?_
      simp only [Act.put, zq1, zq2, zq3]
      refine tkH 16 195 (some (12, true)) (.int .i64 m) rfl (by kernel_rfl) (fun _ _ _ h => h) (by rfl) (by intro W hW; have hc : W.cell? ⟨q, 4, none⟩ = some (.int .i64 m) := ((HQ8.out).below hW hqlt).cell 4; go_simp) HS0.out ?_
      simp only [Act.put, zq1, zq2, zq3]
      refine tkH 17 196 (some (12, true)) (.bool true) rfl (by kernel_rfl) (fun _ _ _ h => h) (by rfl) (by intro W hW; go_simp) HS0.out ?_
      simp only [Act.put, zq1, zq2, zq3]
      refine tkH 18 197 none (.bool true) rfl (by kernel_rfl) (fun _ _ _ h => h) (by rfl) (by intro W hW; go_simp) HS0.out ?_
      simp only [Act.put, zq1, zq2, zq3]
      refine tkH 19 198 none (.bool true) rfl (by kernel_rfl) (fun _ _ _ h => h) (by rfl) (by intro W hW; go_simp) HS0.out ?_
      simp only [Act.put, zq1, zq2, zq3]
      refine tkH 20 199 (some (19, true)) (.pointer (some ⟨p9, 3, none⟩)) rfl (by kernel_rfl) (fun _ _ _ h => h) (by rfl) (by intro W hW; go_simp) HS0.out ?_
      simp only [Act.put, zq1, zq2, zq3]
      refine tkH 21 200 (some (19, true)) (.bool set1) rfl (by kernel_rfl) (fun _ _ _ h => h) (by rfl) (by intro W hW; have hc : W.cell? ⟨p9, 3, none⟩ = some (.bool set1) := ((HP9.out).below hW hplt).cell 3; go_simp) HS0.out ?_
      simp only [Act.put, zq1, zq2, zq3]
      refine tkH 22 201 (some (19, true)) (.pointer (some ⟨q, 11, none⟩)) rfl (by kernel_rfl) (fun _ _ _ h => h) (by rfl) (by intro W hW; go_simp) HS0.out ?_
      simp only [Act.put, zq1, zq2, zq3]
      refine tkH 23 202 (some (19, true)) (.bool set1) rfl (by kernel_rfl) (fun _ _ _ h => h) (by rfl) (by intro W hW; have hc : W.cell? ⟨q, 11, none⟩ = some (.bool set1) := ((HQ8.out).below hW hqlt).cell 11; go_simp) HS0.out ?_
      simp only [Act.put, zq1, zq2, zq3]
      refine tkH 24 203 (some (19, true)) (.bool true) rfl (by kernel_rfl) (fun _ _ _ h => h) (by rfl) (by intro W hW; go_simp) HS0.out ?_
      simp only [Act.put, zq1, zq2, zq3]
      refine tkH 25 204 none (.bool true) rfl (by kernel_rfl) (fun _ _ _ h => h) (by rfl) (by intro W hW; go_simp) HS0.out ?_
      simp only [Act.put, zq1, zq2, zq3]
      refine tkH 26 205 none (.bool true) rfl (by kernel_rfl) (fun _ _ _ h => h) (by rfl) (by intro W hW; go_simp) HS0.out ?_
      simp only [Act.put, zq1, zq2, zq3]
      refine tkH 27 206 (some (26, true)) (.pointer (some ⟨p9, 4, none⟩)) rfl (by kernel_rfl) (fun _ _ _ h => h) (by rfl) (by intro W hW; go_simp) HS0.out ?_
      simp only [Act.put, zq1, zq2, zq3]
      refine tkH 28 207 (some (26, true)) (.bool mesh) rfl (by kernel_rfl) (fun _ _ _ h => h) (by rfl) (by intro W hW; have hc : W.cell? ⟨p9, 4, none⟩ = some (.bool mesh) := ((HP9.out).below hW hplt).cell 4; go_simp) HS0.out ?_
      simp only [Act.put, zq1, zq2, zq3]
      refine tkH 29 208 (some (26, true)) (.pointer (some ⟨q, 12, none⟩)) rfl (by kernel_rfl) (fun _ _ _ h => h) (by rfl) (by intro W hW; go_simp) HS0.out ?_
      simp only [Act.put, zq1, zq2, zq3]
      refine tkH 30 209 (some (26, true)) (.bool mesh) rfl (by kernel_rfl) (fun _ _ _ h => h) (by rfl) (by intro W hW; have hc : W.cell? ⟨q, 12, none⟩ = some (.bool mesh) := ((HQ8.out).below hW hqlt).cell 12; go_simp) HS0.out ?_
      simp only [Act.put, zq1, zq2, zq3]
      refine tkH 31 210 (some (26, true)) (.bool true) rfl (by kernel_rfl) (fun _ _ _ h => h) (by rfl) (by intro W hW; go_simp) HS0.out ?_
      simp only [Act.put, zq1, zq2, zq3]
      refine tkH 32 211 none (.bool true) rfl (by kernel_rfl) (fun _ _ _ h => h) (by rfl) (by intro W hW; go_simp) HS0.out ?_
      simp only [Act.put, zq1, zq2, zq3]
      refine tkH 33 212 none (.bool true) rfl (by kernel_rfl) (fun _ _ _ h => h) (by rfl) (by intro W hW; go_simp) HS0.out ?_
      simp only [Act.put, zq1, zq2, zq3]
      refine tkH 34 213 (some (33, true)) (.pointer (some ⟨p9, 5, none⟩)) rfl (by kernel_rfl) (fun _ _ _ h => h) (by rfl) (by intro W hW; go_simp) HS0.out ?_
      simp only [Act.put, zq1, zq2, zq3]
      refine tkH 35 214 (some (33, true)) (.agg #[.string (tx lts), .slice ya6 lt.length yc6]) rfl (by kernel_rfl) (fun _ _ _ h => h) (by rfl) (by intro W hW; exact exec_ldAgg rfl aggTicket rfl (cs := [.string (tx lts), .slice ya6 lt.length yc6]) rfl ((HP9.out.below hW hplt).cellsAt 5 2)) HS0.out ?_
      simp only [Act.put, zq1, zq2, zq3]
      refine tkH 36 215 (some (33, true)) (.pointer (some ⟨q, 8, none⟩)) rfl (by kernel_rfl) (fun _ _ _ h => h) (by rfl) (by intro W hW; go_simp) HS0.out ?_
      simp only [Act.put, zq1, zq2, zq3]
      refine tkH 37 216 (some (33, true)) (.agg #[.string (tx lts), .slice at1 lt.length ct]) rfl (by kernel_rfl) (fun _ _ _ h => h) (by rfl) (by intro W hW; exact exec_ldAgg rfl aggTicket rfl (cs := [.string (tx lts), .slice at1 lt.length ct]) rfl ((HQ8.out.below hW hqlt).cellsAt 8 2)) HS0.out ?_
      simp only [Act.put, zq1, zq2, zq3]
      refine anyH_ready (rs := [38]) (by decide +kernel) (by simp) ?_
      refine AllReadyH.cons (o := { dst := some 217, op := .call { callee := .value (.func 17), args := #[.tmp 214, .tmp 216], argTypes := #[48, 48] }, type := _, pos := _, after := _, guard := some (33, true) }) rfl (fun K hK => ?_) AllReadyH.nil
      go_simp
      refine (sameTk_any (tx lts) _ _ lt wd (HY86.out.below HS0.out) (HT8.out.below HS0.out)).mono ?_
      rintro e x1 ⟨rfl, hb9⟩
      have HS0 : Hid (Below w8.heap.size w8 x1) := hqZ (HS0.out.trans (hb9.mono HS0.out.size))
      clear hb9
      refine hK _ _ HS0.out ?_
      clear hK K
      try simp only [Act.put, zq1, zq2, zq3]
      refine tkH 39 218 none (.bool true) rfl (by kernel_rfl) (fun _ _ _ h => h) (by rfl) (by intro W hW; go_simp) HS0.out ?_
      simp only [Act.put, zq1, zq2, zq3]
      refine tkH 40 219 none (.bool true) rfl (by kernel_rfl) (fun _ _ _ h => h) (by rfl) (by intro W hW; go_simp) HS0.out ?_
      simp only [Act.put, zq1, zq2, zq3]
      refine tkH 41 220 (some (40, true)) (.pointer (some ⟨p9, 7, none⟩)) rfl (by kernel_rfl) (fun _ _ _ h => h) (by rfl) (by intro W hW; go_simp) HS0.out ?_
      simp only [Act.put, zq1, zq2, zq3]
      refine tkH 42 221 (some (40, true)) (.slice ya7 lx.length yc7) rfl (by kernel_rfl) (fun _ _ _ h => h) (by rfl) (by intro W hW; have hc : W.cell? ⟨p9, 7, none⟩ = some (.slice ya7 lx.length yc7) := ((HP9.out).below hW hplt).cell 7; go_simp) HS0.out ?_
      simp only [Act.put, zq1, zq2, zq3]
      refine tkH 43 222 (some (40, true)) (.pointer (some ⟨q, 6, none⟩)) rfl (by kernel_rfl) (fun _ _ _ h => h) (by rfl) (by intro W hW; go_simp) HS0.out ?_
      simp only [Act.put, zq1, zq2, zq3]
      refine tkH 44 223 (some (40, true)) (.slice ax lx.length cx) rfl (by kernel_rfl) (fun _ _ _ h => h) (by rfl) (by intro W hW; have hc : W.cell? ⟨q, 6, none⟩ = some (.slice ax lx.length cx) := ((HQ8.out).below hW hqlt).cell 6; go_simp) HS0.out ?_
      simp only [Act.put, zq1, zq2, zq3]
      refine anyH_ready (rs := [45]) (by decide +kernel) (by simp) ?_
      refine AllReadyH.cons (o := { dst := some 224, op := .call { callee := .value (.func 11), args := #[.tmp 221, .tmp 223], argTypes := #[22, 22] }, type := _, pos := _, after := _, guard := some (40, true) }) rfl (fun K hK => ?_) AllReadyH.nil
      go_simp
      refine (same_b _ _ lx lx x1 (HY87.out.below HS0.out) (HX8.out.below HS0.out)).mono ?_
      rintro e x2 ⟨rfl, hb9⟩
      have HS0 : Hid (Below w8.heap.size w8 x2) := hqZ (HS0.out.trans (hb9.mono HS0.out.size))
      clear hb9
      rw [show decide (lx = lx) = true from by simp]
      refine hK _ _ HS0.out ?_
      clear hK K
      try simp only [Act.put, zq1, zq2, zq3]
      refine tkH 46 225 none (.bool true) rfl (by kernel_rfl) (fun _ _ _ h => h) (by rfl) (by intro W hW; go_simp) HS0.out ?_
      simp only [Act.put, zq1, zq2, zq3]
      refine tkH 47 226 none (.bool true) rfl (by kernel_rfl) (fun _ _ _ h => h) (by rfl) (by intro W hW; go_simp) HS0.out ?_
      simp only [Act.put, zq1, zq2, zq3]
      refine tkH 48 227 (some (47, true)) (.pointer (some ⟨p9, 8, none⟩)) rfl (by kernel_rfl) (fun _ _ _ h => h) (by rfl) (by intro W hW; go_simp) HS0.out ?_
      simp only [Act.put, zq1, zq2, zq3]
      refine tkH 49 228 (some (47, true)) (.slice (some ⟨gb, go, none⟩) ex.length yc8) rfl (by kernel_rfl) (fun _ _ _ h => h) (by rfl) (by intro W hW; have hc : W.cell? ⟨p9, 8, none⟩ = some (.slice (some ⟨gb, go, none⟩) ex.length yc8) := ((HP9.out).below hW hplt).cell 8; go_simp) HS0.out ?_
      simp only [Act.put, zq1, zq2, zq3]
      refine tkH 50 229 (some (47, true)) (.int .i64 ex.length) rfl (by kernel_rfl) (fun _ _ _ h => h) (by rfl) (by intro W hW; go_simp) HS0.out ?_
      simp only [Act.put, zq1, zq2, zq3]
      refine tkH 51 230 (some (47, true)) (.pointer (some ⟨q, 10, none⟩)) rfl (by kernel_rfl) (fun _ _ _ h => h) (by rfl) (by intro W hW; go_simp) HS0.out ?_
      simp only [Act.put, zq1, zq2, zq3]
      refine tkH 52 231 (some (47, true)) (.slice (some ⟨hb, ho, none⟩) ex.length ce) rfl (by kernel_rfl) (fun _ _ _ h => h) (by rfl) (by intro W hW; have hc : W.cell? ⟨q, 10, none⟩ = some (.slice (some ⟨hb, ho, none⟩) ex.length ce) := ((HQ8.out).below hW hqlt).cell 10; go_simp) HS0.out ?_
      simp only [Act.put, zq1, zq2, zq3]
      refine tkH 53 232 (some (47, true)) (.int .i64 ex.length) rfl (by kernel_rfl) (fun _ _ _ h => h) (by rfl) (by intro W hW; go_simp) HS0.out ?_
      simp only [Act.put, zq1, zq2, zq3]
      refine tkH 54 233 (some (47, true)) (.bool true) rfl (by kernel_rfl) (fun _ _ _ h => h) (by rfl) (by intro W hW; go_simp) HS0.out ?_
      simp only [Act.put, zq1, zq2, zq3]
      refine tkH 55 234 none (.bool true) rfl (by kernel_rfl) (fun _ _ _ h => h) (by rfl) (by intro W hW; go_simp) HS0.out ?_
      simp only [Act.put, zq1, zq2, zq3]
      refine tkH 56 235 none (.bool true) rfl (by kernel_rfl) (fun _ _ _ h => h) (by rfl) (by intro W hW; go_simp) HS0.out ?_
      simp only [Act.put, zq1, zq2, zq3]
      refine tkH 57 236 (some (56, true)) (.pointer (some ⟨p9, 8, none⟩)) rfl (by kernel_rfl) (fun _ _ _ h => h) (by rfl) (by intro W hW; go_simp) HS0.out ?_
      simp only [Act.put, zq1, zq2, zq3]
      refine tkH 58 237 (some (56, true)) (.slice (some ⟨gb, go, none⟩) ex.length yc8) rfl (by kernel_rfl) (fun _ _ _ h => h) (by rfl) (by intro W hW; have hc : W.cell? ⟨p9, 8, none⟩ = some (.slice (some ⟨gb, go, none⟩) ex.length yc8) := ((HP9.out).below hW hplt).cell 8; go_simp) HS0.out ?_
      simp only [Act.put, zq1, zq2, zq3]
      refine tkH 59 238 (some (56, true)) (.int .i64 ex.length) rfl (by kernel_rfl) (fun _ _ _ h => h) (by rfl) (by intro W hW; go_simp) HS0.out ?_
      simp only [Act.put, zq1, zq2, zq3]
      refine tkH 60 239 (some (56, true)) (.bool false) rfl (by kernel_rfl) (fun _ _ _ h => h) (by rfl) (by intro W hW; go_simp) HS0.out ?_
      simp only [Act.put, zq1, zq2, zq3]
      refine tkH 61 240 (some (56, true)) (.bool false) rfl (by kernel_rfl) (fun _ _ _ h => h) (by rfl) (by intro W hW; go_simp) HS0.out ?_
      simp only [Act.put, zq1, zq2, zq3]
      refine tkH 62 241 (some (61, false)) (.pointer (some ⟨p9, 8, none⟩)) rfl (by kernel_rfl) (fun _ _ _ h => h) (by rfl) (by intro W hW; go_simp) HS0.out ?_
      simp only [Act.put, zq1, zq2, zq3]
      refine tkH 63 242 (some (61, false)) (.slice (some ⟨gb, go, none⟩) ex.length yc8) rfl (by kernel_rfl) (fun _ _ _ h => h) (by rfl) (by intro W hW; have hc : W.cell? ⟨p9, 8, none⟩ = some (.slice (some ⟨gb, go, none⟩) ex.length yc8) := ((HP9.out).below hW hplt).cell 8; go_simp) HS0.out ?_
      simp only [Act.put, zq1, zq2, zq3]
      refine tkH 64 243 (some (61, false)) (.pointer (some ⟨gb, go, none⟩)) rfl (by kernel_rfl) (fun _ _ _ h => h) (by rfl) (by intro W hW; go_simp) HS0.out ?_
      simp only [Act.put, zq1, zq2, zq3]
      refine tkH 65 244 (some (61, false)) (.agg #[.string (tx ex[0].1), .slice ga ex[0].2.length gc]) rfl (by kernel_rfl) (fun _ _ _ h => h) (by rfl) (by intro W hW; exact exec_ldAgg rfl aggTicket rfl (cs := [.string (tx ex[0].1), .slice ga ex[0].2.length gc]) rfl (HGC.out W hW)) HS0.out ?_
      simp only [Act.put, zq1, zq2, zq3]
      refine tkH 66 245 (some (61, false)) (.pointer (some ⟨q, 10, none⟩)) rfl (by kernel_rfl) (fun _ _ _ h => h) (by rfl) (by intro W hW; go_simp) HS0.out ?_
      simp only [Act.put, zq1, zq2, zq3]
      refine tkH 67 246 (some (61, false)) (.slice (some ⟨hb, ho, none⟩) ex.length ce) rfl (by kernel_rfl) (fun _ _ _ h => h) (by rfl) (by intro W hW; have hc : W.cell? ⟨q, 10, none⟩ = some (.slice (some ⟨hb, ho, none⟩) ex.length ce) := ((HQ8.out).below hW hqlt).cell 10; go_simp) HS0.out ?_
      simp only [Act.put, zq1, zq2, zq3]
      refine tkH 68 247 (some (61, false)) (.pointer (some ⟨hb, ho, none⟩)) rfl (by kernel_rfl) (fun _ _ _ h => h) (by rfl) (by intro W hW; go_simp) HS0.out ?_
      simp only [Act.put, zq1, zq2, zq3]
      refine tkH 69 248 (some (61, false)) (.agg #[.string (tx ex[0].1), .slice ha ex[0].2.length hc1]) rfl (by kernel_rfl) (fun _ _ _ h => h) (by rfl) (by intro W hW; exact exec_ldAgg rfl aggTicket rfl (cs := [.string (tx ex[0].1), .slice ha ex[0].2.length hc1]) rfl (HHC.out W hW)) HS0.out ?_
      simp only [Act.put, zq1, zq2, zq3]
      refine anyH_ready (rs := [70]) (by decide +kernel) (by simp) ?_
      refine AllReadyH.cons (o := { dst := some 249, op := .call { callee := .value (.func 17), args := #[.tmp 244, .tmp 248], argTypes := #[48, 48] }, type := _, pos := _, after := _, guard := some (61, false) }) rfl (fun K hK => ?_) AllReadyH.nil
      go_simp
      refine (sameTk_any (tx ex[0].1) _ _ ex[0].2 x2 (HGB.out.below HS0.out) (HHB.out.below HS0.out)).mono ?_
      rintro e x3 ⟨rfl, hb9⟩
      have HS0 : Hid (Below w8.heap.size w8 x3) := hqZ (HS0.out.trans (hb9.mono HS0.out.size))
      clear hb9
      refine hK _ _ HS0.out ?_
      clear hK K
      try simp only [Act.put, zq1, zq2, zq3]
      refine tkH 71 250 (some (56, true)) (.bool true) rfl (by kernel_rfl) (fun _ _ _ h => h) (by rfl) (by intro W hW; go_simp) HS0.out ?_
      simp only [Act.put, zq1, zq2, zq3]
      refine tkH 72 251 none (.bool true) rfl (by kernel_rfl) (fun _ _ _ h => h) (by rfl) (by intro W hW; go_simp) HS0.out ?_
      simp only [Act.put, zq1, zq2, zq3]
      refine tkH 73 2 none (.bool true) rfl (by kernel_rfl) (fun _ _ _ h => h) (by rfl) (by intro W hW; go_simp) HS0.out ?_
      simp only [Act.put, zq1, zq2, zq3]
      refine wpAnyH_done (by decide +kernel) ?_ _
      go_wp2_with fail
      go_ret
      exact ⟨rfl, HB8.out.trans (HS0.out.mono HB8.out.size)⟩
set_option maxHeartbeats 16000000 in
set_option maxRecDepth 100000 in
theorem msgW_3 (pick n m l : Int) (la lb lts lx ly lt : List UInt8) (ex : List (List UInt8 × List UInt8)) (ax ay at1 ae : Option Addr) (cx cy ct ce : Nat) (set1 mesh : Bool) (w w1 : World) (q : Nat) (u21 u22 u23 u24 u25 u26 u27 u28 u29 u30 u31 u32 u33 u34 u35 u36 u37 u38 u39 u40 u41 u42 u43 u44 u45 u46 u47 u48 u49 u50 u51 u52 u53 u54 u55 u56 u57 u58 : Value) (H : MwH pick n m l la lb lts lx ly lt ex ax ay at1 ae cx cy ct ce set1 mesh w w1 q) (hp : bits .and .i64 pick 15 = 3) : Code.wp Try.prog mwRest (bodyPost Try.prog Try.f4 (fun e w' => e = .returned (.bool true) ∧ Below w.heap.size w w')) (mwFrame pick n m l la lb lts lx ly lt ex ax ay at1 ae cx cy ct ce set1 mesh q u21 u22 u23 u24 u25 u26 u27 u28 u29 u30 u31 u32 u33 u34 u35 u36 u37 u38 u39 u40 u41 u42 u43 u44 u45 u46 u47 u48 u49 u50 u51 u52 u53 u54 u55 u56 u57 u58) w1 := by
  obtain ⟨HB1, HQ1, HX1, HT1, HE1, HN, HM, HLL, HMA, HMB, HMS, HMX, HMT, HME, HME2⟩ := H
  unfold mwFrame
  conv => arg 2; whnf
  obtain ⟨q0, q1, q2, q3, q4, q5, q6, q7, q8, q9, q10, q11, q12⟩ := cel13 HQ1.out
  have HIT := hqZ (it_3 pick (tx la) (tx lb) (tx lts) n m l ax ay at1 ae lx.length cx ly.length cy lt.length ct ex.length ce set1 mesh w1 hp)
  go_wp2_with ((with_reducible show wpList _ _ _ (⟨some 60, _, _, _, _, _⟩ :: _) _ _); refine wpList_ldAgg rfl (.tmp 1) aggIn rfl rfl (cs := [.int .i64 pick, .string (tx la), .string (tx lb), .int .i64 n, .int .i64 m, .int .i64 l, .slice ax lx.length cx, .slice ay ly.length cy, .string (tx lts), .slice at1 lt.length ct, .slice ae ex.length ce, .bool set1, .bool mesh]) rfl HQ1.out.cellsAll ?_)
  refine HIT.out.mono ?_
  rintro e w2 ⟨rfl, hb2⟩
  have HB2 : Hid (Below w.heap.size w w2) := hqZ (HB1.out.trans (hb2.mono HB1.out.size))
  have HQ2 := hqZ (HQ1.out.below hb2 HQ1.out.lt)
  have HX2 := hqZ (HX1.out.below hb2)
  have HT2 := hqZ (HT1.out.below hb2)
  have HE2 : Hid (TksV w2 (fun _ => True) ex (.slice ae ex.length ce)) := hqZ (by obtain ⟨rows, h1, h2⟩ := HE1.out; exact ⟨rows, h1.below hb2, h2.below hb2⟩)
  have HOK : Hid (∀ p ∈ ([.s la, .i (lts, lt), .b lx] : List Pt), PtOk p) := hqZ (by
    intro p hp
    simp only [List.mem_cons, List.not_mem_nil, or_false] at hp
    rcases hp with rfl | rfl | rfl
    · exact (by have := HMA.out; show la.length ≤ _; omega)
    · exact (by have := HMS.out; have := HMT.out; show lts.length ≤ _ ∧ lt.length ≤ _; omega)
    · exact (by have := HMX.out; show lx.length ≤ _; omega)
    )
  have HPM : Hid (∀ p ∈ ([.s la, .i (lts, lt), .b lx] : List Pt), PtM p) := hqZ (by
    intro p hp
    simp only [List.mem_cons, List.not_mem_nil, or_false] at hp
    rcases hp with rfl | rfl | rfl
    · exact HMA.out
    · exact ⟨HMS.out, HMT.out⟩
    · exact HMX.out
    )
  have HMV : Hid (MsgV w2 (fun _ => True) 14 [.s la, .i (lts, lt), .b lx] (.iface 60 (.agg #[.string (tx la), .string (tx lts), .slice at1 lt.length ct, .slice ax lx.length cx]))) := hqZ ⟨[.string (tx la), .string (tx lts), .slice at1 lt.length ct, .slice ax lx.length cx], rfl, [.string (tx la)], _, rfl, rfl, [.string (tx lts), .slice at1 lt.length ct], _, rfl, ⟨_, rfl, HT2.out, fun _ _ _ => trivial⟩, [.slice ax lx.length cx], _, rfl, ⟨_, rfl, HX2.out, fun _ _ _ => trivial⟩, rfl⟩
  have HWR := hqZ (msgWrite_any 14 [.s la, .i (lts, lt), .b lx] _ _ w2 rfl rfl HMV.out HOK.out (fun h => msgTv_len _ _ (by simp) HPM.out h))
  have HWC := hqZ (wrM_cases 14 [.s la, .i (lts, lt), .b lx] rfl rfl)
  obtain ⟨wr, hwr⟩ : ∃ wr, wr = wrM 14 [.s la, .i (lts, lt), .b lx] := ⟨_, rfl⟩
  rw [← hwr] at HWR HWC
  clear hb2 HIT HOK HPM HMV HE1 HX1 HT1 HQ1 hwr
  go_wp2_with fail
  refine HWR.out.mono ?_
  rintro e w3 ⟨v3, rfl, hs3, hb3⟩
  have HB3 : Hid (Below w.heap.size w w3) := hqZ (HB2.out.trans (hb3.mono HB2.out.size))
  have HQ3 := hqZ (HQ2.out.below hb3 HQ2.out.lt)
  have HX3 := hqZ (HX2.out.below hb3)
  have HT3 := hqZ (HT2.out.below hb3)
  have HE3 : Hid (TksV w3 (fun _ => True) ex (.slice ae ex.length ce)) := hqZ (by obtain ⟨rows, h1, h2⟩ := HE2.out; exact ⟨rows, h1.below hb3, h2.below hb3⟩)
  have q0 : w3.cell? ⟨q, 0, none⟩ = some (.int .i64 pick) := HQ3.out.cell 0
  clear hb3 HWR HX2 HT2 HE2 HQ2
  rcases HWC.out with rfl | rfl | ⟨b, rfl, hwh, hrd, hmr, hpb⟩
  · obtain ⟨a3, c3, rfl, _⟩ := hs3.form
    rw [show ([] : List UInt8).length = 0 from rfl]
    clear hs3 HWC
    go_wp2_with fail
    go_ret
    exact ⟨rfl, HB3.out⟩
  · obtain ⟨a3, c3, rfl, _⟩ := hs3.form
    rw [show ([] : List UInt8).length = 0 from rfl]
    clear hs3 HWC
    go_wp2_with fail
    go_ret
    exact ⟨rfl, HB3.out⟩
  · obtain ⟨a3, c3, rfl, _⟩ := hs3.form
    have HS3 := hqZ hs3
    have HWH := hqZ (refWhole_any _ b w3 hs3)
    rw [hwh] at HWH
    have HRD := hqZ hrd
    have HMR := hqZ hmr
    have HPB := hqZ hpb
    clear hs3 HWC hwh hrd hmr hpb
    simp only
    go_wp2_with fail
    refine HWH.out.mono ?_
    rintro e w4 ⟨cr, rfl, htv, hb4⟩
    have HRL := hqZ htv.length
    have HRO := hqZ htv.one
    have HTV4 := hqZ htv
    have HN4 := hqZ (Blk.new w4 zs5 30)
    have HB34 := hqZ hb4
    clear htv hb4 HWH
    go_upto_region 9 with ((with_reducible show wpList _ _ _ (⟨none, .store _ (.tmp 5) (.tmp 91), _, _, _, _⟩ :: _) _ _); refine wpList_stAgg rfl (.tmp 5) (.tmp 91) aggRef rfl rfl (vs := cr) rfl HRL.out HN4.out (Nat.le_refl _) HRO.out ?_)
    intro w5 h5 k5
    have h5' : Blk w5 w4.heap.size cr 30 := by
      rw [List.drop_of_length_le (by decide), List.append_nil] at h5
      exact h5
    have hb5 : Below w4.heap.size w4 w5 := ((Below.refl _ _).alloc (Nat.le_refl _) _).trans (k5.below (by omega))
    have HP5 := hqZ h5'
    have HTV5 := hqZ (HTV4.out.below hb5)
    have HB35 : Hid (Below w3.heap.size w3 w5) := hqZ (HB34.out.trans (hb5.mono HB34.out.size))
    obtain ⟨p5, hp5⟩ : ∃ p5, p5 = w4.heap.size := ⟨_, rfl⟩
    rw [← hp5] at HP5 ⊢
    clear h5 k5 h5' hb5 hp5 HTV4 HN4 HB34
    go_upto_region 9 with fail
    have HS5 := hqZ (HS3.out.below HB35.out)
    have HRC := hqZ (msgRead_any _ b w5 HS5.out)
    rw [HRD.out] at HRC
    go_wp2_with fail
    refine HRC.out.mono ?_
    rintro e w6 ⟨v6, rfl, hb6, hm6⟩
    have hm6 : MsgV w6 (fun b => b < w6.heap.size) 14 [.s la, .i (lts, lt), .b lx] v6 := hm6
    obtain ⟨cs6, rfl, hp6⟩ := hm6
    obtain ⟨e1, f1, rfl, g1, hp6⟩ := hp6
    obtain rfl := g1
    obtain ⟨e2, f2, rfl, g2, hp6⟩ := hp6
    obtain ⟨vv2, rfl, hy2, _⟩ := g2
    obtain ⟨ya2, yc2, rfl, _⟩ := hy2.form
    have HY2 := hqZ hy2
    clear hy2
    obtain ⟨e3, f3, rfl, g3, hp6⟩ := hp6
    obtain ⟨vv3, rfl, hy3, _⟩ := g3
    obtain ⟨ya3, yc3, rfl, _⟩ := hy3.form
    have HY3 := hqZ hy3
    clear hy3
    obtain rfl : _ = [] := hp6
    have hty : typM 14 = 60 := rfl
    simp only [List.cons_append, List.nil_append, hty]
    clear hty
    have HB36 : Hid (Below w3.heap.size w3 w6) := hqZ (HB35.out.trans (hb6.mono HB35.out.size))
    have HP6 := hqZ (HP5.out.below hb6 HP5.out.lt)
    have HTV6 := hqZ (HTV5.out.below hb6)
    have HRT := hqZ (refRight11_any (msgTv 14 [.s la, .i (lts, lt), .b lx]) _ cr w6 HTV6.out)
    rw [HMR.out] at HRT
    have hr1 : ∀ W, Blk W p5 cr 30 → W.cell? ⟨p5, 1, none⟩ = some (.int .i64 14) := fun W hW => by
      obtain ⟨bv, lv, rows, e, _⟩ := HTV6.out.open_
      have h := hW.cell 1
      rw [e] at h
      exact h
    have HR1 := hqZ hr1
    clear hb6 hr1 HRC HP5 HTV5 HB35
    go_wp2_with ((with_reducible show wpList _ _ _ (⟨some 105, _, _, _, _, _⟩ :: _) _ _); refine wpList_ldAgg rfl (.tmp 5) aggRef rfl rfl (cs := cr) HRL.out HP6.out.cellsAll ?_)
    refine HRT.out.mono ?_
    rintro e w7 ⟨rfl, hb7⟩
    have hb7' := hb7
    have HB37 : Hid (Below w3.heap.size w3 w7) := hqZ (HB36.out.trans (hb7.mono HB36.out.size))
    have HP7 := hqZ (HP6.out.below hb7 HP6.out.lt)
    have r1 := HR1.out w7 HP7.out
    have HQ7 := hqZ (HQ3.out.below HB37.out HQ3.out.lt)
    have q0 : w7.cell? ⟨q, 0, none⟩ = some (.int .i64 pick) := HQ7.out.cell 0
    obtain ⟨z11, hta11⟩ := tan 54 60 (.agg #[.string (tx la), .string (tx lts), .slice ya2 lt.length yc2, .slice ya3 lx.length yc3]) zero_11 (by kernel_rfl) (by decide)
    obtain ⟨z12, hta12⟩ := tan 56 60 (.agg #[.string (tx la), .string (tx lts), .slice ya2 lt.length yc2, .slice ya3 lx.length yc3]) zero_12 (by kernel_rfl) (by decide)
    obtain ⟨z13, hta13⟩ := tan 59 60 (.agg #[.string (tx la), .string (tx lts), .slice ya2 lt.length yc2, .slice ya3 lx.length yc3]) zero_13 (by kernel_rfl) (by decide)
    have hta : ∀ W, (Instr.typeAssert (.iface 60 (.agg #[.string (tx la), .string (tx lts), .slice ya2 lt.length yc2, .slice ya3 lx.length yc3])) 20 60 true).run Try.prog W = .ok (.tuple #[.agg #[.string (tx la), .string (tx lts), .slice ya2 lt.length yc2, .slice ya3 lx.length yc3], .bool true]) W := fun W => ta_is _ _ _ (by kernel_rfl) W
    clear hb7 HRT
    obtain ⟨w8, hw8⟩ : ∃ w8, w8 = w7.alloc (.cells #[.string (tx la), .string (tx lts), .slice ya2 lt.length yc2, .slice ya3 lx.length yc3] 60) := ⟨_, rfl⟩
    obtain ⟨p9, hp9⟩ : ∃ p9, p9 = w7.heap.size := ⟨_, rfl⟩
    have HP9 : Hid (Blk w8 p9 [.string (tx la), .string (tx lts), .slice ya2 lt.length yc2, .slice ya3 lx.length yc3] 60) := hqZ (by rw [hw8, hp9]; exact Blk.new _ _ _)
    have HB38 : Hid (Below w3.heap.size w3 w8) := hqZ (by rw [hw8]; exact HB37.out.alloc HB37.out.size _)
    have HB68 : Hid (Below w6.heap.size w6 w8) := hqZ (by rw [hw8]; exact hb7'.alloc hb7'.size _)
    go_upto_region 24 with fail
    show Code.wp _ _ _ _ (w7.alloc (.cells #[.string (tx la), .string (tx lts), .slice ya2 lt.length yc2, .slice ya3 lx.length yc3] 60))
    rw [← hw8, ← hp9]
    clear hw8 hp9 hta hta11 hta12 hta13
    have HB8 : Hid (Below w.heap.size w w8) := hqZ (HB3.out.trans (HB38.out.mono HB3.out.size))
    have HQ8 := hqZ (HQ3.out.below HB38.out HQ3.out.lt)
    have HX8 := hqZ (HX3.out.below HB38.out)
    have HT8 := hqZ (HT3.out.below HB38.out)
    have HY82 := hqZ (HY2.out.below HB68.out)
    have HY83 := hqZ (HY3.out.below HB68.out)
    clear q0 r1 HQ7 HP7 HP6
    obtain ⟨q0, q1, q2, q3, q4, q5, q6, q7, q8, q9, q10, q11, q12⟩ := cel13 HQ8.out
    obtain ⟨y0, y1, y2, y3⟩ := cel4 HP9.out
    have HS8 : Hid (Below w8.heap.size w8 w8) := hqZ (Below.refl _ _)
    go_wp2_with (first | ((with_reducible show wpList _ _ _ (⟨some 262, _, _, _, _, _⟩ :: _) _ _); refine wpList_ldAgg rfl (.tmp 261) aggTicket rfl rfl (cs := [.string (tx lts), .slice ya2 lt.length yc2]) rfl ((HP9.out.below HS8.out HP9.out.lt).cellsAt 1 2) ?_) | ((with_reducible show wpList _ _ _ (⟨some 264, _, _, _, _, _⟩ :: _) _ _); refine wpList_ldAgg rfl (.tmp 263) aggTicket rfl rfl (cs := [.string (tx lts), .slice at1 lt.length ct]) rfl ((HQ8.out.below HS8.out HQ8.out.lt).cellsAt 8 2) ?_))
    refine (sameTk_any (tx lts) _ _ lt w8 (HY82.out.below HS8.out) (HT8.out.below HS8.out)).mono ?_
    rintro e w9 ⟨rfl, hb⟩
    have HS9 : Hid (Below w8.heap.size w8 w9) := hqZ (HS8.out.trans (hb.mono HS8.out.size))
    clear hb q0 q1 q2 q3 q4 q5 q6 q7 q8 q9 q10 q11 q12 y0 y1 y2 y3
    obtain ⟨q0, q1, q2, q3, q4, q5, q6, q7, q8, q9, q10, q11, q12⟩ := cel13 (HQ8.out.below HS9.out HQ8.out.lt)
    obtain ⟨y0, y1, y2, y3⟩ := cel4 (HP9.out.below HS9.out HP9.out.lt)
    go_wp2_with fail
    refine (same_b _ _ lx lx w9 (HY83.out.below HS9.out) (HX8.out.below HS9.out)).mono ?_
    rintro e w10 ⟨rfl, hb⟩
    have HS10 : Hid (Below w8.heap.size w8 w10) := hqZ (HS9.out.trans (hb.mono HS9.out.size))
    clear hb q0 q1 q2 q3 q4 q5 q6 q7 q8 q9 q10 q11 q12 y0 y1 y2 y3
    rw [show decide (lx = lx) = true from by simp]
    obtain ⟨q0, q1, q2, q3, q4, q5, q6, q7, q8, q9, q10, q11, q12⟩ := cel13 (HQ8.out.below HS10.out HQ8.out.lt)
    obtain ⟨y0, y1, y2, y3⟩ := cel4 (HP9.out.below HS10.out HP9.out.lt)
    go_wp2_with fail
    go_ret
    exact ⟨rfl, HB8.out.trans (HS10.out.mono HB8.out.size)⟩
set_option maxHeartbeats 8000000 in
set_option maxRecDepth 100000 in
theorem it_4 (pick : Int) (a b ts : ByteArray) (n m l : Int) (ax ay at1 ae : Option Addr) (nx cx ny cy nt ct ne ce : Nat) (set1 mesh : Bool) (w : World) (hp : bits .and .i64 pick 15 = 4) : Calls Try.prog 16 #[.agg #[.int .i64 pick, .string a, .string b, .int .i64 n, .int .i64 m, .int .i64 l, .slice ax nx cx, .slice ay ny cy, .string ts, .slice at1 nt ct, .slice ae ne ce, .bool set1, .bool mesh]] w fun e w' => e = .returned (.iface 62 (.agg #[.string a, .string b, .int .i64 n])) ∧ Below w.heap.size w w' := by
  go_enter Try.func16, Try.ntmps16
  go_wp2_with fail
  go_ret
  exact ⟨rfl, ((Below.refl _ _).alloc (Nat.le_refl _) _).alloc (by simp) _⟩
set_option maxHeartbeats 8000000 in
set_option maxRecDepth 100000 in
theorem it_5 (pick : Int) (a b ts : ByteArray) (n m l : Int) (ax ay at1 ae : Option Addr) (nx cx ny cy nt ct ne ce : Nat) (set1 mesh : Bool) (w : World) (hp : bits .and .i64 pick 15 = 5) : Calls Try.prog 16 #[.agg #[.int .i64 pick, .string a, .string b, .int .i64 n, .int .i64 m, .int .i64 l, .slice ax nx cx, .slice ay ny cy, .string ts, .slice at1 nt ct, .slice ae ne ce, .bool set1, .bool mesh]] w fun e w' => e = .returned (.iface 64 (.agg #[.string a, .string b, .int .i64 n, .string ts, .slice at1 nt ct])) ∧ Below w.heap.size w w' := by
  go_enter Try.func16, Try.ntmps16
  go_wp2_with fail
  go_ret
  exact ⟨rfl, ((Below.refl _ _).alloc (Nat.le_refl _) _).alloc (by simp) _⟩
set_option maxHeartbeats 8000000 in
set_option maxRecDepth 100000 in
theorem it_6 (pick : Int) (a b ts : ByteArray) (n m l : Int) (ax ay at1 ae : Option Addr) (nx cx ny cy nt ct ne ce : Nat) (set1 mesh : Bool) (w : World) (hp : bits .and .i64 pick 15 = 6) : Calls Try.prog 16 #[.agg #[.int .i64 pick, .string a, .string b, .int .i64 n, .int .i64 m, .int .i64 l, .slice ax nx cx, .slice ay ny cy, .string ts, .slice at1 nt ct, .slice ae ne ce, .bool set1, .bool mesh]] w fun e w' => e = .returned (.iface 66 (.agg #[.string a, .string b, .int .i64 n, .string ts, .slice at1 nt ct, .slice ax nx cx])) ∧ Below w.heap.size w w' := by
  go_enter Try.func16, Try.ntmps16
  go_wp2_with fail
  go_ret
  exact ⟨rfl, ((Below.refl _ _).alloc (Nat.le_refl _) _).alloc (by simp) _⟩
set_option maxHeartbeats 8000000 in
set_option maxRecDepth 100000 in
theorem it_7 (pick : Int) (a b ts : ByteArray) (n m l : Int) (ax ay at1 ae : Option Addr) (nx cx ny cy nt ct ne ce : Nat) (set1 mesh : Bool) (w : World) (hp : bits .and .i64 pick 15 = 7) : Calls Try.prog 16 #[.agg #[.int .i64 pick, .string a, .string b, .int .i64 n, .int .i64 m, .int .i64 l, .slice ax nx cx, .slice ay ny cy, .string ts, .slice at1 nt ct, .slice ae ne ce, .bool set1, .bool mesh]] w fun e w' => e = .returned (.iface 68 (.agg #[.string a, .string b, .int .i64 n, .slice ax nx cx])) ∧ Below w.heap.size w w' := by
  go_enter Try.func16, Try.ntmps16
  go_wp2_with fail
  go_ret
  exact ⟨rfl, ((Below.refl _ _).alloc (Nat.le_refl _) _).alloc (by simp) _⟩
set_option maxHeartbeats 16000000 in
set_option maxRecDepth 100000 in
theorem msgW_4 (pick n m l : Int) (la lb lts lx ly lt : List UInt8) (ex : List (List UInt8 × List UInt8)) (ax ay at1 ae : Option Addr) (cx cy ct ce : Nat) (set1 mesh : Bool) (w w1 : World) (q : Nat) (u21 u22 u23 u24 u25 u26 u27 u28 u29 u30 u31 u32 u33 u34 u35 u36 u37 u38 u39 u40 u41 u42 u43 u44 u45 u46 u47 u48 u49 u50 u51 u52 u53 u54 u55 u56 u57 u58 : Value) (H : MwH pick n m l la lb lts lx ly lt ex ax ay at1 ae cx cy ct ce set1 mesh w w1 q) (hp : bits .and .i64 pick 15 = 4) : Code.wp Try.prog mwRest (bodyPost Try.prog Try.f4 (fun e w' => e = .returned (.bool true) ∧ Below w.heap.size w w')) (mwFrame pick n m l la lb lts lx ly lt ex ax ay at1 ae cx cy ct ce set1 mesh q u21 u22 u23 u24 u25 u26 u27 u28 u29 u30 u31 u32 u33 u34 u35 u36 u37 u38 u39 u40 u41 u42 u43 u44 u45 u46 u47 u48 u49 u50 u51 u52 u53 u54 u55 u56 u57 u58) w1 := by
  obtain ⟨HB1, HQ1, HX1, HT1, HE1, HN, HM, HLL, HMA, HMB, HMS, HMX, HMT, HME, HME2⟩ := H
  unfold mwFrame
  conv => arg 2; whnf
  obtain ⟨q0, q1, q2, q3, q4, q5, q6, q7, q8, q9, q10, q11, q12⟩ := cel13 HQ1.out
  have HIT := hqZ (it_4 pick (tx la) (tx lb) (tx lts) n m l ax ay at1 ae lx.length cx ly.length cy lt.length ct ex.length ce set1 mesh w1 hp)
  go_wp2_with ((with_reducible show wpList _ _ _ (⟨some 60, _, _, _, _, _⟩ :: _) _ _); refine wpList_ldAgg rfl (.tmp 1) aggIn rfl rfl (cs := [.int .i64 pick, .string (tx la), .string (tx lb), .int .i64 n, .int .i64 m, .int .i64 l, .slice ax lx.length cx, .slice ay ly.length cy, .string (tx lts), .slice at1 lt.length ct, .slice ae ex.length ce, .bool set1, .bool mesh]) rfl HQ1.out.cellsAll ?_)
  refine HIT.out.mono ?_
  rintro e w2 ⟨rfl, hb2⟩
  have HB2 : Hid (Below w.heap.size w w2) := hqZ (HB1.out.trans (hb2.mono HB1.out.size))
  have HQ2 := hqZ (HQ1.out.below hb2 HQ1.out.lt)
  have HX2 := hqZ (HX1.out.below hb2)
  have HT2 := hqZ (HT1.out.below hb2)
  have HE2 : Hid (TksV w2 (fun _ => True) ex (.slice ae ex.length ce)) := hqZ (by obtain ⟨rows, h1, h2⟩ := HE1.out; exact ⟨rows, h1.below hb2, h2.below hb2⟩)
  have HOK : Hid (∀ p ∈ ([.s la, .s lb, .n n] : List Pt), PtOk p) := hqZ (by
    intro p hp
    simp only [List.mem_cons, List.not_mem_nil, or_false] at hp
    rcases hp with rfl | rfl | rfl
    · exact (by have := HMA.out; show la.length ≤ _; omega)
    · exact (by have := HMB.out; show lb.length ≤ _; omega)
    · exact HN.out
    )
  have HPM : Hid (∀ p ∈ ([.s la, .s lb, .n n] : List Pt), PtM p) := hqZ (by
    intro p hp
    simp only [List.mem_cons, List.not_mem_nil, or_false] at hp
    rcases hp with rfl | rfl | rfl
    · exact HMA.out
    · exact HMB.out
    · exact trivial
    )
  have HMV : Hid (MsgV w2 (fun _ => True) 15 [.s la, .s lb, .n n] (.iface 62 (.agg #[.string (tx la), .string (tx lb), .int .i64 n]))) := hqZ ⟨[.string (tx la), .string (tx lb), .int .i64 n], rfl, [.string (tx la)], _, rfl, rfl, [.string (tx lb)], _, rfl, rfl, [.int .i64 n], _, rfl, rfl, rfl⟩
  have HWR := hqZ (msgWrite_any 15 [.s la, .s lb, .n n] _ _ w2 rfl rfl HMV.out HOK.out (fun h => msgTv_len _ _ (by simp) HPM.out h))
  have HWC := hqZ (wrM_cases 15 [.s la, .s lb, .n n] rfl rfl)
  obtain ⟨wr, hwr⟩ : ∃ wr, wr = wrM 15 [.s la, .s lb, .n n] := ⟨_, rfl⟩
  rw [← hwr] at HWR HWC
  clear hb2 HIT HOK HPM HMV HE1 HX1 HT1 HQ1 hwr
  go_wp2_with fail
  refine HWR.out.mono ?_
  rintro e w3 ⟨v3, rfl, hs3, hb3⟩
  have HB3 : Hid (Below w.heap.size w w3) := hqZ (HB2.out.trans (hb3.mono HB2.out.size))
  have HQ3 := hqZ (HQ2.out.below hb3 HQ2.out.lt)
  have HX3 := hqZ (HX2.out.below hb3)
  have HT3 := hqZ (HT2.out.below hb3)
  have HE3 : Hid (TksV w3 (fun _ => True) ex (.slice ae ex.length ce)) := hqZ (by obtain ⟨rows, h1, h2⟩ := HE2.out; exact ⟨rows, h1.below hb3, h2.below hb3⟩)
  have q0 : w3.cell? ⟨q, 0, none⟩ = some (.int .i64 pick) := HQ3.out.cell 0
  clear hb3 HWR HX2 HT2 HE2 HQ2
  rcases HWC.out with rfl | rfl | ⟨b, rfl, hwh, hrd, hmr, hpb⟩
  · obtain ⟨a3, c3, rfl, _⟩ := hs3.form
    rw [show ([] : List UInt8).length = 0 from rfl]
    clear hs3 HWC
    go_wp2_with fail
    go_ret
    exact ⟨rfl, HB3.out⟩
  · obtain ⟨a3, c3, rfl, _⟩ := hs3.form
    rw [show ([] : List UInt8).length = 0 from rfl]
    clear hs3 HWC
    go_wp2_with fail
    go_ret
    exact ⟨rfl, HB3.out⟩
  · obtain ⟨a3, c3, rfl, _⟩ := hs3.form
    have HS3 := hqZ hs3
    have HWH := hqZ (refWhole_any _ b w3 hs3)
    rw [hwh] at HWH
    have HRD := hqZ hrd
    have HMR := hqZ hmr
    have HPB := hqZ hpb
    clear hs3 HWC hwh hrd hmr hpb
    simp only
    go_wp2_with fail
    refine HWH.out.mono ?_
    rintro e w4 ⟨cr, rfl, htv, hb4⟩
    have HRL := hqZ htv.length
    have HRO := hqZ htv.one
    have HTV4 := hqZ htv
    have HN4 := hqZ (Blk.new w4 zs5 30)
    have HB34 := hqZ hb4
    clear htv hb4 HWH
    go_upto_region 9 with ((with_reducible show wpList _ _ _ (⟨none, .store _ (.tmp 5) (.tmp 91), _, _, _, _⟩ :: _) _ _); refine wpList_stAgg rfl (.tmp 5) (.tmp 91) aggRef rfl rfl (vs := cr) rfl HRL.out HN4.out (Nat.le_refl _) HRO.out ?_)
    intro w5 h5 k5
    have h5' : Blk w5 w4.heap.size cr 30 := by
      rw [List.drop_of_length_le (by decide), List.append_nil] at h5
      exact h5
    have hb5 : Below w4.heap.size w4 w5 := ((Below.refl _ _).alloc (Nat.le_refl _) _).trans (k5.below (by omega))
    have HP5 := hqZ h5'
    have HTV5 := hqZ (HTV4.out.below hb5)
    have HB35 : Hid (Below w3.heap.size w3 w5) := hqZ (HB34.out.trans (hb5.mono HB34.out.size))
    obtain ⟨p5, hp5⟩ : ∃ p5, p5 = w4.heap.size := ⟨_, rfl⟩
    rw [← hp5] at HP5 ⊢
    clear h5 k5 h5' hb5 hp5 HTV4 HN4 HB34
    go_upto_region 9 with fail
    have HS5 := hqZ (HS3.out.below HB35.out)
    have HRC := hqZ (msgRead_any _ b w5 HS5.out)
    rw [HRD.out] at HRC
    go_wp2_with fail
    refine HRC.out.mono ?_
    rintro e w6 ⟨v6, rfl, hb6, hm6⟩
    have hm6 : MsgV w6 (fun b => b < w6.heap.size) 15 [.s la, .s lb, .n n] v6 := hm6
    obtain ⟨cs6, rfl, hp6⟩ := hm6
    obtain ⟨e1, f1, rfl, g1, hp6⟩ := hp6
    obtain rfl := g1
    obtain ⟨e2, f2, rfl, g2, hp6⟩ := hp6
    obtain rfl := g2
    obtain ⟨e3, f3, rfl, g3, hp6⟩ := hp6
    obtain rfl := g3
    obtain rfl : _ = [] := hp6
    have hty : typM 15 = 62 := rfl
    simp only [List.cons_append, List.nil_append, hty]
    clear hty
    have HB36 : Hid (Below w3.heap.size w3 w6) := hqZ (HB35.out.trans (hb6.mono HB35.out.size))
    have HP6 := hqZ (HP5.out.below hb6 HP5.out.lt)
    have HTV6 := hqZ (HTV5.out.below hb6)
    have HRT := hqZ (refRight11_any (msgTv 15 [.s la, .s lb, .n n]) _ cr w6 HTV6.out)
    rw [HMR.out] at HRT
    have hr1 : ∀ W, Blk W p5 cr 30 → W.cell? ⟨p5, 1, none⟩ = some (.int .i64 15) := fun W hW => by
      obtain ⟨bv, lv, rows, e, _⟩ := HTV6.out.open_
      have h := hW.cell 1
      rw [e] at h
      exact h
    have HR1 := hqZ hr1
    clear hb6 hr1 HRC HP5 HTV5 HB35
    go_wp2_with ((with_reducible show wpList _ _ _ (⟨some 105, _, _, _, _, _⟩ :: _) _ _); refine wpList_ldAgg rfl (.tmp 5) aggRef rfl rfl (cs := cr) HRL.out HP6.out.cellsAll ?_)
    refine HRT.out.mono ?_
    rintro e w7 ⟨rfl, hb7⟩
    have hb7' := hb7
    have HB37 : Hid (Below w3.heap.size w3 w7) := hqZ (HB36.out.trans (hb7.mono HB36.out.size))
    have HP7 := hqZ (HP6.out.below hb7 HP6.out.lt)
    have r1 := HR1.out w7 HP7.out
    have HQ7 := hqZ (HQ3.out.below HB37.out HQ3.out.lt)
    have q0 : w7.cell? ⟨q, 0, none⟩ = some (.int .i64 pick) := HQ7.out.cell 0
    obtain ⟨z11, hta11⟩ := tan 54 62 (.agg #[.string (tx la), .string (tx lb), .int .i64 n]) zero_11 (by kernel_rfl) (by decide)
    obtain ⟨z12, hta12⟩ := tan 56 62 (.agg #[.string (tx la), .string (tx lb), .int .i64 n]) zero_12 (by kernel_rfl) (by decide)
    obtain ⟨z13, hta13⟩ := tan 59 62 (.agg #[.string (tx la), .string (tx lb), .int .i64 n]) zero_13 (by kernel_rfl) (by decide)
    obtain ⟨z14, hta14⟩ := tan 60 62 (.agg #[.string (tx la), .string (tx lb), .int .i64 n]) zero_14 (by kernel_rfl) (by decide)
    have hta : ∀ W, (Instr.typeAssert (.iface 62 (.agg #[.string (tx la), .string (tx lb), .int .i64 n])) 20 62 true).run Try.prog W = .ok (.tuple #[.agg #[.string (tx la), .string (tx lb), .int .i64 n], .bool true]) W := fun W => ta_is _ _ _ (by kernel_rfl) W
    clear hb7 HRT
    obtain ⟨w8, hw8⟩ : ∃ w8, w8 = w7.alloc (.cells #[.string (tx la), .string (tx lb), .int .i64 n] 62) := ⟨_, rfl⟩
    obtain ⟨p9, hp9⟩ : ∃ p9, p9 = w7.heap.size := ⟨_, rfl⟩
    have HP9 : Hid (Blk w8 p9 [.string (tx la), .string (tx lb), .int .i64 n] 62) := hqZ (by rw [hw8, hp9]; exact Blk.new _ _ _)
    have HB38 : Hid (Below w3.heap.size w3 w8) := hqZ (by rw [hw8]; exact HB37.out.alloc HB37.out.size _)
    have HB68 : Hid (Below w6.heap.size w6 w8) := hqZ (by rw [hw8]; exact hb7'.alloc hb7'.size _)
    go_upto_region 27 with fail
    show Code.wp _ _ _ _ (w7.alloc (.cells #[.string (tx la), .string (tx lb), .int .i64 n] 62))
    rw [← hw8, ← hp9]
    clear hw8 hp9 hta hta11 hta12 hta13 hta14
    have HB8 : Hid (Below w.heap.size w w8) := hqZ (HB3.out.trans (HB38.out.mono HB3.out.size))
    have HQ8 := hqZ (HQ3.out.below HB38.out HQ3.out.lt)
    have HX8 := hqZ (HX3.out.below HB38.out)
    have HT8 := hqZ (HT3.out.below HB38.out)
    clear q0 r1 HQ7 HP7 HP6
    obtain ⟨q0, q1, q2, q3, q4, q5, q6, q7, q8, q9, q10, q11, q12⟩ := cel13 HQ8.out
    obtain ⟨y0, y1, y2⟩ := cel3 HP9.out
    have HS8 : Hid (Below w8.heap.size w8 w8) := hqZ (Below.refl _ _)
    go_wp2_with fail
    go_ret
    exact ⟨rfl, HB8.out.trans (HS8.out.mono HB8.out.size)⟩
end Go.Proofs.Ytpjkidcfidmfaaa
