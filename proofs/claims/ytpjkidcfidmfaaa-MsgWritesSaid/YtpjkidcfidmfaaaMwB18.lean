/- Texts of this proof, one behind the other: MsgW5, MsgW6, MsgW7, MItC, MsgW8, MsgW9, MsgW10, MsgW11, MItD, MsgW12, MsgW13, MsgW14, MsgW15. -/
import Derived.Test.YtpjkidcfidmfaaaMwB17
import Derived.Deep.DeepCutAuto
namespace Go.Proofs.Ytpjkidcfidmfaaa
set_option linter.unusedSimpArgs false
set_option linter.unusedVariables false
open Go.RowKit
set_option maxHeartbeats 16000000 in
set_option maxRecDepth 100000 in
theorem msgW_5 (pick n m l : Int) (la lb lts lx ly lt : List UInt8) (ex : List (List UInt8 × List UInt8)) (ax ay at1 ae : Option Addr) (cx cy ct ce : Nat) (set1 mesh : Bool) (w w1 : World) (q : Nat) (u21 u22 u23 u24 u25 u26 u27 u28 u29 u30 u31 u32 u33 u34 u35 u36 u37 u38 u39 u40 u41 u42 u43 u44 u45 u46 u47 u48 u49 u50 u51 u52 u53 u54 u55 u56 u57 u58 : Value) (H : MwH pick n m l la lb lts lx ly lt ex ax ay at1 ae cx cy ct ce set1 mesh w w1 q) (hp : bits .and .i64 pick 15 = 5) : Code.wp Try.prog mwRest (bodyPost Try.prog Try.f4 (fun e w' => e = .returned (.bool true) ∧ Below w.heap.size w w')) (mwFrame pick n m l la lb lts lx ly lt ex ax ay at1 ae cx cy ct ce set1 mesh q u21 u22 u23 u24 u25 u26 u27 u28 u29 u30 u31 u32 u33 u34 u35 u36 u37 u38 u39 u40 u41 u42 u43 u44 u45 u46 u47 u48 u49 u50 u51 u52 u53 u54 u55 u56 u57 u58) w1 := by
  obtain ⟨HB1, HQ1, HX1, HT1, HE1, HN, HM, HLL, HMA, HMB, HMS, HMX, HMT, HME, HME2⟩ := H
  unfold mwFrame
  conv => arg 2; whnf
  obtain ⟨q0, q1, q2, q3, q4, q5, q6, q7, q8, q9, q10, q11, q12⟩ := cel13 HQ1.out
  have HIT := hqZ (it_5 pick (tx la) (tx lb) (tx lts) n m l ax ay at1 ae lx.length cx ly.length cy lt.length ct ex.length ce set1 mesh w1 hp)
  go_wp2_with ((with_reducible show wpList _ _ _ (⟨some 60, _, _, _, _, _⟩ :: _) _ _); refine wpList_ldAgg rfl (.tmp 1) aggIn rfl rfl (cs := [.int .i64 pick, .string (tx la), .string (tx lb), .int .i64 n, .int .i64 m, .int .i64 l, .slice ax lx.length cx, .slice ay ly.length cy, .string (tx lts), .slice at1 lt.length ct, .slice ae ex.length ce, .bool set1, .bool mesh]) rfl HQ1.out.cellsAll ?_)
  refine HIT.out.mono ?_
  rintro e w2 ⟨rfl, hb2⟩
  have HB2 : Hid (Below w.heap.size w w2) := hqZ (HB1.out.trans (hb2.mono HB1.out.size))
  have HQ2 := hqZ (HQ1.out.below hb2 HQ1.out.lt)
  have HX2 := hqZ (HX1.out.below hb2)
  have HT2 := hqZ (HT1.out.below hb2)
  have HE2 : Hid (TksV w2 (fun _ => True) ex (.slice ae ex.length ce)) := hqZ (by obtain ⟨rows, h1, h2⟩ := HE1.out; exact ⟨rows, h1.below hb2, h2.below hb2⟩)
  have HOK : Hid (∀ p ∈ ([.s la, .s lb, .n n, .i (lts, lt)] : List Pt), PtOk p) := hqZ (by
    intro p hp
    simp only [List.mem_cons, List.not_mem_nil, or_false] at hp
    rcases hp with rfl | rfl | rfl | rfl
    · exact (by have := HMA.out; show la.length ≤ _; omega)
    · exact (by have := HMB.out; show lb.length ≤ _; omega)
    · exact HN.out
    · exact (by have := HMS.out; have := HMT.out; show lts.length ≤ _ ∧ lt.length ≤ _; omega)
    )
  have HPM : Hid (∀ p ∈ ([.s la, .s lb, .n n, .i (lts, lt)] : List Pt), PtM p) := hqZ (by
    intro p hp
    simp only [List.mem_cons, List.not_mem_nil, or_false] at hp
    rcases hp with rfl | rfl | rfl | rfl
    · exact HMA.out
    · exact HMB.out
    · exact trivial
    · exact ⟨HMS.out, HMT.out⟩
    )
  have HMV : Hid (MsgV w2 (fun _ => True) 16 [.s la, .s lb, .n n, .i (lts, lt)] (.iface 64 (.agg #[.string (tx la), .string (tx lb), .int .i64 n, .string (tx lts), .slice at1 lt.length ct]))) := hqZ ⟨[.string (tx la), .string (tx lb), .int .i64 n, .string (tx lts), .slice at1 lt.length ct], rfl, [.string (tx la)], _, rfl, rfl, [.string (tx lb)], _, rfl, rfl, [.int .i64 n], _, rfl, rfl, [.string (tx lts), .slice at1 lt.length ct], _, rfl, ⟨_, rfl, HT2.out, fun _ _ _ => trivial⟩, rfl⟩
  have HWR := hqZ (msgWrite_any 16 [.s la, .s lb, .n n, .i (lts, lt)] _ _ w2 rfl rfl HMV.out HOK.out (fun h => msgTv_len _ _ (by simp) HPM.out h))
  have HWC := hqZ (wrM_cases 16 [.s la, .s lb, .n n, .i (lts, lt)] rfl rfl)
  obtain ⟨wr, hwr⟩ : ∃ wr, wr = wrM 16 [.s la, .s lb, .n n, .i (lts, lt)] := ⟨_, rfl⟩
  rw [← hwr] at HWR HWC
  clear hb2 HIT HOK HPM HMV HE1 HX1 HT1 HQ1 hwr
  go_wp2_with fail
  refine HWR.out.mono ?_
  rintro e w3 ⟨v3, rfl, hs3, hb3⟩
  have HB3 : Hid (Below w.heap.size w w3) := hqZ (HB2.out.trans (hb3.mono HB2.out.size))
  have HQ3 := hqZ (HQ2.out.below hb3 HQ2.out.lt)
  have HX3 := hqZ (HX2.out.below hb3)
  have HT3 := hqZ (HT2.out.below hb3)
  have HE3 : Hid (TksV w3 (fun _ => True) ex (.slice ae ex.length ce)) := hqZ (by obtain ⟨rows, h1, h2⟩ := HE2.out; exact ⟨rows, h1.below hb3, h2.below hb3⟩)
  have q0 : w3.cell? ⟨q, 0, none⟩ = some (.int .i64 pick) := HQ3.out.cell 0
  clear hb3 HWR HX2 HT2 HE2 HQ2
  rcases HWC.out with rfl | rfl | ⟨b, rfl, hwh, hrd, hmr, hpb⟩
  · obtain ⟨a3, c3, rfl, _⟩ := hs3.form
    rw [show ([] : List UInt8).length = 0 from rfl]
    clear hs3 HWC
    go_wp2_with fail
    go_ret
    exact ⟨rfl, HB3.out⟩
  · obtain ⟨a3, c3, rfl, _⟩ := hs3.form
    rw [show ([] : List UInt8).length = 0 from rfl]
    clear hs3 HWC
    go_wp2_with fail
    go_ret
    exact ⟨rfl, HB3.out⟩
  · obtain ⟨a3, c3, rfl, _⟩ := hs3.form
    have HS3 := hqZ hs3
    have HWH := hqZ (refWhole_any _ b w3 hs3)
    rw [hwh] at HWH
    have HRD := hqZ hrd
    have HMR := hqZ hmr
    have HPB := hqZ hpb
    clear hs3 HWC hwh hrd hmr hpb
    simp only
    go_wp2_with fail
    refine HWH.out.mono ?_
    rintro e w4 ⟨cr, rfl, htv, hb4⟩
    have HRL := hqZ htv.length
    have HRO := hqZ htv.one
    have HTV4 := hqZ htv
    have HN4 := hqZ (Blk.new w4 zs5 30)
    have HB34 := hqZ hb4
    clear htv hb4 HWH
    go_upto_region 9 with ((with_reducible show wpList _ _ _ (⟨none, .store _ (.tmp 5) (.tmp 91), _, _, _, _⟩ :: _) _ _); refine wpList_stAgg rfl (.tmp 5) (.tmp 91) aggRef rfl rfl (vs := cr) rfl HRL.out HN4.out (Nat.le_refl _) HRO.out ?_)
    intro w5 h5 k5
    have h5' : Blk w5 w4.heap.size cr 30 := by
      rw [List.drop_of_length_le (by decide), List.append_nil] at h5
      exact h5
    have hb5 : Below w4.heap.size w4 w5 := ((Below.refl _ _).alloc (Nat.le_refl _) _).trans (k5.below (by omega))
    have HP5 := hqZ h5'
    have HTV5 := hqZ (HTV4.out.below hb5)
    have HB35 : Hid (Below w3.heap.size w3 w5) := hqZ (HB34.out.trans (hb5.mono HB34.out.size))
    obtain ⟨p5, hp5⟩ : ∃ p5, p5 = w4.heap.size := ⟨_, rfl⟩
    rw [← hp5] at HP5 ⊢
    clear h5 k5 h5' hb5 hp5 HTV4 HN4 HB34
    go_upto_region 9 with fail
    have HS5 := hqZ (HS3.out.below HB35.out)
    have HRC := hqZ (msgRead_any _ b w5 HS5.out)
    rw [HRD.out] at HRC
    go_wp2_with fail
    refine HRC.out.mono ?_
    rintro e w6 ⟨v6, rfl, hb6, hm6⟩
    have hm6 : MsgV w6 (fun b => b < w6.heap.size) 16 [.s la, .s lb, .n n, .i (lts, lt)] v6 := hm6
    obtain ⟨cs6, rfl, hp6⟩ := hm6
    obtain ⟨e1, f1, rfl, g1, hp6⟩ := hp6
    obtain rfl := g1
    obtain ⟨e2, f2, rfl, g2, hp6⟩ := hp6
    obtain rfl := g2
    obtain ⟨e3, f3, rfl, g3, hp6⟩ := hp6
    obtain rfl := g3
    obtain ⟨e4, f4, rfl, g4, hp6⟩ := hp6
    obtain ⟨vv4, rfl, hy4, _⟩ := g4
    obtain ⟨ya4, yc4, rfl, _⟩ := hy4.form
    have HY4 := hqZ hy4
    clear hy4
    obtain rfl : _ = [] := hp6
    have hty : typM 16 = 64 := rfl
    simp only [List.cons_append, List.nil_append, hty]
    clear hty
    have HB36 : Hid (Below w3.heap.size w3 w6) := hqZ (HB35.out.trans (hb6.mono HB35.out.size))
    have HP6 := hqZ (HP5.out.below hb6 HP5.out.lt)
    have HTV6 := hqZ (HTV5.out.below hb6)
    have HRT := hqZ (refRight11_any (msgTv 16 [.s la, .s lb, .n n, .i (lts, lt)]) _ cr w6 HTV6.out)
    rw [HMR.out] at HRT
    have hr1 : ∀ W, Blk W p5 cr 30 → W.cell? ⟨p5, 1, none⟩ = some (.int .i64 16) := fun W hW => by
      obtain ⟨bv, lv, rows, e, _⟩ := HTV6.out.open_
      have h := hW.cell 1
      rw [e] at h
      exact h
    have HR1 := hqZ hr1
    clear hb6 hr1 HRC HP5 HTV5 HB35
    go_wp2_with ((with_reducible show wpList _ _ _ (⟨some 105, _, _, _, _, _⟩ :: _) _ _); refine wpList_ldAgg rfl (.tmp 5) aggRef rfl rfl (cs := cr) HRL.out HP6.out.cellsAll ?_)
    refine HRT.out.mono ?_
    rintro e w7 ⟨rfl, hb7⟩
    have hb7' := hb7
    have HB37 : Hid (Below w3.heap.size w3 w7) := hqZ (HB36.out.trans (hb7.mono HB36.out.size))
    have HP7 := hqZ (HP6.out.below hb7 HP6.out.lt)
    have r1 := HR1.out w7 HP7.out
    have HQ7 := hqZ (HQ3.out.below HB37.out HQ3.out.lt)
    have q0 : w7.cell? ⟨q, 0, none⟩ = some (.int .i64 pick) := HQ7.out.cell 0
    obtain ⟨z11, hta11⟩ := tan 54 64 (.agg #[.string (tx la), .string (tx lb), .int .i64 n, .string (tx lts), .slice ya4 lt.length yc4]) zero_11 (by kernel_rfl) (by decide)
    obtain ⟨z12, hta12⟩ := tan 56 64 (.agg #[.string (tx la), .string (tx lb), .int .i64 n, .string (tx lts), .slice ya4 lt.length yc4]) zero_12 (by kernel_rfl) (by decide)
    obtain ⟨z13, hta13⟩ := tan 59 64 (.agg #[.string (tx la), .string (tx lb), .int .i64 n, .string (tx lts), .slice ya4 lt.length yc4]) zero_13 (by kernel_rfl) (by decide)
    obtain ⟨z14, hta14⟩ := tan 60 64 (.agg #[.string (tx la), .string (tx lb), .int .i64 n, .string (tx lts), .slice ya4 lt.length yc4]) zero_14 (by kernel_rfl) (by decide)
    obtain ⟨z15, hta15⟩ := tan 62 64 (.agg #[.string (tx la), .string (tx lb), .int .i64 n, .string (tx lts), .slice ya4 lt.length yc4]) zero_15 (by kernel_rfl) (by decide)
    have hta : ∀ W, (Instr.typeAssert (.iface 64 (.agg #[.string (tx la), .string (tx lb), .int .i64 n, .string (tx lts), .slice ya4 lt.length yc4])) 20 64 true).run Try.prog W = .ok (.tuple #[.agg #[.string (tx la), .string (tx lb), .int .i64 n, .string (tx lts), .slice ya4 lt.length yc4], .bool true]) W := fun W => ta_is _ _ _ (by kernel_rfl) W
    clear hb7 HRT
    obtain ⟨w8, hw8⟩ : ∃ w8, w8 = w7.alloc (.cells #[.string (tx la), .string (tx lb), .int .i64 n, .string (tx lts), .slice ya4 lt.length yc4] 64) := ⟨_, rfl⟩
    obtain ⟨p9, hp9⟩ : ∃ p9, p9 = w7.heap.size := ⟨_, rfl⟩
    have HP9 : Hid (Blk w8 p9 [.string (tx la), .string (tx lb), .int .i64 n, .string (tx lts), .slice ya4 lt.length yc4] 64) := hqZ (by rw [hw8, hp9]; exact Blk.new _ _ _)
    have HB38 : Hid (Below w3.heap.size w3 w8) := hqZ (by rw [hw8]; exact HB37.out.alloc HB37.out.size _)
    have HB68 : Hid (Below w6.heap.size w6 w8) := hqZ (by rw [hw8]; exact hb7'.alloc hb7'.size _)
    go_upto_region 30 with fail
    show Code.wp _ _ _ _ (w7.alloc (.cells #[.string (tx la), .string (tx lb), .int .i64 n, .string (tx lts), .slice ya4 lt.length yc4] 64))
    rw [← hw8, ← hp9]
    clear hw8 hp9 hta hta11 hta12 hta13 hta14 hta15
    have HB8 : Hid (Below w.heap.size w w8) := hqZ (HB3.out.trans (HB38.out.mono HB3.out.size))
    have HQ8 := hqZ (HQ3.out.below HB38.out HQ3.out.lt)
    have HX8 := hqZ (HX3.out.below HB38.out)
    have HT8 := hqZ (HT3.out.below HB38.out)
    have HY84 := hqZ (HY4.out.below HB68.out)
    clear q0 r1 HQ7 HP7 HP6
    obtain ⟨q0, q1, q2, q3, q4, q5, q6, q7, q8, q9, q10, q11, q12⟩ := cel13 HQ8.out
    obtain ⟨y0, y1, y2, y3, y4⟩ := cel5 HP9.out
    have HS8 : Hid (Below w8.heap.size w8 w8) := hqZ (Below.refl _ _)
    go_wp2_with (first | ((with_reducible show wpList _ _ _ (⟨some 310, _, _, _, _, _⟩ :: _) _ _); refine wpList_ldAgg rfl (.tmp 309) aggTicket rfl rfl (cs := [.string (tx lts), .slice ya4 lt.length yc4]) rfl ((HP9.out.below HS8.out HP9.out.lt).cellsAt 3 2) ?_) | ((with_reducible show wpList _ _ _ (⟨some 312, _, _, _, _, _⟩ :: _) _ _); refine wpList_ldAgg rfl (.tmp 311) aggTicket rfl rfl (cs := [.string (tx lts), .slice at1 lt.length ct]) rfl ((HQ8.out.below HS8.out HQ8.out.lt).cellsAt 8 2) ?_))
    refine (sameTk_any (tx lts) _ _ lt w8 (HY84.out.below HS8.out) (HT8.out.below HS8.out)).mono ?_
    rintro e w9 ⟨rfl, hb⟩
    have HS9 : Hid (Below w8.heap.size w8 w9) := hqZ (HS8.out.trans (hb.mono HS8.out.size))
    clear hb q0 q1 q2 q3 q4 q5 q6 q7 q8 q9 q10 q11 q12 y0 y1 y2 y3 y4
    obtain ⟨q0, q1, q2, q3, q4, q5, q6, q7, q8, q9, q10, q11, q12⟩ := cel13 (HQ8.out.below HS9.out HQ8.out.lt)
    obtain ⟨y0, y1, y2, y3, y4⟩ := cel5 (HP9.out.below HS9.out HP9.out.lt)
    go_wp2_with fail
    go_ret
    exact ⟨rfl, HB8.out.trans (HS9.out.mono HB8.out.size)⟩
set_option maxHeartbeats 16000000 in
set_option maxRecDepth 100000 in
theorem msgW_6 (pick n m l : Int) (la lb lts lx ly lt : List UInt8) (ex : List (List UInt8 × List UInt8)) (ax ay at1 ae : Option Addr) (cx cy ct ce : Nat) (set1 mesh : Bool) (w w1 : World) (q : Nat) (u21 u22 u23 u24 u25 u26 u27 u28 u29 u30 u31 u32 u33 u34 u35 u36 u37 u38 u39 u40 u41 u42 u43 u44 u45 u46 u47 u48 u49 u50 u51 u52 u53 u54 u55 u56 u57 u58 : Value) (H : MwH pick n m l la lb lts lx ly lt ex ax ay at1 ae cx cy ct ce set1 mesh w w1 q) (hp : bits .and .i64 pick 15 = 6) : Code.wp Try.prog mwRest (bodyPost Try.prog Try.f4 (fun e w' => e = .returned (.bool true) ∧ Below w.heap.size w w')) (mwFrame pick n m l la lb lts lx ly lt ex ax ay at1 ae cx cy ct ce set1 mesh q u21 u22 u23 u24 u25 u26 u27 u28 u29 u30 u31 u32 u33 u34 u35 u36 u37 u38 u39 u40 u41 u42 u43 u44 u45 u46 u47 u48 u49 u50 u51 u52 u53 u54 u55 u56 u57 u58) w1 := by
  obtain ⟨HB1, HQ1, HX1, HT1, HE1, HN, HM, HLL, HMA, HMB, HMS, HMX, HMT, HME, HME2⟩ := H
  unfold mwFrame
  conv => arg 2; whnf
  obtain ⟨q0, q1, q2, q3, q4, q5, q6, q7, q8, q9, q10, q11, q12⟩ := cel13 HQ1.out
  have HIT := hqZ (it_6 pick (tx la) (tx lb) (tx lts) n m l ax ay at1 ae lx.length cx ly.length cy lt.length ct ex.length ce set1 mesh w1 hp)
  go_wp2_with ((with_reducible show wpList _ _ _ (⟨some 60, _, _, _, _, _⟩ :: _) _ _); refine wpList_ldAgg rfl (.tmp 1) aggIn rfl rfl (cs := [.int .i64 pick, .string (tx la), .string (tx lb), .int .i64 n, .int .i64 m, .int .i64 l, .slice ax lx.length cx, .slice ay ly.length cy, .string (tx lts), .slice at1 lt.length ct, .slice ae ex.length ce, .bool set1, .bool mesh]) rfl HQ1.out.cellsAll ?_)
  refine HIT.out.mono ?_
  rintro e w2 ⟨rfl, hb2⟩
  have HB2 : Hid (Below w.heap.size w w2) := hqZ (HB1.out.trans (hb2.mono HB1.out.size))
  have HQ2 := hqZ (HQ1.out.below hb2 HQ1.out.lt)
  have HX2 := hqZ (HX1.out.below hb2)
  have HT2 := hqZ (HT1.out.below hb2)
  have HE2 : Hid (TksV w2 (fun _ => True) ex (.slice ae ex.length ce)) := hqZ (by obtain ⟨rows, h1, h2⟩ := HE1.out; exact ⟨rows, h1.below hb2, h2.below hb2⟩)
  have HOK : Hid (∀ p ∈ ([.s la, .s lb, .n n, .i (lts, lt), .b lx] : List Pt), PtOk p) := hqZ (by
    intro p hp
    simp only [List.mem_cons, List.not_mem_nil, or_false] at hp
    rcases hp with rfl | rfl | rfl | rfl | rfl
    · exact (by have := HMA.out; show la.length ≤ _; omega)
    · exact (by have := HMB.out; show lb.length ≤ _; omega)
    · exact HN.out
    · exact (by have := HMS.out; have := HMT.out; show lts.length ≤ _ ∧ lt.length ≤ _; omega)
    · exact (by have := HMX.out; show lx.length ≤ _; omega)
    )
  have HPM : Hid (∀ p ∈ ([.s la, .s lb, .n n, .i (lts, lt), .b lx] : List Pt), PtM p) := hqZ (by
    intro p hp
    simp only [List.mem_cons, List.not_mem_nil, or_false] at hp
    rcases hp with rfl | rfl | rfl | rfl | rfl
    · exact HMA.out
    · exact HMB.out
    · exact trivial
    · exact ⟨HMS.out, HMT.out⟩
    · exact HMX.out
    )
  have HMV : Hid (MsgV w2 (fun _ => True) 17 [.s la, .s lb, .n n, .i (lts, lt), .b lx] (.iface 66 (.agg #[.string (tx la), .string (tx lb), .int .i64 n, .string (tx lts), .slice at1 lt.length ct, .slice ax lx.length cx]))) := hqZ ⟨[.string (tx la), .string (tx lb), .int .i64 n, .string (tx lts), .slice at1 lt.length ct, .slice ax lx.length cx], rfl, [.string (tx la)], _, rfl, rfl, [.string (tx lb)], _, rfl, rfl, [.int .i64 n], _, rfl, rfl, [.string (tx lts), .slice at1 lt.length ct], _, rfl, ⟨_, rfl, HT2.out, fun _ _ _ => trivial⟩, [.slice ax lx.length cx], _, rfl, ⟨_, rfl, HX2.out, fun _ _ _ => trivial⟩, rfl⟩
  have HWR := hqZ (msgWrite_any 17 [.s la, .s lb, .n n, .i (lts, lt), .b lx] _ _ w2 rfl rfl HMV.out HOK.out (fun h => msgTv_len _ _ (by simp) HPM.out h))
  have HWC := hqZ (wrM_cases 17 [.s la, .s lb, .n n, .i (lts, lt), .b lx] rfl rfl)
  obtain ⟨wr, hwr⟩ : ∃ wr, wr = wrM 17 [.s la, .s lb, .n n, .i (lts, lt), .b lx] := ⟨_, rfl⟩
  rw [← hwr] at HWR HWC
  clear hb2 HIT HOK HPM HMV HE1 HX1 HT1 HQ1 hwr
  go_wp2_with fail
  refine HWR.out.mono ?_
  rintro e w3 ⟨v3, rfl, hs3, hb3⟩
  have HB3 : Hid (Below w.heap.size w w3) := hqZ (HB2.out.trans (hb3.mono HB2.out.size))
  have HQ3 := hqZ (HQ2.out.below hb3 HQ2.out.lt)
  have HX3 := hqZ (HX2.out.below hb3)
  have HT3 := hqZ (HT2.out.below hb3)
  have HE3 : Hid (TksV w3 (fun _ => True) ex (.slice ae ex.length ce)) := hqZ (by obtain ⟨rows, h1, h2⟩ := HE2.out; exact ⟨rows, h1.below hb3, h2.below hb3⟩)
  have q0 : w3.cell? ⟨q, 0, none⟩ = some (.int .i64 pick) := HQ3.out.cell 0
  clear hb3 HWR HX2 HT2 HE2 HQ2
  rcases HWC.out with rfl | rfl | ⟨b, rfl, hwh, hrd, hmr, hpb⟩
  · obtain ⟨a3, c3, rfl, _⟩ := hs3.form
    rw [show ([] : List UInt8).length = 0 from rfl]
    clear hs3 HWC
    go_wp2_with fail
    go_ret
    exact ⟨rfl, HB3.out⟩
  · obtain ⟨a3, c3, rfl, _⟩ := hs3.form
    rw [show ([] : List UInt8).length = 0 from rfl]
    clear hs3 HWC
    go_wp2_with fail
    go_ret
    exact ⟨rfl, HB3.out⟩
  · obtain ⟨a3, c3, rfl, _⟩ := hs3.form
    have HS3 := hqZ hs3
    have HWH := hqZ (refWhole_any _ b w3 hs3)
    rw [hwh] at HWH
    have HRD := hqZ hrd
    have HMR := hqZ hmr
    have HPB := hqZ hpb
    clear hs3 HWC hwh hrd hmr hpb
    simp only
    go_wp2_with fail
    refine HWH.out.mono ?_
    rintro e w4 ⟨cr, rfl, htv, hb4⟩
    have HRL := hqZ htv.length
    have HRO := hqZ htv.one
    have HTV4 := hqZ htv
    have HN4 := hqZ (Blk.new w4 zs5 30)
    have HB34 := hqZ hb4
    clear htv hb4 HWH
    go_upto_region 9 with ((with_reducible show wpList _ _ _ (⟨none, .store _ (.tmp 5) (.tmp 91), _, _, _, _⟩ :: _) _ _); refine wpList_stAgg rfl (.tmp 5) (.tmp 91) aggRef rfl rfl (vs := cr) rfl HRL.out HN4.out (Nat.le_refl _) HRO.out ?_)
    intro w5 h5 k5
    have h5' : Blk w5 w4.heap.size cr 30 := by
      rw [List.drop_of_length_le (by decide), List.append_nil] at h5
      exact h5
    have hb5 : Below w4.heap.size w4 w5 := ((Below.refl _ _).alloc (Nat.le_refl _) _).trans (k5.below (by omega))
    have HP5 := hqZ h5'
    have HTV5 := hqZ (HTV4.out.below hb5)
    have HB35 : Hid (Below w3.heap.size w3 w5) := hqZ (HB34.out.trans (hb5.mono HB34.out.size))
    obtain ⟨p5, hp5⟩ : ∃ p5, p5 = w4.heap.size := ⟨_, rfl⟩
    rw [← hp5] at HP5 ⊢
    clear h5 k5 h5' hb5 hp5 HTV4 HN4 HB34
    go_upto_region 9 with fail
    have HS5 := hqZ (HS3.out.below HB35.out)
    have HRC := hqZ (msgRead_any _ b w5 HS5.out)
    rw [HRD.out] at HRC
    go_wp2_with fail
    refine HRC.out.mono ?_
    rintro e w6 ⟨v6, rfl, hb6, hm6⟩
    have hm6 : MsgV w6 (fun b => b < w6.heap.size) 17 [.s la, .s lb, .n n, .i (lts, lt), .b lx] v6 := hm6
    obtain ⟨cs6, rfl, hp6⟩ := hm6
    obtain ⟨e1, f1, rfl, g1, hp6⟩ := hp6
    obtain rfl := g1
    obtain ⟨e2, f2, rfl, g2, hp6⟩ := hp6
    obtain rfl := g2
    obtain ⟨e3, f3, rfl, g3, hp6⟩ := hp6
    obtain rfl := g3
    obtain ⟨e4, f4, rfl, g4, hp6⟩ := hp6
    obtain ⟨vv4, rfl, hy4, _⟩ := g4
    obtain ⟨ya4, yc4, rfl, _⟩ := hy4.form
    have HY4 := hqZ hy4
    clear hy4
    obtain ⟨e5, f5, rfl, g5, hp6⟩ := hp6
    obtain ⟨vv5, rfl, hy5, _⟩ := g5
    obtain ⟨ya5, yc5, rfl, _⟩ := hy5.form
    have HY5 := hqZ hy5
    clear hy5
    obtain rfl : _ = [] := hp6
    have hty : typM 17 = 66 := rfl
    simp only [List.cons_append, List.nil_append, hty]
    clear hty
    have HB36 : Hid (Below w3.heap.size w3 w6) := hqZ (HB35.out.trans (hb6.mono HB35.out.size))
    have HP6 := hqZ (HP5.out.below hb6 HP5.out.lt)
    have HTV6 := hqZ (HTV5.out.below hb6)
    have HRT := hqZ (refRight11_any (msgTv 17 [.s la, .s lb, .n n, .i (lts, lt), .b lx]) _ cr w6 HTV6.out)
    rw [HMR.out] at HRT
    have hr1 : ∀ W, Blk W p5 cr 30 → W.cell? ⟨p5, 1, none⟩ = some (.int .i64 17) := fun W hW => by
      obtain ⟨bv, lv, rows, e, _⟩ := HTV6.out.open_
      have h := hW.cell 1
      rw [e] at h
      exact h
    have HR1 := hqZ hr1
    clear hb6 hr1 HRC HP5 HTV5 HB35
    go_wp2_with ((with_reducible show wpList _ _ _ (⟨some 105, _, _, _, _, _⟩ :: _) _ _); refine wpList_ldAgg rfl (.tmp 5) aggRef rfl rfl (cs := cr) HRL.out HP6.out.cellsAll ?_)
    refine HRT.out.mono ?_
    rintro e w7 ⟨rfl, hb7⟩
    have hb7' := hb7
    have HB37 : Hid (Below w3.heap.size w3 w7) := hqZ (HB36.out.trans (hb7.mono HB36.out.size))
    have HP7 := hqZ (HP6.out.below hb7 HP6.out.lt)
    have r1 := HR1.out w7 HP7.out
    have HQ7 := hqZ (HQ3.out.below HB37.out HQ3.out.lt)
    have q0 : w7.cell? ⟨q, 0, none⟩ = some (.int .i64 pick) := HQ7.out.cell 0
    obtain ⟨z11, hta11⟩ := tan 54 66 (.agg #[.string (tx la), .string (tx lb), .int .i64 n, .string (tx lts), .slice ya4 lt.length yc4, .slice ya5 lx.length yc5]) zero_11 (by kernel_rfl) (by decide)
    obtain ⟨z12, hta12⟩ := tan 56 66 (.agg #[.string (tx la), .string (tx lb), .int .i64 n, .string (tx lts), .slice ya4 lt.length yc4, .slice ya5 lx.length yc5]) zero_12 (by kernel_rfl) (by decide)
    obtain ⟨z13, hta13⟩ := tan 59 66 (.agg #[.string (tx la), .string (tx lb), .int .i64 n, .string (tx lts), .slice ya4 lt.length yc4, .slice ya5 lx.length yc5]) zero_13 (by kernel_rfl) (by decide)
    obtain ⟨z14, hta14⟩ := tan 60 66 (.agg #[.string (tx la), .string (tx lb), .int .i64 n, .string (tx lts), .slice ya4 lt.length yc4, .slice ya5 lx.length yc5]) zero_14 (by kernel_rfl) (by decide)
    obtain ⟨z15, hta15⟩ := tan 62 66 (.agg #[.string (tx la), .string (tx lb), .int .i64 n, .string (tx lts), .slice ya4 lt.length yc4, .slice ya5 lx.length yc5]) zero_15 (by kernel_rfl) (by decide)
    obtain ⟨z16, hta16⟩ := tan 64 66 (.agg #[.string (tx la), .string (tx lb), .int .i64 n, .string (tx lts), .slice ya4 lt.length yc4, .slice ya5 lx.length yc5]) zero_16 (by kernel_rfl) (by decide)
    have hta : ∀ W, (Instr.typeAssert (.iface 66 (.agg #[.string (tx la), .string (tx lb), .int .i64 n, .string (tx lts), .slice ya4 lt.length yc4, .slice ya5 lx.length yc5])) 20 66 true).run Try.prog W = .ok (.tuple #[.agg #[.string (tx la), .string (tx lb), .int .i64 n, .string (tx lts), .slice ya4 lt.length yc4, .slice ya5 lx.length yc5], .bool true]) W := fun W => ta_is _ _ _ (by kernel_rfl) W
    clear hb7 HRT
    obtain ⟨w8, hw8⟩ : ∃ w8, w8 = w7.alloc (.cells #[.string (tx la), .string (tx lb), .int .i64 n, .string (tx lts), .slice ya4 lt.length yc4, .slice ya5 lx.length yc5] 66) := ⟨_, rfl⟩
    obtain ⟨p9, hp9⟩ : ∃ p9, p9 = w7.heap.size := ⟨_, rfl⟩
    have HP9 : Hid (Blk w8 p9 [.string (tx la), .string (tx lb), .int .i64 n, .string (tx lts), .slice ya4 lt.length yc4, .slice ya5 lx.length yc5] 66) := hqZ (by rw [hw8, hp9]; exact Blk.new _ _ _)
    have HB38 : Hid (Below w3.heap.size w3 w8) := hqZ (by rw [hw8]; exact HB37.out.alloc HB37.out.size _)
    have HB68 : Hid (Below w6.heap.size w6 w8) := hqZ (by rw [hw8]; exact hb7'.alloc hb7'.size _)
    go_upto_region 33 with fail
    show Code.wp _ _ _ _ (w7.alloc (.cells #[.string (tx la), .string (tx lb), .int .i64 n, .string (tx lts), .slice ya4 lt.length yc4, .slice ya5 lx.length yc5] 66))
    rw [← hw8, ← hp9]
    clear hw8 hp9 hta hta11 hta12 hta13 hta14 hta15 hta16
    have HB8 : Hid (Below w.heap.size w w8) := hqZ (HB3.out.trans (HB38.out.mono HB3.out.size))
    have HQ8 := hqZ (HQ3.out.below HB38.out HQ3.out.lt)
    have HX8 := hqZ (HX3.out.below HB38.out)
    have HT8 := hqZ (HT3.out.below HB38.out)
    have HY84 := hqZ (HY4.out.below HB68.out)
    have HY85 := hqZ (HY5.out.below HB68.out)
    clear q0 r1 HQ7 HP7 HP6
    obtain ⟨q0, q1, q2, q3, q4, q5, q6, q7, q8, q9, q10, q11, q12⟩ := cel13 HQ8.out
    obtain ⟨y0, y1, y2, y3, y4, y5⟩ := cel6 HP9.out
    have HS8 : Hid (Below w8.heap.size w8 w8) := hqZ (Below.refl _ _)
    go_wp2_with (first | ((with_reducible show wpList _ _ _ (⟨some 339, _, _, _, _, _⟩ :: _) _ _); refine wpList_ldAgg rfl (.tmp 338) aggTicket rfl rfl (cs := [.string (tx lts), .slice ya4 lt.length yc4]) rfl ((HP9.out.below HS8.out HP9.out.lt).cellsAt 3 2) ?_) | ((with_reducible show wpList _ _ _ (⟨some 341, _, _, _, _, _⟩ :: _) _ _); refine wpList_ldAgg rfl (.tmp 340) aggTicket rfl rfl (cs := [.string (tx lts), .slice at1 lt.length ct]) rfl ((HQ8.out.below HS8.out HQ8.out.lt).cellsAt 8 2) ?_))
    refine (sameTk_any (tx lts) _ _ lt w8 (HY84.out.below HS8.out) (HT8.out.below HS8.out)).mono ?_
    rintro e w9 ⟨rfl, hb⟩
    have HS9 : Hid (Below w8.heap.size w8 w9) := hqZ (HS8.out.trans (hb.mono HS8.out.size))
    clear hb q0 q1 q2 q3 q4 q5 q6 q7 q8 q9 q10 q11 q12 y0 y1 y2 y3 y4 y5
    obtain ⟨q0, q1, q2, q3, q4, q5, q6, q7, q8, q9, q10, q11, q12⟩ := cel13 (HQ8.out.below HS9.out HQ8.out.lt)
    obtain ⟨y0, y1, y2, y3, y4, y5⟩ := cel6 (HP9.out.below HS9.out HP9.out.lt)
    go_wp2_with fail
    refine (same_b _ _ lx lx w9 (HY85.out.below HS9.out) (HX8.out.below HS9.out)).mono ?_
    rintro e w10 ⟨rfl, hb⟩
    have HS10 : Hid (Below w8.heap.size w8 w10) := hqZ (HS9.out.trans (hb.mono HS9.out.size))
    clear hb q0 q1 q2 q3 q4 q5 q6 q7 q8 q9 q10 q11 q12 y0 y1 y2 y3 y4 y5
    rw [show decide (lx = lx) = true from by simp]
    obtain ⟨q0, q1, q2, q3, q4, q5, q6, q7, q8, q9, q10, q11, q12⟩ := cel13 (HQ8.out.below HS10.out HQ8.out.lt)
    obtain ⟨y0, y1, y2, y3, y4, y5⟩ := cel6 (HP9.out.below HS10.out HP9.out.lt)
    go_wp2_with fail
    go_ret
    exact ⟨rfl, HB8.out.trans (HS10.out.mono HB8.out.size)⟩
set_option maxHeartbeats 16000000 in
set_option maxRecDepth 100000 in
theorem msgW_7 (pick n m l : Int) (la lb lts lx ly lt : List UInt8) (ex : List (List UInt8 × List UInt8)) (ax ay at1 ae : Option Addr) (cx cy ct ce : Nat) (set1 mesh : Bool) (w w1 : World) (q : Nat) (u21 u22 u23 u24 u25 u26 u27 u28 u29 u30 u31 u32 u33 u34 u35 u36 u37 u38 u39 u40 u41 u42 u43 u44 u45 u46 u47 u48 u49 u50 u51 u52 u53 u54 u55 u56 u57 u58 : Value) (H : MwH pick n m l la lb lts lx ly lt ex ax ay at1 ae cx cy ct ce set1 mesh w w1 q) (hp : bits .and .i64 pick 15 = 7) : Code.wp Try.prog mwRest (bodyPost Try.prog Try.f4 (fun e w' => e = .returned (.bool true) ∧ Below w.heap.size w w')) (mwFrame pick n m l la lb lts lx ly lt ex ax ay at1 ae cx cy ct ce set1 mesh q u21 u22 u23 u24 u25 u26 u27 u28 u29 u30 u31 u32 u33 u34 u35 u36 u37 u38 u39 u40 u41 u42 u43 u44 u45 u46 u47 u48 u49 u50 u51 u52 u53 u54 u55 u56 u57 u58) w1 := by
  obtain ⟨HB1, HQ1, HX1, HT1, HE1, HN, HM, HLL, HMA, HMB, HMS, HMX, HMT, HME, HME2⟩ := H
  unfold mwFrame
  conv => arg 2; whnf
  obtain ⟨q0, q1, q2, q3, q4, q5, q6, q7, q8, q9, q10, q11, q12⟩ := cel13 HQ1.out
  have HIT := hqZ (it_7 pick (tx la) (tx lb) (tx lts) n m l ax ay at1 ae lx.length cx ly.length cy lt.length ct ex.length ce set1 mesh w1 hp)
  go_wp2_with ((with_reducible show wpList _ _ _ (⟨some 60, _, _, _, _, _⟩ :: _) _ _); refine wpList_ldAgg rfl (.tmp 1) aggIn rfl rfl (cs := [.int .i64 pick, .string (tx la), .string (tx lb), .int .i64 n, .int .i64 m, .int .i64 l, .slice ax lx.length cx, .slice ay ly.length cy, .string (tx lts), .slice at1 lt.length ct, .slice ae ex.length ce, .bool set1, .bool mesh]) rfl HQ1.out.cellsAll ?_)
  refine HIT.out.mono ?_
  rintro e w2 ⟨rfl, hb2⟩
  have HB2 : Hid (Below w.heap.size w w2) := hqZ (HB1.out.trans (hb2.mono HB1.out.size))
  have HQ2 := hqZ (HQ1.out.below hb2 HQ1.out.lt)
  have HX2 := hqZ (HX1.out.below hb2)
  have HT2 := hqZ (HT1.out.below hb2)
  have HE2 : Hid (TksV w2 (fun _ => True) ex (.slice ae ex.length ce)) := hqZ (by obtain ⟨rows, h1, h2⟩ := HE1.out; exact ⟨rows, h1.below hb2, h2.below hb2⟩)
  have HOK : Hid (∀ p ∈ ([.s la, .s lb, .n n, .b lx] : List Pt), PtOk p) := hqZ (by
    intro p hp
    simp only [List.mem_cons, List.not_mem_nil, or_false] at hp
    rcases hp with rfl | rfl | rfl | rfl
    · exact (by have := HMA.out; show la.length ≤ _; omega)
    · exact (by have := HMB.out; show lb.length ≤ _; omega)
    · exact HN.out
    · exact (by have := HMX.out; show lx.length ≤ _; omega)
    )
  have HPM : Hid (∀ p ∈ ([.s la, .s lb, .n n, .b lx] : List Pt), PtM p) := hqZ (by
    intro p hp
    simp only [List.mem_cons, List.not_mem_nil, or_false] at hp
    rcases hp with rfl | rfl | rfl | rfl
    · exact HMA.out
    · exact HMB.out
    · exact trivial
    · exact HMX.out
    )
  have HMV : Hid (MsgV w2 (fun _ => True) 18 [.s la, .s lb, .n n, .b lx] (.iface 68 (.agg #[.string (tx la), .string (tx lb), .int .i64 n, .slice ax lx.length cx]))) := hqZ ⟨[.string (tx la), .string (tx lb), .int .i64 n, .slice ax lx.length cx], rfl, [.string (tx la)], _, rfl, rfl, [.string (tx lb)], _, rfl, rfl, [.int .i64 n], _, rfl, rfl, [.slice ax lx.length cx], _, rfl, ⟨_, rfl, HX2.out, fun _ _ _ => trivial⟩, rfl⟩
  have HWR := hqZ (msgWrite_any 18 [.s la, .s lb, .n n, .b lx] _ _ w2 rfl rfl HMV.out HOK.out (fun h => msgTv_len _ _ (by simp) HPM.out h))
  have HWC := hqZ (wrM_cases 18 [.s la, .s lb, .n n, .b lx] rfl rfl)
  obtain ⟨wr, hwr⟩ : ∃ wr, wr = wrM 18 [.s la, .s lb, .n n, .b lx] := ⟨_, rfl⟩
  rw [← hwr] at HWR HWC
  clear hb2 HIT HOK HPM HMV HE1 HX1 HT1 HQ1 hwr
  go_wp2_with fail
  refine HWR.out.mono ?_
  rintro e w3 ⟨v3, rfl, hs3, hb3⟩
  have HB3 : Hid (Below w.heap.size w w3) := hqZ (HB2.out.trans (hb3.mono HB2.out.size))
  have HQ3 := hqZ (HQ2.out.below hb3 HQ2.out.lt)
  have HX3 := hqZ (HX2.out.below hb3)
  have HT3 := hqZ (HT2.out.below hb3)
  have HE3 : Hid (TksV w3 (fun _ => True) ex (.slice ae ex.length ce)) := hqZ (by obtain ⟨rows, h1, h2⟩ := HE2.out; exact ⟨rows, h1.below hb3, h2.below hb3⟩)
  have q0 : w3.cell? ⟨q, 0, none⟩ = some (.int .i64 pick) := HQ3.out.cell 0
  clear hb3 HWR HX2 HT2 HE2 HQ2
  rcases HWC.out with rfl | rfl | ⟨b, rfl, hwh, hrd, hmr, hpb⟩
  · obtain ⟨a3, c3, rfl, _⟩ := hs3.form
    rw [show ([] : List UInt8).length = 0 from rfl]
    clear hs3 HWC
    go_wp2_with fail
    go_ret
    exact ⟨rfl, HB3.out⟩
  · obtain ⟨a3, c3, rfl, _⟩ := hs3.form
    rw [show ([] : List UInt8).length = 0 from rfl]
    clear hs3 HWC
    go_wp2_with fail
    go_ret
    exact ⟨rfl, HB3.out⟩
  · obtain ⟨a3, c3, rfl, _⟩ := hs3.form
    have HS3 := hqZ hs3
    have HWH := hqZ (refWhole_any _ b w3 hs3)
    rw [hwh] at HWH
    have HRD := hqZ hrd
    have HMR := hqZ hmr
    have HPB := hqZ hpb
    clear hs3 HWC hwh hrd hmr hpb
    simp only
    go_wp2_with fail
    refine HWH.out.mono ?_
    rintro e w4 ⟨cr, rfl, htv, hb4⟩
    have HRL := hqZ htv.length
    have HRO := hqZ htv.one
    have HTV4 := hqZ htv
    have HN4 := hqZ (Blk.new w4 zs5 30)
    have HB34 := hqZ hb4
    clear htv hb4 HWH
    go_upto_region 9 with ((with_reducible show wpList _ _ _ (⟨none, .store _ (.tmp 5) (.tmp 91), _, _, _, _⟩ :: _) _ _); refine wpList_stAgg rfl (.tmp 5) (.tmp 91) aggRef rfl rfl (vs := cr) rfl HRL.out HN4.out (Nat.le_refl _) HRO.out ?_)
    intro w5 h5 k5
    have h5' : Blk w5 w4.heap.size cr 30 := by
      rw [List.drop_of_length_le (by decide), List.append_nil] at h5
      exact h5
    have hb5 : Below w4.heap.size w4 w5 := ((Below.refl _ _).alloc (Nat.le_refl _) _).trans (k5.below (by omega))
    have HP5 := hqZ h5'
    have HTV5 := hqZ (HTV4.out.below hb5)
    have HB35 : Hid (Below w3.heap.size w3 w5) := hqZ (HB34.out.trans (hb5.mono HB34.out.size))
    obtain ⟨p5, hp5⟩ : ∃ p5, p5 = w4.heap.size := ⟨_, rfl⟩
    rw [← hp5] at HP5 ⊢
    clear h5 k5 h5' hb5 hp5 HTV4 HN4 HB34
    go_upto_region 9 with fail
    have HS5 := hqZ (HS3.out.below HB35.out)
    have HRC := hqZ (msgRead_any _ b w5 HS5.out)
    rw [HRD.out] at HRC
    go_wp2_with fail
    refine HRC.out.mono ?_
    rintro e w6 ⟨v6, rfl, hb6, hm6⟩
    have hm6 : MsgV w6 (fun b => b < w6.heap.size) 18 [.s la, .s lb, .n n, .b lx] v6 := hm6
    obtain ⟨cs6, rfl, hp6⟩ := hm6
    obtain ⟨e1, f1, rfl, g1, hp6⟩ := hp6
    obtain rfl := g1
    obtain ⟨e2, f2, rfl, g2, hp6⟩ := hp6
    obtain rfl := g2
    obtain ⟨e3, f3, rfl, g3, hp6⟩ := hp6
    obtain rfl := g3
    obtain ⟨e4, f4, rfl, g4, hp6⟩ := hp6
    obtain ⟨vv4, rfl, hy4, _⟩ := g4
    obtain ⟨ya4, yc4, rfl, _⟩ := hy4.form
    have HY4 := hqZ hy4
    clear hy4
    obtain rfl : _ = [] := hp6
    have hty : typM 18 = 68 := rfl
    simp only [List.cons_append, List.nil_append, hty]
    clear hty
    have HB36 : Hid (Below w3.heap.size w3 w6) := hqZ (HB35.out.trans (hb6.mono HB35.out.size))
    have HP6 := hqZ (HP5.out.below hb6 HP5.out.lt)
    have HTV6 := hqZ (HTV5.out.below hb6)
    have HRT := hqZ (refRight11_any (msgTv 18 [.s la, .s lb, .n n, .b lx]) _ cr w6 HTV6.out)
    rw [HMR.out] at HRT
    have hr1 : ∀ W, Blk W p5 cr 30 → W.cell? ⟨p5, 1, none⟩ = some (.int .i64 18) := fun W hW => by
      obtain ⟨bv, lv, rows, e, _⟩ := HTV6.out.open_
      have h := hW.cell 1
      rw [e] at h
      exact h
    have HR1 := hqZ hr1
    clear hb6 hr1 HRC HP5 HTV5 HB35
    go_wp2_with ((with_reducible show wpList _ _ _ (⟨some 105, _, _, _, _, _⟩ :: _) _ _); refine wpList_ldAgg rfl (.tmp 5) aggRef rfl rfl (cs := cr) HRL.out HP6.out.cellsAll ?_)
    refine HRT.out.mono ?_
    rintro e w7 ⟨rfl, hb7⟩
    have hb7' := hb7
    have HB37 : Hid (Below w3.heap.size w3 w7) := hqZ (HB36.out.trans (hb7.mono HB36.out.size))
    have HP7 := hqZ (HP6.out.below hb7 HP6.out.lt)
    have r1 := HR1.out w7 HP7.out
    have HQ7 := hqZ (HQ3.out.below HB37.out HQ3.out.lt)
    have q0 : w7.cell? ⟨q, 0, none⟩ = some (.int .i64 pick) := HQ7.out.cell 0
    obtain ⟨z11, hta11⟩ := tan 54 68 (.agg #[.string (tx la), .string (tx lb), .int .i64 n, .slice ya4 lx.length yc4]) zero_11 (by kernel_rfl) (by decide)
    obtain ⟨z12, hta12⟩ := tan 56 68 (.agg #[.string (tx la), .string (tx lb), .int .i64 n, .slice ya4 lx.length yc4]) zero_12 (by kernel_rfl) (by decide)
    obtain ⟨z13, hta13⟩ := tan 59 68 (.agg #[.string (tx la), .string (tx lb), .int .i64 n, .slice ya4 lx.length yc4]) zero_13 (by kernel_rfl) (by decide)
    obtain ⟨z14, hta14⟩ := tan 60 68 (.agg #[.string (tx la), .string (tx lb), .int .i64 n, .slice ya4 lx.length yc4]) zero_14 (by kernel_rfl) (by decide)
    obtain ⟨z15, hta15⟩ := tan 62 68 (.agg #[.string (tx la), .string (tx lb), .int .i64 n, .slice ya4 lx.length yc4]) zero_15 (by kernel_rfl) (by decide)
    obtain ⟨z16, hta16⟩ := tan 64 68 (.agg #[.string (tx la), .string (tx lb), .int .i64 n, .slice ya4 lx.length yc4]) zero_16 (by kernel_rfl) (by decide)
    obtain ⟨z17, hta17⟩ := tan 66 68 (.agg #[.string (tx la), .string (tx lb), .int .i64 n, .slice ya4 lx.length yc4]) zero_17 (by kernel_rfl) (by decide)
    have hta : ∀ W, (Instr.typeAssert (.iface 68 (.agg #[.string (tx la), .string (tx lb), .int .i64 n, .slice ya4 lx.length yc4])) 20 68 true).run Try.prog W = .ok (.tuple #[.agg #[.string (tx la), .string (tx lb), .int .i64 n, .slice ya4 lx.length yc4], .bool true]) W := fun W => ta_is _ _ _ (by kernel_rfl) W
    clear hb7 HRT
    obtain ⟨w8, hw8⟩ : ∃ w8, w8 = w7.alloc (.cells #[.string (tx la), .string (tx lb), .int .i64 n, .slice ya4 lx.length yc4] 68) := ⟨_, rfl⟩
    obtain ⟨p9, hp9⟩ : ∃ p9, p9 = w7.heap.size := ⟨_, rfl⟩
    have HP9 : Hid (Blk w8 p9 [.string (tx la), .string (tx lb), .int .i64 n, .slice ya4 lx.length yc4] 68) := hqZ (by rw [hw8, hp9]; exact Blk.new _ _ _)
    have HB38 : Hid (Below w3.heap.size w3 w8) := hqZ (by rw [hw8]; exact HB37.out.alloc HB37.out.size _)
    have HB68 : Hid (Below w6.heap.size w6 w8) := hqZ (by rw [hw8]; exact hb7'.alloc hb7'.size _)
    go_upto_region 36 with fail
    show Code.wp _ _ _ _ (w7.alloc (.cells #[.string (tx la), .string (tx lb), .int .i64 n, .slice ya4 lx.length yc4] 68))
    rw [← hw8, ← hp9]
    clear hw8 hp9 hta hta11 hta12 hta13 hta14 hta15 hta16 hta17
    have HB8 : Hid (Below w.heap.size w w8) := hqZ (HB3.out.trans (HB38.out.mono HB3.out.size))
    have HQ8 := hqZ (HQ3.out.below HB38.out HQ3.out.lt)
    have HX8 := hqZ (HX3.out.below HB38.out)
    have HT8 := hqZ (HT3.out.below HB38.out)
    have HY84 := hqZ (HY4.out.below HB68.out)
    clear q0 r1 HQ7 HP7 HP6
    obtain ⟨q0, q1, q2, q3, q4, q5, q6, q7, q8, q9, q10, q11, q12⟩ := cel13 HQ8.out
    obtain ⟨y0, y1, y2, y3⟩ := cel4 HP9.out
    have HS8 : Hid (Below w8.heap.size w8 w8) := hqZ (Below.refl _ _)
    go_wp2_with fail
    refine (same_b _ _ lx lx w8 (HY84.out.below HS8.out) (HX8.out.below HS8.out)).mono ?_
    rintro e w9 ⟨rfl, hb⟩
    have HS9 : Hid (Below w8.heap.size w8 w9) := hqZ (HS8.out.trans (hb.mono HS8.out.size))
    clear hb q0 q1 q2 q3 q4 q5 q6 q7 q8 q9 q10 q11 q12 y0 y1 y2 y3
    rw [show decide (lx = lx) = true from by simp]
    obtain ⟨q0, q1, q2, q3, q4, q5, q6, q7, q8, q9, q10, q11, q12⟩ := cel13 (HQ8.out.below HS9.out HQ8.out.lt)
    obtain ⟨y0, y1, y2, y3⟩ := cel4 (HP9.out.below HS9.out HP9.out.lt)
    go_wp2_with fail
    go_ret
    exact ⟨rfl, HB8.out.trans (HS9.out.mono HB8.out.size)⟩
set_option maxHeartbeats 8000000 in
set_option maxRecDepth 100000 in
theorem it_8 (pick : Int) (a b ts : ByteArray) (n m l : Int) (ax ay at1 ae : Option Addr) (nx cx ny cy nt ct ne ce : Nat) (set1 mesh : Bool) (w : World) (hp : bits .and .i64 pick 15 = 8) : Calls Try.prog 16 #[.agg #[.int .i64 pick, .string a, .string b, .int .i64 n, .int .i64 m, .int .i64 l, .slice ax nx cx, .slice ay ny cy, .string ts, .slice at1 nt ct, .slice ae ne ce, .bool set1, .bool mesh]] w fun e w' => e = .returned (.iface 70 (.agg #[.string a, .string b, .int .i64 n, .int .i64 m, .int .i64 l, .slice ax nx cx])) ∧ Below w.heap.size w w' := by
  go_enter Try.func16, Try.ntmps16
  go_wp2_with fail
  go_ret
  exact ⟨rfl, ((Below.refl _ _).alloc (Nat.le_refl _) _).alloc (by simp) _⟩
set_option maxHeartbeats 8000000 in
set_option maxRecDepth 100000 in
theorem it_9 (pick : Int) (a b ts : ByteArray) (n m l : Int) (ax ay at1 ae : Option Addr) (nx cx ny cy nt ct ne ce : Nat) (set1 mesh : Bool) (w : World) (hp : bits .and .i64 pick 15 = 9) : Calls Try.prog 16 #[.agg #[.int .i64 pick, .string a, .string b, .int .i64 n, .int .i64 m, .int .i64 l, .slice ax nx cx, .slice ay ny cy, .string ts, .slice at1 nt ct, .slice ae ne ce, .bool set1, .bool mesh]] w fun e w' => e = .returned (.iface 72 (.agg #[.string a, .int .i64 n, .int .i64 m, .bool set1, .string ts, .slice at1 nt ct, .slice ax nx cx])) ∧ Below w.heap.size w w' := by
  go_enter Try.func16, Try.ntmps16
  go_wp2_with fail
  go_ret
  exact ⟨rfl, ((Below.refl _ _).alloc (Nat.le_refl _) _).alloc (by simp) _⟩
set_option maxHeartbeats 8000000 in
set_option maxRecDepth 100000 in
theorem it_10 (pick : Int) (a b ts : ByteArray) (n m l : Int) (ax ay at1 ae : Option Addr) (nx cx ny cy nt ct ne ce : Nat) (set1 mesh : Bool) (w : World) (hp : bits .and .i64 pick 15 = 10) : Calls Try.prog 16 #[.agg #[.int .i64 pick, .string a, .string b, .int .i64 n, .int .i64 m, .int .i64 l, .slice ax nx cx, .slice ay ny cy, .string ts, .slice at1 nt ct, .slice ae ne ce, .bool set1, .bool mesh]] w fun e w' => e = .returned (.iface 74 (.agg #[.string a, .slice ax nx cx])) ∧ Below w.heap.size w w' := by
  go_enter Try.func16, Try.ntmps16
  go_wp2_with fail
  go_ret
  exact ⟨rfl, ((Below.refl _ _).alloc (Nat.le_refl _) _).alloc (by simp) _⟩
set_option maxHeartbeats 8000000 in
set_option maxRecDepth 100000 in
theorem it_11 (pick : Int) (a b ts : ByteArray) (n m l : Int) (ax ay at1 ae : Option Addr) (nx cx ny cy nt ct ne ce : Nat) (set1 mesh : Bool) (w : World) (hp : bits .and .i64 pick 15 = 11) : Calls Try.prog 16 #[.agg #[.int .i64 pick, .string a, .string b, .int .i64 n, .int .i64 m, .int .i64 l, .slice ax nx cx, .slice ay ny cy, .string ts, .slice at1 nt ct, .slice ae ne ce, .bool set1, .bool mesh]] w fun e w' => e = .returned (.iface 76 (.agg #[.string a, .int .i64 n, .int .i64 m])) ∧ Below w.heap.size w w' := by
  go_enter Try.func16, Try.ntmps16
  go_wp2_with fail
  go_ret
  exact ⟨rfl, ((Below.refl _ _).alloc (Nat.le_refl _) _).alloc (by simp) _⟩
set_option maxHeartbeats 16000000 in
set_option maxRecDepth 100000 in
theorem msgW_8 (pick n m l : Int) (la lb lts lx ly lt : List UInt8) (ex : List (List UInt8 × List UInt8)) (ax ay at1 ae : Option Addr) (cx cy ct ce : Nat) (set1 mesh : Bool) (w w1 : World) (q : Nat) (u21 u22 u23 u24 u25 u26 u27 u28 u29 u30 u31 u32 u33 u34 u35 u36 u37 u38 u39 u40 u41 u42 u43 u44 u45 u46 u47 u48 u49 u50 u51 u52 u53 u54 u55 u56 u57 u58 : Value) (H : MwH pick n m l la lb lts lx ly lt ex ax ay at1 ae cx cy ct ce set1 mesh w w1 q) (hp : bits .and .i64 pick 15 = 8) : Code.wp Try.prog mwRest (bodyPost Try.prog Try.f4 (fun e w' => e = .returned (.bool true) ∧ Below w.heap.size w w')) (mwFrame pick n m l la lb lts lx ly lt ex ax ay at1 ae cx cy ct ce set1 mesh q u21 u22 u23 u24 u25 u26 u27 u28 u29 u30 u31 u32 u33 u34 u35 u36 u37 u38 u39 u40 u41 u42 u43 u44 u45 u46 u47 u48 u49 u50 u51 u52 u53 u54 u55 u56 u57 u58) w1 := by
  obtain ⟨HB1, HQ1, HX1, HT1, HE1, HN, HM, HLL, HMA, HMB, HMS, HMX, HMT, HME, HME2⟩ := H
  unfold mwFrame
  conv => arg 2; whnf
  obtain ⟨q0, q1, q2, q3, q4, q5, q6, q7, q8, q9, q10, q11, q12⟩ := cel13 HQ1.out
  have HIT := hqZ (it_8 pick (tx la) (tx lb) (tx lts) n m l ax ay at1 ae lx.length cx ly.length cy lt.length ct ex.length ce set1 mesh w1 hp)
  go_wp2_with ((with_reducible show wpList _ _ _ (⟨some 60, _, _, _, _, _⟩ :: _) _ _); refine wpList_ldAgg rfl (.tmp 1) aggIn rfl rfl (cs := [.int .i64 pick, .string (tx la), .string (tx lb), .int .i64 n, .int .i64 m, .int .i64 l, .slice ax lx.length cx, .slice ay ly.length cy, .string (tx lts), .slice at1 lt.length ct, .slice ae ex.length ce, .bool set1, .bool mesh]) rfl HQ1.out.cellsAll ?_)
  refine HIT.out.mono ?_
  rintro e w2 ⟨rfl, hb2⟩
  have HB2 : Hid (Below w.heap.size w w2) := hqZ (HB1.out.trans (hb2.mono HB1.out.size))
  have HQ2 := hqZ (HQ1.out.below hb2 HQ1.out.lt)
  have HX2 := hqZ (HX1.out.below hb2)
  have HT2 := hqZ (HT1.out.below hb2)
  have HE2 : Hid (TksV w2 (fun _ => True) ex (.slice ae ex.length ce)) := hqZ (by obtain ⟨rows, h1, h2⟩ := HE1.out; exact ⟨rows, h1.below hb2, h2.below hb2⟩)
  have HOK : Hid (∀ p ∈ ([.s la, .s lb, .n n, .n m, .n l, .b lx] : List Pt), PtOk p) := hqZ (by
    intro p hp
    simp only [List.mem_cons, List.not_mem_nil, or_false] at hp
    rcases hp with rfl | rfl | rfl | rfl | rfl | rfl
    · exact (by have := HMA.out; show la.length ≤ _; omega)
    · exact (by have := HMB.out; show lb.length ≤ _; omega)
    · exact HN.out
    · exact HM.out
    · exact HLL.out
    · exact (by have := HMX.out; show lx.length ≤ _; omega)
    )
  have HPM : Hid (∀ p ∈ ([.s la, .s lb, .n n, .n m, .n l, .b lx] : List Pt), PtM p) := hqZ (by
    intro p hp
    simp only [List.mem_cons, List.not_mem_nil, or_false] at hp
    rcases hp with rfl | rfl | rfl | rfl | rfl | rfl
    · exact HMA.out
    · exact HMB.out
    · exact trivial
    · exact trivial
    · exact trivial
    · exact HMX.out
    )
  have HMV : Hid (MsgV w2 (fun _ => True) 19 [.s la, .s lb, .n n, .n m, .n l, .b lx] (.iface 70 (.agg #[.string (tx la), .string (tx lb), .int .i64 n, .int .i64 m, .int .i64 l, .slice ax lx.length cx]))) := hqZ ⟨[.string (tx la), .string (tx lb), .int .i64 n, .int .i64 m, .int .i64 l, .slice ax lx.length cx], rfl, [.string (tx la)], _, rfl, rfl, [.string (tx lb)], _, rfl, rfl, [.int .i64 n], _, rfl, rfl, [.int .i64 m], _, rfl, rfl, [.int .i64 l], _, rfl, rfl, [.slice ax lx.length cx], _, rfl, ⟨_, rfl, HX2.out, fun _ _ _ => trivial⟩, rfl⟩
  have HWR := hqZ (msgWrite_any 19 [.s la, .s lb, .n n, .n m, .n l, .b lx] _ _ w2 rfl rfl HMV.out HOK.out (fun h => msgTv_len _ _ (by simp) HPM.out h))
  have HWC := hqZ (wrM_cases 19 [.s la, .s lb, .n n, .n m, .n l, .b lx] rfl rfl)
  obtain ⟨wr, hwr⟩ : ∃ wr, wr = wrM 19 [.s la, .s lb, .n n, .n m, .n l, .b lx] := ⟨_, rfl⟩
  rw [← hwr] at HWR HWC
  clear hb2 HIT HOK HPM HMV HE1 HX1 HT1 HQ1 hwr
  go_wp2_with fail
  refine HWR.out.mono ?_
  rintro e w3 ⟨v3, rfl, hs3, hb3⟩
  have HB3 : Hid (Below w.heap.size w w3) := hqZ (HB2.out.trans (hb3.mono HB2.out.size))
  have HQ3 := hqZ (HQ2.out.below hb3 HQ2.out.lt)
  have HX3 := hqZ (HX2.out.below hb3)
  have HT3 := hqZ (HT2.out.below hb3)
  have HE3 : Hid (TksV w3 (fun _ => True) ex (.slice ae ex.length ce)) := hqZ (by obtain ⟨rows, h1, h2⟩ := HE2.out; exact ⟨rows, h1.below hb3, h2.below hb3⟩)
  have q0 : w3.cell? ⟨q, 0, none⟩ = some (.int .i64 pick) := HQ3.out.cell 0
  clear hb3 HWR HX2 HT2 HE2 HQ2
  rcases HWC.out with rfl | rfl | ⟨b, rfl, hwh, hrd, hmr, hpb⟩
  · obtain ⟨a3, c3, rfl, _⟩ := hs3.form
    rw [show ([] : List UInt8).length = 0 from rfl]
    clear hs3 HWC
    go_wp2_with fail
    go_ret
    exact ⟨rfl, HB3.out⟩
  · obtain ⟨a3, c3, rfl, _⟩ := hs3.form
    rw [show ([] : List UInt8).length = 0 from rfl]
    clear hs3 HWC
    go_wp2_with fail
    go_ret
    exact ⟨rfl, HB3.out⟩
  · obtain ⟨a3, c3, rfl, _⟩ := hs3.form
    have HS3 := hqZ hs3
    have HWH := hqZ (refWhole_any _ b w3 hs3)
    rw [hwh] at HWH
    have HRD := hqZ hrd
    have HMR := hqZ hmr
    have HPB := hqZ hpb
    clear hs3 HWC hwh hrd hmr hpb
    simp only
    go_wp2_with fail
    refine HWH.out.mono ?_
    rintro e w4 ⟨cr, rfl, htv, hb4⟩
    have HRL := hqZ htv.length
    have HRO := hqZ htv.one
    have HTV4 := hqZ htv
    have HN4 := hqZ (Blk.new w4 zs5 30)
    have HB34 := hqZ hb4
    clear htv hb4 HWH
    go_upto_region 9 with ((with_reducible show wpList _ _ _ (⟨none, .store _ (.tmp 5) (.tmp 91), _, _, _, _⟩ :: _) _ _); refine wpList_stAgg rfl (.tmp 5) (.tmp 91) aggRef rfl rfl (vs := cr) rfl HRL.out HN4.out (Nat.le_refl _) HRO.out ?_)
    intro w5 h5 k5
    have h5' : Blk w5 w4.heap.size cr 30 := by
      rw [List.drop_of_length_le (by decide), List.append_nil] at h5
      exact h5
    have hb5 : Below w4.heap.size w4 w5 := ((Below.refl _ _).alloc (Nat.le_refl _) _).trans (k5.below (by omega))
    have HP5 := hqZ h5'
    have HTV5 := hqZ (HTV4.out.below hb5)
    have HB35 : Hid (Below w3.heap.size w3 w5) := hqZ (HB34.out.trans (hb5.mono HB34.out.size))
    obtain ⟨p5, hp5⟩ : ∃ p5, p5 = w4.heap.size := ⟨_, rfl⟩
    rw [← hp5] at HP5 ⊢
    clear h5 k5 h5' hb5 hp5 HTV4 HN4 HB34
    go_upto_region 9 with fail
    have HS5 := hqZ (HS3.out.below HB35.out)
    have HRC := hqZ (msgRead_any _ b w5 HS5.out)
    rw [HRD.out] at HRC
    go_wp2_with fail
    refine HRC.out.mono ?_
    rintro e w6 ⟨v6, rfl, hb6, hm6⟩
    have hm6 : MsgV w6 (fun b => b < w6.heap.size) 19 [.s la, .s lb, .n n, .n m, .n l, .b lx] v6 := hm6
    obtain ⟨cs6, rfl, hp6⟩ := hm6
    obtain ⟨e1, f1, rfl, g1, hp6⟩ := hp6
    obtain rfl := g1
    obtain ⟨e2, f2, rfl, g2, hp6⟩ := hp6
    obtain rfl := g2
    obtain ⟨e3, f3, rfl, g3, hp6⟩ := hp6
    obtain rfl := g3
    obtain ⟨e4, f4, rfl, g4, hp6⟩ := hp6
    obtain rfl := g4
    obtain ⟨e5, f5, rfl, g5, hp6⟩ := hp6
    obtain rfl := g5
    obtain ⟨e6, f6, rfl, g6, hp6⟩ := hp6
    obtain ⟨vv6, rfl, hy6, _⟩ := g6
    obtain ⟨ya6, yc6, rfl, _⟩ := hy6.form
    have HY6 := hqZ hy6
    clear hy6
    obtain rfl : _ = [] := hp6
    have hty : typM 19 = 70 := rfl
    simp only [List.cons_append, List.nil_append, hty]
    clear hty
    have HB36 : Hid (Below w3.heap.size w3 w6) := hqZ (HB35.out.trans (hb6.mono HB35.out.size))
    have HP6 := hqZ (HP5.out.below hb6 HP5.out.lt)
    have HTV6 := hqZ (HTV5.out.below hb6)
    have HRT := hqZ (refRight11_any (msgTv 19 [.s la, .s lb, .n n, .n m, .n l, .b lx]) _ cr w6 HTV6.out)
    rw [HMR.out] at HRT
    have hr1 : ∀ W, Blk W p5 cr 30 → W.cell? ⟨p5, 1, none⟩ = some (.int .i64 19) := fun W hW => by
      obtain ⟨bv, lv, rows, e, _⟩ := HTV6.out.open_
      have h := hW.cell 1
      rw [e] at h
      exact h
    have HR1 := hqZ hr1
    clear hb6 hr1 HRC HP5 HTV5 HB35
    go_wp2_with ((with_reducible show wpList _ _ _ (⟨some 105, _, _, _, _, _⟩ :: _) _ _); refine wpList_ldAgg rfl (.tmp 5) aggRef rfl rfl (cs := cr) HRL.out HP6.out.cellsAll ?_)
    refine HRT.out.mono ?_
    rintro e w7 ⟨rfl, hb7⟩
    have hb7' := hb7
    have HB37 : Hid (Below w3.heap.size w3 w7) := hqZ (HB36.out.trans (hb7.mono HB36.out.size))
    have HP7 := hqZ (HP6.out.below hb7 HP6.out.lt)
    have r1 := HR1.out w7 HP7.out
    have HQ7 := hqZ (HQ3.out.below HB37.out HQ3.out.lt)
    have q0 : w7.cell? ⟨q, 0, none⟩ = some (.int .i64 pick) := HQ7.out.cell 0
    obtain ⟨z11, hta11⟩ := tan 54 70 (.agg #[.string (tx la), .string (tx lb), .int .i64 n, .int .i64 m, .int .i64 l, .slice ya6 lx.length yc6]) zero_11 (by kernel_rfl) (by decide)
    obtain ⟨z12, hta12⟩ := tan 56 70 (.agg #[.string (tx la), .string (tx lb), .int .i64 n, .int .i64 m, .int .i64 l, .slice ya6 lx.length yc6]) zero_12 (by kernel_rfl) (by decide)
    obtain ⟨z13, hta13⟩ := tan 59 70 (.agg #[.string (tx la), .string (tx lb), .int .i64 n, .int .i64 m, .int .i64 l, .slice ya6 lx.length yc6]) zero_13 (by kernel_rfl) (by decide)
    obtain ⟨z14, hta14⟩ := tan 60 70 (.agg #[.string (tx la), .string (tx lb), .int .i64 n, .int .i64 m, .int .i64 l, .slice ya6 lx.length yc6]) zero_14 (by kernel_rfl) (by decide)
    obtain ⟨z15, hta15⟩ := tan 62 70 (.agg #[.string (tx la), .string (tx lb), .int .i64 n, .int .i64 m, .int .i64 l, .slice ya6 lx.length yc6]) zero_15 (by kernel_rfl) (by decide)
    obtain ⟨z16, hta16⟩ := tan 64 70 (.agg #[.string (tx la), .string (tx lb), .int .i64 n, .int .i64 m, .int .i64 l, .slice ya6 lx.length yc6]) zero_16 (by kernel_rfl) (by decide)
    obtain ⟨z17, hta17⟩ := tan 66 70 (.agg #[.string (tx la), .string (tx lb), .int .i64 n, .int .i64 m, .int .i64 l, .slice ya6 lx.length yc6]) zero_17 (by kernel_rfl) (by decide)
    obtain ⟨z18, hta18⟩ := tan 68 70 (.agg #[.string (tx la), .string (tx lb), .int .i64 n, .int .i64 m, .int .i64 l, .slice ya6 lx.length yc6]) zero_18 (by kernel_rfl) (by decide)
    have hta : ∀ W, (Instr.typeAssert (.iface 70 (.agg #[.string (tx la), .string (tx lb), .int .i64 n, .int .i64 m, .int .i64 l, .slice ya6 lx.length yc6])) 20 70 true).run Try.prog W = .ok (.tuple #[.agg #[.string (tx la), .string (tx lb), .int .i64 n, .int .i64 m, .int .i64 l, .slice ya6 lx.length yc6], .bool true]) W := fun W => ta_is _ _ _ (by kernel_rfl) W
    clear hb7 HRT
    obtain ⟨w8, hw8⟩ : ∃ w8, w8 = w7.alloc (.cells #[.string (tx la), .string (tx lb), .int .i64 n, .int .i64 m, .int .i64 l, .slice ya6 lx.length yc6] 70) := ⟨_, rfl⟩
    obtain ⟨p9, hp9⟩ : ∃ p9, p9 = w7.heap.size := ⟨_, rfl⟩
    have HP9 : Hid (Blk w8 p9 [.string (tx la), .string (tx lb), .int .i64 n, .int .i64 m, .int .i64 l, .slice ya6 lx.length yc6] 70) := hqZ (by rw [hw8, hp9]; exact Blk.new _ _ _)
    have HB38 : Hid (Below w3.heap.size w3 w8) := hqZ (by rw [hw8]; exact HB37.out.alloc HB37.out.size _)
    have HB68 : Hid (Below w6.heap.size w6 w8) := hqZ (by rw [hw8]; exact hb7'.alloc hb7'.size _)
    go_upto_region 39 with fail
    show Code.wp _ _ _ _ (w7.alloc (.cells #[.string (tx la), .string (tx lb), .int .i64 n, .int .i64 m, .int .i64 l, .slice ya6 lx.length yc6] 70))
    rw [← hw8, ← hp9]
    clear hw8 hp9 hta hta11 hta12 hta13 hta14 hta15 hta16 hta17 hta18
    have HB8 : Hid (Below w.heap.size w w8) := hqZ (HB3.out.trans (HB38.out.mono HB3.out.size))
    have HQ8 := hqZ (HQ3.out.below HB38.out HQ3.out.lt)
    have HX8 := hqZ (HX3.out.below HB38.out)
    have HT8 := hqZ (HT3.out.below HB38.out)
    have HY86 := hqZ (HY6.out.below HB68.out)
    clear q0 r1 HQ7 HP7 HP6
    obtain ⟨q0, q1, q2, q3, q4, q5, q6, q7, q8, q9, q10, q11, q12⟩ := cel13 HQ8.out
    obtain ⟨y0, y1, y2, y3, y4, y5⟩ := cel6 HP9.out
    have HS8 : Hid (Below w8.heap.size w8 w8) := hqZ (Below.refl _ _)
    go_wp2_with fail
    refine (same_b _ _ lx lx w8 (HY86.out.below HS8.out) (HX8.out.below HS8.out)).mono ?_
    rintro e w9 ⟨rfl, hb⟩
    have HS9 : Hid (Below w8.heap.size w8 w9) := hqZ (HS8.out.trans (hb.mono HS8.out.size))
    clear hb q0 q1 q2 q3 q4 q5 q6 q7 q8 q9 q10 q11 q12 y0 y1 y2 y3 y4 y5
    rw [show decide (lx = lx) = true from by simp]
    obtain ⟨q0, q1, q2, q3, q4, q5, q6, q7, q8, q9, q10, q11, q12⟩ := cel13 (HQ8.out.below HS9.out HQ8.out.lt)
    obtain ⟨y0, y1, y2, y3, y4, y5⟩ := cel6 (HP9.out.below HS9.out HP9.out.lt)
    go_wp2_with fail
    go_ret
    exact ⟨rfl, HB8.out.trans (HS9.out.mono HB8.out.size)⟩
set_option maxHeartbeats 16000000 in
set_option maxRecDepth 100000 in
theorem msgW_9 (pick n m l : Int) (la lb lts lx ly lt : List UInt8) (ex : List (List UInt8 × List UInt8)) (ax ay at1 ae : Option Addr) (cx cy ct ce : Nat) (set1 mesh : Bool) (w w1 : World) (q : Nat) (u21 u22 u23 u24 u25 u26 u27 u28 u29 u30 u31 u32 u33 u34 u35 u36 u37 u38 u39 u40 u41 u42 u43 u44 u45 u46 u47 u48 u49 u50 u51 u52 u53 u54 u55 u56 u57 u58 : Value) (H : MwH pick n m l la lb lts lx ly lt ex ax ay at1 ae cx cy ct ce set1 mesh w w1 q) (hp : bits .and .i64 pick 15 = 9) : Code.wp Try.prog mwRest (bodyPost Try.prog Try.f4 (fun e w' => e = .returned (.bool true) ∧ Below w.heap.size w w')) (mwFrame pick n m l la lb lts lx ly lt ex ax ay at1 ae cx cy ct ce set1 mesh q u21 u22 u23 u24 u25 u26 u27 u28 u29 u30 u31 u32 u33 u34 u35 u36 u37 u38 u39 u40 u41 u42 u43 u44 u45 u46 u47 u48 u49 u50 u51 u52 u53 u54 u55 u56 u57 u58) w1 := by
  obtain ⟨HB1, HQ1, HX1, HT1, HE1, HN, HM, HLL, HMA, HMB, HMS, HMX, HMT, HME, HME2⟩ := H
  unfold mwFrame
  conv => arg 2; whnf
  obtain ⟨q0, q1, q2, q3, q4, q5, q6, q7, q8, q9, q10, q11, q12⟩ := cel13 HQ1.out
  have HIT := hqZ (it_9 pick (tx la) (tx lb) (tx lts) n m l ax ay at1 ae lx.length cx ly.length cy lt.length ct ex.length ce set1 mesh w1 hp)
  go_wp2_with ((with_reducible show wpList _ _ _ (⟨some 60, _, _, _, _, _⟩ :: _) _ _); refine wpList_ldAgg rfl (.tmp 1) aggIn rfl rfl (cs := [.int .i64 pick, .string (tx la), .string (tx lb), .int .i64 n, .int .i64 m, .int .i64 l, .slice ax lx.length cx, .slice ay ly.length cy, .string (tx lts), .slice at1 lt.length ct, .slice ae ex.length ce, .bool set1, .bool mesh]) rfl HQ1.out.cellsAll ?_)
  refine HIT.out.mono ?_
  rintro e w2 ⟨rfl, hb2⟩
  have HB2 : Hid (Below w.heap.size w w2) := hqZ (HB1.out.trans (hb2.mono HB1.out.size))
  have HQ2 := hqZ (HQ1.out.below hb2 HQ1.out.lt)
  have HX2 := hqZ (HX1.out.below hb2)
  have HT2 := hqZ (HT1.out.below hb2)
  have HE2 : Hid (TksV w2 (fun _ => True) ex (.slice ae ex.length ce)) := hqZ (by obtain ⟨rows, h1, h2⟩ := HE1.out; exact ⟨rows, h1.below hb2, h2.below hb2⟩)
  have HOK : Hid (∀ p ∈ ([.s la, .n n, .n m, .t set1, .i (lts, lt), .b lx] : List Pt), PtOk p) := hqZ (by
    intro p hp
    simp only [List.mem_cons, List.not_mem_nil, or_false] at hp
    rcases hp with rfl | rfl | rfl | rfl | rfl | rfl
    · exact (by have := HMA.out; show la.length ≤ _; omega)
    · exact HN.out
    · exact HM.out
    · exact trivial
    · exact (by have := HMS.out; have := HMT.out; show lts.length ≤ _ ∧ lt.length ≤ _; omega)
    · exact (by have := HMX.out; show lx.length ≤ _; omega)
    )
  have HPM : Hid (∀ p ∈ ([.s la, .n n, .n m, .t set1, .i (lts, lt), .b lx] : List Pt), PtM p) := hqZ (by
    intro p hp
    simp only [List.mem_cons, List.not_mem_nil, or_false] at hp
    rcases hp with rfl | rfl | rfl | rfl | rfl | rfl
    · exact HMA.out
    · exact trivial
    · exact trivial
    · exact trivial
    · exact ⟨HMS.out, HMT.out⟩
    · exact HMX.out
    )
  have HMV : Hid (MsgV w2 (fun _ => True) 20 [.s la, .n n, .n m, .t set1, .i (lts, lt), .b lx] (.iface 72 (.agg #[.string (tx la), .int .i64 n, .int .i64 m, .bool set1, .string (tx lts), .slice at1 lt.length ct, .slice ax lx.length cx]))) := hqZ ⟨[.string (tx la), .int .i64 n, .int .i64 m, .bool set1, .string (tx lts), .slice at1 lt.length ct, .slice ax lx.length cx], rfl, [.string (tx la)], _, rfl, rfl, [.int .i64 n], _, rfl, rfl, [.int .i64 m], _, rfl, rfl, [.bool set1], _, rfl, rfl, [.string (tx lts), .slice at1 lt.length ct], _, rfl, ⟨_, rfl, HT2.out, fun _ _ _ => trivial⟩, [.slice ax lx.length cx], _, rfl, ⟨_, rfl, HX2.out, fun _ _ _ => trivial⟩, rfl⟩
  have HWR := hqZ (msgWrite_any 20 [.s la, .n n, .n m, .t set1, .i (lts, lt), .b lx] _ _ w2 rfl rfl HMV.out HOK.out (fun h => msgTv_len _ _ (by simp) HPM.out h))
  have HWC := hqZ (wrM_cases 20 [.s la, .n n, .n m, .t set1, .i (lts, lt), .b lx] rfl rfl)
  obtain ⟨wr, hwr⟩ : ∃ wr, wr = wrM 20 [.s la, .n n, .n m, .t set1, .i (lts, lt), .b lx] := ⟨_, rfl⟩
  rw [← hwr] at HWR HWC
  clear hb2 HIT HOK HPM HMV HE1 HX1 HT1 HQ1 hwr
  go_wp2_with fail
  refine HWR.out.mono ?_
  rintro e w3 ⟨v3, rfl, hs3, hb3⟩
  have HB3 : Hid (Below w.heap.size w w3) := hqZ (HB2.out.trans (hb3.mono HB2.out.size))
  have HQ3 := hqZ (HQ2.out.below hb3 HQ2.out.lt)
  have HX3 := hqZ (HX2.out.below hb3)
  have HT3 := hqZ (HT2.out.below hb3)
  have HE3 : Hid (TksV w3 (fun _ => True) ex (.slice ae ex.length ce)) := hqZ (by obtain ⟨rows, h1, h2⟩ := HE2.out; exact ⟨rows, h1.below hb3, h2.below hb3⟩)
  have q0 : w3.cell? ⟨q, 0, none⟩ = some (.int .i64 pick) := HQ3.out.cell 0
  clear hb3 HWR HX2 HT2 HE2 HQ2
  rcases HWC.out with rfl | rfl | ⟨b, rfl, hwh, hrd, hmr, hpb⟩
  · obtain ⟨a3, c3, rfl, _⟩ := hs3.form
    rw [show ([] : List UInt8).length = 0 from rfl]
    clear hs3 HWC
    go_wp2_with fail
    go_ret
    exact ⟨rfl, HB3.out⟩
  · obtain ⟨a3, c3, rfl, _⟩ := hs3.form
    rw [show ([] : List UInt8).length = 0 from rfl]
    clear hs3 HWC
    go_wp2_with fail
    go_ret
    exact ⟨rfl, HB3.out⟩
  · obtain ⟨a3, c3, rfl, _⟩ := hs3.form
    have HS3 := hqZ hs3
    have HWH := hqZ (refWhole_any _ b w3 hs3)
    rw [hwh] at HWH
    have HRD := hqZ hrd
    have HMR := hqZ hmr
    have HPB := hqZ hpb
    clear hs3 HWC hwh hrd hmr hpb
    simp only
    go_wp2_with fail
    refine HWH.out.mono ?_
    rintro e w4 ⟨cr, rfl, htv, hb4⟩
    have HRL := hqZ htv.length
    have HRO := hqZ htv.one
    have HTV4 := hqZ htv
    have HN4 := hqZ (Blk.new w4 zs5 30)
    have HB34 := hqZ hb4
    clear htv hb4 HWH
    go_upto_region 9 with ((with_reducible show wpList _ _ _ (⟨none, .store _ (.tmp 5) (.tmp 91), _, _, _, _⟩ :: _) _ _); refine wpList_stAgg rfl (.tmp 5) (.tmp 91) aggRef rfl rfl (vs := cr) rfl HRL.out HN4.out (Nat.le_refl _) HRO.out ?_)
    intro w5 h5 k5
    have h5' : Blk w5 w4.heap.size cr 30 := by
      rw [List.drop_of_length_le (by decide), List.append_nil] at h5
      exact h5
    have hb5 : Below w4.heap.size w4 w5 := ((Below.refl _ _).alloc (Nat.le_refl _) _).trans (k5.below (by omega))
    have HP5 := hqZ h5'
    have HTV5 := hqZ (HTV4.out.below hb5)
    have HB35 : Hid (Below w3.heap.size w3 w5) := hqZ (HB34.out.trans (hb5.mono HB34.out.size))
    obtain ⟨p5, hp5⟩ : ∃ p5, p5 = w4.heap.size := ⟨_, rfl⟩
    rw [← hp5] at HP5 ⊢
    clear h5 k5 h5' hb5 hp5 HTV4 HN4 HB34
    go_upto_region 9 with fail
    have HS5 := hqZ (HS3.out.below HB35.out)
    have HRC := hqZ (msgRead_any _ b w5 HS5.out)
    rw [HRD.out] at HRC
    go_wp2_with fail
    refine HRC.out.mono ?_
    rintro e w6 ⟨v6, rfl, hb6, hm6⟩
    have hm6 : MsgV w6 (fun b => b < w6.heap.size) 20 [.s la, .n n, .n m, .t set1, .i (lts, lt), .b lx] v6 := hm6
    obtain ⟨cs6, rfl, hp6⟩ := hm6
    obtain ⟨e1, f1, rfl, g1, hp6⟩ := hp6
    obtain rfl := g1
    obtain ⟨e2, f2, rfl, g2, hp6⟩ := hp6
    obtain rfl := g2
    obtain ⟨e3, f3, rfl, g3, hp6⟩ := hp6
    obtain rfl := g3
    obtain ⟨e4, f4, rfl, g4, hp6⟩ := hp6
    obtain rfl := g4
    obtain ⟨e5, f5, rfl, g5, hp6⟩ := hp6
    obtain ⟨vv5, rfl, hy5, _⟩ := g5
    obtain ⟨ya5, yc5, rfl, _⟩ := hy5.form
    have HY5 := hqZ hy5
    clear hy5
    obtain ⟨e6, f6, rfl, g6, hp6⟩ := hp6
    obtain ⟨vv6, rfl, hy6, _⟩ := g6
    obtain ⟨ya6, yc6, rfl, _⟩ := hy6.form
    have HY6 := hqZ hy6
    clear hy6
    obtain rfl : _ = [] := hp6
    have hty : typM 20 = 72 := rfl
    simp only [List.cons_append, List.nil_append, hty]
    clear hty
    have HB36 : Hid (Below w3.heap.size w3 w6) := hqZ (HB35.out.trans (hb6.mono HB35.out.size))
    have HP6 := hqZ (HP5.out.below hb6 HP5.out.lt)
    have HTV6 := hqZ (HTV5.out.below hb6)
    have HRT := hqZ (refRight11_any (msgTv 20 [.s la, .n n, .n m, .t set1, .i (lts, lt), .b lx]) _ cr w6 HTV6.out)
    rw [HMR.out] at HRT
    have hr1 : ∀ W, Blk W p5 cr 30 → W.cell? ⟨p5, 1, none⟩ = some (.int .i64 20) := fun W hW => by
      obtain ⟨bv, lv, rows, e, _⟩ := HTV6.out.open_
      have h := hW.cell 1
      rw [e] at h
      exact h
    have HR1 := hqZ hr1
    clear hb6 hr1 HRC HP5 HTV5 HB35
    go_wp2_with ((with_reducible show wpList _ _ _ (⟨some 105, _, _, _, _, _⟩ :: _) _ _); refine wpList_ldAgg rfl (.tmp 5) aggRef rfl rfl (cs := cr) HRL.out HP6.out.cellsAll ?_)
    refine HRT.out.mono ?_
    rintro e w7 ⟨rfl, hb7⟩
    have hb7' := hb7
    have HB37 : Hid (Below w3.heap.size w3 w7) := hqZ (HB36.out.trans (hb7.mono HB36.out.size))
    have HP7 := hqZ (HP6.out.below hb7 HP6.out.lt)
    have r1 := HR1.out w7 HP7.out
    have HQ7 := hqZ (HQ3.out.below HB37.out HQ3.out.lt)
    have q0 : w7.cell? ⟨q, 0, none⟩ = some (.int .i64 pick) := HQ7.out.cell 0
    obtain ⟨z11, hta11⟩ := tan 54 72 (.agg #[.string (tx la), .int .i64 n, .int .i64 m, .bool set1, .string (tx lts), .slice ya5 lt.length yc5, .slice ya6 lx.length yc6]) zero_11 (by kernel_rfl) (by decide)
    obtain ⟨z12, hta12⟩ := tan 56 72 (.agg #[.string (tx la), .int .i64 n, .int .i64 m, .bool set1, .string (tx lts), .slice ya5 lt.length yc5, .slice ya6 lx.length yc6]) zero_12 (by kernel_rfl) (by decide)
    obtain ⟨z13, hta13⟩ := tan 59 72 (.agg #[.string (tx la), .int .i64 n, .int .i64 m, .bool set1, .string (tx lts), .slice ya5 lt.length yc5, .slice ya6 lx.length yc6]) zero_13 (by kernel_rfl) (by decide)
    obtain ⟨z14, hta14⟩ := tan 60 72 (.agg #[.string (tx la), .int .i64 n, .int .i64 m, .bool set1, .string (tx lts), .slice ya5 lt.length yc5, .slice ya6 lx.length yc6]) zero_14 (by kernel_rfl) (by decide)
    obtain ⟨z15, hta15⟩ := tan 62 72 (.agg #[.string (tx la), .int .i64 n, .int .i64 m, .bool set1, .string (tx lts), .slice ya5 lt.length yc5, .slice ya6 lx.length yc6]) zero_15 (by kernel_rfl) (by decide)
    obtain ⟨z16, hta16⟩ := tan 64 72 (.agg #[.string (tx la), .int .i64 n, .int .i64 m, .bool set1, .string (tx lts), .slice ya5 lt.length yc5, .slice ya6 lx.length yc6]) zero_16 (by kernel_rfl) (by decide)
    obtain ⟨z17, hta17⟩ := tan 66 72 (.agg #[.string (tx la), .int .i64 n, .int .i64 m, .bool set1, .string (tx lts), .slice ya5 lt.length yc5, .slice ya6 lx.length yc6]) zero_17 (by kernel_rfl) (by decide)
    obtain ⟨z18, hta18⟩ := tan 68 72 (.agg #[.string (tx la), .int .i64 n, .int .i64 m, .bool set1, .string (tx lts), .slice ya5 lt.length yc5, .slice ya6 lx.length yc6]) zero_18 (by kernel_rfl) (by decide)
    obtain ⟨z19, hta19⟩ := tan 70 72 (.agg #[.string (tx la), .int .i64 n, .int .i64 m, .bool set1, .string (tx lts), .slice ya5 lt.length yc5, .slice ya6 lx.length yc6]) zero_19 (by kernel_rfl) (by decide)
    have hta : ∀ W, (Instr.typeAssert (.iface 72 (.agg #[.string (tx la), .int .i64 n, .int .i64 m, .bool set1, .string (tx lts), .slice ya5 lt.length yc5, .slice ya6 lx.length yc6])) 20 72 true).run Try.prog W = .ok (.tuple #[.agg #[.string (tx la), .int .i64 n, .int .i64 m, .bool set1, .string (tx lts), .slice ya5 lt.length yc5, .slice ya6 lx.length yc6], .bool true]) W := fun W => ta_is _ _ _ (by kernel_rfl) W
    clear hb7 HRT
    obtain ⟨w8, hw8⟩ : ∃ w8, w8 = w7.alloc (.cells #[.string (tx la), .int .i64 n, .int .i64 m, .bool set1, .string (tx lts), .slice ya5 lt.length yc5, .slice ya6 lx.length yc6] 72) := ⟨_, rfl⟩
    obtain ⟨p9, hp9⟩ : ∃ p9, p9 = w7.heap.size := ⟨_, rfl⟩
    have HP9 : Hid (Blk w8 p9 [.string (tx la), .int .i64 n, .int .i64 m, .bool set1, .string (tx lts), .slice ya5 lt.length yc5, .slice ya6 lx.length yc6] 72) := hqZ (by rw [hw8, hp9]; exact Blk.new _ _ _)
    have HB38 : Hid (Below w3.heap.size w3 w8) := hqZ (by rw [hw8]; exact HB37.out.alloc HB37.out.size _)
    have HB68 : Hid (Below w6.heap.size w6 w8) := hqZ (by rw [hw8]; exact hb7'.alloc hb7'.size _)
    go_upto_region 42 with fail
    show Code.wp _ _ _ _ (w7.alloc (.cells #[.string (tx la), .int .i64 n, .int .i64 m, .bool set1, .string (tx lts), .slice ya5 lt.length yc5, .slice ya6 lx.length yc6] 72))
    rw [← hw8, ← hp9]
    clear hw8 hp9 hta hta11 hta12 hta13 hta14 hta15 hta16 hta17 hta18 hta19
    have HB8 : Hid (Below w.heap.size w w8) := hqZ (HB3.out.trans (HB38.out.mono HB3.out.size))
    have HQ8 := hqZ (HQ3.out.below HB38.out HQ3.out.lt)
    have HX8 := hqZ (HX3.out.below HB38.out)
    have HT8 := hqZ (HT3.out.below HB38.out)
    have HY85 := hqZ (HY5.out.below HB68.out)
    have HY86 := hqZ (HY6.out.below HB68.out)
    clear q0 r1 HQ7 HP7 HP6
    obtain ⟨q0, q1, q2, q3, q4, q5, q6, q7, q8, q9, q10, q11, q12⟩ := cel13 HQ8.out
    obtain ⟨y0, y1, y2, y3, y4, y5, y6⟩ := cel7 HP9.out
    have HS8 : Hid (Below w8.heap.size w8 w8) := hqZ (Below.refl _ _)
    go_wp2_with (first | ((with_reducible show wpList _ _ _ (⟨some 454, _, _, _, _, _⟩ :: _) _ _); refine wpList_ldAgg rfl (.tmp 453) aggTicket rfl rfl (cs := [.string (tx lts), .slice ya5 lt.length yc5]) rfl ((HP9.out.below HS8.out HP9.out.lt).cellsAt 4 2) ?_) | ((with_reducible show wpList _ _ _ (⟨some 456, _, _, _, _, _⟩ :: _) _ _); refine wpList_ldAgg rfl (.tmp 455) aggTicket rfl rfl (cs := [.string (tx lts), .slice at1 lt.length ct]) rfl ((HQ8.out.below HS8.out HQ8.out.lt).cellsAt 8 2) ?_))
    refine (sameTk_any (tx lts) _ _ lt w8 (HY85.out.below HS8.out) (HT8.out.below HS8.out)).mono ?_
    rintro e w9 ⟨rfl, hb⟩
    have HS9 : Hid (Below w8.heap.size w8 w9) := hqZ (HS8.out.trans (hb.mono HS8.out.size))
    clear hb q0 q1 q2 q3 q4 q5 q6 q7 q8 q9 q10 q11 q12 y0 y1 y2 y3 y4 y5 y6
    obtain ⟨q0, q1, q2, q3, q4, q5, q6, q7, q8, q9, q10, q11, q12⟩ := cel13 (HQ8.out.below HS9.out HQ8.out.lt)
    obtain ⟨y0, y1, y2, y3, y4, y5, y6⟩ := cel7 (HP9.out.below HS9.out HP9.out.lt)
    go_wp2_with fail
    refine (same_b _ _ lx lx w9 (HY86.out.below HS9.out) (HX8.out.below HS9.out)).mono ?_
    rintro e w10 ⟨rfl, hb⟩
    have HS10 : Hid (Below w8.heap.size w8 w10) := hqZ (HS9.out.trans (hb.mono HS9.out.size))
    clear hb q0 q1 q2 q3 q4 q5 q6 q7 q8 q9 q10 q11 q12 y0 y1 y2 y3 y4 y5 y6
    rw [show decide (lx = lx) = true from by simp]
    obtain ⟨q0, q1, q2, q3, q4, q5, q6, q7, q8, q9, q10, q11, q12⟩ := cel13 (HQ8.out.below HS10.out HQ8.out.lt)
    obtain ⟨y0, y1, y2, y3, y4, y5, y6⟩ := cel7 (HP9.out.below HS10.out HP9.out.lt)
    go_wp2_with fail
    go_ret
    exact ⟨rfl, HB8.out.trans (HS10.out.mono HB8.out.size)⟩
set_option maxHeartbeats 16000000 in
set_option maxRecDepth 100000 in
theorem msgW_10 (pick n m l : Int) (la lb lts lx ly lt : List UInt8) (ex : List (List UInt8 × List UInt8)) (ax ay at1 ae : Option Addr) (cx cy ct ce : Nat) (set1 mesh : Bool) (w w1 : World) (q : Nat) (u21 u22 u23 u24 u25 u26 u27 u28 u29 u30 u31 u32 u33 u34 u35 u36 u37 u38 u39 u40 u41 u42 u43 u44 u45 u46 u47 u48 u49 u50 u51 u52 u53 u54 u55 u56 u57 u58 : Value) (H : MwH pick n m l la lb lts lx ly lt ex ax ay at1 ae cx cy ct ce set1 mesh w w1 q) (hp : bits .and .i64 pick 15 = 10) : Code.wp Try.prog mwRest (bodyPost Try.prog Try.f4 (fun e w' => e = .returned (.bool true) ∧ Below w.heap.size w w')) (mwFrame pick n m l la lb lts lx ly lt ex ax ay at1 ae cx cy ct ce set1 mesh q u21 u22 u23 u24 u25 u26 u27 u28 u29 u30 u31 u32 u33 u34 u35 u36 u37 u38 u39 u40 u41 u42 u43 u44 u45 u46 u47 u48 u49 u50 u51 u52 u53 u54 u55 u56 u57 u58) w1 := by
  obtain ⟨HB1, HQ1, HX1, HT1, HE1, HN, HM, HLL, HMA, HMB, HMS, HMX, HMT, HME, HME2⟩ := H
  unfold mwFrame
  conv => arg 2; whnf
  obtain ⟨q0, q1, q2, q3, q4, q5, q6, q7, q8, q9, q10, q11, q12⟩ := cel13 HQ1.out
  have HIT := hqZ (it_10 pick (tx la) (tx lb) (tx lts) n m l ax ay at1 ae lx.length cx ly.length cy lt.length ct ex.length ce set1 mesh w1 hp)
  go_wp2_with ((with_reducible show wpList _ _ _ (⟨some 60, _, _, _, _, _⟩ :: _) _ _); refine wpList_ldAgg rfl (.tmp 1) aggIn rfl rfl (cs := [.int .i64 pick, .string (tx la), .string (tx lb), .int .i64 n, .int .i64 m, .int .i64 l, .slice ax lx.length cx, .slice ay ly.length cy, .string (tx lts), .slice at1 lt.length ct, .slice ae ex.length ce, .bool set1, .bool mesh]) rfl HQ1.out.cellsAll ?_)
  refine HIT.out.mono ?_
  rintro e w2 ⟨rfl, hb2⟩
  have HB2 : Hid (Below w.heap.size w w2) := hqZ (HB1.out.trans (hb2.mono HB1.out.size))
  have HQ2 := hqZ (HQ1.out.below hb2 HQ1.out.lt)
  have HX2 := hqZ (HX1.out.below hb2)
  have HT2 := hqZ (HT1.out.below hb2)
  have HE2 : Hid (TksV w2 (fun _ => True) ex (.slice ae ex.length ce)) := hqZ (by obtain ⟨rows, h1, h2⟩ := HE1.out; exact ⟨rows, h1.below hb2, h2.below hb2⟩)
  have HOK : Hid (∀ p ∈ ([.s la, .b lx] : List Pt), PtOk p) := hqZ (by
    intro p hp
    simp only [List.mem_cons, List.not_mem_nil, or_false] at hp
    rcases hp with rfl | rfl
    · exact (by have := HMA.out; show la.length ≤ _; omega)
    · exact (by have := HMX.out; show lx.length ≤ _; omega)
    )
  have HPM : Hid (∀ p ∈ ([.s la, .b lx] : List Pt), PtM p) := hqZ (by
    intro p hp
    simp only [List.mem_cons, List.not_mem_nil, or_false] at hp
    rcases hp with rfl | rfl
    · exact HMA.out
    · exact HMX.out
    )
  have HMV : Hid (MsgV w2 (fun _ => True) 21 [.s la, .b lx] (.iface 74 (.agg #[.string (tx la), .slice ax lx.length cx]))) := hqZ ⟨[.string (tx la), .slice ax lx.length cx], rfl, [.string (tx la)], _, rfl, rfl, [.slice ax lx.length cx], _, rfl, ⟨_, rfl, HX2.out, fun _ _ _ => trivial⟩, rfl⟩
  have HWR := hqZ (msgWrite_any 21 [.s la, .b lx] _ _ w2 rfl rfl HMV.out HOK.out (fun h => msgTv_len _ _ (by simp) HPM.out h))
  have HWC := hqZ (wrM_cases 21 [.s la, .b lx] rfl rfl)
  obtain ⟨wr, hwr⟩ : ∃ wr, wr = wrM 21 [.s la, .b lx] := ⟨_, rfl⟩
  rw [← hwr] at HWR HWC
  clear hb2 HIT HOK HPM HMV HE1 HX1 HT1 HQ1 hwr
  go_wp2_with fail
  refine HWR.out.mono ?_
  rintro e w3 ⟨v3, rfl, hs3, hb3⟩
  have HB3 : Hid (Below w.heap.size w w3) := hqZ (HB2.out.trans (hb3.mono HB2.out.size))
  have HQ3 := hqZ (HQ2.out.below hb3 HQ2.out.lt)
  have HX3 := hqZ (HX2.out.below hb3)
  have HT3 := hqZ (HT2.out.below hb3)
  have HE3 : Hid (TksV w3 (fun _ => True) ex (.slice ae ex.length ce)) := hqZ (by obtain ⟨rows, h1, h2⟩ := HE2.out; exact ⟨rows, h1.below hb3, h2.below hb3⟩)
  have q0 : w3.cell? ⟨q, 0, none⟩ = some (.int .i64 pick) := HQ3.out.cell 0
  clear hb3 HWR HX2 HT2 HE2 HQ2
  rcases HWC.out with rfl | rfl | ⟨b, rfl, hwh, hrd, hmr, hpb⟩
  · obtain ⟨a3, c3, rfl, _⟩ := hs3.form
    rw [show ([] : List UInt8).length = 0 from rfl]
    clear hs3 HWC
    go_wp2_with fail
    go_ret
    exact ⟨rfl, HB3.out⟩
  · obtain ⟨a3, c3, rfl, _⟩ := hs3.form
    rw [show ([] : List UInt8).length = 0 from rfl]
    clear hs3 HWC
    go_wp2_with fail
    go_ret
    exact ⟨rfl, HB3.out⟩
  · obtain ⟨a3, c3, rfl, _⟩ := hs3.form
    have HS3 := hqZ hs3
    have HWH := hqZ (refWhole_any _ b w3 hs3)
    rw [hwh] at HWH
    have HRD := hqZ hrd
    have HMR := hqZ hmr
    have HPB := hqZ hpb
    clear hs3 HWC hwh hrd hmr hpb
    simp only
    go_wp2_with fail
    refine HWH.out.mono ?_
    rintro e w4 ⟨cr, rfl, htv, hb4⟩
    have HRL := hqZ htv.length
    have HRO := hqZ htv.one
    have HTV4 := hqZ htv
    have HN4 := hqZ (Blk.new w4 zs5 30)
    have HB34 := hqZ hb4
    clear htv hb4 HWH
    go_upto_region 9 with ((with_reducible show wpList _ _ _ (⟨none, .store _ (.tmp 5) (.tmp 91), _, _, _, _⟩ :: _) _ _); refine wpList_stAgg rfl (.tmp 5) (.tmp 91) aggRef rfl rfl (vs := cr) rfl HRL.out HN4.out (Nat.le_refl _) HRO.out ?_)
    intro w5 h5 k5
    have h5' : Blk w5 w4.heap.size cr 30 := by
      rw [List.drop_of_length_le (by decide), List.append_nil] at h5
      exact h5
    have hb5 : Below w4.heap.size w4 w5 := ((Below.refl _ _).alloc (Nat.le_refl _) _).trans (k5.below (by omega))
    have HP5 := hqZ h5'
    have HTV5 := hqZ (HTV4.out.below hb5)
    have HB35 : Hid (Below w3.heap.size w3 w5) := hqZ (HB34.out.trans (hb5.mono HB34.out.size))
    obtain ⟨p5, hp5⟩ : ∃ p5, p5 = w4.heap.size := ⟨_, rfl⟩
    rw [← hp5] at HP5 ⊢
    clear h5 k5 h5' hb5 hp5 HTV4 HN4 HB34
    go_upto_region 9 with fail
    have HS5 := hqZ (HS3.out.below HB35.out)
    have HRC := hqZ (msgRead_any _ b w5 HS5.out)
    rw [HRD.out] at HRC
    go_wp2_with fail
    refine HRC.out.mono ?_
    rintro e w6 ⟨v6, rfl, hb6, hm6⟩
    have hm6 : MsgV w6 (fun b => b < w6.heap.size) 21 [.s la, .b lx] v6 := hm6
    obtain ⟨cs6, rfl, hp6⟩ := hm6
    obtain ⟨e1, f1, rfl, g1, hp6⟩ := hp6
    obtain rfl := g1
    obtain ⟨e2, f2, rfl, g2, hp6⟩ := hp6
    obtain ⟨vv2, rfl, hy2, _⟩ := g2
    obtain ⟨ya2, yc2, rfl, _⟩ := hy2.form
    have HY2 := hqZ hy2
    clear hy2
    obtain rfl : _ = [] := hp6
    have hty : typM 21 = 74 := rfl
    simp only [List.cons_append, List.nil_append, hty]
    clear hty
    have HB36 : Hid (Below w3.heap.size w3 w6) := hqZ (HB35.out.trans (hb6.mono HB35.out.size))
    have HP6 := hqZ (HP5.out.below hb6 HP5.out.lt)
    have HTV6 := hqZ (HTV5.out.below hb6)
    have HRT := hqZ (refRight11_any (msgTv 21 [.s la, .b lx]) _ cr w6 HTV6.out)
    rw [HMR.out] at HRT
    have hr1 : ∀ W, Blk W p5 cr 30 → W.cell? ⟨p5, 1, none⟩ = some (.int .i64 21) := fun W hW => by
      obtain ⟨bv, lv, rows, e, _⟩ := HTV6.out.open_
      have h := hW.cell 1
      rw [e] at h
      exact h
    have HR1 := hqZ hr1
    clear hb6 hr1 HRC HP5 HTV5 HB35
    go_wp2_with ((with_reducible show wpList _ _ _ (⟨some 105, _, _, _, _, _⟩ :: _) _ _); refine wpList_ldAgg rfl (.tmp 5) aggRef rfl rfl (cs := cr) HRL.out HP6.out.cellsAll ?_)
    refine HRT.out.mono ?_
    rintro e w7 ⟨rfl, hb7⟩
    have hb7' := hb7
    have HB37 : Hid (Below w3.heap.size w3 w7) := hqZ (HB36.out.trans (hb7.mono HB36.out.size))
    have HP7 := hqZ (HP6.out.below hb7 HP6.out.lt)
    have r1 := HR1.out w7 HP7.out
    have HQ7 := hqZ (HQ3.out.below HB37.out HQ3.out.lt)
    have q0 : w7.cell? ⟨q, 0, none⟩ = some (.int .i64 pick) := HQ7.out.cell 0
    obtain ⟨z11, hta11⟩ := tan 54 74 (.agg #[.string (tx la), .slice ya2 lx.length yc2]) zero_11 (by kernel_rfl) (by decide)
    obtain ⟨z12, hta12⟩ := tan 56 74 (.agg #[.string (tx la), .slice ya2 lx.length yc2]) zero_12 (by kernel_rfl) (by decide)
    obtain ⟨z13, hta13⟩ := tan 59 74 (.agg #[.string (tx la), .slice ya2 lx.length yc2]) zero_13 (by kernel_rfl) (by decide)
    obtain ⟨z14, hta14⟩ := tan 60 74 (.agg #[.string (tx la), .slice ya2 lx.length yc2]) zero_14 (by kernel_rfl) (by decide)
    obtain ⟨z15, hta15⟩ := tan 62 74 (.agg #[.string (tx la), .slice ya2 lx.length yc2]) zero_15 (by kernel_rfl) (by decide)
    obtain ⟨z16, hta16⟩ := tan 64 74 (.agg #[.string (tx la), .slice ya2 lx.length yc2]) zero_16 (by kernel_rfl) (by decide)
    obtain ⟨z17, hta17⟩ := tan 66 74 (.agg #[.string (tx la), .slice ya2 lx.length yc2]) zero_17 (by kernel_rfl) (by decide)
    obtain ⟨z18, hta18⟩ := tan 68 74 (.agg #[.string (tx la), .slice ya2 lx.length yc2]) zero_18 (by kernel_rfl) (by decide)
    obtain ⟨z19, hta19⟩ := tan 70 74 (.agg #[.string (tx la), .slice ya2 lx.length yc2]) zero_19 (by kernel_rfl) (by decide)
    obtain ⟨z20, hta20⟩ := tan 72 74 (.agg #[.string (tx la), .slice ya2 lx.length yc2]) zero_20 (by kernel_rfl) (by decide)
    have hta : ∀ W, (Instr.typeAssert (.iface 74 (.agg #[.string (tx la), .slice ya2 lx.length yc2])) 20 74 true).run Try.prog W = .ok (.tuple #[.agg #[.string (tx la), .slice ya2 lx.length yc2], .bool true]) W := fun W => ta_is _ _ _ (by kernel_rfl) W
    clear hb7 HRT
    obtain ⟨w8, hw8⟩ : ∃ w8, w8 = w7.alloc (.cells #[.string (tx la), .slice ya2 lx.length yc2] 74) := ⟨_, rfl⟩
    obtain ⟨p9, hp9⟩ : ∃ p9, p9 = w7.heap.size := ⟨_, rfl⟩
    have HP9 : Hid (Blk w8 p9 [.string (tx la), .slice ya2 lx.length yc2] 74) := hqZ (by rw [hw8, hp9]; exact Blk.new _ _ _)
    have HB38 : Hid (Below w3.heap.size w3 w8) := hqZ (by rw [hw8]; exact HB37.out.alloc HB37.out.size _)
    have HB68 : Hid (Below w6.heap.size w6 w8) := hqZ (by rw [hw8]; exact hb7'.alloc hb7'.size _)
    go_upto_region 45 with fail
    show Code.wp _ _ _ _ (w7.alloc (.cells #[.string (tx la), .slice ya2 lx.length yc2] 74))
    rw [← hw8, ← hp9]
    clear hw8 hp9 hta hta11 hta12 hta13 hta14 hta15 hta16 hta17 hta18 hta19 hta20
    have HB8 : Hid (Below w.heap.size w w8) := hqZ (HB3.out.trans (HB38.out.mono HB3.out.size))
    have HQ8 := hqZ (HQ3.out.below HB38.out HQ3.out.lt)
    have HX8 := hqZ (HX3.out.below HB38.out)
    have HT8 := hqZ (HT3.out.below HB38.out)
    have HY82 := hqZ (HY2.out.below HB68.out)
    clear q0 r1 HQ7 HP7 HP6
    obtain ⟨q0, q1, q2, q3, q4, q5, q6, q7, q8, q9, q10, q11, q12⟩ := cel13 HQ8.out
    obtain ⟨y0, y1⟩ := cel2 HP9.out
    have HS8 : Hid (Below w8.heap.size w8 w8) := hqZ (Below.refl _ _)
    go_wp2_with fail
    refine (same_b _ _ lx lx w8 (HY82.out.below HS8.out) (HX8.out.below HS8.out)).mono ?_
    rintro e w9 ⟨rfl, hb⟩
    have HS9 : Hid (Below w8.heap.size w8 w9) := hqZ (HS8.out.trans (hb.mono HS8.out.size))
    clear hb q0 q1 q2 q3 q4 q5 q6 q7 q8 q9 q10 q11 q12 y0 y1
    rw [show decide (lx = lx) = true from by simp]
    obtain ⟨q0, q1, q2, q3, q4, q5, q6, q7, q8, q9, q10, q11, q12⟩ := cel13 (HQ8.out.below HS9.out HQ8.out.lt)
    obtain ⟨y0, y1⟩ := cel2 (HP9.out.below HS9.out HP9.out.lt)
    go_wp2_with fail
    go_ret
    exact ⟨rfl, HB8.out.trans (HS9.out.mono HB8.out.size)⟩
set_option maxHeartbeats 16000000 in
set_option maxRecDepth 100000 in
theorem msgW_11 (pick n m l : Int) (la lb lts lx ly lt : List UInt8) (ex : List (List UInt8 × List UInt8)) (ax ay at1 ae : Option Addr) (cx cy ct ce : Nat) (set1 mesh : Bool) (w w1 : World) (q : Nat) (u21 u22 u23 u24 u25 u26 u27 u28 u29 u30 u31 u32 u33 u34 u35 u36 u37 u38 u39 u40 u41 u42 u43 u44 u45 u46 u47 u48 u49 u50 u51 u52 u53 u54 u55 u56 u57 u58 : Value) (H : MwH pick n m l la lb lts lx ly lt ex ax ay at1 ae cx cy ct ce set1 mesh w w1 q) (hp : bits .and .i64 pick 15 = 11) : Code.wp Try.prog mwRest (bodyPost Try.prog Try.f4 (fun e w' => e = .returned (.bool true) ∧ Below w.heap.size w w')) (mwFrame pick n m l la lb lts lx ly lt ex ax ay at1 ae cx cy ct ce set1 mesh q u21 u22 u23 u24 u25 u26 u27 u28 u29 u30 u31 u32 u33 u34 u35 u36 u37 u38 u39 u40 u41 u42 u43 u44 u45 u46 u47 u48 u49 u50 u51 u52 u53 u54 u55 u56 u57 u58) w1 := by
  obtain ⟨HB1, HQ1, HX1, HT1, HE1, HN, HM, HLL, HMA, HMB, HMS, HMX, HMT, HME, HME2⟩ := H
  unfold mwFrame
  conv => arg 2; whnf
  obtain ⟨q0, q1, q2, q3, q4, q5, q6, q7, q8, q9, q10, q11, q12⟩ := cel13 HQ1.out
  have HIT := hqZ (it_11 pick (tx la) (tx lb) (tx lts) n m l ax ay at1 ae lx.length cx ly.length cy lt.length ct ex.length ce set1 mesh w1 hp)
  go_wp2_with ((with_reducible show wpList _ _ _ (⟨some 60, _, _, _, _, _⟩ :: _) _ _); refine wpList_ldAgg rfl (.tmp 1) aggIn rfl rfl (cs := [.int .i64 pick, .string (tx la), .string (tx lb), .int .i64 n, .int .i64 m, .int .i64 l, .slice ax lx.length cx, .slice ay ly.length cy, .string (tx lts), .slice at1 lt.length ct, .slice ae ex.length ce, .bool set1, .bool mesh]) rfl HQ1.out.cellsAll ?_)
  refine HIT.out.mono ?_
  rintro e w2 ⟨rfl, hb2⟩
  have HB2 : Hid (Below w.heap.size w w2) := hqZ (HB1.out.trans (hb2.mono HB1.out.size))
  have HQ2 := hqZ (HQ1.out.below hb2 HQ1.out.lt)
  have HX2 := hqZ (HX1.out.below hb2)
  have HT2 := hqZ (HT1.out.below hb2)
  have HE2 : Hid (TksV w2 (fun _ => True) ex (.slice ae ex.length ce)) := hqZ (by obtain ⟨rows, h1, h2⟩ := HE1.out; exact ⟨rows, h1.below hb2, h2.below hb2⟩)
  have HOK : Hid (∀ p ∈ ([.s la, .n n, .n m] : List Pt), PtOk p) := hqZ (by
    intro p hp
    simp only [List.mem_cons, List.not_mem_nil, or_false] at hp
    rcases hp with rfl | rfl | rfl
    · exact (by have := HMA.out; show la.length ≤ _; omega)
    · exact HN.out
    · exact HM.out
    )
  have HPM : Hid (∀ p ∈ ([.s la, .n n, .n m] : List Pt), PtM p) := hqZ (by
    intro p hp
    simp only [List.mem_cons, List.not_mem_nil, or_false] at hp
    rcases hp with rfl | rfl | rfl
    · exact HMA.out
    · exact trivial
    · exact trivial
    )
  have HMV : Hid (MsgV w2 (fun _ => True) 22 [.s la, .n n, .n m] (.iface 76 (.agg #[.string (tx la), .int .i64 n, .int .i64 m]))) := hqZ ⟨[.string (tx la), .int .i64 n, .int .i64 m], rfl, [.string (tx la)], _, rfl, rfl, [.int .i64 n], _, rfl, rfl, [.int .i64 m], _, rfl, rfl, rfl⟩
  have HWR := hqZ (msgWrite_any 22 [.s la, .n n, .n m] _ _ w2 rfl rfl HMV.out HOK.out (fun h => msgTv_len _ _ (by simp) HPM.out h))
  have HWC := hqZ (wrM_cases 22 [.s la, .n n, .n m] rfl rfl)
  obtain ⟨wr, hwr⟩ : ∃ wr, wr = wrM 22 [.s la, .n n, .n m] := ⟨_, rfl⟩
  rw [← hwr] at HWR HWC
  clear hb2 HIT HOK HPM HMV HE1 HX1 HT1 HQ1 hwr
  go_wp2_with fail
  refine HWR.out.mono ?_
  rintro e w3 ⟨v3, rfl, hs3, hb3⟩
  have HB3 : Hid (Below w.heap.size w w3) := hqZ (HB2.out.trans (hb3.mono HB2.out.size))
  have HQ3 := hqZ (HQ2.out.below hb3 HQ2.out.lt)
  have HX3 := hqZ (HX2.out.below hb3)
  have HT3 := hqZ (HT2.out.below hb3)
  have HE3 : Hid (TksV w3 (fun _ => True) ex (.slice ae ex.length ce)) := hqZ (by obtain ⟨rows, h1, h2⟩ := HE2.out; exact ⟨rows, h1.below hb3, h2.below hb3⟩)
  have q0 : w3.cell? ⟨q, 0, none⟩ = some (.int .i64 pick) := HQ3.out.cell 0
  clear hb3 HWR HX2 HT2 HE2 HQ2
  rcases HWC.out with rfl | rfl | ⟨b, rfl, hwh, hrd, hmr, hpb⟩
  · obtain ⟨a3, c3, rfl, _⟩ := hs3.form
    rw [show ([] : List UInt8).length = 0 from rfl]
    clear hs3 HWC
    go_wp2_with fail
    go_ret
    exact ⟨rfl, HB3.out⟩
  · obtain ⟨a3, c3, rfl, _⟩ := hs3.form
    rw [show ([] : List UInt8).length = 0 from rfl]
    clear hs3 HWC
    go_wp2_with fail
    go_ret
    exact ⟨rfl, HB3.out⟩
  · obtain ⟨a3, c3, rfl, _⟩ := hs3.form
    have HS3 := hqZ hs3
    have HWH := hqZ (refWhole_any _ b w3 hs3)
    rw [hwh] at HWH
    have HRD := hqZ hrd
    have HMR := hqZ hmr
    have HPB := hqZ hpb
    clear hs3 HWC hwh hrd hmr hpb
    simp only
    go_wp2_with fail
    refine HWH.out.mono ?_
    rintro e w4 ⟨cr, rfl, htv, hb4⟩
    have HRL := hqZ htv.length
    have HRO := hqZ htv.one
    have HTV4 := hqZ htv
    have HN4 := hqZ (Blk.new w4 zs5 30)
    have HB34 := hqZ hb4
    clear htv hb4 HWH
    go_upto_region 9 with ((with_reducible show wpList _ _ _ (⟨none, .store _ (.tmp 5) (.tmp 91), _, _, _, _⟩ :: _) _ _); refine wpList_stAgg rfl (.tmp 5) (.tmp 91) aggRef rfl rfl (vs := cr) rfl HRL.out HN4.out (Nat.le_refl _) HRO.out ?_)
    intro w5 h5 k5
    have h5' : Blk w5 w4.heap.size cr 30 := by
      rw [List.drop_of_length_le (by decide), List.append_nil] at h5
      exact h5
    have hb5 : Below w4.heap.size w4 w5 := ((Below.refl _ _).alloc (Nat.le_refl _) _).trans (k5.below (by omega))
    have HP5 := hqZ h5'
    have HTV5 := hqZ (HTV4.out.below hb5)
    have HB35 : Hid (Below w3.heap.size w3 w5) := hqZ (HB34.out.trans (hb5.mono HB34.out.size))
    obtain ⟨p5, hp5⟩ : ∃ p5, p5 = w4.heap.size := ⟨_, rfl⟩
    rw [← hp5] at HP5 ⊢
    clear h5 k5 h5' hb5 hp5 HTV4 HN4 HB34
    go_upto_region 9 with fail
    have HS5 := hqZ (HS3.out.below HB35.out)
    have HRC := hqZ (msgRead_any _ b w5 HS5.out)
    rw [HRD.out] at HRC
    go_wp2_with fail
    refine HRC.out.mono ?_
    rintro e w6 ⟨v6, rfl, hb6, hm6⟩
    have hm6 : MsgV w6 (fun b => b < w6.heap.size) 22 [.s la, .n n, .n m] v6 := hm6
    obtain ⟨cs6, rfl, hp6⟩ := hm6
    obtain ⟨e1, f1, rfl, g1, hp6⟩ := hp6
    obtain rfl := g1
    obtain ⟨e2, f2, rfl, g2, hp6⟩ := hp6
    obtain rfl := g2
    obtain ⟨e3, f3, rfl, g3, hp6⟩ := hp6
    obtain rfl := g3
    obtain rfl : _ = [] := hp6
    have hty : typM 22 = 76 := rfl
    simp only [List.cons_append, List.nil_append, hty]
    clear hty
    have HB36 : Hid (Below w3.heap.size w3 w6) := hqZ (HB35.out.trans (hb6.mono HB35.out.size))
    have HP6 := hqZ (HP5.out.below hb6 HP5.out.lt)
    have HTV6 := hqZ (HTV5.out.below hb6)
    have HRT := hqZ (refRight11_any (msgTv 22 [.s la, .n n, .n m]) _ cr w6 HTV6.out)
    rw [HMR.out] at HRT
    have hr1 : ∀ W, Blk W p5 cr 30 → W.cell? ⟨p5, 1, none⟩ = some (.int .i64 22) := fun W hW => by
      obtain ⟨bv, lv, rows, e, _⟩ := HTV6.out.open_
      have h := hW.cell 1
      rw [e] at h
      exact h
    have HR1 := hqZ hr1
    clear hb6 hr1 HRC HP5 HTV5 HB35
    go_wp2_with ((with_reducible show wpList _ _ _ (⟨some 105, _, _, _, _, _⟩ :: _) _ _); refine wpList_ldAgg rfl (.tmp 5) aggRef rfl rfl (cs := cr) HRL.out HP6.out.cellsAll ?_)
    refine HRT.out.mono ?_
    rintro e w7 ⟨rfl, hb7⟩
    have hb7' := hb7
    have HB37 : Hid (Below w3.heap.size w3 w7) := hqZ (HB36.out.trans (hb7.mono HB36.out.size))
    have HP7 := hqZ (HP6.out.below hb7 HP6.out.lt)
    have r1 := HR1.out w7 HP7.out
    have HQ7 := hqZ (HQ3.out.below HB37.out HQ3.out.lt)
    have q0 : w7.cell? ⟨q, 0, none⟩ = some (.int .i64 pick) := HQ7.out.cell 0
    obtain ⟨z11, hta11⟩ := tan 54 76 (.agg #[.string (tx la), .int .i64 n, .int .i64 m]) zero_11 (by kernel_rfl) (by decide)
    obtain ⟨z12, hta12⟩ := tan 56 76 (.agg #[.string (tx la), .int .i64 n, .int .i64 m]) zero_12 (by kernel_rfl) (by decide)
    obtain ⟨z13, hta13⟩ := tan 59 76 (.agg #[.string (tx la), .int .i64 n, .int .i64 m]) zero_13 (by kernel_rfl) (by decide)
    obtain ⟨z14, hta14⟩ := tan 60 76 (.agg #[.string (tx la), .int .i64 n, .int .i64 m]) zero_14 (by kernel_rfl) (by decide)
    obtain ⟨z15, hta15⟩ := tan 62 76 (.agg #[.string (tx la), .int .i64 n, .int .i64 m]) zero_15 (by kernel_rfl) (by decide)
    obtain ⟨z16, hta16⟩ := tan 64 76 (.agg #[.string (tx la), .int .i64 n, .int .i64 m]) zero_16 (by kernel_rfl) (by decide)
    obtain ⟨z17, hta17⟩ := tan 66 76 (.agg #[.string (tx la), .int .i64 n, .int .i64 m]) zero_17 (by kernel_rfl) (by decide)
    obtain ⟨z18, hta18⟩ := tan 68 76 (.agg #[.string (tx la), .int .i64 n, .int .i64 m]) zero_18 (by kernel_rfl) (by decide)
    obtain ⟨z19, hta19⟩ := tan 70 76 (.agg #[.string (tx la), .int .i64 n, .int .i64 m]) zero_19 (by kernel_rfl) (by decide)
    obtain ⟨z20, hta20⟩ := tan 72 76 (.agg #[.string (tx la), .int .i64 n, .int .i64 m]) zero_20 (by kernel_rfl) (by decide)
    obtain ⟨z21, hta21⟩ := tan 74 76 (.agg #[.string (tx la), .int .i64 n, .int .i64 m]) zero_21 (by kernel_rfl) (by decide)
    have hta : ∀ W, (Instr.typeAssert (.iface 76 (.agg #[.string (tx la), .int .i64 n, .int .i64 m])) 20 76 true).run Try.prog W = .ok (.tuple #[.agg #[.string (tx la), .int .i64 n, .int .i64 m], .bool true]) W := fun W => ta_is _ _ _ (by kernel_rfl) W
    clear hb7 HRT
    obtain ⟨w8, hw8⟩ : ∃ w8, w8 = w7.alloc (.cells #[.string (tx la), .int .i64 n, .int .i64 m] 76) := ⟨_, rfl⟩
    obtain ⟨p9, hp9⟩ : ∃ p9, p9 = w7.heap.size := ⟨_, rfl⟩
    have HP9 : Hid (Blk w8 p9 [.string (tx la), .int .i64 n, .int .i64 m] 76) := hqZ (by rw [hw8, hp9]; exact Blk.new _ _ _)
    have HB38 : Hid (Below w3.heap.size w3 w8) := hqZ (by rw [hw8]; exact HB37.out.alloc HB37.out.size _)
    have HB68 : Hid (Below w6.heap.size w6 w8) := hqZ (by rw [hw8]; exact hb7'.alloc hb7'.size _)
    go_upto_region 48 with fail
    show Code.wp _ _ _ _ (w7.alloc (.cells #[.string (tx la), .int .i64 n, .int .i64 m] 76))
    rw [← hw8, ← hp9]
    clear hw8 hp9 hta hta11 hta12 hta13 hta14 hta15 hta16 hta17 hta18 hta19 hta20 hta21
    have HB8 : Hid (Below w.heap.size w w8) := hqZ (HB3.out.trans (HB38.out.mono HB3.out.size))
    have HQ8 := hqZ (HQ3.out.below HB38.out HQ3.out.lt)
    have HX8 := hqZ (HX3.out.below HB38.out)
    have HT8 := hqZ (HT3.out.below HB38.out)
    clear q0 r1 HQ7 HP7 HP6
    obtain ⟨q0, q1, q2, q3, q4, q5, q6, q7, q8, q9, q10, q11, q12⟩ := cel13 HQ8.out
    obtain ⟨y0, y1, y2⟩ := cel3 HP9.out
    have HS8 : Hid (Below w8.heap.size w8 w8) := hqZ (Below.refl _ _)
    go_wp2_with fail
    go_ret
    exact ⟨rfl, HB8.out.trans (HS8.out.mono HB8.out.size)⟩
set_option maxHeartbeats 8000000 in
set_option maxRecDepth 100000 in
theorem it_12 (pick : Int) (a b ts : ByteArray) (n m l : Int) (ax ay at1 ae : Option Addr) (nx cx ny cy nt ct ne ce : Nat) (set1 mesh : Bool) (w : World) (hp : bits .and .i64 pick 15 = 12) : Calls Try.prog 16 #[.agg #[.int .i64 pick, .string a, .string b, .int .i64 n, .int .i64 m, .int .i64 l, .slice ax nx cx, .slice ay ny cy, .string ts, .slice at1 nt ct, .slice ae ne ce, .bool set1, .bool mesh]] w fun e w' => ∃ v, e = .returned v ∧ NoMsg v ∧ Below w.heap.size w w' := by
  go_enter Try.func16, Try.ntmps16
  go_wp2_with fail
  go_ret
  exact ⟨_, rfl, ⟨.inr ⟨_, _, rfl, by decide⟩, .inr ⟨_, _, rfl, by decide⟩, .inr ⟨_, _, rfl, by decide⟩, .inr ⟨_, _, rfl, by decide⟩, .inr ⟨_, _, rfl, by decide⟩, .inr ⟨_, _, rfl, by decide⟩, .inr ⟨_, _, rfl, by decide⟩, .inr ⟨_, _, rfl, by decide⟩, .inr ⟨_, _, rfl, by decide⟩, .inr ⟨_, _, rfl, by decide⟩, .inr ⟨_, _, rfl, by decide⟩, .inr ⟨_, _, rfl, by decide⟩⟩, ((Below.refl _ _).alloc (Nat.le_refl _) _).alloc (by simp) _⟩
set_option maxHeartbeats 8000000 in
set_option maxRecDepth 100000 in
theorem it_13 (pick : Int) (a b ts : ByteArray) (n m l : Int) (ax ay at1 ae : Option Addr) (nx cx ny cy nt ct ne ce : Nat) (set1 mesh : Bool) (w : World) (hp : bits .and .i64 pick 15 = 13) : Calls Try.prog 16 #[.agg #[.int .i64 pick, .string a, .string b, .int .i64 n, .int .i64 m, .int .i64 l, .slice ax nx cx, .slice ay ny cy, .string ts, .slice at1 nt ct, .slice ae ne ce, .bool set1, .bool mesh]] w fun e w' => ∃ v, e = .returned v ∧ NoMsg v ∧ Below w.heap.size w w' := by
  go_enter Try.func16, Try.ntmps16
  go_wp2_with fail
  go_ret
  exact ⟨_, rfl, ⟨.inr ⟨_, _, rfl, by decide⟩, .inr ⟨_, _, rfl, by decide⟩, .inr ⟨_, _, rfl, by decide⟩, .inr ⟨_, _, rfl, by decide⟩, .inr ⟨_, _, rfl, by decide⟩, .inr ⟨_, _, rfl, by decide⟩, .inr ⟨_, _, rfl, by decide⟩, .inr ⟨_, _, rfl, by decide⟩, .inr ⟨_, _, rfl, by decide⟩, .inr ⟨_, _, rfl, by decide⟩, .inr ⟨_, _, rfl, by decide⟩, .inr ⟨_, _, rfl, by decide⟩⟩, ((Below.refl _ _).alloc (Nat.le_refl _) _).alloc (by simp) _⟩
set_option maxHeartbeats 8000000 in
set_option maxRecDepth 100000 in
theorem it_14 (pick : Int) (a b ts : ByteArray) (n m l : Int) (ax ay at1 ae : Option Addr) (nx cx ny cy nt ct ne ce : Nat) (set1 mesh : Bool) (w : World) (hp : bits .and .i64 pick 15 = 14) : Calls Try.prog 16 #[.agg #[.int .i64 pick, .string a, .string b, .int .i64 n, .int .i64 m, .int .i64 l, .slice ax nx cx, .slice ay ny cy, .string ts, .slice at1 nt ct, .slice ae ne ce, .bool set1, .bool mesh]] w fun e w' => ∃ v, e = .returned v ∧ NoMsg v ∧ Below w.heap.size w w' := by
  go_enter Try.func16, Try.ntmps16
  go_wp2_with fail
  go_ret
  exact ⟨_, rfl, ⟨.inl rfl, .inl rfl, .inl rfl, .inl rfl, .inl rfl, .inl rfl, .inl rfl, .inl rfl, .inl rfl, .inl rfl, .inl rfl, .inl rfl⟩, ((Below.refl _ _).alloc (Nat.le_refl _) _).alloc (by simp) _⟩
set_option maxHeartbeats 8000000 in
set_option maxRecDepth 100000 in
theorem it_15 (pick : Int) (a b ts : ByteArray) (n m l : Int) (ax ay at1 ae : Option Addr) (nx cx ny cy nt ct ne ce : Nat) (set1 mesh : Bool) (w : World) (hp : bits .and .i64 pick 15 = 15) : Calls Try.prog 16 #[.agg #[.int .i64 pick, .string a, .string b, .int .i64 n, .int .i64 m, .int .i64 l, .slice ax nx cx, .slice ay ny cy, .string ts, .slice at1 nt ct, .slice ae ne ce, .bool set1, .bool mesh]] w fun e w' => ∃ v, e = .returned v ∧ NoMsg v ∧ Below w.heap.size w w' := by
  go_enter Try.func16, Try.ntmps16
  go_wp2_with fail
  go_ret
  exact ⟨_, rfl, ⟨.inr ⟨_, _, rfl, by decide⟩, .inr ⟨_, _, rfl, by decide⟩, .inr ⟨_, _, rfl, by decide⟩, .inr ⟨_, _, rfl, by decide⟩, .inr ⟨_, _, rfl, by decide⟩, .inr ⟨_, _, rfl, by decide⟩, .inr ⟨_, _, rfl, by decide⟩, .inr ⟨_, _, rfl, by decide⟩, .inr ⟨_, _, rfl, by decide⟩, .inr ⟨_, _, rfl, by decide⟩, .inr ⟨_, _, rfl, by decide⟩, .inr ⟨_, _, rfl, by decide⟩⟩, ((Below.refl _ _).alloc (Nat.le_refl _) _).alloc (by simp) _⟩
set_option maxHeartbeats 16000000 in
set_option maxRecDepth 100000 in
theorem msgW_12 (pick n m l : Int) (la lb lts lx ly lt : List UInt8) (ex : List (List UInt8 × List UInt8)) (ax ay at1 ae : Option Addr) (cx cy ct ce : Nat) (set1 mesh : Bool) (w w1 : World) (q : Nat) (u21 u22 u23 u24 u25 u26 u27 u28 u29 u30 u31 u32 u33 u34 u35 u36 u37 u38 u39 u40 u41 u42 u43 u44 u45 u46 u47 u48 u49 u50 u51 u52 u53 u54 u55 u56 u57 u58 : Value) (H : MwH pick n m l la lb lts lx ly lt ex ax ay at1 ae cx cy ct ce set1 mesh w w1 q) (hp : bits .and .i64 pick 15 = 12) : Code.wp Try.prog mwRest (bodyPost Try.prog Try.f4 (fun e w' => e = .returned (.bool true) ∧ Below w.heap.size w w')) (mwFrame pick n m l la lb lts lx ly lt ex ax ay at1 ae cx cy ct ce set1 mesh q u21 u22 u23 u24 u25 u26 u27 u28 u29 u30 u31 u32 u33 u34 u35 u36 u37 u38 u39 u40 u41 u42 u43 u44 u45 u46 u47 u48 u49 u50 u51 u52 u53 u54 u55 u56 u57 u58) w1 := by
  obtain ⟨HB1, HQ1, HX1, HT1, HE1, HN, HM, HLL, HMA, HMB, HMS, HMX, HMT, HME, HME2⟩ := H
  unfold mwFrame
  conv => arg 2; whnf
  obtain ⟨q0, q1, q2, q3, q4, q5, q6, q7, q8, q9, q10, q11, q12⟩ := cel13 HQ1.out
  have HIT := hqZ (it_12 pick (tx la) (tx lb) (tx lts) n m l ax ay at1 ae lx.length cx ly.length cy lt.length ct ex.length ce set1 mesh w1 hp)
  go_wp2_with ((with_reducible show wpList _ _ _ (⟨some 60, _, _, _, _, _⟩ :: _) _ _); refine wpList_ldAgg rfl (.tmp 1) aggIn rfl rfl (cs := [.int .i64 pick, .string (tx la), .string (tx lb), .int .i64 n, .int .i64 m, .int .i64 l, .slice ax lx.length cx, .slice ay ly.length cy, .string (tx lts), .slice at1 lt.length ct, .slice ae ex.length ce, .bool set1, .bool mesh]) rfl HQ1.out.cellsAll ?_)
  refine HIT.out.mono ?_
  rintro e w2 ⟨v, rfl, hno, hb2⟩
  have HB2 : Hid (Below w.heap.size w w2) := hqZ (HB1.out.trans (hb2.mono HB1.out.size))
  have q0 : w2.cell? ⟨q, 0, none⟩ = some (.int .i64 pick) := (HQ1.out.below hb2 HQ1.out.lt).cell 0
  have HWR := hqZ (msgWrite_none v w2 hno)
  have HQ2 := hqZ (HQ1.out.below hb2 HQ1.out.lt)
  clear hb2 hno HIT
  go_wp2_with fail
  refine HWR.out.mono ?_
  rintro e w3 ⟨v3, rfl, hs3, hb3⟩
  obtain ⟨a3, c3, rfl, _⟩ := hs3.form
  have HB3 : Hid (Below w.heap.size w w3) := hqZ (HB2.out.trans (hb3.mono HB2.out.size))
  have q0 : w3.cell? ⟨q, 0, none⟩ = some (.int .i64 pick) := (HQ2.out.below hb3 HQ2.out.lt).cell 0
  rw [show ([] : List UInt8).length = 0 from rfl]
  clear hb3 hs3 HWR
  go_wp2_with fail
  go_ret
  exact ⟨rfl, HB3.out⟩
set_option maxHeartbeats 16000000 in
set_option maxRecDepth 100000 in
theorem msgW_13 (pick n m l : Int) (la lb lts lx ly lt : List UInt8) (ex : List (List UInt8 × List UInt8)) (ax ay at1 ae : Option Addr) (cx cy ct ce : Nat) (set1 mesh : Bool) (w w1 : World) (q : Nat) (u21 u22 u23 u24 u25 u26 u27 u28 u29 u30 u31 u32 u33 u34 u35 u36 u37 u38 u39 u40 u41 u42 u43 u44 u45 u46 u47 u48 u49 u50 u51 u52 u53 u54 u55 u56 u57 u58 : Value) (H : MwH pick n m l la lb lts lx ly lt ex ax ay at1 ae cx cy ct ce set1 mesh w w1 q) (hp : bits .and .i64 pick 15 = 13) : Code.wp Try.prog mwRest (bodyPost Try.prog Try.f4 (fun e w' => e = .returned (.bool true) ∧ Below w.heap.size w w')) (mwFrame pick n m l la lb lts lx ly lt ex ax ay at1 ae cx cy ct ce set1 mesh q u21 u22 u23 u24 u25 u26 u27 u28 u29 u30 u31 u32 u33 u34 u35 u36 u37 u38 u39 u40 u41 u42 u43 u44 u45 u46 u47 u48 u49 u50 u51 u52 u53 u54 u55 u56 u57 u58) w1 := by
  obtain ⟨HB1, HQ1, HX1, HT1, HE1, HN, HM, HLL, HMA, HMB, HMS, HMX, HMT, HME, HME2⟩ := H
  unfold mwFrame
  conv => arg 2; whnf
  obtain ⟨q0, q1, q2, q3, q4, q5, q6, q7, q8, q9, q10, q11, q12⟩ := cel13 HQ1.out
  have HIT := hqZ (it_13 pick (tx la) (tx lb) (tx lts) n m l ax ay at1 ae lx.length cx ly.length cy lt.length ct ex.length ce set1 mesh w1 hp)
  go_wp2_with ((with_reducible show wpList _ _ _ (⟨some 60, _, _, _, _, _⟩ :: _) _ _); refine wpList_ldAgg rfl (.tmp 1) aggIn rfl rfl (cs := [.int .i64 pick, .string (tx la), .string (tx lb), .int .i64 n, .int .i64 m, .int .i64 l, .slice ax lx.length cx, .slice ay ly.length cy, .string (tx lts), .slice at1 lt.length ct, .slice ae ex.length ce, .bool set1, .bool mesh]) rfl HQ1.out.cellsAll ?_)
  refine HIT.out.mono ?_
  rintro e w2 ⟨v, rfl, hno, hb2⟩
  have HB2 : Hid (Below w.heap.size w w2) := hqZ (HB1.out.trans (hb2.mono HB1.out.size))
  have q0 : w2.cell? ⟨q, 0, none⟩ = some (.int .i64 pick) := (HQ1.out.below hb2 HQ1.out.lt).cell 0
  have HWR := hqZ (msgWrite_none v w2 hno)
  have HQ2 := hqZ (HQ1.out.below hb2 HQ1.out.lt)
  clear hb2 hno HIT
  go_wp2_with fail
  refine HWR.out.mono ?_
  rintro e w3 ⟨v3, rfl, hs3, hb3⟩
  obtain ⟨a3, c3, rfl, _⟩ := hs3.form
  have HB3 : Hid (Below w.heap.size w w3) := hqZ (HB2.out.trans (hb3.mono HB2.out.size))
  have q0 : w3.cell? ⟨q, 0, none⟩ = some (.int .i64 pick) := (HQ2.out.below hb3 HQ2.out.lt).cell 0
  rw [show ([] : List UInt8).length = 0 from rfl]
  clear hb3 hs3 HWR
  go_wp2_with fail
  go_ret
  exact ⟨rfl, HB3.out⟩
set_option maxHeartbeats 16000000 in
set_option maxRecDepth 100000 in
theorem msgW_14 (pick n m l : Int) (la lb lts lx ly lt : List UInt8) (ex : List (List UInt8 × List UInt8)) (ax ay at1 ae : Option Addr) (cx cy ct ce : Nat) (set1 mesh : Bool) (w w1 : World) (q : Nat) (u21 u22 u23 u24 u25 u26 u27 u28 u29 u30 u31 u32 u33 u34 u35 u36 u37 u38 u39 u40 u41 u42 u43 u44 u45 u46 u47 u48 u49 u50 u51 u52 u53 u54 u55 u56 u57 u58 : Value) (H : MwH pick n m l la lb lts lx ly lt ex ax ay at1 ae cx cy ct ce set1 mesh w w1 q) (hp : bits .and .i64 pick 15 = 14) : Code.wp Try.prog mwRest (bodyPost Try.prog Try.f4 (fun e w' => e = .returned (.bool true) ∧ Below w.heap.size w w')) (mwFrame pick n m l la lb lts lx ly lt ex ax ay at1 ae cx cy ct ce set1 mesh q u21 u22 u23 u24 u25 u26 u27 u28 u29 u30 u31 u32 u33 u34 u35 u36 u37 u38 u39 u40 u41 u42 u43 u44 u45 u46 u47 u48 u49 u50 u51 u52 u53 u54 u55 u56 u57 u58) w1 := by
  obtain ⟨HB1, HQ1, HX1, HT1, HE1, HN, HM, HLL, HMA, HMB, HMS, HMX, HMT, HME, HME2⟩ := H
  unfold mwFrame
  conv => arg 2; whnf
  obtain ⟨q0, q1, q2, q3, q4, q5, q6, q7, q8, q9, q10, q11, q12⟩ := cel13 HQ1.out
  have HIT := hqZ (it_14 pick (tx la) (tx lb) (tx lts) n m l ax ay at1 ae lx.length cx ly.length cy lt.length ct ex.length ce set1 mesh w1 hp)
  go_wp2_with ((with_reducible show wpList _ _ _ (⟨some 60, _, _, _, _, _⟩ :: _) _ _); refine wpList_ldAgg rfl (.tmp 1) aggIn rfl rfl (cs := [.int .i64 pick, .string (tx la), .string (tx lb), .int .i64 n, .int .i64 m, .int .i64 l, .slice ax lx.length cx, .slice ay ly.length cy, .string (tx lts), .slice at1 lt.length ct, .slice ae ex.length ce, .bool set1, .bool mesh]) rfl HQ1.out.cellsAll ?_)
  refine HIT.out.mono ?_
  rintro e w2 ⟨v, rfl, hno, hb2⟩
  have HB2 : Hid (Below w.heap.size w w2) := hqZ (HB1.out.trans (hb2.mono HB1.out.size))
  have q0 : w2.cell? ⟨q, 0, none⟩ = some (.int .i64 pick) := (HQ1.out.below hb2 HQ1.out.lt).cell 0
  have HWR := hqZ (msgWrite_none v w2 hno)
  have HQ2 := hqZ (HQ1.out.below hb2 HQ1.out.lt)
  clear hb2 hno HIT
  go_wp2_with fail
  refine HWR.out.mono ?_
  rintro e w3 ⟨v3, rfl, hs3, hb3⟩
  obtain ⟨a3, c3, rfl, _⟩ := hs3.form
  have HB3 : Hid (Below w.heap.size w w3) := hqZ (HB2.out.trans (hb3.mono HB2.out.size))
  have q0 : w3.cell? ⟨q, 0, none⟩ = some (.int .i64 pick) := (HQ2.out.below hb3 HQ2.out.lt).cell 0
  rw [show ([] : List UInt8).length = 0 from rfl]
  clear hb3 hs3 HWR
  go_wp2_with fail
  go_ret
  exact ⟨rfl, HB3.out⟩
set_option maxHeartbeats 16000000 in
set_option maxRecDepth 100000 in
theorem msgW_15 (pick n m l : Int) (la lb lts lx ly lt : List UInt8) (ex : List (List UInt8 × List UInt8)) (ax ay at1 ae : Option Addr) (cx cy ct ce : Nat) (set1 mesh : Bool) (w w1 : World) (q : Nat) (u21 u22 u23 u24 u25 u26 u27 u28 u29 u30 u31 u32 u33 u34 u35 u36 u37 u38 u39 u40 u41 u42 u43 u44 u45 u46 u47 u48 u49 u50 u51 u52 u53 u54 u55 u56 u57 u58 : Value) (H : MwH pick n m l la lb lts lx ly lt ex ax ay at1 ae cx cy ct ce set1 mesh w w1 q) (hp : bits .and .i64 pick 15 = 15) : Code.wp Try.prog mwRest (bodyPost Try.prog Try.f4 (fun e w' => e = .returned (.bool true) ∧ Below w.heap.size w w')) (mwFrame pick n m l la lb lts lx ly lt ex ax ay at1 ae cx cy ct ce set1 mesh q u21 u22 u23 u24 u25 u26 u27 u28 u29 u30 u31 u32 u33 u34 u35 u36 u37 u38 u39 u40 u41 u42 u43 u44 u45 u46 u47 u48 u49 u50 u51 u52 u53 u54 u55 u56 u57 u58) w1 := by
  obtain ⟨HB1, HQ1, HX1, HT1, HE1, HN, HM, HLL, HMA, HMB, HMS, HMX, HMT, HME, HME2⟩ := H
  unfold mwFrame
  conv => arg 2; whnf
  obtain ⟨q0, q1, q2, q3, q4, q5, q6, q7, q8, q9, q10, q11, q12⟩ := cel13 HQ1.out
  have HIT := hqZ (it_15 pick (tx la) (tx lb) (tx lts) n m l ax ay at1 ae lx.length cx ly.length cy lt.length ct ex.length ce set1 mesh w1 hp)
  go_wp2_with ((with_reducible show wpList _ _ _ (⟨some 60, _, _, _, _, _⟩ :: _) _ _); refine wpList_ldAgg rfl (.tmp 1) aggIn rfl rfl (cs := [.int .i64 pick, .string (tx la), .string (tx lb), .int .i64 n, .int .i64 m, .int .i64 l, .slice ax lx.length cx, .slice ay ly.length cy, .string (tx lts), .slice at1 lt.length ct, .slice ae ex.length ce, .bool set1, .bool mesh]) rfl HQ1.out.cellsAll ?_)
  refine HIT.out.mono ?_
  rintro e w2 ⟨v, rfl, hno, hb2⟩
  have HB2 : Hid (Below w.heap.size w w2) := hqZ (HB1.out.trans (hb2.mono HB1.out.size))
  have q0 : w2.cell? ⟨q, 0, none⟩ = some (.int .i64 pick) := (HQ1.out.below hb2 HQ1.out.lt).cell 0
  have HWR := hqZ (msgWrite_none v w2 hno)
  have HQ2 := hqZ (HQ1.out.below hb2 HQ1.out.lt)
  clear hb2 hno HIT
  go_wp2_with fail
  refine HWR.out.mono ?_
  rintro e w3 ⟨v3, rfl, hs3, hb3⟩
  obtain ⟨a3, c3, rfl, _⟩ := hs3.form
  have HB3 : Hid (Below w.heap.size w w3) := hqZ (HB2.out.trans (hb3.mono HB2.out.size))
  have q0 : w3.cell? ⟨q, 0, none⟩ = some (.int .i64 pick) := (HQ2.out.below hb3 HQ2.out.lt).cell 0
  rw [show ([] : List UInt8).length = 0 from rfl]
  clear hb3 hs3 HWR
  go_wp2_with fail
  go_ret
  exact ⟨rfl, HB3.out⟩
end Go.Proofs.Ytpjkidcfidmfaaa
