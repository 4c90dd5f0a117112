/- Texts of this proof, one behind the other: MTks, MMsg, MVCx, MPure, DerCount, MPure2, Runes, Ref09, Ref09b, Ref09c, MRef1. -/
import Derived.Test.YtpjkidcfidmfaaaMgA6
import Derived.Laws.Cover4
import Derived.Lib.MapLaws
import Derived.Lib.TrimUEq
import Derived.Lib.QuoteLoop
import Derived.Stop.FmtQuoteTie
/- Contract of msg.tickets: tickets as a list's value. -/
namespace Go.Proofs.Ytpjkidcfidmfaaa
set_option linter.unusedSimpArgs false
set_option linter.unusedVariables false
open Go.RowKit
def rT (t : List UInt8 × List UInt8) : Bool := rightB (tx t.1)
def tksTv (l : List (List UInt8 × List UInt8)) : Tv := .mk 2 0 0 [] ((l.takeWhile rT).map tkTv)
def tksB (l : List (List UInt8 × List UInt8)) : Bool := l.all rT && decide (l.length ≤ 1)
theorem takeWhile_take {α : Type} (p : α → Bool) : ∀ (l : List α) (j : Nat), (l.take j).all p = true → (∀ h : j < l.length, p l[j] = false) → l.takeWhile p = l.take j
  | [], j, _, _ => by simp
  | x :: l, 0, _, h => by
    rw [List.takeWhile_cons, List.take_zero]
    have := h (by simp)
    simp only [List.getElem_cons_zero] at this
    rw [this]
    rfl
  | x :: l, j + 1, ha, h => by
    rw [List.take_succ_cons, List.all_cons, Bool.and_eq_true] at ha
    rw [List.takeWhile_cons, if_pos ha.1, List.take_succ_cons, takeWhile_take p l j ha.2 (fun hj => by
      have := h (by simpa using hj)
      simpa using this)]
theorem TkRows.at_ {w : World} {F : Nat → Prop} : ∀ {l : List (List UInt8 × List UInt8)} {cs : List Value}, TkRows w F l cs → ∀ (k : Nat) (hk : k < l.length), ∃ bv, (cs.drop (k * 2)).take 2 = [.string (tx l[k].1), bv] ∧ Bs w bv l[k].2
  | [], cs, h, k, hk => by simp at hk
  | t :: l, cs, h, 0, hk => by
    obtain ⟨bv, rs, rfl, h1, h2, h3⟩ := h
    exact ⟨bv, rfl, h1⟩
  | t :: l, cs, h, k + 1, hk => by
    obtain ⟨bv, rs, rfl, h1, h2, h3⟩ := h
    obtain ⟨b2, e, h4⟩ := TkRows.at_ h3 k (by simpa using hk)
    refine ⟨b2, ?_, h4⟩
    rw [show (k + 1) * 2 = k * 2 + 1 + 1 by omega, List.drop_succ_cons, List.drop_succ_cons]
    exact e
structure TkL (w : World) (q z : Nat) (l : List (List UInt8 × List UInt8)) (wr : World) (j : Nat) (lv : Value) (rows : List Value) (G : Nat → Prop) : Prop where
  hq : Blk wr q zs5 38
  hz : Blk wr z [.int .i64 2, .int .i64 0, .int .u64 0, .slice none 0 0, lv] 38
  qz : q < z
  own : Own wr (z + 1) 38 5 lv j rows
  tvs : TvsF wr G ((l.take j).map tkTv) rows
  g : ∀ x, G x → z + 1 ≤ x ∧ x < wr.heap.size ∧ lv.ownBlock ≠ some x
  v : ∀ x, lv.ownBlock = some x → z + 1 ≤ x ∧ x < wr.heap.size
  below : Below q w wr
  size : z + 1 ≤ wr.heap.size
  all : (l.take j).all rT = true
/-- The result is at hand: out's cells. -/
theorem TkL.tv {w wr : World} {q z : Nat} {l : List (List UInt8 × List UInt8)} {j : Nat} {lv : Value} {rows : List Value} {G : Nat → Prop} (h : TkL w q z l wr j lv rows G) (hs : ∀ h : j < l.length, rT l[j] = false) (hj : j ≤ l.length) :
    TvF wr (fun b => q < b) (tksTv l) [.int .i64 2, .int .i64 0, .int .u64 0, .slice none 0 0, lv] := by
  have hz := h.qz
  unfold tksTv
  rw [takeWhile_take rT l j h.all hs]
  refine TvF.mk (Sl.nil _ _ _) (by simp [Value.ownBlock]) ?_ (fun y hy => by have := h.v y hy; omega) (h.tvs.mono (fun b hb => by have := h.g b hb; omega))
  have := h.own.sl
  rw [show ((l.take j).map tkTv).length = j by rw [List.length_map, List.length_take]; omega]
  exact this
set_option maxHeartbeats 8000000 in
set_option maxRecDepth 100000 in
theorem tickets_any (l : List (List UInt8 × List UInt8)) (F0 : Nat → Prop) (v : Value) (w : World) (h : TksV w F0 l v) (hl : ∀ t ∈ l, t.1.length ≤ 1099511627776 ∧ t.2.length ≤ 1099511627776) (hn : l.length ≤ 1954687338211) :
    Calls Try.prog 31 #[v] w (VlRes w (tksTv l) (tksB l)) := by
  obtain ⟨rows0, hs, hr⟩ := h
  obtain ⟨a0, c0, rfl, hc0, hm0⟩ := hs.form
  unfold maxLen at hm0
  have HS := Lib.hid hs
  have HR := Lib.hid hr
  have HL := Lib.hid hl
  obtain ⟨q, hq⟩ : ∃ q, q = w.heap.size := ⟨_, rfl⟩
  have hqw : w.heap.size ≤ q := by omega
  have hq0 : Blk (w.alloc (.cells zs5.toArray 38)) q zs5 38 := by rw [hq]; exact Blk.new _ _ _
  have hb0 : Below w.heap.size w (w.alloc (.cells zs5.toArray 38)) := (Below.refl _ _).alloc (Nat.le_refl _) _
  have hz0 : (w.alloc (.cells zs5.toArray 38)).heap.size = q + 1 := by rw [hq]; simp
  have HQ0 := Lib.hid hq0
  have HB0 := Lib.hid hb0
  have HZ0 := Lib.hid hz0
  have HSEQ := Lib.hid (derSeq_any 0 (.slice none 0 0) 0 0 none rfl (w.alloc (.cells zs5.toArray 38)))
  have HQQ := Lib.hid hq
  clear hs hr hl hq0 hb0 hz0
  go_enter Try.func31, Try.ntmps31
  clear hq
  go_wp2_with fail
  refine HSEQ.out.mono ?_
  rintro e w1 ⟨rfl, hb⟩
  obtain ⟨z, hz⟩ : ∃ z, z = w1.heap.size := ⟨_, rfl⟩
  have hz1 := hb.size
  rw [HZ0.out] at hz1
  have hpl : TkL w q z l (w1.alloc (.cells #[.int .i64 2, .int .i64 0, .int .u64 0, .slice none 0 0, .slice none 0 0] 38)) 0 (.slice none 0 0) [] (fun _ => False) := by
    refine ⟨(HQ0.out.below hb (by rw [HZ0.out]; omega)).alloc _, by rw [hz]; exact Blk.at_ rfl, by omega, Own.nil _ _ _ _ _, rfl, fun _ h => h.elim, by simp [Value.ownBlock], ?_, by simp [hz], rfl⟩
    rw [HQQ.out]
    exact (HB0.out.trans (hb.mono (by simp))).alloc (by omega) _
  have HPL := Lib.hid hpl
  clear hb HSEQ hpl hz1 HB0 HQ0 HZ0
  go_upto_region 2 with fail
  generalize hW0 : w1.alloc (.cells #[.int .i64 2, .int .i64 0, .int .u64 0, .slice none 0 0, .slice none 0 0] 38) = W0 at *
  rw [← hz, ← HQQ.out]
  clear hW0 hz
  go_wp2_with fail
  go_loopw [12] (fun i wr => ∃ (j : Nat) (lv : Value) (rows : List Value) (G : Nat → Prop), j ≤ l.length ∧ i = .int .i64 j ∧ TkL w q z l wr j lv rows G) (fun i _ => l.length - (intOf i).toNat)
  case atStart => exact ⟨0, _, _, _, Nat.zero_le _, rfl, HPL.out⟩
  case round =>
    obtain ⟨j, lv, rows, G, hj, rfl, hp⟩ := hrel
    have HP := Lib.hid hp
    have hszr := hp.size
    have hqz := hp.qz
    clear HPL
    have hlf : ∃ a c, lv = .slice a j c := by obtain ⟨a, c, e, _⟩ := hp.own.sl.form; exact ⟨a, c, e⟩
    obtain ⟨la, lc, rfl⟩ := hlf
    by_cases hlt : j < l.length
    · obtain ⟨bl, ol, rfl, hcell⟩ := HS.out.addr (by rw [HS.out.1]; omega)
      obtain ⟨bv, hbe, hbv⟩ := HR.out.at_ j hlt
      have hbw : Below w.heap.size w wr := HP.out.below.mono hqw
      have hcr : CellsAt wr bl (ol + j * 2) [.string (tx l[j].1), bv] := fun i u hi => below_cell hbw (by
        rw [← hbe, List.getElem?_take] at hi
        split at hi
        · rw [List.getElem?_drop] at hi
          rw [Nat.add_assoc]
          exact hcell _ u hi
        · simp at hi)
      obtain ⟨ab, cb, rfl, hcb, hmb⟩ := hbv.form
      have hji : (j : Int) < l.length := by omega
      have HCR := Lib.hid hcr
      have HBV := Lib.hid (hbv.below hbw)
      have HLJ := Lib.hid (HL.out l[j] (List.getElem_mem hlt))
      have HSN : Hid (∀ (w0 : World) (Gx : Nat → Prop) (rs : List Value) (cs2 : List Value), TvsF w0 Gx ((l.take j).map tkTv) rs → TvF w0 Gx (tkTv l[j]) cs2 → TvsF w0 Gx ((l.take (j + 1)).map tkTv) (rs ++ cs2)) := Lib.hid (fun w0 Gx rs cs2 h1 h2 => by
        rw [List.take_succ_eq_append_getElem hlt, List.map_append]
        exact h1.snoc h2)
      have HAL : Hid (rT l[j] = true → (l.take (j + 1)).all rT = true) := Lib.hid (fun h => by
        rw [List.take_succ_eq_append_getElem hlt, List.all_append, HP.out.all]
        simp [h])
      have HNO : Hid (rT l[j] = false → (∀ h : j < l.length, rT l[j] = false) ∧ tksB l = false) := Lib.hid (fun h => ⟨fun _ => h, by
        unfold tksB
        rw [show l.all rT = false from List.all_eq_false.2 ⟨l[j], List.getElem_mem hlt, by rw [h]; simp⟩]
        rfl⟩)
      clear hcell hbe hbv hbw hcr hp
      generalize hgt : l[j] = t at *
      obtain ⟨t1, t2⟩ := t
      simp only at *
      have HG6 := Lib.hid (Blk.new wr [.string (tx t1), .slice ab t2.length cb] 48)
      have HTV := Lib.hid (tickValue_any (t1, t2) (.slice ab t2.length cb) (wr.alloc (.cells [.string (tx t1), .slice ab t2.length cb].toArray 48)) (HBV.out.alloc _) HLJ.out.1 HLJ.out.2)
      clear hgt
      go_wp2_with (first | ((with_reducible show wpList _ _ _ (⟨some 15, _, _, _, _, _⟩ :: _) _ _); refine wpList_ldAgg rfl (.tmp 14) aggTicket rfl rfl (cs := [.string (tx t1), .slice ab t2.length cb]) rfl HCR.out ?_) | ((with_reducible show wpList _ _ _ (⟨some 17, _, _, _, _, _⟩ :: _) _ _); refine wpList_ldAgg rfl (.tmp 6) aggTicket rfl rfl (cs := [.string (tx t1), .slice ab t2.length cb]) rfl HG6.out.cellsAll ?_))
      refine HTV.out.mono ?_
      rintro e w2 ⟨cs2, rfl, htv, hb2⟩
      have hz2 := hb2.size
      simp at hz2
      have hbr : Below wr.heap.size wr w2 := (((Below.refl _ _).alloc (Nat.le_refl _) _).trans (hb2.mono (by simp)))
      have HBR := Lib.hid hbr
      have HCL := Lib.hid htv.length
      have HC1 := Lib.hid htv.one
      have HTT := Lib.hid htv
      have HN7 := Lib.hid (Blk.new w2 zs5 38)
      have hrt : rightB (tx (t1, t2).1) = rT (t1, t2) := rfl
      rw [hrt]
      clear hb2 htv hbr HTV hrt
      go_upto_region 6 with ((with_reducible show wpList _ _ _ (⟨none, .store _ (.tmp 7) (.tmp 20), _, _, _, _⟩ :: _) _ _); refine wpList_stAgg rfl (.tmp 7) (.tmp 20) aggDer rfl rfl (vs := cs2) rfl HCL.out HN7.out (Nat.le_refl _) HC1.out ?_)
      intro w3 h3 k3
      have h3' : Blk w3 w2.heap.size cs2 38 := by
        rw [List.drop_of_length_le (by decide), List.append_nil] at h3
        exact h3
      have hz3 := k3.size
      simp at hz3
      have hb3 : Below w2.heap.size w2 w3 := ((Below.refl _ _).alloc (Nat.le_refl _) _).trans (k3.below (by omega))
      have HB3 : Hid (Below wr.heap.size wr w3) := Lib.hid (HBR.out.trans (hb3.mono (by omega)))
      have H3 := Lib.hid h3'
      have HTT3 := Lib.hid (HTT.out.keep (Keeps.of_below hb3) (fun y _ hl h => by omega))
      have hzq := HP.out.hz.below HB3.out (by omega)
      have z4 : w3.cell? ⟨z, 4, none⟩ = some (.slice la j lc) := by rw [hzq.cell]; rfl
      have HZ3 := Lib.hid hzq
      clear h3 k3 h3' hb3 HTT hzq HN7 HBR
      cases hrt : rT (t1, t2) with
      | false =>
        have HRT := Lib.hid hrt
        clear hrt
        have hq3 := HP.out.hq.below HB3.out (by omega)
        have HQ3 := Lib.hid hq3
        clear hq3
        go_wp2_with (first | ((with_reducible show wpList _ _ _ (⟨some 24, _, _, _, _, _⟩ :: _) _ _); refine wpList_ldAgg rfl (.tmp 4) aggDer rfl rfl (cs := [.int .i64 2, .int .i64 0, .int .u64 0, .slice none 0 0, .slice la j lc]) rfl HZ3.out.cellsAll ?_) | ((with_reducible show wpList _ _ _ (⟨none, .store _ (.tmp 2) (.tmp 24), _, _, _, _⟩ :: _) _ _); refine wpList_stAgg rfl (.tmp 2) (.tmp 24) aggDer rfl rfl (vs := [.int .i64 2, .int .i64 0, .int .u64 0, .slice none 0 0, .slice la j lc]) rfl rfl HQ3.out (Nat.le_refl _) (by intro u hu; simp at hu; rcases hu with rfl | rfl | rfl | rfl | rfl <;> rfl) ?_))
        intro w4 h4 k4
        have H4 : Hid (Blk w4 q [.int .i64 2, .int .i64 0, .int .u64 0, .slice none 0 0, .slice la j lc] 38) := Lib.hid (by simpa [zs5] using h4)
        have HK4 := Lib.hid k4
        clear h4 k4
        go_wp2_with fail
        refine bodyPost_ret (results_agg_tmp rfl aggDer rfl (cs := [.int .i64 2, .int .i64 0, .int .u64 0, .slice none 0 0, .slice la j lc]) rfl H4.out.cellsAll) rfl ⟨[.int .i64 2, .int .i64 0, .int .u64 0, .slice none 0 0, .slice la j lc], ?_, ?_, ?_⟩
        · rw [(HNO.out HRT.out).2]; rfl
        · exact (((HP.out.tv (HNO.out HRT.out).1 hj).below HB3.out).keep HK4.out (fun b hb _ e => by omega)).mono (fun b hb => by omega)
        · exact (HP.out.below.trans (HB3.out.mono (by omega)) |>.trans (HK4.out.below (by omega))).mono hqw
      | true =>
        have HRT := Lib.hid hrt
        clear hrt
        have HO3 := Lib.hid (HP.out.own.below HB3.out)
        go_wp2_with (first | ((with_reducible show wpList _ _ _ (⟨some 27, _, _, _, _, _⟩ :: _) _ _); refine wpList_ldAgg rfl (.tmp 7) aggDer rfl rfl (cs := cs2) HCL.out H3.out.cellsAll ?_) | ((with_reducible show wpList _ _ _ (⟨some 28, _, _, _, _, _⟩ :: _) _ _); refine wpList_bs1 rfl (.tmp 27) elDer rfl rfl (by have := HCL.out; simpa using this) (by decide) ?_) | ((with_reducible show wpList _ _ _ (⟨some 29, _, _, _, _, _⟩ :: _) _ _); refine wpList_app2 rfl (.tmp 26) (.tmp 28) elDer rfl (z + 1) (HO3.out.alloc _) (fun b hb => by have := (HP.out.v b hb).2; simp; omega) (Sl.lit (n := 1) rfl (by simpa using HCL.out) HC1.out (by unfold maxLen; decide)) (by unfold maxLen; omega) (by omega) (by simp; omega) ?_))
        intro v7 w7 ho7 hk7 hv7
        have hz7 := hk7.size
        simp at hz7
        obtain ⟨a7, c7, hv7f, _⟩ := ho7.sl.form
        subst hv7f
        have k37 : Keeps (fun b => (Value.slice la j lc).ownBlock = some b ∨ w3.heap.size ≤ b) w3 w7 := by
          refine ((Keeps.refl _ _).alloc _ (.inr (Nat.le_refl _))).trans (hk7.mono (fun b hb => ?_))
          rcases hb with hb | hb
          · exact .inl hb.1
          · exact .inr (by omega)
        have ka : Keeps (fun b => (Value.slice la j lc).ownBlock = some b ∨ wr.heap.size ≤ b) wr w7 := ((Keeps.of_below HB3.out).mono (fun b hb => .inr hb)).trans (k37.mono (fun b hb => by
          rcases hb with hb | hb
          · exact .inl hb
          · exact .inr (by omega)))
        have hvr : ∀ b, b < z + 1 → ¬ ((Value.slice la j lc).ownBlock = some b ∨ wr.heap.size ≤ b) := by
          rintro b hb (h | h)
          · have := (HP.out.v b h).1; omega
          · omega
        have hq7 := HP.out.hq.keep ka (hvr _ (by omega))
        have hz7' := HP.out.hz.keep ka (hvr _ (by omega))
        have z7 : w7.cell? ⟨z, 4, none⟩ = some (.slice la j lc) := by rw [hz7'.cell]; rfl
        have zf7 := hz7'.frozen 4
        have hb7 : Below q w w7 := HP.out.below.trans (ka.below (by
          rintro b (h | h)
          · have := (HP.out.v b h).1; omega
          · omega))
        have htvs7 : TvsF w7 (fun y => G y ∨ (wr.heap.size ≤ y ∧ y < w3.heap.size)) ((l.take (j + 1)).map tkTv) (rows ++ cs2) := by
          refine HSN.out w7 _ _ _ ((HP.out.tvs.keep ka (fun y hy hl h => ?_)).mono (fun y hy => .inl hy)) ?_
          · have hg := HP.out.g y hy
            rcases h with h | h
            · exact hg.2.2 h
            · omega
          · refine (((TvF.tight _ _ HTT3.out)).keep k37 (fun y hy hl h => ?_)).mono (fun y hy => ?_)
            · have hy1 := hy.1
              simp at hy1
              rcases h with h | h
              · have := (HP.out.v y h).2; omega
              · omega
            · have hy1 := hy.1
              simp at hy1
              exact .inr ⟨by omega, hy.2⟩
        have hv8 : ∀ b, (Value.slice a7 (j + 1) c7).ownBlock = some b → z + 1 ≤ b ∧ b < w7.heap.size := fun b hb => by
          refine ⟨?_, (hv7 b hb).2⟩
          rcases (hv7 b hb).1 with h | h
          · exact (HP.out.v b h).1
          · omega
        have HPn : Hid (TkL w q z l (w7.setCell ⟨z, 4, none⟩ (.slice a7 (j + 1) c7)) (j + 1) (.slice a7 (j + 1) c7) (rows ++ cs2) (fun y => G y ∨ (wr.heap.size ≤ y ∧ y < w3.heap.size))) := Lib.hid (by
          have ks : Keeps (fun b => b = z) w7 (w7.setCell ⟨z, 4, none⟩ (.slice a7 (j + 1) c7)) := Keeps.one _ _ _ _
          have hsz : (w7.setCell ⟨z, 4, none⟩ (.slice a7 (j + 1) c7)).heap.size = w7.heap.size := by simp [World.setCell]
          refine ⟨hq7.keep ks (by omega), hz7'.set 4 _, hqz, ho7.keep ks (fun b hb e => by have := (hv8 b hb).1; omega), htvs7.keep ks (fun y hy _ e => ?_), fun y hy => ?_, by rw [hsz]; exact hv8, hb7.trans (ks.below (by omega)), by rw [hsz]; omega, HAL.out HRT.out⟩
          · rcases hy with hy | hy
            · have := HP.out.g y hy; omega
            · omega
          · rw [hsz]
            rcases hy with hy | hy
            · have hg := HP.out.g y hy
              refine ⟨hg.1, by omega, fun e => ?_⟩
              rcases (hv7 y e).1 with h | h
              · exact hg.2.2 h
              · omega
            · refine ⟨by omega, by omega, fun e => ?_⟩
              rcases (hv7 y e).1 with h | h
              · have := (HP.out.v y h).2; omega
              · omega)
        clear ho7 hk7 hv7 k37 ka hvr hq7 hz7' hb7 htvs7 hv8 HB3 HO3 HTT3 HCL HC1 z4 HSN HAL HNO
        go_wp2_with fail
        go_roundw
        case rel => exact ⟨j + 1, _, _, _, by omega, by go_num, HPn.out⟩
        case measure => simp [intOf]; omega
    · obtain rfl : j = l.length := by omega
      have HA : Hid (tksB l = decide (l.length ≤ 1)) := Lib.hid (by
        have h := HP.out.all
        rw [List.take_length] at h
        unfold tksB
        rw [h, Bool.true_and])
      have HQ3 := Lib.hid HP.out.hq
      have HZ3 := Lib.hid HP.out.hz
      have HTV := Lib.hid (HP.out.tv (fun h => by omega) (Nat.le_refl _))
      clear hp
      obtain ⟨bb, hbb⟩ : ∃ bb, bb = decide (l.length ≤ 1) := ⟨_, rfl⟩
      have hb2 : decide ((l.length : Int) ≤ 1) = bb := by rw [hbb]; simp; omega
      have HBB := Lib.hid hbb
      clear hbb
      go_wp2_with (first | ((with_reducible show wpList _ _ _ (⟨some 32, _, _, _, _, _⟩ :: _) _ _); refine wpList_ldAgg rfl (.tmp 4) aggDer rfl rfl (cs := [.int .i64 2, .int .i64 0, .int .u64 0, .slice none 0 0, .slice la l.length lc]) rfl HZ3.out.cellsAll ?_) | ((with_reducible show wpList _ _ _ (⟨none, .store _ (.tmp 2) (.tmp 32), _, _, _, _⟩ :: _) _ _); refine wpList_stAgg rfl (.tmp 2) (.tmp 32) aggDer rfl rfl (vs := [.int .i64 2, .int .i64 0, .int .u64 0, .slice none 0 0, .slice la l.length lc]) rfl rfl HQ3.out (Nat.le_refl _) (by intro u hu; simp at hu; rcases hu with rfl | rfl | rfl | rfl | rfl <;> rfl) ?_))
      intro w4 h4 k4
      have H4 : Hid (Blk w4 q [.int .i64 2, .int .i64 0, .int .u64 0, .slice none 0 0, .slice la l.length lc] 38) := Lib.hid (by simpa [zs5] using h4)
      have HK4 := Lib.hid k4
      clear h4 k4
      go_wp2_with fail
      refine bodyPost_ret (results_agg_tmp rfl aggDer rfl (cs := [.int .i64 2, .int .i64 0, .int .u64 0, .slice none 0 0, .slice la l.length lc]) rfl H4.out.cellsAll) rfl ⟨[.int .i64 2, .int .i64 0, .int .u64 0, .slice none 0 0, .slice la l.length lc], ?_, ?_, ?_⟩
      · rw [HA.out, ← HBB.out]; rfl
      · exact (HTV.out.keep HK4.out (fun b hb _ e => by omega)).mono (fun b hb => by omega)
      · exact (HP.out.below.trans (HK4.out.below (by omega))).mono hqw
end Go.Proofs.Ytpjkidcfidmfaaa
/- Messages in plain Lean and in memory; the taker's steps as steps of 'taken'. -/
namespace Go.Proofs.Ytpjkidcfidmfaaa
set_option linter.unusedSimpArgs false
set_option linter.unusedVariables false
open Go.RowKit
/-- A part of a message: a name, a number, bytes, a truth, a ticket, tickets. -/
inductive Pt where
  | s (l : List UInt8)
  | n (x : Int)
  | b (l : List UInt8)
  | t (x : Bool)
  | i (t : List UInt8 × List UInt8)
  | x (l : List (List UInt8 × List UInt8))
inductive Kd where | s | n | b | t | i | x
abbrev St : Type := List Tv × Bool × Bool
def stepS (k : Kd) (st : St) : Pt × St :=
  match k with
  | .s => (.s (nameS st.1 st.2.1).1, (nameS st.1 st.2.1).2.1, (nameS st.1 st.2.1).2.2, st.2.2)
  | .n => (.n (numS st.1 st.2.1).1, (numS st.1 st.2.1).2.1, (numS st.1 st.2.1).2.2, st.2.2)
  | .b => (.b (bytesS st.1 st.2.1).1, (bytesS st.1 st.2.1).2.1, (bytesS st.1 st.2.1).2.2, st.2.2)
  | .t => (.t (truthS st.1 st.2.1).1, (truthS st.1 st.2.1).2.1, (truthS st.1 st.2.1).2.2, st.2.2)
  | .i => (.i (tickS st.1 st.2.1 st.2.2).1, (tickS st.1 st.2.1 st.2.2).2)
  | .x => (.x (extraS st.1 st.2.1 st.2.2).1, (extraS st.1 st.2.1 st.2.2).2)
def runS : List Kd → St → List Pt × St
  | [], st => ([], st)
  | k :: ks, st => ((stepS k st).1 :: (runS ks (stepS k st).2).1, (runS ks (stepS k st).2).2)
def shapeS (t : Int) : List Kd :=
  if t = 11 then [.s, .n, .n, .b] else if t = 12 then [.s, .i, .b] else if t = 13 then [.s, .n, .n, .t, .t, .i, .b, .x] else if t = 14 then [.s, .i, .b]
  else if t = 15 then [.s, .s, .n] else if t = 16 then [.s, .s, .n, .i] else if t = 17 then [.s, .s, .n, .i, .b] else if t = 18 then [.s, .s, .n, .b]
  else if t = 19 then [.s, .s, .n, .n, .n, .b] else if t = 20 then [.s, .n, .n, .t, .i, .b] else if t = 21 then [.s, .b] else if t = 22 then [.s, .n, .n] else []
def typM (t : Int) : TypeId :=
  if t = 11 then 54 else if t = 12 then 56 else if t = 13 then 59 else if t = 14 then 60
  else if t = 15 then 62 else if t = 16 then 64 else if t = 17 then 66 else if t = 18 then 68
  else if t = 19 then 70 else if t = 20 then 72 else if t = 21 then 74 else 76
/-- The parts of the message that a value is. -/
def ofS (x : Tv) : Option (List Pt) :=
  if x.kind = 2 ∧ (shapeS x.tag).isEmpty = false ∧ (runS (shapeS x.tag) (x.l, false, false)).2.2.2 = false ∧ (runS (shapeS x.tag) (x.l, false, false)).2.2.1 = false ∧ (runS (shapeS x.tag) (x.l, false, false)).2.1.isEmpty = true
  then some (runS (shapeS x.tag) (x.l, false, false)).1 else none
/-- A part's cells. -/
def PtV (w : World) (F : Nat → Prop) : Pt → List Value → Prop
  | .s l, cs => cs = [.string (tx l)]
  | .n x, cs => cs = [.int .i64 x]
  | .b l, cs => ∃ v, cs = [v] ∧ Bs w v l ∧ (0 < l.length → ∀ y, v.ownBlock = some y → F y)
  | .t x, cs => cs = [.bool x]
  | .i t, cs => ∃ bv, cs = [.string (tx t.1), bv] ∧ Bs w bv t.2 ∧ (0 < t.2.length → ∀ y, bv.ownBlock = some y → F y)
  | .x l, cs => ∃ v, cs = [v] ∧ TksV w F l v
def PtsV (w : World) (F : Nat → Prop) : List Pt → List Value → Prop
  | [], cs => cs = []
  | p :: l, cs => ∃ a b, cs = a ++ b ∧ PtV w F p a ∧ PtsV w F l b
def notX : Pt → Bool | .x _ => false | _ => true
theorem PtV.keep {w w' : World} {F S : Nat → Prop} (hk : Keeps S w w') (hs : ∀ b, F b → b < w.heap.size → ¬ S b) : ∀ {p : Pt} {cs : List Value}, notX p = true → PtV w F p cs → PtV w' F p cs
  | .s _, _, _, h => h
  | .n _, _, _, h => h
  | .t _, _, _, h => h
  | .b l, _, _, ⟨v, e, h1, h2⟩ => ⟨v, e, h1.keepF hk h2 hs, h2⟩
  | .i t, _, _, ⟨v, e, h1, h2⟩ => ⟨v, e, h1.keepF hk h2 hs, h2⟩
  | .x _, _, hn, _ => by simp [notX] at hn
theorem PtV.below {w w' : World} {F : Nat → Prop} (hb : Below w.heap.size w w') : ∀ {p : Pt} {cs : List Value}, PtV w F p cs → PtV w' F p cs
  | .s _, _, h => h
  | .n _, _, h => h
  | .t _, _, h => h
  | .b l, _, ⟨v, e, h1, h2⟩ => ⟨v, e, h1.below hb, h2⟩
  | .i t, _, ⟨v, e, h1, h2⟩ => ⟨v, e, h1.below hb, h2⟩
  | .x _, _, ⟨v, e, rows, h1, h2⟩ => ⟨v, e, rows, h1.below hb, h2.below hb⟩
theorem PtsV.keep {w w' : World} {F S : Nat → Prop} (hk : Keeps S w w') (hs : ∀ b, F b → b < w.heap.size → ¬ S b) : ∀ {l : List Pt} {cs : List Value}, l.all notX = true → PtsV w F l cs → PtsV w' F l cs
  | [], _, _, h => h
  | p :: l, _, hn, ⟨a, b, e, h1, h2⟩ => by
    simp only [List.all_cons, Bool.and_eq_true] at hn
    exact ⟨a, b, e, h1.keep hk hs hn.1, PtsV.keep hk hs hn.2 h2⟩
theorem PtsV.below {w w' : World} {F : Nat → Prop} (hb : Below w.heap.size w w') : ∀ {l : List Pt} {cs : List Value}, PtsV w F l cs → PtsV w' F l cs
  | [], _, h => h
  | p :: l, _, ⟨a, b, e, h1, h2⟩ => ⟨a, b, e, h1.below hb, PtsV.below hb h2⟩
theorem PtsV.snoc {w : World} {F : Nat → Prop} : ∀ {l : List Pt} {cs : List Value} {p : Pt} {c : List Value}, PtsV w F l cs → PtV w F p c → PtsV w F (l ++ [p]) (cs ++ c)
  | [], cs, p, c, h, hp => by
    rw [show cs = [] from h]
    exact ⟨c, [], by simp, hp, rfl⟩
  | q :: l, cs, p, c, ⟨a, b, e, h1, h2⟩, hp => by
    subst e
    exact ⟨a, b ++ c, by simp, h1, PtsV.snoc h2 hp⟩
/-- A message in memory: a struct of its type. -/
def MsgV (w : World) (F : Nat → Prop) (t : Int) (l : List Pt) (v : Value) : Prop := ∃ cs, v = .iface (typM t) (.agg cs.toArray) ∧ PtsV w F l cs
theorem MsgV.below {w w' : World} {F : Nat → Prop} {t : Int} {l : List Pt} {v : Value} (h : MsgV w F t l v) (hb : Below w.heap.size w w') : MsgV w' F t l v := by
  obtain ⟨cs, e, h⟩ := h
  exact ⟨cs, e, h.below hb⟩
theorem Tkn.hs {w : World} {F : Nat → Prop} {pm p : Nat} {rem : List Tv} {bad bad2 : Bool} (h : Tkn w F pm p rem bad bad2) : ∀ b, F b → b < w.heap.size → ¬ Sm pm p w.heap.size b := fun b hb hl e => by
  rcases e with e | e | e
  · exact h.2.1.notF (by rw [← e]; exact hb)
  · exact h.2.2.2.1 (by rw [← e]; exact hb)
  · omega
theorem Tkn.drew {w : World} {F : Nat → Prop} {pm p : Nat} {rem : List Tv} {bad bad2 : Bool} (h : Tkn w F pm p rem bad bad2) : Tkn w.drew F pm p rem bad bad2 := h.below (Below.refl _ _).drew
theorem Tkn.ptr {w : World} {F : Nat → Prop} {pm p : Nat} {rem : List Tv} {bad bad2 : Bool} (h : Tkn w F pm p rem bad bad2) : w.cell? ⟨pm, 0, none⟩ = some (.pointer (some ⟨p, 0, none⟩)) := h.1.cell 0
theorem tkRes {w w' : World} {F : Nat → Prop} {pm p : Nat} {rem : List Tv} {bad bad2 : Bool} (h : Tkn w F pm p rem bad bad2) {v : Value} {r : List Tv × Bool} {e : Ending} (k : TkRes w F p v r e w') : TknRes w F pm p (r.1, r.2, bad2) e v w' :=
  ⟨k.1, h.step k.2.1 k.2.2, sm_tk (Nat.le_refl _) k.2.2⟩
theorem nameK_any (rem : List Tv) (bad bad2 : Bool) (pm p : Nat) (F : Nat → Prop) (w : World) (h : Tkn w F pm p rem bad bad2) :
    Calls Try.prog 35 #[.pointer (some ⟨p, 0, none⟩)] w fun e w' => TknRes w F pm p ((nameS rem bad).2.1, (nameS rem bad).2.2, bad2) e (.string (tx (nameS rem bad).1)) w' :=
  (name_any rem bad p F w h.2.1).mono fun _ _ k => tkRes h k
theorem numK_any (rem : List Tv) (bad bad2 : Bool) (pm p : Nat) (F : Nat → Prop) (w : World) (h : Tkn w F pm p rem bad bad2) :
    Calls Try.prog 36 #[.pointer (some ⟨p, 0, none⟩)] w fun e w' => TknRes w F pm p ((numS rem bad).2.1, (numS rem bad).2.2, bad2) e (.int .i64 (numS rem bad).1) w' :=
  (num_any rem bad p F w h.2.1).mono fun _ _ k => tkRes h k
theorem truthK_any (rem : List Tv) (bad bad2 : Bool) (pm p : Nat) (F : Nat → Prop) (w : World) (h : Tkn w F pm p rem bad bad2) :
    Calls Try.prog 39 #[.pointer (some ⟨p, 0, none⟩)] w fun e w' => TknRes w F pm p ((truthS rem bad).2.1, (truthS rem bad).2.2, bad2) e (.bool (truthS rem bad).1) w' :=
  (truth_any rem bad p F w h.2.1).mono fun _ _ k => tkRes h k
theorem bytesK_any (rem : List Tv) (bad bad2 : Bool) (pm p : Nat) (F : Nat → Prop) (w : World) (h : Tkn w F pm p rem bad bad2) :
    Calls Try.prog 37 #[.pointer (some ⟨p, 0, none⟩)] w fun e w' => ∃ v, TknRes w F pm p ((bytesS rem bad).2.1, (bytesS rem bad).2.2, bad2) e v w' ∧ Bs w' v (bytesS rem bad).1 ∧ (0 < (bytesS rem bad).1.length → ∀ y, v.ownBlock = some y → F y) :=
  (bytes_any rem bad p F w h.2.1).mono fun _ _ ⟨v, k, h1, h2⟩ => ⟨v, tkRes h k, h1, h2⟩
theorem nextS_sub {k : Int} {rem : List Tv} {bad : Bool} : ∀ y ∈ (nextS k rem bad).2.1, y ∈ rem := by
  intro y hy
  unfold nextS at hy
  split at hy
  · simp at hy
  · split at hy
    · exact List.mem_cons_of_mem _ hy
    · simp at hy
theorem partS_sub {k : Int} {rem : List Tv} {bad : Bool} : ∀ y ∈ (partS k rem bad).2.1, y ∈ rem := by
  intro y hy
  unfold partS at hy
  split at hy
  · simp at hy
  · split at hy
    · exact List.mem_cons_of_mem _ hy
    · simp at hy
theorem nameS_sub {rem : List Tv} {bad : Bool} : ∀ y ∈ (nameS rem bad).2.1, y ∈ rem := nextS_sub
theorem bytesS_sub {rem : List Tv} {bad : Bool} : ∀ y ∈ (bytesS rem bad).2.1, y ∈ rem := nextS_sub
theorem truthS_sub {rem : List Tv} {bad : Bool} : ∀ y ∈ (truthS rem bad).2.1, y ∈ rem := nextS_sub
theorem numS_sub {rem : List Tv} {bad : Bool} : ∀ y ∈ (numS rem bad).2.1, y ∈ rem := by
  intro y hy
  unfold numS at hy
  split at hy <;> exact nextS_sub y hy
theorem tickS_sub {rem : List Tv} {bad bad2 : Bool} : ∀ y ∈ (tickS rem bad bad2).2.1, y ∈ rem := by
  intro y hy
  unfold tickS at hy
  split at hy <;> exact partS_sub y hy
end Go.Proofs.Ytpjkidcfidmfaaa
/- What a walk of msg.Value holds of the world; the parts of a message, as values. -/
namespace Go.Proofs.Ytpjkidcfidmfaaa
set_option linter.unusedSimpArgs false
set_option linter.unusedVariables false
open Go.RowKit
/-- A number of 64 bits, without a sign. -/
def maxU : Nat := 18446744073709551615
def numU : Int → Nat
  | .ofNat n => n
  | .negSucc n => maxU - n
def ptTv : Pt → Tv
  | .s l => .mk 1 0 0 l []
  | .n x => .mk 0 0 (numU x) [] []
  | .b l => .mk 1 0 0 l []
  | .t b => .mk 0 0 (if b then 1 else 0) [] []
  | .i t => tkTv t
  | .x l => tksTv l
def ptB : Pt → Bool
  | .s l => rightB (tx l)
  | .n x => timeB x
  | .b _ => true
  | .t _ => true
  | .i t => rT t
  | .x l => tksB l
theorem numU_pos (n : Nat) : numU (n : Int) = n := rfl
theorem numU_neg (x : Int) (m : Nat) (h : x < 0) (hm : x + (maxU + 1 : Nat) = m) : numU x = m := by
  cases x with
  | ofNat n => exact absurd h (by simp)
  | negSucc n =>
    show maxU - n = m
    have : maxU = 18446744073709551615 := rfl
    omega
theorem mnumI_any (x : Int) (w : World) (h1 : -9223372036854775808 ≤ x) (h2 : x ≤ 9223372036854775807) : Calls Try.prog 27 #[.int .i64 x] w (MkRes w (.mk 0 0 (numU x) [] [])) := by
  rcases (by omega : x < 0 ∨ 0 ≤ x) with h | h
  · obtain ⟨m, hm⟩ : ∃ m : Nat, x + 18446744073709551616 = m := ⟨_, (Int.toNat_of_nonneg (by omega)).symm⟩
    rw [numU_neg x m h (by unfold maxU; omega)]
    exact mnum_neg x m w h h1 hm
  · obtain ⟨n, rfl⟩ := Int.eq_ofNat_of_zero_le h
    rw [numU_pos]
    exact mnum_any n w (by omega)
theorem exec_ldAgg {P : Program} {o : Oper} {a : Act} {W : World} {ty : TypeId} {m b off : Nat} {x : Operand} {cs : List Value} (ho : o.op = .load ty x) (hT : AggTy P ty m) (hx : a.eval x = .pointer (some ⟨b, off, none⟩)) (hm : cs.length = m) (hc : CellsAt W b off cs) :
    (execOp a.eval o).run P W = .ok (.value (.agg cs.toArray)) W := by
  have h := run_ldAgg hT hm hc
  unfold execOp
  simp only [ho, hx, Instr.loadAt, Instr.sureAddr, Sem.run_bind, Sem.run_pure, Result.andThen_ok, h]
/-- All that is held: the result's block q, other blocks, values made, rows that came in. -/
structure VC (w : World) (q : Nat) (blks : List (Nat × List Value × TypeId)) (trees : List (Tv × List Value)) (rows : List (Value × List UInt8)) (W : World) : Prop where
  below : Below w.heap.size w W
  hq : q = w.heap.size
  lt : q < W.heap.size
  zq : Blk W q zs5 38
  blk : ∀ b ∈ blks, Blk W b.1 b.2.1 b.2.2 ∧ q < b.1
  tree : ∀ t ∈ trees, TvF W (fun b => q < b) t.1 t.2
  row : ∀ r ∈ rows, Bs W r.1 r.2 ∧ (0 < r.2.length → ∀ y, r.1.ownBlock = some y → y < q)
section
variable {w : World} {q : Nat} {blks : List (Nat × List Value × TypeId)} {trees : List (Tv × List Value)} {rows : List (Value × List UInt8)} {W W' : World}
theorem VC.step (h : VC w q blks trees rows W) (hb : Below W.heap.size W W') : VC w q blks trees rows W' :=
  ⟨h.below.trans (hb.mono h.below.size), h.hq, Nat.lt_of_lt_of_le h.lt hb.size, h.zq.below hb h.lt, fun b hm => ⟨(h.blk b hm).1.below hb (h.blk b hm).1.lt, (h.blk b hm).2⟩, fun t hm => (h.tree t hm).below hb, fun r hm => ⟨(h.row r hm).1.below hb, (h.row r hm).2⟩⟩
theorem VC.drew (h : VC w q blks trees rows W) : VC w q blks trees rows W.drew := h.step ((Below.refl _ _).drew)
theorem VC.blkAt (h : VC w q blks trees rows W) (i : Nat) {b : Nat} {cs : List Value} {T : TypeId} (hi : blks[i]? = some (b, cs, T)) : Blk W b cs T := (h.blk _ (List.mem_of_getElem? hi)).1
theorem VC.treeAt (h : VC w q blks trees rows W) (i : Nat) {x : Tv} {cs : List Value} (hi : trees[i]? = some (x, cs)) : TvF W (fun b => q < b) x cs := h.tree _ (List.mem_of_getElem? hi)
theorem VC.rowAt (h : VC w q blks trees rows W) (i : Nat) {v : Value} {l : List UInt8} (hi : rows[i]? = some (v, l)) : Bs W v l := (h.row _ (List.mem_of_getElem? hi)).1
theorem VC.addBlk (h : VC w q blks trees rows W) {b : Nat} {cs : List Value} {T : TypeId} (hb : Blk W b cs T) (hq : q < b) : VC w q (blks ++ [(b, cs, T)]) trees rows W :=
  ⟨h.below, h.hq, h.lt, h.zq, fun x hm => by
    rcases List.mem_append.1 hm with hm | hm
    · exact h.blk x hm
    · rw [List.mem_singleton.1 hm]; exact ⟨hb, hq⟩, h.tree, h.row⟩
theorem VC.addTree (h : VC w q blks trees rows W) {x : Tv} {cs : List Value} (ht : TvF W (fun b => q < b) x cs) : VC w q blks (trees ++ [(x, cs)]) rows W :=
  ⟨h.below, h.hq, h.lt, h.zq, h.blk, fun t hm => by
    rcases List.mem_append.1 hm with hm | hm
    · exact h.tree t hm
    · rw [List.mem_singleton.1 hm]; exact ht, h.row⟩
/-- The start: the result's block, and the message's. -/
theorem VC.start (hr : ∀ r ∈ rows, Bs w r.1 r.2) (cs : List Value) (T : TypeId) : VC w w.heap.size [(w.heap.size + 1, cs, T)] [] rows ((w.alloc (.cells zs5.toArray 38)).alloc (.cells cs.toArray T)) := by
  have h1 : (w.alloc (.cells zs5.toArray 38)).heap.size = w.heap.size + 1 := by simp
  have hb1 : Below w.heap.size w (w.alloc (.cells zs5.toArray 38)) := (Below.refl _ _).alloc (Nat.le_refl _) _
  have hb2 : Below w.heap.size w ((w.alloc (.cells zs5.toArray 38)).alloc (.cells cs.toArray T)) := hb1.alloc (by omega) _
  refine ⟨hb2, rfl, by simp <;> omega, (Blk.new _ _ _).alloc _, fun b hm => ?_, fun t hm => by simp at hm, fun r hm => ⟨(hr r hm).below hb2, fun hn y hy => Sl.own_lt (hr r hm) (by decide) hn y hy⟩⟩
  rw [List.mem_singleton.1 hm]
  exact ⟨by have := Blk.new (w.alloc (.cells zs5.toArray 38)) cs T; rw [h1] at this; exact this, by omega⟩
/-- The same, but for the result's block. -/
structure VR (w : World) (q : Nat) (blks : List (Nat × List Value × TypeId)) (trees : List (Tv × List Value)) (rows : List (Value × List UInt8)) (W : World) : Prop where
  below : Below w.heap.size w W
  lt : q < W.heap.size
  len : LenV q W
  blk : ∀ b ∈ blks, Blk W b.1 b.2.1 b.2.2
  tree : ∀ t ∈ trees, TvF W (fun b => q < b) t.1 t.2
  row : ∀ r ∈ rows, Bs W r.1 r.2
theorem VC.gv (h : VC w q blks trees rows W) {X : Tv} (g : GV (fun b => q < b) q X W W') : VR w q blks trees rows W' := by
  have hz := g.1.size
  have hlt := h.lt
  refine ⟨h.below.trans (g.1.below (by have := h.hq; rintro b (e | e) <;> omega)), by omega, g.2.2 ⟨_, h.zq, rfl⟩, fun b hm => ?_, fun t hm => ?_, fun r hm => ?_⟩
  · have := h.blk b hm
    exact this.1.keep g.1 (by have := this.1.lt; rintro (e | e) <;> omega)
  · exact (h.tree t hm).keep g.1 (GV.not (Nat.lt_irrefl q))
  · have := h.row r hm
    exact this.1.keepF g.1 (F := fun y => y < q) this.2 (fun b hb hl e => by
      have hb : b < q := hb
      rcases e with e | e <;> omega)
theorem VR.blkAt (h : VR w q blks trees rows W) (i : Nat) {b : Nat} {cs : List Value} {T : TypeId} (hi : blks[i]? = some (b, cs, T)) : Blk W b cs T := h.blk _ (List.mem_of_getElem? hi)
theorem VR.treeAt (h : VR w q blks trees rows W) (i : Nat) {x : Tv} {cs : List Value} (hi : trees[i]? = some (x, cs)) : TvF W (fun b => q < b) x cs := h.tree _ (List.mem_of_getElem? hi)
theorem VR.rowAt (h : VR w q blks trees rows W) (i : Nat) {v : Value} {l : List UInt8} (hi : rows[i]? = some (v, l)) : Bs W v l := h.row _ (List.mem_of_getElem? hi)
end
end Go.Proofs.Ytpjkidcfidmfaaa
/- Messages in plain Lean: which values they are, and back. -/
namespace Go.Proofs.Ytpjkidcfidmfaaa
set_option linter.unusedSimpArgs false
set_option linter.unusedVariables false
open Go.RowKit
def isS (x : Tv) : Bool := decide (x.kind = 1 ∧ x.tag = 0) && rightB (tx x.b)
def isB (x : Tv) : Bool := decide (x.kind = 1 ∧ x.tag = 0)
def tkR (x : Tv) : Bool := decide (x.kind = 2 ∧ x.tag = 1) && (match x.l with | [a, b] => isS a && isB b | _ => false)
def fitK (k : Kd) (x : Tv) : Bool :=
  match k with
  | .s => isS x
  | .n => decide (x.kind = 0 ∧ x.tag = 0) && decide (x.n ≤ maxT)
  | .b => isB x
  | .t => decide (x.kind = 0 ∧ x.tag = 0) && decide (x.n ≤ 1)
  | .i => tkR x
  | .x => decide (x.kind = 2 ∧ x.tag = 0) && (decide (x.l.length ≤ 1) && x.l.all tkR)
def fitsK : List Kd → List Tv → Bool
  | [], [] => true
  | k :: ks, x :: l => fitK k x && fitsK ks l
  | _, _ => false
def msgR (x : Tv) : Bool := decide (x.kind = 2) && (!(shapeS x.tag).isEmpty && fitsK (shapeS x.tag) x.l)
def ptOf (k : Kd) (x : Tv) : Pt :=
  match k with
  | .s => .s x.b
  | .n => .n x.n
  | .b => .b x.b
  | .t => .t (x.n == 1)
  | .i => .i (tkOf x)
  | .x => .x (x.l.map tkOf)
def ptsOf : List Kd → List Tv → List Pt
  | k :: ks, x :: l => ptOf k x :: ptsOf ks l
  | _, _ => []
theorem nextS_yes {k : Int} {x : Tv} {r : List Tv} {b : Bool} (h : x.kind = k ∧ x.tag = 0) : nextS k (x :: r) b = (x, r, b) := if_pos h
theorem nextS_no {k : Int} {x : Tv} {r : List Tv} {b : Bool} (h : ¬ (x.kind = k ∧ x.tag = 0)) : nextS k (x :: r) b = (.zero, [], true) := if_neg h
theorem partS_yes {k : Int} {x : Tv} {r : List Tv} {b : Bool} (h : x.kind = 2 ∧ x.tag = k) : partS k (x :: r) b = (x, r, b) := if_pos h
theorem partS_no {k : Int} {x : Tv} {r : List Tv} {b : Bool} (h : ¬ (x.kind = 2 ∧ x.tag = k)) : partS k (x :: r) b = (.zero, [], true) := if_neg h
theorem nextS_bad (k : Int) (rem : List Tv) : (nextS k rem true).2.2 = true := by
  unfold nextS
  cases rem with
  | nil => rfl
  | cons x r =>
    simp only
    split <;> rfl
theorem partS_bad (k : Int) (rem : List Tv) : (partS k rem true).2.2 = true := by
  unfold partS
  cases rem with
  | nil => rfl
  | cons x r =>
    simp only
    split <;> rfl
theorem stepS_bad (k : Kd) (rem : List Tv) (b2 : Bool) : (stepS k (rem, true, b2)).2.2.1 = true := by
  cases k
  · simp only [stepS, nameS]; split <;> first | exact nextS_bad _ _ | rfl
  · simp only [stepS, numS]; split <;> first | exact nextS_bad _ _ | rfl
  · simp only [stepS, bytesS]; exact nextS_bad _ _
  · simp only [stepS, truthS]; split <;> first | exact nextS_bad _ _ | rfl
  · simp only [stepS, tickS]; split <;> exact partS_bad _ _
  · simp only [stepS, extraS]; exact partS_bad _ _
theorem stepS_bad2 (k : Kd) (rem : List Tv) (b : Bool) : (stepS k (rem, b, true)).2.2.2 = true := by
  cases k
  · rfl
  · rfl
  · rfl
  · rfl
  · simp only [stepS, tickS]; split <;> rfl
  · simp only [stepS, extraS]; split
    · split <;> rfl
    · rfl
theorem runS_bad : ∀ (ks : List Kd) (rem : List Tv) (b2 : Bool), (runS ks (rem, true, b2)).2.2.1 = true
  | [], _, _ => rfl
  | k :: ks, rem, b2 => by
    have h := stepS_bad k rem b2
    show (runS ks (stepS k (rem, true, b2)).2).2.2.1 = true
    obtain ⟨r, b, c, e⟩ : ∃ r b c, (stepS k (rem, true, b2)).2 = (r, b, c) := ⟨_, _, _, rfl⟩
    rw [e] at h ⊢
    simp only at h
    subst h
    exact runS_bad ks r c
theorem runS_bad2 : ∀ (ks : List Kd) (rem : List Tv) (b : Bool), (runS ks (rem, b, true)).2.2.2 = true
  | [], _, _ => rfl
  | k :: ks, rem, b => by
    have h := stepS_bad2 k rem b
    show (runS ks (stepS k (rem, b, true)).2).2.2.2 = true
    obtain ⟨r, b', c, e⟩ : ∃ r b' c, (stepS k (rem, b, true)).2 = (r, b', c) := ⟨_, _, _, rfl⟩
    rw [e] at h ⊢
    simp only at h
    subst h
    exact runS_bad2 ks r b'
theorem nameS_yes {x : Tv} {r : List Tv} {b : Bool} (h : x.kind = 1 ∧ x.tag = 0) : nameS (x :: r) b = (x.b, r, if rightB (tx x.b) = true then b else true) := by unfold nameS; rw [nextS_yes h]
theorem nameS_no {x : Tv} {r : List Tv} {b : Bool} (h : ¬ (x.kind = 1 ∧ x.tag = 0)) : (nameS (x :: r) b).2 = ([], true) := by simp [nameS, nextS_no h]
theorem nameS_nil {b : Bool} : (nameS [] b).2 = ([], true) := by
  show (([] : List Tv), if rightB (tx Tv.zero.b) = true then true else true) = ([], true)
  cases rightB (tx Tv.zero.b) <;> rfl
theorem bytesS_yes {x : Tv} {r : List Tv} {b : Bool} (h : x.kind = 1 ∧ x.tag = 0) : bytesS (x :: r) b = (x.b, r, b) := by unfold bytesS; rw [nextS_yes h]
theorem bytesS_no {x : Tv} {r : List Tv} {b : Bool} (h : ¬ (x.kind = 1 ∧ x.tag = 0)) : (bytesS (x :: r) b).2 = ([], true) := by simp [bytesS, nextS_no h]
theorem bytesS_nil {b : Bool} : (bytesS [] b).2 = ([], true) := by simp [bytesS, nextS]
theorem ticketS_eq (x : Tv) : ticketS x = if tkR x = true then (match x.l with | [a, b] => some (a.b, b.b) | _ => none) else none := by
  unfold ticketS tkR
  by_cases h : x.kind = 2 ∧ x.tag = 1
  · rw [show decide (x.kind = 2 ∧ x.tag = 1) = true from decide_eq_true h, Bool.true_and]
    generalize x.l = l
    match l with
    | [] => rw [if_neg (by rw [nameS_nil, bytesS_nil]; simp)]; simp
    | [a] =>
      rw [if_neg ?_]
      · simp
      · by_cases ha : a.kind = 1 ∧ a.tag = 0
        · rw [nameS_yes ha, bytesS_nil]; simp
        · rw [nameS_no ha, bytesS_nil]; simp
    | [a, b] =>
      simp only
      by_cases ha : a.kind = 1 ∧ a.tag = 0
      · by_cases hb : b.kind = 1 ∧ b.tag = 0
        · by_cases hr : rightB (tx a.b) = true
          · rw [nameS_yes ha, if_pos hr, bytesS_yes hb, if_pos ⟨h.1, h.2, rfl, rfl⟩, if_pos (by simp [isS, isB, ha, hb, hr])]
          · rw [nameS_yes ha, if_neg hr, bytesS_yes hb, if_neg (by simp), if_neg (by simp [isS, hr])]
        · rw [nameS_yes ha, bytesS_no hb, if_neg (by simp), if_neg (by simp [isB, hb])]
      · rw [nameS_no ha, bytesS_nil, if_neg (by simp), if_neg (by simp [isS, ha])]
    | a :: b :: c :: l =>
      simp only
      rw [if_neg ?_, if_neg (by simp)]
      by_cases ha : a.kind = 1 ∧ a.tag = 0
      · by_cases hb : b.kind = 1 ∧ b.tag = 0
        · rw [nameS_yes ha, bytesS_yes hb]; simp
        · rw [nameS_yes ha, bytesS_no hb]; simp
      · rw [nameS_no ha, bytesS_nil]; simp
  · rw [if_neg (fun hc => h ⟨hc.1, hc.2.1⟩), decide_eq_false h, Bool.false_and, if_neg (by simp)]
theorem ticketS_isSome (x : Tv) : (ticketS x).isSome = tkR x := by
  rw [ticketS_eq]
  by_cases h : tkR x = true
  · rw [if_pos h, h]
    unfold tkR at h
    match hl : x.l with
    | [a, b] => rfl
    | [] => rw [hl] at h; simp at h
    | [a] => rw [hl] at h; simp at h
    | a :: b :: c :: l => rw [hl] at h; simp at h
  · rw [if_neg h]
    simp at h
    rw [h]; rfl
theorem allT_eq (l : List Tv) : allT l = l.all tkR := by
  unfold allT
  congr 1
  funext x
  exact ticketS_isSome x
/-- A step at a value that fits. -/
theorem stepS_fit {k : Kd} {x : Tv} {r : List Tv} (h : fitK k x = true) : stepS k (x :: r, false, false) = (ptOf k x, r, false, false) := by
  cases k
  · simp only [fitK, isS, Bool.and_eq_true, decide_eq_true_eq] at h
    simp only [stepS, nameS, nextS_yes h.1, h.2, if_true]; rfl
  · simp only [fitK, Bool.and_eq_true, decide_eq_true_eq] at h
    simp only [stepS, numS, nextS_yes h.1]
    rw [if_neg (by omega)]; rfl
  · simp only [fitK, isB, decide_eq_true_eq] at h
    simp only [stepS, bytesS, nextS_yes h]; rfl
  · simp only [fitK, Bool.and_eq_true, decide_eq_true_eq] at h
    simp only [stepS, truthS, nextS_yes h.1]
    rw [if_neg (by omega)]; rfl
  · simp only [fitK] at h
    have h1 : x.kind = 2 ∧ x.tag = 1 := by unfold tkR at h; simp only [Bool.and_eq_true, decide_eq_true_eq] at h; exact h.1
    have hs : (ticketS x).isSome = true := by rw [ticketS_isSome]; exact h
    obtain ⟨t, ht⟩ := Option.isSome_iff_exists.1 hs
    simp only [stepS, tickS, partS_yes h1, ht, ptOf, tkOf]; rfl
  · simp only [fitK, Bool.and_eq_true, decide_eq_true_eq] at h
    simp only [stepS, extraS, partS_yes h.1, allT_eq, h.2.2, if_true]
    rw [if_neg (by omega)]; rfl
theorem stepS_no {k : Kd} {x : Tv} {r : List Tv} (h : fitK k x = false) : (stepS k (x :: r, false, false)).2.2.1 = true ∨ (stepS k (x :: r, false, false)).2.2.2 = true := by
  cases k
  · left
    simp only [fitK, isS] at h
    by_cases hk : x.kind = 1 ∧ x.tag = 0
    · rw [decide_eq_true hk, Bool.true_and] at h
      simp only [stepS, nameS, nextS_yes hk, h]; rfl
    · show (nameS (x :: r) false).2.2 = true; rw [nameS_no hk]
  · left
    simp only [fitK] at h
    by_cases hk : x.kind = 0 ∧ x.tag = 0
    · rw [decide_eq_true hk, Bool.true_and] at h
      simp only [stepS, numS, nextS_yes hk]
      rw [if_pos (by simp at h; omega)]
    · show (numS (x :: r) false).2.2 = true; simp [numS, nextS_no hk]; split <;> rfl
  · left
    simp only [fitK, isB, decide_eq_false_iff_not] at h
    simp only [stepS, bytesS, nextS_no h]
  · left
    simp only [fitK] at h
    by_cases hk : x.kind = 0 ∧ x.tag = 0
    · rw [decide_eq_true hk, Bool.true_and] at h
      simp only [stepS, truthS, nextS_yes hk]
      rw [if_pos (by simp at h; omega)]
    · show (truthS (x :: r) false).2.2 = true; simp [truthS, nextS_no hk]
  · simp only [fitK] at h
    by_cases hk : x.kind = 2 ∧ x.tag = 1
    · right
      have hs : ticketS x = none := by
        have := ticketS_isSome x
        rw [h] at this
        simpa using this
      simp only [stepS, tickS, partS_yes hk, hs]
    · left
      simp only [stepS, tickS, partS_no hk]; split <;> rfl
  · simp only [fitK] at h
    by_cases hk : x.kind = 2 ∧ x.tag = 0
    · right
      rw [decide_eq_true hk, Bool.true_and] at h
      simp only [stepS, extraS, partS_yes hk, allT_eq]
      split
      · rename_i ha
        rw [ha, Bool.and_true] at h
        rw [if_pos (by simp at h; omega)]
      · rfl
    · left
      simp only [stepS, extraS, partS_no hk]
theorem stepS_nil (k : Kd) : (stepS k ([], false, false)).2.2.1 = true := by
  cases k
  · show (nameS [] false).2.2 = true; rw [nameS_nil]
  · show (numS [] false).2.2 = true
    show (if maxT < Tv.zero.n then ((0 : Nat), ([] : List Tv), true) else (Tv.zero.n, [], true)).2.2 = true
    rw [if_neg (by show ¬ maxT < 0; omega)]
  · rfl
  · show (if 1 < Tv.zero.n then true else true) = true
    rw [if_neg (by show ¬ 1 < 0; omega)]
  · show (tickS [] false false).2.2.1 = true; simp only [tickS, partS]; split <;> rfl
  · rfl
theorem runS_fits : ∀ (ks : List Kd) (l : List Tv), fitsK ks l = true → runS ks (l, false, false) = (ptsOf ks l, [], false, false)
  | [], [], _ => rfl
  | [], _ :: _, h => by simp [fitsK] at h
  | _ :: _, [], h => by simp [fitsK] at h
  | k :: ks, x :: l, h => by
    simp only [fitsK, Bool.and_eq_true] at h
    simp only [runS, stepS_fit h.1, runS_fits ks l h.2, ptsOf]
theorem runS_not : ∀ (ks : List Kd) (l : List Tv), fitsK ks l = false → ¬ ((runS ks (l, false, false)).2.2.2 = false ∧ (runS ks (l, false, false)).2.2.1 = false ∧ (runS ks (l, false, false)).2.1.isEmpty = true)
  | [], [], h => by simp [fitsK] at h
  | [], x :: l, _ => by simp [runS]
  | k :: ks, [], _ => by
    intro hc
    have h1 : (runS ks (stepS k ([], false, false)).2).2.2.1 = false := hc.2.1
    obtain ⟨r, b, c, e⟩ : ∃ r b c, (stepS k ([], false, false)).2 = (r, b, c) := ⟨_, _, _, rfl⟩
    have h2 := stepS_nil k
    rw [e] at h1 h2
    simp only at h2
    subst h2
    rw [runS_bad] at h1
    cases h1
  | k :: ks, x :: l, h => by
    intro hc
    simp only [fitsK] at h
    by_cases hf : fitK k x = true
    · rw [hf, Bool.true_and] at h
      simp only [runS, stepS_fit hf] at hc
      exact runS_not ks l h hc
    · simp at hf
      have h1 : (runS ks (stepS k (x :: l, false, false)).2).2.2.1 = false := hc.2.1
      have h0 : (runS ks (stepS k (x :: l, false, false)).2).2.2.2 = false := hc.1
      obtain ⟨r, b, c, e⟩ : ∃ r b c, (stepS k (x :: l, false, false)).2 = (r, b, c) := ⟨_, _, _, rfl⟩
      have h2 := stepS_no (r := l) hf
      rw [e] at h0 h1 h2
      simp only at h2
      rcases h2 with h2 | h2
      · subst h2
        rw [runS_bad] at h1
        cases h1
      · subst h2
        rw [runS_bad2] at h0
        cases h0
theorem ofS_eq (x : Tv) : ofS x = if msgR x = true then some (ptsOf (shapeS x.tag) x.l) else none := by
  unfold ofS msgR
  by_cases hk : x.kind = 2
  · by_cases he : (shapeS x.tag).isEmpty = false
    · by_cases hf : fitsK (shapeS x.tag) x.l = true
      · rw [runS_fits _ _ hf, if_pos ⟨hk, he, rfl, rfl, rfl⟩, if_pos (by simp [hk, he, hf])]
      · simp at hf
        rw [if_neg (fun hc => runS_not _ _ hf ⟨hc.2.2.1, hc.2.2.2.1, hc.2.2.2.2⟩), if_neg (by simp [hf])]
    · rw [if_neg (fun hc => he hc.2.1), if_neg (by simp at he; simp [he])]
  · rw [if_neg (fun hc => hk hc.1), if_neg (by simp [hk])]
end Go.Proofs.Ytpjkidcfidmfaaa
/- Contract: the document's Count: how many values and bytes there are in one, up to a bound. -/
namespace Go.Proofs.Ytpjkidcfidmfaaa
set_option linter.unusedSimpArgs false
set_option linter.unusedVariables false
open Go.RowKit
mutual
/-- No bytes are longer than memory has room for. -/
def Bw : Tv → Prop
  | .mk _ _ _ b l => b.length ≤ 140737488351232 ∧ BsW l
def BsW : List Tv → Prop
  | [] => True
  | x :: l => Bw x ∧ BsW l
end
theorem BsW.mem : ∀ {l : List Tv}, BsW l → ∀ x ∈ l, Bw x
  | [], _, x, hx => by simp at hx
  | y :: l, h, x, hx => by
    rcases List.mem_cons.1 hx with e | hx
    · rw [e]; exact h.1
    · exact h.2.mem x hx
theorem BsW.of : ∀ {l : List Tv}, (∀ x ∈ l, Bw x) → BsW l
  | [], _ => trivial
  | y :: l, h => ⟨h y (by simp), BsW.of (fun x hx => h x (by simp [hx]))⟩
end Go.Proofs.Ytpjkidcfidmfaaa
/- Messages in plain Lean: a value that is a message is its parts' value, and the other way. -/
namespace Go.Proofs.Ytpjkidcfidmfaaa
set_option linter.unusedSimpArgs false
set_option linter.unusedVariables false
open Go.RowKit
def kdOf : Pt → Kd
  | .s _ => .s
  | .n _ => .n
  | .b _ => .b
  | .t _ => .t
  | .i _ => .i
  | .x _ => .x
theorem kd_ptOf (k : Kd) (x : Tv) : kdOf (ptOf k x) = k := by cases k <;> rfl
theorem kd_ptsOf : ∀ (ks : List Kd) (l : List Tv), fitsK ks l = true → (ptsOf ks l).map kdOf = ks
  | [], [], _ => rfl
  | [], _ :: _, h => by simp [fitsK] at h
  | _ :: _, [], h => by simp [fitsK] at h
  | k :: ks, x :: l, h => by
    simp only [fitsK, Bool.and_eq_true] at h
    simp only [ptsOf, List.map_cons, kd_ptOf, kd_ptsOf ks l h.2]
theorem right0 {d : Nat} {k t : Int} {n : Nat} {b : List UInt8} {l : List Tv} (h : rightS (d + 1) (.mk k t n b l) = true) (hk : k = 0) : b = [] ∧ l = [] := by
  subst hk
  simp only [rightS, Bool.and_eq_true, if_true, decide_eq_true_eq] at h
  exact ⟨h.2.1, List.eq_nil_of_length_eq_zero h.2.2⟩
theorem right1 {d : Nat} {k t : Int} {n : Nat} {b : List UInt8} {l : List Tv} (h : rightS (d + 1) (.mk k t n b l) = true) (hk : k = 1) : n = 0 ∧ l = [] := by
  subst hk
  have h : (decide (0 ≤ t) && decide (t ≤ 30) && (decide (n = 0) && decide (l.length = 0))) = true := h
  simp only [Bool.and_eq_true, decide_eq_true_eq] at h
  have h2 := h.2
  exact ⟨h2.1, List.eq_nil_of_length_eq_zero h2.2⟩
theorem right2 {d : Nat} {k t : Int} {n : Nat} {b : List UInt8} {l : List Tv} (h : rightS (d + 1) (.mk k t n b l) = true) (hk : k = 2) : n = 0 ∧ b = [] ∧ l.all (rightS d) = true ∧ 0 ≤ t ∧ t ≤ 30 := by
  subst hk
  have h : (decide (0 ≤ t) && decide (t ≤ 30) && (l.all (rightS d) && decide (n = 0) && decide (b = []))) = true := h
  simp only [Bool.and_eq_true, decide_eq_true_eq] at h
  have h2 := h.2
  exact ⟨h2.1.2, h2.2, h2.1.1, h.1.1, h.1.2⟩
theorem rightS_pos {d : Nat} {x : Tv} (h : rightS d x = true) : ∃ e, d = e + 1 := by
  cases d with
  | zero => simp [rightS] at h
  | succ d => exact ⟨d, rfl⟩
theorem isS_back {d : Nat} {x : Tv} (h : isS x = true) (hr : rightS d x = true) : x = .mk 1 0 0 x.b [] ∧ rightB (tx x.b) = true := by
  obtain ⟨e, rfl⟩ := rightS_pos hr
  obtain ⟨k, t, n, b, l⟩ := x
  have h : (decide (k = 1 ∧ t = 0) && rightB (tx b)) = true := h
  simp only [Bool.and_eq_true, decide_eq_true_eq] at h
  obtain ⟨⟨rfl, rfl⟩, h2⟩ := h
  obtain ⟨rfl, rfl⟩ := right1 hr rfl
  exact ⟨rfl, h2⟩
theorem isB_back {d : Nat} {x : Tv} (h : isB x = true) (hr : rightS d x = true) : x = .mk 1 0 0 x.b [] := by
  obtain ⟨e, rfl⟩ := rightS_pos hr
  obtain ⟨k, t, n, b, l⟩ := x
  have h : k = 1 ∧ t = 0 := of_decide_eq_true h
  obtain ⟨rfl, rfl⟩ := h
  obtain ⟨rfl, rfl⟩ := right1 hr rfl
  rfl
theorem tkR_back {d : Nat} {x : Tv} (h : tkR x = true) (hr : rightS d x = true) : tkTv (tkOf x) = x ∧ rT (tkOf x) = true := by
  have ht := ticketS_eq x
  rw [if_pos h] at ht
  obtain ⟨e, rfl⟩ := rightS_pos hr
  obtain ⟨k, t, n, b, l⟩ := x
  unfold tkR at h
  rw [Bool.and_eq_true] at h
  obtain ⟨hkt, h2⟩ := h
  have hkt : k = 2 ∧ t = 1 := of_decide_eq_true hkt
  obtain ⟨rfl, rfl⟩ := hkt
  simp only [Tv.l] at h2
  obtain ⟨rfl, rfl, hl, _, _⟩ := right2 hr rfl
  match l with
  | [] => simp at h2
  | [a] => simp at h2
  | [a, c] =>
    simp only [Bool.and_eq_true] at h2
    simp only [List.all_cons, List.all_nil, Bool.and_true, Bool.and_eq_true] at hl
    obtain ⟨ha, hra⟩ := isS_back h2.1 hl.1
    have hc := isB_back h2.2 hl.2
    simp only [Tv.l] at ht
    have hto : tkOf (.mk 2 1 0 [] [a, c]) = (a.b, c.b) := by unfold tkOf; rw [ht]; rfl
    rw [hto]
    refine ⟨?_, hra⟩
    show Tv.mk 2 1 0 [] [.mk 1 0 0 a.b [], .mk 1 0 0 c.b []] = _
    rw [← ha, ← hc]
  | a :: b :: c :: l => simp at h2
theorem takeWhile_all {α : Type} (p : α → Bool) : ∀ (l : List α), l.all p = true → l.takeWhile p = l
  | [], _ => rfl
  | x :: l, h => by
    rw [List.all_cons, Bool.and_eq_true] at h
    rw [List.takeWhile_cons, if_pos h.1, takeWhile_all p l h.2]
theorem tkR_backs {d : Nat} : ∀ {l : List Tv}, l.all tkR = true → l.all (rightS d) = true → (l.map tkOf).map tkTv = l ∧ (l.map tkOf).all rT = true
  | [], _, _ => ⟨rfl, rfl⟩
  | x :: l, h, hr => by
    rw [List.all_cons, Bool.and_eq_true] at h hr
    obtain ⟨h1, h2⟩ := tkR_back h.1 hr.1
    obtain ⟨h3, h4⟩ := tkR_backs h.2 hr.2
    exact ⟨by rw [List.map_cons, List.map_cons, h1, h3], by rw [List.map_cons, List.all_cons, h2, h4]; rfl⟩
theorem pt_back {d : Nat} {k : Kd} {x : Tv} (h : fitK k x = true) (hr : rightS d x = true) : ptTv (ptOf k x) = x ∧ ptB (ptOf k x) = true := by
  cases k
  · obtain ⟨h1, h2⟩ := isS_back h hr
    exact ⟨h1.symm, h2⟩
  · obtain ⟨e, rfl⟩ := rightS_pos hr
    obtain ⟨k, t, n, b, l⟩ := x
    have h : (decide (k = 0 ∧ t = 0) && decide (n ≤ maxT)) = true := h
    simp only [Bool.and_eq_true, decide_eq_true_eq] at h
    obtain ⟨⟨rfl, rfl⟩, h2⟩ := h
    obtain ⟨rfl, rfl⟩ := right0 hr rfl
    refine ⟨rfl, ?_⟩
    show timeB (n : Int) = true
    unfold maxT at h2
    simp [timeB]; omega
  · exact ⟨(isB_back h hr).symm, rfl⟩
  · obtain ⟨e, rfl⟩ := rightS_pos hr
    obtain ⟨k, t, n, b, l⟩ := x
    have h : (decide (k = 0 ∧ t = 0) && decide (n ≤ 1)) = true := h
    simp only [Bool.and_eq_true, decide_eq_true_eq] at h
    obtain ⟨⟨rfl, rfl⟩, h2⟩ := h
    obtain ⟨rfl, rfl⟩ := right0 hr rfl
    refine ⟨?_, rfl⟩
    rcases (by omega : n = 0 ∨ n = 1) with rfl | rfl <;> rfl
  · exact tkR_back h hr
  · obtain ⟨e, rfl⟩ := rightS_pos hr
    obtain ⟨k, t, n, b, l⟩ := x
    have h : (decide (k = 2 ∧ t = 0) && (decide (l.length ≤ 1) && l.all tkR)) = true := h
    simp only [Bool.and_eq_true, decide_eq_true_eq] at h
    obtain ⟨⟨rfl, rfl⟩, h2, h3⟩ := h
    obtain ⟨rfl, rfl, hl, _, _⟩ := right2 hr rfl
    obtain ⟨h4, h5⟩ := tkR_backs h3 hl
    refine ⟨?_, ?_⟩
    · show Tv.mk 2 0 0 [] (((l.map tkOf).takeWhile rT).map tkTv) = _
      rw [takeWhile_all _ _ h5, h4]
    · show ((l.map tkOf).all rT && decide ((l.map tkOf).length ≤ 1)) = true
      rw [h5, List.length_map, decide_eq_true h2]; rfl
theorem pts_back {d : Nat} : ∀ {ks : List Kd} {l : List Tv}, fitsK ks l = true → l.all (rightS d) = true → (ptsOf ks l).map ptTv = l ∧ (ptsOf ks l).all ptB = true
  | [], [], _, _ => ⟨rfl, rfl⟩
  | [], _ :: _, h, _ => by simp [fitsK] at h
  | _ :: _, [], h, _ => by simp [fitsK] at h
  | k :: ks, x :: l, h, hr => by
    simp only [fitsK, Bool.and_eq_true] at h
    rw [List.all_cons, Bool.and_eq_true] at hr
    obtain ⟨h1, h2⟩ := pt_back h.1 hr.1
    obtain ⟨h3, h4⟩ := pts_back h.2 hr.2
    exact ⟨by rw [ptsOf, List.map_cons, h1, h3], by rw [ptsOf, List.all_cons, h2, h4]; rfl⟩
def msgTv (t : Int) (pts : List Pt) : Tv := .mk 2 t 0 [] (pts.map ptTv)
/-- What a message's value is read as has that value. -/
theorem msg_back {d : Nat} {x : Tv} (hr : rightS d x = true) (h : msgR x = true) : msgTv x.tag (ptsOf (shapeS x.tag) x.l) = x ∧ (ptsOf (shapeS x.tag) x.l).all ptB = true ∧ (ptsOf (shapeS x.tag) x.l).map kdOf = shapeS x.tag ∧ (shapeS x.tag).isEmpty = false := by
  obtain ⟨e, rfl⟩ := rightS_pos hr
  obtain ⟨k, t, n, b, l⟩ := x
  have h : (decide (k = 2) && (!(shapeS t).isEmpty && fitsK (shapeS t) l)) = true := h
  simp only [Bool.and_eq_true, decide_eq_true_eq, Bool.not_eq_true'] at h
  obtain ⟨rfl, h2, h3⟩ := h
  obtain ⟨rfl, rfl, hl, _, _⟩ := right2 hr rfl
  obtain ⟨h4, h5⟩ := pts_back h3 hl
  exact ⟨by unfold msgTv; rw [Tv.l, Tv.tag, h4], h5, kd_ptsOf _ _ h3, h2⟩
/-! ### The other way -/
theorem timeB_iff (x : Int) : timeB x = true ↔ 0 ≤ x ∧ x ≤ 1099511627776 := by simp [timeB]
theorem shape_tag {t : Int} (h : (shapeS t).isEmpty = false) : 11 ≤ t ∧ t ≤ 22 := by
  unfold shapeS at h
  refine ⟨Decidable.byContradiction fun hn => ?_, Decidable.byContradiction fun hn => ?_⟩
  all_goals
    rw [if_neg (by omega), if_neg (by omega), if_neg (by omega), if_neg (by omega), if_neg (by omega), if_neg (by omega), if_neg (by omega), if_neg (by omega), if_neg (by omega), if_neg (by omega), if_neg (by omega), if_neg (by omega)] at h
    simp at h
end Go.Proofs.Ytpjkidcfidmfaaa
/- Runes and bytes, in plain Lean: what is encoded is decoded as it was. -/
namespace Go.Proofs.Ytpjkidcfidmfaaa
set_option linter.unusedSimpArgs false
set_option linter.unusedVariables false
open Go.RowKit Go.Lib
/-- The runes of a row of bytes. -/
def ruF : Nat → List UInt8 → List Int
  | 0, _ => []
  | f + 1, l => if l = [] then [] else ((decodeL l).1 : Int) :: ruF f (l.drop (decodeL l).2)
def ru (l : List UInt8) : List Int := ruF l.length l
theorem width_posL (l : List UInt8) (h : l ≠ []) : 1 ≤ (decodeL l).2 := by
  have hl : 0 < l.length := List.length_pos_iff.2 h
  exact Lib.decode_width_pos ⟨l.toArray⟩ 0 (by simpa [ByteArray.size] using hl)
theorem ruF_more : ∀ (f f' : Nat) (l : List UInt8), l.length ≤ f → l.length ≤ f' → ruF f l = ruF f' l
  | 0, 0, _, _, _ => rfl
  | 0, f' + 1, l, h, _ => by rw [ruF, ruF, if_pos (List.eq_nil_of_length_eq_zero (by omega))]
  | f + 1, 0, l, _, h => by rw [ruF, ruF, if_pos (List.eq_nil_of_length_eq_zero (by omega))]
  | f + 1, f' + 1, l, h, h' => by
    rw [ruF, ruF]
    split
    · rfl
    · next hne =>
      have := width_posL l hne
      rw [ruF_more f f' _ (by rw [List.length_drop]; omega) (by rw [List.length_drop]; omega)]
theorem ru_nil : ru [] = [] := rfl
theorem ru_step (l : List UInt8) (h : l ≠ []) : ru l = ((decodeL l).1 : Int) :: ru (l.drop (decodeL l).2) := by
  have hl : 0 < l.length := List.length_pos_iff.2 h
  have := width_posL l h
  obtain ⟨f, hf⟩ : ∃ f, l.length = f + 1 := ⟨l.length - 1, by omega⟩
  unfold ru
  rw [hf, ruF, if_neg h, ruF_more f _ _ (by rw [List.length_drop]; omega) (Nat.le_refl _)]
theorem size_toList (s : ByteArray) : s.data.toList.length = s.size := Array.length_toList
theorem rs_ru (s : ByteArray) : ∀ (f p : Nat), s.size ≤ p + f → (rs s p).map Prod.snd = ru (s.data.toList.drop p)
  | 0, p, h => by
    rw [rs_end s p (by omega), List.drop_of_length_le (by rw [size_toList]; omega)]
    rfl
  | f + 1, p, h => by
    by_cases hp : p < s.size
    · have hne : s.data.toList.drop p ≠ [] := by
        intro e
        have := congrArg List.length e
        rw [List.length_drop, size_toList] at this
        simp at this
        omega
      have := Lib.decode_width_pos s p hp
      rw [rs_step s p hp, List.map_cons, rs_ru s f _ (by omega), ru_step _ hne, decodeL_drop, List.drop_drop]
    · rw [rs_end s p hp, List.drop_of_length_le (by rw [size_toList]; omega)]
      rfl
/-- A rune that is well formed. -/
def okR (r : Int) : Prop := (0 ≤ r ∧ r < 55296) ∨ (57344 ≤ r ∧ r ≤ 1114111)
theorem ru_ok (l : List UInt8) : ∀ r ∈ ru l, okR r := by
  suffices ∀ (f : Nat) (l : List UInt8), l.length ≤ f → ∀ r ∈ ru l, okR r from this l.length l (Nat.le_refl _)
  intro f
  induction f with
  | zero =>
    intro l h r hr
    rw [List.eq_nil_of_length_eq_zero (by omega : l.length = 0), ru_nil] at hr
    cases hr
  | succ f ih =>
    intro l h r hr
    by_cases hne : l = []
    · rw [hne, ru_nil] at hr; cases hr
    · have := width_posL l hne
      rw [ru_step l hne] at hr
      rcases List.mem_cons.1 hr with rfl | hr
      · have h := Go.Lib.decodeN_valid l.length (l.getD 0 0).toNat (l.getD 1 0).toNat (l.getD 2 0).toNat (l.getD 3 0).toNat (UInt8.toNat_lt _)
        rw [← decodeL_N] at h
        unfold okR
        omega
      · exact ih _ (by rw [List.length_drop]; omega) r hr
theorem numB_iff (r : Int) : numB r = true ↔ (48 ≤ r ∧ r ≤ 57 ∨ 45 ≤ r ∧ r ≤ 45) := by
  simp only [numB, inB, numL, List.any_cons, List.any_nil, Sp.has, Bool.or_false, Bool.or_eq_true, Bool.and_eq_true, decide_eq_true_eq]
end Go.Proofs.Ytpjkidcfidmfaaa
/- Contracts of the document's names (compeerref09): Rune. -/
namespace Go.Proofs.Ytpjkidcfidmfaaa
set_option linter.unusedSimpArgs false
set_option linter.unusedVariables false
open Go.RowKit Go.Lib
/-- The document's rune: -1, and one byte: none that is well formed. -/
def refR (d : Nat × Nat) : Int × Nat := if d.1 = 65533 ∧ d.2 = 1 then (-1, 1) else (d.1, d.2)
theorem refR_wide (x k : Nat) (h : k ≠ 1) : refR (x, k) = ((x : Int), k) := by
  unfold refR
  rw [if_neg (fun e => h e.2)]
theorem ref_one (n b0 b1 b2 b3 : Nat) (h : b0 < 128) : refR (decodeN n b0 b1 b2 b3) = ((b0 : Int), 1) := by
  unfold decodeN
  rw [if_pos h]
  unfold refR
  rw [if_neg (by simp only; omega)]
theorem ref_bad (n b0 b1 b2 b3 : Nat) (h : 128 ≤ b0) (h' : b0 < 194 ∨ 244 < b0) (h2 : b0 < 256) : refR (decodeN n b0 b1 b2 b3) = (-1, 1) := by
  have : decodeN n b0 b1 b2 b3 = (65533, 1) := by
    unfold decodeN
    repeat' split
    all_goals first | rfl | (exfalso; omega)
  rw [this]
  rfl
theorem ref_two_no (n b0 b1 b2 b3 : Nat) (h : 194 ≤ b0 ∧ b0 ≤ 223) (hb1 : b1 < 256) (hn : n < 2 ∨ b1 < 128 ∨ 191 < b1) : refR (decodeN n b0 b1 b2 b3) = (-1, 1) := by
  have : decodeN n b0 b1 b2 b3 = (65533, 1) := by
    unfold decodeN
    repeat' split
    all_goals first | rfl | (exfalso; omega)
  rw [this]
  rfl
theorem ref_two (n b0 b1 b2 b3 : Nat) (h : 194 ≤ b0 ∧ b0 ≤ 223) (hn : 2 ≤ n) (hb1 : 128 ≤ b1 ∧ b1 ≤ 191) : refR (decodeN n b0 b1 b2 b3) = ((((b0 - 192) * 64 + (b1 - 128) : Nat) : Int), 2) := by
  have : decodeN n b0 b1 b2 b3 = ((b0 - 192) * 64 + (b1 - 128), 2) := by
    unfold decodeN
    rw [if_neg (by omega), if_pos (by omega), if_pos (by omega)]
    exact congrArg (fun y => (y, 2)) (by omega)
  rw [this]
  exact refR_wide _ _ (by decide)
theorem ref_three_no (n b0 b1 b2 b3 : Nat) (h : 224 ≤ b0 ∧ b0 ≤ 239) (hb1 : b1 < 256) (hb2 : b2 < 256) (hn : n < 3 ∨ b1 < 128 ∨ 191 < b1 ∨ b2 < 128 ∨ 191 < b2) : refR (decodeN n b0 b1 b2 b3) = (-1, 1) := by
  have : decodeN n b0 b1 b2 b3 = (65533, 1) := by
    unfold decodeN
    repeat' split
    all_goals first | rfl | (exfalso; omega)
  rw [this]
  rfl
theorem ref_three (n b0 b1 b2 b3 : Nat) (h : 224 ≤ b0 ∧ b0 ≤ 239) (hn : 3 ≤ n) (hb1 : 128 ≤ b1 ∧ b1 ≤ 191) (hb2 : 128 ≤ b2 ∧ b2 ≤ 191) (x : Nat) (hx : x = ((b0 - 224) * 64 + (b1 - 128)) * 64 + (b2 - 128)) :
    refR (decodeN n b0 b1 b2 b3) = if x < 2048 ∨ 1114111 < x ∨ (55296 ≤ x ∧ x ≤ 57343) then (-1, 1) else ((x : Int), 3) := by
  have hv : b0 % 16 * 4096 + b1 % 64 * 64 + b2 % 64 = x := by omega
  unfold decodeN
  rw [if_neg (by omega), if_neg (by omega), if_pos (by omega), hv]
  by_cases hb : x < 2048 ∨ 1114111 < x ∨ (55296 ≤ x ∧ x ≤ 57343)
  · rw [if_pos hb, if_neg (by omega)]; rfl
  · rw [if_neg hb, if_pos (by omega)]; exact refR_wide _ _ (by decide)
theorem ref_four_no (n b0 b1 b2 b3 : Nat) (h : 240 ≤ b0 ∧ b0 ≤ 244) (hb1 : b1 < 256) (hb2 : b2 < 256) (hb3 : b3 < 256) (hn : n < 4 ∨ b1 < 128 ∨ 191 < b1 ∨ b2 < 128 ∨ 191 < b2 ∨ b3 < 128 ∨ 191 < b3) : refR (decodeN n b0 b1 b2 b3) = (-1, 1) := by
  have : decodeN n b0 b1 b2 b3 = (65533, 1) := by
    unfold decodeN
    repeat' split
    all_goals first | rfl | (exfalso; omega)
  rw [this]
  rfl
theorem ref_four (n b0 b1 b2 b3 : Nat) (h : 240 ≤ b0 ∧ b0 ≤ 244) (hn : 4 ≤ n) (hb1 : 128 ≤ b1 ∧ b1 ≤ 191) (hb2 : 128 ≤ b2 ∧ b2 ≤ 191) (hb3 : 128 ≤ b3 ∧ b3 ≤ 191) (x : Nat) (hx : x = (((b0 - 240) * 64 + (b1 - 128)) * 64 + (b2 - 128)) * 64 + (b3 - 128)) :
    refR (decodeN n b0 b1 b2 b3) = if x < 65536 ∨ 1114111 < x ∨ (55296 ≤ x ∧ x ≤ 57343) then (-1, 1) else ((x : Int), 4) := by
  have hv : b0 % 8 * 262144 + b1 % 64 * 4096 + b2 % 64 * 64 + b3 % 64 = x := by omega
  unfold decodeN
  rw [if_neg (by omega), if_neg (by omega), if_neg (by omega), if_pos (by omega), hv]
  by_cases hb : x < 65536 ∨ 1114111 < x ∨ (55296 ≤ x ∧ x ≤ 57343)
  · rw [if_pos hb, if_neg (by omega)]; rfl
  · rw [if_neg hb, if_pos (by omega)]; exact refR_wide _ _ (by decide)
end Go.Proofs.Ytpjkidcfidmfaaa
/- Contracts of the document's names (compeerref09): Rune, walked. (Printed by wip/tools/gen09.py.) -/
namespace Go.Proofs.Ytpjkidcfidmfaaa
set_option linter.unusedSimpArgs false
set_option linter.unusedVariables false
open Go.RowKit Go.Lib
set_option maxHeartbeats 4000000 in
set_option maxRecDepth 100000 in
theorem refRune_any (s : ByteArray) (w : World) (hs : s.size ≤ maxLen) (h0 : 0 < s.size) :
    Calls Try.prog 60 #[.string s] w fun e w' => e = .returned (.tuple #[.int .i64 (refR (Utf8.decode s 0)).1, .int .i64 (refR (Utf8.decode s 0)).2]) ∧ w = w' := by
  unfold maxLen at hs
  have hb : ∀ (k : Nat) (h : k < s.size), (s.get! k).toNat < 256 ∧ wrap64 ((s[k]'h).toNat : Int) = ((s.get! k).toNat : Int) := by
    intro k h
    have h1 := (s.get! k).toNat_lt
    have h2 := get_at s k h
    rw [Nat.add_zero] at h2
    rw [← h2]
    refine ⟨h1, ?_⟩
    rw [wrap64]
    omega
  have hdec : refR (Utf8.decode s 0) = refR (decodeN s.size (s.get! 0).toNat (s.get! 1).toNat (s.get! 2).toNat (s.get! 3).toNat) := by
    rw [decode_at s 0, Nat.sub_zero]
  rw [hdec]
  obtain ⟨hx0, hy0⟩ := hb 0 h0
  have hx1 := (s.get! 1).toNat_lt
  have hx2 := (s.get! 2).toNat_lt
  have hx3 := (s.get! 3).toNat_lt
  have HB := Lib.hid hb
  clear hb hdec
  generalize hb0 : (s.get! 0).toNat = b0 at *
  generalize hb1 : (s.get! 1).toNat = b1 at *
  generalize hb2 : (s.get! 2).toNat = b2 at *
  generalize hb3 : (s.get! 3).toNat = b3 at *
  have HB1 := Lib.hid hb1
  have HB2 := Lib.hid hb2
  have HB3 := Lib.hid hb3
  clear hb0 hb1 hb2 hb3
  have HX1 := Lib.hid hx1
  have HX2 := Lib.hid hx2
  have HX3 := Lib.hid hx3
  clear hx1 hx2 hx3
  obtain ⟨D, hD⟩ : ∃ D, D = refR (decodeN s.size b0 b1 b2 b3) := ⟨_, rfl⟩
  rw [← hD]
  have HD := Lib.hid hD
  clear hD
  go_enter Try.func60, Try.ntmps60
  rcases (by omega : b0 < 128 ∨ (128 ≤ b0 ∧ b0 < 194) ∨ (194 ≤ b0 ∧ b0 ≤ 223) ∨ (224 ≤ b0 ∧ b0 ≤ 239) ∨ (240 ≤ b0 ∧ b0 ≤ 244) ∨ 244 < b0) with k | ⟨k, k'⟩ | ⟨k, k'⟩ | ⟨k, k'⟩ | ⟨k, k'⟩ | k
  · have hD := HD.out.trans (ref_one _ _ _ _ _ k)
    have HD' := Lib.hid hD
    have k1 : (b0 : Int) < 128 := by omega
    clear hD k HD
    go_wp2_with fail
    go_ret2
    rw [HD'.out]
    show Ending.returned (.tuple #[.int .i64 (wrap64 ((s[0]'h0).toNat : Int)), .int .i64 1]) = _ ∧ _
    rw [hy0]
    exact ⟨rfl, rfl⟩
  · have hD := HD.out.trans (ref_bad _ _ _ _ _ (by omega) (by omega) hx0)
    have HD' := Lib.hid hD
    have k1 : ¬ (b0 : Int) < 128 := by omega
    have k2 : ¬ (194 : Int) ≤ (b0 : Int) := by omega
    have k3 : ¬ (224 : Int) ≤ (b0 : Int) := by omega
    have k4 : ¬ (240 : Int) ≤ (b0 : Int) := by omega
    clear hD k k' HD
    go_wp2_with fail
    go_ret2
    rw [HD'.out]
    exact ⟨rfl, rfl⟩
  · have K := Lib.hid (And.intro k k')
    have k1 : ¬ (b0 : Int) < 128 := by omega
    have k2 : (194 : Int) ≤ (b0 : Int) := by omega
    have k3 : (b0 : Int) ≤ 223 := by omega
    obtain ⟨L, hL, hL2⟩ : ∃ L : Nat, L = b0 - 192 ∧ ((b0 : Int) - 192 = (L : Int)) := ⟨_, rfl, by omega⟩
    have hL3 : L < 32 := by omega
    have HL := Lib.hid hL
    clear hL k k'
    by_cases hn : s.size < 2
    · have HD' := Lib.hid (HD.out.trans (ref_two_no _ _ _ _ _ ⟨K.out.1, K.out.2⟩ HX1.out (.inl hn)))
      have hn1 : (s.size : Int) < 2 := by omega
      clear hn HD
      go_wp2_with fail
      go_ret2
      rw [HD'.out]
      exact ⟨rfl, rfl⟩
    · have hn1 : ¬ (s.size : Int) < 2 := by omega
      go_wp2_with fail
      go_loopw [4, 7] (fun av kv wr => ∃ k a : Nat, av = .int .i64 a ∧ kv = .int .i64 k ∧ wr = w ∧ ((k = 1 ∧ a = L) ∨ (k = 2 ∧ 128 ≤ b1 ∧ b1 ≤ 191 ∧ a = (L * 64 + (b1 - 128))))) (fun _ kv _ => 2 - (intOf kv).toNat)
      case atStart => exact ⟨1, L, by go_num, rfl, rfl, .inl ⟨rfl, rfl⟩⟩
      case round =>
        obtain ⟨k, a, rfl, rfl, rfl, hk⟩ := hrel
        rcases hk with ⟨rfl, hak⟩ | ⟨rfl, c1, d1, hak⟩
        · obtain ⟨hw, hy⟩ := HB.out 1 (by omega)
          rw [HB1.out] at hw hy
          have hlt : 1 < s.size := by omega
          have haa : a < 32 := by omega
          have HAK := Lib.hid hak
          clear hak
          rcases (by omega : b1 < 128 ∨ 191 < b1 ∨ (128 ≤ b1 ∧ b1 ≤ 191)) with q | q | ⟨q, q'⟩
          · have HD' := Lib.hid (HD.out.trans (ref_two_no _ _ _ _ _ ⟨K.out.1, K.out.2⟩ HX1.out (.inr (by omega))))
            have q1 : (b1 : Int) < 128 := by omega
            clear q HD
            go_wp2_with fail
            go_ret2
            rw [HD'.out]
            exact ⟨rfl, rfl⟩
          · have HD' := Lib.hid (HD.out.trans (ref_two_no _ _ _ _ _ ⟨K.out.1, K.out.2⟩ HX1.out (.inr (by omega))))
            have q1 : ¬ (b1 : Int) < 128 := by omega
            have q2 : (191 : Int) < (b1 : Int) := by omega
            clear q HD
            go_wp2_with fail
            go_ret2
            rw [HD'.out]
            exact ⟨rfl, rfl⟩
          · have q1 : ¬ (b1 : Int) < 128 := by omega
            have q2 : ¬ (191 : Int) < (b1 : Int) := by omega
            go_wp2_with fail
            go_roundw
            case rel =>
              have hak := HAK.out
              exact ⟨2, a * 64 + (b1 - 128), by go_num, by go_num, by first | rfl | trivial, .inr (⟨by omega, q, q', by omega⟩)⟩
            case measure => simp [intOf]
        · have haa : a < 2048 := by omega
          have hl : a = (b0 - 192) * 64 + (b1 - 128) := by have := HL.out; omega
          have HD' := Lib.hid (HD.out.trans (ref_two _ _ _ _ _ ⟨K.out.1, K.out.2⟩ (by omega) ⟨c1, d1⟩))
          rw [← hl] at HD'
          have g1 : ¬ (a : Int) < 128 := by have := K.out; omega
          have g2 : ¬ (1114111 : Int) < (a : Int) := by omega
          have g3 : ¬ (55296 : Int) ≤ (a : Int) := by omega
          clear hl hak HD c1 d1
          go_wp2_with fail
          go_ret2
          rw [HD'.out]
          exact ⟨rfl, rfl⟩
  · have K := Lib.hid (And.intro k k')
    have k1 : ¬ (b0 : Int) < 128 := by omega
    have k2 : (194 : Int) ≤ (b0 : Int) := by omega
    have k3 : ¬ (b0 : Int) ≤ 223 := by omega
    have k4 : (224 : Int) ≤ (b0 : Int) := by omega
    have k5 : (b0 : Int) ≤ 239 := by omega
    obtain ⟨L, hL, hL2⟩ : ∃ L : Nat, L = b0 - 224 ∧ ((b0 : Int) - 224 = (L : Int)) := ⟨_, rfl, by omega⟩
    have hL3 : L < 32 := by omega
    have HL := Lib.hid hL
    clear hL k k'
    by_cases hn : s.size < 3
    · have HD' := Lib.hid (HD.out.trans (ref_three_no _ _ _ _ _ ⟨K.out.1, K.out.2⟩ HX1.out HX2.out (.inl hn)))
      have hn1 : (s.size : Int) < 3 := by omega
      clear hn HD
      go_wp2_with fail
      go_ret2
      rw [HD'.out]
      exact ⟨rfl, rfl⟩
    · have hn1 : ¬ (s.size : Int) < 3 := by omega
      go_wp2_with fail
      go_loopw [4, 7] (fun av kv wr => ∃ k a : Nat, av = .int .i64 a ∧ kv = .int .i64 k ∧ wr = w ∧ ((k = 1 ∧ a = L) ∨ (k = 2 ∧ 128 ≤ b1 ∧ b1 ≤ 191 ∧ a = (L * 64 + (b1 - 128))) ∨ (k = 3 ∧ 128 ≤ b1 ∧ b1 ≤ 191 ∧ 128 ≤ b2 ∧ b2 ≤ 191 ∧ a = ((L * 64 + (b1 - 128)) * 64 + (b2 - 128))))) (fun _ kv _ => 3 - (intOf kv).toNat)
      case atStart => exact ⟨1, L, by go_num, rfl, rfl, .inl ⟨rfl, rfl⟩⟩
      case round =>
        obtain ⟨k, a, rfl, rfl, rfl, hk⟩ := hrel
        rcases hk with ⟨rfl, hak⟩ | ⟨rfl, c1, d1, hak⟩ | ⟨rfl, c1, d1, c2, d2, hak⟩
        · obtain ⟨hw, hy⟩ := HB.out 1 (by omega)
          rw [HB1.out] at hw hy
          have hlt : 1 < s.size := by omega
          have haa : a < 32 := by omega
          have HAK := Lib.hid hak
          clear hak
          rcases (by omega : b1 < 128 ∨ 191 < b1 ∨ (128 ≤ b1 ∧ b1 ≤ 191)) with q | q | ⟨q, q'⟩
          · have HD' := Lib.hid (HD.out.trans (ref_three_no _ _ _ _ _ ⟨K.out.1, K.out.2⟩ HX1.out HX2.out (.inr (by omega))))
            have q1 : (b1 : Int) < 128 := by omega
            clear q HD
            go_wp2_with fail
            go_ret2
            rw [HD'.out]
            exact ⟨rfl, rfl⟩
          · have HD' := Lib.hid (HD.out.trans (ref_three_no _ _ _ _ _ ⟨K.out.1, K.out.2⟩ HX1.out HX2.out (.inr (by omega))))
            have q1 : ¬ (b1 : Int) < 128 := by omega
            have q2 : (191 : Int) < (b1 : Int) := by omega
            clear q HD
            go_wp2_with fail
            go_ret2
            rw [HD'.out]
            exact ⟨rfl, rfl⟩
          · have q1 : ¬ (b1 : Int) < 128 := by omega
            have q2 : ¬ (191 : Int) < (b1 : Int) := by omega
            go_wp2_with fail
            go_roundw
            case rel =>
              have hak := HAK.out
              exact ⟨2, a * 64 + (b1 - 128), by go_num, by go_num, by first | rfl | trivial, .inr (.inl ⟨by omega, q, q', by omega⟩)⟩
            case measure => simp [intOf]
        · obtain ⟨hw, hy⟩ := HB.out 2 (by omega)
          rw [HB2.out] at hw hy
          have hlt : 2 < s.size := by omega
          have haa : a < 2048 := by omega
          have HAK := Lib.hid hak
          clear hak
          rcases (by omega : b2 < 128 ∨ 191 < b2 ∨ (128 ≤ b2 ∧ b2 ≤ 191)) with q | q | ⟨q, q'⟩
          · have HD' := Lib.hid (HD.out.trans (ref_three_no _ _ _ _ _ ⟨K.out.1, K.out.2⟩ HX1.out HX2.out (.inr (by omega))))
            have q1 : (b2 : Int) < 128 := by omega
            clear q HD
            go_wp2_with fail
            go_ret2
            rw [HD'.out]
            exact ⟨rfl, rfl⟩
          · have HD' := Lib.hid (HD.out.trans (ref_three_no _ _ _ _ _ ⟨K.out.1, K.out.2⟩ HX1.out HX2.out (.inr (by omega))))
            have q1 : ¬ (b2 : Int) < 128 := by omega
            have q2 : (191 : Int) < (b2 : Int) := by omega
            clear q HD
            go_wp2_with fail
            go_ret2
            rw [HD'.out]
            exact ⟨rfl, rfl⟩
          · have q1 : ¬ (b2 : Int) < 128 := by omega
            have q2 : ¬ (191 : Int) < (b2 : Int) := by omega
            go_wp2_with fail
            go_roundw
            case rel =>
              have hak := HAK.out
              exact ⟨3, a * 64 + (b2 - 128), by go_num, by go_num, by first | rfl | trivial, .inr (.inr (⟨by omega, c1, d1, q, q', by omega⟩))⟩
            case measure => simp [intOf]
        · have haa : a < 131072 := by omega
          have hl : a = ((b0 - 224) * 64 + (b1 - 128)) * 64 + (b2 - 128) := by have := HL.out; omega
          have hD' := HD.out.trans (ref_three _ _ _ _ _ ⟨K.out.1, K.out.2⟩ (by omega) ⟨c1, d1⟩ ⟨c2, d2⟩ a hl)
          clear hl hak HD c1 d1 c2 d2
          rcases (by omega : a < 2048 ∨ (2048 ≤ a ∧ 1114111 < a) ∨ (2048 ≤ a ∧ 55296 ≤ a ∧ a ≤ 57343) ∨ (2048 ≤ a ∧ a < 55296) ∨ (2048 ≤ a ∧ 57343 < a ∧ a ≤ 1114111)) with q | ⟨q, q'⟩ | ⟨q, q', q''⟩ | ⟨q, q'⟩ | ⟨q, q', q''⟩
          · rw [if_pos (by omega)] at hD'
            have HD' := Lib.hid hD'
            have g1 : (a : Int) < 2048 := by omega
            clear hD'
            go_wp2_with fail
            go_ret2
            rw [HD'.out]
            exact ⟨rfl, rfl⟩
          · rw [if_pos (by omega)] at hD'
            have HD' := Lib.hid hD'
            have g1 : ¬ (a : Int) < 2048 := by omega
            have g2 : (1114111 : Int) < (a : Int) := by omega
            clear hD'
            go_wp2_with fail
            go_ret2
            rw [HD'.out]
            exact ⟨rfl, rfl⟩
          · rw [if_pos (by omega)] at hD'
            have HD' := Lib.hid hD'
            have g1 : ¬ (a : Int) < 2048 := by omega
            have g2 : ¬ (1114111 : Int) < (a : Int) := by omega
            have g3 : (55296 : Int) ≤ (a : Int) := by omega
            have g4 : (a : Int) ≤ 57343 := by omega
            clear hD'
            go_wp2_with fail
            go_ret2
            rw [HD'.out]
            exact ⟨rfl, rfl⟩
          · rw [if_neg (by omega)] at hD'
            have HD' := Lib.hid hD'
            have g1 : ¬ (a : Int) < 2048 := by omega
            have g2 : ¬ (1114111 : Int) < (a : Int) := by omega
            have g3 : ¬ (55296 : Int) ≤ (a : Int) := by omega
            clear hD'
            go_wp2_with fail
            go_ret2
            rw [HD'.out]
            exact ⟨rfl, rfl⟩
          · rw [if_neg (by omega)] at hD'
            have HD' := Lib.hid hD'
            have g1 : ¬ (a : Int) < 2048 := by omega
            have g2 : ¬ (1114111 : Int) < (a : Int) := by omega
            have g3 : (55296 : Int) ≤ (a : Int) := by omega
            have g4 : ¬ (a : Int) ≤ 57343 := by omega
            clear hD'
            go_wp2_with fail
            go_ret2
            rw [HD'.out]
            exact ⟨rfl, rfl⟩
  · have K := Lib.hid (And.intro k k')
    have k1 : ¬ (b0 : Int) < 128 := by omega
    have k2 : (194 : Int) ≤ (b0 : Int) := by omega
    have k3 : ¬ (b0 : Int) ≤ 223 := by omega
    have k4 : (224 : Int) ≤ (b0 : Int) := by omega
    have k5 : ¬ (b0 : Int) ≤ 239 := by omega
    have k6 : (240 : Int) ≤ (b0 : Int) := by omega
    have k7 : (b0 : Int) ≤ 244 := by omega
    obtain ⟨L, hL, hL2⟩ : ∃ L : Nat, L = b0 - 240 ∧ ((b0 : Int) - 240 = (L : Int)) := ⟨_, rfl, by omega⟩
    have hL3 : L < 32 := by omega
    have HL := Lib.hid hL
    clear hL k k'
    by_cases hn : s.size < 4
    · have HD' := Lib.hid (HD.out.trans (ref_four_no _ _ _ _ _ ⟨K.out.1, K.out.2⟩ HX1.out HX2.out HX3.out (.inl hn)))
      have hn1 : (s.size : Int) < 4 := by omega
      clear hn HD
      go_wp2_with fail
      go_ret2
      rw [HD'.out]
      exact ⟨rfl, rfl⟩
    · have hn1 : ¬ (s.size : Int) < 4 := by omega
      go_wp2_with fail
      go_loopw [4, 7] (fun av kv wr => ∃ k a : Nat, av = .int .i64 a ∧ kv = .int .i64 k ∧ wr = w ∧ ((k = 1 ∧ a = L) ∨ (k = 2 ∧ 128 ≤ b1 ∧ b1 ≤ 191 ∧ a = (L * 64 + (b1 - 128))) ∨ (k = 3 ∧ 128 ≤ b1 ∧ b1 ≤ 191 ∧ 128 ≤ b2 ∧ b2 ≤ 191 ∧ a = ((L * 64 + (b1 - 128)) * 64 + (b2 - 128))) ∨ (k = 4 ∧ 128 ≤ b1 ∧ b1 ≤ 191 ∧ 128 ≤ b2 ∧ b2 ≤ 191 ∧ 128 ≤ b3 ∧ b3 ≤ 191 ∧ a = (((L * 64 + (b1 - 128)) * 64 + (b2 - 128)) * 64 + (b3 - 128))))) (fun _ kv _ => 4 - (intOf kv).toNat)
      case atStart => exact ⟨1, L, by go_num, rfl, rfl, .inl ⟨rfl, rfl⟩⟩
      case round =>
        obtain ⟨k, a, rfl, rfl, rfl, hk⟩ := hrel
        rcases hk with ⟨rfl, hak⟩ | ⟨rfl, c1, d1, hak⟩ | ⟨rfl, c1, d1, c2, d2, hak⟩ | ⟨rfl, c1, d1, c2, d2, c3, d3, hak⟩
        · obtain ⟨hw, hy⟩ := HB.out 1 (by omega)
          rw [HB1.out] at hw hy
          have hlt : 1 < s.size := by omega
          have haa : a < 32 := by omega
          have HAK := Lib.hid hak
          clear hak
          rcases (by omega : b1 < 128 ∨ 191 < b1 ∨ (128 ≤ b1 ∧ b1 ≤ 191)) with q | q | ⟨q, q'⟩
          · have HD' := Lib.hid (HD.out.trans (ref_four_no _ _ _ _ _ ⟨K.out.1, K.out.2⟩ HX1.out HX2.out HX3.out (.inr (by omega))))
            have q1 : (b1 : Int) < 128 := by omega
            clear q HD
            go_wp2_with fail
            go_ret2
            rw [HD'.out]
            exact ⟨rfl, rfl⟩
          · have HD' := Lib.hid (HD.out.trans (ref_four_no _ _ _ _ _ ⟨K.out.1, K.out.2⟩ HX1.out HX2.out HX3.out (.inr (by omega))))
            have q1 : ¬ (b1 : Int) < 128 := by omega
            have q2 : (191 : Int) < (b1 : Int) := by omega
            clear q HD
            go_wp2_with fail
            go_ret2
            rw [HD'.out]
            exact ⟨rfl, rfl⟩
          · have q1 : ¬ (b1 : Int) < 128 := by omega
            have q2 : ¬ (191 : Int) < (b1 : Int) := by omega
            go_wp2_with fail
            go_roundw
            case rel =>
              have hak := HAK.out
              exact ⟨2, a * 64 + (b1 - 128), by go_num, by go_num, by first | rfl | trivial, .inr (.inl ⟨by omega, q, q', by omega⟩)⟩
            case measure => simp [intOf]
        · obtain ⟨hw, hy⟩ := HB.out 2 (by omega)
          rw [HB2.out] at hw hy
          have hlt : 2 < s.size := by omega
          have haa : a < 2048 := by omega
          have HAK := Lib.hid hak
          clear hak
          rcases (by omega : b2 < 128 ∨ 191 < b2 ∨ (128 ≤ b2 ∧ b2 ≤ 191)) with q | q | ⟨q, q'⟩
          · have HD' := Lib.hid (HD.out.trans (ref_four_no _ _ _ _ _ ⟨K.out.1, K.out.2⟩ HX1.out HX2.out HX3.out (.inr (by omega))))
            have q1 : (b2 : Int) < 128 := by omega
            clear q HD
            go_wp2_with fail
            go_ret2
            rw [HD'.out]
            exact ⟨rfl, rfl⟩
          · have HD' := Lib.hid (HD.out.trans (ref_four_no _ _ _ _ _ ⟨K.out.1, K.out.2⟩ HX1.out HX2.out HX3.out (.inr (by omega))))
            have q1 : ¬ (b2 : Int) < 128 := by omega
            have q2 : (191 : Int) < (b2 : Int) := by omega
            clear q HD
            go_wp2_with fail
            go_ret2
            rw [HD'.out]
            exact ⟨rfl, rfl⟩
          · have q1 : ¬ (b2 : Int) < 128 := by omega
            have q2 : ¬ (191 : Int) < (b2 : Int) := by omega
            go_wp2_with fail
            go_roundw
            case rel =>
              have hak := HAK.out
              exact ⟨3, a * 64 + (b2 - 128), by go_num, by go_num, by first | rfl | trivial, .inr (.inr (.inl ⟨by omega, c1, d1, q, q', by omega⟩))⟩
            case measure => simp [intOf]
        · obtain ⟨hw, hy⟩ := HB.out 3 (by omega)
          rw [HB3.out] at hw hy
          have hlt : 3 < s.size := by omega
          have haa : a < 131072 := by omega
          have HAK := Lib.hid hak
          clear hak
          rcases (by omega : b3 < 128 ∨ 191 < b3 ∨ (128 ≤ b3 ∧ b3 ≤ 191)) with q | q | ⟨q, q'⟩
          · have HD' := Lib.hid (HD.out.trans (ref_four_no _ _ _ _ _ ⟨K.out.1, K.out.2⟩ HX1.out HX2.out HX3.out (.inr (by omega))))
            have q1 : (b3 : Int) < 128 := by omega
            clear q HD
            go_wp2_with fail
            go_ret2
            rw [HD'.out]
            exact ⟨rfl, rfl⟩
          · have HD' := Lib.hid (HD.out.trans (ref_four_no _ _ _ _ _ ⟨K.out.1, K.out.2⟩ HX1.out HX2.out HX3.out (.inr (by omega))))
            have q1 : ¬ (b3 : Int) < 128 := by omega
            have q2 : (191 : Int) < (b3 : Int) := by omega
            clear q HD
            go_wp2_with fail
            go_ret2
            rw [HD'.out]
            exact ⟨rfl, rfl⟩
          · have q1 : ¬ (b3 : Int) < 128 := by omega
            have q2 : ¬ (191 : Int) < (b3 : Int) := by omega
            go_wp2_with fail
            go_roundw
            case rel =>
              have hak := HAK.out
              exact ⟨4, a * 64 + (b3 - 128), by go_num, by go_num, by first | rfl | trivial, .inr (.inr (.inr (⟨by omega, c1, d1, c2, d2, q, q', by omega⟩)))⟩
            case measure => simp [intOf]
        · have haa : a < 8388608 := by omega
          have hl : a = (((b0 - 240) * 64 + (b1 - 128)) * 64 + (b2 - 128)) * 64 + (b3 - 128) := by have := HL.out; omega
          have hD' := HD.out.trans (ref_four _ _ _ _ _ ⟨K.out.1, K.out.2⟩ (by omega) ⟨c1, d1⟩ ⟨c2, d2⟩ ⟨c3, d3⟩ a hl)
          clear hl hak HD c1 d1 c2 d2 c3 d3
          rcases (by omega : a < 65536 ∨ (65536 ≤ a ∧ 1114111 < a) ∨ (65536 ≤ a ∧ 55296 ≤ a ∧ a ≤ 57343) ∨ (65536 ≤ a ∧ a < 55296) ∨ (65536 ≤ a ∧ 57343 < a ∧ a ≤ 1114111)) with q | ⟨q, q'⟩ | ⟨q, q', q''⟩ | ⟨q, q'⟩ | ⟨q, q', q''⟩
          · rw [if_pos (by omega)] at hD'
            have HD' := Lib.hid hD'
            have g1 : (a : Int) < 65536 := by omega
            clear hD'
            go_wp2_with fail
            go_ret2
            rw [HD'.out]
            exact ⟨rfl, rfl⟩
          · rw [if_pos (by omega)] at hD'
            have HD' := Lib.hid hD'
            have g1 : ¬ (a : Int) < 65536 := by omega
            have g2 : (1114111 : Int) < (a : Int) := by omega
            clear hD'
            go_wp2_with fail
            go_ret2
            rw [HD'.out]
            exact ⟨rfl, rfl⟩
          · rw [if_pos (by omega)] at hD'
            have HD' := Lib.hid hD'
            have g1 : ¬ (a : Int) < 65536 := by omega
            have g2 : ¬ (1114111 : Int) < (a : Int) := by omega
            have g3 : (55296 : Int) ≤ (a : Int) := by omega
            have g4 : (a : Int) ≤ 57343 := by omega
            clear hD'
            go_wp2_with fail
            go_ret2
            rw [HD'.out]
            exact ⟨rfl, rfl⟩
          · rw [if_neg (by omega)] at hD'
            have HD' := Lib.hid hD'
            have g1 : ¬ (a : Int) < 65536 := by omega
            have g2 : ¬ (1114111 : Int) < (a : Int) := by omega
            have g3 : ¬ (55296 : Int) ≤ (a : Int) := by omega
            clear hD'
            go_wp2_with fail
            go_ret2
            rw [HD'.out]
            exact ⟨rfl, rfl⟩
          · rw [if_neg (by omega)] at hD'
            have HD' := Lib.hid hD'
            have g1 : ¬ (a : Int) < 65536 := by omega
            have g2 : ¬ (1114111 : Int) < (a : Int) := by omega
            have g3 : (55296 : Int) ≤ (a : Int) := by omega
            have g4 : ¬ (a : Int) ≤ 57343 := by omega
            clear hD'
            go_wp2_with fail
            go_ret2
            rw [HD'.out]
            exact ⟨rfl, rfl⟩
  · have hD := HD.out.trans (ref_bad _ _ _ _ _ (by omega) (by omega) hx0)
    have HD' := Lib.hid hD
    have k1 : ¬ (b0 : Int) < 128 := by omega
    have k2 : (194 : Int) ≤ (b0 : Int) := by omega
    have k2' : ¬ (b0 : Int) ≤ 223 := by omega
    have k3 : (224 : Int) ≤ (b0 : Int) := by omega
    have k3' : ¬ (b0 : Int) ≤ 239 := by omega
    have k4 : (240 : Int) ≤ (b0 : Int) := by omega
    have k4' : ¬ (b0 : Int) ≤ 244 := by omega
    clear hD k HD
    go_wp2_with fail
    go_ret2
    rw [HD'.out]
    exact ⟨rfl, rfl⟩
end Go.Proofs.Ytpjkidcfidmfaaa
/- Contracts of the document's names (compeerref09): Right, Text. -/
namespace Go.Proofs.Ytpjkidcfidmfaaa
set_option linter.unusedSimpArgs false
set_option linter.unusedVariables false
open Go.RowKit Go.Lib
theorem decode_from (s : ByteArray) (p : Nat) : Utf8.decode (s.extract p s.size) 0 = Utf8.decode s p := by
  rw [← decodeL_drop s p, ← decodeL_drop (s.extract p s.size) 0, List.drop_zero]
  congr 1
  rw [ByteArray.data_extract, Array.toList_extract, List.extract_eq_take_drop, List.take_of_length_le]
  rw [List.length_drop, size_toList]
  exact Nat.le_refl _
theorem refR_wd (s : ByteArray) (p : Nat) : (refR (Utf8.decode s p)).2 = (Utf8.decode s p).2 := by
  unfold refR
  split
  · next h => exact h.2.symm
  · rfl
theorem refR_r (s : ByteArray) (p : Nat) : ((refR (Utf8.decode s p)).1 = -1 ∧ (Utf8.decode s p).1 = 65533) ∨ (refR (Utf8.decode s p)).1 = ((Utf8.decode s p).1 : Int) := by
  unfold refR
  split
  · next h => exact .inl ⟨rfl, h.1⟩
  · exact .inr rfl
/-- The rune that the document reads at a place of a text. -/
theorem refRune_at (s : ByteArray) (p : Nat) (w : World) (hs : s.size ≤ maxLen) (hp : p < s.size) :
    ∃ (r : Int) (wd : Nat), wd = (Utf8.decode s p).2 ∧ 1 ≤ wd ∧ p + wd ≤ s.size ∧ ((r = -1 ∧ (Utf8.decode s p).1 = 65533) ∨ r = ((Utf8.decode s p).1 : Int)) ∧ -1 ≤ r ∧ r ≤ 1114111 ∧ refR (Utf8.decode s p) = (r, wd) ∧
    Calls Try.prog 60 #[.string (s.extract p s.size)] w fun e w' => e = .returned (.tuple #[.int .i64 r, .int .i64 wd]) ∧ w = w' := by
  have h := refRune_any (s.extract p s.size) w (by rw [ByteArray.size_extract]; omega) (by rw [ByteArray.size_extract]; omega)
  rw [decode_from] at h
  have h1 := refR_r s p
  have h2 := refR_wd s p
  have h3 := Lib.decode_width_pos s p hp
  have h4 : p + (Utf8.decode s p).2 ≤ s.size := by
    have hne : s.data.toList.drop p ≠ [] := by
      intro e
      have := congrArg List.length e
      rw [List.length_drop, size_toList] at this
      simp at this
      omega
    have := decodeL_le _ hne
    rw [decodeL_drop, List.length_drop, size_toList] at this
    omega
  have h5 : (Utf8.decode s p).1 ≤ 1114111 := by
    have hr : ((Utf8.decode s p).1 : Int) ∈ ru (s.data.toList.drop p) := by
      rw [← rs_ru s s.size p (by omega), rs_step s p hp]
      simp
    have := ru_ok _ _ hr
    unfold okR at this
    omega
  obtain ⟨⟨r, wd⟩, hd⟩ : ∃ d, refR (Utf8.decode s p) = d := ⟨_, rfl⟩
  rw [hd] at h h1 h2
  simp only at h h1 h2
  exact ⟨r, wd, h2, by omega, by omega, h1, by omega, by omega, hd, h⟩
set_option maxHeartbeats 2000000 in
set_option maxRecDepth 100000 in
theorem refRight_any (s : ByteArray) (w : World) (hs : s.size ≤ maxLen) :
    Calls Try.prog 44 #[.string s] w fun e w' => e = .returned (.bool (rightB s)) ∧ w = w' := by
  have hs' := hs
  unfold maxLen at hs
  go_enter Try.func44, Try.ntmps44
  go_wp2_with fail
  go_loopw [3, 4] (fun n i wr => ∃ (pos q : Nat), n = .int .i64 q ∧ i = .int .i64 pos ∧ q ≤ pos ∧ pos ≤ s.size ∧ wr = w ∧ rightF (rs s pos) q = rightB s) (fun _ i _ => s.size - (intOf i).toNat)
  case atStart => exact ⟨0, 0, rfl, rfl, Nat.le_refl _, Nat.zero_le _, rfl, rfl⟩
  case round =>
    obtain ⟨pos, q, rfl, rfl, hq, hps, rfl, hR⟩ := hrel
    have HR := Lib.hid hR
    clear hR
    by_cases hp : pos < s.size
    · have hp1 : (pos : Int) < (s.size : Int) := by omega
      obtain ⟨r, wd, hwd, h1, h2, hr, hr0, hr1, _, hc⟩ := refRune_at s pos wr hs' hp
      have hstep := rs_step s pos hp
      rw [← hwd] at hstep
      obtain ⟨c, hcc⟩ : ∃ c : Int, c = ((Utf8.decode s pos).1 : Int) := ⟨_, rfl⟩
      have hr' : letB r = letB c ∧ (letB c = false → numB c = (decide (48 ≤ r ∧ r ≤ 57) || decide (r = 45))) := by
        rcases hr with ⟨rfl, h⟩ | h
        · rw [hcc, h]
          exact ⟨by decide +kernel, fun _ => by decide +kernel⟩
        · have : r = c := by omega
          subst this
          refine ⟨rfl, fun _ => ?_⟩
          rw [Bool.eq_iff_iff, numB_iff]
          simp only [Bool.or_eq_true, decide_eq_true_eq]
          omega
      rw [← hcc] at hstep
      have HS := Lib.hid hstep
      have HC := Lib.hid hr'
      have hsl : ∀ W, (Instr.slice 9 (.string s) (some (.int .i64 pos)) none none).run Try.prog W = .ok (.string (s.extract pos s.size)) W := fun W => run_slice_string_l W _ s Try.underlying9 .i64 pos (by omega) (by omega)
      clear hwd hr hstep hcc hr'
      go_wp2_with fail
      refine hc.mono ?_
      rintro e w' ⟨rfl, rfl⟩
      clear hc
      go_wp2_with fail
      obtain ⟨L, hL⟩ : ∃ L, L = letB c := ⟨_, rfl⟩
      have hl := refLetter_any r 0 wr (by omega) (by omega) (by omega) (by omega)
      rw [Int.add_zero, HC.out.1, ← hL] at hl
      have HL := Lib.hid hL
      refine hl.mono ?_
      rintro e w' ⟨rfl, rfl⟩
      clear hl hL hsl
      cases L with
      | true =>
        have HF : Hid (rightF (rs s (pos + wd)) (q + 1) = rightB s) := Lib.hid (by
          rw [← HR.out, HS.out, rightF, ← HL.out, if_pos rfl])
        go_wp2_with fail
        go_roundw
        case rel => exact ⟨pos + wd, q + 1, by go_num, by go_num, by omega, by omega, by first | rfl | trivial, HF.out⟩
        case measure => simp [intOf]; omega
      | false =>
        have HN := Lib.hid (HC.out.2 HL.out.symm)
        by_cases hp0 : pos = 0
        · subst hp0
          have HF : Hid (rightB s = false) := Lib.hid (by
            rw [← HR.out, HS.out, rightF, ← HL.out]
            simp)
          go_wp2_with fail
          go_ret
          rw [HF.out]
          exact ⟨rfl, rfl⟩
        · have hp2 : ((pos : Int) == 0) = false := by simp; omega
          have HP0 := Lib.hid hp0
          clear hp0
          rcases (by omega : r = 45 ∨ (r ≠ 45 ∧ r < 48) ∨ (r ≠ 45 ∧ 48 ≤ r ∧ 57 < r) ∨ (r ≠ 45 ∧ 48 ≤ r ∧ r ≤ 57)) with g | ⟨g, g'⟩ | ⟨g, g', g''⟩ | ⟨g, g', g''⟩
          · subst g
            have HF : Hid (rightF (rs s (pos + wd)) (q + 1) = rightB s) := Lib.hid (by
              rw [← HR.out, HS.out, rightF, ← HL.out, HN.out]
              simp [HP0.out])
            go_wp2_with fail
            go_roundw
            case rel => exact ⟨pos + wd, q + 1, by go_num, by go_num, by omega, by omega, by first | rfl | trivial, HF.out⟩
            case measure => simp [intOf]; omega
          · have g1 : (r != 45) = true := by simpa using g
            have HF : Hid (rightB s = false) := Lib.hid (by
              rw [← HR.out, HS.out, rightF, ← HL.out, HN.out, decide_eq_false (by omega : ¬ (48 ≤ r ∧ r ≤ 57)), decide_eq_false g]
              simp)
            go_wp2_with fail
            go_ret
            rw [HF.out]
            exact ⟨rfl, rfl⟩
          · have g1 : (r != 45) = true := by simpa using g
            have g2 : ¬ r < 48 := by omega
            have HF : Hid (rightB s = false) := Lib.hid (by
              rw [← HR.out, HS.out, rightF, ← HL.out, HN.out, decide_eq_false (by omega : ¬ (48 ≤ r ∧ r ≤ 57)), decide_eq_false g]
              simp)
            go_wp2_with fail
            go_ret
            rw [HF.out]
            exact ⟨rfl, rfl⟩
          · have g1 : (r != 45) = true := by simpa using g
            have g2 : ¬ r < 48 := by omega
            have g3 : ¬ 57 < r := by omega
            have HF : Hid (rightF (rs s (pos + wd)) (q + 1) = rightB s) := Lib.hid (by
              rw [← HR.out, HS.out, rightF, ← HL.out, HN.out, decide_eq_true (And.intro g' g'')]
              simp [HP0.out])
            go_wp2_with fail
            go_roundw
            case rel => exact ⟨pos + wd, q + 1, by go_num, by go_num, by omega, by omega, by first | rfl | trivial, HF.out⟩
            case measure => simp [intOf]; omega
    · have hp1 : ¬ (pos : Int) < (s.size : Int) := by omega
      have HF : Hid (rightB s = (decide (1 ≤ q) && decide (q ≤ 16))) := Lib.hid (by rw [← HR.out, rs_end s pos hp, rightF])
      rcases (by omega : q < 1 ∨ (1 ≤ q ∧ q ≤ 16) ∨ 16 < q) with h | ⟨h, h'⟩ | h
      · have h1 : ¬ (1 : Int) ≤ (q : Int) := by omega
        have HG := Lib.hid (HF.out.trans (show _ = false by rw [decide_eq_false (by omega : ¬ 1 ≤ q)]; rfl))
        clear h
        go_wp2_with fail
        go_ret
        rw [HG.out]
        exact ⟨rfl, rfl⟩
      · have h1 : (1 : Int) ≤ (q : Int) := by omega
        have h2 : (q : Int) ≤ 16 := by omega
        have HG := Lib.hid (HF.out.trans (show _ = true by rw [decide_eq_true h, decide_eq_true h']; rfl))
        clear h h'
        go_wp2_with fail
        go_ret
        rw [HG.out]
        exact ⟨rfl, rfl⟩
      · have h1 : (1 : Int) ≤ (q : Int) := by omega
        have h2 : ¬ (q : Int) ≤ 16 := by omega
        have HG := Lib.hid (HF.out.trans (show _ = false by rw [decide_eq_false (by omega : ¬ q ≤ 16)]; simp))
        clear h
        go_wp2_with fail
        go_ret
        rw [HG.out]
        exact ⟨rfl, rfl⟩
end Go.Proofs.Ytpjkidcfidmfaaa
/- The document's messages: shapes, parts, tickets. Printed by tools/genmref.py. -/
namespace Go.Proofs.Ytpjkidcfidmfaaa
set_option linter.unusedSimpArgs false
set_option linter.unusedVariables false
open Go.RowKit
def kdC : Kd → UInt8
  | .s => 115
  | .n => 110
  | .b => 98
  | .t => 116
  | .i => 105
  | .x => 120
/-- A message's shape as a text. -/
def shapeC (t : Int) : List UInt8 := if (shapeS t).isEmpty = true then [63] else (shapeS t).map kdC
theorem shape_none {t : Int} (h : t < 11 ∨ 22 < t) : shapeS t = [] := by
  unfold shapeS
  rw [if_neg (by omega), if_neg (by omega), if_neg (by omega), if_neg (by omega), if_neg (by omega), if_neg (by omega), if_neg (by omega), if_neg (by omega), if_neg (by omega), if_neg (by omega), if_neg (by omega), if_neg (by omega)]
set_option maxHeartbeats 4000000 in
set_option maxRecDepth 100000 in
theorem refShape_any (t : Int) (w : World) : Calls Try.prog 21 #[.int .i64 t] w fun e w' => e = .returned (.string (tx (shapeC t))) ∧ w = w' := by
  rcases (by omega : t = 11 ∨ t = 12 ∨ t = 13 ∨ t = 14 ∨ t = 15 ∨ t = 16 ∨ t = 17 ∨ t = 18 ∨ t = 19 ∨ t = 20 ∨ t = 21 ∨ t = 22 ∨ (t < 11 ∨ 22 < t)) with rfl | rfl | rfl | rfl | rfl | rfl | rfl | rfl | rfl | rfl | rfl | rfl | h
  · go_enter Try.func21, Try.ntmps21
    go_wp2_with fail
    go_ret
    exact ⟨rfl, rfl⟩
  · go_enter Try.func21, Try.ntmps21
    go_wp2_with fail
    go_ret
    exact ⟨rfl, rfl⟩
  · go_enter Try.func21, Try.ntmps21
    go_wp2_with fail
    go_ret
    exact ⟨rfl, rfl⟩
  · go_enter Try.func21, Try.ntmps21
    go_wp2_with fail
    go_ret
    exact ⟨rfl, rfl⟩
  · go_enter Try.func21, Try.ntmps21
    go_wp2_with fail
    go_ret
    exact ⟨rfl, rfl⟩
  · go_enter Try.func21, Try.ntmps21
    go_wp2_with fail
    go_ret
    exact ⟨rfl, rfl⟩
  · go_enter Try.func21, Try.ntmps21
    go_wp2_with fail
    go_ret
    exact ⟨rfl, rfl⟩
  · go_enter Try.func21, Try.ntmps21
    go_wp2_with fail
    go_ret
    exact ⟨rfl, rfl⟩
  · go_enter Try.func21, Try.ntmps21
    go_wp2_with fail
    go_ret
    exact ⟨rfl, rfl⟩
  · go_enter Try.func21, Try.ntmps21
    go_wp2_with fail
    go_ret
    exact ⟨rfl, rfl⟩
  · go_enter Try.func21, Try.ntmps21
    go_wp2_with fail
    go_ret
    exact ⟨rfl, rfl⟩
  · go_enter Try.func21, Try.ntmps21
    go_wp2_with fail
    go_ret
    exact ⟨rfl, rfl⟩
  · have HE : Hid (shapeC t = [63]) := Lib.hid (by unfold shapeC; rw [shape_none h]; rfl)
    have e11 : (t == 11) = false := by simp; omega
    have e12 : (t == 12) = false := by simp; omega
    have e13 : (t == 13) = false := by simp; omega
    have e14 : (t == 14) = false := by simp; omega
    have e15 : (t == 15) = false := by simp; omega
    have e16 : (t == 16) = false := by simp; omega
    have e17 : (t == 17) = false := by simp; omega
    have e18 : (t == 18) = false := by simp; omega
    have e19 : (t == 19) = false := by simp; omega
    have e20 : (t == 20) = false := by simp; omega
    have e21 : (t == 21) = false := by simp; omega
    have e22 : (t == 22) = false := by simp; omega
    clear h
    go_enter Try.func21, Try.ntmps21
    go_wp2_with fail
    go_ret
    rw [HE.out]
    exact ⟨rfl, rfl⟩
set_option maxHeartbeats 1000000 in
set_option maxRecDepth 100000 in
theorem refShape10_any (w : World) : Calls Try.prog 59 #[.int .i64 1] w fun e w' => e = .returned (.string (tx [115, 98])) ∧ w = w' := by
  go_enter Try.func59, Try.ntmps59
  go_wp2_with fail
  go_ret
  exact ⟨rfl, rfl⟩
/-- The parts that layer 10 knows. -/
def lowK : Kd → Bool
  | .i => false
  | .x => false
  | _ => true
set_option maxHeartbeats 2000000 in
set_option maxRecDepth 100000 in
theorem refFits_n (x : Tv) (F : Nat → Prop) (cs : List Value) (w : World) (h : TvF w F x cs) : Calls Try.prog 23 #[.agg cs.toArray, .int .u8 110] w fun e w' => e = .returned (.bool (fitK .n x)) ∧ Below w.heap.size w w' := by
  obtain ⟨bv, lv, rows, rfl, hb1, hb2, hb3, hb4, hb5⟩ := h.open_
  obtain ⟨al, cl, rfl, hcl, hml⟩ := hb3.form
  obtain ⟨ab, cb, rfl, hcb, hmb⟩ := hb1.form
  have HBS := Lib.hid hb1
  clear h hb1 hb2 hb3 hb4 hb5
  obtain ⟨r, hr⟩ : ∃ r, r = fitK .n x := ⟨_, rfl⟩
  rw [← hr]
  have HR := Lib.hid hr
  clear hr
  by_cases ht : x.tag = 0
  · have HT := Lib.hid ht
    have ht1 : (x.tag != 0) = false := by simpa using ht
    clear ht
    by_cases hk : x.kind = 0
    · have HK := Lib.hid hk
      have hk1 : (x.kind == 0) = true := by simpa using hk
      clear hk
      obtain ⟨d, hd⟩ : ∃ d, d = decide (x.n ≤ maxT) := ⟨_, rfl⟩
      have hn : decide ((x.n : Int) ≤ 1099511627776) = d := by rw [hd, decide_eq_decide]; unfold maxT; omega
      have HD := Lib.hid hd
      clear hd
      go_enter Try.func23, Try.ntmps23
      go_wp2_with fail
      go_ret
      rw [show r = d by rw [HR.out, HD.out]; simp [fitK, HK.out, HT.out]]
      exact ⟨rfl, (Below.refl _ _).alloc (Nat.le_refl _) _⟩
    · have HK := Lib.hid hk
      have hk1 : (x.kind == 0) = false := by simpa using hk
      clear hk
      go_enter Try.func23, Try.ntmps23
      go_wp2_with fail
      go_ret
      rw [show r = false by rw [HR.out]; simp [fitK, isS, isB, HK.out]]
      exact ⟨rfl, (Below.refl _ _).alloc (Nat.le_refl _) _⟩
  · have HT := Lib.hid ht
    have ht1 : (x.tag != 0) = true := by simpa using ht
    clear ht
    go_enter Try.func23, Try.ntmps23
    go_wp2_with fail
    go_ret
    rw [show r = false by rw [HR.out]; simp [fitK, isS, isB, HT.out]]
    exact ⟨rfl, (Below.refl _ _).alloc (Nat.le_refl _) _⟩
set_option maxHeartbeats 2000000 in
set_option maxRecDepth 100000 in
theorem refFits_t (x : Tv) (F : Nat → Prop) (cs : List Value) (w : World) (h : TvF w F x cs) : Calls Try.prog 23 #[.agg cs.toArray, .int .u8 116] w fun e w' => e = .returned (.bool (fitK .t x)) ∧ Below w.heap.size w w' := by
  obtain ⟨bv, lv, rows, rfl, hb1, hb2, hb3, hb4, hb5⟩ := h.open_
  obtain ⟨al, cl, rfl, hcl, hml⟩ := hb3.form
  obtain ⟨ab, cb, rfl, hcb, hmb⟩ := hb1.form
  have HBS := Lib.hid hb1
  clear h hb1 hb2 hb3 hb4 hb5
  obtain ⟨r, hr⟩ : ∃ r, r = fitK .t x := ⟨_, rfl⟩
  rw [← hr]
  have HR := Lib.hid hr
  clear hr
  by_cases ht : x.tag = 0
  · have HT := Lib.hid ht
    have ht1 : (x.tag != 0) = false := by simpa using ht
    clear ht
    by_cases hk : x.kind = 0
    · have HK := Lib.hid hk
      have hk1 : (x.kind == 0) = true := by simpa using hk
      clear hk
      obtain ⟨d, hd⟩ : ∃ d, d = decide (x.n ≤ 1) := ⟨_, rfl⟩
      have hn : decide ((x.n : Int) ≤ 1) = d := by rw [hd, decide_eq_decide]; omega
      have HD := Lib.hid hd
      clear hd
      go_enter Try.func23, Try.ntmps23
      go_wp2_with fail
      go_ret
      rw [show r = d by rw [HR.out, HD.out]; simp [fitK, HK.out, HT.out]]
      exact ⟨rfl, (Below.refl _ _).alloc (Nat.le_refl _) _⟩
    · have HK := Lib.hid hk
      have hk1 : (x.kind == 0) = false := by simpa using hk
      clear hk
      go_enter Try.func23, Try.ntmps23
      go_wp2_with fail
      go_ret
      rw [show r = false by rw [HR.out]; simp [fitK, isS, isB, HK.out]]
      exact ⟨rfl, (Below.refl _ _).alloc (Nat.le_refl _) _⟩
  · have HT := Lib.hid ht
    have ht1 : (x.tag != 0) = true := by simpa using ht
    clear ht
    go_enter Try.func23, Try.ntmps23
    go_wp2_with fail
    go_ret
    rw [show r = false by rw [HR.out]; simp [fitK, isS, isB, HT.out]]
    exact ⟨rfl, (Below.refl _ _).alloc (Nat.le_refl _) _⟩
set_option maxHeartbeats 2000000 in
set_option maxRecDepth 100000 in
theorem refFits_b (x : Tv) (F : Nat → Prop) (cs : List Value) (w : World) (h : TvF w F x cs) : Calls Try.prog 23 #[.agg cs.toArray, .int .u8 98] w fun e w' => e = .returned (.bool (fitK .b x)) ∧ Below w.heap.size w w' := by
  obtain ⟨bv, lv, rows, rfl, hb1, hb2, hb3, hb4, hb5⟩ := h.open_
  obtain ⟨al, cl, rfl, hcl, hml⟩ := hb3.form
  obtain ⟨ab, cb, rfl, hcb, hmb⟩ := hb1.form
  have HBS := Lib.hid hb1
  clear h hb1 hb2 hb3 hb4 hb5
  obtain ⟨r, hr⟩ : ∃ r, r = fitK .b x := ⟨_, rfl⟩
  rw [← hr]
  have HR := Lib.hid hr
  clear hr
  by_cases ht : x.tag = 0
  · have HT := Lib.hid ht
    have ht1 : (x.tag != 0) = false := by simpa using ht
    clear ht
    by_cases hk : x.kind = 1
    · have HK := Lib.hid hk
      have hk1 : (x.kind == 1) = true := by simpa using hk
      clear hk
      go_enter Try.func23, Try.ntmps23
      go_wp2_with fail
      go_ret
      rw [show r = true by rw [HR.out]; simp [fitK, isB, HK.out, HT.out]]
      exact ⟨rfl, (Below.refl _ _).alloc (Nat.le_refl _) _⟩
    · have HK := Lib.hid hk
      have hk1 : (x.kind == 1) = false := by simpa using hk
      clear hk
      go_enter Try.func23, Try.ntmps23
      go_wp2_with fail
      go_ret
      rw [show r = false by rw [HR.out]; simp [fitK, isS, isB, HK.out]]
      exact ⟨rfl, (Below.refl _ _).alloc (Nat.le_refl _) _⟩
  · have HT := Lib.hid ht
    have ht1 : (x.tag != 0) = true := by simpa using ht
    clear ht
    go_enter Try.func23, Try.ntmps23
    go_wp2_with fail
    go_ret
    rw [show r = false by rw [HR.out]; simp [fitK, isS, isB, HT.out]]
    exact ⟨rfl, (Below.refl _ _).alloc (Nat.le_refl _) _⟩
set_option maxHeartbeats 2000000 in
set_option maxRecDepth 100000 in
theorem refFits_s (x : Tv) (F : Nat → Prop) (cs : List Value) (w : World) (h : TvF w F x cs) : Calls Try.prog 23 #[.agg cs.toArray, .int .u8 115] w fun e w' => e = .returned (.bool (fitK .s x)) ∧ Below w.heap.size w w' := by
  obtain ⟨bv, lv, rows, rfl, hb1, hb2, hb3, hb4, hb5⟩ := h.open_
  obtain ⟨al, cl, rfl, hcl, hml⟩ := hb3.form
  obtain ⟨ab, cb, rfl, hcb, hmb⟩ := hb1.form
  have HBS := Lib.hid hb1
  clear h hb1 hb2 hb3 hb4 hb5
  obtain ⟨r, hr⟩ : ∃ r, r = fitK .s x := ⟨_, rfl⟩
  rw [← hr]
  have HR := Lib.hid hr
  clear hr
  by_cases ht : x.tag = 0
  · have HT := Lib.hid ht
    have ht1 : (x.tag != 0) = false := by simpa using ht
    clear ht
    by_cases hk : x.kind = 1
    · have HK := Lib.hid hk
      have hk1 : (x.kind == 1) = true := by simpa using hk
      clear hk
      obtain ⟨w1, hw1⟩ : ∃ w1, w1 = w.alloc (.cells #[.int .i64 x.kind, .int .i64 x.tag, .int .u64 (x.n : Int), .slice ab x.b.length cb, .slice al x.l.length cl] 30) := ⟨_, rfl⟩
      have HB1 : Hid (Bs w1 (.slice ab x.b.length cb) x.b) := Lib.hid (by rw [hw1]; exact HBS.out.alloc _)
      have HW1 : Hid (Below w.heap.size w w1) := Lib.hid (by rw [hw1]; exact (Below.refl _ _).alloc (Nat.le_refl _) _)
      have HRR := Lib.hid (refRight_any (tx x.b) w1 (by rw [tx_size]; omega))
      obtain ⟨d, hd⟩ : ∃ d, d = rightB (tx x.b) := ⟨_, rfl⟩
      rw [← hd] at HRR
      have HD := Lib.hid hd
      clear hd
      go_enter Try.func23, Try.ntmps23
      go_upto_region 9 with fail
      show Code.wp _ _ _ _ (w.alloc (.cells #[.int .i64 x.kind, .int .i64 x.tag, .int .u64 (x.n : Int), .slice ab x.b.length cb, .slice al x.l.length cl] 30))
      have c0 : w1.cell? ⟨w.heap.size, 0, none⟩ = some (.int .i64 x.kind) := by rw [hw1]; exact (Blk.new w [.int .i64 x.kind, .int .i64 x.tag, .int .u64 (x.n : Int), .slice ab x.b.length cb, .slice al x.l.length cl] 30).cell 0
      have c3 : w1.cell? ⟨w.heap.size, 3, none⟩ = some (.slice ab x.b.length cb) := by rw [hw1]; exact (Blk.new w [.int .i64 x.kind, .int .i64 x.tag, .int .u64 (x.n : Int), .slice ab x.b.length cb, .slice al x.l.length cl] 30).cell 3
      rw [← hw1]
      clear hw1
      have hcv := run_convS w1 _ x.b HB1.out
      go_wp2_with fail
      refine HRR.out.mono ?_
      rintro e w2 ⟨rfl, rfl⟩
      go_wp2_with fail
      go_ret
      rw [show r = d by rw [HR.out, HD.out]; simp [fitK, isS, HK.out, HT.out]]
      exact ⟨rfl, HW1.out⟩
    · have HK := Lib.hid hk
      have hk1 : (x.kind == 1) = false := by simpa using hk
      clear hk
      go_enter Try.func23, Try.ntmps23
      go_wp2_with fail
      go_ret
      rw [show r = false by rw [HR.out]; simp [fitK, isS, isB, HK.out]]
      exact ⟨rfl, (Below.refl _ _).alloc (Nat.le_refl _) _⟩
  · have HT := Lib.hid ht
    have ht1 : (x.tag != 0) = true := by simpa using ht
    clear ht
    go_enter Try.func23, Try.ntmps23
    go_wp2_with fail
    go_ret
    rw [show r = false by rw [HR.out]; simp [fitK, isS, isB, HT.out]]
    exact ⟨rfl, (Below.refl _ _).alloc (Nat.le_refl _) _⟩
theorem refFits_any (k : Kd) (hk : lowK k = true) (x : Tv) (F : Nat → Prop) (cs : List Value) (w : World) (h : TvF w F x cs) : Calls Try.prog 23 #[.agg cs.toArray, .int .u8 ((kdC k).toNat : Int)] w fun e w' => e = .returned (.bool (fitK k x)) ∧ Below w.heap.size w w' := by
  cases k
  · exact refFits_s x F cs w h
  · exact refFits_n x F cs w h
  · exact refFits_b x F cs w h
  · exact refFits_t x F cs w h
  · cases hk
  · cases hk
end Go.Proofs.Ytpjkidcfidmfaaa
