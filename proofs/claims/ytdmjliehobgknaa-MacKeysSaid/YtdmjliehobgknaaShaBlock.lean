/- sha: a block is taken in. -/
import Derived.Test.YtdmjliehobgknaaSha
namespace Go.Proofs.Ytdmjliehobgknaa
set_option linter.unusedSimpArgs false
set_option linter.unusedVariables false
open Go.RowKit

theorem list8 (l : List Int) (h : l.length = 8) : ∃ a b c d e f g i, l = [a, b, c, d, e, f, g, i] := by
  match l, h with
  | [a, b, c, d, e, f, g, i], _ => exact ⟨a, b, c, d, e, f, g, i, rfl⟩

/-- A round. -/
def rI (k w : Int) : List Int → List Int
  | [a, b, c, d, e, f, g, i] => [(oneI e f g i k w + twoI a b c) % 4294967296, a, b, c, (d + oneI e f g i k w) % 4294967296, e, f, g]
  | l => l

/-- The first rounds. -/
def roundsI (K W : List Int) : Nat → List Int → List Int
  | 0, s => s
  | k + 1, s => rI (K.getD k 0) (W.getD k 0) (roundsI K W k s)

theorem roundsI_length (K W : List Int) : ∀ (k : Nat) (s : List Int), s.length = 8 → (roundsI K W k s).length = 8
  | 0, s, h => h
  | k + 1, s, h => by
    obtain ⟨a, b, c, d, e, f, g, i, he⟩ := list8 _ (roundsI_length K W k s h)
    rw [roundsI, he]
    rfl

/-- What stands behind a block. -/
def blockI (h : List Int) (b : List UInt8) : List Int := addW h (roundsI kL (schedI b 64) 64 h) 8
theorem schedZ_64 (b : List UInt8) : schedZ b 64 = schedI b 64 := by simp [schedZ]

set_option maxHeartbeats 8000000 in
set_option maxRecDepth 100000 in
theorem shaBlock_any (p : Nat) (rest : List Value) (h : List Int) (v : Value) (b : List UInt8) (w : World) (hb : Bs w v b) (hbl : b.length = 64) (hp : Blk w p (wCells h ++ rest) 78) (hhl : h.length = 8) :
    Calls Try.prog 43 #[.pointer (some ⟨p, 0, none⟩), v] w fun e w' => e = .returned (.tuple #[]) ∧ Blk w' p (wCells (blockI h b) ++ rest) 78 ∧ Keeps (fun k => k = p ∨ w.heap.size ≤ k) w w' := by
  obtain ⟨a, cap, rfl, hcap, hcm⟩ := hb.form
  obtain ⟨bb, off, rfl, _⟩ := hb.addr (by rw [bCells_length]; omega)
  have HB := Lib.hid hb
  have HP := Lib.hid hp
  have hpl := hp.lt
  obtain ⟨q, hq⟩ : ∃ q, q = w.heap.size := ⟨_, rfl⟩
  rw [hbl] at hcap
  have hcm' := hcm
  unfold maxLen at hcm
  have hq0 := Lib.hid (Blk.at_ (w := w) (cs := (wCells (schedZ b 0)).toArray) (T := 94) hq.symm)
  clear hb hp
  go_enter Try.func43, Try.ntmps43
  go_wp2_with fail
  rw [← hq]
  have hB0 : Below w.heap.size w (w.alloc (.cells (wCells (schedZ b 0)).toArray 94)) := (Below.refl _ _).alloc (Nat.le_refl _) _
  have hqw : w.heap.size ≤ q := by omega
  clear hq
  go_loopw [19] (fun i wr => ∃ k : Nat, k ≤ 16 ∧ i = .int .i64 k ∧ Blk wr q (wCells (schedZ b k)) 94 ∧ Below w.heap.size w wr) (fun i _ => 16 - (intOf i).toNat)
  case atStart => exact ⟨0, by omega, rfl, hq0.out, hB0⟩
  case round =>
    obtain ⟨k, hk, rfl, hblk, hB⟩ := hrel
    have hzl := schedZ_length b k (by omega)
    by_cases hlt : k < 16
    · have c0 : ∃ u, wr.cell? ⟨q, k, none⟩ = some u := ⟨_, by rw [hblk.cell]; exact wCells_get _ k (by omega)⟩
      obtain ⟨u, c0⟩ := c0
      have f0 := hblk.frozen k
      have hix := ix64 q k (by omega)
      have hchunk : Bs wr (.slice (some ⟨bb, off + 4 * k, none⟩) 4 (cap - 4 * k)) ((b.drop (4 * k)).take 4) :=
        ((HB.out.below hB).mid (off := 4 * k) (n := 4) (cap := cap - 4 * k) (by omega) (by omega) (by omega)).bs rfl (by simp; omega)
      have HBLK := Lib.hid hblk
      clear hblk
      go_wp2_with fail
      refine (get_any _ _ _ hchunk).mono ?_
      have hg : getB ((b.drop (4 * k)).take 4) = (getN ((b.drop (4 * k)).take 4), true) := by rw [getB, if_neg]; simp; omega
      have hx : (getN ((b.drop (4 * k)).take 4) : Int) < 4294967296 := by
        have := getN_lt ((b.drop (4 * k)).take 4)
        rw [show ((b.drop (4 * k)).take 4).length = 4 by simp; omega] at this
        omega
      rw [hg]
      rintro e w1 ⟨rfl, rfl⟩
      go_wp2_with fail
      go_roundw
      case rel => exact ⟨k + 1, by omega, by go_num, by
        have := HBLK.out.set k (.int .u32 (wordI b k))
        rw [wCells_set, schedZ_set b k (by omega) _ (schedI_low b k hlt)] at this
        exact this, hB.trans (Keeps.below (Keeps.setCell (Keeps.refl (fun j => j = q) wr) (p := ⟨q, k, none⟩) rfl _) (by intro j hj; omega))⟩
      case measure => simp [intOf]; omega
    · obtain rfl : k = 16 := by omega
      go_wp2_with fail
      go_loopw [8] (fun i wr => ∃ k : Nat, 16 ≤ k ∧ k ≤ 64 ∧ i = .int .i64 k ∧ Blk wr q (wCells (schedZ b k)) 94 ∧ Below w.heap.size w wr) (fun i _ => 64 - (intOf i).toNat)
      case atStart => exact ⟨16, by omega, by omega, rfl, hblk, hB⟩
      case round =>
        clear hblk hB hzl
        obtain ⟨k, hk1, hk, rfl, hblk, hB⟩ := hrel
        have hzl := schedZ_length b k hk
        by_cases hlt : k < 64
        · have i15 := ix64i q ((k : Int) - 15) (k - 15) (by omega) (by omega)
          have i2 := ix64i q ((k : Int) - 2) (k - 2) (by omega) (by omega)
          have i16 := ix64i q ((k : Int) - 16) (k - 16) (by omega) (by omega)
          have i7 := ix64i q ((k : Int) - 7) (k - 7) (by omega) (by omega)
          have ik := ix64i q (k : Int) k (by omega) (by omega)
          have hc : ∀ j : Nat, j < 64 → wr.cell? ⟨q, j, none⟩ = some (.int .u32 ((schedZ b k).getD j 0)) := fun j hj => by
            rw [hblk.cell, wCells_get _ j (by omega)]
            simp [List.getD, show j < (schedZ b k).length by omega]
          have c15 := hc (k - 15) (by omega)
          have c2 := hc (k - 2) (by omega)
          have hstep := schedI_high b k hk1
          generalize (schedZ b k).getD (k - 15) 0 = x15 at c15 hstep
          generalize (schedZ b k).getD (k - 2) 0 = x2 at c2 hstep
          have HS := Lib.hid hstep
          clear hstep
          have HBLK := Lib.hid hblk
          have HCC := Lib.hid hc
          clear hblk hc
          go_wp2_with fail
          go_quiet (fail)
          obtain ⟨w2, hw2⟩ : ∃ w2, w2 = wr.drewN nq := ⟨_, rfl⟩
          rw [← hw2]
          have hB2 : Below w.heap.size w w2 := by rw [hw2]; exact below_drewN hB nq
          have HBLK2 : Hid (Blk w2 q (wCells (schedZ b k)) 94) := Lib.hid (by rw [hw2]; exact HBLK.out.drewN nq)
          have HC2 : Hid (∀ j : Nat, j < 64 → w2.cell? ⟨q, j, none⟩ = some (.int .u32 ((schedZ b k).getD j 0))) := Lib.hid (by rw [hw2]; exact HCC.out)
          have c16 : w2.drew.cell? ⟨q, k - 16, none⟩ = _ := HC2.out (k - 16) (by omega)
          have c7 : w2.drew.cell? ⟨q, k - 7, none⟩ = _ := HC2.out (k - 7) (by omega)
          have ck : w2.drew.drew.drew.drew.drew.cell? ⟨q, k, none⟩ = _ := HC2.out k (by omega)
          have fk : w2.drew.drew.drew.drew.drew.frozen? ⟨q, k, none⟩ = false := HBLK2.out.frozen k
          have hstep := HS.out
          generalize (schedZ b k).getD (k - 16) 0 = x16 at c16 hstep
          generalize (schedZ b k).getD (k - 7) 0 = x7 at c7 hstep
          have HS1 := Lib.hid hstep
          clear hstep HS
          generalize (schedZ b k).getD k 0 = xk at ck
          clear hw2 c15 c2 HBLK HCC HC2 hB
          have hk16 : ∀ v, (w2.setCell ⟨q, k, none⟩ v).drew.drew.drew.drew.drew.cell? ⟨q, k - 16, none⟩ = some (.int .u32 x16) := fun v => keep_far c16 (by omega)
          have hk7 : ∀ v, (w2.setCell ⟨q, k, none⟩ v).drew.drew.drew.drew.drew.cell? ⟨q, k - 7, none⟩ = some (.int .u32 x7) := fun v => keep_far c7 (by omega)
          have e16 : IntKind.i64.wrap ((k : Int) - 16) = (k : Int) - 16 := by rw [IntKind.wrap_i64]; omega
          have e7 : IntKind.i64.wrap ((k : Int) - 7) = (k : Int) - 7 := by rw [IntKind.wrap_i64]; omega
          go_wp2_with fail
          go_region_held3 (fun W : World => W.cell? ⟨q, k - 16, none⟩ = some (.int .u32 x16) ∧ W.cell? ⟨q, k - 7, none⟩ = some (.int .u32 x7)) (first | exact ⟨by assumption, by assumption⟩ | exact ⟨hk16 _, hk7 _⟩) (first | (go_at_call 59; refine (turn_any _ _ _ (by decide) (by decide)).mono ?_; rintro e w' ⟨rfl, rfl⟩))
          go_wp2_with fail
          refine ⟨?_, ?measure⟩
          · (repeat apply Exists.intro)
            refine ⟨?rel, rfl⟩
            case rel => exact ⟨k + 1, by omega, by omega, by go_num, by
              rw [sI_eq]
              have := (HBLK2.out.set k (.int .u32 (sI x16 x15 x7 x2)))
              rw [wCells_set, schedZ_set b k (by omega) _ HS1.out] at this
              exact this, hB2.trans ((Keeps.setCell (Keeps.refl (fun j => j = q) w2) (p := ⟨q, k, none⟩) rfl _).drew.drew.drew.drew.drew.below (by intro j hj; omega))⟩
          case measure => simp [intOf]; omega
        · obtain rfl : k = 64 := by omega
          go_wp2_with fail
          refine (rounds_any wr).mono ?_
          have hkl := kL_length
          obtain ⟨K, hK⟩ : ∃ K, K = kL := ⟨_, rfl⟩
          rw [← hK] at hkl ⊢
          have HKd := Lib.hid hK
          clear hK
          rintro e w2 ⟨rfl, hb2⟩
          have hq2 : q < w2.heap.size := Nat.lt_of_lt_of_le hblk.lt hb2.size
          have HQ2 := Lib.hid (hblk.below hb2 hblk.lt)
          have HB2 : Hid (Below w.heap.size w w2) := Lib.hid (hB.trans (hb2.mono hB.size))
          have HN2 := Lib.hid (Blk.new w2 (wCells z64) 94)
          have hws := hB.size
          have hws2 := hb2.size
          clear hblk hB hb2 hzl
          go_wp2_with ((with_reducible show wpList _ _ _ (⟨none, .store _ (.tmp 11) (.tmp 79), _, _, _, _⟩ :: _) _ _); refine wpList_stAgg rfl (.tmp 11) (.tmp 79) agg64 rfl rfl (vs := wCells K) rfl (by rw [wCells_length, hkl]) HN2.out (Nat.le_refl _) (wCells_one _) ?_)
          intro w3 h3 h4
          have h3' : Blk w3 w2.heap.size (wCells K) 94 := by
            have e1 : (wCells z64).drop 64 = [] := List.drop_of_length_le (by rw [wCells_length, z64_length]; exact Nat.le_refl _)
            simpa [e1] using h3
          have H3 := Lib.hid h3'
          have hs3 := h4.size
          simp at hs3
          have HQ3 : Hid (Blk w3 q (wCells (schedZ b 64)) 94) := Lib.hid ((HQ2.out.alloc _).keep h4 (by omega))
          have HB3 : Hid (Below w.heap.size w w3) := Lib.hid ((HB2.out.alloc (by omega) _).trans (h4.below (by omega)))
          obtain ⟨q2, hq2d⟩ : ∃ q2, q2 = w2.heap.size := ⟨_, rfl⟩
          rw [← hq2d] at H3
          have HP3 : Hid (Blk w3 p (wCells h ++ rest) 78) := Lib.hid (HP.out.below HB3.out hpl)
          rw [← hq2d]
          have hne : q ≠ q2 ∧ p ≠ q ∧ p ≠ q2 ∧ p < w3.heap.size ∧ q2 < w3.heap.size ∧ q < w3.heap.size ∧ w.heap.size ≤ q2 ∧ w.heap.size ≤ w3.heap.size := by omega
          have HNE := Lib.hid hne
          clear h3 h3' h4 hq2d hne hq2 hs3 hws hws2
          have hc8 : CellsAt w3 p 0 (wCells h) := fun j u hj => by
            rw [HP3.out.cell, Nat.zero_add, List.getElem?_append_left (List.getElem?_eq_some_iff.1 hj).1]
            exact hj
          have HC8 := Lib.hid hc8
          have HN3 := Lib.hid (Blk.new w3 (wCells z8) 76)
          have h8 : (wCells h).length = 8 := by rw [wCells_length, hhl]
          have HH8 := Lib.hid h8
          clear hc8 h8
          go_wp2_with (first | ((with_reducible show wpList _ _ _ (⟨some 83, _, _, _, _, _⟩ :: _) _ _); refine wpList_ldAgg rfl (.tmp 82) agg8 rfl rfl (cs := wCells h) HH8.out HC8.out ?_) | ((with_reducible show wpList _ _ _ (⟨none, .store _ (.tmp 12) (.tmp 83), _, _, _, _⟩ :: _) _ _); refine wpList_stAgg rfl (.tmp 12) (.tmp 83) agg8 rfl rfl (vs := wCells h) rfl HH8.out HN3.out (Nat.le_refl _) (wCells_one _) ?_))
          intro w4 h5 h6
          have h5' : Blk w4 w3.heap.size (wCells h) 76 := by
            have e1 : (wCells z8).drop 8 = [] := List.drop_of_length_le (by rw [wCells_length, z8_length]; exact Nat.le_refl _)
            simpa [e1] using h5
          have hs4 := h6.size
          simp at hs4
          obtain ⟨hqq2, hpq, hpq2, hp3, hq23, hq3, hwq2, hw3⟩ := HNE.out
          obtain ⟨q3, hq3d⟩ : ∃ q3, q3 = w3.heap.size := ⟨_, rfl⟩
          rw [← hq3d] at h5'
          have H5 := Lib.hid h5'
          have HQ4 : Hid (Blk w4 q (wCells (schedZ b 64)) 94) := Lib.hid ((HQ3.out.alloc _).keep h6 (by omega))
          have HK4 : Hid (Blk w4 q2 (wCells K) 94) := Lib.hid ((H3.out.alloc _).keep h6 (by omega))
          have HP4 : Hid (Blk w4 p (wCells h ++ rest) 78) := Lib.hid ((HP3.out.alloc _).keep h6 (by omega))
          have HB4 : Hid (Below w.heap.size w w4) := Lib.hid ((HB3.out.alloc (by omega) _).trans (h6.below (by omega)))
          have hne : p ≠ q3 ∧ q ≠ q3 ∧ q2 ≠ q3 ∧ q < w4.heap.size ∧ q2 < w4.heap.size ∧ p < w4.heap.size ∧ q3 < w4.heap.size ∧ w.heap.size ≤ q3 ∧ w.heap.size ≤ w4.heap.size := by omega
          have HNE4 := Lib.hid hne
          rw [← hq3d]
          clear h5 h5' h6 hs4 hqq2 hpq hpq2 hp3 hq23 hq3 hwq2 hw3 hq3d hne HNE HC8 HN3 HN2
          obtain ⟨a0, b0, c0, d0, e0, f0, g0, i0, rfl⟩ := list8 h hhl
          go_wp2_with fail
          go_loopw [84] (fun i ws => ∃ (k : Nat) (a1 b1 c1 d1 e1 f1 g1 i1 : Int), k ≤ 64 ∧ i = .int .i64 k ∧ Blk ws q3 (wCells [a1, b1, c1, d1, e1, f1, g1, i1]) 76 ∧ roundsI K (schedZ b 64) k [a0, b0, c0, d0, e0, f0, g0, i0] = [a1, b1, c1, d1, e1, f1, g1, i1] ∧ Keeps (fun j => j = q3 ∨ w4.heap.size ≤ j) w4 ws) (fun i _ => 64 - (intOf i).toNat)
          case atStart => exact ⟨0, a0, b0, c0, d0, e0, f0, g0, i0, by omega, rfl, H5.out, rfl, Keeps.refl _ _⟩
          case round =>
            obtain ⟨k, a1, b1, c1, d1, e1, f1, g1, i1, hk, rfl, hst, hrs, hkp⟩ := hrel
            obtain ⟨hpq3, hqq3, hq2q3, hq4, hq24, hp4, hq34, hwq3, hww4⟩ := HNE4.out
            have HST := Lib.hid hst
            have HRS := Lib.hid hrs
            have HKP := Lib.hid hkp
            by_cases hlt : k < 64
            · have v0 := hst.cell 0
              have v1 := hst.cell 1
              have v2 := hst.cell 2
              have v3 := hst.cell 3
              have v4 := hst.cell 4
              have v5 := hst.cell 5
              have v6 := hst.cell 6
              have v7 := hst.cell 7
              simp only [wCells, wV, List.map_cons, List.map_nil, List.getElem?_cons_zero, List.getElem?_cons_succ] at v0 v1 v2 v3 v4 v5 v6 v7
              have kk : wr.cell? ⟨q2, k, none⟩ = some (.int .u32 (K.getD k 0)) := by
                rw [(HK4.out.keep hkp (by omega)).cell, wCells_get _ k (by omega)]
                simp [List.getD, show k < K.length by omega]
              have ww : wr.cell? ⟨q, k, none⟩ = some (.int .u32 ((schedZ b 64).getD k 0)) := by
                rw [(HQ4.out.keep hkp (by omega)).cell, wCells_get _ k (by rw [schedZ_length b 64 (by omega)]; omega)]
                simp [List.getD, show k < (schedZ b 64).length by rw [schedZ_length b 64 (by omega)]; omega]
              have ik := ix64 q k hlt
              have ik2 := ix64 q2 k hlt
              obtain ⟨kv, hkv⟩ : ∃ x, x = K.getD k 0 := ⟨_, rfl⟩
              obtain ⟨wv, hwv⟩ : ∃ x, x = (schedZ b 64).getD k 0 := ⟨_, rfl⟩
              rw [← hkv] at kk
              rw [← hwv] at ww
              have HKV := Lib.hid hkv
              have HWV := Lib.hid hwv
              clear hkv hwv
              have HKK := Lib.hid kk
              have HWW := Lib.hid ww
              clear hst hrs hkp kk ww
              go_wp2_with fail
              go_quiet (fail)
              go_wp2_with fail
              obtain ⟨wA, hwA⟩ : ∃ wA, wA = wr.drewN nq := ⟨_, rfl⟩
              rw [← hwA]
              have kk : wA.cell? ⟨q2, k, none⟩ = some (.int .u32 kv) := by rw [hwA]; exact HKK.out
              have ww : wA.cell? ⟨q, k, none⟩ = some (.int .u32 wv) := by rw [hwA]; exact HWW.out
              replace v0 : wA.cell? ⟨q3, 0, none⟩ = some (.int .u32 a1) := by rw [hwA]; exact v0
              replace v1 : wA.cell? ⟨q3, 1, none⟩ = some (.int .u32 b1) := by rw [hwA]; exact v1
              replace v2 : wA.cell? ⟨q3, 2, none⟩ = some (.int .u32 c1) := by rw [hwA]; exact v2
              replace v3 : wA.cell? ⟨q3, 3, none⟩ = some (.int .u32 d1) := by rw [hwA]; exact v3
              replace v5 : wA.cell? ⟨q3, 5, none⟩ = some (.int .u32 f1) := by rw [hwA]; exact v5
              replace v6 : wA.cell? ⟨q3, 6, none⟩ = some (.int .u32 g1) := by rw [hwA]; exact v6
              replace v7 : wA.cell? ⟨q3, 7, none⟩ = some (.int .u32 i1) := by rw [hwA]; exact v7
              have HST5 : Hid (Blk wA q3 (wCells [a1, b1, c1, d1, e1, f1, g1, i1]) 76) := Lib.hid (by rw [hwA]; exact HST.out.drewN _)
              have HK5 : Hid (Keeps (fun j => j = q3 ∨ w4.heap.size ≤ j) w4 wA) := Lib.hid (by rw [hwA]; exact HKP.out.drewN _)
              clear hwA v4 HKK HWW HST HKP
              go_quiet ((go_at_call 59; exact turn_quiet _ _ _ _ (by decide) (by decide)))
              clear kk ww
              have hone : (i1 + bits BinOp.xor IntKind.u32 (bits BinOp.xor IntKind.u32 (tI e1 6) (tI e1 11)) (tI e1 25) + bits BinOp.xor IntKind.u32 (bits BinOp.and IntKind.u32 e1 f1) (bits BinOp.and IntKind.u32 (bits BinOp.xor IntKind.u32 IntKind.u32.max e1) g1) + kv + wv) % 4294967296 = oneI e1 f1 g1 i1 kv wv := rfl
              go_wp2_with fail
              clear hone
              obtain ⟨one, hone⟩ : ∃ x, x = oneI e1 f1 g1 i1 kv wv := ⟨_, rfl⟩
              rw [← hone]
              have HONE := Lib.hid hone
              clear hone
              obtain ⟨wB, hwB⟩ : ∃ wB, wB = wA.drewN nq := ⟨_, rfl⟩
              rw [← hwB]
              replace v1 : wB.cell? ⟨q3, 1, none⟩ = some (.int .u32 b1) := by rw [hwB]; exact v1
              replace v2 : wB.cell? ⟨q3, 2, none⟩ = some (.int .u32 c1) := by rw [hwB]; exact v2
              have HST6 : Hid (Blk wB q3 (wCells [a1, b1, c1, d1, e1, f1, g1, i1]) 76) := Lib.hid (by rw [hwB]; exact HST5.out.drewN _)
              have HK6 : Hid (Keeps (fun j => j = q3 ∨ w4.heap.size ≤ j) w4 wB) := Lib.hid (by rw [hwB]; exact HK5.out.drewN _)
              clear hwB v0 v3 v5 v6 v7 HST5 HK5
              go_quiet ((go_at_call 59; exact turn_quiet _ _ _ _ (by decide) (by decide)))
              have htwo : (bits BinOp.xor IntKind.u32 (bits BinOp.xor IntKind.u32 (tI a1 2) (tI a1 13)) (tI a1 22) + bits BinOp.xor IntKind.u32 (bits BinOp.xor IntKind.u32 (bits BinOp.and IntKind.u32 a1 b1) (bits BinOp.and IntKind.u32 a1 c1)) (bits BinOp.and IntKind.u32 b1 c1)) % 4294967296 = twoI a1 b1 c1 := rfl
              rw [htwo]
              clear htwo
              go_wp2_with fail
              obtain ⟨two, htwo⟩ : ∃ x, x = twoI a1 b1 c1 := ⟨_, rfl⟩
              rw [← htwo]
              have HTWO := Lib.hid htwo
              clear htwo
              obtain ⟨w5, hw5⟩ : ∃ w5, w5 = wB.drewN nq := ⟨_, rfl⟩
              rw [← hw5]
              have HST5 : Hid (Blk w5 q3 (wCells [a1, b1, c1, d1, e1, f1, g1, i1]) 76) := Lib.hid (by rw [hw5]; exact HST6.out.drewN _)
              have HK5 : Hid (Keeps (fun j => j = q3 ∨ w4.heap.size ≤ j) w4 w5) := Lib.hid (by rw [hw5]; exact HK6.out.drewN _)
              clear hw5 v1 v2 HST6 HK6
              have hsrc : Sl w5.drew 1 (.slice (some ⟨q3, 0, none⟩) 7 8) 7 (wCells [a1, b1, c1, d1, e1, f1, g1]) := by
                refine ⟨rfl, wCells_one _, some ⟨q3, 0, none⟩, 8, rfl, by decide, by unfold maxLen; decide, by simp, .inr ⟨q3, 0, rfl, fun j u hj => ?_⟩⟩
                rw [show w5.drew.cell? ⟨q3, 0 + j, none⟩ = _ from HST5.out.cell (0 + j), Nat.zero_add]
                have hj7 : j < 7 := by have := (List.getElem?_eq_some_iff.1 hj).1; simpa [wCells] using this
                rw [show wCells [a1, b1, c1, d1, e1, f1, g1, i1] = wCells [a1, b1, c1, d1, e1, f1, g1] ++ [wV i1] from rfl, List.getElem?_append_left (by simpa [wCells] using hj7)]
                exact hj
              have HSRC := Lib.hid hsrc
              clear hsrc
              obtain ⟨w6, hr, h7, h8⟩ := run_cp (sT := 27) (ty := 3) (dCap := 7) (dLen := 7) (o := 1) elWords HST5.out.drew HSRC.out (by simp [wCells])
              have hr' : (Builtin.copy_ #[27, 27] 3 #[.slice (some ⟨q3, 1, none⟩) 7 7, .slice (some ⟨q3, 0, none⟩) 7 8]).run Try.prog w5.drew = .ok (.int .i64 7) w6 := hr
              clear hr
              have H7a := Lib.hid h7
              have H8a := Lib.hid h8
              clear h7 h8
              go_region
              have h7 := H7a.out
              have h8 := H8a.out
              have h7' : Blk w6 q3 (wCells [a1, a1, b1, c1, d1, e1, f1, g1]) 76 := h7
              have H7 := Lib.hid h7'
              have HK7 : Hid (Keeps (fun j => j = q3 ∨ w4.heap.size ≤ j) w4 w6) := Lib.hid (HK5.out.drew.trans (h8.mono (fun j hj => .inl hj)))
              have y0 := h7'.cell 0
              have y4 := h7'.cell 4
              have z0 := h7'.frozen 0
              have z4 := h7'.frozen 4
              simp only [wCells, wV, List.map_cons, List.map_nil, List.getElem?_cons_zero, List.getElem?_cons_succ] at y0 y4
              clear h7 h7' h8 HST5 HK5 HSRC
              go_wp2_with fail
              go_roundw
              case rel => exact ⟨k + 1, (one + two) % 4294967296, a1, b1, c1, (d1 + one) % 4294967296, e1, f1, g1, by omega, by go_num, (H7.out.set 4 (.int .u32 ((d1 + one) % 4294967296))).set 0 (.int .u32 ((one + two) % 4294967296)), by
                rw [roundsI, HRS.out, ← HKV.out, ← HWV.out, HONE.out, HTWO.out]
                rfl, (HK7.out.setCell (p := ⟨q3, 4, none⟩) (.inl rfl) _).setCell (p := ⟨q3, 0, none⟩) (.inl rfl) _⟩
              case measure => simp [intOf]; omega
            · obtain rfl : k = 64 := by omega
              have hP := HP4.out.keep hkp (by omega)
              have hKw : Keeps (fun j => j = p ∨ w.heap.size ≤ j) w wr := (Keeps.of_below HB4.out).mono (fun j hj => .inr hj) |>.trans (hkp.mono (fun j hj => .inr (by omega)))
              have HP5 := Lib.hid hP
              have HKW := Lib.hid hKw
              obtain ⟨st, hstd⟩ : ∃ st, st = [a1, b1, c1, d1, e1, f1, g1, i1] := ⟨_, rfl⟩
              have hsl : st.length = 8 := by rw [hstd]; rfl
              obtain ⟨h, hhd⟩ : ∃ h, h = [a0, b0, c0, d0, e0, f0, g0, i0] := ⟨_, rfl⟩
              have HR2 : Hid (roundsI K (schedZ b 64) 64 h = st) := Lib.hid (by rw [hhd, hstd]; exact HRS.out)
              have HST2 : Hid (Blk wr q3 (wCells st) 76) := Lib.hid (by rw [hstd]; exact HST.out)
              rw [← hhd]
              rw [← hhd] at HP5 hhl
              have HHD := Lib.hid hhd
              clear hst hrs hkp hstd hhd hP hKw HST HRS HKP HP HP3 HP4 HH8 H5
              go_wp2_with fail
              go_loopw [158] (fun i ws => ∃ k : Nat, k ≤ 8 ∧ i = .int .i64 k ∧ Blk ws p (wCells (addW h st k) ++ rest) 78 ∧ Blk ws q3 (wCells st) 76 ∧ Keeps (fun j => j = p ∨ w.heap.size ≤ j) w ws) (fun i _ => 8 - (intOf i).toNat)
              case atStart => exact ⟨0, by omega, rfl, by simpa [addW] using HP5.out, HST2.out, HKW.out⟩
              case round =>
                obtain ⟨k, hk, rfl, hbp, hbq, hkp⟩ := hrel
                by_cases hlt : k < 8
                · have x0 : wr.drew.cell? ⟨p, k, none⟩ = some (.int .u32 (h[k]'(by omega))) := by
                    rw [show wr.drew.cell? ⟨p, k, none⟩ = _ from hbp.cell k, List.getElem?_append_left (by rw [wCells_length, addW_length _ _ _ (by omega) (by omega)]; omega)]
                    simp [wCells, wV, addW_get h st k (by omega) (by omega)]
                  have x1 : wr.drew.cell? ⟨q3, k, none⟩ = some (.int .u32 (st[k]'(by omega))) := by
                    rw [show wr.drew.cell? ⟨q3, k, none⟩ = _ from hbq.cell k, wCells_get _ k (by omega)]
                  have x2 : wr.drew.frozen? ⟨p, k, none⟩ = false := hbp.frozen k
                  have ip : ∀ w, (Instr.indexAt 76 (.pointer (some ⟨p, 0, none⟩)) (.int .i64 k)).run Try.prog w = .ok (.pointer (some ⟨p, k, none⟩)) w := fun w => by simpa using ix8 p 0 k hlt w
                  have iq : ∀ w, (Instr.indexAt 76 (.pointer (some ⟨q3, 0, none⟩)) (.int .i64 k)).run Try.prog w = .ok (.pointer (some ⟨q3, k, none⟩)) w := fun w => by simpa using ix8 q3 0 k hlt w
                  have hset := addW_set h st k (by omega) (by omega)
                  generalize h[k]'(by omega) = hk0 at x0 hset
                  generalize st[k]'(by omega) = sk0 at x1 hset
                  have HSET := Lib.hid hset
                  have HBP := Lib.hid hbp
                  have HBQ := Lib.hid hbq
                  have HKP := Lib.hid hkp
                  clear hset hbp hbq hkp
                  go_wp2_with fail
                  go_region
                  go_wp2_with fail
                  go_roundw
                  case rel => exact ⟨k + 1, by omega, by go_num, by
                    have := (HBP.out.set k (.int .u32 ((hk0 + sk0) % 4294967296)))
                    rw [List.set_append_left _ _ (by rw [wCells_length, addW_length _ _ _ (by omega) (by omega)]; omega), wCells_set, HSET.out] at this
                    exact this, HBQ.out.set_other (by simp; omega) _, (HKP.out.setCell (p := ⟨p, k, none⟩) (.inl rfl) _).drew⟩
                  case measure => simp [intOf]; omega
                · obtain rfl : k = 8 := by omega
                  have HBP := Lib.hid hbp
                  have HKP := Lib.hid hkp
                  have hfin : addW h st 8 = blockI h b := by rw [blockI, ← schedZ_64, ← HKd.out, HR2.out]
                  have HFIN := Lib.hid hfin
                  clear hbp hbq hkp hfin
                  go_wp2_with fail
                  go_end0
                  exact ⟨rfl, by rw [← HHD.out, ← HFIN.out]; exact HBP.out, HKP.out⟩
end Go.Proofs.Ytdmjliehobgknaa
