/- Contract of the document's block (compeerref03). -/
import Derived.Test.YtdmjliehobgknaaRef03w
import Derived.Test.YtdmjliehobgknaaRef03
namespace Go.Proofs.Ytdmjliehobgknaa
set_option linter.unusedSimpArgs false
set_option linter.unusedVariables false
open Go.RowKit

/-- Behind m rounds: the eight numbers, and the count. -/
def RoundRel (w2 : World) (K W h : List Int) (a c d e f g i j x : Value) (ws : World) : Prop :=
  ∃ (m : Nat) (a1 b1 c1 d1 e1 f1 g1 i1 : Int), m ≤ 64 ∧ x = .int .i64 m ∧ a = .int .u32 a1 ∧ c = .int .u32 b1 ∧ d = .int .u32 c1 ∧ e = .int .u32 d1 ∧ f = .int .u32 e1 ∧ g = .int .u32 f1 ∧ i = .int .u32 g1 ∧ j = .int .u32 i1 ∧
    (∃ n, ws = w2.drewN n) ∧ roundsI K W m h = [a1, b1, c1, d1, e1, f1, g1, i1]

theorem rI_eq (kv wv a1 b1 c1 d1 e1 f1 g1 i1 : Int) : rI kv wv [a1, b1, c1, d1, e1, f1, g1, i1] =
    [(i1 + bits BinOp.xor IntKind.u32 (bits BinOp.xor IntKind.u32 (tI e1 6) (tI e1 11)) (tI e1 25) + bits BinOp.xor IntKind.u32 (bits BinOp.and IntKind.u32 e1 f1) (bits BinOp.and IntKind.u32 (bits BinOp.xor IntKind.u32 IntKind.u32.max e1) g1) + kv + wv +
      (bits BinOp.xor IntKind.u32 (bits BinOp.xor IntKind.u32 (tI a1 2) (tI a1 13)) (tI a1 22) + bits BinOp.xor IntKind.u32 (bits BinOp.xor IntKind.u32 (bits BinOp.and IntKind.u32 a1 b1) (bits BinOp.and IntKind.u32 a1 c1)) (bits BinOp.and IntKind.u32 b1 c1))) % 4294967296, a1, b1, c1,
     (d1 + (i1 + bits BinOp.xor IntKind.u32 (bits BinOp.xor IntKind.u32 (tI e1 6) (tI e1 11)) (tI e1 25) + bits BinOp.xor IntKind.u32 (bits BinOp.and IntKind.u32 e1 f1) (bits BinOp.and IntKind.u32 (bits BinOp.xor IntKind.u32 IntKind.u32.max e1) g1) + kv + wv)) % 4294967296, e1, f1, g1] := by
  simp only [rI, oneI, twoI]
  generalize bits BinOp.xor IntKind.u32 (bits BinOp.xor IntKind.u32 (tI e1 6) (tI e1 11)) (tI e1 25) = X
  generalize bits BinOp.xor IntKind.u32 (bits BinOp.and IntKind.u32 e1 f1) (bits BinOp.and IntKind.u32 (bits BinOp.xor IntKind.u32 IntKind.u32.max e1) g1) = Y
  generalize bits BinOp.xor IntKind.u32 (bits BinOp.xor IntKind.u32 (tI a1 2) (tI a1 13)) (tI a1 22) = Z
  generalize bits BinOp.xor IntKind.u32 (bits BinOp.xor IntKind.u32 (bits BinOp.and IntKind.u32 a1 b1) (bits BinOp.and IntKind.u32 a1 c1)) (bits BinOp.and IntKind.u32 b1 c1) = U
  simp only [List.cons.injEq, and_true, true_and]
  constructor <;> omega

set_option maxHeartbeats 8000000 in
set_option maxRecDepth 100000 in
theorem refBlock_any (vh vb vk : Value) (h K : List Int) (b : List UInt8) (w : World) (hh : Ws w vh h) (hb : Bs w vb b) (hk : Ws w vk K) (hhl : h.length = 8) (hbl : b.length = 64) (hkl : K.length = 64) :
    Calls Try.prog 40 #[vh, vb, vk] w fun e w' => ∃ x, e = .returned x ∧ Own w' w.heap.size 71 1 x 8 (wCells (addW h (roundsI K (schedI b 64) 64 h) 8)) ∧ Below w.heap.size w w' := by
  obtain ⟨ah, ch, rfl, hch, hmh⟩ := hh.form
  obtain ⟨ab, cb, rfl, hcb, hmb⟩ := hb.form
  obtain ⟨ak, ck, rfl, hck, hmk⟩ := hk.form
  obtain ⟨bh, oh, rfl, hch'⟩ := hh.addr (by rw [wCells_length]; omega)
  obtain ⟨bb, ob, rfl, hcb'⟩ := hb.addr (by rw [bCells_length]; omega)
  obtain ⟨bk, ok, rfl, hck'⟩ := hk.addr (by rw [wCells_length]; omega)
  have HCH := Lib.hid hch'
  have HCB := Lib.hid hcb'
  have HCK := Lib.hid hck'
  rw [hhl] at hch
  rw [hbl] at hcb
  rw [hkl] at hck
  unfold maxLen at hmh hmb hmk
  have HHL := Lib.hid hhl
  have HBL := Lib.hid hbl
  have HKL := Lib.hid hkl
  rw [hhl, hbl, hkl]
  clear hh hb hk hch' hcb' hck' hhl hbl hkl
  go_enter Try.func40, Try.ntmps40
  go_wp2_with fail
  go_loopw [7, 8] (fun out i wr => ∃ k : Nat, k ≤ 64 ∧ i = .int .i64 k ∧ Own wr w.heap.size 71 1 out k (wCells (schedI b k)) ∧ Below w.heap.size w wr) (fun _ i _ => 64 - (intOf i).toNat)
  case atStart => exact ⟨0, by omega, rfl, Own.nil _ _ _ _ _, (Below.refl _ _).alloc (Nat.le_refl _) _⟩
  case round =>
    obtain ⟨k, hk, rfl, hout, hB⟩ := hrel
    by_cases hlt : k < 16
    · have hb0 := below_cell hB (HCB.out (4 * k) _ (bCells_get b (4 * k) (by have := HBL.out; omega)))
      have hb1 := below_cell hB (HCB.out (4 * k + 1) _ (bCells_get b (4 * k + 1) (by have := HBL.out; omega)))
      have hb2 := below_cell hB (HCB.out (4 * k + 2) _ (bCells_get b (4 * k + 2) (by have := HBL.out; omega)))
      have hb3 := below_cell hB (HCB.out (4 * k + 3) _ (bCells_get b (4 * k + 3) (by have := HBL.out; omega)))
      have hword := wordI_eq b k (by have := HBL.out; omega)
      generalize b[4 * k]'(by have := HBL.out; omega) = x0 at hb0 hword
      generalize b[4 * k + 1]'(by have := HBL.out; omega) = x1 at hb1 hword
      generalize b[4 * k + 2]'(by have := HBL.out; omega) = x2 at hb2 hword
      generalize b[4 * k + 3]'(by have := HBL.out; omega) = x3 at hb3 hword
      have HW := Lib.hid hword
      clear hword
      have hk64 : (k : Int) < 64 := by omega
      have hk16 : (k : Int) < 16 := by omega
      have i0 := run_idxB bb ob 64 cb (4 * (k : Int)) (4 * k) (by omega) (by omega)
      have i1 := run_idxB bb ob 64 cb (4 * (k : Int) + 1) (4 * k + 1) (by omega) (by omega)
      have i2 := run_idxB bb ob 64 cb (4 * (k : Int) + 2) (4 * k + 2) (by omega) (by omega)
      have i3 := run_idxB bb ob 64 cb (4 * (k : Int) + 3) (4 * k + 3) (by omega) (by omega)
      have e0 : IntKind.i64.wrap (4 * (k : Int)) = 4 * (k : Int) := by rw [IntKind.wrap_i64]; omega
      have e1 : IntKind.i64.wrap (4 * (k : Int) + 1) = 4 * (k : Int) + 1 := by rw [IntKind.wrap_i64]; omega
      have e2 : IntKind.i64.wrap (4 * (k : Int) + 2) = 4 * (k : Int) + 2 := by rw [IntKind.wrap_i64]; omega
      have e3 : IntKind.i64.wrap (4 * (k : Int) + 3) = 4 * (k : Int) + 3 := by rw [IntKind.wrap_i64]; omega
      have HO := Lib.hid hout
      have hss := hB.size
      have hbbl : bb < w.heap.size := World.block_lt_of_cell? w ⟨bb, ob + 4 * k, none⟩ (HCB.out (4 * k) _ (bCells_get b (4 * k) (by have := HBL.out; omega)))
      clear hout
      go_wp2_with fail
      have h0 : wr.cell? ⟨bb, ob + 4 * k, none⟩ = some (.int .u8 x0.toNat) := hb0
      have h1 : wr.cell? ⟨bb, ob + (4 * k + 1), none⟩ = some (.int .u8 x1.toNat) := hb1
      have h2 : wr.cell? ⟨bb, ob + (4 * k + 2), none⟩ = some (.int .u8 x2.toNat) := hb2
      have h3 : wr.cell? ⟨bb, ob + (4 * k + 3), none⟩ = some (.int .u8 x3.toNat) := hb3
      clear hb0 hb1 hb2 hb3
      have s0 : wr.drew.cell? ⟨bb, ob + 4 * k, none⟩ = some (.int .u8 x0.toNat):= h0
      have s1 : wr.drew.cell? ⟨bb, ob + (4 * k + 1), none⟩ = some (.int .u8 x1.toNat) := h1
      have s2 : wr.drew.cell? ⟨bb, ob + (4 * k + 2), none⟩ = some (.int .u8 x2.toNat) := h2
      have s3 : wr.drew.cell? ⟨bb, ob + (4 * k + 3), none⟩ = some (.int .u8 x3.toNat) := h3
      go_region_held3 (fun W : World => W.cell? ⟨bb, ob + 4 * k, none⟩ = some (.int .u8 x0.toNat) ∧ W.cell? ⟨bb, ob + (4 * k + 1), none⟩ = some (.int .u8 x1.toNat) ∧ W.cell? ⟨bb, ob + (4 * k + 2), none⟩ = some (.int .u8 x2.toNat) ∧ W.cell? ⟨bb, ob + (4 * k + 3), none⟩ = some (.int .u8 x3.toNat))
        (first | (with_reducible exact ⟨s0, s1, s2, s3⟩) | (with_reducible exact ⟨t0, t1, t2, t3⟩) | (with_reducible exact ⟨alloc_cell _ h0, alloc_cell _ h1, alloc_cell _ h2, alloc_cell _ h3⟩))
        (first | (refine step_app rfl (.tmp 29) (.tmp 63) elWords rfl w.heap.size (by simp [Act.eval, Act.put]) (HO.out.alloc _).drew (by simp [Act.eval, Act.put]) (Sl.lit (n := 1) rfl rfl (by simp [Value.oneCell']) (by unfold maxLen; decide)).drew (by unfold maxLen; omega) (by omega) (by simp; omega) ?_; intro v' w2 hown2 hk2 hvb2; have hkc : ∀ (o : Nat) (u : Value), wr.cell? ⟨bb, o, none⟩ = some u → w2.cell? ⟨bb, o, none⟩ = some u := fun o u h => (hk2.cell (p := ⟨bb, o, none⟩) (by rintro (⟨_, h⟩ | h) <;> (simp at h; omega))).trans (alloc_cell _ h); have t0 := hkc _ _ h0; have t1 := hkc _ _ h1; have t2 := hkc _ _ h2; have t3 := hkc _ _ h3; clear hkc))
      have HO2 : Hid (Own w2 w.heap.size 71 1 v' (k + 1) (wCells (schedI b (k + 1)))) := Lib.hid (by
        rw [schedI_low b k hlt, wCells_append, HW.out, ← word_or]
        exact hown2)
      have HB2 : Hid (Below w.heap.size w w2) := Lib.hid ((hB.alloc hss _).drew.trans (hk2.below (by
        rintro j (⟨_, h⟩ | h)
        · exact h
        · simp at h; omega)))
      clear hown2 hk2 hvb2 t0 t1 t2 t3 s0 s1 s2 s3 h0 h1 h2 h3 i0 i1 i2 i3 e0 e1 e2 e3 hB HW HO
      go_wp2_with fail
      go_roundw
      case rel => exact ⟨k + 1, by omega, by go_num, HO2.out, HB2.out⟩
      case measure => simp [intOf]; omega
    · by_cases hlt64 : k < 64
      · have hnext : schedI b (k + 1) = schedI b k ++ [sI ((schedI b k).getD (k - 16) 0) ((schedI b k).getD (k - 15) 0) ((schedI b k).getD (k - 7) 0) ((schedI b k).getD (k - 2) 0)] := by
          simp [schedI, nextI, hlt]
        obtain ⟨g, cap, cur, rfl, hgB, _, hkc, hcm, _⟩ := hout.form' (by omega)
        obtain ⟨bg, og, he, hcg⟩ := hout.sl.addr (by rw [wCells_length, schedI_length]; omega)
        simp only [Option.some.injEq, Addr.mk.injEq, and_true] at he
        obtain ⟨rfl, rfl⟩ := he
        have hcell : ∀ j, j < k → (wCells (schedI b k))[j]? = some (.int .u32 ((schedI b k).getD j 0)) ∧ wr.cell? ⟨g, j, none⟩ = some (.int .u32 ((schedI b k).getD j 0)) := by
          intro j hj
          have hjl : j < (schedI b k).length := by rw [schedI_length]; exact hj
          have e : (schedI b k).getD j 0 = (schedI b k)[j] := by simp [List.getD, hjl]
          have h1 : (wCells (schedI b k))[j]? = some (.int .u32 ((schedI b k).getD j 0)) := by rw [e]; exact wCells_get _ j hjl
          have := hcg j _ h1
          rw [Nat.zero_add] at this
          exact ⟨h1, this⟩
        obtain ⟨g16, c16⟩ := hcell (k - 16) (by omega)
        obtain ⟨g15, c15⟩ := hcell (k - 15) (by omega)
        obtain ⟨g7, c7⟩ := hcell (k - 7) (by omega)
        obtain ⟨g2, c2⟩ := hcell (k - 2) (by omega)
        generalize (schedI b k).getD (k - 16) 0 = x16 at c16 g16 hnext
        generalize (schedI b k).getD (k - 15) 0 = x15 at c15 g15 hnext
        generalize (schedI b k).getD (k - 7) 0 = x7 at c7 g7 hnext
        generalize (schedI b k).getD (k - 2) 0 = x2 at c2 g2 hnext
        have hk64 : (k : Int) < 64 := by omega
        have hk16 : ¬ (k : Int) < 16 := by omega
        have i16 := run_idxW g k cap ((k : Int) - 16) (k - 16) (by omega) (by omega)
        have i15 := run_idxW g k cap ((k : Int) - 15) (k - 15) (by omega) (by omega)
        have i7 := run_idxW g k cap ((k : Int) - 7) (k - 7) (by omega) (by omega)
        have i2 := run_idxW g k cap ((k : Int) - 2) (k - 2) (by omega) (by omega)
        have HNX := Lib.hid hnext
        have HO := Lib.hid hout
        have G16 := Lib.hid g16
        have G7 := Lib.hid g7
        have hss := hB.size
        have hgl : g < wr.heap.size := World.block_lt_of_cell? wr _ c16
        clear hout hnext hcg hcell g16 g15 g7 g2
        go_wp2_with fail
        have e16 : IntKind.i64.wrap ((k : Int) - 16) = (k : Int) - 16 := by rw [IntKind.wrap_i64]; omega
        have e7 : IntKind.i64.wrap ((k : Int) - 7) = (k : Int) - 7 := by rw [IntKind.wrap_i64]; omega
        have s16 : wr.drew.cell? ⟨g, k - 16, none⟩ = some (.int .u32 x16) := c16
        have s7 : wr.drew.cell? ⟨g, k - 7, none⟩ = some (.int .u32 x7) := c7
        clear c15 c2 i15 i2
        go_region_held3 (fun W : World => W.cell? ⟨g, k - 16, none⟩ = some (.int .u32 x16) ∧ W.cell? ⟨g, k - 7, none⟩ = some (.int .u32 x7))
          (first | (with_reducible exact ⟨s16, s7⟩) | (with_reducible exact ⟨t16, t7⟩) | (with_reducible exact ⟨alloc_cell _ c16, alloc_cell _ c7⟩))
          (first | (go_at_call 56; refine (refTurn_q _ _ _ (by decide) (by decide)).mono ?_; rintro e w' ⟨rfl, rfl⟩) | (refine step_app_in rfl (.tmp 75) (.tmp 105) elWords rfl w.heap.size (g := g) (n := k) (cap := cap) (by simp [Act.eval, Act.put]) (HO.out.alloc _).drew (by omega) (by simp [Act.eval, Act.put]) (Sl.lit (n := 1) rfl rfl (by simp [Value.oneCell']) (by unfold maxLen; decide)).drew (by unfold maxLen; omega) (by omega) (by simp; omega) ?_; intro v' w2 hown2 hk2 hvb2 hwas2; have t16 := hwas2 _ _ G16.out; have t7 := hwas2 _ _ G7.out))
        have hval : IntKind.u32.wrap (IntKind.u32.wrap (IntKind.u32.wrap (x16 + bits BinOp.xor IntKind.u32 (bits BinOp.xor IntKind.u32 (tI x15 7) (tI x15 18)) (x15 / 8)) + x7) + bits BinOp.xor IntKind.u32 (bits BinOp.xor IntKind.u32 (tI x2 17) (tI x2 19)) (x2 / 1024)) = sI x16 x15 x7 x2 := by
          simp only [IntKind.wrap_u32]
          exact sI_eq _ _ _ _
        have HO2 : Hid (Own w2 w.heap.size 71 1 v' (k + 1) (wCells (schedI b (k + 1)))) := Lib.hid (by
          rw [HNX.out, wCells_append, ← hval]
          exact hown2)
        have HB2 : Hid (Below w.heap.size w w2) := Lib.hid ((hB.alloc hss _).drew.trans (hk2.below (by
          rintro j (h | h)
          · omega
          · simp at h; omega)))
        clear hown2 hk2 hvb2 hwas2 t16 t7 s16 s7 c16 c7 i16 i7 e16 e7 hB HNX HO hval
        go_wp2_with fail
        go_roundw
        case rel => exact ⟨k + 1, by omega, by go_num, HO2.out, HB2.out⟩
        case measure => simp [intOf]; omega
      · obtain rfl : k = 64 := by omega
        obtain ⟨a0, b0, c0, d0, e0, f0, g0, i0, hhd⟩ := list8 h HHL.out
        obtain ⟨g, cap, cur, rfl, hgB, _, hkc, hcm, _⟩ := hout.form' (by omega)
        obtain ⟨bg, og, he, hcg⟩ := hout.sl.addr (by rw [wCells_length, schedI_length]; omega)
        simp only [Option.some.injEq, Addr.mk.injEq, and_true] at he
        obtain ⟨rfl, rfl⟩ := he
        have x0 : wr.cell? ⟨bh, oh, none⟩ = some (.int .u32 a0) := below_cell hB (HCH.out 0 _ (by rw [hhd]; rfl))
        have x1 : wr.cell? ⟨bh, oh + 1, none⟩ = some (.int .u32 b0) := below_cell hB (HCH.out 1 _ (by rw [hhd]; rfl))
        have x2 : wr.cell? ⟨bh, oh + 2, none⟩ = some (.int .u32 c0) := below_cell hB (HCH.out 2 _ (by rw [hhd]; rfl))
        have x3 : wr.cell? ⟨bh, oh + 3, none⟩ = some (.int .u32 d0) := below_cell hB (HCH.out 3 _ (by rw [hhd]; rfl))
        have x4 : wr.cell? ⟨bh, oh + 4, none⟩ = some (.int .u32 e0) := below_cell hB (HCH.out 4 _ (by rw [hhd]; rfl))
        have x5 : wr.cell? ⟨bh, oh + 5, none⟩ = some (.int .u32 f0) := below_cell hB (HCH.out 5 _ (by rw [hhd]; rfl))
        have x6 : wr.cell? ⟨bh, oh + 6, none⟩ = some (.int .u32 g0) := below_cell hB (HCH.out 6 _ (by rw [hhd]; rfl))
        have x7 : wr.cell? ⟨bh, oh + 7, none⟩ = some (.int .u32 i0) := below_cell hB (HCH.out 7 _ (by rw [hhd]; rfl))
        have hW : ∀ j, j < 64 → wr.cell? ⟨g, j, none⟩ = some (.int .u32 ((schedI b 64).getD j 0)) := by
          intro j hj
          have hjl : j < (schedI b 64).length := by rw [schedI_length]; exact hj
          have e : (schedI b 64).getD j 0 = (schedI b 64)[j] := by simp [List.getD, hjl]
          have := hcg j _ (wCells_get _ j hjl)
          rw [Nat.zero_add] at this
          rw [e]
          exact this
        have hK : ∀ j, j < 64 → wr.cell? ⟨bk, ok + j, none⟩ = some (.int .u32 (K.getD j 0)) := by
          intro j hj
          have hjl : j < K.length := by rw [HKL.out]; exact hj
          have e : K.getD j 0 = K[j] := by simp [List.getD, hjl]
          have := below_cell hB (HCK.out j _ (wCells_get _ j hjl))
          rw [e]
          exact this
        have HWW := Lib.hid hW
        have HKK := Lib.hid hK
        have HD := Lib.hid hhd
        have HBr := Lib.hid hB
        have hss := hB.size
        have hbhl : bh < w.heap.size := World.block_lt_of_cell? w _ (HCH.out 0 _ (by rw [hhd]; rfl))
        unfold maxLen at hcm
        obtain ⟨W, hWd⟩ : ∃ W, W = schedI b 64 := ⟨_, rfl⟩
        rw [← hWd] at HWW
        have HWD := Lib.hid hWd
        clear hout hcg hW hK hhd hB hWd
        go_wp2_with fail
        go_quiet (fail)
        obtain ⟨w1, hw1⟩ : ∃ w1, w1 = wr.drewN nq := ⟨_, rfl⟩
        rw [← hw1]
        replace x0 : w1.cell? ⟨bh, oh, none⟩ = some (.int .u32 a0) := by rw [hw1]; exact x0
        replace x1 : w1.cell? ⟨bh, oh + 1, none⟩ = some (.int .u32 b0) := by rw [hw1]; exact x1
        replace x2 : w1.cell? ⟨bh, oh + 2, none⟩ = some (.int .u32 c0) := by rw [hw1]; exact x2
        replace x3 : w1.cell? ⟨bh, oh + 3, none⟩ = some (.int .u32 d0) := by rw [hw1]; exact x3
        replace x4 : w1.cell? ⟨bh, oh + 4, none⟩ = some (.int .u32 e0) := by rw [hw1]; exact x4
        replace x5 : w1.cell? ⟨bh, oh + 5, none⟩ = some (.int .u32 f0) := by rw [hw1]; exact x5
        replace x6 : w1.cell? ⟨bh, oh + 6, none⟩ = some (.int .u32 g0) := by rw [hw1]; exact x6
        replace x7 : w1.cell? ⟨bh, oh + 7, none⟩ = some (.int .u32 i0) := by rw [hw1]; exact x7
        have HWW1 : Hid (∀ j, j < 64 → w1.cell? ⟨g, j, none⟩ = some (.int .u32 (W.getD j 0))) := Lib.hid (by rw [hw1]; exact HWW.out)
        have HKK1 : Hid (∀ j, j < 64 → w1.cell? ⟨bk, ok + j, none⟩ = some (.int .u32 (K.getD j 0))) := Lib.hid (by rw [hw1]; exact HKK.out)
        have HB1 : Hid (Below w.heap.size w w1) := Lib.hid (by rw [hw1]; exact below_drewN HBr.out _)
        clear hw1 HWW HKK HBr
        go_wp2_with fail
        go_quiet (fail)
        obtain ⟨w2, hw2⟩ : ∃ w2, w2 = w1.drewN nq := ⟨_, rfl⟩
        rw [← hw2]
        replace x0 : w2.cell? ⟨bh, oh, none⟩ = some (.int .u32 a0) := by rw [hw2]; exact x0
        replace x1 : w2.cell? ⟨bh, oh + 1, none⟩ = some (.int .u32 b0) := by rw [hw2]; exact x1
        replace x2 : w2.cell? ⟨bh, oh + 2, none⟩ = some (.int .u32 c0) := by rw [hw2]; exact x2
        replace x3 : w2.cell? ⟨bh, oh + 3, none⟩ = some (.int .u32 d0) := by rw [hw2]; exact x3
        replace x4 : w2.cell? ⟨bh, oh + 4, none⟩ = some (.int .u32 e0) := by rw [hw2]; exact x4
        replace x5 : w2.cell? ⟨bh, oh + 5, none⟩ = some (.int .u32 f0) := by rw [hw2]; exact x5
        replace x6 : w2.cell? ⟨bh, oh + 6, none⟩ = some (.int .u32 g0) := by rw [hw2]; exact x6
        replace x7 : w2.cell? ⟨bh, oh + 7, none⟩ = some (.int .u32 i0) := by rw [hw2]; exact x7
        have HWW2 : Hid (∀ j, j < 64 → w2.cell? ⟨g, j, none⟩ = some (.int .u32 (W.getD j 0))) := Lib.hid (by rw [hw2]; exact HWW1.out)
        have HKK2 : Hid (∀ j, j < 64 → w2.cell? ⟨bk, ok + j, none⟩ = some (.int .u32 (K.getD j 0))) := Lib.hid (by rw [hw2]; exact HKK1.out)
        have HB2 : Hid (Below w.heap.size w w2) := Lib.hid (by rw [hw2]; exact below_drewN HB1.out _)
        have HX : Hid (w2.cell? ⟨bh, oh, none⟩ = some (.int .u32 a0) ∧ w2.cell? ⟨bh, oh + 1, none⟩ = some (.int .u32 b0) ∧ w2.cell? ⟨bh, oh + 2, none⟩ = some (.int .u32 c0) ∧ w2.cell? ⟨bh, oh + 3, none⟩ = some (.int .u32 d0) ∧
          w2.cell? ⟨bh, oh + 4, none⟩ = some (.int .u32 e0) ∧ w2.cell? ⟨bh, oh + 5, none⟩ = some (.int .u32 f0) ∧ w2.cell? ⟨bh, oh + 6, none⟩ = some (.int .u32 g0) ∧ w2.cell? ⟨bh, oh + 7, none⟩ = some (.int .u32 i0)) := Lib.hid ⟨x0, x1, x2, x3, x4, x5, x6, x7⟩
        clear hw2 HWW1 HKK1 HB1 x0 x1 x2 x3 x4 x5 x6 x7
        go_wp2_with fail
        go_loopw [11, 12, 13, 14, 15, 16, 17, 18, 19] (fun a c d e f g i j x ws => RoundRel w2 K W h a c d e f g i j x ws) (fun _ _ _ _ _ _ _ _ x _ => 64 - (intOf x).toNat)
        case atStart => exact ⟨0, a0, b0, c0, d0, e0, f0, g0, i0, by omega, rfl, rfl, rfl, rfl, rfl, rfl, rfl, rfl, rfl, ⟨0, rfl⟩, HD.out⟩
        case round =>
          obtain ⟨m, a1, b1, c1, d1, e1, f1, g1, i1, hm, rfl, rfl, rfl, rfl, rfl, rfl, rfl, rfl, rfl, hws, hrs⟩ := hrel
          have HRS := Lib.hid hrs
          have HWS := Lib.hid hws
          clear hrs hws
          by_cases hltm : m < 64
          · have kk : wr.cell? ⟨bk, ok + m, none⟩ = some (.int .u32 (K.getD m 0)) := by obtain ⟨n, e⟩ := HWS.out; rw [e]; exact HKK2.out m hltm
            have ww : wr.cell? ⟨g, m, none⟩ = some (.int .u32 (W.getD m 0)) := by obtain ⟨n, e⟩ := HWS.out; rw [e]; exact HWW2.out m hltm
            obtain ⟨kv, hkv⟩ : ∃ kv, kv = K.getD m 0 := ⟨_, rfl⟩
            obtain ⟨wv, hwv⟩ : ∃ wv, wv = W.getD m 0 := ⟨_, rfl⟩
            rw [← hkv] at kk
            rw [← hwv] at ww
            have HKV := Lib.hid hkv
            have HWV := Lib.hid hwv
            have hm64 : (m : Int) < 64 := by omega
            clear hkv hwv
            go_wp2_with fail
            go_quiet ((go_at_call 56; exact Calls.quiet_of_same (refTurn_any _ _ _ (by decide) (by decide))))
            go_wp2_with (go_at_call 56; refine (refTurn_q _ _ _ (by decide) (by decide)).mono ?_; rintro e w' ⟨rfl, rfl⟩)
            refine ⟨⟨_, _, _, _, _, _, _, _, _, ?rel, rfl, rfl, rfl, rfl, rfl, rfl, rfl, rfl, rfl⟩, ?measure⟩
            case rel => exact ⟨m + 1, _, _, _, _, _, _, _, _, by omega, by go_num, rfl, rfl, rfl, rfl, rfl, rfl, rfl, rfl, by obtain ⟨n, e⟩ := HWS.out; rw [e]; exact ⟨n + nq, by simp [World.drewN, Nat.add_assoc]⟩, by
              rw [roundsI, HRS.out, ← HKV.out, ← HWV.out]
              exact rI_eq _ _ _ _ _ _ _ _ _ _⟩
            case measure => simp [intOf]; omega
          · obtain rfl : m = 64 := by omega
            obtain ⟨x0, x1, x2, x3, x4, x5, x6, x7⟩ := HX.out
            have hbel : Below w.heap.size w wr := by obtain ⟨n, e⟩ := HWS.out; rw [e]; exact below_drewN HB2.out n
            have hs2 := hbel.size
            replace x0 : wr.cell? ⟨bh, oh, none⟩ = some (.int .u32 a0) := by obtain ⟨n, e⟩ := HWS.out; rw [e]; exact x0
            replace x1 : wr.cell? ⟨bh, oh + 1, none⟩ = some (.int .u32 b0) := by obtain ⟨n, e⟩ := HWS.out; rw [e]; exact x1
            replace x2 : wr.cell? ⟨bh, oh + 2, none⟩ = some (.int .u32 c0) := by obtain ⟨n, e⟩ := HWS.out; rw [e]; exact x2
            replace x3 : wr.cell? ⟨bh, oh + 3, none⟩ = some (.int .u32 d0) := by obtain ⟨n, e⟩ := HWS.out; rw [e]; exact x3
            replace x4 : wr.cell? ⟨bh, oh + 4, none⟩ = some (.int .u32 e0) := by obtain ⟨n, e⟩ := HWS.out; rw [e]; exact x4
            replace x5 : wr.cell? ⟨bh, oh + 5, none⟩ = some (.int .u32 f0) := by obtain ⟨n, e⟩ := HWS.out; rw [e]; exact x5
            replace x6 : wr.cell? ⟨bh, oh + 6, none⟩ = some (.int .u32 g0) := by obtain ⟨n, e⟩ := HWS.out; rw [e]; exact x6
            replace x7 : wr.cell? ⟨bh, oh + 7, none⟩ = some (.int .u32 i0) := by obtain ⟨n, e⟩ := HWS.out; rw [e]; exact x7
            have HBL2 := Lib.hid hbel
            clear hbel
            go_wp2_with fail
            have s0 : wr.drew.cell? ⟨bh, oh, none⟩ = some (.int .u32 a0) := x0
            have s1 : wr.drew.cell? ⟨bh, oh + 1, none⟩ = some (.int .u32 b0) := x1
            have s2 : wr.drew.cell? ⟨bh, oh + 2, none⟩ = some (.int .u32 c0) := x2
            have s3 : wr.drew.cell? ⟨bh, oh + 3, none⟩ = some (.int .u32 d0) := x3
            have s4 : wr.drew.cell? ⟨bh, oh + 4, none⟩ = some (.int .u32 e0) := x4
            have s5 : wr.drew.cell? ⟨bh, oh + 5, none⟩ = some (.int .u32 f0) := x5
            have s6 : wr.drew.cell? ⟨bh, oh + 6, none⟩ = some (.int .u32 g0) := x6
            have s7 : wr.drew.cell? ⟨bh, oh + 7, none⟩ = some (.int .u32 i0) := x7
            go_region_held3 (fun V : World => V.cell? ⟨bh, oh, none⟩ = some (.int .u32 a0) ∧ V.cell? ⟨bh, oh + 1, none⟩ = some (.int .u32 b0) ∧ V.cell? ⟨bh, oh + 2, none⟩ = some (.int .u32 c0) ∧ V.cell? ⟨bh, oh + 3, none⟩ = some (.int .u32 d0) ∧ V.cell? ⟨bh, oh + 4, none⟩ = some (.int .u32 e0) ∧ V.cell? ⟨bh, oh + 5, none⟩ = some (.int .u32 f0) ∧ V.cell? ⟨bh, oh + 6, none⟩ = some (.int .u32 g0) ∧ V.cell? ⟨bh, oh + 7, none⟩ = some (.int .u32 i0))
              (first | (with_reducible exact ⟨s0, s1, s2, s3, s4, s5, s6, s7⟩) | (with_reducible exact ⟨alloc_cell _ x0, alloc_cell _ x1, alloc_cell _ x2, alloc_cell _ x3, alloc_cell _ x4, alloc_cell _ x5, alloc_cell _ x6, alloc_cell _ x7⟩))
              (fail)
            have HSt : Hid (Own (wr.alloc (Obj.cells (wCells (addW [a0, b0, c0, d0, e0, f0, g0, i0] [a1, b1, c1, d1, e1, f1, g1, i1] 8)).toArray 71)).drew w.heap.size 71 1 (.slice (some ⟨wr.heap.size, 0, none⟩) 8 8) 8 (wCells (addW h (roundsI K (schedI b 64) 64 h) 8))) := Lib.hid (by
              rw [← HWD.out, HRS.out, HD.out]
              exact (Own.at_ (w := wr) (n := 8) rfl hs2 rfl (wCells_one _) (by unfold maxLen; decide)).drew)
            have HFB : Hid (Below w.heap.size w (wr.alloc (Obj.cells (wCells (addW [a0, b0, c0, d0, e0, f0, g0, i0] [a1, b1, c1, d1, e1, f1, g1, i1] 8)).toArray 71)).drew) := Lib.hid (HBL2.out.alloc hs2 _).drew
            clear s0 s1 s2 s3 s4 s5 s6 s7 x0 x1 x2 x3 x4 x5 x6 x7
            go_wp2_with fail
            go_ret
            simp only [IntKind.wrap_u32]
            exact ⟨_, rfl, HSt.out, HFB.out⟩
end Go.Proofs.Ytdmjliehobgknaa
