/- Texts of this proof, one behind the other: RefRead, DerWhole, DerRight, Plain, AppBig, KeyT. -/
import Derived.Test.YtpjkidcfidmfaaaMwB2
import Derived.StillTailTactics
import Derived.Deep.DeepAppendWide
import Derived.Stop.BytesEq
namespace Go.Proofs.Ytpjkidcfidmfaaa
set_option linter.unusedSimpArgs false
set_option linter.unusedVariables false
open Go.RowKit
theorem aggRef : AggTy Try.prog 30 5 := AggTy.mk Try.underlying30 rfl (by kernel_rfl)
theorem elRef : Elem Try.prog 28 30 5 72 (.agg #[.int .i64 0, .int .i64 0, .int .u64 0, .slice none 0 0, .slice none 0 0]) := by
  refine Elem.mk Try.underlying28 ?_ rfl (by decide)
  kernel_rfl
theorem ref_zero : Try.prog.built 30 [] = some zs5.toArray := by kernel_rfl
structure DLr (w : World) (r : Nat) (d : Nat) (T : Int) (body : List UInt8) (inv : Value) (wr : World) (rest : List UInt8) (acc : List Tv) (lv : Value) (rows : List Value) (F : Nat → Prop) : Prop where
  bs : Bs w inv rest
  ls : LS d body = (acc ++ (LS d rest).1, (LS d rest).2)
  few : acc.length + rest.length ≤ body.length
  q : Blk wr (r + 1) [.int .i64 2, .int .i64 T, .int .u64 0, .slice none 0 0, lv] 30
  z : Blk wr r zs5 30
  own : Own wr (r + 2) 30 5 lv acc.length rows
  tvs : TvsF wr F acc rows
  f : ∀ x, F x → r + 2 ≤ x ∧ x < wr.heap.size ∧ lv.ownBlock ≠ some x
  v : ∀ x, lv.ownBlock = some x → r + 2 ≤ x ∧ x < wr.heap.size
  below : Below r w wr
  size : r + 2 ≤ wr.heap.size
theorem readS_bad {d : Nat} {b : List UInt8} {n a : Nat} {e : Int} (h : sizeS b = (n, a, e)) (he : e ≠ 0) : readS (d + 1) b = (.zero, 0, e) := by
  rw [readS, h]
  simp only
  rw [if_pos he]
set_option maxHeartbeats 8000000 in
set_option maxRecDepth 100000 in
theorem refRead_any : ∀ (d : Nat) (D : Int) (v : Value) (b : List UInt8) (w : World), D = 9 - (d : Int) → d ≤ 8 → Bs w v b → b.length ≤ 1048576 →
    Calls Try.prog 20 #[v, .int .i64 D] w (RdRes w (readS d b)) := by
  intro d
  induction d with
  | zero =>
    intro D v b w hD hd h hbl
    have hD' : (8 : Int) < D := by omega
    have HZ := hqZ ref_zero
    have HN := hqZ (Blk.new w zs5 30)
    have HR : Hid (readS 0 b = (.zero, 0, 4)) := hqZ rfl
    clear hD
    go_enter Try.func20, Try.ntmps20
    go_wp2_with (first | ((with_reducible show wpList _ _ _ (⟨some 20, _, _, _, _, _⟩ :: _) _ _); refine wpList_bld rfl rfl HZ.out ?_) | ((with_reducible show wpList _ _ _ (⟨none, .store _ (.tmp 4) (.tmp 20), _, _, _, _⟩ :: _) _ _); refine wpList_stAgg rfl (.tmp 4) (.tmp 20) aggRef rfl rfl (vs := zs5) rfl rfl HN.out (Nat.le_refl _) zs5_one ?_))
    intro w2 h2 k2
    have h2' : Blk w2 w.heap.size zs5 30 := by simpa [zs5] using h2
    have H2 := hqZ h2'
    have HB2 : Hid (Below w.heap.size w w2) := hqZ (((Below.refl _ _).alloc (Nat.le_refl _) _).trans (k2.below (by omega)))
    clear h2 h2' k2
    go_wp2_with fail
    rw [HR.out]
    exact bodyPost_ret (results_agg_tmp2 rfl aggRef rfl (cs := zs5) rfl H2.out.cellsAll) rfl ⟨zs5, rfl, TvF.zero _ _, HB2.out⟩
  | succ d ih =>
    intro D v b w hD hd h hbl
    have hD' : ¬ (8 : Int) < D := by omega
    have HD := hqZ hD
    have HIH := hqZ ih
    have HZ := hqZ ref_zero
    have HN := hqZ (Blk.new w zs5 30)
    clear hD ih
    obtain ⟨a, cap, rfl, hcap, hcm⟩ := h.form
    have hmx := hcm
    unfold maxLen at hcm
    by_cases h2 : b.length < 2
    · have HR : Hid (readS (d + 1) b = (.zero, 0, 1)) := hqZ (readS_bad (n := 0) (a := 0) (by unfold sizeS; rw [if_pos h2]) (by decide))
      have h2' : (b.length : Int) < 2 := by omega
      clear h2 h
      go_enter Try.func20, Try.ntmps20
      go_wp2_with (first | ((with_reducible show wpList _ _ _ (⟨some 24, _, _, _, _, _⟩ :: _) _ _); refine wpList_bld rfl rfl HZ.out ?_) | ((with_reducible show wpList _ _ _ (⟨none, .store _ (.tmp 4) (.tmp 24), _, _, _, _⟩ :: _) _ _); refine wpList_stAgg rfl (.tmp 4) (.tmp 24) aggRef rfl rfl (vs := zs5) rfl rfl HN.out (Nat.le_refl _) zs5_one ?_))
      intro w2 h2 k2
      have h2' : Blk w2 w.heap.size zs5 30 := by simpa [zs5] using h2
      have H2 := hqZ h2'
      have HB2 : Hid (Below w.heap.size w w2) := hqZ (((Below.refl _ _).alloc (Nat.le_refl _) _).trans (k2.below (by omega)))
      clear h2 h2' k2
      go_wp2_with fail
      rw [HR.out]
      exact bodyPost_ret (results_agg_tmp2 rfl aggRef rfl (cs := zs5) rfl H2.out.cellsAll) rfl ⟨zs5, rfl, TvF.zero _ _, HB2.out⟩
    · obtain ⟨bb, off, rfl, hc⟩ := h.addr (by rw [bCells_length]; omega)
      have hb1 : b[1]'(by omega) = b.getD 1 0 := by rw [List.getD_eq_getElem?_getD, List.getElem?_eq_getElem (by omega)]; rfl
      have hc1 : w.cell? ⟨bb, off + 1, none⟩ = some (.int .u8 (b.getD 1 0).toNat) := by rw [← hb1]; exact hc 1 _ (bCells_get b 1 (by omega))
      have c1 : (w.alloc (.cells #[.int .i64 0, .int .i64 0, .int .u64 0, .slice none 0 0, .slice none 0 0] 30)).cell? ⟨bb, off + 1, none⟩ = some (.int .u8 (b.getD 1 0).toNat) := below_cell ((Below.refl _ _).alloc (Nat.le_refl _) _) hc1
      have hlt := (b.getD 1 0).toNat_lt
      have HB := hqZ h
      have HBA := hqZ (h.alloc (.cells zs5.toArray 30))
      have HC := hqZ hc
      have hcutr := fun j hj hj2 => run_cut2 (some ⟨bb, off, none⟩) b.length cap 2 j hj hj2
      have HCUT := hqZ hcutr
      have h2' : ¬ (b.length : Int) < 2 := by omega
      have hS : sizeS b = if (b.getD 1 0).toNat < 128 then (if b.length - 2 < (b.getD 1 0).toNat then (0, 0, 1) else ((b.getD 1 0).toNat, 2, 0))
        else if (b.getD 1 0).toNat = 128 ∨ 130 < (b.getD 1 0).toNat then (0, 0, 3)
        else if b.length < (b.getD 1 0).toNat - 126 then (0, 0, 1)
        else if getN ((b.drop 2).take ((b.getD 1 0).toNat - 128)) < 128 ∨ ((b.getD 1 0).toNat = 130 ∧ getN ((b.drop 2).take ((b.getD 1 0).toNat - 128)) < 256) then (0, 0, 3)
        else if b.length - ((b.getD 1 0).toNat - 126) < getN ((b.drop 2).take ((b.getD 1 0).toNat - 128)) then (0, 0, 1)
        else (getN ((b.drop 2).take ((b.getD 1 0).toNat - 128)), (b.getD 1 0).toNat - 126, 0) := by unfold sizeS; rw [if_neg h2]
      have hb2 : 1 < b.length := by omega
      generalize (b.getD 1 0).toNat = c1' at c1 hlt hS
      clear hc hb1 hc1 h hcutr h2
      by_cases hbad : c1' = 128 ∨ 130 < c1'
      · rw [if_neg (by omega), if_pos hbad] at hS
        have HR : Hid (readS (d + 1) b = (.zero, 0, 3)) := hqZ (readS_bad hS (by decide))
        clear hS
        rcases hbad with rfl | hbad
        · go_enter Try.func20, Try.ntmps20
          go_wp2_with (first | ((with_reducible show wpList _ _ _ (⟨some 35, _, _, _, _, _⟩ :: _) _ _); refine wpList_bld rfl rfl HZ.out ?_) | ((with_reducible show wpList _ _ _ (⟨none, .store _ (.tmp 4) (.tmp 35), _, _, _, _⟩ :: _) _ _); refine wpList_stAgg rfl (.tmp 4) (.tmp 35) aggRef rfl rfl (vs := zs5) rfl rfl HN.out (Nat.le_refl _) zs5_one ?_))
          intro w2 h2 k2
          have h2' : Blk w2 w.heap.size zs5 30 := by simpa [zs5] using h2
          have H2 := hqZ h2'
          have HB2 : Hid (Below w.heap.size w w2) := hqZ (((Below.refl _ _).alloc (Nat.le_refl _) _).trans (k2.below (by omega)))
          clear h2 h2' k2
          go_wp2_with fail
          rw [HR.out]
          exact bodyPost_ret (results_agg_tmp2 rfl aggRef rfl (cs := zs5) rfl H2.out.cellsAll) rfl ⟨zs5, rfl, TvF.zero _ _, HB2.out⟩
        · have hb1' : ((c1' : Int) == 128) = false := by simp; omega
          have hb2' : (130 : Int) < c1' := by omega
          clear hbad
          go_enter Try.func20, Try.ntmps20
          go_wp2_with (first | ((with_reducible show wpList _ _ _ (⟨some 35, _, _, _, _, _⟩ :: _) _ _); refine wpList_bld rfl rfl HZ.out ?_) | ((with_reducible show wpList _ _ _ (⟨none, .store _ (.tmp 4) (.tmp 35), _, _, _, _⟩ :: _) _ _); refine wpList_stAgg rfl (.tmp 4) (.tmp 35) aggRef rfl rfl (vs := zs5) rfl rfl HN.out (Nat.le_refl _) zs5_one ?_))
          intro w2 h2 k2
          have h2' : Blk w2 w.heap.size zs5 30 := by simpa [zs5] using h2
          have H2 := hqZ h2'
          have HB2 : Hid (Below w.heap.size w w2) := hqZ (((Below.refl _ _).alloc (Nat.le_refl _) _).trans (k2.below (by omega)))
          clear h2 h2' k2
          go_wp2_with fail
          rw [HR.out]
          exact bodyPost_ret (results_agg_tmp2 rfl aggRef rfl (cs := zs5) rfl H2.out.cellsAll) rfl ⟨zs5, rfl, TvF.zero _ _, HB2.out⟩
      · have hb1' : ((c1' : Int) == 128) = false := by simp; omega
        have hb2' : ¬ (130 : Int) < c1' := by omega
        have HS := hqZ hS
        clear hS
        go_enter Try.func20, Try.ntmps20
        go_upto_if 37 with fail
        go_cut [7, 8] (fun n7 n8 wx => wx = w.alloc (.cells zs5.toArray 30) ∧ ∃ n at' : Nat, n7 = .int .i64 n ∧ n8 = .int .i64 at' ∧ (sizeS b = if b.length - at' < n then (0, 0, 1) else (n, at', 0)) ∧ at' ≤ b.length ∧ 2 ≤ at' ∧ n < 65536)
        case first =>
          by_cases hs : c1' < 128
          · have hs' : ¬ (128 : Int) < c1' := by omega
            have hS := HS.out
            rw [if_pos hs] at hS
            have HS := hqZ hS
            clear hs hS
            go_wp2_with fail
            go_meet
            exact ⟨rfl, c1', 2, rfl, rfl, HS.out, by omega, by omega, by omega⟩
          · rcases (by omega : c1' = 129 ∨ c1' = 130) with rfl | rfl
            · have hS := HS.out
              rw [if_neg (by omega), if_neg (by omega)] at hS
              by_cases hl : b.length < 3
              · rw [if_pos (by omega)] at hS
                have HR : Hid (readS (d + 1) b = (.zero, 0, 1)) := hqZ (readS_bad hS (by decide))
                have hl' : (b.length : Int) < 3 := by omega
                clear hS
                go_wp2_with (first | ((with_reducible show wpList _ _ _ (⟨some 44, _, _, _, _, _⟩ :: _) _ _); refine wpList_bld rfl rfl HZ.out ?_) | ((with_reducible show wpList _ _ _ (⟨none, .store _ (.tmp 4) (.tmp 44), _, _, _, _⟩ :: _) _ _); refine wpList_stAgg rfl (.tmp 4) (.tmp 44) aggRef rfl rfl (vs := zs5) rfl rfl HN.out (Nat.le_refl _) zs5_one ?_))
                intro w2 h2 k2
                have h2' : Blk w2 w.heap.size zs5 30 := by simpa [zs5] using h2
                have H2 := hqZ h2'
                have HB2 : Hid (Below w.heap.size w w2) := hqZ (((Below.refl _ _).alloc (Nat.le_refl _) _).trans (k2.below (by omega)))
                clear h2 h2' k2
                go_wp2_with fail
                rw [HR.out]
                exact bodyPost_ret (results_agg_tmp2 rfl aggRef rfl (cs := zs5) rfl H2.out.cellsAll) rfl ⟨zs5, rfl, TvF.zero _ _, HB2.out⟩
              · rw [if_neg (by omega)] at hS
                have hl' : ¬ (b.length : Int) < 3 := by omega
                have hrun : ∀ W, (Instr.sliceAt 22 (.slice (some ⟨bb, off, none⟩) b.length cap) (some (.int .i64 2)) (some (.int .i64 3)) none).run Try.prog W = .ok (.slice (cutA (some ⟨bb, off, none⟩) cap 2) 1 (cap - 2)) W := fun W => HCUT.out 3 (by omega) (by omega) W
                have hbs : Bs (w.alloc (.cells zs5.toArray 30)) (.slice (cutA (some ⟨bb, off, none⟩) cap 2) 1 (cap - 2)) ((b.drop 2).take 1) := HBA.out.cut 2 3 (by omega) (by omega)
                rw [show 129 - 128 = 1 from rfl, show 129 - 126 = 3 from rfl] at hS
                have hll : ((b.drop 2).take 1).length = 1 := by rw [List.length_take, List.length_drop]; omega
                have hgl := getN_lt ((b.drop 2).take 1)
                rw [hll] at hgl
                have HG := hqZ (refGet_any _ _ _ hbs)
                have hgb : getB ((b.drop 2).take 1) = (getN ((b.drop 2).take 1), true) := by unfold getB; rw [if_neg (by omega)]
                rw [hgb] at HG
                generalize getN ((b.drop 2).take 1) = n at HG hS hgl
                have hn : n < 256 := by omega
                clear hll hgl hgb hbs
                rcases (by omega : n < 128 ∨ (128 ≤ n ∧ n < 256) ∨ 256 ≤ n) with hq | ⟨hq, hq2⟩ | hq
                · rw [if_pos (.inl hq)] at hS
                  have hq' : (n : Int) < 128 := by omega
                  have HR : Hid (readS (d + 1) b = (.zero, 0, 3)) := hqZ (readS_bad hS (by decide))
                  clear hS
                  go_wp2_with fail
                  refine HG.out.mono ?_
                  rintro e w' ⟨rfl, hw'⟩
                  rw [← hw']
                  clear hw'
                  go_wp2_with (first | ((with_reducible show wpList _ _ _ (⟨some 64, _, _, _, _, _⟩ :: _) _ _); refine wpList_bld rfl rfl HZ.out ?_) | ((with_reducible show wpList _ _ _ (⟨none, .store _ (.tmp 4) (.tmp 64), _, _, _, _⟩ :: _) _ _); refine wpList_stAgg rfl (.tmp 4) (.tmp 64) aggRef rfl rfl (vs := zs5) rfl rfl HN.out (Nat.le_refl _) zs5_one ?_))
                  intro w2 h2 k2
                  have h2' : Blk w2 w.heap.size zs5 30 := by simpa [zs5] using h2
                  have H2 := hqZ h2'
                  have HB2 : Hid (Below w.heap.size w w2) := hqZ (((Below.refl _ _).alloc (Nat.le_refl _) _).trans (k2.below (by omega)))
                  clear h2 h2' k2
                  go_wp2_with fail
                  rw [HR.out]
                  exact bodyPost_ret (results_agg_tmp2 rfl aggRef rfl (cs := zs5) rfl H2.out.cellsAll) rfl ⟨zs5, rfl, TvF.zero _ _, HB2.out⟩
                · have hq' : ¬ (n : Int) < 128 := by omega
                  have hq2' : (n : Int) < 256 := by omega
                  rw [if_neg (by omega)] at hS
                  have HS9 := hqZ hS
                  clear hS
                  go_wp2_with fail
                  refine HG.out.mono ?_
                  rintro e w' ⟨rfl, hw'⟩
                  rw [← hw']
                  clear hw'
                  go_wp2_with fail
                  go_meet
                  exact ⟨rfl, n, 3, rfl, rfl, HS9.out, by omega, by omega, by omega⟩
                · omega
            · have hS := HS.out
              rw [if_neg (by omega), if_neg (by omega)] at hS
              by_cases hl : b.length < 4
              · rw [if_pos (by omega)] at hS
                have HR : Hid (readS (d + 1) b = (.zero, 0, 1)) := hqZ (readS_bad hS (by decide))
                have hl' : (b.length : Int) < 4 := by omega
                clear hS
                go_wp2_with (first | ((with_reducible show wpList _ _ _ (⟨some 44, _, _, _, _, _⟩ :: _) _ _); refine wpList_bld rfl rfl HZ.out ?_) | ((with_reducible show wpList _ _ _ (⟨none, .store _ (.tmp 4) (.tmp 44), _, _, _, _⟩ :: _) _ _); refine wpList_stAgg rfl (.tmp 4) (.tmp 44) aggRef rfl rfl (vs := zs5) rfl rfl HN.out (Nat.le_refl _) zs5_one ?_))
                intro w2 h2 k2
                have h2' : Blk w2 w.heap.size zs5 30 := by simpa [zs5] using h2
                have H2 := hqZ h2'
                have HB2 : Hid (Below w.heap.size w w2) := hqZ (((Below.refl _ _).alloc (Nat.le_refl _) _).trans (k2.below (by omega)))
                clear h2 h2' k2
                go_wp2_with fail
                rw [HR.out]
                exact bodyPost_ret (results_agg_tmp2 rfl aggRef rfl (cs := zs5) rfl H2.out.cellsAll) rfl ⟨zs5, rfl, TvF.zero _ _, HB2.out⟩
              · rw [if_neg (by omega)] at hS
                have hl' : ¬ (b.length : Int) < 4 := by omega
                have hrun : ∀ W, (Instr.sliceAt 22 (.slice (some ⟨bb, off, none⟩) b.length cap) (some (.int .i64 2)) (some (.int .i64 4)) none).run Try.prog W = .ok (.slice (cutA (some ⟨bb, off, none⟩) cap 2) 2 (cap - 2)) W := fun W => HCUT.out 4 (by omega) (by omega) W
                have hbs : Bs (w.alloc (.cells zs5.toArray 30)) (.slice (cutA (some ⟨bb, off, none⟩) cap 2) 2 (cap - 2)) ((b.drop 2).take 2) := HBA.out.cut 2 4 (by omega) (by omega)
                rw [show 130 - 128 = 2 from rfl, show 130 - 126 = 4 from rfl] at hS
                have hll : ((b.drop 2).take 2).length = 2 := by rw [List.length_take, List.length_drop]; omega
                have hgl := getN_lt ((b.drop 2).take 2)
                rw [hll] at hgl
                have HG := hqZ (refGet_any _ _ _ hbs)
                have hgb : getB ((b.drop 2).take 2) = (getN ((b.drop 2).take 2), true) := by unfold getB; rw [if_neg (by omega)]
                rw [hgb] at HG
                generalize getN ((b.drop 2).take 2) = n at HG hS hgl
                have hn : n < 65536 := by omega
                clear hll hgl hgb hbs
                rcases (by omega : n < 128 ∨ (128 ≤ n ∧ n < 256) ∨ 256 ≤ n) with hq | ⟨hq, hq2⟩ | hq
                · rw [if_pos (.inl hq)] at hS
                  have hq' : (n : Int) < 128 := by omega
                  have HR : Hid (readS (d + 1) b = (.zero, 0, 3)) := hqZ (readS_bad hS (by decide))
                  clear hS
                  go_wp2_with fail
                  refine HG.out.mono ?_
                  rintro e w' ⟨rfl, hw'⟩
                  rw [← hw']
                  clear hw'
                  go_wp2_with (first | ((with_reducible show wpList _ _ _ (⟨some 64, _, _, _, _, _⟩ :: _) _ _); refine wpList_bld rfl rfl HZ.out ?_) | ((with_reducible show wpList _ _ _ (⟨none, .store _ (.tmp 4) (.tmp 64), _, _, _, _⟩ :: _) _ _); refine wpList_stAgg rfl (.tmp 4) (.tmp 64) aggRef rfl rfl (vs := zs5) rfl rfl HN.out (Nat.le_refl _) zs5_one ?_))
                  intro w2 h2 k2
                  have h2' : Blk w2 w.heap.size zs5 30 := by simpa [zs5] using h2
                  have H2 := hqZ h2'
                  have HB2 : Hid (Below w.heap.size w w2) := hqZ (((Below.refl _ _).alloc (Nat.le_refl _) _).trans (k2.below (by omega)))
                  clear h2 h2' k2
                  go_wp2_with fail
                  rw [HR.out]
                  exact bodyPost_ret (results_agg_tmp2 rfl aggRef rfl (cs := zs5) rfl H2.out.cellsAll) rfl ⟨zs5, rfl, TvF.zero _ _, HB2.out⟩
                · have hq' : ¬ (n : Int) < 128 := by omega
                  have hq2' : (n : Int) < 256 := by omega
                  rw [if_pos (.inr ⟨rfl, hq2⟩)] at hS
                  have HR : Hid (readS (d + 1) b = (.zero, 0, 3)) := hqZ (readS_bad hS (by decide))
                  clear hS
                  go_wp2_with fail
                  refine HG.out.mono ?_
                  rintro e w' ⟨rfl, hw'⟩
                  rw [← hw']
                  clear hw'
                  go_wp2_with (first | ((with_reducible show wpList _ _ _ (⟨some 64, _, _, _, _, _⟩ :: _) _ _); refine wpList_bld rfl rfl HZ.out ?_) | ((with_reducible show wpList _ _ _ (⟨none, .store _ (.tmp 4) (.tmp 64), _, _, _, _⟩ :: _) _ _); refine wpList_stAgg rfl (.tmp 4) (.tmp 64) aggRef rfl rfl (vs := zs5) rfl rfl HN.out (Nat.le_refl _) zs5_one ?_))
                  intro w2 h2 k2
                  have h2' : Blk w2 w.heap.size zs5 30 := by simpa [zs5] using h2
                  have H2 := hqZ h2'
                  have HB2 : Hid (Below w.heap.size w w2) := hqZ (((Below.refl _ _).alloc (Nat.le_refl _) _).trans (k2.below (by omega)))
                  clear h2 h2' k2
                  go_wp2_with fail
                  rw [HR.out]
                  exact bodyPost_ret (results_agg_tmp2 rfl aggRef rfl (cs := zs5) rfl H2.out.cellsAll) rfl ⟨zs5, rfl, TvF.zero _ _, HB2.out⟩
                · have hq' : ¬ (n : Int) < 128 := by omega
                  have hq2' : ¬ (n : Int) < 256 := by omega
                  rw [if_neg (by omega)] at hS
                  have HS9 := hqZ hS
                  clear hS
                  go_wp2_with fail
                  refine HG.out.mono ?_
                  rintro e w' ⟨rfl, hw'⟩
                  rw [← hw']
                  clear hw'
                  go_wp2_with fail
                  go_meet
                  exact ⟨rfl, n, 4, rfl, rfl, HS9.out, by omega, by omega, by omega⟩
        case rest =>
        obtain ⟨rfl, n, at', rfl, rfl, hs, hatl, hat2, hn⟩ := hcut
        clear c1
        by_cases hr : b.length - at' < n
        · rw [if_pos hr] at hs
          have HR : Hid (readS (d + 1) b = (.zero, 0, 1)) := hqZ (readS_bad hs (by decide))
          have hr' : (b.length : Int) - at' < n := by omega
          clear hs hr
          go_wp2_with (first | ((with_reducible show wpList _ _ _ (⟨some 71, _, _, _, _, _⟩ :: _) _ _); refine wpList_bld rfl rfl HZ.out ?_) | ((with_reducible show wpList _ _ _ (⟨none, .store _ (.tmp 4) (.tmp 71), _, _, _, _⟩ :: _) _ _); refine wpList_stAgg rfl (.tmp 4) (.tmp 71) aggRef rfl rfl (vs := zs5) rfl rfl HN.out (Nat.le_refl _) zs5_one ?_))
          intro w2 h2 k2
          have h2' : Blk w2 w.heap.size zs5 30 := by simpa [zs5] using h2
          have H2 := hqZ h2'
          have HB2 : Hid (Below w.heap.size w w2) := hqZ (((Below.refl _ _).alloc (Nat.le_refl _) _).trans (k2.below (by omega)))
          clear h2 h2' k2
          go_wp2_with fail
          rw [HR.out]
          exact bodyPost_ret (results_agg_tmp2 rfl aggRef rfl (cs := zs5) rfl H2.out.cellsAll) rfl ⟨zs5, rfl, TvF.zero _ _, HB2.out⟩
        · rw [if_neg hr] at hs
          have hr' : ¬ (b.length : Int) - at' < n := by omega
          obtain ⟨_, hatn, hat4⟩ := sizeS_ok hs
          have hb0 : b[0]'(by omega) = b.getD 0 0 := by rw [List.getD_eq_getElem?_getD, List.getElem?_eq_getElem (by omega)]; rfl
          have hlt := (b.getD 0 0).toNat_lt
          have hR : readS (d + 1) b = if 2 < (b.getD 0 0).toNat / 64 ∨ 30 < (b.getD 0 0).toNat % 64 then (.zero, 0, 2)
              else if (b.getD 0 0).toNat / 64 = 0 then
                (if (getB ((b.drop at').take n)).2 = false ∨ (1 < n ∧ (b.drop at').getD 0 0 = 0) then (.zero, 0, 4)
                 else (.mk 0 ((b.getD 0 0).toNat % 64 : Nat) (getB ((b.drop at').take n)).1 [] [], at' + n, 0))
              else if (b.getD 0 0).toNat / 64 = 1 then (.mk 1 ((b.getD 0 0).toNat % 64 : Nat) 0 ((b.drop at').take n) [], at' + n, 0)
              else match listS (readS d) n ((b.drop at').take n) with
                | (l, e) => if e = 0 then (.mk 2 ((b.getD 0 0).toNat % 64 : Nat) 0 [] l, at' + n, 0) else (.zero, 0, e) := by
            rw [readS, hs]
            simp only
            rw [if_neg (by decide)]
          have c0 : (w.alloc (.cells zs5.toArray 30)).drew.cell? ⟨bb, off, none⟩ = some (.int .u8 (b.getD 0 0).toNat) := by
            rw [← hb0]
            exact below_cell (((Below.refl _ _).alloc (Nat.le_refl _) (.cells zs5.toArray 30)).drew) (HC.out 0 _ (bCells_get b 0 (by omega)))
          have c0' : ((w.alloc (.cells zs5.toArray 30)).alloc (.cells #[.int .i64 0, .int .i64 0, .int .u64 0, .slice none 0 0, .slice none 0 0] 30)).drew.cell? ⟨bb, off, none⟩ = some (.int .u8 (b.getD 0 0).toNat) := by
            rw [← hb0]
            exact below_cell ((((Below.refl _ _).alloc (Nat.le_refl _) (.cells zs5.toArray 30)).alloc (by simp) _).drew) (HC.out 0 _ (bCells_get b 0 (by omega)))
          have HR := hqZ hR
          have hlen0 : 0 < b.length := by omega
          generalize (b.getD 0 0).toNat = c at c0 c0' hlt HR
          clear hR hs hb0
          go_wp2_with fail
          go_region
          have e1 : (c : Int) / 64 = ((c / 64 : Nat) : Int) := by omega
          have e2 : (c : Int) % 64 = ((c % 64 : Nat) : Int) := by omega
          rw [e1, e2]
          clear c0 c0' e1 e2
          have hK : c / 64 ≤ 3 := by omega
          have hT : c % 64 ≤ 63 := by omega
          generalize c / 64 = K at HR hK ⊢
          generalize c % 64 = T at HR hT ⊢
          generalize hW1 : ((w.alloc (.cells zs5.toArray 30)).alloc (.cells #[.int .i64 K, .int .i64 T, .int .u64 0, .slice none 0 0, .slice none 0 0] 30)).drew = W1
          have hB1 : Below w.heap.size w W1 := by rw [← hW1]; exact (((Below.refl _ _).alloc (Nat.le_refl _) _).alloc (by simp) _).drew
          have hz1 : W1.heap.size = w.heap.size + 2 := by rw [← hW1]; simp [World.drew]
          have hrb : Blk W1 w.heap.size zs5 30 := by rw [← hW1]; exact ((Blk.new w zs5 _).alloc _).drew
          have hqb : Blk W1 (w.heap.size + 1) [.int .i64 K, .int .i64 T, .int .u64 0, .slice none 0 0, .slice none 0 0] 30 := by rw [← hW1]; exact (Blk.at_ (by simp)).drew
          have HB1 := hqZ hB1
          have HRB := hqZ hrb
          have HQB := hqZ hqb
          have q0 : W1.cell? ⟨w.heap.size + 1, 0, none⟩ = some (.int .i64 K) := by rw [hqb.cell]; rfl
          have q1 : W1.cell? ⟨w.heap.size + 1, 1, none⟩ = some (.int .i64 T) := by rw [hqb.cell]; rfl
          clear hB1 hrb hqb hW1 HN HS
          by_cases hk2 : 2 < K
          · have hR := HR.out
            rw [if_pos (.inl hk2)] at hR
            have HR := hqZ hR
            have hk2' : (2 : Int) < K := by omega
            clear hR
            go_wp2_with (first | ((with_reducible show wpList _ _ _ (⟨some 91, _, _, _, _, _⟩ :: _) _ _); refine wpList_bld rfl rfl HZ.out ?_) | ((with_reducible show wpList _ _ _ (⟨none, .store _ (.tmp 4) (.tmp 91), _, _, _, _⟩ :: _) _ _); refine wpList_stAgg rfl (.tmp 4) (.tmp 91) aggRef rfl rfl (vs := zs5) rfl rfl HRB.out (Nat.le_refl _) zs5_one ?_))
            intro w2 h2 k2
            have h2' : Blk w2 w.heap.size zs5 30 := by simpa [zs5] using h2
            have H2 := hqZ h2'
            have HB2 : Hid (Below w.heap.size w w2) := hqZ (HB1.out.trans (k2.below (by omega)))
            clear h2 h2' k2
            go_wp2_with fail
            rw [HR.out]
            exact bodyPost_ret (results_agg_tmp2 rfl aggRef rfl (cs := zs5) rfl H2.out.cellsAll) rfl ⟨zs5, rfl, TvF.zero _ _, HB2.out⟩
          · by_cases ht30 : 30 < T
            · have hR := HR.out
              rw [if_pos (.inr ht30)] at hR
              have HR := hqZ hR
              have hk2' : ¬ (2 : Int) < K := by omega
              have ht30' : (30 : Int) < T := by omega
              clear hR
              go_wp2_with (first | ((with_reducible show wpList _ _ _ (⟨some 91, _, _, _, _, _⟩ :: _) _ _); refine wpList_bld rfl rfl HZ.out ?_) | ((with_reducible show wpList _ _ _ (⟨none, .store _ (.tmp 4) (.tmp 91), _, _, _, _⟩ :: _) _ _); refine wpList_stAgg rfl (.tmp 4) (.tmp 91) aggRef rfl rfl (vs := zs5) rfl rfl HRB.out (Nat.le_refl _) zs5_one ?_))
              intro w2 h2 k2
              have h2' : Blk w2 w.heap.size zs5 30 := by simpa [zs5] using h2
              have H2 := hqZ h2'
              have HB2 : Hid (Below w.heap.size w w2) := hqZ (HB1.out.trans (k2.below (by omega)))
              clear h2 h2' k2
              go_wp2_with fail
              rw [HR.out]
              exact bodyPost_ret (results_agg_tmp2 rfl aggRef rfl (cs := zs5) rfl H2.out.cellsAll) rfl ⟨zs5, rfl, TvF.zero _ _, HB2.out⟩
            · have hR := HR.out
              rw [if_neg (by omega)] at hR
              have hk2' : ¬ (2 : Int) < K := by omega
              have ht30' : ¬ (30 : Int) < T := by omega
              have hrun : ∀ W, (Instr.sliceAt 22 (.slice (some ⟨bb, off, none⟩) b.length cap) (some (.int .i64 at')) (some (.int .i64 ((at' : Int) + n))) none).run Try.prog W = .ok (.slice (cutA (some ⟨bb, off, none⟩) cap at') n (cap - at')) W := by
                intro W
                have := run_cut2 (some ⟨bb, off, none⟩) b.length cap at' (at' + n) (by omega) (by omega) W
                rw [show at' + n - at' = n by omega, Int.natCast_add] at this
                exact this
              have hbs : Bs w (.slice (cutA (some ⟨bb, off, none⟩) cap at') n (cap - at')) ((b.drop at').take n) := by
                have := HB.out.cut at' (at' + n) (by omega) (by omega)
                rw [show at' + n - at' = n by omega] at this
                exact this
              have hbl2 : ((b.drop at').take n).length = n := by rw [List.length_take, List.length_drop]; omega
              have hg0 : 0 < n → (b.drop at').getD 0 0 = ((b.drop at').take n).getD 0 0 := by
                intro hn
                rw [List.getD_eq_getElem?_getD, List.getD_eq_getElem?_getD, List.getElem?_take, if_pos hn]
              have hbs1 := hbs.below HB1.out
              generalize (b.drop at').take n = body at hR hbs1 hbl2 hg0 hbs
              obtain ⟨a2, hca⟩ : ∃ a2, a2 = cutA (some ⟨bb, off, none⟩) cap at' := ⟨_, rfl⟩
              rw [← hca] at hrun hbs1 hbs
              subst hbl2
              have HBS := hqZ hbs1
              have HBSw := hqZ hbs
              have hR0 := hR
              clear HR hR hbs hca hbs1
              rcases (by omega : K = 0 ∨ K = 1 ∨ K = 2) with rfl | rfl | rfl
              · rw [if_pos rfl] at hR0
                have HG := hqZ (refGet_any _ _ W1 HBS.out)
                by_cases hgb : body.length = 0 ∨ 8 < body.length
                · have hg : getB body = (0, false) := by unfold getB; rw [if_pos hgb]
                  rw [hg] at hR0 HG
                  rw [if_pos (.inl rfl)] at hR0
                  have HR := hqZ hR0
                  clear hR0 hgb hg hg0
                  go_wp2_with fail
                  refine HG.out.mono ?_
                  rintro e w' ⟨rfl, rfl⟩
                  go_wp2_with (first | ((with_reducible show wpList _ _ _ (⟨some 119, _, _, _, _, _⟩ :: _) _ _); refine wpList_bld rfl rfl HZ.out ?_) | ((with_reducible show wpList _ _ _ (⟨none, .store _ (.tmp 4) (.tmp 119), _, _, _, _⟩ :: _) _ _); refine wpList_stAgg rfl (.tmp 4) (.tmp 119) aggRef rfl rfl (vs := zs5) rfl rfl HRB.out (Nat.le_refl _) zs5_one ?_))
                  intro w2 h2 k2
                  have h2' : Blk w2 w.heap.size zs5 30 := by simpa [zs5] using h2
                  have H2 := hqZ h2'
                  have HB2 : Hid (Below w.heap.size w w2) := hqZ (HB1.out.trans (k2.below (by omega)))
                  clear h2 h2' k2
                  go_wp2_with fail
                  rw [HR.out]
                  exact bodyPost_ret (results_agg_tmp2 rfl aggRef rfl (cs := zs5) rfl H2.out.cellsAll) rfl ⟨zs5, rfl, TvF.zero _ _, HB2.out⟩
                · have hg : getB body = (getN body, true) := by unfold getB; rw [if_neg hgb]
                  rw [hg] at hR0 HG
                  obtain ⟨b2, o2, rfl, hc2⟩ := Sl.addr HBS.out (by rw [bCells_length]; omega)
                  have hb20 : body[0]'(by omega) = body.getD 0 0 := by rw [List.getD_eq_getElem?_getD, List.getElem?_eq_getElem (by omega)]; rfl
                  have d0 : W1.cell? ⟨b2, o2, none⟩ = some (.int .u8 (body.getD 0 0).toNat) := by
                    rw [← hb20]
                    exact hc2 0 _ (bCells_get body 0 (by omega))
                  have hpos : 0 < body.length := by omega
                  rw [hg0 hpos] at hR0
                  have hNlt := getN_lt body
                  have hN64 : getN body < 18446744073709551616 := Nat.lt_of_lt_of_le hNlt (Nat.le_trans (Nat.pow_le_pow_right (by decide) (show body.length ≤ 8 by omega)) (by decide))
                  have q2 : W1.cell? ⟨w.heap.size + 1, 2, none⟩ = some (.int .u64 0) := by rw [HQB.out.cell]; rfl
                  have qf2 := HQB.out.frozen 2
                  have hend : ∀ N : Nat, Blk (W1.setCell ⟨w.heap.size + 1, 2, none⟩ (.int .u64 N)) (w.heap.size + 1) [.int .i64 0, .int .i64 T, .int .u64 N, .slice none 0 0, .slice none 0 0] 30 ∧ Blk (W1.setCell ⟨w.heap.size + 1, 2, none⟩ (.int .u64 N)) w.heap.size zs5 30 ∧
                      Below w.heap.size w (W1.setCell ⟨w.heap.size + 1, 2, none⟩ (.int .u64 N)) ∧ (W1.setCell ⟨w.heap.size + 1, 2, none⟩ (.int .u64 N)).heap.size = W1.heap.size :=
                    fun N => ⟨HQB.out.set 2 _, HRB.out.set_other (by simp) _, HB1.out.setCell (by simp) _, by simp [World.setCell]⟩
                  have HEND := hqZ hend
                  clear hgb hg hg0 hb20 hc2 hNlt hend HBS
                  generalize getN body = N at *
                  generalize body.getD 0 0 = y at *
                  by_cases hy : y = 0
                  · have hy' : ((y.toNat : Int) == 0) = true := by simp [hy]
                    by_cases hl1 : 1 < body.length
                    · rw [if_pos (.inr ⟨hl1, hy⟩)] at hR0
                      have HR := hqZ hR0
                      have hl1' : (1 : Int) < body.length := by omega
                      clear hR0 hy hl1
                      go_wp2_with fail
                      refine HG.out.mono ?_
                      rintro e w' ⟨rfl, rfl⟩
                      go_wp2_with (first | ((with_reducible show wpList _ _ _ (⟨some 119, _, _, _, _, _⟩ :: _) _ _); refine wpList_bld rfl rfl HZ.out ?_) | ((with_reducible show wpList _ _ _ (⟨none, .store _ (.tmp 4) (.tmp 119), _, _, _, _⟩ :: _) _ _); refine wpList_stAgg rfl (.tmp 4) (.tmp 119) aggRef rfl rfl (vs := zs5) rfl rfl HRB.out (Nat.le_refl _) zs5_one ?_))
                      intro w2 h2 k2
                      have h2' : Blk w2 w.heap.size zs5 30 := by simpa [zs5] using h2
                      have H2 := hqZ h2'
                      have HB2 : Hid (Below w.heap.size w w2) := hqZ (HB1.out.trans (k2.below (by omega)))
                      clear h2 h2' k2
                      go_wp2_with fail
                      rw [HR.out]
                      exact bodyPost_ret (results_agg_tmp2 rfl aggRef rfl (cs := zs5) rfl H2.out.cellsAll) rfl ⟨zs5, rfl, TvF.zero _ _, HB2.out⟩
                    · rw [if_neg (by simp; omega)] at hR0
                      have HR := hqZ hR0
                      have hl1' : ¬ (1 : Int) < body.length := by omega
                      clear hR0 hy hl1
                      go_wp2_with fail
                      refine HG.out.mono ?_
                      rintro e w' ⟨rfl, rfl⟩
                      go_upto_region 28 with fail
                      obtain ⟨hqe, hre, hbe, hze⟩ := HEND.out N
                      clear HEND q0 q1 q2 qf2 HQB HRB HB1
                      generalize W1.setCell ⟨w.heap.size + 1, 2, none⟩ (.int .u64 N) = WE at *
                      have HQE := hqZ hqe
                      have HRE := hqZ hre
                      have HBE := hqZ hbe
                      have hze' : w.heap.size + 2 ≤ WE.heap.size := by omega
                      have HTV : Hid (TvF WE (fun x => w.heap.size + 2 ≤ x ∧ x < WE.heap.size) (.mk 0 T N [] []) [.int .i64 0, .int .i64 T, .int .u64 N, .slice none 0 0, .slice none 0 0]) := hqZ (TvF.mk (Sl.nil _ _ _) (by simp [Value.ownBlock]) (Sl.nil _ _ _) (by simp [Value.ownBlock]) rfl)
                      clear hqe hre hbe hze
                      have z0 : WE.cell? ⟨w.heap.size + 1, 0, none⟩ = some (.int .i64 0) := by rw [HQE.out.cell]; rfl
                      go_wp2_with fail
                      go_loopw [12] (fun inv wx => wx = WE ∧ inv = .slice (some ⟨b2, o2, none⟩) body.length (cap - at')) (fun _ _ => 0)
                      case atStart => exact ⟨rfl, rfl⟩
                      case round =>
                      obtain ⟨rfl, rfl⟩ := hrel
                      go_wp2_with (first | ((with_reducible show wpList _ _ _ (⟨some 158, _, _, _, _, _⟩ :: _) _ _); refine wpList_ldAgg rfl (.tmp 11) aggRef rfl rfl (cs := [.int .i64 0, .int .i64 T, .int .u64 N, .slice none 0 0, .slice none 0 0]) rfl HQE.out.cellsAll ?_) | ((with_reducible show wpList _ _ _ (⟨none, .store _ (.tmp 4) (.tmp 158), _, _, _, _⟩ :: _) _ _); refine wpList_stAgg rfl (.tmp 4) (.tmp 158) aggRef rfl rfl (vs := [.int .i64 0, .int .i64 T, .int .u64 N, .slice none 0 0, .slice none 0 0]) rfl rfl HRE.out (Nat.le_refl _) HTV.out.one ?_))
                      intro w2 h2 k2
                      have h2' : Blk w2 w.heap.size ([.int .i64 0, .int .i64 T, .int .u64 N, .slice none 0 0, .slice none 0 0]) 30 := by simpa [zs5] using h2
                      have H2 := hqZ h2'
                      have hz9 := k2.size
                      have HB2 : Hid (Below w.heap.size w w2) := hqZ (HBE.out.trans (k2.below (by omega)))
                      have HT2 := hqZ ((HTV.out.keep k2 (fun x hx _ e => by have := hx.1; omega)).mono (fun x hx => (⟨by omega, by omega⟩ : w.heap.size ≤ x ∧ x < w2.heap.size)))
                      clear h2 h2' k2
                      go_wp2_with fail
                      rw [HR.out]
                      exact bodyPost_ret (results_agg_tmp2 rfl aggRef rfl (cs := [.int .i64 0, .int .i64 T, .int .u64 N, .slice none 0 0, .slice none 0 0]) rfl H2.out.cellsAll) rfl ⟨_, by simp only [Int.natCast_add]; rfl, HT2.out, HB2.out⟩
                  · have hy' : ((y.toNat : Int) == 0) = false := by
                      simp
                      intro e
                      exact hy (by exact UInt8.toNat_inj.1 e)
                    rw [if_neg (by simp [hy])] at hR0
                    have HR := hqZ hR0
                    clear hR0 hy
                    by_cases hl1 : 1 < body.length
                    · have hl1' : (1 : Int) < body.length := by omega
                      clear hl1
                      go_wp2_with fail
                      refine HG.out.mono ?_
                      rintro e w' ⟨rfl, rfl⟩
                      go_upto_region 28 with fail
                      obtain ⟨hqe, hre, hbe, hze⟩ := HEND.out N
                      clear HEND q0 q1 q2 qf2 HQB HRB HB1
                      generalize W1.setCell ⟨w.heap.size + 1, 2, none⟩ (.int .u64 N) = WE at *
                      have HQE := hqZ hqe
                      have HRE := hqZ hre
                      have HBE := hqZ hbe
                      have hze' : w.heap.size + 2 ≤ WE.heap.size := by omega
                      have HTV : Hid (TvF WE (fun x => w.heap.size + 2 ≤ x ∧ x < WE.heap.size) (.mk 0 T N [] []) [.int .i64 0, .int .i64 T, .int .u64 N, .slice none 0 0, .slice none 0 0]) := hqZ (TvF.mk (Sl.nil _ _ _) (by simp [Value.ownBlock]) (Sl.nil _ _ _) (by simp [Value.ownBlock]) rfl)
                      clear hqe hre hbe hze
                      have z0 : WE.cell? ⟨w.heap.size + 1, 0, none⟩ = some (.int .i64 0) := by rw [HQE.out.cell]; rfl
                      go_wp2_with fail
                      go_loopw [12] (fun inv wx => wx = WE ∧ inv = .slice (some ⟨b2, o2, none⟩) body.length (cap - at')) (fun _ _ => 0)
                      case atStart => exact ⟨rfl, rfl⟩
                      case round =>
                      obtain ⟨rfl, rfl⟩ := hrel
                      go_wp2_with (first | ((with_reducible show wpList _ _ _ (⟨some 158, _, _, _, _, _⟩ :: _) _ _); refine wpList_ldAgg rfl (.tmp 11) aggRef rfl rfl (cs := [.int .i64 0, .int .i64 T, .int .u64 N, .slice none 0 0, .slice none 0 0]) rfl HQE.out.cellsAll ?_) | ((with_reducible show wpList _ _ _ (⟨none, .store _ (.tmp 4) (.tmp 158), _, _, _, _⟩ :: _) _ _); refine wpList_stAgg rfl (.tmp 4) (.tmp 158) aggRef rfl rfl (vs := [.int .i64 0, .int .i64 T, .int .u64 N, .slice none 0 0, .slice none 0 0]) rfl rfl HRE.out (Nat.le_refl _) HTV.out.one ?_))
                      intro w2 h2 k2
                      have h2' : Blk w2 w.heap.size ([.int .i64 0, .int .i64 T, .int .u64 N, .slice none 0 0, .slice none 0 0]) 30 := by simpa [zs5] using h2
                      have H2 := hqZ h2'
                      have hz9 := k2.size
                      have HB2 : Hid (Below w.heap.size w w2) := hqZ (HBE.out.trans (k2.below (by omega)))
                      have HT2 := hqZ ((HTV.out.keep k2 (fun x hx _ e => by have := hx.1; omega)).mono (fun x hx => (⟨by omega, by omega⟩ : w.heap.size ≤ x ∧ x < w2.heap.size)))
                      clear h2 h2' k2
                      go_wp2_with fail
                      rw [HR.out]
                      exact bodyPost_ret (results_agg_tmp2 rfl aggRef rfl (cs := [.int .i64 0, .int .i64 T, .int .u64 N, .slice none 0 0, .slice none 0 0]) rfl H2.out.cellsAll) rfl ⟨_, by simp only [Int.natCast_add]; rfl, HT2.out, HB2.out⟩
                    · have hl1' : ¬ (1 : Int) < body.length := by omega
                      clear hl1
                      go_wp2_with fail
                      refine HG.out.mono ?_
                      rintro e w' ⟨rfl, rfl⟩
                      go_upto_region 28 with fail
                      obtain ⟨hqe, hre, hbe, hze⟩ := HEND.out N
                      clear HEND q0 q1 q2 qf2 HQB HRB HB1
                      generalize W1.setCell ⟨w.heap.size + 1, 2, none⟩ (.int .u64 N) = WE at *
                      have HQE := hqZ hqe
                      have HRE := hqZ hre
                      have HBE := hqZ hbe
                      have hze' : w.heap.size + 2 ≤ WE.heap.size := by omega
                      have HTV : Hid (TvF WE (fun x => w.heap.size + 2 ≤ x ∧ x < WE.heap.size) (.mk 0 T N [] []) [.int .i64 0, .int .i64 T, .int .u64 N, .slice none 0 0, .slice none 0 0]) := hqZ (TvF.mk (Sl.nil _ _ _) (by simp [Value.ownBlock]) (Sl.nil _ _ _) (by simp [Value.ownBlock]) rfl)
                      clear hqe hre hbe hze
                      have z0 : WE.cell? ⟨w.heap.size + 1, 0, none⟩ = some (.int .i64 0) := by rw [HQE.out.cell]; rfl
                      go_wp2_with fail
                      go_loopw [12] (fun inv wx => wx = WE ∧ inv = .slice (some ⟨b2, o2, none⟩) body.length (cap - at')) (fun _ _ => 0)
                      case atStart => exact ⟨rfl, rfl⟩
                      case round =>
                      obtain ⟨rfl, rfl⟩ := hrel
                      go_wp2_with (first | ((with_reducible show wpList _ _ _ (⟨some 158, _, _, _, _, _⟩ :: _) _ _); refine wpList_ldAgg rfl (.tmp 11) aggRef rfl rfl (cs := [.int .i64 0, .int .i64 T, .int .u64 N, .slice none 0 0, .slice none 0 0]) rfl HQE.out.cellsAll ?_) | ((with_reducible show wpList _ _ _ (⟨none, .store _ (.tmp 4) (.tmp 158), _, _, _, _⟩ :: _) _ _); refine wpList_stAgg rfl (.tmp 4) (.tmp 158) aggRef rfl rfl (vs := [.int .i64 0, .int .i64 T, .int .u64 N, .slice none 0 0, .slice none 0 0]) rfl rfl HRE.out (Nat.le_refl _) HTV.out.one ?_))
                      intro w2 h2 k2
                      have h2' : Blk w2 w.heap.size ([.int .i64 0, .int .i64 T, .int .u64 N, .slice none 0 0, .slice none 0 0]) 30 := by simpa [zs5] using h2
                      have H2 := hqZ h2'
                      have hz9 := k2.size
                      have HB2 : Hid (Below w.heap.size w w2) := hqZ (HBE.out.trans (k2.below (by omega)))
                      have HT2 := hqZ ((HTV.out.keep k2 (fun x hx _ e => by have := hx.1; omega)).mono (fun x hx => (⟨by omega, by omega⟩ : w.heap.size ≤ x ∧ x < w2.heap.size)))
                      clear h2 h2' k2
                      go_wp2_with fail
                      rw [HR.out]
                      exact bodyPost_ret (results_agg_tmp2 rfl aggRef rfl (cs := [.int .i64 0, .int .i64 T, .int .u64 N, .slice none 0 0, .slice none 0 0]) rfl H2.out.cellsAll) rfl ⟨_, by simp only [Int.natCast_add]; rfl, HT2.out, HB2.out⟩
              · rw [if_neg (by decide), if_pos rfl] at hR0
                have HR := hqZ hR0
                clear hR0 hg0
                have HBSa := hqZ (HBS.out.alloc (.cells #[] 5))
                have hlit : ∀ x, (Value.slice (some ⟨w.heap.size + 2, 0, none⟩) 0 0).ownBlock = some x → x < (W1.alloc (.cells #[] 5)).heap.size := fun x hx => by
                  simp [Value.ownBlock] at hx
                  simp
                  omega
                have HLIT := hqZ hlit
                clear hlit
                go_wp2_with ((with_reducible show wpList _ _ _ (⟨some 127, _, _, _, _, _⟩ :: _) _ _); refine wpList_app2 rfl (.tmp 125) (.tmp 126) elBytes rfl W1.heap.size (Own.nil _ _ _ _ _) HLIT.out HBSa.out (by unfold maxLen; omega) (by omega) (by simp) ?_)
                intro v3 w3 ho3 hk3 hv3
                have hz3 := hk3.size
                simp at hz3
                have hb3 : Below w.heap.size w w3 := (HB1.out.alloc (by omega) (.cells #[] 5)).trans (hk3.below (by rintro x (h | h) <;> (try simp [Value.ownBlock] at h) <;> omega))
                have hq3 : Blk w3 (w.heap.size + 1) [.int .i64 1, .int .i64 T, .int .u64 0, .slice none 0 0, .slice none 0 0] 30 := (HQB.out.alloc (.cells #[] 5)).keep hk3 (by rintro (h | h) <;> (try simp [Value.ownBlock] at h) <;> omega)
                have hr3 : Blk w3 w.heap.size zs5 30 := (HRB.out.alloc (.cells #[] 5)).keep hk3 (by rintro (h | h) <;> (try simp [Value.ownBlock] at h) <;> omega)
                have hvb : ∀ x, v3.ownBlock = some x → w.heap.size + 2 ≤ x ∧ x < w3.heap.size := fun x hx => by
                  refine ⟨?_, (hv3 x hx).2⟩
                  rcases (hv3 x hx).1 with h | h
                  · simp [Value.ownBlock] at h
                    omega
                  · try simp at h
                    omega
                have q3 : w3.cell? ⟨w.heap.size + 1, 3, none⟩ = some (.slice none 0 0) := by rw [hq3.cell]; rfl
                have qf3 := hq3.frozen 3
                have hbs3 : Bs w3 v3 body := ho3.sl
                obtain ⟨a3, c3, hv3f, _⟩ := ho3.sl.form
                subst hv3f
                have hqe := hq3.set 3 (.slice a3 body.length c3)
                have hre : Blk (w3.setCell ⟨w.heap.size + 1, 3, none⟩ (.slice a3 body.length c3)) w.heap.size zs5 30 := hr3.set_other (by simp) _
                have hbe : Below w.heap.size w (w3.setCell ⟨w.heap.size + 1, 3, none⟩ (.slice a3 body.length c3)) := hb3.setCell (by simp) _
                have hbse : Bs (w3.setCell ⟨w.heap.size + 1, 3, none⟩ (.slice a3 body.length c3)) (.slice a3 body.length c3) body := Sl.setCell hbs3 (fun h => by have := (hvb _ h).1; simp at this) _
                have hze : (w3.setCell ⟨w.heap.size + 1, 3, none⟩ (.slice a3 body.length c3)).heap.size = w3.heap.size := by simp [World.setCell]
                have HQE := hqZ hqe
                have HRE := hqZ hre
                have HBE := hqZ hbe
                have HTV : Hid (TvF (w3.setCell ⟨w.heap.size + 1, 3, none⟩ (.slice a3 body.length c3)) (fun x => w.heap.size + 2 ≤ x ∧ x < (w3.setCell ⟨w.heap.size + 1, 3, none⟩ (.slice a3 body.length c3)).heap.size) (.mk 1 T 0 body []) [.int .i64 1, .int .i64 T, .int .u64 0, .slice a3 body.length c3, .slice none 0 0]) :=
                  hqZ (TvF.mk hbse (by rw [hze]; exact hvb) (Sl.nil _ _ _) (by simp [Value.ownBlock]) rfl)
                have hze' : w.heap.size + 2 ≤ (w3.setCell ⟨w.heap.size + 1, 3, none⟩ (.slice a3 body.length c3)).heap.size := by omega
                clear hqe hre hbe hbse hze ho3 hk3 hv3 hb3 hq3 hr3 hvb hbs3 q0 q1 HQB HRB HB1
                go_wp2_with fail
                generalize w3.setCell ⟨w.heap.size + 1, 3, none⟩ (.slice a3 body.length c3) = WE at *
                have z0 : WE.cell? ⟨w.heap.size + 1, 0, none⟩ = some (.int .i64 1) := by rw [HQE.out.cell]; rfl
                go_loopw [12] (fun inv wx => wx = WE ∧ inv = .slice a2 body.length (cap - at')) (fun _ _ => 0)
                case atStart => exact ⟨rfl, rfl⟩
                case round =>
                obtain ⟨rfl, rfl⟩ := hrel
                go_wp2_with (first | ((with_reducible show wpList _ _ _ (⟨some 158, _, _, _, _, _⟩ :: _) _ _); refine wpList_ldAgg rfl (.tmp 11) aggRef rfl rfl (cs := [.int .i64 1, .int .i64 T, .int .u64 0, .slice a3 body.length c3, .slice none 0 0]) rfl HQE.out.cellsAll ?_) | ((with_reducible show wpList _ _ _ (⟨none, .store _ (.tmp 4) (.tmp 158), _, _, _, _⟩ :: _) _ _); refine wpList_stAgg rfl (.tmp 4) (.tmp 158) aggRef rfl rfl (vs := [.int .i64 1, .int .i64 T, .int .u64 0, .slice a3 body.length c3, .slice none 0 0]) rfl rfl HRE.out (Nat.le_refl _) HTV.out.one ?_))
                intro w2 h2 k2
                have h2' : Blk w2 w.heap.size ([.int .i64 1, .int .i64 T, .int .u64 0, .slice a3 body.length c3, .slice none 0 0]) 30 := by simpa [zs5] using h2
                have H2 := hqZ h2'
                have hz9 := k2.size
                have HB2 : Hid (Below w.heap.size w w2) := hqZ (HBE.out.trans (k2.below (by omega)))
                have HT2 := hqZ ((HTV.out.keep k2 (fun x hx _ e => by have := hx.1; omega)).mono (fun x hx => (⟨by omega, by omega⟩ : w.heap.size ≤ x ∧ x < w2.heap.size)))
                clear h2 h2' k2
                go_wp2_with fail
                rw [HR.out]
                exact bodyPost_ret (results_agg_tmp2 rfl aggRef rfl (cs := [.int .i64 1, .int .i64 T, .int .u64 0, .slice a3 body.length c3, .slice none 0 0]) rfl H2.out.cellsAll) rfl ⟨_, by simp only [Int.natCast_add]; rfl, HT2.out, HB2.out⟩
              · rw [if_neg (by decide), if_neg (by decide)] at hR0
                have hR0' : readS (d + 1) b = if (LS d body).2 = 0 then (.mk 2 T 0 [] (LS d body).1, at' + body.length, 0) else (.zero, 0, (LS d body).2) := hR0
                have HR0 := hqZ hR0'
                obtain ⟨r, hr⟩ : ∃ r, r = w.heap.size := ⟨_, rfl⟩
                have hz1' : w.heap.size + 2 ≤ W1.heap.size := by omega
                have HDL : Hid (DLr w r d T body (.slice a2 body.length (cap - at')) W1 body [] (.slice none 0 0) [] (fun _ => False)) := hqZ (by
                  subst hr
                  exact ⟨HBSw.out, rfl, by simp, HQB.out, HRB.out, Own.nil _ _ _ _ _, rfl, fun _ h => h.elim, by simp [Value.ownBlock], HB1.out, by omega⟩)
                have hD0 : 0 ≤ D := by have := HD.out; omega
                have hrw : w.heap.size = r := hr.symm
                rw [hrw] at q0 q1 ⊢
                have hdr : w.heap.size ≤ r := by omega
                clear hR0 hR0' hg0 hz1 HQB HRB HB1 HBS hr hrw
                go_wp2_with fail
                go_loopw [12] (fun inv wr => ∃ rest acc lv rows F, DLr w r d T body inv wr rest acc lv rows F) (fun inv _ => sliceLen inv)
                case atStart => exact ⟨body, [], _, [], _, HDL.out⟩
                case round =>
                  obtain ⟨rest, acc, lv, rows, F, hdl⟩ := hrel
                  obtain ⟨ai, ci, rfl, hci, hmi⟩ := hdl.bs.form
                  have hmi' := hmi
                  unfold maxLen at hmi'
                  have HDLr := hqZ hdl
                  have hszr := hdl.size
                  have hfew := hdl.few
                  have z0 : wr.cell? ⟨r + 1, 0, none⟩ = some (.int .i64 2) := by rw [hdl.q.cell]; rfl
                  clear q0 q1 hdl
                  by_cases hre : rest = []
                  · subst hre
                    have hls := HDLr.out.ls
                    rw [LS_nil, List.append_nil] at hls
                    have hR := HR0.out
                    rw [hls] at hR
                    have HR : Hid (readS (d + 1) b = (.mk 2 T 0 [] acc, at' + body.length, 0)) := hqZ (by rw [hR]; rfl)
                    have HQE := hqZ HDLr.out.q
                    have HRE := hqZ HDLr.out.z
                    have HBE : Hid (Below w.heap.size w wr) := hqZ (HDLr.out.below.mono hdr)
                    have HTV : Hid (TvF wr (fun x => r + 2 ≤ x ∧ x < wr.heap.size) (.mk 2 T 0 [] acc) [.int .i64 2, .int .i64 T, .int .u64 0, .slice none 0 0, lv]) := hqZ (TvF.mk (Sl.nil _ _ _) (by simp [Value.ownBlock]) HDLr.out.own.sl (fun x hx => by have := HDLr.out.v x hx; omega) (HDLr.out.tvs.mono (fun x hx => by have := HDLr.out.f x hx; omega)))
                    clear hls hR HR0
                    go_upto_region 36 with fail
                    go_wp2_with (first | ((with_reducible show wpList _ _ _ (⟨some 158, _, _, _, _, _⟩ :: _) _ _); refine wpList_ldAgg rfl (.tmp 11) aggRef rfl rfl (cs := [.int .i64 2, .int .i64 T, .int .u64 0, .slice none 0 0, lv]) rfl HQE.out.cellsAll ?_) | ((with_reducible show wpList _ _ _ (⟨none, .store _ (.tmp 4) (.tmp 158), _, _, _, _⟩ :: _) _ _); refine wpList_stAgg rfl (.tmp 4) (.tmp 158) aggRef rfl rfl (vs := [.int .i64 2, .int .i64 T, .int .u64 0, .slice none 0 0, lv]) rfl rfl HRE.out (Nat.le_refl _) HTV.out.one ?_))
                    intro w2 h2 k2
                    have h2' : Blk w2 r ([.int .i64 2, .int .i64 T, .int .u64 0, .slice none 0 0, lv]) 30 := by simpa [zs5] using h2
                    have H2 := hqZ h2'
                    have hz9 := k2.size
                    have HB2 : Hid (Below w.heap.size w w2) := hqZ (HBE.out.trans (k2.below (by omega)))
                    have HT2 := hqZ ((HTV.out.keep k2 (fun x hx _ e => by have := hx.1; omega)).mono (fun x hx => (⟨by omega, by omega⟩ : w.heap.size ≤ x ∧ x < w2.heap.size)))
                    clear h2 h2' k2
                    go_wp2_with fail
                    rw [HR.out]
                    exact bodyPost_ret (results_agg_tmp2 rfl aggRef rfl (cs := [.int .i64 2, .int .i64 T, .int .u64 0, .slice none 0 0, lv]) rfl H2.out.cellsAll) rfl ⟨_, by simp only [Int.natCast_add]; rfl, HT2.out, HB2.out⟩
                  · have hpos : 0 < rest.length := List.length_pos_iff.2 hre
                    have hposI : (0 : Int) < rest.length := by omega
                    obtain ⟨x, k, e5, hrd⟩ : ∃ x k e, readS d rest = (x, k, e) := ⟨_, _, _, rfl⟩
                    have HCALL := hqZ (HIH.out (D + 1) _ rest wr (by have := HD.out; omega) (by omega) (HDLr.out.bs.below (HDLr.out.below.mono hdr)) (by omega))
                    rw [hrd] at HCALL
                    have HRD := hqZ hrd
                    have HRE := hqZ hre
                    clear hrd hre
                    go_wp2_with fail
                    refine HCALL.out.mono ?_
                    rintro e w5 hres
                    obtain ⟨cs, rfl, htv, hb5⟩ := hres
                    have hz5 := hb5.size
                    have hcl : cs.length = 5 := htv.length
                    have HCL := hqZ hcl
                    have HC1 := hqZ htv.one
                    have HN5 := hqZ (Blk.new w5 zs5 30)
                    have HTV := hqZ htv
                    have HB5 := hqZ hb5
                    clear hcl htv hb5 HCALL
                    go_wp2_with ((with_reducible show wpList _ _ _ (⟨none, .store _ (.tmp 15) (.tmp 142), _, _, _, _⟩ :: _) _ _); refine wpList_stAgg rfl (.tmp 15) (.tmp 142) aggRef rfl rfl (vs := cs) rfl HCL.out HN5.out (Nat.le_refl _) HC1.out ?_)
                    intro w6 h6 k6
                    have h6' : Blk w6 w5.heap.size cs 30 := by
                      rw [List.drop_of_length_le (by decide), List.append_nil] at h6
                      exact h6
                    have hz6 := k6.size
                    simp at hz6
                    have hb56 : Below w5.heap.size w5 w6 := ((Below.refl _ _).alloc (Nat.le_refl _) _).trans (k6.below (by omega))
                    have HB6 : Hid (Below wr.heap.size wr w6) := hqZ (HB5.out.trans (hb56.mono hz5))
                    have HTV6 := hqZ (HTV.out.below hb56)
                    have H6 := hqZ h6'
                    obtain ⟨s6, hs6⟩ : ∃ s6, s6 = w5.heap.size := ⟨_, rfl⟩
                    rw [← hs6] at H6 hz6 hz5 HTV6 ⊢
                    clear h6 h6' k6 hb56 HN5 HB5 HTV hs6
                    by_cases he5 : e5 = 0
                    · have he5' : (e5 != 0) = false := by simp [he5]
                      subst he5
                      have hkk := readS_takes d _ _ _ HRD.out
                      have HLS : Hid (LS d body = ((acc ++ [x]) ++ (LS d (rest.drop k)).1, (LS d (rest.drop k)).2)) := hqZ (by
                        rw [HDLr.out.ls, LS_ok HRE.out HRD.out]
                        simp)
                      have hq6 : Blk w6 (r + 1) [.int .i64 2, .int .i64 T, .int .u64 0, .slice none 0 0, lv] 30 := HDLr.out.q.below HB6.out (by omega)
                      have q4 : w6.cell? ⟨r + 1, 4, none⟩ = some lv := by rw [hq6.cell]; rfl
                      have HO6 := hqZ (HDLr.out.own.below HB6.out)
                      have HO6' := hqZ (HO6.out.alloc (.cells cs.toArray 30))
                      have HVlt : Hid (∀ b, lv.ownBlock = some b → b < (w6.alloc (.cells cs.toArray 30)).heap.size) := hqZ (fun b hb => by have := (HDLr.out.v b hb).2; simp; omega)
                      have hacc : acc.length ≤ 1048576 := by omega
                      have HQ6 := hqZ hq6
                      clear hq6
                      go_wp2_with (first | ((with_reducible show wpList _ _ _ (⟨some 151, _, _, _, _, _⟩ :: _) _ _); refine wpList_ldAgg rfl (.tmp 15) aggRef rfl rfl (cs := cs) HCL.out H6.out.cellsAll ?_) | ((with_reducible show wpList _ _ _ (⟨some 152, _, _, _, _, _⟩ :: _) _ _); refine wpList_bs1 rfl (.tmp 151) elRef rfl rfl (by have := HCL.out; simpa using this) (by decide) ?_) | ((with_reducible show wpList _ _ _ (⟨some 153, _, _, _, _, _⟩ :: _) _ _); refine wpList_app2 rfl (.tmp 150) (.tmp 152) elRef rfl (r + 2) HO6'.out HVlt.out (Sl.lit (n := 1) rfl (by simpa using HCL.out) HC1.out (by unfold maxLen; decide)) (by unfold maxLen; omega) (by omega) (by simp; omega) ?_))
                      intro v7 w7 ho7 hk7 hv7
                      have hz7 := hk7.size
                      simp at hz7
                      obtain ⟨a7, c7, hv7f, _⟩ := ho7.sl.form
                      subst hv7f
                      have k67 : Keeps (fun b => lv.ownBlock = some b ∨ w6.heap.size ≤ b) w6 w7 := by
                        refine ((Keeps.refl _ _).alloc _ (.inr (Nat.le_refl _))).trans (hk7.mono (fun b hb => ?_))
                        rcases hb with hb | hb
                        · exact .inl hb.1
                        · exact .inr (by omega)
                      have ka : Keeps (fun b => lv.ownBlock = some b ∨ wr.heap.size ≤ b) wr w7 := ((Keeps.of_below HB6.out).mono (fun b hb => .inr hb)).trans (k67.mono (fun b hb => by
                        rcases hb with hb | hb
                        · exact .inl hb
                        · exact .inr (by omega)))
                      have hvr : ∀ b, b < r + 2 → ¬ (lv.ownBlock = some b ∨ wr.heap.size ≤ b) := by
                        rintro b hb (h | h)
                        · have := (HDLr.out.v b h).1; omega
                        · omega
                      have hq7 := HDLr.out.q.keep ka (hvr _ (by omega))
                      have hr7 := HDLr.out.z.keep ka (hvr _ (by omega))
                      have q7 : w7.cell? ⟨r + 1, 4, none⟩ = some lv := by rw [hq7.cell]; rfl
                      have qf7 := hq7.frozen 4
                      have hb7 : Below r w w7 := HDLr.out.below.trans (ka.below (by
                        rintro b (h | h)
                        · have := (HDLr.out.v b h).1; omega
                        · omega))
                      have htvs7 : TvsF w7 (fun y => F y ∨ (wr.heap.size ≤ y ∧ y < s6)) (acc ++ [x]) (rows ++ cs) := by
                        refine TvsF.snoc ((HDLr.out.tvs.keep ka (fun y hy hl h => ?_)).mono (fun y hy => .inl hy)) ((HTV6.out.keep k67 (fun y hy hl h => ?_)).mono (fun y hy => .inr hy))
                        · obtain ⟨h1, h2, h3⟩ := HDLr.out.f y hy
                          rcases h with h | h
                          · exact h3 h
                          · omega
                        · rcases h with h | h
                          · have := (HDLr.out.v y h).2; omega
                          · omega
                      have hv8 : ∀ b, (Value.slice a7 (acc.length + 1) c7).ownBlock = some b → r + 2 ≤ b ∧ b < w7.heap.size := fun b hb => by
                        refine ⟨?_, (hv7 b hb).2⟩
                        rcases (hv7 b hb).1 with h | h
                        · exact (HDLr.out.v b h).1
                        · omega
                      have hrun2 : ∀ W, (Instr.sliceAt 22 (.slice ai rest.length ci) (some (.int .i64 k)) none none).run Try.prog W = .ok (.slice (cutA ai ci k) (rest.length - k) (ci - k)) W := fun W => run_cut1 ai rest.length ci k (by omega) W
                      have hbs8 : Bs w (.slice (cutA ai ci k) (rest.length - k) (ci - k)) (rest.drop k) := by
                        have := HDLr.out.bs.cut k rest.length (by omega) (Nat.le_refl _)
                        rwa [List.take_of_length_le (by rw [List.length_drop]; exact Nat.le_refl _)] at this
                      have HDLn : Hid (DLr w r d T body (.slice (cutA ai ci k) (rest.length - k) (ci - k)) (w7.setCell ⟨r + 1, 4, none⟩ (.slice a7 (acc.length + 1) c7)) (rest.drop k) (acc ++ [x]) (.slice a7 (acc.length + 1) c7) (rows ++ cs) (fun y => F y ∨ (wr.heap.size ≤ y ∧ y < s6))) := hqZ (by
                        have ks : Keeps (fun b => b = r + 1) w7 (w7.setCell ⟨r + 1, 4, none⟩ (.slice a7 (acc.length + 1) c7)) := Keeps.one _ _ _ _
                        have hsz : (w7.setCell ⟨r + 1, 4, none⟩ (.slice a7 (acc.length + 1) c7)).heap.size = w7.heap.size := by simp [World.setCell]
                        refine ⟨hbs8, HLS.out, by simp; omega, hq7.set 4 _, hr7.keep ks (by omega), ?_, htvs7.keep ks (fun y hy _ e => ?_), fun y hy => ?_, by rw [hsz]; exact hv8, hb7.trans (ks.below (by omega)), by rw [hsz]; omega⟩
                        · rw [List.length_append, List.length_singleton]
                          exact ho7.keep ks (fun b hb e => by have := (hv8 b hb).1; omega)
                        · rcases hy with hy | hy
                          · have := (HDLr.out.f y hy).1; omega
                          · omega
                        · rw [hsz]
                          rcases hy with hy | hy
                          · obtain ⟨h1, h2, h3⟩ := HDLr.out.f y hy
                            refine ⟨h1, by omega, fun e => ?_⟩
                            rcases (hv7 y e).1 with h | h
                            · exact h3 h
                            · omega
                          · refine ⟨by omega, by omega, fun e => ?_⟩
                            rcases (hv7 y e).1 with h | h
                            · have := (HDLr.out.v y h).2; omega
                            · omega)
                      clear ho7 hk7 hv7 k67 ka hvr hq7 hr7 hb7 htvs7 hv8 hbs8 HTV6 HB6 HO6 HO6' HQ6 HVlt q4 z0 H6
                      go_wp2_with fail
                      go_roundw
                      case rel => exact ⟨_, _, _, _, _, HDLn.out⟩
                      case measure => simp [sliceLen]; omega
                    · have he5' : (e5 != 0) = true := by simp [he5]
                      have hls := HDLr.out.ls
                      rw [LS_bad HRE.out HRD.out he5, List.append_nil] at hls
                      have hR := HR0.out
                      rw [hls] at hR
                      simp only at hR
                      rw [if_neg he5] at hR
                      have HR := hqZ hR
                      have HRB := hqZ (HDLr.out.z.below HB6.out (by omega))
                      have HB1 : Hid (Below w.heap.size w w6) := hqZ ((HDLr.out.below.mono hdr).trans (HB6.out.mono (by omega)))
                      clear hls hR HR0 he5
                      go_wp2_with (first | ((with_reducible show wpList _ _ _ (⟨some 147, _, _, _, _, _⟩ :: _) _ _); refine wpList_bld rfl rfl HZ.out ?_) | ((with_reducible show wpList _ _ _ (⟨none, .store _ (.tmp 4) (.tmp 147), _, _, _, _⟩ :: _) _ _); refine wpList_stAgg rfl (.tmp 4) (.tmp 147) aggRef rfl rfl (vs := zs5) rfl rfl HRB.out (Nat.le_refl _) zs5_one ?_))
                      intro w2 h2 k2
                      have h2' : Blk w2 r zs5 30 := by simpa [zs5] using h2
                      have H2 := hqZ h2'
                      have HB2 : Hid (Below w.heap.size w w2) := hqZ (HB1.out.trans (k2.below (by omega)))
                      clear h2 h2' k2
                      go_wp2_with fail
                      rw [HR.out]
                      exact bodyPost_ret (results_agg_tmp2 rfl aggRef rfl (cs := zs5) rfl H2.out.cellsAll) rfl ⟨zs5, rfl, TvF.zero _ _, HB2.out⟩
def WhRes (w : World) (r : Tv × Int) (e : Ending) (w' : World) : Prop :=
  ∃ cs : List Value, e = .returned (.tuple #[.agg cs.toArray, .int .i64 r.2]) ∧ TvF w' (fun x => w.heap.size ≤ x ∧ x < w'.heap.size) r.1 cs ∧ Below w.heap.size w w'
set_option maxHeartbeats 4000000 in
set_option maxRecDepth 100000 in
theorem derWhole_any (v : Value) (b : List UInt8) (w : World) (h : Bs w v b) : Calls Try.prog 18 #[v] w (WhRes w (wholeS b)) := by
  obtain ⟨a, cap, rfl, hcap, hcm⟩ := h.form
  unfold maxLen at hcm
  have HZ := hqZ der_zero
  have HN := hqZ (Blk.new w zs5 38)
  by_cases hl : 4096 < b.length
  · have HR : Hid (wholeS b = (.zero, 20)) := hqZ (by unfold wholeS; rw [if_pos hl])
    have hl' : (4096 : Int) < b.length := by omega
    clear hl h
    go_enter Try.func18, Try.ntmps18
    go_wp2_with (first | ((with_reducible show wpList _ _ _ (⟨some 10, _, _, _, _, _⟩ :: _) _ _); refine wpList_bld rfl rfl HZ.out ?_) | ((with_reducible show wpList _ _ _ (⟨none, .store _ (.tmp 2) (.tmp 10), _, _, _, _⟩ :: _) _ _); refine wpList_stAgg rfl (.tmp 2) (.tmp 10) aggDer rfl rfl (vs := zs5) rfl rfl HN.out (Nat.le_refl _) zs5_one ?_))
    intro w2 h2 k2
    have h2' : Blk w2 w.heap.size zs5 38 := by simpa [zs5] using h2
    have H2 := hqZ h2'
    have HB2 : Hid (Below w.heap.size w w2) := hqZ (((Below.refl _ _).alloc (Nat.le_refl _) _).trans (k2.below (by omega)))
    clear h2 h2' k2
    go_wp2_with fail
    rw [HR.out]
    exact bodyPost_ret (results_agg_tmp rfl aggDer rfl (cs := zs5) rfl H2.out.cellsAll) rfl ⟨zs5, rfl, TvF.zero _ _, HB2.out⟩
  · have hl' : ¬ (4096 : Int) < b.length := by omega
    obtain ⟨x, n, e, hrd⟩ : ∃ x n e, readS 8 b = (x, n, e) := ⟨_, _, _, rfl⟩
    have hW : wholeS b = if e ≠ 0 then (.zero, e) else if n < b.length then (.zero, 5) else (x, 0) := by unfold wholeS; rw [if_neg hl, hrd]
    have HW := hqZ hW
    have HCALL := hqZ (derRead_any 8 1 _ b (w.alloc (.cells zs5.toArray 38)) (by decide) (Nat.le_refl _) (h.alloc _) (by omega))
    rw [hrd] at HCALL
    clear hl h hW hrd
    go_enter Try.func18, Try.ntmps18
    go_wp2_with fail
    refine HCALL.out.mono ?_
    rintro er w1 ⟨cs, rfl, htv, hb1⟩
    have hz1 := hb1.size
    simp at hz1
    have hcl : cs.length = 5 := htv.length
    have HCL := hqZ hcl
    have HC1 := hqZ htv.one
    have hr1 : Blk w1 w.heap.size zs5 38 := HN.out.below hb1 (by simp)
    have HR1 := hqZ hr1
    have HB1 : Hid (Below w.heap.size w w1) := hqZ (((Below.refl _ _).alloc (Nat.le_refl _) _).trans (hb1.mono (by simp)))
    have HTV : Hid (TvF w1 (fun y => w.heap.size + 1 ≤ y ∧ y < w1.heap.size) x cs) := hqZ (htv.mono (fun y hy => by simp at hy; omega))
    have HN1 := hqZ (Blk.new w1 zs5 38)
    clear hcl htv hb1 hr1 HCALL
    go_wp2_with ((with_reducible show wpList _ _ _ (⟨none, .store _ (.tmp 4) (.tmp 14), _, _, _, _⟩ :: _) _ _); refine wpList_stAgg rfl (.tmp 4) (.tmp 14) aggDer rfl rfl (vs := cs) rfl HCL.out HN1.out (Nat.le_refl _) HC1.out ?_)
    intro w3 h3 k3
    have h3' : Blk w3 w1.heap.size cs 38 := by
      rw [List.drop_of_length_le (by decide), List.append_nil] at h3
      exact h3
    have hz3 := k3.size
    simp at hz3
    have hb3 : Below w1.heap.size w1 w3 := ((Below.refl _ _).alloc (Nat.le_refl _) _).trans (k3.below (by omega))
    have H3 := hqZ h3'
    have HR3 := hqZ (HR1.out.below hb3 (by omega))
    have HB3 : Hid (Below w.heap.size w w3) := hqZ (HB1.out.trans (hb3.mono (by omega)))
    have HTV3 := hqZ (HTV.out.below hb3)
    obtain ⟨q, hq⟩ : ∃ q, q = w1.heap.size := ⟨_, rfl⟩
    rw [← hq] at H3 hz3 HTV3 ⊢
    have hqw : w.heap.size + 1 ≤ q := by omega
    clear h3 h3' k3 hb3 HN1 HTV HB1 hq
    by_cases he : e = 0
    · subst he
      by_cases hn : n < b.length
      · have HR : Hid (wholeS b = (.zero, 5)) := hqZ (by rw [HW.out, if_neg (by decide), if_pos hn])
        have hn' : (n : Int) < b.length := by omega
        clear hn
        go_wp2_with (first | ((with_reducible show wpList _ _ _ (⟨some 27, _, _, _, _, _⟩ :: _) _ _); refine wpList_bld rfl rfl HZ.out ?_) | ((with_reducible show wpList _ _ _ (⟨none, .store _ (.tmp 2) (.tmp 27), _, _, _, _⟩ :: _) _ _); refine wpList_stAgg rfl (.tmp 2) (.tmp 27) aggDer rfl rfl (vs := zs5) rfl rfl HR3.out (Nat.le_refl _) zs5_one ?_))
        intro w2 h2 k2
        have h2' : Blk w2 w.heap.size zs5 38 := by simpa [zs5] using h2
        have H2 := hqZ h2'
        have HB2 : Hid (Below w.heap.size w w2) := hqZ (HB3.out.trans (k2.below (by omega)))
        clear h2 h2' k2
        go_wp2_with fail
        rw [HR.out]
        exact bodyPost_ret (results_agg_tmp rfl aggDer rfl (cs := zs5) rfl H2.out.cellsAll) rfl ⟨zs5, rfl, TvF.zero _ _, HB2.out⟩
      · have HR : Hid (wholeS b = (x, 0)) := hqZ (by rw [HW.out, if_neg (by decide), if_neg hn])
        have hn' : ¬ (n : Int) < b.length := by omega
        clear hn
        go_wp2_with (first | ((with_reducible show wpList _ _ _ (⟨some 28, _, _, _, _, _⟩ :: _) _ _); refine wpList_ldAgg rfl (.tmp 4) aggDer rfl rfl (cs := cs) HCL.out H3.out.cellsAll ?_) | ((with_reducible show wpList _ _ _ (⟨none, .store _ (.tmp 2) (.tmp 28), _, _, _, _⟩ :: _) _ _); refine wpList_stAgg rfl (.tmp 2) (.tmp 28) aggDer rfl rfl (vs := cs) rfl HCL.out HR3.out (Nat.le_refl _) HC1.out ?_))
        intro w2 h2 k2
        have h2' : Blk w2 w.heap.size cs 38 := by
          rw [List.drop_of_length_le (by decide), List.append_nil] at h2
          exact h2
        have H2 := hqZ h2'
        have hz2 := k2.size
        have HB2 : Hid (Below w.heap.size w w2) := hqZ (HB3.out.trans (k2.below (by omega)))
        have HT2 : Hid (TvF w2 (fun y => w.heap.size ≤ y ∧ y < w2.heap.size) x cs) := hqZ ((HTV3.out.keep k2 (fun y hy _ e => by have := hy.1; omega)).mono (fun y hy => (⟨by omega, by omega⟩ : w.heap.size ≤ y ∧ y < w2.heap.size)))
        clear h2 h2' k2
        go_wp2_with fail
        rw [HR.out]
        exact bodyPost_ret (results_agg_tmp rfl aggDer rfl (cs := cs) HCL.out H2.out.cellsAll) rfl ⟨cs, rfl, HT2.out, HB2.out⟩
    · have HR : Hid (wholeS b = (.zero, e)) := hqZ (by rw [HW.out, if_pos he])
      have he' : (e != 0) = true := by simp [he]
      clear he
      go_wp2_with (first | ((with_reducible show wpList _ _ _ (⟨some 20, _, _, _, _, _⟩ :: _) _ _); refine wpList_bld rfl rfl HZ.out ?_) | ((with_reducible show wpList _ _ _ (⟨none, .store _ (.tmp 2) (.tmp 20), _, _, _, _⟩ :: _) _ _); refine wpList_stAgg rfl (.tmp 2) (.tmp 20) aggDer rfl rfl (vs := zs5) rfl rfl HR3.out (Nat.le_refl _) zs5_one ?_))
      intro w2 h2 k2
      have h2' : Blk w2 w.heap.size zs5 38 := by simpa [zs5] using h2
      have H2 := hqZ h2'
      have HB2 : Hid (Below w.heap.size w w2) := hqZ (HB3.out.trans (k2.below (by omega)))
      clear h2 h2' k2
      go_wp2_with fail
      rw [HR.out]
      exact bodyPost_ret (results_agg_tmp rfl aggDer rfl (cs := zs5) rfl H2.out.cellsAll) rfl ⟨zs5, rfl, TvF.zero _ _, HB2.out⟩
set_option maxHeartbeats 4000000 in
set_option maxRecDepth 100000 in
theorem refWhole_any (v : Value) (b : List UInt8) (w : World) (h : Bs w v b) : Calls Try.prog 7 #[v] w (WhRes w (wholeS b)) := by
  obtain ⟨a, cap, rfl, hcap, hcm⟩ := h.form
  unfold maxLen at hcm
  have HZ := hqZ ref_zero
  have HN := hqZ (Blk.new w zs5 30)
  by_cases hl : 4096 < b.length
  · have HR : Hid (wholeS b = (.zero, 20)) := hqZ (by unfold wholeS; rw [if_pos hl])
    have hl' : (4096 : Int) < b.length := by omega
    clear hl h
    go_enter Try.func7, Try.ntmps7
    go_wp2_with (first | ((with_reducible show wpList _ _ _ (⟨some 10, _, _, _, _, _⟩ :: _) _ _); refine wpList_bld rfl rfl HZ.out ?_) | ((with_reducible show wpList _ _ _ (⟨none, .store _ (.tmp 2) (.tmp 10), _, _, _, _⟩ :: _) _ _); refine wpList_stAgg rfl (.tmp 2) (.tmp 10) aggRef rfl rfl (vs := zs5) rfl rfl HN.out (Nat.le_refl _) zs5_one ?_))
    intro w2 h2 k2
    have h2' : Blk w2 w.heap.size zs5 30 := by simpa [zs5] using h2
    have H2 := hqZ h2'
    have HB2 : Hid (Below w.heap.size w w2) := hqZ (((Below.refl _ _).alloc (Nat.le_refl _) _).trans (k2.below (by omega)))
    clear h2 h2' k2
    go_wp2_with fail
    rw [HR.out]
    exact bodyPost_ret (results_agg_tmp rfl aggRef rfl (cs := zs5) rfl H2.out.cellsAll) rfl ⟨zs5, rfl, TvF.zero _ _, HB2.out⟩
  · have hl' : ¬ (4096 : Int) < b.length := by omega
    obtain ⟨x, n, e, hrd⟩ : ∃ x n e, readS 8 b = (x, n, e) := ⟨_, _, _, rfl⟩
    have hW : wholeS b = if e ≠ 0 then (.zero, e) else if n < b.length then (.zero, 5) else (x, 0) := by unfold wholeS; rw [if_neg hl, hrd]
    have HW := hqZ hW
    have HCALL := hqZ (refRead_any 8 1 _ b (w.alloc (.cells zs5.toArray 30)) (by decide) (Nat.le_refl _) (h.alloc _) (by omega))
    rw [hrd] at HCALL
    clear hl h hW hrd
    go_enter Try.func7, Try.ntmps7
    go_wp2_with fail
    refine HCALL.out.mono ?_
    rintro er w1 ⟨cs, rfl, htv, hb1⟩
    have hz1 := hb1.size
    simp at hz1
    have hcl : cs.length = 5 := htv.length
    have HCL := hqZ hcl
    have HC1 := hqZ htv.one
    have hr1 : Blk w1 w.heap.size zs5 30 := HN.out.below hb1 (by simp)
    have HR1 := hqZ hr1
    have HB1 : Hid (Below w.heap.size w w1) := hqZ (((Below.refl _ _).alloc (Nat.le_refl _) _).trans (hb1.mono (by simp)))
    have HTV : Hid (TvF w1 (fun y => w.heap.size + 1 ≤ y ∧ y < w1.heap.size) x cs) := hqZ (htv.mono (fun y hy => by simp at hy; omega))
    have HN1 := hqZ (Blk.new w1 zs5 30)
    clear hcl htv hb1 hr1 HCALL
    go_wp2_with ((with_reducible show wpList _ _ _ (⟨none, .store _ (.tmp 4) (.tmp 14), _, _, _, _⟩ :: _) _ _); refine wpList_stAgg rfl (.tmp 4) (.tmp 14) aggRef rfl rfl (vs := cs) rfl HCL.out HN1.out (Nat.le_refl _) HC1.out ?_)
    intro w3 h3 k3
    have h3' : Blk w3 w1.heap.size cs 30 := by
      rw [List.drop_of_length_le (by decide), List.append_nil] at h3
      exact h3
    have hz3 := k3.size
    simp at hz3
    have hb3 : Below w1.heap.size w1 w3 := ((Below.refl _ _).alloc (Nat.le_refl _) _).trans (k3.below (by omega))
    have H3 := hqZ h3'
    have HR3 := hqZ (HR1.out.below hb3 (by omega))
    have HB3 : Hid (Below w.heap.size w w3) := hqZ (HB1.out.trans (hb3.mono (by omega)))
    have HTV3 := hqZ (HTV.out.below hb3)
    obtain ⟨q, hq⟩ : ∃ q, q = w1.heap.size := ⟨_, rfl⟩
    rw [← hq] at H3 hz3 HTV3 ⊢
    have hqw : w.heap.size + 1 ≤ q := by omega
    clear h3 h3' k3 hb3 HN1 HTV HB1 hq
    by_cases he : e = 0
    · subst he
      by_cases hn : n < b.length
      · have HR : Hid (wholeS b = (.zero, 5)) := hqZ (by rw [HW.out, if_neg (by decide), if_pos hn])
        have hn' : (n : Int) < b.length := by omega
        clear hn
        go_wp2_with (first | ((with_reducible show wpList _ _ _ (⟨some 25, _, _, _, _, _⟩ :: _) _ _); refine wpList_bld rfl rfl HZ.out ?_) | ((with_reducible show wpList _ _ _ (⟨none, .store _ (.tmp 2) (.tmp 25), _, _, _, _⟩ :: _) _ _); refine wpList_stAgg rfl (.tmp 2) (.tmp 25) aggRef rfl rfl (vs := zs5) rfl rfl HR3.out (Nat.le_refl _) zs5_one ?_))
        intro w2 h2 k2
        have h2' : Blk w2 w.heap.size zs5 30 := by simpa [zs5] using h2
        have H2 := hqZ h2'
        have HB2 : Hid (Below w.heap.size w w2) := hqZ (HB3.out.trans (k2.below (by omega)))
        clear h2 h2' k2
        go_wp2_with fail
        rw [HR.out]
        exact bodyPost_ret (results_agg_tmp rfl aggRef rfl (cs := zs5) rfl H2.out.cellsAll) rfl ⟨zs5, rfl, TvF.zero _ _, HB2.out⟩
      · have HR : Hid (wholeS b = (x, 0)) := hqZ (by rw [HW.out, if_neg (by decide), if_neg hn])
        have hn' : ¬ (n : Int) < b.length := by omega
        clear hn
        go_wp2_with (first | ((with_reducible show wpList _ _ _ (⟨some 26, _, _, _, _, _⟩ :: _) _ _); refine wpList_ldAgg rfl (.tmp 4) aggRef rfl rfl (cs := cs) HCL.out H3.out.cellsAll ?_) | ((with_reducible show wpList _ _ _ (⟨none, .store _ (.tmp 2) (.tmp 26), _, _, _, _⟩ :: _) _ _); refine wpList_stAgg rfl (.tmp 2) (.tmp 26) aggRef rfl rfl (vs := cs) rfl HCL.out HR3.out (Nat.le_refl _) HC1.out ?_))
        intro w2 h2 k2
        have h2' : Blk w2 w.heap.size cs 30 := by
          rw [List.drop_of_length_le (by decide), List.append_nil] at h2
          exact h2
        have H2 := hqZ h2'
        have hz2 := k2.size
        have HB2 : Hid (Below w.heap.size w w2) := hqZ (HB3.out.trans (k2.below (by omega)))
        have HT2 : Hid (TvF w2 (fun y => w.heap.size ≤ y ∧ y < w2.heap.size) x cs) := hqZ ((HTV3.out.keep k2 (fun y hy _ e => by have := hy.1; omega)).mono (fun y hy => (⟨by omega, by omega⟩ : w.heap.size ≤ y ∧ y < w2.heap.size)))
        clear h2 h2' k2
        go_wp2_with fail
        rw [HR.out]
        exact bodyPost_ret (results_agg_tmp rfl aggRef rfl (cs := cs) HCL.out H2.out.cellsAll) rfl ⟨cs, rfl, HT2.out, HB2.out⟩
    · have HR : Hid (wholeS b = (.zero, e)) := hqZ (by rw [HW.out, if_pos he])
      have he' : (e != 0) = true := by simp [he]
      clear he
      go_wp2_with (first | ((with_reducible show wpList _ _ _ (⟨some 19, _, _, _, _, _⟩ :: _) _ _); refine wpList_bld rfl rfl HZ.out ?_) | ((with_reducible show wpList _ _ _ (⟨none, .store _ (.tmp 2) (.tmp 19), _, _, _, _⟩ :: _) _ _); refine wpList_stAgg rfl (.tmp 2) (.tmp 19) aggRef rfl rfl (vs := zs5) rfl rfl HR3.out (Nat.le_refl _) zs5_one ?_))
      intro w2 h2 k2
      have h2' : Blk w2 w.heap.size zs5 30 := by simpa [zs5] using h2
      have H2 := hqZ h2'
      have HB2 : Hid (Below w.heap.size w w2) := hqZ (HB3.out.trans (k2.below (by omega)))
      clear h2 h2' k2
      go_wp2_with fail
      rw [HR.out]
      exact bodyPost_ret (results_agg_tmp rfl aggRef rfl (cs := zs5) rfl H2.out.cellsAll) rfl ⟨zs5, rfl, TvF.zero _ _, HB2.out⟩
def rightS : Nat → Tv → Bool
  | 0, _ => false
  | d + 1, .mk k t n b l => decide (0 ≤ t) && decide (t ≤ 30) &&
      (if k = 0 then decide (b = []) && decide (l.length = 0) else if k = 1 then decide (n = 0) && decide (l.length = 0) else if k = 2 then l.all (rightS d) && decide (n = 0) && decide (b = []) else false)
theorem eqz_true {n : Nat} (h : n = 0) : ((n : Int) == 0) = true := by subst h; rfl
theorem eqz_false {n : Nat} (h : ¬ n = 0) : ((n : Int) == 0) = false := by simp; exact h
theorem all_snoc {α : Type} (p : α → Bool) (l : List α) (k : Nat) (h : k < l.length) : (l.take (k + 1)).all p = ((l.take k).all p && p l[k]) := by
  rw [List.take_succ_eq_append_getElem h, List.all_append]
  simp
theorem all_not {α : Type} (p : α → Bool) (l : List α) (k : Nat) (h : k < l.length) (hp : p l[k] = false) : l.all p = false := by
  rw [List.all_eq_false]
  exact ⟨l[k], List.getElem_mem h, by simp [hp]⟩
def BoolRes (w : World) (r : Bool) (e : Ending) (w' : World) : Prop := e = .returned (.bool r) ∧ Below w.heap.size w w'
set_option maxHeartbeats 4000000 in
set_option maxRecDepth 100000 in
theorem derRight_any : ∀ (d : Nat) (D : Int) (x : Tv) (F : Nat → Prop) (cs : List Value) (w : World), D = 9 - (d : Int) → d ≤ 8 → TvF w F x cs →
    Calls Try.prog 62 #[.agg cs.toArray, .int .i64 D] w (BoolRes w (rightS d x)) := by
  intro d
  induction d with
  | zero =>
    intro D x F cs w hD hd h
    obtain ⟨bv, lv, rows, rfl, hb, _, hl, _, hls⟩ := h.open_
    have hD' : (8 : Int) < D := by omega
    have HR : Hid (rightS 0 x = false) := hqZ rfl
    clear hD h
    generalize x.tag = t at *
    rcases (by omega : t < 0 ∨ 30 < t ∨ (0 ≤ t ∧ t ≤ 30)) with ht | ht | ⟨ht, ht2⟩
    all_goals
      go_enter Try.func62, Try.ntmps62
      go_wp2_with fail
      go_ret
      rw [HR.out]
      exact ⟨rfl, (Below.refl _ _).alloc (Nat.le_refl _) _⟩
  | succ d ih =>
    intro D x F cs w hD hd h
    obtain ⟨bv, lv, rows, rfl, hb, _, hl, _, hls⟩ := h.open_
    have hD' : ¬ (8 : Int) < D := by omega
    have hD0 : 0 ≤ D := by omega
    have HD := hqZ hD
    have HIH := hqZ ih
    obtain ⟨k, t, n, b, l⟩ := x
    simp only [Tv.kind, Tv.tag, Tv.n, Tv.b, Tv.l] at *
    obtain ⟨ab, cb, rfl, hcb, hmb⟩ := hb.form
    obtain ⟨al, cl, rfl, hcl, hml⟩ := hl.form
    unfold maxLen at hmb hml
    have hRS : rightS (d + 1) (.mk k t n b l) = (decide (0 ≤ t) && decide (t ≤ 30) &&
      (if k = 0 then decide (b = []) && decide (l.length = 0) else if k = 1 then decide (n = 0) && decide (l.length = 0) else if k = 2 then l.all (rightS d) && decide (n = 0) && decide (b = []) else false)) := rfl
    have HRS := hqZ hRS
    have HL := hqZ hl
    have HLS := hqZ hls
    clear hD ih h hb hl hls hRS
    rcases (by omega : t < 0 ∨ 30 < t ∨ (0 ≤ t ∧ t ≤ 30)) with ht | ht | ⟨ht, ht2⟩
    · have HR : Hid (rightS (d + 1) (.mk k t n b l) = false) := hqZ (by rw [HRS.out]; simp; omega)
      clear HRS
      go_enter Try.func62, Try.ntmps62
      go_wp2_with fail
      go_ret
      rw [HR.out]
      exact ⟨rfl, (Below.refl _ _).alloc (Nat.le_refl _) _⟩
    · have HR : Hid (rightS (d + 1) (.mk k t n b l) = false) := hqZ (by rw [HRS.out]; simp; omega)
      clear HRS
      go_enter Try.func62, Try.ntmps62
      go_wp2_with fail
      go_ret
      rw [HR.out]
      exact ⟨rfl, (Below.refl _ _).alloc (Nat.le_refl _) _⟩
    · by_cases hk0 : k = 0
      · subst hk0
        by_cases g1 : b.length = 0
        · have g1' : ((b.length : Int) == 0) = true := eqz_true g1
          by_cases g2 : l.length = 0
          · have g2' : ((l.length : Int) == 0) = true := eqz_true g2
            have HR : Hid (rightS (d + 1) (.mk 0 t n b l) = true) := hqZ (by rw [HRS.out]; simp [g1, g2, List.eq_nil_of_length_eq_zero, ht, ht2]; try exact List.eq_nil_of_length_eq_zero (by omega))
            clear g1 g2
            clear HRS
            go_enter Try.func62, Try.ntmps62
            go_wp2_with fail
            go_ret
            rw [HR.out]
            exact ⟨rfl, (Below.refl _ _).alloc (Nat.le_refl _) _⟩
          · have g2' : ((l.length : Int) == 0) = false := eqz_false g2
            have HR : Hid (rightS (d + 1) (.mk 0 t n b l) = false) := hqZ (by rw [HRS.out]; have : ¬ l = [] := fun e => g2 (by rw [e]; rfl); simp [g2, this])
            clear g1 g2
            clear HRS
            go_enter Try.func62, Try.ntmps62
            go_wp2_with fail
            go_ret
            rw [HR.out]
            exact ⟨rfl, (Below.refl _ _).alloc (Nat.le_refl _) _⟩
        · have g1' : ((b.length : Int) == 0) = false := eqz_false g1
          have HR : Hid (rightS (d + 1) (.mk 0 t n b l) = false) := hqZ (by rw [HRS.out]; have : ¬ b = [] := fun e => g1 (by rw [e]; rfl); simp [g1, this])
          clear g1
          clear HRS
          go_enter Try.func62, Try.ntmps62
          go_wp2_with fail
          go_ret
          rw [HR.out]
          exact ⟨rfl, (Below.refl _ _).alloc (Nat.le_refl _) _⟩
      · by_cases hk1 : k = 1
        · subst hk1
          by_cases g1 : n = 0
          · have g1' : ((n : Int) == 0) = true := eqz_true g1
            by_cases g2 : l.length = 0
            · have g2' : ((l.length : Int) == 0) = true := eqz_true g2
              have HR : Hid (rightS (d + 1) (.mk 1 t n b l) = true) := hqZ (by rw [HRS.out]; simp [g1, g2, List.eq_nil_of_length_eq_zero, ht, ht2]; try exact List.eq_nil_of_length_eq_zero (by omega))
              clear g1 g2
              clear HRS
              go_enter Try.func62, Try.ntmps62
              go_wp2_with fail
              go_ret
              rw [HR.out]
              exact ⟨rfl, (Below.refl _ _).alloc (Nat.le_refl _) _⟩
            · have g2' : ((l.length : Int) == 0) = false := eqz_false g2
              have HR : Hid (rightS (d + 1) (.mk 1 t n b l) = false) := hqZ (by rw [HRS.out]; have : ¬ l = [] := fun e => g2 (by rw [e]; rfl); simp [g2, this])
              clear g1 g2
              clear HRS
              go_enter Try.func62, Try.ntmps62
              go_wp2_with fail
              go_ret
              rw [HR.out]
              exact ⟨rfl, (Below.refl _ _).alloc (Nat.le_refl _) _⟩
          · have g1' : ((n : Int) == 0) = false := eqz_false g1
            have HR : Hid (rightS (d + 1) (.mk 1 t n b l) = false) := hqZ (by rw [HRS.out]; have : True := trivial; simp [g1, this])
            clear g1
            clear HRS
            go_enter Try.func62, Try.ntmps62
            go_wp2_with fail
            go_ret
            rw [HR.out]
            exact ⟨rfl, (Below.refl _ _).alloc (Nat.le_refl _) _⟩
        · have hk0' : (k == 0) = false := by simp [hk0]
          have hk1' : (k == 1) = false := by simp [hk1]
          by_cases hk2 : k = 2
          · subst hk2
            have hRS := HRS.out
            rw [if_neg (by decide), if_neg (by decide), if_pos rfl] at hRS
            have HRS := hqZ hRS
            have HBB : Hid (Below w.heap.size w (w.alloc (.cells #[.int .i64 2, .int .i64 t, .int .u64 n, .slice ab b.length cb, .slice al l.length cl] 38))) := hqZ ((Below.refl _ _).alloc (Nat.le_refl _) _)
            clear hk0 hk1 hk0' hk1' hRS
            go_enter Try.func62, Try.ntmps62
            go_wp2_with fail
            have hq0 : Blk (w.alloc (.cells #[.int .i64 2, .int .i64 t, .int .u64 n, .slice ab b.length cb, .slice al l.length cl] 38)) w.heap.size [.int .i64 2, .int .i64 t, .int .u64 n, .slice ab b.length cb, .slice al l.length cl] 38 := Blk.new w _ _
            have HQ0 := hqZ hq0
            clear hq0
            go_loopw [49] (fun i wr => ∃ k : Nat, k ≤ l.length ∧ i = .int .i64 k ∧ (l.take k).all (rightS d) = true ∧ Blk wr w.heap.size [.int .i64 2, .int .i64 t, .int .u64 n, .slice ab b.length cb, .slice al l.length cl] 38 ∧ Below w.heap.size w wr) (fun i _ => l.length - (intOf i).toNat)
            case atStart => exact ⟨0, Nat.zero_le _, rfl, rfl, HQ0.out, HBB.out⟩
            case round =>
              obtain ⟨j, hj, rfl, hall, hq, hB⟩ := hrel
              have HB := hqZ hB
              have HQ := hqZ hq
              have HALL := hqZ hall
              have hzr := hB.size
              by_cases hlt : j < l.length
              · obtain ⟨bl, ol, rfl, _⟩ := HL.out.addr (by rw [HL.out.1]; omega)
                obtain ⟨r, hr, hrc⟩ := HLS.out.cells HL.out j hlt
                have hcr : CellsAt wr bl (ol + j * 5) r := fun i u hi => below_cell hB (hrc i u hi)
                have hsn := all_snoc (rightS d) l j hlt
                have hno := all_not (rightS d) l j hlt
                have hji : (j : Int) < l.length := by omega
                generalize l[j] = y at hr hsn hno
                have hrl := hr.length
                have HR1 := hqZ hr.one
                have HRL := hqZ hrl
                have HCR := hqZ hcr
                have HRT := hqZ (hr.below hB)
                have HSN := hqZ hsn
                have HNO := hqZ hno
                have HN := hqZ (Blk.new wr zs5 38)
                clear hr hrc hcr hsn hno hrl hB hq hall
                go_wp2_with (first | ((with_reducible show wpList _ _ _ (⟨some 52, _, _, _, _, _⟩ :: _) _ _); refine wpList_ldAgg rfl (.tmp 51) aggDer rfl rfl (cs := r) HRL.out HCR.out ?_) | ((with_reducible show wpList _ _ _ (⟨none, .store _ (.tmp 6) (.tmp 52), _, _, _, _⟩ :: _) _ _); refine wpList_stAgg rfl (.tmp 6) (.tmp 52) aggDer rfl rfl (vs := r) rfl HRL.out HN.out (Nat.le_refl _) HR1.out ?_))
                intro w3 h3 k3
                have h3' : Blk w3 wr.heap.size r 38 := by
                  rw [List.drop_of_length_le (by decide), List.append_nil] at h3
                  exact h3
                have hz3 := k3.size
                simp at hz3
                have hb3 : Below wr.heap.size wr w3 := ((Below.refl _ _).alloc (Nat.le_refl _) _).trans (k3.below (by omega))
                have H3 := hqZ h3'
                have hblk : w.heap.size < wr.heap.size := HQ.out.lt
                have HQ3 := hqZ (HQ.out.below hb3 hblk)
                have HB3 : Hid (Below w.heap.size w w3) := hqZ (HB.out.trans (hb3.mono hzr))
                have HCALL := hqZ (HIH.out (D + 1) y F r w3 (by have := HD.out; omega) (by omega) (HRT.out.below hb3))
                clear h3 h3' k3 hb3 HN HRT HCR
                go_wp2_with ((with_reducible show wpList _ _ _ (⟨some 53, _, _, _, _, _⟩ :: _) _ _); refine wpList_ldAgg rfl (.tmp 6) aggDer rfl rfl (cs := r) HRL.out H3.out.cellsAll ?_)
                refine HCALL.out.mono ?_
                rintro e w4 ⟨rfl, hb4⟩
                have hz4 := hb4.size
                have HQ4 := hqZ (HQ3.out.below hb4 (by omega))
                have HB4 : Hid (Below w.heap.size w w4) := hqZ (HB3.out.trans (hb4.mono (by omega)))
                clear hb4 HCALL HQ3 HB3 H3
                obtain ⟨v, hv⟩ : ∃ v, v = rightS d y := ⟨_, rfl⟩
                rw [← hv] at HSN HNO ⊢
                clear hv
                cases v with
                | true =>
                  go_wp2_with fail
                  go_roundw
                  case rel => exact ⟨j + 1, by omega, by go_num, by rw [HSN.out, HALL.out]; rfl, HQ4.out, HB4.out⟩
                  case measure => simp [intOf]; omega
                | false =>
                  have HR : Hid (rightS (d + 1) (.mk 2 t n b l) = false) := hqZ (by rw [HRS.out, HNO.out rfl]; simp)
                  go_wp2_with fail
                  go_ret
                  rw [HR.out]
                  exact ⟨rfl, HB4.out⟩
              · obtain rfl : j = l.length := by omega
                rw [List.take_length] at hall
                have hn0 : wr.cell? ⟨w.heap.size, 2, none⟩ = some (.int .u64 n) := by rw [hq.cell]; rfl
                have hb0 : wr.cell? ⟨w.heap.size, 3, none⟩ = some (.slice ab b.length cb) := by rw [hq.cell]; rfl
                by_cases g1 : n = 0
                · have g1' : ((n : Int) == 0) = true := eqz_true g1
                  by_cases g2 : b.length = 0
                  · have g2' : ((b.length : Int) == 0) = true := eqz_true g2
                    have HR : Hid (rightS (d + 1) (.mk 2 t n b l) = true) := hqZ (by rw [HRS.out, hall]; simp [g1, ht, ht2]; exact List.eq_nil_of_length_eq_zero g2)
                    clear g1 g2 hall hq HQ0 HQ hB
                    go_wp2_with fail
                    go_ret
                    rw [HR.out]
                    exact ⟨rfl, HB.out⟩
                  · have g2' : ((b.length : Int) == 0) = false := eqz_false g2
                    have HR : Hid (rightS (d + 1) (.mk 2 t n b l) = false) := hqZ (by rw [HRS.out]; have : ¬ b = [] := fun e => g2 (by rw [e]; rfl); simp [this])
                    clear g1 g2 hall hq HQ0 HQ hB
                    go_wp2_with fail
                    go_ret
                    rw [HR.out]
                    exact ⟨rfl, HB.out⟩
                · have g1' : ((n : Int) == 0) = false := eqz_false g1
                  have HR : Hid (rightS (d + 1) (.mk 2 t n b l) = false) := hqZ (by rw [HRS.out]; simp [g1])
                  clear g1 hall hq HQ0 HQ hB
                  go_wp2_with fail
                  go_ret
                  rw [HR.out]
                  exact ⟨rfl, HB.out⟩
          · have hk2' : (k == 2) = false := by simp [hk2]
            have HR : Hid (rightS (d + 1) (.mk k t n b l) = false) := hqZ (by rw [HRS.out]; simp [hk0, hk1, hk2])
            clear hk0 hk1 hk2
            clear HRS
            go_enter Try.func62, Try.ntmps62
            go_wp2_with fail
            go_ret
            rw [HR.out]
            exact ⟨rfl, (Below.refl _ _).alloc (Nat.le_refl _) _⟩
set_option maxRecDepth 100000 in
theorem derRightIt_any (x : Tv) (F : Nat → Prop) (cs : List Value) (w : World) (h : TvF w F x cs) : Calls Try.prog 45 #[.agg cs.toArray] w (BoolRes w (rightS 8 x)) := by
  have hl := h.length
  have HL := hqZ hl
  have HC := hqZ (derRight_any 8 1 x F cs (w.alloc (.cells cs.toArray 38)) (by decide) (Nat.le_refl _) (h.below ((Below.refl _ _).alloc (Nat.le_refl _) _)))
  have HN := hqZ (Blk.new w cs 38)
  clear h hl
  go_enter Try.func45, Try.ntmps45
  go_wp2_with ((with_reducible show wpList _ _ _ (⟨some 3, _, _, _, _, _⟩ :: _) _ _); refine wpList_ldAgg rfl (.tmp 1) aggDer rfl rfl (cs := cs) HL.out HN.out.cellsAll ?_)
  refine HC.out.mono ?_
  rintro e w1 ⟨rfl, hb1⟩
  have HB : Hid (Below w.heap.size w w1) := hqZ (((Below.refl _ _).alloc (Nat.le_refl _) _).trans (hb1.mono (by simp)))
  clear hb1
  go_wp2_with fail
  go_ret
  exact ⟨rfl, HB.out⟩
mutual
def Lw : Tv → Prop
  | .mk _ _ _ _ l => l.length ≤ 1954687338211 ∧ LsW l
def LsW : List Tv → Prop
  | [] => True
  | x :: l => Lw x ∧ LsW l
end
theorem LsW.mem : ∀ {l : List Tv}, LsW l → ∀ x ∈ l, Lw x
  | [], _, x, hx => by simp at hx
  | y :: l, h, x, hx => by
    rcases List.mem_cons.1 hx with e | hx
    · rw [e]; exact h.1
    · exact h.2.mem x hx
theorem LsW.of : ∀ {l : List Tv}, (∀ x ∈ l, Lw x) → LsW l
  | [], _ => trivial
  | y :: l, h => ⟨h y (by simp), LsW.of (fun x hx => h x (by simp [hx]))⟩
structure PL (w : World) (F : Nat → Prop) (r : Nat) (k t : Int) (n : Nat) (bv : Value) (l : List Tv) (wr : World) (j : Nat) (lv : Value) (rows : List Value) (G : Nat → Prop) : Prop where
  q : Blk wr (r + 2) [.int .i64 k, .int .i64 t, .int .u64 n, bv, lv] 30
  z : Blk wr (r + 1) zs5 30
  own : Own wr (r + 3) 30 5 lv j rows
  tvs : TvsF wr G (l.take j) rows
  g : ∀ x, G x → (F x ∧ x < r) ∨ (r + 3 ≤ x ∧ x < wr.heap.size ∧ lv.ownBlock ≠ some x)
  v : ∀ x, lv.ownBlock = some x → r + 3 ≤ x ∧ x < wr.heap.size
  below : Below r w wr
  size : r + 3 ≤ wr.heap.size
theorem run_growW {P : Program} {w : World} {t ty e : TypeId} {i : TypeInfo} {z : Value} {size bytes : Nat} (ht : P.underlying t = some (.slice e)) (hi : P.info? e = some i) (hz : i.zero = some z)
    (hsize : i.size = size) (hby : i.bytes = bytes) (hzs : z.cells.size = size) (b : Addr) (n cap : Nat) (olds : List Value) (hlo : olds.length = n * size) (holds : ∀ j u, olds[j]? = some u → w.cell? (b.add j) = some u)
    (a : Addr) (m c : Nat) (news : List Value) (hl : news.length = m * size) (hnews : ∀ j u, news[j]? = some u → w.cell? (a.add j) = some u)
    (hg : cap < n + m) (h63 : n + m ≤ maxLen) (hbytes : ((n + m) + (n + m) / 4 + 192) * bytes ≤ 281474976710656) :
    ∃ v' w', (Builtin.append_ #[t, t] ty #[.slice (some b) n cap, .slice (some a) m c]).run P w = .ok v' w' ∧ w'.ownsRow w.heap.size e size v' (n + m) (olds ++ news) ∧ w.grownBy w' none := by
  subst hsize hby
  have hall : (olds ++ news).length = (n + m) * i.size := by rw [List.length_append, hlo, hl, Nat.add_mul]
  have hge := grownCap_ge w (n + m) cap e
  have hcm := grownCap_le_maxLen w (n + m) cap e h63
  refine ⟨_, _, run_append_grow (P := P) w t ty e i z ht hi hz b n cap olds hlo holds a m c news hl hnews hg (by unfold maxLen at h63; omega) (growslice_fits_wide hg hbytes),
    ⟨hall, .inr ⟨w.heap.size, _, _, rfl, Nat.le_refl _, heap_alloc_new w.drew _, hge, hcm, ?_, ?_⟩⟩, ⟨rfl, rfl, rfl, by simp, fun k hk _ => (by first | exact heap_alloc_old w.drew _ hk | exact heap_alloc_old w.drew _ k hk)⟩⟩
  · simp only [Array.size_append, List.size_toArray, size_zeroCells, hzs, hlo, hl]
    rw [← Nat.add_mul, ← Nat.add_mul]
    congr 1
    omega
  · simp only [Array.toList_append]
    rw [← hall]
    exact List.take_left
theorem run_appW {P : Program} {w : World} {t ty e : TypeId} {size bytes : Nat} {z : Value} (hE : Elem P t e size bytes z) {B : Nat}
    {v : Value} {n : Nat} {cs : List Value} (hown : Own w B e size v n cs) {x : Value} {m : Nat} {ds : List Value} (hsl : Sl w size x m ds)
    (h63 : n + m ≤ maxLen) (hbytes : ((n + m) + (n + m) / 4 + 192) * bytes ≤ 281474976710656) (hbase : B ≤ w.heap.size) :
    ∃ v' w', (Builtin.append_ #[t, t] ty #[v, x]).run P w = .ok v' w' ∧ Own w' B e size v' (n + m) (cs ++ ds) ∧ Keeps (fun k => v.ownBlock = some k ∧ B ≤ k ∨ w.heap.size ≤ k) w w' ∧ (∀ b, v'.ownBlock = some b → v.ownBlock = some b ∨ w.heap.size ≤ b) := by
  obtain ⟨ht, i, hi, hz, hsize, hby, hzs, hsz⟩ := hE
  obtain ⟨hdl, hd1, a, c, rfl, hmc, hcm, hanone, hat⟩ := hsl
  obtain ⟨hcl, hc1, hform⟩ := hown
  have hall : ∀ u ∈ cs ++ ds, u.oneCell' = true := by
    intro u hu
    rcases List.mem_append.1 hu with h | h
    · exact hc1 u h
    · exact hd1 u h
  have hlen : (cs ++ ds).length = (n + m) * size := by rw [List.length_append, hcl, hdl, Nat.add_mul]
  by_cases hm0 : m = 0
  · -- nothing is appended
    subst hm0
    obtain rfl : ds = [] := List.eq_nil_of_length_eq_zero (by simpa using hdl)
    have hfc : (Builtin.firstCells size 0 (.slice a 0 c)).run P w = .ok #[] w := by
      cases a <;> simp [Builtin.firstCells, loadCells, loadCellsFrom]
    refine ⟨v, w, ?_, ⟨by simpa using hcl, by simpa using hc1, by simpa using hform⟩, Keeps.refl _ _, fun b h => .inl h⟩
    rcases hform with ⟨a0, rfl, rfl⟩ | ⟨g, cap, cur, rfl, _, _, hnc, _⟩
    · cases a0 <;> simp [Builtin.append_, run_underlying ht, sizeOf, typeInfo, hi, Builtin.lenOf, hsize, hfc, storeCells]
    · simp [Builtin.append_, run_underlying ht, sizeOf, typeInfo, hi, Builtin.lenOf, hsize, hfc, hnc, storeCells]
  · have hdpos : 0 < ds.length := by rw [hdl]; exact Nat.mul_pos (by omega) hsz
    obtain ⟨b, off, rfl, hcell⟩ : ∃ b off, a = some ⟨b, off, none⟩ ∧ ∀ j u, ds[j]? = some u → w.cell? ⟨b, off + j, none⟩ = some u := by
      rcases hat with h | h
      · subst h; simp at hdpos
      · exact h
    have hnews : ∀ j u, ds[j]? = some u → w.cell? ((⟨b, off, none⟩ : Addr).add j) = some u := fun j u hj => by rw [Addr.add_lit]; exact hcell j u hj
    have fresh : ∀ (v' : Value) (w' : World), w'.ownsRow w.heap.size e size v' (n + m) (cs ++ ds) → w.grownBy w' none →
        Own w' B e size v' (n + m) (cs ++ ds) ∧ Keeps (fun k => v.ownBlock = some k ∧ B ≤ k ∨ w.heap.size ≤ k) w w' ∧ (∀ b, v'.ownBlock = some b → v.ownBlock = some b ∨ w.heap.size ≤ b) := by
      intro v' w' h1 h2
      refine ⟨(Own.of_row h1 hall).base hbase, (Keeps.refl _ _).grown h2 (fun k hk => Or.inr hk) (by simp), fun b hb => .inr (h1.lt b hb).1⟩
    rcases hform with ⟨a0, rfl, rfl⟩ | ⟨g, cap, cur, rfl, hbg, hg, hnc, hcm', hcs, htake⟩
    · obtain rfl : cs = [] := List.eq_nil_of_length_eq_zero (by simpa using hcl)
      cases a0 with
      | none =>
        obtain ⟨v', w', hr, h1, h2, _⟩ := run_append_own_wide (P := P) w w.heap.size t ty e i z size bytes ht hi hz hsize hby hzs hsz (.slice none 0 0) 0 [] (World.ownsRow_nil w _ e size) ⟨b, off, none⟩ m c ds hdl hnews hd1 h63 hbytes (Nat.le_refl _)
        exact ⟨v', w', hr, fresh v' w' h1 h2⟩
      | some b0 =>
        obtain ⟨v', w', hr, h1, h2⟩ := run_growW (P := P) (w := w) (ty := ty) ht hi hz hsize hby hzs b0 0 0 [] (by simp) (by simp) ⟨b, off, none⟩ m c ds hdl hnews (by omega) h63 hbytes
        exact ⟨v', w', hr, fresh v' w' h1 h2⟩
    · by_cases hroom : n + m ≤ cap
      · obtain ⟨w', hr, h1, h2⟩ := run_append_fits (P := P) w B t ty e i size ht hi hsize g n cap cs ⟨hcl, .inr ⟨g, cap, cur, rfl, hbg, hg, hnc, hcm', hcs, htake⟩⟩ ⟨b, off, none⟩ m c ds hdl hnews hd1 hroom
        exact ⟨_, w', hr, Own.of_row h1 hall, (Keeps.refl _ _).grown h2 (fun k hk => Or.inr hk) (fun k hk => by simp only [Option.some.injEq] at hk; subst hk; exact .inl ⟨rfl, hbg⟩), fun b hb => .inl hb⟩
      · have holds : ∀ j u, cs[j]? = some u → w.cell? ((⟨g, 0, none⟩ : Addr).add j) = some u := by
          intro j u hj
          have hjl : j < n * size := by have := (List.getElem?_eq_some_iff.1 hj).1; omega
          rw [← htake, List.getElem?_take, if_pos hjl] at hj
          rw [Addr.add_lit, Nat.zero_add, cell_of_row w g j cur e (0, 0) hg, ← Array.getElem?_toList]
          exact hj
        obtain ⟨v', w', hr, h1, h2⟩ := run_growW (P := P) (w := w) (ty := ty) ht hi hz hsize hby hzs ⟨g, 0, none⟩ n cap cs hcl holds ⟨b, off, none⟩ m c ds hdl hnews (by omega) h63 hbytes
        exact ⟨v', w', hr, fresh v' w' h1 h2⟩
theorem wpList_appW {P : Program} {w : World} {ops : Array Oper} {rest : List Oper} {o : Oper} {a : Act} {Q : Exit → Act → World → Prop} (hgd : Region.wanted o (yielded ops a.tmps) = true) (s x : Operand) {t e : TypeId} {size bytes : Nat} {z : Value}
    (hE : Elem P t e size bytes z) (ho : o.op = .call { callee := .builtin .append, args := #[s, x], argTypes := #[t, t] }) (B : Nat)
    {n : Nat} {cs : List Value} (hown : Own w B e size (a.eval s) n cs) {m : Nat} {ds : List Value} (hsl : Sl w size (a.eval x) m ds)
    (h63 : n + m ≤ maxLen) (hbytes : ((n + m) + (n + m) / 4 + 192) * bytes ≤ 281474976710656) (hbase : B ≤ w.heap.size)
    (h : ∀ v' w', Own w' B e size v' (n + m) (cs ++ ds) → Keeps (fun k => (a.eval s).ownBlock = some k ∧ B ≤ k ∨ w.heap.size ≤ k) w w' → (∀ b, v'.ownBlock = some b → (a.eval s).ownBlock = some b ∨ w.heap.size ≤ b) → wpList P ops Q rest (a.put o.dst v') w') : wpList P ops Q (o :: rest) a w := by
  obtain ⟨v', w', hr, h2, h3, h4⟩ := run_appW (P := P) (ty := o.type) hE hown hsl h63 hbytes hbase
  refine wpList_want hgd fun K hK => ?_
  unfold Oper.wp execOp
  simp only [ho, resolve, invoke, builtin, Sem.run_bind, Sem.run_pure, Result.andThen_ok, List.map_toArray, List.map_cons, List.map_nil, hr]
  exact hK _ _ (h v' w' h2 h3 h4)
def keyV (k : List UInt8) : Value := .agg (bCells k).toArray
theorem aggKey : AggTy Try.prog 119 16 := AggTy.mk Try.underlying119 rfl (by kernel_rfl)
def zs16 : List Value := [.int .u8 0, .int .u8 0, .int .u8 0, .int .u8 0, .int .u8 0, .int .u8 0, .int .u8 0, .int .u8 0, .int .u8 0, .int .u8 0, .int .u8 0, .int .u8 0, .int .u8 0, .int .u8 0, .int .u8 0, .int .u8 0]
end Go.Proofs.Ytpjkidcfidmfaaa
