/- Texts of this proof, one behind the other: DerRead, Same, Ref01, DerWhole, DerRight, Plain, Octet2, DerHead, DerWrite, DerWr, DerMk, DerWrO. -/
import Derived.Test.YtiplepdmkbiehaaAeA3
import Derived.Deep.DeepCutAuto
import Derived.Outline
import Derived.StillTailTactics
namespace Go.Proofs.Ytiplepdmkbiehaa
set_option linter.unusedSimpArgs false
set_option linter.unusedVariables false
open Go.RowKit
theorem results_agg_tmp2 {P : Program} {fn : Func} {p u u' : Tmp} {ty : TypeId} {m : Nat} (hr : fn.results = #[.cell p ty, .tmp u, .tmp u']) (hT : AggTy P ty m) {tmps : Array Value} {w : World} {b o : Nat} (hp : tmps.getD p undef = .pointer (some ⟨b, o, none⟩)) {cs : List Value} (hm : cs.length = m) (hc : CellsAt w b o cs) :
    (results fn tmps).run P w = .ok (.tuple #[.agg cs.toArray, tmps.getD u undef, tmps.getD u' undef]) w := by
  have hp' : tmps[p]?.getD undef = .pointer (some ⟨b, o, none⟩) := by simpa using hp
  simp [results, hr, hp', asAddr, run_ldAgg hT hm hc]
theorem aggDer : AggTy Try.prog 76 5 := AggTy.mk Try.underlying76 rfl (by kernel_rfl)
theorem elDer : Elem Try.prog 74 76 5 72 (.agg #[.int .i64 0, .int .i64 0, .int .u64 0, .slice none 0 0, .slice none 0 0]) := by
  refine Elem.mk Try.underlying74 ?_ rfl (by decide)
  kernel_rfl
def zs5 : List Value := [.int .i64 0, .int .i64 0, .int .u64 0, .slice none 0 0, .slice none 0 0]
theorem zs5_one : ∀ u ∈ zs5, u.oneCell' = true := by intro u hu; simp [zs5] at hu; rcases hu with rfl | rfl | rfl | rfl | rfl <;> rfl
theorem der_zero : Try.prog.built 76 [] = some zs5.toArray := by kernel_rfl
/-- What a reader gives: a value's cells, how many bytes, the error's number. -/
def RdRes (w : World) (r : Tv × Nat × Int) (e : Ending) (w' : World) : Prop :=
  ∃ cs : List Value, e = .returned (.tuple #[.agg cs.toArray, .int .i64 r.2.1, .int .i64 r.2.2]) ∧ TvF w' (fun x => w.heap.size ≤ x ∧ x < w'.heap.size) r.1 cs ∧ Below w.heap.size w w'
def sliceLen : Value → Nat
  | .slice _ n _ => n
  | _ => 0
def LS (d : Nat) (b : List UInt8) : List Tv × Int := listS (readS d) b.length b
theorem LS_nil (d : Nat) : LS d [] = ([], 0) := rfl
theorem LS_ok {d : Nat} {b : List UInt8} {x : Tv} {k : Nat} (hb : b ≠ []) (h : readS d b = (x, k, 0)) : LS d b = (x :: (LS d (b.drop k)).1, (LS d (b.drop k)).2) := by
  have hk := readS_takes d _ _ _ h
  unfold LS
  obtain ⟨n, hn⟩ : ∃ n, b.length = n + 1 := ⟨b.length - 1, by have := List.length_pos_iff.2 hb; omega⟩
  rw [hn, listS_ok hb h, listS_fuel (readS_takes d) n (b.drop k).length _ (by rw [List.length_drop]; omega) (Nat.le_refl _)]
theorem LS_bad {d : Nat} {b : List UInt8} {x : Tv} {k : Nat} {e : Int} (hb : b ≠ []) (h : readS d b = (x, k, e)) (he : e ≠ 0) : LS d b = ([], e) := by
  unfold LS
  obtain ⟨n, hn⟩ : ∃ n, b.length = n + 1 := ⟨b.length - 1, by have := List.length_pos_iff.2 hb; omega⟩
  rw [hn, listS_bad hb h he]
/-- Within the loop over a list's values: r the result's block, r + 1 the value's. -/
structure DL (w : World) (r : Nat) (d : Nat) (T : Int) (body : List UInt8) (inv : Value) (wr : World) (rest : List UInt8) (acc : List Tv) (lv : Value) (rows : List Value) (F : Nat → Prop) : Prop where
  bs : Bs w inv rest
  ls : LS d body = (acc ++ (LS d rest).1, (LS d rest).2)
  few : acc.length + rest.length ≤ body.length
  q : Blk wr (r + 1) [.int .i64 2, .int .i64 T, .int .u64 0, .slice none 0 0, lv] 76
  z : Blk wr r zs5 76
  own : Own wr (r + 2) 76 5 lv acc.length rows
  tvs : TvsF wr F acc rows
  f : ∀ x, F x → r + 2 ≤ x ∧ x < wr.heap.size ∧ lv.ownBlock ≠ some x
  v : ∀ x, lv.ownBlock = some x → r + 2 ≤ x ∧ x < wr.heap.size
  below : Below r w wr
  size : r + 2 ≤ wr.heap.size
set_option maxHeartbeats 4000000 in
set_option maxRecDepth 100000 in
theorem derRead_any : ∀ (d : Nat) (D : Int) (v : Value) (b : List UInt8) (w : World), D = 9 - (d : Int) → d ≤ 8 → Bs w v b → b.length ≤ 1048576 →
    Calls Try.prog 59 #[v, .int .i64 D] w (RdRes w (readS d b)) := by
  intro d
  induction d with
  | zero =>
    intro D v b w hD hd h hbl
    have hD' : (8 : Int) < D := by omega
    have HZ := hI der_zero
    have HN := hI (Blk.new w zs5 76)
    have HR : Hid (readS 0 b = (.zero, 0, 4)) := hI rfl
    clear hD
    go_enter Try.func59, Try.ntmps59
    go_wp2_with (first | ((with_reducible show wpList _ _ _ (⟨some 19, _, _, _, _, _⟩ :: _) _ _); refine wpList_bld rfl rfl HZ.out ?_) | ((with_reducible show wpList _ _ _ (⟨none, .store _ (.tmp 4) (.tmp 19), _, _, _, _⟩ :: _) _ _); refine wpList_stAgg rfl (.tmp 4) (.tmp 19) aggDer rfl rfl (vs := zs5) rfl rfl HN.out (Nat.le_refl _) zs5_one ?_))
    intro w2 h2 k2
    have h2' : Blk w2 w.heap.size zs5 76 := by simpa [zs5] using h2
    have H2 := hI h2'
    have HB2 : Hid (Below w.heap.size w w2) := hI (((Below.refl _ _).alloc (Nat.le_refl _) _).trans (k2.below (by omega)))
    clear h2 h2' k2
    go_wp2_with fail
    rw [HR.out]
    exact bodyPost_ret (results_agg_tmp2 rfl aggDer rfl (cs := zs5) rfl H2.out.cellsAll) rfl ⟨zs5, rfl, TvF.zero _ _, HB2.out⟩
  | succ d ih =>
    intro D v b w hD hd h hbl
    have hD' : ¬ (8 : Int) < D := by omega
    have HD := hI hD
    have HIH := hI ih
    have HZ := hI der_zero
    have HN := hI (Blk.new w zs5 76)
    have HS := hI (derSize_any v b (w.alloc (.cells zs5.toArray 76)) (h.alloc _))
    clear hD ih
    obtain ⟨n, at', e0, hs⟩ : ∃ n at' e, sizeS b = (n, at', e) := ⟨_, _, _, rfl⟩
    rw [hs] at HS
    go_enter Try.func59, Try.ntmps59
    go_wp2_with fail
    refine HS.out.mono ?_
    rintro e w' ⟨rfl, hw'⟩
    rw [← hw']
    clear hw'
    by_cases he : e0 = 0
    · have he' : (e0 != 0) = false := by simp [he]
      subst he
      obtain ⟨hat2, hatn, hat4⟩ := sizeS_ok hs
      obtain ⟨a, cap, rfl, hcap, hcm⟩ := h.form
      have hmx := hcm
      unfold maxLen at hcm
      obtain ⟨bb, off, rfl, hc⟩ := h.addr (by rw [bCells_length]; omega)
      have hb0 : b[0]'(by omega) = b.getD 0 0 := by rw [List.getD_eq_getElem?_getD, List.getElem?_eq_getElem (by omega)]; rfl
      have hlt := (b.getD 0 0).toNat_lt
      have hR : readS (d + 1) b = if 2 < (b.getD 0 0).toNat / 64 ∨ 30 < (b.getD 0 0).toNat % 64 then (.zero, 0, 2)
          else if (b.getD 0 0).toNat / 64 = 0 then
            (if (getB ((b.drop at').take n)).2 = false ∨ (1 < n ∧ (b.drop at').getD 0 0 = 0) then (.zero, 0, 4)
             else (.mk 0 ((b.getD 0 0).toNat % 64 : Nat) (getB ((b.drop at').take n)).1 [] [], at' + n, 0))
          else if (b.getD 0 0).toNat / 64 = 1 then (.mk 1 ((b.getD 0 0).toNat % 64 : Nat) 0 ((b.drop at').take n) [], at' + n, 0)
          else match listS (readS d) n ((b.drop at').take n) with
            | (l, e) => if e = 0 then (.mk 2 ((b.getD 0 0).toNat % 64 : Nat) 0 [] l, at' + n, 0) else (.zero, 0, e) := by
        rw [readS, hs]
        simp only
        rw [if_neg (by decide)]
      have c0 : (w.alloc (.cells zs5.toArray 76)).drew.cell? ⟨bb, off, none⟩ = some (.int .u8 (b.getD 0 0).toNat) := by
        rw [← hb0]
        exact below_cell (((Below.refl _ _).alloc (Nat.le_refl _) (.cells zs5.toArray 76)).drew) (hc 0 _ (bCells_get b 0 (by omega)))
      have c0' : ((w.alloc (.cells zs5.toArray 76)).alloc (.cells #[.int .i64 0, .int .i64 0, .int .u64 0, .slice none 0 0, .slice none 0 0] 76)).drew.cell? ⟨bb, off, none⟩ = some (.int .u8 (b.getD 0 0).toNat) := by
        rw [← hb0]
        exact below_cell ((((Below.refl _ _).alloc (Nat.le_refl _) (.cells zs5.toArray 76)).alloc (by simp) _).drew) (hc 0 _ (bCells_get b 0 (by omega)))
      have HR := hI hR
      have HB := hI h
      have hlen0 : 0 < b.length := by omega
      generalize (b.getD 0 0).toNat = c at c0 c0' hlt HR
      clear hR hs hb0 hc h
      go_wp2_with fail
      go_region
      have e1 : (c : Int) / 64 = ((c / 64 : Nat) : Int) := by omega
      have e2 : (c : Int) % 64 = ((c % 64 : Nat) : Int) := by omega
      rw [e1, e2]
      clear c0 c0' e1 e2
      have hK : c / 64 ≤ 3 := by omega
      have hT : c % 64 ≤ 63 := by omega
      generalize c / 64 = K at HR hK ⊢
      generalize c % 64 = T at HR hT ⊢
      generalize hW1 : ((w.alloc (.cells zs5.toArray 76)).alloc (.cells #[.int .i64 K, .int .i64 T, .int .u64 0, .slice none 0 0, .slice none 0 0] 76)).drew = W1
      have hB1 : Below w.heap.size w W1 := by rw [← hW1]; exact (((Below.refl _ _).alloc (Nat.le_refl _) _).alloc (by simp) _).drew
      have hz1 : W1.heap.size = w.heap.size + 2 := by rw [← hW1]; simp [World.drew]
      have hrb : Blk W1 w.heap.size zs5 76 := by rw [← hW1]; exact ((Blk.new w zs5 _).alloc _).drew
      have hqb : Blk W1 (w.heap.size + 1) [.int .i64 K, .int .i64 T, .int .u64 0, .slice none 0 0, .slice none 0 0] 76 := by rw [← hW1]; exact (Blk.at_ (by simp)).drew
      have HB1 := hI hB1
      have HRB := hI hrb
      have HQB := hI hqb
      have q0 : W1.cell? ⟨w.heap.size + 1, 0, none⟩ = some (.int .i64 K) := by rw [hqb.cell]; rfl
      have q1 : W1.cell? ⟨w.heap.size + 1, 1, none⟩ = some (.int .i64 T) := by rw [hqb.cell]; rfl
      clear hB1 hrb hqb hW1 HN HS
      by_cases hk2 : 2 < K
      · have hR := HR.out
        rw [if_pos (.inl hk2)] at hR
        have HR := hI hR
        have hk2' : (2 : Int) < K := by omega
        clear hR
        go_wp2_with (first | ((with_reducible show wpList _ _ _ (⟨some 49, _, _, _, _, _⟩ :: _) _ _); refine wpList_bld rfl rfl HZ.out ?_) | ((with_reducible show wpList _ _ _ (⟨none, .store _ (.tmp 4) (.tmp 49), _, _, _, _⟩ :: _) _ _); refine wpList_stAgg rfl (.tmp 4) (.tmp 49) aggDer rfl rfl (vs := zs5) rfl rfl HRB.out (Nat.le_refl _) zs5_one ?_))
        intro w2 h2 k2
        have h2' : Blk w2 w.heap.size zs5 76 := by simpa [zs5] using h2
        have H2 := hI h2'
        have HB2 : Hid (Below w.heap.size w w2) := hI (HB1.out.trans (k2.below (by omega)))
        clear h2 h2' k2
        go_wp2_with fail
        rw [HR.out]
        exact bodyPost_ret (results_agg_tmp2 rfl aggDer rfl (cs := zs5) rfl H2.out.cellsAll) rfl ⟨zs5, rfl, TvF.zero _ _, HB2.out⟩
      · by_cases ht30 : 30 < T
        · have hR := HR.out
          rw [if_pos (.inr ht30)] at hR
          have HR := hI hR
          have hk2' : ¬ (2 : Int) < K := by omega
          have ht30' : (30 : Int) < T := by omega
          clear hR
          go_wp2_with (first | ((with_reducible show wpList _ _ _ (⟨some 49, _, _, _, _, _⟩ :: _) _ _); refine wpList_bld rfl rfl HZ.out ?_) | ((with_reducible show wpList _ _ _ (⟨none, .store _ (.tmp 4) (.tmp 49), _, _, _, _⟩ :: _) _ _); refine wpList_stAgg rfl (.tmp 4) (.tmp 49) aggDer rfl rfl (vs := zs5) rfl rfl HRB.out (Nat.le_refl _) zs5_one ?_))
          intro w2 h2 k2
          have h2' : Blk w2 w.heap.size zs5 76 := by simpa [zs5] using h2
          have H2 := hI h2'
          have HB2 : Hid (Below w.heap.size w w2) := hI (HB1.out.trans (k2.below (by omega)))
          clear h2 h2' k2
          go_wp2_with fail
          rw [HR.out]
          exact bodyPost_ret (results_agg_tmp2 rfl aggDer rfl (cs := zs5) rfl H2.out.cellsAll) rfl ⟨zs5, rfl, TvF.zero _ _, HB2.out⟩
        · have hR := HR.out
          rw [if_neg (by omega)] at hR
          have hk2' : ¬ (2 : Int) < K := by omega
          have ht30' : ¬ (30 : Int) < T := by omega
          have hrun : ∀ W, (Instr.sliceAt 40 (.slice (some ⟨bb, off, none⟩) b.length cap) (some (.int .i64 at')) (some (.int .i64 ((at' : Int) + n))) none).run Try.prog W = .ok (.slice (cutA (some ⟨bb, off, none⟩) cap at') n (cap - at')) W := by
            intro W
            have := run_cut2 (some ⟨bb, off, none⟩) b.length cap at' (at' + n) (by omega) (by omega) W
            rw [show at' + n - at' = n by omega, Int.natCast_add] at this
            exact this
          have hbs : Bs w (.slice (cutA (some ⟨bb, off, none⟩) cap at') n (cap - at')) ((b.drop at').take n) := by
            have := HB.out.cut at' (at' + n) (by omega) (by omega)
            rw [show at' + n - at' = n by omega] at this
            exact this
          have hbl2 : ((b.drop at').take n).length = n := by rw [List.length_take, List.length_drop]; omega
          have hg0 : 0 < n → (b.drop at').getD 0 0 = ((b.drop at').take n).getD 0 0 := by
            intro hn
            rw [List.getD_eq_getElem?_getD, List.getD_eq_getElem?_getD, List.getElem?_take, if_pos hn]
          have hbs1 := hbs.below HB1.out
          generalize (b.drop at').take n = body at hR hbs1 hbl2 hg0 hbs
          obtain ⟨a2, hca⟩ : ∃ a2, a2 = cutA (some ⟨bb, off, none⟩) cap at' := ⟨_, rfl⟩
          rw [← hca] at hrun hbs1 hbs
          subst hbl2
          have HBS := hI hbs1
          have HBSw := hI hbs
          have hR0 := hR
          clear HR hR hbs hca hbs1
          rcases (by omega : K = 0 ∨ K = 1 ∨ K = 2) with rfl | rfl | rfl
          · rw [if_pos rfl] at hR0
            have HG := hI (get_any _ _ W1 HBS.out)
            by_cases hgb : body.length = 0 ∨ 8 < body.length
            · have hg : getB body = (0, false) := by unfold getB; rw [if_pos hgb]
              rw [hg] at hR0 HG
              rw [if_pos (.inl rfl)] at hR0
              have HR := hI hR0
              clear hR0 hgb hg hg0
              go_wp2_with fail
              refine HG.out.mono ?_
              rintro e w' ⟨rfl, rfl⟩
              go_wp2_with (first | ((with_reducible show wpList _ _ _ (⟨some 102, _, _, _, _, _⟩ :: _) _ _); refine wpList_bld rfl rfl HZ.out ?_) | ((with_reducible show wpList _ _ _ (⟨none, .store _ (.tmp 4) (.tmp 102), _, _, _, _⟩ :: _) _ _); refine wpList_stAgg rfl (.tmp 4) (.tmp 102) aggDer rfl rfl (vs := zs5) rfl rfl HRB.out (Nat.le_refl _) zs5_one ?_))
              intro w2 h2 k2
              have h2' : Blk w2 w.heap.size zs5 76 := by simpa [zs5] using h2
              have H2 := hI h2'
              have HB2 : Hid (Below w.heap.size w w2) := hI (HB1.out.trans (k2.below (by omega)))
              clear h2 h2' k2
              go_wp2_with fail
              rw [HR.out]
              exact bodyPost_ret (results_agg_tmp2 rfl aggDer rfl (cs := zs5) rfl H2.out.cellsAll) rfl ⟨zs5, rfl, TvF.zero _ _, HB2.out⟩
            · have hg : getB body = (getN body, true) := by unfold getB; rw [if_neg hgb]
              rw [hg] at hR0 HG
              obtain ⟨b2, o2, rfl, hc2⟩ := Sl.addr HBS.out (by rw [bCells_length]; omega)
              have hb20 : body[0]'(by omega) = body.getD 0 0 := by rw [List.getD_eq_getElem?_getD, List.getElem?_eq_getElem (by omega)]; rfl
              have d0 : W1.cell? ⟨b2, o2, none⟩ = some (.int .u8 (body.getD 0 0).toNat) := by
                rw [← hb20]
                exact hc2 0 _ (bCells_get body 0 (by omega))
              have hpos : 0 < body.length := by omega
              rw [hg0 hpos] at hR0
              have hNlt := getN_lt body
              have hN64 : getN body < 18446744073709551616 := Nat.lt_of_lt_of_le hNlt (Nat.le_trans (Nat.pow_le_pow_right (by decide) (show body.length ≤ 8 by omega)) (by decide))
              have q2 : W1.cell? ⟨w.heap.size + 1, 2, none⟩ = some (.int .u64 0) := by rw [HQB.out.cell]; rfl
              have qf2 := HQB.out.frozen 2
              have hend : ∀ N : Nat, Blk (W1.setCell ⟨w.heap.size + 1, 2, none⟩ (.int .u64 N)) (w.heap.size + 1) [.int .i64 0, .int .i64 T, .int .u64 N, .slice none 0 0, .slice none 0 0] 76 ∧ Blk (W1.setCell ⟨w.heap.size + 1, 2, none⟩ (.int .u64 N)) w.heap.size zs5 76 ∧
                  Below w.heap.size w (W1.setCell ⟨w.heap.size + 1, 2, none⟩ (.int .u64 N)) ∧ (W1.setCell ⟨w.heap.size + 1, 2, none⟩ (.int .u64 N)).heap.size = W1.heap.size :=
                fun N => ⟨HQB.out.set 2 _, HRB.out.set_other (by simp) _, HB1.out.setCell (by simp) _, by simp [World.setCell]⟩
              have HEND := hI hend
              clear hgb hg hg0 hb20 hc2 hNlt hend HBS
              generalize getN body = N at *
              generalize body.getD 0 0 = y at *
              by_cases hy : y = 0
              · have hy' : ((y.toNat : Int) == 0) = true := by simp [hy]
                by_cases hl1 : 1 < body.length
                · rw [if_pos (.inr ⟨hl1, hy⟩)] at hR0
                  have HR := hI hR0
                  have hl1' : (1 : Int) < body.length := by omega
                  clear hR0 hy hl1
                  go_wp2_with fail
                  refine HG.out.mono ?_
                  rintro e w' ⟨rfl, rfl⟩
                  go_wp2_with (first | ((with_reducible show wpList _ _ _ (⟨some 102, _, _, _, _, _⟩ :: _) _ _); refine wpList_bld rfl rfl HZ.out ?_) | ((with_reducible show wpList _ _ _ (⟨none, .store _ (.tmp 4) (.tmp 102), _, _, _, _⟩ :: _) _ _); refine wpList_stAgg rfl (.tmp 4) (.tmp 102) aggDer rfl rfl (vs := zs5) rfl rfl HRB.out (Nat.le_refl _) zs5_one ?_))
                  intro w2 h2 k2
                  have h2' : Blk w2 w.heap.size zs5 76 := by simpa [zs5] using h2
                  have H2 := hI h2'
                  have HB2 : Hid (Below w.heap.size w w2) := hI (HB1.out.trans (k2.below (by omega)))
                  clear h2 h2' k2
                  go_wp2_with fail
                  rw [HR.out]
                  exact bodyPost_ret (results_agg_tmp2 rfl aggDer rfl (cs := zs5) rfl H2.out.cellsAll) rfl ⟨zs5, rfl, TvF.zero _ _, HB2.out⟩
                · rw [if_neg (by simp; omega)] at hR0
                  have HR := hI hR0
                  have hl1' : ¬ (1 : Int) < body.length := by omega
                  clear hR0 hy hl1
                  go_wp2_with fail
                  refine HG.out.mono ?_
                  rintro e w' ⟨rfl, rfl⟩
                  go_upto_region 24 with fail
                  obtain ⟨hqe, hre, hbe, hze⟩ := HEND.out N
                  clear HEND q0 q1 q2 qf2 HQB HRB HB1
                  generalize W1.setCell ⟨w.heap.size + 1, 2, none⟩ (.int .u64 N) = WE at *
                  have HQE := hI hqe
                  have HRE := hI hre
                  have HBE := hI hbe
                  have hze' : w.heap.size + 2 ≤ WE.heap.size := by omega
                  have HTV : Hid (TvF WE (fun x => w.heap.size + 2 ≤ x ∧ x < WE.heap.size) (.mk 0 T N [] []) [.int .i64 0, .int .i64 T, .int .u64 N, .slice none 0 0, .slice none 0 0]) := hI (TvF.mk (Sl.nil _ _ _) (by simp [Value.ownBlock]) (Sl.nil _ _ _) (by simp [Value.ownBlock]) rfl)
                  clear hqe hre hbe hze
                  go_wp2_with (first | ((with_reducible show wpList _ _ _ (⟨some 110, _, _, _, _, _⟩ :: _) _ _); refine wpList_ldAgg rfl (.tmp 10) aggDer rfl rfl (cs := [.int .i64 0, .int .i64 T, .int .u64 N, .slice none 0 0, .slice none 0 0]) rfl HQE.out.cellsAll ?_) | ((with_reducible show wpList _ _ _ (⟨none, .store _ (.tmp 4) (.tmp 110), _, _, _, _⟩ :: _) _ _); refine wpList_stAgg rfl (.tmp 4) (.tmp 110) aggDer rfl rfl (vs := [.int .i64 0, .int .i64 T, .int .u64 N, .slice none 0 0, .slice none 0 0]) rfl rfl HRE.out (Nat.le_refl _) HTV.out.one ?_))
                  intro w2 h2 k2
                  have h2' : Blk w2 w.heap.size ([.int .i64 0, .int .i64 T, .int .u64 N, .slice none 0 0, .slice none 0 0]) 76 := by simpa [zs5] using h2
                  have H2 := hI h2'
                  have hz9 := k2.size
                  have HB2 : Hid (Below w.heap.size w w2) := hI (HBE.out.trans (k2.below (by omega)))
                  have HT2 := hI ((HTV.out.keep k2 (fun x hx _ e => by have := hx.1; omega)).mono (fun x hx => (⟨by omega, by omega⟩ : w.heap.size ≤ x ∧ x < w2.heap.size)))
                  clear h2 h2' k2
                  go_wp2_with fail
                  rw [HR.out]
                  exact bodyPost_ret (results_agg_tmp2 rfl aggDer rfl (cs := [.int .i64 0, .int .i64 T, .int .u64 N, .slice none 0 0, .slice none 0 0]) rfl H2.out.cellsAll) rfl ⟨_, by simp only [Int.natCast_add]; rfl, HT2.out, HB2.out⟩
              · have hy' : ((y.toNat : Int) == 0) = false := by
                  simp
                  intro e
                  exact hy (by exact UInt8.toNat_inj.1 e)
                rw [if_neg (by simp [hy])] at hR0
                have HR := hI hR0
                clear hR0 hy
                by_cases hl1 : 1 < body.length
                · have hl1' : (1 : Int) < body.length := by omega
                  clear hl1
                  go_wp2_with fail
                  refine HG.out.mono ?_
                  rintro e w' ⟨rfl, rfl⟩
                  go_upto_region 24 with fail
                  obtain ⟨hqe, hre, hbe, hze⟩ := HEND.out N
                  clear HEND q0 q1 q2 qf2 HQB HRB HB1
                  generalize W1.setCell ⟨w.heap.size + 1, 2, none⟩ (.int .u64 N) = WE at *
                  have HQE := hI hqe
                  have HRE := hI hre
                  have HBE := hI hbe
                  have hze' : w.heap.size + 2 ≤ WE.heap.size := by omega
                  have HTV : Hid (TvF WE (fun x => w.heap.size + 2 ≤ x ∧ x < WE.heap.size) (.mk 0 T N [] []) [.int .i64 0, .int .i64 T, .int .u64 N, .slice none 0 0, .slice none 0 0]) := hI (TvF.mk (Sl.nil _ _ _) (by simp [Value.ownBlock]) (Sl.nil _ _ _) (by simp [Value.ownBlock]) rfl)
                  clear hqe hre hbe hze
                  go_wp2_with (first | ((with_reducible show wpList _ _ _ (⟨some 110, _, _, _, _, _⟩ :: _) _ _); refine wpList_ldAgg rfl (.tmp 10) aggDer rfl rfl (cs := [.int .i64 0, .int .i64 T, .int .u64 N, .slice none 0 0, .slice none 0 0]) rfl HQE.out.cellsAll ?_) | ((with_reducible show wpList _ _ _ (⟨none, .store _ (.tmp 4) (.tmp 110), _, _, _, _⟩ :: _) _ _); refine wpList_stAgg rfl (.tmp 4) (.tmp 110) aggDer rfl rfl (vs := [.int .i64 0, .int .i64 T, .int .u64 N, .slice none 0 0, .slice none 0 0]) rfl rfl HRE.out (Nat.le_refl _) HTV.out.one ?_))
                  intro w2 h2 k2
                  have h2' : Blk w2 w.heap.size ([.int .i64 0, .int .i64 T, .int .u64 N, .slice none 0 0, .slice none 0 0]) 76 := by simpa [zs5] using h2
                  have H2 := hI h2'
                  have hz9 := k2.size
                  have HB2 : Hid (Below w.heap.size w w2) := hI (HBE.out.trans (k2.below (by omega)))
                  have HT2 := hI ((HTV.out.keep k2 (fun x hx _ e => by have := hx.1; omega)).mono (fun x hx => (⟨by omega, by omega⟩ : w.heap.size ≤ x ∧ x < w2.heap.size)))
                  clear h2 h2' k2
                  go_wp2_with fail
                  rw [HR.out]
                  exact bodyPost_ret (results_agg_tmp2 rfl aggDer rfl (cs := [.int .i64 0, .int .i64 T, .int .u64 N, .slice none 0 0, .slice none 0 0]) rfl H2.out.cellsAll) rfl ⟨_, by simp only [Int.natCast_add]; rfl, HT2.out, HB2.out⟩
                · have hl1' : ¬ (1 : Int) < body.length := by omega
                  clear hl1
                  go_wp2_with fail
                  refine HG.out.mono ?_
                  rintro e w' ⟨rfl, rfl⟩
                  go_upto_region 24 with fail
                  obtain ⟨hqe, hre, hbe, hze⟩ := HEND.out N
                  clear HEND q0 q1 q2 qf2 HQB HRB HB1
                  generalize W1.setCell ⟨w.heap.size + 1, 2, none⟩ (.int .u64 N) = WE at *
                  have HQE := hI hqe
                  have HRE := hI hre
                  have HBE := hI hbe
                  have hze' : w.heap.size + 2 ≤ WE.heap.size := by omega
                  have HTV : Hid (TvF WE (fun x => w.heap.size + 2 ≤ x ∧ x < WE.heap.size) (.mk 0 T N [] []) [.int .i64 0, .int .i64 T, .int .u64 N, .slice none 0 0, .slice none 0 0]) := hI (TvF.mk (Sl.nil _ _ _) (by simp [Value.ownBlock]) (Sl.nil _ _ _) (by simp [Value.ownBlock]) rfl)
                  clear hqe hre hbe hze
                  go_wp2_with (first | ((with_reducible show wpList _ _ _ (⟨some 110, _, _, _, _, _⟩ :: _) _ _); refine wpList_ldAgg rfl (.tmp 10) aggDer rfl rfl (cs := [.int .i64 0, .int .i64 T, .int .u64 N, .slice none 0 0, .slice none 0 0]) rfl HQE.out.cellsAll ?_) | ((with_reducible show wpList _ _ _ (⟨none, .store _ (.tmp 4) (.tmp 110), _, _, _, _⟩ :: _) _ _); refine wpList_stAgg rfl (.tmp 4) (.tmp 110) aggDer rfl rfl (vs := [.int .i64 0, .int .i64 T, .int .u64 N, .slice none 0 0, .slice none 0 0]) rfl rfl HRE.out (Nat.le_refl _) HTV.out.one ?_))
                  intro w2 h2 k2
                  have h2' : Blk w2 w.heap.size ([.int .i64 0, .int .i64 T, .int .u64 N, .slice none 0 0, .slice none 0 0]) 76 := by simpa [zs5] using h2
                  have H2 := hI h2'
                  have hz9 := k2.size
                  have HB2 : Hid (Below w.heap.size w w2) := hI (HBE.out.trans (k2.below (by omega)))
                  have HT2 := hI ((HTV.out.keep k2 (fun x hx _ e => by have := hx.1; omega)).mono (fun x hx => (⟨by omega, by omega⟩ : w.heap.size ≤ x ∧ x < w2.heap.size)))
                  clear h2 h2' k2
                  go_wp2_with fail
                  rw [HR.out]
                  exact bodyPost_ret (results_agg_tmp2 rfl aggDer rfl (cs := [.int .i64 0, .int .i64 T, .int .u64 N, .slice none 0 0, .slice none 0 0]) rfl H2.out.cellsAll) rfl ⟨_, by simp only [Int.natCast_add]; rfl, HT2.out, HB2.out⟩
          · rw [if_neg (by decide), if_pos rfl] at hR0
            have HR := hI hR0
            clear hR0 hg0
            go_wp2_with ((with_reducible show wpList _ _ _ (⟨some 108, _, _, _, _, _⟩ :: _) _ _); refine wpList_app2 rfl (.const (.slice none 0 0)) (.tmp 107) elBytes rfl W1.heap.size (Own.nil _ _ _ _ _) (by simp [Act.eval, Value.ownBlock]) HBS.out (by unfold maxLen; omega) (by omega) (Nat.le_refl _) ?_)
            intro v3 w3 ho3 hk3 hv3
            have hz3 := hk3.size
            have hb3 : Below w.heap.size w w3 := HB1.out.trans (hk3.below (by rintro x (h | h); simp [Value.ownBlock] at h; omega))
            have hq3 : Blk w3 (w.heap.size + 1) [.int .i64 1, .int .i64 T, .int .u64 0, .slice none 0 0, .slice none 0 0] 76 := HQB.out.keep hk3 (by rintro (h | h); simp [Value.ownBlock] at h; omega)
            have hr3 : Blk w3 w.heap.size zs5 76 := HRB.out.keep hk3 (by rintro (h | h); simp [Value.ownBlock] at h; omega)
            have hvb : ∀ x, v3.ownBlock = some x → w.heap.size + 2 ≤ x ∧ x < w3.heap.size := fun x hx => by
              refine ⟨?_, (hv3 x hx).2⟩
              rcases (hv3 x hx).1 with h | h
              · simp [Value.ownBlock] at h
              · omega
            have q3 : w3.cell? ⟨w.heap.size + 1, 3, none⟩ = some (.slice none 0 0) := by rw [hq3.cell]; rfl
            have qf3 := hq3.frozen 3
            have hbs3 : Bs w3 v3 body := ho3.sl
            obtain ⟨a3, c3, hv3f, _⟩ := ho3.sl.form
            subst hv3f
            have hqe := hq3.set 3 (.slice a3 body.length c3)
            have hre : Blk (w3.setCell ⟨w.heap.size + 1, 3, none⟩ (.slice a3 body.length c3)) w.heap.size zs5 76 := hr3.set_other (by simp) _
            have hbe : Below w.heap.size w (w3.setCell ⟨w.heap.size + 1, 3, none⟩ (.slice a3 body.length c3)) := hb3.setCell (by simp) _
            have hbse : Bs (w3.setCell ⟨w.heap.size + 1, 3, none⟩ (.slice a3 body.length c3)) (.slice a3 body.length c3) body := Sl.setCell hbs3 (fun h => by have := (hvb _ h).1; simp at this) _
            have hze : (w3.setCell ⟨w.heap.size + 1, 3, none⟩ (.slice a3 body.length c3)).heap.size = w3.heap.size := by simp [World.setCell]
            have HQE := hI hqe
            have HRE := hI hre
            have HBE := hI hbe
            have HTV : Hid (TvF (w3.setCell ⟨w.heap.size + 1, 3, none⟩ (.slice a3 body.length c3)) (fun x => w.heap.size + 2 ≤ x ∧ x < (w3.setCell ⟨w.heap.size + 1, 3, none⟩ (.slice a3 body.length c3)).heap.size) (.mk 1 T 0 body []) [.int .i64 1, .int .i64 T, .int .u64 0, .slice a3 body.length c3, .slice none 0 0]) :=
              hI (TvF.mk hbse (by rw [hze]; exact hvb) (Sl.nil _ _ _) (by simp [Value.ownBlock]) rfl)
            have hze' : w.heap.size + 2 ≤ (w3.setCell ⟨w.heap.size + 1, 3, none⟩ (.slice a3 body.length c3)).heap.size := by omega
            clear hqe hre hbe hbse hze ho3 hk3 hv3 hb3 hq3 hr3 hvb hbs3 q0 q1 HQB HRB HB1
            go_upto_region 24 with fail
            generalize w3.setCell ⟨w.heap.size + 1, 3, none⟩ (.slice a3 body.length c3) = WE at *
            go_wp2_with (first | ((with_reducible show wpList _ _ _ (⟨some 110, _, _, _, _, _⟩ :: _) _ _); refine wpList_ldAgg rfl (.tmp 10) aggDer rfl rfl (cs := [.int .i64 1, .int .i64 T, .int .u64 0, .slice a3 body.length c3, .slice none 0 0]) rfl HQE.out.cellsAll ?_) | ((with_reducible show wpList _ _ _ (⟨none, .store _ (.tmp 4) (.tmp 110), _, _, _, _⟩ :: _) _ _); refine wpList_stAgg rfl (.tmp 4) (.tmp 110) aggDer rfl rfl (vs := [.int .i64 1, .int .i64 T, .int .u64 0, .slice a3 body.length c3, .slice none 0 0]) rfl rfl HRE.out (Nat.le_refl _) HTV.out.one ?_))
            intro w2 h2 k2
            have h2' : Blk w2 w.heap.size ([.int .i64 1, .int .i64 T, .int .u64 0, .slice a3 body.length c3, .slice none 0 0]) 76 := by simpa [zs5] using h2
            have H2 := hI h2'
            have hz9 := k2.size
            have HB2 : Hid (Below w.heap.size w w2) := hI (HBE.out.trans (k2.below (by omega)))
            have HT2 := hI ((HTV.out.keep k2 (fun x hx _ e => by have := hx.1; omega)).mono (fun x hx => (⟨by omega, by omega⟩ : w.heap.size ≤ x ∧ x < w2.heap.size)))
            clear h2 h2' k2
            go_wp2_with fail
            rw [HR.out]
            exact bodyPost_ret (results_agg_tmp2 rfl aggDer rfl (cs := [.int .i64 1, .int .i64 T, .int .u64 0, .slice a3 body.length c3, .slice none 0 0]) rfl H2.out.cellsAll) rfl ⟨_, by simp only [Int.natCast_add]; rfl, HT2.out, HB2.out⟩
          · rw [if_neg (by decide), if_neg (by decide)] at hR0
            have hR0' : readS (d + 1) b = if (LS d body).2 = 0 then (.mk 2 T 0 [] (LS d body).1, at' + body.length, 0) else (.zero, 0, (LS d body).2) := hR0
            have HR0 := hI hR0'
            obtain ⟨r, hr⟩ : ∃ r, r = w.heap.size := ⟨_, rfl⟩
            have hz1' : w.heap.size + 2 ≤ W1.heap.size := by omega
            have HDL : Hid (DL w r d T body (.slice a2 body.length (cap - at')) W1 body [] (.slice none 0 0) [] (fun _ => False)) := hI (by
              subst hr
              exact ⟨HBSw.out, rfl, by simp, HQB.out, HRB.out, Own.nil _ _ _ _ _, rfl, fun _ h => h.elim, by simp [Value.ownBlock], HB1.out, by omega⟩)
            have hD0 : 0 ≤ D := by have := HD.out; omega
            have hrw : w.heap.size = r := hr.symm
            rw [hrw] at q0 q1 ⊢
            have hdr : w.heap.size ≤ r := by omega
            clear hR0 hR0' hg0 hz1 HQB HRB HB1 HBS hr hrw
            go_wp2_with fail
            go_loopw [11] (fun inv wr => ∃ rest acc lv rows F, DL w r d T body inv wr rest acc lv rows F) (fun inv _ => sliceLen inv)
            case atStart => exact ⟨body, [], _, [], _, HDL.out⟩
            case round =>
              obtain ⟨rest, acc, lv, rows, F, hdl⟩ := hrel
              obtain ⟨ai, ci, rfl, hci, hmi⟩ := hdl.bs.form
              have hmi' := hmi
              unfold maxLen at hmi'
              have HDLr := hI hdl
              have hszr := hdl.size
              have hfew := hdl.few
              have z0 : wr.cell? ⟨r + 1, 0, none⟩ = some (.int .i64 2) := by rw [hdl.q.cell]; rfl
              clear q0 q1 hdl
              by_cases hre : rest = []
              · subst hre
                have hls := HDLr.out.ls
                rw [LS_nil, List.append_nil] at hls
                have hR := HR0.out
                rw [hls] at hR
                have HR : Hid (readS (d + 1) b = (.mk 2 T 0 [] acc, at' + body.length, 0)) := hI (by rw [hR]; rfl)
                have HQE := hI HDLr.out.q
                have HRE := hI HDLr.out.z
                have HBE : Hid (Below w.heap.size w wr) := hI (HDLr.out.below.mono hdr)
                have HTV : Hid (TvF wr (fun x => r + 2 ≤ x ∧ x < wr.heap.size) (.mk 2 T 0 [] acc) [.int .i64 2, .int .i64 T, .int .u64 0, .slice none 0 0, lv]) := hI (TvF.mk (Sl.nil _ _ _) (by simp [Value.ownBlock]) HDLr.out.own.sl (fun x hx => by have := HDLr.out.v x hx; omega) (HDLr.out.tvs.mono (fun x hx => by have := HDLr.out.f x hx; omega)))
                clear hls hR HR0
                go_upto_region 24 with fail
                go_wp2_with (first | ((with_reducible show wpList _ _ _ (⟨some 110, _, _, _, _, _⟩ :: _) _ _); refine wpList_ldAgg rfl (.tmp 10) aggDer rfl rfl (cs := [.int .i64 2, .int .i64 T, .int .u64 0, .slice none 0 0, lv]) rfl HQE.out.cellsAll ?_) | ((with_reducible show wpList _ _ _ (⟨none, .store _ (.tmp 4) (.tmp 110), _, _, _, _⟩ :: _) _ _); refine wpList_stAgg rfl (.tmp 4) (.tmp 110) aggDer rfl rfl (vs := [.int .i64 2, .int .i64 T, .int .u64 0, .slice none 0 0, lv]) rfl rfl HRE.out (Nat.le_refl _) HTV.out.one ?_))
                intro w2 h2 k2
                have h2' : Blk w2 r ([.int .i64 2, .int .i64 T, .int .u64 0, .slice none 0 0, lv]) 76 := by simpa [zs5] using h2
                have H2 := hI h2'
                have hz9 := k2.size
                have HB2 : Hid (Below w.heap.size w w2) := hI (HBE.out.trans (k2.below (by omega)))
                have HT2 := hI ((HTV.out.keep k2 (fun x hx _ e => by have := hx.1; omega)).mono (fun x hx => (⟨by omega, by omega⟩ : w.heap.size ≤ x ∧ x < w2.heap.size)))
                clear h2 h2' k2
                go_wp2_with fail
                rw [HR.out]
                exact bodyPost_ret (results_agg_tmp2 rfl aggDer rfl (cs := [.int .i64 2, .int .i64 T, .int .u64 0, .slice none 0 0, lv]) rfl H2.out.cellsAll) rfl ⟨_, by simp only [Int.natCast_add]; rfl, HT2.out, HB2.out⟩
              · have hpos : 0 < rest.length := List.length_pos_iff.2 hre
                have hposI : (0 : Int) < rest.length := by omega
                obtain ⟨x, k, e5, hrd⟩ : ∃ x k e, readS d rest = (x, k, e) := ⟨_, _, _, rfl⟩
                have HCALL := hI (HIH.out (D + 1) _ rest wr (by have := HD.out; omega) (by omega) (HDLr.out.bs.below (HDLr.out.below.mono hdr)) (by omega))
                rw [hrd] at HCALL
                have HRD := hI hrd
                have HRE := hI hre
                clear hrd hre
                go_wp2_with fail
                refine HCALL.out.mono ?_
                rintro e w5 hres
                obtain ⟨cs, rfl, htv, hb5⟩ := hres
                have hz5 := hb5.size
                have hcl : cs.length = 5 := htv.length
                have HCL := hI hcl
                have HC1 := hI htv.one
                have HN5 := hI (Blk.new w5 zs5 76)
                have HTV := hI htv
                have HB5 := hI hb5
                clear hcl htv hb5 HCALL
                go_wp2_with ((with_reducible show wpList _ _ _ (⟨none, .store _ (.tmp 14) (.tmp 66), _, _, _, _⟩ :: _) _ _); refine wpList_stAgg rfl (.tmp 14) (.tmp 66) aggDer rfl rfl (vs := cs) rfl HCL.out HN5.out (Nat.le_refl _) HC1.out ?_)
                intro w6 h6 k6
                have h6' : Blk w6 w5.heap.size cs 76 := by
                  rw [List.drop_of_length_le (by decide), List.append_nil] at h6
                  exact h6
                have hz6 := k6.size
                simp at hz6
                have hb56 : Below w5.heap.size w5 w6 := ((Below.refl _ _).alloc (Nat.le_refl _) _).trans (k6.below (by omega))
                have HB6 : Hid (Below wr.heap.size wr w6) := hI (HB5.out.trans (hb56.mono hz5))
                have HTV6 := hI (HTV.out.below hb56)
                have H6 := hI h6'
                obtain ⟨s6, hs6⟩ : ∃ s6, s6 = w5.heap.size := ⟨_, rfl⟩
                rw [← hs6] at H6 hz6 hz5 HTV6 ⊢
                clear h6 h6' k6 hb56 HN5 HB5 HTV hs6
                by_cases he5 : e5 = 0
                · have he5' : (e5 != 0) = false := by simp [he5]
                  subst he5
                  have hkk := readS_takes d _ _ _ HRD.out
                  have HLS : Hid (LS d body = ((acc ++ [x]) ++ (LS d (rest.drop k)).1, (LS d (rest.drop k)).2)) := hI (by
                    rw [HDLr.out.ls, LS_ok HRE.out HRD.out]
                    simp)
                  have hq6 : Blk w6 (r + 1) [.int .i64 2, .int .i64 T, .int .u64 0, .slice none 0 0, lv] 76 := HDLr.out.q.below HB6.out (by omega)
                  have q4 : w6.cell? ⟨r + 1, 4, none⟩ = some lv := by rw [hq6.cell]; rfl
                  have HO6 := hI (HDLr.out.own.below HB6.out)
                  have HO6' := hI (HO6.out.alloc (.cells cs.toArray 76))
                  have HVlt : Hid (∀ b, lv.ownBlock = some b → b < (w6.alloc (.cells cs.toArray 76)).heap.size) := hI (fun b hb => by have := (HDLr.out.v b hb).2; simp; omega)
                  have hacc : acc.length ≤ 1048576 := by omega
                  have HQ6 := hI hq6
                  clear hq6
                  go_wp2_with (first | ((with_reducible show wpList _ _ _ (⟨some 75, _, _, _, _, _⟩ :: _) _ _); refine wpList_ldAgg rfl (.tmp 14) aggDer rfl rfl (cs := cs) HCL.out H6.out.cellsAll ?_) | ((with_reducible show wpList _ _ _ (⟨some 76, _, _, _, _, _⟩ :: _) _ _); refine wpList_bs1 rfl (.tmp 75) elDer rfl rfl (by have := HCL.out; simpa using this) (by decide) ?_) | ((with_reducible show wpList _ _ _ (⟨some 77, _, _, _, _, _⟩ :: _) _ _); refine wpList_app2 rfl (.tmp 74) (.tmp 76) elDer rfl (r + 2) HO6'.out HVlt.out (Sl.lit (n := 1) rfl (by simpa using HCL.out) HC1.out (by unfold maxLen; decide)) (by unfold maxLen; omega) (by omega) (by simp; omega) ?_))
                  intro v7 w7 ho7 hk7 hv7
                  have hz7 := hk7.size
                  simp at hz7
                  obtain ⟨a7, c7, hv7f, _⟩ := ho7.sl.form
                  subst hv7f
                  have k67 : Keeps (fun b => lv.ownBlock = some b ∨ w6.heap.size ≤ b) w6 w7 := by
                    refine ((Keeps.refl _ _).alloc _ (.inr (Nat.le_refl _))).trans (hk7.mono (fun b hb => ?_))
                    rcases hb with hb | hb
                    · exact .inl hb.1
                    · exact .inr (by omega)
                  have ka : Keeps (fun b => lv.ownBlock = some b ∨ wr.heap.size ≤ b) wr w7 := ((Keeps.of_below HB6.out).mono (fun b hb => .inr hb)).trans (k67.mono (fun b hb => by
                    rcases hb with hb | hb
                    · exact .inl hb
                    · exact .inr (by omega)))
                  have hvr : ∀ b, b < r + 2 → ¬ (lv.ownBlock = some b ∨ wr.heap.size ≤ b) := by
                    rintro b hb (h | h)
                    · have := (HDLr.out.v b h).1; omega
                    · omega
                  have hq7 := HDLr.out.q.keep ka (hvr _ (by omega))
                  have hr7 := HDLr.out.z.keep ka (hvr _ (by omega))
                  have q7 : w7.cell? ⟨r + 1, 4, none⟩ = some lv := by rw [hq7.cell]; rfl
                  have qf7 := hq7.frozen 4
                  have hb7 : Below r w w7 := HDLr.out.below.trans (ka.below (by
                    rintro b (h | h)
                    · have := (HDLr.out.v b h).1; omega
                    · omega))
                  have htvs7 : TvsF w7 (fun y => F y ∨ (wr.heap.size ≤ y ∧ y < s6)) (acc ++ [x]) (rows ++ cs) := by
                    refine TvsF.snoc ((HDLr.out.tvs.keep ka (fun y hy hl h => ?_)).mono (fun y hy => .inl hy)) ((HTV6.out.keep k67 (fun y hy hl h => ?_)).mono (fun y hy => .inr hy))
                    · obtain ⟨h1, h2, h3⟩ := HDLr.out.f y hy
                      rcases h with h | h
                      · exact h3 h
                      · omega
                    · rcases h with h | h
                      · have := (HDLr.out.v y h).2; omega
                      · omega
                  have hv8 : ∀ b, (Value.slice a7 (acc.length + 1) c7).ownBlock = some b → r + 2 ≤ b ∧ b < w7.heap.size := fun b hb => by
                    refine ⟨?_, (hv7 b hb).2⟩
                    rcases (hv7 b hb).1 with h | h
                    · exact (HDLr.out.v b h).1
                    · omega
                  have hrun2 : ∀ W, (Instr.sliceAt 40 (.slice ai rest.length ci) (some (.int .i64 k)) none none).run Try.prog W = .ok (.slice (cutA ai ci k) (rest.length - k) (ci - k)) W := fun W => run_cut1 ai rest.length ci k (by omega) W
                  have hbs8 : Bs w (.slice (cutA ai ci k) (rest.length - k) (ci - k)) (rest.drop k) := by
                    have := HDLr.out.bs.cut k rest.length (by omega) (Nat.le_refl _)
                    rwa [List.take_of_length_le (by rw [List.length_drop]; exact Nat.le_refl _)] at this
                  have HDLn : Hid (DL w r d T body (.slice (cutA ai ci k) (rest.length - k) (ci - k)) (w7.setCell ⟨r + 1, 4, none⟩ (.slice a7 (acc.length + 1) c7)) (rest.drop k) (acc ++ [x]) (.slice a7 (acc.length + 1) c7) (rows ++ cs) (fun y => F y ∨ (wr.heap.size ≤ y ∧ y < s6))) := hI (by
                    have ks : Keeps (fun b => b = r + 1) w7 (w7.setCell ⟨r + 1, 4, none⟩ (.slice a7 (acc.length + 1) c7)) := Keeps.one _ _ _ _
                    have hsz : (w7.setCell ⟨r + 1, 4, none⟩ (.slice a7 (acc.length + 1) c7)).heap.size = w7.heap.size := by simp [World.setCell]
                    refine ⟨hbs8, HLS.out, by simp; omega, hq7.set 4 _, hr7.keep ks (by omega), ?_, htvs7.keep ks (fun y hy _ e => ?_), fun y hy => ?_, by rw [hsz]; exact hv8, hb7.trans (ks.below (by omega)), by rw [hsz]; omega⟩
                    · rw [List.length_append, List.length_singleton]
                      exact ho7.keep ks (fun b hb e => by have := (hv8 b hb).1; omega)
                    · rcases hy with hy | hy
                      · have := (HDLr.out.f y hy).1; omega
                      · omega
                    · rw [hsz]
                      rcases hy with hy | hy
                      · obtain ⟨h1, h2, h3⟩ := HDLr.out.f y hy
                        refine ⟨h1, by omega, fun e => ?_⟩
                        rcases (hv7 y e).1 with h | h
                        · exact h3 h
                        · omega
                      · refine ⟨by omega, by omega, fun e => ?_⟩
                        rcases (hv7 y e).1 with h | h
                        · have := (HDLr.out.v y h).2; omega
                        · omega)
                  clear ho7 hk7 hv7 k67 ka hvr hq7 hr7 hb7 htvs7 hv8 hbs8 HTV6 HB6 HO6 HO6' HQ6 HVlt q4 z0 H6
                  go_wp2_with fail
                  go_roundw
                  case rel => exact ⟨_, _, _, _, _, HDLn.out⟩
                  case measure => simp [sliceLen]; omega
                · have he5' : (e5 != 0) = true := by simp [he5]
                  have hls := HDLr.out.ls
                  rw [LS_bad HRE.out HRD.out he5, List.append_nil] at hls
                  have hR := HR0.out
                  rw [hls] at hR
                  simp only at hR
                  rw [if_neg he5] at hR
                  have HR := hI hR
                  have HRB := hI (HDLr.out.z.below HB6.out (by omega))
                  have HB1 : Hid (Below w.heap.size w w6) := hI ((HDLr.out.below.mono hdr).trans (HB6.out.mono (by omega)))
                  clear hls hR HR0 he5
                  go_wp2_with (first | ((with_reducible show wpList _ _ _ (⟨some 71, _, _, _, _, _⟩ :: _) _ _); refine wpList_bld rfl rfl HZ.out ?_) | ((with_reducible show wpList _ _ _ (⟨none, .store _ (.tmp 4) (.tmp 71), _, _, _, _⟩ :: _) _ _); refine wpList_stAgg rfl (.tmp 4) (.tmp 71) aggDer rfl rfl (vs := zs5) rfl rfl HRB.out (Nat.le_refl _) zs5_one ?_))
                  intro w2 h2 k2
                  have h2' : Blk w2 r zs5 76 := by simpa [zs5] using h2
                  have H2 := hI h2'
                  have HB2 : Hid (Below w.heap.size w w2) := hI (HB1.out.trans (k2.below (by omega)))
                  clear h2 h2' k2
                  go_wp2_with fail
                  rw [HR.out]
                  exact bodyPost_ret (results_agg_tmp2 rfl aggDer rfl (cs := zs5) rfl H2.out.cellsAll) rfl ⟨zs5, rfl, TvF.zero _ _, HB2.out⟩
    · have he' : (e0 != 0) = true := by simp [he]
      have HR : Hid (readS (d + 1) b = (.zero, 0, e0)) := hI (by rw [readS, hs]; simp only; rw [if_pos he])
      clear hs he
      go_wp2_with (first | ((with_reducible show wpList _ _ _ (⟨some 28, _, _, _, _, _⟩ :: _) _ _); refine wpList_bld rfl rfl HZ.out ?_) | ((with_reducible show wpList _ _ _ (⟨none, .store _ (.tmp 4) (.tmp 28), _, _, _, _⟩ :: _) _ _); refine wpList_stAgg rfl (.tmp 4) (.tmp 28) aggDer rfl rfl (vs := zs5) rfl rfl HN.out (Nat.le_refl _) zs5_one ?_))
      intro w2 h2 k2
      have h2' : Blk w2 w.heap.size zs5 76 := by simpa [zs5] using h2
      have H2 := hI h2'
      have HB2 : Hid (Below w.heap.size w w2) := hI (((Below.refl _ _).alloc (Nat.le_refl _) _).trans (k2.below (by omega)))
      clear h2 h2' k2
      go_wp2_with fail
      rw [HR.out]
      exact bodyPost_ret (results_agg_tmp2 rfl aggDer rfl (cs := zs5) rfl H2.out.cellsAll) rfl ⟨zs5, rfl, TvF.zero _ _, HB2.out⟩
set_option maxRecDepth 100000 in
theorem same_any (v u : Value) (a b : List UInt8) (w : World) (ha : Bs w v a) (hb : Bs w u b) :
    Calls Try.prog 37 #[v, u] w fun e w' => e = .returned (.bool (decide (a = b))) ∧ ∃ n, w' = w.drewN n := by
  have HA := hI ha
  have HB := hI hb
  obtain ⟨ad, cap, rfl, hcap, hcm⟩ := ha.form
  obtain ⟨bd, cap', rfl, hcap', hcm'⟩ := hb.form
  clear ha hb
  unfold maxLen at hcm hcm'
  by_cases hl : a.length = b.length
  · have hne : ((a.length : Int) != (b.length : Int)) = false := by simp [hl]
    have HLL := hI hl
    have hle : a.length ≤ b.length := by omega
    have hge : b.length ≤ a.length := by omega
    clear hl
    go_enter Try.func37, Try.ntmps37
    go_wp2_with fail
    go_loopw [5] (fun i wr => ∃ (k n : Nat), k ≤ a.length ∧ i = .int .i64 k ∧ wr = w.drewN n ∧ ∀ j, j < k → a[j]? = b[j]?) (fun i _ => a.length - (intOf i).toNat)
    case atStart => exact ⟨0, 0, Nat.zero_le _, rfl, rfl, by simp⟩
    case round =>
      obtain ⟨k, n, hk, rfl, rfl, heq⟩ := hrel
      have HE := hI heq
      clear heq
      by_cases hlt : k < a.length
      · have hlt1 : (k : Int) < (a.length : Int) := by omega
        have hltb : k < b.length := by omega
        have hlt2 : (k : Int) < (b.length : Int) := by omega
        obtain ⟨b1, o1, rfl, hc1⟩ := HA.out.addr (by rw [bCells_length]; omega)
        obtain ⟨b2, o2, rfl, hc2⟩ := HB.out.addr (by rw [bCells_length]; omega)
        have c1 : w.cell? ⟨b1, o1 + k, none⟩ = some (.int .u8 a[k].toNat) := hc1 k _ (bCells_get a k hlt)
        have c2 : w.cell? ⟨b2, o2 + k, none⟩ = some (.int .u8 b[k].toNat) := hc2 k _ (bCells_get b k hltb)
        clear hc1 hc2
        by_cases hx : a[k] = b[k]
        · have hx1 : ((a[k].toNat : Int) != (b[k].toNat : Int)) = false := by simp [hx]
          have HX := hI hx
          clear hx
          have HE' : Hid (∀ j, j < k + 1 → a[j]? = b[j]?) := hI (by
            intro j hj
            rcases Nat.lt_or_ge j k with h | h
            · exact HE.out j h
            · obtain rfl : j = k := by omega
              rw [List.getElem?_eq_getElem hlt, List.getElem?_eq_getElem hltb, HX.out])
          go_wp2_with fail
          go_quiet (fail)
          go_wp2_with fail
          go_roundw
          case rel => exact ⟨k + 1, _, by omega, by go_num, rfl, HE'.out⟩
          case measure => simp [intOf]; omega
        · have hx1 : ((a[k].toNat : Int) != (b[k].toNat : Int)) = true := by
            rw [bne_iff_ne]
            intro e
            exact hx (UInt8.toNat_inj.1 (by omega))
          have HX := hI hx
          clear hx
          have HR : Hid (decide (a = b) = false) := hI (by
            rw [decide_eq_false_iff_not]
            rintro rfl
            exact HX.out rfl)
          go_wp2_with fail
          go_quiet (fail)
          go_wp2_with fail
          go_ret
          rw [HR.out]
          exact ⟨rfl, n + nq, by simp [World.drewN, Nat.add_assoc]⟩
      · obtain rfl : k = a.length := by omega
        have HR : Hid (decide (a = b) = true) := hI (by
          rw [decide_eq_true_eq]
          apply List.ext_getElem? 
          intro j
          rcases Nat.lt_or_ge j a.length with h | h
          · exact HE.out j h
          · rw [List.getElem?_eq_none h, List.getElem?_eq_none (by omega)])
        go_wp2_with fail
        go_ret
        rw [HR.out]
        exact ⟨rfl, _, rfl⟩
  · have hne : ((a.length : Int) != (b.length : Int)) = true := by rw [bne_iff_ne]; omega
    have HR : Hid (decide (a = b) = false) := hI (by rw [decide_eq_false_iff_not]; rintro rfl; exact hl rfl)
    clear hl
    go_enter Try.func37, Try.ntmps37
    go_wp2_with fail
    go_ret
    rw [HR.out]
    exact ⟨rfl, 0, rfl⟩
theorem same_b (v u : Value) (a b : List UInt8) (w : World) (ha : Bs w v a) (hb : Bs w u b) :
    Calls Try.prog 37 #[v, u] w fun e w' => e = .returned (.bool (decide (a = b))) ∧ Below w.heap.size w w' :=
  (same_any v u a b w ha hb).mono (by rintro e w' ⟨rfl, n, rfl⟩; exact ⟨rfl, below_drewN (Below.refl _ _) n⟩)
/-- The k lowest bytes of a number, the highest first. -/
def beB : Nat → Nat → List UInt8
  | 0, _ => []
  | k + 1, n => beB k (n / 256) ++ [UInt8.ofNat (n % 256)]
theorem beB_cons : ∀ (k n : Nat), UInt8.ofNat (n / 256 ^ k % 256) :: beB k n = beB (k + 1) n
  | 0, n => by simp [beB]
  | k + 1, n => by
    rw [beB, beB, ← beB_cons k (n / 256), Nat.div_div_eq_div_mul, ← Nat.pow_succ', List.cons_append]
theorem beB_length : ∀ (k n : Nat), (beB k n).length = k
  | 0, _ => rfl
  | k + 1, n => by simp [beB, beB_length k]
theorem putB_eq (n : Nat) : putB n = beB 8 n := by
  have h : ∀ k, k ≤ 8 → ((List.range' (8 - k) k).map fun i => UInt8.ofNat (n / 2 ^ (56 - 8 * i) % 256)) = beB k n := by
    intro k
    induction k with
    | zero => intro _; rfl
    | succ k ih =>
      intro hk
      rw [← beB_cons, ← ih (by omega), List.range'_succ, List.map_cons, show 8 - (k + 1) + 1 = 8 - k by omega]
      congr 4
      rw [show (256 : Nat) = 2 ^ 8 by rfl, ← Nat.pow_mul]
      congr 1
      omega
  have := h 8 (Nat.le_refl _)
  rw [← this, putB, List.range_eq_range']
/-- A number's bytes, as few as may be. -/
def shortR : Nat → Nat → List UInt8
  | 0, _ => []
  | f + 1, n => if n < 256 then [UInt8.ofNat n] else shortR f (n / 256) ++ [UInt8.ofNat (n % 256)]
theorem stripZ_snoc : ∀ (l : List UInt8) (x : UInt8), l ≠ [] → (∃ y ∈ l, y ≠ 0) → stripZ (l ++ [x]) = stripZ l ++ [x]
  | [], _, h, _ => absurd rfl h
  | [a], x, _, h => by
    obtain ⟨y, hy, h0⟩ := h
    rw [List.mem_singleton] at hy
    subst hy
    simp [stripZ, h0]
  | a :: b :: l, x, _, h => by
    by_cases h0 : a = 0
    · subst h0
      simp only [List.cons_append, stripZ, if_true]
      refine stripZ_snoc (b :: l) x (by simp) ?_
      obtain ⟨y, hy, h1⟩ := h
      rcases List.mem_cons.1 hy with rfl | hy
      · exact absurd rfl h1
      · exact ⟨y, hy, h1⟩
    · simp [stripZ, h0]
theorem stripZ_zeros : ∀ (l : List UInt8) (x : UInt8), (∀ y ∈ l, y = 0) → stripZ (l ++ [x]) = [x]
  | [], _, _ => rfl
  | [a], x, h => by
    have := h a (by simp)
    subst this
    simp [stripZ]
  | a :: b :: l, x, h => by
    have := h a (by simp)
    subst this
    simp only [List.cons_append, stripZ, if_true]
    exact stripZ_zeros (b :: l) x (fun y hy => h y (by simp [hy]))
theorem beB_zero : ∀ (k : Nat), ∀ y ∈ beB k 0, y = 0
  | 0, y, h => by simp [beB] at h
  | k + 1, y, h => by
    simp only [beB, List.mem_append, List.mem_singleton] at h
    rcases h with h | h
    · exact beB_zero k y (by simpa using h)
    · rw [h]; rfl
theorem beB_some : ∀ (k n : Nat), 0 < n → n < 256 ^ k → ∃ y ∈ beB k n, y ≠ 0
  | 0, n, h0, h => by simp at h; omega
  | k + 1, n, h0, h => by
    by_cases hn : n < 256
    · refine ⟨UInt8.ofNat (n % 256), by simp [beB], fun e => ?_⟩
      have := congrArg UInt8.toNat e
      simp at this
      omega
    · obtain ⟨y, hy, h1⟩ := beB_some k (n / 256) (by omega) (by rw [Nat.pow_succ] at h; omega)
      exact ⟨y, by simp [beB, hy], h1⟩
theorem shortR_eq : ∀ (k n : Nat), n < 256 ^ (k + 1) → stripZ (beB (k + 1) n) = shortR (k + 1) n
  | 0, n, h => by
    have : n < 256 := by simpa using h
    simp [beB, stripZ, shortR, this, Nat.mod_eq_of_lt this]
  | k + 1, n, h => by
    rw [beB, shortR]
    by_cases hn : n < 256
    · rw [if_pos hn, Nat.div_eq_of_lt hn, stripZ_zeros _ _ (beB_zero _), Nat.mod_eq_of_lt hn]
    · have h' : n / 256 < 256 ^ (k + 1) := by rw [Nat.pow_succ] at h; omega
      rw [if_neg hn, stripZ_snoc _ _ (by intro e; have := congrArg List.length e; simp [beB_length] at this) (beB_some _ _ (by omega) h'), shortR_eq k (n / 256) h']
theorem shortB_eq (n : Nat) (h : n < 256 ^ 8) : shortB n = shortR 8 n := by rw [shortB, putB_eq, shortR_eq 7 n h]
/-- A value's cells, the error's number. -/
def WhRes (w : World) (r : Tv × Int) (e : Ending) (w' : World) : Prop :=
  ∃ cs : List Value, e = .returned (.tuple #[.agg cs.toArray, .int .i64 r.2]) ∧ TvF w' (fun x => w.heap.size ≤ x ∧ x < w'.heap.size) r.1 cs ∧ Below w.heap.size w w'
set_option maxHeartbeats 4000000 in
set_option maxRecDepth 100000 in
theorem derWhole_any (v : Value) (b : List UInt8) (w : World) (h : Bs w v b) : Calls Try.prog 44 #[v] w (WhRes w (wholeS b)) := by
  obtain ⟨a, cap, rfl, hcap, hcm⟩ := h.form
  unfold maxLen at hcm
  have HZ := hI der_zero
  have HN := hI (Blk.new w zs5 76)
  by_cases hl : 4096 < b.length
  · have HR : Hid (wholeS b = (.zero, 20)) := hI (by unfold wholeS; rw [if_pos hl])
    have hl' : (4096 : Int) < b.length := by omega
    clear hl h
    go_enter Try.func44, Try.ntmps44
    go_wp2_with (first | ((with_reducible show wpList _ _ _ (⟨some 10, _, _, _, _, _⟩ :: _) _ _); refine wpList_bld rfl rfl HZ.out ?_) | ((with_reducible show wpList _ _ _ (⟨none, .store _ (.tmp 2) (.tmp 10), _, _, _, _⟩ :: _) _ _); refine wpList_stAgg rfl (.tmp 2) (.tmp 10) aggDer rfl rfl (vs := zs5) rfl rfl HN.out (Nat.le_refl _) zs5_one ?_))
    intro w2 h2 k2
    have h2' : Blk w2 w.heap.size zs5 76 := by simpa [zs5] using h2
    have H2 := hI h2'
    have HB2 : Hid (Below w.heap.size w w2) := hI (((Below.refl _ _).alloc (Nat.le_refl _) _).trans (k2.below (by omega)))
    clear h2 h2' k2
    go_wp2_with fail
    rw [HR.out]
    exact bodyPost_ret (results_agg_tmp rfl aggDer rfl (cs := zs5) rfl H2.out.cellsAll) rfl ⟨zs5, rfl, TvF.zero _ _, HB2.out⟩
  · have hl' : ¬ (4096 : Int) < b.length := by omega
    obtain ⟨x, n, e, hrd⟩ : ∃ x n e, readS 8 b = (x, n, e) := ⟨_, _, _, rfl⟩
    have hW : wholeS b = if e ≠ 0 then (.zero, e) else if n < b.length then (.zero, 5) else (x, 0) := by unfold wholeS; rw [if_neg hl, hrd]
    have HW := hI hW
    have HCALL := hI (derRead_any 8 1 _ b (w.alloc (.cells zs5.toArray 76)) (by decide) (Nat.le_refl _) (h.alloc _) (by omega))
    rw [hrd] at HCALL
    clear hl h hW hrd
    go_enter Try.func44, Try.ntmps44
    go_wp2_with fail
    refine HCALL.out.mono ?_
    rintro er w1 ⟨cs, rfl, htv, hb1⟩
    have hz1 := hb1.size
    simp at hz1
    have hcl : cs.length = 5 := htv.length
    have HCL := hI hcl
    have HC1 := hI htv.one
    have hr1 : Blk w1 w.heap.size zs5 76 := HN.out.below hb1 (by simp)
    have HR1 := hI hr1
    have HB1 : Hid (Below w.heap.size w w1) := hI (((Below.refl _ _).alloc (Nat.le_refl _) _).trans (hb1.mono (by simp)))
    have HTV : Hid (TvF w1 (fun y => w.heap.size + 1 ≤ y ∧ y < w1.heap.size) x cs) := hI (htv.mono (fun y hy => by simp at hy; omega))
    have HN1 := hI (Blk.new w1 zs5 76)
    clear hcl htv hb1 hr1 HCALL
    go_wp2_with ((with_reducible show wpList _ _ _ (⟨none, .store _ (.tmp 4) (.tmp 14), _, _, _, _⟩ :: _) _ _); refine wpList_stAgg rfl (.tmp 4) (.tmp 14) aggDer rfl rfl (vs := cs) rfl HCL.out HN1.out (Nat.le_refl _) HC1.out ?_)
    intro w3 h3 k3
    have h3' : Blk w3 w1.heap.size cs 76 := by
      rw [List.drop_of_length_le (by decide), List.append_nil] at h3
      exact h3
    have hz3 := k3.size
    simp at hz3
    have hb3 : Below w1.heap.size w1 w3 := ((Below.refl _ _).alloc (Nat.le_refl _) _).trans (k3.below (by omega))
    have H3 := hI h3'
    have HR3 := hI (HR1.out.below hb3 (by omega))
    have HB3 : Hid (Below w.heap.size w w3) := hI (HB1.out.trans (hb3.mono (by omega)))
    have HTV3 := hI (HTV.out.below hb3)
    obtain ⟨q, hq⟩ : ∃ q, q = w1.heap.size := ⟨_, rfl⟩
    rw [← hq] at H3 hz3 HTV3 ⊢
    have hqw : w.heap.size + 1 ≤ q := by omega
    clear h3 h3' k3 hb3 HN1 HTV HB1 hq
    by_cases he : e = 0
    · subst he
      by_cases hn : n < b.length
      · have HR : Hid (wholeS b = (.zero, 5)) := hI (by rw [HW.out, if_neg (by decide), if_pos hn])
        have hn' : (n : Int) < b.length := by omega
        clear hn
        go_wp2_with (first | ((with_reducible show wpList _ _ _ (⟨some 27, _, _, _, _, _⟩ :: _) _ _); refine wpList_bld rfl rfl HZ.out ?_) | ((with_reducible show wpList _ _ _ (⟨none, .store _ (.tmp 2) (.tmp 27), _, _, _, _⟩ :: _) _ _); refine wpList_stAgg rfl (.tmp 2) (.tmp 27) aggDer rfl rfl (vs := zs5) rfl rfl HR3.out (Nat.le_refl _) zs5_one ?_))
        intro w2 h2 k2
        have h2' : Blk w2 w.heap.size zs5 76 := by simpa [zs5] using h2
        have H2 := hI h2'
        have HB2 : Hid (Below w.heap.size w w2) := hI (HB3.out.trans (k2.below (by omega)))
        clear h2 h2' k2
        go_wp2_with fail
        rw [HR.out]
        exact bodyPost_ret (results_agg_tmp rfl aggDer rfl (cs := zs5) rfl H2.out.cellsAll) rfl ⟨zs5, rfl, TvF.zero _ _, HB2.out⟩
      · have HR : Hid (wholeS b = (x, 0)) := hI (by rw [HW.out, if_neg (by decide), if_neg hn])
        have hn' : ¬ (n : Int) < b.length := by omega
        clear hn
        go_wp2_with (first | ((with_reducible show wpList _ _ _ (⟨some 28, _, _, _, _, _⟩ :: _) _ _); refine wpList_ldAgg rfl (.tmp 4) aggDer rfl rfl (cs := cs) HCL.out H3.out.cellsAll ?_) | ((with_reducible show wpList _ _ _ (⟨none, .store _ (.tmp 2) (.tmp 28), _, _, _, _⟩ :: _) _ _); refine wpList_stAgg rfl (.tmp 2) (.tmp 28) aggDer rfl rfl (vs := cs) rfl HCL.out HR3.out (Nat.le_refl _) HC1.out ?_))
        intro w2 h2 k2
        have h2' : Blk w2 w.heap.size cs 76 := by
          rw [List.drop_of_length_le (by decide), List.append_nil] at h2
          exact h2
        have H2 := hI h2'
        have hz2 := k2.size
        have HB2 : Hid (Below w.heap.size w w2) := hI (HB3.out.trans (k2.below (by omega)))
        have HT2 : Hid (TvF w2 (fun y => w.heap.size ≤ y ∧ y < w2.heap.size) x cs) := hI ((HTV3.out.keep k2 (fun y hy _ e => by have := hy.1; omega)).mono (fun y hy => (⟨by omega, by omega⟩ : w.heap.size ≤ y ∧ y < w2.heap.size)))
        clear h2 h2' k2
        go_wp2_with fail
        rw [HR.out]
        exact bodyPost_ret (results_agg_tmp rfl aggDer rfl (cs := cs) HCL.out H2.out.cellsAll) rfl ⟨cs, rfl, HT2.out, HB2.out⟩
    · have HR : Hid (wholeS b = (.zero, e)) := hI (by rw [HW.out, if_pos he])
      have he' : (e != 0) = true := by simp [he]
      clear he
      go_wp2_with (first | ((with_reducible show wpList _ _ _ (⟨some 20, _, _, _, _, _⟩ :: _) _ _); refine wpList_bld rfl rfl HZ.out ?_) | ((with_reducible show wpList _ _ _ (⟨none, .store _ (.tmp 2) (.tmp 20), _, _, _, _⟩ :: _) _ _); refine wpList_stAgg rfl (.tmp 2) (.tmp 20) aggDer rfl rfl (vs := zs5) rfl rfl HR3.out (Nat.le_refl _) zs5_one ?_))
      intro w2 h2 k2
      have h2' : Blk w2 w.heap.size zs5 76 := by simpa [zs5] using h2
      have H2 := hI h2'
      have HB2 : Hid (Below w.heap.size w w2) := hI (HB3.out.trans (k2.below (by omega)))
      clear h2 h2' k2
      go_wp2_with fail
      rw [HR.out]
      exact bodyPost_ret (results_agg_tmp rfl aggDer rfl (cs := zs5) rfl H2.out.cellsAll) rfl ⟨zs5, rfl, TvF.zero _ _, HB2.out⟩
/-- May a value be, in so many levels? -/
def rightS : Nat → Tv → Bool
  | 0, _ => false
  | d + 1, .mk k t n b l => decide (0 ≤ t) && decide (t ≤ 30) &&
      (if k = 0 then decide (b = []) && decide (l.length = 0) else if k = 1 then decide (n = 0) && decide (l.length = 0) else if k = 2 then l.all (rightS d) && decide (n = 0) && decide (b = []) else false)
theorem eqz_true {n : Nat} (h : n = 0) : ((n : Int) == 0) = true := by subst h; rfl
theorem eqz_false {n : Nat} (h : ¬ n = 0) : ((n : Int) == 0) = false := by simp; exact h
theorem all_snoc {α : Type} (p : α → Bool) (l : List α) (k : Nat) (h : k < l.length) : (l.take (k + 1)).all p = ((l.take k).all p && p l[k]) := by
  rw [List.take_succ_eq_append_getElem h, List.all_append]
  simp
theorem all_not {α : Type} (p : α → Bool) (l : List α) (k : Nat) (h : k < l.length) (hp : p l[k] = false) : l.all p = false := by
  rw [List.all_eq_false]
  exact ⟨l[k], List.getElem_mem h, by simp [hp]⟩
/-- What a bool's function gives that makes memory. -/
def BoolRes (w : World) (r : Bool) (e : Ending) (w' : World) : Prop := e = .returned (.bool r) ∧ Below w.heap.size w w'
set_option maxHeartbeats 4000000 in
set_option maxRecDepth 100000 in
theorem derRight_any : ∀ (d : Nat) (D : Int) (x : Tv) (F : Nat → Prop) (cs : List Value) (w : World), D = 9 - (d : Int) → d ≤ 8 → TvF w F x cs →
    Calls Try.prog 71 #[.agg cs.toArray, .int .i64 D] w (BoolRes w (rightS d x)) := by
  intro d
  induction d with
  | zero =>
    intro D x F cs w hD hd h
    obtain ⟨bv, lv, rows, rfl, hb, _, hl, _, hls⟩ := h.open_
    have hD' : (8 : Int) < D := by omega
    have HR : Hid (rightS 0 x = false) := hI rfl
    clear hD h
    generalize x.tag = t at *
    rcases (by omega : t < 0 ∨ 30 < t ∨ (0 ≤ t ∧ t ≤ 30)) with ht | ht | ⟨ht, ht2⟩
    all_goals
      go_enter Try.func71, Try.ntmps71
      go_wp2_with fail
      go_ret
      rw [HR.out]
      exact ⟨rfl, (Below.refl _ _).alloc (Nat.le_refl _) _⟩
  | succ d ih =>
    intro D x F cs w hD hd h
    obtain ⟨bv, lv, rows, rfl, hb, _, hl, _, hls⟩ := h.open_
    have hD' : ¬ (8 : Int) < D := by omega
    have hD0 : 0 ≤ D := by omega
    have HD := hI hD
    have HIH := hI ih
    obtain ⟨k, t, n, b, l⟩ := x
    simp only [Tv.kind, Tv.tag, Tv.n, Tv.b, Tv.l] at *
    obtain ⟨ab, cb, rfl, hcb, hmb⟩ := hb.form
    obtain ⟨al, cl, rfl, hcl, hml⟩ := hl.form
    unfold maxLen at hmb hml
    have hRS : rightS (d + 1) (.mk k t n b l) = (decide (0 ≤ t) && decide (t ≤ 30) &&
      (if k = 0 then decide (b = []) && decide (l.length = 0) else if k = 1 then decide (n = 0) && decide (l.length = 0) else if k = 2 then l.all (rightS d) && decide (n = 0) && decide (b = []) else false)) := rfl
    have HRS := hI hRS
    have HL := hI hl
    have HLS := hI hls
    clear hD ih h hb hl hls hRS
    rcases (by omega : t < 0 ∨ 30 < t ∨ (0 ≤ t ∧ t ≤ 30)) with ht | ht | ⟨ht, ht2⟩
    · have HR : Hid (rightS (d + 1) (.mk k t n b l) = false) := hI (by rw [HRS.out]; simp; omega)
      clear HRS
      go_enter Try.func71, Try.ntmps71
      go_wp2_with fail
      go_ret
      rw [HR.out]
      exact ⟨rfl, (Below.refl _ _).alloc (Nat.le_refl _) _⟩
    · have HR : Hid (rightS (d + 1) (.mk k t n b l) = false) := hI (by rw [HRS.out]; simp; omega)
      clear HRS
      go_enter Try.func71, Try.ntmps71
      go_wp2_with fail
      go_ret
      rw [HR.out]
      exact ⟨rfl, (Below.refl _ _).alloc (Nat.le_refl _) _⟩
    · by_cases hk0 : k = 0
      · subst hk0
        by_cases g1 : b.length = 0
        · have g1' : ((b.length : Int) == 0) = true := eqz_true g1
          by_cases g2 : l.length = 0
          · have g2' : ((l.length : Int) == 0) = true := eqz_true g2
            have HR : Hid (rightS (d + 1) (.mk 0 t n b l) = true) := hI (by rw [HRS.out]; simp [g1, g2, List.eq_nil_of_length_eq_zero, ht, ht2]; try exact List.eq_nil_of_length_eq_zero (by omega))
            clear g1 g2
            clear HRS
            go_enter Try.func71, Try.ntmps71
            go_wp2_with fail
            go_ret
            rw [HR.out]
            exact ⟨rfl, (Below.refl _ _).alloc (Nat.le_refl _) _⟩
          · have g2' : ((l.length : Int) == 0) = false := eqz_false g2
            have HR : Hid (rightS (d + 1) (.mk 0 t n b l) = false) := hI (by rw [HRS.out]; have : ¬ l = [] := fun e => g2 (by rw [e]; rfl); simp [g2, this])
            clear g1 g2
            clear HRS
            go_enter Try.func71, Try.ntmps71
            go_wp2_with fail
            go_ret
            rw [HR.out]
            exact ⟨rfl, (Below.refl _ _).alloc (Nat.le_refl _) _⟩
        · have g1' : ((b.length : Int) == 0) = false := eqz_false g1
          have HR : Hid (rightS (d + 1) (.mk 0 t n b l) = false) := hI (by rw [HRS.out]; have : ¬ b = [] := fun e => g1 (by rw [e]; rfl); simp [g1, this])
          clear g1
          clear HRS
          go_enter Try.func71, Try.ntmps71
          go_wp2_with fail
          go_ret
          rw [HR.out]
          exact ⟨rfl, (Below.refl _ _).alloc (Nat.le_refl _) _⟩
      · by_cases hk1 : k = 1
        · subst hk1
          by_cases g1 : n = 0
          · have g1' : ((n : Int) == 0) = true := eqz_true g1
            by_cases g2 : l.length = 0
            · have g2' : ((l.length : Int) == 0) = true := eqz_true g2
              have HR : Hid (rightS (d + 1) (.mk 1 t n b l) = true) := hI (by rw [HRS.out]; simp [g1, g2, List.eq_nil_of_length_eq_zero, ht, ht2]; try exact List.eq_nil_of_length_eq_zero (by omega))
              clear g1 g2
              clear HRS
              go_enter Try.func71, Try.ntmps71
              go_wp2_with fail
              go_ret
              rw [HR.out]
              exact ⟨rfl, (Below.refl _ _).alloc (Nat.le_refl _) _⟩
            · have g2' : ((l.length : Int) == 0) = false := eqz_false g2
              have HR : Hid (rightS (d + 1) (.mk 1 t n b l) = false) := hI (by rw [HRS.out]; have : ¬ l = [] := fun e => g2 (by rw [e]; rfl); simp [g2, this])
              clear g1 g2
              clear HRS
              go_enter Try.func71, Try.ntmps71
              go_wp2_with fail
              go_ret
              rw [HR.out]
              exact ⟨rfl, (Below.refl _ _).alloc (Nat.le_refl _) _⟩
          · have g1' : ((n : Int) == 0) = false := eqz_false g1
            have HR : Hid (rightS (d + 1) (.mk 1 t n b l) = false) := hI (by rw [HRS.out]; have : True := trivial; simp [g1, this])
            clear g1
            clear HRS
            go_enter Try.func71, Try.ntmps71
            go_wp2_with fail
            go_ret
            rw [HR.out]
            exact ⟨rfl, (Below.refl _ _).alloc (Nat.le_refl _) _⟩
        · have hk0' : (k == 0) = false := by simp [hk0]
          have hk1' : (k == 1) = false := by simp [hk1]
          by_cases hk2 : k = 2
          · subst hk2
            have hRS := HRS.out
            rw [if_neg (by decide), if_neg (by decide), if_pos rfl] at hRS
            have HRS := hI hRS
            have HBB : Hid (Below w.heap.size w (w.alloc (.cells #[.int .i64 2, .int .i64 t, .int .u64 n, .slice ab b.length cb, .slice al l.length cl] 76))) := hI ((Below.refl _ _).alloc (Nat.le_refl _) _)
            clear hk0 hk1 hk0' hk1' hRS
            go_enter Try.func71, Try.ntmps71
            go_wp2_with fail
            have hq0 : Blk (w.alloc (.cells #[.int .i64 2, .int .i64 t, .int .u64 n, .slice ab b.length cb, .slice al l.length cl] 76)) w.heap.size [.int .i64 2, .int .i64 t, .int .u64 n, .slice ab b.length cb, .slice al l.length cl] 76 := Blk.new w _ _
            have HQ0 := hI hq0
            clear hq0
            go_loopw [49] (fun i wr => ∃ k : Nat, k ≤ l.length ∧ i = .int .i64 k ∧ (l.take k).all (rightS d) = true ∧ Blk wr w.heap.size [.int .i64 2, .int .i64 t, .int .u64 n, .slice ab b.length cb, .slice al l.length cl] 76 ∧ Below w.heap.size w wr) (fun i _ => l.length - (intOf i).toNat)
            case atStart => exact ⟨0, Nat.zero_le _, rfl, rfl, HQ0.out, HBB.out⟩
            case round =>
              obtain ⟨j, hj, rfl, hall, hq, hB⟩ := hrel
              have HB := hI hB
              have HQ := hI hq
              have HALL := hI hall
              have hzr := hB.size
              by_cases hlt : j < l.length
              · obtain ⟨bl, ol, rfl, _⟩ := HL.out.addr (by rw [HL.out.1]; omega)
                obtain ⟨r, hr, hrc⟩ := HLS.out.cells HL.out j hlt
                have hcr : CellsAt wr bl (ol + j * 5) r := fun i u hi => below_cell hB (hrc i u hi)
                have hsn := all_snoc (rightS d) l j hlt
                have hno := all_not (rightS d) l j hlt
                have hji : (j : Int) < l.length := by omega
                generalize l[j] = y at hr hsn hno
                have hrl := hr.length
                have HR1 := hI hr.one
                have HRL := hI hrl
                have HCR := hI hcr
                have HRT := hI (hr.below hB)
                have HSN := hI hsn
                have HNO := hI hno
                have HN := hI (Blk.new wr zs5 76)
                clear hr hrc hcr hsn hno hrl hB hq hall
                go_wp2_with (first | ((with_reducible show wpList _ _ _ (⟨some 52, _, _, _, _, _⟩ :: _) _ _); refine wpList_ldAgg rfl (.tmp 51) aggDer rfl rfl (cs := r) HRL.out HCR.out ?_) | ((with_reducible show wpList _ _ _ (⟨none, .store _ (.tmp 6) (.tmp 52), _, _, _, _⟩ :: _) _ _); refine wpList_stAgg rfl (.tmp 6) (.tmp 52) aggDer rfl rfl (vs := r) rfl HRL.out HN.out (Nat.le_refl _) HR1.out ?_))
                intro w3 h3 k3
                have h3' : Blk w3 wr.heap.size r 76 := by
                  rw [List.drop_of_length_le (by decide), List.append_nil] at h3
                  exact h3
                have hz3 := k3.size
                simp at hz3
                have hb3 : Below wr.heap.size wr w3 := ((Below.refl _ _).alloc (Nat.le_refl _) _).trans (k3.below (by omega))
                have H3 := hI h3'
                have hblk : w.heap.size < wr.heap.size := HQ.out.lt
                have HQ3 := hI (HQ.out.below hb3 hblk)
                have HB3 : Hid (Below w.heap.size w w3) := hI (HB.out.trans (hb3.mono hzr))
                have HCALL := hI (HIH.out (D + 1) y F r w3 (by have := HD.out; omega) (by omega) (HRT.out.below hb3))
                clear h3 h3' k3 hb3 HN HRT HCR
                go_wp2_with ((with_reducible show wpList _ _ _ (⟨some 53, _, _, _, _, _⟩ :: _) _ _); refine wpList_ldAgg rfl (.tmp 6) aggDer rfl rfl (cs := r) HRL.out H3.out.cellsAll ?_)
                refine HCALL.out.mono ?_
                rintro e w4 ⟨rfl, hb4⟩
                have hz4 := hb4.size
                have HQ4 := hI (HQ3.out.below hb4 (by omega))
                have HB4 : Hid (Below w.heap.size w w4) := hI (HB3.out.trans (hb4.mono (by omega)))
                clear hb4 HCALL HQ3 HB3 H3
                obtain ⟨v, hv⟩ : ∃ v, v = rightS d y := ⟨_, rfl⟩
                rw [← hv] at HSN HNO ⊢
                clear hv
                cases v with
                | true =>
                  go_wp2_with fail
                  go_roundw
                  case rel => exact ⟨j + 1, by omega, by go_num, by rw [HSN.out, HALL.out]; rfl, HQ4.out, HB4.out⟩
                  case measure => simp [intOf]; omega
                | false =>
                  have HR : Hid (rightS (d + 1) (.mk 2 t n b l) = false) := hI (by rw [HRS.out, HNO.out rfl]; simp)
                  go_wp2_with fail
                  go_ret
                  rw [HR.out]
                  exact ⟨rfl, HB4.out⟩
              · obtain rfl : j = l.length := by omega
                rw [List.take_length] at hall
                have hn0 : wr.cell? ⟨w.heap.size, 2, none⟩ = some (.int .u64 n) := by rw [hq.cell]; rfl
                have hb0 : wr.cell? ⟨w.heap.size, 3, none⟩ = some (.slice ab b.length cb) := by rw [hq.cell]; rfl
                by_cases g1 : n = 0
                · have g1' : ((n : Int) == 0) = true := eqz_true g1
                  by_cases g2 : b.length = 0
                  · have g2' : ((b.length : Int) == 0) = true := eqz_true g2
                    have HR : Hid (rightS (d + 1) (.mk 2 t n b l) = true) := hI (by rw [HRS.out, hall]; simp [g1, ht, ht2]; exact List.eq_nil_of_length_eq_zero g2)
                    clear g1 g2 hall hq HQ0 HQ hB
                    go_wp2_with fail
                    go_ret
                    rw [HR.out]
                    exact ⟨rfl, HB.out⟩
                  · have g2' : ((b.length : Int) == 0) = false := eqz_false g2
                    have HR : Hid (rightS (d + 1) (.mk 2 t n b l) = false) := hI (by rw [HRS.out]; have : ¬ b = [] := fun e => g2 (by rw [e]; rfl); simp [this])
                    clear g1 g2 hall hq HQ0 HQ hB
                    go_wp2_with fail
                    go_ret
                    rw [HR.out]
                    exact ⟨rfl, HB.out⟩
                · have g1' : ((n : Int) == 0) = false := eqz_false g1
                  have HR : Hid (rightS (d + 1) (.mk 2 t n b l) = false) := hI (by rw [HRS.out]; simp [g1])
                  clear g1 hall hq HQ0 HQ hB
                  go_wp2_with fail
                  go_ret
                  rw [HR.out]
                  exact ⟨rfl, HB.out⟩
          · have hk2' : (k == 2) = false := by simp [hk2]
            have HR : Hid (rightS (d + 1) (.mk k t n b l) = false) := hI (by rw [HRS.out]; simp [hk0, hk1, hk2])
            clear hk0 hk1 hk2
            clear HRS
            go_enter Try.func71, Try.ntmps71
            go_wp2_with fail
            go_ret
            rw [HR.out]
            exact ⟨rfl, (Below.refl _ _).alloc (Nat.le_refl _) _⟩
set_option maxRecDepth 100000 in
theorem derRightIt_any (x : Tv) (F : Nat → Prop) (cs : List Value) (w : World) (h : TvF w F x cs) : Calls Try.prog 57 #[.agg cs.toArray] w (BoolRes w (rightS 8 x)) := by
  have hl := h.length
  have HL := hI hl
  have HC := hI (derRight_any 8 1 x F cs (w.alloc (.cells cs.toArray 76)) (by decide) (Nat.le_refl _) (h.below ((Below.refl _ _).alloc (Nat.le_refl _) _)))
  have HN := hI (Blk.new w cs 76)
  clear h hl
  go_enter Try.func57, Try.ntmps57
  go_wp2_with ((with_reducible show wpList _ _ _ (⟨some 3, _, _, _, _, _⟩ :: _) _ _); refine wpList_ldAgg rfl (.tmp 1) aggDer rfl rfl (cs := cs) HL.out HN.out.cellsAll ?_)
  refine HC.out.mono ?_
  rintro e w1 ⟨rfl, hb1⟩
  have HB : Hid (Below w.heap.size w w1) := hI (((Below.refl _ _).alloc (Nat.le_refl _) _).trans (hb1.mono (by simp)))
  clear hb1
  go_wp2_with fail
  go_ret
  exact ⟨rfl, HB.out⟩
mutual
/-- No list is longer than memory has room for. -/
def Lw : Tv → Prop
  | .mk _ _ _ _ l => l.length ≤ 1954687338211 ∧ LsW l
def LsW : List Tv → Prop
  | [] => True
  | x :: l => Lw x ∧ LsW l
end
theorem LsW.mem : ∀ {l : List Tv}, LsW l → ∀ x ∈ l, Lw x
  | [], _, x, hx => by simp at hx
  | y :: l, h, x, hx => by
    rcases List.mem_cons.1 hx with e | hx
    · rw [e]; exact h.1
    · exact h.2.mem x hx
theorem LsW.of : ∀ {l : List Tv}, (∀ x ∈ l, Lw x) → LsW l
  | [], _ => trivial
  | y :: l, h => ⟨h y (by simp), LsW.of (fun x hx => h x (by simp [hx]))⟩
/-- Rows of bytes: a slice value whose elements read as these. -/
def Rs (w : World) (v : Value) (rows : List (List UInt8)) : Prop := ∃ vs : List Value, vs.length = rows.length ∧ Sl w 1 v rows.length vs ∧ ∀ (j : Nat) u r, vs[j]? = some u → rows[j]? = some r → Bs w u r
theorem Rs.below {w w' : World} {v : Value} {rows : List (List UInt8)} (h : Rs w v rows) (hb : Below w.heap.size w w') : Rs w' v rows := by
  obtain ⟨vs, h1, h2, h3⟩ := h
  exact ⟨vs, h1, h2.below hb, fun j u r hu hr => (h3 j u r hu hr).below hb⟩
theorem flatten_take_succ (rows : List (List UInt8)) (k : Nat) (h : k < rows.length) : (rows.take (k + 1)).flatten = (rows.take k).flatten ++ rows[k] := by
  rw [List.take_succ_eq_append_getElem h, List.flatten_append, List.flatten_cons, List.flatten_nil, List.append_nil]
theorem flatten_take_le (rows : List (List UInt8)) (k : Nat) : (rows.take k).flatten.length ≤ rows.flatten.length := by
  have h := congrArg (fun l => (List.flatten l).length) (List.take_append_drop k rows)
  simp only [List.flatten_append, List.length_append] at h
  omega
set_option maxRecDepth 100000 in
/-- Joined: rows of bytes, one behind the other, in bytes of the call's own. -/
theorem joined_any (v : Value) (rows : List (List UInt8)) (w : World) (h : Rs w v rows) (hlen : rows.flatten.length ≤ 1099511627776) :
    Calls Try.prog 73 #[v] w fun e w' => ∃ v', e = .returned v' ∧ OwnBs w' w.heap.size v' rows.flatten ∧ Below w.heap.size w w' := by
  obtain ⟨vs, hvl, hsl, hel⟩ := h
  obtain ⟨a, cap, rfl, hcap, hcm⟩ := hsl.form
  unfold maxLen at hcm
  have HSL := hI hsl
  have HEL := hI hel
  have HVL := hI hvl
  clear hsl hel hvl
  go_enter Try.func73, Try.ntmps73
  go_wp2
  go_loopw [3, 8] (fun o i wr => ∃ k : Nat, k ≤ rows.length ∧ i = .int .i64 k ∧ OwnBs wr w.heap.size o (rows.take k).flatten ∧ Below w.heap.size w wr) (fun _ i _ => rows.length - (intOf i).toNat)
  case atStart => exact ⟨0, Nat.zero_le _, rfl, Own.nil _ _ _ _ _, Below.refl _ _⟩
  case round =>
    obtain ⟨k, hk, rfl, hown, hbel⟩ := hrel
    have HO := hI hown
    clear hown
    have hsz := hbel.size
    have hfl := flatten_take_le rows (k + 1)
    by_cases hlt : k < rows.length
    · obtain ⟨b, off, rfl, hc⟩ := HSL.out.addr (by rw [HVL.out]; omega)
      have hk' : k < vs.length := by rw [HVL.out]; exact hlt
      have hrow : Bs wr vs[k] rows[k] := (HEL.out k _ _ (List.getElem?_eq_getElem hk') (List.getElem?_eq_getElem hlt)).below hbel
      have c0 : wr.cell? ⟨b, off + k, none⟩ = some vs[k] := below_cell hbel (hc k _ (List.getElem?_eq_getElem hk'))
      obtain ⟨L, hL⟩ : ∃ L, (rows.take k).flatten = L := ⟨_, rfl⟩
      have HL := hI hL
      rw [flatten_take_succ rows k hlt, List.length_append, hL] at hfl
      have hown := HO.out
      rw [hL] at hown
      have HOL := hI hown
      clear hL hown
      obtain ⟨ak, ck, hvk, _, _⟩ := hrow.form
      rw [hvk] at c0 hrow
      have HR := hI hrow
      clear hc hrow hvk
      go_wp2_with ((with_reducible show wpList _ _ _ (⟨some 14, _, _, _, _, _⟩ :: _) _ _); refine wpList_app rfl (.tmp 12) (.tmp 13) elBytes rfl w.heap.size HOL.out HR.out (by unfold maxLen; omega) (by omega) hsz ?_)
      intro v' w' h1 h2 h3
      have HO' : Hid (OwnBs w' w.heap.size v' (rows.take (k + 1)).flatten) := by
        refine hI ?_
        unfold OwnBs
        rw [flatten_take_succ rows k hlt, HL.out, List.length_append, bCells_append]
        exact h1
      have hb2 : Below w.heap.size w w' := hbel.trans (h2.below (by
        intro k' hk'
        rcases hk' with ⟨_, h⟩ | h <;> omega))
      clear h1 h2 h3
      go_wp2_with fail
      go_roundw
      case rel => exact ⟨k + 1, by omega, by go_num, HO'.out, hb2⟩
      case measure => simp [intOf]; omega
    · obtain rfl : k = rows.length := by omega
      have HO' := HO.out
      rw [List.take_length] at HO'
      have HO2 := hI HO'
      clear HO'
      go_wp2_with fail
      go_ret
      exact ⟨_, rfl, HO2.out, hbel⟩
/-- A value's first bytes. -/
def headS (k t : Int) (n : Nat) : List UInt8 :=
  if n < 128 then [UInt8.ofNat (k * 64 + t).toNat, UInt8.ofNat n] else UInt8.ofNat (k * 64 + t).toNat :: UInt8.ofNat (128 + (shortB n).length) :: shortB n
def bodyOf (k : Int) (n : Nat) (b ws : List UInt8) : List UInt8 := if k = 0 then shortB n else if k = 1 then b else ws
mutual
/-- A value's bytes. -/
def writeS : Tv → List UInt8
  | .mk k t n b l => headS k t (bodyOf k n b (writesS l)).length ++ bodyOf k n b (writesS l)
def writesS : List Tv → List UInt8
  | [] => []
  | x :: l => writeS x ++ writesS l
end
def bodyS (x : Tv) : List UInt8 := bodyOf x.kind x.n x.b (writesS x.l)
theorem writeS_eq (x : Tv) : writeS x = headS x.kind x.tag (bodyS x).length ++ bodyS x := by cases x; rfl
theorem writesS_snoc : ∀ (l : List Tv) (x : Tv), writesS (l ++ [x]) = writesS l ++ writeS x
  | [], x => by simp [writesS]
  | y :: l, x => by simp [writesS, writesS_snoc l x]
theorem writesS_take (l : List Tv) (k : Nat) (h : k < l.length) : writesS (l.take (k + 1)) = writesS (l.take k) ++ writeS l[k] := by
  rw [List.take_succ_eq_append_getElem h, writesS_snoc]
theorem writesS_append : ∀ (a b : List Tv), writesS (a ++ b) = writesS a ++ writesS b
  | [], b => rfl
  | x :: a, b => by simp [writesS, writesS_append a b]
theorem writesS_take_le (l : List Tv) (k : Nat) : (writesS (l.take k)).length ≤ (writesS l).length := by
  conv => rhs; rw [← List.take_append_drop k l, writesS_append]
  rw [List.length_append]
  omega
theorem writeS_mem_le (l : List Tv) (k : Nat) (h : k < l.length) : (writesS (l.take k)).length + (writeS l[k]).length ≤ (writesS l).length := by
  have := writesS_take_le l (k + 1)
  rw [writesS_take l k h, List.length_append] at this
  exact this
mutual
/-- Values that may be written: of the three kinds, tags to 30, numbers of 64 bits. -/
def OkW : Tv → Prop
  | .mk k t n b l => (k = 0 ∨ k = 1 ∨ k = 2) ∧ 0 ≤ t ∧ t ≤ 30 ∧ n < 18446744073709551616 ∧ OksW l
def OksW : List Tv → Prop
  | [] => True
  | x :: l => OkW x ∧ OksW l
end
theorem OksW.mem : ∀ {l : List Tv}, OksW l → ∀ x ∈ l, OkW x
  | [], _, x, hx => by simp at hx
  | y :: l, h, x, hx => by
    rcases List.mem_cons.1 hx with e | hx
    · rw [e]; exact h.1
    · exact h.2.mem x hx
theorem OksW.of : ∀ {l : List Tv}, (∀ x ∈ l, OkW x) → OksW l
  | [], _ => trivial
  | y :: l, h => ⟨h y (by simp), OksW.of (fun x hx => h x (by simp [hx]))⟩
theorem or64 : ∀ (k : Fin 3) (t : Fin 31), bits BinOp.or IntKind.i64 ((k.val : Int) * 64) (t.val : Int) = (k.val : Int) * 64 + t.val := by decide +kernel
theorem or_tag (k t : Int) (hk : k = 0 ∨ k = 1 ∨ k = 2) (h0 : 0 ≤ t) (h1 : t ≤ 30) : bits BinOp.or IntKind.i64 (k * 64) t = ((k * 64 + t).toNat : Int) := by
  have h := or64 ⟨k.toNat, by omega⟩ ⟨t.toNat, by omega⟩
  simp only [show (k.toNat : Int) = k by omega, show (t.toNat : Int) = t by omega] at h
  rw [h]
  omega
theorem shortB_few (n : Nat) : (shortB n).length ≤ 8 ∧ 0 < (shortB n).length := by
  have hs : ∀ l : List UInt8, 0 < l.length → (stripZ l).length ≤ l.length ∧ 0 < (stripZ l).length := by
    intro l
    induction l with
    | nil => intro h; simp at h
    | cons x l ih =>
      intro _
      cases l with
      | nil => simp [stripZ]
      | cons y l =>
        unfold stripZ
        split
        · have := ih (by simp)
          simp at this ⊢
          omega
        · simp
  have := hs (putB n) (by rw [putB_length]; decide)
  rw [putB_length] at this
  exact this
theorem Rs.two {W : World} {v1 v2 : Value} {r1 r2 : List UInt8} {T : TypeId} {g : Nat} (hg : W.heap.size = g) (h1 : Bs W v1 r1) (h2 : Bs W v2 r2) : Rs (W.alloc (.cells #[v1, v2] T)) (.slice (some ⟨g, 0, none⟩) 2 2) [r1, r2] := by
  subst hg
  obtain ⟨a1, c1, rfl, _⟩ := h1.form
  obtain ⟨a2, c2, rfl, _⟩ := h2.form
  refine ⟨[.slice a1 r1.length c1, .slice a2 r2.length c2], rfl, Sl.lit (n := 2) rfl rfl (by intro u hu; simp at hu; rcases hu with rfl | rfl <;> rfl) (by unfold maxLen; decide), fun j u r hu hr => ?_⟩
  match j with
  | 0 =>
    simp only [List.getElem?_cons_zero, Option.some.injEq] at hu hr
    subst hu hr
    exact h1.alloc _
  | 1 =>
    simp only [List.getElem?_cons_succ, List.getElem?_cons_zero, Option.some.injEq] at hu hr
    subst hu hr
    exact h2.alloc _
  | j + 2 => simp at hu
set_option maxRecDepth 100000 in
theorem derHead_any (k t : Int) (n : Nat) (w : World) (hk : k = 0 ∨ k = 1 ∨ k = 2) (h0 : 0 ≤ t) (h1 : t ≤ 30) (hn : n ≤ 1099511627776) :
    Calls Try.prog 74 #[.int .i64 k, .int .i64 t, .int .i64 n] w fun e w' => ∃ v, e = .returned v ∧ Bs w' v (headS k t n) ∧ Below w.heap.size w w' := by
  have hor := or_tag k t hk h0 h1
  obtain ⟨f, hf⟩ : ∃ f, f = (k * 64 + t).toNat := ⟨_, rfl⟩
  have hf3 : f < 256 := by omega
  rw [← hf] at hor
  have hk0 : 0 ≤ k := by omega
  have hk2 : k ≤ 2 := by omega
  by_cases hs : n < 128
  · have hs' : (n : Int) < 128 := by omega
    have HR : Hid (headS k t n = [UInt8.ofNat f, UInt8.ofNat n]) := hI (by unfold headS; rw [if_pos hs, ← hf])
    have hbs : ∀ W : World, Bs (W.alloc (.cells #[.int .u8 f, .int .u8 n] 5)) (.slice (some ⟨W.heap.size, 0, none⟩) 2 2) [UInt8.ofNat f, UInt8.ofNat n] := fun W =>
      Bs.lit [UInt8.ofNat f, UInt8.ofNat n] rfl (by simp [bCells, bV_ofNat _ hf3, bV_ofNat n (by omega)]) (by simp [maxLen])
    have HBS := hI hbs
    clear hs hf hbs hk
    go_enter Try.func74, Try.ntmps74
    go_wp2_with fail
    go_ret
    rw [HR.out]
    exact ⟨_, rfl, HBS.out _, (Below.refl _ _).alloc (Nat.le_refl _) _⟩
  · have hs' : ¬ (n : Int) < 128 := by omega
    have hsf := shortB_few n
    have HR : Hid (headS k t n = [UInt8.ofNat f, UInt8.ofNat (128 + (shortB n).length)] ++ shortB n) := hI (by unfold headS; rw [if_neg hs, ← hf]; rfl)
    have hlen : (128 : Int) + (shortB n).length = ((128 + (shortB n).length : Nat) : Int) := by omega
    have hbs : ∀ W : World, Bs (W.alloc (.cells #[.int .u8 f, .int .u8 (128 + ((shortB n).length : Int))] 5)) (.slice (some ⟨W.heap.size, 0, none⟩) 2 2) [UInt8.ofNat f, UInt8.ofNat (128 + (shortB n).length)] := fun W =>
      Bs.lit [UInt8.ofNat f, UInt8.ofNat (128 + (shortB n).length)] rfl (by rw [hlen]; simp only [bCells, List.map_cons, List.map_nil, bV_ofNat _ hf3, bV_ofNat (128 + (shortB n).length) (by omega)]) (by simp [maxLen])
    have HBS := hI hbs
    clear hs hf hbs hk hlen
    go_enter Try.func74, Try.ntmps74
    go_wp2_with fail
    refine (short_any n w).mono ?_
    rintro e w1 ⟨v1, rfl, hb1, hB1, _⟩
    obtain ⟨a1, c1, rfl, hc1, hm1⟩ := hb1.form
    have HB1 := hI hb1
    have HBW := hI hB1
    have hz1 := hB1.size
    have HRS := hI (Rs.two (T := 40) (g := w1.heap.size + 1) (by simp) (HBS.out w1) (hb1.alloc (.cells #[.int .u8 f, .int .u8 (128 + ((shortB n).length : Int))] 5)))
    unfold maxLen at hm1
    generalize hsb : shortB n = sb at *
    clear hb1 hB1 hsb
    go_wp2_with fail
    refine (joined_any _ _ _ HRS.out (by simp; omega)).mono ?_
    rintro e w2 ⟨v2, rfl, ho2, hb2⟩
    have HO := hI ho2
    have HB2 : Hid (Below w.heap.size w w2) := hI (((HBW.out.alloc hz1 _).alloc (by simp; omega) _).trans (hb2.mono (by simp; omega)))
    clear ho2 hb2
    go_wp2_with fail
    go_ret
    rw [HR.out]
    refine ⟨_, rfl, ?_, HB2.out⟩
    have := HO.out.bs
    simpa using this
def WrRes (w : World) (bs : List UInt8) (e : Ending) (w' : World) : Prop := ∃ v, e = .returned v ∧ OwnBs w' w.heap.size v bs ∧ Below w.heap.size w w'
def BdRes (w : World) (bs : List UInt8) (e : Ending) (w' : World) : Prop := ∃ v, e = .returned v ∧ Bs w' v bs ∧ Below w.heap.size w w'
/-- What is asked of the write of a value. -/
def WrP (x : Tv) : Prop := ∀ (F : Nat → Prop) (cs : List Value) (w : World), TvF w F x cs → OkW x → (writeS x).length ≤ 1073741824 →
  Calls Try.prog 58 #[.agg cs.toArray] w (WrRes w (writeS x))
set_option maxHeartbeats 4000000 in
set_option maxRecDepth 100000 in
theorem derBody_any (x : Tv) (ih : ∀ y ∈ x.l, WrP y) (F : Nat → Prop) (cs : List Value) (w : World) (h : TvF w F x cs) (ok : OkW x) (hlen : (bodyS x).length ≤ 1073741824) :
    Calls Try.prog 72 #[.agg cs.toArray] w (BdRes w (bodyS x)) := by
  obtain ⟨bv, lv, rows, rfl, hb, _, hl, _, hls⟩ := h.open_
  obtain ⟨k, t, n, b, l⟩ := x
  simp only [bodyS, Tv.kind, Tv.tag, Tv.n, Tv.b, Tv.l] at *
  obtain ⟨hk, ht0, ht1, hn, hol⟩ := ok
  obtain ⟨ab, cb, rfl, hcb, hmb⟩ := hb.form
  obtain ⟨al, cl, rfl, hcl, hml⟩ := hl.form
  unfold maxLen at hmb hml
  have HL := hI hl
  have HLS := hI hls
  have HBS := hI hb
  have HIH := hI ih
  have HOL := hI hol
  have HLEN := hI hlen
  clear h hb hl hls ih hol hlen
  rcases hk with rfl | rfl | rfl
  · have HR : Hid (bodyOf 0 n b (writesS l) = shortB n) := hI rfl
    go_enter Try.func72, Try.ntmps72
    go_wp2_with fail
    refine (short_any n _).mono ?_
    rintro e w1 ⟨v1, rfl, hb1, hB1, _⟩
    have HB1 := hI hb1
    have HBW : Hid (Below w.heap.size w w1) := hI (((Below.refl _ _).alloc (Nat.le_refl _) _).trans (hB1.mono (by simp)))
    clear hb1 hB1
    go_wp2_with fail
    go_ret
    rw [HR.out]
    exact ⟨_, rfl, HB1.out, HBW.out⟩
  · have HR : Hid (bodyOf 1 n b (writesS l) = b) := hI rfl
    go_enter Try.func72, Try.ntmps72
    go_wp2_with fail
    go_ret
    rw [HR.out]
    exact ⟨_, rfl, HBS.out.alloc _, (Below.refl _ _).alloc (Nat.le_refl _) _⟩
  · have HR : Hid (bodyOf 2 n b (writesS l) = writesS l) := hI rfl
    have hlen := HLEN.out
    rw [HR.out] at hlen
    have HLEN := hI hlen
    have HBB : Hid (Below w.heap.size w (w.alloc (.cells #[.int .i64 2, .int .i64 t, .int .u64 n, .slice ab b.length cb, .slice al l.length cl] 76))) := hI ((Below.refl _ _).alloc (Nat.le_refl _) _)
    clear hlen
    go_enter Try.func72, Try.ntmps72
    go_wp2_with fail
    go_loopw [3, 20] (fun o i wr => ∃ k : Nat, k ≤ l.length ∧ i = .int .i64 k ∧ OwnBs wr w.heap.size o (writesS (l.take k)) ∧ Below w.heap.size w wr) (fun _ i _ => l.length - (intOf i).toNat)
    case atStart => exact ⟨0, Nat.zero_le _, rfl, Own.nil _ _ _ _ _, HBB.out⟩
    case round =>
      obtain ⟨j, hj, rfl, hown, hB⟩ := hrel
      have HB := hI hB
      have HO := hI hown
      have hzr := hB.size
      by_cases hlt : j < l.length
      · obtain ⟨bl, ol, rfl, _⟩ := HL.out.addr (by rw [HL.out.1]; omega)
        obtain ⟨r, hr, hrc⟩ := HLS.out.cells HL.out j hlt
        have hcr : CellsAt wr bl (ol + j * 5) r := fun i u hi => below_cell hB (hrc i u hi)
        have hst := writesS_take l j hlt
        have hle := writeS_mem_le l j hlt
        have hji : (j : Int) < l.length := by omega
        have hih := HIH.out l[j] (List.getElem_mem hlt)
        have hok := HOL.out.mem l[j] (List.getElem_mem hlt)
        generalize l[j] = y at hr hst hle hih hok
        have hrl := hr.length
        have HR1 := hI hr.one
        have HRL := hI hrl
        have HCR := hI hcr
        have HRT := hI (hr.below hB)
        have HST := hI hst
        have HLE := hI hle
        have HIHy := hI hih
        have HOKy := hI hok
        have HN := hI (Blk.new wr zs5 76)
        clear hr hrc hcr hst hle hrl hB hown hih hok
        go_wp2_with (first | ((with_reducible show wpList _ _ _ (⟨some 23, _, _, _, _, _⟩ :: _) _ _); refine wpList_ldAgg rfl (.tmp 22) aggDer rfl rfl (cs := r) HRL.out HCR.out ?_) | ((with_reducible show wpList _ _ _ (⟨none, .store _ (.tmp 5) (.tmp 23), _, _, _, _⟩ :: _) _ _); refine wpList_stAgg rfl (.tmp 5) (.tmp 23) aggDer rfl rfl (vs := r) rfl HRL.out HN.out (Nat.le_refl _) HR1.out ?_))
        intro w3 h3 k3
        have h3' : Blk w3 wr.heap.size r 76 := by
          rw [List.drop_of_length_le (by decide), List.append_nil] at h3
          exact h3
        have hz3 := k3.size
        simp at hz3
        have hb3 : Below wr.heap.size wr w3 := ((Below.refl _ _).alloc (Nat.le_refl _) _).trans (k3.below (by omega))
        have H3 := hI h3'
        have HB3 : Hid (Below w.heap.size w w3) := hI (HB.out.trans (hb3.mono hzr))
        have HO3 := hI (Own.below HO.out hb3)
        have HCALL := hI (HIHy.out F r w3 (HRT.out.below hb3) HOKy.out (by have := HLEN.out; have := HLE.out; omega))
        clear h3 h3' k3 hb3 HN HRT HCR HO HB
        go_wp2_with ((with_reducible show wpList _ _ _ (⟨some 25, _, _, _, _, _⟩ :: _) _ _); refine wpList_ldAgg rfl (.tmp 5) aggDer rfl rfl (cs := r) HRL.out H3.out.cellsAll ?_)
        refine HCALL.out.mono ?_
        rintro e w4 ⟨v4, rfl, ho4, hb4⟩
        have hz4 := hb4.size
        have HB4 : Hid (Below w.heap.size w w4) := hI (HB3.out.trans (hb4.mono (by omega)))
        have HO4 := hI (Own.below HO3.out hb4)
        have HS4 := hI ho4.sl
        have hl1 := HLE.out
        have hl2 := HLEN.out
        have hle' : (writesS (l.take j)).length + (writeS y).length ≤ 1073741824 := by omega
        clear ho4 hb4 HCALL HO3 HB3 H3 hl1 hl2
        go_wp2_with ((with_reducible show wpList _ _ _ (⟨some 27, _, _, _, _, _⟩ :: _) _ _); refine wpList_app rfl (.tmp 24) (.tmp 26) elBytes rfl w.heap.size HO4.out HS4.out (by unfold maxLen; omega) (by omega) (by omega) ?_)
        intro v5 w5 ho5 hk5 hv5
        have HB5 : Hid (Below w.heap.size w w5) := hI (HB4.out.trans (hk5.below (by rintro b (h | h); exact h.2; omega)))
        have HO5 : Hid (OwnBs w5 w.heap.size v5 (writesS (l.take (j + 1)))) := hI (by
          rw [HST.out]
          unfold OwnBs
          rw [bCells_append, List.length_append]
          exact ho5)
        clear ho5 hk5 hv5 HO4 HS4 HB4
        go_wp2_with fail
        go_roundw
        case rel => exact ⟨j + 1, by omega, by go_num, HO5.out, HB5.out⟩
        case measure => simp [intOf]; omega
      · obtain rfl : j = l.length := by omega
        rw [List.take_length] at hown
        have HO := hI hown
        clear hown
        go_wp2_with fail
        go_ret
        rw [HR.out]
        exact ⟨_, rfl, HO.out.bs, HB.out⟩
set_option maxHeartbeats 4000000 in
set_option maxRecDepth 100000 in
theorem derWrite_any : ∀ x : Tv, WrP x := by
  refine tv_ind (fun k t n b l ih => ?_)
  intro F cs w h ok hlen
  have hw := writeS_eq (.mk k t n b l)
  have hbl : (bodyS (.mk k t n b l)).length ≤ 1073741824 := by rw [hw, List.length_append] at hlen; omega
  have HBODY := hI (derBody_any (.mk k t n b l) ih F cs (w.alloc (.cells cs.toArray 76)) (h.below ((Below.refl _ _).alloc (Nat.le_refl _) _)) ok hbl)
  have hcl := h.length
  have HCL := hI hcl
  have HN := hI (Blk.new w cs 76)
  obtain ⟨bv, lv, rows, hcs, _⟩ := h.open_
  obtain ⟨hk, ht0, ht1, hn, hol⟩ := ok
  have x0 : ∀ W : World, Blk W w.heap.size cs 76 → W.cell? ⟨w.heap.size, 0, none⟩ = some (.int .i64 k) ∧ W.cell? ⟨w.heap.size, 1, none⟩ = some (.int .i64 t) := fun W hW => by
    rw [hW.cell, hW.cell, hcs]
    exact ⟨rfl, rfl⟩
  have HX0 := hI x0
  have HW := hI hw
  have HLEN := hI hlen
  simp only [Tv.kind, Tv.tag] at HW
  generalize bodyS (.mk k t n b l) = bd at HBODY hbl HW
  clear h hol x0 hw hlen ih hcl hcs
  go_enter Try.func58, Try.ntmps58
  go_wp2_with ((with_reducible show wpList _ _ _ (⟨some 4, _, _, _, _, _⟩ :: _) _ _); refine wpList_ldAgg rfl (.tmp 1) aggDer rfl rfl (cs := cs) HCL.out HN.out.cellsAll ?_)
  refine HBODY.out.mono ?_
  rintro e w1 ⟨v1, rfl, hb1, hB1⟩
  have hz1 := hB1.size
  simp at hz1
  obtain ⟨a1, c1, rfl, hc1, hm1⟩ := hb1.form
  obtain ⟨y0, y1⟩ := HX0.out w1 (HN.out.below hB1 (by simp))
  have HB1 := hI hb1
  have HBW : Hid (Below w.heap.size w w1) := hI (((Below.refl _ _).alloc (Nat.le_refl _) _).trans (hB1.mono (by simp)))
  unfold maxLen at hm1
  clear hb1 hB1 HBODY
  go_wp2_with fail
  refine (derHead_any k t bd.length w1 hk ht0 ht1 (by omega)).mono ?_
  rintro e w2 ⟨v2, rfl, hb2, hB2⟩
  have hz2 := hB2.size
  obtain ⟨a2, c2, rfl, hc2, hm2⟩ := hb2.form
  have HRS := hI (Rs.two (T := 40) (g := w2.heap.size) rfl hb2 (HB1.out.below hB2))
  have HBW2 : Hid (Below w.heap.size w w2) := hI (HBW.out.trans (hB2.mono (by omega)))
  have hlen := HLEN.out
  rw [HW.out, List.length_append] at hlen
  generalize headS k t bd.length = hd at *
  clear hb2 hB2 HB1 HBW y0 y1
  go_wp2_with fail
  refine (joined_any _ _ _ HRS.out (by simp; omega)).mono ?_
  rintro e w3 ⟨v3, rfl, ho3, hb3⟩
  have HO : Hid (OwnBs w3 w.heap.size v3 (hd ++ bd)) := hI (by
    have := ho3.base (B' := w.heap.size) (by simp; omega)
    simpa [OwnBs] using this)
  have HB3 : Hid (Below w.heap.size w w3) := hI ((HBW2.out.alloc (by omega) _).trans (hb3.mono (by simp; omega)))
  clear ho3 hb3
  go_wp2_with fail
  go_ret
  rw [HW.out]
  exact ⟨_, rfl, HO.out, HB3.out⟩
mutual
/-- Every number has 64 bits. -/
def Nw : Tv → Prop
  | .mk _ _ n _ l => n < 18446744073709551616 ∧ NsW l
def NsW : List Tv → Prop
  | [] => True
  | x :: l => Nw x ∧ NsW l
end
theorem NsW.mem : ∀ {l : List Tv}, NsW l → ∀ x ∈ l, Nw x
  | [], _, x, hx => by simp at hx
  | y :: l, h, x, hx => by
    rcases List.mem_cons.1 hx with e | hx
    · rw [e]; exact h.1
    · exact h.2.mem x hx
theorem NsW.of : ∀ {l : List Tv}, (∀ x ∈ l, Nw x) → NsW l
  | [], _ => trivial
  | y :: l, h => ⟨h y (by simp), NsW.of (fun x hx => h x (by simp [hx]))⟩
theorem rightS_ok : ∀ (d : Nat) (x : Tv), rightS d x = true → Nw x → OkW x
  | 0, x, h, _ => by simp [rightS] at h
  | d + 1, .mk k t n b l, h, hn => by
    unfold rightS at h
    simp only [Bool.and_eq_true, decide_eq_true_eq] at h
    obtain ⟨⟨h1, h2⟩, h3⟩ := h
    split at h3
    · rename_i hk
      simp only [Bool.and_eq_true, decide_eq_true_eq] at h3
      refine ⟨.inl hk, h1, h2, hn.1, ?_⟩
      rw [List.eq_nil_of_length_eq_zero h3.2]
      trivial
    · split at h3
      · rename_i hk
        simp only [Bool.and_eq_true, decide_eq_true_eq] at h3
        refine ⟨.inr (.inl hk), h1, h2, hn.1, ?_⟩
        rw [List.eq_nil_of_length_eq_zero h3.2]
        trivial
      · split at h3
        · rename_i hk
          simp only [Bool.and_eq_true, decide_eq_true_eq] at h3
          exact ⟨.inr (.inr hk), h1, h2, hn.1, OksW.of (fun x hx => rightS_ok d x (List.all_eq_true.1 h3.1.1 x hx) (hn.2.mem x hx))⟩
        · simp at h3
/-- A value's bytes, and the error's number. -/
def wrS (x : Tv) : List UInt8 × Int := if rightS 8 x = false then ([], 7) else if 4096 < (writeS x).length then ([], 20) else (writeS x, 0)
end Go.Proofs.Ytiplepdmkbiehaa
/- Contracts of der: Num, Raw, Seq; the law's alive. -/
namespace Go.Proofs.Ytiplepdmkbiehaa
set_option linter.unusedSimpArgs false
set_option linter.unusedVariables false
open Go.RowKit
set_option maxRecDepth 100000 in
theorem derNum_any (n : Nat) (w : World) : Calls Try.prog 26 #[.int .u64 n] w fun e w' => e = .returned (.agg #[.int .i64 0, .int .i64 0, .int .u64 n, .slice none 0 0, .slice none 0 0]) ∧ Below w.heap.size w w' := by
  go_enter Try.func26, Try.ntmps26
  go_wp2_with fail
  have hb := Blk.new w [.int .i64 0, .int .i64 0, .int .u64 n, .slice none 0 0, .slice none 0 0] 76
  exact bodyPost_ret (results_agg rfl aggDer rfl (cs := [.int .i64 0, .int .i64 0, .int .u64 n, .slice none 0 0, .slice none 0 0]) rfl hb.cellsAll) rfl ⟨rfl, (Below.refl _ _).alloc (Nat.le_refl _) _⟩
set_option maxRecDepth 100000 in
theorem derSeq_any (t : Int) (lv : Value) (n c : Nat) (a : Option Addr) (hlv : lv = .slice a n c) (w : World) : Calls Try.prog 42 #[.int .i64 t, lv] w fun e w' => e = .returned (.agg #[.int .i64 2, .int .i64 t, .int .u64 0, .slice none 0 0, lv]) ∧ Below w.heap.size w w' := by
  subst hlv
  go_enter Try.func42, Try.ntmps42
  go_wp2_with fail
  have hb := Blk.new w [.int .i64 2, .int .i64 t, .int .u64 0, .slice none 0 0, .slice a n c] 76
  exact bodyPost_ret (results_agg rfl aggDer rfl (cs := [.int .i64 2, .int .i64 t, .int .u64 0, .slice none 0 0, .slice a n c]) rfl hb.cellsAll) rfl ⟨rfl, (Below.refl _ _).alloc (Nat.le_refl _) _⟩
set_option maxRecDepth 100000 in
theorem derRaw_any (v : Value) (b : List UInt8) (w : World) (h : Bs w v b) (hl : b.length ≤ 1099511627776) :
    Calls Try.prog 27 #[v] w fun e w' => ∃ v', e = .returned (.agg #[.int .i64 1, .int .i64 0, .int .u64 0, v', .slice none 0 0]) ∧ Bs w' v' b ∧ Below w.heap.size w w' := by
  obtain ⟨a, c, rfl, hc, hm⟩ := h.form
  have HA := hI (h.alloc (.cells zs5.toArray 76))
  have HN := hI (Blk.new w zs5 76)
  have HB0 : Hid (Below w.heap.size w (w.alloc (.cells zs5.toArray 76))) := hI ((Below.refl _ _).alloc (Nat.le_refl _) _)
  clear h
  go_enter Try.func27, Try.ntmps27
  go_wp2_with ((with_reducible show wpList _ _ _ (⟨some 4, _, _, _, _, _⟩ :: _) _ _); refine wpList_app2 rfl (.const (.slice none 0 0)) (.tmp 3) elBytes rfl w.heap.size (Own.nil _ _ _ _ _) (by simp [Act.eval, Value.ownBlock]) HA.out (by unfold maxLen; omega) (by omega) (by simp) ?_)
  intro v1 w1 ho1 hk1 hv1
  have hz1 := hk1.size
  simp at hz1
  have hb1 : Below w.heap.size w w1 := HB0.out.trans (hk1.below (by rintro x (h | h) <;> (try simp [Value.ownBlock] at h) <;> omega))
  have hr1 : Blk w1 w.heap.size zs5 76 := HN.out.keep hk1 (by rintro (h | h) <;> (try simp [Value.ownBlock] at h) <;> omega)
  have hvb : ∀ x, v1.ownBlock = some x → w.heap.size + 1 ≤ x := fun x hx => by
    rcases (hv1 x hx).1 with h | h
    · simp [Value.ownBlock] at h
    · try simp at h
      omega
  obtain ⟨a1, c1, rfl, _⟩ := ho1.sl.form
  have HR1 := hI hr1
  have HB1 := hI hb1
  have HS1 : Hid (Bs w1 (.slice a1 b.length c1) b) := hI ho1.sl
  have HVB := hI hvb
  clear ho1 hk1 hv1 hb1 hr1 hvb
  go_wp2_with ((with_reducible show wpList _ _ _ (⟨none, .store _ (.tmp 2) (.tmp 5), _, _, _, _⟩ :: _) _ _); refine wpList_stAgg rfl (.tmp 2) (.tmp 5) aggDer rfl rfl (vs := [.int .i64 1, .int .i64 0, .int .u64 0, .slice a1 b.length c1, .slice none 0 0]) rfl rfl HR1.out (Nat.le_refl _) (by intro u hu; simp at hu; rcases hu with rfl | rfl | rfl | rfl | rfl <;> rfl) ?_)
  intro w2 h2 k2
  have h2' : Blk w2 w.heap.size [.int .i64 1, .int .i64 0, .int .u64 0, .slice a1 b.length c1, .slice none 0 0] 76 := by simpa [zs5] using h2
  have H2 := hI h2'
  have HB2 : Hid (Below w.heap.size w w2) := hI (HB1.out.trans (k2.below (by omega)))
  have HS2 : Hid (Bs w2 (.slice a1 b.length c1) b) := hI (Sl.keep HS1.out k2 (fun x hx e => by have := HVB.out x hx; omega))
  clear h2 h2' k2
  go_wp2_with fail
  exact bodyPost_ret (results_agg rfl aggDer rfl (cs := [.int .i64 1, .int .i64 0, .int .u64 0, .slice a1 b.length c1, .slice none 0 0]) rfl H2.out.cellsAll) rfl ⟨_, rfl, HS2.out, HB2.out⟩
end Go.Proofs.Ytiplepdmkbiehaa
namespace Go.Proofs.Ytiplepdmkbiehaa
set_option linter.unusedSimpArgs false
set_option linter.unusedVariables false
open Go.RowKit
def WtResO (w : World) (r : List UInt8 × Int) (e : Ending) (w' : World) : Prop := ∃ v, e = .returned (.tuple #[v, .int .i64 r.2]) ∧ OwnBs w' w.heap.size v r.1 ∧ Below w.heap.size w w'
set_option maxHeartbeats 4000000 in
set_option maxRecDepth 100000 in
theorem derWriteO_any (x : Tv) (F : Nat → Prop) (cs : List Value) (w : World) (h : TvF w F x cs) (hn : Nw x) (hlen : rightS 8 x = true → (writeS x).length ≤ 1073741824) :
    Calls Try.prog 41 #[.agg cs.toArray] w (WtResO w (wrS x)) := by
  have hcl := h.length
  have HCL := hI hcl
  have HN := hI (Blk.new w cs 76)
  have HT := hI h
  have HR := hI (derRightIt_any x F cs (w.alloc (.cells cs.toArray 76)) (h.below ((Below.refl _ _).alloc (Nat.le_refl _) _)))
  have HNW := hI hn
  have HLEN := hI hlen
  clear h hcl hn hlen
  go_enter Try.func41, Try.ntmps41
  go_wp2_with ((with_reducible show wpList _ _ _ (⟨some 5, _, _, _, _, _⟩ :: _) _ _); refine wpList_ldAgg rfl (.tmp 1) aggDer rfl rfl (cs := cs) HCL.out HN.out.cellsAll ?_)
  refine HR.out.mono ?_
  rintro e w1 ⟨rfl, hb1⟩
  have hz1 := hb1.size
  simp at hz1
  have hba : Below w.heap.size w w1 := ((Below.refl _ _).alloc (Nat.le_refl _) _).trans (hb1.mono (by simp))
  have HB1 := hI hba
  have HN1 := hI (HN.out.below hb1 (by simp))
  have HT1 := hI (HT.out.below hba)
  clear hb1 hba HR
  obtain ⟨r, hr⟩ : ∃ r, r = rightS 8 x := ⟨_, rfl⟩
  rw [← hr]
  cases r with
  | false =>
    have HS : Hid (wrS x = ([], 7)) := hI (by unfold wrS; rw [if_pos hr.symm])
    clear hr
    go_wp2_with fail
    go_ret2
    rw [HS.out]
    exact ⟨_, rfl, Own.nil _ _ _ _ _, HB1.out⟩
  | true =>
    have hlen := HLEN.out hr.symm
    have HC := hI (derWrite_any x F cs w1 HT1.out (rightS_ok 8 x hr.symm HNW.out) hlen)
    have hS : wrS x = if 4096 < (writeS x).length then ([], 20) else (writeS x, 0) := by unfold wrS; rw [if_neg (by rw [← hr]; decide)]
    have HS0 := hI hS
    clear hr hS
    generalize writeS x = bs at HC HS0 hlen
    go_wp2_with ((with_reducible show wpList _ _ _ (⟨some 8, _, _, _, _, _⟩ :: _) _ _); refine wpList_ldAgg rfl (.tmp 1) aggDer rfl rfl (cs := cs) HCL.out HN1.out.cellsAll ?_)
    refine HC.out.mono ?_
    rintro e w2 ⟨v2, rfl, ho2, hb2⟩
    obtain ⟨a2, c2, rfl, hc2, hm2⟩ := ho2.sl.form
    have HO : Hid (OwnBs w2 w.heap.size (.slice a2 bs.length c2) bs) := hI (ho2.base (by omega))
    have HB2 : Hid (Below w.heap.size w w2) := hI (HB1.out.trans (hb2.mono (by omega)))
    unfold maxLen at hm2
    clear ho2 hb2 HC
    by_cases hl : 4096 < bs.length
    · have hl' : (4096 : Int) < bs.length := by omega
      have HS : Hid (wrS x = ([], 20)) := hI (by rw [HS0.out, if_pos hl])
      clear hl
      go_wp2_with fail
      go_ret2
      rw [HS.out]
      exact ⟨_, rfl, Own.nil _ _ _ _ _, HB2.out⟩
    · have hl' : ¬ (4096 : Int) < bs.length := by omega
      have HS : Hid (wrS x = (bs, 0)) := hI (by rw [HS0.out, if_neg hl])
      clear hl
      go_wp2_with fail
      go_ret2
      rw [HS.out]
      exact ⟨_, rfl, HO.out, HB2.out⟩
end Go.Proofs.Ytiplepdmkbiehaa
