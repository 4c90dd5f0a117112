/- Texts of this proof, one behind the other: DerRead, Same, Ref01, Ref01b. -/
import Derived.Test.YtpjkidcfidmfaaaMwB1
import Derived.Deep.DeepCutAuto
import Derived.Outline
namespace Go.Proofs.Ytpjkidcfidmfaaa
set_option linter.unusedSimpArgs false
set_option linter.unusedVariables false
open Go.RowKit
theorem results_agg_tmp2 {P : Program} {fn : Func} {p u u' : Tmp} {ty : TypeId} {m : Nat} (hr : fn.results = #[.cell p ty, .tmp u, .tmp u']) (hT : AggTy P ty m) {tmps : Array Value} {w : World} {b o : Nat} (hp : tmps.getD p undef = .pointer (some ⟨b, o, none⟩)) {cs : List Value} (hm : cs.length = m) (hc : CellsAt w b o cs) :
    (results fn tmps).run P w = .ok (.tuple #[.agg cs.toArray, tmps.getD u undef, tmps.getD u' undef]) w := by
  have hp' : tmps[p]?.getD undef = .pointer (some ⟨b, o, none⟩) := by simpa using hp
  simp [results, hr, hp', asAddr, run_ldAgg hT hm hc]
theorem aggDer : AggTy Try.prog 38 5 := AggTy.mk Try.underlying38 rfl (by kernel_rfl)
theorem elDer : Elem Try.prog 36 38 5 72 (.agg #[.int .i64 0, .int .i64 0, .int .u64 0, .slice none 0 0, .slice none 0 0]) := by
  refine Elem.mk Try.underlying36 ?_ rfl (by decide)
  kernel_rfl
def zs5 : List Value := [.int .i64 0, .int .i64 0, .int .u64 0, .slice none 0 0, .slice none 0 0]
theorem zs5_one : ∀ u ∈ zs5, u.oneCell' = true := by intro u hu; simp [zs5] at hu; rcases hu with rfl | rfl | rfl | rfl | rfl <;> rfl
theorem der_zero : Try.prog.built 38 [] = some zs5.toArray := by kernel_rfl
def RdRes (w : World) (r : Tv × Nat × Int) (e : Ending) (w' : World) : Prop :=
  ∃ cs : List Value, e = .returned (.tuple #[.agg cs.toArray, .int .i64 r.2.1, .int .i64 r.2.2]) ∧ TvF w' (fun x => w.heap.size ≤ x ∧ x < w'.heap.size) r.1 cs ∧ Below w.heap.size w w'
def sliceLen : Value → Nat
  | .slice _ n _ => n
  | _ => 0
def LS (d : Nat) (b : List UInt8) : List Tv × Int := listS (readS d) b.length b
theorem LS_nil (d : Nat) : LS d [] = ([], 0) := rfl
theorem LS_ok {d : Nat} {b : List UInt8} {x : Tv} {k : Nat} (hb : b ≠ []) (h : readS d b = (x, k, 0)) : LS d b = (x :: (LS d (b.drop k)).1, (LS d (b.drop k)).2) := by
  have hk := readS_takes d _ _ _ h
  unfold LS
  obtain ⟨n, hn⟩ : ∃ n, b.length = n + 1 := ⟨b.length - 1, by have := List.length_pos_iff.2 hb; omega⟩
  rw [hn, listS_ok hb h, listS_fuel (readS_takes d) n (b.drop k).length _ (by rw [List.length_drop]; omega) (Nat.le_refl _)]
theorem LS_bad {d : Nat} {b : List UInt8} {x : Tv} {k : Nat} {e : Int} (hb : b ≠ []) (h : readS d b = (x, k, e)) (he : e ≠ 0) : LS d b = ([], e) := by
  unfold LS
  obtain ⟨n, hn⟩ : ∃ n, b.length = n + 1 := ⟨b.length - 1, by have := List.length_pos_iff.2 hb; omega⟩
  rw [hn, listS_bad hb h he]
structure DL (w : World) (r : Nat) (d : Nat) (T : Int) (body : List UInt8) (inv : Value) (wr : World) (rest : List UInt8) (acc : List Tv) (lv : Value) (rows : List Value) (F : Nat → Prop) : Prop where
  bs : Bs w inv rest
  ls : LS d body = (acc ++ (LS d rest).1, (LS d rest).2)
  few : acc.length + rest.length ≤ body.length
  q : Blk wr (r + 1) [.int .i64 2, .int .i64 T, .int .u64 0, .slice none 0 0, lv] 38
  z : Blk wr r zs5 38
  own : Own wr (r + 2) 38 5 lv acc.length rows
  tvs : TvsF wr F acc rows
  f : ∀ x, F x → r + 2 ≤ x ∧ x < wr.heap.size ∧ lv.ownBlock ≠ some x
  v : ∀ x, lv.ownBlock = some x → r + 2 ≤ x ∧ x < wr.heap.size
  below : Below r w wr
  size : r + 2 ≤ wr.heap.size
set_option maxHeartbeats 4000000 in
set_option maxRecDepth 100000 in
theorem derRead_any : ∀ (d : Nat) (D : Int) (v : Value) (b : List UInt8) (w : World), D = 9 - (d : Int) → d ≤ 8 → Bs w v b → b.length ≤ 1048576 →
    Calls Try.prog 33 #[v, .int .i64 D] w (RdRes w (readS d b)) := by
  intro d
  induction d with
  | zero =>
    intro D v b w hD hd h hbl
    have hD' : (8 : Int) < D := by omega
    have HZ := hqZ der_zero
    have HN := hqZ (Blk.new w zs5 38)
    have HR : Hid (readS 0 b = (.zero, 0, 4)) := hqZ rfl
    clear hD
    go_enter Try.func33, Try.ntmps33
    go_wp2_with (first | ((with_reducible show wpList _ _ _ (⟨some 19, _, _, _, _, _⟩ :: _) _ _); refine wpList_bld rfl rfl HZ.out ?_) | ((with_reducible show wpList _ _ _ (⟨none, .store _ (.tmp 4) (.tmp 19), _, _, _, _⟩ :: _) _ _); refine wpList_stAgg rfl (.tmp 4) (.tmp 19) aggDer rfl rfl (vs := zs5) rfl rfl HN.out (Nat.le_refl _) zs5_one ?_))
    intro w2 h2 k2
    have h2' : Blk w2 w.heap.size zs5 38 := by simpa [zs5] using h2
    have H2 := hqZ h2'
    have HB2 : Hid (Below w.heap.size w w2) := hqZ (((Below.refl _ _).alloc (Nat.le_refl _) _).trans (k2.below (by omega)))
    clear h2 h2' k2
    go_wp2_with fail
    rw [HR.out]
    exact bodyPost_ret (results_agg_tmp2 rfl aggDer rfl (cs := zs5) rfl H2.out.cellsAll) rfl ⟨zs5, rfl, TvF.zero _ _, HB2.out⟩
  | succ d ih =>
    intro D v b w hD hd h hbl
    have hD' : ¬ (8 : Int) < D := by omega
    have HD := hqZ hD
    have HIH := hqZ ih
    have HZ := hqZ der_zero
    have HN := hqZ (Blk.new w zs5 38)
    have HS := hqZ (derSize_any v b (w.alloc (.cells zs5.toArray 38)) (h.alloc _))
    clear hD ih
    obtain ⟨n, at', e0, hs⟩ : ∃ n at' e, sizeS b = (n, at', e) := ⟨_, _, _, rfl⟩
    rw [hs] at HS
    go_enter Try.func33, Try.ntmps33
    go_wp2_with fail
    refine HS.out.mono ?_
    rintro e w' ⟨rfl, hw'⟩
    rw [← hw']
    clear hw'
    by_cases he : e0 = 0
    · have he' : (e0 != 0) = false := by simp [he]
      subst he
      obtain ⟨hat2, hatn, hat4⟩ := sizeS_ok hs
      obtain ⟨a, cap, rfl, hcap, hcm⟩ := h.form
      have hmx := hcm
      unfold maxLen at hcm
      obtain ⟨bb, off, rfl, hc⟩ := h.addr (by rw [bCells_length]; omega)
      have hb0 : b[0]'(by omega) = b.getD 0 0 := by rw [List.getD_eq_getElem?_getD, List.getElem?_eq_getElem (by omega)]; rfl
      have hlt := (b.getD 0 0).toNat_lt
      have hR : readS (d + 1) b = if 2 < (b.getD 0 0).toNat / 64 ∨ 30 < (b.getD 0 0).toNat % 64 then (.zero, 0, 2)
          else if (b.getD 0 0).toNat / 64 = 0 then
            (if (getB ((b.drop at').take n)).2 = false ∨ (1 < n ∧ (b.drop at').getD 0 0 = 0) then (.zero, 0, 4)
             else (.mk 0 ((b.getD 0 0).toNat % 64 : Nat) (getB ((b.drop at').take n)).1 [] [], at' + n, 0))
          else if (b.getD 0 0).toNat / 64 = 1 then (.mk 1 ((b.getD 0 0).toNat % 64 : Nat) 0 ((b.drop at').take n) [], at' + n, 0)
          else match listS (readS d) n ((b.drop at').take n) with
            | (l, e) => if e = 0 then (.mk 2 ((b.getD 0 0).toNat % 64 : Nat) 0 [] l, at' + n, 0) else (.zero, 0, e) := by
        rw [readS, hs]
        simp only
        rw [if_neg (by decide)]
      have c0 : (w.alloc (.cells zs5.toArray 38)).drew.cell? ⟨bb, off, none⟩ = some (.int .u8 (b.getD 0 0).toNat) := by
        rw [← hb0]
        exact below_cell (((Below.refl _ _).alloc (Nat.le_refl _) (.cells zs5.toArray 38)).drew) (hc 0 _ (bCells_get b 0 (by omega)))
      have c0' : ((w.alloc (.cells zs5.toArray 38)).alloc (.cells #[.int .i64 0, .int .i64 0, .int .u64 0, .slice none 0 0, .slice none 0 0] 38)).drew.cell? ⟨bb, off, none⟩ = some (.int .u8 (b.getD 0 0).toNat) := by
        rw [← hb0]
        exact below_cell ((((Below.refl _ _).alloc (Nat.le_refl _) (.cells zs5.toArray 38)).alloc (by simp) _).drew) (hc 0 _ (bCells_get b 0 (by omega)))
      have HR := hqZ hR
      have HB := hqZ h
      have hlen0 : 0 < b.length := by omega
      generalize (b.getD 0 0).toNat = c at c0 c0' hlt HR
      clear hR hs hb0 hc h
      go_wp2_with fail
      go_region
      have e1 : (c : Int) / 64 = ((c / 64 : Nat) : Int) := by omega
      have e2 : (c : Int) % 64 = ((c % 64 : Nat) : Int) := by omega
      rw [e1, e2]
      clear c0 c0' e1 e2
      have hK : c / 64 ≤ 3 := by omega
      have hT : c % 64 ≤ 63 := by omega
      generalize c / 64 = K at HR hK ⊢
      generalize c % 64 = T at HR hT ⊢
      generalize hW1 : ((w.alloc (.cells zs5.toArray 38)).alloc (.cells #[.int .i64 K, .int .i64 T, .int .u64 0, .slice none 0 0, .slice none 0 0] 38)).drew = W1
      have hB1 : Below w.heap.size w W1 := by rw [← hW1]; exact (((Below.refl _ _).alloc (Nat.le_refl _) _).alloc (by simp) _).drew
      have hz1 : W1.heap.size = w.heap.size + 2 := by rw [← hW1]; simp [World.drew]
      have hrb : Blk W1 w.heap.size zs5 38 := by rw [← hW1]; exact ((Blk.new w zs5 _).alloc _).drew
      have hqb : Blk W1 (w.heap.size + 1) [.int .i64 K, .int .i64 T, .int .u64 0, .slice none 0 0, .slice none 0 0] 38 := by rw [← hW1]; exact (Blk.at_ (by simp)).drew
      have HB1 := hqZ hB1
      have HRB := hqZ hrb
      have HQB := hqZ hqb
      have q0 : W1.cell? ⟨w.heap.size + 1, 0, none⟩ = some (.int .i64 K) := by rw [hqb.cell]; rfl
      have q1 : W1.cell? ⟨w.heap.size + 1, 1, none⟩ = some (.int .i64 T) := by rw [hqb.cell]; rfl
      clear hB1 hrb hqb hW1 HN HS
      by_cases hk2 : 2 < K
      · have hR := HR.out
        rw [if_pos (.inl hk2)] at hR
        have HR := hqZ hR
        have hk2' : (2 : Int) < K := by omega
        clear hR
        go_wp2_with (first | ((with_reducible show wpList _ _ _ (⟨some 49, _, _, _, _, _⟩ :: _) _ _); refine wpList_bld rfl rfl HZ.out ?_) | ((with_reducible show wpList _ _ _ (⟨none, .store _ (.tmp 4) (.tmp 49), _, _, _, _⟩ :: _) _ _); refine wpList_stAgg rfl (.tmp 4) (.tmp 49) aggDer rfl rfl (vs := zs5) rfl rfl HRB.out (Nat.le_refl _) zs5_one ?_))
        intro w2 h2 k2
        have h2' : Blk w2 w.heap.size zs5 38 := by simpa [zs5] using h2
        have H2 := hqZ h2'
        have HB2 : Hid (Below w.heap.size w w2) := hqZ (HB1.out.trans (k2.below (by omega)))
        clear h2 h2' k2
        go_wp2_with fail
        rw [HR.out]
        exact bodyPost_ret (results_agg_tmp2 rfl aggDer rfl (cs := zs5) rfl H2.out.cellsAll) rfl ⟨zs5, rfl, TvF.zero _ _, HB2.out⟩
      · by_cases ht30 : 30 < T
        · have hR := HR.out
          rw [if_pos (.inr ht30)] at hR
          have HR := hqZ hR
          have hk2' : ¬ (2 : Int) < K := by omega
          have ht30' : (30 : Int) < T := by omega
          clear hR
          go_wp2_with (first | ((with_reducible show wpList _ _ _ (⟨some 49, _, _, _, _, _⟩ :: _) _ _); refine wpList_bld rfl rfl HZ.out ?_) | ((with_reducible show wpList _ _ _ (⟨none, .store _ (.tmp 4) (.tmp 49), _, _, _, _⟩ :: _) _ _); refine wpList_stAgg rfl (.tmp 4) (.tmp 49) aggDer rfl rfl (vs := zs5) rfl rfl HRB.out (Nat.le_refl _) zs5_one ?_))
          intro w2 h2 k2
          have h2' : Blk w2 w.heap.size zs5 38 := by simpa [zs5] using h2
          have H2 := hqZ h2'
          have HB2 : Hid (Below w.heap.size w w2) := hqZ (HB1.out.trans (k2.below (by omega)))
          clear h2 h2' k2
          go_wp2_with fail
          rw [HR.out]
          exact bodyPost_ret (results_agg_tmp2 rfl aggDer rfl (cs := zs5) rfl H2.out.cellsAll) rfl ⟨zs5, rfl, TvF.zero _ _, HB2.out⟩
        · have hR := HR.out
          rw [if_neg (by omega)] at hR
          have hk2' : ¬ (2 : Int) < K := by omega
          have ht30' : ¬ (30 : Int) < T := by omega
          have hrun : ∀ W, (Instr.sliceAt 22 (.slice (some ⟨bb, off, none⟩) b.length cap) (some (.int .i64 at')) (some (.int .i64 ((at' : Int) + n))) none).run Try.prog W = .ok (.slice (cutA (some ⟨bb, off, none⟩) cap at') n (cap - at')) W := by
            intro W
            have := run_cut2 (some ⟨bb, off, none⟩) b.length cap at' (at' + n) (by omega) (by omega) W
            rw [show at' + n - at' = n by omega, Int.natCast_add] at this
            exact this
          have hbs : Bs w (.slice (cutA (some ⟨bb, off, none⟩) cap at') n (cap - at')) ((b.drop at').take n) := by
            have := HB.out.cut at' (at' + n) (by omega) (by omega)
            rw [show at' + n - at' = n by omega] at this
            exact this
          have hbl2 : ((b.drop at').take n).length = n := by rw [List.length_take, List.length_drop]; omega
          have hg0 : 0 < n → (b.drop at').getD 0 0 = ((b.drop at').take n).getD 0 0 := by
            intro hn
            rw [List.getD_eq_getElem?_getD, List.getD_eq_getElem?_getD, List.getElem?_take, if_pos hn]
          have hbs1 := hbs.below HB1.out
          generalize (b.drop at').take n = body at hR hbs1 hbl2 hg0 hbs
          obtain ⟨a2, hca⟩ : ∃ a2, a2 = cutA (some ⟨bb, off, none⟩) cap at' := ⟨_, rfl⟩
          rw [← hca] at hrun hbs1 hbs
          subst hbl2
          have HBS := hqZ hbs1
          have HBSw := hqZ hbs
          have hR0 := hR
          clear HR hR hbs hca hbs1
          rcases (by omega : K = 0 ∨ K = 1 ∨ K = 2) with rfl | rfl | rfl
          · rw [if_pos rfl] at hR0
            have HG := hqZ (get_any _ _ W1 HBS.out)
            by_cases hgb : body.length = 0 ∨ 8 < body.length
            · have hg : getB body = (0, false) := by unfold getB; rw [if_pos hgb]
              rw [hg] at hR0 HG
              rw [if_pos (.inl rfl)] at hR0
              have HR := hqZ hR0
              clear hR0 hgb hg hg0
              go_wp2_with fail
              refine HG.out.mono ?_
              rintro e w' ⟨rfl, rfl⟩
              go_wp2_with (first | ((with_reducible show wpList _ _ _ (⟨some 102, _, _, _, _, _⟩ :: _) _ _); refine wpList_bld rfl rfl HZ.out ?_) | ((with_reducible show wpList _ _ _ (⟨none, .store _ (.tmp 4) (.tmp 102), _, _, _, _⟩ :: _) _ _); refine wpList_stAgg rfl (.tmp 4) (.tmp 102) aggDer rfl rfl (vs := zs5) rfl rfl HRB.out (Nat.le_refl _) zs5_one ?_))
              intro w2 h2 k2
              have h2' : Blk w2 w.heap.size zs5 38 := by simpa [zs5] using h2
              have H2 := hqZ h2'
              have HB2 : Hid (Below w.heap.size w w2) := hqZ (HB1.out.trans (k2.below (by omega)))
              clear h2 h2' k2
              go_wp2_with fail
              rw [HR.out]
              exact bodyPost_ret (results_agg_tmp2 rfl aggDer rfl (cs := zs5) rfl H2.out.cellsAll) rfl ⟨zs5, rfl, TvF.zero _ _, HB2.out⟩
            · have hg : getB body = (getN body, true) := by unfold getB; rw [if_neg hgb]
              rw [hg] at hR0 HG
              obtain ⟨b2, o2, rfl, hc2⟩ := Sl.addr HBS.out (by rw [bCells_length]; omega)
              have hb20 : body[0]'(by omega) = body.getD 0 0 := by rw [List.getD_eq_getElem?_getD, List.getElem?_eq_getElem (by omega)]; rfl
              have d0 : W1.cell? ⟨b2, o2, none⟩ = some (.int .u8 (body.getD 0 0).toNat) := by
                rw [← hb20]
                exact hc2 0 _ (bCells_get body 0 (by omega))
              have hpos : 0 < body.length := by omega
              rw [hg0 hpos] at hR0
              have hNlt := getN_lt body
              have hN64 : getN body < 18446744073709551616 := Nat.lt_of_lt_of_le hNlt (Nat.le_trans (Nat.pow_le_pow_right (by decide) (show body.length ≤ 8 by omega)) (by decide))
              have q2 : W1.cell? ⟨w.heap.size + 1, 2, none⟩ = some (.int .u64 0) := by rw [HQB.out.cell]; rfl
              have qf2 := HQB.out.frozen 2
              have hend : ∀ N : Nat, Blk (W1.setCell ⟨w.heap.size + 1, 2, none⟩ (.int .u64 N)) (w.heap.size + 1) [.int .i64 0, .int .i64 T, .int .u64 N, .slice none 0 0, .slice none 0 0] 38 ∧ Blk (W1.setCell ⟨w.heap.size + 1, 2, none⟩ (.int .u64 N)) w.heap.size zs5 38 ∧
                  Below w.heap.size w (W1.setCell ⟨w.heap.size + 1, 2, none⟩ (.int .u64 N)) ∧ (W1.setCell ⟨w.heap.size + 1, 2, none⟩ (.int .u64 N)).heap.size = W1.heap.size :=
                fun N => ⟨HQB.out.set 2 _, HRB.out.set_other (by simp) _, HB1.out.setCell (by simp) _, by simp [World.setCell]⟩
              have HEND := hqZ hend
              clear hgb hg hg0 hb20 hc2 hNlt hend HBS
              generalize getN body = N at *
              generalize body.getD 0 0 = y at *
              by_cases hy : y = 0
              · have hy' : ((y.toNat : Int) == 0) = true := by simp [hy]
                by_cases hl1 : 1 < body.length
                · rw [if_pos (.inr ⟨hl1, hy⟩)] at hR0
                  have HR := hqZ hR0
                  have hl1' : (1 : Int) < body.length := by omega
                  clear hR0 hy hl1
                  go_wp2_with fail
                  refine HG.out.mono ?_
                  rintro e w' ⟨rfl, rfl⟩
                  go_wp2_with (first | ((with_reducible show wpList _ _ _ (⟨some 102, _, _, _, _, _⟩ :: _) _ _); refine wpList_bld rfl rfl HZ.out ?_) | ((with_reducible show wpList _ _ _ (⟨none, .store _ (.tmp 4) (.tmp 102), _, _, _, _⟩ :: _) _ _); refine wpList_stAgg rfl (.tmp 4) (.tmp 102) aggDer rfl rfl (vs := zs5) rfl rfl HRB.out (Nat.le_refl _) zs5_one ?_))
                  intro w2 h2 k2
                  have h2' : Blk w2 w.heap.size zs5 38 := by simpa [zs5] using h2
                  have H2 := hqZ h2'
                  have HB2 : Hid (Below w.heap.size w w2) := hqZ (HB1.out.trans (k2.below (by omega)))
                  clear h2 h2' k2
                  go_wp2_with fail
                  rw [HR.out]
                  exact bodyPost_ret (results_agg_tmp2 rfl aggDer rfl (cs := zs5) rfl H2.out.cellsAll) rfl ⟨zs5, rfl, TvF.zero _ _, HB2.out⟩
                · rw [if_neg (by simp; omega)] at hR0
                  have HR := hqZ hR0
                  have hl1' : ¬ (1 : Int) < body.length := by omega
                  clear hR0 hy hl1
                  go_wp2_with fail
                  refine HG.out.mono ?_
                  rintro e w' ⟨rfl, rfl⟩
                  go_upto_region 24 with fail
                  obtain ⟨hqe, hre, hbe, hze⟩ := HEND.out N
                  clear HEND q0 q1 q2 qf2 HQB HRB HB1
                  generalize W1.setCell ⟨w.heap.size + 1, 2, none⟩ (.int .u64 N) = WE at *
                  have HQE := hqZ hqe
                  have HRE := hqZ hre
                  have HBE := hqZ hbe
                  have hze' : w.heap.size + 2 ≤ WE.heap.size := by omega
                  have HTV : Hid (TvF WE (fun x => w.heap.size + 2 ≤ x ∧ x < WE.heap.size) (.mk 0 T N [] []) [.int .i64 0, .int .i64 T, .int .u64 N, .slice none 0 0, .slice none 0 0]) := hqZ (TvF.mk (Sl.nil _ _ _) (by simp [Value.ownBlock]) (Sl.nil _ _ _) (by simp [Value.ownBlock]) rfl)
                  clear hqe hre hbe hze
                  go_wp2_with (first | ((with_reducible show wpList _ _ _ (⟨some 110, _, _, _, _, _⟩ :: _) _ _); refine wpList_ldAgg rfl (.tmp 10) aggDer rfl rfl (cs := [.int .i64 0, .int .i64 T, .int .u64 N, .slice none 0 0, .slice none 0 0]) rfl HQE.out.cellsAll ?_) | ((with_reducible show wpList _ _ _ (⟨none, .store _ (.tmp 4) (.tmp 110), _, _, _, _⟩ :: _) _ _); refine wpList_stAgg rfl (.tmp 4) (.tmp 110) aggDer rfl rfl (vs := [.int .i64 0, .int .i64 T, .int .u64 N, .slice none 0 0, .slice none 0 0]) rfl rfl HRE.out (Nat.le_refl _) HTV.out.one ?_))
                  intro w2 h2 k2
                  have h2' : Blk w2 w.heap.size ([.int .i64 0, .int .i64 T, .int .u64 N, .slice none 0 0, .slice none 0 0]) 38 := by simpa [zs5] using h2
                  have H2 := hqZ h2'
                  have hz9 := k2.size
                  have HB2 : Hid (Below w.heap.size w w2) := hqZ (HBE.out.trans (k2.below (by omega)))
                  have HT2 := hqZ ((HTV.out.keep k2 (fun x hx _ e => by have := hx.1; omega)).mono (fun x hx => (⟨by omega, by omega⟩ : w.heap.size ≤ x ∧ x < w2.heap.size)))
                  clear h2 h2' k2
                  go_wp2_with fail
                  rw [HR.out]
                  exact bodyPost_ret (results_agg_tmp2 rfl aggDer rfl (cs := [.int .i64 0, .int .i64 T, .int .u64 N, .slice none 0 0, .slice none 0 0]) rfl H2.out.cellsAll) rfl ⟨_, by simp only [Int.natCast_add]; rfl, HT2.out, HB2.out⟩
              · have hy' : ((y.toNat : Int) == 0) = false := by
                  simp
                  intro e
                  exact hy (by exact UInt8.toNat_inj.1 e)
                rw [if_neg (by simp [hy])] at hR0
                have HR := hqZ hR0
                clear hR0 hy
                by_cases hl1 : 1 < body.length
                · have hl1' : (1 : Int) < body.length := by omega
                  clear hl1
                  go_wp2_with fail
                  refine HG.out.mono ?_
                  rintro e w' ⟨rfl, rfl⟩
                  go_upto_region 24 with fail
                  obtain ⟨hqe, hre, hbe, hze⟩ := HEND.out N
                  clear HEND q0 q1 q2 qf2 HQB HRB HB1
                  generalize W1.setCell ⟨w.heap.size + 1, 2, none⟩ (.int .u64 N) = WE at *
                  have HQE := hqZ hqe
                  have HRE := hqZ hre
                  have HBE := hqZ hbe
                  have hze' : w.heap.size + 2 ≤ WE.heap.size := by omega
                  have HTV : Hid (TvF WE (fun x => w.heap.size + 2 ≤ x ∧ x < WE.heap.size) (.mk 0 T N [] []) [.int .i64 0, .int .i64 T, .int .u64 N, .slice none 0 0, .slice none 0 0]) := hqZ (TvF.mk (Sl.nil _ _ _) (by simp [Value.ownBlock]) (Sl.nil _ _ _) (by simp [Value.ownBlock]) rfl)
                  clear hqe hre hbe hze
                  go_wp2_with (first | ((with_reducible show wpList _ _ _ (⟨some 110, _, _, _, _, _⟩ :: _) _ _); refine wpList_ldAgg rfl (.tmp 10) aggDer rfl rfl (cs := [.int .i64 0, .int .i64 T, .int .u64 N, .slice none 0 0, .slice none 0 0]) rfl HQE.out.cellsAll ?_) | ((with_reducible show wpList _ _ _ (⟨none, .store _ (.tmp 4) (.tmp 110), _, _, _, _⟩ :: _) _ _); refine wpList_stAgg rfl (.tmp 4) (.tmp 110) aggDer rfl rfl (vs := [.int .i64 0, .int .i64 T, .int .u64 N, .slice none 0 0, .slice none 0 0]) rfl rfl HRE.out (Nat.le_refl _) HTV.out.one ?_))
                  intro w2 h2 k2
                  have h2' : Blk w2 w.heap.size ([.int .i64 0, .int .i64 T, .int .u64 N, .slice none 0 0, .slice none 0 0]) 38 := by simpa [zs5] using h2
                  have H2 := hqZ h2'
                  have hz9 := k2.size
                  have HB2 : Hid (Below w.heap.size w w2) := hqZ (HBE.out.trans (k2.below (by omega)))
                  have HT2 := hqZ ((HTV.out.keep k2 (fun x hx _ e => by have := hx.1; omega)).mono (fun x hx => (⟨by omega, by omega⟩ : w.heap.size ≤ x ∧ x < w2.heap.size)))
                  clear h2 h2' k2
                  go_wp2_with fail
                  rw [HR.out]
                  exact bodyPost_ret (results_agg_tmp2 rfl aggDer rfl (cs := [.int .i64 0, .int .i64 T, .int .u64 N, .slice none 0 0, .slice none 0 0]) rfl H2.out.cellsAll) rfl ⟨_, by simp only [Int.natCast_add]; rfl, HT2.out, HB2.out⟩
                · have hl1' : ¬ (1 : Int) < body.length := by omega
                  clear hl1
                  go_wp2_with fail
                  refine HG.out.mono ?_
                  rintro e w' ⟨rfl, rfl⟩
                  go_upto_region 24 with fail
                  obtain ⟨hqe, hre, hbe, hze⟩ := HEND.out N
                  clear HEND q0 q1 q2 qf2 HQB HRB HB1
                  generalize W1.setCell ⟨w.heap.size + 1, 2, none⟩ (.int .u64 N) = WE at *
                  have HQE := hqZ hqe
                  have HRE := hqZ hre
                  have HBE := hqZ hbe
                  have hze' : w.heap.size + 2 ≤ WE.heap.size := by omega
                  have HTV : Hid (TvF WE (fun x => w.heap.size + 2 ≤ x ∧ x < WE.heap.size) (.mk 0 T N [] []) [.int .i64 0, .int .i64 T, .int .u64 N, .slice none 0 0, .slice none 0 0]) := hqZ (TvF.mk (Sl.nil _ _ _) (by simp [Value.ownBlock]) (Sl.nil _ _ _) (by simp [Value.ownBlock]) rfl)
                  clear hqe hre hbe hze
                  go_wp2_with (first | ((with_reducible show wpList _ _ _ (⟨some 110, _, _, _, _, _⟩ :: _) _ _); refine wpList_ldAgg rfl (.tmp 10) aggDer rfl rfl (cs := [.int .i64 0, .int .i64 T, .int .u64 N, .slice none 0 0, .slice none 0 0]) rfl HQE.out.cellsAll ?_) | ((with_reducible show wpList _ _ _ (⟨none, .store _ (.tmp 4) (.tmp 110), _, _, _, _⟩ :: _) _ _); refine wpList_stAgg rfl (.tmp 4) (.tmp 110) aggDer rfl rfl (vs := [.int .i64 0, .int .i64 T, .int .u64 N, .slice none 0 0, .slice none 0 0]) rfl rfl HRE.out (Nat.le_refl _) HTV.out.one ?_))
                  intro w2 h2 k2
                  have h2' : Blk w2 w.heap.size ([.int .i64 0, .int .i64 T, .int .u64 N, .slice none 0 0, .slice none 0 0]) 38 := by simpa [zs5] using h2
                  have H2 := hqZ h2'
                  have hz9 := k2.size
                  have HB2 : Hid (Below w.heap.size w w2) := hqZ (HBE.out.trans (k2.below (by omega)))
                  have HT2 := hqZ ((HTV.out.keep k2 (fun x hx _ e => by have := hx.1; omega)).mono (fun x hx => (⟨by omega, by omega⟩ : w.heap.size ≤ x ∧ x < w2.heap.size)))
                  clear h2 h2' k2
                  go_wp2_with fail
                  rw [HR.out]
                  exact bodyPost_ret (results_agg_tmp2 rfl aggDer rfl (cs := [.int .i64 0, .int .i64 T, .int .u64 N, .slice none 0 0, .slice none 0 0]) rfl H2.out.cellsAll) rfl ⟨_, by simp only [Int.natCast_add]; rfl, HT2.out, HB2.out⟩
          · rw [if_neg (by decide), if_pos rfl] at hR0
            have HR := hqZ hR0
            clear hR0 hg0
            go_wp2_with ((with_reducible show wpList _ _ _ (⟨some 108, _, _, _, _, _⟩ :: _) _ _); refine wpList_app2 rfl (.const (.slice none 0 0)) (.tmp 107) elBytes rfl W1.heap.size (Own.nil _ _ _ _ _) (by simp [Act.eval, Value.ownBlock]) HBS.out (by unfold maxLen; omega) (by omega) (Nat.le_refl _) ?_)
            intro v3 w3 ho3 hk3 hv3
            have hz3 := hk3.size
            have hb3 : Below w.heap.size w w3 := HB1.out.trans (hk3.below (by rintro x (h | h); simp [Value.ownBlock] at h; omega))
            have hq3 : Blk w3 (w.heap.size + 1) [.int .i64 1, .int .i64 T, .int .u64 0, .slice none 0 0, .slice none 0 0] 38 := HQB.out.keep hk3 (by rintro (h | h); simp [Value.ownBlock] at h; omega)
            have hr3 : Blk w3 w.heap.size zs5 38 := HRB.out.keep hk3 (by rintro (h | h); simp [Value.ownBlock] at h; omega)
            have hvb : ∀ x, v3.ownBlock = some x → w.heap.size + 2 ≤ x ∧ x < w3.heap.size := fun x hx => by
              refine ⟨?_, (hv3 x hx).2⟩
              rcases (hv3 x hx).1 with h | h
              · simp [Value.ownBlock] at h
              · omega
            have q3 : w3.cell? ⟨w.heap.size + 1, 3, none⟩ = some (.slice none 0 0) := by rw [hq3.cell]; rfl
            have qf3 := hq3.frozen 3
            have hbs3 : Bs w3 v3 body := ho3.sl
            obtain ⟨a3, c3, hv3f, _⟩ := ho3.sl.form
            subst hv3f
            have hqe := hq3.set 3 (.slice a3 body.length c3)
            have hre : Blk (w3.setCell ⟨w.heap.size + 1, 3, none⟩ (.slice a3 body.length c3)) w.heap.size zs5 38 := hr3.set_other (by simp) _
            have hbe : Below w.heap.size w (w3.setCell ⟨w.heap.size + 1, 3, none⟩ (.slice a3 body.length c3)) := hb3.setCell (by simp) _
            have hbse : Bs (w3.setCell ⟨w.heap.size + 1, 3, none⟩ (.slice a3 body.length c3)) (.slice a3 body.length c3) body := Sl.setCell hbs3 (fun h => by have := (hvb _ h).1; simp at this) _
            have hze : (w3.setCell ⟨w.heap.size + 1, 3, none⟩ (.slice a3 body.length c3)).heap.size = w3.heap.size := by simp [World.setCell]
            have HQE := hqZ hqe
            have HRE := hqZ hre
            have HBE := hqZ hbe
            have HTV : Hid (TvF (w3.setCell ⟨w.heap.size + 1, 3, none⟩ (.slice a3 body.length c3)) (fun x => w.heap.size + 2 ≤ x ∧ x < (w3.setCell ⟨w.heap.size + 1, 3, none⟩ (.slice a3 body.length c3)).heap.size) (.mk 1 T 0 body []) [.int .i64 1, .int .i64 T, .int .u64 0, .slice a3 body.length c3, .slice none 0 0]) :=
              hqZ (TvF.mk hbse (by rw [hze]; exact hvb) (Sl.nil _ _ _) (by simp [Value.ownBlock]) rfl)
            have hze' : w.heap.size + 2 ≤ (w3.setCell ⟨w.heap.size + 1, 3, none⟩ (.slice a3 body.length c3)).heap.size := by omega
            clear hqe hre hbe hbse hze ho3 hk3 hv3 hb3 hq3 hr3 hvb hbs3 q0 q1 HQB HRB HB1
            go_upto_region 24 with fail
            generalize w3.setCell ⟨w.heap.size + 1, 3, none⟩ (.slice a3 body.length c3) = WE at *
            go_wp2_with (first | ((with_reducible show wpList _ _ _ (⟨some 110, _, _, _, _, _⟩ :: _) _ _); refine wpList_ldAgg rfl (.tmp 10) aggDer rfl rfl (cs := [.int .i64 1, .int .i64 T, .int .u64 0, .slice a3 body.length c3, .slice none 0 0]) rfl HQE.out.cellsAll ?_) | ((with_reducible show wpList _ _ _ (⟨none, .store _ (.tmp 4) (.tmp 110), _, _, _, _⟩ :: _) _ _); refine wpList_stAgg rfl (.tmp 4) (.tmp 110) aggDer rfl rfl (vs := [.int .i64 1, .int .i64 T, .int .u64 0, .slice a3 body.length c3, .slice none 0 0]) rfl rfl HRE.out (Nat.le_refl _) HTV.out.one ?_))
            intro w2 h2 k2
            have h2' : Blk w2 w.heap.size ([.int .i64 1, .int .i64 T, .int .u64 0, .slice a3 body.length c3, .slice none 0 0]) 38 := by simpa [zs5] using h2
            have H2 := hqZ h2'
            have hz9 := k2.size
            have HB2 : Hid (Below w.heap.size w w2) := hqZ (HBE.out.trans (k2.below (by omega)))
            have HT2 := hqZ ((HTV.out.keep k2 (fun x hx _ e => by have := hx.1; omega)).mono (fun x hx => (⟨by omega, by omega⟩ : w.heap.size ≤ x ∧ x < w2.heap.size)))
            clear h2 h2' k2
            go_wp2_with fail
            rw [HR.out]
            exact bodyPost_ret (results_agg_tmp2 rfl aggDer rfl (cs := [.int .i64 1, .int .i64 T, .int .u64 0, .slice a3 body.length c3, .slice none 0 0]) rfl H2.out.cellsAll) rfl ⟨_, by simp only [Int.natCast_add]; rfl, HT2.out, HB2.out⟩
          · rw [if_neg (by decide), if_neg (by decide)] at hR0
            have hR0' : readS (d + 1) b = if (LS d body).2 = 0 then (.mk 2 T 0 [] (LS d body).1, at' + body.length, 0) else (.zero, 0, (LS d body).2) := hR0
            have HR0 := hqZ hR0'
            obtain ⟨r, hr⟩ : ∃ r, r = w.heap.size := ⟨_, rfl⟩
            have hz1' : w.heap.size + 2 ≤ W1.heap.size := by omega
            have HDL : Hid (DL w r d T body (.slice a2 body.length (cap - at')) W1 body [] (.slice none 0 0) [] (fun _ => False)) := hqZ (by
              subst hr
              exact ⟨HBSw.out, rfl, by simp, HQB.out, HRB.out, Own.nil _ _ _ _ _, rfl, fun _ h => h.elim, by simp [Value.ownBlock], HB1.out, by omega⟩)
            have hD0 : 0 ≤ D := by have := HD.out; omega
            have hrw : w.heap.size = r := hr.symm
            rw [hrw] at q0 q1 ⊢
            have hdr : w.heap.size ≤ r := by omega
            clear hR0 hR0' hg0 hz1 HQB HRB HB1 HBS hr hrw
            go_wp2_with fail
            go_loopw [11] (fun inv wr => ∃ rest acc lv rows F, DL w r d T body inv wr rest acc lv rows F) (fun inv _ => sliceLen inv)
            case atStart => exact ⟨body, [], _, [], _, HDL.out⟩
            case round =>
              obtain ⟨rest, acc, lv, rows, F, hdl⟩ := hrel
              obtain ⟨ai, ci, rfl, hci, hmi⟩ := hdl.bs.form
              have hmi' := hmi
              unfold maxLen at hmi'
              have HDLr := hqZ hdl
              have hszr := hdl.size
              have hfew := hdl.few
              have z0 : wr.cell? ⟨r + 1, 0, none⟩ = some (.int .i64 2) := by rw [hdl.q.cell]; rfl
              clear q0 q1 hdl
              by_cases hre : rest = []
              · subst hre
                have hls := HDLr.out.ls
                rw [LS_nil, List.append_nil] at hls
                have hR := HR0.out
                rw [hls] at hR
                have HR : Hid (readS (d + 1) b = (.mk 2 T 0 [] acc, at' + body.length, 0)) := hqZ (by rw [hR]; rfl)
                have HQE := hqZ HDLr.out.q
                have HRE := hqZ HDLr.out.z
                have HBE : Hid (Below w.heap.size w wr) := hqZ (HDLr.out.below.mono hdr)
                have HTV : Hid (TvF wr (fun x => r + 2 ≤ x ∧ x < wr.heap.size) (.mk 2 T 0 [] acc) [.int .i64 2, .int .i64 T, .int .u64 0, .slice none 0 0, lv]) := hqZ (TvF.mk (Sl.nil _ _ _) (by simp [Value.ownBlock]) HDLr.out.own.sl (fun x hx => by have := HDLr.out.v x hx; omega) (HDLr.out.tvs.mono (fun x hx => by have := HDLr.out.f x hx; omega)))
                clear hls hR HR0
                go_upto_region 24 with fail
                go_wp2_with (first | ((with_reducible show wpList _ _ _ (⟨some 110, _, _, _, _, _⟩ :: _) _ _); refine wpList_ldAgg rfl (.tmp 10) aggDer rfl rfl (cs := [.int .i64 2, .int .i64 T, .int .u64 0, .slice none 0 0, lv]) rfl HQE.out.cellsAll ?_) | ((with_reducible show wpList _ _ _ (⟨none, .store _ (.tmp 4) (.tmp 110), _, _, _, _⟩ :: _) _ _); refine wpList_stAgg rfl (.tmp 4) (.tmp 110) aggDer rfl rfl (vs := [.int .i64 2, .int .i64 T, .int .u64 0, .slice none 0 0, lv]) rfl rfl HRE.out (Nat.le_refl _) HTV.out.one ?_))
                intro w2 h2 k2
                have h2' : Blk w2 r ([.int .i64 2, .int .i64 T, .int .u64 0, .slice none 0 0, lv]) 38 := by simpa [zs5] using h2
                have H2 := hqZ h2'
                have hz9 := k2.size
                have HB2 : Hid (Below w.heap.size w w2) := hqZ (HBE.out.trans (k2.below (by omega)))
                have HT2 := hqZ ((HTV.out.keep k2 (fun x hx _ e => by have := hx.1; omega)).mono (fun x hx => (⟨by omega, by omega⟩ : w.heap.size ≤ x ∧ x < w2.heap.size)))
                clear h2 h2' k2
                go_wp2_with fail
                rw [HR.out]
                exact bodyPost_ret (results_agg_tmp2 rfl aggDer rfl (cs := [.int .i64 2, .int .i64 T, .int .u64 0, .slice none 0 0, lv]) rfl H2.out.cellsAll) rfl ⟨_, by simp only [Int.natCast_add]; rfl, HT2.out, HB2.out⟩
              · have hpos : 0 < rest.length := List.length_pos_iff.2 hre
                have hposI : (0 : Int) < rest.length := by omega
                obtain ⟨x, k, e5, hrd⟩ : ∃ x k e, readS d rest = (x, k, e) := ⟨_, _, _, rfl⟩
                have HCALL := hqZ (HIH.out (D + 1) _ rest wr (by have := HD.out; omega) (by omega) (HDLr.out.bs.below (HDLr.out.below.mono hdr)) (by omega))
                rw [hrd] at HCALL
                have HRD := hqZ hrd
                have HRE := hqZ hre
                clear hrd hre
                go_wp2_with fail
                refine HCALL.out.mono ?_
                rintro e w5 hres
                obtain ⟨cs, rfl, htv, hb5⟩ := hres
                have hz5 := hb5.size
                have hcl : cs.length = 5 := htv.length
                have HCL := hqZ hcl
                have HC1 := hqZ htv.one
                have HN5 := hqZ (Blk.new w5 zs5 38)
                have HTV := hqZ htv
                have HB5 := hqZ hb5
                clear hcl htv hb5 HCALL
                go_wp2_with ((with_reducible show wpList _ _ _ (⟨none, .store _ (.tmp 14) (.tmp 66), _, _, _, _⟩ :: _) _ _); refine wpList_stAgg rfl (.tmp 14) (.tmp 66) aggDer rfl rfl (vs := cs) rfl HCL.out HN5.out (Nat.le_refl _) HC1.out ?_)
                intro w6 h6 k6
                have h6' : Blk w6 w5.heap.size cs 38 := by
                  rw [List.drop_of_length_le (by decide), List.append_nil] at h6
                  exact h6
                have hz6 := k6.size
                simp at hz6
                have hb56 : Below w5.heap.size w5 w6 := ((Below.refl _ _).alloc (Nat.le_refl _) _).trans (k6.below (by omega))
                have HB6 : Hid (Below wr.heap.size wr w6) := hqZ (HB5.out.trans (hb56.mono hz5))
                have HTV6 := hqZ (HTV.out.below hb56)
                have H6 := hqZ h6'
                obtain ⟨s6, hs6⟩ : ∃ s6, s6 = w5.heap.size := ⟨_, rfl⟩
                rw [← hs6] at H6 hz6 hz5 HTV6 ⊢
                clear h6 h6' k6 hb56 HN5 HB5 HTV hs6
                by_cases he5 : e5 = 0
                · have he5' : (e5 != 0) = false := by simp [he5]
                  subst he5
                  have hkk := readS_takes d _ _ _ HRD.out
                  have HLS : Hid (LS d body = ((acc ++ [x]) ++ (LS d (rest.drop k)).1, (LS d (rest.drop k)).2)) := hqZ (by
                    rw [HDLr.out.ls, LS_ok HRE.out HRD.out]
                    simp)
                  have hq6 : Blk w6 (r + 1) [.int .i64 2, .int .i64 T, .int .u64 0, .slice none 0 0, lv] 38 := HDLr.out.q.below HB6.out (by omega)
                  have q4 : w6.cell? ⟨r + 1, 4, none⟩ = some lv := by rw [hq6.cell]; rfl
                  have HO6 := hqZ (HDLr.out.own.below HB6.out)
                  have HO6' := hqZ (HO6.out.alloc (.cells cs.toArray 38))
                  have HVlt : Hid (∀ b, lv.ownBlock = some b → b < (w6.alloc (.cells cs.toArray 38)).heap.size) := hqZ (fun b hb => by have := (HDLr.out.v b hb).2; simp; omega)
                  have hacc : acc.length ≤ 1048576 := by omega
                  have HQ6 := hqZ hq6
                  clear hq6
                  go_wp2_with (first | ((with_reducible show wpList _ _ _ (⟨some 75, _, _, _, _, _⟩ :: _) _ _); refine wpList_ldAgg rfl (.tmp 14) aggDer rfl rfl (cs := cs) HCL.out H6.out.cellsAll ?_) | ((with_reducible show wpList _ _ _ (⟨some 76, _, _, _, _, _⟩ :: _) _ _); refine wpList_bs1 rfl (.tmp 75) elDer rfl rfl (by have := HCL.out; simpa using this) (by decide) ?_) | ((with_reducible show wpList _ _ _ (⟨some 77, _, _, _, _, _⟩ :: _) _ _); refine wpList_app2 rfl (.tmp 74) (.tmp 76) elDer rfl (r + 2) HO6'.out HVlt.out (Sl.lit (n := 1) rfl (by simpa using HCL.out) HC1.out (by unfold maxLen; decide)) (by unfold maxLen; omega) (by omega) (by simp; omega) ?_))
                  intro v7 w7 ho7 hk7 hv7
                  have hz7 := hk7.size
                  simp at hz7
                  obtain ⟨a7, c7, hv7f, _⟩ := ho7.sl.form
                  subst hv7f
                  have k67 : Keeps (fun b => lv.ownBlock = some b ∨ w6.heap.size ≤ b) w6 w7 := by
                    refine ((Keeps.refl _ _).alloc _ (.inr (Nat.le_refl _))).trans (hk7.mono (fun b hb => ?_))
                    rcases hb with hb | hb
                    · exact .inl hb.1
                    · exact .inr (by omega)
                  have ka : Keeps (fun b => lv.ownBlock = some b ∨ wr.heap.size ≤ b) wr w7 := ((Keeps.of_below HB6.out).mono (fun b hb => .inr hb)).trans (k67.mono (fun b hb => by
                    rcases hb with hb | hb
                    · exact .inl hb
                    · exact .inr (by omega)))
                  have hvr : ∀ b, b < r + 2 → ¬ (lv.ownBlock = some b ∨ wr.heap.size ≤ b) := by
                    rintro b hb (h | h)
                    · have := (HDLr.out.v b h).1; omega
                    · omega
                  have hq7 := HDLr.out.q.keep ka (hvr _ (by omega))
                  have hr7 := HDLr.out.z.keep ka (hvr _ (by omega))
                  have q7 : w7.cell? ⟨r + 1, 4, none⟩ = some lv := by rw [hq7.cell]; rfl
                  have qf7 := hq7.frozen 4
                  have hb7 : Below r w w7 := HDLr.out.below.trans (ka.below (by
                    rintro b (h | h)
                    · have := (HDLr.out.v b h).1; omega
                    · omega))
                  have htvs7 : TvsF w7 (fun y => F y ∨ (wr.heap.size ≤ y ∧ y < s6)) (acc ++ [x]) (rows ++ cs) := by
                    refine TvsF.snoc ((HDLr.out.tvs.keep ka (fun y hy hl h => ?_)).mono (fun y hy => .inl hy)) ((HTV6.out.keep k67 (fun y hy hl h => ?_)).mono (fun y hy => .inr hy))
                    · obtain ⟨h1, h2, h3⟩ := HDLr.out.f y hy
                      rcases h with h | h
                      · exact h3 h
                      · omega
                    · rcases h with h | h
                      · have := (HDLr.out.v y h).2; omega
                      · omega
                  have hv8 : ∀ b, (Value.slice a7 (acc.length + 1) c7).ownBlock = some b → r + 2 ≤ b ∧ b < w7.heap.size := fun b hb => by
                    refine ⟨?_, (hv7 b hb).2⟩
                    rcases (hv7 b hb).1 with h | h
                    · exact (HDLr.out.v b h).1
                    · omega
                  have hrun2 : ∀ W, (Instr.sliceAt 22 (.slice ai rest.length ci) (some (.int .i64 k)) none none).run Try.prog W = .ok (.slice (cutA ai ci k) (rest.length - k) (ci - k)) W := fun W => run_cut1 ai rest.length ci k (by omega) W
                  have hbs8 : Bs w (.slice (cutA ai ci k) (rest.length - k) (ci - k)) (rest.drop k) := by
                    have := HDLr.out.bs.cut k rest.length (by omega) (Nat.le_refl _)
                    rwa [List.take_of_length_le (by rw [List.length_drop]; exact Nat.le_refl _)] at this
                  have HDLn : Hid (DL w r d T body (.slice (cutA ai ci k) (rest.length - k) (ci - k)) (w7.setCell ⟨r + 1, 4, none⟩ (.slice a7 (acc.length + 1) c7)) (rest.drop k) (acc ++ [x]) (.slice a7 (acc.length + 1) c7) (rows ++ cs) (fun y => F y ∨ (wr.heap.size ≤ y ∧ y < s6))) := hqZ (by
                    have ks : Keeps (fun b => b = r + 1) w7 (w7.setCell ⟨r + 1, 4, none⟩ (.slice a7 (acc.length + 1) c7)) := Keeps.one _ _ _ _
                    have hsz : (w7.setCell ⟨r + 1, 4, none⟩ (.slice a7 (acc.length + 1) c7)).heap.size = w7.heap.size := by simp [World.setCell]
                    refine ⟨hbs8, HLS.out, by simp; omega, hq7.set 4 _, hr7.keep ks (by omega), ?_, htvs7.keep ks (fun y hy _ e => ?_), fun y hy => ?_, by rw [hsz]; exact hv8, hb7.trans (ks.below (by omega)), by rw [hsz]; omega⟩
                    · rw [List.length_append, List.length_singleton]
                      exact ho7.keep ks (fun b hb e => by have := (hv8 b hb).1; omega)
                    · rcases hy with hy | hy
                      · have := (HDLr.out.f y hy).1; omega
                      · omega
                    · rw [hsz]
                      rcases hy with hy | hy
                      · obtain ⟨h1, h2, h3⟩ := HDLr.out.f y hy
                        refine ⟨h1, by omega, fun e => ?_⟩
                        rcases (hv7 y e).1 with h | h
                        · exact h3 h
                        · omega
                      · refine ⟨by omega, by omega, fun e => ?_⟩
                        rcases (hv7 y e).1 with h | h
                        · have := (HDLr.out.v y h).2; omega
                        · omega)
                  clear ho7 hk7 hv7 k67 ka hvr hq7 hr7 hb7 htvs7 hv8 hbs8 HTV6 HB6 HO6 HO6' HQ6 HVlt q4 z0 H6
                  go_wp2_with fail
                  go_roundw
                  case rel => exact ⟨_, _, _, _, _, HDLn.out⟩
                  case measure => simp [sliceLen]; omega
                · have he5' : (e5 != 0) = true := by simp [he5]
                  have hls := HDLr.out.ls
                  rw [LS_bad HRE.out HRD.out he5, List.append_nil] at hls
                  have hR := HR0.out
                  rw [hls] at hR
                  simp only at hR
                  rw [if_neg he5] at hR
                  have HR := hqZ hR
                  have HRB := hqZ (HDLr.out.z.below HB6.out (by omega))
                  have HB1 : Hid (Below w.heap.size w w6) := hqZ ((HDLr.out.below.mono hdr).trans (HB6.out.mono (by omega)))
                  clear hls hR HR0 he5
                  go_wp2_with (first | ((with_reducible show wpList _ _ _ (⟨some 71, _, _, _, _, _⟩ :: _) _ _); refine wpList_bld rfl rfl HZ.out ?_) | ((with_reducible show wpList _ _ _ (⟨none, .store _ (.tmp 4) (.tmp 71), _, _, _, _⟩ :: _) _ _); refine wpList_stAgg rfl (.tmp 4) (.tmp 71) aggDer rfl rfl (vs := zs5) rfl rfl HRB.out (Nat.le_refl _) zs5_one ?_))
                  intro w2 h2 k2
                  have h2' : Blk w2 r zs5 38 := by simpa [zs5] using h2
                  have H2 := hqZ h2'
                  have HB2 : Hid (Below w.heap.size w w2) := hqZ (HB1.out.trans (k2.below (by omega)))
                  clear h2 h2' k2
                  go_wp2_with fail
                  rw [HR.out]
                  exact bodyPost_ret (results_agg_tmp2 rfl aggDer rfl (cs := zs5) rfl H2.out.cellsAll) rfl ⟨zs5, rfl, TvF.zero _ _, HB2.out⟩
    · have he' : (e0 != 0) = true := by simp [he]
      have HR : Hid (readS (d + 1) b = (.zero, 0, e0)) := hqZ (by rw [readS, hs]; simp only; rw [if_pos he])
      clear hs he
      go_wp2_with (first | ((with_reducible show wpList _ _ _ (⟨some 28, _, _, _, _, _⟩ :: _) _ _); refine wpList_bld rfl rfl HZ.out ?_) | ((with_reducible show wpList _ _ _ (⟨none, .store _ (.tmp 4) (.tmp 28), _, _, _, _⟩ :: _) _ _); refine wpList_stAgg rfl (.tmp 4) (.tmp 28) aggDer rfl rfl (vs := zs5) rfl rfl HN.out (Nat.le_refl _) zs5_one ?_))
      intro w2 h2 k2
      have h2' : Blk w2 w.heap.size zs5 38 := by simpa [zs5] using h2
      have H2 := hqZ h2'
      have HB2 : Hid (Below w.heap.size w w2) := hqZ (((Below.refl _ _).alloc (Nat.le_refl _) _).trans (k2.below (by omega)))
      clear h2 h2' k2
      go_wp2_with fail
      rw [HR.out]
      exact bodyPost_ret (results_agg_tmp2 rfl aggDer rfl (cs := zs5) rfl H2.out.cellsAll) rfl ⟨zs5, rfl, TvF.zero _ _, HB2.out⟩
set_option maxRecDepth 100000 in
theorem same_any (v u : Value) (a b : List UInt8) (w : World) (ha : Bs w v a) (hb : Bs w u b) :
    Calls Try.prog 11 #[v, u] w fun e w' => e = .returned (.bool (decide (a = b))) ∧ ∃ n, w' = w.drewN n := by
  have HA := hqZ ha
  have HB := hqZ hb
  obtain ⟨ad, cap, rfl, hcap, hcm⟩ := ha.form
  obtain ⟨bd, cap', rfl, hcap', hcm'⟩ := hb.form
  clear ha hb
  unfold maxLen at hcm hcm'
  by_cases hl : a.length = b.length
  · have hne : ((a.length : Int) != (b.length : Int)) = false := by simp [hl]
    have HLL := hqZ hl
    have hle : a.length ≤ b.length := by omega
    have hge : b.length ≤ a.length := by omega
    clear hl
    go_enter Try.func11, Try.ntmps11
    go_wp2_with fail
    go_loopw [5] (fun i wr => ∃ (k n : Nat), k ≤ a.length ∧ i = .int .i64 k ∧ wr = w.drewN n ∧ ∀ j, j < k → a[j]? = b[j]?) (fun i _ => a.length - (intOf i).toNat)
    case atStart => exact ⟨0, 0, Nat.zero_le _, rfl, rfl, by simp⟩
    case round =>
      obtain ⟨k, n, hk, rfl, rfl, heq⟩ := hrel
      have HE := hqZ heq
      clear heq
      by_cases hlt : k < a.length
      · have hlt1 : (k : Int) < (a.length : Int) := by omega
        have hltb : k < b.length := by omega
        have hlt2 : (k : Int) < (b.length : Int) := by omega
        obtain ⟨b1, o1, rfl, hc1⟩ := HA.out.addr (by rw [bCells_length]; omega)
        obtain ⟨b2, o2, rfl, hc2⟩ := HB.out.addr (by rw [bCells_length]; omega)
        have c1 : w.cell? ⟨b1, o1 + k, none⟩ = some (.int .u8 a[k].toNat) := hc1 k _ (bCells_get a k hlt)
        have c2 : w.cell? ⟨b2, o2 + k, none⟩ = some (.int .u8 b[k].toNat) := hc2 k _ (bCells_get b k hltb)
        clear hc1 hc2
        by_cases hx : a[k] = b[k]
        · have hx1 : ((a[k].toNat : Int) != (b[k].toNat : Int)) = false := by simp [hx]
          have HX := hqZ hx
          clear hx
          have HE' : Hid (∀ j, j < k + 1 → a[j]? = b[j]?) := hqZ (by
            intro j hj
            rcases Nat.lt_or_ge j k with h | h
            · exact HE.out j h
            · obtain rfl : j = k := by omega
              rw [List.getElem?_eq_getElem hlt, List.getElem?_eq_getElem hltb, HX.out])
          go_wp2_with fail
          go_quiet (fail)
          go_wp2_with fail
          go_roundw
          case rel => exact ⟨k + 1, _, by omega, by go_num, rfl, HE'.out⟩
          case measure => simp [intOf]; omega
        · have hx1 : ((a[k].toNat : Int) != (b[k].toNat : Int)) = true := by
            rw [bne_iff_ne]
            intro e
            exact hx (UInt8.toNat_inj.1 (by omega))
          have HX := hqZ hx
          clear hx
          have HR : Hid (decide (a = b) = false) := hqZ (by
            rw [decide_eq_false_iff_not]
            rintro rfl
            exact HX.out rfl)
          go_wp2_with fail
          go_quiet (fail)
          go_wp2_with fail
          go_ret
          rw [HR.out]
          exact ⟨rfl, n + nq, by simp [World.drewN, Nat.add_assoc]⟩
      · obtain rfl : k = a.length := by omega
        have HR : Hid (decide (a = b) = true) := hqZ (by
          rw [decide_eq_true_eq]
          apply List.ext_getElem? 
          intro j
          rcases Nat.lt_or_ge j a.length with h | h
          · exact HE.out j h
          · rw [List.getElem?_eq_none h, List.getElem?_eq_none (by omega)])
        go_wp2_with fail
        go_ret
        rw [HR.out]
        exact ⟨rfl, _, rfl⟩
  · have hne : ((a.length : Int) != (b.length : Int)) = true := by rw [bne_iff_ne]; omega
    have HR : Hid (decide (a = b) = false) := hqZ (by rw [decide_eq_false_iff_not]; rintro rfl; exact hl rfl)
    clear hl
    go_enter Try.func11, Try.ntmps11
    go_wp2_with fail
    go_ret
    rw [HR.out]
    exact ⟨rfl, 0, rfl⟩
theorem same_b (v u : Value) (a b : List UInt8) (w : World) (ha : Bs w v a) (hb : Bs w u b) :
    Calls Try.prog 11 #[v, u] w fun e w' => e = .returned (.bool (decide (a = b))) ∧ Below w.heap.size w w' :=
  (same_any v u a b w ha hb).mono (by rintro e w' ⟨rfl, n, rfl⟩; exact ⟨rfl, below_drewN (Below.refl _ _) n⟩)
def beB : Nat → Nat → List UInt8
  | 0, _ => []
  | k + 1, n => beB k (n / 256) ++ [UInt8.ofNat (n % 256)]
theorem beB_cons : ∀ (k n : Nat), UInt8.ofNat (n / 256 ^ k % 256) :: beB k n = beB (k + 1) n
  | 0, n => by simp [beB]
  | k + 1, n => by
    rw [beB, beB, ← beB_cons k (n / 256), Nat.div_div_eq_div_mul, ← Nat.pow_succ', List.cons_append]
theorem beB_length : ∀ (k n : Nat), (beB k n).length = k
  | 0, _ => rfl
  | k + 1, n => by simp [beB, beB_length k]
theorem putB_eq (n : Nat) : putB n = beB 8 n := by
  have h : ∀ k, k ≤ 8 → ((List.range' (8 - k) k).map fun i => UInt8.ofNat (n / 2 ^ (56 - 8 * i) % 256)) = beB k n := by
    intro k
    induction k with
    | zero => intro _; rfl
    | succ k ih =>
      intro hk
      rw [← beB_cons, ← ih (by omega), List.range'_succ, List.map_cons, show 8 - (k + 1) + 1 = 8 - k by omega]
      congr 4
      rw [show (256 : Nat) = 2 ^ 8 by rfl, ← Nat.pow_mul]
      congr 1
      omega
  have := h 8 (Nat.le_refl _)
  rw [← this, putB, List.range_eq_range']
def shortR : Nat → Nat → List UInt8
  | 0, _ => []
  | f + 1, n => if n < 256 then [UInt8.ofNat n] else shortR f (n / 256) ++ [UInt8.ofNat (n % 256)]
theorem stripZ_snoc : ∀ (l : List UInt8) (x : UInt8), l ≠ [] → (∃ y ∈ l, y ≠ 0) → stripZ (l ++ [x]) = stripZ l ++ [x]
  | [], _, h, _ => absurd rfl h
  | [a], x, _, h => by
    obtain ⟨y, hy, h0⟩ := h
    rw [List.mem_singleton] at hy
    subst hy
    simp [stripZ, h0]
  | a :: b :: l, x, _, h => by
    by_cases h0 : a = 0
    · subst h0
      simp only [List.cons_append, stripZ, if_true]
      refine stripZ_snoc (b :: l) x (by simp) ?_
      obtain ⟨y, hy, h1⟩ := h
      rcases List.mem_cons.1 hy with rfl | hy
      · exact absurd rfl h1
      · exact ⟨y, hy, h1⟩
    · simp [stripZ, h0]
theorem stripZ_zeros : ∀ (l : List UInt8) (x : UInt8), (∀ y ∈ l, y = 0) → stripZ (l ++ [x]) = [x]
  | [], _, _ => rfl
  | [a], x, h => by
    have := h a (by simp)
    subst this
    simp [stripZ]
  | a :: b :: l, x, h => by
    have := h a (by simp)
    subst this
    simp only [List.cons_append, stripZ, if_true]
    exact stripZ_zeros (b :: l) x (fun y hy => h y (by simp [hy]))
theorem beB_zero : ∀ (k : Nat), ∀ y ∈ beB k 0, y = 0
  | 0, y, h => by simp [beB] at h
  | k + 1, y, h => by
    simp only [beB, List.mem_append, List.mem_singleton] at h
    rcases h with h | h
    · exact beB_zero k y (by simpa using h)
    · rw [h]; rfl
theorem beB_some : ∀ (k n : Nat), 0 < n → n < 256 ^ k → ∃ y ∈ beB k n, y ≠ 0
  | 0, n, h0, h => by simp at h; omega
  | k + 1, n, h0, h => by
    by_cases hn : n < 256
    · refine ⟨UInt8.ofNat (n % 256), by simp [beB], fun e => ?_⟩
      have := congrArg UInt8.toNat e
      simp at this
      omega
    · obtain ⟨y, hy, h1⟩ := beB_some k (n / 256) (by omega) (by rw [Nat.pow_succ] at h; omega)
      exact ⟨y, by simp [beB, hy], h1⟩
theorem shortR_eq : ∀ (k n : Nat), n < 256 ^ (k + 1) → stripZ (beB (k + 1) n) = shortR (k + 1) n
  | 0, n, h => by
    have : n < 256 := by simpa using h
    simp [beB, stripZ, shortR, this, Nat.mod_eq_of_lt this]
  | k + 1, n, h => by
    rw [beB, shortR]
    by_cases hn : n < 256
    · rw [if_pos hn, Nat.div_eq_of_lt hn, stripZ_zeros _ _ (beB_zero _), Nat.mod_eq_of_lt hn]
    · have h' : n / 256 < 256 ^ (k + 1) := by rw [Nat.pow_succ] at h; omega
      rw [if_neg hn, stripZ_snoc _ _ (by intro e; have := congrArg List.length e; simp [beB_length] at this) (beB_some _ _ (by omega) h'), shortR_eq k (n / 256) h']
theorem shortB_eq (n : Nat) (h : n < 256 ^ 8) : shortB n = shortR 8 n := by rw [shortB, putB_eq, shortR_eq 7 n h]
set_option maxRecDepth 100000 in
theorem wrap_mul_add (n c : Nat) (hc : c < 256) (h : n < 256 ^ 7) : IntKind.u64.wrap (IntKind.u64.wrap (256 * (n : Int)) + IntKind.u64.wrap (c : Int)) = ((n * 256 + c : Nat) : Int) := by
  simp only [IntKind.wrap_u64]
  have : (256 : Nat) ^ 7 = 72057594037927936 := by rfl
  omega
set_option maxRecDepth 100000 in
theorem refGet_any (v : Value) (l : List UInt8) (w : World) (h : Bs w v l) :
    Calls Try.prog 42 #[v] w fun e w' => e = .returned (.tuple #[.int .u64 (getB l).1, .bool (getB l).2]) ∧ w = w' := by
  obtain ⟨a, cap, rfl, hcap, hcm⟩ := h.form
  unfold maxLen at hcm
  by_cases h0 : (l.length : Int) < 1
  · have HG : Hid (getB l = (0, false)) := hqZ (by simp only [getB]; rw [if_pos (by omega)])
    go_enter Try.func42, Try.ntmps42
    go_wp2
    go_ret2
    rw [HG.out]
    exact ⟨rfl, rfl⟩
  · by_cases h8 : (8 : Int) < l.length
    · have HG : Hid (getB l = (0, false)) := hqZ (by simp only [getB]; rw [if_pos (by omega)])
      go_enter Try.func42, Try.ntmps42
      go_wp2
      go_ret2
      rw [HG.out]
      exact ⟨rfl, rfl⟩
    · have HG : Hid (getB l = (getN l, true)) := hqZ (by simp only [getB]; rw [if_neg (by omega)])
      obtain ⟨b, off, rfl, hc⟩ := h.addr (by rw [bCells_length]; omega)
      have HC := hqZ hc
      clear hc h
      go_enter Try.func42, Try.ntmps42
      go_wp2
      go_loop [4, 5] (fun n i => ∃ k : Nat, k ≤ l.length ∧ i = .int .i64 k ∧ n = .int .u64 (getN (l.take k))) (fun _ i => l.length - (intOf i).toNat)
      case atStart => exact ⟨0, Nat.zero_le _, rfl, rfl⟩
      case round =>
        obtain ⟨k, hk, rfl, rfl⟩ := hrel
        by_cases hlt : k < l.length
        · have c0 : w.cell? ⟨b, off + k, none⟩ = some (.int .u8 l[k].toNat) := HC.out k _ (bCells_get l k hlt)
          have hX : Hid (Value.int .u64 (IntKind.u64.wrap (IntKind.u64.wrap (256 * (getN (l.take k) : Int)) + IntKind.u64.wrap (l[k].toNat : Int))) = .int .u64 (getN (l.take (k + 1)))) := by
            refine hqZ ?_
            rw [List.take_succ_eq_append_getElem hlt, getN_snoc]
            have h1 := getN_lt (l.take k)
            have h2 : (l.take k).length ≤ 7 := by rw [List.length_take]; omega
            have h3 : (256 : Nat) ^ (l.take k).length ≤ 256 ^ 7 := Nat.pow_le_pow_right (by decide) h2
            exact congrArg _ (wrap_mul_add _ _ l[k].toNat_lt (by omega))
          go_wp2
          go_round
          case rel => exact ⟨k + 1, by omega, by go_num, hX.out⟩
          case measure => simp [intOf]; omega
        · obtain rfl : k = l.length := by omega
          go_wp2
          go_ret2
          rw [HG.out]
          exact ⟨by simp, rfl⟩
end Go.Proofs.Ytpjkidcfidmfaaa
