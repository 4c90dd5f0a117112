/- The statement CredKeeps, walked. -/
import Derived.Test.YtolhphofbkiplaaCredAgree2
import Derived.Test.YtolhphofbkiplaaFlat
import Derived.Deep.DeepCutAuto
import Derived.Outline
namespace Go.Proofs.Ytolhphofbkiplaa
set_option linter.unusedSimpArgs false
set_option linter.unusedVariables false
open Go.RowKit

theorem Cr.In.below {w w' : World} {c : Cr} (h : c.In w) (hb : Below w.heap.size w w') : c.In w' := ⟨h.1, h.2.1.below hb, h.2.2⟩
theorem Cr.In.one {w : World} {c : Cr} (h : c.In w) : ∀ u ∈ c.cells, u.oneCell' = true := by
  obtain ⟨a, cc, hbv, _⟩ := h.2.1.form
  exact Cr.one c (by rw [hbv]; rfl)
theorem Cr.In.apart {w : World} {c : Cr} (h : c.In w) (p : Nat) (hp : w.heap.size ≤ p) : c.box = [] ∨ c.bv.ownBlock ≠ some p := by
  by_cases hbe : c.box = []
  · exact .inl hbe
  · obtain ⟨ac, cc, hbv, _⟩ := h.2.1.form
    refine .inr fun e => ?_
    obtain ⟨b, off, hb, hcl2⟩ := Sl.addr (by have := h.2.1; rw [hbv] at this; exact this) (by rw [bCells_length]; exact List.length_pos_iff.2 hbe)
    have hlt := World.block_lt_of_cell? w _ (hcl2 0 _ (bCells_get c.box 0 (List.length_pos_iff.2 hbe)))
    rw [hbv, hb] at e
    simp [Value.ownBlock] at e
    simp at hlt
    omega

theorem elCreds : Elem Try.prog 26 33 21 80 (.agg zs21.toArray) := by
  refine Elem.mk Try.underlying26 ?_ rfl (by decide)
  kernel_rfl
theorem sizeCred (w : World) : (sizeOf 33).run Try.prog w = .ok 21 w := by kernel_rfl

/-- Where a server stands in a list, if it does. -/
def AtR (C : List Cr) (s : ByteArray) (i : Nat) (a : Int) : Prop := (a = -1 ∧ ∀ c ∈ C.take i, c.srv ≠ s) ∨ ∃ j c, j < i ∧ a = (j : Int) ∧ C[j]? = some c ∧ c.srv = s

/-- The law's own list, and the store: at a world. -/
structure Held (w wr : World) (B p : Nat) (L : List (Option Cr)) (hv : Value) (C : List Cr) : Prop where
  base : ∃ F : Nat → Prop, StoreAt wr F p L ∧ (∀ j, F j → B ≤ j) ∧ ∀ b, hv.ownBlock = some b → b < wr.heap.size ∧ ¬ F b ∧ B ≤ b
  mat : Mat L (C.map Cr.dat)
  own : Own wr B 33 21 hv C.length (C.map Cr.cells).flatten
  ins : ∀ c ∈ C, c.In w

theorem Held.boxes {w wr : World} {B p : Nat} {L : List (Option Cr)} {hv : Value} {C : List Cr} (h : Held w wr B p L hv C) : ∀ c, some c ∈ L → c.box.length ≤ 140737488351232 := by
  intro c hc
  obtain ⟨d, hd, e⟩ := List.mem_map.1 (h.mat.mem hc)
  have := (h.ins d hd).2.2.1
  simp only [Cr.dat, Prod.mk.injEq] at e
  rw [← e.2.1]
  exact this

theorem Held.few {w wr : World} {B p : Nat} {L : List (Option Cr)} {hv : Value} {C : List Cr} (h : Held w wr B p L hv C) : C.length ≤ 16 := by
  have h1 := h.mat.used
  rw [List.length_map] at h1
  have h2 := usedN_le L
  rw [h.mat.1] at h2
  omega

theorem Held.below {w wr w' : World} {B p : Nat} {L : List (Option Cr)} {hv : Value} {C : List Cr} (h : Held w wr B p L hv C) (hb : Below wr.heap.size wr w') : Held w w' B p L hv C := by
  obtain ⟨⟨F, h1, h2, h3⟩, hm, ho, hi⟩ := h
  have hz := hb.size
  exact ⟨⟨F, h1.below hb, h2, fun b e => ⟨by have := (h3 b e).1; omega, (h3 b e).2⟩⟩, hm, ho.below hb, hi⟩

theorem Held.tight {w wr : World} {B p : Nat} {L : List (Option Cr)} {hv : Value} {C : List Cr} (h : Held w wr B p L hv C) :
    ∃ F : Nat → Prop, StoreAt wr F p L ∧ (∀ j, F j → B ≤ j ∧ j < wr.heap.size) ∧ ∀ b, hv.ownBlock = some b → b < wr.heap.size ∧ ¬ F b ∧ B ≤ b := by
  obtain ⟨⟨F, h1, h2, h3⟩, hm, ho, hi⟩ := h
  exact ⟨_, h1.tight, fun j hj => ⟨h2 j hj.1, hj.2⟩, fun b e => ⟨(h3 b e).1, fun hf => (h3 b e).2.1 hf.1, (h3 b e).2.2⟩⟩

set_option maxHeartbeats 4000000 in
set_option maxRecDepth 100000 in
theorem credKeeps_walk (v : Value) (l : List St) (w : World) (hs : Sl w 23 v l.length (l.map St.cells).flatten) (hin : ∀ x ∈ l, x.cr.In w) :
    Calls Try.prog 3 #[v] w fun e w' => e = .returned (.bool true) ∧ Below w.heap.size w w' := by
  obtain ⟨av, cv, rfl, hcv, hmv⟩ := hs.form
  have HS := Lib.hid hs
  have HIN := Lib.hid hin
  unfold maxLen at hmv
  clear hs hin
  go_enter Try.func3, Try.ntmps3
  go_wp2_with fail
  refine (alive16_any w).mono ?_
  rintro e w1 ⟨rfl, hb1⟩
  have hz1 := hb1.size
  have HB1 := Lib.hid hb1
  clear hb1
  by_cases hl : l.length ≤ 100
  · have hl' : ¬ (100 : Int) < l.length := by omega
    go_wp2_with fail
    refine (credNew_any w1).mono ?_
    rintro e w2 ⟨rfl, hs2, hb2⟩
    obtain ⟨p, hp⟩ : ∃ p, p = w1.heap.size := ⟨_, rfl⟩
    have hs2' : StoreAt w2 (fun j => j = p) p noneL := by rw [hp]; exact hs2
    rw [← hp]
    have hpw : w.heap.size ≤ p := by omega
    have hpl := hs2'.lt
    have HS2 := Lib.hid hs2'
    have HB2 : Hid (Below w.heap.size w w2) := Lib.hid (HB1.out.trans (hb2.mono hz1))
    have hz2 := hb2.size
    clear hs2 hs2' hb2 hp
    go_wp2_with fail
    have hheld : Held w (w2.alloc (.cells #[] 33)) w.heap.size p noneL (.slice (some ⟨w2.heap.size, 0, none⟩) 0 0) [] := by
      refine ⟨⟨fun j => j = p, HS2.out.below ((Below.refl _ _).alloc (Nat.le_refl _) _), fun j hj => by omega, fun b hb => ?_⟩, Mat.none, Own.nil _ _ _ _ _, by simp⟩
      simp [Value.ownBlock] at hb
      subst hb
      refine ⟨by simp, by omega, by omega⟩
    have HH2 := Lib.hid hheld
    have HB2' : Hid (Below w.heap.size w (w2.alloc (.cells #[] 33))) := Lib.hid (HB2.out.alloc (by omega) _)
    clear hheld HS2 HB2
    go_loopw [4, 22] (fun hv i wr => ∃ (k : Nat) (L : List (Option Cr)) (C : List Cr), k ≤ l.length ∧ i = .int .i64 k ∧ Held w wr w.heap.size p L hv C ∧ Below w.heap.size w wr) (fun _ i _ => l.length - (intOf i).toNat)
    case atStart => exact ⟨0, _, [], Nat.zero_le _, rfl, HH2.out, HB2'.out⟩
    case round =>
      obtain ⟨k, L, C, hk, rfl, hH, hB⟩ := hrel
      have HH := Lib.hid hH
      have HBr := Lib.hid hB
      have hzr := hB.size
      have hfew := hH.few
      by_cases hlt : k < l.length
      · have hin := HIN.out l[k] (List.getElem_mem hlt)
        have hcells : ∀ x ∈ l, x.cells.length = 23 := fun x hx => St.cells_length x (HIN.out x hx).1
        obtain ⟨bl, ol, rfl, hcell⟩ := HS.out.addr (by rw [HS.out.1]; omega)
        have hca : CellsAt wr bl (ol + k * 23) (l[k]).cells := by
          intro j u hj
          have hj' : j < 23 := by have := (List.getElem?_eq_some_iff.1 hj).1; rw [hcells _ (List.getElem_mem hlt)] at this; exact this
          have := hcell (k * 23 + j) u (by rw [flatC_at (n := 23) St.cells l hcells k j hlt hj']; exact hj)
          rw [Nat.add_assoc]
          exact below_cell hB this
        have hki : (k : Int) < l.length := by omega
        have hxl := hcells _ (List.getElem_mem hlt)
        generalize l[k] = x at hin hca hxl
        have hx1 : ∀ u ∈ x.cells, u.oneCell' = true := by
          intro u hu
          simp only [St.cells, List.mem_cons, List.mem_append, List.not_mem_nil, or_false] at hu
          rcases hu with rfl | hu | rfl
          · rfl
          · exact hin.one u hu
          · rfl
        have HIX := Lib.hid hin
        have HCA := Lib.hid hca
        have HXL := Lib.hid hxl
        have HX1 := Lib.hid hx1
        obtain ⟨zx, hzx⟩ : ∃ zx : List Value, zx = .int .i64 0 :: (zs21 ++ [.int .i64 0]) := ⟨_, rfl⟩
        have HN : Hid (Blk (wr.alloc (.cells zx.toArray 35)) wr.heap.size zx 35) := Lib.hid (Blk.new wr zx _)
        rw [hzx] at HN
        clear hin hca hxl hx1 hcell hcells hzx hH hB
        go_wp2_with (first | ((with_reducible show wpList _ _ _ (⟨some 25, _, _, _, _, _⟩ :: _) _ _); refine wpList_ldAgg rfl (.tmp 24) aggStep rfl rfl (cs := x.cells) HXL.out HCA.out ?_) | ((with_reducible show wpList _ _ _ (⟨none, .store _ (.tmp 6) (.tmp 25), _, _, _, _⟩ :: _) _ _); refine wpList_stAgg rfl (.tmp 6) (.tmp 25) aggStep rfl rfl (vs := x.cells) rfl HXL.out HN.out (Nat.le_refl _) HX1.out ?_))
        intro w4 h4 k4
        have h4' : Blk w4 wr.heap.size x.cells 35 := by
          rw [List.drop_of_length_le (by decide), List.append_nil] at h4
          exact h4
        have hz4 := k4.size
        simp at hz4
        have hb4 : Below wr.heap.size wr w4 := ((Below.refl _ _).alloc (Nat.le_refl _) _).trans (k4.below (by omega))
        have hy1 : w4.cell? ⟨wr.heap.size, 1, none⟩ = some (.string x.cr.srv) := by rw [h4'.cell]; rfl
        have H4 := Lib.hid h4'
        have HH4 := Lib.hid (HH.out.below hb4)
        have HB4 : Hid (Below w.heap.size w w4) := Lib.hid (HBr.out.trans (hb4.mono hzr))
        obtain ⟨ah, ch, hhv, hch, hmh⟩ := HH.out.own.sl.form
        subst hhv
        obtain ⟨q, hq⟩ : ∃ q, q = wr.heap.size := ⟨_, rfl⟩
        rw [← hq] at H4 hz4 hy1 ⊢
        have hqw : w.heap.size ≤ q := by omega
        unfold maxLen at hmh
        have hvq : ∀ b, (Value.slice ah C.length ch).ownBlock = some b → b < q := fun b e => by
          obtain ⟨F, _, _, h3⟩ := HH.out.base
          have := (h3 b e).1
          omega
        have HVQ := Lib.hid hvq
        have hpq : p < q := by
          obtain ⟨F, h1, _⟩ := HH.out.base
          have := h1.lt
          omega
        clear h4 h4' k4 hb4 HN HCA HBr HH hq hvq
        go_wp2_with fail
        go_loopw [8, 32] (fun a i wx => ∃ (i' : Nat) (av : Int), i' ≤ C.length ∧ i = .int .i64 i' ∧ a = .int .i64 av ∧ AtR C x.cr.srv i' av ∧ Below w4.heap.size w4 wx) (fun _ i _ => C.length - (intOf i).toNat)
        case atStart => exact ⟨0, -1, Nat.zero_le _, rfl, rfl, .inl ⟨rfl, by simp⟩, Below.refl _ _⟩
        case round =>
          obtain ⟨i, av, hi, rfl, rfl, hat, hBx⟩ := hrel
          have HAT := Lib.hid hat
          have HBX := Lib.hid hBx
          have hzx := hBx.size
          clear hat
          by_cases hic : i < C.length
          · have hkey : ∀ y ∈ C, y.cells.length = 21 := fun y hy => Cr.cells_length y (HH4.out.ins y hy).1
            obtain ⟨bh, oh, rfl, hcell⟩ := HH4.out.own.sl.addr (by rw [HH4.out.own.1]; omega)
            have hca : CellsAt wr bh (oh + i * 21) (C[i]).cells := by
              intro j u hj
              have hj' : j < 21 := by have := (List.getElem?_eq_some_iff.1 hj).1; rw [hkey _ (List.getElem_mem hic)] at this; exact this
              have := hcell (i * 21 + j) u (by rw [flatC_at (n := 21) Cr.cells C hkey i j hic hj']; exact hj)
              rw [Nat.add_assoc]
              exact below_cell hBx this
            have hii : (i : Int) < C.length := by omega
            have hsn := List.take_succ_eq_append_getElem hic
            have hgi : C[i]? = some C[i] := List.getElem?_eq_getElem hic
            have hcin := HH4.out.ins _ (List.getElem_mem hic)
            have hst0 : C[i].srv ≠ x.cr.srv → AtR C x.cr.srv (i + 1) av := by
              intro hne
              rcases HAT.out with ⟨h1, h2⟩ | ⟨j, c, h1, h2⟩
              · refine .inl ⟨h1, fun c hc => ?_⟩
                rw [hsn] at hc
                rcases List.mem_append.1 hc with hc | hc
                · exact h2 c hc
                · rw [List.mem_singleton.1 hc]; exact hne
              · exact .inr ⟨j, c, by omega, h2⟩
            have hst1 : C[i].srv = x.cr.srv → AtR C x.cr.srv (i + 1) i := fun e => .inr ⟨i, _, by omega, rfl, hgi, e⟩
            generalize C[i] = c at hca hcin hst0 hst1
            have hcl := Cr.cells_length c hcin.1
            have HCL := Lib.hid hcl
            have HCA := Lib.hid hca
            have HC1 := Lib.hid hcin.one
            have HST0 := Lib.hid hst0
            have HST1 := Lib.hid hst1
            have HN := Lib.hid (Blk.new wr zs21 33)
            clear hca hcl hcin hst0 hst1 hsn hgi hcell hkey hBx
            go_wp2_with (first | ((with_reducible show wpList _ _ _ (⟨some 36, _, _, _, _, _⟩ :: _) _ _); refine wpList_ldAgg rfl (.tmp 35) aggCred rfl rfl (cs := c.cells) HCL.out HCA.out ?_) | ((with_reducible show wpList _ _ _ (⟨none, .store _ (.tmp 10) (.tmp 36), _, _, _, _⟩ :: _) _ _); refine wpList_stAgg rfl (.tmp 10) (.tmp 36) aggCred rfl rfl (vs := c.cells) rfl HCL.out HN.out (Nat.le_refl _) HC1.out ?_))
            intro w5 h5 k5
            have h5' : Blk w5 wr.heap.size c.cells 33 := by
              rw [List.drop_of_length_le (by decide), List.append_nil] at h5
              exact h5
            have hb5 : Below wr.heap.size wr w5 := ((Below.refl _ _).alloc (Nat.le_refl _) _).trans (k5.below (by omega))
            have hc0 : w5.cell? ⟨wr.heap.size, 0, none⟩ = some (.string c.srv) := by rw [h5'.cell]; rfl
            have HBX5 : Hid (Below w4.heap.size w4 w5) := Lib.hid (HBX.out.trans (hb5.mono hzx))
            clear h5 h5' k5 hb5 HN HCA
            by_cases hsv : c.srv = x.cr.srv
            · have hs2 : c.srv.toList = x.cr.srv.toList := by rw [hsv]
              have HST := Lib.hid (HST1.out hsv)
              clear hsv
              go_wp2_with fail
              go_roundw
              case rel => exact ⟨i + 1, i, by omega, by go_num, rfl, HST.out, HBX5.out⟩
              case measure => simp [intOf]; omega
            · have hs2 : ¬ c.srv.toList = x.cr.srv.toList := fun e => hsv ((bytes_toList_inj _ _).1 e)
              have hs3 : (c.srv.toList == x.cr.srv.toList) = false := by simpa using hs2
              have HST := Lib.hid (HST0.out hsv)
              clear hsv hs2
              go_wp2_with fail
              go_roundw
              case rel => exact ⟨i + 1, av, by omega, by go_num, rfl, HST.out, HBX5.out⟩
              case measure => simp [intOf]; omega
          · obtain rfl : i = C.length := by omega
            have z0 : wr.cell? ⟨q, 0, none⟩ = some (.int .i64 x.kind) := below_cell hBx (by rw [H4.out.cell]; rfl)
            have H5 := Lib.hid (H4.out.below hBx (by omega))
            have HH5 := Lib.hid (HH4.out.below hBx)
            have HB5 : Hid (Below w.heap.size w wr) := Lib.hid (HB4.out.trans (hBx.mono (by omega)))
            have hqr : q < wr.heap.size := H5.out.lt
            clear hBx HBX H4 HH4 HB4 hy1
            have hkeys : ∀ y ∈ C, y.cells.length = 21 := fun y hy => Cr.cells_length y (HH5.out.ins y hy).1
            have HKEYS := Lib.hid hkeys
            have hcx : CellsAt wr q 1 x.cr.cells := by
              intro j u hj
              have hj' : j < 21 := by have := (List.getElem?_eq_some_iff.1 hj).1; rw [Cr.cells_length x.cr HIX.out.1] at this; exact this
              rw [H5.out.cell]
              rw [← x.ccr HIX.out.1, List.getElem?_take, if_pos hj', List.getElem?_drop] at hj
              exact hj
            have HCX := Lib.hid hcx
            have hxcl := Cr.cells_length x.cr HIX.out.1
            have HXCL := Lib.hid hxcl
            have HXC1 := Lib.hid HIX.out.one
            clear hkeys hcx hxcl
            by_cases h0 : x.kind = 0
            · have h0' : (x.kind == 0) = true := by simp [h0]
              rcases HAT.out with ⟨rfl, hno⟩ | ⟨j, d, hj, rfl, hd, hsrv⟩
              · have hno' : ∀ d ∈ C.map Cr.dat, d.1 ≠ x.cr.srv := by
                  intro d hd
                  obtain ⟨c, hc, rfl⟩ := List.mem_map.1 hd
                  rw [List.take_length] at hno
                  exact hno c hc
                obtain ⟨F, hst, hF, hvF⟩ := HH5.out.tight
                have HST := Lib.hid hst
                have HF := Lib.hid hF
                have HVF := Lib.hid hvF
                have HNO := Lib.hid hno'
                have hpF := (hF p hst.1).2
                have hzr5 := HB5.out.size
                clear hst hF hvF hno hno' h0
                by_cases h16 : C.length = 16
                · have h16' : ((C.length : Int) == 16) = true := by simp; omega
                  have H16 := Lib.hid h16
                  clear h16
                  go_wp2_with ((with_reducible show wpList _ _ _ (⟨some 67, _, _, _, _, _⟩ :: _) _ _); refine wpList_ldAgg rfl (.tmp 66) aggCred rfl rfl (cs := x.cr.cells) HXCL.out HCX.out ?_)
                  refine (credPut_any F p L x.cr wr HST.out HIX.out.1 (HIX.out.2.1.below HB5.out) HIX.out.2.2.1 (HIX.out.apart p hpw)).mono ?_
                  rintro e w7 ⟨c', hdat, rfl, hs7, hk7⟩
                  have hcs : c'.srv = x.cr.srv := by simp only [Cr.dat, Prod.mk.injEq] at hdat; exact hdat.1
                  have hpf := HH5.out.mat.put_full c' (by rw [hcs]; exact HNO.out) (by rw [List.length_map]; exact H16.out)
                  rw [hpf] at hs7 ⊢
                  have hz7 := hk7.size
                  have HHn : Hid (Held w w7 w.heap.size p L (.slice ah C.length ch) C) := Lib.hid (by
                    refine ⟨⟨_, hs7, fun i hi => ?_, fun b hb => ?_⟩, HH5.out.mat, ?_, HH5.out.ins⟩
                    · rcases hi with hi | hi
                      · exact (HF.out i hi).1
                      · omega
                    · obtain ⟨h1, h2, h3⟩ := HVF.out b hb
                      exact ⟨by omega, fun h => by rcases h with h | h; exact h2 h; omega, h3⟩
                    · exact HH5.out.own.keep hk7 (fun b hb h => by
                        obtain ⟨h1, h2, h3⟩ := HVF.out b hb
                        rcases h with h | h
                        · exact h2 (h ▸ HST.out.1)
                        · omega))
                  have HQn := Lib.hid (H5.out.keep hk7 (by omega))
                  have HBn : Hid (Below w.heap.size w w7) := Lib.hid (HB5.out.trans (hk7.below (by omega)))
                  clear hs7 hk7 hdat hcs hpf H5 HB5 HCX HST HF HVF HNO HAT z0
                  obtain ⟨⟨Fn, hstn, _⟩, hmn, hon, hin'⟩ := HHn.out
                  have HAG := Lib.hid (agree_any Fn p _ _ _ x _ hstn HHn.out.boxes hmn hon.sl (fun c hc => (hin' c hc).below HBn.out) HIX.out.1)
                  have hzn := HBn.out.size
                  clear hstn hmn hon hin'
                  go_wp2_with ((with_reducible show wpList _ _ _ (⟨some 96, _, _, _, _, _⟩ :: _) _ _); refine wpList_ldAgg rfl (.tmp 6) aggStep rfl rfl (cs := x.cells) HXL.out HQn.out.cellsAll ?_)
                  refine HAG.out.mono ?_
                  rintro e wz ⟨rfl, hbz⟩
                  have HHz := Lib.hid (HHn.out.below hbz)
                  have HBz : Hid (Below w.heap.size w wz) := Lib.hid (HBn.out.trans (hbz.mono hzn))
                  clear hbz
                  go_wp2_with fail
                  go_roundw
                  case rel => exact ⟨k + 1, _, _, by omega, by go_num, HHz.out, HBz.out⟩
                  case measure => simp [intOf]; omega
                · have h16' : ((C.length : Int) == 16) = false := by simp; omega
                  have H16 := Lib.hid h16
                  have HO5 := Lib.hid (HH5.out.own.alloc (.cells x.cr.cells.toArray 33))
                  clear h16
                  go_wp2_with (first | ((with_reducible show wpList _ _ _ (⟨some 50, _, _, _, _, _⟩ :: _) _ _); refine wpList_ldAgg rfl (.tmp 49) aggCred rfl rfl (cs := x.cr.cells) HXCL.out HCX.out ?_) | ((with_reducible show wpList _ _ _ (⟨some 51, _, _, _, _, _⟩ :: _) _ _); refine wpList_bs1 rfl (.tmp 50) elCreds rfl rfl (by have := HXCL.out; simpa using this) (by decide) ?_) | ((with_reducible show wpList _ _ _ (⟨some 52, _, _, _, _, _⟩ :: _) _ _); refine wpList_app rfl (.tmp 48) (.tmp 51) elCreds rfl w.heap.size HO5.out (Sl.lit (n := 1) rfl (by simpa using HXCL.out) HXC1.out (by unfold maxLen; decide)) (by unfold maxLen; omega) (by omega) (by simp; omega) ?_))
                  intro v2 w6 ho6 hk6 hvb6
                  rw [show (C.map Cr.cells).flatten ++ x.cr.cells.toArray.toList = ((C ++ [x.cr]).map Cr.cells).flatten by simp] at ho6
                  have hz6 := hk6.size
                  simp at hz6
                  have hka : Keeps (fun i => (Value.slice ah C.length ch).ownBlock = some i ∨ wr.heap.size ≤ i) wr w6 := by
                    refine ((Keeps.refl _ _).alloc _ (.inr (Nat.le_refl _))).trans (hk6.mono (fun i hi => ?_))
                    rcases hi with ⟨h, _⟩ | h
                    · exact .inl h
                    · try simp at h
                      exact .inr (by omega)
                  have hvb : ∀ b, v2.ownBlock = some b → b < w6.heap.size ∧ ¬ F b ∧ w.heap.size ≤ b := by
                    intro b hb
                    obtain ⟨g2, c2, _, hg2, hBg2, hh2, _⟩ := ho6.form' (by omega)
                    have hlt2 := block_lt hh2
                    rw [hg2] at hb
                    simp [Value.ownBlock] at hb
                    subst hb
                    refine ⟨hlt2, fun hf => ?_, hBg2⟩
                    rcases hvb6 g2 (by rw [hg2]; rfl) with h | h
                    · exact (HVF.out g2 h).2.1 hf
                    · have := (HF.out g2 hf).2
                      try simp at h
                      omega
                  have HVB := Lib.hid hvb
                  have HO6 := Lib.hid ho6
                  have hqk : ¬ ((Value.slice ah C.length ch).ownBlock = some q ∨ wr.heap.size ≤ q) := by
                    rintro (h | h)
                    · have := HVQ.out q h
                      omega
                    · omega
                  have HQ6 := Lib.hid (H5.out.keep hka hqk)
                  have HS6 := Lib.hid (HST.out.keep hka (fun i hi _ e => by
                    rcases e with e | e
                    · exact (HVF.out i e).2.1 hi
                    · have := (HF.out i hi).2
                      omega))
                  have HB6 : Hid (Below w.heap.size w w6) := Lib.hid (HB5.out.trans (hka.below (fun i hi => by
                    rcases hi with h | h
                    · exact (HVF.out i h).2.2
                    · omega)))
                  have hcx6 : CellsAt w6 q 1 x.cr.cells := fun i u hi => (hka.cell (p := ⟨q, 1 + i, none⟩) hqk).trans (HCX.out i u hi)
                  have HCX6 := Lib.hid hcx6
                  clear ho6 hk6 hvb6 hka hqk hvb hcx6 H5 HB5 HCX HO5 z0
                  go_wp2_with ((with_reducible show wpList _ _ _ (⟨some 67, _, _, _, _, _⟩ :: _) _ _); refine wpList_ldAgg rfl (.tmp 66) aggCred rfl rfl (cs := x.cr.cells) HXCL.out HCX6.out ?_)
                  refine (credPut_any F p L x.cr w6 HS6.out HIX.out.1 (HIX.out.2.1.below HB6.out) HIX.out.2.2.1 (HIX.out.apart p hpw)).mono ?_
                  rintro e w7 ⟨c', hdat, rfl, hs7, hk7⟩
                  have hcs : c'.srv = x.cr.srv := by simp only [Cr.dat, Prod.mk.injEq] at hdat; exact hdat.1
                  obtain ⟨he, hm7⟩ := HH5.out.mat.put_new c' (by rw [hcs]; exact HNO.out) (by rw [List.length_map]; exact H16.out)
                  have hz7 := hk7.size
                  have hm7' : Mat (putI L c').1 ((C ++ [x.cr]).map Cr.dat) := by rw [List.map_append, List.map_cons, List.map_nil, ← hdat]; exact hm7
                  have HHn : Hid (Held w w7 w.heap.size p (putI L c').1 v2 (C ++ [x.cr])) := Lib.hid (by
                    refine ⟨⟨_, hs7, fun i hi => ?_, fun b hb => ?_⟩, hm7', ?_, fun c hc => ?_⟩
                    · rcases hi with hi | hi
                      · exact (HF.out i hi).1
                      · omega
                    · obtain ⟨h1, h2, h3⟩ := HVB.out b hb
                      exact ⟨by omega, fun h => by rcases h with h | h; exact h2 h; omega, h3⟩
                    · rw [show (C ++ [x.cr]).length = C.length + 1 by simp]
                      exact HO6.out.keep hk7 (fun b hb h => by
                        obtain ⟨h1, h2, h3⟩ := HVB.out b hb
                        rcases h with h | h
                        · exact h2 (h ▸ HST.out.1)
                        · omega)
                    · rcases List.mem_append.1 hc with hc | hc
                      · exact HH5.out.ins c hc
                      · rw [List.mem_singleton.1 hc]; exact HIX.out)
                  have HQn := Lib.hid (HQ6.out.keep hk7 (by omega))
                  have HBn : Hid (Below w.heap.size w w7) := Lib.hid (HB6.out.trans (hk7.below (by omega)))
                  rw [he]
                  clear hs7 hk7 hdat hcs hm7 hm7' he HQ6 HB6 HCX6 HST HF HVF HNO HAT HS6 HO6 HVB
                  obtain ⟨⟨Fn, hstn, _⟩, hmn, hon, hin'⟩ := HHn.out
                  have HAG := Lib.hid (agree_any Fn p _ _ _ x _ hstn HHn.out.boxes hmn hon.sl (fun c hc => (hin' c hc).below HBn.out) HIX.out.1)
                  have hzn := HBn.out.size
                  clear hstn hmn hon hin'
                  go_wp2_with ((with_reducible show wpList _ _ _ (⟨some 96, _, _, _, _, _⟩ :: _) _ _); refine wpList_ldAgg rfl (.tmp 6) aggStep rfl rfl (cs := x.cells) HXL.out HQn.out.cellsAll ?_)
                  refine HAG.out.mono ?_
                  rintro e wz ⟨rfl, hbz⟩
                  have HHz := Lib.hid (HHn.out.below hbz)
                  have HBz : Hid (Below w.heap.size w wz) := Lib.hid (HBn.out.trans (hbz.mono hzn))
                  clear hbz
                  go_wp2_with fail
                  go_roundw
                  case rel => exact ⟨k + 1, _, _, by omega, by go_num, HHz.out, HBz.out⟩
                  case measure => simp [intOf]; omega
              · obtain ⟨hsp, _⟩ := split_at hd
                obtain ⟨F, hst, hF, hvF⟩ := HH5.out.tight
                obtain ⟨g, chv, _, hgv, hBg, _⟩ := HH5.out.own.form' (by omega)
                simp only [Value.slice.injEq, true_and] at hgv
                obtain ⟨rfl, rfl⟩ := hgv
                obtain ⟨cur, hcur, _, hcl, hset⟩ := HH5.out.own.open_ (by omega)
                have hgq := HVQ.out g rfl
                have hFg := (hvF g rfl).2.1
                have hpg : p ≠ g := fun e => hFg (e ▸ hst.1)
                have hmat := HH5.out.mat
                rw [hsp, List.map_append, List.map_cons] at hmat
                have hset' := hset
                have HMAT := Lib.hid hmat
                have HSET := Lib.hid hset
                have HCUR := Lib.hid hcur
                have HST := Lib.hid hst
                have HF := Lib.hid hF
                have HD := Lib.hid hd
                have HSP := Lib.hid hsp
                have hj21 : j * 21 + 21 ≤ cur.length := by omega
                have hjI : (j : Int) < C.length := by omega
                have hzr5 := HB5.out.size
                have hpF := (hF p hst.1).2
                clear hd hsp hmat hset hset' hcur hst hF hvF hcl h0
                go_wp2_with (first | ((with_reducible show wpList _ _ _ (⟨some 59, _, _, _, _, _⟩ :: _) _ _); refine wpList_ldAgg rfl (.tmp 58) aggCred rfl rfl (cs := x.cr.cells) HXCL.out HCX.out ?_) | ((with_reducible show wpList _ _ _ (⟨none, .store _ (.tmp 60) (.tmp 59), _, _, _, _⟩ :: _) _ _); refine wpList_stAgg rfl (.tmp 60) (.tmp 59) aggCred rfl rfl (vs := x.cr.cells) rfl HXCL.out HCUR.out (by omega) HXC1.out ?_))
                intro w6 h6 k6
                rw [← List.append_assoc] at h6
                have ho6 := HSET.out w6 j x.cr.cells (by omega) HXCL.out HXC1.out h6
                rw [flat_set Cr.cells C HKEYS.out j x.cr] at ho6
                have hlen : (C.take j ++ x.cr :: C.drop (j + 1)).length = C.length := by simp; omega
                have hz6 := k6.size
                have HO6 := Lib.hid ho6
                have HQ6 := Lib.hid (H5.out.keep k6 (by omega))
                have HS6 := Lib.hid (HST.out.keep k6 (fun i hi _ e => hFg (e ▸ hi)))
                have HB6 : Hid (Below w.heap.size w w6) := Lib.hid (HB5.out.trans (k6.below (by omega)))
                have hcx6 : CellsAt w6 q 1 x.cr.cells := fun i u hi => (k6.cell (p := ⟨q, 1 + i, none⟩) (by simp; omega)).trans (HCX.out i u hi)
                have HCX6 := Lib.hid hcx6
                have HLEN := Lib.hid hlen
                have hg6 : g < w6.heap.size := by omega
                clear h6 k6 ho6 hlen hcx6 HSET HCUR H5 HB5 HCX HST z0
                go_wp2_with ((with_reducible show wpList _ _ _ (⟨some 67, _, _, _, _, _⟩ :: _) _ _); refine wpList_ldAgg rfl (.tmp 66) aggCred rfl rfl (cs := x.cr.cells) HXCL.out HCX6.out ?_)
                refine (credPut_any F p L x.cr w6 HS6.out HIX.out.1 (HIX.out.2.1.below HB6.out) HIX.out.2.2.1 (HIX.out.apart p hpw)).mono ?_
                rintro e w7 ⟨c', hdat, rfl, hs7, hk7⟩
                have hcs : c'.srv = x.cr.srv := by simp only [Cr.dat, Prod.mk.injEq] at hdat; exact hdat.1
                obtain ⟨he, hm7⟩ := HMAT.out.put_at c' (by rw [hcs]; exact hsrv)
                have hz7 := hk7.size
                have hm7' : Mat (putI L c').1 ((C.take j ++ x.cr :: C.drop (j + 1)).map Cr.dat) := by rw [List.map_append, List.map_cons, ← hdat]; exact hm7
                have HHn : Hid (Held w w7 w.heap.size p (putI L c').1 (.slice (some ⟨g, 0, none⟩) C.length ch) (C.take j ++ x.cr :: C.drop (j + 1))) := Lib.hid (by
                  refine ⟨⟨_, hs7, fun i hi => ?_, fun b hb => ?_⟩, hm7', ?_, fun c hc => ?_⟩
                  · rcases hi with hi | hi
                    · exact (HF.out i hi).1
                    · omega
                  · simp [Value.ownBlock] at hb
                    subst hb
                    exact ⟨by omega, fun h => by rcases h with h | h; exact hFg h; omega, by omega⟩
                  · rw [HLEN.out]
                    exact HO6.out.keep hk7 (fun b hb h => by
                      simp [Value.ownBlock] at hb
                      subst hb
                      omega)
                  · rcases List.mem_append.1 hc with hc | hc
                    · exact HH5.out.ins c (List.mem_of_mem_take hc)
                    · rcases List.mem_cons.1 hc with rfl | hc
                      · exact HIX.out
                      · exact HH5.out.ins c (List.mem_of_mem_drop hc))
                have HQn := Lib.hid (HQ6.out.keep hk7 (by omega))
                have HBn : Hid (Below w.heap.size w w7) := Lib.hid (HB6.out.trans (hk7.below (by omega)))
                rw [he]
                clear hs7 hk7 hm7 hm7' he hdat hcs hsrv HMAT HO6 HQ6 HS6 HB6 HCX6 HLEN HSP HD HF HAT
                obtain ⟨⟨Fn, hstn, _⟩, hmn, hon, hin'⟩ := HHn.out
                have HAG := Lib.hid (agree_any Fn p _ _ _ x _ hstn HHn.out.boxes hmn hon.sl (fun c hc => (hin' c hc).below HBn.out) HIX.out.1)
                have hzn := HBn.out.size
                clear hstn hmn hon hin'
                go_wp2_with ((with_reducible show wpList _ _ _ (⟨some 96, _, _, _, _, _⟩ :: _) _ _); refine wpList_ldAgg rfl (.tmp 6) aggStep rfl rfl (cs := x.cells) HXL.out HQn.out.cellsAll ?_)
                refine HAG.out.mono ?_
                rintro e wz ⟨rfl, hbz⟩
                have HHz := Lib.hid (HHn.out.below hbz)
                have HBz : Hid (Below w.heap.size w wz) := Lib.hid (HBn.out.trans (hbz.mono hzn))
                clear hbz
                go_wp2_with fail
                go_roundw
                case rel => exact ⟨k + 1, _, _, by omega, by go_num, HHz.out, HBz.out⟩
                case measure => simp [intOf]; omega
            · have h0' : (x.kind == 0) = false := by simp [h0]
              clear h0
              by_cases h1 : x.kind = 1
              · have h1' : (x.kind == 1) = true := by simp [h1]
                obtain ⟨F, hst, hF, hvF⟩ := HH5.out.tight
                have HF := Lib.hid hF
                have HVF := Lib.hid hvF
                have HST := Lib.hid hst
                have hpF := (hF p hst.1).2
                have hzr5 := HB5.out.size
                clear hF hvF hst h1
                rcases HAT.out with ⟨rfl, hno⟩ | ⟨j, d, hj, rfl, hd, hsrv⟩
                · have hno' : ∀ d ∈ C.map Cr.dat, d.1 ≠ x.cr.srv := by
                    intro d hd
                    obtain ⟨c, hc, rfl⟩ := List.mem_map.1 hd
                    rw [List.take_length] at hno
                    exact hno c hc
                  have HNO := Lib.hid hno'
                  clear hno hno'
                  go_wp2_with fail
                  refine (credDrop_any F p L x.cr.srv wr HST.out).mono ?_
                  rintro e w7 ⟨rfl, hs7, hk7⟩
                  have hpf := HH5.out.mat.drop_no x.cr.srv HNO.out
                  rw [hpf] at hs7 ⊢
                  have hz7 := hk7.size
                  have HHn : Hid (Held w w7 w.heap.size p L (.slice ah C.length ch) C) := Lib.hid (by
                    refine ⟨⟨_, hs7, fun i hi => (HF.out i hi).1, fun b hb => ?_⟩, HH5.out.mat, ?_, HH5.out.ins⟩
                    · obtain ⟨h1, h2, h3⟩ := HVF.out b hb
                      exact ⟨by omega, h2, h3⟩
                    · exact HH5.out.own.keep hk7 (fun b hb h => by
                        obtain ⟨h1, h2, h3⟩ := HVF.out b hb
                        exact h2 (h ▸ HST.out.1)))
                  have HQn := Lib.hid (H5.out.keep hk7 (by omega))
                  have HBn : Hid (Below w.heap.size w w7) := Lib.hid (HB5.out.trans (hk7.below (by omega)))
                  clear hs7 hk7 hpf H5 HB5 HCX HST HF HVF HNO HAT z0
                  obtain ⟨⟨Fn, hstn, _⟩, hmn, hon, hin'⟩ := HHn.out
                  have HAG := Lib.hid (agree_any Fn p _ _ _ x _ hstn HHn.out.boxes hmn hon.sl (fun c hc => (hin' c hc).below HBn.out) HIX.out.1)
                  have hzn := HBn.out.size
                  clear hstn hmn hon hin'
                  go_wp2_with ((with_reducible show wpList _ _ _ (⟨some 96, _, _, _, _, _⟩ :: _) _ _); refine wpList_ldAgg rfl (.tmp 6) aggStep rfl rfl (cs := x.cells) HXL.out HQn.out.cellsAll ?_)
                  refine HAG.out.mono ?_
                  rintro e wz ⟨rfl, hbz⟩
                  have HHz := Lib.hid (HHn.out.below hbz)
                  have HBz : Hid (Below w.heap.size w wz) := Lib.hid (HBn.out.trans (hbz.mono hzn))
                  clear hbz
                  go_wp2_with fail
                  go_roundw
                  case rel => exact ⟨k + 1, _, _, by omega, by go_num, HHz.out, HBz.out⟩
                  case measure => simp [intOf]; omega
                · obtain ⟨hsp, hjl⟩ := split_at hd
                  obtain ⟨g, chv, _, hgv, hBg, _⟩ := HH5.out.own.form' (by omega)
                  simp only [Value.slice.injEq, true_and] at hgv
                  obtain ⟨rfl, rfl⟩ := hgv
                  have hFg := (HVF.out g rfl).2.1
                  have hmat := HH5.out.mat
                  rw [hsp, List.map_append, List.map_cons] at hmat
                  have HMAT := Lib.hid hmat
                  have HSRV := Lib.hid hsrv
                  have hgw := (HVF.out g rfl).1
                  have hgq := HVQ.out g rfl
                  have hjI : (j : Int) < C.length := by omega
                  have hrunL := run_sliceL (P := Try.prog) Try.underlying26 sizeCred g C.length ch j (by omega)
                  have hrunR := run_sliceR (P := Try.prog) Try.underlying26 sizeCred g C.length ch (j + 1) (by omega) hch
                  have HSL := Lib.hid (HH5.out.own.sl.left j (by omega))
                  have HSR := Lib.hid (HH5.out.own.sl.right (j + 1) (by omega))
                  have hout := flat_out Cr.cells C HKEYS.out j
                  have HOUT := Lib.hid hout
                  have HWR : Hid (IntKind.i64.wrap ((j : Int) + 1) = ((j + 1 : Nat) : Int)) := Lib.hid (by rw [IntKind.wrap_i64]; omega)
                  clear hd hsp hsrv hmat hout
                  go_upto_region 32 with fail
                  obtain ⟨wq, rfl⟩ : ∃ W : World, W = wr := ⟨_, rfl⟩
                  go_cut [4] (fun s4 wx => Own wx w.heap.size 33 21 s4 (C.take j ++ C.drop (j + 1)).length ((C.take j ++ C.drop (j + 1)).map Cr.cells).flatten ∧ Below wq.heap.size wq wx ∧ ∀ b, s4.ownBlock = some b → wq.heap.size ≤ b ∧ b < wx.heap.size)
                  case first =>
                    go_wp2_with fail
                    refine wp_region_any (by kernel_rfl) ?_
                    change wpAny _ _ _ _ _ _ _ (World.drew _)
                    refine wpAny_take (i := 1) (oi := { dst := some 76, op := _, type := _, pos := _, after := _, guard := none }) (v := .slice (some ⟨g, 0, none⟩) C.length ch) rfl (by kernel_rfl) (by kernel_rfl) (by kernel_rfl) (fun _ _ _ h => h) (Or.inl ⟨by rfl, by intro w; go_simp⟩) ?_
                    simp only [Act.put, List.setIfInBounds_toArray, List.set_cons_zero, List.set_cons_succ]
                    refine wpAny_take (i := 2) (oi := { dst := some 77, op := _, type := _, pos := _, after := _, guard := none }) (v := .int .i64 j) rfl (by kernel_rfl) (by kernel_rfl) (by kernel_rfl) (fun _ _ _ h => h) (Or.inl ⟨by rfl, by intro w; go_simp⟩) ?_
                    simp only [Act.put, List.setIfInBounds_toArray, List.set_cons_zero, List.set_cons_succ]
                    refine wpAny_take (i := 5) (oi := { dst := some 80, op := _, type := _, pos := _, after := _, guard := none }) (v := .slice (some ⟨g, 0, none⟩) C.length ch) rfl (by kernel_rfl) (by kernel_rfl) (by kernel_rfl) (fun _ _ _ h => h) (Or.inl ⟨by rfl, by intro w; go_simp⟩) ?_
                    simp only [Act.put, List.setIfInBounds_toArray, List.set_cons_zero, List.set_cons_succ]
                    refine wpAny_take (i := 6) (oi := { dst := some 81, op := _, type := _, pos := _, after := _, guard := none }) (v := .int .i64 j) rfl (by kernel_rfl) (by kernel_rfl) (by kernel_rfl) (fun _ _ _ h => h) (Or.inl ⟨by rfl, by intro w; go_simp⟩) ?_
                    simp only [Act.put, List.setIfInBounds_toArray, List.set_cons_zero, List.set_cons_succ]
                    refine wpAny_take (i := 7) (oi := { dst := some 82, op := _, type := _, pos := _, after := _, guard := none }) (v := .int .i64 ((j + 1 : Nat) : Int)) rfl (by kernel_rfl) (by kernel_rfl) (by kernel_rfl) (fun _ _ _ h => h) (Or.inl ⟨by rfl, by intro w; go_simp; exact HWR.out⟩) ?_
                    simp only [Act.put, List.setIfInBounds_toArray, List.set_cons_zero, List.set_cons_succ]
                    refine wpAny_take (i := 3) (oi := { dst := some 78, op := _, type := _, pos := _, after := _, guard := none }) (v := .slice (some ⟨g, 0, none⟩) j ch) rfl (by kernel_rfl) (by kernel_rfl) (by kernel_rfl) (fun _ _ _ h => h) (Or.inl ⟨by rfl, by intro w; go_simp⟩) ?_
                    simp only [Act.put, List.setIfInBounds_toArray, List.set_cons_zero, List.set_cons_succ]
                    refine wpAny_take (i := 8) (oi := { dst := some 83, op := _, type := _, pos := _, after := _, guard := none }) (v := .slice (cutAt g ch (j + 1) 21) (C.length - (j + 1)) (ch - (j + 1))) rfl (by kernel_rfl) (by kernel_rfl) (by kernel_rfl) (fun _ _ _ h => h) (Or.inl ⟨by rfl, by intro w; go_simp; rw [if_pos (by omega)]; rfl⟩) ?_
                    simp only [Act.put, List.setIfInBounds_toArray, List.set_cons_zero, List.set_cons_succ]
                    refine wpAny_ready (rs := [0]) (by decide +kernel) (by simp) ?_
                    refine AllReady.cons (o := { dst := some 75, op := .buildSlice 26 0 #[], type := _, pos := _, after := _, guard := none }) rfl (fun K hK => ?_) AllReady.nil
                    go_simp
                    refine hK _ _ ?_
                    clear hK K
                    try simp only [Act.put, List.setIfInBounds_toArray, List.set_cons_zero, List.set_cons_succ]
                    refine wpAny_ready (rs := [4]) (by decide +kernel) (by simp) ?_
                    refine AllReady.cons (o := { dst := some 79, op := .call { callee := .builtin .append, args := #[.tmp 75, .tmp 78], argTypes := #[26, 26] }, type := _, pos := _, after := _, guard := none }) rfl (fun K hK => ?_) AllReady.nil
                    refine step_app2 rfl (.tmp 75) (.tmp 78) elCreds rfl wq.heap.size (v := .slice (some ⟨wq.heap.size, 0, none⟩) 0 0) (by simp [Act.eval]) (Own.nil _ _ _ _ _) (by simp [Value.ownBlock]) (u := .slice (some ⟨g, 0, none⟩) j ch) (by simp [Act.eval]) (((HSL.out.alloc _).drew : Sl (wq.alloc (.cells #[] 33)).drew _ _ _ _)) (by unfold maxLen; omega) (by omega) (by simp) ?_
                    intro v3 w3 ho3 hk3 hvb3
                    rw [List.nil_append, Nat.zero_add] at ho3
                    have hb3 : Below wq.heap.size wq w3 := (((Below.refl _ _).alloc (Nat.le_refl _) _).drew).trans (hk3.below (by
                      rintro b (h | h)
                      · exact h.2
                      · simp at h
                        omega))
                    have HO3 := Lib.hid ho3
                    have HB3 := Lib.hid hb3
                    have hz3 := hb3.size
                    have HV3 : Hid (∀ b, v3.ownBlock = some b → wq.heap.size ≤ b ∧ b < w3.heap.size) := Lib.hid (fun b hb => by
                      refine ⟨?_, (hvb3 b hb).2⟩
                      rcases (hvb3 b hb).1 with h | h
                      · simp [Value.ownBlock] at h
                        omega
                      · simp at h
                        omega)
                    clear ho3 hk3 hvb3 hb3
                    refine hK _ _ ?_
                    clear hK K
                    try simp only [Act.put, List.setIfInBounds_toArray, List.set_cons_zero, List.set_cons_succ]
                    refine wpAny_ready (rs := [9]) (by decide +kernel) (by simp) ?_
                    refine AllReady.cons (o := { dst := some 84, op := .call { callee := .builtin .append, args := #[.tmp 79, .tmp 83], argTypes := #[26, 26] }, type := _, pos := _, after := _, guard := none }) rfl (fun K hK => ?_) AllReady.nil
                    refine step_app2 rfl (.tmp 79) (.tmp 83) elCreds rfl wq.heap.size (v := v3) (by simp [Act.eval]) HO3.out (fun b hb => (HV3.out b hb).2) (u := .slice (cutAt g ch (j + 1) 21) (C.length - (j + 1)) (ch - (j + 1))) (by simp [Act.eval]) (HSR.out.below HB3.out) (by unfold maxLen; omega) (by omega) (by omega) ?_
                    intro v4 w4' ho4 hk4 hvb4
                    rw [HOUT.out, show j + (C.length - (j + 1)) = (C.take j ++ C.drop (j + 1)).length by simp; omega] at ho4
                    have HO4 := Lib.hid (ho4.base hzr5)
                    have HB4' : Hid (Below wq.heap.size wq w4') := Lib.hid (HB3.out.trans (hk4.below (by
                      rintro b (h | h)
                      · exact h.2
                      · omega)))
                    have HV4 : Hid (∀ b, v4.ownBlock = some b → wq.heap.size ≤ b ∧ b < w4'.heap.size) := Lib.hid (fun b hb => by
                      refine ⟨?_, (hvb4 b hb).2⟩
                      rcases (hvb4 b hb).1 with h | h
                      · exact (HV3.out b h).1
                      · omega)
                    clear ho4 hk4 hvb4
                    refine hK _ _ ?_
                    clear hK K
                    try simp only [Act.put, List.setIfInBounds_toArray, List.set_cons_zero, List.set_cons_succ]
                    refine wpAny_take (i := 10) (oi := { dst := some 4, op := _, type := _, pos := _, after := _, guard := none }) (v := v4) rfl (by kernel_rfl) (by kernel_rfl) (by kernel_rfl) (fun _ _ _ h => h) (Or.inl ⟨by rfl, by intro w; go_simp⟩) ?_
                    simp only [Act.put, List.setIfInBounds_toArray, List.set_cons_zero, List.set_cons_succ]
                    refine wpAny_done (by decide +kernel) ?_ _
                    go_wp2_with fail
                    go_meet
                    exact ⟨HO4.out, HB4'.out, HV4.out⟩
                  case rest =>
                  obtain ⟨ho6, hb6, hv6⟩ := hcut
                  have hz6 := hb6.size
                  have HO6 := Lib.hid ho6
                  have HV6 : Hid (∀ b, u4.ownBlock = some b → b < wc.heap.size ∧ wq.heap.size ≤ b) := Lib.hid (fun b hb => ⟨(hv6 b hb).2, (hv6 b hb).1⟩)
                  have HQ6 := Lib.hid (H5.out.below hb6 (by omega))
                  have HS6 := Lib.hid (HST.out.below hb6)
                  have HB6 : Hid (Below w.heap.size w wc) := Lib.hid (HB5.out.trans (hb6.mono hzr5))
                  clear ho6 hb6 hv6 H5 HB5 HCX HSL HSR HOUT HWR hrunL hrunR z0
                  go_wp2_with fail
                  refine (credDrop_any F p L x.cr.srv wc HS6.out).mono ?_
                  rintro e w7 ⟨rfl, hs7, hk7⟩
                  have hdr := HMAT.out.drop_at
                  rw [show d.dat.1 = x.cr.srv from HSRV.out] at hdr
                  obtain ⟨he, hm7⟩ := hdr
                  have hz7 := hk7.size
                  have hm7' : Mat (dropI L x.cr.srv).1 ((C.take j ++ C.drop (j + 1)).map Cr.dat) := by rw [List.map_append]; exact hm7
                  have HHn : Hid (Held w w7 w.heap.size p (dropI L x.cr.srv).1 u4 (C.take j ++ C.drop (j + 1))) := Lib.hid (by
                    refine ⟨⟨F, hs7, fun i hi => (HF.out i hi).1, fun b hb => ?_⟩, hm7', ?_, fun c hc => ?_⟩
                    · obtain ⟨h1, h2⟩ := HV6.out b hb
                      exact ⟨by omega, fun h => by have := (HF.out b h).2; omega, by omega⟩
                    · exact HO6.out.keep hk7 (fun b hb h => by
                        obtain ⟨h1, h2⟩ := HV6.out b hb
                        omega)
                    · rcases List.mem_append.1 hc with hc | hc
                      · exact HH5.out.ins c (List.mem_of_mem_take hc)
                      · exact HH5.out.ins c (List.mem_of_mem_drop hc))
                  have HQn := Lib.hid (HQ6.out.keep hk7 (by omega))
                  have HBn : Hid (Below w.heap.size w w7) := Lib.hid (HB6.out.trans (hk7.below (by omega)))
                  rw [he]
                  clear hs7 hk7 hm7 hm7' he HQ6 HB6 HST HF HVF HAT HS6 HO6 HMAT HSRV HV6
                  obtain ⟨⟨Fn, hstn, _⟩, hmn, hon, hin'⟩ := HHn.out
                  have HAG := Lib.hid (agree_any Fn p _ _ _ x _ hstn HHn.out.boxes hmn hon.sl (fun c hc => (hin' c hc).below HBn.out) HIX.out.1)
                  have hzn := HBn.out.size
                  clear hstn hmn hon hin'
                  go_wp2_with ((with_reducible show wpList _ _ _ (⟨some 96, _, _, _, _, _⟩ :: _) _ _); refine wpList_ldAgg rfl (.tmp 6) aggStep rfl rfl (cs := x.cells) HXL.out HQn.out.cellsAll ?_)
                  refine HAG.out.mono ?_
                  rintro e wz ⟨rfl, hbz⟩
                  have HHz := Lib.hid (HHn.out.below hbz)
                  have HBz : Hid (Below w.heap.size w wz) := Lib.hid (HBn.out.trans (hbz.mono hzn))
                  clear hbz
                  go_wp2_with fail
                  go_roundw
                  case rel => exact ⟨k + 1, _, _, by omega, by go_num, HHz.out, HBz.out⟩
                  case measure => simp [intOf]; omega
              · have h1' : (x.kind == 1) = false := by simp [h1]
                clear h1
                by_cases h2 : x.kind = 2
                · have h2' : (x.kind == 2) = true := by simp [h2]
                  obtain ⟨F, hst, hF, hvF⟩ := HH5.out.tight
                  have HF := Lib.hid hF
                  have HST := Lib.hid hst
                  have hpF := (hF p hst.1).2
                  have hzr5 := HB5.out.size
                  clear hF hvF hst h2
                  go_wp2_with fail
                  refine (credWipe_any F p L wr HST.out).mono ?_
                  rintro e w7 ⟨rfl, hs7, hk7⟩
                  have hz7 := hk7.size
                  have HHn : Hid (Held w w7 w.heap.size p noneL (.slice none 0 0) []) := Lib.hid ⟨⟨F, hs7, fun i hi => (HF.out i hi).1, fun b hb => by simp [Value.ownBlock] at hb⟩, Mat.none, Own.nil _ _ _ _ _, by simp⟩
                  have HQn := Lib.hid (H5.out.keep hk7 (by omega))
                  have HBn : Hid (Below w.heap.size w w7) := Lib.hid (HB5.out.trans (hk7.below (by omega)))
                  clear hs7 hk7 H5 HB5 HCX HST HF HAT z0
                  obtain ⟨⟨Fn, hstn, _⟩, hmn, hon, hin'⟩ := HHn.out
                  have HAG := Lib.hid (agree_any Fn p _ _ _ x _ hstn HHn.out.boxes hmn hon.sl (fun c hc => (hin' c hc).below HBn.out) HIX.out.1)
                  have hzn := HBn.out.size
                  clear hstn hmn hon hin'
                  go_wp2_with ((with_reducible show wpList _ _ _ (⟨some 96, _, _, _, _, _⟩ :: _) _ _); refine wpList_ldAgg rfl (.tmp 6) aggStep rfl rfl (cs := x.cells) HXL.out HQn.out.cellsAll ?_)
                  refine HAG.out.mono ?_
                  rintro e wz ⟨rfl, hbz⟩
                  have HHz := Lib.hid (HHn.out.below hbz)
                  have HBz : Hid (Below w.heap.size w wz) := Lib.hid (HBn.out.trans (hbz.mono hzn))
                  clear hbz
                  go_wp2_with fail
                  go_roundw
                  case rel => exact ⟨k + 1, _, _, by omega, by go_num, HHz.out, HBz.out⟩
                  case measure => simp [intOf]; omega
                · have h2' : (x.kind == 2) = false := by simp [h2]
                  have HHn := HH5
                  have HQn := H5
                  have HBn := HB5
                  clear h2 HAT HCX
                  obtain ⟨⟨Fn, hstn, _⟩, hmn, hon, hin'⟩ := HHn.out
                  have HAG := Lib.hid (agree_any Fn p _ _ _ x _ hstn HHn.out.boxes hmn hon.sl (fun c hc => (hin' c hc).below HBn.out) HIX.out.1)
                  have hzn := HBn.out.size
                  clear hstn hmn hon hin'
                  go_wp2_with ((with_reducible show wpList _ _ _ (⟨some 96, _, _, _, _, _⟩ :: _) _ _); refine wpList_ldAgg rfl (.tmp 6) aggStep rfl rfl (cs := x.cells) HXL.out HQn.out.cellsAll ?_)
                  refine HAG.out.mono ?_
                  rintro e wz ⟨rfl, hbz⟩
                  have HHz := Lib.hid (HHn.out.below hbz)
                  have HBz : Hid (Below w.heap.size w wz) := Lib.hid (HBn.out.trans (hbz.mono hzn))
                  clear hbz
                  go_wp2_with fail
                  go_roundw
                  case rel => exact ⟨k + 1, _, _, by omega, by go_num, HHz.out, HBz.out⟩
                  case measure => simp [intOf]; omega
      · obtain rfl : k = l.length := by omega
        go_wp2_with fail
        go_ret
        exact ⟨rfl, HBr.out⟩
  · have hl' : (100 : Int) < l.length := by omega
    go_wp2_with fail
    go_ret
    exact ⟨rfl, HB1.out⟩
end Go.Proofs.Ytolhphofbkiplaa
