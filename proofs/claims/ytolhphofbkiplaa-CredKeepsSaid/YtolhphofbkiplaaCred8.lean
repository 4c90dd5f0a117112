/- The laws of cred: the examples hold. -/
import Derived.Test.YtolhphofbkiplaaCred7
namespace Go.Proofs.Ytolhphofbkiplaa
set_option linter.unusedSimpArgs false
set_option linter.unusedVariables false
open Go.RowKit

theorem GetRes.has {w' : World} {B : Nat} {L : List (Option Cr)} {now : Int} {s : ByteArray} {c' : Cr} {e : Int} (h : GetRes w' B L now s c' e) {c : Cr} (hs : slotOf L s = .some c) (hn : now < c.fin) : c'.dat = c.dat ∧ e = 0 := by
  obtain ⟨_, _, _, _, h⟩ := h
  rw [hs] at h
  simp only at h
  rwa [if_neg (by omega)] at h
theorem GetRes.old {w' : World} {B : Nat} {L : List (Option Cr)} {now : Int} {s : ByteArray} {c' : Cr} {e : Int} (h : GetRes w' B L now s c' e) {c : Cr} (hs : slotOf L s = .some c) (hn : c.fin ≤ now) : c' = Cr.zero ∧ e = 12 := by
  obtain ⟨_, _, _, _, h⟩ := h
  rw [hs] at h
  simp only at h
  rwa [if_pos hn] at h
theorem GetRes.no {w' : World} {B : Nat} {L : List (Option Cr)} {now : Int} {s : ByteArray} {c' : Cr} {e : Int} (h : GetRes w' B L now s c' e) (hs : slotOf L s = Option.none) : c' = Cr.zero ∧ e = 9 := by
  obtain ⟨_, _, _, _, h⟩ := h
  rwa [hs] at h
theorem GetRes.one {w' : World} {B : Nat} {L : List (Option Cr)} {now : Int} {s : ByteArray} {c' : Cr} {e : Int} (h : GetRes w' B L now s c' e) : ∀ u ∈ c'.cells, u.oneCell' = true := by
  obtain ⟨_, a, cp, hf, _⟩ := h.2.1.form
  exact Cr.one c' (by obtain ⟨a, cp, hf, _⟩ := h.2.1.form; rw [hf]; rfl)

def crA (b : Nat) : Cr := ⟨⟨#[98, 111, 98]⟩, .slice (some ⟨b, 0, none⟩) 1 1, [1], [7, 0, 0, 0, 0, 0, 0, 0, 0, 0, 0, 0, 0, 0, 0, 0], 0, 9, 0⟩
def oneL (c : Cr) : List (Option Cr) := some c :: List.replicate 15 none

theorem putI_none (c : Cr) : putI noneL c = (oneL c, 0) := by
  have h : placeI noneL c.srv = 0 := rfl
  rw [putI, h]
  rfl
theorem slotOf_one (c : Cr) (s : ByteArray) (h : c.srv = s) : slotOf (oneL c) s = some c := by
  have hp : placeI (oneL c) s = 0 := by simp [placeI, oneL, List.findIdx?_cons, hasSrv, h]
  rw [slotOf, hp]
  rfl
theorem slotOf_one_not (c : Cr) (s : ByteArray) (h : c.srv ≠ s) : slotOf (oneL c) s = none := by
  have hp : placeI (oneL c) s = 1 := by
    have hn : ∀ o ∈ oneL c, hasSrv s o = false := by
      intro o ho
      simp only [oneL, List.mem_cons, List.mem_replicate] at ho
      rcases ho with rfl | ⟨_, rfl⟩
      · simp [hasSrv, h]
      · rfl
    rw [placeI_none _ _ hn]
    simp [freeI, oneL, List.findIdx?_cons, List.replicate_succ]
  rw [slotOf, hp]
  rfl

set_option maxHeartbeats 4000000 in
set_option maxRecDepth 100000 in
theorem alive16_any (w : World) : Calls Try.prog 5 #[] w fun e w' => e = .returned (.bool true) ∧ Below w.heap.size w w' := by
  go_enter Try.func5, Try.ntmps5
  go_wp2_with fail
  refine (credNew_any w).mono ?_
  rintro e w1 ⟨rfl, hs1, hb1⟩
  obtain ⟨p, hp⟩ : ∃ p, p = w.heap.size := ⟨_, rfl⟩
  have hs1' : StoreAt w1 (fun j => w.heap.size ≤ j) p noneL := by rw [hp]; exact hs1.mono (fun j hj => by omega)
  rw [← hp]
  have hpw : w.heap.size ≤ p := by omega
  have hpl := hs1'.lt
  have HS1 := Lib.hid hs1'
  have HB1 := Lib.hid hb1
  have hz1 := hb1.size
  clear hs1 hs1' hb1 hp
  have hA : Blk ((w1.alloc (.cells #[.int .u8 1] 5)).alloc (.cells zs21.toArray 33)) (w1.heap.size + 1) zs21 33 := Blk.at_ (cs := zs21.toArray) (by simp)
  have HA := Lib.hid hA
  clear hA
  go_wp2_with ((with_reducible show wpList _ _ _ (⟨none, .store _ (.tmp 2) (.tmp 16), _, _, _, _⟩ :: _) _ _); refine wpList_stAgg rfl (.tmp 2) (.tmp 16) aggCred rfl rfl (vs := (crA w1.heap.size).cells) rfl rfl HA.out (Nat.le_refl _) (Cr.one _ rfl) ?_)
  intro w2 h2 k2
  have h2' : Blk w2 (w1.heap.size + 1) (crA w1.heap.size).cells 33 := by
    have := h2
    rwa [List.drop_of_length_le (by decide), List.append_nil] at this
  have hz2 := k2.size
  simp at hz2
  have hlb : Bs (w1.alloc (.cells #[.int .u8 1] 5)) (.slice (some ⟨w1.heap.size, 0, none⟩) 1 1) [1] := Bs.lit [1] rfl rfl (by decide)
  have hbx2 : Bs w2 (crA w1.heap.size).bv (crA w1.heap.size).box := Sl.keep (Bs.alloc hlb (.cells zs21.toArray 33)) k2 (by intro b hb e; simp only [crA, Value.ownBlock, Option.some.injEq] at hb; omega)
  have hB12 : Below w1.heap.size w1 w2 := (((Below.refl _ _).alloc (Nat.le_refl _) _).alloc (by simp) _).trans (k2.below (by omega))
  have HS2 := Lib.hid (HS1.out.below hB12)
  have HB2 : Hid (Below w.heap.size w w2) := Lib.hid (((HB1.out.alloc hz1 _).alloc (by simp; omega) _).trans (k2.below (by omega)))
  obtain ⟨q, hq⟩ : ∃ q, q = w1.heap.size + 1 := ⟨_, rfl⟩
  have hqw : p < q := by omega
  have hq2 : q < w2.heap.size := by omega
  obtain ⟨c, hc⟩ : ∃ c, c = crA w1.heap.size := ⟨_, rfl⟩
  rw [← hc] at hbx2
  rw [← hq, ← hc] at h2'
  have hck : c.key.length = 16 := by rw [hc]; rfl
  have hcl := Cr.cells_length c hck
  have hcs : c.srv = ⟨#[98, 111, 98]⟩ := by rw [hc]; rfl
  have hcf : c.fin = 9 := by rw [hc]; rfl
  have hcb : c.box.length ≤ 140737488351232 := by rw [hc]; exact (by decide : 1 ≤ 140737488351232)
  have hcb1 : c.box.length ≤ 1 := by rw [hc]; exact Nat.le_refl 1
  have hcn : c.bv.ownBlock ≠ some p := by rw [hc]; simp [crA, Value.ownBlock]; omega
  have hc1 := Cr.one c (by rw [hc]; rfl)
  have H2 := Lib.hid h2'
  have HBX2 := Lib.hid hbx2
  have HCK := Lib.hid hck
  have HCL := Lib.hid hcl
  have HCS := Lib.hid hcs
  have HCF := Lib.hid hcf
  have HCB := Lib.hid hcb1
  have HCN := Lib.hid hcn
  have HC1 := Lib.hid hc1
  clear h2 h2' k2 hlb hB12 hbx2 hck hcl hcs hcf hcb1 hcn hc1 hc HA
  rw [← hq]
  clear hq
  go_wp2_with ((with_reducible show wpList _ _ _ (⟨some 18, _, _, _, _, _⟩ :: _) _ _); refine wpList_ldAgg rfl (.tmp 2) aggCred rfl rfl (cs := c.cells) HCL.out H2.out.cellsAll ?_)
  go_wp2_with fail
  refine (credPut_any _ p noneL c w2 HS2.out HCK.out HBX2.out hcb (.inr HCN.out)).mono ?_
  rintro e w3 ⟨c', hdat, rfl, hs3, hk3⟩
  rw [putI_none] at hs3 ⊢
  have hs3' : StoreAt w3 (fun j => w.heap.size ≤ j) p (oneL c') := hs3.mono (fun j hj => by rcases hj with h | h; exact h; omega)
  have hz3 := hk3.size
  have HS3 := Lib.hid hs3'
  have HB3 : Hid (Below w.heap.size w w3) := Lib.hid (HB2.out.trans (hk3.below (by rintro j (h | h) <;> omega)))
  have H3 := Lib.hid (H2.out.keep hk3 (by omega))
  have hdat' := hdat
  simp only [Cr.dat, Prod.mk.injEq] at hdat'
  have hcs' : c'.srv = ⟨#[98, 111, 98]⟩ := by rw [hdat'.1, HCS.out]
  have hcf' : c'.fin = 9 := by rw [hdat'.2.2.2.2.1, HCF.out]
  have hbx' : ∀ x, some x ∈ oneL c' → x.box.length ≤ 140737488351232 := by
    intro x hx
    simp [oneL] at hx
    rw [hx, hdat'.2.1]
    have := HCB.out
    omega
  have hso := slotOf_one c' ⟨#[98, 111, 98]⟩ hcs'
  have hsn := slotOf_one_not c' ⟨#[97, 110, 110]⟩ (by rw [hcs']; decide)
  have HDAT := Lib.hid hdat
  have HCF' := Lib.hid hcf'
  have HBX' := Lib.hid hbx'
  have HSO := Lib.hid hso
  have HSN := Lib.hid hsn
  clear hs3 hs3' hk3 hdat hdat' hcs' hcf' hbx' hso hsn
  go_wp2_with fail
  refine (credGet_any _ p (oneL c') 8 _ w3 HS3.out HBX'.out).mono ?_
  rintro e w4 ⟨x4, e4, rfl, hr4, hb4⟩
  obtain ⟨hd4, rfl⟩ := hr4.has HSO.out (by rw [HCF'.out]; decide)
  have hz4 := hb4.size
  have hkey4 : x4.key = c.key := by
    have h := hd4.trans HDAT.out
    simp only [Cr.dat, Prod.mk.injEq] at h
    exact h.2.2.1
  have hx4l := Cr.cells_length x4 hr4.1
  have hx41 := hr4.one
  have HX4K := Lib.hid hr4.1
  have HK4 := Lib.hid hkey4
  have HX4L := Lib.hid hx4l
  have HX41 := Lib.hid hx41
  have HS4 := Lib.hid (HS3.out.below hb4)
  have HB4 : Hid (Below w.heap.size w w4) := Lib.hid (HB3.out.trans (hb4.mono (by omega)))
  have H4 := Lib.hid (H3.out.below hb4 (by omega))
  have HN4 := Lib.hid (Blk.new w4 zs21 33)
  clear hr4 hb4 hd4 hkey4 hx4l hx41
  go_wp2_with ((with_reducible show wpList _ _ _ (⟨none, .store _ (.tmp 4) (.tmp 23), _, _, _, _⟩ :: _) _ _); refine wpList_stAgg rfl (.tmp 4) (.tmp 23) aggCred rfl rfl (vs := x4.cells) rfl HX4L.out HN4.out (Nat.le_refl _) HX41.out ?_)
  intro w5 h5 k5
  have h5' : Blk w5 w4.heap.size x4.cells 33 := by
    have := h5
    simpa [zs21, Cr.cells] using this
  have hz5 := k5.size
  simp at hz5
  have H5 := Lib.hid h5'
  have hB45 : Below w4.heap.size w4 w5 := ((Below.refl _ _).alloc (Nat.le_refl _) _).trans (k5.below (by omega))
  have HS5 := Lib.hid (HS4.out.below hB45)
  have HB5 : Hid (Below w.heap.size w w5) := Lib.hid (HB4.out.trans (hB45.mono (by omega)))
  have HQ5 := Lib.hid (H4.out.below hB45 (by omega))
  clear h5 h5' k5 hB45
  go_wp2_with fail
  refine (credGet_any _ p (oneL c') 9 _ w5 HS5.out HBX'.out).mono ?_
  rintro e w6 ⟨x6, e6, rfl, hr6, hb6⟩
  obtain ⟨rfl, rfl⟩ := hr6.old HSO.out (by rw [HCF'.out]; decide)
  have hz6 := hb6.size
  have HS6 := Lib.hid (HS5.out.below hb6)
  have HB6 : Hid (Below w.heap.size w w6) := Lib.hid (HB5.out.trans (hb6.mono (by omega)))
  have HX6 := Lib.hid (H5.out.below hb6 (by omega))
  have HQ6 := Lib.hid (HQ5.out.below hb6 (by omega))
  have HN6 := Lib.hid (Blk.new w6 zs21 33)
  clear hr6 hb6
  go_wp2_with ((with_reducible show wpList _ _ _ (⟨none, .store _ (.tmp 6) (.tmp 28), _, _, _, _⟩ :: _) _ _); refine wpList_stAgg rfl (.tmp 6) (.tmp 28) aggCred rfl rfl (vs := Cr.zero.cells) rfl rfl HN6.out (Nat.le_refl _) (Cr.one _ rfl) ?_)
  intro w7 h7 k7
  have hz7 := k7.size
  simp at hz7
  have hB67 : Below w6.heap.size w6 w7 := ((Below.refl _ _).alloc (Nat.le_refl _) _).trans (k7.below (by omega))
  have HS7 := Lib.hid (HS6.out.below hB67)
  have HB7 : Hid (Below w.heap.size w w7) := Lib.hid (HB6.out.trans (hB67.mono (by omega)))
  have HX7 := Lib.hid (HX6.out.below hB67 (by omega))
  have HQ7 := Lib.hid (HQ6.out.below hB67 (by omega))
  clear h7 k7 hB67
  go_wp2_with fail
  refine (credGet_any _ p (oneL c') 8 _ w7 HS7.out HBX'.out).mono ?_
  rintro e w8 ⟨x8, e8, rfl, hr8, hb8⟩
  obtain ⟨rfl, rfl⟩ := hr8.no HSN.out
  have hz8 := hb8.size
  have HS8 := Lib.hid (HS7.out.below hb8)
  have HB8 : Hid (Below w.heap.size w w8) := Lib.hid (HB7.out.trans (hb8.mono (by omega)))
  have HX8 := Lib.hid (HX7.out.below hb8 (by omega))
  have HQ8 := Lib.hid (HQ7.out.below hb8 (by omega))
  have HN8 := Lib.hid (Blk.new w8 zs21 33)
  clear hr8 hb8
  go_wp2_with ((with_reducible show wpList _ _ _ (⟨none, .store _ (.tmp 8) (.tmp 33), _, _, _, _⟩ :: _) _ _); refine wpList_stAgg rfl (.tmp 8) (.tmp 33) aggCred rfl rfl (vs := Cr.zero.cells) rfl rfl HN8.out (Nat.le_refl _) (Cr.one _ rfl) ?_)
  intro w9 h9 k9
  have hz9 := k9.size
  simp at hz9
  have hB89 : Below w8.heap.size w8 w9 := ((Below.refl _ _).alloc (Nat.le_refl _) _).trans (k9.below (by omega))
  have HS9 := Lib.hid (HS8.out.below hB89)
  have HB9 : Hid (Below w.heap.size w w9) := Lib.hid (HB8.out.trans (hB89.mono (by omega)))
  have HX9 := Lib.hid (HX8.out.below hB89 (by omega))
  have HQ9 := Lib.hid (HQ8.out.below hB89 (by omega))
  clear h9 k9 hB89
  go_wp2_with fail
  refine (credWipe_any _ p (oneL c') w9 HS9.out).mono ?_
  rintro e w10 ⟨rfl, hs10, hk10⟩
  have hz10 := hk10.size
  have HS10 := Lib.hid hs10
  have HB10 : Hid (Below w.heap.size w w10) := Lib.hid (HB9.out.trans (hk10.below (by rintro j rfl; exact hpw)))
  have hX10 := HX9.out.keep hk10 (by omega)
  have hQ10 := HQ9.out.keep hk10 (by omega)
  have kx := Cr.keyAt hX10 HX4K.out
  have kq := Cr.keyAt hQ10 HCK.out
  rw [HK4.out] at kx
  have hkl : (bCells c.key).length = 16 := by rw [bCells_length, HCK.out]
  have hei := fun W => run_eqIn_key W c.key c.key HCK.out HCK.out
  simp only [decide_true] at hei
  obtain ⟨X, hXd⟩ : ∃ X, X = bCells c.key := ⟨_, rfl⟩
  rw [← hXd] at kx kq hkl hei
  have KX := Lib.hid kx
  have KQ := Lib.hid kq
  have HKL := Lib.hid hkl
  clear hs10 hk10 hX10 hQ10 kx kq hkl hXd
  go_wp2_with (first | ((with_reducible show wpList _ _ _ (⟨some 45, _, _, _, _, _⟩ :: _) _ _); refine wpList_ldAgg rfl (.tmp 44) aggKey rfl rfl (cs := X) HKL.out KX.out ?_) | ((with_reducible show wpList _ _ _ (⟨some 47, _, _, _, _, _⟩ :: _) _ _); refine wpList_ldAgg rfl (.tmp 46) aggKey rfl rfl (cs := X) HKL.out KQ.out ?_))
  refine (credLen_any _ p noneL w10 HS10.out).mono ?_
  rintro e w11 ⟨rfl, rfl⟩
  rw [show usedN noneL = 0 from rfl]
  go_wp2_with fail
  refine (credKeys_any _ p noneL w10 HS10.out).mono ?_
  rintro e w12 ⟨v12, rfl, ho12, hb12⟩
  obtain ⟨a12, c12, rfl, _⟩ := ho12.sl.form
  have hz12 := hb12.size
  have HS12 := Lib.hid (HS10.out.below hb12)
  have HB12 : Hid (Below w.heap.size w w12) := Lib.hid (HB10.out.trans (hb12.mono (by omega)))
  clear ho12 hb12
  go_wp2_with fail
  refine (credDrop_any _ p noneL _ w12 HS12.out).mono ?_
  rw [show dropI noneL ⟨#[98, 111, 98]⟩ = (noneL, 9) from rfl]
  rintro e w13 ⟨rfl, hs13, hk13⟩
  have HB13 : Hid (Below w.heap.size w w13) := Lib.hid (HB12.out.trans (hk13.below (by rintro j rfl; exact hpw)))
  clear hs13 hk13
  go_wp2_with fail
  go_ret
  exact ⟨rfl, HB13.out⟩
end Go.Proofs.Ytolhphofbkiplaa
