/- Contracts of package cred: Get, Keys. -/
import Derived.Test.YtolhphofbkiplaaCred4
namespace Go.Proofs.Ytolhphofbkiplaa
set_option linter.unusedSimpArgs false
set_option linter.unusedVariables false
open Go.RowKit

/-- The ticket of a server, if there is one. -/
def slotOf (L : List (Option Cr)) (s : ByteArray) : Option Cr := if placeI L s < 0 then none else L.getD (placeI L s).toNat none

/-- What Get answers. -/
def GetRes (w' : World) (B : Nat) (L : List (Option Cr)) (now : Int) (s : ByteArray) (c' : Cr) (e : Int) : Prop :=
  c'.key.length = 16 ∧ Bs w' c'.bv c'.box ∧ (∀ b, c'.bv.ownBlock = some b → B ≤ b ∧ b < w'.heap.size) ∧ (c'.box = [] ∨ ∃ g cap rest, c'.bv = .slice (some ⟨g, 0, none⟩) c'.box.length cap ∧ Blk w' g (bCells c'.box ++ rest) 5) ∧
  match slotOf L s with
  | none => c' = Cr.zero ∧ e = 9
  | some c => if c.fin ≤ now then c' = Cr.zero ∧ e = 12 else c'.dat = c.dat ∧ e = 0

def zs21 : List Value := [.string ⟨#[]⟩, .slice none 0 0, .int .u8 0, .int .u8 0, .int .u8 0, .int .u8 0, .int .u8 0, .int .u8 0, .int .u8 0, .int .u8 0, .int .u8 0, .int .u8 0, .int .u8 0, .int .u8 0, .int .u8 0, .int .u8 0, .int .u8 0, .int .u8 0, .int .i64 0, .int .i64 0, .int .i64 0]
theorem zs21_eq : Cr.zero.cells = zs21 := rfl
theorem zs21_one : ∀ u ∈ zs21, u.oneCell' = true := Cr.one Cr.zero rfl

theorem StoreAt.cells {w : World} {F : Nat → Prop} {p : Nat} {L : List (Option Cr)} (h : StoreAt w F p L) (k : Nat) (hk : k < L.length) : CellsAt w p (k * 21) (slC L[k]).cells := by
  intro j u hj
  have hkey := slC_key (fun c hc => (h.2.2.2 c hc).1)
  have hj' : j < 21 := by
    have := (List.getElem?_eq_some_iff.1 hj).1
    rw [Cr.cells_length _ (hkey _ (List.getElem_mem hk))] at this
    exact this
  rw [h.slot k j hk hj']
  exact hj

theorem getRes_zero (w' : World) (B : Nat) (L : List (Option Cr)) (now : Int) (s : ByteArray) (e : Int) (h : match slotOf L s with | none => e = 9 | some c => c.fin ≤ now ∧ e = 12) : GetRes w' B L now s Cr.zero e := by
  refine ⟨rfl, Sl.nil _ _ _, by simp [Cr.zero, Value.ownBlock], .inl rfl, ?_⟩
  split
  · rename_i heq
    rw [heq] at h
    exact ⟨rfl, h⟩
  · rename_i c heq
    rw [heq] at h
    rw [if_pos h.1]
    exact ⟨rfl, h.2⟩

set_option maxHeartbeats 2000000 in
set_option maxRecDepth 100000 in
theorem credGet_any (F : Nat → Prop) (p : Nat) (L : List (Option Cr)) (now : Int) (s : ByteArray) (w : World) (h : StoreAt w F p L) (hbx : ∀ c, some c ∈ L → c.box.length ≤ 140737488351232) :
    Calls Try.prog 11 #[.pointer (some ⟨p, 0, none⟩), .int .i64 now, .string s] w fun e w' => ∃ (c' : Cr) (er : Int), e = .returned (.tuple #[.agg c'.cells.toArray, .int .i64 er]) ∧ GetRes w' w.heap.size L now s c' er ∧ Below w.heap.size w w' := by
  have hz : Try.prog.built 33 [] = some zs21.toArray := zero_cells
  have HZ := Lib.hid hz
  have HBz := Lib.hid (Blk.new w zs21 33)
  have HH := Lib.hid (h.below ((Below.refl _ _).alloc (Nat.le_refl _) (.cells zs21.toArray 33)))
  have HL := Lib.hid h.2.1
  have HBX := Lib.hid hbx
  have hplt := h.lt
  have HBB : Hid (Below w.heap.size w (w.alloc (.cells zs21.toArray 33))) := Lib.hid ((Below.refl _ _).alloc (Nat.le_refl _) _)
  clear hz h hbx
  go_enter Try.func11, Try.ntmps11
  go_wp2_with fail
  refine (credPlace_any F p L s _ HH.out).mono ?_
  rintro e w1 ⟨rfl, hw1⟩
  have HBz1 : Hid (Blk w1 w.heap.size zs21 33) := Lib.hid (by rw [← hw1]; exact HBz.out)
  have HH1 : Hid (StoreAt w1 F p L) := Lib.hid (by rw [← hw1]; exact HH.out)
  have HB1 : Hid (Below w.heap.size w w1) := Lib.hid (by rw [← hw1]; exact HBB.out)
  have hz1 : w.heap.size + 1 ≤ w1.heap.size := by rw [← hw1]; simp
  clear hw1 HBz HH HBB
  by_cases hneg : placeI L s < 0
  · have hso : slotOf L s = none := by rw [slotOf, if_pos hneg]
    have HR := Lib.hid (fun w' => getRes_zero w' w.heap.size L now s 9 (by rw [hso]))
    clear hso
    go_wp2_with (first | ((with_reducible show wpList _ _ _ (⟨some 25, _, _, _, _, _⟩ :: _) _ _); refine wpList_bld rfl rfl HZ.out ?_) | ((with_reducible show wpList _ _ _ (⟨none, .store _ (.tmp 6) (.tmp 25), _, _, _, _⟩ :: _) _ _); refine wpList_stAgg rfl (.tmp 6) (.tmp 25) aggCred rfl rfl (vs := zs21) rfl rfl HBz1.out (Nat.le_refl _) zs21_one ?_))
    intro w2 h2 k2
    have h2' : Blk w2 w.heap.size zs21 33 := by simpa [zs21] using h2
    have H2 := Lib.hid h2'
    have HB2 : Hid (Below w.heap.size w w2) := Lib.hid (HB1.out.trans (k2.below (by omega)))
    clear h2 h2' k2
    go_wp2_with fail
    exact bodyPost_ret (results_agg_tmp rfl aggCred rfl (cs := zs21) rfl H2.out.cellsAll) rfl ⟨Cr.zero, 9, rfl, HR.out _, HB2.out⟩
  · obtain ⟨k, hkk⟩ : ∃ k : Nat, placeI L s = k := ⟨(placeI L s).toNat, by omega⟩
    have hk16 : k < 16 := by have := placeI_lt L s; rw [HL.out] at this; omega
    have hkL : k < L.length := by rw [HL.out]; exact hk16
    rw [hkk] at hneg ⊢
    have HKK := Lib.hid hkk
    have hiu := ixUsed p k hk16
    have hia := ixSlot p k hk16
    have hcu := HH1.out.usedC k hkL
    have hg : L.getD k none = L[k] := by simp [List.getD, hkL]
    cases ho : L[k] with
    | none =>
      have hso : slotOf L s = none := by rw [slotOf, HKK.out, if_neg (by omega), Int.toNat_natCast, hg, ho]
      have HR := Lib.hid (fun w' => getRes_zero w' w.heap.size L now s 9 (by rw [hso]))
      have hcu2 : w1.cell? ⟨p, 336 + k, none⟩ = some (.bool false) := by rw [hcu, ho]; rfl
      clear hkk ho hg hcu hso
      go_wp2_with (first | ((with_reducible show wpList _ _ _ (⟨some 25, _, _, _, _, _⟩ :: _) _ _); refine wpList_bld rfl rfl HZ.out ?_) | ((with_reducible show wpList _ _ _ (⟨none, .store _ (.tmp 6) (.tmp 25), _, _, _, _⟩ :: _) _ _); refine wpList_stAgg rfl (.tmp 6) (.tmp 25) aggCred rfl rfl (vs := zs21) rfl rfl HBz1.out (Nat.le_refl _) zs21_one ?_))
      intro w2 h2 k2
      have h2' : Blk w2 w.heap.size zs21 33 := by simpa [zs21] using h2
      have H2 := Lib.hid h2'
      have HB2 : Hid (Below w.heap.size w w2) := Lib.hid (HB1.out.trans (k2.below (by omega)))
      clear h2 h2' k2
      go_wp2_with fail
      exact bodyPost_ret (results_agg_tmp rfl aggCred rfl (cs := zs21) rfl H2.out.cellsAll) rfl ⟨Cr.zero, 9, rfl, HR.out _, HB2.out⟩
    | some c =>
      have hmem : some c ∈ L := by rw [← ho]; exact List.getElem_mem hkL
      obtain ⟨hck, hcb, hcf⟩ := HH1.out.2.2.2 c hmem
      have hcbl := HBX.out c hmem
      have hso : slotOf L s = some c := by rw [slotOf, HKK.out, if_neg (by omega), Int.toNat_natCast, hg, ho]
      have hcu2 : w1.cell? ⟨p, 336 + k, none⟩ = some (.bool true) := by rw [hcu, ho]; rfl
      have hfin : w1.cell? ⟨p, k * 21 + 19, none⟩ = some (.int .i64 c.fin) := by
        rw [HH1.out.slot k 19 hkL (by decide), ho]
        exact Cr.c19 c hck
      have hcells := HH1.out.cells k hkL
      rw [ho] at hcells
      have HCE : Hid (CellsAt w1 p (k * 21) c.cells) := Lib.hid hcells
      have HSO := Lib.hid hso
      have HCK := Lib.hid hck
      have HCB := Lib.hid hcb
      have HCF := Lib.hid hcf
      clear hkk ho hg hcu hso hcells hck hcb hcf hmem
      by_cases hf : c.fin ≤ now
      · have HR := Lib.hid (fun w' => getRes_zero w' w.heap.size L now s 12 (by rw [HSO.out]; exact ⟨hf, rfl⟩))
        go_wp2_with (first | ((with_reducible show wpList _ _ _ (⟨some 36, _, _, _, _, _⟩ :: _) _ _); refine wpList_bld rfl rfl HZ.out ?_) | ((with_reducible show wpList _ _ _ (⟨none, .store _ (.tmp 6) (.tmp 36), _, _, _, _⟩ :: _) _ _); refine wpList_stAgg rfl (.tmp 6) (.tmp 36) aggCred rfl rfl (vs := zs21) rfl rfl HBz1.out (Nat.le_refl _) zs21_one ?_))
        intro w2 h2 k2
        have h2' : Blk w2 w.heap.size zs21 33 := by simpa [zs21] using h2
        have H2 := Lib.hid h2'
        have HB2 : Hid (Below w.heap.size w w2) := Lib.hid (HB1.out.trans (k2.below (by omega)))
        clear h2 h2' k2
        go_wp2_with fail
        exact bodyPost_ret (results_agg_tmp rfl aggCred rfl (cs := zs21) rfl H2.out.cellsAll) rfl ⟨Cr.zero, 12, rfl, HR.out _, HB2.out⟩
      · have hcl := Cr.cells_length c HCK.out
        obtain ⟨ab, cb, hbv, hcb2, hmb⟩ := HCB.out.form
        have hc1 : ∀ u ∈ c.cells, u.oneCell' = true := Cr.one c (by rw [hbv]; rfl)
        have HCL := Lib.hid hcl
        have HC1 := Lib.hid hc1
        have HBV := Lib.hid hbv
        have HN := Lib.hid (Blk.new w1 zs21 33)
        unfold maxLen at hmb
        clear hcl hc1 hbv
        go_wp2_with (first | ((with_reducible show wpList _ _ _ (⟨some 42, _, _, _, _, _⟩ :: _) _ _); refine wpList_ldAgg rfl (.tmp 41) aggCred rfl rfl (cs := c.cells) HCL.out HCE.out ?_) | ((with_reducible show wpList _ _ _ (⟨none, .store _ (.tmp 9) (.tmp 42), _, _, _, _⟩ :: _) _ _); refine wpList_stAgg rfl (.tmp 9) (.tmp 42) aggCred rfl rfl (vs := c.cells) rfl HCL.out HN.out (Nat.le_refl _) HC1.out ?_))
        intro w2 h2 k2
        have h2' : Blk w2 w1.heap.size c.cells 33 := by
          have := h2
          simpa [zs21, Cr.cells] using this
        have hz2 := k2.size
        simp at hz2
        have HB2 : Hid (Below w.heap.size w w2) := Lib.hid ((HB1.out.alloc (by omega) _).trans (k2.below (by omega)))
        have HR2 : Hid (Blk w2 w.heap.size zs21 33) := Lib.hid ((HBz1.out.alloc _).keep k2 (by omega))
        have HCB2 : Hid (Bs w2 c.bv c.box) := Lib.hid (Sl.keep' (HCB.out.alloc _) k2 (fun b hb hl e => by have := (HCF.out b hb).2.2; omega))
        have x1 : w2.cell? ⟨w1.heap.size, 1, none⟩ = some (.slice ab c.box.length cb) := by rw [h2'.cell, ← HBV.out]; rfl
        have H2 := Lib.hid h2'
        rw [HBV.out] at HCB2
        clear h2 h2' k2 HN HCE
        go_wp2_with ((with_reducible show wpList _ _ _ (⟨some 46, _, _, _, _, _⟩ :: _) _ _); refine wpList_app_nil rfl (.const (.slice none 0 0)) (.tmp 45) elBytes rfl rfl HCB2.out (by unfold maxLen; omega) (by omega) ?_)
        intro v3 w3 ho3 hk3 hvb3
        have hb3 : Bs w3 v3 c.box := ho3.sl
        have hz3 := hk3.size
        have hb23 := H2.out.keep hk3 (by omega)
        have y1 : w3.cell? ⟨w1.heap.size, 1, none⟩ = some (.slice ab c.box.length cb) := by rw [hb23.cell, ← HBV.out]; rfl
        have g1 := hb23.frozen 1
        have hfresh : c.box = [] ∨ ∃ g cap rest, v3 = .slice (some ⟨g, 0, none⟩) c.box.length cap ∧ w2.heap.size ≤ g ∧ Blk w3 g (bCells c.box ++ rest) 5 := by
          by_cases hbe : c.box = []
          · exact .inl hbe
          · obtain ⟨g, cap, rest, e1, e2, e3, _⟩ := OwnBs.blk (show OwnBs w3 w2.heap.size v3 c.box from ho3) (List.length_pos_iff.2 hbe)
            exact .inr ⟨g, cap, rest, e1, e2, e3⟩
        obtain ⟨a3, c3, hv3f, _⟩ := hb3.form
        have hvb3' := hvb3
        subst hv3f
        obtain ⟨c', hc'⟩ : ∃ c' : Cr, c' = { c with bv := .slice a3 c.box.length c3 } := ⟨_, rfl⟩
        have hb4 : Blk (w3.setCell ⟨w1.heap.size, 1, none⟩ (.slice a3 c.box.length c3)) w1.heap.size c'.cells 33 := by
          have := hb23.set 1 (.slice a3 c.box.length c3)
          rw [hc']
          exact this
        have hbs4 : Bs (w3.setCell ⟨w1.heap.size, 1, none⟩ (.slice a3 c.box.length c3)) (.slice a3 c.box.length c3) c.box := Sl.setCell hb3 (by intro e; have := (hvb3 _ e).1; simp at this; omega) _
        have hB4 : Below w.heap.size w (w3.setCell ⟨w1.heap.size, 1, none⟩ (.slice a3 c.box.length c3)) := (HB2.out.trans (hk3.below (fun j hj => by omega))).setCell (by simp; omega) _
        have hR4 : Blk (w3.setCell ⟨w1.heap.size, 1, none⟩ (.slice a3 c.box.length c3)) w.heap.size zs21 33 := (HR2.out.keep hk3 (by omega)).set_other (by simp; omega) _
        have hf4 : c.box = [] ∨ ∃ g cap rest, Value.slice a3 c.box.length c3 = .slice (some ⟨g, 0, none⟩) c.box.length cap ∧ w2.heap.size ≤ g ∧ Blk (w3.setCell ⟨w1.heap.size, 1, none⟩ (.slice a3 c.box.length c3)) g (bCells c.box ++ rest) 5 := by
          rcases hfresh with h | ⟨g, cap, rest, e1, e2, e3⟩
          · exact .inl h
          · exact .inr ⟨g, cap, rest, e1, e2, e3.set_other (by simp; omega) _⟩
        have hc'l := Cr.cells_length c' (by rw [hc']; exact HCK.out)
        have hc'1 : ∀ u ∈ c'.cells, u.oneCell' = true := Cr.one c' (by rw [hc']; rfl)
        have H4 := Lib.hid hb4
        have HBS4 := Lib.hid hbs4
        have HB4 := Lib.hid hB4
        have HR4 := Lib.hid hR4
        have HF4 := Lib.hid hf4
        have HC' := Lib.hid hc'
        have HCL' := Lib.hid hc'l
        have HC1' := Lib.hid hc'1
        have HVB := Lib.hid hvb3'
        clear ho3 hk3 hvb3 hvb3' hb3 hb23 hfresh hb4 hbs4 hB4 hR4 hf4 hc' hc'l hc'1 x1
        go_wp2_with (first | ((with_reducible show wpList _ _ _ (⟨some 49, _, _, _, _, _⟩ :: _) _ _); refine wpList_ldAgg rfl (.tmp 9) aggCred rfl rfl (cs := c'.cells) HCL'.out H4.out.cellsAll ?_) | ((with_reducible show wpList _ _ _ (⟨none, .store _ (.tmp 6) (.tmp 49), _, _, _, _⟩ :: _) _ _); refine wpList_stAgg rfl (.tmp 6) (.tmp 49) aggCred rfl rfl (vs := c'.cells) rfl HCL'.out HR4.out (Nat.le_refl _) HC1'.out ?_))
        intro w5 h5 k5
        have h5' : Blk w5 w.heap.size c'.cells 33 := by
          have := h5
          simpa [zs21, Cr.cells] using this
        have H5 := Lib.hid h5'
        have hB5 : Below w.heap.size w w5 := HB4.out.trans (k5.below (by omega))
        have hz5 := k5.size
        simp at hz5
        have hres : GetRes w5 w.heap.size L now s c' 0 := by
          refine ⟨by rw [HC'.out]; exact HCK.out, ?_, ?_, ?_, ?_⟩
          · rw [HC'.out]
            exact Sl.keep HBS4.out k5 (fun b hb e => by have := (HVB.out b hb).1; omega)
          · intro b hb
            rw [HC'.out] at hb
            have := HVB.out b hb
            omega
          · rw [HC'.out]
            rcases HF4.out with h | ⟨g, cap, rest, e1, e2, e3⟩
            · exact .inl h
            · exact .inr ⟨g, cap, rest, e1, e3.keep k5 (by omega)⟩
          · rw [HSO.out]
            simp only
            rw [if_neg (by omega), HC'.out]
            exact ⟨by first | trivial | rfl, by first | trivial | rfl⟩
        have HRES := Lib.hid hres
        have HB5 := Lib.hid hB5
        clear h5 h5' k5 hB5 hres
        go_wp2_with fail
        exact bodyPost_ret (results_agg_tmp rfl aggCred rfl (cs := c'.cells) HCL'.out H5.out.cellsAll) rfl ⟨c', 0, rfl, HRES.out, HB5.out⟩
end Go.Proofs.Ytolhphofbkiplaa
