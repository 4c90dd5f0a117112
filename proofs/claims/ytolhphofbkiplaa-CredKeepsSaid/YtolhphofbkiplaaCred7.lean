/- The laws of cred: same. -/
import Derived.Test.YtolhphofbkiplaaCred6
import Derived.Test.YtolhphofbkiplaaSame
namespace Go.Proofs.Ytolhphofbkiplaa
set_option linter.unusedSimpArgs false
set_option linter.unusedVariables false
open Go.RowKit

theorem Cr.keyAt {w : World} {q : Nat} {c : Cr} {T : TypeId} (h : Blk w q c.cells T) (hk : c.key.length = 16) : CellsAt w q 2 (bCells c.key) := by
  intro j u hj
  have hjl : j < 16 := by have := (List.getElem?_eq_some_iff.1 hj).1; rw [bCells_length, hk] at this; exact this
  rw [h.cell]
  rw [← Cr.ckey _ hk, List.getElem?_take, if_pos hjl, List.getElem?_drop] at hj
  exact hj

set_option maxHeartbeats 2000000 in
set_option maxRecDepth 100000 in
theorem credSame_any (c d : Cr) (w : World) (hd : c.dat = d.dat) (hk : c.key.length = 16) (hb : Bs w c.bv c.box) (hv : Bs w d.bv d.box) :
    Calls Try.prog 13 #[.agg c.cells.toArray, .agg d.cells.toArray] w fun e w' => e = .returned (.bool true) ∧ Below w.heap.size w w' := by
  have hdk : d.key.length = 16 := by
    have : c.key = d.key := by simp only [Cr.dat, Prod.mk.injEq] at hd; exact hd.2.2.1
    rw [← this]; exact hk
  obtain ⟨ac, cc, hbv, _⟩ := hb.form
  obtain ⟨ad, cd, hdv, _⟩ := hv.form
  have hc1 := Cr.cells_length c hk
  have hd1 := Cr.cells_length d hdk
  obtain ⟨W2, hW2⟩ : ∃ W2, W2 = (w.alloc (.cells c.cells.toArray 33)).alloc (.cells d.cells.toArray 33) := ⟨_, rfl⟩
  have hB1 : Blk W2 w.heap.size c.cells 33 := by rw [hW2]; exact (Blk.new w _ _).alloc _
  have hB2 : Blk W2 (w.heap.size + 1) d.cells 33 := by rw [hW2]; exact Blk.at_ (cs := d.cells.toArray) (by simp)
  have hBl : Below w.heap.size w W2 := by rw [hW2]; exact ((Below.refl _ _).alloc (Nat.le_refl _) _).alloc (by simp) _
  have x0 : W2.cell? ⟨w.heap.size, 0, none⟩ = some (.string c.srv) := by rw [hB1.cell]; rfl
  have x1 : W2.cell? ⟨w.heap.size, 1, none⟩ = some (.slice ac c.box.length cc) := by rw [hB1.cell, ← hbv]; rfl
  have x18 : W2.cell? ⟨w.heap.size, 18, none⟩ = some (.int .i64 c.flags) := by rw [hB1.cell]; exact Cr.c18 c hk
  have x19 : W2.cell? ⟨w.heap.size, 19, none⟩ = some (.int .i64 c.fin) := by rw [hB1.cell]; exact Cr.c19 c hk
  have x20 : W2.cell? ⟨w.heap.size, 20, none⟩ = some (.int .i64 c.renew) := by rw [hB1.cell]; exact Cr.c20 c hk
  have y0 : W2.cell? ⟨w.heap.size + 1, 0, none⟩ = some (.string d.srv) := by rw [hB2.cell]; rfl
  have y1 : W2.cell? ⟨w.heap.size + 1, 1, none⟩ = some (.slice ad d.box.length cd) := by rw [hB2.cell, ← hdv]; rfl
  have y18 : W2.cell? ⟨w.heap.size + 1, 18, none⟩ = some (.int .i64 d.flags) := by rw [hB2.cell]; exact Cr.c18 d hdk
  have y19 : W2.cell? ⟨w.heap.size + 1, 19, none⟩ = some (.int .i64 d.fin) := by rw [hB2.cell]; exact Cr.c19 d hdk
  have y20 : W2.cell? ⟨w.heap.size + 1, 20, none⟩ = some (.int .i64 d.renew) := by rw [hB2.cell]; exact Cr.c20 d hdk
  have kc := Cr.keyAt hB1 hk
  have kd := Cr.keyAt hB2 hdk
  have bs1 : Bs W2 (.slice ac c.box.length cc) c.box := by rw [← hbv]; exact Bs.below hb hBl
  have bs2 : Bs W2 (.slice ad d.box.length cd) d.box := by rw [← hdv]; exact Bs.below hv hBl
  simp only [Cr.dat, Prod.mk.injEq] at hd
  obtain ⟨e1, e2, e3, e4, e5, e6⟩ := hd
  rw [← e1] at y0
  rw [← e2] at y1 bs2
  rw [← e3] at kd
  rw [← e4] at y18
  rw [← e5] at y19
  rw [← e6] at y20
  have hX : (bCells c.key).length = 16 := by rw [bCells_length, hk]
  have hei := fun W => run_eqIn_key W c.key c.key hk hk
  obtain ⟨X, hXd⟩ : ∃ X, X = bCells c.key := ⟨_, rfl⟩
  rw [← hXd] at kc kd hX hei
  simp only [decide_true] at hei
  have hsr : (c.srv.toList == c.srv.toList) = true := by simp
  obtain ⟨C, hC⟩ : ∃ C, C = c.cells := ⟨_, rfl⟩
  obtain ⟨D, hD⟩ : ∃ D, D = d.cells := ⟨_, rfl⟩
  rw [← hC, ← hD] at hW2 ⊢
  have KC := Lib.hid kc
  have KD := Lib.hid kd
  have HX := Lib.hid hX
  have B1 := Lib.hid bs1
  have B2 := Lib.hid bs2
  have HBL := Lib.hid hBl
  subst hW2
  clear e1 e2 e3 e4 e5 e6 kc kd hX bs1 bs2 hXd hC hD hB1 hB2 hBl hc1 hd1 hbv hdv hb hv hk hdk
  go_enter Try.func13, Try.ntmps13
  go_wp2_with fail
  refine (same_b _ _ _ _ _ B1.out B2.out).mono ?_
  rintro e w3 ⟨rfl, hb3⟩
  have hz3 := hb3.size
  simp at hz3
  have hdd : decide (c.box = c.box) = true := by simp
  have KC3 : Hid (CellsAt w3 w.heap.size 2 X) := Lib.hid (fun j u hj => below_cell hb3 (KC.out j u hj))
  have KD3 : Hid (CellsAt w3 (w.heap.size + 1) 2 X) := Lib.hid (fun j u hj => below_cell hb3 (KD.out j u hj))
  have X18 := below_cell hb3 x18
  have X19 := below_cell hb3 x19
  have X20 := below_cell hb3 x20
  have Y18 := below_cell hb3 y18
  have Y19 := below_cell hb3 y19
  have Y20 := below_cell hb3 y20
  have HB3 : Hid (Below w.heap.size w w3) := Lib.hid (HBL.out.trans (hb3.mono (by simp; omega)))
  clear hb3 x0 x1 x18 x19 x20 y0 y1 y18 y19 y20
  go_wp2_with (first | ((with_reducible show wpList _ _ _ (⟨some 23, _, _, _, _, _⟩ :: _) _ _); refine wpList_ldAgg rfl (.tmp 22) aggKey rfl rfl (cs := X) HX.out KC3.out ?_) | ((with_reducible show wpList _ _ _ (⟨some 25, _, _, _, _, _⟩ :: _) _ _); refine wpList_ldAgg rfl (.tmp 24) aggKey rfl rfl (cs := X) HX.out KD3.out ?_))
  go_ret
  exact ⟨rfl, HB3.out⟩
end Go.Proofs.Ytolhphofbkiplaa
