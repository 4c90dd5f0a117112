/- Contract: law 13's alive. -/
import Derived.Test.YtclonbojpcgngaaBNames
import Derived.Test.YtclonbojpcgngaaBook
namespace Go.Proofs.Ytclonbojpcgngaa
set_option linter.unusedSimpArgs false
set_option linter.unusedVariables false
open Go.RowKit

def annB : ByteArray := ⟨#[97, 110, 110]⟩
def annU : Us := ⟨annB, List.replicate 16 0, rfl, 60, 0, false⟩
theorem annR : rightB annB = true := by kernel_rfl
theorem annAdd : addU [] annU = ([annU], 0) := by
  rw [addU, if_neg (by rw [show annU.name = annB from rfl, annR]; decide), if_neg (by decide), if_neg (by decide), if_neg (by decide)]
  rfl
theorem annHas : hasU [annU] annB = true := by kernel_rfl
theorem annTwice : addU [annU] annU = ([annU], 10) := by
  rw [addU, if_neg (by rw [show annU.name = annB from rfl, annR]; decide), if_neg (by decide), if_pos (by exact annHas)]
theorem annGet : getC [annU] annB = annU.cells := by kernel_rfl
theorem annGetE : getE [annU] annB = 0 := by rw [getE, if_pos annHas]
theorem annDrop : dropU [annU] annB = ([], 0) := by
  rw [dropU, if_pos annHas]
  kernel_rfl
theorem annSet : setB [] 5 annB 9 = ([(annB, 9)], 0) := by
  rw [setB, if_neg (by rw [annR]; decide), if_neg (by decide), if_neg (by decide)]
  rfl
theorem annFind8 : findB [(annB, 9)] 8 annB = (9, true) := by kernel_rfl
theorem annFind9 : findB [(annB, 9)] 9 annB = (0, false) := by kernel_rfl
theorem annS : annB.size ≤ maxLen := by unfold maxLen; decide

set_option maxRecDepth 100000 in
set_option maxHeartbeats 2000000 in
theorem alive13_any (w : World) : Calls Try.prog 6 #[] w fun e w' => e = .returned (.bool true) ∧ Below w.heap.size w w' := by
  have HC := Lib.hid (Hold.start w)
  go_enter Try.func6, Try.ntmps6
  go_wp2_with fail
  refine (baseNew_any _ _ HC.out).mono ?_
  rintro e w1 ⟨p, rfl, hc⟩
  have HC := Lib.hid hc
  clear hc
  go_wp2_with fail
  refine (newBook_any _ _ HC.out).mono ?_
  rintro e w2 ⟨q, rfl, hc⟩
  have HC := Lib.hid hc.swap
  clear hc
  go_wp2_with fail
  have h1 := add_any p [] annU _ w2 HC.out .nil (by decide) annS
  rw [annAdd] at h1
  refine (show Calls Try.prog _ _ _ _ from h1).mono ?_
  rintro e w3 ⟨rfl, hc⟩
  have hso : Sorted [annU] := List.pairwise_singleton _ _
  have HSO := Lib.hid hso
  have HC := Lib.hid hc
  clear hc h1 hso
  have h2 := get_any p [annU] annB _ w3 HC.out HSO.out (by decide)
  rw [annGet, annGetE] at h2
  have H2 := Lib.hid h2
  clear h2
  go_wp2_with fail
  refine (show Calls Try.prog _ _ _ _ from H2.out).mono ?_
  rintro e w4 ⟨rfl, hb⟩
  have HC4 := Lib.hid (HC.out.step hb)
  obtain ⟨g, hg⟩ : ∃ g, g = w4.heap.size := ⟨_, rfl⟩
  have HC5 := Lib.hid (HC4.out.addBlkAt zsU 30 hg.symm)
  have HN := Lib.hid (HC5.out.blkOf (p := g) (cs := zsU) (T := 30) (by simp))
  have HGE := Lib.hid hg
  clear hb H2 HC HC4 hg
  go_wp2_with ((with_reducible show wpList _ _ _ (⟨none, .store _ (.tmp 4) (.tmp 25), _, _, _, _⟩ :: _) _ _); rw [← HGE.out]; refine wpList_stAgg rfl (.tmp 4) (.tmp 25) aggUs rfl rfl (vs := annU.cells) rfl annU.cells_length HN.out (Nat.le_refl _) annU.cells_one ?_)
  intro w5 h5 k5
  have h5' : Blk w5 g annU.cells 30 := by simpa [zsU] using h5
  have HC := Lib.hid (HC5.out.blkTurn h5' k5)
  have HC6 := Lib.hid (HC.out.front (m := [_, _, _, _]) (l := []) [2, 1, 0, 3] 4 (by decide))
  have H6 := Lib.hid (set_any q [] 5 annB 9 _ w5 HC6.out annS (by decide) (by decide))
  clear h5 h5' k5 HC5 HN HC
  go_wp2_with fail
  refine (show Calls Try.prog _ _ _ _ from H6.out).mono ?_
  rw [annSet]
  rintro e w6 ⟨rfl, hc⟩
  have HC := Lib.hid hc
  have h7 := find_any q [(annB, 9)] 8 annB _ w6 hc annS
  rw [annFind8] at h7
  have h8 := find_any q [(annB, 9)] 9 annB _ w6 hc annS
  rw [annFind9] at h8
  have H7 := Lib.hid h7
  have H8 := Lib.hid h8
  clear hc h7 h8 H6 HC6
  go_wp2_with fail
  refine (show Calls Try.prog _ _ _ _ from H7.out).mono ?_
  rintro e w7 ⟨rfl, rfl⟩
  go_wp2_with fail
  refine (show Calls Try.prog _ _ _ _ from H8.out).mono ?_
  rintro e w8 ⟨rfl, rfl⟩
  clear H7 H8
  have HC := Lib.hid (HC.out.front (m := [_, _, _, _]) (l := []) [1, 2, 0, 3] 4 (by decide))
  have hbg := HC.out.blkOf (p := g) (cs := annU.cells) (T := 30) (by simp)
  have c17 := hbg.cell 17
  rw [annU.c17] at c17
  have HBG := Lib.hid hbg
  have h9 := add_any p [annU] annU _ _ HC.out HSO.out (by decide) annS
  rw [annTwice] at h9
  have H9 := Lib.hid h9
  clear h9 hbg
  go_wp2_with ((with_reducible show wpList _ _ _ (⟨some 52, _, _, _, _, _⟩ :: _) _ _); refine wpList_ldAgg rfl (.tmp 4) aggUs rfl rfl (cs := annU.cells) annU.cells_length HBG.out.cellsAll ?_)
  refine (show Calls Try.prog _ _ _ _ from H9.out).mono ?_
  rintro e w9 ⟨rfl, hc⟩
  have h10 := Lib.hid (names_any p [annU] _ _ hc (by decide))
  clear hc H9 HBG
  go_wp2_with fail
  refine (show Calls Try.prog _ _ _ _ from h10.out).mono ?_
  rintro e w10 ⟨v, rfl, hc⟩
  obtain ⟨av, cv, rfl, _, _⟩ := (hc.ownOf (List.mem_cons_self)).1.sl.form
  have h11 := drop_any p [annU] annB _ _ hc.tail HSO.out (by decide)
  rw [annDrop] at h11
  have H11 := Lib.hid h11
  clear h11 h10 hc
  go_wp2_with fail
  refine (show Calls Try.prog _ _ _ _ from H11.out).mono ?_
  rintro e w11 ⟨rfl, hc⟩
  have HB := Lib.hid (hc.baseOf (w0 := w) (by simp))
  clear hc H11
  go_wp2_with fail
  go_ret
  exact ⟨rfl, HB.out⟩
end Go.Proofs.Ytclonbojpcgngaa
