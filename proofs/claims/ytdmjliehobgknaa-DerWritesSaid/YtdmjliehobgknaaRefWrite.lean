/- Contract: the document's Write. -/
import Derived.Test.YtdmjliehobgknaaRefBytes
namespace Go.Proofs.Ytdmjliehobgknaa
set_option linter.unusedSimpArgs false
set_option linter.unusedVariables false
open Go.RowKit

set_option maxHeartbeats 4000000 in
set_option maxRecDepth 100000 in
theorem refWriteIt_any (x : Tv) (F : Nat → Prop) (cs : List Value) (w : World) (h : TvF w F x cs) (hn : Nw x) (hlen : rightS 8 x = true → (writeS x).length ≤ 1073741824) :
    Calls Try.prog 32 #[.agg cs.toArray] w (WtRes w (wrS x)) := by
  have hcl := h.length
  have HCL := Lib.hid hcl
  have HN := Lib.hid (Blk.new w cs 50)
  have HT := Lib.hid h
  have HR := Lib.hid (refRight_any 8 1 x F cs (w.alloc (.cells cs.toArray 50)) (by decide) (Nat.le_refl _) (h.below ((Below.refl _ _).alloc (Nat.le_refl _) _)))
  have HNW := Lib.hid hn
  have HLEN := Lib.hid hlen
  clear h hcl hn hlen
  go_enter Try.func32, Try.ntmps32
  go_wp2_with ((with_reducible show wpList _ _ _ (⟨some 5, _, _, _, _, _⟩ :: _) _ _); refine wpList_ldAgg rfl (.tmp 1) aggRef rfl rfl (cs := cs) HCL.out HN.out.cellsAll ?_)
  refine HR.out.mono ?_
  rintro e w1 ⟨rfl, hb1⟩
  have hz1 := hb1.size
  simp at hz1
  have hba : Below w.heap.size w w1 := ((Below.refl _ _).alloc (Nat.le_refl _) _).trans (hb1.mono (by simp))
  have HB1 := Lib.hid hba
  have HN1 := Lib.hid (HN.out.below hb1 (by simp))
  have HT1 := Lib.hid (HT.out.below hba)
  clear hb1 hba HR
  obtain ⟨r, hr⟩ : ∃ r, r = rightS 8 x := ⟨_, rfl⟩
  rw [← hr]
  cases r with
  | false =>
    have HS : Hid (wrS x = ([], 7)) := Lib.hid (by unfold wrS; rw [if_pos hr.symm])
    clear hr
    go_wp2_with fail
    go_ret2
    rw [HS.out]
    exact ⟨_, rfl, Sl.nil _ _ _, HB1.out⟩
  | true =>
    have hlen := HLEN.out hr.symm
    have HC := Lib.hid (refBytes_any x F cs w1 HT1.out (rightS_ok 8 x hr.symm HNW.out) hlen)
    have hS : wrS x = if 4096 < (writeS x).length then ([], 20) else (writeS x, 0) := by unfold wrS; rw [if_neg (by rw [← hr]; decide)]
    have HS0 := Lib.hid hS
    clear hr hS
    generalize writeS x = bs at HC HS0 hlen
    go_wp2_with ((with_reducible show wpList _ _ _ (⟨some 8, _, _, _, _, _⟩ :: _) _ _); refine wpList_ldAgg rfl (.tmp 1) aggRef rfl rfl (cs := cs) HCL.out HN1.out.cellsAll ?_)
    refine HC.out.mono ?_
    rintro e w2 ⟨v2, rfl, ho2, hb2⟩
    obtain ⟨a2, c2, rfl, hc2, hm2⟩ := ho2.form
    have HO := Lib.hid ho2
    have HB2 : Hid (Below w.heap.size w w2) := Lib.hid (HB1.out.trans (hb2.mono (by omega)))
    unfold maxLen at hm2
    clear ho2 hb2 HC
    by_cases hl : 4096 < bs.length
    · have hl' : (4096 : Int) < bs.length := by omega
      have HS : Hid (wrS x = ([], 20)) := Lib.hid (by rw [HS0.out, if_pos hl])
      clear hl
      go_wp2_with fail
      go_ret2
      rw [HS.out]
      exact ⟨_, rfl, Sl.nil _ _ _, HB2.out⟩
    · have hl' : ¬ (4096 : Int) < bs.length := by omega
      have HS : Hid (wrS x = (bs, 0)) := Lib.hid (by rw [HS0.out, if_neg hl])
      clear hl
      go_wp2_with fail
      go_ret2
      rw [HS.out]
      exact ⟨_, rfl, HO.out, HB2.out⟩
end Go.Proofs.Ytdmjliehobgknaa
