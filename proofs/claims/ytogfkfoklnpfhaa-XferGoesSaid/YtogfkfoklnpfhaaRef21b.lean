/- Contracts: the document's files (compeerref21), but for whole. -/
import Derived.Test.YtogfkfoklnpfhaaRef21
namespace Go.Proofs.Ytogfkfoklnpfhaa
set_option linter.unusedSimpArgs false
set_option linter.unusedVariables false
open Go.RowKit

set_option maxRecDepth 100000 in
set_option maxHeartbeats 4000000 in
theorem refAccept_any (dv ov : Value) (x : RefF) (l : List Res) (w : World) (h : Hold w (.row dv x.data :: l)) (ho : Bs w ov x.of) :
    Calls Try.prog 21 #[.agg #[.int .i64 x.st, .int .i64 x.size, dv, ov]] w (Ref21Res ov (refAccept x) l) := by
  obtain ⟨st, size, data, of⟩ := x
  have hb : Bs w dv data := h.rowOf (by simp)
  obtain ⟨a, c, rfl, h1, h2⟩ := hb.form
  obtain ⟨b, d, rfl, h3, h4⟩ := ho.form
  simp only at h h1 h3 ho hb
  have HH := Lib.hid h
  have HB := Lib.hid hb
  have HO := Lib.hid ho
  unfold maxLen at h2 h4
  clear h hb ho
  by_cases h0 : st = 0
  · subst h0
    have HE : Hid (refAccept ⟨0, size, data, of⟩ = refWhole ⟨1, size, data, of⟩) := Lib.hid (by simp [refAccept])
    have HW0 : Hid (Hold ((w.alloc (.cells #[.int .i64 1, .int .i64 size, .slice a data.length c, .slice b of.length d] 51)).alloc (.cells #[.int .i64 0, .int .i64 0, .slice none 0 0, .slice none 0 0] 51)) (.row (.slice a data.length c) data :: .blk (w.heap.size + 1) [.int .i64 0, .int .i64 0, .slice none 0 0, .slice none 0 0] 51 :: .blk w.heap.size [.int .i64 1, .int .i64 size, .slice a data.length c, .slice b of.length d] 51 :: l)) :=
      Lib.hid ((HH.out.addBlk [.int .i64 1, .int .i64 size, .slice a data.length c, .slice b of.length d] 51).addBlkAt [.int .i64 0, .int .i64 0, .slice none 0 0, .slice none 0 0] _ (by simp)).pull3
    have HOB : Hid (Bs ((w.alloc (.cells #[.int .i64 1, .int .i64 size, .slice a data.length c, .slice b of.length d] 51)).alloc (.cells #[.int .i64 0, .int .i64 0, .slice none 0 0, .slice none 0 0] 51)) (.slice b of.length d) of) := Lib.hid ((HO.out.alloc _).alloc _)
    go_enter Try.func21, Try.ntmps21
    obtain ⟨⟨st', size', data', of'⟩, g, hr⟩ : ∃ r g, refWhole ⟨1, size, data, of⟩ = (r, g) := ⟨_, _, rfl⟩
    have HW := Lib.hid (refWhole_any (.slice a data.length c) (.slice b of.length d) ⟨1, size, data, of⟩ _ _ HW0.out HOB.out)
    rw [hr] at HW
    rw [hr] at HE
    have HR := Lib.hid hr
    clear hr
    go_wp2_with fail
    refine HW.out.mono ?_
    rintro e w3 ⟨dv', rfl, hc⟩
    have hf : Bs w3 dv' data' := hc.rowOf (by simp)
    obtain ⟨a', c', rfl, _, _⟩ := hf.form
    have hk2 := hc.blkOf (p := w.heap.size + 1) (cs := [.int .i64 0, .int .i64 0, .slice none 0 0, .slice none 0 0]) (T := 51) (by simp)
    have d0 := hk2.cell 0
    have g0 := hk2.frozen 0
    have d1 := hk2.cell 1
    have g1 := hk2.frozen 1
    have d2 := hk2.cell 2
    have g2 := hk2.frozen 2
    have d3 := hk2.cell 3
    have g3 := hk2.frozen 3
    simp only [List.getElem?_cons_succ, List.getElem?_cons_zero] at d0 d1 d2 d3
    have HC := Lib.hid ((((hc.swap.set 0 (.int .i64 st')).set 1 (.int .i64 size')).set 2 (.slice a' data'.length c')).set 3 (.slice b of.length d))
    clear hc hf hk2 HW
    go_wp2_with fail
    rw [HE.out]
    exact bodyPost_ret (results_agg_tmp rfl aggIn21 rfl (cs := [.int .i64 st', .int .i64 size', .slice a' data'.length c', (.slice b of.length d)]) rfl (HC.out.blkOf (p := w.heap.size + 1) (cs := [.int .i64 st', .int .i64 size', .slice a' data'.length c', (.slice b of.length d)]) (T := 51) (List.mem_cons_self)).cellsAll) rfl ⟨_, rfl, HC.out.tail.swap.tail⟩
  · have HE : Hid (refAccept ⟨st, size, data, of⟩ = (⟨st, size, data, of⟩, 16)) := Lib.hid (by simp [refAccept, h0])
    have hs1 : (st != 0) = true := by simpa using h0
    clear h0
    go_enter Try.func21, Try.ntmps21
    go_wp2_with fail
    rw [HE.out]
    exact bodyPost_ret (results_agg_tmp rfl aggIn21 rfl (cs := [.int .i64 st, .int .i64 size, .slice a data.length c, .slice b of.length d]) rfl (Blk.at_ (b := w.heap.size + 1) (by simp)).cellsAll) rfl ⟨_, rfl, (HH.out.alloc _).alloc _⟩

set_option maxRecDepth 100000 in
set_option maxHeartbeats 4000000 in
theorem refRefuse_any (dv ov : Value) (x : RefF) (l : List Res) (w : World) (h : Hold w (.row dv x.data :: l)) (ho : Bs w ov x.of) :
    Calls Try.prog 22 #[.agg #[.int .i64 x.st, .int .i64 x.size, dv, ov]] w (Ref21Res ov (refRefuse x) l) := by
  obtain ⟨st, size, data, of⟩ := x
  have hb : Bs w dv data := h.rowOf (by simp)
  obtain ⟨a, c, rfl, h1, h2⟩ := hb.form
  obtain ⟨b, d, rfl, h3, h4⟩ := ho.form
  simp only at h h1 h3 ho hb
  have HH := Lib.hid h
  have HB := Lib.hid hb
  have HO := Lib.hid ho
  unfold maxLen at h2 h4
  clear h hb ho
  by_cases h0 : st = 0
  · subst h0
    have HE : Hid (refRefuse ⟨0, size, data, of⟩ = (⟨3, size, data, of⟩, 0)) := Lib.hid (by simp [refRefuse])
    go_enter Try.func22, Try.ntmps22
    go_wp2_with fail
    rw [HE.out]
    exact bodyPost_ret (results_agg_tmp rfl aggIn21 rfl (cs := [.int .i64 3, .int .i64 size, .slice a data.length c, .slice b of.length d]) rfl (Blk.at_ (b := w.heap.size + 1) (by simp)).cellsAll) rfl ⟨_, rfl, (HH.out.alloc _).alloc _⟩
  · have HE : Hid (refRefuse ⟨st, size, data, of⟩ = (⟨st, size, data, of⟩, 16)) := Lib.hid (by simp [refRefuse, h0])
    have hs1 : (st != 0) = true := by simpa using h0
    clear h0
    go_enter Try.func22, Try.ntmps22
    go_wp2_with fail
    rw [HE.out]
    exact bodyPost_ret (results_agg_tmp rfl aggIn21 rfl (cs := [.int .i64 st, .int .i64 size, .slice a data.length c, .slice b of.length d]) rfl (Blk.at_ (b := w.heap.size + 1) (by simp)).cellsAll) rfl ⟨_, rfl, (HH.out.alloc _).alloc _⟩

set_option maxRecDepth 100000 in
set_option maxHeartbeats 4000000 in
theorem refBreak_any (dv ov : Value) (x : RefF) (l : List Res) (w : World) (h : Hold w (.row dv x.data :: l)) (ho : Bs w ov x.of) :
    Calls Try.prog 25 #[.agg #[.int .i64 x.st, .int .i64 x.size, dv, ov]] w (Ref21Res ov (refBreak x) l) := by
  obtain ⟨st, size, data, of⟩ := x
  have hb : Bs w dv data := h.rowOf (by simp)
  obtain ⟨a, c, rfl, h1, h2⟩ := hb.form
  obtain ⟨b, d, rfl, h3, h4⟩ := ho.form
  simp only at h h1 h3 ho hb
  have HH := Lib.hid h
  have HB := Lib.hid hb
  have HO := Lib.hid ho
  unfold maxLen at h2 h4
  clear h hb ho
  by_cases h0 : 1 < st
  · have HE : Hid (refBreak ⟨st, size, data, of⟩ = (⟨st, size, data, of⟩, 16)) := Lib.hid (by simp [refBreak, h0])
    go_enter Try.func25, Try.ntmps25
    go_wp2_with fail
    rw [HE.out]
    exact bodyPost_ret (results_agg_tmp rfl aggIn21 rfl (cs := [.int .i64 st, .int .i64 size, .slice a data.length c, .slice b of.length d]) rfl (Blk.at_ (b := w.heap.size + 1) (by simp)).cellsAll) rfl ⟨_, rfl, (HH.out.alloc _).alloc _⟩
  · have HE : Hid (refBreak ⟨st, size, data, of⟩ = (⟨4, size, [], of⟩, 0)) := Lib.hid (by simp [refBreak, h0])
    go_enter Try.func25, Try.ntmps25
    go_wp2_with fail
    rw [HE.out]
    exact bodyPost_ret (results_agg_tmp rfl aggIn21 rfl (cs := [.int .i64 4, .int .i64 size, .slice none 0 0, .slice b of.length d]) rfl (Blk.at_ (b := w.heap.size + 1) (by simp)).cellsAll) rfl ⟨_, rfl, ((HH.out.tail.addNilRow).alloc _).alloc _⟩

set_option maxRecDepth 100000 in
set_option maxHeartbeats 4000000 in
theorem refTake_any (dv ov : Value) (x : RefF) (at' : Int) (v : Value) (y : List UInt8) (l : List Res) (w : World) (h : Hold w (.row dv x.data :: l)) (ho : Bs w ov x.of) (hy : Bs w v y) (hd : x.data.length ≤ 2048) :
    Calls Try.prog 24 #[.agg #[.int .i64 x.st, .int .i64 x.size, dv, ov], .int .i64 at', v] w (Ref21Res ov (refTake x at' y) l) := by
  obtain ⟨st, size, data, of⟩ := x
  have hb : Bs w dv data := h.rowOf (by simp)
  obtain ⟨a, c, rfl, h1, h2⟩ := hb.form
  obtain ⟨b, d, rfl, h3, h4⟩ := ho.form
  simp only at h h1 h3 ho hb
  have HH := Lib.hid h
  have HB := Lib.hid hb
  have HO := Lib.hid ho
  unfold maxLen at h2 h4
  obtain ⟨ay, cy, rfl, h5, h6⟩ := hy.form
  simp only at hd
  unfold maxLen at h6
  have HY := Lib.hid hy
  clear hy
  clear h hb ho
  by_cases h0 : st = 1
  rotate_left
  · have hs1 : (st != 1) = true := by simpa using h0
    have HE : Hid (refTake ⟨st, size, data, of⟩ at' y = (⟨st, size, data, of⟩, 16)) := Lib.hid (by
      unfold refTake
      simp only
      rw [if_pos h0])
    clear h0
    go_enter Try.func24, Try.ntmps24
    go_wp2_with fail
    rw [HE.out]
    exact bodyPost_ret (results_agg_tmp rfl aggIn21 rfl (cs := [.int .i64 st, .int .i64 size, .slice a data.length c, .slice b of.length d]) rfl (Blk.at_ (b := w.heap.size + 1) (by simp)).cellsAll) rfl ⟨_, rfl, (HH.out.alloc _).alloc _⟩
  subst h0
  by_cases ha : at' = (data.length : Int)
  rotate_left
  · have hs1 : (at' != (data.length : Int)) = true := by simpa using ha
    have HE : Hid (refTake ⟨1, size, data, of⟩ at' y = (⟨1, size, data, of⟩, 18)) := Lib.hid (by
      unfold refTake
      simp only
      rw [if_neg (by simp), if_pos (.inl ha)])
    clear ha
    go_enter Try.func24, Try.ntmps24
    go_wp2_with fail
    rw [HE.out]
    exact bodyPost_ret (results_agg_tmp rfl aggIn21 rfl (cs := [.int .i64 1, .int .i64 size, .slice a data.length c, .slice b of.length d]) rfl (Blk.at_ (b := w.heap.size + 1) (by simp)).cellsAll) rfl ⟨_, rfl, (HH.out.alloc _).alloc _⟩
  subst ha
  by_cases hx0 : y.length = 0
  · have hs1 : ((y.length : Int) == 0) = true := by simp [hx0]
    have HE : Hid (refTake ⟨1, size, data, of⟩ data.length y = (⟨1, size, data, of⟩, 18)) := Lib.hid (by
      unfold refTake
      simp only
      rw [if_neg (by simp), if_pos (.inr hx0)])
    clear hx0
    go_enter Try.func24, Try.ntmps24
    go_wp2_with fail
    rw [HE.out]
    exact bodyPost_ret (results_agg_tmp rfl aggIn21 rfl (cs := [.int .i64 1, .int .i64 size, .slice a data.length c, .slice b of.length d]) rfl (Blk.at_ (b := w.heap.size + 1) (by simp)).cellsAll) rfl ⟨_, rfl, (HH.out.alloc _).alloc _⟩
  have hs1 : ((y.length : Int) == 0) = false := by simpa using hx0
  by_cases hx1 : 64 < y.length
  · have hx1' : (64 : Int) < y.length := by omega
    have HE : Hid (refTake ⟨1, size, data, of⟩ data.length y = (⟨1, size, data, of⟩, 20)) := Lib.hid (by
      unfold refTake
      simp only
      rw [if_neg (by simp), if_neg (by omega), if_pos (.inl hx1)])
    clear hx0
    go_enter Try.func24, Try.ntmps24
    go_wp2_with fail
    rw [HE.out]
    exact bodyPost_ret (results_agg_tmp rfl aggIn21 rfl (cs := [.int .i64 1, .int .i64 size, .slice a data.length c, .slice b of.length d]) rfl (Blk.at_ (b := w.heap.size + 1) (by simp)).cellsAll) rfl ⟨_, rfl, (HH.out.alloc _).alloc _⟩
  have hx1' : ¬ ((64 : Int) < y.length) := by omega
  by_cases hx2 : size < (data.length : Int) + y.length
  · clear hs1
    have HE : Hid (refTake ⟨1, size, data, of⟩ data.length y = (⟨1, size, data, of⟩, 20)) := Lib.hid (by
      unfold refTake
      simp only
      rw [if_neg (by simp), if_neg (by omega), if_pos (.inr hx2)])
    have hs1 : ((y.length : Int) == 0) = false := by simpa using hx0
    clear hx0
    go_enter Try.func24, Try.ntmps24
    go_wp2_with fail
    rw [HE.out]
    exact bodyPost_ret (results_agg_tmp rfl aggIn21 rfl (cs := [.int .i64 1, .int .i64 size, .slice a data.length c, .slice b of.length d]) rfl (Blk.at_ (b := w.heap.size + 1) (by simp)).cellsAll) rfl ⟨_, rfl, (HH.out.alloc _).alloc _⟩
  have HE : Hid (refTake ⟨1, size, data, of⟩ data.length y = refWhole ⟨1, size, data ++ y, of⟩) := Lib.hid (by
    unfold refTake
    simp only
    rw [if_neg (by simp), if_neg (by omega), if_neg (by omega)])
  clear hx0
  have HC : Hid (Hold (((w.alloc (.cells #[.int .i64 1, .int .i64 size, .slice a data.length c, .slice b of.length d] 51)).alloc (.cells #[.int .i64 0, .int .i64 0, .slice none 0 0, .slice none 0 0] 51)).alloc (.cells #[] 5))
      (.own 5 1 (.slice (some ⟨w.heap.size + 1 + 1, 0, none⟩) 0 0) 0 [] :: .blk (w.heap.size + 1) [.int .i64 0, .int .i64 0, .slice none 0 0, .slice none 0 0] 51 :: .blk w.heap.size [.int .i64 1, .int .i64 size, .slice a data.length c, .slice b of.length d] 51 :: .row (.slice a data.length c) data :: l)) :=
    Lib.hid (((HH.out.addBlk [.int .i64 1, .int .i64 size, .slice a data.length c, .slice b of.length d] 51).addBlkAt [.int .i64 0, .int .i64 0, .slice none 0 0, .slice none 0 0] _ (by simp)).addEmpty 5 1 (by simp))
  have HB0 : Hid (Below w.heap.size w (((w.alloc (.cells #[.int .i64 1, .int .i64 size, .slice a data.length c, .slice b of.length d] 51)).alloc (.cells #[.int .i64 0, .int .i64 0, .slice none 0 0, .slice none 0 0] 51)).alloc (.cells #[] 5))) := Lib.hid ((((Below.refl _ _).alloc (Nat.le_refl _) _).alloc (by simp) _).alloc (by simp; omega) _)
  have HRA : Hid (Bs (((w.alloc (.cells #[.int .i64 1, .int .i64 size, .slice a data.length c, .slice b of.length d] 51)).alloc (.cells #[.int .i64 0, .int .i64 0, .slice none 0 0, .slice none 0 0] 51)).alloc (.cells #[] 5)) (.slice a data.length c) data) := Lib.hid (HC.out.rowOf (by simp))
  have HOW := Lib.hid (HC.out.ownOf (e := 5) (sz := 1) (v := .slice (some ⟨w.heap.size + 1 + 1, 0, none⟩) 0 0) (n := 0) (cs := []) (by simp))
  go_enter Try.func24, Try.ntmps24
  go_wp2_with ((with_reducible show wpList _ _ _ (⟨some 39, _, _, _, _, _⟩ :: _) _ _); refine wpList_app2 rfl (.tmp 36) (.tmp 38) elBytes rfl 0 HOW.out.1 HOW.out.2 HRA.out (by unfold maxLen; omega) (by omega) (Nat.zero_le _) ?_)
  intro v4 w4 ho4 hk4 hv4
  have hb4 : Below w.heap.size w w4 := HB0.out.trans (Keeps.below hk4 (by
    intro i h
    try simp [Value.ownBlock] at h
    omega))
  have HC4 : Hid (Hold w4 (.own 5 1 v4 data.length (bCells data) :: .blk (w.heap.size + 1) [.int .i64 0, .int .i64 0, .slice none 0 0, .slice none 0 0] 51 :: .blk w.heap.size [.int .i64 1, .int .i64 size, .slice a data.length c, .slice b of.length d] 51 :: .row (.slice a data.length c) data :: l)) := Lib.hid (by
    have := HC.out.append0 ho4 (Keeps.mono hk4 (by intro k h; simpa using h)) (by intro b hb; have := hv4 b hb; simpa using this)
    simpa using this)
  obtain ⟨a4, c4, rfl, hc4, hm4⟩ := (HC4.out.ownOf (e := 5) (sz := 1) (v := v4) (n := data.length) (cs := bCells data) (by simp)).1.sl.form
  have HRY : Hid (Bs w4 (.slice ay y.length cy) y) := Lib.hid ((HY.out : Bs w _ y).below hb4)
  have HRO : Hid (Bs w4 (.slice b of.length d) of) := Lib.hid (HO.out.below hb4)
  have HB4 := Lib.hid hb4
  have HV4 : Hid (∀ k, (Value.slice a4 data.length c4).ownBlock = some k → w.heap.size ≤ k) := Lib.hid (by
    intro k hk
    have h := (hv4 k hk).1
    rcases h with h | h
    · simp [Value.ownBlock] at h
      omega
    · try simp at h
      omega)
  have HOW := Lib.hid (HC4.out.ownOf (e := 5) (sz := 1) (v := .slice a4 data.length c4) (n := data.length) (cs := bCells data) (by simp))
  clear ho4 hk4 hv4 hb4 HC HB0 HRA
  go_wp2_with ((with_reducible show wpList _ _ _ (⟨some 41, _, _, _, _, _⟩ :: _) _ _); refine wpList_app2 rfl (.tmp 39) (.tmp 40) elBytes rfl 0 HOW.out.1 HOW.out.2 HRY.out (by unfold maxLen; omega) (by omega) (Nat.zero_le _) ?_)
  intro v5 w5 ho5 hk5 hv5
  obtain ⟨a5, c5, rfl, hc5, hm5⟩ := ho5.sl.form
  have hb5 : Below w.heap.size w w5 := HB4.out.trans (Keeps.below hk5 (by
    intro i h
    rcases h with h | h
    · exact HV4.out i (by first | exact h | exact h.1)
    · have := HB4.out.size
      omega))
  have HOB : Hid (Bs w5 (.slice b of.length d) of) := Lib.hid (HO.out.below hb5)
  have HC5 : Hid (Hold w5 (.blk (w.heap.size + 1) [.int .i64 0, .int .i64 0, .slice none 0 0, .slice none 0 0] 51 :: .blk w.heap.size [.int .i64 1, .int .i64 size, .slice a data.length c, .slice b of.length d] 51 :: .ownB (.slice a5 (data.length + y.length) c5) (data ++ y) :: .row (.slice a data.length c) data :: l)) := Lib.hid (by
    have := HC4.out.append0 ho5 (Keeps.mono hk5 (by intro k h; simpa using h)) (by intro b hb; have := hv5 b hb; simpa using this)
    unfold Res.ownB
    rw [bCells_append, List.length_append]
    exact this.push3)
  have hk1 := HC5.out.blkOf (p := w.heap.size) (cs := [.int .i64 1, .int .i64 size, .slice a data.length c, .slice b of.length d]) (T := 51) (by simp)
  have c0 := hk1.cell 0
  have f0 := hk1.frozen 0
  have c1 := hk1.cell 1
  have f1 := hk1.frozen 1
  have c2 := hk1.cell 2
  have f2 := hk1.frozen 2
  have c3 := hk1.cell 3
  have f3 := hk1.frozen 3
  simp only [List.getElem?_cons_succ, List.getElem?_cons_zero] at c0 c1 c2 c3
  have HC6 : Hid (Hold (w5.setCell ⟨w.heap.size, 2, none⟩ (.slice a5 (data.length + y.length) c5)) (.row (.slice a5 (data.length + y.length) c5) (data ++ y) :: .blk (w.heap.size + 1) [.int .i64 0, .int .i64 0, .slice none 0 0, .slice none 0 0] 51 :: .blk w.heap.size [.int .i64 1, .int .i64 size, .slice a5 (data.length + y.length) c5, (.slice b of.length d)] 51 :: l)) := Lib.hid (by
    have h := (HC5.out.swap.set 2 (.slice a5 (data.length + y.length) c5)).swap.pull3.ownRow
    exact (h.pull4.tail))
  have HOB : Hid (Bs (w5.setCell ⟨w.heap.size, 2, none⟩ (.slice a5 (data.length + y.length) c5)) (.slice b of.length d) of) := Lib.hid (HO.out.below (hb5.setCell (p := ⟨w.heap.size, 2, none⟩) (Nat.le_refl _) _))
  clear ho5 hk5 hv5 hb5 hk1
  obtain ⟨⟨st', size', data', of'⟩, g, hr⟩ : ∃ r g, refWhole ⟨1, size, data ++ y, of⟩ = (r, g) := ⟨_, _, rfl⟩
  have HW := Lib.hid (refWhole_any (.slice a5 (data.length + y.length) c5) (.slice b of.length d) ⟨1, size, data ++ y, of⟩ _ _ HC6.out HOB.out)
  rw [hr] at HW
  rw [hr] at HE
  clear hr
  go_wp2_with fail
  refine HW.out.mono ?_
  rintro e w6 ⟨dv', rfl, hc⟩
  have hf : Bs w6 dv' data' := hc.rowOf (by simp)
  obtain ⟨a', c', rfl, _, _⟩ := hf.form
  have hk2 := hc.blkOf (p := w.heap.size + 1) (cs := [.int .i64 0, .int .i64 0, .slice none 0 0, .slice none 0 0]) (T := 51) (by simp)
  have d0 := hk2.cell 0
  have g0 := hk2.frozen 0
  have d1 := hk2.cell 1
  have g1 := hk2.frozen 1
  have d2 := hk2.cell 2
  have g2 := hk2.frozen 2
  have d3 := hk2.cell 3
  have g3 := hk2.frozen 3
  simp only [List.getElem?_cons_succ, List.getElem?_cons_zero] at d0 d1 d2 d3
  have HC := Lib.hid ((((hc.swap.set 0 (.int .i64 st')).set 1 (.int .i64 size')).set 2 (.slice a' data'.length c')).set 3 (.slice b of.length d))
  clear hc hf hk2 HW
  go_wp2_with fail
  rw [HE.out]
  exact bodyPost_ret (results_agg_tmp rfl aggIn21 rfl (cs := [.int .i64 st', .int .i64 size', .slice a' data'.length c', (.slice b of.length d)]) rfl (HC.out.blkOf (p := w.heap.size + 1) (cs := [.int .i64 st', .int .i64 size', .slice a' data'.length c', (.slice b of.length d)]) (T := 51) (List.mem_cons_self)).cellsAll) rfl ⟨_, rfl, HC.out.tail.swap.tail⟩
end Go.Proofs.Ytogfkfoklnpfhaa
