/- Contracts: a file that is sent. -/
import Derived.Test.YtogfkfoklnpfhaaXferR
namespace Go.Proofs.Ytogfkfoklnpfhaa
set_option linter.unusedSimpArgs false
set_option linter.unusedVariables false
open Go.RowKit

set_option maxRecDepth 100000 in
set_option maxHeartbeats 1000000 in
theorem offer_any (v : Value) (b : List UInt8) (l : List Res) (w : World) (h : Hold w l) (hb : Bs w v b) (hl : b.length ≤ 2048) :
    Calls Try.prog 7 #[v] w (MadeRes (fun p => outR p ⟨0, b, 0, 0⟩) l) := by
  obtain ⟨a, c, rfl, hc, hm⟩ := hb.form
  have HB := Lib.hid hb
  have HC := Lib.hid h
  clear h hb
  go_enter Try.func7, Try.ntmps7
  go_wp2_with ((with_reducible show wpList _ _ _ (⟨some 8, _, _, _, _, _⟩ :: _) _ _); refine wpList_app2 rfl (.const (.slice none 0 0)) (.tmp 7) elBytes rfl w.heap.size (Own.nil _ _ _ _ _) (by simp [Act.eval, Value.ownBlock]) HB.out (by unfold maxLen; omega) (by omega) (Nat.le_refl _) ?_)
  intro v1 w1 ho hk hv
  have hb1 : Below w.heap.size w w1 := hk.below (by
    rintro i (h | h)
    · exact h.2
    · exact h)
  have ho' : OwnBs w1 w.heap.size v1 b := by unfold OwnBs; simpa using ho
  obtain ⟨a1, c1, rfl, _, _⟩ := ho'.sl.form
  have HC := Lib.hid (((HC.out.addOwnB hb1 ho' (fun i hi => ⟨by
    rcases (hv i hi).1 with h | h
    · simp [Act.eval, Value.ownBlock] at h
    · exact h, (hv i hi).2⟩)).ownRow).addBlk [.int .i64 0, .slice a1 b.length c1, .int .i64 0, .int .i64 0] 38)
  clear ho ho' hk hv hb1 HB
  go_wp2_with fail
  go_ret2
  exact ⟨w1.heap.size, rfl, outR_shut HC.out⟩

set_option maxRecDepth 100000 in
theorem offer_long (v : Value) (b : List UInt8) (l : List Res) (w : World) (h : Hold w l) (hb : Bs w v b) (hl : 2048 < b.length) :
    Calls Try.prog 7 #[v] w fun e w' => e = .returned (.tuple #[.pointer none, .int .i64 20]) ∧ Hold w' l := by
  obtain ⟨a, c, rfl, hc, hm⟩ := hb.form
  have HC := Lib.hid h
  clear h hb
  unfold maxLen at hm
  go_enter Try.func7, Try.ntmps7
  go_wp2_with fail
  go_ret2
  exact ⟨rfl, HC.out⟩

set_option maxRecDepth 100000 in
theorem outSize_any (p : Nat) (o : OutF) (l : List Res) (w : World) (h : Hold w (outR p o :: l)) :
    Calls Try.prog 28 #[.pointer (some ⟨p, 0, none⟩)] w (NumRes o.data.length (outR p o :: l)) := by
  have HC := Lib.hid h
  obtain ⟨a, c, h1, h2, h⟩ := outR_open h
  have c1 := (h.blkOf (p := p) (cs := _) (T := 38) (List.mem_cons_self)).cell 1
  simp only [List.getElem?_cons_succ, List.getElem?_cons_zero] at c1
  clear h
  go_enter Try.func28, Try.ntmps28
  go_wp2_with fail
  go_ret
  exact ⟨rfl, HC.out⟩

set_option maxRecDepth 100000 in
set_option maxHeartbeats 1000000 in
theorem outBytes_any (p : Nat) (o : OutF) (l : List Res) (w : World) (h : Hold w (outR p o :: l)) (hl : o.data.length ≤ 2048) :
    Calls Try.prog 20 #[.pointer (some ⟨p, 0, none⟩)] w (BytesRes o.data (outR p o :: l)) := by
  have HC := Lib.hid h
  obtain ⟨a, c, h1, h2, h⟩ := outR_open h
  have c1 := (h.blkOf (p := p) (cs := _) (T := 38) (List.mem_cons_self)).cell 1
  simp only [List.getElem?_cons_succ, List.getElem?_cons_zero] at c1
  have HB : Hid (Bs w (.slice a o.data.length c) o.data) := Lib.hid (h.rowOf (by simp))
  clear h
  go_enter Try.func20, Try.ntmps20
  go_wp2_with ((with_reducible show wpList _ _ _ (⟨some 7, _, _, _, _, _⟩ :: _) _ _); refine wpList_app2 rfl (.const (.slice none 0 0)) (.tmp 6) elBytes rfl w.heap.size (Own.nil _ _ _ _ _) (by simp [Act.eval, Value.ownBlock]) HB.out (by unfold maxLen; omega) (by omega) (Nat.le_refl _) ?_)
  intro v1 w1 ho hk hv
  have hb1 : Below w.heap.size w w1 := hk.below (by
    rintro i (h | h)
    · exact h.2
    · exact h)
  have ho' : OwnBs w1 w.heap.size v1 o.data := by unfold OwnBs; simpa using ho
  obtain ⟨a1, c1, rfl, _, _⟩ := ho'.sl.form
  have HC := Lib.hid (HC.out.addOwnB hb1 ho' (fun i hi => ⟨by
    rcases (hv i hi).1 with h | h
    · simp [Act.eval, Value.ownBlock] at h
    · exact h, (hv i hi).2⟩)).ownRow
  clear ho ho' hk hv hb1 HB
  go_wp2_with fail
  go_ret
  exact ⟨_, rfl, HC.out⟩

set_option maxRecDepth 100000 in
set_option maxHeartbeats 1000000 in
theorem turn_any (p : Nat) (o : OutF) (s : Int) (l : List Res) (w : World) (h : Hold w (outR p o :: l)) (hl : o.data.length ≤ 2048) :
    Calls Try.prog 34 #[.pointer (some ⟨p, 0, none⟩), .int .i64 s] w (NumRes (outTurn o s).2 (outR p (outTurn o s).1 :: l)) := by
  have HC0 := Lib.hid h
  obtain ⟨st, data, sent, ahead⟩ := o
  obtain ⟨a, c, h1, h2, h⟩ := outR_open h
  simp only at hl h1 h
  have hblk := h.blkOf (p := p) (cs := _) (T := 38) (List.mem_cons_self)
  have c0 := hblk.cell 0
  have c1 := hblk.cell 1
  have f0 := hblk.frozen 0
  simp only [List.getElem?_cons_succ, List.getElem?_cons_zero] at c0 c1
  have HC := Lib.hid h
  clear h hblk
  by_cases h0 : st = 0
  · subst h0
    by_cases hs : s = 1
    · subst hs
      by_cases hd : data.length = 0
      · have HE : Hid (outTurn ⟨0, data, sent, ahead⟩ 1 = (⟨2, data, sent, ahead⟩, 0)) := Lib.hid (by simp [outTurn, hd])
        have HC := Lib.hid ((HC.out.set 0 (.int .i64 1)).set 0 (.int .i64 2))
        have hd2 : ((data.length : Int) == 0) = true := by simp [hd]
        clear hd
        go_enter Try.func34, Try.ntmps34
        go_wp2_with fail
        go_ret
        rw [HE.out]
        exact ⟨rfl, outR_shut HC.out⟩
      · have HE : Hid (outTurn ⟨0, data, sent, ahead⟩ 1 = (⟨1, data, sent, ahead⟩, 0)) := Lib.hid (by simp [outTurn] at hd ⊢; exact hd)
        have HC := Lib.hid (HC.out.set 0 (.int .i64 1))
        have hd2 : ((data.length : Int) == 0) = false := by simpa using hd
        clear hd
        go_enter Try.func34, Try.ntmps34
        go_wp2_with fail
        go_ret
        rw [HE.out]
        exact ⟨rfl, outR_shut HC.out⟩
    · have HE : Hid (outTurn ⟨0, data, sent, ahead⟩ s = (⟨s, data, sent, ahead⟩, 0)) := Lib.hid (by simp [outTurn, hs])
      have HC := Lib.hid (HC.out.set 0 (.int .i64 s))
      have hs2 : (s == 1) = false := by simpa using hs
      clear hs
      go_enter Try.func34, Try.ntmps34
      go_wp2_with fail
      go_ret
      rw [HE.out]
      exact ⟨rfl, outR_shut HC.out⟩
  · have HE : Hid (outTurn ⟨st, data, sent, ahead⟩ s = (⟨st, data, sent, ahead⟩, 16)) := Lib.hid (by simp [outTurn, h0])
    have hs2 : (st != 0) = true := by simpa using h0
    clear h0
    go_enter Try.func34, Try.ntmps34
    go_wp2_with fail
    go_ret
    rw [HE.out]
    exact ⟨rfl, HC0.out⟩

set_option maxRecDepth 100000 in
theorem outAccept_any (p : Nat) (o : OutF) (l : List Res) (w : World) (h : Hold w (outR p o :: l)) (hl : o.data.length ≤ 2048) :
    Calls Try.prog 11 #[.pointer (some ⟨p, 0, none⟩)] w (NumRes (outTurn o 1).2 (outR p (outTurn o 1).1 :: l)) := by
  have HT := Lib.hid (turn_any p o 1 l w h hl)
  clear h
  go_enter Try.func11, Try.ntmps11
  go_wp2_with fail
  refine HT.out.mono ?_
  rintro e w1 ⟨rfl, hc⟩
  have HC := Lib.hid hc
  clear hc
  go_wp2_with fail
  go_ret
  exact ⟨rfl, HC.out⟩

set_option maxRecDepth 100000 in
theorem outRefuse_any (p : Nat) (o : OutF) (l : List Res) (w : World) (h : Hold w (outR p o :: l)) (hl : o.data.length ≤ 2048) :
    Calls Try.prog 19 #[.pointer (some ⟨p, 0, none⟩)] w (NumRes (outTurn o 3).2 (outR p (outTurn o 3).1 :: l)) := by
  have HT := Lib.hid (turn_any p o 3 l w h hl)
  clear h
  go_enter Try.func19, Try.ntmps19
  go_wp2_with fail
  refine HT.out.mono ?_
  rintro e w1 ⟨rfl, hc⟩
  have HC := Lib.hid hc
  clear hc
  go_wp2_with fail
  go_ret
  exact ⟨rfl, HC.out⟩

set_option maxRecDepth 100000 in
set_option maxHeartbeats 1000000 in
theorem outBreak_any (p : Nat) (o : OutF) (l : List Res) (w : World) (h : Hold w (outR p o :: l)) :
    Calls Try.prog 18 #[.pointer (some ⟨p, 0, none⟩)] w (NumRes (outBreak o).2 (outR p (outBreak o).1 :: l)) := by
  have HC0 := Lib.hid h
  obtain ⟨st, data, sent, ahead⟩ := o
  obtain ⟨a, c, h1, h2, h⟩ := outR_open h
  simp only at h1 h
  have hblk := h.blkOf (p := p) (cs := _) (T := 38) (List.mem_cons_self)
  have c0 := hblk.cell 0
  have f0 := hblk.frozen 0
  simp only [List.getElem?_cons_zero] at c0
  have HC := Lib.hid (h.set 0 (.int .i64 4))
  clear h hblk
  by_cases h0 : st = 0
  · subst h0
    have HE : Hid (outBreak ⟨0, data, sent, ahead⟩ = (⟨4, data, sent, ahead⟩, 0)) := Lib.hid rfl
    go_enter Try.func18, Try.ntmps18
    go_wp2_with fail
    go_ret
    rw [HE.out]
    exact ⟨rfl, outR_shut HC.out⟩
  · have hs0 : (st != 0) = true := by simpa using h0
    by_cases h1 : st = 1
    · subst h1
      have HE : Hid (outBreak ⟨1, data, sent, ahead⟩ = (⟨4, data, sent, ahead⟩, 0)) := Lib.hid rfl
      clear h0 hs0
      go_enter Try.func18, Try.ntmps18
      go_wp2_with fail
      go_ret
      rw [HE.out]
      exact ⟨rfl, outR_shut HC.out⟩
    · have HE : Hid (outBreak ⟨st, data, sent, ahead⟩ = (⟨st, data, sent, ahead⟩, 16)) := Lib.hid (by simp [outBreak, h0, h1])
      have hs1 : (st != 1) = true := by simpa using h1
      clear h0 h1
      go_enter Try.func18, Try.ntmps18
      go_wp2_with fail
      go_ret
      rw [HE.out]
      exact ⟨rfl, HC0.out⟩
end Go.Proofs.Ytogfkfoklnpfhaa
