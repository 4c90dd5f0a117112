/- Texts of this proof, one behind the other: XferJ, Cut, XferC, AppR, Tv, Octet, DerSpec, DerSize. -/
import Derived.Test.YtiplepdmkbiehaaAeA2
import Derived.Outline
namespace Go.Proofs.Ytiplepdmkbiehaa
set_option linter.unusedSimpArgs false
set_option linter.unusedVariables false
open Go.RowKit
set_option maxRecDepth 100000 in
set_option maxHeartbeats 1000000 in
theorem hear_any (size : Int) (v : Value) (b : List UInt8) (l : List Res) (w : World) (h : Hold w l) (hb : Bs w v b) (hl : b.length ≤ 1099511627776) (h0 : 0 ≤ size) (h1 : size ≤ 2048) :
    Calls Try.prog 64 #[.int .i64 size, v] w (MadeRes (fun p => inR p ⟨0, size, b, []⟩) l) := by
  obtain ⟨a, c, rfl, hc, hm⟩ := hb.form
  have HB := hI hb
  have HC := hI h
  clear h hb
  go_enter Try.func64, Try.ntmps64
  go_wp2_with ((with_reducible show wpList _ _ _ (⟨some 14, _, _, _, _, _⟩ :: _) _ _); refine wpList_app2 rfl (.const (.slice none 0 0)) (.tmp 13) elBytes rfl w.heap.size (Own.nil _ _ _ _ _) (by simp [Act.eval, Value.ownBlock]) HB.out (by unfold maxLen; omega) (by omega) (Nat.le_refl _) ?_)
  intro v1 w1 ho hk hv
  have hb1 : Below w.heap.size w w1 := hk.below (by
    rintro i (h | h)
    · exact h.2
    · exact h)
  have ho' : OwnBs w1 w.heap.size v1 b := by unfold OwnBs; simpa using ho
  obtain ⟨a1, c1, rfl, _, _⟩ := ho'.sl.form
  have HC := hI ((((HC.out.addOwnB hb1 ho' (fun i hi => ⟨by
    rcases (hv i hi).1 with h | h
    · simp [Act.eval, Value.ownBlock] at h
    · exact h, (hv i hi).2⟩)).ownRow).addBlk [.int .i64 0, .int .i64 size, .slice a1 b.length c1, .slice none 0 0] 89).addNil 5 1).push3
  clear ho ho' hk hv hb1 HB
  go_wp2_with fail
  go_ret2
  exact ⟨w1.heap.size, rfl, inR_shut (dv := .slice none 0 0) (data := []) HC.out⟩
set_option maxRecDepth 100000 in
set_option maxHeartbeats 1000000 in
theorem inBytes_any (p : Nat) (o : InF) (l : List Res) (w : World) (h : Hold w (inR p o :: l)) (hl : o.data.length ≤ 2048) :
    Calls Try.prog 53 #[.pointer (some ⟨p, 0, none⟩)] w (BytesRes o.data (inR p o :: l)) := by
  have HC := hI h
  obtain ⟨a, c, b, d, h1, h2, h3, h4, h⟩ := inR_open h
  have c3 := (h.blkOf (p := p) (cs := _) (T := 89) (List.mem_cons_self)).cell 3
  simp only [List.getElem?_cons_succ, List.getElem?_cons_zero] at c3
  have HB : Hid (Bs w (.slice b o.data.length d) o.data) := hI ((h.ownBOf (v := .slice b o.data.length d) (b := o.data) (by simp)).1.bs)
  clear h
  go_enter Try.func53, Try.ntmps53
  go_wp2_with ((with_reducible show wpList _ _ _ (⟨some 7, _, _, _, _, _⟩ :: _) _ _); refine wpList_app2 rfl (.const (.slice none 0 0)) (.tmp 6) elBytes rfl w.heap.size (Own.nil _ _ _ _ _) (by simp [Act.eval, Value.ownBlock]) HB.out (by unfold maxLen; omega) (by omega) (Nat.le_refl _) ?_)
  intro v1 w1 ho hk hv
  have hb1 : Below w.heap.size w w1 := hk.below (by
    rintro i (h | h)
    · exact h.2
    · exact h)
  have ho' : OwnBs w1 w.heap.size v1 o.data := by unfold OwnBs; simpa using ho
  obtain ⟨a1, c1, rfl, _, _⟩ := ho'.sl.form
  have HC := hI (HC.out.addOwnB hb1 ho' (fun i hi => ⟨by
    rcases (hv i hi).1 with h | h
    · simp [Act.eval, Value.ownBlock] at h
    · exact h, (hv i hi).2⟩)).ownRow
  clear ho ho' hk hv hb1 HB
  go_wp2_with fail
  go_ret
  exact ⟨_, rfl, HC.out⟩
set_option maxRecDepth 100000 in
set_option maxHeartbeats 1000000 in
theorem inRefuse_any (p : Nat) (o : InF) (l : List Res) (w : World) (h : Hold w (inR p o :: l)) :
    Calls Try.prog 32 #[.pointer (some ⟨p, 0, none⟩)] w (NumRes (inRefuse o).2 (inR p (inRefuse o).1 :: l)) := by
  have HC0 := hI h
  obtain ⟨st, size, sum, data⟩ := o
  obtain ⟨a, c, b, d, h1, h2, h3, h4, h⟩ := inR_open h
  simp only at h1 h3 h
  have hblk := h.blkOf (p := p) (cs := _) (T := 89) (List.mem_cons_self)
  have c0 := hblk.cell 0
  have f0 := hblk.frozen 0
  simp only [List.getElem?_cons_zero] at c0
  have HC := hI (h.set 0 (.int .i64 3))
  clear h hblk
  by_cases h0 : st = 0
  · subst h0
    have HE : Hid (inRefuse ⟨0, size, sum, data⟩ = (⟨3, size, sum, data⟩, 0)) := hI rfl
    go_enter Try.func32, Try.ntmps32
    go_wp2_with fail
    go_ret
    rw [HE.out]
    exact ⟨rfl, inR_shut HC.out⟩
  · have HE : Hid (inRefuse ⟨st, size, sum, data⟩ = (⟨st, size, sum, data⟩, 16)) := hI (by simp [inRefuse, h0])
    have hs1 : (st != 0) = true := by simpa using h0
    clear h0
    go_enter Try.func32, Try.ntmps32
    go_wp2_with fail
    go_ret
    rw [HE.out]
    exact ⟨rfl, HC0.out⟩
/-- What has come is let go. -/
theorem Hold.nilOwn {W : World} {v : Value} {b : List UInt8} {l : List Res} (h : Hold W (.ownB v b :: l)) : Hold W (.ownB (.slice none 0 0) [] :: l) := h.tail.addNil _ _
set_option maxRecDepth 100000 in
set_option maxHeartbeats 1000000 in
theorem inBreak_any (p : Nat) (o : InF) (l : List Res) (w : World) (h : Hold w (inR p o :: l)) :
    Calls Try.prog 55 #[.pointer (some ⟨p, 0, none⟩)] w (NumRes (inBreak o).2 (inR p (inBreak o).1 :: l)) := by
  have HC0 := hI h
  obtain ⟨st, size, sum, data⟩ := o
  obtain ⟨a, c, b, d, h1, h2, h3, h4, h⟩ := inR_open h
  simp only at h1 h3 h
  have hblk := h.blkOf (p := p) (cs := _) (T := 89) (List.mem_cons_self)
  have c0 := hblk.cell 0
  have f0 := hblk.frozen 0
  have c3 := hblk.cell 3
  have f3 := hblk.frozen 3
  simp only [List.getElem?_cons_succ, List.getElem?_cons_zero] at c0 c3
  have HC := hI ((((h.set 0 (.int .i64 4)).set 3 (.slice none 0 0)).pull3.nilOwn).push3)
  clear h hblk
  by_cases h0 : st = 0
  · subst h0
    have HE : Hid (inBreak ⟨0, size, sum, data⟩ = (⟨4, size, sum, []⟩, 0)) := hI rfl
    go_enter Try.func55, Try.ntmps55
    go_wp2_with fail
    go_ret
    rw [HE.out]
    exact ⟨rfl, inR_shut HC.out⟩
  · have hs0 : (st != 0) = true := by simpa using h0
    by_cases h1 : st = 1
    · subst h1
      have HE : Hid (inBreak ⟨1, size, sum, data⟩ = (⟨4, size, sum, []⟩, 0)) := hI rfl
      clear h0 hs0
      go_enter Try.func55, Try.ntmps55
      go_wp2_with fail
      go_ret
      rw [HE.out]
      exact ⟨rfl, inR_shut HC.out⟩
    · have HE : Hid (inBreak ⟨st, size, sum, data⟩ = (⟨st, size, sum, data⟩, 16)) := hI (by simp [inBreak, h0, h1])
      have hs1 : (st != 1) = true := by simpa using h1
      clear h0 h1
      go_enter Try.func55, Try.ntmps55
      go_wp2_with fail
      go_ret
      rw [HE.out]
      exact ⟨rfl, HC0.out⟩
set_option maxRecDepth 100000 in
set_option maxHeartbeats 1000000 in
theorem inAccept_any (p q : Nat) (kv bv mp : Value) (sums : List (List UInt8)) (i : InF) (l : List Res) (w : World) (h : Hold w (inR p i :: tabR q kv bv mp sums :: l)) (hd : i.data.length ≤ 2048) (hs : i.sum.length ≤ 1099511627776) (hn : sums.length < 1099511627776) (hz0 : 0 ≤ i.size) (hz1 : i.size ≤ 2048) :
    Calls Try.prog 34 #[.pointer (some ⟨p, 0, none⟩), .iface 55 (.pointer (some ⟨q, 0, none⟩))] w (WholeRes p q kv bv mp (inAccept sums i) l) := by
  have HC0 := hI h
  obtain ⟨st, size, sum, data⟩ := i
  obtain ⟨a, c, b, d, h1, h2, h3, h4, h⟩ := inR_open h
  simp only at h1 h3 h hd hs hz0 hz1
  have hblk := h.blkOf (p := p) (cs := _) (T := 89) (List.mem_cons_self)
  have c0 := hblk.cell 0
  have f0 := hblk.frozen 0
  simp only [List.getElem?_cons_zero] at c0
  have HC := hI (h.set 0 (.int .i64 1))
  clear h hblk
  by_cases h0 : st = 0
  · subst h0
    have HE : Hid (inAccept sums ⟨0, size, sum, data⟩ = inWhole sums ⟨1, size, sum, data⟩) := hI (by simp [inAccept])
    have HW := hI (whole_any p q kv bv mp sums ⟨1, size, sum, data⟩ l _ (inR_shut HC.out) hd hs hn hz0 hz1)
    go_enter Try.func34, Try.ntmps34
    go_wp2_with fail
    refine HW.out.mono ?_
    rintro e w2 ⟨rfl, hc⟩
    have HC := hI hc
    clear hc
    go_wp2_with fail
    go_ret
    rw [HE.out]
    exact ⟨rfl, HC.out⟩
  · have HE : Hid (inAccept sums ⟨st, size, sum, data⟩ = (sums, ⟨st, size, sum, data⟩, 16)) := hI (by simp [inAccept, h0])
    have hs1 : (st != 0) = true := by simpa using h0
    clear h0
    go_enter Try.func34, Try.ntmps34
    go_wp2_with fail
    go_ret
    rw [HE.out]
    exact ⟨rfl, HC0.out⟩
set_option maxRecDepth 100000 in
set_option maxHeartbeats 2000000 in
theorem inTake_any (p q : Nat) (kv bv mp : Value) (sums : List (List UInt8)) (i : InF) (at' : Int) (v : Value) (x : List UInt8) (l : List Res) (w : World) (h : Hold w (inR p i :: tabR q kv bv mp sums :: l)) (hx : Bs w v x)
    (hd : i.data.length ≤ i.size) (hs : i.sum.length ≤ 1099511627776) (hn : sums.length < 1099511627776) (hz1 : i.size ≤ 2048) :
    Calls Try.prog 68 #[.pointer (some ⟨p, 0, none⟩), .iface 55 (.pointer (some ⟨q, 0, none⟩)), .int .i64 at', v] w (WholeRes p q kv bv mp (inTake sums i at' x) l) := by
  have HC0 := hI h
  obtain ⟨st, size, sum, data⟩ := i
  obtain ⟨a, c, b, d, h1, h2, h3, h4, h⟩ := inR_open h
  obtain ⟨ax, cx, rfl, hcx, hmx⟩ := hx.form
  simp only at h1 h3 h hd hs hz1
  have hblk := h.blkOf (p := p) (cs := _) (T := 89) (List.mem_cons_self)
  have c0 := hblk.cell 0
  have c1 := hblk.cell 1
  have c3 := hblk.cell 3
  have hp := hblk.lt
  simp only [List.getElem?_cons_succ, List.getElem?_cons_zero] at c0 c1 c3
  have HC := hI h
  have HX := hI hx
  unfold maxLen at h2 h4 hmx
  clear h hblk hx
  by_cases h0 : st = 1
  rotate_left
  · have HE : Hid (inTake sums ⟨st, size, sum, data⟩ at' x = (sums, ⟨st, size, sum, data⟩, 16)) := hI (by simp [inTake, h0])
    have hs1 : (st != 1) = true := by simpa using h0
    clear h0
    go_enter Try.func68, Try.ntmps68
    go_wp2_with fail
    go_ret
    rw [HE.out]
    exact ⟨rfl, HC0.out⟩
  subst h0
  by_cases ha : at' = (data.length : Int)
  rotate_left
  · have HE : Hid (inTake sums ⟨1, size, sum, data⟩ at' x = (sums, ⟨1, size, sum, data⟩, 18)) := hI (by simp [inTake, ha])
    have hs1 : (at' != (data.length : Int)) = true := by simpa using ha
    clear ha
    go_enter Try.func68, Try.ntmps68
    go_wp2_with fail
    go_ret
    rw [HE.out]
    exact ⟨rfl, HC0.out⟩
  subst ha
  by_cases hx0 : x.length = 0
  · have HE : Hid (inTake sums ⟨1, size, sum, data⟩ data.length x = (sums, ⟨1, size, sum, data⟩, 18)) := hI (by simp [inTake, hx0])
    have hs1 : ((x.length : Int) == 0) = true := by simp [hx0]
    clear hx0
    go_enter Try.func68, Try.ntmps68
    go_wp2_with fail
    go_ret
    rw [HE.out]
    exact ⟨rfl, HC0.out⟩
  have hs1 : ((x.length : Int) == 0) = false := by simpa using hx0
  by_cases hx1 : 64 < x.length
  · have HE : Hid (inTake sums ⟨1, size, sum, data⟩ data.length x = (sums, ⟨1, size, sum, data⟩, 20)) := hI (by simp [inTake, hx1]; intro h; simp [h] at hx1)
    have hx1' : (64 : Int) < x.length := by omega
    clear hx0
    go_enter Try.func68, Try.ntmps68
    go_wp2_with fail
    go_ret
    rw [HE.out]
    exact ⟨rfl, HC0.out⟩
  have hx1' : ¬ ((64 : Int) < x.length) := by omega
  by_cases hx2 : size - (data.length : Int) < x.length
  · have HE : Hid (inTake sums ⟨1, size, sum, data⟩ data.length x = (sums, ⟨1, size, sum, data⟩, 20)) := hI (by
      unfold inTake
      simp only
      rw [if_neg (by simp), if_neg (by omega), if_pos (.inr hx2)])
    clear hx0
    go_enter Try.func68, Try.ntmps68
    go_wp2_with fail
    go_ret
    rw [HE.out]
    exact ⟨rfl, HC0.out⟩
  have HE : Hid (inTake sums ⟨1, size, sum, data⟩ data.length x = inWhole sums ⟨1, size, sum, data ++ x⟩) := hI (by
    unfold inTake
    simp only
    rw [if_neg (by simp), if_neg (by omega), if_neg (by omega)])
  have HOW : Hid (OwnBs w 0 (.slice b data.length d) data) := hI (HC.out.ownBOf (v := .slice b data.length d) (b := data) (by simp)).1
  have HOL : Hid (∀ k, (Value.slice b data.length d).ownBlock = some k → k < w.heap.size) := hI (HC.out.ownBOf (v := .slice b data.length d) (b := data) (by simp)).2
  clear hx0
  go_enter Try.func68, Try.ntmps68
  go_wp2_with ((with_reducible show wpList _ _ _ (⟨some 49, _, _, _, _, _⟩ :: _) _ _); refine wpList_app2 rfl (.tmp 47) (.tmp 48) elBytes rfl 0 HOW.out HOL.out HX.out (by unfold maxLen; omega) (by omega) (Nat.zero_le _) ?_)
  intro v1 w1 ho hk hv
  obtain ⟨a1, c1', rfl, _, _⟩ := ho.sl.form
  have HC := hI ((HC.out.pull3.append (n' := data.length + x.length) (v' := .slice a1 (data.length + x.length) c1') (cs' := bCells data ++ bCells x) ho (hk.mono (fun k h => by first | exact h | (rcases h with h | h; (exact .inl ⟨h, Nat.zero_le _⟩); (exact .inr h)))) hv).push3)
  have hblk := HC.out.blkOf (p := p) (cs := [.int .i64 1, .int .i64 size, .slice a sum.length c, .slice b data.length d]) (T := 89) (List.mem_cons_self)
  have cc3 := hblk.cell 3
  have ff3 := hblk.frozen 3
  simp only [List.getElem?_cons_succ, List.getElem?_cons_zero] at cc3
  have HC := hI (HC.out.set 3 (.slice a1 (data.length + x.length) c1'))
  have HLE : Hid ((data ++ x).length = data.length + x.length) := hI (by simp)
  have hW := whole_any p q kv bv mp sums ⟨1, size, sum, data ++ x⟩ l _ (inR_shut (sv := .slice a sum.length c) (dv := .slice a1 (data.length + x.length) c1') (by
    unfold Res.ownB
    rw [HLE.out, bCells_append]
    exact HC.out)) (by simp only; rw [HLE.out]; omega) hs hn (by simp only; omega) hz1
  have HW := hI hW
  clear ho hk hv hblk hW HOW HOL
  go_wp2_with fail
  refine HW.out.mono ?_
  rintro e w2 ⟨rfl, hc⟩
  have HC := hI hc
  clear hc
  go_wp2_with fail
  go_ret
  rw [HE.out]
  exact ⟨rfl, HC.out⟩
def cutA (a : Option Addr) (cap i : Nat) : Option Addr := if cap = i then a else a.map (·.add i)
theorem runSizeU8 (w : World) : (sizeOf 5).run Try.prog w = .ok 1 w := by kernel_rfl
theorem run_cut2 (a : Option Addr) (n cap i j : Nat) (hi : i ≤ j) (hj : j ≤ cap) (W : World) :
    (Instr.sliceAt 40 (.slice a n cap) (some (.int .i64 i)) (some (.int .i64 j)) none).run Try.prog W = .ok (.slice (cutA a cap i) (j - i) (cap - i)) W := by
  have h1 : ¬ ((i : Int) < 0) := by omega
  have h2 : ¬ ((j : Int) < 0) := by omega
  have h3 : ¬ (cap < j) := by omega
  have h4 : ¬ (j < i) := by omega
  simp [Instr.sliceAt, Instr.slice, Instr.sliceBounds, Instr.sliceBound, run_underlying Try.underlying40, asIntOf, runSizeU8, cutA, h1, h2, h3, h4, hi, hj]
theorem run_cut1 (a : Option Addr) (n cap i : Nat) (hi : i ≤ n) (W : World) :
    (Instr.sliceAt 40 (.slice a n cap) (some (.int .i64 i)) none none).run Try.prog W = .ok (.slice (cutA a cap i) (n - i) (cap - i)) W := by
  have h1 : ¬ ((i : Int) < 0) := by omega
  have h4 : ¬ (n < i) := by omega
  simp [Instr.sliceAt, Instr.slice, Instr.sliceBounds, Instr.sliceBound, run_underlying Try.underlying40, asIntOf, runSizeU8, cutA, h1, h4, hi]
theorem Bs.cut {w : World} {a : Option Addr} {cap : Nat} {b : List UInt8} (h : Bs w (.slice a b.length cap) b) (i j : Nat) (hi : i ≤ j) (hj : j ≤ b.length) : Bs w (.slice (cutA a cap i) (j - i) (cap - i)) ((b.drop i).take (j - i)) := by
  obtain ⟨a', cap', he, hc, hm⟩ := h.form
  simp only [Value.slice.injEq, true_and] at he
  obtain ⟨rfl, rfl⟩ := he
  have hna : a = Option.none → cap = 0 := by
    obtain ⟨_, _, a', c', he, _, _, h5, _⟩ := h
    simp only [Value.slice.injEq, true_and] at he
    obtain ⟨rfl, rfl⟩ := he
    exact h5
  by_cases hz : j - i = 0
  · rw [hz, List.take_zero]
    refine Bs.none _ _ _ (fun e => ?_) (by omega)
    unfold cutA at e
    split at e
    · have := hna e; omega
    · cases a with
      | none => have := hna rfl; omega
      | some x => simp at e
  · obtain ⟨bb, off, rfl, _⟩ := h.addr (by rw [bCells_length]; omega)
    have h1 := Sl.mid h (off := i) (n := j - i) (cap := cap - i) (by omega) (by omega) (by omega)
    have he : cutA (some ⟨bb, off, Option.none⟩) cap i = some ⟨bb, off + i, Option.none⟩ := by
      unfold cutA
      rw [if_neg (by omega)]
      simp [Addr.add_lit]
    rw [he]
    exact h1.bs rfl (by simp; omega)
theorem came_no (p : Nat) (o : OutF) (l : List Res) (w : World) (h : Hold w (outR p o :: l)) (h0 : o.st ≠ 1 ∨ o.ahead = 0) :
    Calls Try.prog 69 #[.pointer (some ⟨p, 0, none⟩)] w (NumRes 16 (outR p o :: l)) := by
  have HC0 := hI h
  obtain ⟨st, data, sent, ahead⟩ := o
  obtain ⟨a, c, h1, h2, h⟩ := outR_open h
  simp only at h0 h1 h
  have hblk := h.blkOf (p := p) (cs := _) (T := 68) (List.mem_cons_self)
  have c0 := hblk.cell 0
  have c3 := hblk.cell 3
  simp only [List.getElem?_cons_succ, List.getElem?_cons_zero] at c0 c3
  clear h hblk
  by_cases hs : st = 1
  · subst hs
    have hs0 : (((1 : Int)) != 1) = false := rfl
    have ha : ((ahead : Int) == 0) = true := by simp at h0; simp [h0]
    clear h0
    go_enter Try.func69, Try.ntmps69
    go_wp2_with fail
    go_ret
    exact ⟨rfl, HC0.out⟩
  · have hs0 : (st != 1) = true := by simpa using hs
    clear h0 hs
    go_enter Try.func69, Try.ntmps69
    go_wp2_with fail
    go_ret
    exact ⟨rfl, HC0.out⟩
set_option maxRecDepth 100000 in
set_option maxHeartbeats 1000000 in
theorem came_yes (p : Nat) (o : OutF) (l : List Res) (w : World) (h : Hold w (outR p o :: l)) (h0 : o.st = 1) (h1 : 0 < o.ahead) (h2 : o.ahead ≤ 4) (h3 : o.sent ≤ o.data.length) (h4 : o.data.length ≤ 2048) :
    Calls Try.prog 69 #[.pointer (some ⟨p, 0, none⟩)] w (NumRes (outCame o).2 (outR p (outCame o).1 :: l)) := by
  obtain ⟨st, data, sent, ahead⟩ := o
  obtain ⟨a, c, k1, k2, h⟩ := outR_open h
  simp only at h0 h1 h2 h3 h4 k1 h ⊢
  subst h0
  obtain ⟨n, rfl⟩ : ∃ n, ahead = n + 1 := ⟨ahead - 1, by omega⟩
  have hblk := h.blkOf (p := p) (cs := _) (T := 68) (List.mem_cons_self)
  have c0 := hblk.cell 0
  have c1 := hblk.cell 1
  have c2 := hblk.cell 2
  have c3 := hblk.cell 3
  have f0 := hblk.frozen 0
  have f3 := hblk.frozen 3
  simp only [List.getElem?_cons_succ, List.getElem?_cons_zero] at c0 c1 c2 c3
  have ha0 : (((n + 1 : Nat) : Int) == 0) = false := by simp; omega
  have ha1 : ((((n : Nat) : Int) + 1) == 0) = false := by simp; omega
  have hsub : ((n + 1 : Nat) : Int) - 1 = n := by omega
  have hsub2 : (n : Int) + 1 - 1 = n := by omega
  have HC := hI (h.set 3 (.int .i64 (n : Nat)))
  clear h hblk
  by_cases hn : n = 0
  · subst hn
    by_cases hs : sent = data.length
    · subst hs
      have HE : Hid (outCame ⟨1, data, data.length, 0 + 1⟩ = (⟨2, data, data.length, 0⟩, 0)) := hI (by simp [outCame])
      go_enter Try.func69, Try.ntmps69
      go_wp2_with fail
      go_quiet (fail)
      go_wp2_with fail
      go_ret
      rw [HE.out]
      exact ⟨rfl, outR_shut ((HC.out.drewN _).set 0 (.int .i64 2))⟩
    · have HE : Hid (outCame ⟨1, data, sent, 0 + 1⟩ = (⟨1, data, sent, 0⟩, 0)) := hI (by simp [outCame, hs])
      have hs2 : ((sent : Int) == (data.length : Int)) = false := by simp; omega
      have hs3 : decide (sent = data.length) = false := by simpa using hs
      clear hs
      go_enter Try.func69, Try.ntmps69
      go_wp2_with fail
      go_quiet (fail)
      go_wp2_with fail
      go_ret
      rw [HE.out]
      exact ⟨rfl, outR_shut (HC.out.drewN _)⟩
  · have HE : Hid (outCame ⟨1, data, sent, n + 1⟩ = (⟨1, data, sent, n⟩, 0)) := hI (by simp [outCame, hn])
    have hn2 : ((n : Int) == 0) = false := by simp; omega
    have hn3 : decide (n = 0) = false := by simpa using hn
    clear hn
    go_enter Try.func69, Try.ntmps69
    go_wp2_with fail
    go_quiet (fail)
    go_wp2_with fail
    go_ret
    rw [HE.out]
    exact ⟨rfl, outR_shut (HC.out.drewN _)⟩
set_option maxRecDepth 100000 in
set_option maxHeartbeats 1000000 in
theorem chunk_no (p : Nat) (o : OutF) (l : List Res) (w : World) (h : Hold w (outR p o :: l)) (h0 : outStop o) :
    Calls Try.prog 43 #[.pointer (some ⟨p, 0, none⟩)] w fun e w' => e = .returned (.tuple #[.int .i64 0, .slice none 0 0, .bool false]) ∧ Hold w' (outR p o :: l) := by
  have HC0 := hI h
  obtain ⟨st, data, sent, ahead⟩ := o
  obtain ⟨a, c, k1, k2, h⟩ := outR_open h
  unfold outStop at h0
  simp only at h0 k1 h
  have hblk := h.blkOf (p := p) (cs := _) (T := 68) (List.mem_cons_self)
  have c0 := hblk.cell 0
  have c1 := hblk.cell 1
  have c2 := hblk.cell 2
  have c3 := hblk.cell 3
  simp only [List.getElem?_cons_succ, List.getElem?_cons_zero] at c0 c1 c2 c3
  clear h hblk
  by_cases hs : st = 1
  · subst hs
    by_cases ha : ahead = 4
    · subst ha
      clear h0
      go_enter Try.func43, Try.ntmps43
      go_wp2_with fail
      go_quiet (fail)
      go_wp2_with fail
      go_ret3
      exact ⟨rfl, HC0.out.drewN _⟩
    · have ha2 : ((ahead : Int) == 4) = false := by simp; omega
      have ha3 : decide (ahead = 4) = false := by simpa using ha
      obtain rfl : sent = data.length := by
        rcases h0 with h | h | h
        · exact absurd rfl h
        · exact absurd h ha
        · exact h
      clear h0 ha
      go_enter Try.func43, Try.ntmps43
      go_wp2_with fail
      go_quiet (fail)
      go_wp2_with fail
      go_ret3
      exact ⟨rfl, HC0.out.drewN _⟩
  · have hs0 : (st != 1) = true := by simpa using hs
    have hs1 : (st == 1) = false := by simpa using hs
    clear h0 hs
    go_enter Try.func43, Try.ntmps43
    go_wp2_with fail
    go_quiet (fail)
    go_wp2_with fail
    go_ret3
    exact ⟨rfl, HC0.out.drewN _⟩
set_option maxRecDepth 100000 in
set_option maxHeartbeats 2000000 in
theorem chunk_yes (p : Nat) (o : OutF) (l : List Res) (w : World) (h : Hold w (outR p o :: l)) (h0 : ¬ outStop o) (h1 : o.sent ≤ o.data.length) (h2 : o.data.length ≤ 2048) (h3 : o.ahead ≤ 4) :
    Calls Try.prog 43 #[.pointer (some ⟨p, 0, none⟩)] w (ChunkRes p o l) := by
  obtain ⟨st, data, sent, ahead⟩ := o
  obtain ⟨a, c, k1, k2, h⟩ := outR_open h
  unfold outStop at h0
  simp only at h0 h1 h2 h3 k1 h
  obtain ⟨rfl, ha, hs⟩ : st = 1 ∧ ahead ≠ 4 ∧ sent ≠ data.length := by
    refine ⟨?_, ?_, ?_⟩
    · exact Classical.byContradiction fun h => h0 (.inl h)
    · exact fun h => h0 (.inr (.inl h))
    · exact fun h => h0 (.inr (.inr h))
  have hs2 : ((sent : Int) == (data.length : Int)) = false := by simp; omega
  have hs3 : decide (sent = data.length) = false := by simpa using hs
  have ha2 : ((ahead : Int) == 4) = false := by simp; omega
  have ha3 : decide (ahead = 4) = false := by simpa using ha
  have hblk := h.blkOf (p := p) (cs := _) (T := 68) (List.mem_cons_self)
  have c0 := hblk.cell 0
  have c1 := hblk.cell 1
  have c2 := hblk.cell 2
  have c3 := hblk.cell 3
  have f2 := hblk.frozen 2
  have f3 := hblk.frozen 3
  simp only [List.getElem?_cons_succ, List.getElem?_cons_zero] at c0 c1 c2 c3
  have hlt : sent < data.length := by omega
  have HH := hI h
  unfold maxLen at k2
  clear h hblk h0 hs ha
  rcases Nat.lt_or_ge data.length (sent + 64) with hcase | hcase
  · have hm0 : min (sent + 64) data.length = data.length := by omega
    have hm1 : sent ≤ data.length := by omega
    have hm2 : data.length ≤ data.length := by omega
    have hcs : (((data.length : Nat)) : Int) = (data.length : Int) := by omega
    have hx : (data.length : Int) < sent + 64 := by omega
    have hrun : ∀ W, (Instr.sliceAt 40 (.slice a data.length c) (some (.int .i64 sent)) (some (.int .i64 (data.length : Int))) none).run Try.prog W = .ok (.slice (cutA a c sent) (data.length - sent) (c - sent)) W := fun W => by
      rw [← hcs]
      exact run_cut2 a data.length c sent data.length hm1 (by omega) W
    have HM0 := hI hm0
    clear hm0 hcs hcase
    go_enter Try.func43, Try.ntmps43
    go_wp2_with fail
    go_quiet (fail)
    go_wp2_with fail
    have HC := hI (((HH.out.drewN nq).set 2 (.int .i64 (data.length : Int))).set 3 (.int .i64 ((ahead : Int) + 1)))
    generalize ((w.drewN nq).setCell ⟨p, 2, none⟩ (.int .i64 (data.length : Int))).setCell ⟨p, 3, none⟩ (.int .i64 ((ahead : Int) + 1)) = W at HC ⊢
    have HC := hI HC.out.drew
    refine wp_region_any (by kernel_rfl) ?_
    change wpAny _ _ _ _ _ _ _ (World.drew _)
    refine wpAny_take (i := 0) (oi := { dst := some 52, op := _, type := _, pos := _, after := _, guard := none }) (v := .int .i64 sent) rfl (by kernel_rfl) (by kernel_rfl) (by kernel_rfl) (fun _ _ _ h => h) (Or.inl ⟨by rfl, by intro w; go_simp⟩) ?_
    simp only [Act.put, List.setIfInBounds_toArray, List.set_cons_zero, List.set_cons_succ]
    refine wpAny_take (i := 1) (oi := { dst := some 53, op := _, type := _, pos := _, after := _, guard := none }) (v := .pointer (some ⟨p, 0, none⟩)) rfl (by kernel_rfl) (by kernel_rfl) (by kernel_rfl) (fun _ _ _ h => h) (Or.inl ⟨by rfl, by intro w; go_simp⟩) ?_
    simp only [Act.put, List.setIfInBounds_toArray, List.set_cons_zero, List.set_cons_succ]
    refine wpAny_take (i := 2) (oi := { dst := some 54, op := _, type := _, pos := _, after := _, guard := none }) (v := .pointer (some ⟨p, 0, none⟩)) rfl (by kernel_rfl) (by kernel_rfl) (by kernel_rfl) (fun _ _ _ h => h) (Or.inl ⟨by rfl, by intro w; go_simp⟩) ?_
    simp only [Act.put, List.setIfInBounds_toArray, List.set_cons_zero, List.set_cons_succ]
    refine wpAny_take (i := 3) (oi := { dst := some 55, op := _, type := _, pos := _, after := _, guard := none }) (v := .pointer (some ⟨p, 1, none⟩)) rfl (by kernel_rfl) (by kernel_rfl) (by kernel_rfl) (fun _ _ _ h => h) (Or.inl ⟨by rfl, by intro w; go_simp⟩) ?_
    simp only [Act.put, List.setIfInBounds_toArray, List.set_cons_zero, List.set_cons_succ]
    refine wpAny_take (i := 5) (oi := { dst := some 57, op := _, type := _, pos := _, after := _, guard := none }) (v := .int .i64 sent) rfl (by kernel_rfl) (by kernel_rfl) (by kernel_rfl) (fun _ _ _ h => h) (Or.inl ⟨by rfl, by intro w; go_simp⟩) ?_
    simp only [Act.put, List.setIfInBounds_toArray, List.set_cons_zero, List.set_cons_succ]
    refine wpAny_take (i := 6) (oi := { dst := some 58, op := _, type := _, pos := _, after := _, guard := none }) (v := .pointer (some ⟨p, 0, none⟩)) rfl (by kernel_rfl) (by kernel_rfl) (by kernel_rfl) (fun _ _ _ h => h) (Or.inl ⟨by rfl, by intro w; go_simp⟩) ?_
    simp only [Act.put, List.setIfInBounds_toArray, List.set_cons_zero, List.set_cons_succ]
    refine wpAny_take (i := 7) (oi := { dst := some 59, op := _, type := _, pos := _, after := _, guard := none }) (v := .pointer (some ⟨p, 0, none⟩)) rfl (by kernel_rfl) (by kernel_rfl) (by kernel_rfl) (fun _ _ _ h => h) (Or.inl ⟨by rfl, by intro w; go_simp⟩) ?_
    simp only [Act.put, List.setIfInBounds_toArray, List.set_cons_zero, List.set_cons_succ]
    refine wpAny_take (i := 8) (oi := { dst := some 60, op := _, type := _, pos := _, after := _, guard := none }) (v := .pointer (some ⟨p, 2, none⟩)) rfl (by kernel_rfl) (by kernel_rfl) (by kernel_rfl) (fun _ _ _ h => h) (Or.inl ⟨by rfl, by intro w; go_simp⟩) ?_
    simp only [Act.put, List.setIfInBounds_toArray, List.set_cons_zero, List.set_cons_succ]
    refine wpAny_ready (rs := [4, 9]) (by decide +kernel) (by simp) ?_
    refine AllReady.cons (o := { dst := some 56, op := .load 40 (.tmp 55), type := _, pos := _, after := _, guard := none }) rfl (fun K hK => ?_) (AllReady.cons (o := { dst := some 61, op := .load 3 (.tmp 60), type := _, pos := _, after := _, guard := none }) rfl (fun K hK => ?_) AllReady.nil)
    · have cc := (HC.out.blkOf (p := p) (cs := [.int .i64 1, .slice a data.length c, .int .i64 (data.length : Int), .int .i64 ((ahead : Int) + 1)]) (T := 68) (by simp)).cell 1
      simp only [List.getElem?_cons_succ, List.getElem?_cons_zero] at cc
      go_simp
      refine hK _ _ ?_
      clear hK K
      try simp only [Act.put, List.setIfInBounds_toArray, List.set_cons_zero, List.set_cons_succ]
      refine wpAny_ready (rs := [9]) (by decide +kernel) (by simp) ?_
      refine AllReady.cons (o := { dst := some 61, op := .load 3 (.tmp 60), type := _, pos := _, after := _, guard := none }) rfl (fun K hK => ?_) AllReady.nil
      have cc := (HC.out.blkOf (p := p) (cs := [.int .i64 1, .slice a data.length c, .int .i64 (data.length : Int), .int .i64 ((ahead : Int) + 1)]) (T := 68) (by simp)).cell 2
      simp only [List.getElem?_cons_succ, List.getElem?_cons_zero] at cc
      go_simp
      refine hK _ _ ?_
      clear hK K
      try simp only [Act.put, List.setIfInBounds_toArray, List.set_cons_zero, List.set_cons_succ]
      refine wpAny_take (i := 10) (oi := { dst := some 62, op := _, type := _, pos := _, after := _, guard := none }) (v := .slice (cutA a c sent) (data.length - sent) (c - sent)) rfl (by kernel_rfl) (by kernel_rfl) (by kernel_rfl) (fun _ _ _ h => h) (Or.inl ⟨by rfl, by intro w; go_simp⟩) ?_
      simp only [Act.put, List.setIfInBounds_toArray, List.set_cons_zero, List.set_cons_succ]
      refine wpAny_ready (rs := [11]) (by decide +kernel) (by simp) ?_
      refine AllReady.cons (o := { dst := some 63, op := .call { callee := .builtin .append, args := #[.const (.slice none 0 0), .tmp 62], argTypes := #[40, 40] }, type := _, pos := _, after := _, guard := none }) rfl (fun K hK => ?_) AllReady.nil
      have hsl : Bs _ (.slice (cutA a c sent) (data.length - sent) (c - sent)) ((data.drop sent).take (data.length - sent)) := (HC.out.rowOf (v := .slice a data.length c) (b := data) (by simp)).cut sent data.length hm1 hm2
      have hlen : ((data.drop sent).take (data.length - sent)).length = data.length - sent := by first | (simp; done) | (simp; omega)
      refine step_app2 rfl (.const (.slice none 0 0)) (.tmp 62) elBytes rfl W.heap.size (v := .slice none 0 0) (by simp [Act.eval]) (Own.nil _ _ _ _ _) (by simp [Value.ownBlock]) (u := .slice (cutA a c sent) (data.length - sent) (c - sent)) (by simp [Act.eval]) (n := 0) (m := data.length - sent) (ds := bCells ((data.drop sent).take (data.length - sent))) (by unfold Bs at hsl; rw [hlen] at hsl; exact hsl) (by unfold maxLen; omega) (by omega) (Nat.le_refl _) ?_
      intro v4 w4 ho hk hv
      have hb4 := hk.below (B := W.heap.size) (by
        rintro i (h | h)
        · exact h.2
        · exact h)
      have ho' : OwnBs w4 W.heap.size v4 ((data.drop sent).take (data.length - sent)) := by unfold OwnBs; rw [hlen]; simpa using ho
      have HC := hI (HC.out.addOwnB hb4 ho' (fun i hi => ⟨by
        rcases (hv i hi).1 with h | h
        · simp [Value.ownBlock] at h
        · exact h, (hv i hi).2⟩)).ownRow
      obtain ⟨a4, c4, rfl, _, _⟩ := ho.sl.form
      clear ho ho' hk hv hb4 hsl hlen
      refine hK _ _ ?_
      clear hK K
      try simp only [Act.put, List.setIfInBounds_toArray, List.set_cons_zero, List.set_cons_succ]
      refine wpAny_take (i := 12) (oi := { dst := some 2, op := _, type := _, pos := _, after := _, guard := none }) (v := .int .i64 sent) rfl (by kernel_rfl) (by kernel_rfl) (by kernel_rfl) (fun _ _ _ h => h) (Or.inl ⟨by rfl, by intro w; go_simp⟩) ?_
      simp only [Act.put, List.setIfInBounds_toArray, List.set_cons_zero, List.set_cons_succ]
      refine wpAny_take (i := 13) (oi := { dst := some 3, op := _, type := _, pos := _, after := _, guard := none }) (v := .slice a4 (0 + (data.length - sent)) c4) rfl (by kernel_rfl) (by kernel_rfl) (by kernel_rfl) (fun _ _ _ h => h) (Or.inl ⟨by rfl, by intro w; go_simp⟩) ?_
      simp only [Act.put, List.setIfInBounds_toArray, List.set_cons_zero, List.set_cons_succ]
      refine wpAny_take (i := 14) (oi := { dst := some 4, op := _, type := _, pos := _, after := _, guard := none }) (v := .bool true) rfl (by kernel_rfl) (by kernel_rfl) (by kernel_rfl) (fun _ _ _ h => h) (Or.inl ⟨by rfl, by intro w; go_simp⟩) ?_
      simp only [Act.put, List.setIfInBounds_toArray, List.set_cons_zero, List.set_cons_succ]
      refine wpAny_done (by decide +kernel) ?_ _
      go_wp2_with fail
      go_ret3
      refine ⟨_, rfl, ?_⟩
      simp only
      rw [HM0.out]
      refine outR_shut (dv := .slice a data.length c) ?_
      try rw [show (((data.length : Nat)) : Int) = (data.length : Int) by omega]
      rw [show (((ahead + 1 : Nat)) : Int) = (ahead : Int) + 1 by omega]
      exact HC.out.push3
    · have cc := (HC.out.blkOf (p := p) (cs := [.int .i64 1, .slice a data.length c, .int .i64 (data.length : Int), .int .i64 ((ahead : Int) + 1)]) (T := 68) (by simp)).cell 2
      simp only [List.getElem?_cons_succ, List.getElem?_cons_zero] at cc
      go_simp
      refine hK _ _ ?_
      clear hK K
      try simp only [Act.put, List.setIfInBounds_toArray, List.set_cons_zero, List.set_cons_succ]
      refine wpAny_ready (rs := [4]) (by decide +kernel) (by simp) ?_
      refine AllReady.cons (o := { dst := some 56, op := .load 40 (.tmp 55), type := _, pos := _, after := _, guard := none }) rfl (fun K hK => ?_) AllReady.nil
      have cc := (HC.out.blkOf (p := p) (cs := [.int .i64 1, .slice a data.length c, .int .i64 (data.length : Int), .int .i64 ((ahead : Int) + 1)]) (T := 68) (by simp)).cell 1
      simp only [List.getElem?_cons_succ, List.getElem?_cons_zero] at cc
      go_simp
      refine hK _ _ ?_
      clear hK K
      try simp only [Act.put, List.setIfInBounds_toArray, List.set_cons_zero, List.set_cons_succ]
      refine wpAny_take (i := 10) (oi := { dst := some 62, op := _, type := _, pos := _, after := _, guard := none }) (v := .slice (cutA a c sent) (data.length - sent) (c - sent)) rfl (by kernel_rfl) (by kernel_rfl) (by kernel_rfl) (fun _ _ _ h => h) (Or.inl ⟨by rfl, by intro w; go_simp⟩) ?_
      simp only [Act.put, List.setIfInBounds_toArray, List.set_cons_zero, List.set_cons_succ]
      refine wpAny_ready (rs := [11]) (by decide +kernel) (by simp) ?_
      refine AllReady.cons (o := { dst := some 63, op := .call { callee := .builtin .append, args := #[.const (.slice none 0 0), .tmp 62], argTypes := #[40, 40] }, type := _, pos := _, after := _, guard := none }) rfl (fun K hK => ?_) AllReady.nil
      have hsl : Bs _ (.slice (cutA a c sent) (data.length - sent) (c - sent)) ((data.drop sent).take (data.length - sent)) := (HC.out.rowOf (v := .slice a data.length c) (b := data) (by simp)).cut sent data.length hm1 hm2
      have hlen : ((data.drop sent).take (data.length - sent)).length = data.length - sent := by first | (simp; done) | (simp; omega)
      refine step_app2 rfl (.const (.slice none 0 0)) (.tmp 62) elBytes rfl W.heap.size (v := .slice none 0 0) (by simp [Act.eval]) (Own.nil _ _ _ _ _) (by simp [Value.ownBlock]) (u := .slice (cutA a c sent) (data.length - sent) (c - sent)) (by simp [Act.eval]) (n := 0) (m := data.length - sent) (ds := bCells ((data.drop sent).take (data.length - sent))) (by unfold Bs at hsl; rw [hlen] at hsl; exact hsl) (by unfold maxLen; omega) (by omega) (Nat.le_refl _) ?_
      intro v4 w4 ho hk hv
      have hb4 := hk.below (B := W.heap.size) (by
        rintro i (h | h)
        · exact h.2
        · exact h)
      have ho' : OwnBs w4 W.heap.size v4 ((data.drop sent).take (data.length - sent)) := by unfold OwnBs; rw [hlen]; simpa using ho
      have HC := hI (HC.out.addOwnB hb4 ho' (fun i hi => ⟨by
        rcases (hv i hi).1 with h | h
        · simp [Value.ownBlock] at h
        · exact h, (hv i hi).2⟩)).ownRow
      obtain ⟨a4, c4, rfl, _, _⟩ := ho.sl.form
      clear ho ho' hk hv hb4 hsl hlen
      refine hK _ _ ?_
      clear hK K
      try simp only [Act.put, List.setIfInBounds_toArray, List.set_cons_zero, List.set_cons_succ]
      refine wpAny_take (i := 12) (oi := { dst := some 2, op := _, type := _, pos := _, after := _, guard := none }) (v := .int .i64 sent) rfl (by kernel_rfl) (by kernel_rfl) (by kernel_rfl) (fun _ _ _ h => h) (Or.inl ⟨by rfl, by intro w; go_simp⟩) ?_
      simp only [Act.put, List.setIfInBounds_toArray, List.set_cons_zero, List.set_cons_succ]
      refine wpAny_take (i := 13) (oi := { dst := some 3, op := _, type := _, pos := _, after := _, guard := none }) (v := .slice a4 (0 + (data.length - sent)) c4) rfl (by kernel_rfl) (by kernel_rfl) (by kernel_rfl) (fun _ _ _ h => h) (Or.inl ⟨by rfl, by intro w; go_simp⟩) ?_
      simp only [Act.put, List.setIfInBounds_toArray, List.set_cons_zero, List.set_cons_succ]
      refine wpAny_take (i := 14) (oi := { dst := some 4, op := _, type := _, pos := _, after := _, guard := none }) (v := .bool true) rfl (by kernel_rfl) (by kernel_rfl) (by kernel_rfl) (fun _ _ _ h => h) (Or.inl ⟨by rfl, by intro w; go_simp⟩) ?_
      simp only [Act.put, List.setIfInBounds_toArray, List.set_cons_zero, List.set_cons_succ]
      refine wpAny_done (by decide +kernel) ?_ _
      go_wp2_with fail
      go_ret3
      refine ⟨_, rfl, ?_⟩
      simp only
      rw [HM0.out]
      refine outR_shut (dv := .slice a data.length c) ?_
      try rw [show (((data.length : Nat)) : Int) = (data.length : Int) by omega]
      rw [show (((ahead + 1 : Nat)) : Int) = (ahead : Int) + 1 by omega]
      exact HC.out.push3
  · have hm0 : min (sent + 64) data.length = (sent + 64) := by omega
    have hm1 : sent ≤ (sent + 64) := by omega
    have hm2 : (sent + 64) ≤ data.length := by omega
    have hcs : ((((sent + 64) : Nat)) : Int) = ((sent : Int) + 64) := by omega
    have hx : (sent : Int) + 64 ≤ data.length := by omega
    have hrun : ∀ W, (Instr.sliceAt 40 (.slice a data.length c) (some (.int .i64 sent)) (some (.int .i64 ((sent : Int) + 64))) none).run Try.prog W = .ok (.slice (cutA a c sent) ((sent + 64) - sent) (c - sent)) W := fun W => by
      rw [← hcs]
      exact run_cut2 a data.length c sent (sent + 64) hm1 (by omega) W
    have HM0 := hI hm0
    clear hm0 hcs hcase
    go_enter Try.func43, Try.ntmps43
    go_wp2_with fail
    go_quiet (fail)
    go_wp2_with fail
    have HC := hI (((HH.out.drewN nq).set 2 (.int .i64 ((sent : Int) + 64))).set 3 (.int .i64 ((ahead : Int) + 1)))
    generalize ((w.drewN nq).setCell ⟨p, 2, none⟩ (.int .i64 ((sent : Int) + 64))).setCell ⟨p, 3, none⟩ (.int .i64 ((ahead : Int) + 1)) = W at HC ⊢
    have HC := hI HC.out.drew
    refine wp_region_any (by kernel_rfl) ?_
    change wpAny _ _ _ _ _ _ _ (World.drew _)
    refine wpAny_take (i := 0) (oi := { dst := some 52, op := _, type := _, pos := _, after := _, guard := none }) (v := .int .i64 sent) rfl (by kernel_rfl) (by kernel_rfl) (by kernel_rfl) (fun _ _ _ h => h) (Or.inl ⟨by rfl, by intro w; go_simp⟩) ?_
    simp only [Act.put, List.setIfInBounds_toArray, List.set_cons_zero, List.set_cons_succ]
    refine wpAny_take (i := 1) (oi := { dst := some 53, op := _, type := _, pos := _, after := _, guard := none }) (v := .pointer (some ⟨p, 0, none⟩)) rfl (by kernel_rfl) (by kernel_rfl) (by kernel_rfl) (fun _ _ _ h => h) (Or.inl ⟨by rfl, by intro w; go_simp⟩) ?_
    simp only [Act.put, List.setIfInBounds_toArray, List.set_cons_zero, List.set_cons_succ]
    refine wpAny_take (i := 2) (oi := { dst := some 54, op := _, type := _, pos := _, after := _, guard := none }) (v := .pointer (some ⟨p, 0, none⟩)) rfl (by kernel_rfl) (by kernel_rfl) (by kernel_rfl) (fun _ _ _ h => h) (Or.inl ⟨by rfl, by intro w; go_simp⟩) ?_
    simp only [Act.put, List.setIfInBounds_toArray, List.set_cons_zero, List.set_cons_succ]
    refine wpAny_take (i := 3) (oi := { dst := some 55, op := _, type := _, pos := _, after := _, guard := none }) (v := .pointer (some ⟨p, 1, none⟩)) rfl (by kernel_rfl) (by kernel_rfl) (by kernel_rfl) (fun _ _ _ h => h) (Or.inl ⟨by rfl, by intro w; go_simp⟩) ?_
    simp only [Act.put, List.setIfInBounds_toArray, List.set_cons_zero, List.set_cons_succ]
    refine wpAny_take (i := 5) (oi := { dst := some 57, op := _, type := _, pos := _, after := _, guard := none }) (v := .int .i64 sent) rfl (by kernel_rfl) (by kernel_rfl) (by kernel_rfl) (fun _ _ _ h => h) (Or.inl ⟨by rfl, by intro w; go_simp⟩) ?_
    simp only [Act.put, List.setIfInBounds_toArray, List.set_cons_zero, List.set_cons_succ]
    refine wpAny_take (i := 6) (oi := { dst := some 58, op := _, type := _, pos := _, after := _, guard := none }) (v := .pointer (some ⟨p, 0, none⟩)) rfl (by kernel_rfl) (by kernel_rfl) (by kernel_rfl) (fun _ _ _ h => h) (Or.inl ⟨by rfl, by intro w; go_simp⟩) ?_
    simp only [Act.put, List.setIfInBounds_toArray, List.set_cons_zero, List.set_cons_succ]
    refine wpAny_take (i := 7) (oi := { dst := some 59, op := _, type := _, pos := _, after := _, guard := none }) (v := .pointer (some ⟨p, 0, none⟩)) rfl (by kernel_rfl) (by kernel_rfl) (by kernel_rfl) (fun _ _ _ h => h) (Or.inl ⟨by rfl, by intro w; go_simp⟩) ?_
    simp only [Act.put, List.setIfInBounds_toArray, List.set_cons_zero, List.set_cons_succ]
    refine wpAny_take (i := 8) (oi := { dst := some 60, op := _, type := _, pos := _, after := _, guard := none }) (v := .pointer (some ⟨p, 2, none⟩)) rfl (by kernel_rfl) (by kernel_rfl) (by kernel_rfl) (fun _ _ _ h => h) (Or.inl ⟨by rfl, by intro w; go_simp⟩) ?_
    simp only [Act.put, List.setIfInBounds_toArray, List.set_cons_zero, List.set_cons_succ]
    refine wpAny_ready (rs := [4, 9]) (by decide +kernel) (by simp) ?_
    refine AllReady.cons (o := { dst := some 56, op := .load 40 (.tmp 55), type := _, pos := _, after := _, guard := none }) rfl (fun K hK => ?_) (AllReady.cons (o := { dst := some 61, op := .load 3 (.tmp 60), type := _, pos := _, after := _, guard := none }) rfl (fun K hK => ?_) AllReady.nil)
    · have cc := (HC.out.blkOf (p := p) (cs := [.int .i64 1, .slice a data.length c, .int .i64 ((sent : Int) + 64), .int .i64 ((ahead : Int) + 1)]) (T := 68) (by simp)).cell 1
      simp only [List.getElem?_cons_succ, List.getElem?_cons_zero] at cc
      go_simp
      refine hK _ _ ?_
      clear hK K
      try simp only [Act.put, List.setIfInBounds_toArray, List.set_cons_zero, List.set_cons_succ]
      refine wpAny_ready (rs := [9]) (by decide +kernel) (by simp) ?_
      refine AllReady.cons (o := { dst := some 61, op := .load 3 (.tmp 60), type := _, pos := _, after := _, guard := none }) rfl (fun K hK => ?_) AllReady.nil
      have cc := (HC.out.blkOf (p := p) (cs := [.int .i64 1, .slice a data.length c, .int .i64 ((sent : Int) + 64), .int .i64 ((ahead : Int) + 1)]) (T := 68) (by simp)).cell 2
      simp only [List.getElem?_cons_succ, List.getElem?_cons_zero] at cc
      go_simp
      refine hK _ _ ?_
      clear hK K
      try simp only [Act.put, List.setIfInBounds_toArray, List.set_cons_zero, List.set_cons_succ]
      refine wpAny_take (i := 10) (oi := { dst := some 62, op := _, type := _, pos := _, after := _, guard := none }) (v := .slice (cutA a c sent) ((sent + 64) - sent) (c - sent)) rfl (by kernel_rfl) (by kernel_rfl) (by kernel_rfl) (fun _ _ _ h => h) (Or.inl ⟨by rfl, by intro w; go_simp⟩) ?_
      simp only [Act.put, List.setIfInBounds_toArray, List.set_cons_zero, List.set_cons_succ]
      refine wpAny_ready (rs := [11]) (by decide +kernel) (by simp) ?_
      refine AllReady.cons (o := { dst := some 63, op := .call { callee := .builtin .append, args := #[.const (.slice none 0 0), .tmp 62], argTypes := #[40, 40] }, type := _, pos := _, after := _, guard := none }) rfl (fun K hK => ?_) AllReady.nil
      have hsl : Bs _ (.slice (cutA a c sent) ((sent + 64) - sent) (c - sent)) ((data.drop sent).take ((sent + 64) - sent)) := (HC.out.rowOf (v := .slice a data.length c) (b := data) (by simp)).cut sent (sent + 64) hm1 hm2
      have hlen : ((data.drop sent).take ((sent + 64) - sent)).length = (sent + 64) - sent := by first | (simp; done) | (simp; omega)
      refine step_app2 rfl (.const (.slice none 0 0)) (.tmp 62) elBytes rfl W.heap.size (v := .slice none 0 0) (by simp [Act.eval]) (Own.nil _ _ _ _ _) (by simp [Value.ownBlock]) (u := .slice (cutA a c sent) ((sent + 64) - sent) (c - sent)) (by simp [Act.eval]) (n := 0) (m := (sent + 64) - sent) (ds := bCells ((data.drop sent).take ((sent + 64) - sent))) (by unfold Bs at hsl; rw [hlen] at hsl; exact hsl) (by unfold maxLen; omega) (by omega) (Nat.le_refl _) ?_
      intro v4 w4 ho hk hv
      have hb4 := hk.below (B := W.heap.size) (by
        rintro i (h | h)
        · exact h.2
        · exact h)
      have ho' : OwnBs w4 W.heap.size v4 ((data.drop sent).take ((sent + 64) - sent)) := by unfold OwnBs; rw [hlen]; simpa using ho
      have HC := hI (HC.out.addOwnB hb4 ho' (fun i hi => ⟨by
        rcases (hv i hi).1 with h | h
        · simp [Value.ownBlock] at h
        · exact h, (hv i hi).2⟩)).ownRow
      obtain ⟨a4, c4, rfl, _, _⟩ := ho.sl.form
      clear ho ho' hk hv hb4 hsl hlen
      refine hK _ _ ?_
      clear hK K
      try simp only [Act.put, List.setIfInBounds_toArray, List.set_cons_zero, List.set_cons_succ]
      refine wpAny_take (i := 12) (oi := { dst := some 2, op := _, type := _, pos := _, after := _, guard := none }) (v := .int .i64 sent) rfl (by kernel_rfl) (by kernel_rfl) (by kernel_rfl) (fun _ _ _ h => h) (Or.inl ⟨by rfl, by intro w; go_simp⟩) ?_
      simp only [Act.put, List.setIfInBounds_toArray, List.set_cons_zero, List.set_cons_succ]
      refine wpAny_take (i := 13) (oi := { dst := some 3, op := _, type := _, pos := _, after := _, guard := none }) (v := .slice a4 (0 + ((sent + 64) - sent)) c4) rfl (by kernel_rfl) (by kernel_rfl) (by kernel_rfl) (fun _ _ _ h => h) (Or.inl ⟨by rfl, by intro w; go_simp⟩) ?_
      simp only [Act.put, List.setIfInBounds_toArray, List.set_cons_zero, List.set_cons_succ]
      refine wpAny_take (i := 14) (oi := { dst := some 4, op := _, type := _, pos := _, after := _, guard := none }) (v := .bool true) rfl (by kernel_rfl) (by kernel_rfl) (by kernel_rfl) (fun _ _ _ h => h) (Or.inl ⟨by rfl, by intro w; go_simp⟩) ?_
      simp only [Act.put, List.setIfInBounds_toArray, List.set_cons_zero, List.set_cons_succ]
      refine wpAny_done (by decide +kernel) ?_ _
      go_wp2_with fail
      go_ret3
      refine ⟨_, rfl, ?_⟩
      simp only
      rw [HM0.out]
      refine outR_shut (dv := .slice a data.length c) ?_
      try rw [show ((((sent + 64) : Nat)) : Int) = ((sent : Int) + 64) by omega]
      rw [show (((ahead + 1 : Nat)) : Int) = (ahead : Int) + 1 by omega]
      exact HC.out.push3
    · have cc := (HC.out.blkOf (p := p) (cs := [.int .i64 1, .slice a data.length c, .int .i64 ((sent : Int) + 64), .int .i64 ((ahead : Int) + 1)]) (T := 68) (by simp)).cell 2
      simp only [List.getElem?_cons_succ, List.getElem?_cons_zero] at cc
      go_simp
      refine hK _ _ ?_
      clear hK K
      try simp only [Act.put, List.setIfInBounds_toArray, List.set_cons_zero, List.set_cons_succ]
      refine wpAny_ready (rs := [4]) (by decide +kernel) (by simp) ?_
      refine AllReady.cons (o := { dst := some 56, op := .load 40 (.tmp 55), type := _, pos := _, after := _, guard := none }) rfl (fun K hK => ?_) AllReady.nil
      have cc := (HC.out.blkOf (p := p) (cs := [.int .i64 1, .slice a data.length c, .int .i64 ((sent : Int) + 64), .int .i64 ((ahead : Int) + 1)]) (T := 68) (by simp)).cell 1
      simp only [List.getElem?_cons_succ, List.getElem?_cons_zero] at cc
      go_simp
      refine hK _ _ ?_
      clear hK K
      try simp only [Act.put, List.setIfInBounds_toArray, List.set_cons_zero, List.set_cons_succ]
      refine wpAny_take (i := 10) (oi := { dst := some 62, op := _, type := _, pos := _, after := _, guard := none }) (v := .slice (cutA a c sent) ((sent + 64) - sent) (c - sent)) rfl (by kernel_rfl) (by kernel_rfl) (by kernel_rfl) (fun _ _ _ h => h) (Or.inl ⟨by rfl, by intro w; go_simp⟩) ?_
      simp only [Act.put, List.setIfInBounds_toArray, List.set_cons_zero, List.set_cons_succ]
      refine wpAny_ready (rs := [11]) (by decide +kernel) (by simp) ?_
      refine AllReady.cons (o := { dst := some 63, op := .call { callee := .builtin .append, args := #[.const (.slice none 0 0), .tmp 62], argTypes := #[40, 40] }, type := _, pos := _, after := _, guard := none }) rfl (fun K hK => ?_) AllReady.nil
      have hsl : Bs _ (.slice (cutA a c sent) ((sent + 64) - sent) (c - sent)) ((data.drop sent).take ((sent + 64) - sent)) := (HC.out.rowOf (v := .slice a data.length c) (b := data) (by simp)).cut sent (sent + 64) hm1 hm2
      have hlen : ((data.drop sent).take ((sent + 64) - sent)).length = (sent + 64) - sent := by first | (simp; done) | (simp; omega)
      refine step_app2 rfl (.const (.slice none 0 0)) (.tmp 62) elBytes rfl W.heap.size (v := .slice none 0 0) (by simp [Act.eval]) (Own.nil _ _ _ _ _) (by simp [Value.ownBlock]) (u := .slice (cutA a c sent) ((sent + 64) - sent) (c - sent)) (by simp [Act.eval]) (n := 0) (m := (sent + 64) - sent) (ds := bCells ((data.drop sent).take ((sent + 64) - sent))) (by unfold Bs at hsl; rw [hlen] at hsl; exact hsl) (by unfold maxLen; omega) (by omega) (Nat.le_refl _) ?_
      intro v4 w4 ho hk hv
      have hb4 := hk.below (B := W.heap.size) (by
        rintro i (h | h)
        · exact h.2
        · exact h)
      have ho' : OwnBs w4 W.heap.size v4 ((data.drop sent).take ((sent + 64) - sent)) := by unfold OwnBs; rw [hlen]; simpa using ho
      have HC := hI (HC.out.addOwnB hb4 ho' (fun i hi => ⟨by
        rcases (hv i hi).1 with h | h
        · simp [Value.ownBlock] at h
        · exact h, (hv i hi).2⟩)).ownRow
      obtain ⟨a4, c4, rfl, _, _⟩ := ho.sl.form
      clear ho ho' hk hv hb4 hsl hlen
      refine hK _ _ ?_
      clear hK K
      try simp only [Act.put, List.setIfInBounds_toArray, List.set_cons_zero, List.set_cons_succ]
      refine wpAny_take (i := 12) (oi := { dst := some 2, op := _, type := _, pos := _, after := _, guard := none }) (v := .int .i64 sent) rfl (by kernel_rfl) (by kernel_rfl) (by kernel_rfl) (fun _ _ _ h => h) (Or.inl ⟨by rfl, by intro w; go_simp⟩) ?_
      simp only [Act.put, List.setIfInBounds_toArray, List.set_cons_zero, List.set_cons_succ]
      refine wpAny_take (i := 13) (oi := { dst := some 3, op := _, type := _, pos := _, after := _, guard := none }) (v := .slice a4 (0 + ((sent + 64) - sent)) c4) rfl (by kernel_rfl) (by kernel_rfl) (by kernel_rfl) (fun _ _ _ h => h) (Or.inl ⟨by rfl, by intro w; go_simp⟩) ?_
      simp only [Act.put, List.setIfInBounds_toArray, List.set_cons_zero, List.set_cons_succ]
      refine wpAny_take (i := 14) (oi := { dst := some 4, op := _, type := _, pos := _, after := _, guard := none }) (v := .bool true) rfl (by kernel_rfl) (by kernel_rfl) (by kernel_rfl) (fun _ _ _ h => h) (Or.inl ⟨by rfl, by intro w; go_simp⟩) ?_
      simp only [Act.put, List.setIfInBounds_toArray, List.set_cons_zero, List.set_cons_succ]
      refine wpAny_done (by decide +kernel) ?_ _
      go_wp2_with fail
      go_ret3
      refine ⟨_, rfl, ?_⟩
      simp only
      rw [HM0.out]
      refine outR_shut (dv := .slice a data.length c) ?_
      try rw [show ((((sent + 64) : Nat)) : Int) = ((sent : Int) + 64) by omega]
      rw [show (((ahead + 1 : Nat)) : Int) = (ahead : Int) + 1 by omega]
      exact HC.out.push3
end Go.Proofs.Ytiplepdmkbiehaa
namespace Go.Proofs.Ytiplepdmkbiehaa
set_option linter.unusedSimpArgs false
set_option linter.unusedVariables false
open Go.RowKit Go.Maps Go.MapKept Go.WideMaps
theorem Own.ge {w : World} {B : Nat} {e : TypeId} {sz : Nat} {v : Value} {n : Nat} {cs : List Value} (h : Own w B e sz v n cs) (hn : 0 < n) {k : Nat} (hk : v.ownBlock = some k) : B ≤ k ∧ k < w.heap.size := by
  obtain ⟨h4, h5, ⟨a, e1, e2⟩ | ⟨g, cap, cur, e1, e2, e3, _⟩⟩ := h
  · omega
  · rw [e1] at hk
    simp [Value.ownBlock] at hk
    subst hk
    exact ⟨e2, block_lt e3⟩
/-- A Call is written. -/
theorem Hold.blk0 {W : World} {p : Nat} {cs : List Value} {T : TypeId} {l : List Res} (h : Hold W (.blk p cs T :: l)) : Blk W p cs T := h.blkOf List.mem_cons_self
theorem Hold.row0 {W : World} {v : Value} {b : List UInt8} {l : List Res} (h : Hold W (.row v b :: l)) : Bs W v b := h.rowOf List.mem_cons_self
theorem Hold.own0 {W : World} {e : TypeId} {sz n : Nat} {v : Value} {cs : List Value} {l : List Res} (h : Hold W (.own e sz v n cs :: l)) : Own W 0 e sz v n cs ∧ ∀ b, v.ownBlock = some b → b < W.heap.size := h.ownOf List.mem_cons_self
theorem Hold.ownZ0 {W : World} {e : TypeId} {sz n : Nat} {v : Value} {cs : List Value} {l : List Res} (h : Hold W (.ownZ e sz v n cs :: l)) : OwnZ W 0 e sz v n cs := h.ownZOf List.mem_cons_self
theorem Hold.pull6 {W : World} {a b c d e f : Res} {l : List Res} (hh : Hold W (a :: b :: c :: d :: e :: f :: l)) : Hold W (f :: a :: b :: c :: d :: e :: l) := hh.perm (List.perm_middle (l₁ := [a, b, c, d, e]))
theorem Hold.push6 {W : World} {a b c d e f : Res} {l : List Res} (hh : Hold W (f :: a :: b :: c :: d :: e :: l)) : Hold W (a :: b :: c :: d :: e :: f :: l) := hh.perm (List.perm_middle (l₁ := [a, b, c, d, e])).symm
theorem Hold.pull7 {W : World} {a b c d e f g : Res} {l : List Res} (hh : Hold W (a :: b :: c :: d :: e :: f :: g :: l)) : Hold W (g :: a :: b :: c :: d :: e :: f :: l) := hh.perm (List.perm_middle (l₁ := [a, b, c, d, e, f]))
theorem Hold.push7 {W : World} {a b c d e f g : Res} {l : List Res} (hh : Hold W (g :: a :: b :: c :: d :: e :: f :: l)) : Hold W (a :: b :: c :: d :: e :: f :: g :: l) := hh.perm (List.perm_middle (l₁ := [a, b, c, d, e, f])).symm
theorem Hold.pull8 {W : World} {a b c d e f g h : Res} {l : List Res} (hh : Hold W (a :: b :: c :: d :: e :: f :: g :: h :: l)) : Hold W (h :: a :: b :: c :: d :: e :: f :: g :: l) := hh.perm (List.perm_middle (l₁ := [a, b, c, d, e, f, g]))
theorem Hold.push8 {W : World} {a b c d e f g h : Res} {l : List Res} (hh : Hold W (h :: a :: b :: c :: d :: e :: f :: g :: l)) : Hold W (a :: b :: c :: d :: e :: f :: g :: h :: l) := hh.perm (List.perm_middle (l₁ := [a, b, c, d, e, f, g])).symm
/-- What has happened. -/
structure EvF where
  kind : Int
  id : Int
  text : ByteArray
  data : List UInt8
structure AppF where
  id : Nat
  outs : List (Int × OutF)
  ins : List (Int × InF)
  names : List (Int × ByteArray)
  waits : List (List UInt8)
  log : List EvF
def AppF.nil : AppF := ⟨0, [], [], [], [], []⟩
def kI (n : Int) : Lit := .int .i64 n
theorem kI_inj : KInj kI := intInj .i64
theorem intK : Maps.Keyed Try.prog 2 := Maps.int_keyed Try.underlying2
theorem kI_key {n : Int} (h : -9223372036854775808 ≤ n ∧ n ≤ 9223372036854775807) : keyOf Try.prog 2 (.int .i64 n) = some (kI n) :=
  keyOf_int_mk Try.underlying2 (by simp [Lit.wf, IntKind.min, IntKind.max, IntKind.bits, IntKind.signed]; omega)
/-- An element is put in another's place. -/
def setV {β : Type} : List (Int × β) → Int → β → List (Int × β)
  | [], _, _ => []
  | y :: L, k, x => if y.1 = k then (k, x) :: L else y :: setV L k x
theorem setV_keys {β : Type} : ∀ (L : List (Int × β)) (k : Int) (x : β), (setV L k x).map (·.1) = L.map (·.1)
  | [], _, _ => rfl
  | y :: L, k, x => by
    unfold setV
    split
    · rename_i h; simp [h]
    · simp [setV_keys L k x]
theorem setV_length {β : Type} (L : List (Int × β)) (k : Int) (x : β) : (setV L k x).length = L.length := by
  have := congrArg List.length (setV_keys L k x)
  simpa using this
theorem hasV_keys {β γ : Type} (k : Int) : ∀ {L : List (Int × β)} {M : List (Int × γ)}, L.map (·.1) = M.map (·.1) → hasV L k = hasV M k
  | [], [], _ => rfl
  | [], _ :: _, h => by simp at h
  | _ :: _, [], h => by simp at h
  | y :: L, z :: M, h => by
    simp only [List.map_cons, List.cons.injEq] at h
    have := hasV_keys k h.2
    unfold hasV at this ⊢
    simp only [List.any_cons, this, h.1]
theorem hasV_set {β : Type} (L : List (Int × β)) (k : Int) (x : β) (j : Int) : hasV (setV L k x) j = hasV L j := hasV_keys j (setV_keys L k x)
theorem getV_cons {β : Type} (y : Int × β) (L : List (Int × β)) (k : Int) (z : β) : getV (y :: L) k z = if y.1 = k then y.2 else getV L k z := by
  unfold getV
  rw [List.find?_cons]
  by_cases h : y.1 = k
  · simp [h]
  · simp [h]
theorem hasV_cons {β : Type} (y : Int × β) (L : List (Int × β)) (k : Int) : hasV (y :: L) k = (decide (y.1 = k) || hasV L k) := by
  unfold hasV
  rw [List.any_cons]
theorem getV_set {β : Type} (z : β) : ∀ (L : List (Int × β)) (k : Int) (x : β) (j : Int), getV (setV L k x) j z = if j = k ∧ hasV L k = true then x else getV L j z
  | [], k, x, j => by simp [setV, getV, hasV]
  | y :: L, k, x, j => by
    unfold setV
    split
    · rename_i h
      rw [getV_cons, getV_cons, hasV_cons]
      by_cases h2 : j = k
      · subst h2; simp [h]
      · have h3 : ¬ k = j := fun e => h2 e.symm
        have h4 : ¬ y.1 = j := fun e => h2 (by rw [← e, h])
        simp [h2, h3, h4]
    · rename_i h
      rw [getV_cons, getV_cons, hasV_cons, getV_set z L k x j]
      by_cases h2 : j = k
      · subst h2; simp [h]
      · simp [h2]
/-- A map's elements: where each lies. -/
def ptrM {β : Type} : List Nat → List (Int × β) → List (Int × Value)
  | p :: ps, x :: L => (x.1, .pointer (some ⟨p, 0, none⟩)) :: ptrM ps L
  | _, _ => []
/-- Each in its place. -/
def ptrsR {β : Type} (r : Nat → β → Res) : List Nat → List (Int × β) → Res
  | [], [] => .emp
  | p :: ps, x :: L => (r p x.2).star (ptrsR r ps L)
  | _, _ => .pure False
theorem ptrsR_len {β : Type} {r : Nat → β → Res} {W : World} : ∀ {ps : List Nat} {L : List (Int × β)} {l : List Res}, Hold W (ptrsR r ps L :: l) → ps.length = L.length
  | [], [], _, _ => rfl
  | [], _ :: _, _, h => (Hold.pure.1 h).1.elim
  | _ :: _, [], _, h => (Hold.pure.1 h).1.elim
  | p :: ps, x :: L, l, h => by simp [ptrsR_len (Hold.star.1 h).tail]
theorem ptrM_keys {β : Type} : ∀ {ps : List Nat} {L : List (Int × β)}, ps.length = L.length → (ptrM ps L).map (·.1) = L.map (·.1)
  | [], [], _ => rfl
  | [], _ :: _, h => by simp at h
  | _ :: _, [], h => by simp at h
  | p :: ps, x :: L, h => by
    simp only [ptrM, List.map_cons]
    rw [ptrM_keys (by simpa using h)]
theorem ptrM_set {β : Type} : ∀ (ps : List Nat) (L : List (Int × β)) (k : Int) (x : β), ptrM ps (setV L k x) = ptrM ps L
  | [], L, k, x => by cases L <;> simp [setV, ptrM]
  | _ :: _, [], k, x => rfl
  | p :: ps, y :: L, k, x => by
    unfold setV
    split
    · rename_i h; simp [ptrM, h]
    · simp [ptrM, ptrM_set ps L k x]
theorem ptrM_snoc {β : Type} : ∀ {ps : List Nat} {L : List (Int × β)} (p : Nat) (x : Int × β), ps.length = L.length → ptrM (ps ++ [p]) (L ++ [x]) = ptrM ps L ++ [(x.1, .pointer (some ⟨p, 0, none⟩))]
  | [], [], _, _, _ => rfl
  | [], _ :: _, _, _, h => by simp at h
  | _ :: _, [], _, _, h => by simp at h
  | q :: ps, y :: L, p, x, h => by simp [ptrM, ptrM_snoc p x (by simpa using h : ps.length = L.length)]
theorem ptrsR_snoc {β : Type} {r : Nat → β → Res} {W : World} : ∀ {ps : List Nat} {L : List (Int × β)} {p : Nat} {x : Int × β} {l : List Res}, Hold W (ptrsR r ps L :: r p x.2 :: l) → Hold W (ptrsR r (ps ++ [p]) (L ++ [x]) :: l)
  | [], [], p, x, l, h => Hold.star.2 (h.perm (.swap _ _ _))
  | [], _ :: _, _, _, _, h => (Hold.pure.1 h).1.elim
  | _ :: _, [], _, _, _, h => (Hold.pure.1 h).1.elim
  | q :: ps, y :: L, p, x, l, h => by
    have h := (Hold.star.1 h).push3
    exact Hold.star.2 (ptrsR_snoc h).swap
/-- One of them, and the rest. -/
theorem ptrsR_focus {β : Type} {r : Nat → β → Res} {W : World} (k : Int) (z : β) : ∀ {ps : List Nat} {L : List (Int × β)} {l : List Res}, Hold W (ptrsR r ps L :: l) → hasV L k = true →
    ∃ p R, getV (ptrM ps L) k (.pointer none) = .pointer (some ⟨p, 0, none⟩) ∧ Hold W (r p (getV L k z) :: R :: l) ∧ ∀ {W' : World} {x' : β} {l' : List Res}, Hold W' (r p x' :: R :: l') → Hold W' (ptrsR r ps (setV L k x') :: l')
  | [], [], _, _, hk => by simp [hasV] at hk
  | [], _ :: _, _, h, _ => (Hold.pure.1 h).1.elim
  | _ :: _, [], _, h, _ => (Hold.pure.1 h).1.elim
  | p :: ps, y :: L, l, h, hk => by
    have h := Hold.star.1 h
    by_cases hy : y.1 = k
    · refine ⟨p, ptrsR r ps L, by rw [ptrM, getV_cons, if_pos hy], by rw [getV_cons, if_pos hy]; exact h, fun h' => ?_⟩
      rw [show setV (y :: L) k _ = (k, _) :: L from by rw [setV, if_pos hy]]
      exact Hold.star.2 h'
    · have hk' : hasV L k = true := by
        rw [hasV_cons] at hk
        simpa [hy] using hk
      obtain ⟨p', R, e, h1, h2⟩ := ptrsR_focus k z h.swap hk'
      refine ⟨p', (r p y.2).star R, by rw [ptrM, getV_cons, if_neg hy]; exact e, ?_, fun h' => ?_⟩
      · rw [getV_cons, if_neg hy]
        exact (Hold.star.2 h1.pull3.swap.push3).swap
      · rw [show setV (y :: L) k _ = y :: setV L k _ from by rw [setV, if_neg hy]]
        exact Hold.star.2 (h2 (Hold.star.1 h'.swap).swap.pull3).swap
/-- Put back as it was. -/
theorem setV_get {β : Type} (z : β) : ∀ (L : List (Int × β)) (k : Int), hasV L k = true → setV L k (getV L k z) = L
  | [], _, h => by simp [hasV] at h
  | y :: L, k, h => by
    unfold setV
    split
    · rename_i e
      rw [getV_cons, if_pos e, ← e]
    · rename_i e
      rw [getV_cons, if_neg e, setV_get z L k (by rw [hasV_cons] at h; simpa [e] using h)]
def OutF.nil : OutF := ⟨0, [], 0, 0⟩
def InF.nil : InF := ⟨0, 0, [], []⟩
def outsR (b : Nat) (ps : List Nat) (L : List (Int × OutF)) : Res := .all [mapV Try.prog 2 kI b (ptrM ps L), ptrsR outR ps L]
def insR (b : Nat) (ps : List Nat) (L : List (Int × InF)) : Res := .all [mapV Try.prog 2 kI b (ptrM ps L), ptrsR inR ps L]
def namV (L : List (Int × ByteArray)) : List (Int × Value) := L.map fun x => (x.1, .string x.2)
theorem elWords : Elem Try.prog 29 40 1 24 (.slice none 0 0) := elRows
def waitsR (v : Value) (ws : List (List UInt8)) : Res := .ex fun vs => .all [.ownZ 40 1 v ws.length vs, sumsR vs ws]
def evCells (dv : Value) (e : EvF) : List Value := [.int .i64 e.kind, .int .i64 e.id, .string e.text, dv]
def logCells : List EvF → List Value → List Value
  | e :: es, d :: ds => evCells d e ++ logCells es ds
  | _, _ => []
theorem elEv : Elem Try.prog 51 54 4 56 (.agg #[.int .i64 0, .int .i64 0, .string ⟨#[]⟩, .slice none 0 0]) := by
  refine Elem.mk Try.underlying51 ?_ rfl (by decide)
  kernel_rfl
def logR (v : Value) (es : List EvF) : Res := .ex fun ds => .all [.own 54 4 v es.length (logCells es ds), sumsR ds (es.map (·.data))]
theorem logR_open {W : World} {v : Value} {es : List EvF} {l : List Res} (h : Hold W (logR v es :: l)) : ∃ ds, Hold W (.own 54 4 v es.length (logCells es ds) :: sumsR ds (es.map (·.data)) :: l) := by
  obtain ⟨ds, h⟩ := Hold.ex.1 h
  exact ⟨ds, Hold.app.1 h⟩
theorem logR_shut {W : World} {v : Value} {es : List EvF} {ds : List Value} {l : List Res} (h : Hold W (.own 54 4 v es.length (logCells es ds) :: sumsR ds (es.map (·.data)) :: l)) : Hold W (logR v es :: l) := Hold.ex.2 ⟨ds, Hold.app.2 h⟩
theorem Hold.addEmp {W : World} {l : List Res} (h : Hold W l) : Hold W (.emp :: l) := h.new (Below.refl _ _) (F := fun _ => False) (fun _ h => h) (fun _ h => h.elim)
theorem logR_nil {W : World} {l : List Res} (h : Hold W l) : Hold W (logR (.slice none 0 0) [] :: l) := logR_shut (ds := []) ((h.addEmp.addNil 54 4))
theorem waitsR_open {W : World} {v : Value} {ws : List (List UInt8)} {l : List Res} (h : Hold W (waitsR v ws :: l)) : ∃ vs, Hold W (.ownZ 40 1 v ws.length vs :: sumsR vs ws :: l) := by
  obtain ⟨vs, h⟩ := Hold.ex.1 h
  exact ⟨vs, Hold.app.1 h⟩
theorem waitsR_shut {W : World} {v : Value} {ws : List (List UInt8)} {vs : List Value} {l : List Res} (h : Hold W (.ownZ 40 1 v ws.length vs :: sumsR vs ws :: l)) : Hold W (waitsR v ws :: l) := Hold.ex.2 ⟨vs, Hold.app.2 h⟩
theorem waitsR_snoc {W : World} {v : Value} {ws : List (List UInt8)} {b : List UInt8} {vs : List Value} {l : List Res} (h : Hold W (.ownZ 40 1 v (ws.length + 1) vs :: sumsR vs (ws ++ [b]) :: l)) : Hold W (waitsR v (ws ++ [b]) :: l) := by
  refine waitsR_shut (vs := vs) ?_
  rw [List.length_append]
  exact h
theorem outsR_iff {W : World} {b : Nat} {L : List (Int × OutF)} {ps : List Nat} {l : List Res} : Hold W (outsR b ps L :: l) ↔ Hold W (mapV Try.prog 2 kI b (ptrM ps L) :: ptrsR outR ps L :: l) := Hold.app
theorem insR_iff {W : World} {b : Nat} {L : List (Int × InF)} {ps : List Nat} {l : List Res} : Hold W (insR b ps L :: l) ↔ Hold W (mapV Try.prog 2 kI b (ptrM ps L) :: ptrsR inR ps L :: l) := Hold.app
theorem sumsR_len {W : World} : ∀ {vs : List Value} {rs : List (List UInt8)} {l : List Res}, Hold W (sumsR vs rs :: l) → vs.length = rs.length
  | [], [], _, _ => rfl
  | [], _ :: _, _, h => (Hold.pure.1 h).1.elim
  | _ :: _, [], _, h => (Hold.pure.1 h).1.elim
  | v :: vs, r :: rs, l, h => by simp [sumsR_len (Hold.star.1 h).tail]
/-- An end, in memory; q: the table by which it makes digests. -/
def appR (a q : Nat) (P : List Nat × List Nat) (A : AppF) : Res :=
  .ex fun (x : Nat × Nat × Nat × Value × Value) => .all [.blk a [provV q, .int .i64 A.id, .map (some x.1), .map (some x.2.1), .map (some x.2.2.1), x.2.2.2.1, x.2.2.2.2] 65,
    outsR x.1 P.1 A.outs, insR x.2.1 P.2 A.ins, mapV Try.prog 2 kI x.2.2.1 (namV A.names), waitsR x.2.2.2.1 A.waits, logR x.2.2.2.2 A.log]
theorem appR_open {W : World} {a q : Nat} {P : List Nat × List Nat} {id : Nat} {outs : List (Int × OutF)} {ins : List (Int × InF)} {names : List (Int × ByteArray)} {waits : List (List UInt8)} {log : List EvF} {l : List Res} (h : Hold W (appR a q P ⟨id, outs, ins, names, waits, log⟩ :: l)) : ∃ ob ib nb wv lv,
    Hold W (.blk a [provV q, .int .i64 id, .map (some ob), .map (some ib), .map (some nb), wv, lv] 65 :: outsR ob P.1 outs :: insR ib P.2 ins :: mapV Try.prog 2 kI nb (namV names) :: waitsR wv waits :: logR lv log :: l) := by
  obtain ⟨⟨ob, ib, nb, wv, lv⟩, h⟩ := Hold.ex.1 h
  exact ⟨ob, ib, nb, wv, lv, Hold.app.1 h⟩
theorem appR_shut {W : World} {a q : Nat} {P : List Nat × List Nat} {id : Nat} {outs : List (Int × OutF)} {ins : List (Int × InF)} {names : List (Int × ByteArray)} {waits : List (List UInt8)} {log : List EvF} {ob ib nb : Nat} {wv lv : Value} {l : List Res}
    (h : Hold W (.blk a [provV q, .int .i64 id, .map (some ob), .map (some ib), .map (some nb), wv, lv] 65 :: outsR ob P.1 outs :: insR ib P.2 ins :: mapV Try.prog 2 kI nb (namV names) :: waitsR wv waits :: logR lv log :: l)) :
    Hold W (appR a q P ⟨id, outs, ins, names, waits, log⟩ :: l) := Hold.ex.2 ⟨(ob, ib, nb, wv, lv), Hold.app.2 h⟩
theorem waitsR_form {W : World} {v : Value} {ws : List (List UInt8)} {l : List Res} (h : Hold W l) (hm : waitsR v ws ∈ l) : ∃ a c, v = .slice a ws.length c ∧ ws.length ≤ c ∧ c ≤ maxLen := by
  obtain ⟨F, vs, h1⟩ := h.get hm
  have h2 : Hold W [waitsR v ws] := Hold.cons.2 ⟨F, fun _ => False, ⟨vs, h1⟩, fun _ h => h, fun _ _ h => h⟩
  obtain ⟨vs, h3⟩ := Hold.ex.1 h2
  exact ((Hold.app.1 h3).ownZOf (e := 40) (sz := 1) (v := v) (n := ws.length) (cs := vs) (by simp)).sl.form
end Go.Proofs.Ytiplepdmkbiehaa
namespace Go.Proofs.Ytiplepdmkbiehaa
set_option linter.unusedSimpArgs false
set_option linter.unusedVariables false
open Go.RowKit
/-- A number, bytes, or a list, with a tag. -/
inductive Tv where
  | mk (kind tag : Int) (n : Nat) (b : List UInt8) (l : List Tv)
def Tv.kind : Tv → Int | .mk k _ _ _ _ => k
def Tv.tag : Tv → Int | .mk _ t _ _ _ => t
def Tv.n : Tv → Nat | .mk _ _ n _ _ => n
def Tv.b : Tv → List UInt8 | .mk _ _ _ b _ => b
def Tv.l : Tv → List Tv | .mk _ _ _ _ l => l
def Tv.zero : Tv := .mk 0 0 0 [] []
mutual
/-- The five cells of a value; F: the blocks that its rows may lie in. -/
def TvF (w : World) (F : Nat → Prop) : Tv → List Value → Prop
  | .mk k t n b l, cs => ∃ (bv lv : Value) (rows : List Value), cs = [.int .i64 k, .int .i64 t, .int .u64 (n : Int), bv, lv] ∧ Bs w bv b ∧ (0 < b.length → ∀ x, bv.ownBlock = some x → F x) ∧
      Sl w 5 lv l.length rows ∧ (0 < l.length → ∀ x, lv.ownBlock = some x → F x) ∧ TvsF w F l rows
def TvsF (w : World) (F : Nat → Prop) : List Tv → List Value → Prop
  | [], cs => cs = []
  | x :: l, cs => ∃ r rs, cs = r ++ rs ∧ TvF w F x r ∧ TvsF w F l rs
end
theorem TvF.length {w : World} {F : Nat → Prop} : ∀ {x : Tv} {cs : List Value}, TvF w F x cs → cs.length = 5
  | .mk _ _ _ _ _, cs, h => by
    obtain ⟨bv, lv, rows, rfl, _⟩ := h
    rfl
theorem TvF.one {w : World} {F : Nat → Prop} : ∀ {x : Tv} {cs : List Value}, TvF w F x cs → ∀ u ∈ cs, u.oneCell' = true
  | .mk _ _ _ _ _, cs, h => by
    obtain ⟨bv, lv, rows, rfl, hb, _, hl, _⟩ := h
    obtain ⟨a, c, e, _⟩ := hb.form
    obtain ⟨a2, c2, e2, _⟩ := hl.form
    subst e e2
    intro u hu
    simp only [List.mem_cons, List.not_mem_nil, or_false] at hu
    rcases hu with rfl | rfl | rfl | rfl | rfl <;> rfl
mutual
theorem TvF.keep' {w w' : World} {F G S : Nat → Prop} (hk : Keeps S w w') (hs : ∀ b, F b → b < w.heap.size → ¬ S b) (hg : ∀ b, F b → G b) : ∀ (x : Tv) (cs : List Value), TvF w F x cs → TvF w' G x cs
  | .mk k t n b l, cs, h => by
    obtain ⟨bv, lv, rows, e, h1, h2, h3, h4, h5⟩ := h
    exact ⟨bv, lv, rows, e, Sl.keepF h1 hk h2 hs, fun hp x hx => hg x (h2 hp x hx), Sl.keepF h3 hk h4 hs, fun hp x hx => hg x (h4 hp x hx), TvsF.keep' hk hs hg l rows h5⟩
theorem TvsF.keep' {w w' : World} {F G S : Nat → Prop} (hk : Keeps S w w') (hs : ∀ b, F b → b < w.heap.size → ¬ S b) (hg : ∀ b, F b → G b) : ∀ (l : List Tv) (cs : List Value), TvsF w F l cs → TvsF w' G l cs
  | [], cs, h => h
  | x :: l, cs, h => by
    obtain ⟨r, rs, e, h1, h2⟩ := h
    exact ⟨r, rs, e, TvF.keep' hk hs hg x r h1, TvsF.keep' hk hs hg l rs h2⟩
end
theorem TvF.below {w w' : World} {F : Nat → Prop} {x : Tv} {cs : List Value} (h : TvF w F x cs) (hb : Below w.heap.size w w') : TvF w' F x cs :=
  TvF.keep' (Keeps.of_below hb) (fun _ _ hl hs => by omega) (fun _ h => h) x cs h
theorem TvsF.below {w w' : World} {F : Nat → Prop} {l : List Tv} {cs : List Value} (h : TvsF w F l cs) (hb : Below w.heap.size w w') : TvsF w' F l cs :=
  TvsF.keep' (Keeps.of_below hb) (fun _ _ hl hs => by omega) (fun _ h => h) l cs h
theorem TvF.keep {w w' : World} {F S : Nat → Prop} {x : Tv} {cs : List Value} (h : TvF w F x cs) (hk : Keeps S w w') (hs : ∀ b, F b → b < w.heap.size → ¬ S b) : TvF w' F x cs :=
  TvF.keep' hk hs (fun _ h => h) x cs h
theorem TvsF.keep {w w' : World} {F S : Nat → Prop} {l : List Tv} {cs : List Value} (h : TvsF w F l cs) (hk : Keeps S w w') (hs : ∀ b, F b → b < w.heap.size → ¬ S b) : TvsF w' F l cs :=
  TvsF.keep' hk hs (fun _ h => h) l cs h
theorem TvF.mono {w : World} {F G : Nat → Prop} {x : Tv} {cs : List Value} (h : TvF w F x cs) (hg : ∀ b, F b → G b) : TvF w G x cs :=
  TvF.keep' (Keeps.refl (fun _ => False) w) (fun _ _ _ h => h) hg x cs h
theorem TvsF.mono {w : World} {F G : Nat → Prop} {l : List Tv} {cs : List Value} (h : TvsF w F l cs) (hg : ∀ b, F b → G b) : TvsF w G l cs :=
  TvsF.keep' (Keeps.refl (fun _ => False) w) (fun _ _ _ h => h) hg l cs h
theorem TvsF.length {w : World} {F : Nat → Prop} : ∀ {l : List Tv} {cs : List Value}, TvsF w F l cs → cs.length = l.length * 5
  | [], cs, h => by rw [show cs = [] from h]; rfl
  | x :: l, cs, h => by
    obtain ⟨r, rs, rfl, h1, h2⟩ := h
    rw [List.length_append, h1.length, TvsF.length h2, List.length_cons]
    omega
theorem TvsF.snoc {w : World} {F : Nat → Prop} : ∀ {l : List Tv} {cs : List Value} {x : Tv} {r : List Value}, TvsF w F l cs → TvF w F x r → TvsF w F (l ++ [x]) (cs ++ r)
  | [], cs, x, r, h, hx => by
    rw [show cs = [] from h]
    exact ⟨r, [], by simp, hx, rfl⟩
  | y :: l, cs, x, r, h, hx => by
    obtain ⟨r1, rs, rfl, h1, h2⟩ := h
    exact ⟨r1, rs ++ r, by simp, h1, TvsF.snoc h2 hx⟩
theorem TvsF.at_ {w : World} {F : Nat → Prop} : ∀ {l : List Tv} {cs : List Value}, TvsF w F l cs → ∀ (k : Nat) (hk : k < l.length), TvF w F l[k] ((cs.drop (k * 5)).take 5)
  | [], cs, h, k, hk => by simp at hk
  | x :: l, cs, h, 0, hk => by
    obtain ⟨r, rs, rfl, h1, h2⟩ := h
    rw [Nat.zero_mul, List.drop_zero, List.take_append_of_le_length (by rw [h1.length]; exact Nat.le_refl _), List.take_of_length_le (by rw [h1.length]; exact Nat.le_refl _)]
    exact h1
  | x :: l, cs, h, k + 1, hk => by
    obtain ⟨r, rs, rfl, h1, h2⟩ := h
    rw [show (k + 1) * 5 = r.length + k * 5 by rw [h1.length]; omega, List.drop_length_add_append]
    exact TvsF.at_ h2 k (by simpa using hk)
/-- An element's cells, where the row lies. -/
theorem TvsF.cells {w : World} {F : Nat → Prop} {l : List Tv} {cs : List Value} (h : TvsF w F l cs) {b o cap : Nat} (hs : Sl w 5 (.slice (some ⟨b, o, none⟩) l.length cap) l.length cs) (k : Nat) (hk : k < l.length) :
    ∃ r, TvF w F l[k] r ∧ CellsAt w b (o + k * 5) r := by
  refine ⟨_, h.at_ k hk, fun j u hj => ?_⟩
  obtain ⟨b', o', e, hc⟩ := hs.addr (by rw [hs.1]; omega)
  simp only [Option.some.injEq, Addr.mk.injEq, and_true] at e
  obtain ⟨rfl, rfl⟩ := e
  rw [List.getElem?_take] at hj
  split at hj
  · rw [List.getElem?_drop] at hj
    rw [Nat.add_assoc]
    exact hc _ u hj
  · simp at hj
/-- The five cells, opened. -/
theorem TvF.open_ {w : World} {F : Nat → Prop} {x : Tv} {cs : List Value} (h : TvF w F x cs) : ∃ (bv lv : Value) (rows : List Value), cs = [.int .i64 x.kind, .int .i64 x.tag, .int .u64 (x.n : Int), bv, lv] ∧ Bs w bv x.b ∧ (0 < x.b.length → ∀ y, bv.ownBlock = some y → F y) ∧
      Sl w 5 lv x.l.length rows ∧ (0 < x.l.length → ∀ y, lv.ownBlock = some y → F y) ∧ TvsF w F x.l rows := by
  cases x
  exact h
theorem TvF.mk {w : World} {F : Nat → Prop} {k t : Int} {n : Nat} {b : List UInt8} {l : List Tv} {bv lv : Value} {rows : List Value} (h1 : Bs w bv b) (h2 : ∀ y, bv.ownBlock = some y → F y) (h3 : Sl w 5 lv l.length rows) (h4 : ∀ y, lv.ownBlock = some y → F y) (h5 : TvsF w F l rows) :
    TvF w F (.mk k t n b l) [.int .i64 k, .int .i64 t, .int .u64 (n : Int), bv, lv] := ⟨bv, lv, rows, rfl, h1, fun _ => h2, h3, fun _ => h4, h5⟩
theorem TvF.zero (w : World) (F : Nat → Prop) : TvF w F Tv.zero [.int .i64 0, .int .i64 0, .int .u64 0, .slice none 0 0, .slice none 0 0] :=
  TvF.mk (Sl.nil _ _ _) (by simp [Value.ownBlock]) (Sl.nil _ _ _) (by simp [Value.ownBlock]) rfl
mutual
theorem tv_ind {P : Tv → Prop} (h : ∀ k t n b l, (∀ x ∈ l, P x) → P (.mk k t n b l)) : ∀ x : Tv, P x
  | .mk k t n b l => h k t n b l (tvs_ind h l)
theorem tvs_ind {P : Tv → Prop} (h : ∀ k t n b l, (∀ x ∈ l, P x) → P (.mk k t n b l)) : ∀ l : List Tv, ∀ x ∈ l, P x
  | [], x, hx => by simp at hx
  | y :: l, x, hx => by
    rcases List.mem_cons.1 hx with e | hx
    · rw [e]; exact tv_ind h y
    · exact tvs_ind h l x hx
end
/-- The number of bytes. -/
def getN (l : List UInt8) : Nat := l.foldl (fun n c => n * 256 + c.toNat) 0
theorem getN_snoc (l : List UInt8) (c : UInt8) : getN (l ++ [c]) = getN l * 256 + c.toNat := by simp [getN]
theorem getN_lt (l : List UInt8) : getN l < 256 ^ l.length := by
  suffices ∀ (l : List UInt8) (n k : Nat), n < 256 ^ k → l.foldl (fun n c => n * 256 + c.toNat) n < 256 ^ (k + l.length) from by simpa [getN] using this l 0 0 (by decide)
  intro l
  induction l with
  | nil => intro n k h; simpa using h
  | cons c l ih =>
    intro n k h
    have := ih (n * 256 + c.toNat) (k + 1) (by have := c.toNat_lt; rw [Nat.pow_succ]; omega)
    simpa [Nat.add_assoc, Nat.add_comm 1] using this
theorem nat_or256 (n c : Nat) (hc : c < 256) : (n * 256) ||| c = n * 256 + c := by
  have := Nat.shiftLeft_add_eq_or_of_lt (b := c) (i := 8) (by simpa using hc) n
  rw [Nat.shiftLeft_eq] at this
  simpa using this.symm
set_option maxRecDepth 100000 in
theorem bits_or_u64 (n c : Nat) (hc : c < 256) (h : n * 256 + c < 18446744073709551616) : bits BinOp.or IntKind.u64 (IntKind.u64.wrap ((n : Int) * 256)) (IntKind.u64.wrap (c : Int)) = ((n * 256 + c : Nat) : Int) := by
  have e1 : IntKind.u64.wrap ((n : Int) * 256) = ((n * 256 : Nat) : Int) := by rw [IntKind.wrap_u64]; omega
  have e2 : IntKind.u64.wrap (c : Int) = (c : Int) := by rw [IntKind.wrap_u64]; omega
  rw [e1, e2, u64_or_nat _ _ (by omega) (by omega), nat_or256 n c hc]
/-- Get: the number of one to eight bytes. -/
def getB (l : List UInt8) : Nat × Bool := if l.length = 0 ∨ 8 < l.length then (0, false) else (getN l, true)
set_option maxRecDepth 100000 in
theorem get_any (v : Value) (l : List UInt8) (w : World) (h : Bs w v l) :
    Calls Try.prog 76 #[v] w fun e w' => e = .returned (.tuple #[.int .u64 (getB l).1, .bool (getB l).2]) ∧ w = w' := by
  obtain ⟨a, cap, rfl, hcap, hcm⟩ := h.form
  unfold maxLen at hcm
  by_cases h0 : l.length = 0
  · have h0' : ((l.length : Int) == 0) = true := by simp [h0]
    have HG : Hid (getB l = (0, false)) := hI (by simp [getB, h0])
    clear h0
    go_enter Try.func76, Try.ntmps76
    go_wp2
    go_ret2
    rw [HG.out]
    exact ⟨rfl, rfl⟩
  · have h0' : ((l.length : Int) == 0) = false := by simp; intro e; exact h0 (by simp [e])
    by_cases h8 : (8 : Int) < l.length
    · have HG : Hid (getB l = (0, false)) := hI (by simp only [getB]; rw [if_pos (by omega)])
      go_enter Try.func76, Try.ntmps76
      go_wp2
      go_ret2
      rw [HG.out]
      exact ⟨rfl, rfl⟩
    · have HG : Hid (getB l = (getN l, true)) := hI (by simp only [getB]; rw [if_neg (by omega)])
      obtain ⟨b, off, rfl, hc⟩ := h.addr (by rw [bCells_length]; omega)
      have HC := hI hc
      clear hc h
      go_enter Try.func76, Try.ntmps76
      go_wp2
      go_loop [4, 17] (fun n i => ∃ k : Nat, k ≤ l.length ∧ i = .int .i64 k ∧ n = .int .u64 (getN (l.take k))) (fun _ i => l.length - (intOf i).toNat)
      case atStart => exact ⟨0, Nat.zero_le _, rfl, rfl⟩
      case round =>
        obtain ⟨k, hk, rfl, rfl⟩ := hrel
        by_cases hlt : k < l.length
        · have c0 : w.cell? ⟨b, off + k, none⟩ = some (.int .u8 l[k].toNat) := HC.out k _ (bCells_get l k hlt)
          have hL : l.length ≤ 8 := by omega
          have hX : Hid (Value.int .u64 (bits .or .u64 (IntKind.u64.wrap ((getN (l.take k) : Int) * 256)) (IntKind.u64.wrap (l[k].toNat : Int))) = .int .u64 (getN (l.take (k + 1)))) := by
            refine hI ?_
            rw [List.take_succ_eq_append_getElem hlt, getN_snoc, bits_or_u64 _ _ l[k].toNat_lt]
            have h1 := getN_lt (l.take k)
            have h2 : (l.take k).length ≤ 7 := by rw [List.length_take]; omega
            have h3 : (256 : Nat) ^ (l.take k).length ≤ 256 ^ 7 := Nat.pow_le_pow_right (by decide) h2
            have := l[k].toNat_lt
            omega
          clear hL
          go_wp2
          go_round
          case rel => exact ⟨k + 1, by omega, by go_num, hX.out⟩
          case measure => simp [intOf]; omega
        · obtain rfl : k = l.length := by omega
          go_wp2
          go_ret2
          rw [HG.out]
          exact ⟨by simp, rfl⟩
/-- Without the noughts ahead; one byte at least. -/
def stripZ : List UInt8 → List UInt8
  | [] => []
  | [x] => [x]
  | x :: y :: l => if x = 0 then stripZ (y :: l) else x :: y :: l
def shortB (n : Nat) : List UInt8 := stripZ (putB n)
theorem stripZ_drop_zero (l : List UInt8) (j : Nat) (h : j + 1 < l.length) (h0 : l[j] = 0) : stripZ (l.drop j) = stripZ (l.drop (j + 1)) := by
  rw [List.drop_eq_getElem_cons (by omega : j < l.length), List.drop_eq_getElem_cons h, h0]
  simp [stripZ]
theorem stripZ_drop_stop (l : List UInt8) (j : Nat) (h : j < l.length) (h0 : j + 1 = l.length ∨ l[j] ≠ 0) : stripZ (l.drop j) = l.drop j := by
  rw [List.drop_eq_getElem_cons h]
  rcases Nat.lt_or_ge (j + 1) l.length with h1 | h1
  · rw [List.drop_eq_getElem_cons h1]
    have : l[j] ≠ 0 := h0.resolve_left (by omega)
    simp [stripZ, this]
  · rw [List.drop_eq_nil_of_le h1]
    rfl
set_option maxRecDepth 100000 in
theorem short_any (n : Nat) (w : World) :
    Calls Try.prog 80 #[.int .u64 n] w fun e w' => ∃ v, e = .returned v ∧ Bs w' v (shortB n) ∧ Below w.heap.size w w' ∧ v.ownBlock = some w.heap.size := by
  have hpl := putB_length n
  go_enter Try.func80, Try.ntmps80
  go_wp2_with fail
  refine (put_any n w).mono ?_
  rintro e w1 ⟨rfl, _, hb1, hblk⟩
  have HB := hI hblk
  clear hblk
  go_wp2_with fail
  go_loop [3] (fun v => ∃ j : Nat, j ≤ 7 ∧ v = .slice (some ⟨w.heap.size, j, none⟩) (8 - j) (8 - j) ∧ shortB n = stripZ ((putB n).drop j)) (fun v => match v with | .slice _ n _ => n | _ => 0)
  case atStart => exact ⟨0, by omega, rfl, rfl⟩
  case round =>
    obtain ⟨j, hj, rfl, hs⟩ := hrel
    have HS := hI hs
    clear hs
    have hget : w1.cell? ⟨w.heap.size, j, none⟩ = some (.int .u8 ((putB n)[j]'(by omega)).toNat) := by rw [HB.out.cell]; exact bCells_get _ _ _
    have fin : shortB n = (putB n).drop j → Bs w1 (.slice (some ⟨w.heap.size, j, none⟩) (8 - j) (8 - j)) (shortB n) := by
      intro e
      rw [e]
      have hl : ((putB n).drop j).length = 8 - j := by rw [List.length_drop, hpl]
      unfold Bs
      rw [hl]
      refine ⟨by rw [bCells_length, hl]; omega, bCells_one _, _, 8 - j, rfl, Nat.le_refl _, by unfold maxLen; omega, fun h => by simp at h, .inr ⟨_, _, rfl, fun i u hi => ?_⟩⟩
      rw [HB.out.cell]
      simp only [bCells, List.map_drop, List.getElem?_drop] at hi ⊢
      exact hi
    have FIN := hI fin
    clear fin
    by_cases hj7 : j = 7
    · subst hj7
      have h1 : Hid (shortB n = (putB n).drop 7) := hI (by rw [HS.out, stripZ_drop_stop _ _ (by omega) (.inl (by omega))])
      clear hget
      go_wp2
      go_ret
      exact ⟨_, rfl, FIN.out h1.out, hb1, rfl⟩
    · have hj' : 1 < ((8 - j : Nat) : Int) := by omega
      have hj0 : (0 : Int) < ((8 - j : Nat) : Int) := by omega
      have hj0' : 0 < 8 - j := by omega
      have hjn : ¬ 8 - j = 1 := by omega
      by_cases hz : (putB n)[j]'(by omega) = 0
      · have hz' : ((((putB n)[j]'(by omega)).toNat : Int) == 0) = true := by rw [hz]; rfl
        have h1 : Hid (shortB n = stripZ ((putB n).drop (j + 1))) := hI (by rw [HS.out, stripZ_drop_zero _ _ (by omega) hz])
        clear hz
        go_wp2
        go_round
        case rel => exact ⟨j + 1, by omega, by rw [show 8 - (j + 1) = 8 - j - 1 by omega], h1.out⟩
        case measure => simp; omega
      · have hz' : ((((putB n)[j]'(by omega)).toNat : Int) == 0) = false := by
          rw [beq_eq_false_iff_ne]
          intro e
          exact hz ((bV_zero _).1 e)
        have h1 : Hid (shortB n = (putB n).drop j) := hI (by rw [HS.out, stripZ_drop_stop _ _ (by omega) (.inr hz)])
        clear hz
        go_wp2
        go_ret
        exact ⟨_, rfl, FIN.out h1.out, hb1, rfl⟩
end Go.Proofs.Ytiplepdmkbiehaa
namespace Go.Proofs.Ytiplepdmkbiehaa
set_option linter.unusedSimpArgs false
set_option linter.unusedVariables false
/-- How many bytes follow, where they begin, and the error's number. -/
def sizeS (b : List UInt8) : Nat × Nat × Int :=
  if b.length < 2 then (0, 0, 1)
  else if (b.getD 1 0).toNat < 128 then (if b.length - 2 < (b.getD 1 0).toNat then (0, 0, 1) else ((b.getD 1 0).toNat, 2, 0))
  else if (b.getD 1 0).toNat = 128 ∨ 130 < (b.getD 1 0).toNat then (0, 0, 3)
  else if b.length < (b.getD 1 0).toNat - 126 then (0, 0, 1)
  else if getN ((b.drop 2).take ((b.getD 1 0).toNat - 128)) < 128 ∨ ((b.getD 1 0).toNat = 130 ∧ getN ((b.drop 2).take ((b.getD 1 0).toNat - 128)) < 256) then (0, 0, 3)
  else if b.length - ((b.getD 1 0).toNat - 126) < getN ((b.drop 2).take ((b.getD 1 0).toNat - 128)) then (0, 0, 1)
  else (getN ((b.drop 2).take ((b.getD 1 0).toNat - 128)), (b.getD 1 0).toNat - 126, 0)
theorem sizeS_ok {b : List UInt8} {n at' : Nat} (h : sizeS b = (n, at', 0)) : 2 ≤ at' ∧ at' + n ≤ b.length ∧ at' ≤ 4 := by
  unfold sizeS at h
  split at h
  · simp at h
  · split at h
    · split at h
      · simp at h
      · simp only [Prod.mk.injEq] at h; omega
    · split at h
      · simp at h
      · split at h
        · simp at h
        · split at h
          · simp at h
          · split at h
            · simp at h
            · simp only [Prod.mk.injEq] at h; omega
/-- A list's values, one behind the other, as a reader gives them. -/
def listS (rd : List UInt8 → Tv × Nat × Int) : Nat → List UInt8 → List Tv × Int
  | _, [] => ([], 0)
  | 0, _ => ([], 0)
  | f + 1, b => match rd b with
    | (x, k, e) => if e = 0 then (match listS rd f (b.drop k) with | (l, e') => (x :: l, e')) else ([], e)
/-- The value at the beginning of bytes, how many it has, the error's number; to so many levels. -/
def readS : Nat → List UInt8 → Tv × Nat × Int
  | 0, _ => (.zero, 0, 4)
  | d + 1, b => match sizeS b with
    | (n, at', e) =>
      if e ≠ 0 then (.zero, 0, e)
      else if 2 < (b.getD 0 0).toNat / 64 ∨ 30 < (b.getD 0 0).toNat % 64 then (.zero, 0, 2)
      else if (b.getD 0 0).toNat / 64 = 0 then
        (if (getB ((b.drop at').take n)).2 = false ∨ (1 < n ∧ (b.drop at').getD 0 0 = 0) then (.zero, 0, 4)
         else (.mk 0 ((b.getD 0 0).toNat % 64 : Nat) (getB ((b.drop at').take n)).1 [] [], at' + n, 0))
      else if (b.getD 0 0).toNat / 64 = 1 then (.mk 1 ((b.getD 0 0).toNat % 64 : Nat) 0 ((b.drop at').take n) [], at' + n, 0)
      else match listS (readS d) n ((b.drop at').take n) with
        | (l, e) => if e = 0 then (.mk 2 ((b.getD 0 0).toNat % 64 : Nat) 0 [] l, at' + n, 0) else (.zero, 0, e)
/-- What a reader owes: it takes two bytes at least, and no more than there are. -/
def Takes (rd : List UInt8 → Tv × Nat × Int) : Prop := ∀ b x k, rd b = (x, k, 0) → 2 ≤ k ∧ k ≤ b.length
theorem readS_takes (d : Nat) : Takes (readS d) := by
  intro b x k h
  cases d with
  | zero => simp [readS] at h
  | succ d =>
    rw [readS] at h
    obtain ⟨n, at', e, hs⟩ : ∃ n at' e, sizeS b = (n, at', e) := ⟨_, _, _, rfl⟩
    rw [hs] at h
    simp only at h
    split at h
    · simp at h; omega
    · rename_i he
      have he0 : e = 0 := by simpa using he
      subst he0
      have hok := sizeS_ok hs
      split at h
      · simp at h
      · split at h
        · split at h
          · simp at h
          · simp at h; omega
        · split at h
          · simp at h; omega
          · split at h
            · simp at h; omega
            · simp at h; omega
theorem listS_nil (rd : List UInt8 → Tv × Nat × Int) (f : Nat) : listS rd f [] = ([], 0) := by cases f <;> rfl
/-- A step: a value is read, and the rest. -/
theorem listS_ok {rd : List UInt8 → Tv × Nat × Int} {f : Nat} {b : List UInt8} {x : Tv} {k : Nat} (hb : b ≠ []) (h : rd b = (x, k, 0)) : listS rd (f + 1) b = (x :: (listS rd f (b.drop k)).1, (listS rd f (b.drop k)).2) := by
  cases b with
  | nil => exact absurd rfl hb
  | cons c b => simp [listS, h]
theorem listS_bad {rd : List UInt8 → Tv × Nat × Int} {f : Nat} {b : List UInt8} {x : Tv} {k : Nat} {e : Int} (hb : b ≠ []) (h : rd b = (x, k, e)) (he : e ≠ 0) : listS rd (f + 1) b = ([], e) := by
  cases b with
  | nil => exact absurd rfl hb
  | cons c b => simp [listS, h, he]
/-- More fuel than bytes turns nothing. -/
theorem listS_fuel {rd : List UInt8 → Tv × Nat × Int} (ht : Takes rd) : ∀ (f g : Nat) (b : List UInt8), b.length ≤ f → b.length ≤ g → listS rd f b = listS rd g b
  | f, g, [], _, _ => by rw [listS_nil, listS_nil]
  | 0, g, c :: b, h, _ => by simp at h
  | f + 1, 0, c :: b, _, h => by simp at h
  | f + 1, g + 1, c :: b, hf, hg => by
    obtain ⟨x, k, e, hr⟩ : ∃ x k e, rd (c :: b) = (x, k, e) := ⟨_, _, _, rfl⟩
    by_cases he : e = 0
    · subst he
      have hk := ht _ _ _ hr
      rw [listS_ok (by simp) hr, listS_ok (by simp) hr, listS_fuel ht f g _ (by rw [List.length_drop]; simp at hf hk ⊢; omega) (by rw [List.length_drop]; simp at hg hk ⊢; omega)]
    · rw [listS_bad (by simp) hr he, listS_bad (by simp) hr he]
/-- The value that bytes are, and the error's number. -/
def wholeS (b : List UInt8) : Tv × Int :=
  if 4096 < b.length then (.zero, 20)
  else match readS 8 b with
    | (v, n, e) => if e ≠ 0 then (.zero, e) else if n < b.length then (.zero, 5) else (v, 0)
end Go.Proofs.Ytiplepdmkbiehaa
namespace Go.Proofs.Ytiplepdmkbiehaa
set_option linter.unusedSimpArgs false
set_option linter.unusedVariables false
open Go.RowKit
set_option maxRecDepth 100000 in
theorem derSize_any (v : Value) (b : List UInt8) (w : World) (h : Bs w v b) :
    Calls Try.prog 75 #[v] w fun e w' => e = .returned (.tuple #[.int .i64 (sizeS b).1, .int .i64 (sizeS b).2.1, .int .i64 (sizeS b).2.2]) ∧ w = w' := by
  obtain ⟨a, cap, rfl, hcap, hcm⟩ := h.form
  have hmx := hcm
  unfold maxLen at hcm
  by_cases h2 : b.length < 2
  · have HS : Hid (sizeS b = (0, 0, 1)) := hI (by unfold sizeS; rw [if_pos h2])
    have h2' : (b.length : Int) < 2 := by omega
    clear h2 h
    go_enter Try.func75, Try.ntmps75
    go_wp2_with fail
    go_ret3
    rw [HS.out]
    exact ⟨rfl, rfl⟩
  · obtain ⟨bb, off, rfl, hc⟩ := h.addr (by rw [bCells_length]; omega)
    have hb1 : b[1]'(by omega) = b.getD 1 0 := by rw [List.getD_eq_getElem?_getD, List.getElem?_eq_getElem (by omega)]; rfl
    have c1 : w.cell? ⟨bb, off + 1, none⟩ = some (.int .u8 (b.getD 1 0).toNat) := by rw [← hb1]; exact hc 1 _ (bCells_get b 1 (by omega))
    have hlt := (b.getD 1 0).toNat_lt
    have HB := hI h
    have hcutr := fun j hj hj2 => run_cut2 (some ⟨bb, off, none⟩) b.length cap 2 j hj hj2
    have HCUT := hI hcutr
    have h2' : ¬ (b.length : Int) < 2 := by omega
    clear hc hb1 h hcutr
    have hS : sizeS b = if (b.getD 1 0).toNat < 128 then (if b.length - 2 < (b.getD 1 0).toNat then (0, 0, 1) else ((b.getD 1 0).toNat, 2, 0))
  else if (b.getD 1 0).toNat = 128 ∨ 130 < (b.getD 1 0).toNat then (0, 0, 3)
  else if b.length < (b.getD 1 0).toNat - 126 then (0, 0, 1)
  else if getN ((b.drop 2).take ((b.getD 1 0).toNat - 128)) < 128 ∨ ((b.getD 1 0).toNat = 130 ∧ getN ((b.drop 2).take ((b.getD 1 0).toNat - 128)) < 256) then (0, 0, 3)
  else if b.length - ((b.getD 1 0).toNat - 126) < getN ((b.drop 2).take ((b.getD 1 0).toNat - 128)) then (0, 0, 1)
  else (getN ((b.drop 2).take ((b.getD 1 0).toNat - 128)), (b.getD 1 0).toNat - 126, 0) := by unfold sizeS; rw [if_neg h2]
    generalize (b.getD 1 0).toNat = c at c1 hlt hS
    rcases (by omega : c < 128 ∨ c = 128 ∨ c = 129 ∨ c = 130 ∨ 130 < c) with k | rfl | rfl | rfl | k
    · rw [if_pos k] at hS
      have k' : ¬ (128 : Int) ≤ (c : Int) := by omega
      by_cases hl : b.length - 2 < c
      · rw [if_pos hl] at hS
        have HS := hI hS
        have hl' : (b.length : Int) - 2 < (c : Int) := by omega
        clear hS
        go_enter Try.func75, Try.ntmps75
        go_wp2_with fail
        go_ret3
        rw [HS.out]
        exact ⟨rfl, rfl⟩
      · rw [if_neg hl] at hS
        have HS := hI hS
        have hl' : ¬ (b.length : Int) - 2 < (c : Int) := by omega
        clear hS
        go_enter Try.func75, Try.ntmps75
        go_wp2_with fail
        go_ret3
        rw [HS.out]
        exact ⟨rfl, rfl⟩
    · rw [if_neg (by omega), if_pos (.inl rfl)] at hS
      have HS := hI hS
      clear hS
      go_enter Try.func75, Try.ntmps75
      go_wp2_with fail
      go_ret3
      rw [HS.out]
      exact ⟨rfl, rfl⟩
    · rw [if_neg (by omega), if_neg (by omega)] at hS
      by_cases hl : b.length < 3
      · rw [if_pos (by omega)] at hS
        have HS := hI hS
        have hl' : (b.length : Int) < 3 := by omega
        clear hS
        go_enter Try.func75, Try.ntmps75
        go_wp2_with fail
        go_ret3
        rw [HS.out]
        exact ⟨rfl, rfl⟩
      · rw [if_neg (by omega)] at hS
        have hl' : ¬ (b.length : Int) < 3 := by omega
        have hrun : ∀ W, (Instr.sliceAt 40 (.slice (some ⟨bb, off, none⟩) b.length cap) (some (.int .i64 2)) (some (.int .i64 3)) none).run Try.prog W = .ok (.slice (cutA (some ⟨bb, off, none⟩) cap 2) 1 (cap - 2)) W := fun W => HCUT.out 3 (by omega) (by omega) W
        have hbs : Bs w (.slice (cutA (some ⟨bb, off, none⟩) cap 2) 1 (cap - 2)) ((b.drop 2).take 1) := HB.out.cut 2 3 (by omega) (by omega)
        rw [show 129 - 128 = 1 from rfl, show 129 - 126 = 3 from rfl] at hS
        have hll : ((b.drop 2).take 1).length = 1 := by rw [List.length_take, List.length_drop]; omega
        have hgl := getN_lt ((b.drop 2).take 1)
        rw [hll] at hgl
        have HG := hI (get_any _ _ w hbs)
        have hgb : getB ((b.drop 2).take 1) = (getN ((b.drop 2).take 1), true) := by unfold getB; rw [if_neg (by omega)]
        rw [hgb] at HG
        generalize getN ((b.drop 2).take 1) = n at HG hS hgl
        have hn : n < 256 := by omega
        clear hll hgl hgb hbs
        rcases (by omega : n < 128 ∨ (128 ≤ n ∧ n < 256) ∨ 256 ≤ n) with hq | ⟨hq, hq2⟩ | hq
        · rw [if_pos (.inl hq)] at hS
          have HS := hI hS
          have hq' : (n : Int) < 128 := by omega
          clear hS
          go_enter Try.func75, Try.ntmps75
          go_wp2_with fail
          refine HG.out.mono ?_
          rintro e w' ⟨rfl, rfl⟩
          go_wp2_with fail
          go_ret3
          rw [HS.out]
          exact ⟨rfl, rfl⟩
        · have hq' : ¬ (n : Int) < 128 := by omega
          have hq2' : (n : Int) < 256 := by omega
          rw [if_neg (by omega)] at hS
          by_cases hr : b.length - 3 < n
          · rw [if_pos hr] at hS
            have HS := hI hS
            have hr' : (b.length : Int) - 3 < (n : Int) := by omega
            clear hS
            go_enter Try.func75, Try.ntmps75
            go_wp2_with fail
            refine HG.out.mono ?_
            rintro e w' ⟨rfl, rfl⟩
            go_wp2_with fail
            go_ret3
            rw [HS.out]
            exact ⟨rfl, rfl⟩
          · rw [if_neg hr] at hS
            have HS := hI hS
            have hr' : ¬ (b.length : Int) - 3 < (n : Int) := by omega
            clear hS
            go_enter Try.func75, Try.ntmps75
            go_wp2_with fail
            refine HG.out.mono ?_
            rintro e w' ⟨rfl, rfl⟩
            go_wp2_with fail
            go_ret3
            rw [HS.out]
            exact ⟨rfl, rfl⟩
        · omega
    · rw [if_neg (by omega), if_neg (by omega)] at hS
      by_cases hl : b.length < 4
      · rw [if_pos (by omega)] at hS
        have HS := hI hS
        have hl' : (b.length : Int) < 4 := by omega
        clear hS
        go_enter Try.func75, Try.ntmps75
        go_wp2_with fail
        go_ret3
        rw [HS.out]
        exact ⟨rfl, rfl⟩
      · rw [if_neg (by omega)] at hS
        have hl' : ¬ (b.length : Int) < 4 := by omega
        have hrun : ∀ W, (Instr.sliceAt 40 (.slice (some ⟨bb, off, none⟩) b.length cap) (some (.int .i64 2)) (some (.int .i64 4)) none).run Try.prog W = .ok (.slice (cutA (some ⟨bb, off, none⟩) cap 2) 2 (cap - 2)) W := fun W => HCUT.out 4 (by omega) (by omega) W
        have hbs : Bs w (.slice (cutA (some ⟨bb, off, none⟩) cap 2) 2 (cap - 2)) ((b.drop 2).take 2) := HB.out.cut 2 4 (by omega) (by omega)
        rw [show 130 - 128 = 2 from rfl, show 130 - 126 = 4 from rfl] at hS
        have hll : ((b.drop 2).take 2).length = 2 := by rw [List.length_take, List.length_drop]; omega
        have hgl := getN_lt ((b.drop 2).take 2)
        rw [hll] at hgl
        have HG := hI (get_any _ _ w hbs)
        have hgb : getB ((b.drop 2).take 2) = (getN ((b.drop 2).take 2), true) := by unfold getB; rw [if_neg (by omega)]
        rw [hgb] at HG
        generalize getN ((b.drop 2).take 2) = n at HG hS hgl
        have hn : n < 65536 := by omega
        clear hll hgl hgb hbs
        rcases (by omega : n < 128 ∨ (128 ≤ n ∧ n < 256) ∨ 256 ≤ n) with hq | ⟨hq, hq2⟩ | hq
        · rw [if_pos (.inl hq)] at hS
          have HS := hI hS
          have hq' : (n : Int) < 128 := by omega
          clear hS
          go_enter Try.func75, Try.ntmps75
          go_wp2_with fail
          refine HG.out.mono ?_
          rintro e w' ⟨rfl, rfl⟩
          go_wp2_with fail
          go_ret3
          rw [HS.out]
          exact ⟨rfl, rfl⟩
        · have hq' : ¬ (n : Int) < 128 := by omega
          have hq2' : (n : Int) < 256 := by omega
          rw [if_pos (.inr ⟨rfl, hq2⟩)] at hS
          have HS := hI hS
          clear hS
          go_enter Try.func75, Try.ntmps75
          go_wp2_with fail
          refine HG.out.mono ?_
          rintro e w' ⟨rfl, rfl⟩
          go_wp2_with fail
          go_ret3
          rw [HS.out]
          exact ⟨rfl, rfl⟩
        · have hq' : ¬ (n : Int) < 128 := by omega
          have hq2' : ¬ (n : Int) < 256 := by omega
          rw [if_neg (by omega)] at hS
          by_cases hr : b.length - 4 < n
          · rw [if_pos hr] at hS
            have HS := hI hS
            have hr' : (b.length : Int) - 4 < (n : Int) := by omega
            clear hS
            go_enter Try.func75, Try.ntmps75
            go_wp2_with fail
            refine HG.out.mono ?_
            rintro e w' ⟨rfl, rfl⟩
            go_wp2_with fail
            go_ret3
            rw [HS.out]
            exact ⟨rfl, rfl⟩
          · rw [if_neg hr] at hS
            have HS := hI hS
            have hr' : ¬ (b.length : Int) - 4 < (n : Int) := by omega
            clear hS
            go_enter Try.func75, Try.ntmps75
            go_wp2_with fail
            refine HG.out.mono ?_
            rintro e w' ⟨rfl, rfl⟩
            go_wp2_with fail
            go_ret3
            rw [HS.out]
            exact ⟨rfl, rfl⟩
    · rw [if_neg (by omega), if_pos (.inr k)] at hS
      have HS := hI hS
      have k' : (128 : Int) ≤ (c : Int) := by omega
      have k2 : (2 : Int) < (c : Int) - 128 := by omega
      have k3 : ¬ (c : Int) - 128 < 1 := by omega
      clear hS
      go_enter Try.func75, Try.ntmps75
      go_wp2_with fail
      go_ret3
      rw [HS.out]
      exact ⟨rfl, rfl⟩
end Go.Proofs.Ytiplepdmkbiehaa
