/- Contracts: a file that comes: all but whole. -/
import Derived.Test.YtogfkfoklnpfhaaXferI
import Derived.Test.YtogfkfoklnpfhaaXferO
namespace Go.Proofs.Ytogfkfoklnpfhaa
set_option linter.unusedSimpArgs false
set_option linter.unusedVariables false
open Go.RowKit

set_option maxRecDepth 100000 in
set_option maxHeartbeats 1000000 in
theorem hear_any (size : Int) (v : Value) (b : List UInt8) (l : List Res) (w : World) (h : Hold w l) (hb : Bs w v b) (hl : b.length ≤ 1099511627776) (h0 : 0 ≤ size) (h1 : size ≤ 2048) :
    Calls Try.prog 9 #[.int .i64 size, v] w (MadeRes (fun p => inR p ⟨0, size, b, []⟩) l) := by
  obtain ⟨a, c, rfl, hc, hm⟩ := hb.form
  have HB := Lib.hid hb
  have HC := Lib.hid h
  clear h hb
  go_enter Try.func9, Try.ntmps9
  go_wp2_with ((with_reducible show wpList _ _ _ (⟨some 14, _, _, _, _, _⟩ :: _) _ _); refine wpList_app2 rfl (.const (.slice none 0 0)) (.tmp 13) elBytes rfl w.heap.size (Own.nil _ _ _ _ _) (by simp [Act.eval, Value.ownBlock]) HB.out (by unfold maxLen; omega) (by omega) (Nat.le_refl _) ?_)
  intro v1 w1 ho hk hv
  have hb1 : Below w.heap.size w w1 := hk.below (by
    rintro i (h | h)
    · exact h.2
    · exact h)
  have ho' : OwnBs w1 w.heap.size v1 b := by unfold OwnBs; simpa using ho
  obtain ⟨a1, c1, rfl, _, _⟩ := ho'.sl.form
  have HC := Lib.hid ((((HC.out.addOwnB hb1 ho' (fun i hi => ⟨by
    rcases (hv i hi).1 with h | h
    · simp [Act.eval, Value.ownBlock] at h
    · exact h, (hv i hi).2⟩)).ownRow).addBlk [.int .i64 0, .int .i64 size, .slice a1 b.length c1, .slice none 0 0] 45).addNil 5 1).push3
  clear ho ho' hk hv hb1 HB
  go_wp2_with fail
  go_ret2
  exact ⟨w1.heap.size, rfl, inR_shut (dv := .slice none 0 0) (data := []) HC.out⟩

set_option maxRecDepth 100000 in
theorem hear_bad (size : Int) (a : Option Addr) (n c : Nat) (w : World) (h : size < 0 ∨ 2048 < size) :
    Calls Try.prog 9 #[.int .i64 size, .slice a n c] w fun e w' => e = .returned (.tuple #[.pointer none, .int .i64 20]) ∧ w = w' := by
  rcases h with h | h
  · go_enter Try.func9, Try.ntmps9
    go_wp2_with fail
    go_ret2
    exact ⟨rfl, rfl⟩
  · have h2 : ¬ size < 0 := by omega
    go_enter Try.func9, Try.ntmps9
    go_wp2_with fail
    go_ret2
    exact ⟨rfl, rfl⟩

set_option maxRecDepth 100000 in
theorem inSize_any (p : Nat) (i : InF) (l : List Res) (w : World) (h : Hold w (inR p i :: l)) :
    Calls Try.prog 27 #[.pointer (some ⟨p, 0, none⟩)] w (NumRes i.size (inR p i :: l)) := by
  have HC := Lib.hid h
  obtain ⟨a, c, b, d, h1, h2, h3, h4, h⟩ := inR_open h
  have c1 := (h.blkOf (p := p) (cs := _) (T := 45) (List.mem_cons_self)).cell 1
  simp only [List.getElem?_cons_succ, List.getElem?_cons_zero] at c1
  clear h
  go_enter Try.func27, Try.ntmps27
  go_wp2_with fail
  go_ret
  exact ⟨rfl, HC.out⟩

set_option maxRecDepth 100000 in
set_option maxHeartbeats 1000000 in
theorem inBytes_any (p : Nat) (o : InF) (l : List Res) (w : World) (h : Hold w (inR p o :: l)) (hl : o.data.length ≤ 2048) :
    Calls Try.prog 17 #[.pointer (some ⟨p, 0, none⟩)] w (BytesRes o.data (inR p o :: l)) := by
  have HC := Lib.hid h
  obtain ⟨a, c, b, d, h1, h2, h3, h4, h⟩ := inR_open h
  have c3 := (h.blkOf (p := p) (cs := _) (T := 45) (List.mem_cons_self)).cell 3
  simp only [List.getElem?_cons_succ, List.getElem?_cons_zero] at c3
  have HB : Hid (Bs w (.slice b o.data.length d) o.data) := Lib.hid ((h.ownBOf (v := .slice b o.data.length d) (b := o.data) (by simp)).1.bs)
  clear h
  go_enter Try.func17, Try.ntmps17
  go_wp2_with ((with_reducible show wpList _ _ _ (⟨some 7, _, _, _, _, _⟩ :: _) _ _); refine wpList_app2 rfl (.const (.slice none 0 0)) (.tmp 6) elBytes rfl w.heap.size (Own.nil _ _ _ _ _) (by simp [Act.eval, Value.ownBlock]) HB.out (by unfold maxLen; omega) (by omega) (Nat.le_refl _) ?_)
  intro v1 w1 ho hk hv
  have hb1 : Below w.heap.size w w1 := hk.below (by
    rintro i (h | h)
    · exact h.2
    · exact h)
  have ho' : OwnBs w1 w.heap.size v1 o.data := by unfold OwnBs; simpa using ho
  obtain ⟨a1, c1, rfl, _, _⟩ := ho'.sl.form
  have HC := Lib.hid (HC.out.addOwnB hb1 ho' (fun i hi => ⟨by
    rcases (hv i hi).1 with h | h
    · simp [Act.eval, Value.ownBlock] at h
    · exact h, (hv i hi).2⟩)).ownRow
  clear ho ho' hk hv hb1 HB
  go_wp2_with fail
  go_ret
  exact ⟨_, rfl, HC.out⟩

set_option maxRecDepth 100000 in
set_option maxHeartbeats 1000000 in
theorem inRefuse_any (p : Nat) (o : InF) (l : List Res) (w : World) (h : Hold w (inR p o :: l)) :
    Calls Try.prog 23 #[.pointer (some ⟨p, 0, none⟩)] w (NumRes (inRefuse o).2 (inR p (inRefuse o).1 :: l)) := by
  have HC0 := Lib.hid h
  obtain ⟨st, size, sum, data⟩ := o
  obtain ⟨a, c, b, d, h1, h2, h3, h4, h⟩ := inR_open h
  simp only at h1 h3 h
  have hblk := h.blkOf (p := p) (cs := _) (T := 45) (List.mem_cons_self)
  have c0 := hblk.cell 0
  have f0 := hblk.frozen 0
  simp only [List.getElem?_cons_zero] at c0
  have HC := Lib.hid (h.set 0 (.int .i64 3))
  clear h hblk
  by_cases h0 : st = 0
  · subst h0
    have HE : Hid (inRefuse ⟨0, size, sum, data⟩ = (⟨3, size, sum, data⟩, 0)) := Lib.hid rfl
    go_enter Try.func23, Try.ntmps23
    go_wp2_with fail
    go_ret
    rw [HE.out]
    exact ⟨rfl, inR_shut HC.out⟩
  · have HE : Hid (inRefuse ⟨st, size, sum, data⟩ = (⟨st, size, sum, data⟩, 16)) := Lib.hid (by simp [inRefuse, h0])
    have hs1 : (st != 0) = true := by simpa using h0
    clear h0
    go_enter Try.func23, Try.ntmps23
    go_wp2_with fail
    go_ret
    rw [HE.out]
    exact ⟨rfl, HC0.out⟩

/-- What has come is let go. -/
theorem Hold.nilOwn {W : World} {v : Value} {b : List UInt8} {l : List Res} (h : Hold W (.ownB v b :: l)) : Hold W (.ownB (.slice none 0 0) [] :: l) := h.tail.addNil _ _

set_option maxRecDepth 100000 in
set_option maxHeartbeats 1000000 in
theorem inBreak_any (p : Nat) (o : InF) (l : List Res) (w : World) (h : Hold w (inR p o :: l)) :
    Calls Try.prog 26 #[.pointer (some ⟨p, 0, none⟩)] w (NumRes (inBreak o).2 (inR p (inBreak o).1 :: l)) := by
  have HC0 := Lib.hid h
  obtain ⟨st, size, sum, data⟩ := o
  obtain ⟨a, c, b, d, h1, h2, h3, h4, h⟩ := inR_open h
  simp only at h1 h3 h
  have hblk := h.blkOf (p := p) (cs := _) (T := 45) (List.mem_cons_self)
  have c0 := hblk.cell 0
  have f0 := hblk.frozen 0
  have c3 := hblk.cell 3
  have f3 := hblk.frozen 3
  simp only [List.getElem?_cons_succ, List.getElem?_cons_zero] at c0 c3
  have HC := Lib.hid ((((h.set 0 (.int .i64 4)).set 3 (.slice none 0 0)).pull3.nilOwn).push3)
  clear h hblk
  by_cases h0 : st = 0
  · subst h0
    have HE : Hid (inBreak ⟨0, size, sum, data⟩ = (⟨4, size, sum, []⟩, 0)) := Lib.hid rfl
    go_enter Try.func26, Try.ntmps26
    go_wp2_with fail
    go_ret
    rw [HE.out]
    exact ⟨rfl, inR_shut HC.out⟩
  · have hs0 : (st != 0) = true := by simpa using h0
    by_cases h1 : st = 1
    · subst h1
      have HE : Hid (inBreak ⟨1, size, sum, data⟩ = (⟨4, size, sum, []⟩, 0)) := Lib.hid rfl
      clear h0 hs0
      go_enter Try.func26, Try.ntmps26
      go_wp2_with fail
      go_ret
      rw [HE.out]
      exact ⟨rfl, inR_shut HC.out⟩
    · have HE : Hid (inBreak ⟨st, size, sum, data⟩ = (⟨st, size, sum, data⟩, 16)) := Lib.hid (by simp [inBreak, h0, h1])
      have hs1 : (st != 1) = true := by simpa using h1
      clear h0 h1
      go_enter Try.func26, Try.ntmps26
      go_wp2_with fail
      go_ret
      rw [HE.out]
      exact ⟨rfl, HC0.out⟩

set_option maxRecDepth 100000 in
set_option maxHeartbeats 1000000 in
theorem inAccept_any (p q : Nat) (kv bv mp : Value) (sums : List (List UInt8)) (i : InF) (l : List Res) (w : World) (h : Hold w (inR p i :: tabR q kv bv mp sums :: l)) (hd : i.data.length ≤ 2048) (hs : i.sum.length ≤ 1099511627776) (hn : sums.length < 1099511627776) (hz0 : 0 ≤ i.size) (hz1 : i.size ≤ 2048) :
    Calls Try.prog 12 #[.pointer (some ⟨p, 0, none⟩), .iface 28 (.pointer (some ⟨q, 0, none⟩))] w (WholeRes p q kv bv mp (inAccept sums i) l) := by
  have HC0 := Lib.hid h
  obtain ⟨st, size, sum, data⟩ := i
  obtain ⟨a, c, b, d, h1, h2, h3, h4, h⟩ := inR_open h
  simp only at h1 h3 h hd hs hz0 hz1
  have hblk := h.blkOf (p := p) (cs := _) (T := 45) (List.mem_cons_self)
  have c0 := hblk.cell 0
  have f0 := hblk.frozen 0
  simp only [List.getElem?_cons_zero] at c0
  have HC := Lib.hid (h.set 0 (.int .i64 1))
  clear h hblk
  by_cases h0 : st = 0
  · subst h0
    have HE : Hid (inAccept sums ⟨0, size, sum, data⟩ = inWhole sums ⟨1, size, sum, data⟩) := Lib.hid (by simp [inAccept])
    have HW := Lib.hid (whole_any p q kv bv mp sums ⟨1, size, sum, data⟩ l _ (inR_shut HC.out) hd hs hn hz0 hz1)
    go_enter Try.func12, Try.ntmps12
    go_wp2_with fail
    refine HW.out.mono ?_
    rintro e w2 ⟨rfl, hc⟩
    have HC := Lib.hid hc
    clear hc
    go_wp2_with fail
    go_ret
    rw [HE.out]
    exact ⟨rfl, HC.out⟩
  · have HE : Hid (inAccept sums ⟨st, size, sum, data⟩ = (sums, ⟨st, size, sum, data⟩, 16)) := Lib.hid (by simp [inAccept, h0])
    have hs1 : (st != 0) = true := by simpa using h0
    clear h0
    go_enter Try.func12, Try.ntmps12
    go_wp2_with fail
    go_ret
    rw [HE.out]
    exact ⟨rfl, HC0.out⟩

set_option maxRecDepth 100000 in
set_option maxHeartbeats 2000000 in
theorem inTake_any (p q : Nat) (kv bv mp : Value) (sums : List (List UInt8)) (i : InF) (at' : Int) (v : Value) (x : List UInt8) (l : List Res) (w : World) (h : Hold w (inR p i :: tabR q kv bv mp sums :: l)) (hx : Bs w v x)
    (hd : i.data.length ≤ i.size) (hs : i.sum.length ≤ 1099511627776) (hn : sums.length < 1099511627776) (hz1 : i.size ≤ 2048) :
    Calls Try.prog 14 #[.pointer (some ⟨p, 0, none⟩), .iface 28 (.pointer (some ⟨q, 0, none⟩)), .int .i64 at', v] w (WholeRes p q kv bv mp (inTake sums i at' x) l) := by
  have HC0 := Lib.hid h
  obtain ⟨st, size, sum, data⟩ := i
  obtain ⟨a, c, b, d, h1, h2, h3, h4, h⟩ := inR_open h
  obtain ⟨ax, cx, rfl, hcx, hmx⟩ := hx.form
  simp only at h1 h3 h hd hs hz1
  have hblk := h.blkOf (p := p) (cs := _) (T := 45) (List.mem_cons_self)
  have c0 := hblk.cell 0
  have c1 := hblk.cell 1
  have c3 := hblk.cell 3
  have hp := hblk.lt
  simp only [List.getElem?_cons_succ, List.getElem?_cons_zero] at c0 c1 c3
  have HC := Lib.hid h
  have HX := Lib.hid hx
  unfold maxLen at h2 h4 hmx
  clear h hblk hx
  by_cases h0 : st = 1
  rotate_left
  · have HE : Hid (inTake sums ⟨st, size, sum, data⟩ at' x = (sums, ⟨st, size, sum, data⟩, 16)) := Lib.hid (by simp [inTake, h0])
    have hs1 : (st != 1) = true := by simpa using h0
    clear h0
    go_enter Try.func14, Try.ntmps14
    go_wp2_with fail
    go_ret
    rw [HE.out]
    exact ⟨rfl, HC0.out⟩
  subst h0
  by_cases ha : at' = (data.length : Int)
  rotate_left
  · have HE : Hid (inTake sums ⟨1, size, sum, data⟩ at' x = (sums, ⟨1, size, sum, data⟩, 18)) := Lib.hid (by simp [inTake, ha])
    have hs1 : (at' != (data.length : Int)) = true := by simpa using ha
    clear ha
    go_enter Try.func14, Try.ntmps14
    go_wp2_with fail
    go_ret
    rw [HE.out]
    exact ⟨rfl, HC0.out⟩
  subst ha
  by_cases hx0 : x.length = 0
  · have HE : Hid (inTake sums ⟨1, size, sum, data⟩ data.length x = (sums, ⟨1, size, sum, data⟩, 18)) := Lib.hid (by simp [inTake, hx0])
    have hs1 : ((x.length : Int) == 0) = true := by simp [hx0]
    clear hx0
    go_enter Try.func14, Try.ntmps14
    go_wp2_with fail
    go_ret
    rw [HE.out]
    exact ⟨rfl, HC0.out⟩
  have hs1 : ((x.length : Int) == 0) = false := by simpa using hx0
  by_cases hx1 : 64 < x.length
  · have HE : Hid (inTake sums ⟨1, size, sum, data⟩ data.length x = (sums, ⟨1, size, sum, data⟩, 20)) := Lib.hid (by simp [inTake, hx1]; intro h; simp [h] at hx1)
    have hx1' : (64 : Int) < x.length := by omega
    clear hx0
    go_enter Try.func14, Try.ntmps14
    go_wp2_with fail
    go_ret
    rw [HE.out]
    exact ⟨rfl, HC0.out⟩
  have hx1' : ¬ ((64 : Int) < x.length) := by omega
  by_cases hx2 : size - (data.length : Int) < x.length
  · have HE : Hid (inTake sums ⟨1, size, sum, data⟩ data.length x = (sums, ⟨1, size, sum, data⟩, 20)) := Lib.hid (by
      unfold inTake
      simp only
      rw [if_neg (by simp), if_neg (by omega), if_pos (.inr hx2)])
    clear hx0
    go_enter Try.func14, Try.ntmps14
    go_wp2_with fail
    go_ret
    rw [HE.out]
    exact ⟨rfl, HC0.out⟩
  have HE : Hid (inTake sums ⟨1, size, sum, data⟩ data.length x = inWhole sums ⟨1, size, sum, data ++ x⟩) := Lib.hid (by
    unfold inTake
    simp only
    rw [if_neg (by simp), if_neg (by omega), if_neg (by omega)])
  have HOW : Hid (OwnBs w 0 (.slice b data.length d) data) := Lib.hid (HC.out.ownBOf (v := .slice b data.length d) (b := data) (by simp)).1
  have HOL : Hid (∀ k, (Value.slice b data.length d).ownBlock = some k → k < w.heap.size) := Lib.hid (HC.out.ownBOf (v := .slice b data.length d) (b := data) (by simp)).2
  clear hx0
  go_enter Try.func14, Try.ntmps14
  go_wp2_with ((with_reducible show wpList _ _ _ (⟨some 49, _, _, _, _, _⟩ :: _) _ _); refine wpList_app2 rfl (.tmp 47) (.tmp 48) elBytes rfl 0 HOW.out HOL.out HX.out (by unfold maxLen; omega) (by omega) (Nat.zero_le _) ?_)
  intro v1 w1 ho hk hv
  obtain ⟨a1, c1', rfl, _, _⟩ := ho.sl.form
  have HC := Lib.hid ((HC.out.pull3.append (n' := data.length + x.length) (v' := .slice a1 (data.length + x.length) c1') (cs' := bCells data ++ bCells x) ho (hk.mono (fun k h => by first | exact h | (rcases h with h | h; (exact .inl ⟨h, Nat.zero_le _⟩); (exact .inr h)))) hv).push3)
  have hblk := HC.out.blkOf (p := p) (cs := [.int .i64 1, .int .i64 size, .slice a sum.length c, .slice b data.length d]) (T := 45) (List.mem_cons_self)
  have cc3 := hblk.cell 3
  have ff3 := hblk.frozen 3
  simp only [List.getElem?_cons_succ, List.getElem?_cons_zero] at cc3
  have HC := Lib.hid (HC.out.set 3 (.slice a1 (data.length + x.length) c1'))
  have HLE : Hid ((data ++ x).length = data.length + x.length) := Lib.hid (by simp)
  have hW := whole_any p q kv bv mp sums ⟨1, size, sum, data ++ x⟩ l _ (inR_shut (sv := .slice a sum.length c) (dv := .slice a1 (data.length + x.length) c1') (by
    unfold Res.ownB
    rw [HLE.out, bCells_append]
    exact HC.out)) (by simp only; rw [HLE.out]; omega) hs hn (by simp only; omega) hz1
  have HW := Lib.hid hW
  clear ho hk hv hblk hW HOW HOL
  go_wp2_with fail
  refine HW.out.mono ?_
  rintro e w2 ⟨rfl, hc⟩
  have HC := Lib.hid hc
  clear hc
  go_wp2_with fail
  go_ret
  rw [HE.out]
  exact ⟨rfl, HC.out⟩
end Go.Proofs.Ytogfkfoklnpfhaa
