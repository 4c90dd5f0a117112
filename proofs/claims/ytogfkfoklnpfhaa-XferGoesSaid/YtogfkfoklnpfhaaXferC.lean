/- Contracts: a file that is sent: Came, Chunk. (Printed by wip/tools/genxferc.py.) -/
import Derived.Test.YtogfkfoklnpfhaaXferO
import Derived.Test.YtogfkfoklnpfhaaCut
namespace Go.Proofs.Ytogfkfoklnpfhaa
set_option linter.unusedSimpArgs false
set_option linter.unusedVariables false
open Go.RowKit

theorem came_no (p : Nat) (o : OutF) (l : List Res) (w : World) (h : Hold w (outR p o :: l)) (h0 : o.st ≠ 1 ∨ o.ahead = 0) :
    Calls Try.prog 15 #[.pointer (some ⟨p, 0, none⟩)] w (NumRes 16 (outR p o :: l)) := by
  have HC0 := Lib.hid h
  obtain ⟨st, data, sent, ahead⟩ := o
  obtain ⟨a, c, h1, h2, h⟩ := outR_open h
  simp only at h0 h1 h
  have hblk := h.blkOf (p := p) (cs := _) (T := 38) (List.mem_cons_self)
  have c0 := hblk.cell 0
  have c3 := hblk.cell 3
  simp only [List.getElem?_cons_succ, List.getElem?_cons_zero] at c0 c3
  clear h hblk
  by_cases hs : st = 1
  · subst hs
    have hs0 : (((1 : Int)) != 1) = false := rfl
    have ha : ((ahead : Int) == 0) = true := by simp at h0; simp [h0]
    clear h0
    go_enter Try.func15, Try.ntmps15
    go_wp2_with fail
    go_ret
    exact ⟨rfl, HC0.out⟩
  · have hs0 : (st != 1) = true := by simpa using hs
    clear h0 hs
    go_enter Try.func15, Try.ntmps15
    go_wp2_with fail
    go_ret
    exact ⟨rfl, HC0.out⟩

set_option maxRecDepth 100000 in
set_option maxHeartbeats 1000000 in
theorem came_yes (p : Nat) (o : OutF) (l : List Res) (w : World) (h : Hold w (outR p o :: l)) (h0 : o.st = 1) (h1 : 0 < o.ahead) (h2 : o.ahead ≤ 4) (h3 : o.sent ≤ o.data.length) (h4 : o.data.length ≤ 2048) :
    Calls Try.prog 15 #[.pointer (some ⟨p, 0, none⟩)] w (NumRes (outCame o).2 (outR p (outCame o).1 :: l)) := by
  obtain ⟨st, data, sent, ahead⟩ := o
  obtain ⟨a, c, k1, k2, h⟩ := outR_open h
  simp only at h0 h1 h2 h3 h4 k1 h ⊢
  subst h0
  obtain ⟨n, rfl⟩ : ∃ n, ahead = n + 1 := ⟨ahead - 1, by omega⟩
  have hblk := h.blkOf (p := p) (cs := _) (T := 38) (List.mem_cons_self)
  have c0 := hblk.cell 0
  have c1 := hblk.cell 1
  have c2 := hblk.cell 2
  have c3 := hblk.cell 3
  have f0 := hblk.frozen 0
  have f3 := hblk.frozen 3
  simp only [List.getElem?_cons_succ, List.getElem?_cons_zero] at c0 c1 c2 c3
  have ha0 : (((n + 1 : Nat) : Int) == 0) = false := by simp; omega
  have ha1 : ((((n : Nat) : Int) + 1) == 0) = false := by simp; omega
  have hsub : ((n + 1 : Nat) : Int) - 1 = n := by omega
  have hsub2 : (n : Int) + 1 - 1 = n := by omega
  have HC := Lib.hid (h.set 3 (.int .i64 (n : Nat)))
  clear h hblk
  by_cases hn : n = 0
  · subst hn
    by_cases hs : sent = data.length
    · subst hs
      have HE : Hid (outCame ⟨1, data, data.length, 0 + 1⟩ = (⟨2, data, data.length, 0⟩, 0)) := Lib.hid (by simp [outCame])
      go_enter Try.func15, Try.ntmps15
      go_wp2_with fail
      go_quiet (fail)
      go_wp2_with fail
      go_ret
      rw [HE.out]
      exact ⟨rfl, outR_shut ((HC.out.drewN _).set 0 (.int .i64 2))⟩
    · have HE : Hid (outCame ⟨1, data, sent, 0 + 1⟩ = (⟨1, data, sent, 0⟩, 0)) := Lib.hid (by simp [outCame, hs])
      have hs2 : ((sent : Int) == (data.length : Int)) = false := by simp; omega
      have hs3 : decide (sent = data.length) = false := by simpa using hs
      clear hs
      go_enter Try.func15, Try.ntmps15
      go_wp2_with fail
      go_quiet (fail)
      go_wp2_with fail
      go_ret
      rw [HE.out]
      exact ⟨rfl, outR_shut (HC.out.drewN _)⟩
  · have HE : Hid (outCame ⟨1, data, sent, n + 1⟩ = (⟨1, data, sent, n⟩, 0)) := Lib.hid (by simp [outCame, hn])
    have hn2 : ((n : Int) == 0) = false := by simp; omega
    have hn3 : decide (n = 0) = false := by simpa using hn
    clear hn
    go_enter Try.func15, Try.ntmps15
    go_wp2_with fail
    go_quiet (fail)
    go_wp2_with fail
    go_ret
    rw [HE.out]
    exact ⟨rfl, outR_shut (HC.out.drewN _)⟩

set_option maxRecDepth 100000 in
set_option maxHeartbeats 1000000 in
theorem chunk_no (p : Nat) (o : OutF) (l : List Res) (w : World) (h : Hold w (outR p o :: l)) (h0 : outStop o) :
    Calls Try.prog 13 #[.pointer (some ⟨p, 0, none⟩)] w fun e w' => e = .returned (.tuple #[.int .i64 0, .slice none 0 0, .bool false]) ∧ Hold w' (outR p o :: l) := by
  have HC0 := Lib.hid h
  obtain ⟨st, data, sent, ahead⟩ := o
  obtain ⟨a, c, k1, k2, h⟩ := outR_open h
  unfold outStop at h0
  simp only at h0 k1 h
  have hblk := h.blkOf (p := p) (cs := _) (T := 38) (List.mem_cons_self)
  have c0 := hblk.cell 0
  have c1 := hblk.cell 1
  have c2 := hblk.cell 2
  have c3 := hblk.cell 3
  simp only [List.getElem?_cons_succ, List.getElem?_cons_zero] at c0 c1 c2 c3
  clear h hblk
  by_cases hs : st = 1
  · subst hs
    by_cases ha : ahead = 4
    · subst ha
      clear h0
      go_enter Try.func13, Try.ntmps13
      go_wp2_with fail
      go_quiet (fail)
      go_wp2_with fail
      go_ret3
      exact ⟨rfl, HC0.out.drewN _⟩
    · have ha2 : ((ahead : Int) == 4) = false := by simp; omega
      have ha3 : decide (ahead = 4) = false := by simpa using ha
      obtain rfl : sent = data.length := by
        rcases h0 with h | h | h
        · exact absurd rfl h
        · exact absurd h ha
        · exact h
      clear h0 ha
      go_enter Try.func13, Try.ntmps13
      go_wp2_with fail
      go_quiet (fail)
      go_wp2_with fail
      go_ret3
      exact ⟨rfl, HC0.out.drewN _⟩
  · have hs0 : (st != 1) = true := by simpa using hs
    have hs1 : (st == 1) = false := by simpa using hs
    clear h0 hs
    go_enter Try.func13, Try.ntmps13
    go_wp2_with fail
    go_quiet (fail)
    go_wp2_with fail
    go_ret3
    exact ⟨rfl, HC0.out.drewN _⟩

set_option maxRecDepth 100000 in
set_option maxHeartbeats 2000000 in
theorem chunk_yes (p : Nat) (o : OutF) (l : List Res) (w : World) (h : Hold w (outR p o :: l)) (h0 : ¬ outStop o) (h1 : o.sent ≤ o.data.length) (h2 : o.data.length ≤ 2048) (h3 : o.ahead ≤ 4) :
    Calls Try.prog 13 #[.pointer (some ⟨p, 0, none⟩)] w (ChunkRes p o l) := by
  obtain ⟨st, data, sent, ahead⟩ := o
  obtain ⟨a, c, k1, k2, h⟩ := outR_open h
  unfold outStop at h0
  simp only at h0 h1 h2 h3 k1 h
  obtain ⟨rfl, ha, hs⟩ : st = 1 ∧ ahead ≠ 4 ∧ sent ≠ data.length := by
    refine ⟨?_, ?_, ?_⟩
    · exact Classical.byContradiction fun h => h0 (.inl h)
    · exact fun h => h0 (.inr (.inl h))
    · exact fun h => h0 (.inr (.inr h))
  have hs2 : ((sent : Int) == (data.length : Int)) = false := by simp; omega
  have hs3 : decide (sent = data.length) = false := by simpa using hs
  have ha2 : ((ahead : Int) == 4) = false := by simp; omega
  have ha3 : decide (ahead = 4) = false := by simpa using ha
  have hblk := h.blkOf (p := p) (cs := _) (T := 38) (List.mem_cons_self)
  have c0 := hblk.cell 0
  have c1 := hblk.cell 1
  have c2 := hblk.cell 2
  have c3 := hblk.cell 3
  have f2 := hblk.frozen 2
  have f3 := hblk.frozen 3
  simp only [List.getElem?_cons_succ, List.getElem?_cons_zero] at c0 c1 c2 c3
  have hlt : sent < data.length := by omega
  have HH := Lib.hid h
  unfold maxLen at k2
  clear h hblk h0 hs ha
  rcases Nat.lt_or_ge data.length (sent + 64) with hcase | hcase
  · have hm0 : min (sent + 64) data.length = data.length := by omega
    have hm1 : sent ≤ data.length := by omega
    have hm2 : data.length ≤ data.length := by omega
    have hcs : (((data.length : Nat)) : Int) = (data.length : Int) := by omega
    have hx : (data.length : Int) < sent + 64 := by omega
    have hrun : ∀ W, (Instr.sliceAt 22 (.slice a data.length c) (some (.int .i64 sent)) (some (.int .i64 (data.length : Int))) none).run Try.prog W = .ok (.slice (cutA a c sent) (data.length - sent) (c - sent)) W := fun W => by
      rw [← hcs]
      exact run_cut2 a data.length c sent data.length hm1 (by omega) W
    have HM0 := Lib.hid hm0
    clear hm0 hcs hcase
    go_enter Try.func13, Try.ntmps13
    go_wp2_with fail
    go_quiet (fail)
    go_wp2_with fail
    have HC := Lib.hid (((HH.out.drewN nq).set 2 (.int .i64 (data.length : Int))).set 3 (.int .i64 ((ahead : Int) + 1)))
    generalize ((w.drewN nq).setCell ⟨p, 2, none⟩ (.int .i64 (data.length : Int))).setCell ⟨p, 3, none⟩ (.int .i64 ((ahead : Int) + 1)) = W at HC ⊢
    have HC := Lib.hid HC.out.drew
    refine wp_region_any (by kernel_rfl) ?_
    change wpAny _ _ _ _ _ _ _ (World.drew _)
    refine wpAny_take (i := 0) (oi := { dst := some 52, op := _, type := _, pos := _, after := _, guard := none }) (v := .int .i64 sent) rfl (by kernel_rfl) (by kernel_rfl) (by kernel_rfl) (fun _ _ _ h => h) (Or.inl ⟨by rfl, by intro w; go_simp⟩) ?_
    simp only [Act.put, List.setIfInBounds_toArray, List.set_cons_zero, List.set_cons_succ]
    refine wpAny_take (i := 1) (oi := { dst := some 53, op := _, type := _, pos := _, after := _, guard := none }) (v := .pointer (some ⟨p, 0, none⟩)) rfl (by kernel_rfl) (by kernel_rfl) (by kernel_rfl) (fun _ _ _ h => h) (Or.inl ⟨by rfl, by intro w; go_simp⟩) ?_
    simp only [Act.put, List.setIfInBounds_toArray, List.set_cons_zero, List.set_cons_succ]
    refine wpAny_take (i := 2) (oi := { dst := some 54, op := _, type := _, pos := _, after := _, guard := none }) (v := .pointer (some ⟨p, 0, none⟩)) rfl (by kernel_rfl) (by kernel_rfl) (by kernel_rfl) (fun _ _ _ h => h) (Or.inl ⟨by rfl, by intro w; go_simp⟩) ?_
    simp only [Act.put, List.setIfInBounds_toArray, List.set_cons_zero, List.set_cons_succ]
    refine wpAny_take (i := 3) (oi := { dst := some 55, op := _, type := _, pos := _, after := _, guard := none }) (v := .pointer (some ⟨p, 1, none⟩)) rfl (by kernel_rfl) (by kernel_rfl) (by kernel_rfl) (fun _ _ _ h => h) (Or.inl ⟨by rfl, by intro w; go_simp⟩) ?_
    simp only [Act.put, List.setIfInBounds_toArray, List.set_cons_zero, List.set_cons_succ]
    refine wpAny_take (i := 5) (oi := { dst := some 57, op := _, type := _, pos := _, after := _, guard := none }) (v := .int .i64 sent) rfl (by kernel_rfl) (by kernel_rfl) (by kernel_rfl) (fun _ _ _ h => h) (Or.inl ⟨by rfl, by intro w; go_simp⟩) ?_
    simp only [Act.put, List.setIfInBounds_toArray, List.set_cons_zero, List.set_cons_succ]
    refine wpAny_take (i := 6) (oi := { dst := some 58, op := _, type := _, pos := _, after := _, guard := none }) (v := .pointer (some ⟨p, 0, none⟩)) rfl (by kernel_rfl) (by kernel_rfl) (by kernel_rfl) (fun _ _ _ h => h) (Or.inl ⟨by rfl, by intro w; go_simp⟩) ?_
    simp only [Act.put, List.setIfInBounds_toArray, List.set_cons_zero, List.set_cons_succ]
    refine wpAny_take (i := 7) (oi := { dst := some 59, op := _, type := _, pos := _, after := _, guard := none }) (v := .pointer (some ⟨p, 0, none⟩)) rfl (by kernel_rfl) (by kernel_rfl) (by kernel_rfl) (fun _ _ _ h => h) (Or.inl ⟨by rfl, by intro w; go_simp⟩) ?_
    simp only [Act.put, List.setIfInBounds_toArray, List.set_cons_zero, List.set_cons_succ]
    refine wpAny_take (i := 8) (oi := { dst := some 60, op := _, type := _, pos := _, after := _, guard := none }) (v := .pointer (some ⟨p, 2, none⟩)) rfl (by kernel_rfl) (by kernel_rfl) (by kernel_rfl) (fun _ _ _ h => h) (Or.inl ⟨by rfl, by intro w; go_simp⟩) ?_
    simp only [Act.put, List.setIfInBounds_toArray, List.set_cons_zero, List.set_cons_succ]
    refine wpAny_ready (rs := [4, 9]) (by decide +kernel) (by simp) ?_
    refine AllReady.cons (o := { dst := some 56, op := .load 22 (.tmp 55), type := _, pos := _, after := _, guard := none }) rfl (fun K hK => ?_) (AllReady.cons (o := { dst := some 61, op := .load 3 (.tmp 60), type := _, pos := _, after := _, guard := none }) rfl (fun K hK => ?_) AllReady.nil)
    · have cc := (HC.out.blkOf (p := p) (cs := [.int .i64 1, .slice a data.length c, .int .i64 (data.length : Int), .int .i64 ((ahead : Int) + 1)]) (T := 38) (by simp)).cell 1
      simp only [List.getElem?_cons_succ, List.getElem?_cons_zero] at cc
      go_simp
      refine hK _ _ ?_
      clear hK K
      try simp only [Act.put, List.setIfInBounds_toArray, List.set_cons_zero, List.set_cons_succ]
      refine wpAny_ready (rs := [9]) (by decide +kernel) (by simp) ?_
      refine AllReady.cons (o := { dst := some 61, op := .load 3 (.tmp 60), type := _, pos := _, after := _, guard := none }) rfl (fun K hK => ?_) AllReady.nil
      have cc := (HC.out.blkOf (p := p) (cs := [.int .i64 1, .slice a data.length c, .int .i64 (data.length : Int), .int .i64 ((ahead : Int) + 1)]) (T := 38) (by simp)).cell 2
      simp only [List.getElem?_cons_succ, List.getElem?_cons_zero] at cc
      go_simp
      refine hK _ _ ?_
      clear hK K
      try simp only [Act.put, List.setIfInBounds_toArray, List.set_cons_zero, List.set_cons_succ]
      refine wpAny_take (i := 10) (oi := { dst := some 62, op := _, type := _, pos := _, after := _, guard := none }) (v := .slice (cutA a c sent) (data.length - sent) (c - sent)) rfl (by kernel_rfl) (by kernel_rfl) (by kernel_rfl) (fun _ _ _ h => h) (Or.inl ⟨by rfl, by intro w; go_simp⟩) ?_
      simp only [Act.put, List.setIfInBounds_toArray, List.set_cons_zero, List.set_cons_succ]
      refine wpAny_ready (rs := [11]) (by decide +kernel) (by simp) ?_
      refine AllReady.cons (o := { dst := some 63, op := .call { callee := .builtin .append, args := #[.const (.slice none 0 0), .tmp 62], argTypes := #[22, 22] }, type := _, pos := _, after := _, guard := none }) rfl (fun K hK => ?_) AllReady.nil
      have hsl : Bs _ (.slice (cutA a c sent) (data.length - sent) (c - sent)) ((data.drop sent).take (data.length - sent)) := (HC.out.rowOf (v := .slice a data.length c) (b := data) (by simp)).cut sent data.length hm1 hm2
      have hlen : ((data.drop sent).take (data.length - sent)).length = data.length - sent := by first | (simp; done) | (simp; omega)
      refine step_app2 rfl (.const (.slice none 0 0)) (.tmp 62) elBytes rfl W.heap.size (v := .slice none 0 0) (by simp [Act.eval]) (Own.nil _ _ _ _ _) (by simp [Value.ownBlock]) (u := .slice (cutA a c sent) (data.length - sent) (c - sent)) (by simp [Act.eval]) (n := 0) (m := data.length - sent) (ds := bCells ((data.drop sent).take (data.length - sent))) (by unfold Bs at hsl; rw [hlen] at hsl; exact hsl) (by unfold maxLen; omega) (by omega) (Nat.le_refl _) ?_
      intro v4 w4 ho hk hv
      have hb4 := hk.below (B := W.heap.size) (by
        rintro i (h | h)
        · exact h.2
        · exact h)
      have ho' : OwnBs w4 W.heap.size v4 ((data.drop sent).take (data.length - sent)) := by unfold OwnBs; rw [hlen]; simpa using ho
      have HC := Lib.hid (HC.out.addOwnB hb4 ho' (fun i hi => ⟨by
        rcases (hv i hi).1 with h | h
        · simp [Value.ownBlock] at h
        · exact h, (hv i hi).2⟩)).ownRow
      obtain ⟨a4, c4, rfl, _, _⟩ := ho.sl.form
      clear ho ho' hk hv hb4 hsl hlen
      refine hK _ _ ?_
      clear hK K
      try simp only [Act.put, List.setIfInBounds_toArray, List.set_cons_zero, List.set_cons_succ]
      refine wpAny_take (i := 12) (oi := { dst := some 2, op := _, type := _, pos := _, after := _, guard := none }) (v := .int .i64 sent) rfl (by kernel_rfl) (by kernel_rfl) (by kernel_rfl) (fun _ _ _ h => h) (Or.inl ⟨by rfl, by intro w; go_simp⟩) ?_
      simp only [Act.put, List.setIfInBounds_toArray, List.set_cons_zero, List.set_cons_succ]
      refine wpAny_take (i := 13) (oi := { dst := some 3, op := _, type := _, pos := _, after := _, guard := none }) (v := .slice a4 (0 + (data.length - sent)) c4) rfl (by kernel_rfl) (by kernel_rfl) (by kernel_rfl) (fun _ _ _ h => h) (Or.inl ⟨by rfl, by intro w; go_simp⟩) ?_
      simp only [Act.put, List.setIfInBounds_toArray, List.set_cons_zero, List.set_cons_succ]
      refine wpAny_take (i := 14) (oi := { dst := some 4, op := _, type := _, pos := _, after := _, guard := none }) (v := .bool true) rfl (by kernel_rfl) (by kernel_rfl) (by kernel_rfl) (fun _ _ _ h => h) (Or.inl ⟨by rfl, by intro w; go_simp⟩) ?_
      simp only [Act.put, List.setIfInBounds_toArray, List.set_cons_zero, List.set_cons_succ]
      refine wpAny_done (by decide +kernel) ?_ _
      go_wp2_with fail
      go_ret3
      refine ⟨_, rfl, ?_⟩
      simp only
      rw [HM0.out]
      refine outR_shut (dv := .slice a data.length c) ?_
      try rw [show (((data.length : Nat)) : Int) = (data.length : Int) by omega]
      rw [show (((ahead + 1 : Nat)) : Int) = (ahead : Int) + 1 by omega]
      exact HC.out.push3
    · have cc := (HC.out.blkOf (p := p) (cs := [.int .i64 1, .slice a data.length c, .int .i64 (data.length : Int), .int .i64 ((ahead : Int) + 1)]) (T := 38) (by simp)).cell 2
      simp only [List.getElem?_cons_succ, List.getElem?_cons_zero] at cc
      go_simp
      refine hK _ _ ?_
      clear hK K
      try simp only [Act.put, List.setIfInBounds_toArray, List.set_cons_zero, List.set_cons_succ]
      refine wpAny_ready (rs := [4]) (by decide +kernel) (by simp) ?_
      refine AllReady.cons (o := { dst := some 56, op := .load 22 (.tmp 55), type := _, pos := _, after := _, guard := none }) rfl (fun K hK => ?_) AllReady.nil
      have cc := (HC.out.blkOf (p := p) (cs := [.int .i64 1, .slice a data.length c, .int .i64 (data.length : Int), .int .i64 ((ahead : Int) + 1)]) (T := 38) (by simp)).cell 1
      simp only [List.getElem?_cons_succ, List.getElem?_cons_zero] at cc
      go_simp
      refine hK _ _ ?_
      clear hK K
      try simp only [Act.put, List.setIfInBounds_toArray, List.set_cons_zero, List.set_cons_succ]
      refine wpAny_take (i := 10) (oi := { dst := some 62, op := _, type := _, pos := _, after := _, guard := none }) (v := .slice (cutA a c sent) (data.length - sent) (c - sent)) rfl (by kernel_rfl) (by kernel_rfl) (by kernel_rfl) (fun _ _ _ h => h) (Or.inl ⟨by rfl, by intro w; go_simp⟩) ?_
      simp only [Act.put, List.setIfInBounds_toArray, List.set_cons_zero, List.set_cons_succ]
      refine wpAny_ready (rs := [11]) (by decide +kernel) (by simp) ?_
      refine AllReady.cons (o := { dst := some 63, op := .call { callee := .builtin .append, args := #[.const (.slice none 0 0), .tmp 62], argTypes := #[22, 22] }, type := _, pos := _, after := _, guard := none }) rfl (fun K hK => ?_) AllReady.nil
      have hsl : Bs _ (.slice (cutA a c sent) (data.length - sent) (c - sent)) ((data.drop sent).take (data.length - sent)) := (HC.out.rowOf (v := .slice a data.length c) (b := data) (by simp)).cut sent data.length hm1 hm2
      have hlen : ((data.drop sent).take (data.length - sent)).length = data.length - sent := by first | (simp; done) | (simp; omega)
      refine step_app2 rfl (.const (.slice none 0 0)) (.tmp 62) elBytes rfl W.heap.size (v := .slice none 0 0) (by simp [Act.eval]) (Own.nil _ _ _ _ _) (by simp [Value.ownBlock]) (u := .slice (cutA a c sent) (data.length - sent) (c - sent)) (by simp [Act.eval]) (n := 0) (m := data.length - sent) (ds := bCells ((data.drop sent).take (data.length - sent))) (by unfold Bs at hsl; rw [hlen] at hsl; exact hsl) (by unfold maxLen; omega) (by omega) (Nat.le_refl _) ?_
      intro v4 w4 ho hk hv
      have hb4 := hk.below (B := W.heap.size) (by
        rintro i (h | h)
        · exact h.2
        · exact h)
      have ho' : OwnBs w4 W.heap.size v4 ((data.drop sent).take (data.length - sent)) := by unfold OwnBs; rw [hlen]; simpa using ho
      have HC := Lib.hid (HC.out.addOwnB hb4 ho' (fun i hi => ⟨by
        rcases (hv i hi).1 with h | h
        · simp [Value.ownBlock] at h
        · exact h, (hv i hi).2⟩)).ownRow
      obtain ⟨a4, c4, rfl, _, _⟩ := ho.sl.form
      clear ho ho' hk hv hb4 hsl hlen
      refine hK _ _ ?_
      clear hK K
      try simp only [Act.put, List.setIfInBounds_toArray, List.set_cons_zero, List.set_cons_succ]
      refine wpAny_take (i := 12) (oi := { dst := some 2, op := _, type := _, pos := _, after := _, guard := none }) (v := .int .i64 sent) rfl (by kernel_rfl) (by kernel_rfl) (by kernel_rfl) (fun _ _ _ h => h) (Or.inl ⟨by rfl, by intro w; go_simp⟩) ?_
      simp only [Act.put, List.setIfInBounds_toArray, List.set_cons_zero, List.set_cons_succ]
      refine wpAny_take (i := 13) (oi := { dst := some 3, op := _, type := _, pos := _, after := _, guard := none }) (v := .slice a4 (0 + (data.length - sent)) c4) rfl (by kernel_rfl) (by kernel_rfl) (by kernel_rfl) (fun _ _ _ h => h) (Or.inl ⟨by rfl, by intro w; go_simp⟩) ?_
      simp only [Act.put, List.setIfInBounds_toArray, List.set_cons_zero, List.set_cons_succ]
      refine wpAny_take (i := 14) (oi := { dst := some 4, op := _, type := _, pos := _, after := _, guard := none }) (v := .bool true) rfl (by kernel_rfl) (by kernel_rfl) (by kernel_rfl) (fun _ _ _ h => h) (Or.inl ⟨by rfl, by intro w; go_simp⟩) ?_
      simp only [Act.put, List.setIfInBounds_toArray, List.set_cons_zero, List.set_cons_succ]
      refine wpAny_done (by decide +kernel) ?_ _
      go_wp2_with fail
      go_ret3
      refine ⟨_, rfl, ?_⟩
      simp only
      rw [HM0.out]
      refine outR_shut (dv := .slice a data.length c) ?_
      try rw [show (((data.length : Nat)) : Int) = (data.length : Int) by omega]
      rw [show (((ahead + 1 : Nat)) : Int) = (ahead : Int) + 1 by omega]
      exact HC.out.push3
  · have hm0 : min (sent + 64) data.length = (sent + 64) := by omega
    have hm1 : sent ≤ (sent + 64) := by omega
    have hm2 : (sent + 64) ≤ data.length := by omega
    have hcs : ((((sent + 64) : Nat)) : Int) = ((sent : Int) + 64) := by omega
    have hx : (sent : Int) + 64 ≤ data.length := by omega
    have hrun : ∀ W, (Instr.sliceAt 22 (.slice a data.length c) (some (.int .i64 sent)) (some (.int .i64 ((sent : Int) + 64))) none).run Try.prog W = .ok (.slice (cutA a c sent) ((sent + 64) - sent) (c - sent)) W := fun W => by
      rw [← hcs]
      exact run_cut2 a data.length c sent (sent + 64) hm1 (by omega) W
    have HM0 := Lib.hid hm0
    clear hm0 hcs hcase
    go_enter Try.func13, Try.ntmps13
    go_wp2_with fail
    go_quiet (fail)
    go_wp2_with fail
    have HC := Lib.hid (((HH.out.drewN nq).set 2 (.int .i64 ((sent : Int) + 64))).set 3 (.int .i64 ((ahead : Int) + 1)))
    generalize ((w.drewN nq).setCell ⟨p, 2, none⟩ (.int .i64 ((sent : Int) + 64))).setCell ⟨p, 3, none⟩ (.int .i64 ((ahead : Int) + 1)) = W at HC ⊢
    have HC := Lib.hid HC.out.drew
    refine wp_region_any (by kernel_rfl) ?_
    change wpAny _ _ _ _ _ _ _ (World.drew _)
    refine wpAny_take (i := 0) (oi := { dst := some 52, op := _, type := _, pos := _, after := _, guard := none }) (v := .int .i64 sent) rfl (by kernel_rfl) (by kernel_rfl) (by kernel_rfl) (fun _ _ _ h => h) (Or.inl ⟨by rfl, by intro w; go_simp⟩) ?_
    simp only [Act.put, List.setIfInBounds_toArray, List.set_cons_zero, List.set_cons_succ]
    refine wpAny_take (i := 1) (oi := { dst := some 53, op := _, type := _, pos := _, after := _, guard := none }) (v := .pointer (some ⟨p, 0, none⟩)) rfl (by kernel_rfl) (by kernel_rfl) (by kernel_rfl) (fun _ _ _ h => h) (Or.inl ⟨by rfl, by intro w; go_simp⟩) ?_
    simp only [Act.put, List.setIfInBounds_toArray, List.set_cons_zero, List.set_cons_succ]
    refine wpAny_take (i := 2) (oi := { dst := some 54, op := _, type := _, pos := _, after := _, guard := none }) (v := .pointer (some ⟨p, 0, none⟩)) rfl (by kernel_rfl) (by kernel_rfl) (by kernel_rfl) (fun _ _ _ h => h) (Or.inl ⟨by rfl, by intro w; go_simp⟩) ?_
    simp only [Act.put, List.setIfInBounds_toArray, List.set_cons_zero, List.set_cons_succ]
    refine wpAny_take (i := 3) (oi := { dst := some 55, op := _, type := _, pos := _, after := _, guard := none }) (v := .pointer (some ⟨p, 1, none⟩)) rfl (by kernel_rfl) (by kernel_rfl) (by kernel_rfl) (fun _ _ _ h => h) (Or.inl ⟨by rfl, by intro w; go_simp⟩) ?_
    simp only [Act.put, List.setIfInBounds_toArray, List.set_cons_zero, List.set_cons_succ]
    refine wpAny_take (i := 5) (oi := { dst := some 57, op := _, type := _, pos := _, after := _, guard := none }) (v := .int .i64 sent) rfl (by kernel_rfl) (by kernel_rfl) (by kernel_rfl) (fun _ _ _ h => h) (Or.inl ⟨by rfl, by intro w; go_simp⟩) ?_
    simp only [Act.put, List.setIfInBounds_toArray, List.set_cons_zero, List.set_cons_succ]
    refine wpAny_take (i := 6) (oi := { dst := some 58, op := _, type := _, pos := _, after := _, guard := none }) (v := .pointer (some ⟨p, 0, none⟩)) rfl (by kernel_rfl) (by kernel_rfl) (by kernel_rfl) (fun _ _ _ h => h) (Or.inl ⟨by rfl, by intro w; go_simp⟩) ?_
    simp only [Act.put, List.setIfInBounds_toArray, List.set_cons_zero, List.set_cons_succ]
    refine wpAny_take (i := 7) (oi := { dst := some 59, op := _, type := _, pos := _, after := _, guard := none }) (v := .pointer (some ⟨p, 0, none⟩)) rfl (by kernel_rfl) (by kernel_rfl) (by kernel_rfl) (fun _ _ _ h => h) (Or.inl ⟨by rfl, by intro w; go_simp⟩) ?_
    simp only [Act.put, List.setIfInBounds_toArray, List.set_cons_zero, List.set_cons_succ]
    refine wpAny_take (i := 8) (oi := { dst := some 60, op := _, type := _, pos := _, after := _, guard := none }) (v := .pointer (some ⟨p, 2, none⟩)) rfl (by kernel_rfl) (by kernel_rfl) (by kernel_rfl) (fun _ _ _ h => h) (Or.inl ⟨by rfl, by intro w; go_simp⟩) ?_
    simp only [Act.put, List.setIfInBounds_toArray, List.set_cons_zero, List.set_cons_succ]
    refine wpAny_ready (rs := [4, 9]) (by decide +kernel) (by simp) ?_
    refine AllReady.cons (o := { dst := some 56, op := .load 22 (.tmp 55), type := _, pos := _, after := _, guard := none }) rfl (fun K hK => ?_) (AllReady.cons (o := { dst := some 61, op := .load 3 (.tmp 60), type := _, pos := _, after := _, guard := none }) rfl (fun K hK => ?_) AllReady.nil)
    · have cc := (HC.out.blkOf (p := p) (cs := [.int .i64 1, .slice a data.length c, .int .i64 ((sent : Int) + 64), .int .i64 ((ahead : Int) + 1)]) (T := 38) (by simp)).cell 1
      simp only [List.getElem?_cons_succ, List.getElem?_cons_zero] at cc
      go_simp
      refine hK _ _ ?_
      clear hK K
      try simp only [Act.put, List.setIfInBounds_toArray, List.set_cons_zero, List.set_cons_succ]
      refine wpAny_ready (rs := [9]) (by decide +kernel) (by simp) ?_
      refine AllReady.cons (o := { dst := some 61, op := .load 3 (.tmp 60), type := _, pos := _, after := _, guard := none }) rfl (fun K hK => ?_) AllReady.nil
      have cc := (HC.out.blkOf (p := p) (cs := [.int .i64 1, .slice a data.length c, .int .i64 ((sent : Int) + 64), .int .i64 ((ahead : Int) + 1)]) (T := 38) (by simp)).cell 2
      simp only [List.getElem?_cons_succ, List.getElem?_cons_zero] at cc
      go_simp
      refine hK _ _ ?_
      clear hK K
      try simp only [Act.put, List.setIfInBounds_toArray, List.set_cons_zero, List.set_cons_succ]
      refine wpAny_take (i := 10) (oi := { dst := some 62, op := _, type := _, pos := _, after := _, guard := none }) (v := .slice (cutA a c sent) ((sent + 64) - sent) (c - sent)) rfl (by kernel_rfl) (by kernel_rfl) (by kernel_rfl) (fun _ _ _ h => h) (Or.inl ⟨by rfl, by intro w; go_simp⟩) ?_
      simp only [Act.put, List.setIfInBounds_toArray, List.set_cons_zero, List.set_cons_succ]
      refine wpAny_ready (rs := [11]) (by decide +kernel) (by simp) ?_
      refine AllReady.cons (o := { dst := some 63, op := .call { callee := .builtin .append, args := #[.const (.slice none 0 0), .tmp 62], argTypes := #[22, 22] }, type := _, pos := _, after := _, guard := none }) rfl (fun K hK => ?_) AllReady.nil
      have hsl : Bs _ (.slice (cutA a c sent) ((sent + 64) - sent) (c - sent)) ((data.drop sent).take ((sent + 64) - sent)) := (HC.out.rowOf (v := .slice a data.length c) (b := data) (by simp)).cut sent (sent + 64) hm1 hm2
      have hlen : ((data.drop sent).take ((sent + 64) - sent)).length = (sent + 64) - sent := by first | (simp; done) | (simp; omega)
      refine step_app2 rfl (.const (.slice none 0 0)) (.tmp 62) elBytes rfl W.heap.size (v := .slice none 0 0) (by simp [Act.eval]) (Own.nil _ _ _ _ _) (by simp [Value.ownBlock]) (u := .slice (cutA a c sent) ((sent + 64) - sent) (c - sent)) (by simp [Act.eval]) (n := 0) (m := (sent + 64) - sent) (ds := bCells ((data.drop sent).take ((sent + 64) - sent))) (by unfold Bs at hsl; rw [hlen] at hsl; exact hsl) (by unfold maxLen; omega) (by omega) (Nat.le_refl _) ?_
      intro v4 w4 ho hk hv
      have hb4 := hk.below (B := W.heap.size) (by
        rintro i (h | h)
        · exact h.2
        · exact h)
      have ho' : OwnBs w4 W.heap.size v4 ((data.drop sent).take ((sent + 64) - sent)) := by unfold OwnBs; rw [hlen]; simpa using ho
      have HC := Lib.hid (HC.out.addOwnB hb4 ho' (fun i hi => ⟨by
        rcases (hv i hi).1 with h | h
        · simp [Value.ownBlock] at h
        · exact h, (hv i hi).2⟩)).ownRow
      obtain ⟨a4, c4, rfl, _, _⟩ := ho.sl.form
      clear ho ho' hk hv hb4 hsl hlen
      refine hK _ _ ?_
      clear hK K
      try simp only [Act.put, List.setIfInBounds_toArray, List.set_cons_zero, List.set_cons_succ]
      refine wpAny_take (i := 12) (oi := { dst := some 2, op := _, type := _, pos := _, after := _, guard := none }) (v := .int .i64 sent) rfl (by kernel_rfl) (by kernel_rfl) (by kernel_rfl) (fun _ _ _ h => h) (Or.inl ⟨by rfl, by intro w; go_simp⟩) ?_
      simp only [Act.put, List.setIfInBounds_toArray, List.set_cons_zero, List.set_cons_succ]
      refine wpAny_take (i := 13) (oi := { dst := some 3, op := _, type := _, pos := _, after := _, guard := none }) (v := .slice a4 (0 + ((sent + 64) - sent)) c4) rfl (by kernel_rfl) (by kernel_rfl) (by kernel_rfl) (fun _ _ _ h => h) (Or.inl ⟨by rfl, by intro w; go_simp⟩) ?_
      simp only [Act.put, List.setIfInBounds_toArray, List.set_cons_zero, List.set_cons_succ]
      refine wpAny_take (i := 14) (oi := { dst := some 4, op := _, type := _, pos := _, after := _, guard := none }) (v := .bool true) rfl (by kernel_rfl) (by kernel_rfl) (by kernel_rfl) (fun _ _ _ h => h) (Or.inl ⟨by rfl, by intro w; go_simp⟩) ?_
      simp only [Act.put, List.setIfInBounds_toArray, List.set_cons_zero, List.set_cons_succ]
      refine wpAny_done (by decide +kernel) ?_ _
      go_wp2_with fail
      go_ret3
      refine ⟨_, rfl, ?_⟩
      simp only
      rw [HM0.out]
      refine outR_shut (dv := .slice a data.length c) ?_
      try rw [show ((((sent + 64) : Nat)) : Int) = ((sent : Int) + 64) by omega]
      rw [show (((ahead + 1 : Nat)) : Int) = (ahead : Int) + 1 by omega]
      exact HC.out.push3
    · have cc := (HC.out.blkOf (p := p) (cs := [.int .i64 1, .slice a data.length c, .int .i64 ((sent : Int) + 64), .int .i64 ((ahead : Int) + 1)]) (T := 38) (by simp)).cell 2
      simp only [List.getElem?_cons_succ, List.getElem?_cons_zero] at cc
      go_simp
      refine hK _ _ ?_
      clear hK K
      try simp only [Act.put, List.setIfInBounds_toArray, List.set_cons_zero, List.set_cons_succ]
      refine wpAny_ready (rs := [4]) (by decide +kernel) (by simp) ?_
      refine AllReady.cons (o := { dst := some 56, op := .load 22 (.tmp 55), type := _, pos := _, after := _, guard := none }) rfl (fun K hK => ?_) AllReady.nil
      have cc := (HC.out.blkOf (p := p) (cs := [.int .i64 1, .slice a data.length c, .int .i64 ((sent : Int) + 64), .int .i64 ((ahead : Int) + 1)]) (T := 38) (by simp)).cell 1
      simp only [List.getElem?_cons_succ, List.getElem?_cons_zero] at cc
      go_simp
      refine hK _ _ ?_
      clear hK K
      try simp only [Act.put, List.setIfInBounds_toArray, List.set_cons_zero, List.set_cons_succ]
      refine wpAny_take (i := 10) (oi := { dst := some 62, op := _, type := _, pos := _, after := _, guard := none }) (v := .slice (cutA a c sent) ((sent + 64) - sent) (c - sent)) rfl (by kernel_rfl) (by kernel_rfl) (by kernel_rfl) (fun _ _ _ h => h) (Or.inl ⟨by rfl, by intro w; go_simp⟩) ?_
      simp only [Act.put, List.setIfInBounds_toArray, List.set_cons_zero, List.set_cons_succ]
      refine wpAny_ready (rs := [11]) (by decide +kernel) (by simp) ?_
      refine AllReady.cons (o := { dst := some 63, op := .call { callee := .builtin .append, args := #[.const (.slice none 0 0), .tmp 62], argTypes := #[22, 22] }, type := _, pos := _, after := _, guard := none }) rfl (fun K hK => ?_) AllReady.nil
      have hsl : Bs _ (.slice (cutA a c sent) ((sent + 64) - sent) (c - sent)) ((data.drop sent).take ((sent + 64) - sent)) := (HC.out.rowOf (v := .slice a data.length c) (b := data) (by simp)).cut sent (sent + 64) hm1 hm2
      have hlen : ((data.drop sent).take ((sent + 64) - sent)).length = (sent + 64) - sent := by first | (simp; done) | (simp; omega)
      refine step_app2 rfl (.const (.slice none 0 0)) (.tmp 62) elBytes rfl W.heap.size (v := .slice none 0 0) (by simp [Act.eval]) (Own.nil _ _ _ _ _) (by simp [Value.ownBlock]) (u := .slice (cutA a c sent) ((sent + 64) - sent) (c - sent)) (by simp [Act.eval]) (n := 0) (m := (sent + 64) - sent) (ds := bCells ((data.drop sent).take ((sent + 64) - sent))) (by unfold Bs at hsl; rw [hlen] at hsl; exact hsl) (by unfold maxLen; omega) (by omega) (Nat.le_refl _) ?_
      intro v4 w4 ho hk hv
      have hb4 := hk.below (B := W.heap.size) (by
        rintro i (h | h)
        · exact h.2
        · exact h)
      have ho' : OwnBs w4 W.heap.size v4 ((data.drop sent).take ((sent + 64) - sent)) := by unfold OwnBs; rw [hlen]; simpa using ho
      have HC := Lib.hid (HC.out.addOwnB hb4 ho' (fun i hi => ⟨by
        rcases (hv i hi).1 with h | h
        · simp [Value.ownBlock] at h
        · exact h, (hv i hi).2⟩)).ownRow
      obtain ⟨a4, c4, rfl, _, _⟩ := ho.sl.form
      clear ho ho' hk hv hb4 hsl hlen
      refine hK _ _ ?_
      clear hK K
      try simp only [Act.put, List.setIfInBounds_toArray, List.set_cons_zero, List.set_cons_succ]
      refine wpAny_take (i := 12) (oi := { dst := some 2, op := _, type := _, pos := _, after := _, guard := none }) (v := .int .i64 sent) rfl (by kernel_rfl) (by kernel_rfl) (by kernel_rfl) (fun _ _ _ h => h) (Or.inl ⟨by rfl, by intro w; go_simp⟩) ?_
      simp only [Act.put, List.setIfInBounds_toArray, List.set_cons_zero, List.set_cons_succ]
      refine wpAny_take (i := 13) (oi := { dst := some 3, op := _, type := _, pos := _, after := _, guard := none }) (v := .slice a4 (0 + ((sent + 64) - sent)) c4) rfl (by kernel_rfl) (by kernel_rfl) (by kernel_rfl) (fun _ _ _ h => h) (Or.inl ⟨by rfl, by intro w; go_simp⟩) ?_
      simp only [Act.put, List.setIfInBounds_toArray, List.set_cons_zero, List.set_cons_succ]
      refine wpAny_take (i := 14) (oi := { dst := some 4, op := _, type := _, pos := _, after := _, guard := none }) (v := .bool true) rfl (by kernel_rfl) (by kernel_rfl) (by kernel_rfl) (fun _ _ _ h => h) (Or.inl ⟨by rfl, by intro w; go_simp⟩) ?_
      simp only [Act.put, List.setIfInBounds_toArray, List.set_cons_zero, List.set_cons_succ]
      refine wpAny_done (by decide +kernel) ?_ _
      go_wp2_with fail
      go_ret3
      refine ⟨_, rfl, ?_⟩
      simp only
      rw [HM0.out]
      refine outR_shut (dv := .slice a data.length c) ?_
      try rw [show ((((sent + 64) : Nat)) : Int) = ((sent : Int) + 64) by omega]
      rw [show (((ahead + 1 : Nat)) : Int) = (ahead : Int) + 1 by omega]
      exact HC.out.push3
end Go.Proofs.Ytogfkfoklnpfhaa
