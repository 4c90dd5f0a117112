/- Contract: sym's table: Digest. (Printed by wip/tools/gendigest.py.) -/
import Derived.Test.YtogfkfoklnpfhaaDigIdx
import Derived.Test.YtogfkfoklnpfhaaTabR
namespace Go.Proofs.Ytogfkfoklnpfhaa
set_option linter.unusedSimpArgs false
set_option linter.unusedVariables false
open Go.RowKit

def DigRes (p : Nat) (kv bv mp : Value) (sums : List (List UInt8)) (b : List UInt8) (l : List Res) (e : Ending) (w' : World) : Prop :=
  ∃ q, e = .returned (.slice (some ⟨q, 0, none⟩) 16 16) ∧ Hold w' (tabR p kv bv mp (digT sums b) :: .row (.slice (some ⟨q, 0, none⟩) 16 16) (digM sums b) :: l)

theorem mark100 (k : Nat) (hk : k < 1099511627777) (w : World) : Calls Try.prog 33 #[.int .u8 100, .int .i64 ((k : Int) + 1)] w (MarkRes w 100 (k + 1)) := mark_any 100 (k + 1) (by omega) w

set_option maxRecDepth 100000 in
set_option maxHeartbeats 4000000 in
theorem digest_any (p : Nat) (kv bv mp : Value) (sums : List (List UInt8)) (v : Value) (b : List UInt8) (l : List Res) (w : World) (h : Hold w (tabR p kv bv mp sums :: l)) (hb : Bs w v b) (hbl : b.length ≤ 1099511627776) (hn : sums.length < 1099511627776) :
    Calls Try.prog 10 #[.pointer (some ⟨p, 0, none⟩), v] w (DigRes p kv bv mp sums b l) := by
  obtain ⟨sv, vs, h⟩ := tabR_open h
  obtain ⟨av, cv, rfl, hcv, hmv⟩ := hb.form
  obtain ⟨a0, c0, rfl, hc0, hm0⟩ := (h.ownOf (e := 22) (sz := 1) (v := sv) (n := sums.length) (cs := vs) (by simp)).1.sl.form
  unfold maxLen at hm0
  have hp := (h.blkOf (p := p) (cs := [kv, bv, .slice a0 sums.length c0, mp]) (T := 64) (by simp)).lt
  have HC : Hid (Hold (w.alloc (.cells #[.slice av b.length cv] 22)) (.blk w.heap.size [.slice av b.length cv] 22 :: .blk p [kv, bv, .slice a0 sums.length c0, mp] 64 :: .own 22 1 (.slice a0 sums.length c0) sums.length vs :: sumsR vs sums :: l)) := Lib.hid (h.addBlk [.slice av b.length cv] 22)
  have c2 : w.cell? ⟨p, 2, none⟩ = some (.slice a0 sums.length c0) := (h.blkOf (p := p) (cs := [kv, bv, .slice a0 sums.length c0, mp]) (T := 64) (by simp)).cell 2
  have HSV : Hid (Sl w 1 (.slice a0 sums.length c0) sums.length vs) := Lib.hid ((h.ownOf (e := 22) (sz := 1) (v := .slice a0 sums.length c0) (n := sums.length) (cs := vs) (by simp)).1.sl)
  have HIX := Lib.hid (digIndex_any (.slice a0 sums.length c0) (.slice av b.length cv) vs sums b w.heap.size _ ((h.ownOf (e := 22) (sz := 1) (v := .slice a0 sums.length c0) (n := sums.length) (cs := vs) (by simp)).1.sl.alloc _) (fun j u r hu hr => (sumsR_at h.tail.tail j hu hr).alloc _) (hb.alloc (.cells #[.slice av b.length cv] 22)) ((Blk.new w [.slice av b.length cv] 22).cell 0))
  have HBS := Lib.hid (hb.alloc (.cells #[.slice av b.length cv] 22))
  unfold maxLen at hmv
  clear h hb
  go_enter Try.func10, Try.ntmps10
  go_wp2_with fail
  refine HIX.out.mono ?_
  rintro e w1 ⟨rfl, rfl⟩
  clear HIX
  by_cases hm : b ∈ sums
  · have HT : Hid (digT sums b = sums) := Lib.hid (by rw [digT, if_pos hm])
    have HI : Hid ((if b ∈ sums then (sums.idxOf b : Int) else -1) = (sums.idxOf b : Nat)) := Lib.hid (by rw [if_pos hm])
    have hk : sums.idxOf b < sums.length := List.idxOf_lt_length_of_mem hm
    have HM : Hid (digM sums b = markB 100 (sums.idxOf b + 1)) := Lib.hid (by rw [digM, HT.out])
    rw [HI.out]
    obtain ⟨k, hkk⟩ : ∃ k, k = sums.idxOf b := ⟨_, rfl⟩
    rw [← hkk] at HM hk ⊢
    have hk2 : k < 1099511627777 := by omega
    have HC := Lib.hid HC.out.tail
    clear hm hkk HI
    go_wp2_with fail
    refine (mark100 k (by omega) _).mono ?_
    rintro e w7 ⟨rfl, hb⟩
    have HN := Lib.hid (Blk.new w7 zs16 68)
    have HC := Lib.hid (HC.out.step hb)
    have HKL : Hid ((bCells (markB 100 (k + 1))).length = 16) := Lib.hid (by rw [bCells_length, markB_length])
    unfold keyV
    clear hb
    go_wp2_with ((with_reducible show wpList _ _ _ (⟨none, .store _ (.tmp 6) (.tmp 34), _, _, _, _⟩ :: _) _ _); refine wpList_stAgg rfl (.tmp 6) (.tmp 34) aggKey rfl rfl (vs := bCells (markB 100 (k + 1))) rfl HKL.out HN.out (Nat.le_refl _) (bCells_one _) ?_)
    intro w8 h8 k8
    have hb8 : Below w7.heap.size w7 w8 := ((Below.refl _ _).alloc (Nat.le_refl _) _).trans (k8.below (by omega))
    have h8' : Blk w8 w7.heap.size (bCells (markB 100 (k + 1))) 68 := by simpa [zs16] using h8
    have hrow : Bs w8 (.slice (some ⟨w7.heap.size, 0, none⟩) 16 16) (markB 100 (k + 1)) := by
      have := h8'.bs (off := 0) (n := 16) (cap := 16) (by rw [markB_length]; decide) (Nat.le_refl _) (by unfold maxLen; decide)
      exact Sl.bs this (by simp [List.take_of_length_le, markB_length]) (markB_length _ _)
    have HC := Lib.hid (HC.out.addRow hb8 hrow (fun k _ hk => by simp [Value.ownBlock] at hk; omega))
    clear h8 h8' k8 hb8 hrow HN HKL
    go_wp2_with fail
    go_ret
    refine ⟨w7.heap.size, rfl, ?_⟩
    rw [HT.out, HM.out]
    exact tabR_shut (sv := .slice a0 sums.length c0) (vs := vs) HC.out.push4
  · have HI : Hid ((if b ∈ sums then (sums.idxOf b : Int) else -1) = -1) := Lib.hid (by rw [if_neg hm])
    have HT : Hid (digT sums b = sums ++ [b]) := Lib.hid (by rw [digT, if_neg hm])
    have HM : Hid (digM sums b = markB 100 (sums.length + 1)) := Lib.hid (by
      rw [digM, HT.out, List.idxOf_append, if_neg hm, List.idxOf_cons_self, Nat.zero_add])
    rw [HI.out]
    clear hm HI
    have HC := Lib.hid HC.out.drew
    have HBS := Lib.hid (Bs.below HBS.out ((Below.refl _ _).drew))
    obtain ⟨q, hq⟩ : ∃ q, q = w.heap.size := ⟨_, rfl⟩
    rw [← hq] at HC hp
    clear HSV c2
    go_wp2_with fail
    rw [← hq]
    clear hq
    refine wp_region_any (by kernel_rfl) ?_
    change wpAny _ _ _ _ _ _ _ (World.drew _)
    refine wpAny_take (i := 0) (oi := { dst := some 15, op := _, type := _, pos := _, after := _, guard := none }) (v := .pointer (some ⟨p, 0, none⟩)) rfl (by kernel_rfl) (by kernel_rfl) (by kernel_rfl) (fun _ _ _ h => h) (Or.inl ⟨by rfl, by intro w; go_simp⟩) ?_
    simp only [Act.put, List.setIfInBounds_toArray, List.set_cons_zero, List.set_cons_succ]
    refine wpAny_take (i := 1) (oi := { dst := some 16, op := _, type := _, pos := _, after := _, guard := none }) (v := .pointer (some ⟨p, 0, none⟩)) rfl (by kernel_rfl) (by kernel_rfl) (by kernel_rfl) (fun _ _ _ h => h) (Or.inl ⟨by rfl, by intro w; go_simp⟩) ?_
    simp only [Act.put, List.setIfInBounds_toArray, List.set_cons_zero, List.set_cons_succ]
    refine wpAny_take (i := 2) (oi := { dst := some 17, op := _, type := _, pos := _, after := _, guard := none }) (v := .pointer (some ⟨p, 0, none⟩)) rfl (by kernel_rfl) (by kernel_rfl) (by kernel_rfl) (fun _ _ _ h => h) (Or.inl ⟨by rfl, by intro w; go_simp⟩) ?_
    simp only [Act.put, List.setIfInBounds_toArray, List.set_cons_zero, List.set_cons_succ]
    refine wpAny_take (i := 3) (oi := { dst := some 18, op := _, type := _, pos := _, after := _, guard := none }) (v := .pointer (some ⟨p, 2, none⟩)) rfl (by kernel_rfl) (by kernel_rfl) (by kernel_rfl) (fun _ _ _ h => h) (Or.inl ⟨by rfl, by intro w; go_simp⟩) ?_
    simp only [Act.put, List.setIfInBounds_toArray, List.set_cons_zero, List.set_cons_succ]
    refine wpAny_ready (rs := [4, 5]) (by decide +kernel) (by simp) ?_
    refine AllReady.cons (o := { dst := some 19, op := .load 62 (.tmp 18), type := _, pos := _, after := _, guard := none }) rfl (fun K hK => ?_) (AllReady.cons (o := { dst := some 20, op := .load 22 (.tmp 3), type := _, pos := _, after := _, guard := none }) rfl (fun K hK => ?_) AllReady.nil)
    · have cc := (HC.out.blkOf (p := p) (cs := [kv, bv, .slice a0 sums.length c0, mp]) (T := 64) (by simp)).cell 2
      go_simp
      refine hK _ _ ?_
      clear hK K
      try simp only [Act.put, List.setIfInBounds_toArray, List.set_cons_zero, List.set_cons_succ]
      refine wpAny_ready (rs := [5]) (by decide +kernel) (by simp) ?_
      refine AllReady.cons (o := { dst := some 20, op := .load 22 (.tmp 3), type := _, pos := _, after := _, guard := none }) rfl (fun K hK => ?_) AllReady.nil
      have cc := (HC.out.blkOf (p := q) (cs := [.slice av b.length cv]) (T := 22) (by simp)).cell 0
      go_simp
      refine hK _ _ ?_
      clear hK K
      try simp only [Act.put, List.setIfInBounds_toArray, List.set_cons_zero, List.set_cons_succ]
      refine wpAny_ready (rs := [6]) (by decide +kernel) (by simp) ?_
      refine AllReady.cons (o := { dst := some 21, op := .call { callee := .value (.func 32), args := #[.tmp 20], argTypes := #[22] }, type := _, pos := _, after := _, guard := none }) rfl (fun K hK => ?_) AllReady.nil
      go_simp
      refine (clone_any _ b _ HBS.out (by omega)).mono ?_
      rintro e w3 ⟨cl, rfl, ho, hv, hb⟩
      obtain ⟨a6, c6, rfl, _, _⟩ := ho.sl.form
      have HC := Lib.hid (HC.out.addOwnB hb ho hv).ownRow
      clear ho hv hb
      refine hK _ _ ?_
      clear hK K
      try simp only [Act.put, List.setIfInBounds_toArray, List.set_cons_zero, List.set_cons_succ]
      refine wpAny_ready (rs := [7]) (by decide +kernel) (by simp) ?_
      refine AllReady.cons (o := { dst := some 22, op := .buildSlice 62 1 #[(0, .tmp 21)], type := _, pos := _, after := _, guard := none }) rfl (fun K hK => ?_) AllReady.nil
      go_simp
      have HC := Lib.hid (HC.out.addBlk [.slice a6 b.length c6] 22)
      refine hK _ _ ?_
      clear hK K
      try simp only [Act.put, List.setIfInBounds_toArray, List.set_cons_zero, List.set_cons_succ]
      refine wpAny_ready (rs := [8]) (by decide +kernel) (by simp) ?_
      refine AllReady.cons (o := { dst := some 23, op := .call { callee := .builtin .append, args := #[.tmp 19, .tmp 22], argTypes := #[62, 62] }, type := _, pos := _, after := _, guard := none }) rfl (fun K hK => ?_) AllReady.nil
      have hown := HC.out.ownOf (e := 22) (sz := 1) (v := .slice a0 sums.length c0) (n := sums.length) (cs := vs) (by simp)
      have hsl : Sl _ 1 (.slice (some ⟨w3.heap.size, 0, none⟩) 1 1) 1 [.slice a6 b.length c6] := ((HC.out.blkOf (p := w3.heap.size) (cs := [.slice a6 b.length c6]) (T := 22) (by simp)).own (Nat.zero_le _) (by simp [Value.oneCell']) (by unfold maxLen; simp)).sl
      refine step_app2 rfl (.tmp 19) (.tmp 22) elRows rfl 0 (v := .slice a0 sums.length c0) (by simp [Act.eval]) hown.1 hown.2 (u := .slice (some ⟨w3.heap.size, 0, none⟩) 1 1) (by simp [Act.eval]) hsl (by unfold maxLen; omega) (by omega) (Nat.zero_le _) ?_
      intro v4 w4 ho hk hv
      obtain ⟨a4, c4, rfl, _, _⟩ := ho.sl.form
      have HC := Lib.hid (HC.out.pull5.append ho hk hv)
      clear ho hk hv hown hsl
      refine hK _ _ ?_
      clear hK K
      try simp only [Act.put, List.setIfInBounds_toArray, List.set_cons_zero, List.set_cons_succ]
      refine wpAny_take (i := 9) (oi := { dst := some 24, op := _, type := _, pos := _, after := _, guard := none }) (v := .pointer (some ⟨p, 0, none⟩)) rfl (by kernel_rfl) (by kernel_rfl) (by kernel_rfl) (fun _ _ _ h => h) (Or.inl ⟨by rfl, by intro w; go_simp⟩) ?_
      simp only [Act.put, List.setIfInBounds_toArray, List.set_cons_zero, List.set_cons_succ]
      refine wpAny_take (i := 10) (oi := { dst := some 25, op := _, type := _, pos := _, after := _, guard := none }) (v := .pointer (some ⟨p, 2, none⟩)) rfl (by kernel_rfl) (by kernel_rfl) (by kernel_rfl) (fun _ _ _ h => h) (Or.inl ⟨by rfl, by intro w; go_simp⟩) ?_
      simp only [Act.put, List.setIfInBounds_toArray, List.set_cons_zero, List.set_cons_succ]
      refine wpAny_ready (rs := [11]) (by decide +kernel) (by simp) ?_
      refine AllReady.cons (o := { dst := none, op := .store 62 (.tmp 25) (.tmp 23), type := _, pos := _, after := _, guard := none }) rfl (fun K hK => ?_) AllReady.nil
      have hblk := HC.out.blkOf (p := p) (cs := [kv, bv, .slice a0 sums.length c0, mp]) (T := 64) (by simp)
      have cc := hblk.cell 2
      have cf := hblk.frozen 2
      have ch := hblk.lt
      have HC := Lib.hid (HC.out.pull5.set 2 (.slice a4 (sums.length + 1) c4))
      clear hblk
      go_simp
      refine hK _ _ ?_
      clear hK K
      try simp only [Act.put, List.setIfInBounds_toArray, List.set_cons_zero, List.set_cons_succ]
      refine wpAny_done (by decide +kernel) ?_ _
      have HC := Lib.hid (sumsR_snoc (HC.out.front (m := [.blk p [kv, bv, .slice a4 (sums.length + 1) c4, mp] 64, .own 22 1 (.slice a4 (sums.length + 1) c4) (sums.length + 1) (vs ++ [.slice a6 b.length c6]), .blk w3.heap.size [.slice a6 b.length c6] 22, .row (.slice a6 b.length c6) b, .blk q [.slice av b.length cv] 22, sumsR vs sums]) [2, 4, 5, 3, 0, 1] 6 (by decide)).tail.tail).push3
      have HE : Hid ((sums ++ [b]).length = sums.length + 1) := Lib.hid (by simp)
      go_wp2_with fail
      refine (mark100 sums.length (by omega) _).mono ?_
      rintro e w7 ⟨rfl, hb⟩
      have HN := Lib.hid (Blk.new w7 zs16 68)
      have HC := Lib.hid (HC.out.step hb)
      have HKL : Hid ((bCells (markB 100 (sums.length + 1))).length = 16) := Lib.hid (by rw [bCells_length, markB_length])
      unfold keyV
      clear hb
      go_wp2_with ((with_reducible show wpList _ _ _ (⟨none, .store _ (.tmp 6) (.tmp 34), _, _, _, _⟩ :: _) _ _); refine wpList_stAgg rfl (.tmp 6) (.tmp 34) aggKey rfl rfl (vs := bCells (markB 100 (sums.length + 1))) rfl HKL.out HN.out (Nat.le_refl _) (bCells_one _) ?_)
      intro w8 h8 k8
      have hb8 : Below w7.heap.size w7 w8 := ((Below.refl _ _).alloc (Nat.le_refl _) _).trans (k8.below (by omega))
      have h8' : Blk w8 w7.heap.size (bCells (markB 100 (sums.length + 1))) 68 := by simpa [zs16] using h8
      have hrow : Bs w8 (.slice (some ⟨w7.heap.size, 0, none⟩) 16 16) (markB 100 (sums.length + 1)) := by
        have := h8'.bs (off := 0) (n := 16) (cap := 16) (by rw [markB_length]; decide) (Nat.le_refl _) (by unfold maxLen; decide)
        exact Sl.bs this (by simp [List.take_of_length_le, markB_length]) (markB_length _ _)
      have HC := Lib.hid (HC.out.addRow hb8 hrow (fun k _ hk => by simp [Value.ownBlock] at hk; omega))
      clear h8 h8' k8 hb8 hrow HN HKL
      go_wp2_with fail
      go_ret
      refine ⟨w7.heap.size, rfl, ?_⟩
      rw [HT.out, HM.out]
      refine tabR_shut (sv := .slice a4 (sums.length + 1) c4) (vs := vs ++ [.slice a6 b.length c6]) ?_
      rw [HE.out]
      exact HC.out.push4
    · have cc := (HC.out.blkOf (p := q) (cs := [.slice av b.length cv]) (T := 22) (by simp)).cell 0
      go_simp
      refine hK _ _ ?_
      clear hK K
      try simp only [Act.put, List.setIfInBounds_toArray, List.set_cons_zero, List.set_cons_succ]
      refine wpAny_ready (rs := [4, 6]) (by decide +kernel) (by simp) ?_
      refine AllReady.cons (o := { dst := some 19, op := .load 62 (.tmp 18), type := _, pos := _, after := _, guard := none }) rfl (fun K hK => ?_) (AllReady.cons (o := { dst := some 21, op := .call { callee := .value (.func 32), args := #[.tmp 20], argTypes := #[22] }, type := _, pos := _, after := _, guard := none }) rfl (fun K hK => ?_) AllReady.nil)
      · have cc := (HC.out.blkOf (p := p) (cs := [kv, bv, .slice a0 sums.length c0, mp]) (T := 64) (by simp)).cell 2
        go_simp
        refine hK _ _ ?_
        clear hK K
        try simp only [Act.put, List.setIfInBounds_toArray, List.set_cons_zero, List.set_cons_succ]
        refine wpAny_ready (rs := [6]) (by decide +kernel) (by simp) ?_
        refine AllReady.cons (o := { dst := some 21, op := .call { callee := .value (.func 32), args := #[.tmp 20], argTypes := #[22] }, type := _, pos := _, after := _, guard := none }) rfl (fun K hK => ?_) AllReady.nil
        go_simp
        refine (clone_any _ b _ HBS.out (by omega)).mono ?_
        rintro e w3 ⟨cl, rfl, ho, hv, hb⟩
        obtain ⟨a6, c6, rfl, _, _⟩ := ho.sl.form
        have HC := Lib.hid (HC.out.addOwnB hb ho hv).ownRow
        clear ho hv hb
        refine hK _ _ ?_
        clear hK K
        try simp only [Act.put, List.setIfInBounds_toArray, List.set_cons_zero, List.set_cons_succ]
        refine wpAny_ready (rs := [7]) (by decide +kernel) (by simp) ?_
        refine AllReady.cons (o := { dst := some 22, op := .buildSlice 62 1 #[(0, .tmp 21)], type := _, pos := _, after := _, guard := none }) rfl (fun K hK => ?_) AllReady.nil
        go_simp
        have HC := Lib.hid (HC.out.addBlk [.slice a6 b.length c6] 22)
        refine hK _ _ ?_
        clear hK K
        try simp only [Act.put, List.setIfInBounds_toArray, List.set_cons_zero, List.set_cons_succ]
        refine wpAny_ready (rs := [8]) (by decide +kernel) (by simp) ?_
        refine AllReady.cons (o := { dst := some 23, op := .call { callee := .builtin .append, args := #[.tmp 19, .tmp 22], argTypes := #[62, 62] }, type := _, pos := _, after := _, guard := none }) rfl (fun K hK => ?_) AllReady.nil
        have hown := HC.out.ownOf (e := 22) (sz := 1) (v := .slice a0 sums.length c0) (n := sums.length) (cs := vs) (by simp)
        have hsl : Sl _ 1 (.slice (some ⟨w3.heap.size, 0, none⟩) 1 1) 1 [.slice a6 b.length c6] := ((HC.out.blkOf (p := w3.heap.size) (cs := [.slice a6 b.length c6]) (T := 22) (by simp)).own (Nat.zero_le _) (by simp [Value.oneCell']) (by unfold maxLen; simp)).sl
        refine step_app2 rfl (.tmp 19) (.tmp 22) elRows rfl 0 (v := .slice a0 sums.length c0) (by simp [Act.eval]) hown.1 hown.2 (u := .slice (some ⟨w3.heap.size, 0, none⟩) 1 1) (by simp [Act.eval]) hsl (by unfold maxLen; omega) (by omega) (Nat.zero_le _) ?_
        intro v4 w4 ho hk hv
        obtain ⟨a4, c4, rfl, _, _⟩ := ho.sl.form
        have HC := Lib.hid (HC.out.pull5.append ho hk hv)
        clear ho hk hv hown hsl
        refine hK _ _ ?_
        clear hK K
        try simp only [Act.put, List.setIfInBounds_toArray, List.set_cons_zero, List.set_cons_succ]
        refine wpAny_take (i := 9) (oi := { dst := some 24, op := _, type := _, pos := _, after := _, guard := none }) (v := .pointer (some ⟨p, 0, none⟩)) rfl (by kernel_rfl) (by kernel_rfl) (by kernel_rfl) (fun _ _ _ h => h) (Or.inl ⟨by rfl, by intro w; go_simp⟩) ?_
        simp only [Act.put, List.setIfInBounds_toArray, List.set_cons_zero, List.set_cons_succ]
        refine wpAny_take (i := 10) (oi := { dst := some 25, op := _, type := _, pos := _, after := _, guard := none }) (v := .pointer (some ⟨p, 2, none⟩)) rfl (by kernel_rfl) (by kernel_rfl) (by kernel_rfl) (fun _ _ _ h => h) (Or.inl ⟨by rfl, by intro w; go_simp⟩) ?_
        simp only [Act.put, List.setIfInBounds_toArray, List.set_cons_zero, List.set_cons_succ]
        refine wpAny_ready (rs := [11]) (by decide +kernel) (by simp) ?_
        refine AllReady.cons (o := { dst := none, op := .store 62 (.tmp 25) (.tmp 23), type := _, pos := _, after := _, guard := none }) rfl (fun K hK => ?_) AllReady.nil
        have hblk := HC.out.blkOf (p := p) (cs := [kv, bv, .slice a0 sums.length c0, mp]) (T := 64) (by simp)
        have cc := hblk.cell 2
        have cf := hblk.frozen 2
        have ch := hblk.lt
        have HC := Lib.hid (HC.out.pull5.set 2 (.slice a4 (sums.length + 1) c4))
        clear hblk
        go_simp
        refine hK _ _ ?_
        clear hK K
        try simp only [Act.put, List.setIfInBounds_toArray, List.set_cons_zero, List.set_cons_succ]
        refine wpAny_done (by decide +kernel) ?_ _
        have HC := Lib.hid (sumsR_snoc (HC.out.front (m := [.blk p [kv, bv, .slice a4 (sums.length + 1) c4, mp] 64, .own 22 1 (.slice a4 (sums.length + 1) c4) (sums.length + 1) (vs ++ [.slice a6 b.length c6]), .blk w3.heap.size [.slice a6 b.length c6] 22, .row (.slice a6 b.length c6) b, .blk q [.slice av b.length cv] 22, sumsR vs sums]) [2, 4, 5, 3, 0, 1] 6 (by decide)).tail.tail).push3
        have HE : Hid ((sums ++ [b]).length = sums.length + 1) := Lib.hid (by simp)
        go_wp2_with fail
        refine (mark100 sums.length (by omega) _).mono ?_
        rintro e w7 ⟨rfl, hb⟩
        have HN := Lib.hid (Blk.new w7 zs16 68)
        have HC := Lib.hid (HC.out.step hb)
        have HKL : Hid ((bCells (markB 100 (sums.length + 1))).length = 16) := Lib.hid (by rw [bCells_length, markB_length])
        unfold keyV
        clear hb
        go_wp2_with ((with_reducible show wpList _ _ _ (⟨none, .store _ (.tmp 6) (.tmp 34), _, _, _, _⟩ :: _) _ _); refine wpList_stAgg rfl (.tmp 6) (.tmp 34) aggKey rfl rfl (vs := bCells (markB 100 (sums.length + 1))) rfl HKL.out HN.out (Nat.le_refl _) (bCells_one _) ?_)
        intro w8 h8 k8
        have hb8 : Below w7.heap.size w7 w8 := ((Below.refl _ _).alloc (Nat.le_refl _) _).trans (k8.below (by omega))
        have h8' : Blk w8 w7.heap.size (bCells (markB 100 (sums.length + 1))) 68 := by simpa [zs16] using h8
        have hrow : Bs w8 (.slice (some ⟨w7.heap.size, 0, none⟩) 16 16) (markB 100 (sums.length + 1)) := by
          have := h8'.bs (off := 0) (n := 16) (cap := 16) (by rw [markB_length]; decide) (Nat.le_refl _) (by unfold maxLen; decide)
          exact Sl.bs this (by simp [List.take_of_length_le, markB_length]) (markB_length _ _)
        have HC := Lib.hid (HC.out.addRow hb8 hrow (fun k _ hk => by simp [Value.ownBlock] at hk; omega))
        clear h8 h8' k8 hb8 hrow HN HKL
        go_wp2_with fail
        go_ret
        refine ⟨w7.heap.size, rfl, ?_⟩
        rw [HT.out, HM.out]
        refine tabR_shut (sv := .slice a4 (sums.length + 1) c4) (vs := vs ++ [.slice a6 b.length c6]) ?_
        rw [HE.out]
        exact HC.out.push4
      · go_simp
        refine (clone_any _ b _ HBS.out (by omega)).mono ?_
        rintro e w3 ⟨cl, rfl, ho, hv, hb⟩
        obtain ⟨a6, c6, rfl, _, _⟩ := ho.sl.form
        have HC := Lib.hid (HC.out.addOwnB hb ho hv).ownRow
        clear ho hv hb
        refine hK _ _ ?_
        clear hK K
        try simp only [Act.put, List.setIfInBounds_toArray, List.set_cons_zero, List.set_cons_succ]
        refine wpAny_ready (rs := [4, 7]) (by decide +kernel) (by simp) ?_
        refine AllReady.cons (o := { dst := some 19, op := .load 62 (.tmp 18), type := _, pos := _, after := _, guard := none }) rfl (fun K hK => ?_) (AllReady.cons (o := { dst := some 22, op := .buildSlice 62 1 #[(0, .tmp 21)], type := _, pos := _, after := _, guard := none }) rfl (fun K hK => ?_) AllReady.nil)
        · have cc := (HC.out.blkOf (p := p) (cs := [kv, bv, .slice a0 sums.length c0, mp]) (T := 64) (by simp)).cell 2
          go_simp
          refine hK _ _ ?_
          clear hK K
          try simp only [Act.put, List.setIfInBounds_toArray, List.set_cons_zero, List.set_cons_succ]
          refine wpAny_ready (rs := [7]) (by decide +kernel) (by simp) ?_
          refine AllReady.cons (o := { dst := some 22, op := .buildSlice 62 1 #[(0, .tmp 21)], type := _, pos := _, after := _, guard := none }) rfl (fun K hK => ?_) AllReady.nil
          go_simp
          have HC := Lib.hid (HC.out.addBlk [.slice a6 b.length c6] 22)
          refine hK _ _ ?_
          clear hK K
          try simp only [Act.put, List.setIfInBounds_toArray, List.set_cons_zero, List.set_cons_succ]
          refine wpAny_ready (rs := [8]) (by decide +kernel) (by simp) ?_
          refine AllReady.cons (o := { dst := some 23, op := .call { callee := .builtin .append, args := #[.tmp 19, .tmp 22], argTypes := #[62, 62] }, type := _, pos := _, after := _, guard := none }) rfl (fun K hK => ?_) AllReady.nil
          have hown := HC.out.ownOf (e := 22) (sz := 1) (v := .slice a0 sums.length c0) (n := sums.length) (cs := vs) (by simp)
          have hsl : Sl _ 1 (.slice (some ⟨w3.heap.size, 0, none⟩) 1 1) 1 [.slice a6 b.length c6] := ((HC.out.blkOf (p := w3.heap.size) (cs := [.slice a6 b.length c6]) (T := 22) (by simp)).own (Nat.zero_le _) (by simp [Value.oneCell']) (by unfold maxLen; simp)).sl
          refine step_app2 rfl (.tmp 19) (.tmp 22) elRows rfl 0 (v := .slice a0 sums.length c0) (by simp [Act.eval]) hown.1 hown.2 (u := .slice (some ⟨w3.heap.size, 0, none⟩) 1 1) (by simp [Act.eval]) hsl (by unfold maxLen; omega) (by omega) (Nat.zero_le _) ?_
          intro v4 w4 ho hk hv
          obtain ⟨a4, c4, rfl, _, _⟩ := ho.sl.form
          have HC := Lib.hid (HC.out.pull5.append ho hk hv)
          clear ho hk hv hown hsl
          refine hK _ _ ?_
          clear hK K
          try simp only [Act.put, List.setIfInBounds_toArray, List.set_cons_zero, List.set_cons_succ]
          refine wpAny_take (i := 9) (oi := { dst := some 24, op := _, type := _, pos := _, after := _, guard := none }) (v := .pointer (some ⟨p, 0, none⟩)) rfl (by kernel_rfl) (by kernel_rfl) (by kernel_rfl) (fun _ _ _ h => h) (Or.inl ⟨by rfl, by intro w; go_simp⟩) ?_
          simp only [Act.put, List.setIfInBounds_toArray, List.set_cons_zero, List.set_cons_succ]
          refine wpAny_take (i := 10) (oi := { dst := some 25, op := _, type := _, pos := _, after := _, guard := none }) (v := .pointer (some ⟨p, 2, none⟩)) rfl (by kernel_rfl) (by kernel_rfl) (by kernel_rfl) (fun _ _ _ h => h) (Or.inl ⟨by rfl, by intro w; go_simp⟩) ?_
          simp only [Act.put, List.setIfInBounds_toArray, List.set_cons_zero, List.set_cons_succ]
          refine wpAny_ready (rs := [11]) (by decide +kernel) (by simp) ?_
          refine AllReady.cons (o := { dst := none, op := .store 62 (.tmp 25) (.tmp 23), type := _, pos := _, after := _, guard := none }) rfl (fun K hK => ?_) AllReady.nil
          have hblk := HC.out.blkOf (p := p) (cs := [kv, bv, .slice a0 sums.length c0, mp]) (T := 64) (by simp)
          have cc := hblk.cell 2
          have cf := hblk.frozen 2
          have ch := hblk.lt
          have HC := Lib.hid (HC.out.pull5.set 2 (.slice a4 (sums.length + 1) c4))
          clear hblk
          go_simp
          refine hK _ _ ?_
          clear hK K
          try simp only [Act.put, List.setIfInBounds_toArray, List.set_cons_zero, List.set_cons_succ]
          refine wpAny_done (by decide +kernel) ?_ _
          have HC := Lib.hid (sumsR_snoc (HC.out.front (m := [.blk p [kv, bv, .slice a4 (sums.length + 1) c4, mp] 64, .own 22 1 (.slice a4 (sums.length + 1) c4) (sums.length + 1) (vs ++ [.slice a6 b.length c6]), .blk w3.heap.size [.slice a6 b.length c6] 22, .row (.slice a6 b.length c6) b, .blk q [.slice av b.length cv] 22, sumsR vs sums]) [2, 4, 5, 3, 0, 1] 6 (by decide)).tail.tail).push3
          have HE : Hid ((sums ++ [b]).length = sums.length + 1) := Lib.hid (by simp)
          go_wp2_with fail
          refine (mark100 sums.length (by omega) _).mono ?_
          rintro e w7 ⟨rfl, hb⟩
          have HN := Lib.hid (Blk.new w7 zs16 68)
          have HC := Lib.hid (HC.out.step hb)
          have HKL : Hid ((bCells (markB 100 (sums.length + 1))).length = 16) := Lib.hid (by rw [bCells_length, markB_length])
          unfold keyV
          clear hb
          go_wp2_with ((with_reducible show wpList _ _ _ (⟨none, .store _ (.tmp 6) (.tmp 34), _, _, _, _⟩ :: _) _ _); refine wpList_stAgg rfl (.tmp 6) (.tmp 34) aggKey rfl rfl (vs := bCells (markB 100 (sums.length + 1))) rfl HKL.out HN.out (Nat.le_refl _) (bCells_one _) ?_)
          intro w8 h8 k8
          have hb8 : Below w7.heap.size w7 w8 := ((Below.refl _ _).alloc (Nat.le_refl _) _).trans (k8.below (by omega))
          have h8' : Blk w8 w7.heap.size (bCells (markB 100 (sums.length + 1))) 68 := by simpa [zs16] using h8
          have hrow : Bs w8 (.slice (some ⟨w7.heap.size, 0, none⟩) 16 16) (markB 100 (sums.length + 1)) := by
            have := h8'.bs (off := 0) (n := 16) (cap := 16) (by rw [markB_length]; decide) (Nat.le_refl _) (by unfold maxLen; decide)
            exact Sl.bs this (by simp [List.take_of_length_le, markB_length]) (markB_length _ _)
          have HC := Lib.hid (HC.out.addRow hb8 hrow (fun k _ hk => by simp [Value.ownBlock] at hk; omega))
          clear h8 h8' k8 hb8 hrow HN HKL
          go_wp2_with fail
          go_ret
          refine ⟨w7.heap.size, rfl, ?_⟩
          rw [HT.out, HM.out]
          refine tabR_shut (sv := .slice a4 (sums.length + 1) c4) (vs := vs ++ [.slice a6 b.length c6]) ?_
          rw [HE.out]
          exact HC.out.push4
        · go_simp
          have HC := Lib.hid (HC.out.addBlk [.slice a6 b.length c6] 22)
          refine hK _ _ ?_
          clear hK K
          try simp only [Act.put, List.setIfInBounds_toArray, List.set_cons_zero, List.set_cons_succ]
          refine wpAny_ready (rs := [4]) (by decide +kernel) (by simp) ?_
          refine AllReady.cons (o := { dst := some 19, op := .load 62 (.tmp 18), type := _, pos := _, after := _, guard := none }) rfl (fun K hK => ?_) AllReady.nil
          have cc := (HC.out.blkOf (p := p) (cs := [kv, bv, .slice a0 sums.length c0, mp]) (T := 64) (by simp)).cell 2
          go_simp
          refine hK _ _ ?_
          clear hK K
          try simp only [Act.put, List.setIfInBounds_toArray, List.set_cons_zero, List.set_cons_succ]
          refine wpAny_ready (rs := [8]) (by decide +kernel) (by simp) ?_
          refine AllReady.cons (o := { dst := some 23, op := .call { callee := .builtin .append, args := #[.tmp 19, .tmp 22], argTypes := #[62, 62] }, type := _, pos := _, after := _, guard := none }) rfl (fun K hK => ?_) AllReady.nil
          have hown := HC.out.ownOf (e := 22) (sz := 1) (v := .slice a0 sums.length c0) (n := sums.length) (cs := vs) (by simp)
          have hsl : Sl _ 1 (.slice (some ⟨w3.heap.size, 0, none⟩) 1 1) 1 [.slice a6 b.length c6] := ((HC.out.blkOf (p := w3.heap.size) (cs := [.slice a6 b.length c6]) (T := 22) (by simp)).own (Nat.zero_le _) (by simp [Value.oneCell']) (by unfold maxLen; simp)).sl
          refine step_app2 rfl (.tmp 19) (.tmp 22) elRows rfl 0 (v := .slice a0 sums.length c0) (by simp [Act.eval]) hown.1 hown.2 (u := .slice (some ⟨w3.heap.size, 0, none⟩) 1 1) (by simp [Act.eval]) hsl (by unfold maxLen; omega) (by omega) (Nat.zero_le _) ?_
          intro v4 w4 ho hk hv
          obtain ⟨a4, c4, rfl, _, _⟩ := ho.sl.form
          have HC := Lib.hid (HC.out.pull5.append ho hk hv)
          clear ho hk hv hown hsl
          refine hK _ _ ?_
          clear hK K
          try simp only [Act.put, List.setIfInBounds_toArray, List.set_cons_zero, List.set_cons_succ]
          refine wpAny_take (i := 9) (oi := { dst := some 24, op := _, type := _, pos := _, after := _, guard := none }) (v := .pointer (some ⟨p, 0, none⟩)) rfl (by kernel_rfl) (by kernel_rfl) (by kernel_rfl) (fun _ _ _ h => h) (Or.inl ⟨by rfl, by intro w; go_simp⟩) ?_
          simp only [Act.put, List.setIfInBounds_toArray, List.set_cons_zero, List.set_cons_succ]
          refine wpAny_take (i := 10) (oi := { dst := some 25, op := _, type := _, pos := _, after := _, guard := none }) (v := .pointer (some ⟨p, 2, none⟩)) rfl (by kernel_rfl) (by kernel_rfl) (by kernel_rfl) (fun _ _ _ h => h) (Or.inl ⟨by rfl, by intro w; go_simp⟩) ?_
          simp only [Act.put, List.setIfInBounds_toArray, List.set_cons_zero, List.set_cons_succ]
          refine wpAny_ready (rs := [11]) (by decide +kernel) (by simp) ?_
          refine AllReady.cons (o := { dst := none, op := .store 62 (.tmp 25) (.tmp 23), type := _, pos := _, after := _, guard := none }) rfl (fun K hK => ?_) AllReady.nil
          have hblk := HC.out.blkOf (p := p) (cs := [kv, bv, .slice a0 sums.length c0, mp]) (T := 64) (by simp)
          have cc := hblk.cell 2
          have cf := hblk.frozen 2
          have ch := hblk.lt
          have HC := Lib.hid (HC.out.pull5.set 2 (.slice a4 (sums.length + 1) c4))
          clear hblk
          go_simp
          refine hK _ _ ?_
          clear hK K
          try simp only [Act.put, List.setIfInBounds_toArray, List.set_cons_zero, List.set_cons_succ]
          refine wpAny_done (by decide +kernel) ?_ _
          have HC := Lib.hid (sumsR_snoc (HC.out.front (m := [.blk p [kv, bv, .slice a4 (sums.length + 1) c4, mp] 64, .own 22 1 (.slice a4 (sums.length + 1) c4) (sums.length + 1) (vs ++ [.slice a6 b.length c6]), .blk w3.heap.size [.slice a6 b.length c6] 22, .row (.slice a6 b.length c6) b, .blk q [.slice av b.length cv] 22, sumsR vs sums]) [2, 4, 5, 3, 0, 1] 6 (by decide)).tail.tail).push3
          have HE : Hid ((sums ++ [b]).length = sums.length + 1) := Lib.hid (by simp)
          go_wp2_with fail
          refine (mark100 sums.length (by omega) _).mono ?_
          rintro e w7 ⟨rfl, hb⟩
          have HN := Lib.hid (Blk.new w7 zs16 68)
          have HC := Lib.hid (HC.out.step hb)
          have HKL : Hid ((bCells (markB 100 (sums.length + 1))).length = 16) := Lib.hid (by rw [bCells_length, markB_length])
          unfold keyV
          clear hb
          go_wp2_with ((with_reducible show wpList _ _ _ (⟨none, .store _ (.tmp 6) (.tmp 34), _, _, _, _⟩ :: _) _ _); refine wpList_stAgg rfl (.tmp 6) (.tmp 34) aggKey rfl rfl (vs := bCells (markB 100 (sums.length + 1))) rfl HKL.out HN.out (Nat.le_refl _) (bCells_one _) ?_)
          intro w8 h8 k8
          have hb8 : Below w7.heap.size w7 w8 := ((Below.refl _ _).alloc (Nat.le_refl _) _).trans (k8.below (by omega))
          have h8' : Blk w8 w7.heap.size (bCells (markB 100 (sums.length + 1))) 68 := by simpa [zs16] using h8
          have hrow : Bs w8 (.slice (some ⟨w7.heap.size, 0, none⟩) 16 16) (markB 100 (sums.length + 1)) := by
            have := h8'.bs (off := 0) (n := 16) (cap := 16) (by rw [markB_length]; decide) (Nat.le_refl _) (by unfold maxLen; decide)
            exact Sl.bs this (by simp [List.take_of_length_le, markB_length]) (markB_length _ _)
          have HC := Lib.hid (HC.out.addRow hb8 hrow (fun k _ hk => by simp [Value.ownBlock] at hk; omega))
          clear h8 h8' k8 hb8 hrow HN HKL
          go_wp2_with fail
          go_ret
          refine ⟨w7.heap.size, rfl, ?_⟩
          rw [HT.out, HM.out]
          refine tabR_shut (sv := .slice a4 (sums.length + 1) c4) (vs := vs ++ [.slice a6 b.length c6]) ?_
          rw [HE.out]
          exact HC.out.push4
end Go.Proofs.Ytogfkfoklnpfhaa
