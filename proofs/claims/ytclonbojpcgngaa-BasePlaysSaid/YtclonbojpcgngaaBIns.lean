/- Contract: slices.Insert over users. (Printed by wip/tools/genins.py.) -/
import Derived.Test.YtclonbojpcgngaaBDel
import Derived.Lib.AppendZerosOnto
import Derived.Lib.Overlaps
import Derived.Laws.Externs
namespace Go.Proofs.Ytclonbojpcgngaa
set_option linter.unusedSimpArgs false
set_option linter.unusedVariables false
open Go.RowKit

theorem run_sliceAny {a : Option Addr} {n cap i : Nat} (hi : i ≤ n) (hc : n ≤ cap) (ha : a = none → cap = 0) (W : World) : ∃ X, (Instr.sliceAt 62 (.slice a n cap) (some (.int .i64 i)) none none).run Try.prog W = .ok X W := by
  have h2 : ¬ ((i : Int) < 0) := by omega
  have h3 : ¬ (n < i) := by omega
  cases a with
  | none =>
    have hc0 := ha rfl
    subst hc0
    obtain rfl : n = 0 := by omega
    obtain rfl : i = 0 := by omega
    exact ⟨_, by simp [Instr.sliceAt, Instr.slice, Instr.sliceBounds, Instr.sliceBound, run_underlying Try.underlying62, asIntOf, szU]; rfl⟩
  | some ad => exact ⟨_, by simp [Instr.sliceAt, Instr.slice, Instr.sliceBounds, Instr.sliceBound, run_underlying Try.underlying62, asIntOf, szU, h2, h3, hi]; rfl⟩

theorem Blk.slZ {w : World} {g sz : Nat} {cs : List Value} {T : TypeId} (h : Blk w g cs T) (hl : cs.length = sz) (h1 : ∀ u ∈ cs, u.oneCell' = true) : Sl w sz (.slice (some ⟨g, 0, none⟩) 1 1) 1 cs :=
  ⟨by omega, h1, _, 1, rfl, Nat.le_refl _, by unfold maxLen; decide, fun h => by simp at h, .inr ⟨g, 0, rfl, fun j u hj => by rw [Nat.zero_add, h.cell]; exact hj⟩⟩

theorem grow_zeros {w : World} {g cap i k n : Nat} {cur : List Value} {L : List Us} (hb : Blk w g cur 30) (hn : L.length = n) (htk : cur.take (n * 20) = usC L) (hi : i ≤ n) (hik : i + k = n + 1) (hk : 0 < k) (hg : cap < n + 1) (hl : n ≤ 1000) :
    ∃ (gc : Nat) (zs : List Value), n + 1 ≤ gc ∧ gc ≤ maxLen ∧ zs.length = (gc - i) * 20 ∧ ∀ ty, (Builtin.append_ #[62, 3] ty #[.slice (some ⟨g, 0, none⟩) i cap, .int .i64 k]).run Try.prog w =
      .ok (.slice (some ⟨w.heap.size, 0, none⟩) (n + 1) gc) (w.drew.alloc (.cells (usC (L.take i) ++ zs).toArray 30)) := by
  obtain ⟨ht, ie, hie, hz, hsize, hby, hzs, hsz⟩ := elUs
  have hge := grownCap_ge w (i + k) cap 30
  have hle := grownCap_le_maxLen w (i + k) cap 30 (by unfold maxLen; omega)
  have hnx := nextslicecap_le (need := i + k) (old := cap) (by omega)
  have hl1 : (usC (L.take i)).length = i * 20 := by rw [usC_length, List.length_take]; congr 1; omega
  have hold := run_firstCells_some (P := Try.prog) w.drew ie.size i ⟨g, 0, none⟩ i cap (usC (L.take i)) (by rw [hsize]; exact hl1) (fun j u hj => by
    rw [Addr.add_lit, Nat.zero_add, hb.drew.cell]
    rw [usC_take, ← htk, List.getElem?_take] at hj
    split at hj
    · rw [List.getElem?_take] at hj
      split at hj
      · exact hj
      · cases hj
    · cases hj)
  have hr := fun ty => Lib.run_append_grow_zeros (P := Try.prog) w 62 3 ty 30 ie _ .i64 .i64 ht Try.underlying3 hie hz (some ⟨g, 0, none⟩) i cap (usC (L.take i)) hold k hk (by rw [hsize]; decide) (by omega) (by omega) (by rw [hby]; omega) (by
    rw [hby]
    have : Builtin.nextslicecap (i + k) cap * 56 ≤ (2 * (i + k)) * 56 := Nat.mul_le_mul_right _ hnx
    omega)
  rw [hik] at hr hge hle
  refine ⟨_, (Builtin.zeroCells (Value.agg zsU.toArray).cells k).toList ++ (Builtin.zeroCells (Value.agg zsU.toArray).cells (grownCap w (n + 1) cap 30 - (n + 1))).toList, hge, hle, ?_, fun ty => ?_⟩
  · rw [List.length_append, zeroCells_len, zeroCells_len, hzs]
    omega
  · rw [hr ty]
    congr 3
    rw [List.append_toArray, ← List.append_assoc]
    simp

theorem Hold.blk_ne {W : World} {g q : Nat} {c c' : List Value} {T T' : TypeId} {l : List Res} (h : Hold W (.blk g c T :: .blk q c' T' :: l)) : g ≠ q := by
  rintro rfl
  obtain ⟨F1, F2, h1, h2, h3⟩ := Hold.cons.1 h
  obtain ⟨G1, G2, k1, k2, _, k3⟩ := h2
  exact h3 g ((h1.2 g).2 rfl) (by first | exact (k3 g).2 (.inl ((k1.2 g).2 rfl)) | exact k3 g ((k1.2 g).2 rfl))
theorem shape_blk {w : World} {g : Nat} {cur : List Value} {T : TypeId} (hb : Blk w g cur T) : w.shape? g = some (T, cur.length) := by
  have h : w.heap[g]? = _ := hb
  simp [World.shape?, h]

set_option maxRecDepth 100000 in
set_option maxHeartbeats 2000000 in
theorem insert_end (v : Value) (L : List Us) (u : Us) (gq : Nat) (l : List Res) (w : World) (h : Hold w (.own 30 20 v L.length (usC L) :: .blk gq u.cells 30 :: l)) (hl : L.length ≤ 1000) :
    Calls Try.prog 25 #[v, .int .i64 L.length, .slice (some ⟨gq, 0, none⟩) 1 1] w fun e w' => ∃ v', e = .returned v' ∧ Hold w' (.own 30 20 v' (L.length + 1) (usC (L ++ [u])) :: .blk gq u.cells 30 :: l) := by
  have hown := h.ownOf (List.mem_cons_self)
  obtain ⟨a, cap, rfl, hc, hm⟩ := hown.1.sl.form
  have ha : a = none → cap = 0 := by
    rintro rfl
    obtain ⟨_, _, ⟨_, h1, h2⟩ | ⟨g, c, cur, h1, _⟩⟩ := hown.1
    · simp at h1; omega
    · simp at h1
  have hx := fun W => run_sliceAny (a := a) (i := L.length) (Nat.le_refl _) hc ha W
  obtain ⟨X, hX⟩ : ∃ X : World → Value, ∀ W, (Instr.sliceAt 62 (.slice a L.length cap) (some (.int .i64 L.length)) none none).run Try.prog W = .ok (X W) W := ⟨fun W => (hx W).choose, fun W => (hx W).choose_spec⟩
  have HOWN := Lib.hid hown
  have HSL := Lib.hid ((h.blkOf (p := gq) (cs := u.cells) (T := 30) (by simp)).slZ u.cells_length u.cells_one)
  have HC := Lib.hid h
  unfold maxLen at hm
  clear h hown ha hx
  go_enter Try.func25, Try.ntmps25
  go_wp2_with ((with_reducible show wpList _ _ _ (⟨some 25, _, _, _, _, _⟩ :: _) _ _); refine wpList_app2 rfl (.tmp 23) (.tmp 24) elUs rfl 0 HOWN.out.1 HOWN.out.2 HSL.out (by unfold maxLen; omega) (by omega) (Nat.zero_le _) ?_)
  intro v' w' h1 h2 h3
  have HD := Lib.hid (HC.out.append (B := 0) h1 (h2.mono fun k h => by simpa using h) (fun k h => by simpa using h3 k h))
  clear h1 h2 h3
  go_wp2_with fail
  go_ret
  refine ⟨v', rfl, ?_⟩
  rw [usC_append, usC_one1]
  exact HD.out

set_option maxRecDepth 100000 in
set_option maxHeartbeats 4000000 in
theorem insert_room (L : List Us) (u : Us) (i g gq cap : Nat) (cur : List Value) (l : List Res) (w : World) (h : Hold w (.blk g cur 30 :: .blk gq u.cells 30 :: l)) (hcl : cur.length = cap * 20) (htk : cur.take (L.length * 20) = usC L) (hcm : cap ≤ maxLen)
    (hi : i < L.length) (hroom : L.length + 1 ≤ cap) (hl : L.length ≤ 1000) :
    Calls Try.prog 25 #[.slice (some ⟨g, 0, none⟩) L.length cap, .int .i64 i, .slice (some ⟨gq, 0, none⟩) 1 1] w fun e w' => ∃ v', e = .returned v' ∧ Hold w' (.own 30 20 v' (L.length + 1) (usC (L.take i ++ u :: L.drop i)) :: .blk gq u.cells 30 :: l) := by
  obtain ⟨n, hn⟩ : ∃ n, n = L.length := ⟨_, rfl⟩
  have hb := h.blkOf (p := g) (cs := cur) (T := 30) (by simp)
  have hbq := h.blkOf (p := gq) (cs := u.cells) (T := 30) (by simp)
  have hne : gq ≠ g := h.blk_ne.symm
  have HC := Lib.hid h
  have HTK := Lib.hid htk
  have HCL := Lib.hid hcl
  have HCM := Lib.hid hcm
  obtain ⟨ad, had, hsrc⟩ := usC_src (cap := cap) hb htk i (by omega) (by omega)
  have hcn : ¬ cap = i := by omega
  simp only [cutAt, if_neg hcn, Option.some.injEq] at had
  subst had
  have HSRC := Lib.hid hsrc
  have HB := Lib.hid hb
  have HBQ := Lib.hid hbq
  rw [← hn] at hi hroom hl ⊢
  have f0 : ∀ W, (Instr.sliceAt 62 (.slice (some ⟨g, 0, none⟩) n cap) (some (.int .i64 i)) none none).run Try.prog W = .ok (.slice (some ⟨g, i * 20, none⟩) (n - i) (cap - i)) W := fun W => by
    have := run_sliceR (P := Try.prog) Try.underlying62 szU g n cap i (by omega) (by omega) W
    rw [cutAt, if_neg hcn] at this
    exact this
  have f1 : ∀ W, (Instr.sliceAt 62 (.slice (some ⟨g, 0, none⟩) n cap) none (some (.int .i64 ((n : Int) + 1))) none).run Try.prog W = .ok (.slice (some ⟨g, 0, none⟩) (n + 1) cap) W := fun W => run_sliceL (P := Try.prog) Try.underlying62 szU g n cap (n + 1) (by omega) W
  have f2 : ∀ W, (Instr.sliceAt 62 (.slice (some ⟨g, 0, none⟩) (n + 1) cap) (some (.int .i64 ((i : Int) + 1))) none none).run Try.prog W = .ok (.slice (some ⟨g, (i + 1) * 20, none⟩) (n - i) (cap - (i + 1))) W := fun W => by
    have := run_sliceR (P := Try.prog) Try.underlying62 szU g (n + 1) cap (i + 1) (by omega) (by omega) W
    rw [cutAt, if_neg (by omega), show n + 1 - (i + 1) = n - i by omega] at this
    exact this
  have f3 : ∀ W, (Instr.sliceAt 62 (.slice (some ⟨g, 0, none⟩) (n + 1) cap) (some (.int .i64 i)) none none).run Try.prog W = .ok (.slice (some ⟨g, i * 20, none⟩) (n + 1 - i) (cap - i)) W := fun W => by
    have := run_sliceR (P := Try.prog) Try.underlying62 szU g (n + 1) cap i (by omega) (by omega) W
    rw [cutAt, if_neg hcn] at this
    exact this
  have hin : ((i : Int) == (n : Int)) = false := by simp; omega
  have hgt : ¬ ((cap : Int) < (n : Int) + 1) := by omega
  have F2 := Lib.hid f2
  have F3 := Lib.hid f3
  have hdl : (usC (L.drop i)).length = (n - i) * 20 := by rw [usC_length, List.length_drop, ← hn]
  have HDL := Lib.hid hdl
  have HNE := Lib.hid hne
  have HN := Lib.hid hn
  have hov : (Extern.SlicesOverlaps.overlaps #[62, 62] #[4] #[.slice (some ⟨gq, 0, none⟩) 1 1, .slice (some ⟨g, (i + 1) * 20, none⟩) (n - i) (cap - (i + 1))]).run Try.prog w = .ok (.bool false) w :=
    Lib.run_overlaps_apart w 62 4 30 Try.underlying62 20 szU ⟨gq, 0, none⟩ ⟨g, (i + 1) * 20, none⟩ 1 1 (n - i) (cap - (i + 1)) hne 30 30 _ _ (shape_blk hbq) (shape_blk hb) (by rw [hcl]; omega) (hbq.frozen 0) (hbq.frozen _)
  have HOV := Lib.hid hov
  clear h hb hbq hne htk hcl hcm hsrc hdl hn hov
  go_enter Try.func25, Try.ntmps25
  go_upto_region 15 with fail
  rw [run_callFunc_extern Try.func35 (by kernel_rfl) (by kernel_rfl) (by kernel_rfl) (e := Extern.SlicesOverlaps.overlaps #[62, 62] #[4]) (by kernel_rfl), HOV.out]
  simp only [Result.andThen]
  rw [Oper.upon_value]
  go_upto_region 15 with fail
  refine wp_region_held (S := fun _ : World => True) (by kernel_rfl) ?_
  change wpAnyH _ _ _ _ _ _ _ _ (World.drew _)
  refine wpAnyH_take (i := 0) (oi := { dst := some 69, op := _, type := _, pos := _, after := _, guard := none }) (v := .slice (some ⟨g, 0, none⟩) (n + 1) cap) rfl (by kernel_rfl) (by kernel_rfl) (by kernel_rfl) (fun _ _ _ h => h) (Or.inl ⟨by rfl, by intro W hW; go_simp⟩) trivial ?_
  simp only [Act.put, List.setIfInBounds_toArray, List.set_cons_zero, List.set_cons_succ]
  refine wpAnyH_take (i := 1) (oi := { dst := some 70, op := _, type := _, pos := _, after := _, guard := none }) (v := .int .i64 i) rfl (by kernel_rfl) (by kernel_rfl) (by kernel_rfl) (fun _ _ _ h => h) (Or.inl ⟨by rfl, by intro W hW; go_simp⟩) trivial ?_
  simp only [Act.put, List.setIfInBounds_toArray, List.set_cons_zero, List.set_cons_succ]
  refine wpAnyH_take (i := 2) (oi := { dst := some 71, op := _, type := _, pos := _, after := _, guard := none }) (v := .int .i64 1) rfl (by kernel_rfl) (by kernel_rfl) (by kernel_rfl) (fun _ _ _ h => h) (Or.inl ⟨by rfl, by intro W hW; go_simp⟩) trivial ?_
  simp only [Act.put, List.setIfInBounds_toArray, List.set_cons_zero, List.set_cons_succ]
  refine wpAnyH_take (i := 3) (oi := { dst := some 72, op := _, type := _, pos := _, after := _, guard := none }) (v := .int .i64 ((i : Int) + 1)) rfl (by kernel_rfl) (by kernel_rfl) (by kernel_rfl) (fun _ _ _ h => h) (Or.inl ⟨by rfl, by intro W hW; go_simp; rw [IntKind.wrap_i64]; omega⟩) trivial ?_
  simp only [Act.put, List.setIfInBounds_toArray, List.set_cons_zero, List.set_cons_succ]
  refine wpAnyH_take (i := 4) (oi := { dst := some 73, op := _, type := _, pos := _, after := _, guard := none }) (v := .slice (some ⟨g, (i + 1) * 20, none⟩) (n - i) (cap - (i + 1))) rfl (by kernel_rfl) (by kernel_rfl) (by kernel_rfl) (fun _ _ _ h => h) (Or.inl ⟨by rfl, by intro W hW; exact exec_slice rfl (F2.out W)⟩) trivial ?_
  simp only [Act.put, List.setIfInBounds_toArray, List.set_cons_zero, List.set_cons_succ]
  refine wpAnyH_take (i := 5) (oi := { dst := some 74, op := _, type := _, pos := _, after := _, guard := none }) (v := .slice (some ⟨g, 0, none⟩) (n + 1) cap) rfl (by kernel_rfl) (by kernel_rfl) (by kernel_rfl) (fun _ _ _ h => h) (Or.inl ⟨by rfl, by intro W hW; go_simp⟩) trivial ?_
  simp only [Act.put, List.setIfInBounds_toArray, List.set_cons_zero, List.set_cons_succ]
  refine wpAnyH_take (i := 6) (oi := { dst := some 75, op := _, type := _, pos := _, after := _, guard := none }) (v := .int .i64 i) rfl (by kernel_rfl) (by kernel_rfl) (by kernel_rfl) (fun _ _ _ h => h) (Or.inl ⟨by rfl, by intro W hW; go_simp⟩) trivial ?_
  simp only [Act.put, List.setIfInBounds_toArray, List.set_cons_zero, List.set_cons_succ]
  refine wpAnyH_take (i := 7) (oi := { dst := some 76, op := _, type := _, pos := _, after := _, guard := none }) (v := .slice (some ⟨g, i * 20, none⟩) (n + 1 - i) (cap - i)) rfl (by kernel_rfl) (by kernel_rfl) (by kernel_rfl) (fun _ _ _ h => h) (Or.inl ⟨by rfl, by intro W hW; exact exec_slice rfl (F3.out W)⟩) trivial ?_
  simp only [Act.put, List.setIfInBounds_toArray, List.set_cons_zero, List.set_cons_succ]
  refine anyH_ready (rs := [8]) (by decide +kernel) (by simp) ?_
  refine AllReadyH.cons (o := { dst := some 77, op := .call { callee := .builtin .copy, args := #[.tmp 73, .tmp 76], argTypes := #[62, 62] }, type := _, pos := _, after := _, guard := none }) rfl (fun K hK => ?_) AllReadyH.nil
  refine step_cpZ rfl (.tmp 73) (.tmp 76) elUs rfl rfl HB.out.drew rfl (cs := usC (L.drop i)) (by rw [HDL.out]; congr 1; omega) (usC_one _) HSRC.out (by rw [HDL.out, HCL.out]; omega) ?_
  intro w1 hb1 hk1
  have HC1 := Lib.hid (HC.out.drew.blkTurn hb1 hk1)
  have HB1 := Lib.hid hb1
  clear hb1 hk1
  refine hK _ _ trivial ?_
  clear hK K
  try simp only [Act.put, List.setIfInBounds_toArray, List.set_cons_zero, List.set_cons_succ]
  refine wpAnyH_done (by decide +kernel) ?_ _
  obtain ⟨c1, hc1⟩ : ∃ c1, c1 = cur.take ((i + 1) * 20) ++ usC (L.drop i) ++ cur.drop ((i + 1) * 20 + (usC (L.drop i)).length) := ⟨_, rfl⟩
  rw [← hc1] at HC1 HB1
  have hc1l : c1.length = cap * 20 := by
    rw [hc1]
    simp only [List.length_append, List.length_take, List.length_drop, HDL.out, HCL.out]
    omega
  have HC1E := Lib.hid hc1
  have HC1L := Lib.hid hc1l
  have HBQ1 := Lib.hid (HC1.out.blkOf (p := gq) (cs := u.cells) (T := 30) (by simp))
  have HONE : Hid ((1 : Nat) = min 1 (n + 1 - i)) := Lib.hid (by omega)
  clear hc1 hc1l
  go_wp2_with ((with_reducible show wpList _ _ _ (⟨some 82, _, _, _, _, _⟩ :: _) _ _); refine wpList_cpZ rfl (.tmp 80) (.tmp 81) elUs rfl rfl HB1.out rfl (cs := u.cells) (by rw [u.cells_length, ← HONE.out]) u.cells_one (fun j v hj => by rw [Addr.add_lit, Nat.zero_add, HBQ1.out.cell]; exact hj) (by rw [u.cells_length, HC1L.out]; omega) ?_)
  intro w2 h2 k2
  have HC2 := HC1.out.blkTurn h2 k2
  have hq1 : (usC (L.take i)).length = i * 20 := by rw [usC_length, List.length_take, ← HN.out]; congr 1; omega
  have HC3 := HC2.blkOwn 20 (n + 1) cap (cs := usC (L.take i ++ u :: L.drop i)) (by
    simp only [List.length_append, List.length_take, List.length_drop, u.cells_length, HC1L.out]
    omega) (by omega) HCM.out (by
    have e1 : c1.take (i * 20) = usC (L.take i) := by
      rw [HC1E.out, List.append_assoc, List.take_append_of_le_length (by rw [List.length_take, HCL.out]; omega), List.take_take, Nat.min_eq_left (by omega), usC_take, ← HTK.out, List.take_take, Nat.min_eq_left (by rw [← HN.out]; omega)]
    have e2 : (c1.drop (i * 20 + 20)).take ((n - i) * 20) = usC (L.drop i) := by
      rw [HC1E.out, List.append_assoc, List.drop_append_of_le_length (by rw [List.length_take, HCL.out]; omega), List.drop_of_length_le (by rw [List.length_take, HCL.out]; omega), List.nil_append, List.take_append_of_le_length (by rw [HDL.out]; omega), List.take_of_length_le (by rw [HDL.out]; omega)]
    rw [show u :: L.drop i = [u] ++ L.drop i from rfl, usC_append, usC_append, usC_one1, u.cells_length, e1, ← e2]
    try simp only [List.append_assoc]
    rw [List.take_append, hq1, List.take_of_length_le (by rw [hq1]; omega)]
    congr 1
    rw [List.take_append, u.cells_length, List.take_of_length_le (by rw [u.cells_length]; omega)]
    congr 2
    omega) (usC_one _)
  have HC4 := Lib.hid HC3
  clear h2 k2 HC2 HC3
  go_wp2_with fail
  go_ret
  exact ⟨.slice (some ⟨g, 0, none⟩) (n + 1) cap, rfl, HC4.out⟩

set_option maxRecDepth 100000 in
set_option maxHeartbeats 4000000 in
theorem insert_grow (L : List Us) (u : Us) (i g gq cap : Nat) (cur : List Value) (l : List Res) (w : World) (h : Hold w (.blk g cur 30 :: .blk gq u.cells 30 :: l)) (hcl : cur.length = cap * 20) (htk : cur.take (L.length * 20) = usC L)
    (hi : i < L.length) (hfull : ¬ L.length + 1 ≤ cap) (hnc : L.length ≤ cap) (hl : L.length ≤ 1000) :
    Calls Try.prog 25 #[.slice (some ⟨g, 0, none⟩) L.length cap, .int .i64 i, .slice (some ⟨gq, 0, none⟩) 1 1] w fun e w' => ∃ v', e = .returned v' ∧ Hold w' (.own 30 20 v' (L.length + 1) (usC (L.take i ++ u :: L.drop i)) :: .blk gq u.cells 30 :: l) := by
  obtain ⟨n, hn⟩ : ∃ n, n = L.length := ⟨_, rfl⟩
  have hb := h.blkOf (p := g) (cs := cur) (T := 30) (by simp)
  have HC := Lib.hid h
  have HTK := Lib.hid htk
  have HCL := Lib.hid hcl
  obtain ⟨ad, had, hsrc⟩ := usC_src (cap := cap) hb htk i (by omega) (by omega)
  have hcn : ¬ cap = i := by omega
  simp only [cutAt, if_neg hcn, Option.some.injEq] at had
  subst had
  have hsrcW := fun (W : World) (hb : Blk W g cur 30) => usC_src (w := W) (cap := cap) (L := L) hb HTK.out i (by omega) (by omega)
  have HSRC : Hid (∀ W : World, Blk W g cur 30 → ∀ j v, (usC (L.drop i))[j]? = some v → W.cell? ((⟨g, i * 20, none⟩ : Addr).add j) = some v) := Lib.hid (fun W hb => by
    obtain ⟨ad, h1, h2⟩ := hsrcW W hb
    simp only [cutAt, if_neg hcn, Option.some.injEq] at h1
    subst h1
    exact h2)
  rw [← hn] at hi hfull hnc hl htk ⊢
  obtain ⟨k, hik, hk⟩ : ∃ k, i + k = n + 1 ∧ 0 < k := ⟨n + 1 - i, by omega, by omega⟩
  obtain ⟨gc, zs, hgc, hgm, hzs, happ⟩ := grow_zeros (cap := cap) hb hn.symm htk (by omega) hik hk (by omega) hl
  have HAPP := Lib.hid happ
  have HZS := Lib.hid hzs
  have HGM := Lib.hid hgm
  have hgn : ¬ gc = i := by omega
  obtain ⟨g2, hg2⟩ : ∃ g2, g2 = w.heap.size := ⟨_, rfl⟩
  have HC1 := Lib.hid (HC.out.drew.addBlkAt (usC (L.take i) ++ zs) 30 (b := g2) hg2.symm)
  have HAPP : Hid (∀ ty, (Builtin.append_ #[62, 3] ty #[.slice (some ⟨g, 0, none⟩) i cap, .int .i64 k]).run Try.prog w = .ok (.slice (some ⟨g2, 0, none⟩) (n + 1) gc) (w.drew.alloc (.cells (usC (L.take i) ++ zs).toArray 30))) := Lib.hid (by rw [hg2]; exact happ)
  obtain ⟨w1, hw1⟩ : ∃ w1, w1 = w.drew.alloc (.cells (usC (L.take i) ++ zs).toArray 30) := ⟨_, rfl⟩
  rw [← hw1] at HC1 HAPP
  have hki : (n : Int) + 1 - i = k := by omega
  have f0 : ∀ W, (Instr.sliceAt 62 (.slice (some ⟨g, 0, none⟩) n cap) (some (.int .i64 i)) none none).run Try.prog W = .ok (.slice (some ⟨g, i * 20, none⟩) (n - i) (cap - i)) W := fun W => by
    have := run_sliceR (P := Try.prog) Try.underlying62 szU g n cap i (by omega) (by omega) W
    rw [cutAt, if_neg hcn] at this
    exact this
  have f1 : ∀ W, (Instr.sliceAt 62 (.slice (some ⟨g, 0, none⟩) n cap) none (some (.int .i64 i)) none).run Try.prog W = .ok (.slice (some ⟨g, 0, none⟩) i cap) W := fun W => run_sliceL (P := Try.prog) Try.underlying62 szU g n cap i (by omega) W
  have f2 : ∀ W, (Instr.sliceAt 62 (.slice (some ⟨g2, 0, none⟩) (n + 1) gc) (some (.int .i64 i)) none none).run Try.prog W = .ok (.slice (some ⟨g2, i * 20, none⟩) (n + 1 - i) (gc - i)) W := fun W => by
    have := run_sliceR (P := Try.prog) Try.underlying62 szU g2 (n + 1) gc i (by omega) (by omega) W
    rw [cutAt, if_neg hgn] at this
    exact this
  have f3 : ∀ W, (Instr.sliceAt 62 (.slice (some ⟨g2, 0, none⟩) (n + 1) gc) (some (.int .i64 ((i : Int) + 1))) none none).run Try.prog W = .ok (.slice (some ⟨g2, (i + 1) * 20, none⟩) (n - i) (gc - (i + 1))) W := fun W => by
    have := run_sliceR (P := Try.prog) Try.underlying62 szU g2 (n + 1) gc (i + 1) (by omega) (by omega) W
    rw [cutAt, if_neg (by omega), show n + 1 - (i + 1) = n - i by omega] at this
    exact this
  have F0 := Lib.hid f0
  have F3 := Lib.hid f3
  have hin : ((i : Int) == (n : Int)) = false := by simp; omega
  have hgt : (cap : Int) < (n : Int) + 1 := by omega
  have hdl : (usC (L.drop i)).length = (n - i) * 20 := by rw [usC_length, List.length_drop, ← hn]
  have hq1 : (usC (L.take i)).length = i * 20 := by rw [usC_length, List.length_take, ← hn]; congr 1; omega
  have HDL := Lib.hid hdl
  have HQ1 := Lib.hid hq1
  have HN := Lib.hid hn
  have HONE : Hid ((1 : Nat) = min 1 (n + 1 - i)) := Lib.hid (by omega)
  have HB1 := Lib.hid (HC1.out.blkOf (p := g2) (cs := usC (L.take i) ++ zs) (T := 30) (by simp))
  have HBQ1 := Lib.hid (HC1.out.blkOf (p := gq) (cs := u.cells) (T := 30) (by simp))
  have HKI := Lib.hid hki
  clear h hb htk hcl hsrc hdl hq1 hn happ hzs hgm hg2 hw1 hki hsrcW
  go_enter Try.func25, Try.ntmps25
  go_wp2_with (first | ((with_reducible show wpList _ _ _ (⟨some 40, _, _, _, _, _⟩ :: _) _ _); refine Lib.wpList_append_run w rfl (.tmp 34) (.tmp 39) 62 3 rfl (.slice (some ⟨g, 0, none⟩) i cap) (.int .i64 k) rfl (congrArg (Value.int .i64) HKI.out) _ _ (HAPP.out _) ?_) | ((with_reducible show wpList _ _ _ (⟨some 45, _, _, _, _, _⟩ :: _) _ _); refine wpList_cpZ rfl (.tmp 43) (.tmp 44) elUs rfl rfl HB1.out rfl (cs := u.cells) (by rw [u.cells_length, ← HONE.out]) u.cells_one (fun j v hj => by rw [Addr.add_lit, Nat.zero_add, HBQ1.out.cell]; exact hj) (by rw [u.cells_length, List.length_append, HQ1.out, HZS.out]; omega) ?_))
  intro w2 h2 k2
  have h2' : Blk w2 g2 ((usC (L.take i) ++ zs).take (i * 20) ++ u.cells ++ (usC (L.take i) ++ zs).drop (i * 20 + u.cells.length)) 30 := by simpa using h2
  have HC2 := Lib.hid (HC1.out.blkTurn h2' k2)
  obtain ⟨c2, hc2⟩ : ∃ c2, c2 = (usC (L.take i) ++ zs).take (i * 20) ++ u.cells ++ (usC (L.take i) ++ zs).drop (i * 20 + u.cells.length) := ⟨_, rfl⟩
  rw [← hc2] at HC2
  have hc2l : c2.length = gc * 20 := by
    rw [hc2]
    simp only [List.length_append, List.length_take, List.length_drop, u.cells_length, HQ1.out, HZS.out]
    omega
  have hc2t : c2.take ((i + 1) * 20) = usC (L.take i) ++ u.cells := by
    have eA : (usC (L.take i) ++ zs).take (i * 20) = usC (L.take i) := by
      rw [List.take_append_of_le_length (by rw [HQ1.out]; omega), List.take_of_length_le (by rw [HQ1.out]; omega)]
    rw [hc2, eA, List.take_append_of_le_length (by rw [List.length_append, u.cells_length, HQ1.out]; omega), List.take_of_length_le (by rw [List.length_append, u.cells_length, HQ1.out]; omega)]
  have HC2L := Lib.hid hc2l
  have HC2T := Lib.hid hc2t
  have HB2 := Lib.hid (HC2.out.blkOf (p := g2) (cs := c2) (T := 30) (by simp))
  have HBG := Lib.hid (HC2.out.blkOf (p := g) (cs := cur) (T := 30) (by simp))
  clear h2 h2' k2 hc2 hc2l hc2t
  go_upto_region 11 with fail
  refine wp_region_held (S := fun _ : World => True) (by kernel_rfl) ?_
  change wpAnyH _ _ _ _ _ _ _ _ (World.drew _)
  refine wpAnyH_take (i := 0) (oi := { dst := some 46, op := _, type := _, pos := _, after := _, guard := none }) (v := .slice (some ⟨g2, 0, none⟩) (n + 1) gc) rfl (by kernel_rfl) (by kernel_rfl) (by kernel_rfl) (fun _ _ _ h => h) (Or.inl ⟨by rfl, by intro W hW; go_simp⟩) trivial ?_
  simp only [Act.put, List.setIfInBounds_toArray, List.set_cons_zero, List.set_cons_succ]
  refine wpAnyH_take (i := 1) (oi := { dst := some 47, op := _, type := _, pos := _, after := _, guard := none }) (v := .int .i64 i) rfl (by kernel_rfl) (by kernel_rfl) (by kernel_rfl) (fun _ _ _ h => h) (Or.inl ⟨by rfl, by intro W hW; go_simp⟩) trivial ?_
  simp only [Act.put, List.setIfInBounds_toArray, List.set_cons_zero, List.set_cons_succ]
  refine wpAnyH_take (i := 2) (oi := { dst := some 48, op := _, type := _, pos := _, after := _, guard := none }) (v := .int .i64 1) rfl (by kernel_rfl) (by kernel_rfl) (by kernel_rfl) (fun _ _ _ h => h) (Or.inl ⟨by rfl, by intro W hW; go_simp⟩) trivial ?_
  simp only [Act.put, List.setIfInBounds_toArray, List.set_cons_zero, List.set_cons_succ]
  refine wpAnyH_take (i := 3) (oi := { dst := some 49, op := _, type := _, pos := _, after := _, guard := none }) (v := .int .i64 ((i : Int) + 1)) rfl (by kernel_rfl) (by kernel_rfl) (by kernel_rfl) (fun _ _ _ h => h) (Or.inl ⟨by rfl, by intro W hW; go_simp; rw [IntKind.wrap_i64]; omega⟩) trivial ?_
  simp only [Act.put, List.setIfInBounds_toArray, List.set_cons_zero, List.set_cons_succ]
  refine wpAnyH_take (i := 4) (oi := { dst := some 50, op := _, type := _, pos := _, after := _, guard := none }) (v := .slice (some ⟨g2, (i + 1) * 20, none⟩) (n - i) (gc - (i + 1))) rfl (by kernel_rfl) (by kernel_rfl) (by kernel_rfl) (fun _ _ _ h => h) (Or.inl ⟨by rfl, by intro W hW; exact exec_slice rfl (F3.out W)⟩) trivial ?_
  simp only [Act.put, List.setIfInBounds_toArray, List.set_cons_zero, List.set_cons_succ]
  refine wpAnyH_take (i := 5) (oi := { dst := some 51, op := _, type := _, pos := _, after := _, guard := none }) (v := .slice (some ⟨g, 0, none⟩) n cap) rfl (by kernel_rfl) (by kernel_rfl) (by kernel_rfl) (fun _ _ _ h => h) (Or.inl ⟨by rfl, by intro W hW; go_simp⟩) trivial ?_
  simp only [Act.put, List.setIfInBounds_toArray, List.set_cons_zero, List.set_cons_succ]
  refine wpAnyH_take (i := 6) (oi := { dst := some 52, op := _, type := _, pos := _, after := _, guard := none }) (v := .int .i64 i) rfl (by kernel_rfl) (by kernel_rfl) (by kernel_rfl) (fun _ _ _ h => h) (Or.inl ⟨by rfl, by intro W hW; go_simp⟩) trivial ?_
  simp only [Act.put, List.setIfInBounds_toArray, List.set_cons_zero, List.set_cons_succ]
  refine wpAnyH_take (i := 7) (oi := { dst := some 53, op := _, type := _, pos := _, after := _, guard := none }) (v := .slice (some ⟨g, i * 20, none⟩) (n - i) (cap - i)) rfl (by kernel_rfl) (by kernel_rfl) (by kernel_rfl) (fun _ _ _ h => h) (Or.inl ⟨by rfl, by intro W hW; exact exec_slice rfl (F0.out W)⟩) trivial ?_
  simp only [Act.put, List.setIfInBounds_toArray, List.set_cons_zero, List.set_cons_succ]
  refine anyH_ready (rs := [8]) (by decide +kernel) (by simp) ?_
  refine AllReadyH.cons (o := { dst := some 54, op := .call { callee := .builtin .copy, args := #[.tmp 50, .tmp 53], argTypes := #[62, 62] }, type := _, pos := _, after := _, guard := none }) rfl (fun K hK => ?_) AllReadyH.nil
  refine step_cpZ rfl (.tmp 50) (.tmp 53) elUs rfl rfl HB2.out.drew rfl (cs := usC (L.drop i)) (by rw [HDL.out]; congr 1; omega) (usC_one _) (HSRC.out _ HBG.out.drew) (by rw [HDL.out, HC2L.out]; omega) ?_
  intro w3 hb3 hk3
  have HC3 := Lib.hid (HC2.out.drew.blkTurn hb3 hk3)
  clear hb3 hk3
  refine hK _ _ trivial ?_
  clear hK K
  try simp only [Act.put, List.setIfInBounds_toArray, List.set_cons_zero, List.set_cons_succ]
  refine wpAnyH_done (by decide +kernel) ?_ _
  have HC4 := HC3.out.blkOwn 20 (n + 1) gc (cs := usC (L.take i ++ u :: L.drop i)) (by
    simp only [List.length_append, List.length_take, List.length_drop, HC2L.out, HDL.out]
    omega) hgc HGM.out (by
    rw [HC2T.out, show u :: L.drop i = [u] ++ L.drop i from rfl, usC_append, usC_append, usC_one1, ← List.append_assoc]
    rw [List.take_append_of_le_length (by simp only [List.length_append, u.cells_length, HQ1.out, HDL.out]; omega), List.take_of_length_le (by simp only [List.length_append, u.cells_length, HQ1.out, HDL.out]; omega)]) (usC_one _)
  have HC5 := Lib.hid HC4.swap.tail
  clear HC4
  go_wp2_with fail
  go_ret
  exact ⟨.slice (some ⟨g2, 0, none⟩) (n + 1) gc, rfl, HC5.out⟩

theorem insert_any (v : Value) (L : List Us) (u : Us) (i : Nat) (gq : Nat) (l : List Res) (w : World) (h : Hold w (.own 30 20 v L.length (usC L) :: .blk gq u.cells 30 :: l)) (hi : i ≤ L.length) (hl : L.length ≤ 1000) :
    Calls Try.prog 25 #[v, .int .i64 i, .slice (some ⟨gq, 0, none⟩) 1 1] w fun e w' => ∃ v', e = .returned v' ∧ Hold w' (.own 30 20 v' (L.take i ++ u :: L.drop i).length (usC (L.take i ++ u :: L.drop i)) :: .blk gq u.cells 30 :: l) := by
  have hlen : (L.take i ++ u :: L.drop i).length = L.length + 1 := by simp; omega
  rw [hlen]
  rcases Nat.eq_or_lt_of_le hi with rfl | hlt
  · rw [List.take_length, List.drop_length]
    exact insert_end v L u gq l w h hl
  · obtain ⟨g, cap, cur, rfl, hnc, hcm, hcl, htk, h⟩ := h.ownBlk (by omega)
    by_cases hroom : L.length + 1 ≤ cap
    · exact insert_room L u i g gq cap cur l w h hcl htk hcm hlt hroom hl
    · exact insert_grow L u i g gq cap cur l w h hcl htk hlt hroom hnc hl
end Go.Proofs.Ytclonbojpcgngaa
