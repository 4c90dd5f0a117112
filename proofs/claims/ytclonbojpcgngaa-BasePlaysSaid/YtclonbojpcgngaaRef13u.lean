/- Contracts: the document's users (compeerref13): Find, Add, Drop. (Printed by wip/tools/genref13u.py.) -/
import Derived.Test.YtclonbojpcgngaaPlain13
import Derived.Test.YtclonbojpcgngaaRef09c
namespace Go.Proofs.Ytclonbojpcgngaa
set_option linter.unusedSimpArgs false
set_option linter.unusedVariables false
open Go.RowKit

theorem elRU : Elem Try.prog 26 36 20 56 (.agg zsU.toArray) := by
  refine Elem.mk Try.underlying26 ?_ rfl (by decide)
  kernel_rfl
theorem szRU (w : World) : (sizeOf 36).run Try.prog w = .ok 20 w := by kernel_rfl
abbrev ruR (v : Value) (H : List Us) : Res := .own 36 20 v H.length (usC H)
theorem ruR_cells {W : World} {l : List Res} {a : Option Addr} {c : Nat} {H : List Us} (h : Hold W l) (hm : ruR (.slice a H.length c) H ∈ l) (hp : 0 < H.length) :
    ∃ b o, a = some ⟨b, o, none⟩ ∧ ∀ k (hk : k < H.length), CellsAt W b (o + k * 20) H[k].cells := by
  obtain ⟨b, o, rfl, _⟩ := (h.ownOf hm).1.sl.addr (by rw [usC_length]; omega)
  exact ⟨b, o, rfl, fun k hk => usC_cells (h.ownOf hm).1.sl (Below.refl _ _) k hk⟩
theorem nm_ne {a b : ByteArray} (h : ¬ a = b) : (a.toList == b.toList) = false := by
  rw [beq_eq_false_iff_ne]
  exact fun e => h ((bytes_toList_inj _ _).1 e)

/-- Where a name stands; -1: nowhere. -/
def findI (H : List Us) (s : ByteArray) : Int := match H.findIdx? fun u => decide (u.name = s) with | some i => i | none => -1
theorem findI_hit {H : List Us} {s : ByteArray} {k : Nat} (hk : k < H.length) (he : H[k].name = s) (hb : ∀ j (hj : j < H.length), j < k → H[j].name ≠ s) : findI H s = k := by
  unfold findI
  rw [List.findIdx?_eq_some_iff_getElem.2 ⟨hk, by simpa using he, fun j hj => by simpa using hb j (by omega) hj⟩]
theorem findI_miss {H : List Us} {s : ByteArray} (hb : ∀ j (hj : j < H.length), H[j].name ≠ s) : findI H s = -1 := by
  unfold findI
  rw [List.findIdx?_eq_none_iff.2 fun x hx => by
    obtain ⟨j, hj, rfl⟩ := List.getElem_of_mem hx
    simpa using hb j hj]
theorem findI_cases (H : List Us) (s : ByteArray) : (findI H s = -1 ∧ ∀ u ∈ H, u.name ≠ s) ∨ ∃ k : Nat, findI H s = k ∧ ∃ hk : k < H.length, H[k].name = s := by
  unfold findI
  cases hf : H.findIdx? fun u => decide (u.name = s) with
  | none =>
    left
    refine ⟨rfl, fun u hu => ?_⟩
    have := List.findIdx?_eq_none_iff.1 hf u hu
    simpa using this
  | some i =>
    right
    obtain ⟨h1, h2, _⟩ := List.findIdx?_eq_some_iff_getElem.1 hf
    exact ⟨i, rfl, h1, by simpa using h2⟩

set_option maxRecDepth 100000 in
set_option maxHeartbeats 1000000 in
theorem refFind_any (v : Value) (H : List Us) (s : ByteArray) (l : List Res) (w : World) (h : Hold w (ruR v H :: l)) (hl : H.length ≤ 1000) :
    Calls Try.prog 14 #[v, .string s] w fun e w' => e = .returned (.int .i64 (findI H s)) ∧ w = w' := by
  obtain ⟨a, c, rfl, hc, hm⟩ := (h.ownOf (List.mem_cons_self)).1.sl.form
  unfold maxLen at hm
  have HC := Lib.hid h
  clear h
  go_enter Try.func14, Try.ntmps14
  go_wp2_with fail
  go_loopw [5] (fun iv wr => ∃ (k : Nat), iv = .int .i64 k ∧ k ≤ H.length ∧ wr = w ∧ ∀ j (hj : j < H.length), j < k → H[j].name ≠ s) (fun i _ => H.length - (intOf i).toNat)
  case atStart => exact ⟨0, rfl, Nat.zero_le _, rfl, fun j _ h => by omega⟩
  case round =>
    obtain ⟨k, rfl, hk, rfl, hno⟩ := hrel
    have HNO := Lib.hid hno
    clear hno
    by_cases hlt : k < H.length
    · obtain ⟨b, o, ha, hcell⟩ := ruR_cells (H := H) (a := a) (c := c) HC.out (by simp) (by omega)
      subst ha
      have e0 := hcell k hlt 0 _ (H[k].c0)
      rw [Nat.add_zero] at e0
      obtain ⟨x, hx⟩ : ∃ x, x = H[k] := ⟨_, rfl⟩
      rw [← hx] at e0
      have HX := Lib.hid hx
      clear hcell hx
      by_cases hxs : x.name = s
      · have hbe : (x.name.toList == s.toList) = true := by rw [hxs]; simp
        have HXS := Lib.hid hxs
        have HF : Hid (findI H s = k) := Lib.hid (findI_hit hlt (by rw [← HX.out]; exact hxs) HNO.out)
        clear hxs
        go_wp2_with fail
        go_ret
        rw [HF.out]
        exact ⟨rfl, rfl⟩
      · have hbe := nm_ne hxs
        have HXS := Lib.hid hxs
        clear hxs
        go_wp2_with fail
        go_roundw
        case rel => exact ⟨k + 1, by go_num, by omega, trivial, fun j hj hjk => by
          rcases Nat.lt_or_ge j k with h' | h'
          · exact HNO.out j hj h'
          · have : j = k := by omega
            subst this
            rw [← HX.out]
            exact HXS.out⟩
        case measure => simp [intOf]; omega
    · obtain rfl : k = H.length := by omega
      have HF : Hid (findI H s = -1) := Lib.hid (findI_miss fun j hj => HNO.out j hj hj)
      go_wp2_with fail
      go_ret
      rw [HF.out]
      exact ⟨rfl, rfl⟩

/-- An empty slice literal, as one step of a region that draws its order. -/
theorem step_bs0 {P : Program} {ops : Array Oper} {o : Oper} {a : Act} {w : World} {K : Act → World → Prop} {Q : Exit → Act → World → Prop} {E : Prop} (hgd : o.guard = none) {t e : TypeId} {size bytes : Nat} {z : Value} (hE : Elem P t e size bytes z) (ho : o.op = .buildSlice t 0 #[])
    (h : K (a.put o.dst (.slice (some ⟨w.heap.size, 0, none⟩) 0 0)) (w.alloc (.cells #[] e))) : if Region.wanted o (yielded ops a.tmps) = true then Oper.wp P o a w K Q else E := by
  have hw : Region.wanted o (yielded ops a.tmps) = true := by simp [Region.wanted, hgd]
  rw [if_pos hw]
  obtain ⟨ht, i, hi, hz, hsize, hby, hzs, hsz⟩ := hE
  have hr : (Instr.buildSlice t 0 #[]).run P w = .ok (.slice (some ⟨w.heap.size, 0, none⟩) 0 0) (w.alloc (.cells #[] e)) := by
    simp [Instr.buildSlice, run_underlying ht, sizeOf, typeInfo, zeroValue, hi, hz, Instr.fill, newRow, show Array.range 0 = #[] from rfl]
  unfold Oper.wp execOp
  simp only [ho, Sem.run_bind, Sem.run_pure, Result.andThen_ok, List.map_toArray, List.map_nil, hr]
  exact h

/-- Somebody is added, as the document has it. -/
def addR (H : List Us) (u : Us) : List Us × Int :=
  if rightB u.name = false then (H, 6) else if u.life < 1 ∨ 600 < u.life ∨ u.renew < 0 ∨ 6000 < u.renew then (H, 7) else if 0 ≤ findI H u.name then (H, 10) else if H.length = 32 then (H, 8) else (H ++ [u], 0)

set_option maxRecDepth 100000 in
set_option maxHeartbeats 4000000 in
theorem refAdd_any (v : Value) (H : List Us) (u : Us) (l : List Res) (w : World) (h : Hold w (ruR v H :: l)) (hl : H.length ≤ 900) (hn : u.name.size ≤ maxLen) :
    Calls Try.prog 8 #[v, .agg u.cells.toArray] w fun e w' => ∃ v', e = .returned (.tuple #[v', .int .i64 (addR H u).2]) ∧ Hold w' (ruR v' (addR H u).1 :: l) := by
  obtain ⟨a, c, rfl, hc, hm⟩ := (h.ownOf (List.mem_cons_self)).1.sl.form
  unfold maxLen at hm
  obtain ⟨q, hq⟩ : ∃ q, q = w.heap.size := ⟨_, rfl⟩
  have HC : Hid (Hold (w.alloc (.cells u.cells.toArray 36)) (ruR (.slice a H.length c) H :: .blk q u.cells 36 :: l)) := Lib.hid (h.addBlkAt u.cells 36 hq.symm).swap
  obtain ⟨w1, hw1⟩ : ∃ w1, w1 = w.alloc (.cells u.cells.toArray 36) := ⟨_, rfl⟩
  rw [← hw1] at HC
  have hbq := HC.out.blkOf (p := q) (cs := u.cells) (T := 36) (by simp)
  have c0 := hbq.cell 0
  have c17 := hbq.cell 17
  have c18 := hbq.cell 18
  rw [u.c0] at c0
  rw [u.c17] at c17
  rw [u.c18] at c18
  have HR0 := Lib.hid (refRight_any u.name w1 hn)
  have HFI := Lib.hid (refFind_any (.slice a H.length c) H u.name _ w1 HC.out (by omega))
  clear h hbq
  go_enter Try.func8, Try.ntmps8
  go_upto_region 1 with fail
  show Code.wp _ _ _ _ (w.alloc (.cells u.cells.toArray 36))
  rw [← hw1, ← hq]
  clear hw1 hq
  go_wp2_with fail
  refine HR0.out.mono ?_
  rintro e w2 ⟨rfl, rfl⟩
  obtain ⟨R, hR⟩ : ∃ R, R = rightB u.name := ⟨_, rfl⟩
  rw [← hR]
  have HR := Lib.hid hR
  clear hR HR0
  cases R with
  | false =>
    have HA : Hid (addR H u = (H, 6)) := Lib.hid (by rw [addR, if_pos HR.out.symm])
    go_wp2_with fail
    go_ret2
    rw [HA.out]
    exact ⟨_, rfl, HC.out.swap.tail⟩
  | true =>
    have HR1 : Hid (¬ rightB u.name = false) := Lib.hid (by rw [← HR.out]; decide)
    by_cases hbad : u.life < 1 ∨ 600 < u.life ∨ u.renew < 0 ∨ 6000 < u.renew
    · have HA : Hid (addR H u = (H, 7)) := Lib.hid (by rw [addR, if_neg HR1.out, if_pos hbad])
      have hsp : u.life < 1 ∨ (¬ u.life < 1 ∧ 600 < u.life) ∨ (¬ u.life < 1 ∧ ¬ 600 < u.life ∧ u.renew < 0) ∨ (¬ u.life < 1 ∧ ¬ 600 < u.life ∧ ¬ u.renew < 0 ∧ 6000 < u.renew) := by omega
      clear hbad
      rcases hsp with h1 | ⟨h1, h2⟩ | ⟨h1, h2, h3⟩ | ⟨h1, h2, h3, h4⟩
      all_goals
        go_wp2_with fail
        go_ret2
        rw [HA.out]
        exact ⟨_, rfl, HC.out.swap.tail⟩
    · have h1 : ¬ u.life < 1 := by omega
      have h2 : ¬ 600 < u.life := by omega
      have h3 : ¬ u.renew < 0 := by omega
      have h4 : ¬ 6000 < u.renew := by omega
      have HBAD := Lib.hid hbad
      clear hbad
      go_wp2_with fail
      refine HFI.out.mono ?_
      rintro e w3 ⟨rfl, rfl⟩
      obtain ⟨fi, hfi⟩ : ∃ fi, fi = findI H u.name := ⟨_, rfl⟩
      rw [← hfi]
      have HF := Lib.hid hfi
      clear hfi
      by_cases hge : 0 ≤ fi
      · have HA : Hid (addR H u = (H, 10)) := Lib.hid (by rw [addR, if_neg HR1.out, if_neg HBAD.out, if_pos (by rw [← HF.out]; exact hge)])
        go_wp2_with fail
        go_ret2
        rw [HA.out]
        exact ⟨_, rfl, HC.out.swap.tail⟩
      · have HGE : Hid (¬ 0 ≤ fi) := Lib.hid hge
        by_cases hfull : H.length = 32
        · have HA : Hid (addR H u = (H, 8)) := Lib.hid (by rw [addR, if_neg HR1.out, if_neg HBAD.out, if_neg (by rw [← HF.out]; exact HGE.out), if_pos hfull])
          have hf : ((H.length : Int) == 32) = true := by simp; omega
          clear hfull
          go_wp2_with fail
          go_ret2
          rw [HA.out]
          exact ⟨_, rfl, HC.out.swap.tail⟩
        · have HA : Hid (addR H u = (H ++ [u], 0)) := Lib.hid (by rw [addR, if_neg HR1.out, if_neg HBAD.out, if_neg (by rw [← HF.out]; exact HGE.out), if_neg hfull])
          have hf : ((H.length : Int) == 32) = false := by simp; omega
          go_upto_region 9 with fail
          have HC := Lib.hid HC.out.drew
          refine wp_region_held (S := fun W : World => Blk W q u.cells 36) (by kernel_rfl) ?_
          change wpAnyH _ _ _ _ _ _ _ _ (World.drew _)
          refine wpAnyH_take (i := 1) (oi := { dst := some 41, op := _, type := _, pos := _, after := _, guard := none }) (v := .slice a H.length c) rfl (by kernel_rfl) (by kernel_rfl) (by kernel_rfl) (fun _ _ _ h => h) (Or.inl ⟨by rfl, by intro W hW; go_simp⟩) (HC.out.blkOf (p := q) (cs := u.cells) (T := 36) (by simp)) ?_
          simp only [Act.put, List.setIfInBounds_toArray, List.set_cons_zero, List.set_cons_succ]
          refine wpAnyH_take (i := 3) (oi := { dst := some 43, op := _, type := _, pos := _, after := _, guard := none }) (v := .agg u.cells.toArray) rfl (by kernel_rfl) (by kernel_rfl) (by kernel_rfl) (fun _ _ _ h => h) (Or.inl ⟨by rfl, by intro W hW; exact exec_ldAgg rfl aggRU rfl u.cells_length hW.cellsAll⟩) (HC.out.blkOf (p := q) (cs := u.cells) (T := 36) (by simp)) ?_
          simp only [Act.put, List.setIfInBounds_toArray, List.set_cons_zero, List.set_cons_succ]
          refine anyH_ready (rs := [0, 4]) (by decide +kernel) (by simp) ?_
          refine AllReadyH.cons (o := { dst := some 40, op := .buildSlice 26 0 #[], type := _, pos := _, after := _, guard := none }) rfl (fun K hK => ?_) (AllReadyH.cons (o := { dst := some 44, op := .buildSlice 26 1 #[(0, .tmp 43)], type := _, pos := _, after := _, guard := none }) rfl (fun K hK => ?_) AllReadyH.nil)
          · refine step_bs0 rfl elRU rfl ?_
            obtain ⟨e0, he0⟩ : ∃ e0, e0 = (w1.drew).heap.size := ⟨_, rfl⟩
            have HC := Lib.hid (HC.out.addEmpty 36 20 he0.symm)
            rw [← he0]
            obtain ⟨w6, hw6⟩ : ∃ w6, w6 = (w1.drew).alloc (.cells #[] 36) := ⟨_, rfl⟩
            rw [← hw6] at HC ⊢
            clear he0 hw6
            refine hK _ _ (HC.out.blkOf (p := q) (cs := u.cells) (T := 36) (by simp)) ?_
            clear hK K
            try simp only [Act.put, List.setIfInBounds_toArray, List.set_cons_zero, List.set_cons_succ]
            refine anyH_ready (rs := [2, 4]) (by decide +kernel) (by simp) ?_
            refine AllReadyH.cons (o := { dst := some 42, op := .call { callee := .builtin .append, args := #[.tmp 40, .tmp 41], argTypes := #[26, 26] }, type := _, pos := _, after := _, guard := none }) rfl (fun K hK => ?_) (AllReadyH.cons (o := { dst := some 44, op := .buildSlice 26 1 #[(0, .tmp 43)], type := _, pos := _, after := _, guard := none }) rfl (fun K hK => ?_) AllReadyH.nil)
            · have hE := HC.out.ownOf (e := 36) (sz := 20) (v := .slice (some ⟨e0, 0, none⟩) 0 0) (n := 0) (cs := []) (List.mem_cons_self)
              have hL := (HC.out.ownOf (e := 36) (sz := 20) (v := .slice a H.length c) (n := H.length) (cs := usC H) (by simp)).1.sl
              refine step_app2 rfl (.tmp 40) (.tmp 41) elRU rfl 0 rfl hE.1 hE.2 rfl hL (by unfold maxLen; omega) (by omega) (Nat.zero_le _) ?_
              intro v8 w8 k1 k2 k3
              have HC := Lib.hid (HC.out.append (B := 0) k1 k2 k3)
              clear k1 k2 k3 hE hL
              refine hK _ _ (HC.out.blkOf (p := q) (cs := u.cells) (T := 36) (by simp)) ?_
              clear hK K
              try simp only [Act.put, List.setIfInBounds_toArray, List.set_cons_zero, List.set_cons_succ]
              refine anyH_ready (rs := [4]) (by decide +kernel) (by simp) ?_
              refine AllReadyH.cons (o := { dst := some 44, op := .buildSlice 26 1 #[(0, .tmp 43)], type := _, pos := _, after := _, guard := none }) rfl (fun K hK => ?_) AllReadyH.nil
              refine step_bs1 rfl (.tmp 43) elRU rfl rfl (by simpa using u.cells_length) (by decide) ?_
              obtain ⟨q2, hq2⟩ : ∃ q2, q2 = (w8).heap.size := ⟨_, rfl⟩
              have HC := Lib.hid (HC.out.addBlkAt u.cells 36 hq2.symm)
              have HC := Lib.hid (HC.out.front (m := [_, _, _, _]) (l := l) [1, 2, 3, 0] 4 (by decide))
              rw [← hq2]
              obtain ⟨w7, hw7⟩ : ∃ w7, w7 = (w8).alloc (.cells u.cells.toArray 36) := ⟨_, rfl⟩
              rw [← hw7] at HC ⊢
              clear hq2 hw7
              refine hK _ _ (HC.out.blkOf (p := q) (cs := u.cells) (T := 36) (by simp)) ?_
              clear hK K
              try simp only [Act.put, List.setIfInBounds_toArray, List.set_cons_zero, List.set_cons_succ]
              refine anyH_ready (rs := [5]) (by decide +kernel) (by simp) ?_
              refine AllReadyH.cons (o := { dst := some 45, op := .call { callee := .builtin .append, args := #[.tmp 42, .tmp 44], argTypes := #[26, 26] }, type := _, pos := _, after := _, guard := none }) rfl (fun K hK => ?_) AllReadyH.nil
              have hE := HC.out.ownOf (e := 36) (sz := 20) (v := v8) (n := 0 + H.length) (cs := [] ++ usC H) (List.mem_cons_self)
              have hL := (HC.out.blkOf (p := q2) (cs := u.cells) (T := 36) (by simp)).slZ u.cells_length u.cells_one
              refine step_app2 rfl (.tmp 42) (.tmp 44) elRU rfl 0 rfl hE.1 hE.2 rfl hL (by unfold maxLen; omega) (by omega) (Nat.zero_le _) ?_
              intro v9 w9 k1 k2 k3
              have HC := Lib.hid (HC.out.append (B := 0) k1 k2 k3)
              clear k1 k2 k3 hE hL
              refine hK _ _ (HC.out.blkOf (p := q) (cs := u.cells) (T := 36) (by simp)) ?_
              clear hK K
              try simp only [Act.put, List.setIfInBounds_toArray, List.set_cons_zero, List.set_cons_succ]
              refine wpAnyH_take (i := 6) (oi := { dst := some 4, op := _, type := _, pos := _, after := _, guard := none }) (v := v9) rfl (by kernel_rfl) (by kernel_rfl) (by kernel_rfl) (fun _ _ _ h => h) (Or.inl ⟨by rfl, by intro W hW; go_simp⟩) (HC.out.blkOf (p := q) (cs := u.cells) (T := 36) (by simp)) ?_
              simp only [Act.put, List.setIfInBounds_toArray, List.set_cons_zero, List.set_cons_succ]
              refine wpAnyH_take (i := 7) (oi := { dst := some 5, op := _, type := _, pos := _, after := _, guard := none }) (v := .int .i64 0) rfl (by kernel_rfl) (by kernel_rfl) (by kernel_rfl) (fun _ _ _ h => h) (Or.inl ⟨by rfl, by intro W hW; go_simp⟩) (HC.out.blkOf (p := q) (cs := u.cells) (T := 36) (by simp)) ?_
              simp only [Act.put, List.setIfInBounds_toArray, List.set_cons_zero, List.set_cons_succ]
              refine wpAnyH_done (by decide +kernel) ?_ _
              go_wp2_with fail
              go_ret2
              rw [HA.out]
              refine ⟨v9, rfl, ?_⟩
              have h9 := HC.out.front (m := [_, _, _, _]) (l := l) [1, 2, 3, 0] 4 (by decide) |>.tail.tail.tail
              unfold ruR
              rw [usC_append, usC_one1, List.length_append, ← List.nil_append (usC H), ← Nat.zero_add H.length]
              exact h9
            · refine step_bs1 rfl (.tmp 43) elRU rfl rfl (by simpa using u.cells_length) (by decide) ?_
              obtain ⟨q2, hq2⟩ : ∃ q2, q2 = (w6).heap.size := ⟨_, rfl⟩
              have HC := Lib.hid (HC.out.addBlkAt u.cells 36 hq2.symm)
              have HC := Lib.hid (HC.out.front (m := [_, _, _, _]) (l := l) [1, 2, 3, 0] 4 (by decide))
              rw [← hq2]
              obtain ⟨w7, hw7⟩ : ∃ w7, w7 = (w6).alloc (.cells u.cells.toArray 36) := ⟨_, rfl⟩
              rw [← hw7] at HC ⊢
              clear hq2 hw7
              refine hK _ _ (HC.out.blkOf (p := q) (cs := u.cells) (T := 36) (by simp)) ?_
              clear hK K
              try simp only [Act.put, List.setIfInBounds_toArray, List.set_cons_zero, List.set_cons_succ]
              refine anyH_ready (rs := [2]) (by decide +kernel) (by simp) ?_
              refine AllReadyH.cons (o := { dst := some 42, op := .call { callee := .builtin .append, args := #[.tmp 40, .tmp 41], argTypes := #[26, 26] }, type := _, pos := _, after := _, guard := none }) rfl (fun K hK => ?_) AllReadyH.nil
              have hE := HC.out.ownOf (e := 36) (sz := 20) (v := .slice (some ⟨e0, 0, none⟩) 0 0) (n := 0) (cs := []) (List.mem_cons_self)
              have hL := (HC.out.ownOf (e := 36) (sz := 20) (v := .slice a H.length c) (n := H.length) (cs := usC H) (by simp)).1.sl
              refine step_app2 rfl (.tmp 40) (.tmp 41) elRU rfl 0 rfl hE.1 hE.2 rfl hL (by unfold maxLen; omega) (by omega) (Nat.zero_le _) ?_
              intro v8 w8 k1 k2 k3
              have HC := Lib.hid (HC.out.append (B := 0) k1 k2 k3)
              clear k1 k2 k3 hE hL
              refine hK _ _ (HC.out.blkOf (p := q) (cs := u.cells) (T := 36) (by simp)) ?_
              clear hK K
              try simp only [Act.put, List.setIfInBounds_toArray, List.set_cons_zero, List.set_cons_succ]
              refine anyH_ready (rs := [5]) (by decide +kernel) (by simp) ?_
              refine AllReadyH.cons (o := { dst := some 45, op := .call { callee := .builtin .append, args := #[.tmp 42, .tmp 44], argTypes := #[26, 26] }, type := _, pos := _, after := _, guard := none }) rfl (fun K hK => ?_) AllReadyH.nil
              have hE := HC.out.ownOf (e := 36) (sz := 20) (v := v8) (n := 0 + H.length) (cs := [] ++ usC H) (List.mem_cons_self)
              have hL := (HC.out.blkOf (p := q2) (cs := u.cells) (T := 36) (by simp)).slZ u.cells_length u.cells_one
              refine step_app2 rfl (.tmp 42) (.tmp 44) elRU rfl 0 rfl hE.1 hE.2 rfl hL (by unfold maxLen; omega) (by omega) (Nat.zero_le _) ?_
              intro v9 w9 k1 k2 k3
              have HC := Lib.hid (HC.out.append (B := 0) k1 k2 k3)
              clear k1 k2 k3 hE hL
              refine hK _ _ (HC.out.blkOf (p := q) (cs := u.cells) (T := 36) (by simp)) ?_
              clear hK K
              try simp only [Act.put, List.setIfInBounds_toArray, List.set_cons_zero, List.set_cons_succ]
              refine wpAnyH_take (i := 6) (oi := { dst := some 4, op := _, type := _, pos := _, after := _, guard := none }) (v := v9) rfl (by kernel_rfl) (by kernel_rfl) (by kernel_rfl) (fun _ _ _ h => h) (Or.inl ⟨by rfl, by intro W hW; go_simp⟩) (HC.out.blkOf (p := q) (cs := u.cells) (T := 36) (by simp)) ?_
              simp only [Act.put, List.setIfInBounds_toArray, List.set_cons_zero, List.set_cons_succ]
              refine wpAnyH_take (i := 7) (oi := { dst := some 5, op := _, type := _, pos := _, after := _, guard := none }) (v := .int .i64 0) rfl (by kernel_rfl) (by kernel_rfl) (by kernel_rfl) (fun _ _ _ h => h) (Or.inl ⟨by rfl, by intro W hW; go_simp⟩) (HC.out.blkOf (p := q) (cs := u.cells) (T := 36) (by simp)) ?_
              simp only [Act.put, List.setIfInBounds_toArray, List.set_cons_zero, List.set_cons_succ]
              refine wpAnyH_done (by decide +kernel) ?_ _
              go_wp2_with fail
              go_ret2
              rw [HA.out]
              refine ⟨v9, rfl, ?_⟩
              have h9 := HC.out.front (m := [_, _, _, _]) (l := l) [1, 2, 3, 0] 4 (by decide) |>.tail.tail.tail
              unfold ruR
              rw [usC_append, usC_one1, List.length_append, ← List.nil_append (usC H), ← Nat.zero_add H.length]
              exact h9
          · refine step_bs1 rfl (.tmp 43) elRU rfl rfl (by simpa using u.cells_length) (by decide) ?_
            obtain ⟨q2, hq2⟩ : ∃ q2, q2 = (w1.drew).heap.size := ⟨_, rfl⟩
            have HC := Lib.hid (HC.out.addBlkAt u.cells 36 hq2.symm)
            have HC := Lib.hid (HC.out.front (m := [_, _, _]) (l := l) [1, 2, 0] 3 (by decide))
            rw [← hq2]
            obtain ⟨w7, hw7⟩ : ∃ w7, w7 = (w1.drew).alloc (.cells u.cells.toArray 36) := ⟨_, rfl⟩
            rw [← hw7] at HC ⊢
            clear hq2 hw7
            refine hK _ _ (HC.out.blkOf (p := q) (cs := u.cells) (T := 36) (by simp)) ?_
            clear hK K
            try simp only [Act.put, List.setIfInBounds_toArray, List.set_cons_zero, List.set_cons_succ]
            refine anyH_ready (rs := [0]) (by decide +kernel) (by simp) ?_
            refine AllReadyH.cons (o := { dst := some 40, op := .buildSlice 26 0 #[], type := _, pos := _, after := _, guard := none }) rfl (fun K hK => ?_) AllReadyH.nil
            refine step_bs0 rfl elRU rfl ?_
            obtain ⟨e0, he0⟩ : ∃ e0, e0 = (w7).heap.size := ⟨_, rfl⟩
            have HC := Lib.hid (HC.out.addEmpty 36 20 he0.symm)
            rw [← he0]
            obtain ⟨w6, hw6⟩ : ∃ w6, w6 = (w7).alloc (.cells #[] 36) := ⟨_, rfl⟩
            rw [← hw6] at HC ⊢
            clear he0 hw6
            refine hK _ _ (HC.out.blkOf (p := q) (cs := u.cells) (T := 36) (by simp)) ?_
            clear hK K
            try simp only [Act.put, List.setIfInBounds_toArray, List.set_cons_zero, List.set_cons_succ]
            refine anyH_ready (rs := [2]) (by decide +kernel) (by simp) ?_
            refine AllReadyH.cons (o := { dst := some 42, op := .call { callee := .builtin .append, args := #[.tmp 40, .tmp 41], argTypes := #[26, 26] }, type := _, pos := _, after := _, guard := none }) rfl (fun K hK => ?_) AllReadyH.nil
            have hE := HC.out.ownOf (e := 36) (sz := 20) (v := .slice (some ⟨e0, 0, none⟩) 0 0) (n := 0) (cs := []) (List.mem_cons_self)
            have hL := (HC.out.ownOf (e := 36) (sz := 20) (v := .slice a H.length c) (n := H.length) (cs := usC H) (by simp)).1.sl
            refine step_app2 rfl (.tmp 40) (.tmp 41) elRU rfl 0 rfl hE.1 hE.2 rfl hL (by unfold maxLen; omega) (by omega) (Nat.zero_le _) ?_
            intro v8 w8 k1 k2 k3
            have HC := Lib.hid (HC.out.append (B := 0) k1 k2 k3)
            clear k1 k2 k3 hE hL
            refine hK _ _ (HC.out.blkOf (p := q) (cs := u.cells) (T := 36) (by simp)) ?_
            clear hK K
            try simp only [Act.put, List.setIfInBounds_toArray, List.set_cons_zero, List.set_cons_succ]
            refine anyH_ready (rs := [5]) (by decide +kernel) (by simp) ?_
            refine AllReadyH.cons (o := { dst := some 45, op := .call { callee := .builtin .append, args := #[.tmp 42, .tmp 44], argTypes := #[26, 26] }, type := _, pos := _, after := _, guard := none }) rfl (fun K hK => ?_) AllReadyH.nil
            have hE := HC.out.ownOf (e := 36) (sz := 20) (v := v8) (n := 0 + H.length) (cs := [] ++ usC H) (List.mem_cons_self)
            have hL := (HC.out.blkOf (p := q2) (cs := u.cells) (T := 36) (by simp)).slZ u.cells_length u.cells_one
            refine step_app2 rfl (.tmp 42) (.tmp 44) elRU rfl 0 rfl hE.1 hE.2 rfl hL (by unfold maxLen; omega) (by omega) (Nat.zero_le _) ?_
            intro v9 w9 k1 k2 k3
            have HC := Lib.hid (HC.out.append (B := 0) k1 k2 k3)
            clear k1 k2 k3 hE hL
            refine hK _ _ (HC.out.blkOf (p := q) (cs := u.cells) (T := 36) (by simp)) ?_
            clear hK K
            try simp only [Act.put, List.setIfInBounds_toArray, List.set_cons_zero, List.set_cons_succ]
            refine wpAnyH_take (i := 6) (oi := { dst := some 4, op := _, type := _, pos := _, after := _, guard := none }) (v := v9) rfl (by kernel_rfl) (by kernel_rfl) (by kernel_rfl) (fun _ _ _ h => h) (Or.inl ⟨by rfl, by intro W hW; go_simp⟩) (HC.out.blkOf (p := q) (cs := u.cells) (T := 36) (by simp)) ?_
            simp only [Act.put, List.setIfInBounds_toArray, List.set_cons_zero, List.set_cons_succ]
            refine wpAnyH_take (i := 7) (oi := { dst := some 5, op := _, type := _, pos := _, after := _, guard := none }) (v := .int .i64 0) rfl (by kernel_rfl) (by kernel_rfl) (by kernel_rfl) (fun _ _ _ h => h) (Or.inl ⟨by rfl, by intro W hW; go_simp⟩) (HC.out.blkOf (p := q) (cs := u.cells) (T := 36) (by simp)) ?_
            simp only [Act.put, List.setIfInBounds_toArray, List.set_cons_zero, List.set_cons_succ]
            refine wpAnyH_done (by decide +kernel) ?_ _
            go_wp2_with fail
            go_ret2
            rw [HA.out]
            refine ⟨v9, rfl, ?_⟩
            have h9 := HC.out.front (m := [_, _, _, _]) (l := l) [1, 2, 3, 0] 4 (by decide) |>.tail.tail.tail
            unfold ruR
            rw [usC_append, usC_one1, List.length_append, ← List.nil_append (usC H), ← Nat.zero_add H.length]
            exact h9
end Go.Proofs.Ytclonbojpcgngaa
