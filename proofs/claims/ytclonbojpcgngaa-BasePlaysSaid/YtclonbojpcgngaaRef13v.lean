/- Contracts: the document's users (compeerref13): Drop, Names. (Printed by wip/tools/genref13v.py.) -/
import Derived.Test.YtclonbojpcgngaaRef13u
namespace Go.Proofs.Ytclonbojpcgngaa
set_option linter.unusedSimpArgs false
set_option linter.unusedVariables false
open Go.RowKit

/-- Somebody goes, as the document has it. -/
def dropR (H : List Us) (s : ByteArray) : List Us × Int := if findI H s < 0 then (H, 9) else (H.take (findI H s).toNat ++ H.drop ((findI H s).toNat + 1), 0)

set_option maxRecDepth 100000 in
set_option maxHeartbeats 4000000 in
theorem refDrop_any (v : Value) (H : List Us) (s : ByteArray) (l : List Res) (w : World) (h : Hold w (ruR v H :: l)) (hl : H.length ≤ 900) :
    Calls Try.prog 11 #[v, .string s] w fun e w' => ∃ v', e = .returned (.tuple #[v', .int .i64 (dropR H s).2]) ∧ Hold w' (ruR v' (dropR H s).1 :: l) := by
  have HC := Lib.hid h
  have HFI := Lib.hid (refFind_any v H s _ w h (by omega))
  obtain ⟨hc1, hc2⟩ | ⟨k, hk1, hk2, hk3⟩ := findI_cases H s
  · have HA : Hid (dropR H s = (H, 9)) := Lib.hid (by rw [dropR, if_pos (by rw [hc1]; decide)])
    obtain ⟨a, c, rfl, hc, hm⟩ := (h.ownOf (List.mem_cons_self)).1.sl.form
    have HF := Lib.hid hc1
    clear h hc1 hc2
    go_enter Try.func11, Try.ntmps11
    go_wp2_with fail
    refine HFI.out.mono ?_
    rintro e w1 ⟨rfl, rfl⟩
    rw [HF.out]
    go_wp2_with fail
    go_ret2
    rw [HA.out]
    exact ⟨_, rfl, HC.out⟩
  · have HA : Hid (dropR H s = (H.take k ++ H.drop (k + 1), 0)) := Lib.hid (by rw [dropR, if_neg (by rw [hk1]; omega), hk1]; rfl)
    obtain ⟨g, c, rfl, hgc, hcm⟩ : ∃ g c, v = .slice (some ⟨g, 0, none⟩) H.length c ∧ H.length ≤ c ∧ c ≤ maxLen := by
      obtain ⟨_, _, ⟨a, _, h2⟩ | ⟨g, cap, cur, h1, _, _, h4, h5, _⟩⟩ := (h.ownOf (List.mem_cons_self)).1
      · omega
      · exact ⟨g, cap, h1, h4, h5⟩
    have HF := Lib.hid hk1
    have F1 : Hid (∀ W, (Instr.sliceAt 26 (.slice (some ⟨g, 0, none⟩) H.length c) none (some (.int .i64 k)) none).run Try.prog W = .ok (.slice (some ⟨g, 0, none⟩) k c) W) := Lib.hid (fun W => run_sliceL (P := Try.prog) Try.underlying26 szRU g H.length c k (by omega) W)
    have F2 : Hid (∀ W, (Instr.sliceAt 26 (.slice (some ⟨g, 0, none⟩) H.length c) (some (.int .i64 ((k : Int) + 1))) none none).run Try.prog W = .ok (.slice (cutAt g c (k + 1) 20) (H.length - (k + 1)) (c - (k + 1))) W) := Lib.hid (fun W => run_sliceR (P := Try.prog) Try.underlying26 szRU g H.length c (k + 1) (by omega) hgc W)
    clear h hk1
    go_enter Try.func11, Try.ntmps11
    go_wp2_with fail
    refine HFI.out.mono ?_
    rintro e w1 ⟨rfl, rfl⟩
    rw [HF.out]
    go_upto_region 4 with fail
    have HC := Lib.hid HC.out.drew
    refine wp_region_held (S := fun _ : World => True) (by kernel_rfl) ?_
    change wpAnyH _ _ _ _ _ _ _ _ (World.drew _)
    refine wpAnyH_take (i := 1) (oi := { dst := some 14, op := _, type := _, pos := _, after := _, guard := none }) (v := .slice (some ⟨g, 0, none⟩) H.length c) rfl (by kernel_rfl) (by kernel_rfl) (by kernel_rfl) (fun _ _ _ h => h) (Or.inl ⟨by rfl, by intro W hW; go_simp⟩) trivial ?_
    simp only [Act.put, List.setIfInBounds_toArray, List.set_cons_zero, List.set_cons_succ]
    refine wpAnyH_take (i := 2) (oi := { dst := some 15, op := _, type := _, pos := _, after := _, guard := none }) (v := .int .i64 k) rfl (by kernel_rfl) (by kernel_rfl) (by kernel_rfl) (fun _ _ _ h => h) (Or.inl ⟨by rfl, by intro W hW; go_simp⟩) trivial ?_
    simp only [Act.put, List.setIfInBounds_toArray, List.set_cons_zero, List.set_cons_succ]
    refine wpAnyH_take (i := 3) (oi := { dst := some 16, op := _, type := _, pos := _, after := _, guard := none }) (v := .slice (some ⟨g, 0, none⟩) k c) rfl (by kernel_rfl) (by kernel_rfl) (by kernel_rfl) (fun _ _ _ h => h) (Or.inl ⟨by rfl, by intro W hW; exact exec_slice rfl (F1.out W)⟩) trivial ?_
    simp only [Act.put, List.setIfInBounds_toArray, List.set_cons_zero, List.set_cons_succ]
    refine wpAnyH_take (i := 5) (oi := { dst := some 18, op := _, type := _, pos := _, after := _, guard := none }) (v := .slice (some ⟨g, 0, none⟩) H.length c) rfl (by kernel_rfl) (by kernel_rfl) (by kernel_rfl) (fun _ _ _ h => h) (Or.inl ⟨by rfl, by intro W hW; go_simp⟩) trivial ?_
    simp only [Act.put, List.setIfInBounds_toArray, List.set_cons_zero, List.set_cons_succ]
    refine wpAnyH_take (i := 6) (oi := { dst := some 19, op := _, type := _, pos := _, after := _, guard := none }) (v := .int .i64 k) rfl (by kernel_rfl) (by kernel_rfl) (by kernel_rfl) (fun _ _ _ h => h) (Or.inl ⟨by rfl, by intro W hW; go_simp⟩) trivial ?_
    simp only [Act.put, List.setIfInBounds_toArray, List.set_cons_zero, List.set_cons_succ]
    refine wpAnyH_take (i := 7) (oi := { dst := some 20, op := _, type := _, pos := _, after := _, guard := none }) (v := .int .i64 ((k : Int) + 1)) rfl (by kernel_rfl) (by kernel_rfl) (by kernel_rfl) (fun _ _ _ h => h) (Or.inl ⟨by rfl, by intro W hW; go_simp; rw [IntKind.wrap_i64]; omega⟩) trivial ?_
    simp only [Act.put, List.setIfInBounds_toArray, List.set_cons_zero, List.set_cons_succ]
    refine wpAnyH_take (i := 8) (oi := { dst := some 21, op := _, type := _, pos := _, after := _, guard := none }) (v := .slice (cutAt g c (k + 1) 20) (H.length - (k + 1)) (c - (k + 1))) rfl (by kernel_rfl) (by kernel_rfl) (by kernel_rfl) (fun _ _ _ h => h) (Or.inl ⟨by rfl, by intro W hW; exact exec_slice rfl (F2.out W)⟩) trivial ?_
    simp only [Act.put, List.setIfInBounds_toArray, List.set_cons_zero, List.set_cons_succ]
    refine anyH_ready (rs := [0]) (by decide +kernel) (by simp) ?_
    refine AllReadyH.cons (o := { dst := some 13, op := .buildSlice 26 0 #[], type := _, pos := _, after := _, guard := none }) rfl (fun K hK => ?_) AllReadyH.nil
    refine step_bs0 rfl elRU rfl ?_
    obtain ⟨e0, he0⟩ : ∃ e0, e0 = (w.drew).heap.size := ⟨_, rfl⟩
    have HC := Lib.hid (HC.out.addEmpty 36 20 he0.symm)
    rw [← he0]
    obtain ⟨w6, hw6⟩ : ∃ w6, w6 = (w.drew).alloc (.cells #[] 36) := ⟨_, rfl⟩
    rw [← hw6] at HC ⊢
    clear he0 hw6
    refine hK _ _ trivial ?_
    clear hK K
    try simp only [Act.put, List.setIfInBounds_toArray, List.set_cons_zero, List.set_cons_succ]
    refine anyH_ready (rs := [4]) (by decide +kernel) (by simp) ?_
    refine AllReadyH.cons (o := { dst := some 17, op := .call { callee := .builtin .append, args := #[.tmp 13, .tmp 16], argTypes := #[26, 26] }, type := _, pos := _, after := _, guard := none }) rfl (fun K hK => ?_) AllReadyH.nil
    have hE := HC.out.ownOf (e := 36) (sz := 20) (v := .slice (some ⟨e0, 0, none⟩) 0 0) (n := 0) (cs := []) (List.mem_cons_self)
    have hL := (HC.out.ownOf (e := 36) (sz := 20) (v := .slice (some ⟨g, 0, none⟩) H.length c) (n := H.length) (cs := usC H) (by simp)).1.sl.left k (by omega)
    refine step_app2 rfl (.tmp 13) (.tmp 16) elRU rfl 0 rfl hE.1 hE.2 rfl hL (by unfold maxLen; omega) (by omega) (Nat.zero_le _) ?_
    intro v8 w8 k1 k2 k3
    have HC := Lib.hid (HC.out.append (B := 0) k1 k2 k3)
    clear k1 k2 k3 hE hL
    refine hK _ _ trivial ?_
    clear hK K
    try simp only [Act.put, List.setIfInBounds_toArray, List.set_cons_zero, List.set_cons_succ]
    refine anyH_ready (rs := [9]) (by decide +kernel) (by simp) ?_
    refine AllReadyH.cons (o := { dst := some 22, op := .call { callee := .builtin .append, args := #[.tmp 17, .tmp 21], argTypes := #[26, 26] }, type := _, pos := _, after := _, guard := none }) rfl (fun K hK => ?_) AllReadyH.nil
    have hE := HC.out.ownOf (e := 36) (sz := 20) (v := v8) (n := 0 + k) (cs := [] ++ (usC H).take (k * 20)) (List.mem_cons_self)
    have hL := (HC.out.ownOf (e := 36) (sz := 20) (v := .slice (some ⟨g, 0, none⟩) H.length c) (n := H.length) (cs := usC H) (by simp)).1.sl.right (k + 1) (by omega)
    refine step_app2 rfl (.tmp 17) (.tmp 21) elRU rfl 0 rfl hE.1 hE.2 rfl hL (by unfold maxLen; omega) (by omega) (Nat.zero_le _) ?_
    intro v9 w9 k1 k2 k3
    have HC := Lib.hid (HC.out.append (B := 0) k1 k2 k3)
    clear k1 k2 k3 hE hL
    refine hK _ _ trivial ?_
    clear hK K
    try simp only [Act.put, List.setIfInBounds_toArray, List.set_cons_zero, List.set_cons_succ]
    refine wpAnyH_take (i := 10) (oi := { dst := some 4, op := _, type := _, pos := _, after := _, guard := none }) (v := v9) rfl (by kernel_rfl) (by kernel_rfl) (by kernel_rfl) (fun _ _ _ h => h) (Or.inl ⟨by rfl, by intro W hW; go_simp⟩) trivial ?_
    simp only [Act.put, List.setIfInBounds_toArray, List.set_cons_zero, List.set_cons_succ]
    refine wpAnyH_take (i := 11) (oi := { dst := some 5, op := _, type := _, pos := _, after := _, guard := none }) (v := .int .i64 0) rfl (by kernel_rfl) (by kernel_rfl) (by kernel_rfl) (fun _ _ _ h => h) (Or.inl ⟨by rfl, by intro W hW; go_simp⟩) trivial ?_
    simp only [Act.put, List.setIfInBounds_toArray, List.set_cons_zero, List.set_cons_succ]
    refine wpAnyH_done (by decide +kernel) ?_ _
    go_wp2_with fail
    go_ret2
    rw [HA.out]
    refine ⟨v9, rfl, ?_⟩
    have h9 := HC.out.swap.tail
    have hlen : (H.take k ++ H.drop (k + 1)).length = 0 + k + (H.length - (k + 1)) := by simp; omega
    unfold ruR
    rw [hlen, usC_append, usC_take, usC_drop, ← List.nil_append ((usC H).take (k * 20))]
    exact h9

/-- 's[i:]' whose run is known. -/
theorem wpList_slR {P : Program} {ops : Array Oper} {rest : List Oper} {o : Oper} {a : Act} {w : World} {Q : Exit → Act → World → Prop} (hgd : Region.wanted o (yielded ops a.tmps) = true) (x y : Operand) {t : TypeId} (ho : o.op = .slice t x (some y) none none) {vx vy v : Value} (hx : a.eval x = vx) (hy : a.eval y = vy)
    (hr : (Instr.sliceAt t vx (some vy) none none).run P w = .ok v w) (h : wpList P ops Q rest (a.put o.dst v) w) : wpList P ops Q (o :: rest) a w := by
  refine wpList_want hgd fun K hK => ?_
  unfold Oper.wp execOp
  simp only [ho, Option.map_some, Option.map_none, hx, hy, Sem.run_bind, Sem.run_pure, Result.andThen_ok, hr]
  exact hK _ _ h

/-- Where a name is laid in, from behind. -/
def posE (out : List ByteArray) (nm : ByteArray) : Nat → Nat
  | 0 => 0
  | k + 1 => if 0 < cmpN (out.getD k .empty) nm then posE out nm k else k + 1
theorem posE_le (out : List ByteArray) (nm : ByteArray) : ∀ k, posE out nm k ≤ k
  | 0 => Nat.le_refl _
  | k + 1 => by
    rw [posE]
    split
    · exact Nat.le_succ_of_le (posE_le out nm k)
    · exact Nat.le_refl _
def insNm (out : List ByteArray) (nm : ByteArray) : List ByteArray := out.take (posE out nm out.length) ++ nm :: out.drop (posE out nm out.length)
theorem insNm_length (out : List ByteArray) (nm : ByteArray) : (insNm out nm).length = out.length + 1 := by
  have := posE_le out nm out.length
  simp [insNm]; omega
def namesR (H : List Us) : List ByteArray := H.foldl (fun out u => insNm out u.name) []
theorem namesR_snoc (H : List Us) (k : Nat) (h : k < H.length) : namesR (H.take (k + 1)) = insNm (namesR (H.take k)) H[k].name := by
  rw [List.take_succ_eq_append_getElem h, namesR, List.foldl_append]
  rfl
theorem namesR_len (H : List Us) (k : Nat) (h : k ≤ H.length) : (namesR (H.take k)).length = k := by
  induction k with
  | zero => rfl
  | succ k ih => rw [namesR_snoc H k h, insNm_length, ih (by omega)]
def stC (l : List ByteArray) : List Value := l.map Value.string
theorem stC_len (l : List ByteArray) : (stC l).length = l.length := by simp [stC]
theorem gtr_cmp (a b : ByteArray) : (!(Op.bytesLess a.toList b.toList || a.toList == b.toList)) = decide (0 < cmpN a b) := by
  have h1 := less_cb a.data.toList b.data.toList
  rw [← ByteArray.toList_eq, ← ByteArray.toList_eq] at h1
  rw [h1]
  have h2 := cmpN_anti a b
  by_cases he : a = b
  · subst he
    simp [cmpN_self]
  · have h3 : (a.toList == b.toList) = false := nm_ne he
    have h4 : cmpN a b ≠ 0 := fun e => he (cmpN_eq e)
    rw [h3, Bool.or_false]
    have h5 : Lib.compareBytes a.toList b.toList = cmpN a b := by rw [ByteArray.toList_eq, ByteArray.toList_eq]; rfl
    rw [h5]
    by_cases h6 : cmpN a b < 0
    · have : ¬ 0 < cmpN a b := by omega
      simp [h6, this]
    · have : 0 < cmpN a b := by omega
      simp [h6, this]
theorem exec_gtrS {P : Program} {o : Oper} {a : Act} {W : World} {x y : Operand} {t r : TypeId} (ho : o.op = .binOp .gtr t x y r) {c d : ByteArray} (hx : a.eval x = .string c) (hy : a.eval y = .string d) {v : Bool} (hv : decide (0 < cmpN c d) = v) :
    (execOp a.eval o).run P W = .ok (.value (.bool v)) W := by
  have hr : (do eqGuard .gtr t x y (.string c) (.string d); binOp .gtr t (.string c) (.string d)).run P W = .ok (.bool v) W := by
    have hg := gtr_cmp c d
    rw [hv] at hg
    simp [eqGuard, binOp, Op.stringOp]
    simpa using hg
  unfold execOp
  simp only [ho, hx, hy, Sem.run_bind, Sem.run_pure, Result.andThen_ok] at hr ⊢
  rw [hr]
  rfl
theorem Hold.ownTake {W : World} {l : List Res} {e : TypeId} {sz g n cap : Nat} {cs : List Value} (h : Hold W (.own e sz (.slice (some ⟨g, 0, none⟩) n cap) n cs :: l)) (k : Nat) (hk : k ≤ n) : Hold W (.own e sz (.slice (some ⟨g, 0, none⟩) k cap) k (cs.take (k * sz)) :: l) := by
  refine h.weaken fun F hF => ⟨F, ⟨?_, hF.2.1, hF.2.2⟩, fun _ h => h⟩
  obtain ⟨h0, h1, ⟨a, h2, h3⟩ | ⟨g', cap', cur, h2, h3, h4, h5, h6, h7, h8⟩⟩ := hF.1
  · simp only [Value.slice.injEq] at h2
    obtain ⟨rfl, _, rfl⟩ := h2
    obtain rfl : k = 0 := by omega
    exact ⟨by simp, by simp, .inl ⟨_, rfl, rfl⟩⟩
  · simp only [Value.slice.injEq, Option.some.injEq, Addr.mk.injEq, and_true, true_and] at h2
    obtain ⟨rfl, rfl⟩ := h2
    have hmul : k * sz ≤ n * sz := Nat.mul_le_mul_right _ hk
    refine ⟨by rw [List.length_take]; omega, fun u hu => h1 u (List.mem_of_mem_take hu), .inr ⟨g, cap, cur, rfl, h3, h4, by omega, h6, h7, ?_⟩⟩
    rw [← h8, List.take_take, Nat.min_eq_left hmul]
theorem szST (w : World) : (sizeOf 9).run Try.prog w = .ok 1 w := by kernel_rfl
abbrev snR (v : Value) (N : List ByteArray) : Res := .own 9 1 v N.length (stC N)
theorem snR_cell {W : World} {l : List Res} {a : Option Addr} {c : Nat} {N : List ByteArray} (h : Hold W l) (hm : snR (.slice a N.length c) N ∈ l) (hp : 0 < N.length) : ∃ b o, a = some ⟨b, o, none⟩ ∧ ∀ k (hk : k < N.length), W.cell? ⟨b, o + k, none⟩ = some (.string N[k]) := by
  obtain ⟨b, o, rfl, hc⟩ := (h.ownOf hm).1.sl.addr (by rw [stC_len]; exact hp)
  exact ⟨b, o, rfl, fun k hk => hc k _ (by simp [stC, hk])⟩

theorem own_cast {W : World} {l : List Res} {e : TypeId} {sz n n' : Nat} {v : Value} {cs cs' : List Value} (h : Hold W (.own e sz v n cs :: l)) (hn : n = n') (hc : cs = cs') : Hold W (.own e sz v n' cs' :: l) := by
  subst hn hc
  exact h
theorem ruR_name {W : World} {l : List Res} {b o c : Nat} {H : List Us} (h : Hold W l) (hm : ruR (.slice (some ⟨b, o, none⟩) H.length c) H ∈ l) (k : Nat) (hk : k < H.length) : W.cell? ⟨b, o + k * 20, none⟩ = some (.string H[k].name) := by
  obtain ⟨b', o', he, hc⟩ := ruR_cells h hm (by omega)
  simp only [Option.some.injEq, Addr.mk.injEq, and_true] at he
  obtain ⟨rfl, rfl⟩ := he
  have := hc k hk 0 _ (H[k].c0)
  rwa [Nat.add_zero] at this
theorem snR_name {W : World} {l : List Res} {g c k : Nat} {N : List ByteArray} (h : Hold W l) (hm : Res.own 9 1 (.slice (some ⟨g, 0, none⟩) k c) k (stC N) ∈ l) (hN : N.length = k) (j : Nat) (hj : j < N.length) : W.cell? ⟨g, j, none⟩ = some (.string N[j]) := by
  subst hN
  obtain ⟨b', o', he, hc⟩ := snR_cell h hm (by omega)
  simp only [Option.some.injEq, Addr.mk.injEq, and_true] at he
  obtain ⟨rfl, rfl⟩ := he
  have := hc j hj
  rwa [Nat.zero_add] at this

set_option maxRecDepth 100000 in
set_option maxHeartbeats 8000000 in
theorem refNames_any (v : Value) (H : List Us) (l : List Res) (w : World) (h : Hold w (ruR v H :: l)) (hl : H.length ≤ 900) :
    Calls Try.prog 16 #[v] w fun e w' => ∃ v', e = .returned v' ∧ Hold w' (snR v' (namesR H) :: ruR v H :: l) := by
  obtain ⟨a, c, rfl, hc, hm⟩ := (h.ownOf (List.mem_cons_self)).1.sl.form
  unfold maxLen at hm
  have HC := Lib.hid (h.addEmpty 9 1 rfl)
  clear h
  go_enter Try.func16, Try.ntmps16
  go_wp2_with fail
  go_loopw [3, 4] (fun ov iv wr => ∃ (k g cO : Nat), iv = .int .i64 k ∧ k ≤ H.length ∧ ov = .slice (some ⟨g, 0, none⟩) k cO ∧ k ≤ cO ∧ cO ≤ 9223372036854775807 ∧ Hold wr (.own 9 1 ov k (stC (namesR (H.take k))) :: ruR (.slice a H.length c) H :: l)) (fun _ i _ => H.length - (intOf i).toNat)
  case atStart => exact ⟨0, _, 0, rfl, Nat.zero_le _, rfl, Nat.le_refl _, by omega, HC.out⟩
  case round =>
    obtain ⟨k, g, cO, rfl, hk, rfl, hkc, hcO, hr⟩ := hrel
    obtain ⟨N, hN⟩ : ∃ N, N = namesR (H.take k) := ⟨_, rfl⟩
    have hNl : N.length = k := by rw [hN]; exact namesR_len H k hk
    rw [← hN] at hr
    have HR := Lib.hid hr
    have HNE := Lib.hid hN
    clear hr HC hN
    by_cases hlt : k < H.length
    · obtain ⟨b, o, ha, hcell⟩ := ruR_cells (H := H) (a := a) (c := c) HR.out (by simp) (by omega)
      subst ha
      have e0 := hcell k hlt 0 _ (H[k].c0)
      rw [Nat.add_zero] at e0
      have hsn := namesR_snoc H k hlt
      obtain ⟨nm, hnm⟩ : ∃ nm, nm = H[k].name := ⟨_, rfl⟩
      rw [← hnm] at e0 hsn
      have HNM := Lib.hid hnm
      rw [← HNE.out] at hsn
      have HSN := Lib.hid hsn
      clear hcell hnm hsn
      go_wp2_with fail
      go_loopw [5] (fun av ws => ∃ (p : Nat), av = .int .i64 p ∧ p ≤ k ∧ posE N nm k = posE N nm p ∧ Hold ws (.own 9 1 (.slice (some ⟨g, 0, none⟩) k cO) k (stC N) :: ruR (.slice (some ⟨b, o, none⟩) H.length c) H :: l)) (fun av _ => (intOf av).toNat)
      case atStart => exact ⟨k, rfl, Nat.le_refl _, rfl, HR.out⟩
      case round =>
        obtain ⟨p, rfl, hp, hpos, hr⟩ := hrel
        have HR := Lib.hid hr
        have HPOS := Lib.hid hpos
        clear hr hpos e0
        by_cases hp0 : p = 0
        · subst hp0
          go_upto_region 6 with fail
          have HC := Lib.hid HR.out.drew
          refine wp_region_held (S := fun _ : World => True) (by kernel_rfl) ?_
          change wpAnyH _ _ _ _ _ _ _ _ (World.drew _)
          refine wpAnyH_take (i := 0) (oi := { dst := some 16, op := _, type := _, pos := _, after := _, guard := none }) (v := .int .i64 (0 : Nat)) rfl (by kernel_rfl) (by kernel_rfl) (by kernel_rfl) (fun _ _ _ h => h) (Or.inl ⟨by rfl, by intro W hW; go_simp⟩) trivial ?_
          simp only [Act.put, List.setIfInBounds_toArray, List.set_cons_zero, List.set_cons_succ]
          refine wpAnyH_take (i := 1) (oi := { dst := some 17, op := _, type := _, pos := _, after := _, guard := none }) (v := .bool false) rfl (by kernel_rfl) (by kernel_rfl) (by kernel_rfl) (fun _ _ _ h => h) (Or.inl ⟨by rfl, by intro W hW; go_simp⟩) trivial ?_
          simp only [Act.put, List.setIfInBounds_toArray, List.set_cons_zero, List.set_cons_succ]
          refine wpAnyH_take (i := 2) (oi := { dst := some 18, op := _, type := _, pos := _, after := _, guard := none }) (v := .bool false) rfl (by kernel_rfl) (by kernel_rfl) (by kernel_rfl) (fun _ _ _ h => h) (Or.inl ⟨by rfl, by intro W hW; go_simp⟩) trivial ?_
          simp only [Act.put, List.setIfInBounds_toArray, List.set_cons_zero, List.set_cons_succ]
          refine wpAnyH_take (i := 3) (oi := { dst := some 19, op := _, type := _, pos := _, after := _, guard := (some (2, true)) }) (v := undef) rfl (by kernel_rfl) (by kernel_rfl) (by kernel_rfl) (fun _ _ _ h => h) (Or.inr ⟨by rfl, rfl⟩) trivial ?_
          simp only [Act.put, List.setIfInBounds_toArray, List.set_cons_zero, List.set_cons_succ]
          refine wpAnyH_take (i := 4) (oi := { dst := some 20, op := _, type := _, pos := _, after := _, guard := (some (2, true)) }) (v := undef) rfl (by kernel_rfl) (by kernel_rfl) (by kernel_rfl) (fun _ _ _ h => h) (Or.inr ⟨by rfl, rfl⟩) trivial ?_
          simp only [Act.put, List.setIfInBounds_toArray, List.set_cons_zero, List.set_cons_succ]
          refine wpAnyH_take (i := 5) (oi := { dst := some 21, op := _, type := _, pos := _, after := _, guard := (some (2, true)) }) (v := undef) rfl (by kernel_rfl) (by kernel_rfl) (by kernel_rfl) (fun _ _ _ h => h) (Or.inr ⟨by rfl, rfl⟩) trivial ?_
          simp only [Act.put, List.setIfInBounds_toArray, List.set_cons_zero, List.set_cons_succ]
          refine wpAnyH_take (i := 6) (oi := { dst := some 22, op := _, type := _, pos := _, after := _, guard := (some (2, true)) }) (v := undef) rfl (by kernel_rfl) (by kernel_rfl) (by kernel_rfl) (fun _ _ _ h => h) (Or.inr ⟨by rfl, rfl⟩) trivial ?_
          simp only [Act.put, List.setIfInBounds_toArray, List.set_cons_zero, List.set_cons_succ]
          refine wpAnyH_take (i := 7) (oi := { dst := some 23, op := _, type := _, pos := _, after := _, guard := (some (2, true)) }) (v := undef) rfl (by kernel_rfl) (by kernel_rfl) (by kernel_rfl) (fun _ _ _ h => h) (Or.inr ⟨by rfl, rfl⟩) trivial ?_
          simp only [Act.put, List.setIfInBounds_toArray, List.set_cons_zero, List.set_cons_succ]
          refine wpAnyH_take (i := 8) (oi := { dst := some 24, op := _, type := _, pos := _, after := _, guard := (some (2, true)) }) (v := undef) rfl (by kernel_rfl) (by kernel_rfl) (by kernel_rfl) (fun _ _ _ h => h) (Or.inr ⟨by rfl, rfl⟩) trivial ?_
          simp only [Act.put, List.setIfInBounds_toArray, List.set_cons_zero, List.set_cons_succ]
          refine wpAnyH_take (i := 9) (oi := { dst := some 25, op := _, type := _, pos := _, after := _, guard := (some (2, true)) }) (v := undef) rfl (by kernel_rfl) (by kernel_rfl) (by kernel_rfl) (fun _ _ _ h => h) (Or.inr ⟨by rfl, rfl⟩) trivial ?_
          simp only [Act.put, List.setIfInBounds_toArray, List.set_cons_zero, List.set_cons_succ]
          refine wpAnyH_take (i := 10) (oi := { dst := some 26, op := _, type := _, pos := _, after := _, guard := (some (2, true)) }) (v := undef) rfl (by kernel_rfl) (by kernel_rfl) (by kernel_rfl) (fun _ _ _ h => h) (Or.inr ⟨by rfl, rfl⟩) trivial ?_
          simp only [Act.put, List.setIfInBounds_toArray, List.set_cons_zero, List.set_cons_succ]
          refine wpAnyH_take (i := 11) (oi := { dst := some 27, op := _, type := _, pos := _, after := _, guard := (some (2, true)) }) (v := undef) rfl (by kernel_rfl) (by kernel_rfl) (by kernel_rfl) (fun _ _ _ h => h) (Or.inr ⟨by rfl, rfl⟩) trivial ?_
          simp only [Act.put, List.setIfInBounds_toArray, List.set_cons_zero, List.set_cons_succ]
          refine wpAnyH_take (i := 12) (oi := { dst := some 28, op := _, type := _, pos := _, after := _, guard := (some (2, true)) }) (v := undef) rfl (by kernel_rfl) (by kernel_rfl) (by kernel_rfl) (fun _ _ _ h => h) (Or.inr ⟨by rfl, rfl⟩) trivial ?_
          simp only [Act.put, List.setIfInBounds_toArray, List.set_cons_zero, List.set_cons_succ]
          refine wpAnyH_take (i := 13) (oi := { dst := some 29, op := _, type := _, pos := _, after := _, guard := (some (2, true)) }) (v := undef) rfl (by kernel_rfl) (by kernel_rfl) (by kernel_rfl) (fun _ _ _ h => h) (Or.inr ⟨by rfl, rfl⟩) trivial ?_
          simp only [Act.put, List.setIfInBounds_toArray, List.set_cons_zero, List.set_cons_succ]
          refine wpAnyH_take (i := 14) (oi := { dst := some 30, op := _, type := _, pos := _, after := _, guard := none }) (v := .bool false) rfl (by kernel_rfl) (by kernel_rfl) (by kernel_rfl) (fun _ _ _ h => h) (Or.inl ⟨by rfl, by intro W hW; go_simp⟩) trivial ?_
          simp only [Act.put, List.setIfInBounds_toArray, List.set_cons_zero, List.set_cons_succ]
          refine wpAnyH_done (by decide +kernel) ?_ _
          have hpe : posE N nm 0 = 0 := rfl
          rw [hpe] at HPOS
          clear hpe
          have hHl : H.length ≤ 900 := hl
          have F1 : Hid (∀ W, (Instr.sliceAt 45 (.slice (some ⟨g, 0, none⟩) k cO) none (some (.int .i64 (0 : Nat))) none).run Try.prog W = .ok (.slice (some ⟨g, 0, none⟩) (0) cO) W) := Lib.hid (fun W => run_sliceL (P := Try.prog) Try.underlying45 szST g k cO (0) (by omega) W)
          have f2 : ∀ W, (Instr.sliceAt 45 (.slice (some ⟨g, 0, none⟩) k cO) (some (.int .i64 (0 : Nat))) none none).run Try.prog W = .ok (.slice (cutAt g cO (0) 1) (k - (0)) (cO - (0))) W := fun W => run_sliceR (P := Try.prog) Try.underlying45 szST g k cO (0) hp hkc W
          have F2 := Lib.hid f2
          have HC6 := Lib.hid (HC.out.addEmpty 9 1 rfl)
          have HOE := Lib.hid (HC6.out.ownOf (List.mem_cons_self))
          have HSR := Lib.hid ((HC6.out.ownOf (e := 9) (sz := 1) (v := .slice (some ⟨g, 0, none⟩) k cO) (n := k) (cs := stC N) (by simp)).1.sl.right (0) hp)
          clear f2
          go_wp2_with (first | ((with_reducible show wpList _ _ _ (⟨some 36, _, _, _, _, _⟩ :: _) _ _); refine wpList_slR rfl (.tmp 34) (.tmp 35) rfl rfl rfl (F2.out _) ?_) | ((with_reducible show wpList _ _ _ (⟨some 37, _, _, _, _, _⟩ :: _) _ _); refine wpList_app2 rfl (.tmp 33) (.tmp 36) elStr rfl 0 HOE.out.1 HOE.out.2 HSR.out (by unfold maxLen; omega) (by omega) (Nat.zero_le _) ?_))
          intro v8 w8 k1 k2 k3
          have HC8 := Lib.hid (HC6.out.append (B := 0) k1 (k2.mono fun k h => by simpa using h) (fun k h => by simpa using k3 k h))
          clear k1 k2 k3 HC6 HOE HSR HC HR
          have HC := Lib.hid HC8.out.swap
          go_upto_region 9 with fail
          have HC := Lib.hid HC.out.drew
          refine wp_region_held (S := fun W : World => W.cell? ⟨b, o + k * 20, none⟩ = some (.string nm)) (by kernel_rfl) ?_
          change wpAnyH _ _ _ _ _ _ _ _ (World.drew _)
          refine wpAnyH_take (i := 0) (oi := { dst := some 38, op := _, type := _, pos := _, after := _, guard := none }) (v := .slice (some ⟨g, 0, none⟩) k cO) rfl (by kernel_rfl) (by kernel_rfl) (by kernel_rfl) (fun _ _ _ h => h) (Or.inl ⟨by rfl, by intro W hW; go_simp⟩) (by have h := ruR_name (b := b) (o := o) (c := c) HC.out (by simp) k hlt; rw [← HNM.out] at h; exact h) ?_
          simp only [Act.put, List.setIfInBounds_toArray, List.set_cons_zero, List.set_cons_succ]
          refine wpAnyH_take (i := 1) (oi := { dst := some 39, op := _, type := _, pos := _, after := _, guard := none }) (v := .int .i64 (0 : Nat)) rfl (by kernel_rfl) (by kernel_rfl) (by kernel_rfl) (fun _ _ _ h => h) (Or.inl ⟨by rfl, by intro W hW; go_simp⟩) (by have h := ruR_name (b := b) (o := o) (c := c) HC.out (by simp) k hlt; rw [← HNM.out] at h; exact h) ?_
          simp only [Act.put, List.setIfInBounds_toArray, List.set_cons_zero, List.set_cons_succ]
          refine wpAnyH_take (i := 2) (oi := { dst := some 40, op := _, type := _, pos := _, after := _, guard := none }) (v := .slice (some ⟨g, 0, none⟩) (0) cO) rfl (by kernel_rfl) (by kernel_rfl) (by kernel_rfl) (fun _ _ _ h => h) (Or.inl ⟨by rfl, by intro W hW; exact exec_slice rfl (F1.out W)⟩) (by have h := ruR_name (b := b) (o := o) (c := c) HC.out (by simp) k hlt; rw [← HNM.out] at h; exact h) ?_
          simp only [Act.put, List.setIfInBounds_toArray, List.set_cons_zero, List.set_cons_succ]
          refine wpAnyH_take (i := 3) (oi := { dst := some 41, op := _, type := _, pos := _, after := _, guard := none }) (v := .slice (some ⟨b, o, none⟩) H.length c) rfl (by kernel_rfl) (by kernel_rfl) (by kernel_rfl) (fun _ _ _ h => h) (Or.inl ⟨by rfl, by intro W hW; go_simp⟩) (by have h := ruR_name (b := b) (o := o) (c := c) HC.out (by simp) k hlt; rw [← HNM.out] at h; exact h) ?_
          simp only [Act.put, List.setIfInBounds_toArray, List.set_cons_zero, List.set_cons_succ]
          refine wpAnyH_take (i := 4) (oi := { dst := some 42, op := _, type := _, pos := _, after := _, guard := none }) (v := .int .i64 k) rfl (by kernel_rfl) (by kernel_rfl) (by kernel_rfl) (fun _ _ _ h => h) (Or.inl ⟨by rfl, by intro W hW; go_simp⟩) (by have h := ruR_name (b := b) (o := o) (c := c) HC.out (by simp) k hlt; rw [← HNM.out] at h; exact h) ?_
          simp only [Act.put, List.setIfInBounds_toArray, List.set_cons_zero, List.set_cons_succ]
          refine wpAnyH_take (i := 5) (oi := { dst := some 43, op := _, type := _, pos := _, after := _, guard := none }) (v := .pointer (some ⟨b, o + k * 20, none⟩)) rfl (by kernel_rfl) (by kernel_rfl) (by kernel_rfl) (fun _ _ _ h => h) (Or.inl ⟨by rfl, by intro W hW; go_simp⟩) (by have h := ruR_name (b := b) (o := o) (c := c) HC.out (by simp) k hlt; rw [← HNM.out] at h; exact h) ?_
          simp only [Act.put, List.setIfInBounds_toArray, List.set_cons_zero, List.set_cons_succ]
          refine wpAnyH_take (i := 6) (oi := { dst := some 44, op := _, type := _, pos := _, after := _, guard := none }) (v := .pointer (some ⟨b, o + k * 20, none⟩)) rfl (by kernel_rfl) (by kernel_rfl) (by kernel_rfl) (fun _ _ _ h => h) (Or.inl ⟨by rfl, by intro W hW; go_simp⟩) (by have h := ruR_name (b := b) (o := o) (c := c) HC.out (by simp) k hlt; rw [← HNM.out] at h; exact h) ?_
          simp only [Act.put, List.setIfInBounds_toArray, List.set_cons_zero, List.set_cons_succ]
          refine wpAnyH_take (i := 7) (oi := { dst := some 45, op := _, type := _, pos := _, after := _, guard := none }) (v := .string nm) rfl (by kernel_rfl) (by kernel_rfl) (by kernel_rfl) (fun _ _ _ h => h) (Or.inl ⟨by rfl, by intro W hW; have hcc := hW; go_simp⟩) (by have h := ruR_name (b := b) (o := o) (c := c) HC.out (by simp) k hlt; rw [← HNM.out] at h; exact h) ?_
          simp only [Act.put, List.setIfInBounds_toArray, List.set_cons_zero, List.set_cons_succ]
          refine wpAnyH_take (i := 10) (oi := { dst := some 48, op := _, type := _, pos := _, after := _, guard := none }) (v := v8) rfl (by kernel_rfl) (by kernel_rfl) (by kernel_rfl) (fun _ _ _ h => h) (Or.inl ⟨by rfl, by intro W hW; go_simp⟩) (by have h := ruR_name (b := b) (o := o) (c := c) HC.out (by simp) k hlt; rw [← HNM.out] at h; exact h) ?_
          simp only [Act.put, List.setIfInBounds_toArray, List.set_cons_zero, List.set_cons_succ]
          refine anyH_ready (rs := [8]) (by decide +kernel) (by simp) ?_
          refine AllReadyH.cons (o := { dst := some 46, op := .buildSlice 45 1 #[(0, .tmp 45)], type := _, pos := _, after := _, guard := none }) rfl (fun K hK => ?_) AllReadyH.nil
          generalize World.drew w8 = wd at HC ⊢
          go_simp
          obtain ⟨q2, hq2⟩ : ∃ q2, q2 = wd.heap.size := ⟨_, rfl⟩
          have HC := Lib.hid (HC.out.alloc (.cells #[.string nm] 9))
          have HLIT : Hid (Sl (wd.alloc (.cells #[.string nm] 9)) 1 (.slice (some ⟨q2, 0, none⟩) 1 1) 1 [.string nm]) := Lib.hid (Sl.lit hq2.symm rfl (by simp [Value.oneCell']) (by unfold maxLen; decide))
          try rw [← hq2]
          clear hq2
          refine hK _ _ (by have h := ruR_name (b := b) (o := o) (c := c) HC.out (by simp) k hlt; rw [← HNM.out] at h; exact h) ?_
          clear hK K
          try simp only [Act.put, List.setIfInBounds_toArray, List.set_cons_zero, List.set_cons_succ]
          refine anyH_ready (rs := [9]) (by decide +kernel) (by simp) ?_
          refine AllReadyH.cons (o := { dst := some 47, op := .call { callee := .builtin .append, args := #[.tmp 40, .tmp 46], argTypes := #[45, 45] }, type := _, pos := _, after := _, guard := none }) rfl (fun K hK => ?_) AllReadyH.nil
          have HCT := Lib.hid (HC.out.ownTake (0) hp)
          have hE := HCT.out.ownOf (List.mem_cons_self)
          refine step_app2 rfl (.tmp 40) (.tmp 46) elStr rfl 0 rfl hE.1 hE.2 rfl HLIT.out (by unfold maxLen; omega) (by omega) (Nat.zero_le _) ?_
          intro v9 w9 k1 k2 k3
          have HC := Lib.hid (HCT.out.append (B := 0) k1 k2 k3)
          clear k1 k2 k3 hE HCT HLIT
          refine hK _ _ (by have h := ruR_name (b := b) (o := o) (c := c) HC.out (by simp) k hlt; rw [← HNM.out] at h; exact h) ?_
          clear hK K
          try simp only [Act.put, List.setIfInBounds_toArray, List.set_cons_zero, List.set_cons_succ]
          refine anyH_ready (rs := [11]) (by decide +kernel) (by simp) ?_
          refine AllReadyH.cons (o := { dst := some 49, op := .call { callee := .builtin .append, args := #[.tmp 47, .tmp 48], argTypes := #[45, 45] }, type := _, pos := _, after := _, guard := none }) rfl (fun K hK => ?_) AllReadyH.nil
          have hE := HC.out.ownOf (List.mem_cons_self)
          have hL := (HC.out.ownOf (List.mem_cons_of_mem _ List.mem_cons_self)).1.sl
          refine step_app2 rfl (.tmp 47) (.tmp 48) elStr rfl 0 rfl hE.1 hE.2 rfl hL (by unfold maxLen; omega) (by omega) (Nat.zero_le _) ?_
          intro v11 w11 k1 k2 k3
          have HC := Lib.hid (HC.out.append (B := 0) k1 k2 k3)
          clear k1 k2 k3 hE hL
          refine hK _ _ (by have h := ruR_name (b := b) (o := o) (c := c) HC.out (by simp) k hlt; rw [← HNM.out] at h; exact h) ?_
          clear hK K
          try simp only [Act.put, List.setIfInBounds_toArray, List.set_cons_zero, List.set_cons_succ]
          refine wpAnyH_take (i := 12) (oi := { dst := some 3, op := _, type := _, pos := _, after := _, guard := none }) (v := v11) rfl (by kernel_rfl) (by kernel_rfl) (by kernel_rfl) (fun _ _ _ h => h) (Or.inl ⟨by rfl, by intro W hW; go_simp⟩) (by have h := ruR_name (b := b) (o := o) (c := c) HC.out (by simp) k hlt; rw [← HNM.out] at h; exact h) ?_
          simp only [Act.put, List.setIfInBounds_toArray, List.set_cons_zero, List.set_cons_succ]
          refine wpAnyH_done (by decide +kernel) ?_ _
          have hn11 : (0) + 1 + (0 + (k - (0))) = k + 1 := by omega
          have hins : insNm N nm = N.take (0) ++ nm :: N.drop (0) := by
            unfold insNm
            rw [hNl, HPOS.out]
          have h8 := HC.out.front (m := [_, _, _]) (l := l) [1, 0, 2] 3 (by decide) |>.tail
          have h9 := own_cast h8 (n' := k + 1) (cs' := stC (namesR (H.take (k + 1)))) (by omega) (by
            rw [HSN.out, hins]
            simp [stC, List.map_take, List.map_drop])
          obtain ⟨g', c', cur', rfl, -, -, hgc', hcm', -, -⟩ := (h9.ownOf (List.mem_cons_self)).1.form' (by omega)
          have H9 := Lib.hid h9
          unfold maxLen at hcm'
          clear h8 h9 hins HC
          go_wp2_with fail
          go_roundw
          case rel => exact ⟨k + 1, g', c', by go_num, by omega, rfl, hgc', by omega, H9.out⟩
          case measure => simp [intOf]; omega
        · obtain ⟨r, rfl⟩ : ∃ r, p = r + 1 := ⟨p - 1, by omega⟩
          have hrl : r < N.length := by omega
          obtain ⟨xr, hxr⟩ : ∃ xr, xr = N[r] := ⟨_, rfl⟩
          have HXR := Lib.hid hxr
          obtain ⟨bg, hbg⟩ : ∃ bg, decide (0 < cmpN xr nm) = bg := ⟨_, rfl⟩
          have HBG := Lib.hid hbg
          have hps : posE N nm (r + 1) = if bg = true then posE N nm r else r + 1 := by
            rw [posE, List.getD_eq_getElem?_getD, List.getElem?_eq_getElem hrl, Option.getD_some, ← hxr, ← hbg]
            simp
          have HPS := Lib.hid hps
          have hrk : r < k := by omega
          have hrk' : ¬ k ≤ r := by omega
          have hcO' : (r : Int) + 1 ≤ 9223372036854775807 := by omega
          clear hp0 hxr hbg hps
          go_upto_region 6 with fail
          have HC := Lib.hid HR.out.drew
          refine wp_region_held (S := fun W : World => W.cell? ⟨g, r, none⟩ = some (.string xr) ∧ W.cell? ⟨b, o + k * 20, none⟩ = some (.string nm)) (by kernel_rfl) ?_
          change wpAnyH _ _ _ _ _ _ _ _ (World.drew _)
          refine wpAnyH_take (i := 0) (oi := { dst := some 16, op := _, type := _, pos := _, after := _, guard := none }) (v := .int .i64 ((r : Int) + 1)) rfl (by kernel_rfl) (by kernel_rfl) (by kernel_rfl) (fun _ _ _ h => h) (Or.inl ⟨by rfl, by intro W hW; go_simp⟩) ⟨by rw [HXR.out]; exact snR_name (g := g) (k := k) (c := cO) HC.out (by simp) hNl r hrl, by rw [HNM.out]; exact ruR_name (b := b) (o := o) (c := c) HC.out (by simp) k hlt⟩ ?_
          simp only [Act.put, List.setIfInBounds_toArray, List.set_cons_zero, List.set_cons_succ]
          refine wpAnyH_take (i := 1) (oi := { dst := some 17, op := _, type := _, pos := _, after := _, guard := none }) (v := .bool true) rfl (by kernel_rfl) (by kernel_rfl) (by kernel_rfl) (fun _ _ _ h => h) (Or.inl ⟨by rfl, by intro W hW; go_simp⟩) ⟨by rw [HXR.out]; exact snR_name (g := g) (k := k) (c := cO) HC.out (by simp) hNl r hrl, by rw [HNM.out]; exact ruR_name (b := b) (o := o) (c := c) HC.out (by simp) k hlt⟩ ?_
          simp only [Act.put, List.setIfInBounds_toArray, List.set_cons_zero, List.set_cons_succ]
          refine wpAnyH_take (i := 2) (oi := { dst := some 18, op := _, type := _, pos := _, after := _, guard := none }) (v := .bool true) rfl (by kernel_rfl) (by kernel_rfl) (by kernel_rfl) (fun _ _ _ h => h) (Or.inl ⟨by rfl, by intro W hW; go_simp⟩) ⟨by rw [HXR.out]; exact snR_name (g := g) (k := k) (c := cO) HC.out (by simp) hNl r hrl, by rw [HNM.out]; exact ruR_name (b := b) (o := o) (c := c) HC.out (by simp) k hlt⟩ ?_
          simp only [Act.put, List.setIfInBounds_toArray, List.set_cons_zero, List.set_cons_succ]
          refine wpAnyH_take (i := 3) (oi := { dst := some 19, op := _, type := _, pos := _, after := _, guard := (some (2, true)) }) (v := .slice (some ⟨g, 0, none⟩) k cO) rfl (by kernel_rfl) (by kernel_rfl) (by kernel_rfl) (fun _ _ _ h => h) (Or.inl ⟨by rfl, by intro W hW; go_simp⟩) ⟨by rw [HXR.out]; exact snR_name (g := g) (k := k) (c := cO) HC.out (by simp) hNl r hrl, by rw [HNM.out]; exact ruR_name (b := b) (o := o) (c := c) HC.out (by simp) k hlt⟩ ?_
          simp only [Act.put, List.setIfInBounds_toArray, List.set_cons_zero, List.set_cons_succ]
          refine wpAnyH_take (i := 4) (oi := { dst := some 20, op := _, type := _, pos := _, after := _, guard := (some (2, true)) }) (v := .int .i64 ((r : Int) + 1)) rfl (by kernel_rfl) (by kernel_rfl) (by kernel_rfl) (fun _ _ _ h => h) (Or.inl ⟨by rfl, by intro W hW; go_simp⟩) ⟨by rw [HXR.out]; exact snR_name (g := g) (k := k) (c := cO) HC.out (by simp) hNl r hrl, by rw [HNM.out]; exact ruR_name (b := b) (o := o) (c := c) HC.out (by simp) k hlt⟩ ?_
          simp only [Act.put, List.setIfInBounds_toArray, List.set_cons_zero, List.set_cons_succ]
          refine wpAnyH_take (i := 5) (oi := { dst := some 21, op := _, type := _, pos := _, after := _, guard := (some (2, true)) }) (v := .int .i64 r) rfl (by kernel_rfl) (by kernel_rfl) (by kernel_rfl) (fun _ _ _ h => h) (Or.inl ⟨by rfl, by intro W hW; go_simp; rw [IntKind.wrap_i64]; omega⟩) ⟨by rw [HXR.out]; exact snR_name (g := g) (k := k) (c := cO) HC.out (by simp) hNl r hrl, by rw [HNM.out]; exact ruR_name (b := b) (o := o) (c := c) HC.out (by simp) k hlt⟩ ?_
          simp only [Act.put, List.setIfInBounds_toArray, List.set_cons_zero, List.set_cons_succ]
          refine wpAnyH_take (i := 6) (oi := { dst := some 22, op := _, type := _, pos := _, after := _, guard := (some (2, true)) }) (v := .pointer (some ⟨g, r, none⟩)) rfl (by kernel_rfl) (by kernel_rfl) (by kernel_rfl) (fun _ _ _ h => h) (Or.inl ⟨by rfl, by intro W hW; go_simp⟩) ⟨by rw [HXR.out]; exact snR_name (g := g) (k := k) (c := cO) HC.out (by simp) hNl r hrl, by rw [HNM.out]; exact ruR_name (b := b) (o := o) (c := c) HC.out (by simp) k hlt⟩ ?_
          simp only [Act.put, List.setIfInBounds_toArray, List.set_cons_zero, List.set_cons_succ]
          refine wpAnyH_take (i := 7) (oi := { dst := some 23, op := _, type := _, pos := _, after := _, guard := (some (2, true)) }) (v := .string xr) rfl (by kernel_rfl) (by kernel_rfl) (by kernel_rfl) (fun _ _ _ h => h) (Or.inl ⟨by rfl, by intro W hW; obtain ⟨hcc, hcd⟩ := hW; go_simp⟩) ⟨by rw [HXR.out]; exact snR_name (g := g) (k := k) (c := cO) HC.out (by simp) hNl r hrl, by rw [HNM.out]; exact ruR_name (b := b) (o := o) (c := c) HC.out (by simp) k hlt⟩ ?_
          simp only [Act.put, List.setIfInBounds_toArray, List.set_cons_zero, List.set_cons_succ]
          refine wpAnyH_take (i := 8) (oi := { dst := some 24, op := _, type := _, pos := _, after := _, guard := (some (2, true)) }) (v := .slice (some ⟨b, o, none⟩) H.length c) rfl (by kernel_rfl) (by kernel_rfl) (by kernel_rfl) (fun _ _ _ h => h) (Or.inl ⟨by rfl, by intro W hW; go_simp⟩) ⟨by rw [HXR.out]; exact snR_name (g := g) (k := k) (c := cO) HC.out (by simp) hNl r hrl, by rw [HNM.out]; exact ruR_name (b := b) (o := o) (c := c) HC.out (by simp) k hlt⟩ ?_
          simp only [Act.put, List.setIfInBounds_toArray, List.set_cons_zero, List.set_cons_succ]
          refine wpAnyH_take (i := 9) (oi := { dst := some 25, op := _, type := _, pos := _, after := _, guard := (some (2, true)) }) (v := .int .i64 k) rfl (by kernel_rfl) (by kernel_rfl) (by kernel_rfl) (fun _ _ _ h => h) (Or.inl ⟨by rfl, by intro W hW; go_simp⟩) ⟨by rw [HXR.out]; exact snR_name (g := g) (k := k) (c := cO) HC.out (by simp) hNl r hrl, by rw [HNM.out]; exact ruR_name (b := b) (o := o) (c := c) HC.out (by simp) k hlt⟩ ?_
          simp only [Act.put, List.setIfInBounds_toArray, List.set_cons_zero, List.set_cons_succ]
          refine wpAnyH_take (i := 10) (oi := { dst := some 26, op := _, type := _, pos := _, after := _, guard := (some (2, true)) }) (v := .pointer (some ⟨b, o + k * 20, none⟩)) rfl (by kernel_rfl) (by kernel_rfl) (by kernel_rfl) (fun _ _ _ h => h) (Or.inl ⟨by rfl, by intro W hW; go_simp⟩) ⟨by rw [HXR.out]; exact snR_name (g := g) (k := k) (c := cO) HC.out (by simp) hNl r hrl, by rw [HNM.out]; exact ruR_name (b := b) (o := o) (c := c) HC.out (by simp) k hlt⟩ ?_
          simp only [Act.put, List.setIfInBounds_toArray, List.set_cons_zero, List.set_cons_succ]
          refine wpAnyH_take (i := 11) (oi := { dst := some 27, op := _, type := _, pos := _, after := _, guard := (some (2, true)) }) (v := .pointer (some ⟨b, o + k * 20, none⟩)) rfl (by kernel_rfl) (by kernel_rfl) (by kernel_rfl) (fun _ _ _ h => h) (Or.inl ⟨by rfl, by intro W hW; go_simp⟩) ⟨by rw [HXR.out]; exact snR_name (g := g) (k := k) (c := cO) HC.out (by simp) hNl r hrl, by rw [HNM.out]; exact ruR_name (b := b) (o := o) (c := c) HC.out (by simp) k hlt⟩ ?_
          simp only [Act.put, List.setIfInBounds_toArray, List.set_cons_zero, List.set_cons_succ]
          refine wpAnyH_take (i := 12) (oi := { dst := some 28, op := _, type := _, pos := _, after := _, guard := (some (2, true)) }) (v := .string nm) rfl (by kernel_rfl) (by kernel_rfl) (by kernel_rfl) (fun _ _ _ h => h) (Or.inl ⟨by rfl, by intro W hW; obtain ⟨hcc, hcd⟩ := hW; go_simp⟩) ⟨by rw [HXR.out]; exact snR_name (g := g) (k := k) (c := cO) HC.out (by simp) hNl r hrl, by rw [HNM.out]; exact ruR_name (b := b) (o := o) (c := c) HC.out (by simp) k hlt⟩ ?_
          simp only [Act.put, List.setIfInBounds_toArray, List.set_cons_zero, List.set_cons_succ]
          refine wpAnyH_take (i := 13) (oi := { dst := some 29, op := _, type := _, pos := _, after := _, guard := (some (2, true)) }) (v := .bool bg) rfl (by kernel_rfl) (by kernel_rfl) (by kernel_rfl) (fun _ _ _ h => h) (Or.inl ⟨by rfl, by intro W hW; exact exec_gtrS rfl rfl rfl HBG.out⟩) ⟨by rw [HXR.out]; exact snR_name (g := g) (k := k) (c := cO) HC.out (by simp) hNl r hrl, by rw [HNM.out]; exact ruR_name (b := b) (o := o) (c := c) HC.out (by simp) k hlt⟩ ?_
          simp only [Act.put, List.setIfInBounds_toArray, List.set_cons_zero, List.set_cons_succ]
          refine wpAnyH_take (i := 14) (oi := { dst := some 30, op := _, type := _, pos := _, after := _, guard := none }) (v := .bool bg) rfl (by kernel_rfl) (by kernel_rfl) (by kernel_rfl) (fun _ _ _ h => h) (Or.inl ⟨by rfl, by intro W hW; go_simp⟩) ⟨by rw [HXR.out]; exact snR_name (g := g) (k := k) (c := cO) HC.out (by simp) hNl r hrl, by rw [HNM.out]; exact ruR_name (b := b) (o := o) (c := c) HC.out (by simp) k hlt⟩ ?_
          simp only [Act.put, List.setIfInBounds_toArray, List.set_cons_zero, List.set_cons_succ]
          refine wpAnyH_done (by decide +kernel) ?_ _
          cases bg with
          | true =>
            rw [if_pos rfl] at HPS
            go_wp2_with fail
            go_roundw
            case rel => exact ⟨r, by go_num, by omega, by rw [HPOS.out, HPS.out], HC.out⟩
            case measure => simp [intOf]
          | false =>
            rw [if_neg (by decide)] at HPS
            rw [HPS.out] at HPOS
            have hHl : H.length ≤ 900 := hl
            have F1 : Hid (∀ W, (Instr.sliceAt 45 (.slice (some ⟨g, 0, none⟩) k cO) none (some (.int .i64 (r + 1 : Nat))) none).run Try.prog W = .ok (.slice (some ⟨g, 0, none⟩) (r + 1) cO) W) := Lib.hid (fun W => run_sliceL (P := Try.prog) Try.underlying45 szST g k cO (r + 1) (by omega) W)
            have f2 : ∀ W, (Instr.sliceAt 45 (.slice (some ⟨g, 0, none⟩) k cO) (some (.int .i64 (r + 1 : Nat))) none none).run Try.prog W = .ok (.slice (cutAt g cO (r + 1) 1) (k - (r + 1)) (cO - (r + 1))) W := fun W => run_sliceR (P := Try.prog) Try.underlying45 szST g k cO (r + 1) hp hkc W
            have F2 := Lib.hid f2
            have HC6 := Lib.hid (HC.out.addEmpty 9 1 rfl)
            have HOE := Lib.hid (HC6.out.ownOf (List.mem_cons_self))
            have HSR := Lib.hid ((HC6.out.ownOf (e := 9) (sz := 1) (v := .slice (some ⟨g, 0, none⟩) k cO) (n := k) (cs := stC N) (by simp)).1.sl.right (r + 1) hp)
            clear f2
            go_wp2_with (first | ((with_reducible show wpList _ _ _ (⟨some 36, _, _, _, _, _⟩ :: _) _ _); refine wpList_slR rfl (.tmp 34) (.tmp 35) rfl rfl rfl (F2.out _) ?_) | ((with_reducible show wpList _ _ _ (⟨some 37, _, _, _, _, _⟩ :: _) _ _); refine wpList_app2 rfl (.tmp 33) (.tmp 36) elStr rfl 0 HOE.out.1 HOE.out.2 HSR.out (by unfold maxLen; omega) (by omega) (Nat.zero_le _) ?_))
            intro v8 w8 k1 k2 k3
            have HC8 := Lib.hid (HC6.out.append (B := 0) k1 (k2.mono fun k h => by simpa using h) (fun k h => by simpa using k3 k h))
            clear k1 k2 k3 HC6 HOE HSR HC HR
            have HC := Lib.hid HC8.out.swap
            go_upto_region 9 with fail
            have HC := Lib.hid HC.out.drew
            refine wp_region_held (S := fun W : World => W.cell? ⟨b, o + k * 20, none⟩ = some (.string nm)) (by kernel_rfl) ?_
            change wpAnyH _ _ _ _ _ _ _ _ (World.drew _)
            refine wpAnyH_take (i := 0) (oi := { dst := some 38, op := _, type := _, pos := _, after := _, guard := none }) (v := .slice (some ⟨g, 0, none⟩) k cO) rfl (by kernel_rfl) (by kernel_rfl) (by kernel_rfl) (fun _ _ _ h => h) (Or.inl ⟨by rfl, by intro W hW; go_simp⟩) (by have h := ruR_name (b := b) (o := o) (c := c) HC.out (by simp) k hlt; rw [← HNM.out] at h; exact h) ?_
            simp only [Act.put, List.setIfInBounds_toArray, List.set_cons_zero, List.set_cons_succ]
            refine wpAnyH_take (i := 1) (oi := { dst := some 39, op := _, type := _, pos := _, after := _, guard := none }) (v := .int .i64 (r + 1 : Nat)) rfl (by kernel_rfl) (by kernel_rfl) (by kernel_rfl) (fun _ _ _ h => h) (Or.inl ⟨by rfl, by intro W hW; go_simp⟩) (by have h := ruR_name (b := b) (o := o) (c := c) HC.out (by simp) k hlt; rw [← HNM.out] at h; exact h) ?_
            simp only [Act.put, List.setIfInBounds_toArray, List.set_cons_zero, List.set_cons_succ]
            refine wpAnyH_take (i := 2) (oi := { dst := some 40, op := _, type := _, pos := _, after := _, guard := none }) (v := .slice (some ⟨g, 0, none⟩) (r + 1) cO) rfl (by kernel_rfl) (by kernel_rfl) (by kernel_rfl) (fun _ _ _ h => h) (Or.inl ⟨by rfl, by intro W hW; exact exec_slice rfl (F1.out W)⟩) (by have h := ruR_name (b := b) (o := o) (c := c) HC.out (by simp) k hlt; rw [← HNM.out] at h; exact h) ?_
            simp only [Act.put, List.setIfInBounds_toArray, List.set_cons_zero, List.set_cons_succ]
            refine wpAnyH_take (i := 3) (oi := { dst := some 41, op := _, type := _, pos := _, after := _, guard := none }) (v := .slice (some ⟨b, o, none⟩) H.length c) rfl (by kernel_rfl) (by kernel_rfl) (by kernel_rfl) (fun _ _ _ h => h) (Or.inl ⟨by rfl, by intro W hW; go_simp⟩) (by have h := ruR_name (b := b) (o := o) (c := c) HC.out (by simp) k hlt; rw [← HNM.out] at h; exact h) ?_
            simp only [Act.put, List.setIfInBounds_toArray, List.set_cons_zero, List.set_cons_succ]
            refine wpAnyH_take (i := 4) (oi := { dst := some 42, op := _, type := _, pos := _, after := _, guard := none }) (v := .int .i64 k) rfl (by kernel_rfl) (by kernel_rfl) (by kernel_rfl) (fun _ _ _ h => h) (Or.inl ⟨by rfl, by intro W hW; go_simp⟩) (by have h := ruR_name (b := b) (o := o) (c := c) HC.out (by simp) k hlt; rw [← HNM.out] at h; exact h) ?_
            simp only [Act.put, List.setIfInBounds_toArray, List.set_cons_zero, List.set_cons_succ]
            refine wpAnyH_take (i := 5) (oi := { dst := some 43, op := _, type := _, pos := _, after := _, guard := none }) (v := .pointer (some ⟨b, o + k * 20, none⟩)) rfl (by kernel_rfl) (by kernel_rfl) (by kernel_rfl) (fun _ _ _ h => h) (Or.inl ⟨by rfl, by intro W hW; go_simp⟩) (by have h := ruR_name (b := b) (o := o) (c := c) HC.out (by simp) k hlt; rw [← HNM.out] at h; exact h) ?_
            simp only [Act.put, List.setIfInBounds_toArray, List.set_cons_zero, List.set_cons_succ]
            refine wpAnyH_take (i := 6) (oi := { dst := some 44, op := _, type := _, pos := _, after := _, guard := none }) (v := .pointer (some ⟨b, o + k * 20, none⟩)) rfl (by kernel_rfl) (by kernel_rfl) (by kernel_rfl) (fun _ _ _ h => h) (Or.inl ⟨by rfl, by intro W hW; go_simp⟩) (by have h := ruR_name (b := b) (o := o) (c := c) HC.out (by simp) k hlt; rw [← HNM.out] at h; exact h) ?_
            simp only [Act.put, List.setIfInBounds_toArray, List.set_cons_zero, List.set_cons_succ]
            refine wpAnyH_take (i := 7) (oi := { dst := some 45, op := _, type := _, pos := _, after := _, guard := none }) (v := .string nm) rfl (by kernel_rfl) (by kernel_rfl) (by kernel_rfl) (fun _ _ _ h => h) (Or.inl ⟨by rfl, by intro W hW; have hcc := hW; go_simp⟩) (by have h := ruR_name (b := b) (o := o) (c := c) HC.out (by simp) k hlt; rw [← HNM.out] at h; exact h) ?_
            simp only [Act.put, List.setIfInBounds_toArray, List.set_cons_zero, List.set_cons_succ]
            refine wpAnyH_take (i := 10) (oi := { dst := some 48, op := _, type := _, pos := _, after := _, guard := none }) (v := v8) rfl (by kernel_rfl) (by kernel_rfl) (by kernel_rfl) (fun _ _ _ h => h) (Or.inl ⟨by rfl, by intro W hW; go_simp⟩) (by have h := ruR_name (b := b) (o := o) (c := c) HC.out (by simp) k hlt; rw [← HNM.out] at h; exact h) ?_
            simp only [Act.put, List.setIfInBounds_toArray, List.set_cons_zero, List.set_cons_succ]
            refine anyH_ready (rs := [8]) (by decide +kernel) (by simp) ?_
            refine AllReadyH.cons (o := { dst := some 46, op := .buildSlice 45 1 #[(0, .tmp 45)], type := _, pos := _, after := _, guard := none }) rfl (fun K hK => ?_) AllReadyH.nil
            generalize World.drew w8 = wd at HC ⊢
            go_simp
            obtain ⟨q2, hq2⟩ : ∃ q2, q2 = wd.heap.size := ⟨_, rfl⟩
            have HC := Lib.hid (HC.out.alloc (.cells #[.string nm] 9))
            have HLIT : Hid (Sl (wd.alloc (.cells #[.string nm] 9)) 1 (.slice (some ⟨q2, 0, none⟩) 1 1) 1 [.string nm]) := Lib.hid (Sl.lit hq2.symm rfl (by simp [Value.oneCell']) (by unfold maxLen; decide))
            try rw [← hq2]
            clear hq2
            refine hK _ _ (by have h := ruR_name (b := b) (o := o) (c := c) HC.out (by simp) k hlt; rw [← HNM.out] at h; exact h) ?_
            clear hK K
            try simp only [Act.put, List.setIfInBounds_toArray, List.set_cons_zero, List.set_cons_succ]
            refine anyH_ready (rs := [9]) (by decide +kernel) (by simp) ?_
            refine AllReadyH.cons (o := { dst := some 47, op := .call { callee := .builtin .append, args := #[.tmp 40, .tmp 46], argTypes := #[45, 45] }, type := _, pos := _, after := _, guard := none }) rfl (fun K hK => ?_) AllReadyH.nil
            have HCT := Lib.hid (HC.out.ownTake (r + 1) hp)
            have hE := HCT.out.ownOf (List.mem_cons_self)
            refine step_app2 rfl (.tmp 40) (.tmp 46) elStr rfl 0 rfl hE.1 hE.2 rfl HLIT.out (by unfold maxLen; omega) (by omega) (Nat.zero_le _) ?_
            intro v9 w9 k1 k2 k3
            have HC := Lib.hid (HCT.out.append (B := 0) k1 k2 k3)
            clear k1 k2 k3 hE HCT HLIT
            refine hK _ _ (by have h := ruR_name (b := b) (o := o) (c := c) HC.out (by simp) k hlt; rw [← HNM.out] at h; exact h) ?_
            clear hK K
            try simp only [Act.put, List.setIfInBounds_toArray, List.set_cons_zero, List.set_cons_succ]
            refine anyH_ready (rs := [11]) (by decide +kernel) (by simp) ?_
            refine AllReadyH.cons (o := { dst := some 49, op := .call { callee := .builtin .append, args := #[.tmp 47, .tmp 48], argTypes := #[45, 45] }, type := _, pos := _, after := _, guard := none }) rfl (fun K hK => ?_) AllReadyH.nil
            have hE := HC.out.ownOf (List.mem_cons_self)
            have hL := (HC.out.ownOf (List.mem_cons_of_mem _ List.mem_cons_self)).1.sl
            refine step_app2 rfl (.tmp 47) (.tmp 48) elStr rfl 0 rfl hE.1 hE.2 rfl hL (by unfold maxLen; omega) (by omega) (Nat.zero_le _) ?_
            intro v11 w11 k1 k2 k3
            have HC := Lib.hid (HC.out.append (B := 0) k1 k2 k3)
            clear k1 k2 k3 hE hL
            refine hK _ _ (by have h := ruR_name (b := b) (o := o) (c := c) HC.out (by simp) k hlt; rw [← HNM.out] at h; exact h) ?_
            clear hK K
            try simp only [Act.put, List.setIfInBounds_toArray, List.set_cons_zero, List.set_cons_succ]
            refine wpAnyH_take (i := 12) (oi := { dst := some 3, op := _, type := _, pos := _, after := _, guard := none }) (v := v11) rfl (by kernel_rfl) (by kernel_rfl) (by kernel_rfl) (fun _ _ _ h => h) (Or.inl ⟨by rfl, by intro W hW; go_simp⟩) (by have h := ruR_name (b := b) (o := o) (c := c) HC.out (by simp) k hlt; rw [← HNM.out] at h; exact h) ?_
            simp only [Act.put, List.setIfInBounds_toArray, List.set_cons_zero, List.set_cons_succ]
            refine wpAnyH_done (by decide +kernel) ?_ _
            have hn11 : (r + 1) + 1 + (0 + (k - (r + 1))) = k + 1 := by omega
            have hins : insNm N nm = N.take (r + 1) ++ nm :: N.drop (r + 1) := by
              unfold insNm
              rw [hNl, HPOS.out]
            have h8 := HC.out.front (m := [_, _, _]) (l := l) [1, 0, 2] 3 (by decide) |>.tail
            have h9 := own_cast h8 (n' := k + 1) (cs' := stC (namesR (H.take (k + 1)))) (by omega) (by
              rw [HSN.out, hins]
              simp [stC, List.map_take, List.map_drop])
            obtain ⟨g', c', cur', rfl, -, -, hgc', hcm', -, -⟩ := (h9.ownOf (List.mem_cons_self)).1.form' (by omega)
            have H9 := Lib.hid h9
            unfold maxLen at hcm'
            clear h8 h9 hins HC
            go_wp2_with fail
            go_roundw
            case rel => exact ⟨k + 1, g', c', by go_num, by omega, rfl, hgc', by omega, H9.out⟩
            case measure => simp [intOf]; omega
    · obtain rfl : k = H.length := by omega
      have h9 := HR.out
      have hnn : N = namesR H := by rw [HNE.out, List.take_length]
      rw [hnn] at h9 hNl
      go_wp2_with fail
      go_ret
      refine ⟨.slice (some ⟨g, 0, none⟩) H.length cO, rfl, ?_⟩
      unfold snR
      rw [hNl]
      exact h9
end Go.Proofs.Ytclonbojpcgngaa
