/- Contracts of package cred: Put. -/
import Derived.Test.YtolhphofbkiplaaCred2
import Derived.Test.YtolhphofbkiplaaBase2
import Derived.Test.YtolhphofbkiplaaBase3
namespace Go.Proofs.Ytolhphofbkiplaa
set_option linter.unusedSimpArgs false
set_option linter.unusedVariables false
open Go.RowKit

/-- append to nil. -/
theorem wpList_app_nil {P : Program} {w : World} {ops : Array Oper} {rest : List Oper} {o : Oper} {a : Act} {Q : Exit → Act → World → Prop} (hgd : Region.wanted o (yielded ops a.tmps) = true) (s x : Operand) {t e : TypeId} {size bytes : Nat} {z : Value}
    (hE : Elem P t e size bytes z) (ho : o.op = .call { callee := .builtin .append, args := #[s, x], argTypes := #[t, t] }) (hv : a.eval s = .slice none 0 0)
    {m : Nat} {ds : List Value} (hsl : Sl w size (a.eval x) m ds) (h63 : m ≤ maxLen) (hbytes : m * bytes ≤ 140737488355328)
    (h : ∀ v' w', Own w' w.heap.size e size v' m ds → Keeps (fun k => w.heap.size ≤ k) w w' → (∀ b, v'.ownBlock = some b → w.heap.size ≤ b ∧ b < w'.heap.size) → wpList P ops Q rest (a.put o.dst v') w') : wpList P ops Q (o :: rest) a w := by
  obtain ⟨v', w', hr, h2, h3, h4⟩ := run_app_nil (P := P) (ty := o.type) hE hsl h63 hbytes
  refine wpList_want hgd fun K hK => ?_
  unfold Oper.wp execOp
  simp only [ho, resolve, invoke, builtin, Sem.run_bind, Sem.run_pure, Result.andThen_ok, List.map_toArray, List.map_cons, List.map_nil, hv, hr]
  exact hK _ _ (h v' w' h2 h3 h4)

theorem placeI_lt (L : List (Option Cr)) (s : ByteArray) : placeI L s < L.length := by
  unfold placeI
  split
  · rename_i i h
    have := (List.findIdx?_eq_some_iff_findIdx_eq.1 h).1
    omega
  · exact freeI_lt L

/-- The slots behind Put, and its error. -/
def putI (L : List (Option Cr)) (c : Cr) : List (Option Cr) × Int :=
  if placeI L c.srv < 0 then (L, 8) else (L.set (placeI L c.srv).toNat (some c), 0)

set_option maxHeartbeats 1000000 in
set_option maxRecDepth 100000 in
theorem credPut_any (F : Nat → Prop) (p : Nat) (L : List (Option Cr)) (c : Cr) (w : World) (h : StoreAt w F p L) (hk : c.key.length = 16) (hb : Bs w c.bv c.box) (hbl : c.box.length ≤ 140737488351232) (hnp : c.box = [] ∨ c.bv.ownBlock ≠ some p) :
    Calls Try.prog 7 #[.pointer (some ⟨p, 0, none⟩), .agg c.cells.toArray] w fun e w' => ∃ c' : Cr, c'.dat = c.dat ∧ e = .returned (.int .i64 (putI L c').2) ∧ StoreAt w' (fun j => F j ∨ w.heap.size ≤ j) p (putI L c').1 ∧
      Keeps (fun j => j = p ∨ w.heap.size ≤ j) w w' := by
  obtain ⟨ab, cb, hbv, hcb, hmb⟩ := hb.form
  unfold maxLen at hmb
  have hl := h.2.1
  have hplt := h.lt
  have h0 := h.tight
  obtain ⟨G, hG⟩ : ∃ G : Nat → Prop, G = fun j => F j ∧ j < w.heap.size := ⟨_, rfl⟩
  rw [← hG] at h0
  have hGl : ∀ j, G j → j < w.heap.size := fun j hj => by rw [hG] at hj; exact hj.2
  have hGF : ∀ j, G j → F j := fun j hj => by rw [hG] at hj; exact hj.1
  have HGL := Lib.hid hGl
  have HGF := Lib.hid hGF
  clear hG hGl hGF
  have hBq : Blk (w.alloc (.cells c.cells.toArray 33)) w.heap.size c.cells 33 := Blk.new w _ _
  have x0 : (w.alloc (.cells c.cells.toArray 33)).cell? ⟨w.heap.size, 0, none⟩ = some (.string c.srv) := by rw [hBq.cell]; rfl
  have hcl := Cr.cells_length c hk
  have H1 := Lib.hid (h0.below ((Below.refl _ _).alloc (Nat.le_refl _) (.cells c.cells.toArray 33)))
  have HBX := Lib.hid (hb.alloc (.cells c.cells.toArray 33))
  have HBQ := Lib.hid hBq
  have HK := Lib.hid hk
  have HCL := Lib.hid hcl
  have HL := Lib.hid hl
  have HBV := Lib.hid hbv
  have HNP := Lib.hid hnp
  obtain ⟨C, hC⟩ : ∃ C, C = c.cells := ⟨_, rfl⟩
  rw [← hC] at x0 H1 HBX HBQ HCL ⊢
  have HCd := Lib.hid hC
  clear h h0 hb hl hbv hBq hcl hk hC hnp
  go_enter Try.func7, Try.ntmps7
  go_wp2_with fail
  refine (credPlace_any G p L c.srv _ H1.out).mono ?_
  rintro e w1 ⟨rfl, rfl⟩
  by_cases hneg : placeI L c.srv < 0
  · have hp : ∀ c' : Cr, c'.srv = c.srv → putI L c' = (L, 8) := fun c' e => by rw [putI, e, if_pos hneg]
    have HP := Lib.hid (hp c rfl)
    clear hp x0
    go_wp2_with fail
    go_ret
    refine ⟨c, rfl, by rw [HP.out]; rfl, ?_, Keeps.alloc (Keeps.refl _ _) _ (.inr (Nat.le_refl _))⟩
    rw [HP.out]
    exact H1.out.mono (fun k hk => .inl (HGF.out k hk))
  · obtain ⟨k, hkk⟩ : ∃ k : Nat, placeI L c.srv = k := ⟨(placeI L c.srv).toNat, by omega⟩
    have hk16 : k < 16 := by have := placeI_lt L c.srv; rw [HL.out] at this; omega
    rw [hkk] at hneg ⊢
    have HKK := Lib.hid hkk
    clear hkk x0
    go_wp2_with fail
    refine (credWipe1_any G p k L _ H1.out hk16).mono ?_
    rintro e w2 ⟨rfl, hs2, hk2⟩
    have hz2 := hk2.size
    simp at hz2
    have HS2 := Lib.hid hs2
    have HBQ2 := Lib.hid (HBQ.out.keep hk2 (by omega))
    have HBX2 : Hid (Bs w2 c.bv c.box) := Lib.hid (by
      rcases HNP.out with h0 | h0
      · have := HBX.out
        rw [h0] at this ⊢
        obtain ⟨g1, g2, a, cap, g3, g4, g5, g6, _⟩ := this
        exact ⟨g1, g2, a, cap, g3, g4, g5, g6, .inl rfl⟩
      · exact Sl.keep HBX.out hk2 (fun b hb e => h0 (e ▸ hb)))
    have HK2 := Lib.hid hk2
    have x1 : w2.cell? ⟨w.heap.size, 1, none⟩ = some c.bv := by rw [HBQ2.out.cell, HCd.out]; rfl
    rw [HBV.out] at x1 HBX2
    have f1 := HBQ2.out.frozen 1
    clear hs2 hk2
    go_wp2_with ((with_reducible show wpList _ _ _ (⟨some 19, _, _, _, _, _⟩ :: _) _ _); refine wpList_app_nil rfl (.const (.slice none 0 0)) (.tmp 18) elBytes rfl rfl HBX2.out (by unfold maxLen; omega) (by omega) ?_)
    intro v3 w3 ho3 hk3' hvb3
    have hb3 : Bs w3 v3 c.box := ho3.sl
    obtain ⟨a3, c3, hv3f, _⟩ := hb3.form
    have hv3 : ∀ b, v3.ownBlock = some b → w2.heap.size ≤ b := fun b hb => (hvb3 b hb).1
    have hv3l : ∀ b, v3.ownBlock = some b → b < w3.heap.size := fun b hb => (hvb3 b hb).2
    have hz3 := hk3'.size
    have hbq3 := HBQ2.out.keep hk3' (by omega)
    have y1 : w3.cell? ⟨w.heap.size, 1, none⟩ = some (.slice ab c.box.length cb) := by rw [hbq3.cell, HCd.out, ← HBV.out]; rfl
    have g1 := hbq3.frozen 1
    obtain ⟨c', hc'⟩ : ∃ c', c' = { c with bv := v3 } := ⟨_, rfl⟩
    have hbq4 : Blk (w3.setCell ⟨w.heap.size, 1, none⟩ v3) w.heap.size c'.cells 33 := by
      have := hbq3.set 1 v3
      rw [HCd.out] at this
      rw [hc']
      exact this
    have hs4 : StoreAt (w3.setCell ⟨w.heap.size, 1, none⟩ v3) G p (L.set k none) :=
      (HS2.out.keep hk3' (fun j hj hl hs => by omega)).keep (Keeps.one w3 w.heap.size 1 v3) (fun j hj hl e => by have := HGL.out j hj; omega)
    have hb4 : Bs (w3.setCell ⟨w.heap.size, 1, none⟩ v3) v3 c.box := Sl.setCell hb3 (by intro e; have := hv3 _ e; simp at this; omega) _
    have hK4 : Keeps (fun j => j = p ∨ w.heap.size ≤ j) w (w3.setCell ⟨w.heap.size, 1, none⟩ v3) :=
      (((Keeps.alloc (Keeps.refl (fun j => j = p ∨ w.heap.size ≤ j) w) (.cells C.toArray 33) (.inr (Nat.le_refl _))).trans (HK2.out.mono (fun j hj => .inl hj))).trans (hk3'.mono (fun j hj => .inr (by omega)))).trans ((Keeps.one w3 w.heap.size 1 v3).mono (fun j hj => .inr (by omega)))
    have HB4 := Lib.hid hb4
    have HK4 := Lib.hid hK4
    have HS4 := Lib.hid hs4
    have HBQ4 := Lib.hid hbq4
    have HV3 := Lib.hid hv3
    have HVL0 := Lib.hid hv3l
    have HC' := Lib.hid hc'
    clear ho3 hvb3 hb3 hv3 hv3l hk3' hbq3 hb4 hK4 hs4 hbq4 hc' x1 f1 HBX2
    subst hv3f
    go_wp2_with fail
    have hz34 : w3.heap.size ≤ (w3.setCell ⟨w.heap.size, 1, none⟩ (.slice a3 c.box.length c3)).heap.size := by simp
    obtain ⟨w4, hw4⟩ : ∃ w4, w4 = w3.setCell ⟨w.heap.size, 1, none⟩ (.slice a3 c.box.length c3) := ⟨_, rfl⟩
    have hz4 : w4.heap.size = w3.heap.size := by rw [hw4]; simp
    rw [← hw4] at HB4 HK4 HS4 HBQ4 hz34 ⊢
    have hz44 : w2.heap.size ≤ w4.heap.size := by omega
    clear hw4 hz4
    have hia := ixSlot p k hk16
    have hiu := ixUsed p k hk16
    have hkL : k < (L.set k none).length := by rw [List.length_set, HL.out]; exact hk16
    have hkeyS : ∀ x, some x ∈ L.set k none → x.key.length = 16 := fun x hx => (HS4.out.2.2.2 x hx).1
    have hc'k : c'.key.length = 16 := by rw [HC'.out]; exact HK.out
    have hc'l := Cr.cells_length c' hc'k
    have hc'1 : ∀ u ∈ c'.cells, u.oneCell' = true := Cr.one c' (by rw [HC'.out]; rfl)
    have hsl4 : (stC (L.set k none)).length = 352 := by
      have := slS_length (slC_key hkeyS)
      simp [stC, this, HL.out]
    have hset : (L.set k none).set k (some c') = L.set k (some c') := by simp
    have hblk := HS4.out.2.2.1
    have hcu := HS4.out.usedC k hkL
    have hsn : slB ((L.set k none)[k]'hkL) = .bool false := by simp [slB]
    rw [hsn] at hcu
    have hfu := hblk.frozen (336 + k)
    have hwb : ∀ W, Keeps (fun j => j = p) w4 W → Bs W c'.bv c'.box := fun W hW => by
      rw [HC'.out]
      exact Sl.keep HB4.out hW (fun b hb e => by have := HV3.out b hb; omega)
    have HWB := Lib.hid hwb
    have HKS := Lib.hid hkeyS
    have HSL4 := Lib.hid hsl4
    have HBLK := Lib.hid hblk
    have HSET := Lib.hid hset
    have HC1 := Lib.hid hc'1
    have HCK := Lib.hid hc'k
    have HCL' := Lib.hid hc'l
    clear hwb hkeyS hsl4 hblk hset hc'1 hc'k hc'l hsn
    refine wp_region_any (by kernel_rfl) ?_
    change wpAny _ _ _ _ _ _ _ (World.drew _)
    refine wpAny_take (i := 0) (oi := { dst := some 22, op := _, type := _, pos := _, after := _, guard := none }) (v := .pointer (some ⟨p, 0, none⟩)) rfl (by kernel_rfl) (by kernel_rfl) (by kernel_rfl) (fun _ _ _ h => h) (Or.inl ⟨by rfl, by intro w; go_simp⟩) ?_
    simp only [Act.put, List.setIfInBounds_toArray, List.set_cons_zero, List.set_cons_succ]
    refine wpAny_take (i := 1) (oi := { dst := some 23, op := _, type := _, pos := _, after := _, guard := none }) (v := .int .i64 k) rfl (by kernel_rfl) (by kernel_rfl) (by kernel_rfl) (fun _ _ _ h => h) (Or.inl ⟨by rfl, by intro w; go_simp⟩) ?_
    simp only [Act.put, List.setIfInBounds_toArray, List.set_cons_zero, List.set_cons_succ]
    refine wpAny_take (i := 2) (oi := { dst := some 24, op := _, type := _, pos := _, after := _, guard := none }) (v := .pointer (some ⟨p, 0, none⟩)) rfl (by kernel_rfl) (by kernel_rfl) (by kernel_rfl) (fun _ _ _ h => h) (Or.inl ⟨by rfl, by intro w; go_simp⟩) ?_
    simp only [Act.put, List.setIfInBounds_toArray, List.set_cons_zero, List.set_cons_succ]
    refine wpAny_take (i := 3) (oi := { dst := some 25, op := _, type := _, pos := _, after := _, guard := none }) (v := .int .i64 k) rfl (by kernel_rfl) (by kernel_rfl) (by kernel_rfl) (fun _ _ _ h => h) (Or.inl ⟨by rfl, by intro w; go_simp⟩) ?_
    simp only [Act.put, List.setIfInBounds_toArray, List.set_cons_zero, List.set_cons_succ]
    refine wpAny_take (i := 5) (oi := { dst := some 27, op := _, type := _, pos := _, after := _, guard := none }) (v := .pointer (some ⟨p, 0, none⟩)) rfl (by kernel_rfl) (by kernel_rfl) (by kernel_rfl) (fun _ _ _ h => h) (Or.inl ⟨by rfl, by intro w; go_simp⟩) ?_
    simp only [Act.put, List.setIfInBounds_toArray, List.set_cons_zero, List.set_cons_succ]
    refine wpAny_take (i := 6) (oi := { dst := some 28, op := _, type := _, pos := _, after := _, guard := none }) (v := .pointer (some ⟨p, 0, none⟩)) rfl (by kernel_rfl) (by kernel_rfl) (by kernel_rfl) (fun _ _ _ h => h) (Or.inl ⟨by rfl, by intro w; go_simp⟩) ?_
    simp only [Act.put, List.setIfInBounds_toArray, List.set_cons_zero, List.set_cons_succ]
    refine wpAny_take (i := 9) (oi := { dst := some 30, op := _, type := _, pos := _, after := _, guard := none }) (v := .pointer (some ⟨p, 0, none⟩)) rfl (by kernel_rfl) (by kernel_rfl) (by kernel_rfl) (fun _ _ _ h => h) (Or.inl ⟨by rfl, by intro w; go_simp⟩) ?_
    simp only [Act.put, List.setIfInBounds_toArray, List.set_cons_zero, List.set_cons_succ]
    refine wpAny_take (i := 10) (oi := { dst := some 31, op := _, type := _, pos := _, after := _, guard := none }) (v := .pointer (some ⟨p, 336, none⟩)) rfl (by kernel_rfl) (by kernel_rfl) (by kernel_rfl) (fun _ _ _ h => h) (Or.inl ⟨by rfl, by intro w; go_simp⟩) ?_
    simp only [Act.put, List.setIfInBounds_toArray, List.set_cons_zero, List.set_cons_succ]
    refine wpAny_ready (rs := [4]) (by kernel_rfl) (by simp) ?_
    refine AllReady.cons (o := { dst := some 26, op := .load 33 (.tmp 3), type := _, pos := _, after := _, guard := none }) rfl (fun K hK => ?_) AllReady.nil
    refine step_ldAgg rfl (.tmp 3) aggCred rfl (by simp [Act.eval]) HCL'.out HBQ4.out.drew.cellsAll ?_
    refine hK _ _ ?_
    clear hK K
    simp only [Act.put, List.setIfInBounds_toArray, List.set_cons_zero, List.set_cons_succ]
    refine wpAny_ready (rs := [7]) (by decide +kernel) (by simp) ?_
    refine AllReady.cons (o := { dst := some 29, op := .indexAddr 48 (.tmp 28) (.tmp 23), type := _, pos := _, after := _, guard := none }) rfl (fun K hK => ?_) AllReady.nil
    go_simp
    refine hK _ _ ?_
    clear hK K
    try simp only [Act.put, List.setIfInBounds_toArray, List.set_cons_zero, List.set_cons_succ]
    refine wpAny_ready (rs := [8]) (by decide +kernel) (by simp) ?_
    refine AllReady.cons (o := { dst := none, op := .store 33 (.tmp 29) (.tmp 26), type := _, pos := _, after := _, guard := none }) rfl (fun K hK => ?_) AllReady.nil
    refine step_stAgg rfl (.tmp 29) (.tmp 26) aggCred rfl (g := p) (off := k * 21) (by simp [Act.eval]) (vs := c'.cells) (by simp [Act.eval]) HCL'.out HBLK.out.drew (by rw [HSL4.out]; omega) HC1.out ?_
    intro w5 h5 k5
    refine hK _ _ ?_
    clear hK K
    try simp only [Act.put]
    rw [show c'.cells = (slC (some c')).cells from rfl, stC_slot HKS.out k hkL (some c'), HSET.out] at h5
    have hcu5 := h5.cell (336 + k)
    have hkey5 : ∀ x, some x ∈ L.set k (some c') → x.key.length = 16 := by
      intro x hx
      rw [← HSET.out] at hx
      rcases List.mem_or_eq_of_mem_set hx with h | h
      · exact HKS.out x h
      · simp at h; rw [h]; exact HCK.out
    have hsl5 := slS_length (slC_key hkey5)
    rw [List.getElem?_append_right (by rw [hsl5, List.length_set, HL.out]; omega), hsl5, List.length_set, HL.out, show 336 + k - 21 * 16 = k by omega, List.getElem?_map, List.getElem?_eq_getElem hkL, Option.map_some] at hcu5
    have hfu5 := h5.frozen (336 + k)
    have hu5 := h5.set (336 + k) (slB (some c'))
    rw [stC_used hkey5 (by rw [List.length_set, HL.out]) (by rw [List.length_set, HL.out]) k (some c'), HSET.out] at hu5
    have HU5 := Lib.hid hu5
    have K5 : Hid (Keeps (fun j => j = p) w4 w5) := Lib.hid ⟨k5.os, k5.tape, k5.output, k5.size, k5.block⟩
    generalize slB ((L.set k none)[k]'hkL) = ub at hcu5
    clear h5 k5 hkey5 hsl5 hu5 hcu hfu
    refine wpAny_ready (rs := [11]) (by decide +kernel) (by simp) ?_
    refine AllReady.cons (o := { dst := some 32, op := .indexAddr 49 (.tmp 31) (.tmp 25), type := _, pos := _, after := _, guard := none }) rfl (fun K hK => ?_) AllReady.nil
    go_simp
    refine hK _ _ ?_
    clear hK K
    try simp only [Act.put, List.setIfInBounds_toArray, List.set_cons_zero, List.set_cons_succ]
    refine wpAny_ready (rs := [12]) (by decide +kernel) (by simp) ?_
    refine AllReady.cons (o := { dst := none, op := .store 4 (.tmp 32) (.const (.bool true)), type := _, pos := _, after := _, guard := none }) rfl (fun K hK => ?_) AllReady.nil
    go_simp
    refine hK _ _ ?_
    clear hK K
    try simp only [Act.put]
    refine wpAny_done (by decide +kernel) ?_ _
    go_wp2_with fail
    go_ret
    have hput : putI L c' = (L.set k (some c'), 0) := by
      have e : c'.srv = c.srv := by rw [HC'.out]
      rw [putI, e, HKK.out, if_neg (by omega)]
      simp
    have hK5 : Keeps (fun j => j = p) w4 (w5.setCell ⟨p, 336 + k, none⟩ (slB (some c'))) := K5.out.setCell (p := ⟨p, 336 + k, none⟩) rfl _
    refine ⟨c', by rw [HC'.out]; rfl, by rw [hput]; rfl, ?_, HK4.out.trans (hK5.mono (fun j hj => .inl hj))⟩
    rw [hput]
    have := (HS4.out.mono (G := fun j => F j ∨ w.heap.size ≤ j) (fun j hj => .inl (HGF.out j hj))).set k (some c') (fun x hx => by
      simp only [Option.some.injEq] at hx
      subst hx
      refine ⟨HCK.out, HWB.out _ hK5, fun b hb => ?_⟩
      have hb' : (Value.slice a3 c.box.length c3).ownBlock = some b := by rw [HC'.out] at hb; exact hb
      have h1 := HV3.out b hb'
      have h2 := HVL0.out b hb'
      have h3 := hK5.size
      exact ⟨.inr (by omega), by omega, by omega⟩) (by rw [HSET.out]; exact HU5.out) hK5
    rw [HSET.out] at this
    exact this
end Go.Proofs.Ytolhphofbkiplaa
