/- Contracts of package cred: New, place, wipe. -/
import Derived.Test.YtolhphofbkiplaaCred
namespace Go.Proofs.Ytolhphofbkiplaa
set_option linter.unusedSimpArgs false
set_option linter.unusedVariables false
open Go.RowKit

def noneL : List (Option Cr) := List.replicate 16 none
/-- Noughts, in cells: a store's. -/
theorem new_cells : Try.prog.built 51 [] = some (stC noneL).toArray := by kernel_rfl
theorem zero_cells : Try.prog.built 33 [] = some Cr.zero.cells.toArray := by kernel_rfl

/-- A struct or array with nothing laid in. -/
theorem wpList_bld {P : Program} {ops : Array Oper} {rest : List Oper} {o : Oper} {a : Act} {w : World} {Q : Exit → Act → World → Prop} (hgd : Region.wanted o (yielded ops a.tmps) = true) {ty : TypeId} (ho : o.op = .build ty #[]) {cells : Array Value} (hb : P.built ty [] = some cells)
    (h : wpList P ops Q rest (a.put o.dst (.agg cells)) w) : wpList P ops Q (o :: rest) a w := by
  refine wpList_want hgd fun K hK => ?_
  have hr := run_build (P := P) w ty #[] cells hb
  unfold Oper.wp execOp
  simp only [ho, Sem.run_bind, Sem.run_pure, Result.andThen_ok, List.map_toArray, List.map_nil, hr]
  exact hK _ _ h

set_option maxRecDepth 100000 in
theorem credNew_any (w : World) : Calls Try.prog 6 #[] w fun e w' => e = .returned (.pointer (some ⟨w.heap.size, 0, none⟩)) ∧ StoreAt w' (fun k => k = w.heap.size) w.heap.size noneL ∧ Below w.heap.size w w' := by
  have hst : StoreAt (w.alloc (.cells (stC noneL).toArray 51)) (fun k => k = w.heap.size) w.heap.size noneL :=
    ⟨rfl, rfl, Blk.new w _ _, fun c hc => by simp [noneL] at hc⟩
  have HST := Lib.hid hst
  have hb := new_cells
  obtain ⟨Z, hZ⟩ : ∃ Z, Z = (stC noneL).toArray := ⟨_, rfl⟩
  rw [← hZ] at HST hb
  have HB := Lib.hid hb
  clear hst hb hZ
  go_enter Try.func6, Try.ntmps6
  go_wp2_with ((with_reducible show wpList _ _ _ (⟨some 1, _, _, _, _, _⟩ :: _) _ _); refine wpList_bld rfl rfl HB.out ?_)
  go_ret
  exact ⟨rfl, HST.out, (Below.refl _ _).alloc (Nat.le_refl _) _⟩

set_option maxRecDepth 100000 in
theorem credPlace_any (F : Nat → Prop) (p : Nat) (L : List (Option Cr)) (s : ByteArray) (w : World) (h : StoreAt w F p L) :
    Calls Try.prog 15 #[.pointer (some ⟨p, 0, none⟩), .string s] w fun e w' => e = .returned (.int .i64 (placeI L s)) ∧ w = w' := by
  have hl := h.2.1
  have HH := Lib.hid h
  have HL := Lib.hid hl
  have hu := h.used
  have HU := Lib.hid hu
  have hul : (L.map slB).length = 16 := by rw [List.length_map, hl]
  have HUL := Lib.hid hul
  clear h hl hu hul
  go_enter Try.func15, Try.ntmps15
  go_wp2_with ((with_reducible show wpList _ _ _ (⟨some 11, _, _, _, _, _⟩ :: _) _ _); refine wpList_ldAgg rfl (.tmp 10) aggUsed rfl rfl (cs := L.map slB) HUL.out HU.out ?_)
  go_wp2_with fail
  go_loop [5, 12] (fun f i => ∃ k : Nat, k ≤ 16 ∧ i = .int .i64 k ∧ f = .int .i64 (freeI (L.take k)) ∧ ∀ o ∈ L.take k, hasSrv s o = false) (fun _ i => 16 - (intOf i).toNat)
  case atStart => exact ⟨0, by omega, rfl, rfl, by simp⟩
  case round =>
    obtain ⟨k, hk, rfl, rfl, hno⟩ := hrel
    by_cases hlt : k < 16
    · have hkl : k < L.length := by rw [HL.out]; exact hlt
      have hix := run_index16 L k hkl HL.out
      have hia := ixSlot p k hlt
      have hki : (k : Int) < 16 := by omega
      have hfr := freeI_snoc (L.take k) L[k]
      rw [← List.take_succ_eq_append_getElem hkl, List.length_take, HL.out, Nat.min_eq_left (by omega)] at hfr
      have hge := freeI_ge (L.take k)
      have hat := placeI_at L s k hkl hno
      have hnext : hasSrv s L[k] = false → ∀ o ∈ L.take (k + 1), hasSrv s o = false := by
        intro h o ho
        rw [List.take_succ_eq_append_getElem hkl] at ho
        rcases List.mem_append.1 ho with ho | ho
        · exact hno o ho
        · rw [List.mem_singleton.1 ho]; exact h
      have hc0 := HH.out.slot k 0 hkl (by decide)
      rw [Nat.add_zero] at hc0
      have HNO := Lib.hid hno
      obtain ⟨o, ho⟩ : ∃ o, o = L[k] := ⟨_, rfl⟩
      rw [← ho] at hix hfr hat hnext hc0
      have HO := Lib.hid ho
      have HFR := Lib.hid hfr
      have HAT := Lib.hid hat
      have HNX := Lib.hid hnext
      clear ho hfr hat hnext hno
      cases o with
      | none =>
        simp only [slB, Option.isNone_none, Option.isSome_none] at hix HFR
        by_cases hf : freeI (L.take k) < 0
        · have hv : freeI (L.take (k + 1)) = (k : Int) := by rw [HFR.out, if_pos ⟨hf, trivial⟩]
          have HV := Lib.hid hv
          clear hv
          go_wp2_with fail
          go_round
          case rel => exact ⟨k + 1, by omega, by go_num, by rw [HV.out], HNX.out rfl⟩
          case measure => simp [intOf]; omega
        · have hv : freeI (L.take (k + 1)) = freeI (L.take k) := by rw [HFR.out, if_neg (fun h => hf h.1)]
          have HV := Lib.hid hv
          clear hv
          go_wp2_with fail
          go_round
          case rel => exact ⟨k + 1, by omega, by go_num, by rw [HV.out], HNX.out rfl⟩
          case measure => simp [intOf]; omega
      | some c =>
        have hc1 : w.cell? ⟨p, k * 21, none⟩ = some (.string c.srv) := hc0
        have hix' : ∀ w, (Instr.index 49 (.agg (L.map slB).toArray) (.int .i64 k)).run Try.prog w = .ok (.bool true) w := hix
        have hv : freeI (L.take (k + 1)) = freeI (L.take k) := by rw [HFR.out, if_neg (by simp)]
        have HV := Lib.hid hv
        clear hc0 hix hv
        by_cases hs : c.srv = s
        · have hs2 : c.srv.toList = s.toList := by rw [hs]
          have hpl : placeI L s = k := HAT.out (by simp [hasSrv, hs])
          have HPL := Lib.hid hpl
          clear hs hpl
          go_wp2_with fail
          go_ret
          exact ⟨by rw [HPL.out]; rfl, rfl⟩
        · have hs2 : ¬ c.srv.toList = s.toList := fun e => hs ((bytes_toList_inj _ _).1 e)
          have hns : hasSrv s (some c) = false := by simp [hasSrv, hs]
          have HNS := Lib.hid hns
          have hs3 : (c.srv.toList == s.toList) = false := by simpa using hs2
          clear hs hns hs2
          go_wp2_with fail
          go_round
          case rel => exact ⟨k + 1, by omega, by go_num, by rw [HV.out], HNX.out HNS.out⟩
          case measure => simp [intOf]; omega
    · obtain rfl : k = 16 := by omega
      rw [List.take_of_length_le (by rw [HL.out]; exact Nat.le_refl _)] at hno ⊢
      have hpl := placeI_none L s hno
      have HPL := Lib.hid hpl
      clear hno hpl
      go_wp2_with fail
      go_ret
      exact ⟨by rw [HPL.out]; rfl, rfl⟩

theorem bCells_zero : bCells (List.replicate 16 0) = List.replicate 16 (.int .u8 0) := rfl

theorem stC_slot {L : List (Option Cr)} (h : ∀ c, some c ∈ L → c.key.length = 16) (k : Nat) (hk : k < L.length) (o : Option Cr) : (stC L).take (k * 21) ++ (slC o).cells ++ (stC L).drop (k * 21 + 21) = slS (L.set k o) ++ L.map slB := by
  have hkey := slC_key h
  have hs := slS_length hkey
  unfold stC
  rw [List.take_append_of_le_length (by omega), List.drop_append_of_le_length (by omega), ← slS_set hkey k hk o]
  simp
theorem stC_used {L L' : List (Option Cr)} (h : ∀ c, some c ∈ L → c.key.length = 16) (hl : L.length = 16) (hl' : L'.length = 16) (k : Nat) (o : Option Cr) : (slS L ++ L'.map slB).set (336 + k) (slB o) = slS L ++ (L'.set k o).map slB := by
  have hs := slS_length (slC_key h)
  rw [List.set_append_right _ _ (by omega), hs, hl, show 336 + k - 21 * 16 = k by omega, List.map_set]

/-- Another ticket, or none, in a slot. -/
theorem StoreAt.set {w w' : World} {F : Nat → Prop} {p : Nat} {L : List (Option Cr)} (h : StoreAt w F p L) (k : Nat) (o : Option Cr) (ho : ∀ c, o = some c → c.key.length = 16 ∧ Bs w' c.bv c.box ∧ ∀ b, c.bv.ownBlock = some b → F b ∧ b ≠ p ∧ b < w'.heap.size)
    (hb : Blk w' p (stC (L.set k o)) 51) (hkp : Keeps (fun j => j = p) w w') : StoreAt w' F p (L.set k o) := by
  obtain ⟨h1, h2, h3, h4⟩ := h
  refine ⟨h1, by rw [List.length_set, h2], hb, fun c hc => ?_⟩
  rcases List.mem_or_eq_of_mem_set hc with h | h
  · obtain ⟨g1, g2, g3⟩ := h4 c h
    exact ⟨g1, Sl.keep g2 hkp (fun b hb e => (g3 b hb).2.1 e), fun b hb => ⟨(g3 b hb).1, (g3 b hb).2.1, Nat.lt_of_lt_of_le (g3 b hb).2.2 hkp.size⟩⟩
  · exact ho c h.symm

theorem seg_take (l Z : List Value) (a : Nat) (hl : a + 21 ≤ l.length) : (l.take (a + 2) ++ Z ++ l.drop (a + 2 + 16)).take a = l.take a := by
  rw [List.append_assoc, List.take_append_of_le_length (by simp; omega), List.take_take, Nat.min_eq_left (by omega)]
theorem seg_drop (l Z : List Value) (a : Nat) (hl : a + 21 ≤ l.length) (hZ : Z.length = 16) : (l.take (a + 2) ++ Z ++ l.drop (a + 2 + 16)).drop (a + 21) = l.drop (a + 21) := by
  have h1 : (l.take (a + 2) ++ Z).length = a + 18 := by simp [hZ]; omega
  rw [List.drop_append, List.drop_of_length_le (by omega), h1, List.nil_append, List.drop_drop]
  congr 1
  omega

set_option maxRecDepth 100000 in
theorem credWipe1_any (F : Nat → Prop) (p k : Nat) (L : List (Option Cr)) (w : World) (h : StoreAt w F p L) (hk : k < 16) :
    Calls Try.prog 16 #[.pointer (some ⟨p, 0, none⟩), .int .i64 k] w fun e w' => e = .returned (.tuple #[]) ∧ StoreAt w' F p (L.set k none) ∧ Keeps (fun j => j = p) w w' := by
  have hl := h.2.1
  have hkey : ∀ c, some c ∈ L → c.key.length = 16 := fun c hc => (h.2.2.2 c hc).1
  have hblk := h.2.2.1
  have hsl : (stC L).length = 352 := by
    have := slS_length (slC_key hkey)
    simp [stC, this, hl]
  have hia := ixSlot p k hk
  have hiu := ixUsed p k hk
  have HH := Lib.hid h
  have HL := Lib.hid hl
  have HKEY := Lib.hid hkey
  have HB := Lib.hid hblk
  have HSL := Lib.hid hsl
  clear h hl hkey hblk hsl
  have hz := zero_cells
  obtain ⟨Z, hZ⟩ : ∃ Z, Z = Cr.zero.cells := ⟨_, rfl⟩
  have hZl : Z.length = 21 := by rw [hZ]; rfl
  have hZ1 : ∀ u ∈ Z, u.oneCell' = true := by rw [hZ]; exact Cr.one _ rfl
  rw [← hZ] at hz
  have HZ := Lib.hid hz
  have HZL := Lib.hid hZl
  have HZ1 := Lib.hid hZ1
  have HZd := Lib.hid hZ
  clear hz hZ hZl hZ1
  go_enter Try.func16, Try.ntmps16
  go_wp2_with ((with_reducible show wpList _ _ _ (⟨none, .call _, _, _, _, _⟩ :: _) _ _); refine wpList_clr rfl (.tmp 10) elBytes rfl rfl rfl HB.out (by rw [HSL.out]; omega) ?_)
  intro w2 h2a k2
  have h2 : Blk w2 p ((stC L).take (k * 21 + 2) ++ List.replicate 16 (Value.int .u8 0) ++ (stC L).drop (k * 21 + 2 + 16)) 51 := by rw [List.append_assoc]; exact h2a
  obtain ⟨X, hX⟩ : ∃ X, X = (stC L).take (k * 21 + 2) ++ List.replicate 16 (Value.int .u8 0) ++ (stC L).drop (k * 21 + 2 + 16) := ⟨_, rfl⟩
  rw [← hX] at h2
  have hXl : X.length = 352 := by rw [hX]; simp [HSL.out]; omega
  have hXt : X.take (k * 21) = (stC L).take (k * 21) := by rw [hX]; exact seg_take _ _ _ (by rw [HSL.out]; omega)
  have hXd : X.drop (k * 21 + 21) = (stC L).drop (k * 21 + 21) := by rw [hX]; exact seg_drop _ _ _ (by rw [HSL.out]; omega) (by simp)
  have H2 := Lib.hid h2
  have HXL := Lib.hid hXl
  have HXT := Lib.hid hXt
  have HXD := Lib.hid hXd
  have K2 := Lib.hid k2
  clear h2 h2a k2 hX hXl hXt hXd
  go_wp2_with (first | ((with_reducible show wpList _ _ _ (⟨some 13, _, _, _, _, _⟩ :: _) _ _); refine wpList_bld rfl rfl HZ.out ?_) | ((with_reducible show wpList _ _ _ (⟨none, .store _ (.tmp 16) (.tmp 13), _, _, _, _⟩ :: _) _ _); refine wpList_stAgg rfl (.tmp 16) (.tmp 13) aggCred rfl rfl (vs := Z) rfl HZL.out H2.out (by rw [HXL.out]; omega) HZ1.out ?_))
  intro w3 h3a k3
  have hkL : k < L.length := by rw [HL.out]; exact hk
  rw [HXT.out, HXD.out, HZd.out] at h3a
  have h3 : Blk w3 p ((stC L).take (k * 21) ++ (slC none).cells ++ (stC L).drop (k * 21 + 21)) 51 := by rw [List.append_assoc]; exact h3a
  rw [stC_slot HKEY.out k hkL none] at h3
  have K3 : Hid (Keeps (fun j => j = p) w w3) := Lib.hid (K2.out.trans k3)
  have hc := h3.cell (336 + k)
  have hsl2 := slS_length (L := L.set k none) (slC_key (fun c hc => by
    rcases List.mem_or_eq_of_mem_set hc with h | h
    · exact HKEY.out c h
    · cases h))
  rw [List.getElem?_append_right (by rw [hsl2, List.length_set, HL.out]; omega), hsl2, List.length_set, HL.out, show 336 + k - 21 * 16 = k by omega, List.getElem?_map, List.getElem?_eq_getElem hkL, Option.map_some] at hc
  have hf := h3.frozen (336 + k)
  have hu := stC_used (L := L.set k none) (L' := L) (fun c hc => by
    rcases List.mem_or_eq_of_mem_set hc with h | h
    · exact HKEY.out c h
    · cases h) (by rw [List.length_set, HL.out]) HL.out k none
  have h4 := h3.set (336 + k) (slB none)
  rw [hu] at h4
  have H4 := Lib.hid h4
  generalize slB L[k] = ub at hc
  clear h3 h3a k3 hsl2 hu h4
  go_wp2_with fail
  go_end0
  have hk4 : Keeps (fun j => j = p) w (w3.setCell ⟨p, 336 + k, none⟩ (slB none)) := K3.out.setCell (p := ⟨p, 336 + k, none⟩) rfl _
  exact ⟨rfl, HH.out.set k none (fun c hc => by cases hc) H4.out hk4, hk4⟩
end Go.Proofs.Ytolhphofbkiplaa
