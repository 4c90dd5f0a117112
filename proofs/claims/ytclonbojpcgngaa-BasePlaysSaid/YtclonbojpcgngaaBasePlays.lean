/- The statement BasePlays, walked. (Printed by wip/tools/genplays.py.) -/
import Derived.Test.YtclonbojpcgngaaPlaysP
import Derived.Deep.DeepCutAuto
import Derived.Deep.CutBlock
namespace Go.Proofs.Ytclonbojpcgngaa
set_option linter.unusedSimpArgs false
set_option linter.unusedVariables false
open Go.RowKit

/-- A step. -/
structure Stp where
  kind : Int
  u : Us
def Stp.cells (x : Stp) : List Value := .int .i64 x.kind :: x.u.cells
theorem Stp.cells_length (x : Stp) : x.cells.length = 21 := by rw [Stp.cells, List.length_cons, x.u.cells_length]
theorem Stp.cells_one (x : Stp) : ∀ c ∈ x.cells, c.oneCell' = true := by
  intro c hc
  rcases List.mem_cons.1 hc with rfl | hc
  · rfl
  · exact x.u.cells_one c hc
theorem aggStp : AggTy Try.prog 32 21 := AggTy.mk Try.underlying32 rfl (by kernel_rfl)
def zsS : List Value := .int .i64 0 :: zsU
theorem stp_cells {w W : World} {b o n c : Nat} {l : List Stp} (h : Sl w 21 (.slice (some ⟨b, o, none⟩) n c) n (l.map Stp.cells).flatten) (hb : Below w.heap.size w W) (k : Nat) (hk : k < l.length) : CellsAt W b (o + k * 21) l[k].cells := by
  obtain ⟨b', o', he, hcell⟩ := h.addr (by rw [flat_length (n := 21) Stp.cells l (fun x _ => x.cells_length)]; omega)
  simp only [Option.some.injEq, Addr.mk.injEq, and_true] at he
  obtain ⟨rfl, rfl⟩ := he
  intro j u hj
  have hj' : j < 21 := by rw [← l[k].cells_length]; exact (List.getElem?_eq_some_iff.1 hj).1
  have := hcell (k * 21 + j) u (by rw [flatC_at (n := 21) Stp.cells l (fun x _ => x.cells_length) k j hk hj']; exact hj)
  rw [Nat.add_assoc]
  exact below_cell hb this
theorem Stp.user_at {W : World} {g : Nat} {x : Stp} (h : Blk W g x.cells 32) : CellsAt W g 1 x.u.cells := by
  have := h.cellsAt 1 20
  rwa [show (x.cells.drop 1).take 20 = x.u.cells from by rw [Stp.cells, List.drop_succ_cons, List.drop_zero, List.take_of_length_le (by rw [x.u.cells_length]; omega)]] at this
theorem Stp.name_at {W : World} {g : Nat} {x : Stp} (h : Blk W g x.cells 32) : W.cell? ⟨g, 1, none⟩ = some (.string x.u.name) := h.cell 1
theorem ruR_at {W : World} {l : List Res} {b o c : Nat} {H : List Us} (h : Hold W l) (hm : ruR (.slice (some ⟨b, o, none⟩) H.length c) H ∈ l) (k : Nat) (hk : k < H.length) : CellsAt W b (o + k * 20) H[k].cells := by
  obtain ⟨b', o', he, hc⟩ := ruR_cells h hm (by omega)
  simp only [Option.some.injEq, Addr.mk.injEq, and_true] at he
  obtain ⟨rfl, rfl⟩ := he
  exact hc k hk
theorem getC_len (L : List Us) (s : ByteArray) : (getC L s).length = 20 := by
  unfold getC
  split
  · split
    · exact Us.cells_length _
    · rfl
  · rfl
theorem getC_one (L : List Us) (s : ByteArray) : ∀ c ∈ getC L s, c.oneCell' = true := by
  unfold getC
  split
  · split
    · exact Us.cells_one _
    · exact zsU_one
  · exact zsU_one

set_option maxRecDepth 100000 in
set_option maxHeartbeats 16000000 in
theorem plays_go (v : Value) (l : List Stp) (w : World) (h : Sl w 21 v l.length (l.map Stp.cells).flatten) (hn : ∀ x ∈ l, x.u.name.size ≤ maxLen) (hl : l.length ≤ 200) :
    Calls Try.prog 3 #[v] w fun e w' => e = .returned (.bool true) ∧ Below w.heap.size w w' := by
  obtain ⟨al, cl, rfl, hcl, hml⟩ := h.form
  have HSL := Lib.hid h
  have HN := Lib.hid hn
  unfold maxLen at hml
  clear h hn
  go_enter Try.func3, Try.ntmps3
  go_wp2_with fail
  refine (alive13_any _).mono ?_
  rintro e w1 ⟨rfl, hb⟩
  have HC := Lib.hid ((Hold.start w).step hb)
  clear hb
  go_wp2_with fail
  refine (baseNew_any _ _ HC.out).mono ?_
  rintro e w2 ⟨p, rfl, hc⟩
  have HC := Lib.hid (hc.addEmpty 36 20 rfl).swap
  clear hc
  go_wp2_with fail
  go_loopw [4, 24] (fun lv iv wr => ∃ (k : Nat) (L H : List Us), iv = .int .i64 k ∧ k ≤ l.length ∧ PlInv L H ∧ Hold wr [baseR p L, ruR lv H, .base w]) (fun _ i _ => l.length - (intOf i).toNat)
  case atStart => exact ⟨0, [], [], rfl, Nat.zero_le _, ⟨.nil, .refl _, by decide⟩, HC.out⟩
  case round =>
    obtain ⟨k, L, H, rfl, hk, hinv, hr⟩ := hrel
    obtain ⟨aH, cH, rfl, _, _⟩ := (hr.ownOf (List.mem_cons_of_mem _ List.mem_cons_self)).1.sl.form
    have HI := Lib.hid hinv
    have HC := Lib.hid hr
    clear hinv hr
    by_cases hlt : k < l.length
    · obtain ⟨bl, ol, rfl, _⟩ := HSL.out.addr (by rw [flat_length (n := 21) Stp.cells l (fun x _ => x.cells_length)]; omega)
      have HCE := Lib.hid (stp_cells HSL.out (HC.out.baseOf (w0 := w) (by simp)) k hlt)
      obtain ⟨x, hx⟩ : ∃ x, x = l[k] := ⟨_, rfl⟩
      have HXN : Hid (x.u.name.size ≤ maxLen) := Lib.hid (HN.out x (by rw [hx]; exact List.getElem_mem hlt))
      rw [← hx] at HCE
      obtain ⟨g, hg⟩ : ∃ g, g = wr.heap.size := ⟨_, rfl⟩
      have HA := Lib.hid (HC.out.addBlkAt zsS 32 hg.symm)
      have HG := Lib.hid (HA.out.blkOf (p := g) (cs := zsS) (T := 32) (by simp))
      have HGE := Lib.hid hg
      clear hx hg
      go_wp2_with (first | ((with_reducible show wpList _ _ _ (⟨some 27, _, _, _, _, _⟩ :: _) _ _); refine wpList_ldAgg rfl (.tmp 26) aggStp rfl rfl (cs := x.cells) x.cells_length HCE.out ?_) | ((with_reducible show wpList _ _ _ (⟨none, .store _ (.tmp 6) (.tmp 27), _, _, _, _⟩ :: _) _ _); rw [← HGE.out]; refine wpList_stAgg rfl (.tmp 6) (.tmp 27) aggStp rfl rfl (vs := x.cells) rfl x.cells_length HG.out (Nat.le_refl _) x.cells_one ?_))
      intro w3 h3 k3
      have h3' : Blk w3 g x.cells 32 := by simpa [zsS, zsU] using h3
      have HC3 := Lib.hid (HA.out.blkTurn h3' k3)
      have g0 : w3.cell? ⟨g, 0, none⟩ = some (.int .i64 x.kind) := h3'.cell 0
      have g1 := Stp.name_at h3'
      have HG3 := Lib.hid h3'
      clear h3 h3' k3 HA HG HC
      by_cases h60 : 60 < x.u.name.size
      · have h60' : (60 : Int) < x.u.name.size := by omega
        go_wp2_with fail
        go_roundw
        case rel => exact ⟨k + 1, L, H, by go_num, by omega, HI.out, HC3.out.tail⟩
        case measure => simp [intOf]; omega
      · have h60' : ¬ (60 : Int) < x.u.name.size := by omega
        go_upto_block 2 with fail
        go_cut [4, 24] from 24 to 135 (fun lv iv wx => iv = .int .i64 k ∧ ∃ (L H : List Us) (a : Option Addr) (c : Nat), lv = .slice a H.length c ∧ PlInv L H ∧ Hold wx [.blk g x.cells 32, baseR p L, ruR lv H, .base w])
        case first =>
          have hHl : H.length ≤ 32 := by rw [← HI.out.pm.length_eq]; exact HI.out.le
          have hLl := HI.out.le
          by_cases hk0 : x.kind = 0
          · have HADD := Lib.hid (HI.out.add x.u)
            have hkb : (x.kind == 0) = true := by simpa using hk0
            have HUA := Lib.hid (Stp.user_at HG3.out)
            have HK0 := Lib.hid hk0
            clear hk0
            go_wp2_with (((with_reducible show wpList _ _ _ (⟨some 40, _, _, _, _, _⟩ :: _) _ _); refine wpList_ldAgg rfl (.tmp 39) aggUs rfl rfl (cs := x.u.cells) x.u.cells_length HUA.out ?_))
            refine (plain_any x.u w3).mono ?_
            rintro e w4 ⟨rfl, hb⟩
            have HC4 := Lib.hid (HC3.out.step hb)
            have H4 := Lib.hid (refAdd_any (.slice aH H.length cH) H x.u _ w4 (HC4.out.front (m := [_, _, _, _]) (l := []) [2, 0, 1, 3] 4 (by decide)) (by omega) HXN.out)
            clear hb g0 g1
            go_wp2_with fail
            refine H4.out.mono ?_
            rintro e w5 ⟨v', rfl, hc⟩
            obtain ⟨a', c', rfl, _, _⟩ := (hc.ownOf (List.mem_cons_self)).1.sl.form
            have HUA := Lib.hid (Stp.user_at (hc.blkOf (p := g) (cs := x.cells) (T := 32) (by simp)))
            have h5 := add_any p L x.u _ w5 (hc.front (m := [_, _, _, _]) (l := []) [2, 0, 1, 3] 4 (by decide)) HI.out.so hLl HXN.out
            rw [HADD.out.1] at h5
            obtain ⟨L', hL'⟩ : ∃ L', L' = (addU L x.u).1 := ⟨_, rfl⟩
            obtain ⟨H', hH'⟩ : ∃ H', H' = (addR H x.u).1 := ⟨_, rfl⟩
            obtain ⟨er, her⟩ : ∃ er, er = (addR H x.u).2 := ⟨_, rfl⟩
            have HI2 : Hid (PlInv L' H') := Lib.hid (by rw [hL', hH']; exact HADD.out.2)
            rw [← hL', ← hH', ← her] at h5
            rw [← hH', ← her]
            have H5 := Lib.hid h5
            clear hc h5 H4 hL' hH' her HADD HC4 HC3
            go_wp2_with (((with_reducible show wpList _ _ _ (⟨some 47, _, _, _, _, _⟩ :: _) _ _); refine wpList_ldAgg rfl (.tmp 46) aggUs rfl rfl (cs := x.u.cells) x.u.cells_length HUA.out ?_))
            refine H5.out.mono ?_
            rintro e w6 ⟨rfl, hc⟩
            have HC6 := Lib.hid (hc.front (m := [_, _, _, _]) (l := []) [2, 0, 1, 3] 4 (by decide))
            clear hc H5
            go_wp2_with fail
            go_meet
            exact ⟨rfl, L', H', a', c', rfl, HI2.out, HC6.out⟩
          · have hkn : (x.kind == 0) = false := by simpa using hk0
            by_cases hk1 : x.kind = 1
            · have HDR := Lib.hid (HI.out.drop x.u.name)
              have hkb : (x.kind == 1) = true := by simpa using hk1
              have HK1 := Lib.hid hk1
              have H4 := Lib.hid (refDrop_any (.slice aH H.length cH) H x.u.name _ w3 (HC3.out.front (m := [_, _, _, _]) (l := []) [2, 0, 1, 3] 4 (by decide)) (by omega))
              clear hk1 hk0
              go_wp2_with fail
              refine H4.out.mono ?_
              rintro e w5 ⟨v', rfl, hc⟩
              obtain ⟨a', c', rfl, _, _⟩ := (hc.ownOf (List.mem_cons_self)).1.sl.form
              have g1 := Stp.name_at (hc.blkOf (p := g) (cs := x.cells) (T := 32) (by simp))
              have h5 := drop_any p L x.u.name _ w5 (hc.front (m := [_, _, _, _]) (l := []) [2, 0, 1, 3] 4 (by decide)) HI.out.so hLl
              rw [HDR.out.1] at h5
              obtain ⟨L', hL'⟩ : ∃ L', L' = (dropU L x.u.name).1 := ⟨_, rfl⟩
              obtain ⟨H', hH'⟩ : ∃ H', H' = (dropR H x.u.name).1 := ⟨_, rfl⟩
              obtain ⟨er, her⟩ : ∃ er, er = (dropR H x.u.name).2 := ⟨_, rfl⟩
              have HI2 : Hid (PlInv L' H') := Lib.hid (by rw [hL', hH']; exact HDR.out.2)
              rw [← hL', ← hH', ← her] at h5
              rw [← hH', ← her]
              have H5 := Lib.hid h5
              clear hc h5 H4 hL' hH' her HDR HC3
              go_wp2_with fail
              refine H5.out.mono ?_
              rintro e w6 ⟨rfl, hc⟩
              have HC6 := Lib.hid (hc.front (m := [_, _, _, _]) (l := []) [2, 0, 1, 3] 4 (by decide))
              clear hc H5
              go_wp2_with fail
              go_meet
              exact ⟨rfl, L', H', a', c', rfl, HI2.out, HC6.out⟩
            · have hkn1 : (x.kind == 1) = false := by simpa using hk1
              clear hk0 hk1
              go_wp2_with fail
              go_meet
              exact ⟨rfl, L, H, aH, cH, rfl, HI.out, HC3.out⟩
        case rest =>
          obtain ⟨rfl, L, H, aH, cH, rfl, hinv, hr⟩ := hcut
          have HI := Lib.hid hinv
          have hHl : H.length ≤ 32 := by rw [← hinv.pm.length_eq]; exact hinv.le
          have hLl := hinv.le
          have HC := Lib.hid hr
          have g1 := Stp.name_at (hr.blkOf (p := g) (cs := x.cells) (T := 32) (by simp))
          have HGA := Lib.hid (get_any p L x.u.name _ _ hr.swap hinv.so hLl)
          clear hinv hr HC3 HG3
          obtain ⟨nm, hnm⟩ : ∃ nm, nm = x.u.name := ⟨_, rfl⟩
          rw [← hnm] at HGA g1
          have HNM := Lib.hid hnm
          clear hnm
          rcases HI.out.get nm with ⟨hf, hE, hCc⟩ | ⟨r, hf, hE, hr2, hCc⟩
          · have h4 := HGA.out
            rw [hE, hCc] at h4
            have H4 := Lib.hid h4
            have HF := Lib.hid hf
            clear h4 hf hE hCc HGA
            go_wp2_with fail
            refine H4.out.mono ?_
            rintro e w4 ⟨rfl, hb⟩
            have HC4 := Lib.hid (HC.out.step hb)
            obtain ⟨q, hq⟩ : ∃ q, q = w4.heap.size := ⟨_, rfl⟩
            have HA := Lib.hid (HC4.out.addBlkAt zsU 30 hq.symm)
            have HQ := Lib.hid (HA.out.blkOf (p := q) (cs := zsU) (T := 30) (by simp))
            have HQE := Lib.hid hq
            clear hb H4 hq HC4 HC g1
            go_wp2_with (((with_reducible show wpList _ _ _ (⟨none, .store _ (.tmp 8) (.tmp 74), _, _, _, _⟩ :: _) _ _); rw [← HQE.out]; refine wpList_stAgg rfl (.tmp 8) (.tmp 74) aggUs rfl rfl (vs := zU.cells) rfl zU.cells_length HQ.out (Nat.le_refl _) zU.cells_one ?_))
            intro w5 h5 k5
            have h5' : Blk w5 q (zU.cells) 30 := by simpa [zsU] using h5
            have HC := Lib.hid (HA.out.blkTurn h5' k5)
            have HB5 := Lib.hid h5'
            have g1 := Stp.name_at (HC.out.blkOf (p := g) (cs := x.cells) (T := 32) (by simp))
            rw [← HNM.out] at g1
            have h6 := refFind_any (.slice aH H.length cH) H nm _ w5 (HC.out.front (m := [_, _, _, _, _]) (l := []) [3, 0, 1, 2, 4] 5 (by decide)) (by omega)
            rw [HF.out] at h6
            have H6 := Lib.hid h6
            clear h5 h5' k5 HA HQ h6
            go_wp2_with fail
            refine H6.out.mono ?_
            rintro e w6 ⟨rfl, rfl⟩
            clear H6 g1
            go_upto_region 23 with fail
            have HC := Lib.hid HC.out.drew
            refine wp_region_held (S := fun W : World => Blk W q zU.cells 30) (by kernel_rfl) ?_
            change wpAnyH _ _ _ _ _ _ _ _ (World.drew _)
            refine wpAnyH_take (i := 0) (oi := { dst := some 81, op := _, type := _, pos := _, after := _, guard := none }) (v := .int .i64 9) rfl (by kernel_rfl) (by kernel_rfl) (by kernel_rfl) (fun _ _ _ h => h) (Or.inl ⟨by rfl, by intro W hW; go_simp⟩) (HC.out.blkOf (p := q) (cs := zU.cells) (T := 30) (by simp)) ?_
            simp only [Act.put, List.setIfInBounds_toArray, List.set_cons_zero, List.set_cons_succ]
            refine wpAnyH_take (i := 1) (oi := { dst := some 82, op := _, type := _, pos := _, after := _, guard := none }) (v := .bool false) rfl (by kernel_rfl) (by kernel_rfl) (by kernel_rfl) (fun _ _ _ h => h) (Or.inl ⟨by rfl, by intro W hW; go_simp⟩) (HC.out.blkOf (p := q) (cs := zU.cells) (T := 30) (by simp)) ?_
            simp only [Act.put, List.setIfInBounds_toArray, List.set_cons_zero, List.set_cons_succ]
            refine wpAnyH_take (i := 2) (oi := { dst := some 83, op := _, type := _, pos := _, after := _, guard := none }) (v := .int .i64 (-1)) rfl (by kernel_rfl) (by kernel_rfl) (by kernel_rfl) (fun _ _ _ h => h) (Or.inl ⟨by rfl, by intro W hW; go_simp⟩) (HC.out.blkOf (p := q) (cs := zU.cells) (T := 30) (by simp)) ?_
            simp only [Act.put, List.setIfInBounds_toArray, List.set_cons_zero, List.set_cons_succ]
            refine wpAnyH_take (i := 3) (oi := { dst := some 84, op := _, type := _, pos := _, after := _, guard := none }) (v := .bool false) rfl (by kernel_rfl) (by kernel_rfl) (by kernel_rfl) (fun _ _ _ h => h) (Or.inl ⟨by rfl, by intro W hW; go_simp⟩) (HC.out.blkOf (p := q) (cs := zU.cells) (T := 30) (by simp)) ?_
            simp only [Act.put, List.setIfInBounds_toArray, List.set_cons_zero, List.set_cons_succ]
            refine wpAnyH_take (i := 4) (oi := { dst := some 85, op := _, type := _, pos := _, after := _, guard := none }) (v := .bool false) rfl (by kernel_rfl) (by kernel_rfl) (by kernel_rfl) (fun _ _ _ h => h) (Or.inl ⟨by rfl, by intro W hW; go_simp⟩) (HC.out.blkOf (p := q) (cs := zU.cells) (T := 30) (by simp)) ?_
            simp only [Act.put, List.setIfInBounds_toArray, List.set_cons_zero, List.set_cons_succ]
            refine wpAnyH_take (i := 5) (oi := { dst := some 86, op := _, type := _, pos := _, after := _, guard := none }) (v := .bool false) rfl (by kernel_rfl) (by kernel_rfl) (by kernel_rfl) (fun _ _ _ h => h) (Or.inl ⟨by rfl, by intro W hW; go_simp⟩) (HC.out.blkOf (p := q) (cs := zU.cells) (T := 30) (by simp)) ?_
            simp only [Act.put, List.setIfInBounds_toArray, List.set_cons_zero, List.set_cons_succ]
            refine wpAnyH_take (i := 6) (oi := { dst := some 87, op := _, type := _, pos := _, after := _, guard := (some (5, false)) }) (v := .int .i64 9) rfl (by kernel_rfl) (by kernel_rfl) (by kernel_rfl) (fun _ _ _ h => h) (Or.inl ⟨by rfl, by intro W hW; go_simp⟩) (HC.out.blkOf (p := q) (cs := zU.cells) (T := 30) (by simp)) ?_
            simp only [Act.put, List.setIfInBounds_toArray, List.set_cons_zero, List.set_cons_succ]
            refine wpAnyH_take (i := 7) (oi := { dst := some 88, op := _, type := _, pos := _, after := _, guard := (some (5, false)) }) (v := .bool true) rfl (by kernel_rfl) (by kernel_rfl) (by kernel_rfl) (fun _ _ _ h => h) (Or.inl ⟨by rfl, by intro W hW; go_simp⟩) (HC.out.blkOf (p := q) (cs := zU.cells) (T := 30) (by simp)) ?_
            simp only [Act.put, List.setIfInBounds_toArray, List.set_cons_zero, List.set_cons_succ]
            refine wpAnyH_take (i := 8) (oi := { dst := some 89, op := _, type := _, pos := _, after := _, guard := (some (5, false)) }) (v := .bool true) rfl (by kernel_rfl) (by kernel_rfl) (by kernel_rfl) (fun _ _ _ h => h) (Or.inl ⟨by rfl, by intro W hW; go_simp⟩) (HC.out.blkOf (p := q) (cs := zU.cells) (T := 30) (by simp)) ?_
            simp only [Act.put, List.setIfInBounds_toArray, List.set_cons_zero, List.set_cons_succ]
            refine wpAnyH_take (i := 9) (oi := { dst := some 90, op := _, type := _, pos := _, after := _, guard := (some (8, true)) }) (v := .int .i64 9) rfl (by kernel_rfl) (by kernel_rfl) (by kernel_rfl) (fun _ _ _ h => h) (Or.inl ⟨by rfl, by intro W hW; go_simp⟩) (HC.out.blkOf (p := q) (cs := zU.cells) (T := 30) (by simp)) ?_
            simp only [Act.put, List.setIfInBounds_toArray, List.set_cons_zero, List.set_cons_succ]
            refine wpAnyH_take (i := 10) (oi := { dst := some 91, op := _, type := _, pos := _, after := _, guard := (some (8, true)) }) (v := .bool false) rfl (by kernel_rfl) (by kernel_rfl) (by kernel_rfl) (fun _ _ _ h => h) (Or.inl ⟨by rfl, by intro W hW; go_simp⟩) (HC.out.blkOf (p := q) (cs := zU.cells) (T := 30) (by simp)) ?_
            simp only [Act.put, List.setIfInBounds_toArray, List.set_cons_zero, List.set_cons_succ]
            refine wpAnyH_take (i := 11) (oi := { dst := some 92, op := _, type := _, pos := _, after := _, guard := (some (8, true)) }) (v := .bool false) rfl (by kernel_rfl) (by kernel_rfl) (by kernel_rfl) (fun _ _ _ h => h) (Or.inl ⟨by rfl, by intro W hW; go_simp⟩) (HC.out.blkOf (p := q) (cs := zU.cells) (T := 30) (by simp)) ?_
            simp only [Act.put, List.setIfInBounds_toArray, List.set_cons_zero, List.set_cons_succ]
            refine wpAnyH_take (i := 12) (oi := { dst := some 93, op := _, type := _, pos := _, after := _, guard := (some (11, false)) }) (v := .agg zU.cells.toArray) rfl (by kernel_rfl) (by kernel_rfl) (by kernel_rfl) (fun _ _ _ h => h) (Or.inl ⟨by rfl, by intro W hW; exact exec_ldAgg rfl aggUs rfl (cs := zU.cells) zU.cells_length hW.cellsAll⟩) (HC.out.blkOf (p := q) (cs := zU.cells) (T := 30) (by simp)) ?_
            simp only [Act.put, List.setIfInBounds_toArray, List.set_cons_zero, List.set_cons_succ]
            refine wpAnyH_take (i := 13) (oi := { dst := some 94, op := _, type := _, pos := _, after := _, guard := (some (11, false)) }) (v := .agg zU.cells.toArray) rfl (by kernel_rfl) (by kernel_rfl) (by kernel_rfl) (fun _ _ _ h => h) (Or.inl ⟨by rfl, by intro W hW; exact exec_bld0 rfl zsU_built⟩) (HC.out.blkOf (p := q) (cs := zU.cells) (T := 30) (by simp)) ?_
            simp only [Act.put, List.setIfInBounds_toArray, List.set_cons_zero, List.set_cons_succ]
            refine wpAnyH_take (i := 14) (oi := { dst := some 95, op := _, type := _, pos := _, after := _, guard := (some (11, false)) }) (v := .bool false) rfl (by kernel_rfl) (by kernel_rfl) (by kernel_rfl) (fun _ _ _ h => h) (Or.inl ⟨by rfl, by intro W hW; exact exec_neqU (.inl rfl) rfl zU rfl rfl⟩) (HC.out.blkOf (p := q) (cs := zU.cells) (T := 30) (by simp)) ?_
            simp only [Act.put, List.setIfInBounds_toArray, List.set_cons_zero, List.set_cons_succ]
            refine wpAnyH_take (i := 15) (oi := { dst := some 96, op := _, type := _, pos := _, after := _, guard := (some (8, true)) }) (v := .bool false) rfl (by kernel_rfl) (by kernel_rfl) (by kernel_rfl) (fun _ _ _ h => h) (Or.inl ⟨by rfl, by intro W hW; go_simp⟩) (HC.out.blkOf (p := q) (cs := zU.cells) (T := 30) (by simp)) ?_
            simp only [Act.put, List.setIfInBounds_toArray, List.set_cons_zero, List.set_cons_succ]
            refine wpAnyH_take (i := 16) (oi := { dst := some 97, op := _, type := _, pos := _, after := _, guard := (some (5, false)) }) (v := .bool false) rfl (by kernel_rfl) (by kernel_rfl) (by kernel_rfl) (fun _ _ _ h => h) (Or.inl ⟨by rfl, by intro W hW; go_simp⟩) (HC.out.blkOf (p := q) (cs := zU.cells) (T := 30) (by simp)) ?_
            simp only [Act.put, List.setIfInBounds_toArray, List.set_cons_zero, List.set_cons_succ]
            refine wpAnyH_take (i := 17) (oi := { dst := some 98, op := _, type := _, pos := _, after := _, guard := none }) (v := .bool false) rfl (by kernel_rfl) (by kernel_rfl) (by kernel_rfl) (fun _ _ _ h => h) (Or.inl ⟨by rfl, by intro W hW; go_simp⟩) (HC.out.blkOf (p := q) (cs := zU.cells) (T := 30) (by simp)) ?_
            simp only [Act.put, List.setIfInBounds_toArray, List.set_cons_zero, List.set_cons_succ]
            refine wpAnyH_take (i := 18) (oi := { dst := some 99, op := _, type := _, pos := _, after := _, guard := none }) (v := .bool false) rfl (by kernel_rfl) (by kernel_rfl) (by kernel_rfl) (fun _ _ _ h => h) (Or.inl ⟨by rfl, by intro W hW; go_simp⟩) (HC.out.blkOf (p := q) (cs := zU.cells) (T := 30) (by simp)) ?_
            simp only [Act.put, List.setIfInBounds_toArray, List.set_cons_zero, List.set_cons_succ]
            refine wpAnyH_take (i := 19) (oi := { dst := some 100, op := _, type := _, pos := _, after := _, guard := (some (18, false)) }) (v := .int .i64 (-1)) rfl (by kernel_rfl) (by kernel_rfl) (by kernel_rfl) (fun _ _ _ h => h) (Or.inl ⟨by rfl, by intro W hW; go_simp⟩) (HC.out.blkOf (p := q) (cs := zU.cells) (T := 30) (by simp)) ?_
            simp only [Act.put, List.setIfInBounds_toArray, List.set_cons_zero, List.set_cons_succ]
            refine wpAnyH_take (i := 20) (oi := { dst := some 101, op := _, type := _, pos := _, after := _, guard := (some (18, false)) }) (v := .bool false) rfl (by kernel_rfl) (by kernel_rfl) (by kernel_rfl) (fun _ _ _ h => h) (Or.inl ⟨by rfl, by intro W hW; go_simp⟩) (HC.out.blkOf (p := q) (cs := zU.cells) (T := 30) (by simp)) ?_
            simp only [Act.put, List.setIfInBounds_toArray, List.set_cons_zero, List.set_cons_succ]
            refine wpAnyH_take (i := 21) (oi := { dst := some 102, op := _, type := _, pos := _, after := _, guard := (some (18, false)) }) (v := .bool false) rfl (by kernel_rfl) (by kernel_rfl) (by kernel_rfl) (fun _ _ _ h => h) (Or.inl ⟨by rfl, by intro W hW; go_simp⟩) (HC.out.blkOf (p := q) (cs := zU.cells) (T := 30) (by simp)) ?_
            simp only [Act.put, List.setIfInBounds_toArray, List.set_cons_zero, List.set_cons_succ]
            refine wpAnyH_take (i := 22) (oi := { dst := some 103, op := _, type := _, pos := _, after := _, guard := (some (21, true)) }) (v := undef) rfl (by kernel_rfl) (by kernel_rfl) (by kernel_rfl) (fun _ _ _ h => h) (Or.inr ⟨by rfl, rfl⟩) (HC.out.blkOf (p := q) (cs := zU.cells) (T := 30) (by simp)) ?_
            simp only [Act.put, List.setIfInBounds_toArray, List.set_cons_zero, List.set_cons_succ]
            refine wpAnyH_take (i := 23) (oi := { dst := some 104, op := _, type := _, pos := _, after := _, guard := (some (21, true)) }) (v := undef) rfl (by kernel_rfl) (by kernel_rfl) (by kernel_rfl) (fun _ _ _ h => h) (Or.inr ⟨by rfl, rfl⟩) (HC.out.blkOf (p := q) (cs := zU.cells) (T := 30) (by simp)) ?_
            simp only [Act.put, List.setIfInBounds_toArray, List.set_cons_zero, List.set_cons_succ]
            refine wpAnyH_take (i := 24) (oi := { dst := some 105, op := _, type := _, pos := _, after := _, guard := (some (21, true)) }) (v := undef) rfl (by kernel_rfl) (by kernel_rfl) (by kernel_rfl) (fun _ _ _ h => h) (Or.inr ⟨by rfl, rfl⟩) (HC.out.blkOf (p := q) (cs := zU.cells) (T := 30) (by simp)) ?_
            simp only [Act.put, List.setIfInBounds_toArray, List.set_cons_zero, List.set_cons_succ]
            refine wpAnyH_take (i := 25) (oi := { dst := some 106, op := _, type := _, pos := _, after := _, guard := (some (21, true)) }) (v := undef) rfl (by kernel_rfl) (by kernel_rfl) (by kernel_rfl) (fun _ _ _ h => h) (Or.inr ⟨by rfl, rfl⟩) (HC.out.blkOf (p := q) (cs := zU.cells) (T := 30) (by simp)) ?_
            simp only [Act.put, List.setIfInBounds_toArray, List.set_cons_zero, List.set_cons_succ]
            refine wpAnyH_take (i := 26) (oi := { dst := some 107, op := _, type := _, pos := _, after := _, guard := (some (21, true)) }) (v := undef) rfl (by kernel_rfl) (by kernel_rfl) (by kernel_rfl) (fun _ _ _ h => h) (Or.inr ⟨by rfl, rfl⟩) (HC.out.blkOf (p := q) (cs := zU.cells) (T := 30) (by simp)) ?_
            simp only [Act.put, List.setIfInBounds_toArray, List.set_cons_zero, List.set_cons_succ]
            refine wpAnyH_take (i := 27) (oi := { dst := some 108, op := _, type := _, pos := _, after := _, guard := (some (21, true)) }) (v := undef) rfl (by kernel_rfl) (by kernel_rfl) (by kernel_rfl) (fun _ _ _ h => h) (Or.inr ⟨by rfl, rfl⟩) (HC.out.blkOf (p := q) (cs := zU.cells) (T := 30) (by simp)) ?_
            simp only [Act.put, List.setIfInBounds_toArray, List.set_cons_zero, List.set_cons_succ]
            refine wpAnyH_take (i := 28) (oi := { dst := some 109, op := _, type := _, pos := _, after := _, guard := (some (21, true)) }) (v := undef) rfl (by kernel_rfl) (by kernel_rfl) (by kernel_rfl) (fun _ _ _ h => h) (Or.inr ⟨by rfl, rfl⟩) (HC.out.blkOf (p := q) (cs := zU.cells) (T := 30) (by simp)) ?_
            simp only [Act.put, List.setIfInBounds_toArray, List.set_cons_zero, List.set_cons_succ]
            refine wpAnyH_take (i := 29) (oi := { dst := some 110, op := _, type := _, pos := _, after := _, guard := (some (18, false)) }) (v := .bool false) rfl (by kernel_rfl) (by kernel_rfl) (by kernel_rfl) (fun _ _ _ h => h) (Or.inl ⟨by rfl, by intro W hW; go_simp⟩) (HC.out.blkOf (p := q) (cs := zU.cells) (T := 30) (by simp)) ?_
            simp only [Act.put, List.setIfInBounds_toArray, List.set_cons_zero, List.set_cons_succ]
            refine wpAnyH_take (i := 30) (oi := { dst := some 111, op := _, type := _, pos := _, after := _, guard := none }) (v := .bool false) rfl (by kernel_rfl) (by kernel_rfl) (by kernel_rfl) (fun _ _ _ h => h) (Or.inl ⟨by rfl, by intro W hW; go_simp⟩) (HC.out.blkOf (p := q) (cs := zU.cells) (T := 30) (by simp)) ?_
            simp only [Act.put, List.setIfInBounds_toArray, List.set_cons_zero, List.set_cons_succ]
            refine wpAnyH_done (by decide +kernel) ?_ _
            have HNA := Lib.hid (names_any p L _ _ (HC.out.front (m := [_, _, _, _, _]) (l := []) [2, 3, 0, 1, 4] 5 (by decide)) (by omega))
            clear HC HB5
            go_wp2_with fail
            refine HNA.out.mono ?_
            rintro e w8 ⟨v1, rfl, hc⟩
            obtain ⟨a1, c1, rfl, hc1, hm1⟩ := (hc.ownOf (List.mem_cons_self)).1.sl.form
            have HNB := Lib.hid (refNames_any (.slice aH H.length cH) H _ w8 (hc.front (m := [_, _, _, _, _, _]) (l := []) [2, 0, 1, 3, 4, 5] 6 (by decide)) (by omega))
            clear HNA hc
            go_wp2_with fail
            refine HNB.out.mono ?_
            rintro e w9 ⟨v2, rfl, hc⟩
            have hc2 := own_cast hc (n' := L.length) (cs' := nmC L) (by rw [HI.out.names, List.length_map]) (by rw [HI.out.names]; simp [stC, nmC])
            obtain ⟨a2, c2, rfl, hc2', hm2⟩ := (hc2.ownOf (List.mem_cons_self)).1.sl.form
            have HC := Lib.hid hc2
            unfold maxLen at hm1 hm2
            clear hc hc2 HNB
            go_wp2_with fail
            go_loopw [123] (fun jv ws => ∃ (j : Nat), jv = .int .i64 j ∧ j ≤ L.length ∧ Hold ws [.own 9 1 (.slice a2 L.length c2) L.length (nmC L), ruR (.slice aH H.length cH) H, .own 9 1 (.slice a1 L.length c1) L.length (nmC L), baseR p L, .blk q zU.cells 30, .blk g x.cells 32, .base w]) (fun j _ => L.length - (intOf j).toNat)
            case atStart => exact ⟨0, rfl, Nat.zero_le _, HC.out⟩
            case round =>
              obtain ⟨j, rfl, hj, hr⟩ := hrel
              have HC := Lib.hid hr
              clear hr
              by_cases hjl : j < L.length
              · obtain ⟨b1, o1, ha1, hc1'⟩ := own_cell (L := L) (a := a1) (c := c1) HC.out (by simp) (by omega)
                obtain ⟨b2, o2, ha2, hc2'⟩ := own_cell (L := L) (a := a2) (c := c2) HC.out (by simp) (by omega)
                subst ha1 ha2
                have e1 := hc1' j hjl
                have e2 := hc2' j hjl
                have hji : (j : Int) < L.length := by omega
                obtain ⟨y3, hy3⟩ : ∃ y3, y3 = L[j].name := ⟨_, rfl⟩
                rw [← hy3] at e1 e2
                clear hc1' hc2' hy3
                go_wp2_with fail
                go_roundw
                case rel => exact ⟨j + 1, by go_num, by omega, HC.out⟩
                case measure => simp [intOf]; omega
              · obtain rfl : j = L.length := by omega
                have HE := Lib.hid (HC.out.front (m := [_, _, _, _, _, _, _]) (l := []) [0, 2, 4, 5, 3, 1, 6] 7 (by decide) |>.tail.tail.tail.tail)
                go_wp2_with fail
                go_roundw
                case rel => exact ⟨k + 1, L, H, by go_num, by omega, HI.out, HE.out⟩
                case measure => simp [intOf]; omega
          · obtain ⟨y, hy⟩ : ∃ y, y = H[r] := ⟨_, rfl⟩
            rw [← hy] at hCc
            have HY := Lib.hid hy
            obtain ⟨bh, oh, ha, hcell⟩ := ruR_cells (H := H) (a := aH) (c := cH) HC.out (by simp) (by omega)
            subst ha
            clear hcell hy
            have h4 := HGA.out
            rw [hE, hCc] at h4
            have H4 := Lib.hid h4
            have HF := Lib.hid hf
            clear h4 hf hE hCc HGA
            go_wp2_with fail
            refine H4.out.mono ?_
            rintro e w4 ⟨rfl, hb⟩
            have HC4 := Lib.hid (HC.out.step hb)
            obtain ⟨q, hq⟩ : ∃ q, q = w4.heap.size := ⟨_, rfl⟩
            have HA := Lib.hid (HC4.out.addBlkAt zsU 30 hq.symm)
            have HQ := Lib.hid (HA.out.blkOf (p := q) (cs := zsU) (T := 30) (by simp))
            have HQE := Lib.hid hq
            clear hb H4 hq HC4 HC g1
            go_wp2_with (((with_reducible show wpList _ _ _ (⟨none, .store _ (.tmp 8) (.tmp 74), _, _, _, _⟩ :: _) _ _); rw [← HQE.out]; refine wpList_stAgg rfl (.tmp 8) (.tmp 74) aggUs rfl rfl (vs := y.cells) rfl y.cells_length HQ.out (Nat.le_refl _) y.cells_one ?_))
            intro w5 h5 k5
            have h5' : Blk w5 q (y.cells) 30 := by simpa [zsU] using h5
            have HC := Lib.hid (HA.out.blkTurn h5' k5)
            have HB5 := Lib.hid h5'
            have g1 := Stp.name_at (HC.out.blkOf (p := g) (cs := x.cells) (T := 32) (by simp))
            rw [← HNM.out] at g1
            have h6 := refFind_any (.slice (some ⟨bh, oh, none⟩) H.length cH) H nm _ w5 (HC.out.front (m := [_, _, _, _, _]) (l := []) [3, 0, 1, 2, 4] 5 (by decide)) (by omega)
            rw [HF.out] at h6
            have H6 := Lib.hid h6
            clear h5 h5' k5 HA HQ h6
            go_wp2_with fail
            refine H6.out.mono ?_
            rintro e w6 ⟨rfl, rfl⟩
            clear H6 g1
            go_upto_region 23 with fail
            have HC := Lib.hid HC.out.drew
            have hri : (r : Int) < H.length := by omega
            refine wp_region_held (S := fun W : World => Blk W q y.cells 30 ∧ CellsAt W bh (oh + r * 20) y.cells) (by kernel_rfl) ?_
            change wpAnyH _ _ _ _ _ _ _ _ (World.drew _)
            refine wpAnyH_take (i := 0) (oi := { dst := some 81, op := _, type := _, pos := _, after := _, guard := none }) (v := .int .i64 0) rfl (by kernel_rfl) (by kernel_rfl) (by kernel_rfl) (fun _ _ _ h => h) (Or.inl ⟨by rfl, by intro W hW; go_simp⟩) ⟨HC.out.blkOf (p := q) (cs := y.cells) (T := 30) (by simp), by rw [HY.out]; exact ruR_at (c := cH) HC.out (by simp) r hr2⟩ ?_
            simp only [Act.put, List.setIfInBounds_toArray, List.set_cons_zero, List.set_cons_succ]
            refine wpAnyH_take (i := 1) (oi := { dst := some 82, op := _, type := _, pos := _, after := _, guard := none }) (v := .bool true) rfl (by kernel_rfl) (by kernel_rfl) (by kernel_rfl) (fun _ _ _ h => h) (Or.inl ⟨by rfl, by intro W hW; go_simp⟩) ⟨HC.out.blkOf (p := q) (cs := y.cells) (T := 30) (by simp), by rw [HY.out]; exact ruR_at (c := cH) HC.out (by simp) r hr2⟩ ?_
            simp only [Act.put, List.setIfInBounds_toArray, List.set_cons_zero, List.set_cons_succ]
            refine wpAnyH_take (i := 2) (oi := { dst := some 83, op := _, type := _, pos := _, after := _, guard := none }) (v := .int .i64 r) rfl (by kernel_rfl) (by kernel_rfl) (by kernel_rfl) (fun _ _ _ h => h) (Or.inl ⟨by rfl, by intro W hW; go_simp⟩) ⟨HC.out.blkOf (p := q) (cs := y.cells) (T := 30) (by simp), by rw [HY.out]; exact ruR_at (c := cH) HC.out (by simp) r hr2⟩ ?_
            simp only [Act.put, List.setIfInBounds_toArray, List.set_cons_zero, List.set_cons_succ]
            refine wpAnyH_take (i := 3) (oi := { dst := some 84, op := _, type := _, pos := _, after := _, guard := none }) (v := .bool true) rfl (by kernel_rfl) (by kernel_rfl) (by kernel_rfl) (fun _ _ _ h => h) (Or.inl ⟨by rfl, by intro W hW; go_simp⟩) ⟨HC.out.blkOf (p := q) (cs := y.cells) (T := 30) (by simp), by rw [HY.out]; exact ruR_at (c := cH) HC.out (by simp) r hr2⟩ ?_
            simp only [Act.put, List.setIfInBounds_toArray, List.set_cons_zero, List.set_cons_succ]
            refine wpAnyH_take (i := 4) (oi := { dst := some 85, op := _, type := _, pos := _, after := _, guard := none }) (v := .bool false) rfl (by kernel_rfl) (by kernel_rfl) (by kernel_rfl) (fun _ _ _ h => h) (Or.inl ⟨by rfl, by intro W hW; go_simp⟩) ⟨HC.out.blkOf (p := q) (cs := y.cells) (T := 30) (by simp), by rw [HY.out]; exact ruR_at (c := cH) HC.out (by simp) r hr2⟩ ?_
            simp only [Act.put, List.setIfInBounds_toArray, List.set_cons_zero, List.set_cons_succ]
            refine wpAnyH_take (i := 5) (oi := { dst := some 86, op := _, type := _, pos := _, after := _, guard := none }) (v := .bool false) rfl (by kernel_rfl) (by kernel_rfl) (by kernel_rfl) (fun _ _ _ h => h) (Or.inl ⟨by rfl, by intro W hW; go_simp⟩) ⟨HC.out.blkOf (p := q) (cs := y.cells) (T := 30) (by simp), by rw [HY.out]; exact ruR_at (c := cH) HC.out (by simp) r hr2⟩ ?_
            simp only [Act.put, List.setIfInBounds_toArray, List.set_cons_zero, List.set_cons_succ]
            refine wpAnyH_take (i := 6) (oi := { dst := some 87, op := _, type := _, pos := _, after := _, guard := (some (5, false)) }) (v := .int .i64 0) rfl (by kernel_rfl) (by kernel_rfl) (by kernel_rfl) (fun _ _ _ h => h) (Or.inl ⟨by rfl, by intro W hW; go_simp⟩) ⟨HC.out.blkOf (p := q) (cs := y.cells) (T := 30) (by simp), by rw [HY.out]; exact ruR_at (c := cH) HC.out (by simp) r hr2⟩ ?_
            simp only [Act.put, List.setIfInBounds_toArray, List.set_cons_zero, List.set_cons_succ]
            refine wpAnyH_take (i := 7) (oi := { dst := some 88, op := _, type := _, pos := _, after := _, guard := (some (5, false)) }) (v := .bool false) rfl (by kernel_rfl) (by kernel_rfl) (by kernel_rfl) (fun _ _ _ h => h) (Or.inl ⟨by rfl, by intro W hW; go_simp⟩) ⟨HC.out.blkOf (p := q) (cs := y.cells) (T := 30) (by simp), by rw [HY.out]; exact ruR_at (c := cH) HC.out (by simp) r hr2⟩ ?_
            simp only [Act.put, List.setIfInBounds_toArray, List.set_cons_zero, List.set_cons_succ]
            refine wpAnyH_take (i := 8) (oi := { dst := some 89, op := _, type := _, pos := _, after := _, guard := (some (5, false)) }) (v := .bool false) rfl (by kernel_rfl) (by kernel_rfl) (by kernel_rfl) (fun _ _ _ h => h) (Or.inl ⟨by rfl, by intro W hW; go_simp⟩) ⟨HC.out.blkOf (p := q) (cs := y.cells) (T := 30) (by simp), by rw [HY.out]; exact ruR_at (c := cH) HC.out (by simp) r hr2⟩ ?_
            simp only [Act.put, List.setIfInBounds_toArray, List.set_cons_zero, List.set_cons_succ]
            refine wpAnyH_take (i := 9) (oi := { dst := some 90, op := _, type := _, pos := _, after := _, guard := (some (8, true)) }) (v := undef) rfl (by kernel_rfl) (by kernel_rfl) (by kernel_rfl) (fun _ _ _ h => h) (Or.inr ⟨by rfl, rfl⟩) ⟨HC.out.blkOf (p := q) (cs := y.cells) (T := 30) (by simp), by rw [HY.out]; exact ruR_at (c := cH) HC.out (by simp) r hr2⟩ ?_
            simp only [Act.put, List.setIfInBounds_toArray, List.set_cons_zero, List.set_cons_succ]
            refine wpAnyH_take (i := 10) (oi := { dst := some 91, op := _, type := _, pos := _, after := _, guard := (some (8, true)) }) (v := undef) rfl (by kernel_rfl) (by kernel_rfl) (by kernel_rfl) (fun _ _ _ h => h) (Or.inr ⟨by rfl, rfl⟩) ⟨HC.out.blkOf (p := q) (cs := y.cells) (T := 30) (by simp), by rw [HY.out]; exact ruR_at (c := cH) HC.out (by simp) r hr2⟩ ?_
            simp only [Act.put, List.setIfInBounds_toArray, List.set_cons_zero, List.set_cons_succ]
            refine wpAnyH_take (i := 11) (oi := { dst := some 92, op := _, type := _, pos := _, after := _, guard := (some (8, true)) }) (v := undef) rfl (by kernel_rfl) (by kernel_rfl) (by kernel_rfl) (fun _ _ _ h => h) (Or.inr ⟨by rfl, rfl⟩) ⟨HC.out.blkOf (p := q) (cs := y.cells) (T := 30) (by simp), by rw [HY.out]; exact ruR_at (c := cH) HC.out (by simp) r hr2⟩ ?_
            simp only [Act.put, List.setIfInBounds_toArray, List.set_cons_zero, List.set_cons_succ]
            refine wpAnyH_take (i := 12) (oi := { dst := some 93, op := _, type := _, pos := _, after := _, guard := (some (11, false)) }) (v := undef) rfl (by kernel_rfl) (by kernel_rfl) (by kernel_rfl) (fun _ _ _ h => h) (Or.inr ⟨by rfl, rfl⟩) ⟨HC.out.blkOf (p := q) (cs := y.cells) (T := 30) (by simp), by rw [HY.out]; exact ruR_at (c := cH) HC.out (by simp) r hr2⟩ ?_
            simp only [Act.put, List.setIfInBounds_toArray, List.set_cons_zero, List.set_cons_succ]
            refine wpAnyH_take (i := 13) (oi := { dst := some 94, op := _, type := _, pos := _, after := _, guard := (some (11, false)) }) (v := undef) rfl (by kernel_rfl) (by kernel_rfl) (by kernel_rfl) (fun _ _ _ h => h) (Or.inr ⟨by rfl, rfl⟩) ⟨HC.out.blkOf (p := q) (cs := y.cells) (T := 30) (by simp), by rw [HY.out]; exact ruR_at (c := cH) HC.out (by simp) r hr2⟩ ?_
            simp only [Act.put, List.setIfInBounds_toArray, List.set_cons_zero, List.set_cons_succ]
            refine wpAnyH_take (i := 14) (oi := { dst := some 95, op := _, type := _, pos := _, after := _, guard := (some (11, false)) }) (v := undef) rfl (by kernel_rfl) (by kernel_rfl) (by kernel_rfl) (fun _ _ _ h => h) (Or.inr ⟨by rfl, rfl⟩) ⟨HC.out.blkOf (p := q) (cs := y.cells) (T := 30) (by simp), by rw [HY.out]; exact ruR_at (c := cH) HC.out (by simp) r hr2⟩ ?_
            simp only [Act.put, List.setIfInBounds_toArray, List.set_cons_zero, List.set_cons_succ]
            refine wpAnyH_take (i := 15) (oi := { dst := some 96, op := _, type := _, pos := _, after := _, guard := (some (8, true)) }) (v := undef) rfl (by kernel_rfl) (by kernel_rfl) (by kernel_rfl) (fun _ _ _ h => h) (Or.inr ⟨by rfl, rfl⟩) ⟨HC.out.blkOf (p := q) (cs := y.cells) (T := 30) (by simp), by rw [HY.out]; exact ruR_at (c := cH) HC.out (by simp) r hr2⟩ ?_
            simp only [Act.put, List.setIfInBounds_toArray, List.set_cons_zero, List.set_cons_succ]
            refine wpAnyH_take (i := 16) (oi := { dst := some 97, op := _, type := _, pos := _, after := _, guard := (some (5, false)) }) (v := .bool false) rfl (by kernel_rfl) (by kernel_rfl) (by kernel_rfl) (fun _ _ _ h => h) (Or.inl ⟨by rfl, by intro W hW; go_simp⟩) ⟨HC.out.blkOf (p := q) (cs := y.cells) (T := 30) (by simp), by rw [HY.out]; exact ruR_at (c := cH) HC.out (by simp) r hr2⟩ ?_
            simp only [Act.put, List.setIfInBounds_toArray, List.set_cons_zero, List.set_cons_succ]
            refine wpAnyH_take (i := 17) (oi := { dst := some 98, op := _, type := _, pos := _, after := _, guard := none }) (v := .bool false) rfl (by kernel_rfl) (by kernel_rfl) (by kernel_rfl) (fun _ _ _ h => h) (Or.inl ⟨by rfl, by intro W hW; go_simp⟩) ⟨HC.out.blkOf (p := q) (cs := y.cells) (T := 30) (by simp), by rw [HY.out]; exact ruR_at (c := cH) HC.out (by simp) r hr2⟩ ?_
            simp only [Act.put, List.setIfInBounds_toArray, List.set_cons_zero, List.set_cons_succ]
            refine wpAnyH_take (i := 18) (oi := { dst := some 99, op := _, type := _, pos := _, after := _, guard := none }) (v := .bool false) rfl (by kernel_rfl) (by kernel_rfl) (by kernel_rfl) (fun _ _ _ h => h) (Or.inl ⟨by rfl, by intro W hW; go_simp⟩) ⟨HC.out.blkOf (p := q) (cs := y.cells) (T := 30) (by simp), by rw [HY.out]; exact ruR_at (c := cH) HC.out (by simp) r hr2⟩ ?_
            simp only [Act.put, List.setIfInBounds_toArray, List.set_cons_zero, List.set_cons_succ]
            refine wpAnyH_take (i := 19) (oi := { dst := some 100, op := _, type := _, pos := _, after := _, guard := (some (18, false)) }) (v := .int .i64 r) rfl (by kernel_rfl) (by kernel_rfl) (by kernel_rfl) (fun _ _ _ h => h) (Or.inl ⟨by rfl, by intro W hW; go_simp⟩) ⟨HC.out.blkOf (p := q) (cs := y.cells) (T := 30) (by simp), by rw [HY.out]; exact ruR_at (c := cH) HC.out (by simp) r hr2⟩ ?_
            simp only [Act.put, List.setIfInBounds_toArray, List.set_cons_zero, List.set_cons_succ]
            refine wpAnyH_take (i := 20) (oi := { dst := some 101, op := _, type := _, pos := _, after := _, guard := (some (18, false)) }) (v := .bool true) rfl (by kernel_rfl) (by kernel_rfl) (by kernel_rfl) (fun _ _ _ h => h) (Or.inl ⟨by rfl, by intro W hW; go_simp⟩) ⟨HC.out.blkOf (p := q) (cs := y.cells) (T := 30) (by simp), by rw [HY.out]; exact ruR_at (c := cH) HC.out (by simp) r hr2⟩ ?_
            simp only [Act.put, List.setIfInBounds_toArray, List.set_cons_zero, List.set_cons_succ]
            refine wpAnyH_take (i := 21) (oi := { dst := some 102, op := _, type := _, pos := _, after := _, guard := (some (18, false)) }) (v := .bool true) rfl (by kernel_rfl) (by kernel_rfl) (by kernel_rfl) (fun _ _ _ h => h) (Or.inl ⟨by rfl, by intro W hW; go_simp⟩) ⟨HC.out.blkOf (p := q) (cs := y.cells) (T := 30) (by simp), by rw [HY.out]; exact ruR_at (c := cH) HC.out (by simp) r hr2⟩ ?_
            simp only [Act.put, List.setIfInBounds_toArray, List.set_cons_zero, List.set_cons_succ]
            refine wpAnyH_take (i := 22) (oi := { dst := some 103, op := _, type := _, pos := _, after := _, guard := (some (21, true)) }) (v := .agg y.cells.toArray) rfl (by kernel_rfl) (by kernel_rfl) (by kernel_rfl) (fun _ _ _ h => h) (Or.inl ⟨by rfl, by intro W hW; exact exec_ldAgg rfl aggUs rfl y.cells_length hW.1.cellsAll⟩) ⟨HC.out.blkOf (p := q) (cs := y.cells) (T := 30) (by simp), by rw [HY.out]; exact ruR_at (c := cH) HC.out (by simp) r hr2⟩ ?_
            simp only [Act.put, List.setIfInBounds_toArray, List.set_cons_zero, List.set_cons_succ]
            refine wpAnyH_take (i := 24) (oi := { dst := some 105, op := _, type := _, pos := _, after := _, guard := (some (21, true)) }) (v := .slice (some ⟨bh, oh, none⟩) H.length cH) rfl (by kernel_rfl) (by kernel_rfl) (by kernel_rfl) (fun _ _ _ h => h) (Or.inl ⟨by rfl, by intro W hW; go_simp⟩) ⟨HC.out.blkOf (p := q) (cs := y.cells) (T := 30) (by simp), by rw [HY.out]; exact ruR_at (c := cH) HC.out (by simp) r hr2⟩ ?_
            simp only [Act.put, List.setIfInBounds_toArray, List.set_cons_zero, List.set_cons_succ]
            refine wpAnyH_take (i := 25) (oi := { dst := some 106, op := _, type := _, pos := _, after := _, guard := (some (21, true)) }) (v := .int .i64 r) rfl (by kernel_rfl) (by kernel_rfl) (by kernel_rfl) (fun _ _ _ h => h) (Or.inl ⟨by rfl, by intro W hW; go_simp⟩) ⟨HC.out.blkOf (p := q) (cs := y.cells) (T := 30) (by simp), by rw [HY.out]; exact ruR_at (c := cH) HC.out (by simp) r hr2⟩ ?_
            simp only [Act.put, List.setIfInBounds_toArray, List.set_cons_zero, List.set_cons_succ]
            refine wpAnyH_take (i := 26) (oi := { dst := some 107, op := _, type := _, pos := _, after := _, guard := (some (21, true)) }) (v := .pointer (some ⟨bh, oh + r * 20, none⟩)) rfl (by kernel_rfl) (by kernel_rfl) (by kernel_rfl) (fun _ _ _ h => h) (Or.inl ⟨by rfl, by intro W hW; go_simp⟩) ⟨HC.out.blkOf (p := q) (cs := y.cells) (T := 30) (by simp), by rw [HY.out]; exact ruR_at (c := cH) HC.out (by simp) r hr2⟩ ?_
            simp only [Act.put, List.setIfInBounds_toArray, List.set_cons_zero, List.set_cons_succ]
            refine wpAnyH_take (i := 27) (oi := { dst := some 108, op := _, type := _, pos := _, after := _, guard := (some (21, true)) }) (v := .agg y.cells.toArray) rfl (by kernel_rfl) (by kernel_rfl) (by kernel_rfl) (fun _ _ _ h => h) (Or.inl ⟨by rfl, by intro W hW; exact exec_ldAgg rfl aggRU rfl y.cells_length hW.2⟩) ⟨HC.out.blkOf (p := q) (cs := y.cells) (T := 30) (by simp), by rw [HY.out]; exact ruR_at (c := cH) HC.out (by simp) r hr2⟩ ?_
            simp only [Act.put, List.setIfInBounds_toArray, List.set_cons_zero, List.set_cons_succ]
            refine anyH_ready (rs := [23]) (by decide +kernel) (by simp) ?_
            refine AllReadyH.cons (o := { dst := some 104, op := .call { callee := .value (.func 9), args := #[.tmp 103], argTypes := #[30] }, type := _, pos := _, after := _, guard := (some (21, true)) }) rfl (fun K hK => ?_) AllReadyH.nil
            go_simp
            refine (plain_any y _).mono ?_
            rintro e w7 ⟨rfl, hb⟩
            have HC := Lib.hid (HC.out.step hb)
            clear hb
            refine hK _ _ ⟨HC.out.blkOf (p := q) (cs := y.cells) (T := 30) (by simp), by rw [HY.out]; exact ruR_at (c := cH) HC.out (by simp) r hr2⟩ ?_
            clear hK K
            try simp only [Act.put, List.setIfInBounds_toArray, List.set_cons_zero, List.set_cons_succ]
            refine wpAnyH_take (i := 28) (oi := { dst := some 109, op := _, type := _, pos := _, after := _, guard := (some (21, true)) }) (v := .bool false) rfl (by kernel_rfl) (by kernel_rfl) (by kernel_rfl) (fun _ _ _ h => h) (Or.inl ⟨by rfl, by intro W hW; exact exec_neqU (.inr rfl) rfl y rfl rfl⟩) ⟨HC.out.blkOf (p := q) (cs := y.cells) (T := 30) (by simp), by rw [HY.out]; exact ruR_at (c := cH) HC.out (by simp) r hr2⟩ ?_
            simp only [Act.put, List.setIfInBounds_toArray, List.set_cons_zero, List.set_cons_succ]
            refine wpAnyH_take (i := 29) (oi := { dst := some 110, op := _, type := _, pos := _, after := _, guard := (some (18, false)) }) (v := .bool false) rfl (by kernel_rfl) (by kernel_rfl) (by kernel_rfl) (fun _ _ _ h => h) (Or.inl ⟨by rfl, by intro W hW; go_simp⟩) ⟨HC.out.blkOf (p := q) (cs := y.cells) (T := 30) (by simp), by rw [HY.out]; exact ruR_at (c := cH) HC.out (by simp) r hr2⟩ ?_
            simp only [Act.put, List.setIfInBounds_toArray, List.set_cons_zero, List.set_cons_succ]
            refine wpAnyH_take (i := 30) (oi := { dst := some 111, op := _, type := _, pos := _, after := _, guard := none }) (v := .bool false) rfl (by kernel_rfl) (by kernel_rfl) (by kernel_rfl) (fun _ _ _ h => h) (Or.inl ⟨by rfl, by intro W hW; go_simp⟩) ⟨HC.out.blkOf (p := q) (cs := y.cells) (T := 30) (by simp), by rw [HY.out]; exact ruR_at (c := cH) HC.out (by simp) r hr2⟩ ?_
            simp only [Act.put, List.setIfInBounds_toArray, List.set_cons_zero, List.set_cons_succ]
            refine wpAnyH_done (by decide +kernel) ?_ _
            have HNA := Lib.hid (names_any p L _ _ (HC.out.front (m := [_, _, _, _, _]) (l := []) [2, 3, 0, 1, 4] 5 (by decide)) (by omega))
            clear HC HB5
            go_wp2_with fail
            refine HNA.out.mono ?_
            rintro e w8 ⟨v1, rfl, hc⟩
            obtain ⟨a1, c1, rfl, hc1, hm1⟩ := (hc.ownOf (List.mem_cons_self)).1.sl.form
            have HNB := Lib.hid (refNames_any (.slice (some ⟨bh, oh, none⟩) H.length cH) H _ w8 (hc.front (m := [_, _, _, _, _, _]) (l := []) [2, 0, 1, 3, 4, 5] 6 (by decide)) (by omega))
            clear HNA hc
            go_wp2_with fail
            refine HNB.out.mono ?_
            rintro e w9 ⟨v2, rfl, hc⟩
            have hc2 := own_cast hc (n' := L.length) (cs' := nmC L) (by rw [HI.out.names, List.length_map]) (by rw [HI.out.names]; simp [stC, nmC])
            obtain ⟨a2, c2, rfl, hc2', hm2⟩ := (hc2.ownOf (List.mem_cons_self)).1.sl.form
            have HC := Lib.hid hc2
            unfold maxLen at hm1 hm2
            clear hc hc2 HNB
            go_wp2_with fail
            go_loopw [123] (fun jv ws => ∃ (j : Nat), jv = .int .i64 j ∧ j ≤ L.length ∧ Hold ws [.own 9 1 (.slice a2 L.length c2) L.length (nmC L), ruR (.slice (some ⟨bh, oh, none⟩) H.length cH) H, .own 9 1 (.slice a1 L.length c1) L.length (nmC L), baseR p L, .blk q y.cells 30, .blk g x.cells 32, .base w]) (fun j _ => L.length - (intOf j).toNat)
            case atStart => exact ⟨0, rfl, Nat.zero_le _, HC.out⟩
            case round =>
              obtain ⟨j, rfl, hj, hr⟩ := hrel
              have HC := Lib.hid hr
              clear hr
              by_cases hjl : j < L.length
              · obtain ⟨b1, o1, ha1, hc1'⟩ := own_cell (L := L) (a := a1) (c := c1) HC.out (by simp) (by omega)
                obtain ⟨b2, o2, ha2, hc2'⟩ := own_cell (L := L) (a := a2) (c := c2) HC.out (by simp) (by omega)
                subst ha1 ha2
                have e1 := hc1' j hjl
                have e2 := hc2' j hjl
                have hji : (j : Int) < L.length := by omega
                obtain ⟨y3, hy3⟩ : ∃ y3, y3 = L[j].name := ⟨_, rfl⟩
                rw [← hy3] at e1 e2
                clear hc1' hc2' hy3
                go_wp2_with fail
                go_roundw
                case rel => exact ⟨j + 1, by go_num, by omega, HC.out⟩
                case measure => simp [intOf]; omega
              · obtain rfl : j = L.length := by omega
                have HE := Lib.hid (HC.out.front (m := [_, _, _, _, _, _, _]) (l := []) [0, 2, 4, 5, 3, 1, 6] 7 (by decide) |>.tail.tail.tail.tail)
                go_wp2_with fail
                go_roundw
                case rel => exact ⟨k + 1, L, H, by go_num, by omega, HI.out, HE.out⟩
                case measure => simp [intOf]; omega
    · obtain rfl : k = l.length := by omega
      have HB := Lib.hid (HC.out.baseOf (w0 := w) (by simp))
      go_wp2_with fail
      go_ret
      exact ⟨rfl, HB.out⟩
end Go.Proofs.Ytclonbojpcgngaa
