/- Texts of this proof, one behind the other: AppSt. -/
import Derived.Test.YtiplepdmkbiehaaAeA11
namespace Go.Proofs.Ytiplepdmkbiehaa
set_option linter.unusedSimpArgs false
set_option linter.unusedVariables false
open Go.RowKit Go.Maps Go.MapKept Go.WideMaps
theorem i64_and1 (n : Int) : bits .and .i64 n 1 = n % 2 := by
  have h1 : (BitVec.ofInt 64 1).toNat = 2 ^ 1 - 1 := by decide
  have key : (BitVec.ofInt 64 n &&& BitVec.ofInt 64 1).toNat = (n % ((2 ^ 64 : Nat) : Int)).toNat % 2 ^ 1 := by
    rw [BitVec.toNat_and, BitVec.toNat_ofInt, h1, Nat.and_two_pow_sub_one_eq_mod]
  show IntKind.i64.wrap ((BitVec.ofInt 64 n &&& BitVec.ofInt 64 1).toNat : Nat) = n % 2
  rw [key, IntKind.wrap_i64]
  omega
theorem rowM_snoc : ∀ {vs : List Value} {L : List (Int × List UInt8)} (v : Value) (x : Int × List UInt8), vs.length = L.length → rowM (vs ++ [v]) (L ++ [x]) = rowM vs L ++ [(x.1, v)]
  | [], [], _, _, _ => rfl
  | [], _ :: _, _, _, h => by simp at h
  | _ :: _, [], _, _, h => by simp at h
  | u :: vs, y :: L, v, x, h => by
    show (y.1, u) :: rowM (vs ++ [v]) (L ++ [x]) = _
    rw [rowM_snoc v x (by simpa using h)]
    rfl
theorem rowM_lenE : ∀ {vs : List Value} {L : List (Int × List UInt8)}, vs.length = L.length → (rowM vs L).length = L.length
  | [], [], _ => rfl
  | [], _ :: _, h => by simp at h
  | _ :: _, [], h => by simp at h
  | v :: vs, x :: L, h => by
    show (rowM vs L).length + 1 = L.length + 1
    rw [rowM_lenE (by simpa using h)]
theorem rowM_len : ∀ (vs : List Value) (L : List (Int × List UInt8)), (rowM vs L).length ≤ L.length
  | [], _ => by simp [rowM]
  | _ :: _, [] => by simp [rowM]
  | v :: vs, x :: L => by
    show (rowM vs L).length + 1 ≤ L.length + 1
    have := rowM_len vs L
    omega
/-- A file is put. -/
theorem filesR_put {W W' : World} {b : Nat} {vs : List Value} {L : List (Int × List UInt8)} {k : Int} {v : Value} {d : List UInt8} {l : List Res} (h : Hold W (mapV Try.prog 2 kI b (rowM vs L) :: sumsR vs (L.map (·.2)) :: .row v d :: l)) (hl : vs.length = L.length) (hk : hasV L k = false)
    (hm : MapAt Try.prog 2 kI W' b (putV (rowM vs L) k v)) (hkp : Keeps (fun j => j = b ∨ W.heap.size ≤ j) W W') : Hold W' (filesR b (putV L k d) :: l) := by
  have hk2 : hasV (rowM vs L) k = false := by rw [rowM_has hl]; exact hk
  have e : putV (rowM vs L) k v = rowM (vs ++ [v]) (putV L k d) := by rw [putV_hasnt hk2, putV_hasnt hk, rowM_snoc v (k, d) hl]
  rw [e] at hm
  have h2 := (sumsR_snoc (h.mapVTurn hm hkp).push3).swap
  have e2 : (putV L k d).map (·.2) = L.map (·.2) ++ [d] := by rw [putV_hasnt hk, List.map_append]; rfl
  rw [← e2] at h2
  exact Hold.ex.2 ⟨vs ++ [v], Hold.app.2 h2⟩
set_option maxRecDepth 100000 in
set_option maxHeartbeats 16000000 in
theorem step0_any (p q : Nat) (mp : Value) (t : Sums) (x y : SideF) (n pp : Nat) (s : StF) (dv : Value) (l : List Res) (w : World) (h : Hold w (pairR p q mp t x y :: l)) (hok : Ok n pp t x y) (hn : n ≤ 1000000) (hi : s.at_ % 2 = 0) (htx : s.text.size ≤ 400) (hdl : s.data.length ≤ 2100) (h64 : -9223372036854775808 ≤ s.id ∧ s.id ≤ 9223372036854775807)
    (hrow : ∀ W, Hold W l → Bs W dv s.data) (hsd : x.said.length ≤ 1099511627776) :
    Calls Try.prog 13 #[.pointer (some ⟨p, 0, none⟩), .agg #[.int .i64 s.kind, .int .i64 s.at_, .int .i64 s.id, .string s.text, dv]] w fun e w' => e = .returned (.bool true) ∧ Hold w' (pairR p q mp (stepS t x y s).1 (stepS t x y s).2.1 (stepS t x y s).2.2 :: l) := by
  obtain ⟨da, dc, rfl, hdc, hdm⟩ := (hrow w h.tail).form
  obtain ⟨sk, sa, si, tx0, sd⟩ := s
  simp only at hi htx hdl h64 hrow hdc ⊢
  have hat : bits .and .i64 sa 1 = 0 := by rw [i64_and1]; exact hi
  have HROW := hI hrow
  have h1 := h.addBlk [.int .i64 sk, .int .i64 sa, .int .i64 si, .string tx0, .slice da sd.length dc] 48
  obtain ⟨pe, hpe⟩ : ∃ pe, pe = w.heap.size := ⟨_, rfl⟩
  rw [← hpe] at h1
  have HCP := hI h1.swap
  obtain ⟨z, u, h2⟩ := pairR_two h1.swap
  obtain ⟨ze, zP, zs, zh, zf, zo⟩ := z
  obtain ⟨ue, uP, us, uh, uf, uo⟩ := u
  have hb := restR_blk (p := p) (z := ⟨ze, zP, zs, zh, zf, zo⟩) (u := ⟨ue, uP, us, uh, uf, uo⟩) (x := x) (y := y) h2 (by simp)
  have c0 : (w.alloc (.cells #[.int .i64 sk, .int .i64 sa, .int .i64 si, .string tx0, .slice da sd.length dc] 48)).cell? ⟨p, 0, none⟩ = some (.pointer (some ⟨ze, 0, none⟩)) := hb.cell 0
  have HC := hI h2
  have HOK := hI hok
  have HNL := hI hn
  have HSD := hI hsd
  have HTX := hI htx
  have HDL := hI hdl
  have H64 := hI h64
  unfold maxLen at hdm
  clear h h1 h2 hb hok hn hsd hrow hi h64
  by_cases hk0 : sk = 0
  · subst hk0
    have HE : Hid (stepS t x y ⟨0, sa, si, tx0, sd⟩ = (t, chatS x tx0, y)) := hI (by rw [stepS, if_pos rfl])
    rw [HE.out]
    have HCH := hI (appChat_any ze q zP x.app.app tx0 _ _ HC.out (by have := HTX.out; omega) (by have := HOK.out.bx.waits; have := HNL.out; simp [EndW.app]; omega))
    rw [chatW_eq] at HCH
    clear HCP
    have HTW := fun W => refText_any tx0 200 W (by have := HTX.out; unfold maxLen; omega)
    have HTH := hI HTW
    clear HTW
    by_cases hT : textB tx0 200 = false
    · have HW : Hid (chatW x.app tx0 = (x.app, 4)) := hI (by rw [chatW, if_pos hT])
      have HWS : Hid (chatS x tx0 = x) := hI (by rw [chatS, HW.out]; rfl)
      rw [HW.out] at HCH
      rw [HWS.out]
      have HTB : Hid (textB tx0 200 = false) := hI (by simpa using hT)
      clear hT
      go_enter Try.func13, Try.ntmps13
      go_wp2_with fail
      rw [← hpe]
      clear hpe
      refine HCH.out.mono ?_
      rintro e w2 ⟨rfl, hc⟩
      have c3 := hc.tail.tail.tail.tail.blk0.cell 3
      simp only [List.getElem?_cons_zero, List.getElem?_cons_succ] at c3
      have HC2 := hI hc
      clear hc HCH
      go_wp2_with fail
      refine (HTH.out w2).mono ?_
      rintro e w3 ⟨rfl, rfl⟩
      rw [HTB.out]
      go_wp2_with fail
      go_ret
      exact ⟨rfl, (pairR_back (x := x) (y := y) (z := ⟨ze, zP, zs, zh, zf, zo⟩) (u := ⟨ue, uP, us, uh, uf, uo⟩) (P1 := zP) (P2 := uP) (E := x.app) (G := y.app) HC2.out).swap.tail⟩
    · by_cases hF : 16 ≤ x.app.waits.length
      · have HW : Hid (chatW x.app tx0 = (x.app, 8)) := hI (by rw [chatW, if_neg hT, if_pos hF])
        have HWS : Hid (chatS x tx0 = x) := hI (by rw [chatS, HW.out]; rfl)
        rw [HW.out] at HCH
        rw [HWS.out]
        have HTB : Hid (textB tx0 200 = true) := hI (by simpa using hT)
        clear hT hF
        go_enter Try.func13, Try.ntmps13
        go_wp2_with fail
        rw [← hpe]
        clear hpe
        refine HCH.out.mono ?_
        rintro e w2 ⟨rfl, hc⟩
        have c3 := hc.tail.tail.tail.tail.blk0.cell 3
        simp only [List.getElem?_cons_zero, List.getElem?_cons_succ] at c3
        have HC2 := hI hc
        clear hc HCH
        go_wp2_with fail
        refine (HTH.out w2).mono ?_
        rintro e w3 ⟨rfl, rfl⟩
        rw [HTB.out]
        go_wp2_with fail
        go_ret
        exact ⟨rfl, (pairR_back (x := x) (y := y) (z := ⟨ze, zP, zs, zh, zf, zo⟩) (u := ⟨ue, uP, us, uh, uf, uo⟩) (P1 := zP) (P2 := uP) (E := x.app) (G := y.app) HC2.out).swap.tail⟩
      · have HW : Hid (chatW x.app tx0 = (x.app.say (.chat tx0.data.toList), 0)) := hI (by rw [chatW, if_neg hT, if_neg hF])
        have HWS : Hid (chatS x tx0 = ⟨x.app.say (.chat tx0.data.toList), x.said ++ [tx0], x.hear, x.file, x.over⟩) := hI (by rw [chatS, HW.out]; rfl)
        rw [HW.out] at HCH
        rw [HWS.out]
        have HTB : Hid (textB tx0 200 = true) := hI (by simpa using hT)
        clear hT hF
        go_enter Try.func13, Try.ntmps13
        go_wp2_with fail
        rw [← hpe]
        clear hpe
        refine HCH.out.mono ?_
        rintro e w2 ⟨rfl, hc⟩
        have h3 := restR_iff.1 hc.pull4
        have h4 : Hold _ (strsR zs x.said :: .blk p (pairC ⟨ze, zP, zs, zh, zf, zo⟩ ⟨ue, uP, us, uh, uf, uo⟩) 38 :: .blk pe [.int .i64 0, .int .i64 sa, .int .i64 si, .string tx0, .slice da sd.length dc] 48 :: _) := Hold.front (m := [_, _, _, _, _, _, _, _, _, _, _, _, _]) (l := l) h3 [1, 0, 12, 2, 3, 4, 5, 6, 7, 8, 9, 10, 11] 13 (by decide)
        obtain ⟨ha, hcap, hvf, -, -⟩ := h4.own0.1.sl.form
        subst hvf
        obtain ⟨hl, hhl⟩ : ∃ hl, hl = x.said := ⟨_, rfl⟩
        have HHL : Hid (hl.length ≤ 1099511627776) := hI (by rw [hhl]; exact HSD.out)
        have HLE : Hid (hl = x.said) := hI hhl
        rw [← hhl] at h4
        clear hhl
        have HR := hI h4.drew
        clear hc h3 h4 HCH
        go_wp2_with fail
        obtain ⟨wd, hwd⟩ : ∃ wd, wd = w2.drew := ⟨_, rfl⟩
        rw [← hwd] at HR
        have HPE : Hid (wd.cell? ⟨pe, 3, none⟩ = some (.string tx0)) := hI (HR.out.tail.tail.blk0.cell 3)
        have HCH : Hid (wd.cell? ⟨p, 4, none⟩ = some (.slice ha hl.length hcap)) := hI (HR.out.tail.blk0.cell 4)
        refine wp_region_held (S := fun W : World => W.cell? ⟨pe, 3, none⟩ = some (.string tx0)) (by kernel_rfl) ?_
        change wpAnyH _ _ _ _ _ _ _ _ (World.drew _)
        rw [← hwd]
        clear hwd
        refine tkH 0 32 none (.pointer (some ⟨p, 0, none⟩)) rfl (by kernel_rfl) (fun _ _ _ h => h) (by rfl) (by intro W hW; go_simp) HPE.out ?_
        simp only [Act.put, zq1, zq2, zq3]
        refine tkH 1 33 none (.int .i64 0) rfl (by kernel_rfl) (fun _ _ _ h => h) (by rfl) (by intro W hW; go_simp) HPE.out ?_
        simp only [Act.put, zq1, zq2, zq3]
        refine tkH 2 34 none (.pointer (some ⟨p, 0, none⟩)) rfl (by kernel_rfl) (fun _ _ _ h => h) (by rfl) (by intro W hW; go_simp) HPE.out ?_
        simp only [Act.put, zq1, zq2, zq3]
        refine tkH 3 35 none (.int .i64 0) rfl (by kernel_rfl) (fun _ _ _ h => h) (by rfl) (by intro W hW; go_simp) HPE.out ?_
        simp only [Act.put, zq1, zq2, zq3]
        refine tkH 4 36 none (.pointer (some ⟨p, 0, none⟩)) rfl (by kernel_rfl) (fun _ _ _ h => h) (by rfl) (by intro W hW; go_simp) HPE.out ?_
        simp only [Act.put, zq1, zq2, zq3]
        refine tkH 5 37 none (.pointer (some ⟨p, 4, none⟩)) rfl (by kernel_rfl) (fun _ _ _ h => h) (by rfl) (by intro W hW; go_simp) HPE.out ?_
        simp only [Act.put, zq1, zq2, zq3]
        refine tkH 6 38 none (.pointer (some ⟨p, 4, none⟩)) rfl (by kernel_rfl) (fun _ _ _ h => h) (by rfl) (by intro W hW; go_simp) HPE.out ?_
        simp only [Act.put, zq1, zq2, zq3]
        refine tkH 8 40 none (.pointer (some ⟨pe, 3, none⟩)) rfl (by kernel_rfl) (fun _ _ _ h => h) (by rfl) (by intro W hW; go_simp) HPE.out ?_
        simp only [Act.put, zq1, zq2, zq3]
        refine tkH 9 41 none (.string tx0) rfl (by kernel_rfl) (fun _ _ _ h => h) (by rfl) (by intro W hW; have hce : W.cell? ⟨pe, 3, none⟩ = some (.string tx0) := hW; go_simp) HPE.out ?_
        simp only [Act.put, zq1, zq2, zq3]
        refine tkH 12 44 none (.pointer (some ⟨p, 0, none⟩)) rfl (by kernel_rfl) (fun _ _ _ h => h) (by rfl) (by intro W hW; go_simp) HPE.out ?_
        simp only [Act.put, zq1, zq2, zq3]
        refine tkH 13 45 none (.pointer (some ⟨p, 4, none⟩)) rfl (by kernel_rfl) (fun _ _ _ h => h) (by rfl) (by intro W hW; go_simp) HPE.out ?_
        simp only [Act.put, zq1, zq2, zq3]
        refine anyH_ready (rs := [7, 10]) (by decide +kernel) (by simp) ?_
        refine AllReadyH.cons (o := { dst := some 39, op := .load 31 (.tmp 38), type := _, pos := _, after := _, guard := none }) rfl (fun K hK => ?_) (AllReadyH.cons (o := { dst := some 42, op := .buildSlice 31 1 #[(0, .tmp 41)], type := _, pos := _, after := _, guard := none }) rfl (fun K hK => ?_) AllReadyH.nil)
        · have hch := HCH.out
          go_simp
          clear hch
          refine hK _ _ HPE.out ?_
          clear hK K
          try simp only [Act.put, zq1, zq2, zq3]
          refine anyH_ready (rs := [10]) (by decide +kernel) (by simp) ?_
          refine AllReadyH.cons (o := { dst := some 42, op := .buildSlice 31 1 #[(0, .tmp 41)], type := _, pos := _, after := _, guard := none }) rfl (fun K hK => ?_) AllReadyH.nil
          go_simp
          have HA := hI (HR.out.alloc (.cells #[.string tx0] 9))
          have HSL : Hid (Sl (wd.alloc (.cells #[.string tx0] 9)) 1 (.slice (some ⟨wd.heap.size, 0, none⟩) 1 1) 1 [.string tx0]) := hI (Sl.lit rfl rfl (by simp [Value.oneCell']) (by unfold maxLen; decide))
          have HPE : Hid ((wd.alloc (.cells #[.string tx0] 9)).cell? ⟨pe, 3, none⟩ = some (.string tx0)) := hI (HA.out.tail.tail.blk0.cell 3)
          have HCH : Hid ((wd.alloc (.cells #[.string tx0] 9)).cell? ⟨p, 4, none⟩ = some (.slice ha hl.length hcap)) := hI (HA.out.tail.blk0.cell 4)
          refine hK _ _ HPE.out ?_
          clear hK K
          try simp only [Act.put, zq1, zq2, zq3]
          refine anyH_ready (rs := [11]) (by decide +kernel) (by simp) ?_
          refine AllReadyH.cons (o := { dst := some 43, op := .call { callee := .builtin .append, args := #[.tmp 39, .tmp 42], argTypes := #[31, 31] }, type := _, pos := _, after := _, guard := none }) rfl (fun K hK => ?_) AllReadyH.nil
          refine step_app2 rfl (.tmp 39) (.tmp 42) elStr rfl 0 (v := .slice ha hl.length hcap) (by simp [Act.eval]) HA.out.own0.1 HA.out.own0.2 (u := .slice (some ⟨wd.heap.size, 0, none⟩) 1 1) (by simp [Act.eval]) HSL.out (by have := HHL.out; unfold maxLen; omega) (by have := HHL.out; omega) (Nat.zero_le _) ?_
          intro v' w5 ho hkk hvv
          have hc5 := HA.out.append (B := 0) ho (hkk.mono fun k h => by simpa using h) (fun k h => by simpa using hvv k h)
          obtain ⟨va5, vc5, hvf5, _⟩ := ho.sl.form
          subst hvf5
          have HC5 := hI hc5
          have HPE : Hid (w5.cell? ⟨pe, 3, none⟩ = some (.string tx0)) := hI (HC5.out.tail.tail.blk0.cell 3)
          clear ho hkk hvv hc5
          refine hK _ _ HPE.out ?_
          clear hK K
          try simp only [Act.put, zq1, zq2, zq3]
          refine tkH 14 46 none (.pointer (some ⟨p, 4, none⟩)) rfl (by kernel_rfl) (fun _ _ _ h => h) (by rfl) (by intro W hW; go_simp) HPE.out ?_
          simp only [Act.put, zq1, zq2, zq3]
          refine anyH_ready (rs := [15]) (by decide +kernel) (by simp) ?_
          refine AllReadyH.cons (o := { dst := none, op := .store 31 (.tmp 46) (.tmp 43), type := _, pos := _, after := _, guard := none }) rfl (fun K hK => ?_) AllReadyH.nil
          have hch := HC5.out.tail.blk0.cell 4
          have hcf := HC5.out.tail.blk0.frozen 4
          simp only [pairC, List.getElem?_cons_zero, List.getElem?_cons_succ] at hch
          go_simp
          clear hch hcf
          have HC6 := hI (HC5.out.swap.set 4 (.slice va5 (hl.length + 1) vc5))
          have HPE : Hid ((w5.setCell ⟨p, 4, none⟩ (.slice va5 (hl.length + 1) vc5)).cell? ⟨pe, 3, none⟩ = some (.string tx0)) := hI (HC6.out.tail.tail.blk0.cell 3)
          refine hK _ _ HPE.out ?_
          clear hK K
          try simp only [Act.put, zq1, zq2, zq3]
          refine wpAnyH_done (by decide +kernel) ?_ _
          have h7 := Hold.front (m := [_, _, _, _, _, _, _, _, _, _, _, _, _]) (l := l) HC6.out.swap [1, 0, 3, 4, 5, 6, 7, 8, 9, 10, 11, 12, 2] 13 (by decide)
          have e7 : strsR (.slice va5 (hl.length + 1) vc5) (hl ++ [tx0]) = .own 9 1 (.slice va5 (hl.length + 1) vc5) (hl.length + 1) (hl.map strC ++ [.string tx0]) := by simp [strsR, strC]
          have h8 : Hold _ (restR p ⟨ze, zP, .slice va5 (hl.length + 1) vc5, zh, zf, zo⟩ ⟨ue, uP, us, uh, uf, uo⟩ ⟨x.app, hl ++ [tx0], x.hear, x.file, x.over⟩ y :: appR ze q zP (x.app.say (.chat tx0.data.toList)).app :: appR ue q uP y.app.app :: tabR q (.slice none 0 0) (.slice none 0 0) mp t :: .blk pe [.int .i64 0, .int .i64 sa, .int .i64 si, .string tx0, .slice da sd.length dc] 48 :: l) := restR_iff.2 (by rw [e7]; exact h7)
          have h9 := pairR_back (x := { x with said := hl ++ [tx0] }) (y := y) (E := x.app.say (.chat tx0.data.toList)) (G := y.app) (z := ⟨ze, zP, .slice va5 (hl.length + 1) vc5, zh, zf, zo⟩) (u := ⟨ue, uP, us, uh, uf, uo⟩) (P1 := zP) (P2 := uP) h8.push4
          have c3 := h9.tail.blk0.cell 3
          simp only [List.getElem?_cons_zero, List.getElem?_cons_succ] at c3
          have HC9 := hI h9.swap.tail
          clear h7 e7 h8 h9 HC6 HPE HCH HA HSL HR HC5
          go_wp2_with fail
          refine (HTH.out _).mono ?_
          rintro e w8 ⟨rfl, rfl⟩
          rw [HTB.out]
          go_wp2_with fail
          go_ret
          rw [← HLE.out]
          exact ⟨rfl, HC9.out⟩
        · go_simp
          have HA := hI (HR.out.alloc (.cells #[.string tx0] 9))
          have HSL : Hid (Sl (wd.alloc (.cells #[.string tx0] 9)) 1 (.slice (some ⟨wd.heap.size, 0, none⟩) 1 1) 1 [.string tx0]) := hI (Sl.lit rfl rfl (by simp [Value.oneCell']) (by unfold maxLen; decide))
          have HPE : Hid ((wd.alloc (.cells #[.string tx0] 9)).cell? ⟨pe, 3, none⟩ = some (.string tx0)) := hI (HA.out.tail.tail.blk0.cell 3)
          have HCH : Hid ((wd.alloc (.cells #[.string tx0] 9)).cell? ⟨p, 4, none⟩ = some (.slice ha hl.length hcap)) := hI (HA.out.tail.blk0.cell 4)
          refine hK _ _ HPE.out ?_
          clear hK K
          try simp only [Act.put, zq1, zq2, zq3]
          refine anyH_ready (rs := [7]) (by decide +kernel) (by simp) ?_
          refine AllReadyH.cons (o := { dst := some 39, op := .load 31 (.tmp 38), type := _, pos := _, after := _, guard := none }) rfl (fun K hK => ?_) AllReadyH.nil
          have hch := HCH.out
          go_simp
          clear hch
          refine hK _ _ HPE.out ?_
          clear hK K
          try simp only [Act.put, zq1, zq2, zq3]
          refine anyH_ready (rs := [11]) (by decide +kernel) (by simp) ?_
          refine AllReadyH.cons (o := { dst := some 43, op := .call { callee := .builtin .append, args := #[.tmp 39, .tmp 42], argTypes := #[31, 31] }, type := _, pos := _, after := _, guard := none }) rfl (fun K hK => ?_) AllReadyH.nil
          refine step_app2 rfl (.tmp 39) (.tmp 42) elStr rfl 0 (v := .slice ha hl.length hcap) (by simp [Act.eval]) HA.out.own0.1 HA.out.own0.2 (u := .slice (some ⟨wd.heap.size, 0, none⟩) 1 1) (by simp [Act.eval]) HSL.out (by have := HHL.out; unfold maxLen; omega) (by have := HHL.out; omega) (Nat.zero_le _) ?_
          intro v' w5 ho hkk hvv
          have hc5 := HA.out.append (B := 0) ho (hkk.mono fun k h => by simpa using h) (fun k h => by simpa using hvv k h)
          obtain ⟨va5, vc5, hvf5, _⟩ := ho.sl.form
          subst hvf5
          have HC5 := hI hc5
          have HPE : Hid (w5.cell? ⟨pe, 3, none⟩ = some (.string tx0)) := hI (HC5.out.tail.tail.blk0.cell 3)
          clear ho hkk hvv hc5
          refine hK _ _ HPE.out ?_
          clear hK K
          try simp only [Act.put, zq1, zq2, zq3]
          refine tkH 14 46 none (.pointer (some ⟨p, 4, none⟩)) rfl (by kernel_rfl) (fun _ _ _ h => h) (by rfl) (by intro W hW; go_simp) HPE.out ?_
          simp only [Act.put, zq1, zq2, zq3]
          refine anyH_ready (rs := [15]) (by decide +kernel) (by simp) ?_
          refine AllReadyH.cons (o := { dst := none, op := .store 31 (.tmp 46) (.tmp 43), type := _, pos := _, after := _, guard := none }) rfl (fun K hK => ?_) AllReadyH.nil
          have hch := HC5.out.tail.blk0.cell 4
          have hcf := HC5.out.tail.blk0.frozen 4
          simp only [pairC, List.getElem?_cons_zero, List.getElem?_cons_succ] at hch
          go_simp
          clear hch hcf
          have HC6 := hI (HC5.out.swap.set 4 (.slice va5 (hl.length + 1) vc5))
          have HPE : Hid ((w5.setCell ⟨p, 4, none⟩ (.slice va5 (hl.length + 1) vc5)).cell? ⟨pe, 3, none⟩ = some (.string tx0)) := hI (HC6.out.tail.tail.blk0.cell 3)
          refine hK _ _ HPE.out ?_
          clear hK K
          try simp only [Act.put, zq1, zq2, zq3]
          refine wpAnyH_done (by decide +kernel) ?_ _
          have h7 := Hold.front (m := [_, _, _, _, _, _, _, _, _, _, _, _, _]) (l := l) HC6.out.swap [1, 0, 3, 4, 5, 6, 7, 8, 9, 10, 11, 12, 2] 13 (by decide)
          have e7 : strsR (.slice va5 (hl.length + 1) vc5) (hl ++ [tx0]) = .own 9 1 (.slice va5 (hl.length + 1) vc5) (hl.length + 1) (hl.map strC ++ [.string tx0]) := by simp [strsR, strC]
          have h8 : Hold _ (restR p ⟨ze, zP, .slice va5 (hl.length + 1) vc5, zh, zf, zo⟩ ⟨ue, uP, us, uh, uf, uo⟩ ⟨x.app, hl ++ [tx0], x.hear, x.file, x.over⟩ y :: appR ze q zP (x.app.say (.chat tx0.data.toList)).app :: appR ue q uP y.app.app :: tabR q (.slice none 0 0) (.slice none 0 0) mp t :: .blk pe [.int .i64 0, .int .i64 sa, .int .i64 si, .string tx0, .slice da sd.length dc] 48 :: l) := restR_iff.2 (by rw [e7]; exact h7)
          have h9 := pairR_back (x := { x with said := hl ++ [tx0] }) (y := y) (E := x.app.say (.chat tx0.data.toList)) (G := y.app) (z := ⟨ze, zP, .slice va5 (hl.length + 1) vc5, zh, zf, zo⟩) (u := ⟨ue, uP, us, uh, uf, uo⟩) (P1 := zP) (P2 := uP) h8.push4
          have c3 := h9.tail.blk0.cell 3
          simp only [List.getElem?_cons_zero, List.getElem?_cons_succ] at c3
          have HC9 := hI h9.swap.tail
          clear h7 e7 h8 h9 HC6 HPE HCH HA HSL HR HC5
          go_wp2_with fail
          refine (HTH.out _).mono ?_
          rintro e w8 ⟨rfl, rfl⟩
          rw [HTB.out]
          go_wp2_with fail
          go_ret
          rw [← HLE.out]
          exact ⟨rfl, HC9.out⟩
  · have hk0' : (sk == 0) = false := by simpa using hk0
    by_cases hk1 : sk = 1
    · subst hk1
      have HE : Hid (stepS t x y ⟨1, sa, si, tx0, sd⟩ = ((offerS t x tx0 sd).1, (offerS t x tx0 sd).2, y)) := hI (by rw [stepS, if_neg (by simp), if_pos rfl])
      rw [HE.out]
      have HOF := hI (appOffer_any ze q zP (.slice none 0 0) (.slice none 0 0) mp t x.app.app tx0 (.slice da sd.length dc) sd _ _ HC.out.pull3.swap (fun W h => HROW.out W h.tail.tail.tail) (by have := HTX.out; omega) (hasV_idsNext HOK.out.both.a.okeys) (hasV_idsNext HOK.out.both.a.nkeys) (by have := HOK.out.bx.id; have := HNL.out; show x.app.id ≤ _; omega) (by have := HOK.out.bx.waits; have := HNL.out; simp [EndW.app]; omega) (by have := HOK.out.tl; have := HNL.out; omega) (by have := HOK.out.outs; have := HOK.out.bx.id; have := HNL.out; show x.app.outs.length ≤ _; omega) (by have := HOK.out.bx.names; have := HNL.out; show x.app.names.length ≤ _; omega))
      rw [offerW_eq] at HOF
      clear HCP
      have HRW := fun W => refRight_any tx0 W (by have := HTX.out; unfold maxLen; omega)
      have HRH := hI HRW
      clear HRW hk0 hk0'
      by_cases hR : rightB tx0 = false
      · have HW : Hid (offerW t x.app tx0 sd = (t, x.app, 0, 6)) := hI (by rw [offerW, if_pos hR])
        have HWS : Hid (offerS t x tx0 sd = (t, x)) := hI (by rw [offerS, HW.out]; rfl)
        rw [HW.out] at HOF
        rw [HWS.out]
        have HRB : Hid (rightB tx0 = false) := hI (by simpa using hR)
        clear hR
        go_enter Try.func13, Try.ntmps13
        go_wp2_with fail
        rw [← hpe]
        clear hpe
        refine HOF.out.mono ?_
        rintro e w2 ⟨rfl, P', hc⟩
        have c3 := hc.tail.tail.tail.tail.blk0.cell 3
        have c4 := hc.tail.tail.tail.tail.blk0.cell 4
        simp only [List.getElem?_cons_zero, List.getElem?_cons_succ] at c3 c4
        have HC2 := hI hc
        clear hc HOF
        go_wp2_with fail
        refine (HRH.out w2).mono ?_
        rintro e w3 ⟨rfl, rfl⟩
        rw [HRB.out]
        go_wp2_with fail
        go_ret
        exact ⟨rfl, (pairR_back (x := x) (y := y) (z := ⟨ze, zP, zs, zh, zf, zo⟩) (u := ⟨ue, uP, us, uh, uf, uo⟩) (P1 := P') (P2 := uP) (E := x.app) (G := y.app) HC2.out.swap.push3).swap.tail⟩
      · by_cases hG : 2048 < sd.length
        · have hGi : (2048 : Int) < sd.length := by omega
          have HW : Hid (offerW t x.app tx0 sd = (t, x.app, 0, 20)) := hI (by rw [offerW, if_neg hR, if_pos hG])
          have HWS : Hid (offerS t x tx0 sd = (t, x)) := hI (by rw [offerS, HW.out]; rfl)
          rw [HW.out] at HOF
          rw [HWS.out]
          have HRB : Hid (rightB tx0 = true) := hI (by simpa using hR)
          clear hR hG
          go_enter Try.func13, Try.ntmps13
          go_wp2_with fail
          rw [← hpe]
          clear hpe
          refine HOF.out.mono ?_
          rintro e w2 ⟨rfl, P', hc⟩
          have c3 := hc.tail.tail.tail.tail.blk0.cell 3
          have c4 := hc.tail.tail.tail.tail.blk0.cell 4
          simp only [List.getElem?_cons_zero, List.getElem?_cons_succ] at c3 c4
          have HC2 := hI hc
          clear hc HOF
          go_wp2_with fail
          refine (HRH.out w2).mono ?_
          rintro e w3 ⟨rfl, rfl⟩
          rw [HRB.out]
          go_wp2_with fail
          go_ret
          exact ⟨rfl, (pairR_back (x := x) (y := y) (z := ⟨ze, zP, zs, zh, zf, zo⟩) (u := ⟨ue, uP, us, uh, uf, uo⟩) (P1 := P') (P2 := uP) (E := x.app) (G := y.app) HC2.out.swap.push3).swap.tail⟩
        · have hGi : ¬ ((2048 : Int) < sd.length) := by omega
          by_cases hQ : liveN (x.app.outs.map fun x => x.2.st) = 4
          · have HW : Hid (offerW t x.app tx0 sd = (t, x.app, 0, 19)) := hI (by rw [offerW, if_neg hR, if_neg hG, if_pos hQ])
            have HWS : Hid (offerS t x tx0 sd = (t, x)) := hI (by rw [offerS, HW.out]; rfl)
            rw [HW.out] at HOF
            rw [HWS.out]
            have HRB : Hid (rightB tx0 = true) := hI (by simpa using hR)
            clear hR hG hQ
            go_enter Try.func13, Try.ntmps13
            go_wp2_with fail
            rw [← hpe]
            clear hpe
            refine HOF.out.mono ?_
            rintro e w2 ⟨rfl, P', hc⟩
            have c3 := hc.tail.tail.tail.tail.blk0.cell 3
            have c4 := hc.tail.tail.tail.tail.blk0.cell 4
            simp only [List.getElem?_cons_zero, List.getElem?_cons_succ] at c3 c4
            have HC2 := hI hc
            clear hc HOF
            go_wp2_with fail
            refine (HRH.out w2).mono ?_
            rintro e w3 ⟨rfl, rfl⟩
            rw [HRB.out]
            go_wp2_with fail
            go_ret
            exact ⟨rfl, (pairR_back (x := x) (y := y) (z := ⟨ze, zP, zs, zh, zf, zo⟩) (u := ⟨ue, uP, us, uh, uf, uo⟩) (P1 := P') (P2 := uP) (E := x.app) (G := y.app) HC2.out.swap.push3).swap.tail⟩
          · by_cases hF : 16 ≤ x.app.waits.length
            · have HW : Hid (offerW t x.app tx0 sd = (t, x.app, 0, 8)) := hI (by rw [offerW, if_neg hR, if_neg hG, if_neg hQ, if_pos hF])
              have HWS : Hid (offerS t x tx0 sd = (t, x)) := hI (by rw [offerS, HW.out]; rfl)
              rw [HW.out] at HOF
              rw [HWS.out]
              have HRB : Hid (rightB tx0 = true) := hI (by simpa using hR)
              clear hR hG hQ hF
              go_enter Try.func13, Try.ntmps13
              go_wp2_with fail
              rw [← hpe]
              clear hpe
              refine HOF.out.mono ?_
              rintro e w2 ⟨rfl, P', hc⟩
              have c3 := hc.tail.tail.tail.tail.blk0.cell 3
              have c4 := hc.tail.tail.tail.tail.blk0.cell 4
              simp only [List.getElem?_cons_zero, List.getElem?_cons_succ] at c3 c4
              have HC2 := hI hc
              clear hc HOF
              go_wp2_with fail
              refine (HRH.out w2).mono ?_
              rintro e w3 ⟨rfl, rfl⟩
              rw [HRB.out]
              go_wp2_with fail
              go_ret
              exact ⟨rfl, (pairR_back (x := x) (y := y) (z := ⟨ze, zP, zs, zh, zf, zo⟩) (u := ⟨ue, uP, us, uh, uf, uo⟩) (P1 := P') (P2 := uP) (E := x.app) (G := y.app) HC2.out.swap.push3).swap.tail⟩
            · obtain ⟨m, hm⟩ : ∃ m : Nat, m = x.app.id + 1 := ⟨_, rfl⟩
              obtain ⟨A9, hA9⟩ : ∃ A9 : EndW, A9 = ⟨x.app.id + 1, x.app.outs ++ [(((x.app.id + 1 : Nat) : Int), (⟨0, sd, 0, 0⟩ : OutF))], x.app.ins, x.app.names ++ [(((x.app.id + 1 : Nat) : Int), tx0)], x.app.waits ++ [.offer (x.app.id + 1) tx0.data.toList sd.length (digM t sd)], x.app.log⟩ := ⟨_, rfl⟩
              have HW : Hid (offerW t x.app tx0 sd = (digT t sd, A9, (m : Int), 0)) := hI (by rw [offerW, if_neg hR, if_neg hG, if_neg hQ, if_neg hF, hA9, hm])
              have HWS : Hid (offerS t x tx0 sd = (digT t sd, ⟨A9, x.said, x.hear, putV x.file (m : Int) sd, x.over⟩)) := hI (by rw [offerS, HW.out]; rfl)
              rw [HW.out] at HOF
              rw [HWS.out]
              have HRB : Hid (rightB tx0 = true) := hI (by simpa using hR)
              have hmn : m ≤ 1000001 := by have := HOK.out.bx.id; have := HNL.out; omega
              have HKM := hI (kI_key (n := (m : Int)) (by omega))
              have HFN : Hid (hasV x.file (m : Int) = false) := hI (by rw [hm]; exact hasV_idsNext HOK.out.both.a.fkeys)
              have hflen : x.file.length + 1 = m := by
                have := congrArg List.length HOK.out.both.a.fkeys
                simp [idKeys] at this
                omega
              have HFM : Hid ((putV x.file (m : Int) sd).length = m) := hI (by rw [putV_hasnt HFN.out]; simp; omega)
              have HML := hI hflen
              clear hR hG hQ hF hm hA9 hflen
              go_enter Try.func13, Try.ntmps13
              go_wp2_with fail
              rw [← hpe]
              clear hpe
              refine HOF.out.mono ?_
              rintro e w2 ⟨rfl, P', hc⟩
              have h3 := restR_iff.1 hc.pull4
              have h4 : Hold _ (filesR zf x.file :: .blk p (pairC ⟨ze, zP, zs, zh, zf, zo⟩ ⟨ue, uP, us, uh, uf, uo⟩) 38 :: .blk pe [.int .i64 1, .int .i64 sa, .int .i64 si, .string tx0, .slice da sd.length dc] 48 :: _) := Hold.front (m := [_, _, _, _, _, _, _, _, _, _, _, _, _]) (l := l) h3 [3, 0, 12, 1, 2, 4, 5, 6, 7, 8, 9, 10, 11] 13 (by decide)
              obtain ⟨fvs, h5⟩ := Hold.ex.1 h4
              have h6 := Hold.app.1 h5
              have hfl : fvs.length = x.file.length := by simpa using sumsR_len h6.tail
              have HFL := hI hfl
              have HFLN : Hid ((rowM fvs x.file).length < maxLen) := hI (by
                have h1 : ∀ (vs : List Value) (L : List (Int × List UInt8)), (rowM vs L).length ≤ L.length := rowM_len
                have h2 := h1 fvs x.file
                have := HML.out
                unfold maxLen
                omega)
              have HR := hI h6.drew
              clear hc h3 h4 h5 h6 hfl HOF
              go_wp2_with fail
              obtain ⟨wd, hwd⟩ : ∃ wd, wd = w2.drew := ⟨_, rfl⟩
              rw [← hwd] at HR
              have HS : Hid (wd.cell? ⟨p, 8, none⟩ = some (.map (some zf)) ∧ wd.cell? ⟨pe, 4, none⟩ = some (.slice da sd.length dc)) := hI ⟨HR.out.tail.tail.blk0.cell 8, HR.out.tail.tail.tail.blk0.cell 4⟩
              refine wp_region_held (S := fun W : World => W.cell? ⟨p, 8, none⟩ = some (.map (some zf)) ∧ W.cell? ⟨pe, 4, none⟩ = some (.slice da sd.length dc)) (by kernel_rfl) ?_
              change wpAnyH _ _ _ _ _ _ _ _ (World.drew _)
              rw [← hwd]
              clear hwd
              refine tkH 0 72 none (.pointer (some ⟨p, 0, none⟩)) rfl (by kernel_rfl) (fun _ _ _ h => h) (by rfl) (by intro W hW; go_simp) HS.out ?_
              simp only [Act.put, zq1, zq2, zq3]
              refine tkH 1 73 none (.int .i64 0) rfl (by kernel_rfl) (fun _ _ _ h => h) (by rfl) (by intro W hW; go_simp) HS.out ?_
              simp only [Act.put, zq1, zq2, zq3]
              refine tkH 2 74 none (.pointer (some ⟨p, 0, none⟩)) rfl (by kernel_rfl) (fun _ _ _ h => h) (by rfl) (by intro W hW; go_simp) HS.out ?_
              simp only [Act.put, zq1, zq2, zq3]
              refine tkH 3 75 none (.pointer (some ⟨p, 8, none⟩)) rfl (by kernel_rfl) (fun _ _ _ h => h) (by rfl) (by intro W hW; go_simp) HS.out ?_
              simp only [Act.put, zq1, zq2, zq3]
              refine tkH 4 76 none (.pointer (some ⟨p, 8, none⟩)) rfl (by kernel_rfl) (fun _ _ _ h => h) (by rfl) (by intro W hW; go_simp) HS.out ?_
              simp only [Act.put, zq1, zq2, zq3]
              refine tkH 5 77 none (.map (some zf)) rfl (by kernel_rfl) (fun _ _ _ h => h) (by rfl) (by intro W hW; have hce : W.cell? ⟨p, 8, none⟩ = some (.map (some zf)) := hW.1; go_simp) HS.out ?_
              simp only [Act.put, zq1, zq2, zq3]
              refine tkH 6 78 none (.int .i64 m) rfl (by kernel_rfl) (fun _ _ _ h => h) (by rfl) (by intro W hW; go_simp) HS.out ?_
              simp only [Act.put, zq1, zq2, zq3]
              refine tkH 8 80 none (.pointer (some ⟨pe, 4, none⟩)) rfl (by kernel_rfl) (fun _ _ _ h => h) (by rfl) (by intro W hW; go_simp) HS.out ?_
              simp only [Act.put, zq1, zq2, zq3]
              refine tkH 9 81 none (.slice da sd.length dc) rfl (by kernel_rfl) (fun _ _ _ h => h) (by rfl) (by intro W hW; have hce : W.cell? ⟨pe, 4, none⟩ = some (.slice da sd.length dc) := hW.2; go_simp) HS.out ?_
              simp only [Act.put, zq1, zq2, zq3]
              refine anyH_ready (rs := [7]) (by decide +kernel) (by simp) ?_
              refine AllReadyH.cons (o := { dst := some 79, op := .buildSlice 40 0 #[], type := _, pos := _, after := _, guard := none }) rfl (fun K hK => ?_) AllReadyH.nil
              go_simp
              have HA := hI (HR.out.addEmpty 5 1 (b := wd.heap.size) rfl)
              have HS : Hid ((wd.alloc (.cells #[] 5)).cell? ⟨p, 8, none⟩ = some (.map (some zf)) ∧ (wd.alloc (.cells #[] 5)).cell? ⟨pe, 4, none⟩ = some (.slice da sd.length dc)) := hI ⟨HA.out.tail.tail.tail.blk0.cell 8, HA.out.tail.tail.tail.tail.blk0.cell 4⟩
              refine hK _ _ HS.out ?_
              clear hK K
              try simp only [Act.put, zq1, zq2, zq3]
              refine anyH_ready (rs := [10]) (by decide +kernel) (by simp) ?_
              refine AllReadyH.cons (o := { dst := some 82, op := .call { callee := .builtin .append, args := #[.tmp 79, .tmp 81], argTypes := #[40, 40] }, type := _, pos := _, after := _, guard := none }) rfl (fun K hK => ?_) AllReadyH.nil
              refine step_app2 rfl (.tmp 79) (.tmp 81) elBytes rfl 0 (v := .slice (some ⟨wd.heap.size, 0, none⟩) 0 0) (by simp [Act.eval]) HA.out.own0.1 HA.out.own0.2 (u := .slice da sd.length dc) (by simp [Act.eval]) (HROW.out _ HA.out.tail.tail.tail.tail.tail.tail.tail.tail.tail.tail.tail.tail.tail.tail.tail) (by have := HDL.out; unfold maxLen; omega) (by have := HDL.out; omega) (Nat.zero_le _) ?_
              intro v' w5 ho hkk hvv
              have hc5 := HA.out.append (B := 0) ho (hkk.mono fun k h => by simpa using h) (fun k h => by simpa using hvv k h)
              rw [Nat.zero_add, List.nil_append] at hc5
              have HC5 := hI (Hold.ownRow (b := sd) hc5)
              have HS : Hid (w5.cell? ⟨p, 8, none⟩ = some (.map (some zf)) ∧ w5.cell? ⟨pe, 4, none⟩ = some (.slice da sd.length dc)) := hI ⟨HC5.out.tail.tail.tail.blk0.cell 8, HC5.out.tail.tail.tail.tail.blk0.cell 4⟩
              have HM5 := hI (HC5.out.tail.mapVOf (b := zf) (M := rowM fvs x.file) List.mem_cons_self)
              clear ho hkk hvv hc5
              refine hK _ _ HS.out ?_
              clear hK K
              try simp only [Act.put, zq1, zq2, zq3]
              refine anyH_ready (rs := [11]) (by decide +kernel) (by simp) ?_
              refine AllReadyH.cons (o := { dst := none, op := .mapUpdate 33 (.tmp 77) (.tmp 78) (.tmp 82), type := _, pos := _, after := _, guard := none }) rfl (fun K hK => ?_) AllReadyH.nil
              refine step_updateV rfl (.tmp 77) (.tmp 78) (.tmp 82) rfl 2 40 intK kI_inj Try.underlying33 zf _ (by rfl) HM5.out HFLN.out (m : Int) (by exact HKM.out) ?_
              intro w9 hm9 hk9 hz9
              have HC9 := hI (filesR_put HC5.out.push3 HFL.out HFN.out hm9 hk9)
              have HS : Hid (w9.cell? ⟨p, 8, none⟩ = some (.map (some zf)) ∧ w9.cell? ⟨pe, 4, none⟩ = some (.slice da sd.length dc)) := hI ⟨HC9.out.tail.blk0.cell 8, HC9.out.tail.tail.blk0.cell 4⟩
              clear hm9 hk9 hz9
              refine hK _ _ HS.out ?_
              clear hK K
              try simp only [Act.put, zq1, zq2, zq3]
              refine wpAnyH_done (by decide +kernel) ?_ _
              have h7 := Hold.front (m := [_, _, _, _, _, _, _, _, _, _, _, _, _]) (l := l) HC9.out [1, 3, 4, 0, 5, 6, 7, 8, 9, 10, 11, 12, 2] 13 (by decide)
              have h8 : Hold _ (restR p ⟨ze, zP, zs, zh, zf, zo⟩ ⟨ue, uP, us, uh, uf, uo⟩ ⟨x.app, x.said, x.hear, putV x.file (m : Int) sd, x.over⟩ y :: appR ze q P' A9.app :: tabR q (.slice none 0 0) (.slice none 0 0) mp (digT t sd) :: appR ue q uP y.app.app :: .blk pe [.int .i64 1, .int .i64 sa, .int .i64 si, .string tx0, .slice da sd.length dc] 48 :: l) := restR_iff.2 h7
              have h9 := pairR_back (x := { x with file := putV x.file (m : Int) sd }) (y := y) (E := A9) (G := y.app) (z := ⟨ze, zP, zs, zh, zf, zo⟩) (u := ⟨ue, uP, us, uh, uf, uo⟩) (P1 := P') (P2 := uP) h8.push4.swap.push3
              have c3 := h9.tail.blk0.cell 3
              have c4 := h9.tail.blk0.cell 4
              have cf := HS.out.1
              simp only [List.getElem?_cons_zero, List.getElem?_cons_succ] at c3 c4
              obtain ⟨fv9, h10⟩ := Hold.ex.1 HC9.out
              have h11 := Hold.app.1 h10
              have HMF9 := hI (h11.mapVOf (b := zf) (M := rowM fv9 (putV x.file (m : Int) sd)) List.mem_cons_self)
              have HML9 : Hid ((rowM fv9 (putV x.file (m : Int) sd)).length = m) := hI (by
                have hl9 : fv9.length = (putV x.file (m : Int) sd).length := by simpa using sumsR_len h11.tail
                rw [rowM_lenE hl9]
                exact HFM.out)
              have HC10 := hI h9.swap.tail
              clear h7 h8 h9 h10 h11 HC9 HS HC5 HA HR HM5
              go_wp2_with fail
              refine (HRH.out _).mono ?_
              rintro e w8 ⟨rfl, rfl⟩
              rw [HRB.out]
              go_wp2_with ((with_reducible show wpList _ _ _ (⟨some 107, _, _, _, _, _⟩ :: _) _ _); refine wpList_lenV _ rfl _ _ rfl 2 40 Try.underlying33 zf _ rfl HMF9.out ?_; rw [HML9.out])
              go_ret
              exact ⟨rfl, HC10.out⟩
    · have hk1' : (sk == 1) = false := by simpa using hk1
      by_cases hk23 : sk = 2 ∨ sk = 3
      · have hyes : (sk == 2) = decide (sk = 2) := by rfl
        have HA := hI (appAnswer_any ze q zP (.slice none 0 0) (.slice none 0 0) mp t x.app.app si (decide (sk = 2)) _ _ (HC.out.pull3.swap) H64.out (fun hk => ⟨by have := HOK.out.both.b.ikeys si hk; omega, by have := HOK.out.both.b.ikeys si hk; have := HOK.out.bY.id; have := HNL.out; omega, HOK.out.inOk hk⟩) (by have := HOK.out.bx.waits; have := HNL.out; simp [EndW.app]; omega) (by have := HOK.out.bx.log; have := HNL.out; show x.app.log.length ≤ _; omega) (by have := HOK.out.tl; have := HNL.out; omega))
        rw [answerW_eq] at HA
        have HE : Hid (stepS t x y ⟨sk, sa, si, tx0, sd⟩ = ((answerS t x si (decide (sk = 2))).1, (answerS t x si (decide (sk = 2))).2, y)) := hI (by rw [stepS, if_neg hk0, if_neg hk1, if_pos hk23])
        rw [HE.out]
        rcases hk23 with rfl | rfl
        all_goals
          clear hk0 hk1 hyes HCP
          go_enter Try.func13, Try.ntmps13
          go_wp2_with fail
          refine HA.out.mono ?_
          rintro e w2 ⟨rfl, hc⟩
          have HC2 := hI hc
          clear hc HA
          go_wp2_with fail
          go_ret
          exact ⟨rfl, (pairR_back (x := x) (y := y) (z := ⟨ze, zP, zs, zh, zf, zo⟩) (u := ⟨ue, uP, us, uh, uf, uo⟩) HC2.out.swap.push3).swap.tail⟩
      · by_cases hk45 : sk = 4 ∨ sk = 5
        · have HA := hI (appCancel_any ze q zP x.app.app si (decide (sk = 5)) _ _ HC.out H64.out (fun hk => by
            rcases hk with hk | hk
            · have := HOK.out.both.b.ikeys si hk; have := HOK.out.bY.id; have := HNL.out; omega
            · have := (hasV_ids HOK.out.both.a.okeys si).1 hk; have := HOK.out.bx.id; have := HNL.out; omega) (by have := HOK.out.bx.waits; have := HNL.out; simp [EndW.app]; omega) (by have := HOK.out.bx.log; have := HNL.out; show x.app.log.length ≤ _; omega))
          rw [cancelW_eq] at HA
          have HE : Hid (stepS t x y ⟨sk, sa, si, tx0, sd⟩ = (t, cancelS x si (decide (sk = 5)), y)) := hI (by rw [stepS, if_neg hk0, if_neg hk1, if_neg hk23, if_pos hk45])
          rw [HE.out]
          rcases hk45 with rfl | rfl
          all_goals
            clear hk0 hk1 hk23 HCP
            go_enter Try.func13, Try.ntmps13
            go_wp2_with fail
            refine HA.out.mono ?_
            rintro e w2 ⟨rfl, hc⟩
            have HC2 := hI hc
            clear hc HA
            go_wp2_with fail
            go_ret
            exact ⟨rfl, (pairR_back (x := x) (y := y) (z := ⟨ze, zP, zs, zh, zf, zo⟩) (u := ⟨ue, uP, us, uh, uf, uo⟩) HC2.out).swap.tail⟩
        · have hk2' : (sk == 2) = false := by simp; omega
          have hk3' : (sk == 3) = false := by simp; omega
          have hk4' : (sk == 4) = false := by simp; omega
          have hk5' : (sk == 5) = false := by simp; omega
          have HE : Hid (stepS t x y ⟨sk, sa, si, tx0, sd⟩ = ((moveW t x y).1, (moveW t x y).2.1, (moveW t x y).2.2.1)) := hI (by rw [stepS, if_neg hk0, if_neg hk1, if_neg hk23, if_neg hk45])
          rw [HE.out]
          have HM := hI (move0_any p q mp t x y _ _ HCP.out (HOK.out.mv HNL.out))
          clear hk0 hk1 hk23 hk45 HCP
          go_enter Try.func13, Try.ntmps13
          go_wp2_with fail
          refine HM.out.mono ?_
          rintro e w2 ⟨rfl, hc⟩
          have HC2 := hI hc
          clear hc HM
          go_wp2_with fail
          go_ret
          exact ⟨rfl, HC2.out.swap.tail⟩
set_option maxRecDepth 100000 in
set_option maxHeartbeats 16000000 in
theorem step1_any (p q : Nat) (mp : Value) (t : Sums) (x y : SideF) (n pp : Nat) (s : StF) (dv : Value) (l : List Res) (w : World) (h : Hold w (pairR p q mp t y x :: l)) (hok : Ok n pp t x y) (hn : n ≤ 1000000) (hi : s.at_ % 2 = 1) (htx : s.text.size ≤ 400) (hdl : s.data.length ≤ 2100) (h64 : -9223372036854775808 ≤ s.id ∧ s.id ≤ 9223372036854775807)
    (hrow : ∀ W, Hold W l → Bs W dv s.data) (hsd : x.said.length ≤ 1099511627776) :
    Calls Try.prog 13 #[.pointer (some ⟨p, 0, none⟩), .agg #[.int .i64 s.kind, .int .i64 s.at_, .int .i64 s.id, .string s.text, dv]] w fun e w' => e = .returned (.bool true) ∧ Hold w' (pairR p q mp (stepS t x y s).1 (stepS t x y s).2.2 (stepS t x y s).2.1 :: l) := by
  obtain ⟨da, dc, rfl, hdc, hdm⟩ := (hrow w h.tail).form
  obtain ⟨sk, sa, si, tx0, sd⟩ := s
  simp only at hi htx hdl h64 hrow hdc ⊢
  have hat : bits .and .i64 sa 1 = 1 := by rw [i64_and1]; exact hi
  have HROW := hI hrow
  have h1 := h.addBlk [.int .i64 sk, .int .i64 sa, .int .i64 si, .string tx0, .slice da sd.length dc] 48
  obtain ⟨pe, hpe⟩ : ∃ pe, pe = w.heap.size := ⟨_, rfl⟩
  rw [← hpe] at h1
  have HCP := hI h1.swap
  obtain ⟨z, u, h2⟩ := pairR_twoS h1.swap
  obtain ⟨ze, zP, zs, zh, zf, zo⟩ := z
  obtain ⟨ue, uP, us, uh, uf, uo⟩ := u
  have hb := restR_blk (p := p) (z := ⟨ue, uP, us, uh, uf, uo⟩) (u := ⟨ze, zP, zs, zh, zf, zo⟩) (x := y) (y := x) h2 (by simp)
  have c0 : (w.alloc (.cells #[.int .i64 sk, .int .i64 sa, .int .i64 si, .string tx0, .slice da sd.length dc] 48)).cell? ⟨p, 1, none⟩ = some (.pointer (some ⟨ze, 0, none⟩)) := hb.cell 1
  have HC := hI h2
  have HOK := hI hok
  have HNL := hI hn
  have HSD := hI hsd
  have HTX := hI htx
  have HDL := hI hdl
  have H64 := hI h64
  unfold maxLen at hdm
  clear h h1 h2 hb hok hn hsd hrow hi h64
  by_cases hk0 : sk = 0
  · subst hk0
    have HE : Hid (stepS t x y ⟨0, sa, si, tx0, sd⟩ = (t, chatS x tx0, y)) := hI (by rw [stepS, if_pos rfl])
    rw [HE.out]
    have HCH := hI (appChat_any ze q zP x.app.app tx0 _ _ HC.out (by have := HTX.out; omega) (by have := HOK.out.bx.waits; have := HNL.out; simp [EndW.app]; omega))
    rw [chatW_eq] at HCH
    clear HCP
    have HTW := fun W => refText_any tx0 200 W (by have := HTX.out; unfold maxLen; omega)
    have HTH := hI HTW
    clear HTW
    by_cases hT : textB tx0 200 = false
    · have HW : Hid (chatW x.app tx0 = (x.app, 4)) := hI (by rw [chatW, if_pos hT])
      have HWS : Hid (chatS x tx0 = x) := hI (by rw [chatS, HW.out]; rfl)
      rw [HW.out] at HCH
      rw [HWS.out]
      have HTB : Hid (textB tx0 200 = false) := hI (by simpa using hT)
      clear hT
      go_enter Try.func13, Try.ntmps13
      go_wp2_with fail
      rw [← hpe]
      clear hpe
      refine HCH.out.mono ?_
      rintro e w2 ⟨rfl, hc⟩
      have c3 := hc.tail.tail.tail.tail.blk0.cell 3
      simp only [List.getElem?_cons_zero, List.getElem?_cons_succ] at c3
      have HC2 := hI hc
      clear hc HCH
      go_wp2_with fail
      refine (HTH.out w2).mono ?_
      rintro e w3 ⟨rfl, rfl⟩
      rw [HTB.out]
      go_wp2_with fail
      go_ret
      exact ⟨rfl, (pairR_backS (x := x) (y := y) (z := ⟨ze, zP, zs, zh, zf, zo⟩) (u := ⟨ue, uP, us, uh, uf, uo⟩) (P1 := zP) (P2 := uP) (E := x.app) (G := y.app) HC2.out).swap.tail⟩
    · by_cases hF : 16 ≤ x.app.waits.length
      · have HW : Hid (chatW x.app tx0 = (x.app, 8)) := hI (by rw [chatW, if_neg hT, if_pos hF])
        have HWS : Hid (chatS x tx0 = x) := hI (by rw [chatS, HW.out]; rfl)
        rw [HW.out] at HCH
        rw [HWS.out]
        have HTB : Hid (textB tx0 200 = true) := hI (by simpa using hT)
        clear hT hF
        go_enter Try.func13, Try.ntmps13
        go_wp2_with fail
        rw [← hpe]
        clear hpe
        refine HCH.out.mono ?_
        rintro e w2 ⟨rfl, hc⟩
        have c3 := hc.tail.tail.tail.tail.blk0.cell 3
        simp only [List.getElem?_cons_zero, List.getElem?_cons_succ] at c3
        have HC2 := hI hc
        clear hc HCH
        go_wp2_with fail
        refine (HTH.out w2).mono ?_
        rintro e w3 ⟨rfl, rfl⟩
        rw [HTB.out]
        go_wp2_with fail
        go_ret
        exact ⟨rfl, (pairR_backS (x := x) (y := y) (z := ⟨ze, zP, zs, zh, zf, zo⟩) (u := ⟨ue, uP, us, uh, uf, uo⟩) (P1 := zP) (P2 := uP) (E := x.app) (G := y.app) HC2.out).swap.tail⟩
      · have HW : Hid (chatW x.app tx0 = (x.app.say (.chat tx0.data.toList), 0)) := hI (by rw [chatW, if_neg hT, if_neg hF])
        have HWS : Hid (chatS x tx0 = ⟨x.app.say (.chat tx0.data.toList), x.said ++ [tx0], x.hear, x.file, x.over⟩) := hI (by rw [chatS, HW.out]; rfl)
        rw [HW.out] at HCH
        rw [HWS.out]
        have HTB : Hid (textB tx0 200 = true) := hI (by simpa using hT)
        clear hT hF
        go_enter Try.func13, Try.ntmps13
        go_wp2_with fail
        rw [← hpe]
        clear hpe
        refine HCH.out.mono ?_
        rintro e w2 ⟨rfl, hc⟩
        have h3 := restR_iff.1 hc.pull4
        have h4 : Hold _ (strsR zs x.said :: .blk p (pairC ⟨ue, uP, us, uh, uf, uo⟩ ⟨ze, zP, zs, zh, zf, zo⟩) 38 :: .blk pe [.int .i64 0, .int .i64 sa, .int .i64 si, .string tx0, .slice da sd.length dc] 48 :: _) := Hold.front (m := [_, _, _, _, _, _, _, _, _, _, _, _, _]) (l := l) h3 [5, 0, 12, 1, 2, 3, 4, 6, 7, 8, 9, 10, 11] 13 (by decide)
        obtain ⟨ha, hcap, hvf, -, -⟩ := h4.own0.1.sl.form
        subst hvf
        obtain ⟨hl, hhl⟩ : ∃ hl, hl = x.said := ⟨_, rfl⟩
        have HHL : Hid (hl.length ≤ 1099511627776) := hI (by rw [hhl]; exact HSD.out)
        have HLE : Hid (hl = x.said) := hI hhl
        rw [← hhl] at h4
        clear hhl
        have HR := hI h4.drew
        clear hc h3 h4 HCH
        go_wp2_with fail
        obtain ⟨wd, hwd⟩ : ∃ wd, wd = w2.drew := ⟨_, rfl⟩
        rw [← hwd] at HR
        have HPE : Hid (wd.cell? ⟨pe, 3, none⟩ = some (.string tx0)) := hI (HR.out.tail.tail.blk0.cell 3)
        have HCH : Hid (wd.cell? ⟨p, 5, none⟩ = some (.slice ha hl.length hcap)) := hI (HR.out.tail.blk0.cell 5)
        refine wp_region_held (S := fun W : World => W.cell? ⟨pe, 3, none⟩ = some (.string tx0)) (by kernel_rfl) ?_
        change wpAnyH _ _ _ _ _ _ _ _ (World.drew _)
        rw [← hwd]
        clear hwd
        refine tkH 0 32 none (.pointer (some ⟨p, 0, none⟩)) rfl (by kernel_rfl) (fun _ _ _ h => h) (by rfl) (by intro W hW; go_simp) HPE.out ?_
        simp only [Act.put, zq1, zq2, zq3]
        refine tkH 1 33 none (.int .i64 1) rfl (by kernel_rfl) (fun _ _ _ h => h) (by rfl) (by intro W hW; go_simp) HPE.out ?_
        simp only [Act.put, zq1, zq2, zq3]
        refine tkH 2 34 none (.pointer (some ⟨p, 0, none⟩)) rfl (by kernel_rfl) (fun _ _ _ h => h) (by rfl) (by intro W hW; go_simp) HPE.out ?_
        simp only [Act.put, zq1, zq2, zq3]
        refine tkH 3 35 none (.int .i64 1) rfl (by kernel_rfl) (fun _ _ _ h => h) (by rfl) (by intro W hW; go_simp) HPE.out ?_
        simp only [Act.put, zq1, zq2, zq3]
        refine tkH 4 36 none (.pointer (some ⟨p, 0, none⟩)) rfl (by kernel_rfl) (fun _ _ _ h => h) (by rfl) (by intro W hW; go_simp) HPE.out ?_
        simp only [Act.put, zq1, zq2, zq3]
        refine tkH 5 37 none (.pointer (some ⟨p, 4, none⟩)) rfl (by kernel_rfl) (fun _ _ _ h => h) (by rfl) (by intro W hW; go_simp) HPE.out ?_
        simp only [Act.put, zq1, zq2, zq3]
        refine tkH 6 38 none (.pointer (some ⟨p, 5, none⟩)) rfl (by kernel_rfl) (fun _ _ _ h => h) (by rfl) (by intro W hW; go_simp) HPE.out ?_
        simp only [Act.put, zq1, zq2, zq3]
        refine tkH 8 40 none (.pointer (some ⟨pe, 3, none⟩)) rfl (by kernel_rfl) (fun _ _ _ h => h) (by rfl) (by intro W hW; go_simp) HPE.out ?_
        simp only [Act.put, zq1, zq2, zq3]
        refine tkH 9 41 none (.string tx0) rfl (by kernel_rfl) (fun _ _ _ h => h) (by rfl) (by intro W hW; have hce : W.cell? ⟨pe, 3, none⟩ = some (.string tx0) := hW; go_simp) HPE.out ?_
        simp only [Act.put, zq1, zq2, zq3]
        refine tkH 12 44 none (.pointer (some ⟨p, 0, none⟩)) rfl (by kernel_rfl) (fun _ _ _ h => h) (by rfl) (by intro W hW; go_simp) HPE.out ?_
        simp only [Act.put, zq1, zq2, zq3]
        refine tkH 13 45 none (.pointer (some ⟨p, 4, none⟩)) rfl (by kernel_rfl) (fun _ _ _ h => h) (by rfl) (by intro W hW; go_simp) HPE.out ?_
        simp only [Act.put, zq1, zq2, zq3]
        refine anyH_ready (rs := [7, 10]) (by decide +kernel) (by simp) ?_
        refine AllReadyH.cons (o := { dst := some 39, op := .load 31 (.tmp 38), type := _, pos := _, after := _, guard := none }) rfl (fun K hK => ?_) (AllReadyH.cons (o := { dst := some 42, op := .buildSlice 31 1 #[(0, .tmp 41)], type := _, pos := _, after := _, guard := none }) rfl (fun K hK => ?_) AllReadyH.nil)
        · have hch := HCH.out
          go_simp
          clear hch
          refine hK _ _ HPE.out ?_
          clear hK K
          try simp only [Act.put, zq1, zq2, zq3]
          refine anyH_ready (rs := [10]) (by decide +kernel) (by simp) ?_
          refine AllReadyH.cons (o := { dst := some 42, op := .buildSlice 31 1 #[(0, .tmp 41)], type := _, pos := _, after := _, guard := none }) rfl (fun K hK => ?_) AllReadyH.nil
          go_simp
          have HA := hI (HR.out.alloc (.cells #[.string tx0] 9))
          have HSL : Hid (Sl (wd.alloc (.cells #[.string tx0] 9)) 1 (.slice (some ⟨wd.heap.size, 0, none⟩) 1 1) 1 [.string tx0]) := hI (Sl.lit rfl rfl (by simp [Value.oneCell']) (by unfold maxLen; decide))
          have HPE : Hid ((wd.alloc (.cells #[.string tx0] 9)).cell? ⟨pe, 3, none⟩ = some (.string tx0)) := hI (HA.out.tail.tail.blk0.cell 3)
          have HCH : Hid ((wd.alloc (.cells #[.string tx0] 9)).cell? ⟨p, 5, none⟩ = some (.slice ha hl.length hcap)) := hI (HA.out.tail.blk0.cell 5)
          refine hK _ _ HPE.out ?_
          clear hK K
          try simp only [Act.put, zq1, zq2, zq3]
          refine anyH_ready (rs := [11]) (by decide +kernel) (by simp) ?_
          refine AllReadyH.cons (o := { dst := some 43, op := .call { callee := .builtin .append, args := #[.tmp 39, .tmp 42], argTypes := #[31, 31] }, type := _, pos := _, after := _, guard := none }) rfl (fun K hK => ?_) AllReadyH.nil
          refine step_app2 rfl (.tmp 39) (.tmp 42) elStr rfl 0 (v := .slice ha hl.length hcap) (by simp [Act.eval]) HA.out.own0.1 HA.out.own0.2 (u := .slice (some ⟨wd.heap.size, 0, none⟩) 1 1) (by simp [Act.eval]) HSL.out (by have := HHL.out; unfold maxLen; omega) (by have := HHL.out; omega) (Nat.zero_le _) ?_
          intro v' w5 ho hkk hvv
          have hc5 := HA.out.append (B := 0) ho (hkk.mono fun k h => by simpa using h) (fun k h => by simpa using hvv k h)
          obtain ⟨va5, vc5, hvf5, _⟩ := ho.sl.form
          subst hvf5
          have HC5 := hI hc5
          have HPE : Hid (w5.cell? ⟨pe, 3, none⟩ = some (.string tx0)) := hI (HC5.out.tail.tail.blk0.cell 3)
          clear ho hkk hvv hc5
          refine hK _ _ HPE.out ?_
          clear hK K
          try simp only [Act.put, zq1, zq2, zq3]
          refine tkH 14 46 none (.pointer (some ⟨p, 5, none⟩)) rfl (by kernel_rfl) (fun _ _ _ h => h) (by rfl) (by intro W hW; go_simp) HPE.out ?_
          simp only [Act.put, zq1, zq2, zq3]
          refine anyH_ready (rs := [15]) (by decide +kernel) (by simp) ?_
          refine AllReadyH.cons (o := { dst := none, op := .store 31 (.tmp 46) (.tmp 43), type := _, pos := _, after := _, guard := none }) rfl (fun K hK => ?_) AllReadyH.nil
          have hch := HC5.out.tail.blk0.cell 5
          have hcf := HC5.out.tail.blk0.frozen 5
          simp only [pairC, List.getElem?_cons_zero, List.getElem?_cons_succ] at hch
          go_simp
          clear hch hcf
          have HC6 := hI (HC5.out.swap.set 5 (.slice va5 (hl.length + 1) vc5))
          have HPE : Hid ((w5.setCell ⟨p, 5, none⟩ (.slice va5 (hl.length + 1) vc5)).cell? ⟨pe, 3, none⟩ = some (.string tx0)) := hI (HC6.out.tail.tail.blk0.cell 3)
          refine hK _ _ HPE.out ?_
          clear hK K
          try simp only [Act.put, zq1, zq2, zq3]
          refine wpAnyH_done (by decide +kernel) ?_ _
          have h7 := Hold.front (m := [_, _, _, _, _, _, _, _, _, _, _, _, _]) (l := l) HC6.out.swap [1, 3, 4, 5, 6, 0, 7, 8, 9, 10, 11, 12, 2] 13 (by decide)
          have e7 : strsR (.slice va5 (hl.length + 1) vc5) (hl ++ [tx0]) = .own 9 1 (.slice va5 (hl.length + 1) vc5) (hl.length + 1) (hl.map strC ++ [.string tx0]) := by simp [strsR, strC]
          have h8 : Hold _ (restR p ⟨ue, uP, us, uh, uf, uo⟩ ⟨ze, zP, .slice va5 (hl.length + 1) vc5, zh, zf, zo⟩ y ⟨x.app, hl ++ [tx0], x.hear, x.file, x.over⟩ :: appR ze q zP (x.app.say (.chat tx0.data.toList)).app :: appR ue q uP y.app.app :: tabR q (.slice none 0 0) (.slice none 0 0) mp t :: .blk pe [.int .i64 0, .int .i64 sa, .int .i64 si, .string tx0, .slice da sd.length dc] 48 :: l) := restR_iff.2 (by rw [e7]; exact h7)
          have h9 := pairR_backS (x := { x with said := hl ++ [tx0] }) (y := y) (E := x.app.say (.chat tx0.data.toList)) (G := y.app) (z := ⟨ze, zP, .slice va5 (hl.length + 1) vc5, zh, zf, zo⟩) (u := ⟨ue, uP, us, uh, uf, uo⟩) (P1 := zP) (P2 := uP) h8.push4
          have c3 := h9.tail.blk0.cell 3
          simp only [List.getElem?_cons_zero, List.getElem?_cons_succ] at c3
          have HC9 := hI h9.swap.tail
          clear h7 e7 h8 h9 HC6 HPE HCH HA HSL HR HC5
          go_wp2_with fail
          refine (HTH.out _).mono ?_
          rintro e w8 ⟨rfl, rfl⟩
          rw [HTB.out]
          go_wp2_with fail
          go_ret
          rw [← HLE.out]
          exact ⟨rfl, HC9.out⟩
        · go_simp
          have HA := hI (HR.out.alloc (.cells #[.string tx0] 9))
          have HSL : Hid (Sl (wd.alloc (.cells #[.string tx0] 9)) 1 (.slice (some ⟨wd.heap.size, 0, none⟩) 1 1) 1 [.string tx0]) := hI (Sl.lit rfl rfl (by simp [Value.oneCell']) (by unfold maxLen; decide))
          have HPE : Hid ((wd.alloc (.cells #[.string tx0] 9)).cell? ⟨pe, 3, none⟩ = some (.string tx0)) := hI (HA.out.tail.tail.blk0.cell 3)
          have HCH : Hid ((wd.alloc (.cells #[.string tx0] 9)).cell? ⟨p, 5, none⟩ = some (.slice ha hl.length hcap)) := hI (HA.out.tail.blk0.cell 5)
          refine hK _ _ HPE.out ?_
          clear hK K
          try simp only [Act.put, zq1, zq2, zq3]
          refine anyH_ready (rs := [7]) (by decide +kernel) (by simp) ?_
          refine AllReadyH.cons (o := { dst := some 39, op := .load 31 (.tmp 38), type := _, pos := _, after := _, guard := none }) rfl (fun K hK => ?_) AllReadyH.nil
          have hch := HCH.out
          go_simp
          clear hch
          refine hK _ _ HPE.out ?_
          clear hK K
          try simp only [Act.put, zq1, zq2, zq3]
          refine anyH_ready (rs := [11]) (by decide +kernel) (by simp) ?_
          refine AllReadyH.cons (o := { dst := some 43, op := .call { callee := .builtin .append, args := #[.tmp 39, .tmp 42], argTypes := #[31, 31] }, type := _, pos := _, after := _, guard := none }) rfl (fun K hK => ?_) AllReadyH.nil
          refine step_app2 rfl (.tmp 39) (.tmp 42) elStr rfl 0 (v := .slice ha hl.length hcap) (by simp [Act.eval]) HA.out.own0.1 HA.out.own0.2 (u := .slice (some ⟨wd.heap.size, 0, none⟩) 1 1) (by simp [Act.eval]) HSL.out (by have := HHL.out; unfold maxLen; omega) (by have := HHL.out; omega) (Nat.zero_le _) ?_
          intro v' w5 ho hkk hvv
          have hc5 := HA.out.append (B := 0) ho (hkk.mono fun k h => by simpa using h) (fun k h => by simpa using hvv k h)
          obtain ⟨va5, vc5, hvf5, _⟩ := ho.sl.form
          subst hvf5
          have HC5 := hI hc5
          have HPE : Hid (w5.cell? ⟨pe, 3, none⟩ = some (.string tx0)) := hI (HC5.out.tail.tail.blk0.cell 3)
          clear ho hkk hvv hc5
          refine hK _ _ HPE.out ?_
          clear hK K
          try simp only [Act.put, zq1, zq2, zq3]
          refine tkH 14 46 none (.pointer (some ⟨p, 5, none⟩)) rfl (by kernel_rfl) (fun _ _ _ h => h) (by rfl) (by intro W hW; go_simp) HPE.out ?_
          simp only [Act.put, zq1, zq2, zq3]
          refine anyH_ready (rs := [15]) (by decide +kernel) (by simp) ?_
          refine AllReadyH.cons (o := { dst := none, op := .store 31 (.tmp 46) (.tmp 43), type := _, pos := _, after := _, guard := none }) rfl (fun K hK => ?_) AllReadyH.nil
          have hch := HC5.out.tail.blk0.cell 5
          have hcf := HC5.out.tail.blk0.frozen 5
          simp only [pairC, List.getElem?_cons_zero, List.getElem?_cons_succ] at hch
          go_simp
          clear hch hcf
          have HC6 := hI (HC5.out.swap.set 5 (.slice va5 (hl.length + 1) vc5))
          have HPE : Hid ((w5.setCell ⟨p, 5, none⟩ (.slice va5 (hl.length + 1) vc5)).cell? ⟨pe, 3, none⟩ = some (.string tx0)) := hI (HC6.out.tail.tail.blk0.cell 3)
          refine hK _ _ HPE.out ?_
          clear hK K
          try simp only [Act.put, zq1, zq2, zq3]
          refine wpAnyH_done (by decide +kernel) ?_ _
          have h7 := Hold.front (m := [_, _, _, _, _, _, _, _, _, _, _, _, _]) (l := l) HC6.out.swap [1, 3, 4, 5, 6, 0, 7, 8, 9, 10, 11, 12, 2] 13 (by decide)
          have e7 : strsR (.slice va5 (hl.length + 1) vc5) (hl ++ [tx0]) = .own 9 1 (.slice va5 (hl.length + 1) vc5) (hl.length + 1) (hl.map strC ++ [.string tx0]) := by simp [strsR, strC]
          have h8 : Hold _ (restR p ⟨ue, uP, us, uh, uf, uo⟩ ⟨ze, zP, .slice va5 (hl.length + 1) vc5, zh, zf, zo⟩ y ⟨x.app, hl ++ [tx0], x.hear, x.file, x.over⟩ :: appR ze q zP (x.app.say (.chat tx0.data.toList)).app :: appR ue q uP y.app.app :: tabR q (.slice none 0 0) (.slice none 0 0) mp t :: .blk pe [.int .i64 0, .int .i64 sa, .int .i64 si, .string tx0, .slice da sd.length dc] 48 :: l) := restR_iff.2 (by rw [e7]; exact h7)
          have h9 := pairR_backS (x := { x with said := hl ++ [tx0] }) (y := y) (E := x.app.say (.chat tx0.data.toList)) (G := y.app) (z := ⟨ze, zP, .slice va5 (hl.length + 1) vc5, zh, zf, zo⟩) (u := ⟨ue, uP, us, uh, uf, uo⟩) (P1 := zP) (P2 := uP) h8.push4
          have c3 := h9.tail.blk0.cell 3
          simp only [List.getElem?_cons_zero, List.getElem?_cons_succ] at c3
          have HC9 := hI h9.swap.tail
          clear h7 e7 h8 h9 HC6 HPE HCH HA HSL HR HC5
          go_wp2_with fail
          refine (HTH.out _).mono ?_
          rintro e w8 ⟨rfl, rfl⟩
          rw [HTB.out]
          go_wp2_with fail
          go_ret
          rw [← HLE.out]
          exact ⟨rfl, HC9.out⟩
  · have hk0' : (sk == 0) = false := by simpa using hk0
    by_cases hk1 : sk = 1
    · subst hk1
      have HE : Hid (stepS t x y ⟨1, sa, si, tx0, sd⟩ = ((offerS t x tx0 sd).1, (offerS t x tx0 sd).2, y)) := hI (by rw [stepS, if_neg (by simp), if_pos rfl])
      rw [HE.out]
      have HOF := hI (appOffer_any ze q zP (.slice none 0 0) (.slice none 0 0) mp t x.app.app tx0 (.slice da sd.length dc) sd _ _ HC.out.pull3.swap (fun W h => HROW.out W h.tail.tail.tail) (by have := HTX.out; omega) (hasV_idsNext HOK.out.both.a.okeys) (hasV_idsNext HOK.out.both.a.nkeys) (by have := HOK.out.bx.id; have := HNL.out; show x.app.id ≤ _; omega) (by have := HOK.out.bx.waits; have := HNL.out; simp [EndW.app]; omega) (by have := HOK.out.tl; have := HNL.out; omega) (by have := HOK.out.outs; have := HOK.out.bx.id; have := HNL.out; show x.app.outs.length ≤ _; omega) (by have := HOK.out.bx.names; have := HNL.out; show x.app.names.length ≤ _; omega))
      rw [offerW_eq] at HOF
      clear HCP
      have HRW := fun W => refRight_any tx0 W (by have := HTX.out; unfold maxLen; omega)
      have HRH := hI HRW
      clear HRW hk0 hk0'
      by_cases hR : rightB tx0 = false
      · have HW : Hid (offerW t x.app tx0 sd = (t, x.app, 0, 6)) := hI (by rw [offerW, if_pos hR])
        have HWS : Hid (offerS t x tx0 sd = (t, x)) := hI (by rw [offerS, HW.out]; rfl)
        rw [HW.out] at HOF
        rw [HWS.out]
        have HRB : Hid (rightB tx0 = false) := hI (by simpa using hR)
        clear hR
        go_enter Try.func13, Try.ntmps13
        go_wp2_with fail
        rw [← hpe]
        clear hpe
        refine HOF.out.mono ?_
        rintro e w2 ⟨rfl, P', hc⟩
        have c3 := hc.tail.tail.tail.tail.blk0.cell 3
        have c4 := hc.tail.tail.tail.tail.blk0.cell 4
        simp only [List.getElem?_cons_zero, List.getElem?_cons_succ] at c3 c4
        have HC2 := hI hc
        clear hc HOF
        go_wp2_with fail
        refine (HRH.out w2).mono ?_
        rintro e w3 ⟨rfl, rfl⟩
        rw [HRB.out]
        go_wp2_with fail
        go_ret
        exact ⟨rfl, (pairR_backS (x := x) (y := y) (z := ⟨ze, zP, zs, zh, zf, zo⟩) (u := ⟨ue, uP, us, uh, uf, uo⟩) (P1 := P') (P2 := uP) (E := x.app) (G := y.app) HC2.out.swap.push3).swap.tail⟩
      · by_cases hG : 2048 < sd.length
        · have hGi : (2048 : Int) < sd.length := by omega
          have HW : Hid (offerW t x.app tx0 sd = (t, x.app, 0, 20)) := hI (by rw [offerW, if_neg hR, if_pos hG])
          have HWS : Hid (offerS t x tx0 sd = (t, x)) := hI (by rw [offerS, HW.out]; rfl)
          rw [HW.out] at HOF
          rw [HWS.out]
          have HRB : Hid (rightB tx0 = true) := hI (by simpa using hR)
          clear hR hG
          go_enter Try.func13, Try.ntmps13
          go_wp2_with fail
          rw [← hpe]
          clear hpe
          refine HOF.out.mono ?_
          rintro e w2 ⟨rfl, P', hc⟩
          have c3 := hc.tail.tail.tail.tail.blk0.cell 3
          have c4 := hc.tail.tail.tail.tail.blk0.cell 4
          simp only [List.getElem?_cons_zero, List.getElem?_cons_succ] at c3 c4
          have HC2 := hI hc
          clear hc HOF
          go_wp2_with fail
          refine (HRH.out w2).mono ?_
          rintro e w3 ⟨rfl, rfl⟩
          rw [HRB.out]
          go_wp2_with fail
          go_ret
          exact ⟨rfl, (pairR_backS (x := x) (y := y) (z := ⟨ze, zP, zs, zh, zf, zo⟩) (u := ⟨ue, uP, us, uh, uf, uo⟩) (P1 := P') (P2 := uP) (E := x.app) (G := y.app) HC2.out.swap.push3).swap.tail⟩
        · have hGi : ¬ ((2048 : Int) < sd.length) := by omega
          by_cases hQ : liveN (x.app.outs.map fun x => x.2.st) = 4
          · have HW : Hid (offerW t x.app tx0 sd = (t, x.app, 0, 19)) := hI (by rw [offerW, if_neg hR, if_neg hG, if_pos hQ])
            have HWS : Hid (offerS t x tx0 sd = (t, x)) := hI (by rw [offerS, HW.out]; rfl)
            rw [HW.out] at HOF
            rw [HWS.out]
            have HRB : Hid (rightB tx0 = true) := hI (by simpa using hR)
            clear hR hG hQ
            go_enter Try.func13, Try.ntmps13
            go_wp2_with fail
            rw [← hpe]
            clear hpe
            refine HOF.out.mono ?_
            rintro e w2 ⟨rfl, P', hc⟩
            have c3 := hc.tail.tail.tail.tail.blk0.cell 3
            have c4 := hc.tail.tail.tail.tail.blk0.cell 4
            simp only [List.getElem?_cons_zero, List.getElem?_cons_succ] at c3 c4
            have HC2 := hI hc
            clear hc HOF
            go_wp2_with fail
            refine (HRH.out w2).mono ?_
            rintro e w3 ⟨rfl, rfl⟩
            rw [HRB.out]
            go_wp2_with fail
            go_ret
            exact ⟨rfl, (pairR_backS (x := x) (y := y) (z := ⟨ze, zP, zs, zh, zf, zo⟩) (u := ⟨ue, uP, us, uh, uf, uo⟩) (P1 := P') (P2 := uP) (E := x.app) (G := y.app) HC2.out.swap.push3).swap.tail⟩
          · by_cases hF : 16 ≤ x.app.waits.length
            · have HW : Hid (offerW t x.app tx0 sd = (t, x.app, 0, 8)) := hI (by rw [offerW, if_neg hR, if_neg hG, if_neg hQ, if_pos hF])
              have HWS : Hid (offerS t x tx0 sd = (t, x)) := hI (by rw [offerS, HW.out]; rfl)
              rw [HW.out] at HOF
              rw [HWS.out]
              have HRB : Hid (rightB tx0 = true) := hI (by simpa using hR)
              clear hR hG hQ hF
              go_enter Try.func13, Try.ntmps13
              go_wp2_with fail
              rw [← hpe]
              clear hpe
              refine HOF.out.mono ?_
              rintro e w2 ⟨rfl, P', hc⟩
              have c3 := hc.tail.tail.tail.tail.blk0.cell 3
              have c4 := hc.tail.tail.tail.tail.blk0.cell 4
              simp only [List.getElem?_cons_zero, List.getElem?_cons_succ] at c3 c4
              have HC2 := hI hc
              clear hc HOF
              go_wp2_with fail
              refine (HRH.out w2).mono ?_
              rintro e w3 ⟨rfl, rfl⟩
              rw [HRB.out]
              go_wp2_with fail
              go_ret
              exact ⟨rfl, (pairR_backS (x := x) (y := y) (z := ⟨ze, zP, zs, zh, zf, zo⟩) (u := ⟨ue, uP, us, uh, uf, uo⟩) (P1 := P') (P2 := uP) (E := x.app) (G := y.app) HC2.out.swap.push3).swap.tail⟩
            · obtain ⟨m, hm⟩ : ∃ m : Nat, m = x.app.id + 1 := ⟨_, rfl⟩
              obtain ⟨A9, hA9⟩ : ∃ A9 : EndW, A9 = ⟨x.app.id + 1, x.app.outs ++ [(((x.app.id + 1 : Nat) : Int), (⟨0, sd, 0, 0⟩ : OutF))], x.app.ins, x.app.names ++ [(((x.app.id + 1 : Nat) : Int), tx0)], x.app.waits ++ [.offer (x.app.id + 1) tx0.data.toList sd.length (digM t sd)], x.app.log⟩ := ⟨_, rfl⟩
              have HW : Hid (offerW t x.app tx0 sd = (digT t sd, A9, (m : Int), 0)) := hI (by rw [offerW, if_neg hR, if_neg hG, if_neg hQ, if_neg hF, hA9, hm])
              have HWS : Hid (offerS t x tx0 sd = (digT t sd, ⟨A9, x.said, x.hear, putV x.file (m : Int) sd, x.over⟩)) := hI (by rw [offerS, HW.out]; rfl)
              rw [HW.out] at HOF
              rw [HWS.out]
              have HRB : Hid (rightB tx0 = true) := hI (by simpa using hR)
              have hmn : m ≤ 1000001 := by have := HOK.out.bx.id; have := HNL.out; omega
              have HKM := hI (kI_key (n := (m : Int)) (by omega))
              have HFN : Hid (hasV x.file (m : Int) = false) := hI (by rw [hm]; exact hasV_idsNext HOK.out.both.a.fkeys)
              have hflen : x.file.length + 1 = m := by
                have := congrArg List.length HOK.out.both.a.fkeys
                simp [idKeys] at this
                omega
              have HFM : Hid ((putV x.file (m : Int) sd).length = m) := hI (by rw [putV_hasnt HFN.out]; simp; omega)
              have HML := hI hflen
              clear hR hG hQ hF hm hA9 hflen
              go_enter Try.func13, Try.ntmps13
              go_wp2_with fail
              rw [← hpe]
              clear hpe
              refine HOF.out.mono ?_
              rintro e w2 ⟨rfl, P', hc⟩
              have h3 := restR_iff.1 hc.pull4
              have h4 : Hold _ (filesR zf x.file :: .blk p (pairC ⟨ue, uP, us, uh, uf, uo⟩ ⟨ze, zP, zs, zh, zf, zo⟩) 38 :: .blk pe [.int .i64 1, .int .i64 sa, .int .i64 si, .string tx0, .slice da sd.length dc] 48 :: _) := Hold.front (m := [_, _, _, _, _, _, _, _, _, _, _, _, _]) (l := l) h3 [7, 0, 12, 1, 2, 3, 4, 5, 6, 8, 9, 10, 11] 13 (by decide)
              obtain ⟨fvs, h5⟩ := Hold.ex.1 h4
              have h6 := Hold.app.1 h5
              have hfl : fvs.length = x.file.length := by simpa using sumsR_len h6.tail
              have HFL := hI hfl
              have HFLN : Hid ((rowM fvs x.file).length < maxLen) := hI (by
                have h1 : ∀ (vs : List Value) (L : List (Int × List UInt8)), (rowM vs L).length ≤ L.length := rowM_len
                have h2 := h1 fvs x.file
                have := HML.out
                unfold maxLen
                omega)
              have HR := hI h6.drew
              clear hc h3 h4 h5 h6 hfl HOF
              go_wp2_with fail
              obtain ⟨wd, hwd⟩ : ∃ wd, wd = w2.drew := ⟨_, rfl⟩
              rw [← hwd] at HR
              have HS : Hid (wd.cell? ⟨p, 9, none⟩ = some (.map (some zf)) ∧ wd.cell? ⟨pe, 4, none⟩ = some (.slice da sd.length dc)) := hI ⟨HR.out.tail.tail.blk0.cell 9, HR.out.tail.tail.tail.blk0.cell 4⟩
              refine wp_region_held (S := fun W : World => W.cell? ⟨p, 9, none⟩ = some (.map (some zf)) ∧ W.cell? ⟨pe, 4, none⟩ = some (.slice da sd.length dc)) (by kernel_rfl) ?_
              change wpAnyH _ _ _ _ _ _ _ _ (World.drew _)
              rw [← hwd]
              clear hwd
              refine tkH 0 72 none (.pointer (some ⟨p, 0, none⟩)) rfl (by kernel_rfl) (fun _ _ _ h => h) (by rfl) (by intro W hW; go_simp) HS.out ?_
              simp only [Act.put, zq1, zq2, zq3]
              refine tkH 1 73 none (.int .i64 1) rfl (by kernel_rfl) (fun _ _ _ h => h) (by rfl) (by intro W hW; go_simp) HS.out ?_
              simp only [Act.put, zq1, zq2, zq3]
              refine tkH 2 74 none (.pointer (some ⟨p, 0, none⟩)) rfl (by kernel_rfl) (fun _ _ _ h => h) (by rfl) (by intro W hW; go_simp) HS.out ?_
              simp only [Act.put, zq1, zq2, zq3]
              refine tkH 3 75 none (.pointer (some ⟨p, 8, none⟩)) rfl (by kernel_rfl) (fun _ _ _ h => h) (by rfl) (by intro W hW; go_simp) HS.out ?_
              simp only [Act.put, zq1, zq2, zq3]
              refine tkH 4 76 none (.pointer (some ⟨p, 9, none⟩)) rfl (by kernel_rfl) (fun _ _ _ h => h) (by rfl) (by intro W hW; go_simp) HS.out ?_
              simp only [Act.put, zq1, zq2, zq3]
              refine tkH 5 77 none (.map (some zf)) rfl (by kernel_rfl) (fun _ _ _ h => h) (by rfl) (by intro W hW; have hce : W.cell? ⟨p, 9, none⟩ = some (.map (some zf)) := hW.1; go_simp) HS.out ?_
              simp only [Act.put, zq1, zq2, zq3]
              refine tkH 6 78 none (.int .i64 m) rfl (by kernel_rfl) (fun _ _ _ h => h) (by rfl) (by intro W hW; go_simp) HS.out ?_
              simp only [Act.put, zq1, zq2, zq3]
              refine tkH 8 80 none (.pointer (some ⟨pe, 4, none⟩)) rfl (by kernel_rfl) (fun _ _ _ h => h) (by rfl) (by intro W hW; go_simp) HS.out ?_
              simp only [Act.put, zq1, zq2, zq3]
              refine tkH 9 81 none (.slice da sd.length dc) rfl (by kernel_rfl) (fun _ _ _ h => h) (by rfl) (by intro W hW; have hce : W.cell? ⟨pe, 4, none⟩ = some (.slice da sd.length dc) := hW.2; go_simp) HS.out ?_
              simp only [Act.put, zq1, zq2, zq3]
              refine anyH_ready (rs := [7]) (by decide +kernel) (by simp) ?_
              refine AllReadyH.cons (o := { dst := some 79, op := .buildSlice 40 0 #[], type := _, pos := _, after := _, guard := none }) rfl (fun K hK => ?_) AllReadyH.nil
              go_simp
              have HA := hI (HR.out.addEmpty 5 1 (b := wd.heap.size) rfl)
              have HS : Hid ((wd.alloc (.cells #[] 5)).cell? ⟨p, 9, none⟩ = some (.map (some zf)) ∧ (wd.alloc (.cells #[] 5)).cell? ⟨pe, 4, none⟩ = some (.slice da sd.length dc)) := hI ⟨HA.out.tail.tail.tail.blk0.cell 9, HA.out.tail.tail.tail.tail.blk0.cell 4⟩
              refine hK _ _ HS.out ?_
              clear hK K
              try simp only [Act.put, zq1, zq2, zq3]
              refine anyH_ready (rs := [10]) (by decide +kernel) (by simp) ?_
              refine AllReadyH.cons (o := { dst := some 82, op := .call { callee := .builtin .append, args := #[.tmp 79, .tmp 81], argTypes := #[40, 40] }, type := _, pos := _, after := _, guard := none }) rfl (fun K hK => ?_) AllReadyH.nil
              refine step_app2 rfl (.tmp 79) (.tmp 81) elBytes rfl 0 (v := .slice (some ⟨wd.heap.size, 0, none⟩) 0 0) (by simp [Act.eval]) HA.out.own0.1 HA.out.own0.2 (u := .slice da sd.length dc) (by simp [Act.eval]) (HROW.out _ HA.out.tail.tail.tail.tail.tail.tail.tail.tail.tail.tail.tail.tail.tail.tail.tail) (by have := HDL.out; unfold maxLen; omega) (by have := HDL.out; omega) (Nat.zero_le _) ?_
              intro v' w5 ho hkk hvv
              have hc5 := HA.out.append (B := 0) ho (hkk.mono fun k h => by simpa using h) (fun k h => by simpa using hvv k h)
              rw [Nat.zero_add, List.nil_append] at hc5
              have HC5 := hI (Hold.ownRow (b := sd) hc5)
              have HS : Hid (w5.cell? ⟨p, 9, none⟩ = some (.map (some zf)) ∧ w5.cell? ⟨pe, 4, none⟩ = some (.slice da sd.length dc)) := hI ⟨HC5.out.tail.tail.tail.blk0.cell 9, HC5.out.tail.tail.tail.tail.blk0.cell 4⟩
              have HM5 := hI (HC5.out.tail.mapVOf (b := zf) (M := rowM fvs x.file) List.mem_cons_self)
              clear ho hkk hvv hc5
              refine hK _ _ HS.out ?_
              clear hK K
              try simp only [Act.put, zq1, zq2, zq3]
              refine anyH_ready (rs := [11]) (by decide +kernel) (by simp) ?_
              refine AllReadyH.cons (o := { dst := none, op := .mapUpdate 33 (.tmp 77) (.tmp 78) (.tmp 82), type := _, pos := _, after := _, guard := none }) rfl (fun K hK => ?_) AllReadyH.nil
              refine step_updateV rfl (.tmp 77) (.tmp 78) (.tmp 82) rfl 2 40 intK kI_inj Try.underlying33 zf _ (by rfl) HM5.out HFLN.out (m : Int) (by exact HKM.out) ?_
              intro w9 hm9 hk9 hz9
              have HC9 := hI (filesR_put HC5.out.push3 HFL.out HFN.out hm9 hk9)
              have HS : Hid (w9.cell? ⟨p, 9, none⟩ = some (.map (some zf)) ∧ w9.cell? ⟨pe, 4, none⟩ = some (.slice da sd.length dc)) := hI ⟨HC9.out.tail.blk0.cell 9, HC9.out.tail.tail.blk0.cell 4⟩
              clear hm9 hk9 hz9
              refine hK _ _ HS.out ?_
              clear hK K
              try simp only [Act.put, zq1, zq2, zq3]
              refine wpAnyH_done (by decide +kernel) ?_ _
              have h7 := Hold.front (m := [_, _, _, _, _, _, _, _, _, _, _, _, _]) (l := l) HC9.out [1, 3, 4, 5, 6, 7, 8, 0, 9, 10, 11, 12, 2] 13 (by decide)
              have h8 : Hold _ (restR p ⟨ue, uP, us, uh, uf, uo⟩ ⟨ze, zP, zs, zh, zf, zo⟩ y ⟨x.app, x.said, x.hear, putV x.file (m : Int) sd, x.over⟩ :: appR ze q P' A9.app :: tabR q (.slice none 0 0) (.slice none 0 0) mp (digT t sd) :: appR ue q uP y.app.app :: .blk pe [.int .i64 1, .int .i64 sa, .int .i64 si, .string tx0, .slice da sd.length dc] 48 :: l) := restR_iff.2 h7
              have h9 := pairR_backS (x := { x with file := putV x.file (m : Int) sd }) (y := y) (E := A9) (G := y.app) (z := ⟨ze, zP, zs, zh, zf, zo⟩) (u := ⟨ue, uP, us, uh, uf, uo⟩) (P1 := P') (P2 := uP) h8.push4.swap.push3
              have c3 := h9.tail.blk0.cell 3
              have c4 := h9.tail.blk0.cell 4
              have cf := HS.out.1
              simp only [List.getElem?_cons_zero, List.getElem?_cons_succ] at c3 c4
              obtain ⟨fv9, h10⟩ := Hold.ex.1 HC9.out
              have h11 := Hold.app.1 h10
              have HMF9 := hI (h11.mapVOf (b := zf) (M := rowM fv9 (putV x.file (m : Int) sd)) List.mem_cons_self)
              have HML9 : Hid ((rowM fv9 (putV x.file (m : Int) sd)).length = m) := hI (by
                have hl9 : fv9.length = (putV x.file (m : Int) sd).length := by simpa using sumsR_len h11.tail
                rw [rowM_lenE hl9]
                exact HFM.out)
              have HC10 := hI h9.swap.tail
              clear h7 h8 h9 h10 h11 HC9 HS HC5 HA HR HM5
              go_wp2_with fail
              refine (HRH.out _).mono ?_
              rintro e w8 ⟨rfl, rfl⟩
              rw [HRB.out]
              go_wp2_with ((with_reducible show wpList _ _ _ (⟨some 107, _, _, _, _, _⟩ :: _) _ _); refine wpList_lenV _ rfl _ _ rfl 2 40 Try.underlying33 zf _ rfl HMF9.out ?_; rw [HML9.out])
              go_ret
              exact ⟨rfl, HC10.out⟩
    · have hk1' : (sk == 1) = false := by simpa using hk1
      by_cases hk23 : sk = 2 ∨ sk = 3
      · have hyes : (sk == 2) = decide (sk = 2) := by rfl
        have HA := hI (appAnswer_any ze q zP (.slice none 0 0) (.slice none 0 0) mp t x.app.app si (decide (sk = 2)) _ _ (HC.out.pull3.swap) H64.out (fun hk => ⟨by have := HOK.out.both.b.ikeys si hk; omega, by have := HOK.out.both.b.ikeys si hk; have := HOK.out.bY.id; have := HNL.out; omega, HOK.out.inOk hk⟩) (by have := HOK.out.bx.waits; have := HNL.out; simp [EndW.app]; omega) (by have := HOK.out.bx.log; have := HNL.out; show x.app.log.length ≤ _; omega) (by have := HOK.out.tl; have := HNL.out; omega))
        rw [answerW_eq] at HA
        have HE : Hid (stepS t x y ⟨sk, sa, si, tx0, sd⟩ = ((answerS t x si (decide (sk = 2))).1, (answerS t x si (decide (sk = 2))).2, y)) := hI (by rw [stepS, if_neg hk0, if_neg hk1, if_pos hk23])
        rw [HE.out]
        rcases hk23 with rfl | rfl
        all_goals
          clear hk0 hk1 hyes HCP
          go_enter Try.func13, Try.ntmps13
          go_wp2_with fail
          refine HA.out.mono ?_
          rintro e w2 ⟨rfl, hc⟩
          have HC2 := hI hc
          clear hc HA
          go_wp2_with fail
          go_ret
          exact ⟨rfl, (pairR_backS (x := x) (y := y) (z := ⟨ze, zP, zs, zh, zf, zo⟩) (u := ⟨ue, uP, us, uh, uf, uo⟩) HC2.out.swap.push3).swap.tail⟩
      · by_cases hk45 : sk = 4 ∨ sk = 5
        · have HA := hI (appCancel_any ze q zP x.app.app si (decide (sk = 5)) _ _ HC.out H64.out (fun hk => by
            rcases hk with hk | hk
            · have := HOK.out.both.b.ikeys si hk; have := HOK.out.bY.id; have := HNL.out; omega
            · have := (hasV_ids HOK.out.both.a.okeys si).1 hk; have := HOK.out.bx.id; have := HNL.out; omega) (by have := HOK.out.bx.waits; have := HNL.out; simp [EndW.app]; omega) (by have := HOK.out.bx.log; have := HNL.out; show x.app.log.length ≤ _; omega))
          rw [cancelW_eq] at HA
          have HE : Hid (stepS t x y ⟨sk, sa, si, tx0, sd⟩ = (t, cancelS x si (decide (sk = 5)), y)) := hI (by rw [stepS, if_neg hk0, if_neg hk1, if_neg hk23, if_pos hk45])
          rw [HE.out]
          rcases hk45 with rfl | rfl
          all_goals
            clear hk0 hk1 hk23 HCP
            go_enter Try.func13, Try.ntmps13
            go_wp2_with fail
            refine HA.out.mono ?_
            rintro e w2 ⟨rfl, hc⟩
            have HC2 := hI hc
            clear hc HA
            go_wp2_with fail
            go_ret
            exact ⟨rfl, (pairR_backS (x := x) (y := y) (z := ⟨ze, zP, zs, zh, zf, zo⟩) (u := ⟨ue, uP, us, uh, uf, uo⟩) HC2.out).swap.tail⟩
        · have hk2' : (sk == 2) = false := by simp; omega
          have hk3' : (sk == 3) = false := by simp; omega
          have hk4' : (sk == 4) = false := by simp; omega
          have hk5' : (sk == 5) = false := by simp; omega
          have HE : Hid (stepS t x y ⟨sk, sa, si, tx0, sd⟩ = ((moveW t x y).1, (moveW t x y).2.1, (moveW t x y).2.2.1)) := hI (by rw [stepS, if_neg hk0, if_neg hk1, if_neg hk23, if_neg hk45])
          rw [HE.out]
          have HM := hI (move1_any p q mp t x y _ _ HCP.out (HOK.out.mv HNL.out))
          clear hk0 hk1 hk23 hk45 HCP
          go_enter Try.func13, Try.ntmps13
          go_wp2_with fail
          refine HM.out.mono ?_
          rintro e w2 ⟨rfl, hc⟩
          have HC2 := hI hc
          clear hc HM
          go_wp2_with fail
          go_ret
          exact ⟨rfl, HC2.out.swap.tail⟩
end Go.Proofs.Ytiplepdmkbiehaa
