/- Texts of this proof, one behind the other: RelayPlays. -/
import Derived.Test.YtofmkkcbfeadgaaRpA12
import Derived.Deep.DeepCutAuto
import Derived.Deep.CutBlock
namespace Go.Proofs.Ytofmkkcbfeadgaa
set_option linter.unusedSimpArgs false
set_option linter.unusedVariables false
open Go.RowKit Go.Maps Go.MapKept Go.WideMaps
theorem hok_few {T : Mail} (h : MailOk T) : T.length ≤ 32 := h.few
set_option maxRecDepth 100000 in
set_option maxHeartbeats 32000000 in
theorem rplays_go (v : Value) (l : List Rst) (w : World) (h : Sl w 3 v l.length (l.map Rst.cells).flatten) (hn : ∀ x ∈ l, x.In w) (hl : l.length ≤ 150) :
    Calls Try.prog 3 #[v] w fun e w' => e = .returned (.bool true) ∧ Below w.heap.size w w' := by
  obtain ⟨al, cl, rfl, hcl, hml⟩ := h.form
  have HSL := hI h
  have HN := hI hn
  unfold maxLen at hml
  clear h hn
  have hl' : ¬ (150 : Int) < l.length := by omega
  have hmm := @run_makeMap Try.prog
  have HMM := hI hmm
  clear hmm
  go_enter Try.func3, Try.ntmps3
  go_wp2_with fail
  refine (alive23_any _).mono ?_
  rintro e w1 ⟨rfl, hb⟩
  have HC := hI ((Hold.start w).step hb)
  clear hb
  go_wp2_with fail
  refine (relNew_any _ _ HC.out).mono ?_
  rintro e w2 ⟨p, rfl, hc⟩
  obtain ⟨bx, hbx⟩ : ∃ bx, bx = w2.heap.size := ⟨_, rfl⟩
  have HC : Hid (Hold (w2.alloc (.map #[] 0)) [relR p [], lawR w bx []]) := hI (by rw [hbx]; exact (lawR_new hc.swap).swap)
  clear hc
  have hmm := HMM.out
  go_wp2_with fail
  rw [← hbx]
  clear hbx hmm
  go_loopw [26] (fun iv wr => ∃ (k : Nat) (T : Mail), iv = .int .i64 k ∧ k ≤ l.length ∧ MailOk T ∧ Hold wr [relR p T, lawR w bx T]) (fun i _ => l.length - (intOf i).toNat)
  case atStart => exact ⟨0, [], rfl, Nat.zero_le _, mailOk_nil, HC.out⟩
  case round =>
    obtain ⟨k, T, rfl, hk, hok, hr⟩ := hrel
    have HTO := hI hok
    have HC := hI hr
    clear hok hr
    by_cases hlt : k < l.length
    · obtain ⟨bl, ol, rfl, _⟩ := HSL.out.addr (by rw [flat_length (n := 3) Rst.cells l (fun x _ => x.cells_length)]; omega)
      have hbw : Below w.heap.size w wr := HC.out.lawBase (w0 := w) (b := bx) (T := T) (by simp)
      have HCE := hI (rs_cells HSL.out hbw k hlt)
      obtain ⟨x, hx⟩ : ∃ x, x = l[k] := ⟨_, rfl⟩
      have hin : x.In w := HN.out x (by rw [hx]; exact List.getElem_mem hlt)
      have HXN : Hid (x.name.size ≤ maxLen) := hI hin.1
      have HXB := hI hin.2
      have HXO : Hid (∀ c ∈ x.cells, c.oneCell' = true) := hI (Rst.cells_one hin)
      have HKN := hI (kS_key hin.1)
      obtain ⟨ba, bc, hbv, hbc, hbm⟩ := hin.2.form
      have HBV := hI hbv
      unfold maxLen at hbm
      rw [← hx] at HCE
      obtain ⟨g, hg⟩ : ∃ g, g = wr.heap.size := ⟨_, rfl⟩
      have HA := hI (HC.out.addBlkAt zsRst 29 hg.symm)
      have HG := hI (HA.out.blkOf (p := g) (cs := zsRst) (T := 29) (by simp))
      have HGE := hI hg
      clear hx hg hbw hin hbv hbc
      go_upto_region 10 with (first | ((with_reducible show wpList _ _ _ (⟨some 29, _, _, _, _, _⟩ :: _) _ _); refine wpList_ldAgg rfl (.tmp 28) aggRst rfl rfl (cs := x.cells) x.cells_length HCE.out ?_) | ((with_reducible show wpList _ _ _ (⟨none, .store _ (.tmp 6) (.tmp 29), _, _, _, _⟩ :: _) _ _); rw [← HGE.out]; refine wpList_stAgg rfl (.tmp 6) (.tmp 29) aggRst rfl rfl (vs := x.cells) rfl x.cells_length HG.out (Nat.le_refl _) HXO.out ?_))
      intro w3 h3 k3
      have h3' : Blk w3 g x.cells 29 := by simpa [zsRst] using h3
      have HC3 : Hid (Hold w3 [.blk g x.cells 29, relR p T, lawR w bx T]) := hI (HA.out.blkTurn h3' k3)
      have HG3 := hI h3'
      have hbw3 : Below w.heap.size w w3 := HC3.out.lawBase (w0 := w) (b := bx) (T := T) (by simp)
      have HB3 := hI (HXB.out.below hbw3)
      have g0 : w3.cell? ⟨g, 0, none⟩ = some (.int .i64 x.kind) := h3'.cell 0
      have g1 : w3.cell? ⟨g, 1, none⟩ = some (.string x.name) := h3'.cell 1
      have g2 : w3.cell? ⟨g, 2, none⟩ = some (.slice ba x.b.length bc) := by rw [← HBV.out]; exact h3'.cell 2
      rw [HBV.out] at HB3
      clear h3 h3' k3 HA HG HC hbw3
      go_upto_region 10 with fail
      by_cases h500 : 500 < x.b.length
      · have h500' : (500 : Int) < x.b.length := by omega
        go_wp2_with fail
        go_roundw
        case rel => exact ⟨k + 1, T, by go_num, by omega, HTO.out, HC3.out.tail⟩
        case measure => simp [intOf]; omega
      have h500' : ¬ (500 : Int) < x.b.length := by omega
      have H500 : Hid (x.b.length ≤ 500) := hI (by omega)
      clear h500
      obtain ⟨G, X, hTX, hx3⟩ := lawR_exact (HC3.out.front (m := [_, _, _]) (l := []) [2, 0, 1] 3 (by decide))
      have HTX := hI hTX
      have HCX : Hid (Hold w3 [.blk g x.cells 29, relR p T, lawX w bx G X]) := hI (hx3.front (m := [_, _, _]) (l := []) [1, 2, 0] 3 (by decide))
      obtain ⟨_, hG0, hbs3⟩ := lawX_of HCX.out (w0 := w) (b := bx) (G := G) (X := X) (by simp)
      obtain ⟨hxl, hh, la, lc, hv, hlc, hbox⟩ := lawX_look hbs3 hTX x.name
      have HM3 := hI hbs3.map
      have HXL := hI hxl
      have HV3 := hI hv
      have HLC := hI hlc
      have HBX := hI hbox
      obtain ⟨K, hK⟩ : ∃ K, K = hasV T x.name := ⟨_, rfl⟩
      have HK := hI hK
      rw [← hK] at hh
      have HH3 := hI hh
      obtain ⟨L, hL⟩ : ∃ L, L = getV T x.name [] := ⟨_, rfl⟩
      have HL := hI hL
      rw [← hL] at HV3 HBX HLC
      have HFW : Hid (X.vals.length < maxLen) := hI (by rw [hxl]; have := hok_few HTO.out; unfold maxLen; omega)
      clear hbs3 hxl hv hh hbox hG0 hK hL hTX hx3 hlc HC3
      go_upto_block 2 with (at_lookup; refine wpList_lookupV_ok _ rfl _ _ _ rfl 9 30 strKV kS_inj Try.underlying26 (zRows _) bx _ rfl HM3.out x.name HKN.out ?_; rw [HV3.out, HH3.out])
      go_cut [26] from 26 to 158 (fun iv wx => iv = .int .i64 k ∧ ∃ T' : Mail, MailOk T' ∧ Hold wx [.blk g x.cells 29, relR p T', lawR w bx T'])
      case first =>
        by_cases hk0 : x.kind = 0
        · have hkb : (x.kind == 0) = true := by simpa using hk0
          clear hk0
          cases K with
          | true =>
            have HR : Hid (openS T x.name = (T, 10)) := hI (by rw [openS, if_pos HK.out.symm])
            go_wp2_with fail
            have h4 := relOpen_any p T x.name _ w3 (HCX.out.front (m := [_, _, _]) (l := []) [1, 0, 2] 3 (by decide)) HXN.out HTO.out.few
            rw [HR.out] at h4
            refine h4.mono ?_
            rintro e w5 ⟨rfl, hc, _⟩
            have HC5 : Hid (Hold w5 [.blk g x.cells 29, relR p T, lawX w bx G X]) := hI (hc.front (m := [_, _, _]) (l := []) [1, 0, 2] 3 (by decide))
            clear hc h4
            go_wp2_with fail
            go_meet
            exact ⟨rfl, T, HTO.out, ((lawX_R (HC5.out.front (m := [_, _, _]) (l := []) [2, 0, 1] 3 (by decide)) HTX.out).front (m := [_, _, _]) (l := []) [1, 2, 0] 3 (by decide))⟩
          | false =>
            by_cases h32 : T.length = 32
            · have HR : Hid (openS T x.name = (T, 8)) := hI (by rw [openS, if_neg (by rw [← HK.out]; decide), if_pos h32])
              have h32' : ((X.vals.length : Nat) : Int) = 32 := by rw [HXL.out, h32]; rfl
              clear h32
              go_wp2_with ((with_reducible show wpList _ _ _ (⟨some 53, _, _, _, _, _⟩ :: _) _ _); refine wpList_lenV _ rfl _ _ rfl 9 30 Try.underlying26 bx _ rfl HM3.out ?_; rw [h32'])
              have h4 := relOpen_any p T x.name _ w3 (HCX.out.front (m := [_, _, _]) (l := []) [1, 0, 2] 3 (by decide)) HXN.out HTO.out.few
              rw [HR.out] at h4
              refine h4.mono ?_
              rintro e w5 ⟨rfl, hc, _⟩
              have HC5 : Hid (Hold w5 [.blk g x.cells 29, relR p T, lawX w bx G X]) := hI (hc.front (m := [_, _, _]) (l := []) [1, 0, 2] 3 (by decide))
              clear hc h4
              go_wp2_with fail
              go_meet
              exact ⟨rfl, T, HTO.out, ((lawX_R (HC5.out.front (m := [_, _, _]) (l := []) [2, 0, 1] 3 (by decide)) HTX.out).front (m := [_, _, _]) (l := []) [1, 2, 0] 3 (by decide))⟩
            · have HR : Hid (openS T x.name = (putV T x.name [], 0)) := hI (by rw [openS, if_neg (by rw [← HK.out]; decide), if_neg h32])
              have HT2 : Hid (MailOk (putV T x.name [])) := hI (HTO.out.put x.name [] (.inr (by have := HTO.out.few; omega)) (by simp))
              have h32' : (((X.vals.length : Nat) : Int) == 32) = false := by rw [HXL.out]; simp only [beq_eq_false_iff_ne, ne_eq]; omega
              clear h32
              have HM4 : Hid (MapAt Try.prog 9 kS (w3.alloc (.cells #[] 27)) bx X.vals) := hI (HM3.out.keep (Keeps.of_below ((Below.refl _ _).alloc (Nat.le_refl _) _)) (by have := HM3.out.lt; omega))
              go_upto_region 20 with (first | ((with_reducible show wpList _ _ _ (⟨some 53, _, _, _, _, _⟩ :: _) _ _); refine wpList_lenV _ rfl _ _ rfl 9 30 Try.underlying26 bx _ rfl HM3.out ?_) | (at_mapUpdate; refine wpList_updateV _ rfl _ _ _ _ rfl 9 30 strKV kS_inj Try.underlying26 bx _ rfl HM4.out HFW.out x.name HKN.out ?_))
              intro w4 hm4 hk4 hz4
              have hk34 : Keeps (fun y => y = bx ∨ w3.heap.size ≤ y) w3 w4 := ((Keeps.of_below ((Below.refl w3.heap.size w3).alloc (Nat.le_refl _) (.cells #[] 27))).mono (fun _ h => .inr h)).trans (hk4.mono (fun y hy => hy.imp id (fun h => Nat.le_trans (by simp) h)))
              have HL4 := hI (lawX_put (HCX.out.front (m := [_, _, _]) (l := []) [2, 0, 1] 3 (by decide)) HTX.out hm4 hk34 (Box.empty _ _ _))
              have HC4 : Hid (Hold w4 [.blk g x.cells 29, relR p T, lawR w bx (putV T x.name [])]) := hI (HL4.out.front (m := [_, _, _]) (l := []) [1, 2, 0] 3 (by decide))
              have g1 : w4.cell? ⟨g, 1, none⟩ = some (.string x.name) := (HC4.out.blkOf (p := g) (cs := x.cells) (T := 29) (by simp)).cell 1
              clear hm4 hk4 hz4 hk34 HL4 HM4 g0 g2
              go_upto_region 20 with fail
              go_wp2_with fail
              have h4 := relOpen_any p T x.name _ w4 (HC4.out.front (m := [_, _, _]) (l := []) [1, 0, 2] 3 (by decide)) HXN.out HTO.out.few
              rw [HR.out] at h4
              refine h4.mono ?_
              rintro e w5 ⟨rfl, hc, _⟩
              have HC5 : Hid (Hold w5 [.blk g x.cells 29, relR p (putV T x.name []), lawR w bx (putV T x.name [])]) := hI (hc.front (m := [_, _, _]) (l := []) [1, 0, 2] 3 (by decide))
              clear hc h4
              go_wp2_with fail
              go_meet
              exact ⟨rfl, (putV T x.name []), HT2.out, HC5.out⟩
        by_cases hk1 : x.kind = 1
        · have hkb : (x.kind == 1) = true := by simpa using hk1
          clear hk1
          have hkb0 : (x.kind == 0) = false := by simpa using hk0
          clear hk0
          obtain ⟨xv, er, hwh⟩ : ∃ xv er, wholeS x.b = (xv, er) := ⟨_, _, rfl⟩
          have HWE := hI hwh
          have HWH := hI (refWhole_any _ x.b w3 HB3.out)
          rw [hwh] at HWH
          have HRDM : Hid (rdM x.b = rdV xv er) := hI (by unfold rdM; rw [hwh])
          have HFR : Hid (bx < w3.heap.size) := hI HM3.out.lt
          clear hwh
          go_wp2_with fail
          refine HWH.out.mono ?_
          rintro e w4 ⟨cs, rfl, htv, hb4⟩
          have HC4 := hI (HCX.out.step hb4)
          have HCL := hI htv.length
          have HCO := hI htv.one
          have HTV4 : Hid (TvF w4 (fun y => w3.heap.size ≤ y ∧ y < w4.heap.size) xv cs) := hI htv
          have HN4 := hI (Blk.new w4 zs5 37)
          have HZ4 : Hid (w3.heap.size ≤ w4.heap.size) := hI hb4.size
          clear htv hb4 HWH
          go_upto_region 24 with ((with_reducible show wpList _ _ _ (⟨none, .store _ (.tmp 10) (.tmp 67), _, _, _, _⟩ :: _) _ _); refine wpList_stAgg rfl (.tmp 10) (.tmp 67) aggRef rfl rfl (vs := cs) rfl HCL.out HN4.out (Nat.le_refl _) HCO.out ?_)
          intro w5 h5 k5
          have h5' : Blk w5 w4.heap.size cs 37 := by
            rw [List.drop_of_length_le (by decide), List.append_nil] at h5
            exact h5
          have hb5 : Below w4.heap.size w4 w5 := ((Below.refl _ _).alloc (Nat.le_refl _) _).trans (k5.below (by omega))
          have HX5 := hI h5'
          have HTV5 := hI (HTV4.out.below hb5)
          have HC5 := hI (HC4.out.step hb5)
          obtain ⟨p5, hp5⟩ : ∃ p5, p5 = w4.heap.size := ⟨_, rfl⟩
          have HP5 : Hid (bx < p5) := hI (by rw [hp5]; have h1 := HFR.out; have h2 := HZ4.out; omega)
          rw [← hp5] at HX5 ⊢
          clear h5 k5 h5' hb5 hp5 HTV4 HN4 HC4 HZ4 g0 g1 g2
          go_upto_region 24 with fail
          by_cases hec : er = 0
          · subst hec
            have HRT := hI (refRight11_any xv _ cs w5 HTV5.out)
            obtain ⟨d, hd⟩ : ∃ d, d = msgR xv := ⟨_, rfl⟩
            rw [← hd] at HRT
            have HD := hI hd
            clear hd
            go_wp2_with ((with_reducible show wpList _ _ _ (⟨some 72, _, _, _, _, _⟩ :: _) _ _); refine wpList_ldAgg rfl (.tmp 10) aggRef rfl rfl (cs := cs) HCL.out HX5.out.cellsAll ?_)
            refine HRT.out.mono ?_
            rintro e w6 ⟨rfl, hb6⟩
            have HC6 := hI (HC5.out.step hb6)
            have HX6 := hI (HX5.out.below hb6 HX5.out.lt)
            have HTV6 := hI (HTV5.out.below hb6)
            clear hb6 HRT HC5 HX5 HTV5
            cases d with
            | false =>
              have hrd : rdM x.b = (none, 4) := by
                rw [HRDM.out]
                unfold rdV
                rw [if_pos rfl, ofS_eq, if_neg (by rw [← HD.out]; decide)]
              have HPS : Hid (putS T x.b = (T, 4)) := hI (by unfold putS; rw [hrd])
              have g2 : w6.cell? ⟨g, 2, none⟩ = some (.slice ba x.b.length bc) := by rw [← HBV.out]; exact (HC6.out.blkOf (p := g) (cs := x.cells) (T := 29) (by simp)).cell 2
              clear hrd
              go_wp2_with fail
              have h9 := relPut_any p T (.slice ba x.b.length bc) x.b _ w6 (HC6.out.front (m := [_, _, _]) (l := []) [1, 0, 2] 3 (by decide)) (by rw [← HBV.out]; exact HXB.out.below (by have := lawX_of HC6.out (w0 := w) (b := bx) (G := G) (X := X) (by simp) |>.1; exact this)) H500.out HTO.out
              rw [HPS.out] at h9
              refine h9.mono ?_
              rintro e w10 ⟨rfl, hc, _⟩
              have HC10 : Hid (Hold w10 [.blk g x.cells 29, relR p T, lawX w bx G X]) := hI (hc.front (m := [_, _, _]) (l := []) [1, 0, 2] 3 (by decide))
              clear hc h9
              go_wp2_with fail
              go_meet
              exact ⟨rfl, T, HTO.out, ((lawX_R (HC10.out.front (m := [_, _, _]) (l := []) [2, 0, 1] 3 (by decide)) HTX.out).front (m := [_, _, _]) (l := []) [1, 2, 0] 3 (by decide))⟩
            | true =>
              have hrd : rdM x.b = (some (xv.tag, ptsOf (shapeS xv.tag) xv.l), 0) := by
                rw [HRDM.out]
                unfold rdV
                rw [if_pos rfl, ofS_eq, if_pos HD.out.symm]
              obtain ⟨t, ht⟩ : ∃ t, t = xv.tag := ⟨_, rfl⟩
              obtain ⟨pts, hpts⟩ : ∃ pts, pts = ptsOf (shapeS xv.tag) xv.l := ⟨_, rfl⟩
              rw [← hpts, ← ht] at hrd
              have hms := rdM_some hrd
              have hxv : xv = msgTv t pts := by
                have h1 := HWE.out
                rw [hms.2.2.2.2.1] at h1
                simp only [Prod.mk.injEq] at h1
                exact h1.1.symm
              have hok : ∀ p ∈ pts, PtOk p := ptsOk_len t pts hms.2.2.2.1 (by rw [hms.2.2.2.2.2.2]; have := H500.out; omega)
              have hsz : (tx (toM t pts)).size ≤ maxLen := by have := toM_len (t := t) hok; rw [tx_size]; unfold maxLen; omega
              clear ht hpts
              subst hxv
              obtain ⟨s, hs⟩ : ∃ s, s = tx (toM t pts) := ⟨_, rfl⟩
              have HTO7 : Hid (∀ W, TvF W (fun y => w3.heap.size ≤ y ∧ y < w4.heap.size) (msgTv t pts) cs → Calls Try.prog 10 #[.agg cs.toArray] W fun e w' => e = .returned (.string s) ∧ Below W.heap.size W w') := hI (fun W h => by rw [hs]; exact refTo_any t pts _ cs W h hms.2.1 hms.2.2.1)
              have HPS0 : Hid (putS T x.b = if hasV T s = false then (T, 9) else if (getV T s []).length = 16 then (T, 8) else (putV T s (getV T s [] ++ [x.b]), 0)) := hI (by rw [hs]; unfold putS; rw [hrd])
              rw [← hs] at hsz
              have HKS := hI (kS_key hsz)
              clear hrd hms hok hsz hs
              go_wp2_with ((with_reducible show wpList _ _ _ (⟨some 77, _, _, _, _, _⟩ :: _) _ _); refine wpList_ldAgg rfl (.tmp 10) aggRef rfl rfl (cs := cs) HCL.out HX6.out.cellsAll ?_)
              refine (HTO7.out w6 HTV6.out).mono ?_
              rintro e w7 ⟨rfl, hb7⟩
              have HC7 := hI (HC6.out.step hb7)
              have HX7 := hI (HX6.out.below hb7 HX6.out.lt)
              have HTV := hI (HTV6.out.below hb7)
              clear hb7 HC6 HX6 HTV6
              have hbs7 := (lawX_of HC7.out (w0 := w) (b := bx) (G := G) (X := X) (by simp)).2.2
              obtain ⟨_, hh7, ma, mc, hv7, hmc, hbox7⟩ := lawX_look hbs7 HTX.out s
              have HBS7 := hI hbs7
              have HM7 := hI hbs7.map
              have HV7 := hI hv7
              obtain ⟨M, hM⟩ : ∃ M, M = getV T s [] := ⟨_, rfl⟩
              obtain ⟨K7, hK7⟩ : ∃ K7, K7 = hasV T s := ⟨_, rfl⟩
              have HK7 := hI hK7
              have HM0 := hI hM
              rw [← hK7] at hh7 HPS0
              rw [← hM] at HV7 hbox7 HPS0
              have HH7 := hI hh7
              have HBX7 := hI hbox7
              have g2 : w7.cell? ⟨g, 2, none⟩ = some (.slice ba x.b.length bc) := by rw [← HBV.out]; exact (HC7.out.blkOf (p := g) (cs := x.cells) (T := 29) (by simp)).cell 2
              clear hbs7 hh7 hv7 hmc hbox7 hM hK7
              cases K7 with
              | false =>
                have HPS : Hid (putS T x.b = (T, 9)) := hI (by rw [HPS0.out, if_pos rfl])
                go_wp2_with (at_lookup; refine wpList_lookupV_ok _ rfl _ _ _ rfl 9 30 strKV kS_inj Try.underlying26 (zRows _) bx _ rfl HM7.out s HKS.out ?_; rw [HV7.out, HH7.out])
                have h9 := relPut_any p T (.slice ba x.b.length bc) x.b _ w7 (HC7.out.front (m := [_, _, _]) (l := []) [1, 0, 2] 3 (by decide)) (by rw [← HBV.out]; exact HXB.out.below (by have := lawX_of HC7.out (w0 := w) (b := bx) (G := G) (X := X) (by simp) |>.1; exact this)) H500.out HTO.out
                rw [HPS.out] at h9
                refine h9.mono ?_
                rintro e w10 ⟨rfl, hc, _⟩
                have HC10 : Hid (Hold w10 [.blk g x.cells 29, relR p T, lawX w bx G X]) := hI (hc.front (m := [_, _, _]) (l := []) [1, 0, 2] 3 (by decide))
                clear hc h9
                go_wp2_with fail
                go_meet
                exact ⟨rfl, T, HTO.out, ((lawX_R (HC10.out.front (m := [_, _, _]) (l := []) [2, 0, 1] 3 (by decide)) HTX.out).front (m := [_, _, _]) (l := []) [1, 2, 0] 3 (by decide))⟩
              | true =>
                by_cases h16 : M.length = 16
                · have HPS : Hid (putS T x.b = (T, 8)) := hI (by rw [HPS0.out, if_neg (by decide), if_pos h16])
                  have h16' : (M.length : Int) = 16 := by omega
                  clear h16
                  go_wp2_with (at_lookup; refine wpList_lookupV_ok _ rfl _ _ _ rfl 9 30 strKV kS_inj Try.underlying26 (zRows _) bx _ rfl HM7.out s HKS.out ?_; rw [HV7.out, HH7.out])
                  have h9 := relPut_any p T (.slice ba x.b.length bc) x.b _ w7 (HC7.out.front (m := [_, _, _]) (l := []) [1, 0, 2] 3 (by decide)) (by rw [← HBV.out]; exact HXB.out.below (by have := lawX_of HC7.out (w0 := w) (b := bx) (G := G) (X := X) (by simp) |>.1; exact this)) H500.out HTO.out
                  rw [HPS.out] at h9
                  refine h9.mono ?_
                  rintro e w10 ⟨rfl, hc, _⟩
                  have HC10 : Hid (Hold w10 [.blk g x.cells 29, relR p T, lawX w bx G X]) := hI (hc.front (m := [_, _, _]) (l := []) [1, 0, 2] 3 (by decide))
                  clear hc h9
                  go_wp2_with fail
                  go_meet
                  exact ⟨rfl, T, HTO.out, ((lawX_R (HC10.out.front (m := [_, _, _]) (l := []) [2, 0, 1] 3 (by decide)) HTX.out).front (m := [_, _, _]) (l := []) [1, 2, 0] 3 (by decide))⟩
                · have HPS : Hid (putS T x.b = ((putV T s (M ++ [x.b])), 0)) := hI (by rw [HPS0.out, if_neg (by decide), if_neg h16])
                  have HT2 : Hid (MailOk (putV T s (M ++ [x.b]))) := hI (by rw [HM0.out]; exact mailOk_snoc HTO.out s x.b HK7.out.symm (by rw [← HM0.out]; exact h16) H500.out)
                  have h16' : ((M.length : Int) == 16) = false := by simp; omega
                  have HML : Hid (M.length ≤ 16) := hI (by rw [HM0.out]; exact (HTO.out.get s).1)
                  clear h16
                  go_upto_region 34 with (at_lookup; refine wpList_lookupV_ok _ rfl _ _ _ rfl 9 30 strKV kS_inj Try.underlying26 (zRows _) bx _ rfl HM7.out s HKS.out ?_; rw [HV7.out, HH7.out])
                  go_cut [26] from 26 to 158 (fun iv wx => iv = .int .i64 k ∧ Hold wx [.blk g x.cells 29, relR p T, lawR w bx (putV T s (M ++ [x.b]))])
                  case first =>
                    clear g2
                    obtain ⟨rows, hsl, how, hrb⟩ := HBX7.out
                    have HG7 := hI (HC7.out.blkOf (p := g) (cs := x.cells) (T := 29) (by simp))
                    have HGB : Hid (¬ g = bx) := hI (fun e => by
                      have h1 := HG7.out
                      obtain ⟨D, _, es, clock, hmap, _⟩ := HBS7.out.map
                      rw [← e] at hmap
                      have := h1.cell 0
                      simp [Rst.cells, World.cell?, hmap] at this)
                    have HBN : Hid (bx < w7.heap.size) := hI HM7.out.lt
                    have HP5 : Hid (bx < p5 ∧ p5 < w7.heap.size) := hI ⟨HP5.out, HX7.out.lt⟩
                    have HFIN : Hid (∀ (cur : World) (v9 : Value) (wz : World), Own cur w7.heap.size 27 1 v9 (M.length + 1) (rows ++ [.slice ba x.b.length bc]) → (∀ y, v9.ownBlock = some y → w7.heap.size ≤ y ∧ y < cur.heap.size) → Keeps (fun y => y = bx ∨ w7.heap.size ≤ y) w7 wz →
                        MapAt Try.prog 9 kS wz bx (putV X.vals s v9) → Keeps (fun y => y = bx ∨ cur.heap.size ≤ y) cur wz → w7.heap.size ≤ cur.heap.size → wz.heap.size ≤ cur.heap.size → Hold wz [.blk g x.cells 29, relR p T, lawR w bx (putV T s (M ++ [x.b]))]) := hI (by
                      intro cur v9 wz ho hv hs hm hk hc hz
                      have hnS : ∀ y, G y → y < w7.heap.size → ¬ (y = bx ∨ w7.heap.size ≤ y) := fun y hy hlt e => by
                        rcases e with e | e
                        · exact HBS7.out.not (by rw [← e]; exact hy)
                        · omega
                      have hn := HBN.out
                      have hkz := hk.size
                      have hbw := (lawX_of HC7.out (w0 := w) (b := bx) (G := G) (X := X) (by simp))
                      have hbz : w.heap.size ≤ bx := by
                        rcases Nat.lt_or_ge bx w.heap.size with h | h
                        · exact (hbw.2.2.not (hbw.2.1 bx h)).elim
                        · exact h
                      have hwz : w.heap.size ≤ w7.heap.size := hbw.1.size
                      have hb0 : Bs wz (.slice ba x.b.length bc) x.b := by
                        rw [← HBV.out]
                        exact HXB.out.below (hbw.1.trans (hs.below (fun k hk => by omega)))
                      have hbox : Box wz (fun y => G y ∨ w7.heap.size ≤ y ∧ y < wz.heap.size) v9 (M ++ [x.b]) := by
                        refine ⟨rows ++ [.slice ba x.b.length bc], ?_, fun _ y hy => ?_, ?_⟩
                        · have := (ho.keep hk (fun y hy e => by have h1 := hv y hy; omega)).sl
                          rw [show (M ++ [x.b]).length = M.length + 1 by simp]
                          exact this
                        · have h1 := hv y hy
                          exact .inr ⟨h1.1, by omega⟩
                        · refine RowsB.snoc (hrb.keep hs hnS (fun _ h => .inl h)) hb0 (fun h0 y hy => .inl (hbw.2.1 y ?_))
                          have h2 := HXB.out.own_lt (by decide) h0 y (by rw [HBV.out]; exact hy)
                          exact h2
                      exact (lawX_put (HC7.out.front (m := [_, _, _]) (l := []) [2, 0, 1] 3 (by decide)) HTX.out hm hs hbox).front (m := [_, _, _]) (l := []) [1, 2, 0] 3 (by decide))
                    obtain ⟨wd, hwd⟩ : ∃ wd, wd = World.drew w7 := ⟨_, rfl⟩
                    have hb : Below w7.heap.size w7 wd := by rw [hwd]; exact (Below.refl _ _).drew
                    have HBW := hI hb
                    have HTV := hI (HTV.out.below hb)
                    have HMC := hI (HM7.out.keep (Keeps.of_below hb) (by have := HM7.out.lt; omega))
                    have HSL := hI (hsl.below hb)
                    have HS : Hid (Keeps (fun y => y = bx ∨ w7.heap.size ≤ y) w7 wd) := hI ((Keeps.of_below hb).mono (fun k hk => .inr hk))
                    clear hb hsl how hrb
                    refine wp_region_held (S := fun W : World => Keeps (fun y => y = bx ∨ w7.heap.size ≤ y) w7 W) (by kernel_rfl) ?_
                    change wpAnyH _ _ _ _ _ _ _ _ (World.drew _)
                    rw [← hwd]
                    clear hwd
                    refine tkH 0 87 none (.map (some bx)) rfl (by kernel_rfl) (fun _ _ _ h => h) (by rfl) (by intro W hW; go_simp) HS.out ?_
                    simp only [Act.put, q1, q2, q3]
                    refine tkH 1 88 none (.agg cs.toArray) rfl (by kernel_rfl) (fun _ _ _ h => h) (by rfl) (by intro W hW; exact exec_ldAgg rfl aggRef rfl (cs := cs) HCL.out ((HX7.out.keep hW (fun e => by have h1 := HP5.out; omega)).cellsAll)) HS.out ?_
                    simp only [Act.put, q1, q2, q3]
                    refine tkH 4 91 none (.slice ma M.length mc) rfl (by kernel_rfl) (fun _ _ _ h => h) (by rfl) (by intro W hW; go_simp) HS.out ?_
                    simp only [Act.put, q1, q2, q3]
                    refine tkH 6 93 none (.pointer (some ⟨g, 2, none⟩)) rfl (by kernel_rfl) (fun _ _ _ h => h) (by rfl) (by intro W hW; go_simp) HS.out ?_
                    simp only [Act.put, q1, q2, q3]
                    refine tkH 7 94 none (.slice ba x.b.length bc) rfl (by kernel_rfl) (fun _ _ _ h => h) (by rfl) (by intro W hW; have hc : W.cell? ⟨g, 2, none⟩ = some (.slice ba x.b.length bc) := (by rw [← HBV.out]; exact (HG7.out.keep hW (fun e => by have h1 := HG7.out.lt; have h2 := HGB.out; omega)).cell 2); go_simp) HS.out ?_
                    simp only [Act.put, q1, q2, q3]
                    refine anyH_ready (rs := [2, 3, 8]) (by decide +kernel) (by simp) ?_
                    refine AllReadyH.cons (o := { dst := some 89, op := .call { callee := .value (.func 10), args := #[.tmp 88], argTypes := #[37] }, type := _, pos := _, after := _, guard := none }) rfl (fun K hK => ?_) (AllReadyH.cons (o := { dst := some 90, op := .buildSlice 30 0 #[], type := _, pos := _, after := _, guard := none }) rfl (fun K hK => ?_) (AllReadyH.cons (o := { dst := some 95, op := .buildSlice 30 1 #[(0, .tmp 94)], type := _, pos := _, after := _, guard := none }) rfl (fun K hK => ?_) AllReadyH.nil))
                    · go_simp
                      refine (HTO7.out _ HTV.out).mono ?_
                      rintro e v2 ⟨rfl, hb⟩
                      have HBW := hI (HBW.out.trans (hb.mono HBW.out.size))
                      have HTV := hI (HTV.out.below hb)
                      have HMC := hI (HMC.out.keep (Keeps.of_below hb) (by have := HMC.out.lt; omega))
                      have HSL := hI (HSL.out.below hb)
                      have HS : Hid (Keeps (fun y => y = bx ∨ w7.heap.size ≤ y) w7 v2) := hI ((Keeps.of_below HBW.out).mono (fun k hk => .inr hk))
                      clear hb
                      refine hK _ _ HS.out ?_
                      clear hK K
                      try simp only [Act.put, q1, q2, q3]
                      refine anyH_ready (rs := [3, 8]) (by decide +kernel) (by simp) ?_
                      refine AllReadyH.cons (o := { dst := some 90, op := .buildSlice 30 0 #[], type := _, pos := _, after := _, guard := none }) rfl (fun K hK => ?_) (AllReadyH.cons (o := { dst := some 95, op := .buildSlice 30 1 #[(0, .tmp 94)], type := _, pos := _, after := _, guard := none }) rfl (fun K hK => ?_) AllReadyH.nil)
                      · go_simp
                        obtain ⟨v2_3, hnw⟩ : ∃ z, z = v2.alloc (.cells #[] 27) := ⟨_, rfl⟩
                        obtain ⟨q3, hq3⟩ : ∃ q3, q3 = v2.heap.size := ⟨_, rfl⟩
                        rw [← hnw, ← hq3]
                        have hb : Below v2.heap.size v2 v2_3 := by rw [hnw]; exact (Below.refl _ _).alloc (Nat.le_refl _) _
                        have HQ : Hid (w7.heap.size ≤ q3 ∧ q3 < v2_3.heap.size) := hI (by rw [hnw, hq3]; exact ⟨HBW.out.size, by simp⟩)
                        have HBW := hI (HBW.out.trans (hb.mono HBW.out.size))
                        have HTV := hI (HTV.out.below hb)
                        have HMC := hI (HMC.out.keep (Keeps.of_below hb) (by have := HMC.out.lt; omega))
                        have HSL := hI (HSL.out.below hb)
                        have HS : Hid (Keeps (fun y => y = bx ∨ w7.heap.size ≤ y) w7 v2_3) := hI ((Keeps.of_below HBW.out).mono (fun k hk => .inr hk))
                        clear hb hnw hq3
                        refine hK _ _ HS.out ?_
                        clear hK K
                        try simp only [Act.put, q1, q2, q3]
                        refine anyH_ready (rs := [5, 8]) (by decide +kernel) (by simp) ?_
                        refine AllReadyH.cons (o := { dst := some 92, op := .call { callee := .builtin .append, args := #[.tmp 90, .tmp 91], argTypes := #[30, 30] }, type := _, pos := _, after := _, guard := none }) rfl (fun K hK => ?_) (AllReadyH.cons (o := { dst := some 95, op := .buildSlice 30 1 #[(0, .tmp 94)], type := _, pos := _, after := _, guard := none }) rfl (fun K hK => ?_) AllReadyH.nil)
                        · refine step_app2 rfl (.tmp 90) (.tmp 91) elRows rfl v2_3.heap.size (v := .slice (some ⟨q3, 0, none⟩) 0 0) (by rfl) (Own.nil _ _ _ _ _) (fun y hy => by simp [Value.ownBlock] at hy; have := HQ.out.2; omega) (by rfl) HSL.out (by have h1 := HML.out; unfold maxLen; omega) (by have h1 := HML.out; omega) (Nat.le_refl _) ?_
                          intro v5 v2_3_5 ho5 hk5 hv5
                          rw [Nat.zero_add, List.nil_append] at ho5
                          have hb : Below v2_3.heap.size v2_3 v2_3_5 := hk5.below (fun k hk => by
                            rcases hk with ⟨h1, h2⟩ | h
                            · simp [Value.ownBlock] at h1
                              have := HQ.out.2
                              omega
                            · omega)
                          have HO5' : Hid (Own v2_3_5 w7.heap.size 27 1 v5 M.length rows) := hI (ho5.base HBW.out.size)
                          have HV5' : Hid (∀ y, v5.ownBlock = some y → w7.heap.size ≤ y ∧ y < v2_3_5.heap.size) := hI (fun y hy => by
                            have h1 := hv5 y hy
                            have h2 := HBW.out.size
                            have h3 := HQ.out.1
                            refine ⟨?_, h1.2⟩
                            rcases h1.1 with h | h
                            · simp [Value.ownBlock] at h
                              omega
                            · omega)
                          have HBW := hI (HBW.out.trans (hb.mono HBW.out.size))
                          have HTV := hI (HTV.out.below hb)
                          have HMC := hI (HMC.out.keep (Keeps.of_below hb) (by have := HMC.out.lt; omega))
                          have HSL := hI (HSL.out.below hb)
                          have HQ := hI (And.intro HQ.out.1 (Nat.lt_of_lt_of_le HQ.out.2 hb.size))
                          have HS : Hid (Keeps (fun y => y = bx ∨ w7.heap.size ≤ y) w7 v2_3_5) := hI ((Keeps.of_below HBW.out).mono (fun k hk => .inr hk))
                          have HO5 := HO5'
                          have HV5 := HV5'
                          clear hb ho5 hk5 hv5 HO5' HV5'
                          refine hK _ _ HS.out ?_
                          clear hK K
                          try simp only [Act.put, q1, q2, q3]
                          refine anyH_ready (rs := [8]) (by decide +kernel) (by simp) ?_
                          refine AllReadyH.cons (o := { dst := some 95, op := .buildSlice 30 1 #[(0, .tmp 94)], type := _, pos := _, after := _, guard := none }) rfl (fun K hK => ?_) AllReadyH.nil
                          go_simp
                          obtain ⟨v2_3_5_8, hnw⟩ : ∃ z, z = v2_3_5.alloc (.cells #[.slice ba x.b.length bc] 27) := ⟨_, rfl⟩
                          obtain ⟨q8, hq8⟩ : ∃ q8, q8 = v2_3_5.heap.size := ⟨_, rfl⟩
                          rw [← hnw, ← hq8]
                          have hb : Below v2_3_5.heap.size v2_3_5 v2_3_5_8 := by rw [hnw]; exact (Below.refl _ _).alloc (Nat.le_refl _) _
                          have HL8 : Hid (Sl v2_3_5_8 1 (.slice (some ⟨q8, 0, none⟩) 1 1) 1 [.slice ba x.b.length bc]) := hI (by rw [hnw]; exact Sl.lit hq8.symm rfl (by simp [Value.oneCell']) (by unfold maxLen; decide))
                          have HBW := hI (HBW.out.trans (hb.mono HBW.out.size))
                          have HTV := hI (HTV.out.below hb)
                          have HMC := hI (HMC.out.keep (Keeps.of_below hb) (by have := HMC.out.lt; omega))
                          have HSL := hI (HSL.out.below hb)
                          have HO5 := hI (HO5.out.below hb)
                          have HV5 : Hid (∀ y, v5.ownBlock = some y → w7.heap.size ≤ y ∧ y < v2_3_5_8.heap.size) := hI (fun y hy => ⟨(HV5.out y hy).1, Nat.lt_of_lt_of_le (HV5.out y hy).2 hb.size⟩)
                          have HS : Hid (Keeps (fun y => y = bx ∨ w7.heap.size ≤ y) w7 v2_3_5_8) := hI ((Keeps.of_below HBW.out).mono (fun k hk => .inr hk))
                          clear hb hnw hq8
                          refine hK _ _ HS.out ?_
                          clear hK K
                          try simp only [Act.put, q1, q2, q3]
                          refine anyH_ready (rs := [9]) (by decide +kernel) (by simp) ?_
                          refine AllReadyH.cons (o := { dst := some 96, op := .call { callee := .builtin .append, args := #[.tmp 92, .tmp 95], argTypes := #[30, 30] }, type := _, pos := _, after := _, guard := none }) rfl (fun K hK => ?_) AllReadyH.nil
                          refine step_app2 rfl (.tmp 92) (.tmp 95) elRows rfl w7.heap.size (by rfl) HO5.out (fun y hy => (HV5.out y hy).2) (by rfl) HL8.out (by have h1 := HML.out; unfold maxLen; omega) (by have h1 := HML.out; omega) HBW.out.size ?_
                          intro v9 v2_3_5_8_9 ho9 hk9 hv9
                          have HO9 := hI ho9
                          have HV9 : Hid (∀ y, v9.ownBlock = some y → w7.heap.size ≤ y ∧ y < v2_3_5_8_9.heap.size) := hI (fun y hy => by
                            have h1 := hv9 y hy
                            have h2 := HBW.out.size
                            refine ⟨?_, h1.2⟩
                            rcases h1.1 with h | h
                            · exact (HV5.out y h).1
                            · omega)
                          have HS : Hid (Keeps (fun y => y = bx ∨ w7.heap.size ≤ y) w7 v2_3_5_8_9) := hI (HS.out.trans (hk9.mono (fun k hk => .inr (by
                            have h2 := HBW.out.size
                            rcases hk with h | h <;> omega))))
                          have HMC := hI (HMC.out.keep hk9 (by
                            have h1 := HBN.out
                            have h2 := HBW.out.size
                            rintro (h | h) <;> omega))
                          clear ho9 hk9 hv9
                          refine hK _ _ HS.out ?_
                          clear hK K
                          try simp only [Act.put, q1, q2, q3]
                          refine anyH_ready (rs := [10]) (by decide +kernel) (by simp) ?_
                          refine AllReadyH.cons (o := { dst := none, op := .mapUpdate 26 (.tmp 87) (.tmp 89) (.tmp 96), type := _, pos := _, after := _, guard := none }) rfl (fun K hK => ?_) AllReadyH.nil
                          refine step_updateV rfl (.tmp 87) (.tmp 89) (.tmp 96) rfl 9 30 strKV kS_inj Try.underlying26 bx _ (by rfl) HMC.out HFW.out s (by exact HKS.out) ?_
                          intro wz hm hk hz
                          have HMZ := hI hm
                          have HKZ := hI hk
                          have HCZ : Hid (w7.heap.size ≤ v2_3_5_8_9.heap.size) := hI HS.out.size
                          have HZZ := hI hz
                          have HS : Hid (Keeps (fun y => y = bx ∨ w7.heap.size ≤ y) w7 wz) := hI (HS.out.trans (hk.mono (fun k hk => hk.imp id (fun h => Nat.le_trans HS.out.size h))))
                          clear hm hk hz
                          refine hK _ _ HS.out ?_
                          clear hK K
                          try simp only [Act.put, q1, q2, q3]
                          refine wpAnyH_done (by decide +kernel) ?_ _
                          go_wp2_with fail
                          go_meet
                          exact ⟨rfl, HFIN.out _ v9 wz HO9.out HV9.out HS.out HMZ.out HKZ.out HCZ.out (Nat.le_of_eq HZZ.out)⟩
                        · go_simp
                          obtain ⟨v2_3_8, hnw⟩ : ∃ z, z = v2_3.alloc (.cells #[.slice ba x.b.length bc] 27) := ⟨_, rfl⟩
                          obtain ⟨q8, hq8⟩ : ∃ q8, q8 = v2_3.heap.size := ⟨_, rfl⟩
                          rw [← hnw, ← hq8]
                          have hb : Below v2_3.heap.size v2_3 v2_3_8 := by rw [hnw]; exact (Below.refl _ _).alloc (Nat.le_refl _) _
                          have HL8 : Hid (Sl v2_3_8 1 (.slice (some ⟨q8, 0, none⟩) 1 1) 1 [.slice ba x.b.length bc]) := hI (by rw [hnw]; exact Sl.lit hq8.symm rfl (by simp [Value.oneCell']) (by unfold maxLen; decide))
                          have HBW := hI (HBW.out.trans (hb.mono HBW.out.size))
                          have HTV := hI (HTV.out.below hb)
                          have HMC := hI (HMC.out.keep (Keeps.of_below hb) (by have := HMC.out.lt; omega))
                          have HSL := hI (HSL.out.below hb)
                          have HQ := hI (And.intro HQ.out.1 (Nat.lt_of_lt_of_le HQ.out.2 hb.size))
                          have HS : Hid (Keeps (fun y => y = bx ∨ w7.heap.size ≤ y) w7 v2_3_8) := hI ((Keeps.of_below HBW.out).mono (fun k hk => .inr hk))
                          clear hb hnw hq8
                          refine hK _ _ HS.out ?_
                          clear hK K
                          try simp only [Act.put, q1, q2, q3]
                          refine anyH_ready (rs := [5]) (by decide +kernel) (by simp) ?_
                          refine AllReadyH.cons (o := { dst := some 92, op := .call { callee := .builtin .append, args := #[.tmp 90, .tmp 91], argTypes := #[30, 30] }, type := _, pos := _, after := _, guard := none }) rfl (fun K hK => ?_) AllReadyH.nil
                          refine step_app2 rfl (.tmp 90) (.tmp 91) elRows rfl v2_3_8.heap.size (v := .slice (some ⟨q3, 0, none⟩) 0 0) (by rfl) (Own.nil _ _ _ _ _) (fun y hy => by simp [Value.ownBlock] at hy; have := HQ.out.2; omega) (by rfl) HSL.out (by have h1 := HML.out; unfold maxLen; omega) (by have h1 := HML.out; omega) (Nat.le_refl _) ?_
                          intro v5 v2_3_5_8 ho5 hk5 hv5
                          rw [Nat.zero_add, List.nil_append] at ho5
                          have hb : Below v2_3_8.heap.size v2_3_8 v2_3_5_8 := hk5.below (fun k hk => by
                            rcases hk with ⟨h1, h2⟩ | h
                            · simp [Value.ownBlock] at h1
                              have := HQ.out.2
                              omega
                            · omega)
                          have HO5' : Hid (Own v2_3_5_8 w7.heap.size 27 1 v5 M.length rows) := hI (ho5.base HBW.out.size)
                          have HV5' : Hid (∀ y, v5.ownBlock = some y → w7.heap.size ≤ y ∧ y < v2_3_5_8.heap.size) := hI (fun y hy => by
                            have h1 := hv5 y hy
                            have h2 := HBW.out.size
                            have h3 := HQ.out.1
                            refine ⟨?_, h1.2⟩
                            rcases h1.1 with h | h
                            · simp [Value.ownBlock] at h
                              omega
                            · omega)
                          have HBW := hI (HBW.out.trans (hb.mono HBW.out.size))
                          have HTV := hI (HTV.out.below hb)
                          have HMC := hI (HMC.out.keep (Keeps.of_below hb) (by have := HMC.out.lt; omega))
                          have HSL := hI (HSL.out.below hb)
                          have HQ := hI (And.intro HQ.out.1 (Nat.lt_of_lt_of_le HQ.out.2 hb.size))
                          have HL8 := hI (HL8.out.below hb)
                          have HS : Hid (Keeps (fun y => y = bx ∨ w7.heap.size ≤ y) w7 v2_3_5_8) := hI ((Keeps.of_below HBW.out).mono (fun k hk => .inr hk))
                          have HO5 := HO5'
                          have HV5 := HV5'
                          clear hb ho5 hk5 hv5 HO5' HV5'
                          refine hK _ _ HS.out ?_
                          clear hK K
                          try simp only [Act.put, q1, q2, q3]
                          refine anyH_ready (rs := [9]) (by decide +kernel) (by simp) ?_
                          refine AllReadyH.cons (o := { dst := some 96, op := .call { callee := .builtin .append, args := #[.tmp 92, .tmp 95], argTypes := #[30, 30] }, type := _, pos := _, after := _, guard := none }) rfl (fun K hK => ?_) AllReadyH.nil
                          refine step_app2 rfl (.tmp 92) (.tmp 95) elRows rfl w7.heap.size (by rfl) HO5.out (fun y hy => (HV5.out y hy).2) (by rfl) HL8.out (by have h1 := HML.out; unfold maxLen; omega) (by have h1 := HML.out; omega) HBW.out.size ?_
                          intro v9 v2_3_5_8_9 ho9 hk9 hv9
                          have HO9 := hI ho9
                          have HV9 : Hid (∀ y, v9.ownBlock = some y → w7.heap.size ≤ y ∧ y < v2_3_5_8_9.heap.size) := hI (fun y hy => by
                            have h1 := hv9 y hy
                            have h2 := HBW.out.size
                            refine ⟨?_, h1.2⟩
                            rcases h1.1 with h | h
                            · exact (HV5.out y h).1
                            · omega)
                          have HS : Hid (Keeps (fun y => y = bx ∨ w7.heap.size ≤ y) w7 v2_3_5_8_9) := hI (HS.out.trans (hk9.mono (fun k hk => .inr (by
                            have h2 := HBW.out.size
                            rcases hk with h | h <;> omega))))
                          have HMC := hI (HMC.out.keep hk9 (by
                            have h1 := HBN.out
                            have h2 := HBW.out.size
                            rintro (h | h) <;> omega))
                          clear ho9 hk9 hv9
                          refine hK _ _ HS.out ?_
                          clear hK K
                          try simp only [Act.put, q1, q2, q3]
                          refine anyH_ready (rs := [10]) (by decide +kernel) (by simp) ?_
                          refine AllReadyH.cons (o := { dst := none, op := .mapUpdate 26 (.tmp 87) (.tmp 89) (.tmp 96), type := _, pos := _, after := _, guard := none }) rfl (fun K hK => ?_) AllReadyH.nil
                          refine step_updateV rfl (.tmp 87) (.tmp 89) (.tmp 96) rfl 9 30 strKV kS_inj Try.underlying26 bx _ (by rfl) HMC.out HFW.out s (by exact HKS.out) ?_
                          intro wz hm hk hz
                          have HMZ := hI hm
                          have HKZ := hI hk
                          have HCZ : Hid (w7.heap.size ≤ v2_3_5_8_9.heap.size) := hI HS.out.size
                          have HZZ := hI hz
                          have HS : Hid (Keeps (fun y => y = bx ∨ w7.heap.size ≤ y) w7 wz) := hI (HS.out.trans (hk.mono (fun k hk => hk.imp id (fun h => Nat.le_trans HS.out.size h))))
                          clear hm hk hz
                          refine hK _ _ HS.out ?_
                          clear hK K
                          try simp only [Act.put, q1, q2, q3]
                          refine wpAnyH_done (by decide +kernel) ?_ _
                          go_wp2_with fail
                          go_meet
                          exact ⟨rfl, HFIN.out _ v9 wz HO9.out HV9.out HS.out HMZ.out HKZ.out HCZ.out (Nat.le_of_eq HZZ.out)⟩
                      · go_simp
                        obtain ⟨v2_8, hnw⟩ : ∃ z, z = v2.alloc (.cells #[.slice ba x.b.length bc] 27) := ⟨_, rfl⟩
                        obtain ⟨q8, hq8⟩ : ∃ q8, q8 = v2.heap.size := ⟨_, rfl⟩
                        rw [← hnw, ← hq8]
                        have hb : Below v2.heap.size v2 v2_8 := by rw [hnw]; exact (Below.refl _ _).alloc (Nat.le_refl _) _
                        have HL8 : Hid (Sl v2_8 1 (.slice (some ⟨q8, 0, none⟩) 1 1) 1 [.slice ba x.b.length bc]) := hI (by rw [hnw]; exact Sl.lit hq8.symm rfl (by simp [Value.oneCell']) (by unfold maxLen; decide))
                        have HBW := hI (HBW.out.trans (hb.mono HBW.out.size))
                        have HTV := hI (HTV.out.below hb)
                        have HMC := hI (HMC.out.keep (Keeps.of_below hb) (by have := HMC.out.lt; omega))
                        have HSL := hI (HSL.out.below hb)
                        have HS : Hid (Keeps (fun y => y = bx ∨ w7.heap.size ≤ y) w7 v2_8) := hI ((Keeps.of_below HBW.out).mono (fun k hk => .inr hk))
                        clear hb hnw hq8
                        refine hK _ _ HS.out ?_
                        clear hK K
                        try simp only [Act.put, q1, q2, q3]
                        refine anyH_ready (rs := [3]) (by decide +kernel) (by simp) ?_
                        refine AllReadyH.cons (o := { dst := some 90, op := .buildSlice 30 0 #[], type := _, pos := _, after := _, guard := none }) rfl (fun K hK => ?_) AllReadyH.nil
                        go_simp
                        obtain ⟨v2_3_8, hnw⟩ : ∃ z, z = v2_8.alloc (.cells #[] 27) := ⟨_, rfl⟩
                        obtain ⟨q3, hq3⟩ : ∃ q3, q3 = v2_8.heap.size := ⟨_, rfl⟩
                        rw [← hnw, ← hq3]
                        have hb : Below v2_8.heap.size v2_8 v2_3_8 := by rw [hnw]; exact (Below.refl _ _).alloc (Nat.le_refl _) _
                        have HQ : Hid (w7.heap.size ≤ q3 ∧ q3 < v2_3_8.heap.size) := hI (by rw [hnw, hq3]; exact ⟨HBW.out.size, by simp⟩)
                        have HBW := hI (HBW.out.trans (hb.mono HBW.out.size))
                        have HTV := hI (HTV.out.below hb)
                        have HMC := hI (HMC.out.keep (Keeps.of_below hb) (by have := HMC.out.lt; omega))
                        have HSL := hI (HSL.out.below hb)
                        have HL8 := hI (HL8.out.below hb)
                        have HS : Hid (Keeps (fun y => y = bx ∨ w7.heap.size ≤ y) w7 v2_3_8) := hI ((Keeps.of_below HBW.out).mono (fun k hk => .inr hk))
                        clear hb hnw hq3
                        refine hK _ _ HS.out ?_
                        clear hK K
                        try simp only [Act.put, q1, q2, q3]
                        refine anyH_ready (rs := [5]) (by decide +kernel) (by simp) ?_
                        refine AllReadyH.cons (o := { dst := some 92, op := .call { callee := .builtin .append, args := #[.tmp 90, .tmp 91], argTypes := #[30, 30] }, type := _, pos := _, after := _, guard := none }) rfl (fun K hK => ?_) AllReadyH.nil
                        refine step_app2 rfl (.tmp 90) (.tmp 91) elRows rfl v2_3_8.heap.size (v := .slice (some ⟨q3, 0, none⟩) 0 0) (by rfl) (Own.nil _ _ _ _ _) (fun y hy => by simp [Value.ownBlock] at hy; have := HQ.out.2; omega) (by rfl) HSL.out (by have h1 := HML.out; unfold maxLen; omega) (by have h1 := HML.out; omega) (Nat.le_refl _) ?_
                        intro v5 v2_3_5_8 ho5 hk5 hv5
                        rw [Nat.zero_add, List.nil_append] at ho5
                        have hb : Below v2_3_8.heap.size v2_3_8 v2_3_5_8 := hk5.below (fun k hk => by
                          rcases hk with ⟨h1, h2⟩ | h
                          · simp [Value.ownBlock] at h1
                            have := HQ.out.2
                            omega
                          · omega)
                        have HO5' : Hid (Own v2_3_5_8 w7.heap.size 27 1 v5 M.length rows) := hI (ho5.base HBW.out.size)
                        have HV5' : Hid (∀ y, v5.ownBlock = some y → w7.heap.size ≤ y ∧ y < v2_3_5_8.heap.size) := hI (fun y hy => by
                          have h1 := hv5 y hy
                          have h2 := HBW.out.size
                          have h3 := HQ.out.1
                          refine ⟨?_, h1.2⟩
                          rcases h1.1 with h | h
                          · simp [Value.ownBlock] at h
                            omega
                          · omega)
                        have HBW := hI (HBW.out.trans (hb.mono HBW.out.size))
                        have HTV := hI (HTV.out.below hb)
                        have HMC := hI (HMC.out.keep (Keeps.of_below hb) (by have := HMC.out.lt; omega))
                        have HSL := hI (HSL.out.below hb)
                        have HQ := hI (And.intro HQ.out.1 (Nat.lt_of_lt_of_le HQ.out.2 hb.size))
                        have HL8 := hI (HL8.out.below hb)
                        have HS : Hid (Keeps (fun y => y = bx ∨ w7.heap.size ≤ y) w7 v2_3_5_8) := hI ((Keeps.of_below HBW.out).mono (fun k hk => .inr hk))
                        have HO5 := HO5'
                        have HV5 := HV5'
                        clear hb ho5 hk5 hv5 HO5' HV5'
                        refine hK _ _ HS.out ?_
                        clear hK K
                        try simp only [Act.put, q1, q2, q3]
                        refine anyH_ready (rs := [9]) (by decide +kernel) (by simp) ?_
                        refine AllReadyH.cons (o := { dst := some 96, op := .call { callee := .builtin .append, args := #[.tmp 92, .tmp 95], argTypes := #[30, 30] }, type := _, pos := _, after := _, guard := none }) rfl (fun K hK => ?_) AllReadyH.nil
                        refine step_app2 rfl (.tmp 92) (.tmp 95) elRows rfl w7.heap.size (by rfl) HO5.out (fun y hy => (HV5.out y hy).2) (by rfl) HL8.out (by have h1 := HML.out; unfold maxLen; omega) (by have h1 := HML.out; omega) HBW.out.size ?_
                        intro v9 v2_3_5_8_9 ho9 hk9 hv9
                        have HO9 := hI ho9
                        have HV9 : Hid (∀ y, v9.ownBlock = some y → w7.heap.size ≤ y ∧ y < v2_3_5_8_9.heap.size) := hI (fun y hy => by
                          have h1 := hv9 y hy
                          have h2 := HBW.out.size
                          refine ⟨?_, h1.2⟩
                          rcases h1.1 with h | h
                          · exact (HV5.out y h).1
                          · omega)
                        have HS : Hid (Keeps (fun y => y = bx ∨ w7.heap.size ≤ y) w7 v2_3_5_8_9) := hI (HS.out.trans (hk9.mono (fun k hk => .inr (by
                          have h2 := HBW.out.size
                          rcases hk with h | h <;> omega))))
                        have HMC := hI (HMC.out.keep hk9 (by
                          have h1 := HBN.out
                          have h2 := HBW.out.size
                          rintro (h | h) <;> omega))
                        clear ho9 hk9 hv9
                        refine hK _ _ HS.out ?_
                        clear hK K
                        try simp only [Act.put, q1, q2, q3]
                        refine anyH_ready (rs := [10]) (by decide +kernel) (by simp) ?_
                        refine AllReadyH.cons (o := { dst := none, op := .mapUpdate 26 (.tmp 87) (.tmp 89) (.tmp 96), type := _, pos := _, after := _, guard := none }) rfl (fun K hK => ?_) AllReadyH.nil
                        refine step_updateV rfl (.tmp 87) (.tmp 89) (.tmp 96) rfl 9 30 strKV kS_inj Try.underlying26 bx _ (by rfl) HMC.out HFW.out s (by exact HKS.out) ?_
                        intro wz hm hk hz
                        have HMZ := hI hm
                        have HKZ := hI hk
                        have HCZ : Hid (w7.heap.size ≤ v2_3_5_8_9.heap.size) := hI HS.out.size
                        have HZZ := hI hz
                        have HS : Hid (Keeps (fun y => y = bx ∨ w7.heap.size ≤ y) w7 wz) := hI (HS.out.trans (hk.mono (fun k hk => hk.imp id (fun h => Nat.le_trans HS.out.size h))))
                        clear hm hk hz
                        refine hK _ _ HS.out ?_
                        clear hK K
                        try simp only [Act.put, q1, q2, q3]
                        refine wpAnyH_done (by decide +kernel) ?_ _
                        go_wp2_with fail
                        go_meet
                        exact ⟨rfl, HFIN.out _ v9 wz HO9.out HV9.out HS.out HMZ.out HKZ.out HCZ.out (Nat.le_of_eq HZZ.out)⟩
                    · go_simp
                      obtain ⟨v3, hnw⟩ : ∃ z, z = wd.alloc (.cells #[] 27) := ⟨_, rfl⟩
                      obtain ⟨q3, hq3⟩ : ∃ q3, q3 = wd.heap.size := ⟨_, rfl⟩
                      rw [← hnw, ← hq3]
                      have hb : Below wd.heap.size wd v3 := by rw [hnw]; exact (Below.refl _ _).alloc (Nat.le_refl _) _
                      have HQ : Hid (w7.heap.size ≤ q3 ∧ q3 < v3.heap.size) := hI (by rw [hnw, hq3]; exact ⟨HBW.out.size, by simp⟩)
                      have HBW := hI (HBW.out.trans (hb.mono HBW.out.size))
                      have HTV := hI (HTV.out.below hb)
                      have HMC := hI (HMC.out.keep (Keeps.of_below hb) (by have := HMC.out.lt; omega))
                      have HSL := hI (HSL.out.below hb)
                      have HS : Hid (Keeps (fun y => y = bx ∨ w7.heap.size ≤ y) w7 v3) := hI ((Keeps.of_below HBW.out).mono (fun k hk => .inr hk))
                      clear hb hnw hq3
                      refine hK _ _ HS.out ?_
                      clear hK K
                      try simp only [Act.put, q1, q2, q3]
                      refine anyH_ready (rs := [2, 8]) (by decide +kernel) (by simp) ?_
                      refine AllReadyH.cons (o := { dst := some 89, op := .call { callee := .value (.func 10), args := #[.tmp 88], argTypes := #[37] }, type := _, pos := _, after := _, guard := none }) rfl (fun K hK => ?_) (AllReadyH.cons (o := { dst := some 95, op := .buildSlice 30 1 #[(0, .tmp 94)], type := _, pos := _, after := _, guard := none }) rfl (fun K hK => ?_) AllReadyH.nil)
                      · go_simp
                        refine (HTO7.out _ HTV.out).mono ?_
                        rintro e v2_3 ⟨rfl, hb⟩
                        have HBW := hI (HBW.out.trans (hb.mono HBW.out.size))
                        have HTV := hI (HTV.out.below hb)
                        have HMC := hI (HMC.out.keep (Keeps.of_below hb) (by have := HMC.out.lt; omega))
                        have HSL := hI (HSL.out.below hb)
                        have HQ := hI (And.intro HQ.out.1 (Nat.lt_of_lt_of_le HQ.out.2 hb.size))
                        have HS : Hid (Keeps (fun y => y = bx ∨ w7.heap.size ≤ y) w7 v2_3) := hI ((Keeps.of_below HBW.out).mono (fun k hk => .inr hk))
                        clear hb
                        refine hK _ _ HS.out ?_
                        clear hK K
                        try simp only [Act.put, q1, q2, q3]
                        refine anyH_ready (rs := [5, 8]) (by decide +kernel) (by simp) ?_
                        refine AllReadyH.cons (o := { dst := some 92, op := .call { callee := .builtin .append, args := #[.tmp 90, .tmp 91], argTypes := #[30, 30] }, type := _, pos := _, after := _, guard := none }) rfl (fun K hK => ?_) (AllReadyH.cons (o := { dst := some 95, op := .buildSlice 30 1 #[(0, .tmp 94)], type := _, pos := _, after := _, guard := none }) rfl (fun K hK => ?_) AllReadyH.nil)
                        · refine step_app2 rfl (.tmp 90) (.tmp 91) elRows rfl v2_3.heap.size (v := .slice (some ⟨q3, 0, none⟩) 0 0) (by rfl) (Own.nil _ _ _ _ _) (fun y hy => by simp [Value.ownBlock] at hy; have := HQ.out.2; omega) (by rfl) HSL.out (by have h1 := HML.out; unfold maxLen; omega) (by have h1 := HML.out; omega) (Nat.le_refl _) ?_
                          intro v5 v2_3_5 ho5 hk5 hv5
                          rw [Nat.zero_add, List.nil_append] at ho5
                          have hb : Below v2_3.heap.size v2_3 v2_3_5 := hk5.below (fun k hk => by
                            rcases hk with ⟨h1, h2⟩ | h
                            · simp [Value.ownBlock] at h1
                              have := HQ.out.2
                              omega
                            · omega)
                          have HO5' : Hid (Own v2_3_5 w7.heap.size 27 1 v5 M.length rows) := hI (ho5.base HBW.out.size)
                          have HV5' : Hid (∀ y, v5.ownBlock = some y → w7.heap.size ≤ y ∧ y < v2_3_5.heap.size) := hI (fun y hy => by
                            have h1 := hv5 y hy
                            have h2 := HBW.out.size
                            have h3 := HQ.out.1
                            refine ⟨?_, h1.2⟩
                            rcases h1.1 with h | h
                            · simp [Value.ownBlock] at h
                              omega
                            · omega)
                          have HBW := hI (HBW.out.trans (hb.mono HBW.out.size))
                          have HTV := hI (HTV.out.below hb)
                          have HMC := hI (HMC.out.keep (Keeps.of_below hb) (by have := HMC.out.lt; omega))
                          have HSL := hI (HSL.out.below hb)
                          have HQ := hI (And.intro HQ.out.1 (Nat.lt_of_lt_of_le HQ.out.2 hb.size))
                          have HS : Hid (Keeps (fun y => y = bx ∨ w7.heap.size ≤ y) w7 v2_3_5) := hI ((Keeps.of_below HBW.out).mono (fun k hk => .inr hk))
                          have HO5 := HO5'
                          have HV5 := HV5'
                          clear hb ho5 hk5 hv5 HO5' HV5'
                          refine hK _ _ HS.out ?_
                          clear hK K
                          try simp only [Act.put, q1, q2, q3]
                          refine anyH_ready (rs := [8]) (by decide +kernel) (by simp) ?_
                          refine AllReadyH.cons (o := { dst := some 95, op := .buildSlice 30 1 #[(0, .tmp 94)], type := _, pos := _, after := _, guard := none }) rfl (fun K hK => ?_) AllReadyH.nil
                          go_simp
                          obtain ⟨v2_3_5_8, hnw⟩ : ∃ z, z = v2_3_5.alloc (.cells #[.slice ba x.b.length bc] 27) := ⟨_, rfl⟩
                          obtain ⟨q8, hq8⟩ : ∃ q8, q8 = v2_3_5.heap.size := ⟨_, rfl⟩
                          rw [← hnw, ← hq8]
                          have hb : Below v2_3_5.heap.size v2_3_5 v2_3_5_8 := by rw [hnw]; exact (Below.refl _ _).alloc (Nat.le_refl _) _
                          have HL8 : Hid (Sl v2_3_5_8 1 (.slice (some ⟨q8, 0, none⟩) 1 1) 1 [.slice ba x.b.length bc]) := hI (by rw [hnw]; exact Sl.lit hq8.symm rfl (by simp [Value.oneCell']) (by unfold maxLen; decide))
                          have HBW := hI (HBW.out.trans (hb.mono HBW.out.size))
                          have HTV := hI (HTV.out.below hb)
                          have HMC := hI (HMC.out.keep (Keeps.of_below hb) (by have := HMC.out.lt; omega))
                          have HSL := hI (HSL.out.below hb)
                          have HO5 := hI (HO5.out.below hb)
                          have HV5 : Hid (∀ y, v5.ownBlock = some y → w7.heap.size ≤ y ∧ y < v2_3_5_8.heap.size) := hI (fun y hy => ⟨(HV5.out y hy).1, Nat.lt_of_lt_of_le (HV5.out y hy).2 hb.size⟩)
                          have HS : Hid (Keeps (fun y => y = bx ∨ w7.heap.size ≤ y) w7 v2_3_5_8) := hI ((Keeps.of_below HBW.out).mono (fun k hk => .inr hk))
                          clear hb hnw hq8
                          refine hK _ _ HS.out ?_
                          clear hK K
                          try simp only [Act.put, q1, q2, q3]
                          refine anyH_ready (rs := [9]) (by decide +kernel) (by simp) ?_
                          refine AllReadyH.cons (o := { dst := some 96, op := .call { callee := .builtin .append, args := #[.tmp 92, .tmp 95], argTypes := #[30, 30] }, type := _, pos := _, after := _, guard := none }) rfl (fun K hK => ?_) AllReadyH.nil
                          refine step_app2 rfl (.tmp 92) (.tmp 95) elRows rfl w7.heap.size (by rfl) HO5.out (fun y hy => (HV5.out y hy).2) (by rfl) HL8.out (by have h1 := HML.out; unfold maxLen; omega) (by have h1 := HML.out; omega) HBW.out.size ?_
                          intro v9 v2_3_5_8_9 ho9 hk9 hv9
                          have HO9 := hI ho9
                          have HV9 : Hid (∀ y, v9.ownBlock = some y → w7.heap.size ≤ y ∧ y < v2_3_5_8_9.heap.size) := hI (fun y hy => by
                            have h1 := hv9 y hy
                            have h2 := HBW.out.size
                            refine ⟨?_, h1.2⟩
                            rcases h1.1 with h | h
                            · exact (HV5.out y h).1
                            · omega)
                          have HS : Hid (Keeps (fun y => y = bx ∨ w7.heap.size ≤ y) w7 v2_3_5_8_9) := hI (HS.out.trans (hk9.mono (fun k hk => .inr (by
                            have h2 := HBW.out.size
                            rcases hk with h | h <;> omega))))
                          have HMC := hI (HMC.out.keep hk9 (by
                            have h1 := HBN.out
                            have h2 := HBW.out.size
                            rintro (h | h) <;> omega))
                          clear ho9 hk9 hv9
                          refine hK _ _ HS.out ?_
                          clear hK K
                          try simp only [Act.put, q1, q2, q3]
                          refine anyH_ready (rs := [10]) (by decide +kernel) (by simp) ?_
                          refine AllReadyH.cons (o := { dst := none, op := .mapUpdate 26 (.tmp 87) (.tmp 89) (.tmp 96), type := _, pos := _, after := _, guard := none }) rfl (fun K hK => ?_) AllReadyH.nil
                          refine step_updateV rfl (.tmp 87) (.tmp 89) (.tmp 96) rfl 9 30 strKV kS_inj Try.underlying26 bx _ (by rfl) HMC.out HFW.out s (by exact HKS.out) ?_
                          intro wz hm hk hz
                          have HMZ := hI hm
                          have HKZ := hI hk
                          have HCZ : Hid (w7.heap.size ≤ v2_3_5_8_9.heap.size) := hI HS.out.size
                          have HZZ := hI hz
                          have HS : Hid (Keeps (fun y => y = bx ∨ w7.heap.size ≤ y) w7 wz) := hI (HS.out.trans (hk.mono (fun k hk => hk.imp id (fun h => Nat.le_trans HS.out.size h))))
                          clear hm hk hz
                          refine hK _ _ HS.out ?_
                          clear hK K
                          try simp only [Act.put, q1, q2, q3]
                          refine wpAnyH_done (by decide +kernel) ?_ _
                          go_wp2_with fail
                          go_meet
                          exact ⟨rfl, HFIN.out _ v9 wz HO9.out HV9.out HS.out HMZ.out HKZ.out HCZ.out (Nat.le_of_eq HZZ.out)⟩
                        · go_simp
                          obtain ⟨v2_3_8, hnw⟩ : ∃ z, z = v2_3.alloc (.cells #[.slice ba x.b.length bc] 27) := ⟨_, rfl⟩
                          obtain ⟨q8, hq8⟩ : ∃ q8, q8 = v2_3.heap.size := ⟨_, rfl⟩
                          rw [← hnw, ← hq8]
                          have hb : Below v2_3.heap.size v2_3 v2_3_8 := by rw [hnw]; exact (Below.refl _ _).alloc (Nat.le_refl _) _
                          have HL8 : Hid (Sl v2_3_8 1 (.slice (some ⟨q8, 0, none⟩) 1 1) 1 [.slice ba x.b.length bc]) := hI (by rw [hnw]; exact Sl.lit hq8.symm rfl (by simp [Value.oneCell']) (by unfold maxLen; decide))
                          have HBW := hI (HBW.out.trans (hb.mono HBW.out.size))
                          have HTV := hI (HTV.out.below hb)
                          have HMC := hI (HMC.out.keep (Keeps.of_below hb) (by have := HMC.out.lt; omega))
                          have HSL := hI (HSL.out.below hb)
                          have HQ := hI (And.intro HQ.out.1 (Nat.lt_of_lt_of_le HQ.out.2 hb.size))
                          have HS : Hid (Keeps (fun y => y = bx ∨ w7.heap.size ≤ y) w7 v2_3_8) := hI ((Keeps.of_below HBW.out).mono (fun k hk => .inr hk))
                          clear hb hnw hq8
                          refine hK _ _ HS.out ?_
                          clear hK K
                          try simp only [Act.put, q1, q2, q3]
                          refine anyH_ready (rs := [5]) (by decide +kernel) (by simp) ?_
                          refine AllReadyH.cons (o := { dst := some 92, op := .call { callee := .builtin .append, args := #[.tmp 90, .tmp 91], argTypes := #[30, 30] }, type := _, pos := _, after := _, guard := none }) rfl (fun K hK => ?_) AllReadyH.nil
                          refine step_app2 rfl (.tmp 90) (.tmp 91) elRows rfl v2_3_8.heap.size (v := .slice (some ⟨q3, 0, none⟩) 0 0) (by rfl) (Own.nil _ _ _ _ _) (fun y hy => by simp [Value.ownBlock] at hy; have := HQ.out.2; omega) (by rfl) HSL.out (by have h1 := HML.out; unfold maxLen; omega) (by have h1 := HML.out; omega) (Nat.le_refl _) ?_
                          intro v5 v2_3_5_8 ho5 hk5 hv5
                          rw [Nat.zero_add, List.nil_append] at ho5
                          have hb : Below v2_3_8.heap.size v2_3_8 v2_3_5_8 := hk5.below (fun k hk => by
                            rcases hk with ⟨h1, h2⟩ | h
                            · simp [Value.ownBlock] at h1
                              have := HQ.out.2
                              omega
                            · omega)
                          have HO5' : Hid (Own v2_3_5_8 w7.heap.size 27 1 v5 M.length rows) := hI (ho5.base HBW.out.size)
                          have HV5' : Hid (∀ y, v5.ownBlock = some y → w7.heap.size ≤ y ∧ y < v2_3_5_8.heap.size) := hI (fun y hy => by
                            have h1 := hv5 y hy
                            have h2 := HBW.out.size
                            have h3 := HQ.out.1
                            refine ⟨?_, h1.2⟩
                            rcases h1.1 with h | h
                            · simp [Value.ownBlock] at h
                              omega
                            · omega)
                          have HBW := hI (HBW.out.trans (hb.mono HBW.out.size))
                          have HTV := hI (HTV.out.below hb)
                          have HMC := hI (HMC.out.keep (Keeps.of_below hb) (by have := HMC.out.lt; omega))
                          have HSL := hI (HSL.out.below hb)
                          have HQ := hI (And.intro HQ.out.1 (Nat.lt_of_lt_of_le HQ.out.2 hb.size))
                          have HL8 := hI (HL8.out.below hb)
                          have HS : Hid (Keeps (fun y => y = bx ∨ w7.heap.size ≤ y) w7 v2_3_5_8) := hI ((Keeps.of_below HBW.out).mono (fun k hk => .inr hk))
                          have HO5 := HO5'
                          have HV5 := HV5'
                          clear hb ho5 hk5 hv5 HO5' HV5'
                          refine hK _ _ HS.out ?_
                          clear hK K
                          try simp only [Act.put, q1, q2, q3]
                          refine anyH_ready (rs := [9]) (by decide +kernel) (by simp) ?_
                          refine AllReadyH.cons (o := { dst := some 96, op := .call { callee := .builtin .append, args := #[.tmp 92, .tmp 95], argTypes := #[30, 30] }, type := _, pos := _, after := _, guard := none }) rfl (fun K hK => ?_) AllReadyH.nil
                          refine step_app2 rfl (.tmp 92) (.tmp 95) elRows rfl w7.heap.size (by rfl) HO5.out (fun y hy => (HV5.out y hy).2) (by rfl) HL8.out (by have h1 := HML.out; unfold maxLen; omega) (by have h1 := HML.out; omega) HBW.out.size ?_
                          intro v9 v2_3_5_8_9 ho9 hk9 hv9
                          have HO9 := hI ho9
                          have HV9 : Hid (∀ y, v9.ownBlock = some y → w7.heap.size ≤ y ∧ y < v2_3_5_8_9.heap.size) := hI (fun y hy => by
                            have h1 := hv9 y hy
                            have h2 := HBW.out.size
                            refine ⟨?_, h1.2⟩
                            rcases h1.1 with h | h
                            · exact (HV5.out y h).1
                            · omega)
                          have HS : Hid (Keeps (fun y => y = bx ∨ w7.heap.size ≤ y) w7 v2_3_5_8_9) := hI (HS.out.trans (hk9.mono (fun k hk => .inr (by
                            have h2 := HBW.out.size
                            rcases hk with h | h <;> omega))))
                          have HMC := hI (HMC.out.keep hk9 (by
                            have h1 := HBN.out
                            have h2 := HBW.out.size
                            rintro (h | h) <;> omega))
                          clear ho9 hk9 hv9
                          refine hK _ _ HS.out ?_
                          clear hK K
                          try simp only [Act.put, q1, q2, q3]
                          refine anyH_ready (rs := [10]) (by decide +kernel) (by simp) ?_
                          refine AllReadyH.cons (o := { dst := none, op := .mapUpdate 26 (.tmp 87) (.tmp 89) (.tmp 96), type := _, pos := _, after := _, guard := none }) rfl (fun K hK => ?_) AllReadyH.nil
                          refine step_updateV rfl (.tmp 87) (.tmp 89) (.tmp 96) rfl 9 30 strKV kS_inj Try.underlying26 bx _ (by rfl) HMC.out HFW.out s (by exact HKS.out) ?_
                          intro wz hm hk hz
                          have HMZ := hI hm
                          have HKZ := hI hk
                          have HCZ : Hid (w7.heap.size ≤ v2_3_5_8_9.heap.size) := hI HS.out.size
                          have HZZ := hI hz
                          have HS : Hid (Keeps (fun y => y = bx ∨ w7.heap.size ≤ y) w7 wz) := hI (HS.out.trans (hk.mono (fun k hk => hk.imp id (fun h => Nat.le_trans HS.out.size h))))
                          clear hm hk hz
                          refine hK _ _ HS.out ?_
                          clear hK K
                          try simp only [Act.put, q1, q2, q3]
                          refine wpAnyH_done (by decide +kernel) ?_ _
                          go_wp2_with fail
                          go_meet
                          exact ⟨rfl, HFIN.out _ v9 wz HO9.out HV9.out HS.out HMZ.out HKZ.out HCZ.out (Nat.le_of_eq HZZ.out)⟩
                      · go_simp
                        obtain ⟨v3_8, hnw⟩ : ∃ z, z = v3.alloc (.cells #[.slice ba x.b.length bc] 27) := ⟨_, rfl⟩
                        obtain ⟨q8, hq8⟩ : ∃ q8, q8 = v3.heap.size := ⟨_, rfl⟩
                        rw [← hnw, ← hq8]
                        have hb : Below v3.heap.size v3 v3_8 := by rw [hnw]; exact (Below.refl _ _).alloc (Nat.le_refl _) _
                        have HL8 : Hid (Sl v3_8 1 (.slice (some ⟨q8, 0, none⟩) 1 1) 1 [.slice ba x.b.length bc]) := hI (by rw [hnw]; exact Sl.lit hq8.symm rfl (by simp [Value.oneCell']) (by unfold maxLen; decide))
                        have HBW := hI (HBW.out.trans (hb.mono HBW.out.size))
                        have HTV := hI (HTV.out.below hb)
                        have HMC := hI (HMC.out.keep (Keeps.of_below hb) (by have := HMC.out.lt; omega))
                        have HSL := hI (HSL.out.below hb)
                        have HQ := hI (And.intro HQ.out.1 (Nat.lt_of_lt_of_le HQ.out.2 hb.size))
                        have HS : Hid (Keeps (fun y => y = bx ∨ w7.heap.size ≤ y) w7 v3_8) := hI ((Keeps.of_below HBW.out).mono (fun k hk => .inr hk))
                        clear hb hnw hq8
                        refine hK _ _ HS.out ?_
                        clear hK K
                        try simp only [Act.put, q1, q2, q3]
                        refine anyH_ready (rs := [2]) (by decide +kernel) (by simp) ?_
                        refine AllReadyH.cons (o := { dst := some 89, op := .call { callee := .value (.func 10), args := #[.tmp 88], argTypes := #[37] }, type := _, pos := _, after := _, guard := none }) rfl (fun K hK => ?_) AllReadyH.nil
                        go_simp
                        refine (HTO7.out _ HTV.out).mono ?_
                        rintro e v2_3_8 ⟨rfl, hb⟩
                        have HBW := hI (HBW.out.trans (hb.mono HBW.out.size))
                        have HTV := hI (HTV.out.below hb)
                        have HMC := hI (HMC.out.keep (Keeps.of_below hb) (by have := HMC.out.lt; omega))
                        have HSL := hI (HSL.out.below hb)
                        have HQ := hI (And.intro HQ.out.1 (Nat.lt_of_lt_of_le HQ.out.2 hb.size))
                        have HL8 := hI (HL8.out.below hb)
                        have HS : Hid (Keeps (fun y => y = bx ∨ w7.heap.size ≤ y) w7 v2_3_8) := hI ((Keeps.of_below HBW.out).mono (fun k hk => .inr hk))
                        clear hb
                        refine hK _ _ HS.out ?_
                        clear hK K
                        try simp only [Act.put, q1, q2, q3]
                        refine anyH_ready (rs := [5]) (by decide +kernel) (by simp) ?_
                        refine AllReadyH.cons (o := { dst := some 92, op := .call { callee := .builtin .append, args := #[.tmp 90, .tmp 91], argTypes := #[30, 30] }, type := _, pos := _, after := _, guard := none }) rfl (fun K hK => ?_) AllReadyH.nil
                        refine step_app2 rfl (.tmp 90) (.tmp 91) elRows rfl v2_3_8.heap.size (v := .slice (some ⟨q3, 0, none⟩) 0 0) (by rfl) (Own.nil _ _ _ _ _) (fun y hy => by simp [Value.ownBlock] at hy; have := HQ.out.2; omega) (by rfl) HSL.out (by have h1 := HML.out; unfold maxLen; omega) (by have h1 := HML.out; omega) (Nat.le_refl _) ?_
                        intro v5 v2_3_5_8 ho5 hk5 hv5
                        rw [Nat.zero_add, List.nil_append] at ho5
                        have hb : Below v2_3_8.heap.size v2_3_8 v2_3_5_8 := hk5.below (fun k hk => by
                          rcases hk with ⟨h1, h2⟩ | h
                          · simp [Value.ownBlock] at h1
                            have := HQ.out.2
                            omega
                          · omega)
                        have HO5' : Hid (Own v2_3_5_8 w7.heap.size 27 1 v5 M.length rows) := hI (ho5.base HBW.out.size)
                        have HV5' : Hid (∀ y, v5.ownBlock = some y → w7.heap.size ≤ y ∧ y < v2_3_5_8.heap.size) := hI (fun y hy => by
                          have h1 := hv5 y hy
                          have h2 := HBW.out.size
                          have h3 := HQ.out.1
                          refine ⟨?_, h1.2⟩
                          rcases h1.1 with h | h
                          · simp [Value.ownBlock] at h
                            omega
                          · omega)
                        have HBW := hI (HBW.out.trans (hb.mono HBW.out.size))
                        have HTV := hI (HTV.out.below hb)
                        have HMC := hI (HMC.out.keep (Keeps.of_below hb) (by have := HMC.out.lt; omega))
                        have HSL := hI (HSL.out.below hb)
                        have HQ := hI (And.intro HQ.out.1 (Nat.lt_of_lt_of_le HQ.out.2 hb.size))
                        have HL8 := hI (HL8.out.below hb)
                        have HS : Hid (Keeps (fun y => y = bx ∨ w7.heap.size ≤ y) w7 v2_3_5_8) := hI ((Keeps.of_below HBW.out).mono (fun k hk => .inr hk))
                        have HO5 := HO5'
                        have HV5 := HV5'
                        clear hb ho5 hk5 hv5 HO5' HV5'
                        refine hK _ _ HS.out ?_
                        clear hK K
                        try simp only [Act.put, q1, q2, q3]
                        refine anyH_ready (rs := [9]) (by decide +kernel) (by simp) ?_
                        refine AllReadyH.cons (o := { dst := some 96, op := .call { callee := .builtin .append, args := #[.tmp 92, .tmp 95], argTypes := #[30, 30] }, type := _, pos := _, after := _, guard := none }) rfl (fun K hK => ?_) AllReadyH.nil
                        refine step_app2 rfl (.tmp 92) (.tmp 95) elRows rfl w7.heap.size (by rfl) HO5.out (fun y hy => (HV5.out y hy).2) (by rfl) HL8.out (by have h1 := HML.out; unfold maxLen; omega) (by have h1 := HML.out; omega) HBW.out.size ?_
                        intro v9 v2_3_5_8_9 ho9 hk9 hv9
                        have HO9 := hI ho9
                        have HV9 : Hid (∀ y, v9.ownBlock = some y → w7.heap.size ≤ y ∧ y < v2_3_5_8_9.heap.size) := hI (fun y hy => by
                          have h1 := hv9 y hy
                          have h2 := HBW.out.size
                          refine ⟨?_, h1.2⟩
                          rcases h1.1 with h | h
                          · exact (HV5.out y h).1
                          · omega)
                        have HS : Hid (Keeps (fun y => y = bx ∨ w7.heap.size ≤ y) w7 v2_3_5_8_9) := hI (HS.out.trans (hk9.mono (fun k hk => .inr (by
                          have h2 := HBW.out.size
                          rcases hk with h | h <;> omega))))
                        have HMC := hI (HMC.out.keep hk9 (by
                          have h1 := HBN.out
                          have h2 := HBW.out.size
                          rintro (h | h) <;> omega))
                        clear ho9 hk9 hv9
                        refine hK _ _ HS.out ?_
                        clear hK K
                        try simp only [Act.put, q1, q2, q3]
                        refine anyH_ready (rs := [10]) (by decide +kernel) (by simp) ?_
                        refine AllReadyH.cons (o := { dst := none, op := .mapUpdate 26 (.tmp 87) (.tmp 89) (.tmp 96), type := _, pos := _, after := _, guard := none }) rfl (fun K hK => ?_) AllReadyH.nil
                        refine step_updateV rfl (.tmp 87) (.tmp 89) (.tmp 96) rfl 9 30 strKV kS_inj Try.underlying26 bx _ (by rfl) HMC.out HFW.out s (by exact HKS.out) ?_
                        intro wz hm hk hz
                        have HMZ := hI hm
                        have HKZ := hI hk
                        have HCZ : Hid (w7.heap.size ≤ v2_3_5_8_9.heap.size) := hI HS.out.size
                        have HZZ := hI hz
                        have HS : Hid (Keeps (fun y => y = bx ∨ w7.heap.size ≤ y) w7 wz) := hI (HS.out.trans (hk.mono (fun k hk => hk.imp id (fun h => Nat.le_trans HS.out.size h))))
                        clear hm hk hz
                        refine hK _ _ HS.out ?_
                        clear hK K
                        try simp only [Act.put, q1, q2, q3]
                        refine wpAnyH_done (by decide +kernel) ?_ _
                        go_wp2_with fail
                        go_meet
                        exact ⟨rfl, HFIN.out _ v9 wz HO9.out HV9.out HS.out HMZ.out HKZ.out HCZ.out (Nat.le_of_eq HZZ.out)⟩
                    · go_simp
                      obtain ⟨v8, hnw⟩ : ∃ z, z = wd.alloc (.cells #[.slice ba x.b.length bc] 27) := ⟨_, rfl⟩
                      obtain ⟨q8, hq8⟩ : ∃ q8, q8 = wd.heap.size := ⟨_, rfl⟩
                      rw [← hnw, ← hq8]
                      have hb : Below wd.heap.size wd v8 := by rw [hnw]; exact (Below.refl _ _).alloc (Nat.le_refl _) _
                      have HL8 : Hid (Sl v8 1 (.slice (some ⟨q8, 0, none⟩) 1 1) 1 [.slice ba x.b.length bc]) := hI (by rw [hnw]; exact Sl.lit hq8.symm rfl (by simp [Value.oneCell']) (by unfold maxLen; decide))
                      have HBW := hI (HBW.out.trans (hb.mono HBW.out.size))
                      have HTV := hI (HTV.out.below hb)
                      have HMC := hI (HMC.out.keep (Keeps.of_below hb) (by have := HMC.out.lt; omega))
                      have HSL := hI (HSL.out.below hb)
                      have HS : Hid (Keeps (fun y => y = bx ∨ w7.heap.size ≤ y) w7 v8) := hI ((Keeps.of_below HBW.out).mono (fun k hk => .inr hk))
                      clear hb hnw hq8
                      refine hK _ _ HS.out ?_
                      clear hK K
                      try simp only [Act.put, q1, q2, q3]
                      refine anyH_ready (rs := [2, 3]) (by decide +kernel) (by simp) ?_
                      refine AllReadyH.cons (o := { dst := some 89, op := .call { callee := .value (.func 10), args := #[.tmp 88], argTypes := #[37] }, type := _, pos := _, after := _, guard := none }) rfl (fun K hK => ?_) (AllReadyH.cons (o := { dst := some 90, op := .buildSlice 30 0 #[], type := _, pos := _, after := _, guard := none }) rfl (fun K hK => ?_) AllReadyH.nil)
                      · go_simp
                        refine (HTO7.out _ HTV.out).mono ?_
                        rintro e v2_8 ⟨rfl, hb⟩
                        have HBW := hI (HBW.out.trans (hb.mono HBW.out.size))
                        have HTV := hI (HTV.out.below hb)
                        have HMC := hI (HMC.out.keep (Keeps.of_below hb) (by have := HMC.out.lt; omega))
                        have HSL := hI (HSL.out.below hb)
                        have HL8 := hI (HL8.out.below hb)
                        have HS : Hid (Keeps (fun y => y = bx ∨ w7.heap.size ≤ y) w7 v2_8) := hI ((Keeps.of_below HBW.out).mono (fun k hk => .inr hk))
                        clear hb
                        refine hK _ _ HS.out ?_
                        clear hK K
                        try simp only [Act.put, q1, q2, q3]
                        refine anyH_ready (rs := [3]) (by decide +kernel) (by simp) ?_
                        refine AllReadyH.cons (o := { dst := some 90, op := .buildSlice 30 0 #[], type := _, pos := _, after := _, guard := none }) rfl (fun K hK => ?_) AllReadyH.nil
                        go_simp
                        obtain ⟨v2_3_8, hnw⟩ : ∃ z, z = v2_8.alloc (.cells #[] 27) := ⟨_, rfl⟩
                        obtain ⟨q3, hq3⟩ : ∃ q3, q3 = v2_8.heap.size := ⟨_, rfl⟩
                        rw [← hnw, ← hq3]
                        have hb : Below v2_8.heap.size v2_8 v2_3_8 := by rw [hnw]; exact (Below.refl _ _).alloc (Nat.le_refl _) _
                        have HQ : Hid (w7.heap.size ≤ q3 ∧ q3 < v2_3_8.heap.size) := hI (by rw [hnw, hq3]; exact ⟨HBW.out.size, by simp⟩)
                        have HBW := hI (HBW.out.trans (hb.mono HBW.out.size))
                        have HTV := hI (HTV.out.below hb)
                        have HMC := hI (HMC.out.keep (Keeps.of_below hb) (by have := HMC.out.lt; omega))
                        have HSL := hI (HSL.out.below hb)
                        have HL8 := hI (HL8.out.below hb)
                        have HS : Hid (Keeps (fun y => y = bx ∨ w7.heap.size ≤ y) w7 v2_3_8) := hI ((Keeps.of_below HBW.out).mono (fun k hk => .inr hk))
                        clear hb hnw hq3
                        refine hK _ _ HS.out ?_
                        clear hK K
                        try simp only [Act.put, q1, q2, q3]
                        refine anyH_ready (rs := [5]) (by decide +kernel) (by simp) ?_
                        refine AllReadyH.cons (o := { dst := some 92, op := .call { callee := .builtin .append, args := #[.tmp 90, .tmp 91], argTypes := #[30, 30] }, type := _, pos := _, after := _, guard := none }) rfl (fun K hK => ?_) AllReadyH.nil
                        refine step_app2 rfl (.tmp 90) (.tmp 91) elRows rfl v2_3_8.heap.size (v := .slice (some ⟨q3, 0, none⟩) 0 0) (by rfl) (Own.nil _ _ _ _ _) (fun y hy => by simp [Value.ownBlock] at hy; have := HQ.out.2; omega) (by rfl) HSL.out (by have h1 := HML.out; unfold maxLen; omega) (by have h1 := HML.out; omega) (Nat.le_refl _) ?_
                        intro v5 v2_3_5_8 ho5 hk5 hv5
                        rw [Nat.zero_add, List.nil_append] at ho5
                        have hb : Below v2_3_8.heap.size v2_3_8 v2_3_5_8 := hk5.below (fun k hk => by
                          rcases hk with ⟨h1, h2⟩ | h
                          · simp [Value.ownBlock] at h1
                            have := HQ.out.2
                            omega
                          · omega)
                        have HO5' : Hid (Own v2_3_5_8 w7.heap.size 27 1 v5 M.length rows) := hI (ho5.base HBW.out.size)
                        have HV5' : Hid (∀ y, v5.ownBlock = some y → w7.heap.size ≤ y ∧ y < v2_3_5_8.heap.size) := hI (fun y hy => by
                          have h1 := hv5 y hy
                          have h2 := HBW.out.size
                          have h3 := HQ.out.1
                          refine ⟨?_, h1.2⟩
                          rcases h1.1 with h | h
                          · simp [Value.ownBlock] at h
                            omega
                          · omega)
                        have HBW := hI (HBW.out.trans (hb.mono HBW.out.size))
                        have HTV := hI (HTV.out.below hb)
                        have HMC := hI (HMC.out.keep (Keeps.of_below hb) (by have := HMC.out.lt; omega))
                        have HSL := hI (HSL.out.below hb)
                        have HQ := hI (And.intro HQ.out.1 (Nat.lt_of_lt_of_le HQ.out.2 hb.size))
                        have HL8 := hI (HL8.out.below hb)
                        have HS : Hid (Keeps (fun y => y = bx ∨ w7.heap.size ≤ y) w7 v2_3_5_8) := hI ((Keeps.of_below HBW.out).mono (fun k hk => .inr hk))
                        have HO5 := HO5'
                        have HV5 := HV5'
                        clear hb ho5 hk5 hv5 HO5' HV5'
                        refine hK _ _ HS.out ?_
                        clear hK K
                        try simp only [Act.put, q1, q2, q3]
                        refine anyH_ready (rs := [9]) (by decide +kernel) (by simp) ?_
                        refine AllReadyH.cons (o := { dst := some 96, op := .call { callee := .builtin .append, args := #[.tmp 92, .tmp 95], argTypes := #[30, 30] }, type := _, pos := _, after := _, guard := none }) rfl (fun K hK => ?_) AllReadyH.nil
                        refine step_app2 rfl (.tmp 92) (.tmp 95) elRows rfl w7.heap.size (by rfl) HO5.out (fun y hy => (HV5.out y hy).2) (by rfl) HL8.out (by have h1 := HML.out; unfold maxLen; omega) (by have h1 := HML.out; omega) HBW.out.size ?_
                        intro v9 v2_3_5_8_9 ho9 hk9 hv9
                        have HO9 := hI ho9
                        have HV9 : Hid (∀ y, v9.ownBlock = some y → w7.heap.size ≤ y ∧ y < v2_3_5_8_9.heap.size) := hI (fun y hy => by
                          have h1 := hv9 y hy
                          have h2 := HBW.out.size
                          refine ⟨?_, h1.2⟩
                          rcases h1.1 with h | h
                          · exact (HV5.out y h).1
                          · omega)
                        have HS : Hid (Keeps (fun y => y = bx ∨ w7.heap.size ≤ y) w7 v2_3_5_8_9) := hI (HS.out.trans (hk9.mono (fun k hk => .inr (by
                          have h2 := HBW.out.size
                          rcases hk with h | h <;> omega))))
                        have HMC := hI (HMC.out.keep hk9 (by
                          have h1 := HBN.out
                          have h2 := HBW.out.size
                          rintro (h | h) <;> omega))
                        clear ho9 hk9 hv9
                        refine hK _ _ HS.out ?_
                        clear hK K
                        try simp only [Act.put, q1, q2, q3]
                        refine anyH_ready (rs := [10]) (by decide +kernel) (by simp) ?_
                        refine AllReadyH.cons (o := { dst := none, op := .mapUpdate 26 (.tmp 87) (.tmp 89) (.tmp 96), type := _, pos := _, after := _, guard := none }) rfl (fun K hK => ?_) AllReadyH.nil
                        refine step_updateV rfl (.tmp 87) (.tmp 89) (.tmp 96) rfl 9 30 strKV kS_inj Try.underlying26 bx _ (by rfl) HMC.out HFW.out s (by exact HKS.out) ?_
                        intro wz hm hk hz
                        have HMZ := hI hm
                        have HKZ := hI hk
                        have HCZ : Hid (w7.heap.size ≤ v2_3_5_8_9.heap.size) := hI HS.out.size
                        have HZZ := hI hz
                        have HS : Hid (Keeps (fun y => y = bx ∨ w7.heap.size ≤ y) w7 wz) := hI (HS.out.trans (hk.mono (fun k hk => hk.imp id (fun h => Nat.le_trans HS.out.size h))))
                        clear hm hk hz
                        refine hK _ _ HS.out ?_
                        clear hK K
                        try simp only [Act.put, q1, q2, q3]
                        refine wpAnyH_done (by decide +kernel) ?_ _
                        go_wp2_with fail
                        go_meet
                        exact ⟨rfl, HFIN.out _ v9 wz HO9.out HV9.out HS.out HMZ.out HKZ.out HCZ.out (Nat.le_of_eq HZZ.out)⟩
                      · go_simp
                        obtain ⟨v3_8, hnw⟩ : ∃ z, z = v8.alloc (.cells #[] 27) := ⟨_, rfl⟩
                        obtain ⟨q3, hq3⟩ : ∃ q3, q3 = v8.heap.size := ⟨_, rfl⟩
                        rw [← hnw, ← hq3]
                        have hb : Below v8.heap.size v8 v3_8 := by rw [hnw]; exact (Below.refl _ _).alloc (Nat.le_refl _) _
                        have HQ : Hid (w7.heap.size ≤ q3 ∧ q3 < v3_8.heap.size) := hI (by rw [hnw, hq3]; exact ⟨HBW.out.size, by simp⟩)
                        have HBW := hI (HBW.out.trans (hb.mono HBW.out.size))
                        have HTV := hI (HTV.out.below hb)
                        have HMC := hI (HMC.out.keep (Keeps.of_below hb) (by have := HMC.out.lt; omega))
                        have HSL := hI (HSL.out.below hb)
                        have HL8 := hI (HL8.out.below hb)
                        have HS : Hid (Keeps (fun y => y = bx ∨ w7.heap.size ≤ y) w7 v3_8) := hI ((Keeps.of_below HBW.out).mono (fun k hk => .inr hk))
                        clear hb hnw hq3
                        refine hK _ _ HS.out ?_
                        clear hK K
                        try simp only [Act.put, q1, q2, q3]
                        refine anyH_ready (rs := [2]) (by decide +kernel) (by simp) ?_
                        refine AllReadyH.cons (o := { dst := some 89, op := .call { callee := .value (.func 10), args := #[.tmp 88], argTypes := #[37] }, type := _, pos := _, after := _, guard := none }) rfl (fun K hK => ?_) AllReadyH.nil
                        go_simp
                        refine (HTO7.out _ HTV.out).mono ?_
                        rintro e v2_3_8 ⟨rfl, hb⟩
                        have HBW := hI (HBW.out.trans (hb.mono HBW.out.size))
                        have HTV := hI (HTV.out.below hb)
                        have HMC := hI (HMC.out.keep (Keeps.of_below hb) (by have := HMC.out.lt; omega))
                        have HSL := hI (HSL.out.below hb)
                        have HQ := hI (And.intro HQ.out.1 (Nat.lt_of_lt_of_le HQ.out.2 hb.size))
                        have HL8 := hI (HL8.out.below hb)
                        have HS : Hid (Keeps (fun y => y = bx ∨ w7.heap.size ≤ y) w7 v2_3_8) := hI ((Keeps.of_below HBW.out).mono (fun k hk => .inr hk))
                        clear hb
                        refine hK _ _ HS.out ?_
                        clear hK K
                        try simp only [Act.put, q1, q2, q3]
                        refine anyH_ready (rs := [5]) (by decide +kernel) (by simp) ?_
                        refine AllReadyH.cons (o := { dst := some 92, op := .call { callee := .builtin .append, args := #[.tmp 90, .tmp 91], argTypes := #[30, 30] }, type := _, pos := _, after := _, guard := none }) rfl (fun K hK => ?_) AllReadyH.nil
                        refine step_app2 rfl (.tmp 90) (.tmp 91) elRows rfl v2_3_8.heap.size (v := .slice (some ⟨q3, 0, none⟩) 0 0) (by rfl) (Own.nil _ _ _ _ _) (fun y hy => by simp [Value.ownBlock] at hy; have := HQ.out.2; omega) (by rfl) HSL.out (by have h1 := HML.out; unfold maxLen; omega) (by have h1 := HML.out; omega) (Nat.le_refl _) ?_
                        intro v5 v2_3_5_8 ho5 hk5 hv5
                        rw [Nat.zero_add, List.nil_append] at ho5
                        have hb : Below v2_3_8.heap.size v2_3_8 v2_3_5_8 := hk5.below (fun k hk => by
                          rcases hk with ⟨h1, h2⟩ | h
                          · simp [Value.ownBlock] at h1
                            have := HQ.out.2
                            omega
                          · omega)
                        have HO5' : Hid (Own v2_3_5_8 w7.heap.size 27 1 v5 M.length rows) := hI (ho5.base HBW.out.size)
                        have HV5' : Hid (∀ y, v5.ownBlock = some y → w7.heap.size ≤ y ∧ y < v2_3_5_8.heap.size) := hI (fun y hy => by
                          have h1 := hv5 y hy
                          have h2 := HBW.out.size
                          have h3 := HQ.out.1
                          refine ⟨?_, h1.2⟩
                          rcases h1.1 with h | h
                          · simp [Value.ownBlock] at h
                            omega
                          · omega)
                        have HBW := hI (HBW.out.trans (hb.mono HBW.out.size))
                        have HTV := hI (HTV.out.below hb)
                        have HMC := hI (HMC.out.keep (Keeps.of_below hb) (by have := HMC.out.lt; omega))
                        have HSL := hI (HSL.out.below hb)
                        have HQ := hI (And.intro HQ.out.1 (Nat.lt_of_lt_of_le HQ.out.2 hb.size))
                        have HL8 := hI (HL8.out.below hb)
                        have HS : Hid (Keeps (fun y => y = bx ∨ w7.heap.size ≤ y) w7 v2_3_5_8) := hI ((Keeps.of_below HBW.out).mono (fun k hk => .inr hk))
                        have HO5 := HO5'
                        have HV5 := HV5'
                        clear hb ho5 hk5 hv5 HO5' HV5'
                        refine hK _ _ HS.out ?_
                        clear hK K
                        try simp only [Act.put, q1, q2, q3]
                        refine anyH_ready (rs := [9]) (by decide +kernel) (by simp) ?_
                        refine AllReadyH.cons (o := { dst := some 96, op := .call { callee := .builtin .append, args := #[.tmp 92, .tmp 95], argTypes := #[30, 30] }, type := _, pos := _, after := _, guard := none }) rfl (fun K hK => ?_) AllReadyH.nil
                        refine step_app2 rfl (.tmp 92) (.tmp 95) elRows rfl w7.heap.size (by rfl) HO5.out (fun y hy => (HV5.out y hy).2) (by rfl) HL8.out (by have h1 := HML.out; unfold maxLen; omega) (by have h1 := HML.out; omega) HBW.out.size ?_
                        intro v9 v2_3_5_8_9 ho9 hk9 hv9
                        have HO9 := hI ho9
                        have HV9 : Hid (∀ y, v9.ownBlock = some y → w7.heap.size ≤ y ∧ y < v2_3_5_8_9.heap.size) := hI (fun y hy => by
                          have h1 := hv9 y hy
                          have h2 := HBW.out.size
                          refine ⟨?_, h1.2⟩
                          rcases h1.1 with h | h
                          · exact (HV5.out y h).1
                          · omega)
                        have HS : Hid (Keeps (fun y => y = bx ∨ w7.heap.size ≤ y) w7 v2_3_5_8_9) := hI (HS.out.trans (hk9.mono (fun k hk => .inr (by
                          have h2 := HBW.out.size
                          rcases hk with h | h <;> omega))))
                        have HMC := hI (HMC.out.keep hk9 (by
                          have h1 := HBN.out
                          have h2 := HBW.out.size
                          rintro (h | h) <;> omega))
                        clear ho9 hk9 hv9
                        refine hK _ _ HS.out ?_
                        clear hK K
                        try simp only [Act.put, q1, q2, q3]
                        refine anyH_ready (rs := [10]) (by decide +kernel) (by simp) ?_
                        refine AllReadyH.cons (o := { dst := none, op := .mapUpdate 26 (.tmp 87) (.tmp 89) (.tmp 96), type := _, pos := _, after := _, guard := none }) rfl (fun K hK => ?_) AllReadyH.nil
                        refine step_updateV rfl (.tmp 87) (.tmp 89) (.tmp 96) rfl 9 30 strKV kS_inj Try.underlying26 bx _ (by rfl) HMC.out HFW.out s (by exact HKS.out) ?_
                        intro wz hm hk hz
                        have HMZ := hI hm
                        have HKZ := hI hk
                        have HCZ : Hid (w7.heap.size ≤ v2_3_5_8_9.heap.size) := hI HS.out.size
                        have HZZ := hI hz
                        have HS : Hid (Keeps (fun y => y = bx ∨ w7.heap.size ≤ y) w7 wz) := hI (HS.out.trans (hk.mono (fun k hk => hk.imp id (fun h => Nat.le_trans HS.out.size h))))
                        clear hm hk hz
                        refine hK _ _ HS.out ?_
                        clear hK K
                        try simp only [Act.put, q1, q2, q3]
                        refine wpAnyH_done (by decide +kernel) ?_ _
                        go_wp2_with fail
                        go_meet
                        exact ⟨rfl, HFIN.out _ v9 wz HO9.out HV9.out HS.out HMZ.out HKZ.out HCZ.out (Nat.le_of_eq HZZ.out)⟩
                  case rest =>
                    obtain ⟨rfl, hr9⟩ := hcut
                    have HC9 := hI hr9
                    have g2 : wc.cell? ⟨g, 2, none⟩ = some (.slice ba x.b.length bc) := by rw [← HBV.out]; exact (hr9.blkOf (p := g) (cs := x.cells) (T := 29) (by simp)).cell 2
                    clear hr9 HC7 HX7 HTV HM7 HBS7 HBX7 HV7
                    go_wp2_with fail
                    have h9 := relPut_any p T (.slice ba x.b.length bc) x.b _ wc (HC9.out.front (m := [_, _, _]) (l := []) [1, 0, 2] 3 (by decide)) (by rw [← HBV.out]; exact HXB.out.below (by have := HC9.out.lawBase (w0 := w) (b := bx) (T := (putV T s (M ++ [x.b]))) (by simp); exact this)) H500.out HTO.out
                    rw [HPS.out] at h9
                    refine h9.mono ?_
                    rintro e w10 ⟨rfl, hc, _⟩
                    have HC10 : Hid (Hold w10 [.blk g x.cells 29, relR p (putV T s (M ++ [x.b])), lawR w bx (putV T s (M ++ [x.b]))]) := hI (hc.front (m := [_, _, _]) (l := []) [1, 0, 2] 3 (by decide))
                    clear hc h9
                    go_wp2_with fail
                    go_meet
                    exact ⟨rfl, (putV T s (M ++ [x.b])), HT2.out, HC10.out⟩
          · have HPS : Hid (putS T x.b = (T, er)) := hI (by
              have hrd : rdM x.b = (none, er) := by rw [HRDM.out]; unfold rdV; rw [if_neg hec]
              unfold putS
              rw [hrd])
            have hne : (er != 0) = true := by simpa using hec
            have g2 : w5.cell? ⟨g, 2, none⟩ = some (.slice ba x.b.length bc) := by rw [← HBV.out]; exact (HC5.out.blkOf (p := g) (cs := x.cells) (T := 29) (by simp)).cell 2
            clear hec
            go_wp2_with fail
            have h9 := relPut_any p T (.slice ba x.b.length bc) x.b _ w5 (HC5.out.front (m := [_, _, _]) (l := []) [1, 0, 2] 3 (by decide)) (by rw [← HBV.out]; exact HXB.out.below (by have := lawX_of HC5.out (w0 := w) (b := bx) (G := G) (X := X) (by simp) |>.1; exact this)) H500.out HTO.out
            rw [HPS.out] at h9
            refine h9.mono ?_
            rintro e w10 ⟨rfl, hc, _⟩
            have HC10 : Hid (Hold w10 [.blk g x.cells 29, relR p T, lawX w bx G X]) := hI (hc.front (m := [_, _, _]) (l := []) [1, 0, 2] 3 (by decide))
            clear hc h9
            go_wp2_with fail
            go_meet
            exact ⟨rfl, T, HTO.out, ((lawX_R (HC10.out.front (m := [_, _, _]) (l := []) [2, 0, 1] 3 (by decide)) HTX.out).front (m := [_, _, _]) (l := []) [1, 2, 0] 3 (by decide))⟩
        by_cases hk2 : x.kind = 2
        · have hkb : (x.kind == 2) = true := by simpa using hk2
          clear hk2
          have hkb0 : (x.kind == 0) = false := by simpa using hk0
          have hkb1 : (x.kind == 1) = false := by simpa using hk1
          clear hk0 hk1
          have h4 := relGet_any p T x.name _ w3 (HCX.out.front (m := [_, _, _]) (l := []) [1, 0, 2] 3 (by decide)) HXN.out HTO.out
          cases L with
          | nil =>
            have hgs : getS T x.name = ([], T, 9) := by unfold getS; rw [← HL.out]
            rw [hgs] at h4
            go_wp2_with fail
            refine h4.mono ?_
            rintro e w4 ⟨v4, rfl, hb4, hc, _⟩
            obtain ⟨a4, c4, rfl, _⟩ := hb4.form
            have HC4 : Hid (Hold w4 [.blk g x.cells 29, relR p T, lawX w bx G X]) := hI (hc.front (m := [_, _, _]) (l := []) [1, 0, 2] 3 (by decide))
            have HC5 : Hid (Hold w4 [.blk g x.cells 29, relR p T, lawR w bx T]) := hI ((lawX_R (HC4.out.front (m := [_, _, _]) (l := []) [2, 0, 1] 3 (by decide)) HTX.out).front (m := [_, _, _]) (l := []) [1, 2, 0] 3 (by decide))
            clear hc h4 hb4 hgs
            go_wp2_with fail
            go_roundw
            case rel => exact ⟨k + 1, T, by go_num, by omega, HTO.out, HC5.out.tail⟩
            case measure => simp [intOf]; omega
          | cons m0 L0 =>
            have hgs : getS T x.name = (m0, putV T x.name L0, 0) := by unfold getS; rw [← HL.out]
            have HT2 : Hid (MailOk (putV T x.name L0)) := hI (mailOk_rest HTO.out x.name HL.out.symm (has_of_get HL.out.symm))
            rw [hgs] at h4
            have hl1 : (((L0.length + 1 : Nat) : Int) == 0) = false := by simp; omega
            have hl2 : ¬ ((L0.length : Int) + 1 = 0) := by omega
            have hlc : L0.length + 1 ≤ lc := HLC.out
            obtain ⟨b0, o0, mv, rfl, hcell, hbm0, hbx0, _⟩ := HBX.out.first
            have HCELL := hI hcell
            have HBM := hI hbm0
            have HBX0 := hI hbx0
            have HSLC : Hid (∀ W, (Instr.sliceAt 30 (.slice (some ⟨b0, o0, none⟩) (L0.length + 1) lc) (some (.int .i64 1)) none none).run Try.prog W = .ok (.slice (cutZ b0 o0 lc 1 1) L0.length (lc - 1)) W) := hI (fun W => by
              have := run_sliceZ Try.underlying30 szBytes b0 o0 (L0.length + 1) lc 1 (by omega) hlc W
              simpa using this)
            rw [show (m0 :: L0).length = L0.length + 1 from rfl]
            clear hcell hbm0 hbx0 hlc hgs
            go_wp2_with fail
            refine h4.mono ?_
            rintro e w4 ⟨v4, rfl, hb4, hc, hkb4⟩
            obtain ⟨a4, c4, rfl, _⟩ := hb4.form
            have HC4 : Hid (Hold w4 [.blk g x.cells 29, relR p (putV T x.name L0), lawX w bx G X]) := hI (hc.front (m := [_, _, _]) (l := []) [1, 0, 2] 3 (by decide))
            have HB4 := hI hb4
            have HBM4 := hI (hkb4.bs HBM.out)
            have HBX4 := hI (hkb4.box HBX0.out)
            have c4 : w4.cell? ⟨b0, o0, none⟩ = some mv := hkb4 _ _ _ HCELL.out
            clear hc h4 hb4 hkb4
            go_wp2_with fail
            refine (same_b _ _ m0 m0 w4 HB4.out HBM4.out).mono ?_
            rintro e w5 ⟨rfl, hb5⟩
            have HC5 := hI (HC4.out.step hb5)
            have HBX5 := hI ((KB.below hb5).box HBX4.out)
            rw [show decide (m0 = m0) = true from by simp]
            clear hb5 c4 HC4 HB4 HBM4 HBX4 g0 g1 g2
            go_upto_region 44 with fail
            have HG5 := hI (HC5.out.blkOf (p := g) (cs := x.cells) (T := 29) (by simp))
            have hbs5 := (lawX_of HC5.out (w0 := w) (b := bx) (G := G) (X := X) (by simp)).2.2
            have HBS5 := hI hbs5
            have HGB : Hid (¬ g = bx) := hI (fun e => by
              have h1 := HG5.out
              obtain ⟨D, _, es, clock, hmap, _⟩ := hbs5.map
              rw [← e] at hmap
              have := h1.cell 0
              simp [Rst.cells, World.cell?, hmap] at this)
            have HS : Hid (Keeps (fun y => y = bx ∨ w5.heap.size ≤ y) w5 w5.drew) := hI (Keeps.refl _ _).drew
            have HMD : Hid (MapAt Try.prog 9 kS w5.drew bx X.vals) := hI (hbs5.map.keep (Keeps.refl (fun _ => False) _).drew (fun h => h))
            clear hbs5
            refine wp_region_held (S := fun W : World => Keeps (fun y => y = bx ∨ w5.heap.size ≤ y) w5 W) (by kernel_rfl) ?_
            change wpAnyH _ _ _ _ _ _ _ _ (World.drew _)
            refine tkH 0 132 none (.map (some bx)) rfl (by kernel_rfl) (fun _ _ _ h => h) (by rfl) (by intro W hW; go_simp) HS.out ?_
            simp only [Act.put, q1, q2, q3]
            refine tkH 1 133 none (.pointer (some ⟨g, 1, none⟩)) rfl (by kernel_rfl) (fun _ _ _ h => h) (by rfl) (by intro W hW; go_simp) HS.out ?_
            simp only [Act.put, q1, q2, q3]
            refine tkH 2 134 none (.string x.name) rfl (by kernel_rfl) (fun _ _ _ h => h) (by rfl) (by intro W hW; have hc : W.cell? ⟨g, 1, none⟩ = some (.string x.name) := (HG5.out.keep hW (fun e => by have h1 := HG5.out.lt; have h2 := HGB.out; omega)).cell 1; go_simp) HS.out ?_
            simp only [Act.put, q1, q2, q3]
            refine tkH 3 135 none (.slice (some ⟨b0, o0, none⟩) (L0.length + 1) lc) rfl (by kernel_rfl) (fun _ _ _ h => h) (by rfl) (by intro W hW; go_simp) HS.out ?_
            simp only [Act.put, q1, q2, q3]
            refine tkH 4 136 none (.slice (cutZ b0 o0 lc 1 1) L0.length (lc - 1)) rfl (by kernel_rfl) (fun _ _ _ h => h) (by rfl) (by intro W hW; exact exec_slice rfl (HSLC.out W)) HS.out ?_
            simp only [Act.put, q1, q2, q3]
            refine anyH_ready (rs := [5]) (by decide +kernel) (by simp) ?_
            refine AllReadyH.cons (o := { dst := none, op := .mapUpdate 26 (.tmp 132) (.tmp 134) (.tmp 136), type := _, pos := _, after := _, guard := none }) rfl (fun K hK => ?_) AllReadyH.nil
            refine step_updateV rfl (.tmp 132) (.tmp 134) (.tmp 136) rfl 9 30 strKV kS_inj Try.underlying26 bx _ (by rfl) HMD.out HFW.out x.name (by exact HKN.out) ?_
            intro w9 hm9 hk9 hz9
            have HM9 := hI hm9
            have HS : Hid (Keeps (fun y => y = bx ∨ w5.heap.size ≤ y) w5 w9) := hI (HS.out.trans (hk9.mono (fun k hk => hk.imp id (fun h => h))))
            clear hm9 hk9 hz9
            refine hK _ _ HS.out ?_
            clear hK K
            try simp only [Act.put, q1, q2, q3]
            refine wpAnyH_done (by decide +kernel) ?_ _
            have hnS : ∀ y, G y → y < w5.heap.size → ¬ (y = bx ∨ w5.heap.size ≤ y) := fun y hy hlt e => by
              rcases e with e | e
              · exact HBS5.out.not (by rw [← e]; exact hy)
              · omega
            have HL9 := hI (lawX_put (HC5.out.front (m := [_, _, _]) (l := []) [2, 0, 1] 3 (by decide)) HTX.out HM9.out HS.out (HBX5.out.keep HS.out hnS (fun _ h => .inl h)))
            have HC9 : Hid (Hold w9 [.blk g x.cells 29, relR p (putV T x.name L0), lawR w bx (putV T x.name L0)]) := hI (HL9.out.front (m := [_, _, _]) (l := []) [1, 2, 0] 3 (by decide))
            clear hnS HL9
            go_wp2_with fail
            go_meet
            exact ⟨rfl, (putV T x.name L0), HT2.out, HC9.out⟩
        by_cases hk3 : x.kind = 3
        · have hkb : (x.kind == 3) = true := by simpa using hk3
          clear hk3
          have hkb0 : (x.kind == 0) = false := by simpa using hk0
          have hkb1 : (x.kind == 1) = false := by simpa using hk1
          have hkb2 : (x.kind == 2) = false := by simpa using hk2
          clear hk0 hk1 hk2
          have h4 := relClear_any p T x.name _ w3 (HCX.out.front (m := [_, _, _]) (l := []) [1, 0, 2] 3 (by decide)) HXN.out HTO.out.few
          rw [← HK.out] at h4
          go_wp2_with fail
          refine h4.mono ?_
          rintro e w4 ⟨rfl, hc, _⟩
          have HC4 : Hid (Hold w4 [.blk g x.cells 29, relR p (if K = true then putV T x.name [] else T), lawX w bx G X]) := hI (hc.front (m := [_, _, _]) (l := []) [1, 0, 2] 3 (by decide))
          clear hc h4
          have g1 : w4.cell? ⟨g, 1, none⟩ = some (.string x.name) := (HC4.out.blkOf (p := g) (cs := x.cells) (T := 29) (by simp)).cell 1
          clear g0 g2
          cases K with
          | false =>
            have HC5 : Hid (Hold w4 [.blk g x.cells 29, relR p T, lawX w bx G X]) := hI (by have := HC4.out; simpa using this)
            go_wp2_with fail
            go_meet
            exact ⟨rfl, T, HTO.out, ((lawX_R (HC5.out.front (m := [_, _, _]) (l := []) [2, 0, 1] 3 (by decide)) HTX.out).front (m := [_, _, _]) (l := []) [1, 2, 0] 3 (by decide))⟩
          | true =>
            have HC5 : Hid (Hold w4 [.blk g x.cells 29, relR p (putV T x.name []), lawX w bx G X]) := hI (by have := HC4.out; simpa using this)
            have HT2 : Hid (MailOk (putV T x.name [])) := hI (HTO.out.put x.name [] (.inl HK.out.symm) (by simp))
            have hb5 := (lawX_of HC5.out (w0 := w) (b := bx) (G := G) (X := X) (by simp)).2.2.map
            have HM5 : Hid (MapAt Try.prog 9 kS (w4.alloc (.cells #[] 27)) bx X.vals) := hI (hb5.keep (Keeps.of_below ((Below.refl _ _).alloc (Nat.le_refl _) _)) (by have := hb5.lt; omega))
            clear hb5
            go_wp2_with (at_mapUpdate; refine wpList_updateV _ rfl _ _ _ _ rfl 9 30 strKV kS_inj Try.underlying26 bx _ rfl HM5.out HFW.out x.name HKN.out ?_)
            intro w6 hm6 hk6 hz6
            have hk46 : Keeps (fun y => y = bx ∨ w4.heap.size ≤ y) w4 w6 := ((Keeps.of_below ((Below.refl w4.heap.size w4).alloc (Nat.le_refl _) (.cells #[] 27))).mono (fun _ h => .inr h)).trans (hk6.mono (fun y hy => hy.imp id (fun h => Nat.le_trans (by simp) h)))
            have HL6 := hI (lawX_put (HC5.out.front (m := [_, _, _]) (l := []) [2, 0, 1] 3 (by decide)) HTX.out hm6 hk46 (Box.empty _ _ _))
            have HC6 : Hid (Hold w6 [.blk g x.cells 29, relR p (putV T x.name []), lawR w bx (putV T x.name [])]) := hI (HL6.out.front (m := [_, _, _]) (l := []) [1, 2, 0] 3 (by decide))
            clear hm6 hk6 hz6 hk46 HL6 HM5
            go_wp2_with fail
            go_meet
            exact ⟨rfl, (putV T x.name []), HT2.out, HC6.out⟩
        have hkb0 : (x.kind == 0) = false := by simpa using hk0
        have hkb1 : (x.kind == 1) = false := by simpa using hk1
        have hkb2 : (x.kind == 2) = false := by simpa using hk2
        have hkb3 : (x.kind == 3) = false := by simpa using hk3
        clear hk0 hk1 hk2 hk3
        go_wp2_with fail
        go_meet
        exact ⟨rfl, T, HTO.out, ((lawX_R (HCX.out.front (m := [_, _, _]) (l := []) [2, 0, 1] 3 (by decide)) HTX.out).front (m := [_, _, _]) (l := []) [1, 2, 0] 3 (by decide))⟩
      case rest =>
        obtain ⟨rfl, T2, hok2, hr2⟩ := hcut
        have HT2 := hI hok2
        have HC := hI hr2
        have g1 : wc.cell? ⟨g, 1, none⟩ = some (.string x.name) := (hr2.blkOf (p := g) (cs := x.cells) (T := 29) (by simp)).cell 1
        clear hok2 hr2 HCX HM3 HV3 HH3 HBX HFW HXL HG3 HB3 HLC HTX
        go_upto_region 49 with fail
        obtain ⟨wd, hwd⟩ : ∃ wd, wd = World.drew wc := ⟨_, rfl⟩
        have HCT : Hid (Hold wd [.blk g x.cells 29, relR p T2, lawR w bx T2]) := hI (by rw [hwd]; exact HC.out.drew)
        obtain ⟨G9, X9, hT9, hx9⟩ := lawR_exact (HCT.out.front (m := [_, _, _]) (l := []) [2, 0, 1] 3 (by decide))
        have hb9 := (lawX_of hx9 (w0 := w) (b := bx) (G := G9) (X := X9) (by simp)).2.2
        obtain ⟨_, _, la9, lc9, hv9, _⟩ := lawX_look hb9 hT9 x.name
        have HM9 := hI hb9.map
        have HLN := hI (relLen_any p T2 x.name _ wd (HCT.out.front (m := [_, _, _]) (l := []) [1, 0, 2] 3 (by decide)) HXN.out)
        have HG9 := hI (HCT.out.blkOf (p := g) (cs := x.cells) (T := 29) (by simp))
        obtain ⟨n9, hn9⟩ : ∃ n9, n9 = (getV T2 x.name []).length := ⟨_, rfl⟩
        rw [← hn9] at hv9 HLN
        have HV9 := hI hv9
        clear hb9 hv9 hn9 HC hx9 hT9
        refine wp_region_held (S := fun W : World => W = wd) (by kernel_rfl) ?_
        change wpAnyH _ _ _ _ _ _ _ _ (World.drew _)
        rw [← hwd]
        clear hwd
        refine tkH 0 148 none (.pointer (some ⟨p, 0, none⟩)) rfl (by kernel_rfl) (fun _ _ _ h => h) (by rfl) (by intro W hW; go_simp) rfl ?_
        simp only [Act.put, q1, q2, q3]
        refine tkH 1 149 none (.pointer (some ⟨g, 1, none⟩)) rfl (by kernel_rfl) (fun _ _ _ h => h) (by rfl) (by intro W hW; go_simp) rfl ?_
        simp only [Act.put, q1, q2, q3]
        refine tkH 2 150 none (.string x.name) rfl (by kernel_rfl) (fun _ _ _ h => h) (by rfl) (by intro W hW; have hc : wd.cell? ⟨g, 1, none⟩ = some (.string x.name) := HG9.out.cell 1; go_simp) rfl ?_
        simp only [Act.put, q1, q2, q3]
        refine tkH 4 152 none (.map (some bx)) rfl (by kernel_rfl) (fun _ _ _ h => h) (by rfl) (by intro W hW; go_simp) rfl ?_
        simp only [Act.put, q1, q2, q3]
        refine tkH 5 153 none (.pointer (some ⟨g, 1, none⟩)) rfl (by kernel_rfl) (fun _ _ _ h => h) (by rfl) (by intro W hW; go_simp) rfl ?_
        simp only [Act.put, q1, q2, q3]
        refine tkH 6 154 none (.string x.name) rfl (by kernel_rfl) (fun _ _ _ h => h) (by rfl) (by intro W hW; have hc : wd.cell? ⟨g, 1, none⟩ = some (.string x.name) := HG9.out.cell 1; go_simp) rfl ?_
        simp only [Act.put, q1, q2, q3]
        refine anyH_ready (rs := [3, 7]) (by decide +kernel) (by simp) ?_
        refine AllReadyH.cons (o := { dst := some 151, op := .call { callee := .value (.func 15), args := #[.tmp 148, .tmp 150], argTypes := #[24, 9] }, type := _, pos := _, after := _, guard := none }) rfl (fun K hK => ?_) (AllReadyH.cons (o := { dst := some 155, op := .lookup 26 (.tmp 152) (.tmp 154) false, type := _, pos := _, after := _, guard := none }) rfl (fun K hK => ?_) AllReadyH.nil)
        · go_simp
          refine HLN.out.mono ?_
          rintro e wz ⟨rfl, rfl⟩
          refine hK _ _ rfl ?_
          clear hK K
          try simp only [Act.put, q1, q2, q3]
          refine anyH_ready (rs := [7]) (by decide +kernel) (by simp) ?_
          refine AllReadyH.cons (o := { dst := some 155, op := .lookup 26 (.tmp 152) (.tmp 154) false, type := _, pos := _, after := _, guard := none }) rfl (fun K hK => ?_) AllReadyH.nil
          refine step_lookupV rfl (.tmp 152) (.tmp 154) rfl 9 30 strKV kS_inj Try.underlying26 (zRows _) bx _ (by rfl) HM9.out x.name (by exact HKN.out) ?_
          rw [HV9.out]
          refine hK _ _ rfl ?_
          clear hK K
          try simp only [Act.put, q1, q2, q3]
          refine tkH 8 156 none (.int .i64 n9) rfl (by kernel_rfl) (fun _ _ _ h => h) (by rfl) (by intro W hW; go_simp) rfl ?_
          simp only [Act.put, q1, q2, q3]
          refine tkH 9 157 none (.bool false) rfl (by kernel_rfl) (fun _ _ _ h => h) (by rfl) (by intro W hW; go_simp) rfl ?_
          simp only [Act.put, q1, q2, q3]
          refine wpAnyH_done (by decide +kernel) ?_ _
          go_wp2_with fail
          go_roundw
          case rel => exact ⟨k + 1, T2, by go_num, by omega, HT2.out, HCT.out.tail⟩
          case measure => simp [intOf]; omega
        · refine step_lookupV rfl (.tmp 152) (.tmp 154) rfl 9 30 strKV kS_inj Try.underlying26 (zRows _) bx _ (by rfl) HM9.out x.name (by exact HKN.out) ?_
          rw [HV9.out]
          refine hK _ _ rfl ?_
          clear hK K
          try simp only [Act.put, q1, q2, q3]
          refine tkH 8 156 none (.int .i64 n9) rfl (by kernel_rfl) (fun _ _ _ h => h) (by rfl) (by intro W hW; go_simp) rfl ?_
          simp only [Act.put, q1, q2, q3]
          refine anyH_ready (rs := [3]) (by decide +kernel) (by simp) ?_
          refine AllReadyH.cons (o := { dst := some 151, op := .call { callee := .value (.func 15), args := #[.tmp 148, .tmp 150], argTypes := #[24, 9] }, type := _, pos := _, after := _, guard := none }) rfl (fun K hK => ?_) AllReadyH.nil
          go_simp
          refine HLN.out.mono ?_
          rintro e wz ⟨rfl, rfl⟩
          refine hK _ _ rfl ?_
          clear hK K
          try simp only [Act.put, q1, q2, q3]
          refine tkH 9 157 none (.bool false) rfl (by kernel_rfl) (fun _ _ _ h => h) (by rfl) (by intro W hW; go_simp) rfl ?_
          simp only [Act.put, q1, q2, q3]
          refine wpAnyH_done (by decide +kernel) ?_ _
          go_wp2_with fail
          go_roundw
          case rel => exact ⟨k + 1, T2, by go_num, by omega, HT2.out, HCT.out.tail⟩
          case measure => simp [intOf]; omega
    · have hge : ¬ (k : Int) < l.length := by omega
      go_wp2_with fail
      go_ret
      exact ⟨rfl, HC.out.lawBase (w0 := w) (b := bx) (T := T) (by simp)⟩
end Go.Proofs.Ytofmkkcbfeadgaa
