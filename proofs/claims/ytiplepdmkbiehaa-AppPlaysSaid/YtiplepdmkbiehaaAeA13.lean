/- The law AppEnds returns true for all rows of steps: no conditions. -/
import Derived.Test.YtiplepdmkbiehaaAeA12
import Derived.BigQuiet
import Derived.Lib.SlBytesConst
import Derived.Deep.LoopGhost
import Derived.OpenShut
import Derived.Deep.Slices
import Derived.ChangeArms
import Derived.WideShapes
import Derived.Deep.DeepCutAuto
namespace Go.Proofs.Ytiplepdmkbiehaa
set_option linter.unusedSimpArgs false
set_option linter.unusedVariables false
open Go.RowKit Go.Maps Go.MapKept Go.WideMaps
/-- What of a pair is read. -/
theorem pairR_read {W : World} {p q : Nat} {mp : Value} {t : List (List UInt8)} {x y : SideF} {l : List Res} (h : Hold W (pairR p q mp t x y :: l)) : ∃ z u, Blk W p (pairC z u) 38 ∧ Sl W 1 z.s x.said.length (x.said.map strC) ∧ Sl W 1 z.h x.hear.length (x.hear.map strC) ∧ Sl W 1 u.s y.said.length (y.said.map strC) ∧ Sl W 1 u.h y.hear.length (y.hear.map strC) := by
  obtain ⟨z, u, h1⟩ := pairR_two h
  have h2 := restR_iff.1 h1.pull4
  exact ⟨z, u, h2.blk0, h2.tail.own0.1.sl, h2.tail.tail.own0.1.sl, h2.tail.tail.tail.tail.tail.own0.1.sl, h2.tail.tail.tail.tail.tail.tail.own0.1.sl⟩
set_option maxRecDepth 100000 in
set_option maxHeartbeats 8000000 in
theorem heard_drw (p q : Nat) (mp : Value) (t : Sums) (x y : SideF) (l : List Res) (w : World) (h : Hold w (pairR p q mp t x y :: l)) (h1 : x.hear <+: y.said) (h2 : y.hear <+: x.said) :
    Calls Try.prog 15 #[.pointer (some ⟨p, 0, none⟩)] w fun e w' => e = .returned (.bool true) ∧ ∃ k, w' = w.drewN k := by
  obtain ⟨z, u, hb, ss, sh, us, uh⟩ := pairR_read h
  have HC := hI h
  have HB := hI hb
  obtain ⟨a1, c1, f1, -, m1⟩ := ss.form
  obtain ⟨a2, c2, f2, n2, m2⟩ := sh.form
  obtain ⟨a3, c3, f3, -, m3⟩ := us.form
  obtain ⟨a4, c4, f4, n4, m4⟩ := uh.form
  obtain ⟨ze, zP, zs, zh, zf, zo⟩ := z
  obtain ⟨ue, uP, us', uh', uf, uo⟩ := u
  simp only at f1 f2 f3 f4
  subst f1 f2 f3 f4
  have HSS := hI ss
  have HSH := hI sh
  have HUS := hI us
  have HUH := hI uh
  have HP1 := hI h1
  have HP2 := hI h2
  have l1 := h1.length_le
  have l2 := h2.length_le
  -- in every world that comes by draws alone
  have HALL : Hid (∀ k, Hold (w.drewN k) (pairR p q mp t x y :: l) ∧ (w.drewN k).cell? ⟨p, 6, none⟩ = some (.slice a2 x.hear.length c2) ∧ (w.drewN k).cell? ⟨p, 7, none⟩ = some (.slice a4 y.hear.length c4) ∧ (w.drewN k).cell? ⟨p, 4, none⟩ = some (.slice a1 x.said.length c1) ∧ (w.drewN k).cell? ⟨p, 5, none⟩ = some (.slice a3 y.said.length c3)) := hI (fun k => by
    have hbk := hb.below (below_drewN (Below.refl w.heap.size w) k) hb.lt
    exact ⟨h.drewN k, hbk.cell 6, hbk.cell 7, hbk.cell 4, hbk.cell 5⟩)
  unfold maxLen at m1 m2 m3 m4
  clear h hb ss sh us uh h1 h2
  go_enter Try.func15, Try.ntmps15
  go_wp2_with fail
  go_loopw [6] (fun i wr => ∃ j k : Nat, j ≤ 2 ∧ i = .int .i64 j ∧ wr = w.drewN k) (fun i _ => 2 - (intOf i).toNat)
  case atStart => exact ⟨0, 0, by decide, rfl, rfl⟩
  case round =>
    obtain ⟨j, k, hj, rfl, rfl⟩ := hrel
    obtain ⟨hc, q6, q7, q4, q5⟩ := HALL.out k
    clear hc
    have hj3 : j = 0 ∨ j = 1 ∨ j = 2 := by omega
    rcases hj3 with rfl | rfl | rfl
    · have hgt : decide ((y.said.length : Int) < (x.hear.length : Int)) = false := by simp; omega
      go_wp2_with fail
      refine wp_region_held (S := fun W : World => ∃ kk, W = w.drewN kk) (by kernel_rfl) ?_
      change wpAnyH _ _ _ _ _ _ _ _ (World.drew _)
      refine tkH 0 9 none (.pointer (some ⟨p, 0, none⟩)) rfl (by kernel_rfl) (fun _ _ _ h => h) (by rfl) (by intro W hW; go_simp) ⟨k + 1, rfl⟩ ?_
      simp only [Act.put, zq1, zq2, zq3]
      refine tkH 1 10 none (.int .i64 0) rfl (by kernel_rfl) (fun _ _ _ h => h) (by rfl) (by intro W hW; go_simp) ⟨k + 1, rfl⟩ ?_
      simp only [Act.put, zq1, zq2, zq3]
      refine tkH 2 11 none (.pointer (some ⟨p, 0, none⟩)) rfl (by kernel_rfl) (fun _ _ _ h => h) (by rfl) (by intro W hW; go_simp) ⟨k + 1, rfl⟩ ?_
      simp only [Act.put, zq1, zq2, zq3]
      refine tkH 3 12 none (.pointer (some ⟨p, 6, none⟩)) rfl (by kernel_rfl) (fun _ _ _ h => h) (by rfl) (by intro W hW; go_simp) ⟨k + 1, rfl⟩ ?_
      simp only [Act.put, zq1, zq2, zq3]
      refine tkH 4 13 none (.pointer (some ⟨p, 6, none⟩)) rfl (by kernel_rfl) (fun _ _ _ h => h) (by rfl) (by intro W hW; go_simp) ⟨k + 1, rfl⟩ ?_
      simp only [Act.put, zq1, zq2, zq3]
      refine tkH 5 14 none (.slice a2 x.hear.length c2) rfl (by kernel_rfl) (fun _ _ _ h => h) (by rfl) (by intro W hW; obtain ⟨kk, rfl⟩ : ∃ kk, W = w.drewN kk := hW; have hce := (HALL.out kk).2.1; go_simp) ⟨k + 1, rfl⟩ ?_
      simp only [Act.put, zq1, zq2, zq3]
      refine tkH 6 15 none (.int .i64 x.hear.length) rfl (by kernel_rfl) (fun _ _ _ h => h) (by rfl) (by intro W hW; go_simp) ⟨k + 1, rfl⟩ ?_
      simp only [Act.put, zq1, zq2, zq3]
      refine tkH 7 16 none (.pointer (some ⟨p, 0, none⟩)) rfl (by kernel_rfl) (fun _ _ _ h => h) (by rfl) (by intro W hW; go_simp) ⟨k + 1, rfl⟩ ?_
      simp only [Act.put, zq1, zq2, zq3]
      refine tkH 8 17 none (.int .i64 0) rfl (by kernel_rfl) (fun _ _ _ h => h) (by rfl) (by intro W hW; go_simp) ⟨k + 1, rfl⟩ ?_
      simp only [Act.put, zq1, zq2, zq3]
      refine tkH 9 18 none (.int .i64 1) rfl (by kernel_rfl) (fun _ _ _ h => h) (by rfl) (by intro W hW; go_simp; try rfl) ⟨k + 1, rfl⟩ ?_
      simp only [Act.put, zq1, zq2, zq3]
      refine tkH 10 19 none (.pointer (some ⟨p, 0, none⟩)) rfl (by kernel_rfl) (fun _ _ _ h => h) (by rfl) (by intro W hW; go_simp) ⟨k + 1, rfl⟩ ?_
      simp only [Act.put, zq1, zq2, zq3]
      refine tkH 11 20 none (.pointer (some ⟨p, 4, none⟩)) rfl (by kernel_rfl) (fun _ _ _ h => h) (by rfl) (by intro W hW; go_simp) ⟨k + 1, rfl⟩ ?_
      simp only [Act.put, zq1, zq2, zq3]
      refine tkH 12 21 none (.pointer (some ⟨p, 5, none⟩)) rfl (by kernel_rfl) (fun _ _ _ h => h) (by rfl) (by intro W hW; go_simp) ⟨k + 1, rfl⟩ ?_
      simp only [Act.put, zq1, zq2, zq3]
      refine tkH 13 22 none (.slice a3 y.said.length c3) rfl (by kernel_rfl) (fun _ _ _ h => h) (by rfl) (by intro W hW; obtain ⟨kk, rfl⟩ : ∃ kk, W = w.drewN kk := hW; have hce := (HALL.out kk).2.2.2.2; go_simp) ⟨k + 1, rfl⟩ ?_
      simp only [Act.put, zq1, zq2, zq3]
      refine tkH 14 23 none (.int .i64 y.said.length) rfl (by kernel_rfl) (fun _ _ _ h => h) (by rfl) (by intro W hW; go_simp) ⟨k + 1, rfl⟩ ?_
      simp only [Act.put, zq1, zq2, zq3]
      refine tkH 15 24 none (.bool false) rfl (by kernel_rfl) (fun _ _ _ h => h) (by rfl) (by intro W hW; go_simp) ⟨k + 1, rfl⟩ ?_
      simp only [Act.put, zq1, zq2, zq3]
      refine wpAnyH_done (by decide +kernel) ?_ _
      clear hgt q6 q7 q4 q5
      have hwd : (w.drewN k).drew = w.drewN (k + 1) := rfl
      rw [hwd]
      clear hwd
      obtain ⟨hc, q6, q7, q4, q5⟩ := HALL.out (k + 1)
      clear hc
      go_wp2_with fail
      go_loopw [32] (fun i wr => ∃ m : Nat, m ≤ x.hear.length ∧ i = .int .i64 m ∧ wr = w.drewN (k + 1)) (fun i _ => x.hear.length - (intOf i).toNat)
      case atStart => exact ⟨0, Nat.zero_le _, rfl, rfl⟩
      case round =>
        obtain ⟨m, hm, rfl, rfl⟩ := hrel
        by_cases hlt : m < x.hear.length
        · have hmi : (m : Int) < x.hear.length := by omega
          have hmj : (m : Int) < y.said.length := by omega
          have hm2 : m < y.said.length := by omega
          have hlow : Below w.heap.size w (w.drewN (k + 1)) := below_drewN (Below.refl _ _) _
          obtain ⟨b1, o1, e1, g1⟩ := (HSH.out.below hlow).addr (by rw [List.length_map]; omega)
          obtain ⟨b2, o2, e2, g2⟩ := (HUS.out.below hlow).addr (by rw [List.length_map]; omega)
          subst e1 e2
          have r1 := g1 m (.string x.hear[m]) (by rw [List.getElem?_map, List.getElem?_eq_getElem hlt]; rfl)
          have r2 := g2 m (.string y.said[m]) (by rw [List.getElem?_map, List.getElem?_eq_getElem hm2]; rfl)
          have heq : y.said[m] = x.hear[m] := (HP1.out.getElem hlt).symm
          rw [heq] at r2
          obtain ⟨s, hs⟩ : ∃ s, s = x.hear[m] := ⟨_, rfl⟩
          rw [← hs] at r1 r2
          clear heq hs g1 g2 hlow hm2
          go_wp2_with fail
          go_roundw
          case rel => exact ⟨m + 1, by omega, by go_num, trivial⟩
          case measure => simp [intOf]; omega
        · obtain rfl : m = x.hear.length := by omega
          go_wp2_with fail
          go_roundw
          case rel => exact ⟨1, k + 1, by decide, rfl, rfl⟩
          case measure => simp [intOf]
    · have hgt : decide ((x.said.length : Int) < (y.hear.length : Int)) = false := by simp; omega
      go_wp2_with fail
      refine wp_region_held (S := fun W : World => ∃ kk, W = w.drewN kk) (by kernel_rfl) ?_
      change wpAnyH _ _ _ _ _ _ _ _ (World.drew _)
      refine tkH 0 9 none (.pointer (some ⟨p, 0, none⟩)) rfl (by kernel_rfl) (fun _ _ _ h => h) (by rfl) (by intro W hW; go_simp) ⟨k + 1, rfl⟩ ?_
      simp only [Act.put, zq1, zq2, zq3]
      refine tkH 1 10 none (.int .i64 1) rfl (by kernel_rfl) (fun _ _ _ h => h) (by rfl) (by intro W hW; go_simp) ⟨k + 1, rfl⟩ ?_
      simp only [Act.put, zq1, zq2, zq3]
      refine tkH 2 11 none (.pointer (some ⟨p, 0, none⟩)) rfl (by kernel_rfl) (fun _ _ _ h => h) (by rfl) (by intro W hW; go_simp) ⟨k + 1, rfl⟩ ?_
      simp only [Act.put, zq1, zq2, zq3]
      refine tkH 3 12 none (.pointer (some ⟨p, 6, none⟩)) rfl (by kernel_rfl) (fun _ _ _ h => h) (by rfl) (by intro W hW; go_simp) ⟨k + 1, rfl⟩ ?_
      simp only [Act.put, zq1, zq2, zq3]
      refine tkH 4 13 none (.pointer (some ⟨p, 7, none⟩)) rfl (by kernel_rfl) (fun _ _ _ h => h) (by rfl) (by intro W hW; go_simp) ⟨k + 1, rfl⟩ ?_
      simp only [Act.put, zq1, zq2, zq3]
      refine tkH 5 14 none (.slice a4 y.hear.length c4) rfl (by kernel_rfl) (fun _ _ _ h => h) (by rfl) (by intro W hW; obtain ⟨kk, rfl⟩ : ∃ kk, W = w.drewN kk := hW; have hce := (HALL.out kk).2.2.1; go_simp) ⟨k + 1, rfl⟩ ?_
      simp only [Act.put, zq1, zq2, zq3]
      refine tkH 6 15 none (.int .i64 y.hear.length) rfl (by kernel_rfl) (fun _ _ _ h => h) (by rfl) (by intro W hW; go_simp) ⟨k + 1, rfl⟩ ?_
      simp only [Act.put, zq1, zq2, zq3]
      refine tkH 7 16 none (.pointer (some ⟨p, 0, none⟩)) rfl (by kernel_rfl) (fun _ _ _ h => h) (by rfl) (by intro W hW; go_simp) ⟨k + 1, rfl⟩ ?_
      simp only [Act.put, zq1, zq2, zq3]
      refine tkH 8 17 none (.int .i64 1) rfl (by kernel_rfl) (fun _ _ _ h => h) (by rfl) (by intro W hW; go_simp) ⟨k + 1, rfl⟩ ?_
      simp only [Act.put, zq1, zq2, zq3]
      refine tkH 9 18 none (.int .i64 0) rfl (by kernel_rfl) (fun _ _ _ h => h) (by rfl) (by intro W hW; go_simp; try rfl) ⟨k + 1, rfl⟩ ?_
      simp only [Act.put, zq1, zq2, zq3]
      refine tkH 10 19 none (.pointer (some ⟨p, 0, none⟩)) rfl (by kernel_rfl) (fun _ _ _ h => h) (by rfl) (by intro W hW; go_simp) ⟨k + 1, rfl⟩ ?_
      simp only [Act.put, zq1, zq2, zq3]
      refine tkH 11 20 none (.pointer (some ⟨p, 4, none⟩)) rfl (by kernel_rfl) (fun _ _ _ h => h) (by rfl) (by intro W hW; go_simp) ⟨k + 1, rfl⟩ ?_
      simp only [Act.put, zq1, zq2, zq3]
      refine tkH 12 21 none (.pointer (some ⟨p, 4, none⟩)) rfl (by kernel_rfl) (fun _ _ _ h => h) (by rfl) (by intro W hW; go_simp) ⟨k + 1, rfl⟩ ?_
      simp only [Act.put, zq1, zq2, zq3]
      refine tkH 13 22 none (.slice a1 x.said.length c1) rfl (by kernel_rfl) (fun _ _ _ h => h) (by rfl) (by intro W hW; obtain ⟨kk, rfl⟩ : ∃ kk, W = w.drewN kk := hW; have hce := (HALL.out kk).2.2.2.1; go_simp) ⟨k + 1, rfl⟩ ?_
      simp only [Act.put, zq1, zq2, zq3]
      refine tkH 14 23 none (.int .i64 x.said.length) rfl (by kernel_rfl) (fun _ _ _ h => h) (by rfl) (by intro W hW; go_simp) ⟨k + 1, rfl⟩ ?_
      simp only [Act.put, zq1, zq2, zq3]
      refine tkH 15 24 none (.bool false) rfl (by kernel_rfl) (fun _ _ _ h => h) (by rfl) (by intro W hW; go_simp) ⟨k + 1, rfl⟩ ?_
      simp only [Act.put, zq1, zq2, zq3]
      refine wpAnyH_done (by decide +kernel) ?_ _
      clear hgt q6 q7 q4 q5
      have hwd : (w.drewN k).drew = w.drewN (k + 1) := rfl
      rw [hwd]
      clear hwd
      obtain ⟨hc, q6, q7, q4, q5⟩ := HALL.out (k + 1)
      clear hc
      go_wp2_with fail
      go_loopw [32] (fun i wr => ∃ m : Nat, m ≤ y.hear.length ∧ i = .int .i64 m ∧ wr = w.drewN (k + 1)) (fun i _ => y.hear.length - (intOf i).toNat)
      case atStart => exact ⟨0, Nat.zero_le _, rfl, rfl⟩
      case round =>
        obtain ⟨m, hm, rfl, rfl⟩ := hrel
        by_cases hlt : m < y.hear.length
        · have hmi : (m : Int) < y.hear.length := by omega
          have hmj : (m : Int) < x.said.length := by omega
          have hm2 : m < x.said.length := by omega
          have hlow : Below w.heap.size w (w.drewN (k + 1)) := below_drewN (Below.refl _ _) _
          obtain ⟨b1, o1, e1, g1⟩ := (HUH.out.below hlow).addr (by rw [List.length_map]; omega)
          obtain ⟨b2, o2, e2, g2⟩ := (HSS.out.below hlow).addr (by rw [List.length_map]; omega)
          subst e1 e2
          have r1 := g1 m (.string y.hear[m]) (by rw [List.getElem?_map, List.getElem?_eq_getElem hlt]; rfl)
          have r2 := g2 m (.string x.said[m]) (by rw [List.getElem?_map, List.getElem?_eq_getElem hm2]; rfl)
          have heq : x.said[m] = y.hear[m] := (HP2.out.getElem hlt).symm
          rw [heq] at r2
          obtain ⟨s, hs⟩ : ∃ s, s = y.hear[m] := ⟨_, rfl⟩
          rw [← hs] at r1 r2
          clear heq hs g1 g2 hlow hm2
          go_wp2_with fail
          go_roundw
          case rel => exact ⟨m + 1, by omega, by go_num, trivial⟩
          case measure => simp [intOf]; omega
        · obtain rfl : m = y.hear.length := by omega
          go_wp2_with fail
          go_roundw
          case rel => exact ⟨2, k + 1, by decide, rfl, rfl⟩
          case measure => simp [intOf]
    · go_wp2_with fail
      go_ret
      exact ⟨rfl, k, rfl⟩
theorem filesR_nil {W : World} {b : Nat} {l : List Res} (h : Hold W (mapV Try.prog 2 kI b ([] : List (Int × Value)) :: l)) : Hold W (filesR b [] :: l) :=
  Hold.ex.2 ⟨[], Hold.app.2 h.addEmp.swap⟩
theorem strsR_nil {W : World} {l : List Res} (h : Hold W l) : Hold W (strsR (.slice none 0 0) [] :: l) := h.addNil 9 1
/-- Such a pair is laid. -/
theorem pairR_new {W : World} {q e0 e1 : Nat} {mp : Value} {l : List Res} (h : Hold W (appR e1 q ([], []) AppF.nil :: appR e0 q ([], []) AppF.nil :: tabR q (.slice none 0 0) (.slice none 0 0) mp [] :: l)) :
    Hold (((((W.alloc (.map #[] 0)).alloc (.map #[] 0)).alloc (.map #[] 0)).alloc (.map #[] 0)).alloc (.cells #[.pointer (some ⟨e0, 0, none⟩), .pointer (some ⟨e1, 0, none⟩), .slice none 0 0, .slice none 0 0, .slice none 0 0, .slice none 0 0, .slice none 0 0, .slice none 0 0, .map (some W.heap.size), .map (some (W.heap.size + 1)), .map (some (W.heap.size + 2)), .map (some (W.heap.size + 3))] 38))
      (pairR (W.heap.size + 4) q mp [] SideF.nil SideF.nil :: l) := by
  have h1 := h.mapVMade Try.prog 2 kI
  have h2 := h1.mapVMade Try.prog 2 kI
  have h3 := h2.mapVMade Try.prog 2 kI
  have h4 := h3.mapVMade Try.prog 2 kI
  have h5 := h4.addBlkAt [.pointer (some ⟨e0, 0, none⟩), .pointer (some ⟨e1, 0, none⟩), .slice none 0 0, .slice none 0 0, .slice none 0 0, .slice none 0 0, .slice none 0 0, .slice none 0 0, .map (some W.heap.size), .map (some (W.heap.size + 1)), .map (some (W.heap.size + 2)), .map (some (W.heap.size + 3))] 38 (b := W.heap.size + 4) (by simp)
  have e1' : (W.alloc (.map #[] 0)).heap.size = W.heap.size + 1 := by simp
  have e2' : ((W.alloc (.map #[] 0)).alloc (.map #[] 0)).heap.size = W.heap.size + 2 := by simp
  have e3' : (((W.alloc (.map #[] 0)).alloc (.map #[] 0)).alloc (.map #[] 0)).heap.size = W.heap.size + 3 := by simp
  rw [e1', e2', e3'] at h5
  -- blk, m3, m2, m1, m0, app e1, app e0, tab
  have h6 := strsR_nil (strsR_nil (strsR_nil (strsR_nil h5)))
  have h7 : Hold _ (([strsR (.slice none 0 0) [], strsR (.slice none 0 0) [], strsR (.slice none 0 0) [], strsR (.slice none 0 0) [], .blk (W.heap.size + 4) _ 38, mapV Try.prog 2 kI (W.heap.size + 3) ([] : List (Int × Value)), mapV Try.prog 2 kI (W.heap.size + 2) ([] : List (Int × Value)), mapV Try.prog 2 kI (W.heap.size + 1) ([] : List (Int × Value)), mapV Try.prog 2 kI W.heap.size ([] : List (Int × Value)), appR e1 q ([], []) AppF.nil, appR e0 q ([], []) AppF.nil, tabR q (.slice none 0 0) (.slice none 0 0) mp []] : List Res) ++ l) := h6
  have h8 := h7.front [8, 7, 0, 1, 2, 3, 4, 5, 6, 9, 10, 11] 12 (by decide)
  have h9 := filesR_nil h8
  have h10 : Hold _ (filesR (W.heap.size + 1) [] :: filesR W.heap.size [] :: _) := filesR_nil h9.swap
  have h11 : Hold _ (([filesR (W.heap.size + 1) [], filesR W.heap.size [], strsR (.slice none 0 0) [], strsR (.slice none 0 0) [], strsR (.slice none 0 0) [], strsR (.slice none 0 0) [], .blk (W.heap.size + 4) _ 38, mapV Try.prog 2 kI (W.heap.size + 3) ([] : List (Int × Value)), mapV Try.prog 2 kI (W.heap.size + 2) ([] : List (Int × Value)), appR e1 q ([], []) AppF.nil, appR e0 q ([], []) AppF.nil, tabR q (.slice none 0 0) (.slice none 0 0) mp []] : List Res) ++ l) := h10
  have h12 := h11.front [6, 2, 3, 1, 8, 4, 5, 0, 7, 10, 9, 11] 12 (by decide)
  have h13 : Hold _ (restR (W.heap.size + 4) ⟨e0, ([], []), .slice none 0 0, .slice none 0 0, W.heap.size, W.heap.size + 2⟩ ⟨e1, ([], []), .slice none 0 0, .slice none 0 0, W.heap.size + 1, W.heap.size + 3⟩ SideF.nil SideF.nil :: appR e0 q ([], []) EndW.nil.app :: appR e1 q ([], []) EndW.nil.app :: tabR q (.slice none 0 0) (.slice none 0 0) mp [] :: l) := restR_iff.2 h12
  exact pairR_back (x := SideF.nil) (y := SideF.nil) (E := EndW.nil) (G := EndW.nil) (z := ⟨e0, ([], []), .slice none 0 0, .slice none 0 0, W.heap.size, W.heap.size + 2⟩) (u := ⟨e1, ([], []), .slice none 0 0, .slice none 0 0, W.heap.size + 1, W.heap.size + 3⟩) (P1 := ([], [])) (P2 := ([], [])) h13.push4
set_option maxRecDepth 100000 in
set_option maxHeartbeats 2000000 in
theorem open_any (l : List Res) (w : World) (h : Hold w l) :
    Calls Try.prog 7 #[] w fun e w' => ∃ p q mp, e = .returned (.pointer (some ⟨p, 0, none⟩)) ∧ Hold w' (pairR p q mp [] SideF.nil SideF.nil :: l) := by
  have HC := hI h
  clear h
  go_enter Try.func7, Try.ntmps7
  have hmm := @run_makeMap Try.prog
  go_wp2_with fail
  refine (symNew_any _ _ HC.out).mono ?_
  rintro e w1 ⟨q, mp, rfl, hc⟩
  have HN := hI (appNew_any q _ w1 hc)
  unfold provV at HN
  clear hc HC
  go_wp2_with fail
  refine HN.out.mono ?_
  rintro e w2 ⟨e0, rfl, hc⟩
  have HN2 := hI (appNew_any q _ w2 hc)
  unfold provV at HN2
  clear hc HN
  go_wp2_with fail
  refine HN2.out.mono ?_
  rintro e w3 ⟨e1, rfl, hc⟩
  have HC := hI (pairR_new hc)
  clear hc HN2
  go_wp2_with fail
  go_ret
  exact ⟨_, q, mp, rfl, HC.out⟩
/-- A side of which the law keeps nothing. -/
def memS (E : EndW) : SideF := ⟨E, [], [], [], []⟩
abbrev PairS := Sums × SideF × SideF
def mvS (s : PairS) : PairS := ((moveW s.1 s.2.1 s.2.2).1, (moveW s.1 s.2.1 s.2.2).2.1, (moveW s.1 s.2.1 s.2.2).2.2.1)
theorem moveW_mem (t : Sums) (x y : SideF) : moveW t (memS x.app) (memS y.app) = ((moveW t x y).1, memS (moveW t x y).2.1.app, memS (moveW t x y).2.2.1.app, (moveW t x y).2.2.2) := by
  unfold moveW memS
  simp only
  split <;> rfl
theorem Ok.mvS {n p : Nat} {s : PairS} (h : Ok n p s.1 s.2.1 s.2.2) (hn : n ≤ 1000000) : Ok (n + 2) p (mvS s).1 (mvS s).2.1 (mvS s).2.2 := by
  rcases (h.move hn).2.1 with ⟨_, _, h2⟩ | ⟨h2, _, _⟩
  · exact h2.mono (Nat.le_refl _) (by omega)
  · unfold Go.Proofs.Ytiplepdmkbiehaa.mvS
    rw [h2]
    exact h.mono (by omega) (Nat.le_refl _)
def hiB : ByteArray := ⟨#[104, 105]⟩
def fB : ByteArray := ⟨#[102]⟩
def abcL : List UInt8 := [97, 98, 99]
def alS : Nat → PairS
  | 0 => ((offerS [] (chatS SideF.nil hiB) fB abcL).1, (offerS [] (chatS SideF.nil hiB) fB abcL).2, SideF.nil)
  | j + 1 => mvS (alS j)
theorem alS_ok : ∀ j, j ≤ 1000 → Ok (4 + 2 * j) 130 (alS j).1 (alS j).2.1 (alS j).2.2
  | 0, _ => (Ok.nil.chat (s := hiB) (by decide)).offer (s := fB) (b := abcL) (by decide) (by decide)
  | j + 1, h => (alS_ok j (by omega)).mvS (by omega)
theorem al_b0 : (moveW (alS 0).1 (alS 0).2.1 (alS 0).2.2).2.2.2 = true := by decide +kernel
theorem al_b1 : (moveW (alS 1).1 (alS 1).2.1 (alS 1).2.2).2.2.2 = true := by decide +kernel
theorem al_b2 : (moveW (alS 2).1 (alS 2).2.1 (alS 2).2.2).2.2.2 = false := by decide +kernel
theorem al_log : (alS 2).2.2.app.log = [⟨0, 0, hiB, []⟩, ⟨1, 1, fB, []⟩] := by kernel_rfl
theorem al_no : hasV (alS 2).2.2.app.ins 2 = false := by decide +kernel
theorem al_waits : waitsB (alS 2).2.1.app.app = false := by decide +kernel
theorem al_chat : chatW EndW.nil hiB = ((chatS SideF.nil hiB).app, 0) := by kernel_rfl
theorem al_offer : offerW [] (chatS SideF.nil hiB).app fB abcL = ((alS 0).1, (alS 0).2.1.app, 1, 0) := by kernel_rfl
theorem answerA_no (t : Sums) (A : AppF) (id : Int) (yes : Bool) (h : hasV A.ins id = false) : answerA t A id yes = (t, A, 9) := by rw [answerA, if_pos h]
set_option maxRecDepth 100000 in
set_option maxHeartbeats 8000000 in
theorem alive22_any (w : World) : Calls Try.prog 6 #[] w fun e w' => e = .returned (.bool true) ∧ Below w.heap.size w w' := by
  have kc := fun (w : World) (C : Array Value) (n c : Nat) => Lib.run_convert_bytes_const (P := Try.prog) w 40 5 C n c Try.underlying40 Try.underlying5
  have HB := hI (Hold.start w)
  go_enter Try.func6, Try.ntmps6
  go_wp2_with fail
  refine (open_any _ _ HB.out).mono ?_
  rintro e w1 ⟨p, q, mp, rfl, hc⟩
  obtain ⟨z, u, hc⟩ := pairR_two hc
  obtain ⟨ze, zP, zs, zh, zf, zo⟩ := z
  obtain ⟨ue, uP, us, uh, uf, uo⟩ := u
  have hb := restR_blk (p := p) (z := ⟨ze, zP, zs, zh, zf, zo⟩) (u := ⟨ue, uP, us, uh, uf, uo⟩) (x := SideF.nil) (y := SideF.nil) hc (by simp)
  have c0 : w1.cell? ⟨p, 0, none⟩ = some (.pointer (some ⟨ze, 0, none⟩)) := hb.cell 0
  have c1 : w1.cell? ⟨p, 1, none⟩ = some (.pointer (some ⟨ue, 0, none⟩)) := hb.cell 1
  have HCH := hI (appChat_any ze q zP EndW.nil.app hiB _ w1 hc (by decide) (by decide))
  rw [chatW_eq, al_chat] at HCH
  clear hc hb HB
  go_wp2_with fail
  refine HCH.out.mono ?_
  rintro e w2 ⟨rfl, hc⟩
  have hb := restR_blk (p := p) (z := ⟨ze, zP, zs, zh, zf, zo⟩) (u := ⟨ue, uP, us, uh, uf, uo⟩) (x := SideF.nil) (y := SideF.nil) hc (by simp)
  have c0 : w2.cell? ⟨p, 0, none⟩ = some (.pointer (some ⟨ze, 0, none⟩)) := hb.cell 0
  have hbs : Bs (w2.alloc (.cells #[.int .u8 97, .int .u8 98, .int .u8 99] 5 (3, 4))) (.slice (some ⟨w2.heap.size, 0, none⟩) 3 3) abcL := Bs.litM abcL rfl rfl (by simp [abcL, maxLen])
  have h3 := hc.addRow ((Below.refl w2.heap.size w2).alloc (Nat.le_refl _) _) hbs (fun k _ hk => by simp [Value.ownBlock] at hk; omega)
  have HOF := hI (appOffer_any ze q zP (.slice none 0 0) (.slice none 0 0) mp [] (chatS SideF.nil hiB).app.app fB (.slice (some ⟨w2.heap.size, 0, none⟩) 3 3) abcL _ _ h3.pull4.pull3 (fun W h => h.row0) (by decide) (by decide +kernel) (by decide +kernel) (by decide +kernel) (by decide +kernel) (by decide) (by decide +kernel) (by decide +kernel))
  rw [offerW_eq, al_offer] at HOF
  clear hc hb h3 hbs HCH c1
  go_wp2_with fail
  refine HOF.out.mono ?_
  rintro e w3 ⟨rfl, P', hc⟩
  have h4 := hc.front (m := [_, _, _, _, _]) (l := [.base w]) [0, 3, 1, 4, 2] 5 (by decide)
  have h5 : Hold w3 (pairR p q mp (alS 0).1 (memS (alS 0).2.1.app) (memS (alS 0).2.2.app) :: .row (.slice (some ⟨w2.heap.size, 0, none⟩) 3 3) abcL :: [.base w]) := pairR_back (x := SideF.nil) (y := SideF.nil) (E := (alS 0).2.1.app) (G := EndW.nil) (z := ⟨ze, zP, zs, zh, zf, zo⟩) (u := ⟨ue, uP, us, uh, uf, uo⟩) (P1 := P') (P2 := uP) h4
  have HC := hI h5.swap.tail
  clear hc h4 h5 HOF c0
  go_wp2_with fail
  go_loopg [] 2 (fun k wr => ∃ j, j + k = 2 ∧ Hold wr (pairR p q mp (alS j).1 (memS (alS j).2.1.app) (memS (alS j).2.2.app) :: [.base w]))
  case atStart => exact ⟨0, rfl, HC.out⟩
  case round =>
    obtain ⟨j, hj, hr⟩ := hrel
    have hm := (alS_ok j (by omega)).mv (by omega)
    have HM := hI (move0_any p q mp (alS j).1 (memS (alS j).2.1.app) (memS (alS j).2.2.app) _ wr hr hm)
    rw [moveW_mem] at HM
    clear hr hm HC
    have hj3 : j = 0 ∨ j = 1 ∨ j = 2 := by omega
    rcases hj3 with rfl | rfl | rfl
    · rw [al_b0] at HM
      obtain rfl : gk = 2 := by omega
      clear hj
      go_wp2_with fail
      refine HM.out.mono ?_
      rintro e w5 ⟨rfl, hc⟩
      have HC5 := hI hc
      clear hc HM
      go_wp2_with fail
      go_roundg 1
      case measure => decide
      case rel => exact ⟨1, rfl, HC5.out⟩
    · rw [al_b1] at HM
      obtain rfl : gk = 1 := by omega
      clear hj
      go_wp2_with fail
      refine HM.out.mono ?_
      rintro e w5 ⟨rfl, hc⟩
      have HC5 := hI hc
      clear hc HM
      go_wp2_with fail
      go_roundg 0
      case measure => decide
      case rel => exact ⟨2, rfl, HC5.out⟩
    · rw [al_b2] at HM
      clear hj
      go_wp2_with fail
      refine HM.out.mono ?_
      rintro e w5 ⟨rfl, hc⟩
      have he : moveW (alS 2).1 (alS 2).2.1 (alS 2).2.2 = ((alS 2).1, (alS 2).2.1, (alS 2).2.2, false) := by
        rcases ((alS_ok 2 (by decide)).move (by decide)).2.1 with ⟨e, _⟩ | ⟨e, _⟩
        · rw [al_b2] at e
          simp at e
        · exact e
      rw [he] at hc
      obtain ⟨z2, u2, hc⟩ := pairR_two hc
      obtain ⟨ze2, zP2, zs2, zh2, zf2, zo2⟩ := z2
      obtain ⟨ue2, uP2, us2, uh2, uf2, uo2⟩ := u2
      have hb := restR_blk (p := p) (z := ⟨ze2, zP2, zs2, zh2, zf2, zo2⟩) (u := ⟨ue2, uP2, us2, uh2, uf2, uo2⟩) (x := memS (alS 2).2.1.app) (y := memS (alS 2).2.2.app) hc (by simp)
      have c1 : w5.cell? ⟨p, 1, none⟩ = some (.pointer (some ⟨ue2, 0, none⟩)) := hb.cell 1
      have HEV := hI (appEvents_any ue2 q uP2 (alS 2).2.2.app.app _ w5 hc.swap)
      clear hc hb HM he
      go_wp2_with ((with_reducible show Calls _ _ #[_] _ _); refine HEV.out.mono ?_)
      rintro e w6 ⟨v, rfl, hc⟩
      have hlg : (alS 2).2.2.app.app.log = [⟨0, 0, hiB, []⟩, ⟨1, 1, fB, []⟩] := al_log
      rw [hlg] at hc
      obtain ⟨ds, h7⟩ := logR_open hc.swap
      have hds : ds.length = 2 := by simpa using sumsR_len h7.tail
      obtain ⟨d0, d1, rfl⟩ : ∃ d0 d1, ds = [d0, d1] := by
        match ds, hds with
        | [d0, d1], _ => exact ⟨d0, d1, rfl⟩
      obtain ⟨la, lc, hvf, hlc, hlm⟩ := h7.own0.1.sl.form
      subst hvf
      obtain ⟨bl, ol, hal, hcell⟩ := h7.own0.1.sl.addr (by simp [logCells, evCells])
      subst hal
      have e0 := hcell 0 (.int .i64 0) rfl
      have e2 := hcell 2 (.string hiB) rfl
      have e4 := hcell 4 (.int .i64 1) rfl
      have e5 := hcell 5 (.int .i64 1) rfl
      have e6 := hcell 6 (.string fB) rfl
      rw [Nat.add_zero] at e0
      unfold hiB at e2
      unfold fB at e6
      -- own, sums, app u, app z, tab, rest, base
      have hb := restR_blk (p := p) (z := ⟨ze2, zP2, zs2, zh2, zf2, zo2⟩) (u := ⟨ue2, uP2, us2, uh2, uf2, uo2⟩) (x := memS (alS 2).2.1.app) (y := memS (alS 2).2.2.app) hc (by simp)
      have c1 : w6.cell? ⟨p, 1, none⟩ = some (.pointer (some ⟨ue2, 0, none⟩)) := hb.cell 1
      have h8 := hc.front (m := [_, _, _, _, _]) (l := [.base w]) [0, 3, 1, 2, 4] 5 (by decide)
      have hno := answerA_no (alS 2).1 { (alS 2).2.2.app.app with log := [] } 2 true al_no
      have HAN := hI (appAnswer_any ue2 q uP2 (.slice none 0 0) (.slice none 0 0) mp (alS 2).1 { (alS 2).2.2.app.app with log := [] } 2 true _ w6 h8 (by decide) (fun hk => (Bool.false_ne_true (al_no.symm.trans hk)).elim) (by decide +kernel) (by decide) (by decide +kernel))
      rw [hno] at HAN
      clear hc h7 h8 hno hb hcell HEV hlg
      go_wp2_with ((with_reducible show Calls _ _ #[_, _, _] _ _); refine HAN.out.mono ?_)
      rintro e w7 ⟨rfl, hc⟩
      have h9 := hc.front (m := [_, _, _, _, _]) (l := [.base w]) [3, 0, 1, 2, 4] 5 (by decide)
      have hb := restR_blk (p := p) (z := ⟨ze2, zP2, zs2, zh2, zf2, zo2⟩) (u := ⟨ue2, uP2, us2, uh2, uf2, uo2⟩) (x := memS (alS 2).2.1.app) (y := memS (alS 2).2.2.app) hc (by simp)
      have c0 : w7.cell? ⟨p, 0, none⟩ = some (.pointer (some ⟨ze2, 0, none⟩)) := hb.cell 0
      have HWT := hI (appWaits_any ze2 q zP2 (alS 2).2.1.app.app _ w7 h9)
      rw [al_waits] at HWT
      clear hc h9 hb HAN
      go_wp2_with ((with_reducible show Calls _ _ #[_] _ _); refine HWT.out.mono ?_)
      rintro e w8 ⟨rfl, hc⟩
      have HB8 := hI (hc.baseOf (w0 := w) (by simp))
      clear hc HWT
      go_wp2_with fail
      go_ret
      exact ⟨rfl, HB8.out⟩
end Go.Proofs.Ytiplepdmkbiehaa
namespace Go.Proofs.Ytiplepdmkbiehaa
set_option linter.unusedSimpArgs false
set_option linter.unusedVariables false
open Go.RowKit
section
def flatFs (rec : TypeId → Option (List TypeId)) (cells : TypeId → Nat) : List Field → Nat → Option (List TypeId × Nat)
  | [], o => some ([], o)
  | f :: fs, o =>
    match rec f.type with
    | some l => if f.offset = o ∧ l.length = cells f.type then (flatFs rec cells fs (o + l.length)).map fun x => (l ++ x.1, x.2) else none
    | none => none
/-- The types of a type's cells, structs and arrays taken apart. -/
def flatTy (P : Program) : Nat → TypeId → Option (List TypeId)
  | 0, _ => none
  | fuel + 1, t =>
    match P.underlying t with
    | some (.struct fs) => match flatFs (flatTy P fuel) P.cellsOf fs.toList 0 with
      | some (l, o) => if o = P.cellsOf t then some l else none
      | none => none
    | some (.array n e) => match flatTy P fuel e with
      | some l => if l.length = P.cellsOf e ∧ n * l.length = P.cellsOf t then some ((List.range n).flatMap fun _ => l) else none
      | none => none
    | some _ => some [t]
    | none => none
theorem flatFs_ok {rec : TypeId → Option (List TypeId)} {cells : TypeId → Nat} : ∀ {fs : List Field} {o : Nat} {L : List TypeId} {o' : Nat}, flatFs rec cells fs o = some (L, o') →
    o' = o + L.length ∧ ∀ j t', L[j]? = some t' → ∃ f ∈ fs, ∃ l k, rec f.type = some l ∧ l[k]? = some t' ∧ f.offset + k = o + j ∧ l.length = cells f.type ∧ f.offset + l.length ≤ o'
  | [], o, L, o', h => by
    simp only [flatFs, Option.some.injEq, Prod.mk.injEq] at h
    obtain ⟨rfl, rfl⟩ := h
    exact ⟨rfl, fun j t' h => by simp at h⟩
  | f :: fs, o, L, o', h => by
    simp only [flatFs] at h
    split at h
    · rename_i l hl
      split at h
      · rename_i hc
        obtain ⟨⟨L1, o1⟩, h1, h2⟩ := Option.map_eq_some_iff.1 h
        simp only [Prod.mk.injEq] at h2
        obtain ⟨rfl, rfl⟩ := h2
        obtain ⟨e1, e2⟩ := flatFs_ok h1
        refine ⟨by simp; omega, fun j t' hj => ?_⟩
        by_cases hjl : j < l.length
        · rw [List.getElem?_append_left hjl] at hj
          exact ⟨f, by simp, l, j, hl, hj, by omega, hc.2, by omega⟩
        · rw [List.getElem?_append_right (by omega)] at hj
          obtain ⟨f', hf', l', k, q1, q2, q3, q4, q5⟩ := e2 _ _ hj
          exact ⟨f', by simp [hf'], l', k, q1, q2, by omega, q4, by omega⟩
      · simp at h
    · simp at h
section
variable {H : Type} {enc : TypeId × Value → H} {P : Program} {w : World} {base : Nat} {spare : Nat → Bool} {held : Bool}
/-- A cell of a type that is neither a struct nor an array reads by itself. -/
def Leaf (enc : TypeId × Value → H) (P : Program) (w : World) (base : Nat) (spare : Nat → Bool) (held : Bool) (t : TypeId) (c : Value) : Prop :=
  (∃ d, P.underlying t = some d ∧ (∀ fs, d ≠ .struct fs) ∧ ∀ n e, d ≠ .array n e) ∧ ∃ n y, DataW.trod enc P w base spare held n t [c] = some y
def Leaves (enc : TypeId × Value → H) (P : Program) (w : World) (base : Nat) (spare : Nat → Bool) (held : Bool) (ts : List TypeId) (cs : List Value) : Prop :=
  cs.length = ts.length ∧ ∀ (j : Nat) t' c, ts[j]? = some t' → cs[j]? = some c → Leaf enc P w base spare held t' c
theorem getElem?_slice {α : Type} (l : List α) (o n k : Nat) (hk : k < n) : ((l.drop o).take n)[k]? = l[o + k]? := by
  rw [List.getElem?_take, if_pos hk, List.getElem?_drop]
theorem length_flatMap_const {α : Type} (l : List α) : ∀ n : Nat, ((List.range n).flatMap fun _ => l).length = n * l.length := by
  intro n
  induction n with
  | zero => simp
  | succ n ih =>
    rw [List.range_succ, List.flatMap_append, List.length_append, ih, Nat.add_mul]
    simp
theorem flatMap_const_get {α : Type} (l : List α) : ∀ (n j : Nat) (x : α), ((List.range n).flatMap fun _ => l)[j]? = some x → ∃ i k, i < n ∧ k < l.length ∧ j = i * l.length + k ∧ l[k]? = some x := by
  intro n
  induction n with
  | zero => intro j x h; simp at h
  | succ n ih =>
    intro j x h
    rw [List.range_succ, List.flatMap_append] at h
    simp only [List.flatMap_cons, List.flatMap_nil, List.append_nil] at h
    have hlen := length_flatMap_const l n
    by_cases hj : j < n * l.length
    · rw [List.getElem?_append_left (by omega)] at h
      obtain ⟨i, k, h1, h2, h3, h4⟩ := ih j x h
      exact ⟨i, k, by omega, h2, h3, h4⟩
    · rw [List.getElem?_append_right (by omega), hlen] at h
      exact ⟨n, j - n * l.length, by omega, (List.getElem?_eq_some_iff.1 h).1, by omega, h⟩
theorem trod_leaves : ∀ (m : Nat) (t : TypeId) (ts : List TypeId) (n : Nat) (cs : List Value) (x : DataW H × List MemPlace), flatTy P m t = some ts → P.cellsOf t = ts.length → cs.length = P.cellsOf t →
    DataW.trod enc P w base spare held n t cs = some x → Leaves enc P w base spare held ts cs := by
  intro m
  induction m with
  | zero => intro t ts n cs x h; simp [flatTy] at h
  | succ m ih =>
    intro t ts n cs x hf hts hcs h
    refine ⟨by omega, fun j t' c hj hc => ?_⟩
    rw [flatTy] at hf
    split at hf
    · rename_i fs hu
      split at hf
      · rename_i l o hfl
        split at hf
        · rename_i ho
          obtain rfl : l = ts := by simpa using hf
          obtain ⟨e1, e2⟩ := flatFs_ok hfl
          obtain ⟨f, hfm, l', k, q1, q2, q3, q4, q5⟩ := e2 j t' hj
          obtain ⟨xs, n', rfl, _, _, hxl, hfield⟩ := DataW.trod_struct hu h
          obtain ⟨i, hi⟩ := List.mem_iff_getElem?.1 hfm
          have hi' : fs[i]? = some f := by simpa using hi
          have hlt : i < xs.length := by
            have := (Array.getElem?_eq_some_iff.1 hi').1
            omega
          have ht := hfield i f hi'
          rw [List.getElem?_eq_getElem hlt] at ht
          have hk : k < l'.length := (List.getElem?_eq_some_iff.1 q2).1
          have hjl : j < cs.length := (List.getElem?_eq_some_iff.1 hc).1
          have hlen : ((cs.drop f.offset).take (P.cellsOf f.type)).length = P.cellsOf f.type := by
            rw [List.length_take, List.length_drop]
            omega
          have r := ih f.type l' n' _ _ q1 (by omega) hlen ht
          exact r.2 k t' c q2 (by rw [getElem?_slice _ _ _ _ (by omega), q3]; simpa using hc)
        · simp at hf
      · simp at hf
    · rename_i nn e hu
      split at hf
      · rename_i l hl
        split at hf
        · rename_i ho
          obtain rfl : ((List.range nn).flatMap fun _ => l) = ts := by simpa using hf
          obtain ⟨i, k, q1, q2, q3, q4⟩ := flatMap_const_get l nn j t' hj
          obtain ⟨xs, n', rfl, _, _, hxl, hel⟩ := DataW.trod_array hu h
          have hlt : i < xs.length := by omega
          have ht := hel i q1
          rw [List.getElem?_eq_getElem hlt] at ht
          have hmul : i * P.cellsOf e + P.cellsOf e ≤ P.cellsOf t := by
            rw [← ho.2, ← ho.1, ← Nat.succ_mul]
            exact Nat.mul_le_mul_right _ q1
          have hlen : ((cs.drop (i * P.cellsOf e)).take (P.cellsOf e)).length = P.cellsOf e := by
            rw [List.length_take, List.length_drop]
            omega
          have r := ih e l n' _ _ hl (by omega) hlen ht
          exact r.2 k t' c q4 (by rw [getElem?_slice _ _ _ _ (by omega), ← ho.1, ← q3]; exact hc)
        · simp at hf
      · simp at hf
    · rename_i d hd1 hd2 hu
      obtain rfl : [t] = ts := by simpa using hf
      have h1 : cs.length = 1 := by simpa [hts] using hcs
      match cs, h1 with
      | [c0], _ =>
        cases j with
        | zero =>
          simp only [List.getElem?_cons_zero, Option.some.injEq] at hj hc
          subst hj hc
          exact ⟨⟨d, hu, fun fs e => hd1 fs e, fun n e he => hd2 n e he⟩, n, x, h⟩
        | succ j => simp at hj
    · simp at hf
theorem Leaf.int {k : IntKind} {t : TypeId} {c : Value} (ht : P.underlying t = some (.int k)) (h : Leaf enc P w base spare held t c) : ∃ n, c = .int k n ∧ (Lit.int k n).wf = true := by
  obtain ⟨_, n, y, hy⟩ := h
  obtain ⟨m, e, _, hw⟩ := DataW.trod_int ht hy
  exact ⟨m, by simpa using e, hw⟩
theorem Leaf.bool {t : TypeId} {c : Value} (ht : P.underlying t = some .bool) (h : Leaf enc P w base spare held t c) : ∃ b, c = .bool b := by
  obtain ⟨_, n, y, hy⟩ := h
  obtain ⟨m, e, _⟩ := DataW.trod_bool ht hy
  exact ⟨m, by simpa using e⟩
theorem Leaf.string {t : TypeId} {c : Value} (ht : P.underlying t = some .string) (h : Leaf enc P w base spare held t c) : ∃ s : ByteArray, c = .string s ∧ s.size ≤ maxLen := by
  obtain ⟨_, n, y, hy⟩ := h
  obtain ⟨m, e, _, hw⟩ := DataW.trod_string ht hy
  exact ⟨m, by simpa using e, hw⟩
theorem Leaf.one {t : TypeId} {c : Value} (h : Leaf enc P w base spare held t c) : c.oneCell' = true := by
  obtain ⟨⟨d, hu, h1, h2⟩, n, y, hy⟩ := h
  cases n with
  | zero => simp [DataW.trod] at hy
  | succ n =>
    cases c with
    | agg cs => 
      unfold DataW.trod at hy
      rw [hu] at hy
      split at hy <;> simp_all
    | tuple vs =>
      unfold DataW.trod at hy
      rw [hu] at hy
      split at hy <;> simp_all
    | _ => rfl
theorem Leaves.one {ts : List TypeId} {cs : List Value} (h : Leaves enc P w base spare held ts cs) : ∀ u ∈ cs, u.oneCell' = true := by
  intro u hu
  obtain ⟨j, hj⟩ := List.mem_iff_getElem?.1 hu
  have hl : j < cs.length := (List.getElem?_eq_some_iff.1 hj).1
  have : j < ts.length := by have := h.1; omega
  exact (h.2 j ts[j] u (List.getElem?_eq_getElem this) hj).one
theorem Leaves.cons {t : TypeId} {ts : List TypeId} {cs : List Value} (h : Leaves enc P w base spare held (t :: ts) cs) : ∃ c cs', cs = c :: cs' ∧ Leaf enc P w base spare held t c ∧ Leaves enc P w base spare held ts cs' := by
  obtain ⟨h1, h2⟩ := h
  cases cs with
  | nil => simp at h1
  | cons c cs' => exact ⟨c, cs', rfl, h2 0 t c rfl rfl, by simpa using h1, fun j t' c' hj hc => h2 (j + 1) t' c' (by simpa using hj) (by simpa using hc)⟩
theorem Leaves.nil {cs : List Value} (h : Leaves enc P w base spare held [] cs) : cs = [] := by simpa using h.1
theorem addr_of_cell {a : Addr} {u : Value} (h : w.cell? a = some u) : a = ⟨a.block, a.off, none⟩ := by
  obtain ⟨b, o, s⟩ := a
  cases s with
  | none => rfl
  | some n => simp [World.cell?] at h; split at h <;> simp at h
/-- A slice of structs (or of whatever), each element's cells by their types. -/
theorem open_elems {t e : TypeId} {v : Value} {d : DataW H} {ps : List MemPlace} {m : Nat} {ts : List TypeId} (ht : P.underlying t = some (.slice e)) (hf : flatTy P m e = some ts) (hc : P.cellsOf e = ts.length) (hpos : 0 < ts.length)
    (hv : ∃ a len cap, v = .slice a len cap) (h : DataW.Trod enc P w base spare held t v d ps) :
    ∃ (n : Nat) (xs : List (List Value)), xs.length = n ∧ (∀ x ∈ xs, Leaves enc P w base spare held ts x) ∧ Sl w ts.length v n xs.flatten := by
  obtain ⟨a, len, cap, rfl⟩ := hv
  obtain ⟨fuel, hy⟩ := h
  rcases Deep.open_slice ht hy with ⟨h1, _⟩ | ⟨a', len', cap', m', n', D, Pl, h1, hb, hl, hm, hm', hx, hel⟩
  · simp only [Value.cells, List.cons.injEq, and_true, Value.slice.injEq] at h1
    obtain ⟨rfl, rfl, rfl⟩ := h1
    exact ⟨0, [], rfl, by simp, Sl.nil _ _ _⟩
  · simp only [Value.cells, List.cons.injEq, and_true, Value.slice.injEq] at h1
    obtain ⟨rfl, rfl, rfl⟩ := h1
    have hlm : len ≤ m' := by rw [hm']; split <;> omega
    have key : ∀ i, ∃ cs', i < len → cs'.length = ts.length ∧ Leaves enc P w base spare held ts cs' ∧ ∀ j u, cs'[j]? = some u → w.cell? (a'.add (i * ts.length + j)) = some u := by
      intro i
      by_cases hi : i < len
      · obtain ⟨cs', h2, h3⟩ := hel i (by omega)
        obtain ⟨_, h4, h5⟩ := World.cells?_some h2
        rw [hc] at h4
        refine ⟨cs', fun _ => ⟨h4, trod_leaves m e ts n' cs' _ hf hc (by omega) h3, fun j u hj => ?_⟩⟩
        have hjl := (List.getElem?_eq_some_iff.1 hj).1
        have := h5 j (by omega)
        rw [Deep.add_add, hc] at this
        rw [this, hj]
      · exact ⟨[], fun h => absurd h hi⟩
    obtain ⟨f, hf'⟩ : ∃ f : Nat → List Value, ∀ i, i < len → (f i).length = ts.length ∧ Leaves enc P w base spare held ts (f i) ∧ ∀ j u, (f i)[j]? = some u → w.cell? (a'.add (i * ts.length + j)) = some u :=
      ⟨fun i => (key i).choose, fun i hi => (key i).choose_spec hi⟩
    refine ⟨len, (List.range len).map f, by simp, ?_, ?_⟩
    · intro x hx
      obtain ⟨i, hi, rfl⟩ := List.mem_map.1 hx
      exact (hf' i (List.mem_range.1 hi)).2.1
    · have hlen : ∀ k, k ≤ len → (((List.range k).map f).flatten).length = k * ts.length := by
        intro k
        induction k with
        | zero => simp
        | succ k ih =>
          intro hk
          rw [List.range_succ, List.map_append, List.flatten_append, List.length_append, ih (by omega)]
          simp only [List.map_cons, List.map_nil, List.flatten_cons, List.flatten_nil, List.append_nil, (hf' k (by omega)).1, Nat.add_mul, Nat.one_mul]
      have hget : ∀ k, k ≤ len → ∀ j u, (((List.range k).map f).flatten)[j]? = some u → w.cell? (a'.add j) = some u := by
        intro k
        induction k with
        | zero => intro _ j u h; simp at h
        | succ k ih =>
          intro hk j u h
          rw [List.range_succ, List.map_append, List.flatten_append] at h
          simp only [List.map_cons, List.map_nil, List.flatten_cons, List.flatten_nil, List.append_nil] at h
          by_cases hj : j < k * ts.length
          · rw [List.getElem?_append_left (by rw [hlen k (by omega)]; exact hj)] at h
            exact ih (by omega) j u h
          · rw [List.getElem?_append_right (by rw [hlen k (by omega)]; omega), hlen k (by omega)] at h
            have := (hf' k (by omega)).2.2 _ u h
            rwa [show k * ts.length + (j - k * ts.length) = j by omega] at this
      refine ⟨hlen len (Nat.le_refl _), ?_, some a', cap, rfl, hl, hm, fun h => by simp at h, ?_⟩
      · intro u hu
        obtain ⟨x, hx, hu⟩ := List.mem_flatten.1 hu
        obtain ⟨i, hi, rfl⟩ := List.mem_map.1 hx
        exact (hf' i (List.mem_range.1 hi)).2.1.one u hu
      · by_cases h0 : len = 0
        · subst h0; exact .inl rfl
        · have hpos' : 0 < ((List.range len).map f).flatten.length := by rw [hlen len (Nat.le_refl _)]; exact Nat.mul_pos (by omega) hpos
          have hc0 := hget len (Nat.le_refl _) 0 _ (List.getElem?_eq_getElem hpos')
          have ea : a' = ⟨a'.block, a'.off, none⟩ := by
            have := addr_of_cell hc0
            simpa [Addr.add] using this
          refine .inr ⟨a'.block, a'.off, by rw [← ea], fun j u hj => ?_⟩
          have := hget len (Nat.le_refl _) j u hj
          rw [ea, Addr.add_lit] at this
          exact this
/-- Each of some lists is one of a function's values: then they are a list's. -/
theorem exists_map {α β : Type} (f : α → β) : ∀ (xs : List β), (∀ x ∈ xs, ∃ a, x = f a) → ∃ l : List α, xs = l.map f
  | [], _ => ⟨[], rfl⟩
  | x :: xs, h => by
    obtain ⟨a, rfl⟩ := h x (by simp)
    obtain ⟨l, rfl⟩ := exists_map f xs (fun y hy => h y (by simp [hy]))
    exact ⟨a :: l, rfl⟩
theorem exists_map' {α β : Type} (p : α → Prop) (f : α → β) : ∀ (xs : List β), (∀ x ∈ xs, ∃ a, x = f a ∧ p a) → ∃ l : List α, xs = l.map f ∧ ∀ a ∈ l, p a
  | [], _ => ⟨[], rfl, by simp⟩
  | x :: xs, h => by
    obtain ⟨a, rfl, ha⟩ := h x (by simp)
    obtain ⟨l, rfl, hl⟩ := exists_map' p f xs (fun y hy => h y (by simp [hy]))
    exact ⟨a :: l, rfl, by simpa using ⟨ha, hl⟩⟩
end
end
end Go.Proofs.Ytiplepdmkbiehaa
namespace Go.Proofs.Ytiplepdmkbiehaa
set_option linter.unusedSimpArgs false
set_option linter.unusedVariables false
open Go.ChangeShapes Go.WideShapes Go.RowKit Go.OpenShut
section
variable {H : Type} {enc : TypeId × Value → H} {w : World} {base : Nat} {spare : Nat → Bool} {held : Bool}
theorem byte_of_wf {n : Int} (h : (Lit.int .u8 n).wf = true) : ∃ x : UInt8, (Value.int .u8 n) = bV x := by
  have h := bounds_u8 h
  refine ⟨UInt8.ofNat n.toNat, ?_⟩
  rw [bV, UInt8.toNat_ofNat']
  congr 1
  omega
theorem flat_bV : ∀ l : List UInt8, (l.map fun x => [bV x]).flatten = bCells l
  | [] => rfl
  | x :: l => by rw [List.map_cons, List.flatten_cons, flat_bV l]; rfl
end
section
variable {H : Type} {enc : TypeId × Value → H} {w : World} {base : Nat} {spare : Nat → Bool} {held : Bool}
set_option maxRecDepth 100000 in
theorem leaf_box {c : Value} (h : Leaf enc Try.prog w base spare held 40 c) : ∃ l : List UInt8, Bs w c l := by
  obtain ⟨_, fuel, y, hy⟩ := h
  have hf : flatTy Try.prog 4 5 = some [5] := by kernel_rfl
  rcases Deep.open_slice Try.underlying40 hy with ⟨h1, _⟩ | ⟨a', len, cap, m', n', D, Pl, h1, _, hl, hm, hm', hx, hel⟩
  · simp only [List.cons.injEq, and_true] at h1
    subst h1
    exact ⟨[], Sl.nil _ _ _⟩
  · simp only [List.cons.injEq, and_true] at h1
    subst h1
    obtain ⟨n, xs, hn, hxs, hs⟩ := open_elems (v := .slice (some a') len cap) (d := y.1) (ps := y.2) Try.underlying40 hf (by kernel_rfl) (by decide) ⟨_, _, _, rfl⟩ ⟨fuel, hy⟩
    obtain ⟨l, rfl⟩ := exists_map (fun x : UInt8 => [bV x]) xs (fun x hxm => by
      obtain ⟨c0, x, rfl, k0, hL⟩ := (hxs x hxm).cons
      obtain rfl := hL.nil
      obtain ⟨y0, rfl, hw⟩ := k0.int Try.underlying5
      obtain ⟨z, hz⟩ := byte_of_wf hw
      exact ⟨z, by rw [hz]⟩)
    rw [flat_bV] at hs
    rw [List.length_map] at hn
    subst hn
    exact ⟨l, hs⟩
end
section
/-- A step, and where its bytes lie. -/
structure StX where
  s : StF
  v : Value
def StX.cells (x : StX) : List Value := [.int .i64 x.s.kind, .int .i64 x.s.at_, .int .i64 x.s.id, .string x.s.text, x.v]
def StX.In (x : StX) (w : World) : Prop := Bs w x.v x.s.data ∧ (-9223372036854775808 ≤ x.s.id ∧ x.s.id ≤ 9223372036854775807)
def StX.small (x : StX) : Prop := x.s.text.size ≤ 400 ∧ x.s.data.length ≤ 2100
section
variable {H : Type} {enc : TypeId × Value → H} {w : World} {base : Nat} {spare : Nat → Bool} {held : Bool}
set_option maxRecDepth 100000 in
theorem open_steps {v : Value} {d : DataW H} {ps : List MemPlace} {r : Reach} {b0 : Nat} (hval : Value.okWide Try.prog w r b0 45 v)
    (h : DataW.Trod enc Try.prog w base spare held 45 v d ps) : ∃ l : List StX, Sl w 5 v l.length (l.map StX.cells).flatten ∧ ∀ x ∈ l, x.In w := by
  have hf : flatTy Try.prog 8 48 = some [3, 3, 2, 9, 40] := by kernel_rfl
  obtain ⟨n, xs, hn, hx, hs⟩ := open_elems Try.underlying45 hf (by kernel_rfl) (by decide) (okWide_slice Try.underlying45 hval) h
  obtain ⟨l, rfl, hl⟩ := exists_map' (fun x : StX => x.In w) StX.cells xs (fun x hxm => by
    obtain ⟨c0, x0, rfl, k0, hL⟩ := (hx x hxm).cons
    obtain ⟨c1, x1, rfl, k1, hL⟩ := hL.cons
    obtain ⟨c2, x2, rfl, k2, hL⟩ := hL.cons
    obtain ⟨c3, x3, rfl, k3, hL⟩ := hL.cons
    obtain ⟨c4, x4, rfl, k4, hL⟩ := hL.cons
    obtain rfl := hL.nil
    obtain ⟨f0, rfl, _⟩ := k0.int Try.underlying3
    obtain ⟨f1, rfl, _⟩ := k1.int Try.underlying3
    obtain ⟨f2, rfl, g2⟩ := k2.int Try.underlying2
    obtain ⟨s, rfl, hs⟩ := k3.string Try.underlying9
    obtain ⟨b, hb⟩ := leaf_box k4
    exact ⟨⟨⟨f0, f1, f2, s, b⟩, c4⟩, rfl, hb, by simp [Lit.wf, IntKind.min, IntKind.max, IntKind.bits, IntKind.signed] at g2; exact g2⟩)
  rw [List.length_map] at hn
  subst hn
  exact ⟨l, hs, hl⟩
end
def BriefRes (l : List StX) (w : World) (e : Ending) (w' : World) : Prop := ∃ b, e = .returned (.bool b) ∧ Below w.heap.size w w' ∧ (b = true → l.length ≤ 150 ∧ ∀ x ∈ l, x.small)
set_option maxRecDepth 100000 in
set_option maxHeartbeats 4000000 in
theorem brief_any (v : Value) (l : List StX) (w : World) (h : Sl w 5 v l.length (l.map StX.cells).flatten) (hn : ∀ x ∈ l, x.In w) :
    Calls Try.prog 12 #[v] w (BriefRes l w) := by
  obtain ⟨al, cl, rfl, hcl, hml⟩ := h.form
  have HSL := hI h
  have HN := hI hn
  unfold maxLen at hml
  clear h hn
  by_cases hl : l.length ≤ 150
  · have hl' : ¬ ((150 : Int) < l.length) := by omega
    go_enter Try.func12, Try.ntmps12
    go_wp2_with fail
    go_loopw [10] (fun i wr => ∃ j : Nat, j ≤ l.length ∧ i = .int .i64 j ∧ Below w.heap.size w wr ∧ ∀ x ∈ l.take j, x.small) (fun i _ => l.length - (intOf i).toNat)
    case atStart => exact ⟨0, Nat.zero_le _, rfl, Below.refl _ _, by simp⟩
    case round =>
      obtain ⟨k, hk, rfl, hbw, hsm⟩ := hrel
      have HBW := hI hbw
      have HSM := hI hsm
      clear hsm
      by_cases hlt : k < l.length
      · obtain ⟨x, hx⟩ : ∃ x, x = l[k] := ⟨_, rfl⟩
        have hxm : x ∈ l := by rw [hx]; exact List.getElem_mem hlt
        obtain ⟨ab, cb, hxv, hcb, hmb⟩ := (HN.out x hxm).1.form
        obtain ⟨bl, ol, hal, hcell⟩ := HSL.out.addr (by rw [HSL.out.1]; omega)
        subst hal
        have hel : ∀ (j : Nat) u, x.cells[j]? = some u → wr.cell? ⟨bl, ol + k * 5 + j, none⟩ = some u := by
          intro j u hj
          have hj' : j < 5 := by have := (List.getElem?_eq_some_iff.1 hj).1; simpa [StX.cells] using this
          have := hcell (k * 5 + j) u (by rw [flatC_at (n := 5) StX.cells l (fun _ _ => rfl) k j hlt hj', ← hx]; exact hj)
          rw [Nat.add_assoc]
          exact below_cell hbw this
        obtain ⟨⟨xk, xa, xi, xt, xd⟩, xv⟩ := x
        simp only at hxv
        subst hxv
        have e0 := hel 0 (.int .i64 xk) rfl
        have e1 := hel 1 (.int .i64 xa) rfl
        have e2 := hel 2 (.int .i64 xi) rfl
        have e3 := hel 3 (.string xt) rfl
        have e4 := hel 4 (.slice ab xd.length cb) rfl
        rw [Nat.add_zero] at e0
        have hki : (k : Int) < l.length := by omega
        have HTK : Hid (l.take (k + 1) = l.take k ++ [⟨⟨xk, xa, xi, xt, xd⟩, .slice ab xd.length cb⟩]) := hI (by rw [← List.take_append_getElem hlt, ← hx])
        have HB2 : Hid (Below w.heap.size w (wr.alloc (.cells #[.int .i64 xk, .int .i64 xa, .int .i64 xi, .string xt, .slice ab xd.length cb] 48))) := hI (hbw.alloc hbw.size _)
        unfold maxLen at hmb
        clear hx hxm hcell hel hbw
        by_cases h4 : 400 < xt.size
        · have h4' : decide ((400 : Int) < (xt.size : Int)) = true := by simp; omega
          have h4i : (400 : Int) < (xt.size : Int) := by omega
          go_wp2_with fail
          go_ret
          exact ⟨_, rfl, HB2.out, fun e => by simp at e⟩
        · have h4i : ¬ ((400 : Int) < (xt.size : Int)) := by omega
          by_cases h5 : 2100 < xd.length
          · have h5i : (2100 : Int) < (xd.length : Int) := by omega
            go_wp2_with fail
            go_ret
            exact ⟨_, rfl, HB2.out, fun e => by simp at e⟩
          · have h5i : ¬ ((2100 : Int) < (xd.length : Int)) := by omega
            go_wp2_with fail
            go_roundw
            case rel =>
              refine ⟨k + 1, by omega, by go_num, HB2.out, ?_⟩
              rw [HTK.out]
              intro z hz
              rcases List.mem_append.1 hz with g | g
              · exact HSM.out z g
              · rw [List.mem_singleton] at g
                subst g
                exact ⟨Nat.le_of_not_lt h4, Nat.le_of_not_lt h5⟩
            case measure => simp [intOf]; omega
      · obtain rfl : k = l.length := by omega
        clear hbw
        go_wp2_with fail
        go_ret
        refine ⟨_, rfl, HBW.out, fun _ => ⟨hl, ?_⟩⟩
        have := HSM.out
        rwa [List.take_length] at this
  · have hl' : (150 : Int) < l.length := by omega
    go_enter Try.func12, Try.ntmps12
    go_wp2_with fail
    go_ret
    exact ⟨_, rfl, Below.refl _ _, fun e => by simp at e⟩
end
end Go.Proofs.Ytiplepdmkbiehaa
namespace Go.Proofs.Ytiplepdmkbiehaa
set_option linter.unusedSimpArgs false
set_option linter.unusedVariables false
open Go.RowKit
theorem Ok.step {n p : Nat} {t : Sums} {x y : SideF} (h : Ok n p t x y) (hn : n ≤ 1000000) (s : StF) (hs : s.text.size ≤ 400) :
    Ok (n + 2) (p + 65) (stepS t x y s).1 (stepS t x y s).2.1 (stepS t x y s).2.2 ∧ ((stepS t x y s).2.1.app.log = x.app.log ∨ (stepS t x y s).2.2 = y) ∧ (stepS t x y s).2.1.said.length ≤ x.said.length + 1 ∧ (stepS t x y s).2.2.said = y.said ∧
    (stepS t x y s).2.1.over = x.over ∧ (stepS t x y s).2.2.over = y.over := by
  unfold stepS
  by_cases h0 : s.kind = 0
  · rw [if_pos h0]
    refine ⟨h.chat (by omega), .inr rfl, ?_, rfl, rfl, rfl⟩
    rcases chatS_cases x s.text with e | ⟨_, e⟩ <;> simp [e]
  · rw [if_neg h0]
    by_cases h1 : s.kind = 1
    · rw [if_pos h1]
      exact ⟨h.offer (by omega) hn, .inr rfl, Nat.le_succ _, rfl, rfl, rfl⟩
    · rw [if_neg h1]
      by_cases h2 : s.kind = 2 ∨ s.kind = 3
      · rw [if_pos h2]
        exact ⟨(h.answer _ _ hn).1, .inr rfl, Nat.le_succ _, rfl, rfl, rfl⟩
      · rw [if_neg h2]
        by_cases h3 : s.kind = 4 ∨ s.kind = 5
        · rw [if_pos h3]
          exact ⟨h.cancel _ _ hn, .inr rfl, Nat.le_succ _, rfl, rfl, rfl⟩
        · rw [if_neg h3]
          obtain ⟨-, hm, e1, e2, e3⟩ := h.move hn
          have hsd : (moveW t x y).2.1.said = x.said ∧ (moveW t x y).2.2.1.said = y.said := by
            unfold moveW
            split <;> exact ⟨rfl, rfl⟩
          refine ⟨?_, .inl e1, by show (moveW t x y).2.1.said.length ≤ _; rw [hsd.1]; exact Nat.le_succ _, hsd.2, e2, e3⟩
          rcases hm with ⟨_, _, hm⟩ | ⟨hm, _, _⟩
          · exact hm.mono (Nat.le_refl _) (by omega)
          · rw [hm]
            exact h.mono (by omega) (by omega)
/-- Both ends, between steps. -/
structure StI (n p S M : Nat) (t : Sums) (x y : SideF) : Prop where
  ok : Ok n p t x y
  lx : x.app.log = []
  ly : y.app.log = []
  sx : x.said.length ≤ S
  sy : y.said.length ≤ S
  ox : x.over.length ≤ M
  oy : y.over.length ≤ M
theorem StI.nil : StI 0 0 0 0 [] SideF.nil SideF.nil := ⟨Ok.nil, rfl, rfl, Nat.le_refl _, Nat.le_refl _, Nat.le_refl _, Nat.le_refl _⟩
theorem StI.symm {n p S M : Nat} {t : Sums} {x y : SideF} (h : StI n p S M t x y) : StI n p S M t y x := ⟨h.ok.symm, h.ly, h.lx, h.sy, h.sx, h.oy, h.ox⟩
theorem StI.mono {n p S M n' p' S' M' : Nat} {t : Sums} {x y : SideF} (h : StI n p S M t x y) (h1 : n ≤ n') (h2 : p ≤ p') (h3 : S ≤ S') (h4 : M ≤ M') : StI n' p' S' M' t x y :=
  ⟨h.ok.mono h1 h2, h.lx, h.ly, Nat.le_trans h.sx h3, Nat.le_trans h.sy h3, Nat.le_trans h.ox h4, Nat.le_trans h.oy h4⟩
theorem StI.heard {n p S M : Nat} {t : Sums} {x y : SideF} (h : StI n p S M t x y) : x.hear <+: y.said ∧ y.hear <+: x.said := ⟨h.ok.symm.heard h.lx, h.ok.heard h.ly⟩
theorem lookW_said (x : SideF) : (lookW x).said = x.said := by
  have : ∀ (vs : List EvF) (z : SideF), (lookL z vs).said = z.said := by
    intro vs
    induction vs with
    | nil => intro z; rfl
    | cons v vs ih =>
      intro z
      show (lookL (lookE z v) vs).said = _
      rw [ih]
      unfold lookE
      split
      · rfl
      · split <;> rfl
  exact this _ _
theorem lookW_over (x : SideF) : (lookW x).over.length ≤ x.over.length + x.app.log.length := lookL_over _ _
/-- Behind a step, and a look at both: y's first. -/
structure Looked (n p S M : Nat) (t : Sums) (x y : SideF) : Prop where
  ok : Ok n p t x y
  hx : x.hear.length ≤ 1000000
  hy : y.hear.length ≤ 1000000
  ox : x.over.length ≤ 549755813888
  oy : y.over.length ≤ 549755813888
  ly : lookOks x (bare y) y.app.log
  lx : lookOks (lookW y) (bare x) x.app.log
  okm : Ok n p t x (lookW y)
  nxt : StI n p S (M + n) t (lookW x) (lookW y)
theorem Ok.hears {n p : Nat} {t : Sums} {x y : SideF} (h : Ok n p t x y) : y.hear.length ≤ x.said.length := by
  rw [h.both.a.texts]
  simp
theorem looked {n p S M : Nat} {t : Sums} {x y : SideF} (h : Ok n p t x y) (hS : S ≤ 1000000) (hM : M ≤ 549755813888) (Sn : Seen y x) (sx : x.said.length ≤ S) (sy : y.said.length ≤ S) (ox : x.over.length ≤ M) (oy : y.over.length ≤ M) : Looked n p S M t x y := by
  obtain ⟨h1, h2, h3, h4, h5⟩ := h.looks Sn
  obtain ⟨-, h6, -⟩ := h.look Sn
  have a1 := h.hears
  have a2 := h.symm.hears
  have b1 := h.bx.log
  have b2 := h.bY.log
  have c1 := lookW_over x
  have c2 := lookW_over y
  refine ⟨h, by omega, by omega, by omega, by omega, h1, h2, h6, ⟨h3, h4, h5, ?_, ?_, ?_, ?_⟩⟩
  · rw [lookW_said]; omega
  · rw [lookW_said]; omega
  · omega
  · omega
theorem StI.step {n p S M : Nat} {t : Sums} {x y : SideF} (h : StI n p S M t x y) (hn : n ≤ 1000000) (hS : S < 1000000) (hM : M ≤ 549755813888) (s : StF) (hs : s.text.size ≤ 400) :
    Looked (n + 2) (p + 65) (S + 1) M (stepS t x y s).1 (stepS t x y s).2.1 (stepS t x y s).2.2 ∧ Looked (n + 2) (p + 65) (S + 1) M (stepS t x y s).1 (stepS t x y s).2.2 (stepS t x y s).2.1 := by
  obtain ⟨h1, h2, h3, h4, h5, h6⟩ := h.ok.step hn s hs
  have sx := h.sx
  have sy := h.sy
  have ox := h.ox
  have oy := h.oy
  have hl : (stepS t x y s).2.1.app.log = [] ∨ (stepS t x y s).2.2.app.log = [] := by
    rcases h2 with e | e
    · exact .inl (by rw [e]; exact h.lx)
    · exact .inr (by rw [e]; exact h.ly)
  constructor
  · refine looked h1 (by omega) hM ?_ (by omega) (by rw [h4]; omega) (by rw [h5]; omega) (by rw [h6]; omega)
    rcases hl with e | e
    · exact h1.seen e
    · exact Seen.nil e
  · refine looked h1.symm (by omega) hM ?_ (by rw [h4]; omega) (by omega) (by rw [h6]; omega) (by rw [h5]; omega)
    rcases hl with e | e
    · exact Seen.nil e
    · exact h1.symm.seen e
theorem moveW_said (t : Sums) (x y : SideF) : (moveW t x y).2.1.said = x.said ∧ (moveW t x y).2.2.1.said = y.said := by
  unfold moveW
  split <;> exact ⟨rfl, rfl⟩
/-- Each end says what it has to say next: x, then y. -/
theorem StI.round {n p S M : Nat} {t : Sums} {x y : SideF} (h : StI n p S M t x y) (hn : n + 4 ≤ 1000000) (hS : S ≤ 1000000) (hM : M ≤ 549755813888) {t1 t2 : Sums} {x1 y1 x2 y2 : SideF} {a b : Bool} (e1 : moveW t x y = (t1, x1, y1, a)) (e2 : moveW t1 y1 x1 = (t2, y2, x2, b)) :
    MvOk t x.app y.app ∧ MvOk t1 y1.app x1.app ∧ ((a = true ∨ b = true) ∧ 1 ≤ p ∧ Looked (n + 4) (p - 1) S M t2 x2 y2 ∨ a = false ∧ b = false ∧ t2 = t ∧ x2 = x ∧ y2 = y ∧ Looked (n + 4) p S M t x y ∧ Quiet x ∧ Quiet y) := by
  have sx := h.sx
  have sy := h.sy
  have ox := h.ox
  have oy := h.oy
  obtain ⟨-, m1, l1, v1, w1⟩ := h.ok.move (by omega)
  have d1 := moveW_said t x y
  rw [e1] at m1 l1 v1 w1 d1
  simp only at m1 l1 v1 w1 d1
  have o1 : Ok (n + 2) p t1 x1 y1 := by
    rcases m1 with ⟨_, _, m⟩ | ⟨m, _, _⟩
    · exact m.mono (Nat.le_refl _) (by omega)
    · simp only [Prod.mk.injEq] at m
      obtain ⟨rfl, rfl, rfl, _⟩ := m
      exact h.ok.mono (by omega) (Nat.le_refl _)
  refine ⟨h.ok.mv (by omega), o1.symm.mv (by omega), ?_⟩
  have S1 : Seen y1 x1 := o1.seen (by rw [l1]; exact h.lx)
  -- whatever p' is, behind the second move all is seen
  have key : ∀ p', Ok (n + 2) p' t1 x1 y1 → (b = true ∧ 1 ≤ p' ∧ Looked (n + 4) (p' - 1) S M t2 x2 y2) ∨ (b = false ∧ t2 = t1 ∧ x2 = x1 ∧ y2 = y1 ∧ Looked (n + 4) p' S M t1 x1 y1 ∧ Quiet y1) := by
    intro p' o
    obtain ⟨-, m2, l2, v2, w2⟩ := o.symm.move (by omega)
    have d2 := moveW_said t1 y1 x1
    rw [e2] at m2 l2 v2 w2 d2
    simp only at m2 l2 v2 w2 d2
    have S2 : Seen y2 x2 := fun v hv h4 => by
      rw [w2]
      exact S1 v (by rw [← l2]; exact hv) h4
    rcases m2 with ⟨hb, hp, m⟩ | ⟨m, q1, q2⟩
    · refine .inl ⟨hb, hp, looked m.symm hS hM S2 ?_ ?_ ?_ ?_⟩
      · rw [d2.2, d1.1]; exact sx
      · rw [d2.1, d1.2]; exact sy
      · rw [w2, v1]; exact ox
      · rw [v2, w1]; exact oy
    · simp only [Prod.mk.injEq] at m
      obtain ⟨rfl, rfl, rfl, rfl⟩ := m
      refine .inr ⟨rfl, rfl, rfl, rfl, looked (o.mono (by omega) (Nat.le_refl _)) hS hM S1 ?_ ?_ ?_ ?_, q1, q2⟩
      · rw [d1.1]; exact sx
      · rw [d1.2]; exact sy
      · rw [v1]; exact ox
      · rw [w1]; exact oy
  rcases m1 with ⟨ha, hp, m⟩ | ⟨m, q1, q2⟩
  · refine .inl ⟨.inl ha, hp, ?_⟩
    rcases key _ m with ⟨_, hp2, L⟩ | ⟨_, rfl, rfl, rfl, L, _⟩
    · obtain ⟨g1, g2, g3, g4, g5, g6, g7, g8, g9⟩ := L
      exact ⟨g1.mono (Nat.le_refl _) (by omega), g2, g3, g4, g5, g6, g7, g8.mono (Nat.le_refl _) (by omega), g9.mono (Nat.le_refl _) (by omega) (Nat.le_refl _) (Nat.le_refl _)⟩
    · exact L
  · simp only [Prod.mk.injEq] at m
    obtain ⟨rfl, rfl, rfl, rfl⟩ := m
    rcases key _ o1 with ⟨hb, hp2, L⟩ | ⟨hb, rfl, rfl, rfl, L, q3⟩
    · exact .inl ⟨.inr hb, hp2, L⟩
    · exact .inr ⟨rfl, hb, rfl, rfl, rfl, L, ⟨q1, q2⟩, q3⟩
/-- A step by whichever end. -/
theorem step_pl (p q : Nat) (mp : Value) (t : Sums) (x y : SideF) (n pp S M : Nat) (s : StF) (dv : Value) (l : List Res) (w : World) (h : Hold w (pairR p q mp t x y :: l)) (hSI : StI n pp S M t x y) (hn : n ≤ 1000000) (hS : S < 1000000) (hM : M ≤ 549755813888)
    (htx : s.text.size ≤ 400) (hdl : s.data.length ≤ 2100) (h64 : -9223372036854775808 ≤ s.id ∧ s.id ≤ 9223372036854775807) (hrow : ∀ W, Hold W l → Bs W dv s.data) :
    Calls Try.prog 13 #[.pointer (some ⟨p, 0, none⟩), .agg #[.int .i64 s.kind, .int .i64 s.at_, .int .i64 s.id, .string s.text, dv]] w fun e w' => e = .returned (.bool true) ∧ ∃ t' A B, Looked (n + 2) (pp + 65) (S + 1) M t' A B ∧ Hold w' (pairR p q mp t' A B :: l) := by
  have sx := hSI.sx
  have sy := hSI.sy
  have h2 : s.at_ % 2 = 0 ∨ s.at_ % 2 = 1 := by omega
  rcases h2 with h2 | h2
  · exact (step0_any p q mp t x y n pp s dv l w h hSI.ok hn h2 htx hdl h64 hrow (by omega)).mono fun e w' hr => ⟨hr.1, _, _, _, (hSI.step hn hS hM s htx).1, hr.2⟩
  · exact (step1_any p q mp t y x n pp s dv l w h hSI.ok.symm hn h2 htx hdl h64 hrow (by omega)).mono fun e w' hr => ⟨hr.1, _, _, _, (hSI.symm.step hn hS hM s htx).2, hr.2⟩
theorem look1_pl (p q : Nat) (mp : Value) (t : Sums) (x y : SideF) (n pp S M : Nat) (l : List Res) (w : World) (h : Hold w (pairR p q mp t x y :: l)) (L : Looked n pp S M t x y) (hn : n ≤ 1000000) :
    Calls Try.prog 14 #[.pointer (some ⟨p, 0, none⟩), .int .i64 1] w fun e w' => e = .returned (.bool true) ∧ Hold w' (pairR p q mp t x (lookW y) :: l) :=
  look1_any p q mp t y x n pp l w h L.ok.symm hn L.ly L.hy L.oy
theorem look0_pl (p q : Nat) (mp : Value) (t : Sums) (x y : SideF) (n pp S M : Nat) (l : List Res) (w : World) (h : Hold w (pairR p q mp t x (lookW y) :: l)) (L : Looked n pp S M t x y) (hn : n ≤ 1000000) :
    Calls Try.prog 14 #[.pointer (some ⟨p, 0, none⟩), .int .i64 0] w fun e w' => e = .returned (.bool true) ∧ Hold w' (pairR p q mp t (lookW x) (lookW y) :: l) :=
  look0_any p q mp t x (lookW y) n pp l w h L.okm hn L.lx L.hx L.ox
theorem abs_listE {W : World} {m : List Res} (h : Hold W m) : ∃ L, Hold W L ∧ L = m := ⟨m, h, rfl⟩
set_option maxRecDepth 100000 in
set_option maxHeartbeats 8000000 in
theorem appEnds_go (v : Value) (l : List StX) (w : World) (h : Sl w 5 v l.length (l.map StX.cells).flatten) (hn : ∀ x ∈ l, x.In w) :
    Calls Try.prog 5 #[v] w fun e w' => e = .returned (.bool true) ∧ Below w.heap.size w w' := by
  obtain ⟨al, cl, rfl, hcl, hml⟩ := h.form
  have HSL := hI h
  have HN := hI hn
  unfold maxLen at hml
  clear h hn
  go_enter Try.func5, Try.ntmps5
  go_wp2_with fail
  refine (alive22_any w).mono ?_
  rintro e w1 ⟨rfl, hb1⟩
  have HC1 := hI ((Hold.start w).step hb1)
  have HBR := hI (brief_any (.slice al l.length cl) l w1 (HSL.out.below hb1) (fun x hx => ⟨(HN.out x hx).1.below hb1, (HN.out x hx).2⟩))
  clear hb1
  go_wp2_with fail
  refine HBR.out.mono ?_
  rintro e w2 ⟨b, rfl, hb2, hsm⟩
  have HC2 := hI (HC1.out.step hb2)
  clear hb2 HC1 HBR
  cases b with
  | false =>
    clear hsm
    go_wp2_with fail
    go_ret
    exact ⟨rfl, HC2.out.baseOf (w0 := w) (by simp)⟩
  | true =>
    obtain ⟨hl, hs⟩ := hsm rfl
    have HSM := hI hs
    clear hsm hs
    go_wp2_with fail
    refine (open_any _ _ HC2.out).mono ?_
    rintro e w3 ⟨p, q, mp, rfl, hc⟩
    have HC := hI hc
    clear hc HC2
    go_wp2_with fail
    go_loopw [17] (fun i wr => ∃ (k : Nat) (t : Sums) (x y : SideF), k ≤ l.length ∧ i = .int .i64 k ∧ StI (2 * k) (65 * k) k (1000000 * k) t x y ∧ Hold wr (pairR p q mp t x y :: [.base w])) (fun i _ => l.length - (intOf i).toNat)
    case atStart => exact ⟨0, [], SideF.nil, SideF.nil, Nat.zero_le _, rfl, StI.nil, HC.out⟩
    case round =>
      obtain ⟨k, t, x, y, hk, rfl, hSI, hr⟩ := hrel
      by_cases hlt : k < l.length
      · obtain ⟨e, he⟩ : ∃ e, e = l[k] := ⟨_, rfl⟩
        have hem : e ∈ l := by rw [he]; exact List.getElem_mem hlt
        obtain ⟨ab, cb, hxv, hcb, hmb⟩ := (HN.out e hem).1.form
        obtain ⟨bl, ol, hal, hcell⟩ := HSL.out.addr (by rw [HSL.out.1]; omega)
        subst hal
        have hbw := hr.baseOf (w0 := w) (by simp)
        have hel : ∀ (j : Nat) u, e.cells[j]? = some u → wr.cell? ⟨bl, ol + k * 5 + j, none⟩ = some u := by
          intro j u hj
          have hj' : j < 5 := by have := (List.getElem?_eq_some_iff.1 hj).1; simpa [StX.cells] using this
          have := hcell (k * 5 + j) u (by rw [flatC_at (n := 5) StX.cells l (fun _ _ => rfl) k j hlt hj', ← he]; exact hj)
          rw [Nat.add_assoc]
          exact below_cell hbw this
        have hin := HN.out e hem
        have hsm := HSM.out e hem
        obtain ⟨s, sv⟩ := e
        obtain ⟨xk, xa, xi, xt, xd⟩ := s
        simp only at hxv
        subst hxv
        have e0 := hel 0 (.int .i64 xk) rfl
        have e1 := hel 1 (.int .i64 xa) rfl
        have e2 := hel 2 (.int .i64 xi) rfl
        have e3 := hel 3 (.string xt) rfl
        have e4 := hel 4 (.slice ab xd.length cb) rfl
        rw [Nat.add_zero] at e0
        have hki : (k : Int) < l.length := by omega
        have HST := hI (step_pl p q mp t x y (2 * k) (65 * k) k (1000000 * k) ⟨xk, xa, xi, xt, xd⟩ (.slice ab xd.length cb) [.base w] _ (hr.alloc (.cells #[.int .i64 xk, .int .i64 xa, .int .i64 xi, .string xt, .slice ab xd.length cb] 48)) hSI (by omega) (by omega) (by omega) hsm.1 hsm.2 hin.2
          (fun W hW => hin.1.below (hW.baseOf (w0 := w) (by simp))))
        clear he hem hcell hel hbw hin hsm hSI hr HC hmb
        go_wp2_with fail
        refine HST.out.mono ?_
        rintro e w5 ⟨rfl, t', A, B, L, hc⟩
        have HL := hI L
        have H1 := hI (look1_pl p q mp t' A B _ _ _ _ _ w5 hc L (by omega))
        clear L hc HST e0 e1 e2 e3 e4
        go_wp2_with fail
        refine H1.out.mono ?_
        rintro e w6 ⟨rfl, hc⟩
        have H0 := hI (look0_pl p q mp t' A B _ _ _ _ _ w6 hc HL.out (by omega))
        clear hc H1
        go_wp2_with fail
        refine H0.out.mono ?_
        rintro e w7 ⟨rfl, hc⟩
        have HC8 := hI hc
        clear hc H0
        go_wp2_with fail
        go_roundw
        case rel => exact ⟨k + 1, t', lookW A, lookW B, by omega, by go_num, HL.out.nxt.mono (by omega) (by omega) (Nat.le_refl _) (by omega), HC8.out⟩
        case measure => simp [intOf]; omega
      · obtain rfl : k = l.length := by omega
        have HI := hI hSI
        have HC := hI hr
        clear hr hSI
        go_wp2_with fail
        go_loopw [6] (fun i wr => ∃ (m pp : Nat) (t : Sums) (x y : SideF), i = .int .i64 m ∧ m + pp ≤ 9750 ∧ StI (300 + 4 * m) pp 150 (150000000 + 40000 * m) t x y ∧ Hold wr (pairR p q mp t x y :: [.base w])) (fun i _ => 20000 - (intOf i).toNat)
        case atStart => exact ⟨0, 9750, t, x, y, rfl, by omega, HI.out.mono (by omega) (by omega) (by omega) (by omega), HC.out⟩
        case round =>
          clear HI HC
          obtain ⟨m, pp, t, x, y, rfl, hmp, hSI, hr⟩ := hrel
          have hm2 : (m : Int) < 20000 := by omega
          have hmN : m ≤ 9750 := by omega
          obtain ⟨⟨t1, x1, y1, a⟩, e1⟩ : ∃ r, moveW t x y = r := ⟨_, rfl⟩
          obtain ⟨⟨t2, y2, x2, b⟩, e2⟩ : ∃ r, moveW t1 y1 x1 = r := ⟨_, rfl⟩
          obtain ⟨mv1, mv2, hcase⟩ := hSI.round (by omega) (by omega) (by omega) e1 e2
          have HM0 := hI (move0_any p q mp t x y _ wr hr mv1)
          rw [e1] at HM0
          have HI := hI hSI
          have HE2 := hI e2
          have HMV := hI mv2
          clear hr hSI e1 e2 mv1 mv2
          have hfin : (∃ pp', m + 1 + pp' ≤ 9750 ∧ (a = true ∨ b = true) ∧ Looked (300 + 4 * m + 4) pp' 150 (150000000 + 40000 * m) t2 x2 y2) ∨ (a = false ∧ b = false ∧ t2 = t ∧ x2 = x ∧ y2 = y ∧ Looked (300 + 4 * m + 4) pp 150 (150000000 + 40000 * m) t x y ∧ Quiet x ∧ Quiet y) := by
            rcases hcase with ⟨h1, h2, h3⟩ | h
            · exact .inl ⟨pp - 1, by omega, h1, h3⟩
            · exact .inr h
          have HF := hI hfin
          have HL : Hid (∃ pp', Looked (300 + 4 * m + 4) pp' 150 (150000000 + 40000 * m) t2 x2 y2) := hI (by
            rcases hfin with ⟨pp', _, _, h3⟩ | ⟨_, _, rfl, rfl, rfl, h3, _⟩
            · exact ⟨_, h3⟩
            · exact ⟨_, h3⟩)
          clear hfin hcase hmp
          go_wp2_with fail
          refine HM0.out.mono ?_
          rintro e w2 ⟨rfl, hc⟩
          have HM1 := hI (move1_any p q mp t1 y1 x1 _ w2 hc HMV.out)
          rw [HE2.out] at HM1
          clear hc HM0
          go_wp2_with fail
          refine HM1.out.mono ?_
          rintro e w3 ⟨rfl, hc⟩
          obtain ⟨pl, hL⟩ := HL.out
          have HLK := hI hL
          have H1 := hI (look1_pl p q mp t2 x2 y2 _ _ _ _ _ w3 hc hL (by omega))
          clear hL hc HM1
          go_wp2_with fail
          refine H1.out.mono ?_
          rintro e w4 ⟨rfl, hc⟩
          have H0 := hI (look0_pl p q mp t2 x2 y2 _ _ _ _ _ w4 hc HLK.out (by omega))
          clear hc H1
          go_wp2_with fail
          refine H0.out.mono ?_
          rintro e w5 ⟨rfl, hc⟩
          have HC5 := hI hc
          clear hc H0
          rcases HF.out with ⟨pp', h1, h2, h3⟩ | ⟨ha, hb, ht, hx, hy, h3, hqx, hqy⟩
          · have HN := hI h3.nxt
            have hpp := h1
            clear h1 h3 HF HL HLK
            cases a with
            | true =>
              clear h2
              go_wp2_with fail
              go_roundw
              case rel => exact ⟨m + 1, pp', t2, lookW x2, lookW y2, by go_num, by omega, HN.out.mono (by omega) (Nat.le_refl _) (Nat.le_refl _) (by omega), HC5.out⟩
              case measure => simp [intOf]; omega
            | false =>
              cases b with
              | true =>
                clear h2
                go_wp2_with fail
                go_roundw
                case rel => exact ⟨m + 1, pp', t2, lookW x2, lookW y2, by go_num, by omega, HN.out.mono (by omega) (Nat.le_refl _) (Nat.le_refl _) (by omega), HC5.out⟩
                case measure => simp [intOf]; omega
              | false => simp at h2
          · subst ha hb
            have hc := HC5.out
            rw [ht, hx, hy, lookW_none x HI.out.lx, lookW_none y HI.out.ly] at hc
            have hq0 := HI.out.ok.quiet hqx hqy.1 HI.out.ly
            have hq1 := HI.out.ok.symm.quiet hqy hqx.1 HI.out.lx
            clear ht hx hy h3 hqx hqy HF HL HLK HC5
            obtain ⟨z, u, h7⟩ := pairR_two hc
            obtain ⟨ze, zP, zs, zh, zf, zo⟩ := z
            obtain ⟨ue, uP, us, uh, uf, uo⟩ := u
            have h8 := restR_iff.1 h7.pull4
            obtain ⟨a1, c1, f1, -, m1⟩ := h8.tail.own0.1.sl.form
            obtain ⟨a2, c2, f2, -, m2⟩ := h8.tail.tail.own0.1.sl.form
            obtain ⟨a3, c3, f3, -, m3⟩ := h8.tail.tail.tail.tail.tail.own0.1.sl.form
            obtain ⟨a4, c4, f4, -, m4⟩ := h8.tail.tail.tail.tail.tail.tail.own0.1.sl.form
            simp only at f1 f2 f3 f4
            subst f1 f2 f3 f4
            clear h8
            obtain ⟨L, hl7, hL⟩ := abs_listE h7
            have HLL := hI hL
            have HC : Hid (Hold w5 L) := hI hl7
            obtain ⟨h0, hh0⟩ : ∃ h0, h0 = x.hear.length := ⟨_, rfl⟩
            obtain ⟨h1, hh1⟩ : ∃ h1, h1 = y.hear.length := ⟨_, rfl⟩
            have hs1 : y.said.length = h0 := by rw [hh0, hq1.2]
            have hs0 : x.said.length = h1 := by rw [hh1, hq0.2]
            have hBLK : ∀ W, Hold W L → Blk W p (pairC ⟨ze, zP, .slice a1 x.said.length c1, .slice a2 x.hear.length c2, zf, zo⟩ ⟨ue, uP, .slice a3 y.said.length c3, .slice a4 y.hear.length c4, uf, uo⟩) 38 := fun W h => by rw [hL] at h; exact (restR_iff.1 h.pull4).blk0
            have HZE : Hid (∀ W, Hold W L → W.cell? ⟨p, 0, none⟩ = some (.pointer (some ⟨ze, 0, none⟩))) := hI (fun W h => (hBLK W h).cell 0)
            have HUE : Hid (∀ W, Hold W L → W.cell? ⟨p, 1, none⟩ = some (.pointer (some ⟨ue, 0, none⟩))) := hI (fun W h => (hBLK W h).cell 1)
            have HS0 : Hid (∀ W, Hold W L → W.cell? ⟨p, 4, none⟩ = some (.slice a1 h1 c1)) := hI (fun W h => by rw [← hs0]; exact (hBLK W h).cell 4)
            have HS1 : Hid (∀ W, Hold W L → W.cell? ⟨p, 5, none⟩ = some (.slice a3 h0 c3)) := hI (fun W h => by rw [← hs1]; exact (hBLK W h).cell 5)
            have HH0 : Hid (∀ W, Hold W L → W.cell? ⟨p, 6, none⟩ = some (.slice a2 h0 c2)) := hI (fun W h => by rw [hh0]; exact (hBLK W h).cell 6)
            have HH1 : Hid (∀ W, Hold W L → W.cell? ⟨p, 7, none⟩ = some (.slice a4 h1 c4)) := hI (fun W h => by rw [hh1]; exact (hBLK W h).cell 7)
            have HW0 : Hid (∀ W, Hold W L → Calls Try.prog 16 #[.pointer (some ⟨ze, 0, none⟩)] W fun e w' => e = .returned (.bool false) ∧ Hold w' L) := hI (fun W h => by
              rw [hL] at h ⊢
              have := appWaits_any ze q zP x.app.app _ W h
              rw [hq0.1] at this
              exact this)
            have HW1 : Hid (∀ W, Hold W L → Calls Try.prog 16 #[.pointer (some ⟨ue, 0, none⟩)] W fun e w' => e = .returned (.bool false) ∧ Hold w' L) := hI (fun W h => by
              rw [hL] at h ⊢
              have := appWaits_any ue q uP y.app.app _ W h.swap
              rw [hq1.1] at this
              exact this.mono fun e w' hr => ⟨hr.1, hr.2.swap⟩)
            have HHD : Hid (∀ W, Hold W L → Calls Try.prog 15 #[.pointer (some ⟨p, 0, none⟩)] W fun e w' => e = .returned (.bool true) ∧ Hold w' L) := hI (fun W h => by
              rw [hL] at h
              have h9 := pairR_back (x := x) (y := y) (E := x.app) (G := y.app) h
              refine (heard_drw p q mp t x y _ W h9 HI.out.heard.1 HI.out.heard.2).mono ?_
              rintro e w' ⟨rfl, k, rfl⟩
              exact ⟨rfl, by rw [hL]; exact h.drewN k⟩)
            clear hc h7 hl7 hL hBLK hh0 hh1 hs0 hs1 hq0 hq1
            go_wp2_with fail
            refine wp_region_held (S := fun W : World => Hold W L) (by kernel_rfl) ?_
            change wpAnyH _ _ _ _ _ _ _ _ (World.drew _)
            have HC := hI HC.out.drew
            refine tkH 0 55 none (.pointer (some ⟨p, 0, none⟩)) rfl (by kernel_rfl) (fun _ _ _ h => h) (by rfl) (by intro W hW; go_simp) HC.out ?_
            simp only [Act.put, zq1, zq2, zq3]
            refine tkH 1 56 none (.pointer (some ⟨p, 0, none⟩)) rfl (by kernel_rfl) (fun _ _ _ h => h) (by rfl) (by intro W hW; go_simp) HC.out ?_
            simp only [Act.put, zq1, zq2, zq3]
            refine tkH 2 57 none (.pointer (some ⟨p, 0, none⟩)) rfl (by kernel_rfl) (fun _ _ _ h => h) (by rfl) (by intro W hW; go_simp) HC.out ?_
            simp only [Act.put, zq1, zq2, zq3]
            refine tkH 3 58 none (.pointer (some ⟨p, 0, none⟩)) rfl (by kernel_rfl) (fun _ _ _ h => h) (by rfl) (by intro W hW; go_simp) HC.out ?_
            simp only [Act.put, zq1, zq2, zq3]
            refine tkH 4 59 none (.pointer (some ⟨ze, 0, none⟩)) rfl (by kernel_rfl) (fun _ _ _ h => h) (by rfl) (by intro W hW; have hce : W.cell? ⟨p, 0, none⟩ = some (.pointer (some ⟨ze, 0, none⟩)) := HZE.out W hW; go_simp) HC.out ?_
            simp only [Act.put, zq1, zq2, zq3]
            refine anyH_ready (rs := [5]) (by decide +kernel) (by simp) ?_
            refine AllReadyH.cons (o := { dst := some 60, op := .call { callee := .value (.func 16), args := #[.tmp 59], argTypes := #[27] }, type := _, pos := _, after := _, guard := none }) rfl (fun K hK => ?_) AllReadyH.nil
            go_simp
            refine (HW0.out _ HC.out).mono ?_
            rintro e ws ⟨rfl, hc⟩
            have HC := hI hc
            clear hc
            go_simp
            refine hK _ _ HC.out ?_
            clear hK K
            try simp only [Act.put, zq1, zq2, zq3]
            refine tkH 6 61 none (.bool true) rfl (by kernel_rfl) (fun _ _ _ h => h) (by rfl) (by intro W hW; go_simp) HC.out ?_
            simp only [Act.put, zq1, zq2, zq3]
            refine tkH 7 62 none (.bool true) rfl (by kernel_rfl) (fun _ _ _ h => h) (by rfl) (by intro W hW; go_simp) HC.out ?_
            simp only [Act.put, zq1, zq2, zq3]
            refine tkH 8 63 (some (7, true)) (.pointer (some ⟨p, 0, none⟩)) rfl (by kernel_rfl) (fun _ _ _ h => h) (by rfl) (by intro W hW; go_simp) HC.out ?_
            simp only [Act.put, zq1, zq2, zq3]
            refine tkH 9 64 (some (7, true)) (.pointer (some ⟨p, 0, none⟩)) rfl (by kernel_rfl) (fun _ _ _ h => h) (by rfl) (by intro W hW; go_simp) HC.out ?_
            simp only [Act.put, zq1, zq2, zq3]
            refine tkH 10 65 (some (7, true)) (.pointer (some ⟨p, 0, none⟩)) rfl (by kernel_rfl) (fun _ _ _ h => h) (by rfl) (by intro W hW; go_simp) HC.out ?_
            simp only [Act.put, zq1, zq2, zq3]
            refine tkH 11 66 (some (7, true)) (.pointer (some ⟨p, 1, none⟩)) rfl (by kernel_rfl) (fun _ _ _ h => h) (by rfl) (by intro W hW; go_simp) HC.out ?_
            simp only [Act.put, zq1, zq2, zq3]
            refine tkH 12 67 (some (7, true)) (.pointer (some ⟨ue, 0, none⟩)) rfl (by kernel_rfl) (fun _ _ _ h => h) (by rfl) (by intro W hW; have hce : W.cell? ⟨p, 1, none⟩ = some (.pointer (some ⟨ue, 0, none⟩)) := HUE.out W hW; go_simp) HC.out ?_
            simp only [Act.put, zq1, zq2, zq3]
            refine anyH_ready (rs := [13]) (by decide +kernel) (by simp) ?_
            refine AllReadyH.cons (o := { dst := some 68, op := .call { callee := .value (.func 16), args := #[.tmp 67], argTypes := #[27] }, type := _, pos := _, after := _, guard := some (7, true) }) rfl (fun K hK => ?_) AllReadyH.nil
            go_simp
            refine (HW1.out _ HC.out).mono ?_
            rintro e ws ⟨rfl, hc⟩
            have HC := hI hc
            clear hc
            go_simp
            refine hK _ _ HC.out ?_
            clear hK K
            try simp only [Act.put, zq1, zq2, zq3]
            refine tkH 14 69 (some (7, true)) (.bool true) rfl (by kernel_rfl) (fun _ _ _ h => h) (by rfl) (by intro W hW; go_simp) HC.out ?_
            simp only [Act.put, zq1, zq2, zq3]
            refine tkH 15 70 none (.bool true) rfl (by kernel_rfl) (fun _ _ _ h => h) (by rfl) (by intro W hW; go_simp) HC.out ?_
            simp only [Act.put, zq1, zq2, zq3]
            refine tkH 16 71 none (.bool true) rfl (by kernel_rfl) (fun _ _ _ h => h) (by rfl) (by intro W hW; go_simp) HC.out ?_
            simp only [Act.put, zq1, zq2, zq3]
            refine tkH 17 72 (some (16, true)) (.pointer (some ⟨p, 0, none⟩)) rfl (by kernel_rfl) (fun _ _ _ h => h) (by rfl) (by intro W hW; go_simp) HC.out ?_
            simp only [Act.put, zq1, zq2, zq3]
            refine anyH_ready (rs := [18]) (by decide +kernel) (by simp) ?_
            refine AllReadyH.cons (o := { dst := some 73, op := .call { callee := .value (.func 15), args := #[.tmp 72], argTypes := #[23] }, type := _, pos := _, after := _, guard := some (16, true) }) rfl (fun K hK => ?_) AllReadyH.nil
            go_simp
            refine (HHD.out _ HC.out).mono ?_
            rintro e ws ⟨rfl, hc⟩
            have HC := hI hc
            clear hc
            go_simp
            refine hK _ _ HC.out ?_
            clear hK K
            try simp only [Act.put, zq1, zq2, zq3]
            refine tkH 19 74 none (.bool true) rfl (by kernel_rfl) (fun _ _ _ h => h) (by rfl) (by intro W hW; go_simp) HC.out ?_
            simp only [Act.put, zq1, zq2, zq3]
            refine tkH 20 75 none (.bool true) rfl (by kernel_rfl) (fun _ _ _ h => h) (by rfl) (by intro W hW; go_simp) HC.out ?_
            simp only [Act.put, zq1, zq2, zq3]
            refine tkH 21 76 (some (20, true)) (.pointer (some ⟨p, 0, none⟩)) rfl (by kernel_rfl) (fun _ _ _ h => h) (by rfl) (by intro W hW; go_simp) HC.out ?_
            simp only [Act.put, zq1, zq2, zq3]
            refine tkH 22 77 (some (20, true)) (.pointer (some ⟨p, 0, none⟩)) rfl (by kernel_rfl) (fun _ _ _ h => h) (by rfl) (by intro W hW; go_simp) HC.out ?_
            simp only [Act.put, zq1, zq2, zq3]
            refine tkH 23 78 (some (20, true)) (.pointer (some ⟨p, 6, none⟩)) rfl (by kernel_rfl) (fun _ _ _ h => h) (by rfl) (by intro W hW; go_simp) HC.out ?_
            simp only [Act.put, zq1, zq2, zq3]
            refine tkH 24 79 (some (20, true)) (.pointer (some ⟨p, 6, none⟩)) rfl (by kernel_rfl) (fun _ _ _ h => h) (by rfl) (by intro W hW; go_simp) HC.out ?_
            simp only [Act.put, zq1, zq2, zq3]
            refine tkH 25 80 (some (20, true)) (.slice a2 h0 c2) rfl (by kernel_rfl) (fun _ _ _ h => h) (by rfl) (by intro W hW; have hce : W.cell? ⟨p, 6, none⟩ = some (.slice a2 h0 c2) := HH0.out W hW; go_simp) HC.out ?_
            simp only [Act.put, zq1, zq2, zq3]
            refine tkH 26 81 (some (20, true)) (.int .i64 (h0 : Int)) rfl (by kernel_rfl) (fun _ _ _ h => h) (by rfl) (by intro W hW; go_simp) HC.out ?_
            simp only [Act.put, zq1, zq2, zq3]
            refine tkH 27 82 (some (20, true)) (.pointer (some ⟨p, 0, none⟩)) rfl (by kernel_rfl) (fun _ _ _ h => h) (by rfl) (by intro W hW; go_simp) HC.out ?_
            simp only [Act.put, zq1, zq2, zq3]
            refine tkH 28 83 (some (20, true)) (.pointer (some ⟨p, 0, none⟩)) rfl (by kernel_rfl) (fun _ _ _ h => h) (by rfl) (by intro W hW; go_simp) HC.out ?_
            simp only [Act.put, zq1, zq2, zq3]
            refine tkH 29 84 (some (20, true)) (.pointer (some ⟨p, 4, none⟩)) rfl (by kernel_rfl) (fun _ _ _ h => h) (by rfl) (by intro W hW; go_simp) HC.out ?_
            simp only [Act.put, zq1, zq2, zq3]
            refine tkH 30 85 (some (20, true)) (.pointer (some ⟨p, 5, none⟩)) rfl (by kernel_rfl) (fun _ _ _ h => h) (by rfl) (by intro W hW; go_simp) HC.out ?_
            simp only [Act.put, zq1, zq2, zq3]
            refine tkH 31 86 (some (20, true)) (.slice a3 h0 c3) rfl (by kernel_rfl) (fun _ _ _ h => h) (by rfl) (by intro W hW; have hce : W.cell? ⟨p, 5, none⟩ = some (.slice a3 h0 c3) := HS1.out W hW; go_simp) HC.out ?_
            simp only [Act.put, zq1, zq2, zq3]
            refine tkH 32 87 (some (20, true)) (.int .i64 (h0 : Int)) rfl (by kernel_rfl) (fun _ _ _ h => h) (by rfl) (by intro W hW; go_simp) HC.out ?_
            simp only [Act.put, zq1, zq2, zq3]
            refine tkH 33 88 (some (20, true)) (.bool true) rfl (by kernel_rfl) (fun _ _ _ h => h) (by rfl) (by intro W hW; go_simp) HC.out ?_
            simp only [Act.put, zq1, zq2, zq3]
            refine tkH 34 89 none (.bool true) rfl (by kernel_rfl) (fun _ _ _ h => h) (by rfl) (by intro W hW; go_simp) HC.out ?_
            simp only [Act.put, zq1, zq2, zq3]
            refine tkH 35 90 none (.bool true) rfl (by kernel_rfl) (fun _ _ _ h => h) (by rfl) (by intro W hW; go_simp) HC.out ?_
            simp only [Act.put, zq1, zq2, zq3]
            refine tkH 36 91 (some (35, true)) (.pointer (some ⟨p, 0, none⟩)) rfl (by kernel_rfl) (fun _ _ _ h => h) (by rfl) (by intro W hW; go_simp) HC.out ?_
            simp only [Act.put, zq1, zq2, zq3]
            refine tkH 37 92 (some (35, true)) (.pointer (some ⟨p, 0, none⟩)) rfl (by kernel_rfl) (fun _ _ _ h => h) (by rfl) (by intro W hW; go_simp) HC.out ?_
            simp only [Act.put, zq1, zq2, zq3]
            refine tkH 38 93 (some (35, true)) (.pointer (some ⟨p, 6, none⟩)) rfl (by kernel_rfl) (fun _ _ _ h => h) (by rfl) (by intro W hW; go_simp) HC.out ?_
            simp only [Act.put, zq1, zq2, zq3]
            refine tkH 39 94 (some (35, true)) (.pointer (some ⟨p, 7, none⟩)) rfl (by kernel_rfl) (fun _ _ _ h => h) (by rfl) (by intro W hW; go_simp) HC.out ?_
            simp only [Act.put, zq1, zq2, zq3]
            refine tkH 40 95 (some (35, true)) (.slice a4 h1 c4) rfl (by kernel_rfl) (fun _ _ _ h => h) (by rfl) (by intro W hW; have hce : W.cell? ⟨p, 7, none⟩ = some (.slice a4 h1 c4) := HH1.out W hW; go_simp) HC.out ?_
            simp only [Act.put, zq1, zq2, zq3]
            refine tkH 41 96 (some (35, true)) (.int .i64 (h1 : Int)) rfl (by kernel_rfl) (fun _ _ _ h => h) (by rfl) (by intro W hW; go_simp) HC.out ?_
            simp only [Act.put, zq1, zq2, zq3]
            refine tkH 42 97 (some (35, true)) (.pointer (some ⟨p, 0, none⟩)) rfl (by kernel_rfl) (fun _ _ _ h => h) (by rfl) (by intro W hW; go_simp) HC.out ?_
            simp only [Act.put, zq1, zq2, zq3]
            refine tkH 43 98 (some (35, true)) (.pointer (some ⟨p, 0, none⟩)) rfl (by kernel_rfl) (fun _ _ _ h => h) (by rfl) (by intro W hW; go_simp) HC.out ?_
            simp only [Act.put, zq1, zq2, zq3]
            refine tkH 44 99 (some (35, true)) (.pointer (some ⟨p, 4, none⟩)) rfl (by kernel_rfl) (fun _ _ _ h => h) (by rfl) (by intro W hW; go_simp) HC.out ?_
            simp only [Act.put, zq1, zq2, zq3]
            refine tkH 45 100 (some (35, true)) (.pointer (some ⟨p, 4, none⟩)) rfl (by kernel_rfl) (fun _ _ _ h => h) (by rfl) (by intro W hW; go_simp) HC.out ?_
            simp only [Act.put, zq1, zq2, zq3]
            refine tkH 46 101 (some (35, true)) (.slice a1 h1 c1) rfl (by kernel_rfl) (fun _ _ _ h => h) (by rfl) (by intro W hW; have hce : W.cell? ⟨p, 4, none⟩ = some (.slice a1 h1 c1) := HS0.out W hW; go_simp) HC.out ?_
            simp only [Act.put, zq1, zq2, zq3]
            refine tkH 47 102 (some (35, true)) (.int .i64 (h1 : Int)) rfl (by kernel_rfl) (fun _ _ _ h => h) (by rfl) (by intro W hW; go_simp) HC.out ?_
            simp only [Act.put, zq1, zq2, zq3]
            refine tkH 48 103 (some (35, true)) (.bool true) rfl (by kernel_rfl) (fun _ _ _ h => h) (by rfl) (by intro W hW; go_simp) HC.out ?_
            simp only [Act.put, zq1, zq2, zq3]
            refine tkH 49 104 none (.bool true) rfl (by kernel_rfl) (fun _ _ _ h => h) (by rfl) (by intro W hW; go_simp) HC.out ?_
            simp only [Act.put, zq1, zq2, zq3]
            refine tkH 50 2 none (.bool true) rfl (by kernel_rfl) (fun _ _ _ h => h) (by rfl) (by intro W hW; go_simp) HC.out ?_
            simp only [Act.put, zq1, zq2, zq3]
            refine wpAnyH_done (by decide +kernel) ?_ _
            go_wp2_with fail
            go_ret
            exact ⟨rfl, by have := HC.out; rw [HLL.out] at this; exact this.baseOf (w0 := w) (by simp)⟩
end Go.Proofs.Ytiplepdmkbiehaa
namespace Go.Proofs.Ytiplepdmkbiehaa.appEnds
open Go.ChangeShapes Go.WideShapes Go.ChangeAt Go.RowKit
open Go.ChangeMaps (open_string shut_string)
set_option linter.unusedVariables false
set_option maxRecDepth 100000 in
theorem contract (H : Type) (enc : TypeId × Value → H) (W : World) (base : Nat) (args : Array Value) (ds gs : List (DataW H)) (before : List MemPlace)
    (hval0 : ∀ (j : Nat) t v, Try.f5.params[j]? = some t → args[j]? = some v → Value.okWide Try.prog W .any base t v)
    (hW : DataW.Whole enc Try.prog Try.f5.params.toList Rows.appEndsSpec.vars false W args.toList ds gs before) :
    Calls Try.prog 5 args W fun e W' => ∃ v, e = .returned v ∧ Rows.appEndsSpec.post enc Try.prog Try.f5 false true false false W args v W' := by
  have hval := hval0
  have hW' := hW
  obtain ⟨p, q, hA0, hV, rfl, hfz, hnd⟩ := hW
  have hA : DataW.TrodAll enc Try.prog W 0 (fun _ => true) true Try.f5.params.toList args.toList ds p := hA0
  rw [Try.params5] at hA hval
  obtain ⟨v0, vs0, d0, ds0, p0, q0, hargs, rfl, rfl, h0, r0⟩ := trodAll_cons hA
  obtain ⟨rfl, rfl, rfl⟩ := trodAll_nil r0
  obtain rfl : args = #[v0] := by cases args; simp_all
  obtain ⟨rfl, rfl⟩ := trodVars_none hV
  have hcall : Calls Try.prog 5 #[v0] W fun e W' => e = .returned (.bool true) ∧ Below W.heap.size W W' := by
    obtain ⟨l, hs, hin⟩ := open_steps (hval 0 _ v0 rfl rfl) h0
    exact appEnds_go v0 l W hs hin
  refine hcall.mono fun e W' ⟨he, bel⟩ => ?_
  subst he
  exact ⟨_, rfl, _, _, _, [], _, [], hW', trodAll_mk1 (shut_bool Try.underlying4 _), trodAll_below rowLaidOut bel (by kernel_rfl) hA0, rfl, bel.frame _, fun h => by cases h⟩
set_option maxRecDepth 100000 in
theorem lifted (os : Os) (started : os.Started) (H : Type) (enc : TypeId × Value → H) :
    ReturnsInHanded {} Try.checked os 5 .any (Rows.appEndsSpec.pre6 enc Try.prog Try.f5 Rows.appEndsRow.domain false) (Rows.appEndsSpec.post enc Try.prog Try.f5 false true false false) := by
  refine returnsInHanded_of_change (C := Try.checked) rowOwn started (by kernel_rfl) Try.func5
    (ChangeSpec.witness6 (enc := enc) (C := Try.checked) false ⟨#[], #[.slice none 0 0], []⟩ 8 (by kernel_rfl) (by kernel_rfl) (by kernel_rfl) (by kernel_rfl)) ?_
  intro W base args ds gs before hval hW _ _
  exact contract H enc W base args ds gs before hval hW
theorem over : Rows.appEndsRow.holds Try.pinned (OpenSpec.ofChange Rows.appEndsSpec) :=
  OpenClaim.holds_of_wide 5 Try.f5 rfl rfl rfl rfl rfl rfl rfl ⟨rfl, rfl, rfl, rfl, rfl⟩ rfl rfl rfl rfl rfl (by kernel_rfl) Try.func5 (by kernel_rfl)
    (of_decide_eq_true (by kernel_rfl)) (by unfold Func.isWrapper; first | (rw [if_pos (by decide +kernel)]; kernel_rfl) | (rw [if_neg (by decide +kernel)]; exact ⟨rfl, rfl⟩))
    (fun os started H enc _ => lifted os started H enc)
/-- THE STATEMENT. -/
theorem proved : Rows.AppEndsSaid := over
end Go.Proofs.Ytiplepdmkbiehaa.appEnds
