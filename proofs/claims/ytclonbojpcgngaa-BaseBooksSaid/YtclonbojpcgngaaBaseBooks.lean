/- The statement BaseBooks, walked. -/
import Derived.Test.YtclonbojpcgngaaAlive13
import Derived.Test.YtclonbojpcgngaaBooksP
import Derived.Deep.DeepCutAuto
namespace Go.Proofs.Ytclonbojpcgngaa
set_option linter.unusedSimpArgs false
set_option linter.unusedVariables false
open Go.RowKit

theorem ent_cells {w W : World} {b o n c : Nat} {l : List Ent} (h : Sl w 4 (.slice (some ⟨b, o, none⟩) n c) n (l.map Ent.cells).flatten) (hb : Below w.heap.size w W) (k : Nat) (hk : k < l.length) :
    ∀ (j : Nat) u, l[k].cells[j]? = some u → W.cell? ⟨b, o + k * 4 + j, none⟩ = some u := by
  obtain ⟨b', o', he, hcell⟩ := h.addr (by rw [flat_length (n := 4) Ent.cells l (fun _ _ => rfl)]; omega)
  simp only [Option.some.injEq, Addr.mk.injEq, and_true] at he
  obtain ⟨rfl, rfl⟩ := he
  intro j u hj
  have hj' : j < 4 := (List.getElem?_eq_some_iff.1 hj).1
  have := hcell (k * 4 + j) u (by rw [flatC_at (n := 4) Ent.cells l (fun _ _ => rfl) k j hk hj']; exact hj)
  rw [Nat.add_assoc]
  exact below_cell hb this

set_option maxRecDepth 100000 in
set_option maxHeartbeats 8000000 in
theorem books_go (v : Value) (l : List Ent) (w : World) (h : Sl w 4 v l.length (l.map Ent.cells).flatten) (hn : ∀ x ∈ l, x.name.size ≤ maxLen) (hl : l.length ≤ 200) :
    Calls Try.prog 4 #[v] w fun e w' => e = .returned (.bool true) ∧ Below w.heap.size w w' := by
  obtain ⟨al, cl, rfl, hcl, hml⟩ := h.form
  have HSL := Lib.hid h
  have HN := Lib.hid hn
  unfold maxLen at hml
  clear h hn
  go_enter Try.func4, Try.ntmps4
  go_wp2_with fail
  refine (alive13_any _).mono ?_
  rintro e w1 ⟨rfl, hb⟩
  have HC := Lib.hid ((Hold.start w).step hb)
  clear hb
  go_wp2_with fail
  refine (newBook_any _ _ HC.out).mono ?_
  rintro e w2 ⟨p, rfl, hc⟩
  have HC := Lib.hid (hc.addEmpty 76 2 rfl).swap
  clear hc
  go_wp2_with fail
  go_loopw [4, 5, 26] (fun hv nv iv wr => ∃ (k : Nat) (M H : List En) (now : Int), iv = .int .i64 k ∧ k ≤ l.length ∧ nv = .int .i64 now ∧ 0 ≤ now ∧ now ≤ 63 * k ∧ BkInv M H now (2 * k) ∧ Hold wr [bookR p M, enR hv H, .base w]) (fun _ _ i _ => l.length - (intOf i).toNat)
  case atStart => exact ⟨0, [], [], 0, rfl, Nat.zero_le _, rfl, by omega, by omega, ⟨.nil, rfl, Nat.le_refl _, Nat.le_refl _⟩, HC.out⟩
  case round =>
    obtain ⟨k, M, H, now, rfl, hk, rfl, hn0, hn1, hinv, hr⟩ := hrel
    obtain ⟨aH, cH, rfl, _, _⟩ := (hr.ownOf (List.mem_cons_of_mem _ List.mem_cons_self)).1.sl.form
    have HI := Lib.hid hinv
    have HC := Lib.hid hr
    clear hinv hr
    by_cases hlt : k < l.length
    · obtain ⟨bl, ol, rfl, _⟩ := HSL.out.addr (by rw [flat_length (n := 4) Ent.cells l (fun _ _ => rfl)]; omega)
      obtain ⟨x, hx⟩ : ∃ x, x = l[k] := ⟨_, rfl⟩
      have HXN : Hid (x.name.size ≤ maxLen) := Lib.hid (HN.out x (by rw [hx]; exact List.getElem_mem hlt))
      have hel := ent_cells HSL.out (HC.out.baseOf (w0 := w) (by simp)) k hlt
      rw [← hx] at hel
      have e0 := hel 0 _ rfl
      have e1 := hel 1 _ rfl
      have e2 := hel 2 _ rfl
      have e3 := hel 3 _ rfl
      rw [Nat.add_zero] at e0
      have hki : (k : Int) < l.length := by omega
      have HC1 := Lib.hid (HC.out.addBlk [.int .i64 x.later, .string x.name, .int .i64 x.till, .bool x.ask] 54)
      clear hx hel HC
      by_cases hlong : 60 < x.name.size
      · have hlong' : (60 : Int) < x.name.size := by omega
        go_wp2_with fail
        go_roundw
        case rel => exact ⟨k + 1, M, H, now, by go_num, by omega, rfl, hn0, by omega, (HI.out.later (Int.le_refl _)).more (by omega), HC1.out.tail⟩
        case measure => simp [intOf]; omega
      · have hlong' : ¬ (60 : Int) < x.name.size := by omega
        obtain ⟨y, hy⟩ : ∃ y, bits .and .i64 x.later 63 = y := ⟨_, rfl⟩
        have hy0 : 0 ≤ y ∧ y ≤ 63 := by rw [← hy, i64_and63b]; omega
        obtain ⟨y, rfl⟩ := Int.eq_ofNat_of_zero_le hy0.1
        have hy63 : y ≤ 63 := by omega
        obtain ⟨z, hz⟩ : ∃ z, bits .and .i64 x.till 127 = z := ⟨_, rfl⟩
        have hz0 : 0 ≤ z ∧ z ≤ 127 := by rw [← hz, i64_and127b]; omega
        obtain ⟨z, rfl⟩ := Int.eq_ofNat_of_zero_le hz0.1
        have hz127 : z ≤ 127 := by omega
        have HI1 := Lib.hid (HI.out.later (now' := now + y) (by omega))
        clear hy0 hz0
        go_upto_if 41 with fail
        go_cut [4, 26] from 26 to 101 (fun hv iv wx => iv = .int .i64 k ∧ ∃ (M H : List En) (a : Option Addr) (c : Nat), hv = .slice a H.length c ∧ BkInv M H (now + y) (2 * k + 2) ∧ Hold wx [bookR p M, enR hv H, .base w])
        case first =>
          obtain ⟨b, hb⟩ : ∃ b, b = x.ask := ⟨_, rfl⟩
          rw [← hb] at HC1 e3 ⊢
          clear hb
          cases b with
          | true =>
            go_wp2_with fail
            go_meet
            exact ⟨rfl, M, H, aH, cH, rfl, HI1.out.more (by omega), HC1.out.tail⟩
          | false =>
            obtain ⟨g, hg⟩ : ∃ g, g = wr.heap.size := ⟨_, rfl⟩
            rw [← hg] at HC1
            have HG := Lib.hid hg
            obtain ⟨t, ht⟩ : ∃ t : Int, t = now + y + z - 10 := ⟨_, rfl⟩
            have hwf : (Lit.int .i64 t).wf = true := i64_wf (by omega) (by omega)
            have HWF := Lib.hid hwf
            have HST := Lib.hid (HI1.out.set (s := x.name) (t := t))
            have hh9 := HI1.out.hl
            have hm9 := HI1.out.ml
            have h6 := refSet_any (.slice aH H.length cH) H (now + y) x.name t _ _ (HC1.out.front (m := [_, _, _, _]) (l := []) [2, 0, 1, 3] 4 (by decide)) (by omega) HXN.out
            rw [ht] at h6
            have H6 := Lib.hid h6
            have HT := Lib.hid ht
            clear hg hwf h6 ht
            go_wp2_with fail
            refine H6.out.mono ?_
            rintro e w3 ⟨v', rfl, hc⟩
            rw [← HT.out] at hc ⊢
            obtain ⟨a', c', rfl, _, _⟩ := (hc.ownOf (List.mem_cons_self)).1.sl.form
            have hgb := hc.blkOf (p := g) (cs := [.int .i64 x.later, .string x.name, .int .i64 x.till, .bool false]) (T := 54) (by simp)
            have g1 := hgb.cell 1
            simp only [List.getElem?_cons_succ, List.getElem?_cons_zero] at g1
            have h7 := set_any p M (now + y) x.name t _ _ (hc.front (m := [_, _, _, _]) (l := []) [2, 0, 1, 3] 4 (by decide)) HXN.out (by omega) HWF.out
            rw [HST.out.1] at h7
            obtain ⟨M', hM'⟩ : ∃ M', M' = (setB M (now + y) x.name t).1 := ⟨_, rfl⟩
            obtain ⟨H', hH'⟩ : ∃ H', H' = (setH H (now + y) x.name t).1 := ⟨_, rfl⟩
            obtain ⟨er, her⟩ : ∃ er, er = (setH H (now + y) x.name t).2 := ⟨_, rfl⟩
            have HI2 : Hid (BkInv M' H' (now + y) (2 * k + 1 + 1)) := Lib.hid (by rw [hM', hH']; exact HST.out.2)
            rw [← hM', ← hH', ← her] at h7
            rw [← hH', ← her]
            have H7 := Lib.hid h7
            clear hc hgb h7 H6 hM' hH' her HST
            rw [← HG.out]
            go_wp2_with fail
            refine H7.out.mono ?_
            rintro e w4 ⟨rfl, hc⟩
            have HC4 := Lib.hid (hc.front (m := [_, _, _, _]) (l := []) [2, 0, 1, 3] 4 (by decide))
            clear hc H7 g1
            rw [HG.out]
            go_wp2_with fail
            go_meet
            exact ⟨rfl, M', H', a', c', rfl, HI2.out, HC4.out.tail⟩
        case rest =>
          obtain ⟨rfl, M, H, aH, cH, rfl, hinv, hr⟩ := hcut
          have HI2 := Lib.hid hinv
          have hhl := hinv.hl
          have HC2 := Lib.hid hr
          clear hinv hr HC1 HI1
          go_wp2_with fail
          go_loopw [68] (fun jv ws => ∃ (j : Nat), jv = .int .i64 j ∧ j ≤ l.length ∧ Hold ws [bookR p M, enR (.slice aH H.length cH) H, .base w]) (fun j _ => l.length - (intOf j).toNat)
          case atStart => exact ⟨0, rfl, Nat.zero_le _, HC2.out⟩
          case round =>
            obtain ⟨j, rfl, hj, hr⟩ := hrel
            have HC := Lib.hid hr
            clear hr HC2
            by_cases hjl : j < l.length
            · obtain ⟨y2, hy2⟩ : ∃ y2, y2 = l[j] := ⟨_, rfl⟩
              have HYN : Hid (y2.name.size ≤ maxLen) := Lib.hid (HN.out y2 (by rw [hy2]; exact List.getElem_mem hjl))
              have hel := ent_cells HSL.out (HC.out.baseOf (w0 := w) (by simp)) j hjl
              rw [← hy2] at hel
              have d0 := hel 0 _ rfl
              have d1 := hel 1 _ rfl
              have d2 := hel 2 _ rfl
              have d3 := hel 3 _ rfl
              rw [Nat.add_zero] at d0
              have hji : (j : Int) < l.length := by omega
              have HC1 := Lib.hid (HC.out.addBlk [.int .i64 y2.later, .string y2.name, .int .i64 y2.till, .bool y2.ask] 54)
              clear hy2 hel HC e0 e1 e2 e3
              by_cases hlong2 : 60 < y2.name.size
              · have hlong2' : (60 : Int) < y2.name.size := by omega
                go_wp2_with fail
                go_roundw
                case rel => exact ⟨j + 1, by go_num, by omega, HC1.out.tail⟩
                case measure => simp [intOf]; omega
              · have hlong2' : ¬ (60 : Int) < y2.name.size := by omega
                have h8 := find_any p M (now + y) y2.name _ _ HC1.out.swap HYN.out
                rw [HI2.out.find] at h8
                have h9 := until_any (.slice aH H.length cH) H (now + y) y2.name _ _ (HC1.out.front (m := [_, _, _, _]) (l := []) [2, 0, 1, 3] 4 (by decide)) (by omega)
                obtain ⟨ut, hut⟩ : ∃ ut, ut = untilH H (now + y) y2.name := ⟨_, rfl⟩
                rw [← hut] at h8 h9
                obtain ⟨u1, u2⟩ := ut
                have H8 := Lib.hid h8
                have H9 := Lib.hid h9
                clear h8 h9 hut
                go_wp2_with fail
                refine H8.out.mono ?_
                rintro e w5 ⟨rfl, rfl⟩
                go_wp2_with fail
                refine H9.out.mono ?_
                rintro e w6 ⟨rfl, rfl⟩
                clear H8 H9
                go_wp2_with fail
                go_roundw
                case rel => exact ⟨j + 1, by go_num, by omega, HC1.out.tail⟩
                case measure => simp [intOf]; omega
            · obtain rfl : j = l.length := by omega
              go_wp2_with fail
              go_roundw
              case rel => exact ⟨k + 1, M, H, now + y, by go_num, by omega, rfl, by omega, by omega, HI2.out.more (by omega), HC.out⟩
              case measure => simp [intOf]; omega
    · obtain rfl : k = l.length := by omega
      have HB := Lib.hid (HC.out.baseOf (w0 := w) (by simp))
      go_wp2_with fail
      go_ret
      exact ⟨rfl, HB.out⟩

set_option maxRecDepth 100000 in
theorem books_walk (v : Value) (l : List Ent) (w : World) (h : Sl w 4 v l.length (l.map Ent.cells).flatten) (hn : ∀ x ∈ l, x.name.size ≤ maxLen) :
    Calls Try.prog 4 #[v] w fun e w' => e = .returned (.bool true) ∧ Below w.heap.size w w' := by
  by_cases hl : l.length ≤ 200
  · exact books_go v l w h hn hl
  · obtain ⟨al, cl, rfl, hcl, hml⟩ := h.form
    unfold maxLen at hml
    have hl' : (200 : Int) < l.length := by omega
    clear h hn
    go_enter Try.func4, Try.ntmps4
    go_wp2_with fail
    refine (alive13_any _).mono ?_
    rintro e w1 ⟨rfl, hb⟩
    have HB := Lib.hid hb
    clear hb
    go_wp2_with fail
    go_ret
    exact ⟨rfl, HB.out⟩
end Go.Proofs.Ytclonbojpcgngaa
