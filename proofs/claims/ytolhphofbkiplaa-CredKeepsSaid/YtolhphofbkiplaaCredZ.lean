/- The statement CredZeros, walked. -/
import Derived.Test.YtolhphofbkiplaaCred8
import Derived.Deep.DeepCutAuto
namespace Go.Proofs.Ytolhphofbkiplaa
set_option linter.unusedSimpArgs false
set_option linter.unusedVariables false
open Go.RowKit

theorem flatC_at {α : Type} {n : Nat} (f : α → List Value) : ∀ (l : List α), (∀ x ∈ l, (f x).length = n) → ∀ (k j : Nat) (h : k < l.length), j < n → ((l.map f).flatten)[k * n + j]? = (f l[k])[j]?
  | [], _, k, j, h, _ => by simp at h
  | x :: l, hf, 0, j, h, hj => by
    simp only [List.map_cons, List.flatten_cons, Nat.zero_mul, Nat.zero_add, List.getElem_cons_zero]
    rw [List.getElem?_append_left (by rw [hf x (by simp)]; exact hj)]
  | x :: l, hf, k + 1, j, h, hj => by
    simp only [List.map_cons, List.flatten_cons, List.getElem_cons_succ]
    rw [List.getElem?_append_right (by rw [hf x (by simp), Nat.add_mul]; omega), hf x (by simp), show (k + 1) * n + j - n = k * n + j by rw [Nat.add_mul]; omega]
    exact flatC_at f l (fun y hy => hf y (by simp [hy])) k j (by simpa using h) hj

/-- A ticket that came in: its key is one, its box reads as bytes, and is not too long; its end is a number of 64 bits. -/
def Cr.In (w : World) (c : Cr) : Prop := c.key.length = 16 ∧ Bs w c.bv c.box ∧ c.box.length ≤ 140737488351232 ∧ c.fin ≤ 9223372036854775807 ∧ -9223372036854775808 ≤ c.fin

theorem putI_slot (L : List (Option Cr)) (c : Cr) (h : ¬ placeI L c.srv < 0) : slotOf (putI L c).1 c.srv = some c := by
  obtain ⟨k, hk⟩ : ∃ k : Nat, placeI L c.srv = k := ⟨(placeI L c.srv).toNat, by omega⟩
  have hkl : k < L.length := by have := placeI_lt L c.srv; omega
  have hbefore : ∀ o ∈ L.take k, hasSrv c.srv o = false := by
    intro o ho
    unfold placeI at hk
    split at hk
    · rename_i i hi
      obtain rfl : i = k := by omega
      rw [List.findIdx?_eq_some_iff_getElem] at hi
      obtain ⟨_, _, h3⟩ := hi
      rw [List.mem_take_iff_getElem] at ho
      obtain ⟨j, hj, rfl⟩ := ho
      have := h3 j (by omega)
      simpa using this
    · rename_i hi
      rw [List.findIdx?_eq_none_iff] at hi
      exact hi o (List.mem_of_mem_take ho)
  have hp : placeI (L.set k (some c)) c.srv = k := by
    refine placeI_at _ _ k (by rw [List.length_set]; exact hkl) (fun o ho => ?_) (by simp [hasSrv])
    rw [List.take_set_of_le (Nat.le_refl _)] at ho
    exact hbefore o ho
  rw [putI, if_neg h, hk, Int.toNat_natCast]
  simp only
  rw [slotOf, hp, if_neg (by omega), Int.toNat_natCast]
  simp [List.getD, hkl]

theorem putI_noslot (L : List (Option Cr)) (c : Cr) (h : placeI L c.srv < 0) : slotOf (putI L c).1 c.srv = none := by
  rw [putI, if_pos h, slotOf, if_pos h]

theorem putI_mem (L : List (Option Cr)) (c : Cr) {x : Cr} (h : some x ∈ (putI L c).1) : some x ∈ L ∨ x = c := by
  unfold putI at h
  split at h
  · exact .inl h
  · rcases List.mem_or_eq_of_mem_set h with h | h
    · exact .inl h
    · simp only [Option.some.injEq] at h
      exact .inr h

set_option maxHeartbeats 4000000 in
set_option maxRecDepth 100000 in
theorem credZeros_walk (v : Value) (l : List Cr) (w : World) (hs : Sl w 21 v l.length (l.map Cr.cells).flatten) (hin : ∀ c ∈ l, c.In w) :
    Calls Try.prog 4 #[v] w fun e w' => e = .returned (.bool true) ∧ Below w.heap.size w w' := by
  obtain ⟨av, cv, rfl, hcv, hmv⟩ := hs.form
  have HS := Lib.hid hs
  have HIN := Lib.hid hin
  unfold maxLen at hmv
  clear hs hin
  go_enter Try.func4, Try.ntmps4
  go_wp2_with fail
  refine (alive16_any w).mono ?_
  rintro e w1 ⟨rfl, hb1⟩
  have hz1 := hb1.size
  have HB1 := Lib.hid hb1
  clear hb1
  by_cases hl : l.length ≤ 40
  · have hl' : ¬ (40 : Int) < l.length := by omega
    go_wp2_with fail
    refine (credNew_any w1).mono ?_
    rintro e w2 ⟨rfl, hs2, hb2⟩
    obtain ⟨p, hp⟩ : ∃ p, p = w1.heap.size := ⟨_, rfl⟩
    have hs2' : StoreAt w2 (fun j => w1.heap.size ≤ j) p noneL := by rw [hp]; exact hs2.mono (fun j hj => by omega)
    rw [← hp]
    have hpw : w1.heap.size ≤ p := by omega
    have HS2 := Lib.hid hs2'
    have HB2 : Hid (Below w.heap.size w w2) := Lib.hid (HB1.out.trans (hb2.mono hz1))
    clear hs2 hs2' hb2 hp
    go_wp2_with fail
    go_loopw [24] (fun i wr => ∃ (k : Nat) (L : List (Option Cr)), k ≤ l.length ∧ i = .int .i64 k ∧ StoreAt wr (fun j => w1.heap.size ≤ j) p L ∧ (∀ x, some x ∈ L → x.box.length ≤ 140737488351232) ∧ Below w.heap.size w wr) (fun i _ => l.length - (intOf i).toNat)
    case atStart => exact ⟨0, noneL, Nat.zero_le _, rfl, HS2.out, fun x hx => by simp [noneL] at hx, HB2.out⟩
    case round =>
      obtain ⟨k, L, hk, rfl, hst, hbx, hB⟩ := hrel
      have HST := Lib.hid hst
      have HBX := Lib.hid hbx
      have HBr := Lib.hid hB
      have hzr := hB.size
      have hplt := hst.lt
      by_cases hlt : k < l.length
      · obtain ⟨hck, hcb, hcbl, hcf1, hcf2⟩ := HIN.out l[k] (List.getElem_mem hlt)
        have hkey : ∀ x ∈ l, x.cells.length = 21 := fun x hx => Cr.cells_length x (HIN.out x hx).1
        obtain ⟨bl, ol, rfl, hcell⟩ := HS.out.addr (by rw [HS.out.1]; omega)
        have hca : CellsAt wr bl (ol + k * 21) (l[k]).cells := by
          intro j u hj
          have hj' : j < 21 := by have := (List.getElem?_eq_some_iff.1 hj).1; rw [hkey _ (List.getElem_mem hlt)] at this; exact this
          have := hcell (k * 21 + j) u (by rw [flatC_at (n := 21) Cr.cells l hkey k j hlt hj']; exact hj)
          rw [Nat.add_assoc]
          exact below_cell hB this
        have hcb' := hcb.below hB
        have hki : (k : Int) < l.length := by omega
        generalize l[k] = c at hck hcb hcbl hcf1 hcf2 hca hcb'
        obtain ⟨ac, cc, hbv, hcc, hmc⟩ := hcb.form
        have hcl := Cr.cells_length c hck
        have hc1 := Cr.one c (by rw [hbv]; rfl)
        have hnp : c.box = [] ∨ c.bv.ownBlock ≠ some p := by
          by_cases hbe : c.box = []
          · exact .inl hbe
          · refine .inr fun e => ?_
            obtain ⟨b, off, hb, hcl2⟩ := Sl.addr (by rw [hbv] at hcb; exact hcb) (by rw [bCells_length]; exact List.length_pos_iff.2 hbe)
            have hlt := World.block_lt_of_cell? w _ (hcl2 0 _ (bCells_get c.box 0 (List.length_pos_iff.2 hbe)))
            rw [hbv, hb] at e
            simp [Value.ownBlock] at e
            simp at hlt
            omega
        have HCA := Lib.hid hca
        have HCK := Lib.hid hck
        have HCB := Lib.hid hcb'
        have HCL := Lib.hid hcl
        have HC1 := Lib.hid hc1
        have HNP := Lib.hid hnp
        have HN := Lib.hid (Blk.new wr zs21 33)
        clear hst hbx hB hca hck hcb hcb' hcl hc1 hnp hcell hkey hbv
        go_wp2_with (first | ((with_reducible show wpList _ _ _ (⟨some 27, _, _, _, _, _⟩ :: _) _ _); refine wpList_ldAgg rfl (.tmp 26) aggCred rfl rfl (cs := c.cells) HCL.out HCA.out ?_) | ((with_reducible show wpList _ _ _ (⟨none, .store _ (.tmp 5) (.tmp 27), _, _, _, _⟩ :: _) _ _); refine wpList_stAgg rfl (.tmp 5) (.tmp 27) aggCred rfl rfl (vs := c.cells) rfl HCL.out HN.out (Nat.le_refl _) HC1.out ?_))
        intro w3 h3 k3
        have h3' : Blk w3 wr.heap.size c.cells 33 := by
          have := h3
          simpa [zs21, Cr.cells] using this
        have hz3 := k3.size
        simp at hz3
        have hb3 : Below wr.heap.size wr w3 := ((Below.refl _ _).alloc (Nat.le_refl _) _).trans (k3.below (by omega))
        obtain ⟨q, hq⟩ : ∃ q, q = wr.heap.size := ⟨_, rfl⟩
        rw [← hq] at h3' ⊢
        have hpq : p < q := by omega
        have hq3 : q < w3.heap.size := by omega
        have hqw : w.heap.size ≤ q := by omega
        have H3 := Lib.hid h3'
        have HS3 := Lib.hid (HST.out.below hb3)
        have HB3 : Hid (Below w.heap.size w w3) := Lib.hid (HBr.out.trans (hb3.mono (by omega)))
        have HCB3 := Lib.hid (HCB.out.below hb3)
        clear h3 h3' k3 hb3 HN HCA hq
        go_wp2_with ((with_reducible show wpList _ _ _ (⟨some 29, _, _, _, _, _⟩ :: _) _ _); refine wpList_ldAgg rfl (.tmp 5) aggCred rfl rfl (cs := c.cells) HCL.out H3.out.cellsAll ?_)
        go_wp2_with fail
        refine (credPut_any _ p L c w3 HS3.out HCK.out HCB3.out hcbl HNP.out).mono ?_
        rintro e w4 ⟨c', hdat, rfl, hs4, hk4⟩
        obtain ⟨L', hL'⟩ : ∃ L', L' = (putI L c').1 := ⟨_, rfl⟩
        have hdat' := hdat
        simp only [Cr.dat, Prod.mk.injEq] at hdat'
        have hsrv : c'.srv = c.srv := hdat'.1
        have hfin : c'.fin = c.fin := hdat'.2.2.2.2.1
        have hbox : c'.box = c.box := hdat'.2.1
        have hcases : slotOf L' c.srv = some c' ∨ slotOf L' c.srv = none := by
          by_cases hn : placeI L c'.srv < 0
          · right; rw [hL', ← hsrv]; exact putI_noslot L c' hn
          · left; rw [hL', ← hsrv]; exact putI_slot L c' hn
        have hbx' : ∀ x, some x ∈ L' → x.box.length ≤ 140737488351232 := by
          intro x hx
          rw [hL'] at hx
          rcases putI_mem L c' hx with h | h
          · exact HBX.out x h
          · rw [h, hbox]; exact hcbl
        have hs4' : StoreAt w4 (fun j => w1.heap.size ≤ j) p L' := by rw [hL']; exact hs4.mono (fun j hj => by rcases hj with h | h; exact h; omega)
        have hz4 := hk4.size
        have HS4 := Lib.hid hs4'
        have HB4 : Hid (Below w.heap.size w w4) := Lib.hid (HB3.out.trans (hk4.below (by rintro j (h | h) <;> omega)))
        have HQ4 := Lib.hid (H3.out.keep hk4 (by omega))
        have HCB4 : Hid (Bs w4 c.bv c.box) := Lib.hid (by
          rcases HNP.out with h0 | h0
          · have := HCB3.out
            rw [h0] at this ⊢
            obtain ⟨g1, g2, a, cap, g3, g4, g5, g6, _⟩ := this
            exact ⟨g1, g2, a, cap, g3, g4, g5, g6, .inl rfl⟩
          · exact Sl.keep' HCB3.out hk4 (fun b hb hl e => by rcases e with e | e; exact h0 (e ▸ hb); omega))
        have HCASES := Lib.hid hcases
        have HBX' := Lib.hid hbx'
        have HDAT := Lib.hid hdat
        have HFIN := Lib.hid hfin
        obtain ⟨e4, he4⟩ : ∃ e4, e4 = (putI L c').2 := ⟨_, rfl⟩
        rw [← he4]
        have hq4 : q < w4.heap.size := by omega
        have y0 : w4.cell? ⟨q, 0, none⟩ = some (.string c.srv) := by rw [HQ4.out.cell]; rfl
        have y19 : w4.cell? ⟨q, 19, none⟩ = some (.int .i64 c.fin) := by rw [HQ4.out.cell]; exact Cr.c19 c HCK.out
        clear hs4 hs4' hk4 hcases hbx' hdat hdat' hfin hsrv hbox hL' he4 HS3 HB3 H3 HCB3
        go_upto_region 10 with fail
        obtain ⟨wp4, rfl⟩ : ∃ W : World, W = w4 := ⟨_, rfl⟩
        go_cut [6] (fun s6 wx => wx = wp4 ∧ ∃ now : Int, s6 = .int .i64 now)
        case first =>
          by_cases h1 : c.fin < 1
          · go_wp2_with fail
            go_meet
            exact ⟨rfl, _, rfl⟩
          · go_wp2_with fail
            go_meet
            exact ⟨rfl, _, rfl⟩
        case rest =>
        obtain ⟨rfl, now, rfl⟩ := hcut
        go_wp2_with fail
        refine (credGet_any _ p L' now c.srv wc HS4.out HBX'.out).mono ?_
        rintro e w5 ⟨x5, e5, rfl, hr5, hb5⟩
        have hz5 := hb5.size
        have hx5l := Cr.cells_length x5 hr5.1
        have HX5L := Lib.hid hx5l
        have HX51 := Lib.hid hr5.one
        have HR5 := Lib.hid hr5
        have HB5 := Lib.hid hb5
        have HN5 := Lib.hid (Blk.new w5 zs21 33)
        clear hr5 hb5 hx5l
        go_wp2_with ((with_reducible show wpList _ _ _ (⟨none, .store _ (.tmp 7) (.tmp 42), _, _, _, _⟩ :: _) _ _); refine wpList_stAgg rfl (.tmp 7) (.tmp 42) aggCred rfl rfl (vs := x5.cells) rfl HX5L.out HN5.out (Nat.le_refl _) HX51.out ?_)
        intro w6 h6 k6
        have h6' : Blk w6 w5.heap.size x5.cells 33 := by
          have := h6
          simpa [zs21, Cr.cells] using this
        have hz6 := k6.size
        simp at hz6
        have hb56 : Below w5.heap.size w5 w6 := ((Below.refl _ _).alloc (Nat.le_refl _) _).trans (k6.below (by omega))
        have HB6 : Hid (Below wc.heap.size wc w6) := Lib.hid (HB5.out.trans (hb56.mono (by omega)))
        obtain ⟨a5, c5, hf5, hnc⟩ := HR5.out.2.1.form
        unfold maxLen at hnc
        have z1 : w6.cell? ⟨w5.heap.size, 1, none⟩ = some (.slice a5 x5.box.length c5) := by rw [h6'.cell, ← hf5]; rfl
        have hgx : ∃ g, (wc.heap.size ≤ g ∧ g < w5.heap.size ∧ (x5.box.length = 0 ∨ (a5 = some ⟨g, 0, none⟩ ∧ ∃ cs : List Value, Blk w6 g cs 5 ∧ x5.box.length ≤ cs.length ∧ ∀ j, j < x5.box.length → ∃ z : Int, cs[j]? = some (.int .u8 z)))) ∨ x5.box.length = 0 := by
          rcases HR5.out.2.2.2.1 with h0 | ⟨g, cap, rest, e1, e2⟩
          · exact ⟨0, .inr (by rw [h0]; rfl)⟩
          · rw [hf5] at e1
            simp only [Value.slice.injEq, true_and] at e1
            have hg := HR5.out.2.2.1 g (by rw [hf5, e1.1]; rfl)
            refine ⟨g, .inl ⟨hg.1, hg.2, .inr ⟨e1.1, _, e2.below hb56 hg.2, by simp [bCells_length], fun j hj => ?_⟩⟩⟩
            exact ⟨_, (List.getElem?_append_left (by rw [bCells_length]; exact hj)).trans (bCells_get _ _ hj)⟩
        obtain ⟨g, hgx⟩ := hgx
        have HGX := Lib.hid hgx
        have hq6 : q < w6.heap.size := by omega
        clear h6 h6' k6 hb56 hf5 hgx HN5
        obtain ⟨n, hn⟩ : ∃ n, n = x5.box.length := ⟨_, rfl⟩
        rw [← hn] at z1 HGX hnc
        clear hn y0 y19
        have z1' := z1
        go_wp2_with fail
        go_loopw [48] (fun i wl => ∃ k : Nat, k ≤ n ∧ i = .int .i64 k ∧ Below wc.heap.size wc wl ∧ w5.heap.size < wl.heap.size ∧ wl.cell? ⟨w5.heap.size, 1, none⟩ = some (.slice a5 n c5) ∧ ((wc.heap.size ≤ g ∧ g < w5.heap.size ∧ (n = 0 ∨ (a5 = some ⟨g, 0, none⟩ ∧ ∃ cs : List Value, Blk wl g cs 5 ∧ n ≤ cs.length ∧ ∀ j, j < n → ∃ z : Int, cs[j]? = some (.int .u8 z)))) ∨ n = 0)) (fun i _ => n - (intOf i).toNat)
        case atStart => exact ⟨0, Nat.zero_le _, rfl, HB6.out, by omega, z1', HGX.out⟩
        case round =>
          obtain ⟨j, hj, rfl, hbl, hwl, y1, hg⟩ := hrel
          have HBL := Lib.hid hbl
          have hzl := hbl.size
          by_cases hjn : j < n
          · have hg' : wc.heap.size ≤ g ∧ g < w5.heap.size ∧ a5 = some ⟨g, 0, none⟩ ∧ ∃ cs : List Value, Blk wr g cs 5 ∧ n ≤ cs.length ∧ ∀ j, j < n → ∃ z : Int, cs[j]? = some (.int .u8 z) := by
              rcases hg with ⟨h1, h2, h | ⟨h3, h4⟩⟩ | h
              · omega
              · exact ⟨h1, h2, h3, h4⟩
              · omega
            obtain ⟨hg1, hg2, rfl, cs, hgb, hgl, hgz⟩ := hg'
            obtain ⟨z, hz⟩ := hgz j hjn
            have gc : wr.cell? ⟨g, j, none⟩ = some (.int .u8 z) := by rw [hgb.cell]; exact hz
            have gf := hgb.frozen j
            have hjI : (j : Int) < n := by omega
            have hset : ∀ z' : Int, Below wc.heap.size wc (wr.setCell ⟨g, j, none⟩ (.int .u8 z')) ∧ w5.heap.size < (wr.setCell ⟨g, j, none⟩ (.int .u8 z')).heap.size ∧ (wr.setCell ⟨g, j, none⟩ (.int .u8 z')).cell? ⟨w5.heap.size, 1, none⟩ = some (.slice (some ⟨g, 0, none⟩) n c5) ∧ ∃ cs : List Value, Blk (wr.setCell ⟨g, j, none⟩ (.int .u8 z')) g cs 5 ∧ n ≤ cs.length ∧ ∀ j, j < n → ∃ z : Int, cs[j]? = some (.int .u8 z) := by
              intro z'
              refine ⟨HBL.out.setCell (p := ⟨g, j, none⟩) hg1 _, ?_, ?_, cs.set j (.int .u8 z'), hgb.set _ _, by simpa using hgl, fun i hi => ?_⟩
              · have := (Keeps.one wr g j (.int .u8 z')).size
                omega
              · rw [(Keeps.one wr g j (.int .u8 z')).cell (by simp; omega)]; exact y1
              · by_cases hij : i = j
                · subst hij
                  exact ⟨z', by rw [List.getElem?_set_self (by omega)]⟩
                · obtain ⟨z2, h2⟩ := hgz i hi
                  exact ⟨z2, by rw [List.getElem?_set_ne (Ne.symm hij)]; exact h2⟩
            have HSET := Lib.hid hset
            clear hset hbl hgb hgz hz hg hgl
            go_wp2_with fail
            go_roundw
            case rel => exact ⟨j + 1, by omega, by go_num, (HSET.out _).1, (HSET.out _).2.1, (HSET.out _).2.2.1, .inl ⟨hg1, hg2, .inr ⟨trivial, (HSET.out _).2.2.2⟩⟩⟩
            case measure => simp [intOf]; omega
          · obtain rfl : j = n := by omega
            have HS7 := Lib.hid (HS4.out.below HBL.out)
            clear hbl hg HGX HS
            go_wp2_with fail
            refine (credKeys_any _ p L' wr HS7.out).mono ?_
            rintro e w8 ⟨v8, rfl, ho8, hb8⟩
            obtain ⟨g8, cp8, cur8, rfl, hg8, hrow8, hle8, hcap8, hsz8⟩ : ∃ g cap cur, v8 = .slice (some ⟨g, 0, none⟩) 16 cap ∧ wr.heap.size ≤ g ∧ Blk w8 g cur 31 ∧ 16 ≤ cap ∧ cap ≤ maxLen ∧ cur.length = cap * 16 := by
              obtain ⟨_, _, ⟨a, _, h⟩ | ⟨g, cap, cur, h1, h2, h3, h4, h5, h6, _⟩⟩ := ho8
              · omega
              · exact ⟨g, cap, cur.toList, h1, h2, by simpa [Blk] using h3, h4, h5, by simpa using h6⟩
            have hz8 := hb8.size
            have HB8 : Hid (Below wc.heap.size wc w8) := Lib.hid (HBL.out.trans (hb8.mono hzl))
            have HR8 := Lib.hid hrow8
            have hgw : wc.heap.size ≤ g8 := by omega
            have hlen8 : 256 ≤ cur8.length := by omega
            clear hb8 ho8 hrow8 hsz8 HBL HS7
            go_wp2_with fail
            go_loopw [64] (fun i wl => ∃ (k : Nat) (cs : List Value), k ≤ 16 ∧ i = .int .i64 k ∧ Below wc.heap.size wc wl ∧ Blk wl g8 cs 31 ∧ 256 ≤ cs.length) (fun i _ => 16 - (intOf i).toNat)
            case atStart => exact ⟨0, cur8, by omega, rfl, HB8.out, HR8.out, hlen8⟩
            case round =>
              obtain ⟨i, cs, hi, rfl, hbi, hcs, hcl⟩ := hrel
              have HBI := Lib.hid hbi
              have HCS := Lib.hid hcs
              have hzi := hbi.size
              clear hbi hcs
              by_cases hi6 : i < 16
              · have hiI : (i : Int) < 16 := by omega
                go_wp2_with ((with_reducible show wpList _ _ _ (⟨none, .store _ (.tmp 70) (.tmp 69), _, _, _, _⟩ :: _) _ _); refine wpList_stAgg rfl (.tmp 70) (.tmp 69) aggKey rfl rfl (vs := .int .u8 9 :: List.replicate 15 (.int .u8 0)) rfl rfl HCS.out (by omega) (by decide) ?_)
                intro w9 h9 k9
                have hb9 : Hid (Below wc.heap.size wc w9) := Lib.hid (HBI.out.trans (k9.below (by intro j hj; omega)))
                have H9 := Lib.hid h9
                have hl9 := H9.out
                clear h9 k9 hl9
                go_wp2_with fail
                go_roundw
                case rel => exact ⟨i + 1, _, by omega, by go_num, hb9.out, H9.out, by simp; omega⟩
                case measure => simp [intOf]; omega
              · obtain rfl : i = 16 := by omega
                have HS8 := Lib.hid (HS4.out.below HBI.out)
                have y0 : wr.cell? ⟨q, 0, none⟩ = some (.string c.srv) := by rw [(HQ4.out.below HBI.out hq4).cell]; rfl
                go_wp2_with fail
                refine (credGet_any _ p L' now c.srv wr HS8.out HBX'.out).mono ?_
                rintro e wa ⟨xa, ea, rfl, hra, hba⟩
                have hza := hba.size
                have hxal := Cr.cells_length xa hra.1
                have HXAL := Lib.hid hxal
                have HXA1 := Lib.hid hra.one
                have HRA := Lib.hid hra
                have HBA := Lib.hid hba
                have HNA := Lib.hid (Blk.new wa zs21 33)
                clear hra hba hxal y0
                go_wp2_with ((with_reducible show wpList _ _ _ (⟨none, .store _ (.tmp 12) (.tmp 79), _, _, _, _⟩ :: _) _ _); refine wpList_stAgg rfl (.tmp 12) (.tmp 79) aggCred rfl rfl (vs := xa.cells) rfl HXAL.out HNA.out (Nat.le_refl _) HXA1.out ?_)
                intro wb hb kb
                have hb' : Blk wb wa.heap.size xa.cells 33 := by
                  have := hb
                  simpa [zs21, Cr.cells] using this
                have hzb := kb.size
                simp at hzb
                have hbab : Below wa.heap.size wa wb := ((Below.refl _ _).alloc (Nat.le_refl _) _).trans (kb.below (by omega))
                have HBB : Hid (Below wc.heap.size wc wb) := Lib.hid ((HBI.out.trans (HBA.out.mono hzi)).trans (hbab.mono (by omega)))
                have HXB := Lib.hid hb'
                have hxbs : Bs wb xa.bv xa.box := HRA.out.2.1.below hbab
                have HXBS := Lib.hid hxbs
                have HQB := Lib.hid (HQ4.out.below HBB.out hq4)
                have HCBB := Lib.hid (HCB4.out.below HBB.out)
                have HSB := Lib.hid (HS4.out.below HBB.out)
                have HBW : Hid (Below w.heap.size w wb) := Lib.hid (HB4.out.trans (HBB.out.mono (by omega)))
                have HKA := Lib.hid (HRA.out.1)
                clear hb hb' kb hbab hxbs HNA
                have y19 : wb.cell? ⟨q, 19, none⟩ = some (.int .i64 c.fin) := by rw [HQB.out.cell]; exact Cr.c19 c HCK.out
                rcases HCASES.out with hsl | hsl
                · by_cases hnow : now < c.fin
                  · obtain ⟨-, rfl⟩ := HR5.out.has hsl (by rw [HFIN.out]; exact hnow)
                    obtain ⟨hda, rfl⟩ := HRA.out.has hsl (by rw [HFIN.out]; exact hnow)
                    have HDA : Hid (xa.dat = c.dat) := Lib.hid (hda.trans HDAT.out)
                    have HCS := Lib.hid (credSame_any xa c wb HDA.out HKA.out HXBS.out HCBB.out)
                    have hnow' : ¬ c.fin ≤ now := by omega
                    have hxal2 := HXAL.out
                    clear hda hsl hxal2
                    go_wp2_with (first | ((with_reducible show wpList _ _ _ (⟨some 88, _, _, _, _, _⟩ :: _) _ _); refine wpList_ldAgg rfl (.tmp 12) aggCred rfl rfl (cs := xa.cells) HXAL.out HXB.out.cellsAll ?_) | ((with_reducible show wpList _ _ _ (⟨some 89, _, _, _, _, _⟩ :: _) _ _); refine wpList_ldAgg rfl (.tmp 5) aggCred rfl rfl (cs := c.cells) HCL.out HQB.out.cellsAll ?_))
                    refine HCS.out.mono ?_
                    rintro e wd ⟨rfl, hbd⟩
                    have hzd := hbd.size
                    have HSD := Lib.hid (HSB.out.below hbd)
                    have HBD : Hid (Below w.heap.size w wd) := Lib.hid (HBW.out.trans (hbd.mono (by omega)))
                    have y19' : wd.cell? ⟨q, 19, none⟩ = some (.int .i64 c.fin) := below_cell hbd y19
                    clear hbd
                    go_wp2_with fail
                    go_roundw
                    case rel => exact ⟨k + 1, L', by omega, by go_num, HSD.out, HBX'.out, HBD.out⟩
                    case measure => simp [intOf]; omega
                  · obtain ⟨-, rfl⟩ := HR5.out.old hsl (by rw [HFIN.out]; omega)
                    obtain ⟨-, rfl⟩ := HRA.out.old hsl (by rw [HFIN.out]; omega)
                    clear hsl
                    go_wp2_with fail
                    go_roundw
                    case rel => exact ⟨k + 1, L', by omega, by go_num, HSB.out, HBX'.out, HBW.out⟩
                    case measure => simp [intOf]; omega
                · obtain ⟨-, rfl⟩ := HR5.out.no hsl
                  obtain ⟨-, rfl⟩ := HRA.out.no hsl
                  clear hsl
                  go_wp2_with fail
                  go_roundw
                  case rel => exact ⟨k + 1, L', by omega, by go_num, HSB.out, HBX'.out, HBW.out⟩
                  case measure => simp [intOf]; omega
      · obtain rfl : k = l.length := by omega
        clear hst hbx hB HBX HS HIN HS2 HB2
        go_wp2_with fail
        refine (credWipe_any _ p L wr HST.out).mono ?_
        rintro e w3 ⟨rfl, hs3, hk3⟩
        have hz3 := hk3.size
        have HS3 := Lib.hid hs3
        have HB3 : Hid (Below w.heap.size w w3) := Lib.hid (HBr.out.trans (hk3.below (by rintro j rfl; omega)))
        clear hs3 hk3 HST HBr
        go_wp2_with fail
        refine (credKeys_any _ p noneL w3 HS3.out).mono ?_
        rintro e w4 ⟨v4, rfl, ho4, hb4⟩
        have hz4 := hb4.size
        have hs4 := ho4.sl
        obtain ⟨a4, c4, rfl, hc4, hm4⟩ := hs4.form
        obtain ⟨b4, o4, rfl, hcell⟩ := hs4.addr (by rw [hs4.1]; omega)
        unfold maxLen at hm4
        have hkk : ∀ x ∈ keysB noneL, x = List.replicate 16 0 := by
          intro x hx
          simp only [keysB, noneL, List.map_replicate, List.mem_replicate] at hx
          rw [hx.2]; rfl
        have hkb : (keysB noneL).length = 16 := rfl
        obtain ⟨Z, hZ⟩ : ∃ Z, Z = zs16 := ⟨_, rfl⟩
        have hkc : ∀ i, i < 16 → CellsAt w4 b4 (o4 + i * 16) Z := by
          intro i hi j u hj
          rw [hZ] at hj
          have hj' : j < 16 := (List.getElem?_eq_some_iff.1 hj).1
          have := hcell (i * 16 + j) u (by
            unfold ksC
            rw [flatC_at (n := 16) bCells (keysB noneL) (fun x hx => by rw [bCells_length, hkk x hx]; rfl) i j (by rw [hkb]; exact hi) hj', hkk _ (List.getElem_mem _)]
            exact hj)
          rw [Nat.add_assoc]
          exact this
        have hbz : Try.prog.built 31 [] = some Z.toArray := by rw [hZ]; kernel_rfl
        have hei : ∀ W, (Op.equalIn 10000 31 (.agg Z.toArray) (.agg Z.toArray)).run Try.prog W = .ok true W := by
          intro W
          have := run_eqIn_key W (List.replicate 16 0) (List.replicate 16 0) rfl rfl
          simp only [decide_true] at this
          rw [hZ]
          exact this
        have hzl : Z.length = 16 := by rw [hZ]; rfl
        have hz1' : ∀ u ∈ Z, u.oneCell' = true := by rw [hZ]; exact bCells_one (List.replicate 16 0)
        have HKC := Lib.hid hkc
        have HBZ := Lib.hid hbz
        have HZL := Lib.hid hzl
        have HZ1 := Lib.hid hz1'
        have HS4 := Lib.hid (HS3.out.below hb4)
        have HB4 : Hid (Below w.heap.size w w4) := Lib.hid (HB3.out.trans (hb4.mono (by omega)))
        clear hkc hbz hzl hz1' hs4 hb4 ho4 hcell hkk hkb hZ HS3 HB3
        go_wp2_with fail
        go_loopw [106] (fun i wl => ∃ k : Nat, k ≤ 16 ∧ i = .int .i64 k ∧ Below w4.heap.size w4 wl) (fun i _ => 16 - (intOf i).toNat)
        case atStart => exact ⟨0, by omega, rfl, Below.refl _ _⟩
        case round =>
          obtain ⟨k, hk, rfl, hB⟩ := hrel
          have HBr := Lib.hid hB
          have hzr := hB.size
          by_cases hlt : k < 16
          · have hki : (k : Int) < 16 := by omega
            have hca : CellsAt wr b4 (o4 + k * 16) Z := fun j u hj => below_cell hB (HKC.out k hlt j u hj)
            have HCA := Lib.hid hca
            have HN := Lib.hid (Blk.new wr zs16 31)
            clear hca hB
            go_wp2_with (first | ((with_reducible show wpList _ _ _ (⟨some 109, _, _, _, _, _⟩ :: _) _ _); refine wpList_ldAgg rfl (.tmp 108) aggKey rfl rfl (cs := Z) HZL.out HCA.out ?_) | ((with_reducible show wpList _ _ _ (⟨none, .store _ (.tmp 15) (.tmp 109), _, _, _, _⟩ :: _) _ _); refine wpList_stAgg rfl (.tmp 15) (.tmp 109) aggKey rfl rfl (vs := Z) rfl HZL.out HN.out (Nat.le_refl _) HZ1.out ?_))
            intro w5 h5 k5
            have h5' : Blk w5 wr.heap.size Z 31 := by
              have := h5
              simpa [zs16] using this
            have hz5 := k5.size
            simp at hz5
            have H5 := Lib.hid h5'
            have HB5 : Hid (Below w4.heap.size w4 w5) := Lib.hid ((HBr.out.alloc hzr _).trans (k5.below (by omega)))
            clear h5 h5' k5 HN HCA
            go_wp2_with (first | ((with_reducible show wpList _ _ _ (⟨some 110, _, _, _, _, _⟩ :: _) _ _); refine wpList_ldAgg rfl (.tmp 15) aggKey rfl rfl (cs := Z) HZL.out H5.out.cellsAll ?_) | ((with_reducible show wpList _ _ _ (⟨some 111, _, _, _, _, _⟩ :: _) _ _); refine wpList_bld rfl rfl HBZ.out ?_))
            go_roundw
            case rel => exact ⟨k + 1, by omega, by go_num, HB5.out⟩
            case measure => simp [intOf]; omega
          · obtain rfl : k = 16 := by omega
            have HS5 := Lib.hid (HS4.out.below HBr.out)
            have HB5 : Hid (Below w.heap.size w wr) := Lib.hid (HB4.out.trans (HBr.out.mono (by omega)))
            clear hB
            go_wp2_with fail
            refine (credLen_any _ p noneL wr HS5.out).mono ?_
            rintro e w6 ⟨rfl, rfl⟩
            rw [show usedN noneL = 0 from rfl]
            go_wp2_with fail
            go_ret
            exact ⟨rfl, HB5.out⟩
  · have hl' : (40 : Int) < l.length := by omega
    go_wp2_with fail
    go_ret
    exact ⟨rfl, HB1.out⟩
end Go.Proofs.Ytolhphofbkiplaa
