/- The statement BaseBack, walked. (Printed by wip/tools/genback.py.) -/
import Derived.Test.YtclonbojpcgngaaAlive13
import Derived.Deep.DeepCutAuto
namespace Go.Proofs.Ytclonbojpcgngaa
set_option linter.unusedSimpArgs false
set_option linter.unusedVariables false
open Go.RowKit

theorem addU_ok {L : List Us} {u : Us} (hs : Sorted L) (hl : L.length ≤ 32) : Sorted (addU L u).1 ∧ (addU L u).1.length ≤ 32 := by
  unfold addU
  split
  · exact ⟨hs, hl⟩
  · split
    · exact ⟨hs, hl⟩
    · split
      · exact ⟨hs, hl⟩
      · next h =>
        split
        · exact ⟨hs, hl⟩
        · next h2 => exact ⟨insU_sorted hs (by simpa using h), by rw [insU_length]; omega⟩
theorem addU_done {L : List Us} {u : Us} (h : (addU L u).2 = 0) : hasU L u.name = false ∧ (addU L u).1 = insU L u ∧ L.length ≠ 32 := by
  unfold addU at h ⊢
  split at h
  · cases h
  · next h1 =>
    split at h
    · cases h
    · next h2 =>
      split at h
      · cases h
      · next h3 =>
        split at h
        · cases h
        · next h4 =>
          rw [if_neg h1, if_neg h2, if_neg h3, if_neg h4]
          exact ⟨by simpa using h3, rfl, h4⟩
theorem addU_kept {L : List Us} {u : Us} (h : (addU L u).2 ≠ 0) : (addU L u).1 = L := by
  unfold addU at h ⊢
  split at h
  · next h1 => rw [if_pos h1]
  · next h1 =>
    rw [if_neg h1]
    split at h
    · next h2 => rw [if_pos h2]
    · next h2 =>
      rw [if_neg h2]
      split at h
      · next h3 => rw [if_pos h3]
      · next h3 =>
        rw [if_neg h3]
        split at h
        · next h4 => rw [if_pos h4]
        · exact (h rfl).elim
theorem dropU_back {L : List Us} {u : Us} (hs : Sorted L) (h : hasU L u.name = false) : dropU (insU L u) u.name = (L, 0) := by
  rw [dropU, if_pos (insU_pos hs h).1, delU_insU hs h]
theorem getU_at {L : List Us} (hs : Sorted L) {k : Nat} (hk : k < L.length) : getC L L[k].name = L[k].cells ∧ getE L L[k].name = 0 := by
  obtain ⟨h1, h2⟩ := hasU_of hs hk rfl
  unfold getC getE
  rw [h1, h2, List.getElem?_eq_getElem hk]
  exact ⟨rfl, rfl⟩
theorem nmC_at {L : List Us} {k : Nat} (hk : k < L.length) : (nmC L)[k]? = some (.string L[k].name) := by simp [nmC, hk]
theorem nmC_len (L : List Us) : (nmC L).length = L.length := by simp [nmC]
/-- 'a >= b' of strings, whose answer is known. -/
theorem wpList_geqS {P : Program} {ops : Array Oper} {rest : List Oper} {o : Oper} {a : Act} {w : World} {Q : Exit → Act → World → Prop} (hgd : Region.wanted o (yielded ops a.tmps) = true) (x y : Operand) {t r : TypeId} (ho : o.op = .binOp .geq t x y r) {c d : ByteArray} (hx : a.eval x = .string c) (hy : a.eval y = .string d)
    {v : Bool} (hv : (!Op.bytesLess c.toList d.toList) = v) (h : wpList P ops Q rest (a.put o.dst (.bool v)) w) : wpList P ops Q (o :: rest) a w := by
  refine wpList_want hgd fun K hK => ?_
  have hr : (do eqGuard .geq t x y (.string c) (.string d); binOp .geq t (.string c) (.string d)).run P w = .ok (.bool v) w := by
    simp [eqGuard, binOp, Op.stringOp, hv]
  unfold Oper.wp execOp
  simp only [ho, hx, hy, Sem.run_bind, Sem.run_pure, Result.andThen_ok] at hr ⊢
  rw [hr]
  exact hK _ _ h
theorem own_cell {W : World} {l : List Res} {a : Option Addr} {c : Nat} {L : List Us} (h : Hold W l) (hm : Res.own 9 1 (.slice a L.length c) L.length (nmC L) ∈ l) (hp : 0 < L.length) : ∃ b o, a = some ⟨b, o, none⟩ ∧ ∀ k (hk : k < L.length), W.cell? ⟨b, o + k, none⟩ = some (.string L[k].name) := by
  obtain ⟨b, o, rfl, hc⟩ := (h.ownOf hm).1.sl.addr (by rw [nmC_len]; exact hp)
  exact ⟨b, o, rfl, fun k hk => hc k _ (nmC_at hk)⟩
theorem less_at {L : List Us} (hs : Sorted L) {k : Nat} (hk : k + 1 < L.length) : Op.bytesLess L[k].name.toList L[k + 1].name.toList = true := by
  rw [ByteArray.toList_eq, ByteArray.toList_eq, less_cb]
  exact decide_eq_true (hs.at (Nat.lt_succ_self k) hk)

set_option maxRecDepth 100000 in
set_option maxHeartbeats 8000000 in
theorem back_go (v : Value) (l : List Us) (u : Us) (w : World) (h : Sl w 20 v l.length (usC l)) (hn : ∀ x ∈ l, x.name.size ≤ maxLen) (hu : u.name.size ≤ maxLen) (hl : l.length ≤ 40) (hu60 : u.name.size ≤ 60) :
    Calls Try.prog 5 #[v, .agg u.cells.toArray] w fun e w' => e = .returned (.bool true) ∧ Below w.heap.size w w' := by
  obtain ⟨al, cl, rfl, hcl, hml⟩ := h.form
  have HSL := Lib.hid h
  have HN := Lib.hid hn
  have HU := Lib.hid hu
  unfold maxLen at hml
  obtain ⟨q, hq⟩ : ∃ q, q = w.heap.size := ⟨_, rfl⟩
  have HC := Lib.hid ((Hold.start w).addBlkAt u.cells 30 hq.symm)
  have HQ := Lib.hid hq
  clear h hn hu hq
  go_enter Try.func5, Try.ntmps5
  go_wp2_with fail
  rw [← HQ.out]
  refine (alive13_any _).mono ?_
  rintro e w1 ⟨rfl, hb⟩
  have HC := Lib.hid (HC.out.step hb)
  have hbq := HC.out.blkOf (p := q) (cs := u.cells) (T := 30) (by simp)
  have c0 := hbq.cell 0
  rw [u.c0] at c0
  have hu60' : ((u.name.size : Nat) : Int) ≤ 60 := by omega
  clear hb hbq
  go_wp2_with fail
  refine (baseNew_any _ _ HC.out).mono ?_
  rintro e w2 ⟨p, rfl, hc⟩
  have HC := Lib.hid hc
  clear hc c0
  go_wp2_with fail
  go_loopw [28] (fun iv wr => ∃ (k : Nat) (L : List Us), iv = .int .i64 k ∧ k ≤ l.length ∧ Sorted L ∧ L.length ≤ 32 ∧ Hold wr [baseR p L, .blk q u.cells 30, .base w]) (fun i _ => l.length - (intOf i).toNat)
  case atStart => exact ⟨0, [], rfl, Nat.zero_le _, .nil, by decide, HC.out⟩
  case round =>
    obtain ⟨k, L, rfl, hk, hso, hL, hr⟩ := hrel
    have HSO := Lib.hid hso
    have HC := Lib.hid hr
    clear hso hr
    by_cases hlt : k < l.length
    · obtain ⟨bl, ol, rfl, _⟩ := HSL.out.addr (by rw [usC_length]; omega)
      have HCE := Lib.hid (usC_cells HSL.out (HC.out.baseOf (w0 := w) (by simp)) k hlt)
      obtain ⟨x, hx⟩ : ∃ x, x = l[k] := ⟨_, rfl⟩
      have HXN : Hid (x.name.size ≤ maxLen) := Lib.hid (HN.out x (by rw [hx]; exact List.getElem_mem hlt))
      rw [← hx] at HCE
      obtain ⟨g, hg⟩ : ∃ g, g = wr.heap.size := ⟨_, rfl⟩
      have HA := Lib.hid (HC.out.addBlkAt zsU 30 hg.symm)
      have HG := Lib.hid (HA.out.blkOf (p := g) (cs := zsU) (T := 30) (by simp))
      have HGE := Lib.hid hg
      clear hx hg
      go_wp2_with (first | ((with_reducible show wpList _ _ _ (⟨some 31, _, _, _, _, _⟩ :: _) _ _); refine wpList_ldAgg rfl (.tmp 30) aggUs rfl rfl (cs := x.cells) x.cells_length HCE.out ?_) | ((with_reducible show wpList _ _ _ (⟨none, .store _ (.tmp 7) (.tmp 31), _, _, _, _⟩ :: _) _ _); rw [← HGE.out]; refine wpList_stAgg rfl (.tmp 7) (.tmp 31) aggUs rfl rfl (vs := x.cells) rfl x.cells_length HG.out (Nat.le_refl _) x.cells_one ?_))
      intro w3 h3 k3
      have h3' : Blk w3 g x.cells 30 := by simpa [zsU] using h3
      have HC3 := Lib.hid (HA.out.blkTurn h3' k3)
      have HG3 := Lib.hid h3'
      have c0 := h3'.cell 0
      rw [x.c0] at c0
      clear h3 h3' k3 HA HG HC
      by_cases h60 : x.name.size ≤ 60
      · have h60' : ((x.name.size : Nat) : Int) ≤ 60 := by omega
        have HADD := Lib.hid (add_any p L x _ w3 (HC3.out.front (m := [_, _, _, _]) (l := []) [1, 0, 2, 3] 4 (by decide)) HSO.out hL HXN.out)
        go_wp2_with ((with_reducible show wpList _ _ _ (⟨some 37, _, _, _, _, _⟩ :: _) _ _); refine wpList_ldAgg rfl (.tmp 7) aggUs rfl rfl (cs := x.cells) x.cells_length HG3.out.cellsAll ?_)
        refine HADD.out.mono ?_
        rintro e w4 ⟨rfl, hc⟩
        have HC4 := Lib.hid (hc.swap.tail)
        clear hc HADD
        go_wp2_with fail
        go_roundw
        case rel => exact ⟨k + 1, (addU L x).1, by go_num, by omega, (addU_ok HSO.out hL).1, (addU_ok HSO.out hL).2, HC4.out⟩
        case measure => simp [intOf]; omega
      · have h60' : ¬ ((x.name.size : Nat) : Int) ≤ 60 := by omega
        go_wp2_with fail
        go_roundw
        case rel => exact ⟨k + 1, L, by go_num, by omega, HSO.out, hL, HC3.out.tail⟩
        case measure => simp [intOf]; omega
    · obtain rfl : k = l.length := by omega
      have HNM := Lib.hid (names_any p L _ _ HC.out (by omega))
      clear HC
      go_wp2_with fail
      refine HNM.out.mono ?_
      rintro e w3 ⟨v0, rfl, hc⟩
      obtain ⟨a0, c0, rfl, hc0, hm0⟩ := (hc.ownOf (List.mem_cons_self)).1.sl.form
      have HC := Lib.hid hc.swap
      have HBQ := Lib.hid (hc.blkOf (p := q) (cs := u.cells) (T := 30) (by simp))
      clear hc HNM
      have HADD := Lib.hid (add_any p L u _ w3 HC.out HSO.out hL HU.out)
      clear HC
      go_wp2_with ((with_reducible show wpList _ _ _ (⟨some 43, _, _, _, _, _⟩ :: _) _ _); refine wpList_ldAgg rfl (.tmp 3) aggUs rfl rfl (cs := u.cells) u.cells_length HBQ.out.cellsAll ?_)
      refine HADD.out.mono ?_
      rintro e w4 ⟨rfl, hc⟩
      have HC := Lib.hid hc
      clear hc HADD HBQ
      obtain ⟨er, her⟩ : ∃ er, er = (addU L u).2 := ⟨_, rfl⟩
      rw [← her]
      have HER := Lib.hid her
      clear her
      go_upto_if 45 with fail
      go_cut [4] from 14 (fun _ wx => Hold wx [baseR p L, .own 9 1 (.slice a0 L.length c0) L.length (nmC L), .blk q u.cells 30, .base w])
      case first =>
        by_cases h0 : er = 0
        · subst h0
          obtain ⟨hno, hin, h32⟩ := addU_done HER.out.symm
          have hle : (insU L u).length ≤ 1000 := by rw [insU_length]; omega
          have hc := HC.out
          rw [hin] at hc
          have HNM := Lib.hid (names_any p (insU L u) _ _ hc hle)
          have HNO := Lib.hid hno
          have H32 := Lib.hid h32
          have hlen : (insU L u).length = L.length + 1 := insU_length L u
          have HLEN := Lib.hid hlen
          clear hc HC hno hin h32 hle hlen
          go_wp2_with fail
          refine HNM.out.mono ?_
          rintro e w5 ⟨v1, rfl, hc⟩
          obtain ⟨a1, c1, rfl, hc1, hm1⟩ := (hc.ownOf (List.mem_cons_self)).1.sl.form
          have HC := Lib.hid hc.tail
          rw [HLEN.out]
          have hbq := HC.out.blkOf (p := q) (cs := u.cells) (T := 30) (by simp)
          have d0 := hbq.cell 0
          rw [u.c0] at d0
          have hdr := drop_any p (insU L u) u.name _ _ HC.out (insU_sorted HSO.out HNO.out) (by rw [HLEN.out]; have := H32.out; omega)
          rw [dropU_back HSO.out HNO.out] at hdr
          have HDR := Lib.hid hdr
          clear hc HNM hbq hdr hc1 hm1
          go_wp2_with fail
          refine HDR.out.mono ?_
          rintro e w6 ⟨rfl, hc⟩
          have HC := Lib.hid hc
          clear hc HDR
          go_wp2_with fail
          go_meet
          exact HC.out
        · have hk := addU_kept (by rw [← HER.out]; exact h0)
          have h0' : (er == 0) = false := by simpa using h0
          have hc := HC.out
          rw [hk] at hc
          have HC := Lib.hid hc
          clear h0 hk hc
          go_wp2_with fail
          go_meet
          exact HC.out
      case rest =>
        have HC := Lib.hid hcut
        have HNM := Lib.hid (names_any p L _ _ hcut (by omega))
        clear hcut HER
        go_wp2_with fail
        refine HNM.out.mono ?_
        rintro e w5 ⟨v1, rfl, hc⟩
        obtain ⟨a1, c1, rfl, hc1, hm1⟩ := (hc.ownOf (List.mem_cons_self)).1.sl.form
        have HC := Lib.hid (hc.front (m := [_, _, _, _, _]) (l := []) [1, 0, 2, 3, 4] 5 (by decide))
        clear hc HNM
        go_wp2_with fail
        go_loopw [69] (fun iv wr => ∃ (k : Nat), iv = .int .i64 k ∧ k ≤ L.length ∧ Hold wr [baseR p L, .own 9 1 (.slice a1 L.length c1) L.length (nmC L), .own 9 1 (.slice a0 L.length c0) L.length (nmC L), .blk q u.cells 30, .base w]) (fun i _ => L.length - (intOf i).toNat)
        case atStart => exact ⟨0, rfl, Nat.zero_le _, HC.out⟩
        case round =>
          obtain ⟨k, rfl, hk, hr⟩ := hrel
          have HC := Lib.hid hr
          clear hr
          by_cases hlt : k < L.length
          · obtain ⟨b1, o1, ha1, hc1'⟩ := own_cell (L := L) (a := a1) (c := c1) HC.out (by simp) (by omega)
            obtain ⟨b0, o0, ha0, hc0'⟩ := own_cell (L := L) (a := a0) (c := c0) HC.out (by simp) (by omega)
            subst ha1 ha0
            have e1 := hc1' k hlt
            have hge := get_any p L L[k].name _ _ HC.out HSO.out hL
            rw [(getU_at HSO.out hlt).1, (getU_at HSO.out hlt).2] at hge
            have HGE := Lib.hid hge
            obtain ⟨x, hx⟩ : ∃ x, x = L[k] := ⟨_, rfl⟩
            rw [← hx] at HGE e1
            have HX := Lib.hid hx
            clear hge hc1' hc0' hx
            go_wp2_with fail
            refine HGE.out.mono ?_
            rintro e w6 ⟨rfl, hb⟩
            have HC6 := Lib.hid (HC.out.step hb)
            obtain ⟨g, hg⟩ : ∃ g, g = w6.heap.size := ⟨_, rfl⟩
            have HA := Lib.hid (HC6.out.addBlkAt zsU 30 hg.symm)
            have HG := Lib.hid (HA.out.blkOf (p := g) (cs := zsU) (T := 30) (by simp))
            have HGQ := Lib.hid hg
            clear hb HGE HC HC6 hg e1
            go_wp2_with ((with_reducible show wpList _ _ _ (⟨none, .store _ (.tmp 12) (.tmp 78), _, _, _, _⟩ :: _) _ _); rw [← HGQ.out]; refine wpList_stAgg rfl (.tmp 12) (.tmp 78) aggUs rfl rfl (vs := x.cells) rfl x.cells_length HG.out (Nat.le_refl _) x.cells_one ?_)
            intro w7 h7 k7
            have h7' : Blk w7 g x.cells 30 := by simpa [zsU] using h7
            have HC7 := Lib.hid (HA.out.blkTurn h7' k7)
            have g0 := h7'.cell 0
            rw [x.c0] at g0
            obtain ⟨b1', o1', ha1, hc1'⟩ := own_cell (L := L) (a := some ⟨b1, o1, none⟩) (c := c1) HC7.out (by simp) (by omega)
            obtain ⟨b0', o0', ha0, hc0'⟩ := own_cell (L := L) (a := some ⟨b0, o0, none⟩) (c := c0) HC7.out (by simp) (by omega)
            simp only [Option.some.injEq, Addr.mk.injEq, and_true] at ha1 ha0
            obtain ⟨rfl, rfl⟩ := ha1
            obtain ⟨rfl, rfl⟩ := ha0
            have e0 := hc0' k hlt
            rw [← HX.out] at e0
            have hki : (k : Int) < L.length := by omega
            have HN7 := Lib.hid HC7.out.tail
            by_cases hk0 : k = 0
            · have hk0' : ¬ (0 : Int) < (k : Int) := by omega
              clear hk0
              clear h7 h7' k7 HA HG HC7 hc1' hc0'
              go_wp2_with fail
              go_roundw
              case rel => exact ⟨k + 1, by go_num, by omega, HN7.out⟩
              case measure => simp [intOf]; omega
            · obtain ⟨j, rfl⟩ : ∃ j, k = j + 1 := ⟨k - 1, by omega⟩
              have e2 := hc1' j (by omega)
              have hless := less_at HSO.out hlt
              rw [← HX.out] at hless
              obtain ⟨y, hy⟩ : ∃ y, y = L[j].name := ⟨_, rfl⟩
              rw [← hy] at e2 hless
              have HLESS : Hid ((!Op.bytesLess y.toList x.name.toList) = false) := Lib.hid (by rw [hless]; rfl)
              clear h7 h7' k7 HA HG HC7 hc1' hc0' hy hless
              go_wp2_with ((with_reducible show wpList _ _ _ (⟨some 96, _, _, _, _, _⟩ :: _) _ _); refine wpList_geqS rfl (.tmp 94) (.tmp 95) rfl rfl rfl HLESS.out ?_)
              go_roundw
              case rel => exact ⟨j + 2, by go_num, by omega, HN7.out⟩
              case measure => simp [intOf]; omega
          · obtain rfl : k = L.length := by omega
            have HB := Lib.hid (HC.out.baseOf (w0 := w) (by simp))
            go_wp2_with fail
            go_ret
            exact ⟨rfl, HB.out⟩

set_option maxRecDepth 100000 in
set_option maxHeartbeats 4000000 in
theorem back_walk (v : Value) (l : List Us) (u : Us) (w : World) (h : Sl w 20 v l.length (usC l)) (hn : ∀ x ∈ l, x.name.size ≤ maxLen) (hu : u.name.size ≤ maxLen) :
    Calls Try.prog 5 #[v, .agg u.cells.toArray] w fun e w' => e = .returned (.bool true) ∧ Below w.heap.size w w' := by
  by_cases hsm : l.length ≤ 40 ∧ u.name.size ≤ 60
  · exact back_go v l u w h hn hu hsm.1 hsm.2
  · obtain ⟨al, cl, rfl, hcl, hml⟩ := h.form
    unfold maxLen at hml hu
    obtain ⟨q, hq⟩ : ∃ q, q = w.heap.size := ⟨_, rfl⟩
    have HC := Lib.hid ((Hold.start w).addBlkAt u.cells 30 hq.symm)
    have HQ := Lib.hid hq
    have ho : (40 : Int) < l.length ∨ ¬ (40 : Int) < l.length ∧ (60 : Int) < u.name.size := by omega
    clear h hn hq hsm
    rcases ho with ho | ⟨ho, ho2⟩
    all_goals
      go_enter Try.func5, Try.ntmps5
      go_wp2_with fail
      rw [← HQ.out]
      refine (alive13_any _).mono ?_
      rintro e w1 ⟨rfl, hb⟩
      have HC := Lib.hid (HC.out.step hb)
      have hbq := HC.out.blkOf (p := q) (cs := u.cells) (T := 30) (by simp)
      have c0 := hbq.cell 0
      rw [u.c0] at c0
      have HB := Lib.hid (HC.out.baseOf (w0 := w) (by simp))
      clear hb hbq HC
      go_wp2_with fail
      go_ret
      exact ⟨rfl, HB.out⟩
end Go.Proofs.Ytclonbojpcgngaa
