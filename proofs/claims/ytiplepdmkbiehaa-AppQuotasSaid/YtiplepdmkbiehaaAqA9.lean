/- The law AppQuotas returns true for all titles, sizes and numbers: no conditions. -/
import Derived.Test.YtiplepdmkbiehaaAqA8
import Derived.Lib.SlBytesConst
import Derived.Deep.LoopGhost
import Derived.BigQuiet
import Derived.Laws.Cover4
import Derived.Lib.MapLaws
import Derived.Lib.TrimUEq
import Derived.Lib.QuoteLoop
import Derived.Stop.FmtQuoteTie
namespace Go.Proofs.Ytiplepdmkbiehaa
set_option linter.unusedSimpArgs false
set_option linter.unusedVariables false
open Go.RowKit Go.Maps Go.MapKept Go.WideMaps
/-- A side of which the law keeps nothing. -/
def memS (E : EndW) : SideF := ⟨E, [], [], [], []⟩
abbrev PairS := Sums × SideF × SideF
def mvS (s : PairS) : PairS := ((moveW s.1 s.2.1 s.2.2).1, (moveW s.1 s.2.1 s.2.2).2.1, (moveW s.1 s.2.1 s.2.2).2.2.1)
theorem moveW_mem (t : Sums) (x y : SideF) : moveW t (memS x.app) (memS y.app) = ((moveW t x y).1, memS (moveW t x y).2.1.app, memS (moveW t x y).2.2.1.app, (moveW t x y).2.2.2) := by
  unfold moveW memS
  simp only
  split <;> rfl
theorem Ok.mvS {n p : Nat} {s : PairS} (h : Ok n p s.1 s.2.1 s.2.2) (hn : n ≤ 1000000) : Ok (n + 2) p (mvS s).1 (mvS s).2.1 (mvS s).2.2 := by
  rcases (h.move hn).2.1 with ⟨_, _, h2⟩ | ⟨h2, _, _⟩
  · exact h2.mono (Nat.le_refl _) (by omega)
  · unfold Go.Proofs.Ytiplepdmkbiehaa.mvS
    rw [h2]
    exact h.mono (by omega) (Nat.le_refl _)
def hiB : ByteArray := ⟨#[104, 105]⟩
def fB : ByteArray := ⟨#[102]⟩
def abcL : List UInt8 := [97, 98, 99]
def alS : Nat → PairS
  | 0 => ((offerS [] (chatS SideF.nil hiB) fB abcL).1, (offerS [] (chatS SideF.nil hiB) fB abcL).2, SideF.nil)
  | j + 1 => mvS (alS j)
theorem alS_ok : ∀ j, j ≤ 1000 → Ok (4 + 2 * j) 130 (alS j).1 (alS j).2.1 (alS j).2.2
  | 0, _ => (Ok.nil.chat (s := hiB) (by decide)).offer (s := fB) (b := abcL) (by decide) (by decide)
  | j + 1, h => (alS_ok j (by omega)).mvS (by omega)
theorem al_b0 : (moveW (alS 0).1 (alS 0).2.1 (alS 0).2.2).2.2.2 = true := by decide +kernel
theorem al_b1 : (moveW (alS 1).1 (alS 1).2.1 (alS 1).2.2).2.2.2 = true := by decide +kernel
theorem al_b2 : (moveW (alS 2).1 (alS 2).2.1 (alS 2).2.2).2.2.2 = false := by decide +kernel
theorem al_log : (alS 2).2.2.app.log = [⟨0, 0, hiB, []⟩, ⟨1, 1, fB, []⟩] := by kernel_rfl
theorem al_no : hasV (alS 2).2.2.app.ins 2 = false := by decide +kernel
theorem al_waits : waitsB (alS 2).2.1.app.app = false := by decide +kernel
theorem al_chat : chatW EndW.nil hiB = ((chatS SideF.nil hiB).app, 0) := by kernel_rfl
theorem al_offer : offerW [] (chatS SideF.nil hiB).app fB abcL = ((alS 0).1, (alS 0).2.1.app, 1, 0) := by kernel_rfl
theorem answerA_no (t : Sums) (A : AppF) (id : Int) (yes : Bool) (h : hasV A.ins id = false) : answerA t A id yes = (t, A, 9) := by rw [answerA, if_pos h]
set_option maxRecDepth 100000 in
set_option maxHeartbeats 8000000 in
theorem alive22_any (w : World) : Calls Try.prog 6 #[] w fun e w' => e = .returned (.bool true) ∧ Below w.heap.size w w' := by
  have kc := fun (w : World) (C : Array Value) (n c : Nat) => Lib.run_convert_bytes_const (P := Try.prog) w 40 5 C n c Try.underlying40 Try.underlying5
  have HB := hI (Hold.start w)
  go_enter Try.func6, Try.ntmps6
  go_wp2_with fail
  refine (open_any _ _ HB.out).mono ?_
  rintro e w1 ⟨p, q, mp, rfl, hc⟩
  obtain ⟨z, u, hc⟩ := pairR_two hc
  obtain ⟨ze, zP, zs, zh, zf, zo⟩ := z
  obtain ⟨ue, uP, us, uh, uf, uo⟩ := u
  have hb := restR_blk (p := p) (z := ⟨ze, zP, zs, zh, zf, zo⟩) (u := ⟨ue, uP, us, uh, uf, uo⟩) (x := SideF.nil) (y := SideF.nil) hc (by simp)
  have c0 : w1.cell? ⟨p, 0, none⟩ = some (.pointer (some ⟨ze, 0, none⟩)) := hb.cell 0
  have c1 : w1.cell? ⟨p, 1, none⟩ = some (.pointer (some ⟨ue, 0, none⟩)) := hb.cell 1
  have HCH := hI (appChat_any ze q zP EndW.nil.app hiB _ w1 hc (by decide) (by decide))
  rw [chatW_eq, al_chat] at HCH
  clear hc hb HB
  go_wp2_with fail
  refine HCH.out.mono ?_
  rintro e w2 ⟨rfl, hc⟩
  have hb := restR_blk (p := p) (z := ⟨ze, zP, zs, zh, zf, zo⟩) (u := ⟨ue, uP, us, uh, uf, uo⟩) (x := SideF.nil) (y := SideF.nil) hc (by simp)
  have c0 : w2.cell? ⟨p, 0, none⟩ = some (.pointer (some ⟨ze, 0, none⟩)) := hb.cell 0
  have hbs : Bs (w2.alloc (.cells #[.int .u8 97, .int .u8 98, .int .u8 99] 5 (3, 4))) (.slice (some ⟨w2.heap.size, 0, none⟩) 3 3) abcL := Bs.litM abcL rfl rfl (by simp [abcL, maxLen])
  have h3 := hc.addRow ((Below.refl w2.heap.size w2).alloc (Nat.le_refl _) _) hbs (fun k _ hk => by simp [Value.ownBlock] at hk; omega)
  have HOF := hI (appOffer_any ze q zP (.slice none 0 0) (.slice none 0 0) mp [] (chatS SideF.nil hiB).app.app fB (.slice (some ⟨w2.heap.size, 0, none⟩) 3 3) abcL _ _ h3.pull4.pull3 (fun W h => h.row0) (by decide) (by decide +kernel) (by decide +kernel) (by decide +kernel) (by decide +kernel) (by decide) (by decide +kernel) (by decide +kernel))
  rw [offerW_eq, al_offer] at HOF
  clear hc hb h3 hbs HCH c1
  go_wp2_with fail
  refine HOF.out.mono ?_
  rintro e w3 ⟨rfl, P', hc⟩
  have h4 := hc.front (m := [_, _, _, _, _]) (l := [.base w]) [0, 3, 1, 4, 2] 5 (by decide)
  have h5 : Hold w3 (pairR p q mp (alS 0).1 (memS (alS 0).2.1.app) (memS (alS 0).2.2.app) :: .row (.slice (some ⟨w2.heap.size, 0, none⟩) 3 3) abcL :: [.base w]) := pairR_back (x := SideF.nil) (y := SideF.nil) (E := (alS 0).2.1.app) (G := EndW.nil) (z := ⟨ze, zP, zs, zh, zf, zo⟩) (u := ⟨ue, uP, us, uh, uf, uo⟩) (P1 := P') (P2 := uP) h4
  have HC := hI h5.swap.tail
  clear hc h4 h5 HOF c0
  go_wp2_with fail
  go_loopg [] 2 (fun k wr => ∃ j, j + k = 2 ∧ Hold wr (pairR p q mp (alS j).1 (memS (alS j).2.1.app) (memS (alS j).2.2.app) :: [.base w]))
  case atStart => exact ⟨0, rfl, HC.out⟩
  case round =>
    obtain ⟨j, hj, hr⟩ := hrel
    have hm := (alS_ok j (by omega)).mv (by omega)
    have HM := hI (move0_any p q mp (alS j).1 (memS (alS j).2.1.app) (memS (alS j).2.2.app) _ wr hr hm)
    rw [moveW_mem] at HM
    clear hr hm HC
    have hj3 : j = 0 ∨ j = 1 ∨ j = 2 := by omega
    rcases hj3 with rfl | rfl | rfl
    · rw [al_b0] at HM
      obtain rfl : gk = 2 := by omega
      clear hj
      go_wp2_with fail
      refine HM.out.mono ?_
      rintro e w5 ⟨rfl, hc⟩
      have HC5 := hI hc
      clear hc HM
      go_wp2_with fail
      go_roundg 1
      case measure => decide
      case rel => exact ⟨1, rfl, HC5.out⟩
    · rw [al_b1] at HM
      obtain rfl : gk = 1 := by omega
      clear hj
      go_wp2_with fail
      refine HM.out.mono ?_
      rintro e w5 ⟨rfl, hc⟩
      have HC5 := hI hc
      clear hc HM
      go_wp2_with fail
      go_roundg 0
      case measure => decide
      case rel => exact ⟨2, rfl, HC5.out⟩
    · rw [al_b2] at HM
      clear hj
      go_wp2_with fail
      refine HM.out.mono ?_
      rintro e w5 ⟨rfl, hc⟩
      have he : moveW (alS 2).1 (alS 2).2.1 (alS 2).2.2 = ((alS 2).1, (alS 2).2.1, (alS 2).2.2, false) := by
        rcases ((alS_ok 2 (by decide)).move (by decide)).2.1 with ⟨e, _⟩ | ⟨e, _⟩
        · rw [al_b2] at e
          simp at e
        · exact e
      rw [he] at hc
      obtain ⟨z2, u2, hc⟩ := pairR_two hc
      obtain ⟨ze2, zP2, zs2, zh2, zf2, zo2⟩ := z2
      obtain ⟨ue2, uP2, us2, uh2, uf2, uo2⟩ := u2
      have hb := restR_blk (p := p) (z := ⟨ze2, zP2, zs2, zh2, zf2, zo2⟩) (u := ⟨ue2, uP2, us2, uh2, uf2, uo2⟩) (x := memS (alS 2).2.1.app) (y := memS (alS 2).2.2.app) hc (by simp)
      have c1 : w5.cell? ⟨p, 1, none⟩ = some (.pointer (some ⟨ue2, 0, none⟩)) := hb.cell 1
      have HEV := hI (appEvents_any ue2 q uP2 (alS 2).2.2.app.app _ w5 hc.swap)
      clear hc hb HM he
      go_wp2_with ((with_reducible show Calls _ _ #[_] _ _); refine HEV.out.mono ?_)
      rintro e w6 ⟨v, rfl, hc⟩
      have hlg : (alS 2).2.2.app.app.log = [⟨0, 0, hiB, []⟩, ⟨1, 1, fB, []⟩] := al_log
      rw [hlg] at hc
      obtain ⟨ds, h7⟩ := logR_open hc.swap
      have hds : ds.length = 2 := by simpa using sumsR_len h7.tail
      obtain ⟨d0, d1, rfl⟩ : ∃ d0 d1, ds = [d0, d1] := by
        match ds, hds with
        | [d0, d1], _ => exact ⟨d0, d1, rfl⟩
      obtain ⟨la, lc, hvf, hlc, hlm⟩ := h7.own0.1.sl.form
      subst hvf
      obtain ⟨bl, ol, hal, hcell⟩ := h7.own0.1.sl.addr (by simp [logCells, evCells])
      subst hal
      have e0 := hcell 0 (.int .i64 0) rfl
      have e2 := hcell 2 (.string hiB) rfl
      have e4 := hcell 4 (.int .i64 1) rfl
      have e5 := hcell 5 (.int .i64 1) rfl
      have e6 := hcell 6 (.string fB) rfl
      rw [Nat.add_zero] at e0
      unfold hiB at e2
      unfold fB at e6
      -- own, sums, app u, app z, tab, rest, base
      have hb := restR_blk (p := p) (z := ⟨ze2, zP2, zs2, zh2, zf2, zo2⟩) (u := ⟨ue2, uP2, us2, uh2, uf2, uo2⟩) (x := memS (alS 2).2.1.app) (y := memS (alS 2).2.2.app) hc (by simp)
      have c1 : w6.cell? ⟨p, 1, none⟩ = some (.pointer (some ⟨ue2, 0, none⟩)) := hb.cell 1
      have h8 := hc.front (m := [_, _, _, _, _]) (l := [.base w]) [0, 3, 1, 2, 4] 5 (by decide)
      have hno := answerA_no (alS 2).1 { (alS 2).2.2.app.app with log := [] } 2 true al_no
      have HAN := hI (appAnswer_any ue2 q uP2 (.slice none 0 0) (.slice none 0 0) mp (alS 2).1 { (alS 2).2.2.app.app with log := [] } 2 true _ w6 h8 (by decide) (fun hk => (Bool.false_ne_true (al_no.symm.trans hk)).elim) (by decide +kernel) (by decide) (by decide +kernel))
      rw [hno] at HAN
      clear hc h7 h8 hno hb hcell HEV hlg
      go_wp2_with ((with_reducible show Calls _ _ #[_, _, _] _ _); refine HAN.out.mono ?_)
      rintro e w7 ⟨rfl, hc⟩
      have h9 := hc.front (m := [_, _, _, _, _]) (l := [.base w]) [3, 0, 1, 2, 4] 5 (by decide)
      have hb := restR_blk (p := p) (z := ⟨ze2, zP2, zs2, zh2, zf2, zo2⟩) (u := ⟨ue2, uP2, us2, uh2, uf2, uo2⟩) (x := memS (alS 2).2.1.app) (y := memS (alS 2).2.2.app) hc (by simp)
      have c0 : w7.cell? ⟨p, 0, none⟩ = some (.pointer (some ⟨ze2, 0, none⟩)) := hb.cell 0
      have HWT := hI (appWaits_any ze2 q zP2 (alS 2).2.1.app.app _ w7 h9)
      rw [al_waits] at HWT
      clear hc h9 hb HAN
      go_wp2_with ((with_reducible show Calls _ _ #[_] _ _); refine HWT.out.mono ?_)
      rintro e w8 ⟨rfl, hc⟩
      have HB8 := hI (hc.baseOf (w0 := w) (by simp))
      clear hc HWT
      go_wp2_with fail
      go_ret
      exact ⟨rfl, HB8.out⟩
theorem lookE_over (X : SideF) (v : EvF) : (lookE X v).over.length ≤ X.over.length + 1 := by
  unfold lookE
  split
  · exact Nat.le_succ _
  · split
    · exact putV_length _ _ _
    · exact Nat.le_succ _
theorem lookL_over : ∀ (vs : List EvF) (X : SideF), (lookL X vs).over.length ≤ X.over.length + vs.length
  | [], X => Nat.le_refl _
  | v :: vs, X => by
    have h1 := lookL_over vs (lookE X v)
    have h2 := lookE_over X v
    show (lookL (lookE X v) vs).over.length ≤ _
    rw [List.length_cons]
    omega
end Go.Proofs.Ytiplepdmkbiehaa
namespace Go.Proofs.Ytiplepdmkbiehaa
set_option linter.unusedSimpArgs false
set_option linter.unusedVariables false
open Go.RowKit
theorem Ok.step {n p : Nat} {t : Sums} {x y : SideF} (h : Ok n p t x y) (hn : n ≤ 1000000) (s : StF) (hs : s.text.size ≤ 400) :
    Ok (n + 2) (p + 65) (stepS t x y s).1 (stepS t x y s).2.1 (stepS t x y s).2.2 ∧ ((stepS t x y s).2.1.app.log = x.app.log ∨ (stepS t x y s).2.2 = y) ∧ (stepS t x y s).2.1.said.length ≤ x.said.length + 1 ∧ (stepS t x y s).2.2.said = y.said ∧
    (stepS t x y s).2.1.over = x.over ∧ (stepS t x y s).2.2.over = y.over := by
  unfold stepS
  by_cases h0 : s.kind = 0
  · rw [if_pos h0]
    refine ⟨h.chat (by omega), .inr rfl, ?_, rfl, rfl, rfl⟩
    rcases chatS_cases x s.text with e | ⟨_, e⟩ <;> simp [e]
  · rw [if_neg h0]
    by_cases h1 : s.kind = 1
    · rw [if_pos h1]
      exact ⟨h.offer (by omega) hn, .inr rfl, Nat.le_succ _, rfl, rfl, rfl⟩
    · rw [if_neg h1]
      by_cases h2 : s.kind = 2 ∨ s.kind = 3
      · rw [if_pos h2]
        exact ⟨(h.answer _ _ hn).1, .inr rfl, Nat.le_succ _, rfl, rfl, rfl⟩
      · rw [if_neg h2]
        by_cases h3 : s.kind = 4 ∨ s.kind = 5
        · rw [if_pos h3]
          exact ⟨h.cancel _ _ hn, .inr rfl, Nat.le_succ _, rfl, rfl, rfl⟩
        · rw [if_neg h3]
          obtain ⟨-, hm, e1, e2, e3⟩ := h.move hn
          have hsd : (moveW t x y).2.1.said = x.said ∧ (moveW t x y).2.2.1.said = y.said := by
            unfold moveW
            split <;> exact ⟨rfl, rfl⟩
          refine ⟨?_, .inl e1, by show (moveW t x y).2.1.said.length ≤ _; rw [hsd.1]; exact Nat.le_succ _, hsd.2, e2, e3⟩
          rcases hm with ⟨_, _, hm⟩ | ⟨hm, _, _⟩
          · exact hm.mono (Nat.le_refl _) (by omega)
          · rw [hm]
            exact h.mono (by omega) (by omega)
/-- Both ends, between steps. -/
structure StI (n p S M : Nat) (t : Sums) (x y : SideF) : Prop where
  ok : Ok n p t x y
  lx : x.app.log = []
  ly : y.app.log = []
  sx : x.said.length ≤ S
  sy : y.said.length ≤ S
  ox : x.over.length ≤ M
  oy : y.over.length ≤ M
theorem StI.nil : StI 0 0 0 0 [] SideF.nil SideF.nil := ⟨Ok.nil, rfl, rfl, Nat.le_refl _, Nat.le_refl _, Nat.le_refl _, Nat.le_refl _⟩
theorem StI.symm {n p S M : Nat} {t : Sums} {x y : SideF} (h : StI n p S M t x y) : StI n p S M t y x := ⟨h.ok.symm, h.ly, h.lx, h.sy, h.sx, h.oy, h.ox⟩
theorem StI.mono {n p S M n' p' S' M' : Nat} {t : Sums} {x y : SideF} (h : StI n p S M t x y) (h1 : n ≤ n') (h2 : p ≤ p') (h3 : S ≤ S') (h4 : M ≤ M') : StI n' p' S' M' t x y :=
  ⟨h.ok.mono h1 h2, h.lx, h.ly, Nat.le_trans h.sx h3, Nat.le_trans h.sy h3, Nat.le_trans h.ox h4, Nat.le_trans h.oy h4⟩
theorem StI.heard {n p S M : Nat} {t : Sums} {x y : SideF} (h : StI n p S M t x y) : x.hear <+: y.said ∧ y.hear <+: x.said := ⟨h.ok.symm.heard h.lx, h.ok.heard h.ly⟩
theorem lookW_said (x : SideF) : (lookW x).said = x.said := by
  have : ∀ (vs : List EvF) (z : SideF), (lookL z vs).said = z.said := by
    intro vs
    induction vs with
    | nil => intro z; rfl
    | cons v vs ih =>
      intro z
      show (lookL (lookE z v) vs).said = _
      rw [ih]
      unfold lookE
      split
      · rfl
      · split <;> rfl
  exact this _ _
theorem lookW_over (x : SideF) : (lookW x).over.length ≤ x.over.length + x.app.log.length := lookL_over _ _
/-- Behind a step, and a look at both: y's first. -/
structure Looked (n p S M : Nat) (t : Sums) (x y : SideF) : Prop where
  ok : Ok n p t x y
  hx : x.hear.length ≤ 1000000
  hy : y.hear.length ≤ 1000000
  ox : x.over.length ≤ 549755813888
  oy : y.over.length ≤ 549755813888
  ly : lookOks x (bare y) y.app.log
  lx : lookOks (lookW y) (bare x) x.app.log
  okm : Ok n p t x (lookW y)
  nxt : StI n p S (M + n) t (lookW x) (lookW y)
theorem Ok.hears {n p : Nat} {t : Sums} {x y : SideF} (h : Ok n p t x y) : y.hear.length ≤ x.said.length := by
  rw [h.both.a.texts]
  simp
theorem looked {n p S M : Nat} {t : Sums} {x y : SideF} (h : Ok n p t x y) (hS : S ≤ 1000000) (hM : M ≤ 549755813888) (Sn : Seen y x) (sx : x.said.length ≤ S) (sy : y.said.length ≤ S) (ox : x.over.length ≤ M) (oy : y.over.length ≤ M) : Looked n p S M t x y := by
  obtain ⟨h1, h2, h3, h4, h5⟩ := h.looks Sn
  obtain ⟨-, h6, -⟩ := h.look Sn
  have a1 := h.hears
  have a2 := h.symm.hears
  have b1 := h.bx.log
  have b2 := h.bY.log
  have c1 := lookW_over x
  have c2 := lookW_over y
  refine ⟨h, by omega, by omega, by omega, by omega, h1, h2, h6, ⟨h3, h4, h5, ?_, ?_, ?_, ?_⟩⟩
  · rw [lookW_said]; omega
  · rw [lookW_said]; omega
  · omega
  · omega
theorem StI.step {n p S M : Nat} {t : Sums} {x y : SideF} (h : StI n p S M t x y) (hn : n ≤ 1000000) (hS : S < 1000000) (hM : M ≤ 549755813888) (s : StF) (hs : s.text.size ≤ 400) :
    Looked (n + 2) (p + 65) (S + 1) M (stepS t x y s).1 (stepS t x y s).2.1 (stepS t x y s).2.2 ∧ Looked (n + 2) (p + 65) (S + 1) M (stepS t x y s).1 (stepS t x y s).2.2 (stepS t x y s).2.1 := by
  obtain ⟨h1, h2, h3, h4, h5, h6⟩ := h.ok.step hn s hs
  have sx := h.sx
  have sy := h.sy
  have ox := h.ox
  have oy := h.oy
  have hl : (stepS t x y s).2.1.app.log = [] ∨ (stepS t x y s).2.2.app.log = [] := by
    rcases h2 with e | e
    · exact .inl (by rw [e]; exact h.lx)
    · exact .inr (by rw [e]; exact h.ly)
  constructor
  · refine looked h1 (by omega) hM ?_ (by omega) (by rw [h4]; omega) (by rw [h5]; omega) (by rw [h6]; omega)
    rcases hl with e | e
    · exact h1.seen e
    · exact Seen.nil e
  · refine looked h1.symm (by omega) hM ?_ (by rw [h4]; omega) (by omega) (by rw [h6]; omega) (by rw [h5]; omega)
    rcases hl with e | e
    · exact Seen.nil e
    · exact h1.symm.seen e
theorem moveW_said (t : Sums) (x y : SideF) : (moveW t x y).2.1.said = x.said ∧ (moveW t x y).2.2.1.said = y.said := by
  unfold moveW
  split <;> exact ⟨rfl, rfl⟩
/-- Each end says what it has to say next: x, then y. -/
theorem StI.round {n p S M : Nat} {t : Sums} {x y : SideF} (h : StI n p S M t x y) (hn : n + 4 ≤ 1000000) (hS : S ≤ 1000000) (hM : M ≤ 549755813888) {t1 t2 : Sums} {x1 y1 x2 y2 : SideF} {a b : Bool} (e1 : moveW t x y = (t1, x1, y1, a)) (e2 : moveW t1 y1 x1 = (t2, y2, x2, b)) :
    MvOk t x.app y.app ∧ MvOk t1 y1.app x1.app ∧ ((a = true ∨ b = true) ∧ 1 ≤ p ∧ Looked (n + 4) (p - 1) S M t2 x2 y2 ∨ a = false ∧ b = false ∧ t2 = t ∧ x2 = x ∧ y2 = y ∧ Looked (n + 4) p S M t x y ∧ Quiet x ∧ Quiet y) := by
  have sx := h.sx
  have sy := h.sy
  have ox := h.ox
  have oy := h.oy
  obtain ⟨-, m1, l1, v1, w1⟩ := h.ok.move (by omega)
  have d1 := moveW_said t x y
  rw [e1] at m1 l1 v1 w1 d1
  simp only at m1 l1 v1 w1 d1
  have o1 : Ok (n + 2) p t1 x1 y1 := by
    rcases m1 with ⟨_, _, m⟩ | ⟨m, _, _⟩
    · exact m.mono (Nat.le_refl _) (by omega)
    · simp only [Prod.mk.injEq] at m
      obtain ⟨rfl, rfl, rfl, _⟩ := m
      exact h.ok.mono (by omega) (Nat.le_refl _)
  refine ⟨h.ok.mv (by omega), o1.symm.mv (by omega), ?_⟩
  have S1 : Seen y1 x1 := o1.seen (by rw [l1]; exact h.lx)
  -- whatever p' is, behind the second move all is seen
  have key : ∀ p', Ok (n + 2) p' t1 x1 y1 → (b = true ∧ 1 ≤ p' ∧ Looked (n + 4) (p' - 1) S M t2 x2 y2) ∨ (b = false ∧ t2 = t1 ∧ x2 = x1 ∧ y2 = y1 ∧ Looked (n + 4) p' S M t1 x1 y1 ∧ Quiet y1) := by
    intro p' o
    obtain ⟨-, m2, l2, v2, w2⟩ := o.symm.move (by omega)
    have d2 := moveW_said t1 y1 x1
    rw [e2] at m2 l2 v2 w2 d2
    simp only at m2 l2 v2 w2 d2
    have S2 : Seen y2 x2 := fun v hv h4 => by
      rw [w2]
      exact S1 v (by rw [← l2]; exact hv) h4
    rcases m2 with ⟨hb, hp, m⟩ | ⟨m, q1, q2⟩
    · refine .inl ⟨hb, hp, looked m.symm hS hM S2 ?_ ?_ ?_ ?_⟩
      · rw [d2.2, d1.1]; exact sx
      · rw [d2.1, d1.2]; exact sy
      · rw [w2, v1]; exact ox
      · rw [v2, w1]; exact oy
    · simp only [Prod.mk.injEq] at m
      obtain ⟨rfl, rfl, rfl, rfl⟩ := m
      refine .inr ⟨rfl, rfl, rfl, rfl, looked (o.mono (by omega) (Nat.le_refl _)) hS hM S1 ?_ ?_ ?_ ?_, q1, q2⟩
      · rw [d1.1]; exact sx
      · rw [d1.2]; exact sy
      · rw [v1]; exact ox
      · rw [w1]; exact oy
  rcases m1 with ⟨ha, hp, m⟩ | ⟨m, q1, q2⟩
  · refine .inl ⟨.inl ha, hp, ?_⟩
    rcases key _ m with ⟨_, hp2, L⟩ | ⟨_, rfl, rfl, rfl, L, _⟩
    · obtain ⟨g1, g2, g3, g4, g5, g6, g7, g8, g9⟩ := L
      exact ⟨g1.mono (Nat.le_refl _) (by omega), g2, g3, g4, g5, g6, g7, g8.mono (Nat.le_refl _) (by omega), g9.mono (Nat.le_refl _) (by omega) (Nat.le_refl _) (Nat.le_refl _)⟩
    · exact L
  · simp only [Prod.mk.injEq] at m
    obtain ⟨rfl, rfl, rfl, rfl⟩ := m
    rcases key _ o1 with ⟨hb, hp2, L⟩ | ⟨hb, rfl, rfl, rfl, L, q3⟩
    · exact .inl ⟨.inr hb, hp2, L⟩
    · exact .inr ⟨rfl, hb, rfl, rfl, rfl, L, ⟨q1, q2⟩, q3⟩
theorem liveN_rep (k : Nat) : liveN (List.replicate k 0) = k := by
  unfold liveN
  rw [List.countP_replicate]
  simp [liveB]
/-- Words that offer files, one behind the other, behind m others. -/
def Offs : Nat → List Wd → Prop
  | _, [] => True
  | m, w :: ws => (∃ ti sz sm, w = .offer (m + 1) ti sz sm ∧ rightB (tx ti) = true) ∧ Offs (m + 1) ws
theorem Offs.snoc : ∀ {ws : List Wd} {m : Nat}, Offs m ws → ∀ {ti sm : List UInt8} {sz : Nat}, rightB (tx ti) = true → Offs m (ws ++ [.offer (m + ws.length + 1) ti sz sm])
  | [], m, _, ti, sm, sz, h => ⟨⟨ti, sz, sm, rfl, h⟩, trivial⟩
  | w :: ws, m, h, ti, sm, sz, hr => by
    refine ⟨h.1, ?_⟩
    have := h.2.snoc (ti := ti) (sm := sm) (sz := sz) hr
    rw [List.length_cons, show m + (ws.length + 1) + 1 = m + 1 + ws.length + 1 from by omega]
    exact this
/-- An end that has offered k files, of which nobody has heard. -/
structure Qk (k : Nat) (E : EndW) : Prop where
  st : E.outs.map (fun x => x.2.st) = List.replicate k 0
  id : E.id = k
  len : E.waits.length = k
  offs : Offs 0 E.waits
  st0 : ∀ j : Int, (getV E.outs j OutF.nil).st = 0
  keys : E.outs.map (·.1) = idKeys k
/-- .. and offers one more. -/
def addW (t : Sums) (E : EndW) (title : ByteArray) (b : List UInt8) : EndW :=
  ⟨E.id + 1, E.outs ++ [(((E.id + 1 : Nat) : Int), (⟨0, b, 0, 0⟩ : OutF))], E.ins, E.names ++ [(((E.id + 1 : Nat) : Int), title)], E.waits ++ [.offer (E.id + 1) title.data.toList b.length (digM t b)], E.log⟩
theorem offerW_add {t : Sums} {E : EndW} {title : ByteArray} {b : List UInt8} (h1 : rightB title = true) (h2 : b.length ≤ 2048) (h3 : liveN (E.outs.map fun x => x.2.st) ≠ 4) (h4 : E.waits.length < 16) : offerW t E title b = (digT t b, addW t E title b, ((E.id + 1 : Nat) : Int), 0) := by
  rw [offerW, if_neg (by simp [h1]), if_neg (by omega), if_neg h3, if_neg (by omega)]
  rfl
theorem offerW_full {t : Sums} {E : EndW} {title : ByteArray} {b : List UInt8} (h1 : rightB title = true) (h2 : b.length ≤ 2048) (h3 : liveN (E.outs.map fun x => x.2.st) = 4) : offerW t E title b = (t, E, 0, 19) := by
  rw [offerW, if_neg (by simp [h1]), if_neg (by omega), if_pos h3]
theorem Qk.nil : Qk 0 EndW.nil := ⟨rfl, rfl, rfl, trivial, fun _ => rfl, rfl⟩
theorem Qk.add {k : Nat} {E : EndW} {t : Sums} {title : ByteArray} {b : List UInt8} (h : Qk k E) (hr : rightB title = true) : Qk (k + 1) (addW t E title b) := by
  have hid := h.id
  refine ⟨?_, ?_, ?_, ?_, ?_, ?_⟩
  · show (E.outs ++ _).map _ = _
    rw [List.map_append, h.st, List.replicate_succ']
    rfl
  · show E.id + 1 = _
    rw [hid]
  · show (E.waits ++ _).length = _
    simp [h.len]
  · have := h.offs.snoc (ti := title.data.toList) (sm := digM t b) (sz := b.length) (by rw [tx_back]; exact hr)
    rw [Nat.zero_add, h.len, ← hid] at this
    exact this
  · intro j
    show (getV (E.outs ++ _) j OutF.nil).st = 0
    rw [getV_snoc _ _ _ _ (by rw [hid]; exact hasV_idsNext h.keys)]
    split
    · rfl
    · exact h.st0 j
  · show (E.outs ++ _).map _ = _
    rw [List.map_append, h.keys, idKeys_succ, hid]
    rfl
theorem Qk.live {k : Nat} {E : EndW} (h : Qk k E) : liveN (E.outs.map fun x => x.2.st) = k := by rw [h.st, liveN_rep]
/-- An end that has heard of j files of the other's, of which the rest wait. -/
structure Rj (j : Nat) (E F : EndW) : Prop where
  offs : Offs j E.waits
  len : E.waits.length + j = 4
  st0 : ∀ i : Int, (getV E.outs i OutF.nil).st = 0
  keys : F.ins.map (·.1) = idKeys j
  st : F.ins.map (fun x => x.2.st) = List.replicate j 0
  fst : ∀ i : Int, (getV F.ins i InF.nil).st = 0
  fw : F.waits = []
  fo : F.outs = []
  fid : F.id = 0
theorem Qk.start {E : EndW} (h : Qk 4 E) : Rj 0 E EndW.nil := ⟨h.offs, by rw [h.len], h.st0, rfl, rfl, fun _ => rfl, rfl, rfl, rfl⟩
/-- What never turns: the files that were offered. -/
structure Same4 (E E' : EndW) : Prop where
  outs : E'.outs = E.outs
  id : E'.id = E.id
theorem Rj.move {j : Nat} {x y : SideF} {t : Sums} (h : Rj j x.app y.app) (hj : j < 4) : (moveW t x y).2.2.2 = true ∧ Rj (j + 1) (moveW t x y).2.1.app (moveW t x y).2.2.1.app ∧ Same4 x.app (moveW t x y).2.1.app := by
  have hl := h.len
  cases hw : x.app.waits with
  | nil => rw [hw] at hl; simp at hl; omega
  | cons w ws =>
    have ho := h.offs
    rw [hw] at ho hl
    obtain ⟨⟨ti, sz, sm, rfl, hr⟩, ho⟩ := ho
    have hx : nextW x.app = ({ x.app with waits := ws }, some (.offer (j + 1) ti sz sm)) := by
      unfold nextW
      rw [hw]
    have hno : hasV y.app.ins ((j + 1 : Nat) : Int) = false := hasV_idsNext h.keys
    have he : takeW t y.app (.offer (j + 1) ti sz sm) = (t, { y.app with ins := y.app.ins ++ [(((j + 1 : Nat) : Int), (⟨0, (sz : Int), sm, []⟩ : InF))], log := y.app.log ++ [⟨1, ((j + 1 : Nat) : Int), tx ti, []⟩] }) := by
      rw [takeW_offer, offeredW, if_neg (by simp [hr]), if_neg (by rw [hno]; exact Bool.false_ne_true), if_neg (by rw [h.st, liveN_rep]; omega)]
    unfold moveW
    rw [hx]
    simp only
    rw [he]
    refine ⟨(by first | trivial | rfl), ⟨ho, by simp at hl; show ws.length + (j + 1) = 4; omega, h.st0, ?_, ?_, ?_, h.fw, h.fo, h.fid⟩, ⟨by first | trivial | rfl, by first | trivial | rfl⟩⟩
    · show (y.app.ins ++ _).map _ = _
      rw [List.map_append, h.keys, idKeys_succ]
      rfl
    · show (y.app.ins ++ _).map _ = _
      rw [List.map_append, h.st, List.replicate_succ']
      rfl
    · intro i
      show (getV (y.app.ins ++ _) i InF.nil).st = 0
      rw [getV_snoc _ _ _ _ hno]
      split
      · rfl
      · exact h.fst i
theorem firstW_none {E : EndW} (h : ∀ i : Int, (getV E.outs i OutF.nil).st ≠ 1) : firstW E = none := by
  unfold firstW
  rw [List.find?_eq_none]
  intro i _
  have := h i
  simp [outStop, this]
theorem Rj.stop {x y : SideF} {t : Sums} (h : Rj 4 x.app y.app) : moveW t x y = (t, x, y, false) := by
  have hw : x.app.waits = [] := List.eq_nil_of_length_eq_zero (by have := h.len; omega)
  have hf := firstW_none (E := x.app) (fun i => by rw [h.st0 i]; decide)
  have hx : nextW x.app = (x.app, none) := by
    unfold nextW
    rw [hw]
    simp only
    rw [hf]
  unfold moveW
  rw [hx]
/-- The answer no. -/
theorem Rj.no {E F : EndW} {t : Sums} (h : Rj 4 E F) {k : Int} (h1 : 1 ≤ k) (h2 : k ≤ 4) : hasV F.ins k = true ∧ answerW t F k false = (t, { F with ins := setV F.ins k (inRefuse (getV F.ins k InF.nil)).1, waits := F.waits ++ [.answer k.toNat 0] }, 0) ∧
    answerW t { F with ins := setV F.ins k (inRefuse (getV F.ins k InF.nil)).1, waits := F.waits ++ [.answer k.toNat 0] } k false = (t, { F with ins := setV F.ins k (inRefuse (getV F.ins k InF.nil)).1, waits := F.waits ++ [.answer k.toNat 0] }, 16) := by
  have hk : hasV F.ins k = true := (hasV_ids h.keys k).2 (by omega)
  have hs := h.fst k
  have hw : F.waits.length = 0 := by rw [h.fw]; rfl
  refine ⟨hk, ?_, ?_⟩
  · rw [answerW, if_neg (by simp [hk]), if_neg (by simpa using hs), if_neg (by omega), if_pos rfl]
  · have e2 : hasV (setV F.ins k (inRefuse (getV F.ins k InF.nil)).1) k = true := by rw [hasV_set]; exact hk
    have e3 : (getV (setV F.ins k (inRefuse (getV F.ins k InF.nil)).1) k InF.nil).st ≠ 0 := by
      rw [getV_setS _ _ _ hk, if_pos rfl, inRefuse, if_neg (by simpa using hs)]
      simp
    rw [answerW]
    simp only
    rw [if_neg (by simp [e2]), if_pos e3]
theorem liveO_set {k : Int} {o' : OutF} : ∀ {L : List (Int × OutF)}, hasV L k = true → liveN ((setV L k o').map fun x => x.2.st) + (if liveB (getV L k OutF.nil).st = true then 1 else 0) = liveN (L.map fun x => x.2.st) + if liveB o'.st = true then 1 else 0
  | [], h => by simp [hasV] at h
  | y :: L, h => by
    unfold setV
    rw [getV_cons]
    by_cases e : y.1 = k
    · simp only [e, if_true, List.map_cons]
      unfold liveN
      rw [List.countP_cons, List.countP_cons]
      omega
    · simp only [e, if_false, List.map_cons]
      rw [hasV_cons] at h
      have := liveO_set (o' := o') (L := L) (k := k) (by simpa [e] using h)
      unfold liveN at this ⊢
      rw [List.countP_cons, List.countP_cons]
      omega
/-- The no comes to the other one: there is room. -/
theorem no_move {x y : SideF} {t : Sums} {k : Nat} (hk : hasV x.app.outs k = true) (hs : (getV x.app.outs k OutF.nil).st = 0) (hw : y.app.waits = [.answer k 0]) (hl : liveN (x.app.outs.map fun z => z.2.st) = 4) :
    (moveW t y x).2.2.2 = true ∧ (moveW t y x).1 = t ∧ (moveW t y x).2.1.app.waits = [] ∧ (moveW t y x).2.1.app.outs = y.app.outs ∧ liveN ((moveW t y x).2.2.1.app.outs.map fun z => z.2.st) = 3 ∧ (moveW t y x).2.2.1.app.id = x.app.id ∧ (moveW t y x).2.2.1.app.waits = x.app.waits := by
  have hy : nextW y.app = ({ y.app with waits := [] }, some (.answer k 0)) := by
    unfold nextW
    rw [hw]
  have e1 : outTurn (getV x.app.outs k OutF.nil) 3 = ({ getV x.app.outs k OutF.nil with st := 3 }, 0) := by
    rw [outTurn, if_neg (by simpa using hs), if_neg (by simp)]
  have he : takeW t x.app (.answer k 0) = (t, tellW { x.app with outs := setV x.app.outs k { getV x.app.outs k OutF.nil with st := 3 } } 3 k) := by
    show (t, answeredW x.app k (decide ((0 : Nat) = 1))) = _
    rw [show decide ((0 : Nat) = 1) = false from rfl, answeredW, if_neg (by simp [hk]), if_pos rfl, e1, tookW, if_pos rfl]
  unfold moveW
  rw [hy]
  simp only
  rw [he]
  refine ⟨(by first | trivial | rfl), (by first | trivial | rfl), (by first | trivial | rfl), (by first | trivial | rfl), ?_, (by first | trivial | rfl), (by first | trivial | rfl)⟩
  have := liveO_set (o' := { getV x.app.outs k OutF.nil with st := 3 }) hk
  rw [hl, hs] at this
  show liveN ((setV x.app.outs k _).map _) = 3
  simp [liveB] at this ⊢
  omega
end Go.Proofs.Ytiplepdmkbiehaa
namespace Go.Proofs.Ytiplepdmkbiehaa
set_option linter.unusedSimpArgs false
set_option linter.unusedVariables false
open Go.RowKit Go.Lib
/-- The runes of a row of bytes. -/
def ruF : Nat → List UInt8 → List Int
  | 0, _ => []
  | f + 1, l => if l = [] then [] else ((decodeL l).1 : Int) :: ruF f (l.drop (decodeL l).2)
def ru (l : List UInt8) : List Int := ruF l.length l
theorem width_posL (l : List UInt8) (h : l ≠ []) : 1 ≤ (decodeL l).2 := by
  have hl : 0 < l.length := List.length_pos_iff.2 h
  exact Lib.decode_width_pos ⟨l.toArray⟩ 0 (by simpa [ByteArray.size] using hl)
theorem ruF_more : ∀ (f f' : Nat) (l : List UInt8), l.length ≤ f → l.length ≤ f' → ruF f l = ruF f' l
  | 0, 0, _, _, _ => rfl
  | 0, f' + 1, l, h, _ => by rw [ruF, ruF, if_pos (List.eq_nil_of_length_eq_zero (by omega))]
  | f + 1, 0, l, _, h => by rw [ruF, ruF, if_pos (List.eq_nil_of_length_eq_zero (by omega))]
  | f + 1, f' + 1, l, h, h' => by
    rw [ruF, ruF]
    split
    · rfl
    · next hne =>
      have := width_posL l hne
      rw [ruF_more f f' _ (by rw [List.length_drop]; omega) (by rw [List.length_drop]; omega)]
theorem ru_nil : ru [] = [] := rfl
theorem ru_step (l : List UInt8) (h : l ≠ []) : ru l = ((decodeL l).1 : Int) :: ru (l.drop (decodeL l).2) := by
  have hl : 0 < l.length := List.length_pos_iff.2 h
  have := width_posL l h
  obtain ⟨f, hf⟩ : ∃ f, l.length = f + 1 := ⟨l.length - 1, by omega⟩
  unfold ru
  rw [hf, ruF, if_neg h, ruF_more f _ _ (by rw [List.length_drop]; omega) (Nat.le_refl _)]
theorem size_toList (s : ByteArray) : s.data.toList.length = s.size := Array.length_toList
theorem rs_ru (s : ByteArray) : ∀ (f p : Nat), s.size ≤ p + f → (rs s p).map Prod.snd = ru (s.data.toList.drop p)
  | 0, p, h => by
    rw [rs_end s p (by omega), List.drop_of_length_le (by rw [size_toList]; omega)]
    rfl
  | f + 1, p, h => by
    by_cases hp : p < s.size
    · have hne : s.data.toList.drop p ≠ [] := by
        intro e
        have := congrArg List.length e
        rw [List.length_drop, size_toList] at this
        simp at this
        omega
      have := Lib.decode_width_pos s p hp
      rw [rs_step s p hp, List.map_cons, rs_ru s f _ (by omega), ru_step _ hne, decodeL_drop, List.drop_drop]
    · rw [rs_end s p hp, List.drop_of_length_le (by rw [size_toList]; omega)]
      rfl
/-- A rune that is well formed. -/
def okR (r : Int) : Prop := (0 ≤ r ∧ r < 55296) ∨ (57344 ≤ r ∧ r ≤ 1114111)
theorem ru_ok (l : List UInt8) : ∀ r ∈ ru l, okR r := by
  suffices ∀ (f : Nat) (l : List UInt8), l.length ≤ f → ∀ r ∈ ru l, okR r from this l.length l (Nat.le_refl _)
  intro f
  induction f with
  | zero =>
    intro l h r hr
    rw [List.eq_nil_of_length_eq_zero (by omega : l.length = 0), ru_nil] at hr
    cases hr
  | succ f ih =>
    intro l h r hr
    by_cases hne : l = []
    · rw [hne, ru_nil] at hr; cases hr
    · have := width_posL l hne
      rw [ru_step l hne] at hr
      rcases List.mem_cons.1 hr with rfl | hr
      · have h := Go.Lib.decodeN_valid l.length (l.getD 0 0).toNat (l.getD 1 0).toNat (l.getD 2 0).toNat (l.getD 3 0).toNat (UInt8.toNat_lt _)
        rw [← decodeL_N] at h
        unfold okR
        omega
      · exact ih _ (by rw [List.length_drop]; omega) r hr
theorem numB_iff (r : Int) : numB r = true ↔ (48 ≤ r ∧ r ≤ 57 ∨ 45 ≤ r ∧ r ≤ 45) := by
  simp only [numB, inB, numL, List.any_cons, List.any_nil, Sp.has, Bool.or_false, Bool.or_eq_true, Bool.and_eq_true, decide_eq_true_eq]
/-- The document's rune: -1, and one byte: none that is well formed. -/
def refR (d : Nat × Nat) : Int × Nat := if d.1 = 65533 ∧ d.2 = 1 then (-1, 1) else (d.1, d.2)
theorem refR_wide (x k : Nat) (h : k ≠ 1) : refR (x, k) = ((x : Int), k) := by
  unfold refR
  rw [if_neg (fun e => h e.2)]
theorem ref_one (n b0 b1 b2 b3 : Nat) (h : b0 < 128) : refR (decodeN n b0 b1 b2 b3) = ((b0 : Int), 1) := by
  unfold decodeN
  rw [if_pos h]
  unfold refR
  rw [if_neg (by simp only; omega)]
theorem ref_bad (n b0 b1 b2 b3 : Nat) (h : 128 ≤ b0) (h' : b0 < 194 ∨ 244 < b0) (h2 : b0 < 256) : refR (decodeN n b0 b1 b2 b3) = (-1, 1) := by
  have : decodeN n b0 b1 b2 b3 = (65533, 1) := by
    unfold decodeN
    repeat' split
    all_goals first | rfl | (exfalso; omega)
  rw [this]
  rfl
theorem ref_two_no (n b0 b1 b2 b3 : Nat) (h : 194 ≤ b0 ∧ b0 ≤ 223) (hb1 : b1 < 256) (hn : n < 2 ∨ b1 < 128 ∨ 191 < b1) : refR (decodeN n b0 b1 b2 b3) = (-1, 1) := by
  have : decodeN n b0 b1 b2 b3 = (65533, 1) := by
    unfold decodeN
    repeat' split
    all_goals first | rfl | (exfalso; omega)
  rw [this]
  rfl
theorem ref_two (n b0 b1 b2 b3 : Nat) (h : 194 ≤ b0 ∧ b0 ≤ 223) (hn : 2 ≤ n) (hb1 : 128 ≤ b1 ∧ b1 ≤ 191) : refR (decodeN n b0 b1 b2 b3) = ((((b0 - 192) * 64 + (b1 - 128) : Nat) : Int), 2) := by
  have : decodeN n b0 b1 b2 b3 = ((b0 - 192) * 64 + (b1 - 128), 2) := by
    unfold decodeN
    rw [if_neg (by omega), if_pos (by omega), if_pos (by omega)]
    exact congrArg (fun y => (y, 2)) (by omega)
  rw [this]
  exact refR_wide _ _ (by decide)
theorem ref_three_no (n b0 b1 b2 b3 : Nat) (h : 224 ≤ b0 ∧ b0 ≤ 239) (hb1 : b1 < 256) (hb2 : b2 < 256) (hn : n < 3 ∨ b1 < 128 ∨ 191 < b1 ∨ b2 < 128 ∨ 191 < b2) : refR (decodeN n b0 b1 b2 b3) = (-1, 1) := by
  have : decodeN n b0 b1 b2 b3 = (65533, 1) := by
    unfold decodeN
    repeat' split
    all_goals first | rfl | (exfalso; omega)
  rw [this]
  rfl
theorem ref_three (n b0 b1 b2 b3 : Nat) (h : 224 ≤ b0 ∧ b0 ≤ 239) (hn : 3 ≤ n) (hb1 : 128 ≤ b1 ∧ b1 ≤ 191) (hb2 : 128 ≤ b2 ∧ b2 ≤ 191) (x : Nat) (hx : x = ((b0 - 224) * 64 + (b1 - 128)) * 64 + (b2 - 128)) :
    refR (decodeN n b0 b1 b2 b3) = if x < 2048 ∨ 1114111 < x ∨ (55296 ≤ x ∧ x ≤ 57343) then (-1, 1) else ((x : Int), 3) := by
  have hv : b0 % 16 * 4096 + b1 % 64 * 64 + b2 % 64 = x := by omega
  unfold decodeN
  rw [if_neg (by omega), if_neg (by omega), if_pos (by omega), hv]
  by_cases hb : x < 2048 ∨ 1114111 < x ∨ (55296 ≤ x ∧ x ≤ 57343)
  · rw [if_pos hb, if_neg (by omega)]; rfl
  · rw [if_neg hb, if_pos (by omega)]; exact refR_wide _ _ (by decide)
theorem ref_four_no (n b0 b1 b2 b3 : Nat) (h : 240 ≤ b0 ∧ b0 ≤ 244) (hb1 : b1 < 256) (hb2 : b2 < 256) (hb3 : b3 < 256) (hn : n < 4 ∨ b1 < 128 ∨ 191 < b1 ∨ b2 < 128 ∨ 191 < b2 ∨ b3 < 128 ∨ 191 < b3) : refR (decodeN n b0 b1 b2 b3) = (-1, 1) := by
  have : decodeN n b0 b1 b2 b3 = (65533, 1) := by
    unfold decodeN
    repeat' split
    all_goals first | rfl | (exfalso; omega)
  rw [this]
  rfl
theorem ref_four (n b0 b1 b2 b3 : Nat) (h : 240 ≤ b0 ∧ b0 ≤ 244) (hn : 4 ≤ n) (hb1 : 128 ≤ b1 ∧ b1 ≤ 191) (hb2 : 128 ≤ b2 ∧ b2 ≤ 191) (hb3 : 128 ≤ b3 ∧ b3 ≤ 191) (x : Nat) (hx : x = (((b0 - 240) * 64 + (b1 - 128)) * 64 + (b2 - 128)) * 64 + (b3 - 128)) :
    refR (decodeN n b0 b1 b2 b3) = if x < 65536 ∨ 1114111 < x ∨ (55296 ≤ x ∧ x ≤ 57343) then (-1, 1) else ((x : Int), 4) := by
  have hv : b0 % 8 * 262144 + b1 % 64 * 4096 + b2 % 64 * 64 + b3 % 64 = x := by omega
  unfold decodeN
  rw [if_neg (by omega), if_neg (by omega), if_neg (by omega), if_pos (by omega), hv]
  by_cases hb : x < 65536 ∨ 1114111 < x ∨ (55296 ≤ x ∧ x ≤ 57343)
  · rw [if_pos hb, if_neg (by omega)]; rfl
  · rw [if_neg hb, if_pos (by omega)]; exact refR_wide _ _ (by decide)
set_option maxHeartbeats 4000000 in
set_option maxRecDepth 100000 in
theorem refRune_any (s : ByteArray) (w : World) (hs : s.size ≤ maxLen) (h0 : 0 < s.size) :
    Calls Try.prog 28 #[.string s] w fun e w' => e = .returned (.tuple #[.int .i64 (refR (Utf8.decode s 0)).1, .int .i64 (refR (Utf8.decode s 0)).2]) ∧ w = w' := by
  unfold maxLen at hs
  have hb : ∀ (k : Nat) (h : k < s.size), (s.get! k).toNat < 256 ∧ wrap64 ((s[k]'h).toNat : Int) = ((s.get! k).toNat : Int) := by
    intro k h
    have h1 := (s.get! k).toNat_lt
    have h2 := get_at s k h
    rw [Nat.add_zero] at h2
    rw [← h2]
    refine ⟨h1, ?_⟩
    rw [wrap64]
    omega
  have hdec : refR (Utf8.decode s 0) = refR (decodeN s.size (s.get! 0).toNat (s.get! 1).toNat (s.get! 2).toNat (s.get! 3).toNat) := by
    rw [decode_at s 0, Nat.sub_zero]
  rw [hdec]
  obtain ⟨hx0, hy0⟩ := hb 0 h0
  have hx1 := (s.get! 1).toNat_lt
  have hx2 := (s.get! 2).toNat_lt
  have hx3 := (s.get! 3).toNat_lt
  have HB := hI hb
  clear hb hdec
  generalize hb0 : (s.get! 0).toNat = b0 at *
  generalize hb1 : (s.get! 1).toNat = b1 at *
  generalize hb2 : (s.get! 2).toNat = b2 at *
  generalize hb3 : (s.get! 3).toNat = b3 at *
  have HB1 := hI hb1
  have HB2 := hI hb2
  have HB3 := hI hb3
  clear hb0 hb1 hb2 hb3
  have HX1 := hI hx1
  have HX2 := hI hx2
  have HX3 := hI hx3
  clear hx1 hx2 hx3
  obtain ⟨D, hD⟩ : ∃ D, D = refR (decodeN s.size b0 b1 b2 b3) := ⟨_, rfl⟩
  rw [← hD]
  have HD := hI hD
  clear hD
  go_enter Try.func28, Try.ntmps28
  rcases (by omega : b0 < 128 ∨ (128 ≤ b0 ∧ b0 < 194) ∨ (194 ≤ b0 ∧ b0 ≤ 223) ∨ (224 ≤ b0 ∧ b0 ≤ 239) ∨ (240 ≤ b0 ∧ b0 ≤ 244) ∨ 244 < b0) with k | ⟨k, k'⟩ | ⟨k, k'⟩ | ⟨k, k'⟩ | ⟨k, k'⟩ | k
  · have hD := HD.out.trans (ref_one _ _ _ _ _ k)
    have HD' := hI hD
    have k1 : (b0 : Int) < 128 := by omega
    clear hD k HD
    go_wp2_with fail
    go_ret2
    rw [HD'.out]
    show Ending.returned (.tuple #[.int .i64 (wrap64 ((s[0]'h0).toNat : Int)), .int .i64 1]) = _ ∧ _
    rw [hy0]
    exact ⟨rfl, rfl⟩
  · have hD := HD.out.trans (ref_bad _ _ _ _ _ (by omega) (by omega) hx0)
    have HD' := hI hD
    have k1 : ¬ (b0 : Int) < 128 := by omega
    have k2 : ¬ (194 : Int) ≤ (b0 : Int) := by omega
    have k3 : ¬ (224 : Int) ≤ (b0 : Int) := by omega
    have k4 : ¬ (240 : Int) ≤ (b0 : Int) := by omega
    clear hD k k' HD
    go_wp2_with fail
    go_ret2
    rw [HD'.out]
    exact ⟨rfl, rfl⟩
  · have K := hI (And.intro k k')
    have k1 : ¬ (b0 : Int) < 128 := by omega
    have k2 : (194 : Int) ≤ (b0 : Int) := by omega
    have k3 : (b0 : Int) ≤ 223 := by omega
    obtain ⟨L, hL, hL2⟩ : ∃ L : Nat, L = b0 - 192 ∧ ((b0 : Int) - 192 = (L : Int)) := ⟨_, rfl, by omega⟩
    have hL3 : L < 32 := by omega
    have HL := hI hL
    clear hL k k'
    by_cases hn : s.size < 2
    · have HD' := hI (HD.out.trans (ref_two_no _ _ _ _ _ ⟨K.out.1, K.out.2⟩ HX1.out (.inl hn)))
      have hn1 : (s.size : Int) < 2 := by omega
      clear hn HD
      go_wp2_with fail
      go_ret2
      rw [HD'.out]
      exact ⟨rfl, rfl⟩
    · have hn1 : ¬ (s.size : Int) < 2 := by omega
      go_wp2_with fail
      go_loopw [4, 7] (fun av kv wr => ∃ k a : Nat, av = .int .i64 a ∧ kv = .int .i64 k ∧ wr = w ∧ ((k = 1 ∧ a = L) ∨ (k = 2 ∧ 128 ≤ b1 ∧ b1 ≤ 191 ∧ a = (L * 64 + (b1 - 128))))) (fun _ kv _ => 2 - (intOf kv).toNat)
      case atStart => exact ⟨1, L, by go_num, rfl, rfl, .inl ⟨rfl, rfl⟩⟩
      case round =>
        obtain ⟨k, a, rfl, rfl, rfl, hk⟩ := hrel
        rcases hk with ⟨rfl, hak⟩ | ⟨rfl, c1, d1, hak⟩
        · obtain ⟨hw, hy⟩ := HB.out 1 (by omega)
          rw [HB1.out] at hw hy
          have hlt : 1 < s.size := by omega
          have haa : a < 32 := by omega
          have HAK := hI hak
          clear hak
          rcases (by omega : b1 < 128 ∨ 191 < b1 ∨ (128 ≤ b1 ∧ b1 ≤ 191)) with q | q | ⟨q, q'⟩
          · have HD' := hI (HD.out.trans (ref_two_no _ _ _ _ _ ⟨K.out.1, K.out.2⟩ HX1.out (.inr (by omega))))
            have q1 : (b1 : Int) < 128 := by omega
            clear q HD
            go_wp2_with fail
            go_ret2
            rw [HD'.out]
            exact ⟨rfl, rfl⟩
          · have HD' := hI (HD.out.trans (ref_two_no _ _ _ _ _ ⟨K.out.1, K.out.2⟩ HX1.out (.inr (by omega))))
            have q1 : ¬ (b1 : Int) < 128 := by omega
            have q2 : (191 : Int) < (b1 : Int) := by omega
            clear q HD
            go_wp2_with fail
            go_ret2
            rw [HD'.out]
            exact ⟨rfl, rfl⟩
          · have q1 : ¬ (b1 : Int) < 128 := by omega
            have q2 : ¬ (191 : Int) < (b1 : Int) := by omega
            go_wp2_with fail
            go_roundw
            case rel =>
              have hak := HAK.out
              exact ⟨2, a * 64 + (b1 - 128), by go_num, by go_num, by first | rfl | trivial, .inr (⟨by omega, q, q', by omega⟩)⟩
            case measure => simp [intOf]
        · have haa : a < 2048 := by omega
          have hl : a = (b0 - 192) * 64 + (b1 - 128) := by have := HL.out; omega
          have HD' := hI (HD.out.trans (ref_two _ _ _ _ _ ⟨K.out.1, K.out.2⟩ (by omega) ⟨c1, d1⟩))
          rw [← hl] at HD'
          have g1 : ¬ (a : Int) < 128 := by have := K.out; omega
          have g2 : ¬ (1114111 : Int) < (a : Int) := by omega
          have g3 : ¬ (55296 : Int) ≤ (a : Int) := by omega
          clear hl hak HD c1 d1
          go_wp2_with fail
          go_ret2
          rw [HD'.out]
          exact ⟨rfl, rfl⟩
  · have K := hI (And.intro k k')
    have k1 : ¬ (b0 : Int) < 128 := by omega
    have k2 : (194 : Int) ≤ (b0 : Int) := by omega
    have k3 : ¬ (b0 : Int) ≤ 223 := by omega
    have k4 : (224 : Int) ≤ (b0 : Int) := by omega
    have k5 : (b0 : Int) ≤ 239 := by omega
    obtain ⟨L, hL, hL2⟩ : ∃ L : Nat, L = b0 - 224 ∧ ((b0 : Int) - 224 = (L : Int)) := ⟨_, rfl, by omega⟩
    have hL3 : L < 32 := by omega
    have HL := hI hL
    clear hL k k'
    by_cases hn : s.size < 3
    · have HD' := hI (HD.out.trans (ref_three_no _ _ _ _ _ ⟨K.out.1, K.out.2⟩ HX1.out HX2.out (.inl hn)))
      have hn1 : (s.size : Int) < 3 := by omega
      clear hn HD
      go_wp2_with fail
      go_ret2
      rw [HD'.out]
      exact ⟨rfl, rfl⟩
    · have hn1 : ¬ (s.size : Int) < 3 := by omega
      go_wp2_with fail
      go_loopw [4, 7] (fun av kv wr => ∃ k a : Nat, av = .int .i64 a ∧ kv = .int .i64 k ∧ wr = w ∧ ((k = 1 ∧ a = L) ∨ (k = 2 ∧ 128 ≤ b1 ∧ b1 ≤ 191 ∧ a = (L * 64 + (b1 - 128))) ∨ (k = 3 ∧ 128 ≤ b1 ∧ b1 ≤ 191 ∧ 128 ≤ b2 ∧ b2 ≤ 191 ∧ a = ((L * 64 + (b1 - 128)) * 64 + (b2 - 128))))) (fun _ kv _ => 3 - (intOf kv).toNat)
      case atStart => exact ⟨1, L, by go_num, rfl, rfl, .inl ⟨rfl, rfl⟩⟩
      case round =>
        obtain ⟨k, a, rfl, rfl, rfl, hk⟩ := hrel
        rcases hk with ⟨rfl, hak⟩ | ⟨rfl, c1, d1, hak⟩ | ⟨rfl, c1, d1, c2, d2, hak⟩
        · obtain ⟨hw, hy⟩ := HB.out 1 (by omega)
          rw [HB1.out] at hw hy
          have hlt : 1 < s.size := by omega
          have haa : a < 32 := by omega
          have HAK := hI hak
          clear hak
          rcases (by omega : b1 < 128 ∨ 191 < b1 ∨ (128 ≤ b1 ∧ b1 ≤ 191)) with q | q | ⟨q, q'⟩
          · have HD' := hI (HD.out.trans (ref_three_no _ _ _ _ _ ⟨K.out.1, K.out.2⟩ HX1.out HX2.out (.inr (by omega))))
            have q1 : (b1 : Int) < 128 := by omega
            clear q HD
            go_wp2_with fail
            go_ret2
            rw [HD'.out]
            exact ⟨rfl, rfl⟩
          · have HD' := hI (HD.out.trans (ref_three_no _ _ _ _ _ ⟨K.out.1, K.out.2⟩ HX1.out HX2.out (.inr (by omega))))
            have q1 : ¬ (b1 : Int) < 128 := by omega
            have q2 : (191 : Int) < (b1 : Int) := by omega
            clear q HD
            go_wp2_with fail
            go_ret2
            rw [HD'.out]
            exact ⟨rfl, rfl⟩
          · have q1 : ¬ (b1 : Int) < 128 := by omega
            have q2 : ¬ (191 : Int) < (b1 : Int) := by omega
            go_wp2_with fail
            go_roundw
            case rel =>
              have hak := HAK.out
              exact ⟨2, a * 64 + (b1 - 128), by go_num, by go_num, by first | rfl | trivial, .inr (.inl ⟨by omega, q, q', by omega⟩)⟩
            case measure => simp [intOf]
        · obtain ⟨hw, hy⟩ := HB.out 2 (by omega)
          rw [HB2.out] at hw hy
          have hlt : 2 < s.size := by omega
          have haa : a < 2048 := by omega
          have HAK := hI hak
          clear hak
          rcases (by omega : b2 < 128 ∨ 191 < b2 ∨ (128 ≤ b2 ∧ b2 ≤ 191)) with q | q | ⟨q, q'⟩
          · have HD' := hI (HD.out.trans (ref_three_no _ _ _ _ _ ⟨K.out.1, K.out.2⟩ HX1.out HX2.out (.inr (by omega))))
            have q1 : (b2 : Int) < 128 := by omega
            clear q HD
            go_wp2_with fail
            go_ret2
            rw [HD'.out]
            exact ⟨rfl, rfl⟩
          · have HD' := hI (HD.out.trans (ref_three_no _ _ _ _ _ ⟨K.out.1, K.out.2⟩ HX1.out HX2.out (.inr (by omega))))
            have q1 : ¬ (b2 : Int) < 128 := by omega
            have q2 : (191 : Int) < (b2 : Int) := by omega
            clear q HD
            go_wp2_with fail
            go_ret2
            rw [HD'.out]
            exact ⟨rfl, rfl⟩
          · have q1 : ¬ (b2 : Int) < 128 := by omega
            have q2 : ¬ (191 : Int) < (b2 : Int) := by omega
            go_wp2_with fail
            go_roundw
            case rel =>
              have hak := HAK.out
              exact ⟨3, a * 64 + (b2 - 128), by go_num, by go_num, by first | rfl | trivial, .inr (.inr (⟨by omega, c1, d1, q, q', by omega⟩))⟩
            case measure => simp [intOf]
        · have haa : a < 131072 := by omega
          have hl : a = ((b0 - 224) * 64 + (b1 - 128)) * 64 + (b2 - 128) := by have := HL.out; omega
          have hD' := HD.out.trans (ref_three _ _ _ _ _ ⟨K.out.1, K.out.2⟩ (by omega) ⟨c1, d1⟩ ⟨c2, d2⟩ a hl)
          clear hl hak HD c1 d1 c2 d2
          rcases (by omega : a < 2048 ∨ (2048 ≤ a ∧ 1114111 < a) ∨ (2048 ≤ a ∧ 55296 ≤ a ∧ a ≤ 57343) ∨ (2048 ≤ a ∧ a < 55296) ∨ (2048 ≤ a ∧ 57343 < a ∧ a ≤ 1114111)) with q | ⟨q, q'⟩ | ⟨q, q', q''⟩ | ⟨q, q'⟩ | ⟨q, q', q''⟩
          · rw [if_pos (by omega)] at hD'
            have HD' := hI hD'
            have g1 : (a : Int) < 2048 := by omega
            clear hD'
            go_wp2_with fail
            go_ret2
            rw [HD'.out]
            exact ⟨rfl, rfl⟩
          · rw [if_pos (by omega)] at hD'
            have HD' := hI hD'
            have g1 : ¬ (a : Int) < 2048 := by omega
            have g2 : (1114111 : Int) < (a : Int) := by omega
            clear hD'
            go_wp2_with fail
            go_ret2
            rw [HD'.out]
            exact ⟨rfl, rfl⟩
          · rw [if_pos (by omega)] at hD'
            have HD' := hI hD'
            have g1 : ¬ (a : Int) < 2048 := by omega
            have g2 : ¬ (1114111 : Int) < (a : Int) := by omega
            have g3 : (55296 : Int) ≤ (a : Int) := by omega
            have g4 : (a : Int) ≤ 57343 := by omega
            clear hD'
            go_wp2_with fail
            go_ret2
            rw [HD'.out]
            exact ⟨rfl, rfl⟩
          · rw [if_neg (by omega)] at hD'
            have HD' := hI hD'
            have g1 : ¬ (a : Int) < 2048 := by omega
            have g2 : ¬ (1114111 : Int) < (a : Int) := by omega
            have g3 : ¬ (55296 : Int) ≤ (a : Int) := by omega
            clear hD'
            go_wp2_with fail
            go_ret2
            rw [HD'.out]
            exact ⟨rfl, rfl⟩
          · rw [if_neg (by omega)] at hD'
            have HD' := hI hD'
            have g1 : ¬ (a : Int) < 2048 := by omega
            have g2 : ¬ (1114111 : Int) < (a : Int) := by omega
            have g3 : (55296 : Int) ≤ (a : Int) := by omega
            have g4 : ¬ (a : Int) ≤ 57343 := by omega
            clear hD'
            go_wp2_with fail
            go_ret2
            rw [HD'.out]
            exact ⟨rfl, rfl⟩
  · have K := hI (And.intro k k')
    have k1 : ¬ (b0 : Int) < 128 := by omega
    have k2 : (194 : Int) ≤ (b0 : Int) := by omega
    have k3 : ¬ (b0 : Int) ≤ 223 := by omega
    have k4 : (224 : Int) ≤ (b0 : Int) := by omega
    have k5 : ¬ (b0 : Int) ≤ 239 := by omega
    have k6 : (240 : Int) ≤ (b0 : Int) := by omega
    have k7 : (b0 : Int) ≤ 244 := by omega
    obtain ⟨L, hL, hL2⟩ : ∃ L : Nat, L = b0 - 240 ∧ ((b0 : Int) - 240 = (L : Int)) := ⟨_, rfl, by omega⟩
    have hL3 : L < 32 := by omega
    have HL := hI hL
    clear hL k k'
    by_cases hn : s.size < 4
    · have HD' := hI (HD.out.trans (ref_four_no _ _ _ _ _ ⟨K.out.1, K.out.2⟩ HX1.out HX2.out HX3.out (.inl hn)))
      have hn1 : (s.size : Int) < 4 := by omega
      clear hn HD
      go_wp2_with fail
      go_ret2
      rw [HD'.out]
      exact ⟨rfl, rfl⟩
    · have hn1 : ¬ (s.size : Int) < 4 := by omega
      go_wp2_with fail
      go_loopw [4, 7] (fun av kv wr => ∃ k a : Nat, av = .int .i64 a ∧ kv = .int .i64 k ∧ wr = w ∧ ((k = 1 ∧ a = L) ∨ (k = 2 ∧ 128 ≤ b1 ∧ b1 ≤ 191 ∧ a = (L * 64 + (b1 - 128))) ∨ (k = 3 ∧ 128 ≤ b1 ∧ b1 ≤ 191 ∧ 128 ≤ b2 ∧ b2 ≤ 191 ∧ a = ((L * 64 + (b1 - 128)) * 64 + (b2 - 128))) ∨ (k = 4 ∧ 128 ≤ b1 ∧ b1 ≤ 191 ∧ 128 ≤ b2 ∧ b2 ≤ 191 ∧ 128 ≤ b3 ∧ b3 ≤ 191 ∧ a = (((L * 64 + (b1 - 128)) * 64 + (b2 - 128)) * 64 + (b3 - 128))))) (fun _ kv _ => 4 - (intOf kv).toNat)
      case atStart => exact ⟨1, L, by go_num, rfl, rfl, .inl ⟨rfl, rfl⟩⟩
      case round =>
        obtain ⟨k, a, rfl, rfl, rfl, hk⟩ := hrel
        rcases hk with ⟨rfl, hak⟩ | ⟨rfl, c1, d1, hak⟩ | ⟨rfl, c1, d1, c2, d2, hak⟩ | ⟨rfl, c1, d1, c2, d2, c3, d3, hak⟩
        · obtain ⟨hw, hy⟩ := HB.out 1 (by omega)
          rw [HB1.out] at hw hy
          have hlt : 1 < s.size := by omega
          have haa : a < 32 := by omega
          have HAK := hI hak
          clear hak
          rcases (by omega : b1 < 128 ∨ 191 < b1 ∨ (128 ≤ b1 ∧ b1 ≤ 191)) with q | q | ⟨q, q'⟩
          · have HD' := hI (HD.out.trans (ref_four_no _ _ _ _ _ ⟨K.out.1, K.out.2⟩ HX1.out HX2.out HX3.out (.inr (by omega))))
            have q1 : (b1 : Int) < 128 := by omega
            clear q HD
            go_wp2_with fail
            go_ret2
            rw [HD'.out]
            exact ⟨rfl, rfl⟩
          · have HD' := hI (HD.out.trans (ref_four_no _ _ _ _ _ ⟨K.out.1, K.out.2⟩ HX1.out HX2.out HX3.out (.inr (by omega))))
            have q1 : ¬ (b1 : Int) < 128 := by omega
            have q2 : (191 : Int) < (b1 : Int) := by omega
            clear q HD
            go_wp2_with fail
            go_ret2
            rw [HD'.out]
            exact ⟨rfl, rfl⟩
          · have q1 : ¬ (b1 : Int) < 128 := by omega
            have q2 : ¬ (191 : Int) < (b1 : Int) := by omega
            go_wp2_with fail
            go_roundw
            case rel =>
              have hak := HAK.out
              exact ⟨2, a * 64 + (b1 - 128), by go_num, by go_num, by first | rfl | trivial, .inr (.inl ⟨by omega, q, q', by omega⟩)⟩
            case measure => simp [intOf]
        · obtain ⟨hw, hy⟩ := HB.out 2 (by omega)
          rw [HB2.out] at hw hy
          have hlt : 2 < s.size := by omega
          have haa : a < 2048 := by omega
          have HAK := hI hak
          clear hak
          rcases (by omega : b2 < 128 ∨ 191 < b2 ∨ (128 ≤ b2 ∧ b2 ≤ 191)) with q | q | ⟨q, q'⟩
          · have HD' := hI (HD.out.trans (ref_four_no _ _ _ _ _ ⟨K.out.1, K.out.2⟩ HX1.out HX2.out HX3.out (.inr (by omega))))
            have q1 : (b2 : Int) < 128 := by omega
            clear q HD
            go_wp2_with fail
            go_ret2
            rw [HD'.out]
            exact ⟨rfl, rfl⟩
          · have HD' := hI (HD.out.trans (ref_four_no _ _ _ _ _ ⟨K.out.1, K.out.2⟩ HX1.out HX2.out HX3.out (.inr (by omega))))
            have q1 : ¬ (b2 : Int) < 128 := by omega
            have q2 : (191 : Int) < (b2 : Int) := by omega
            clear q HD
            go_wp2_with fail
            go_ret2
            rw [HD'.out]
            exact ⟨rfl, rfl⟩
          · have q1 : ¬ (b2 : Int) < 128 := by omega
            have q2 : ¬ (191 : Int) < (b2 : Int) := by omega
            go_wp2_with fail
            go_roundw
            case rel =>
              have hak := HAK.out
              exact ⟨3, a * 64 + (b2 - 128), by go_num, by go_num, by first | rfl | trivial, .inr (.inr (.inl ⟨by omega, c1, d1, q, q', by omega⟩))⟩
            case measure => simp [intOf]
        · obtain ⟨hw, hy⟩ := HB.out 3 (by omega)
          rw [HB3.out] at hw hy
          have hlt : 3 < s.size := by omega
          have haa : a < 131072 := by omega
          have HAK := hI hak
          clear hak
          rcases (by omega : b3 < 128 ∨ 191 < b3 ∨ (128 ≤ b3 ∧ b3 ≤ 191)) with q | q | ⟨q, q'⟩
          · have HD' := hI (HD.out.trans (ref_four_no _ _ _ _ _ ⟨K.out.1, K.out.2⟩ HX1.out HX2.out HX3.out (.inr (by omega))))
            have q1 : (b3 : Int) < 128 := by omega
            clear q HD
            go_wp2_with fail
            go_ret2
            rw [HD'.out]
            exact ⟨rfl, rfl⟩
          · have HD' := hI (HD.out.trans (ref_four_no _ _ _ _ _ ⟨K.out.1, K.out.2⟩ HX1.out HX2.out HX3.out (.inr (by omega))))
            have q1 : ¬ (b3 : Int) < 128 := by omega
            have q2 : (191 : Int) < (b3 : Int) := by omega
            clear q HD
            go_wp2_with fail
            go_ret2
            rw [HD'.out]
            exact ⟨rfl, rfl⟩
          · have q1 : ¬ (b3 : Int) < 128 := by omega
            have q2 : ¬ (191 : Int) < (b3 : Int) := by omega
            go_wp2_with fail
            go_roundw
            case rel =>
              have hak := HAK.out
              exact ⟨4, a * 64 + (b3 - 128), by go_num, by go_num, by first | rfl | trivial, .inr (.inr (.inr (⟨by omega, c1, d1, c2, d2, q, q', by omega⟩)))⟩
            case measure => simp [intOf]
        · have haa : a < 8388608 := by omega
          have hl : a = (((b0 - 240) * 64 + (b1 - 128)) * 64 + (b2 - 128)) * 64 + (b3 - 128) := by have := HL.out; omega
          have hD' := HD.out.trans (ref_four _ _ _ _ _ ⟨K.out.1, K.out.2⟩ (by omega) ⟨c1, d1⟩ ⟨c2, d2⟩ ⟨c3, d3⟩ a hl)
          clear hl hak HD c1 d1 c2 d2 c3 d3
          rcases (by omega : a < 65536 ∨ (65536 ≤ a ∧ 1114111 < a) ∨ (65536 ≤ a ∧ 55296 ≤ a ∧ a ≤ 57343) ∨ (65536 ≤ a ∧ a < 55296) ∨ (65536 ≤ a ∧ 57343 < a ∧ a ≤ 1114111)) with q | ⟨q, q'⟩ | ⟨q, q', q''⟩ | ⟨q, q'⟩ | ⟨q, q', q''⟩
          · rw [if_pos (by omega)] at hD'
            have HD' := hI hD'
            have g1 : (a : Int) < 65536 := by omega
            clear hD'
            go_wp2_with fail
            go_ret2
            rw [HD'.out]
            exact ⟨rfl, rfl⟩
          · rw [if_pos (by omega)] at hD'
            have HD' := hI hD'
            have g1 : ¬ (a : Int) < 65536 := by omega
            have g2 : (1114111 : Int) < (a : Int) := by omega
            clear hD'
            go_wp2_with fail
            go_ret2
            rw [HD'.out]
            exact ⟨rfl, rfl⟩
          · rw [if_pos (by omega)] at hD'
            have HD' := hI hD'
            have g1 : ¬ (a : Int) < 65536 := by omega
            have g2 : ¬ (1114111 : Int) < (a : Int) := by omega
            have g3 : (55296 : Int) ≤ (a : Int) := by omega
            have g4 : (a : Int) ≤ 57343 := by omega
            clear hD'
            go_wp2_with fail
            go_ret2
            rw [HD'.out]
            exact ⟨rfl, rfl⟩
          · rw [if_neg (by omega)] at hD'
            have HD' := hI hD'
            have g1 : ¬ (a : Int) < 65536 := by omega
            have g2 : ¬ (1114111 : Int) < (a : Int) := by omega
            have g3 : ¬ (55296 : Int) ≤ (a : Int) := by omega
            clear hD'
            go_wp2_with fail
            go_ret2
            rw [HD'.out]
            exact ⟨rfl, rfl⟩
          · rw [if_neg (by omega)] at hD'
            have HD' := hI hD'
            have g1 : ¬ (a : Int) < 65536 := by omega
            have g2 : ¬ (1114111 : Int) < (a : Int) := by omega
            have g3 : (55296 : Int) ≤ (a : Int) := by omega
            have g4 : ¬ (a : Int) ≤ 57343 := by omega
            clear hD'
            go_wp2_with fail
            go_ret2
            rw [HD'.out]
            exact ⟨rfl, rfl⟩
  · have hD := HD.out.trans (ref_bad _ _ _ _ _ (by omega) (by omega) hx0)
    have HD' := hI hD
    have k1 : ¬ (b0 : Int) < 128 := by omega
    have k2 : (194 : Int) ≤ (b0 : Int) := by omega
    have k2' : ¬ (b0 : Int) ≤ 223 := by omega
    have k3 : (224 : Int) ≤ (b0 : Int) := by omega
    have k3' : ¬ (b0 : Int) ≤ 239 := by omega
    have k4 : (240 : Int) ≤ (b0 : Int) := by omega
    have k4' : ¬ (b0 : Int) ≤ 244 := by omega
    clear hD k HD
    go_wp2_with fail
    go_ret2
    rw [HD'.out]
    exact ⟨rfl, rfl⟩
theorem decode_from (s : ByteArray) (p : Nat) : Utf8.decode (s.extract p s.size) 0 = Utf8.decode s p := by
  rw [← decodeL_drop s p, ← decodeL_drop (s.extract p s.size) 0, List.drop_zero]
  congr 1
  rw [ByteArray.data_extract, Array.toList_extract, List.extract_eq_take_drop, List.take_of_length_le]
  rw [List.length_drop, size_toList]
  exact Nat.le_refl _
theorem refR_wd (s : ByteArray) (p : Nat) : (refR (Utf8.decode s p)).2 = (Utf8.decode s p).2 := by
  unfold refR
  split
  · next h => exact h.2.symm
  · rfl
theorem refR_r (s : ByteArray) (p : Nat) : ((refR (Utf8.decode s p)).1 = -1 ∧ (Utf8.decode s p).1 = 65533) ∨ (refR (Utf8.decode s p)).1 = ((Utf8.decode s p).1 : Int) := by
  unfold refR
  split
  · next h => exact .inl ⟨rfl, h.1⟩
  · exact .inr rfl
/-- The rune that the document reads at a place of a text. -/
theorem refRune_at (s : ByteArray) (p : Nat) (w : World) (hs : s.size ≤ maxLen) (hp : p < s.size) :
    ∃ (r : Int) (wd : Nat), wd = (Utf8.decode s p).2 ∧ 1 ≤ wd ∧ p + wd ≤ s.size ∧ ((r = -1 ∧ (Utf8.decode s p).1 = 65533) ∨ r = ((Utf8.decode s p).1 : Int)) ∧ -1 ≤ r ∧ r ≤ 1114111 ∧ refR (Utf8.decode s p) = (r, wd) ∧
    Calls Try.prog 28 #[.string (s.extract p s.size)] w fun e w' => e = .returned (.tuple #[.int .i64 r, .int .i64 wd]) ∧ w = w' := by
  have h := refRune_any (s.extract p s.size) w (by rw [ByteArray.size_extract]; omega) (by rw [ByteArray.size_extract]; omega)
  rw [decode_from] at h
  have h1 := refR_r s p
  have h2 := refR_wd s p
  have h3 := Lib.decode_width_pos s p hp
  have h4 : p + (Utf8.decode s p).2 ≤ s.size := by
    have hne : s.data.toList.drop p ≠ [] := by
      intro e
      have := congrArg List.length e
      rw [List.length_drop, size_toList] at this
      simp at this
      omega
    have := decodeL_le _ hne
    rw [decodeL_drop, List.length_drop, size_toList] at this
    omega
  have h5 : (Utf8.decode s p).1 ≤ 1114111 := by
    have hr : ((Utf8.decode s p).1 : Int) ∈ ru (s.data.toList.drop p) := by
      rw [← rs_ru s s.size p (by omega), rs_step s p hp]
      simp
    have := ru_ok _ _ hr
    unfold okR at this
    omega
  obtain ⟨⟨r, wd⟩, hd⟩ : ∃ d, refR (Utf8.decode s p) = d := ⟨_, rfl⟩
  rw [hd] at h h1 h2
  simp only at h h1 h2
  exact ⟨r, wd, h2, by omega, by omega, h1, by omega, by omega, hd, h⟩
set_option maxHeartbeats 2000000 in
set_option maxRecDepth 100000 in
theorem refRight_any (s : ByteArray) (w : World) (hs : s.size ≤ maxLen) :
    Calls Try.prog 9 #[.string s] w fun e w' => e = .returned (.bool (rightB s)) ∧ w = w' := by
  have hs' := hs
  unfold maxLen at hs
  go_enter Try.func9, Try.ntmps9
  go_wp2_with fail
  go_loopw [3, 4] (fun n i wr => ∃ (pos q : Nat), n = .int .i64 q ∧ i = .int .i64 pos ∧ q ≤ pos ∧ pos ≤ s.size ∧ wr = w ∧ rightF (rs s pos) q = rightB s) (fun _ i _ => s.size - (intOf i).toNat)
  case atStart => exact ⟨0, 0, rfl, rfl, Nat.le_refl _, Nat.zero_le _, rfl, rfl⟩
  case round =>
    obtain ⟨pos, q, rfl, rfl, hq, hps, rfl, hR⟩ := hrel
    have HR := hI hR
    clear hR
    by_cases hp : pos < s.size
    · have hp1 : (pos : Int) < (s.size : Int) := by omega
      obtain ⟨r, wd, hwd, h1, h2, hr, hr0, hr1, _, hc⟩ := refRune_at s pos wr hs' hp
      have hstep := rs_step s pos hp
      rw [← hwd] at hstep
      obtain ⟨c, hcc⟩ : ∃ c : Int, c = ((Utf8.decode s pos).1 : Int) := ⟨_, rfl⟩
      have hr' : letB r = letB c ∧ (letB c = false → numB c = (decide (48 ≤ r ∧ r ≤ 57) || decide (r = 45))) := by
        rcases hr with ⟨rfl, h⟩ | h
        · rw [hcc, h]
          exact ⟨by decide +kernel, fun _ => by decide +kernel⟩
        · have : r = c := by omega
          subst this
          refine ⟨rfl, fun _ => ?_⟩
          rw [Bool.eq_iff_iff, numB_iff]
          simp only [Bool.or_eq_true, decide_eq_true_eq]
          omega
      rw [← hcc] at hstep
      have HS := hI hstep
      have HC := hI hr'
      have hsl : ∀ W, (Instr.slice 9 (.string s) (some (.int .i64 pos)) none none).run Try.prog W = .ok (.string (s.extract pos s.size)) W := fun W => run_slice_string_l W _ s Try.underlying9 .i64 pos (by omega) (by omega)
      clear hwd hr hstep hcc hr'
      go_wp2_with fail
      refine hc.mono ?_
      rintro e w' ⟨rfl, rfl⟩
      clear hc
      go_wp2_with fail
      obtain ⟨L, hL⟩ : ∃ L, L = letB c := ⟨_, rfl⟩
      have hl := refLetter_any r 0 wr (by omega) (by omega) (by omega) (by omega)
      rw [Int.add_zero, HC.out.1, ← hL] at hl
      have HL := hI hL
      refine hl.mono ?_
      rintro e w' ⟨rfl, rfl⟩
      clear hl hL hsl
      cases L with
      | true =>
        have HF : Hid (rightF (rs s (pos + wd)) (q + 1) = rightB s) := hI (by
          rw [← HR.out, HS.out, rightF, ← HL.out, if_pos rfl])
        go_wp2_with fail
        go_roundw
        case rel => exact ⟨pos + wd, q + 1, by go_num, by go_num, by omega, by omega, by first | rfl | trivial, HF.out⟩
        case measure => simp [intOf]; omega
      | false =>
        have HN := hI (HC.out.2 HL.out.symm)
        by_cases hp0 : pos = 0
        · subst hp0
          have HF : Hid (rightB s = false) := hI (by
            rw [← HR.out, HS.out, rightF, ← HL.out]
            simp)
          go_wp2_with fail
          go_ret
          rw [HF.out]
          exact ⟨rfl, rfl⟩
        · have hp2 : ((pos : Int) == 0) = false := by simp; omega
          have HP0 := hI hp0
          clear hp0
          rcases (by omega : r = 45 ∨ (r ≠ 45 ∧ r < 48) ∨ (r ≠ 45 ∧ 48 ≤ r ∧ 57 < r) ∨ (r ≠ 45 ∧ 48 ≤ r ∧ r ≤ 57)) with g | ⟨g, g'⟩ | ⟨g, g', g''⟩ | ⟨g, g', g''⟩
          · subst g
            have HF : Hid (rightF (rs s (pos + wd)) (q + 1) = rightB s) := hI (by
              rw [← HR.out, HS.out, rightF, ← HL.out, HN.out]
              simp [HP0.out])
            go_wp2_with fail
            go_roundw
            case rel => exact ⟨pos + wd, q + 1, by go_num, by go_num, by omega, by omega, by first | rfl | trivial, HF.out⟩
            case measure => simp [intOf]; omega
          · have g1 : (r != 45) = true := by simpa using g
            have HF : Hid (rightB s = false) := hI (by
              rw [← HR.out, HS.out, rightF, ← HL.out, HN.out, decide_eq_false (by omega : ¬ (48 ≤ r ∧ r ≤ 57)), decide_eq_false g]
              simp)
            go_wp2_with fail
            go_ret
            rw [HF.out]
            exact ⟨rfl, rfl⟩
          · have g1 : (r != 45) = true := by simpa using g
            have g2 : ¬ r < 48 := by omega
            have HF : Hid (rightB s = false) := hI (by
              rw [← HR.out, HS.out, rightF, ← HL.out, HN.out, decide_eq_false (by omega : ¬ (48 ≤ r ∧ r ≤ 57)), decide_eq_false g]
              simp)
            go_wp2_with fail
            go_ret
            rw [HF.out]
            exact ⟨rfl, rfl⟩
          · have g1 : (r != 45) = true := by simpa using g
            have g2 : ¬ r < 48 := by omega
            have g3 : ¬ 57 < r := by omega
            have HF : Hid (rightF (rs s (pos + wd)) (q + 1) = rightB s) := hI (by
              rw [← HR.out, HS.out, rightF, ← HL.out, HN.out, decide_eq_true (And.intro g' g'')]
              simp [HP0.out])
            go_wp2_with fail
            go_roundw
            case rel => exact ⟨pos + wd, q + 1, by go_num, by go_num, by omega, by omega, by first | rfl | trivial, HF.out⟩
            case measure => simp [intOf]; omega
    · have hp1 : ¬ (pos : Int) < (s.size : Int) := by omega
      have HF : Hid (rightB s = (decide (1 ≤ q) && decide (q ≤ 16))) := hI (by rw [← HR.out, rs_end s pos hp, rightF])
      rcases (by omega : q < 1 ∨ (1 ≤ q ∧ q ≤ 16) ∨ 16 < q) with h | ⟨h, h'⟩ | h
      · have h1 : ¬ (1 : Int) ≤ (q : Int) := by omega
        have HG := hI (HF.out.trans (show _ = false by rw [decide_eq_false (by omega : ¬ 1 ≤ q)]; rfl))
        clear h
        go_wp2_with fail
        go_ret
        rw [HG.out]
        exact ⟨rfl, rfl⟩
      · have h1 : (1 : Int) ≤ (q : Int) := by omega
        have h2 : (q : Int) ≤ 16 := by omega
        have HG := hI (HF.out.trans (show _ = true by rw [decide_eq_true h, decide_eq_true h']; rfl))
        clear h h'
        go_wp2_with fail
        go_ret
        rw [HG.out]
        exact ⟨rfl, rfl⟩
      · have h1 : (1 : Int) ≤ (q : Int) := by omega
        have h2 : ¬ (q : Int) ≤ 16 := by omega
        have HG := hI (HF.out.trans (show _ = false by rw [decide_eq_false (by omega : ¬ q ≤ 16)]; simp))
        clear h
        go_wp2_with fail
        go_ret
        rw [HG.out]
        exact ⟨rfl, rfl⟩
end Go.Proofs.Ytiplepdmkbiehaa
namespace Go.Proofs.Ytiplepdmkbiehaa
set_option linter.unusedSimpArgs false
set_option linter.unusedVariables false
open Go.RowKit
theorem i64_and3q (n : Int) : bits .and .i64 n 3 = n % 4 := by
  have h127 : (BitVec.ofInt 64 3).toNat = 2 ^ 2 - 1 := by decide
  have key : (BitVec.ofInt 64 n &&& BitVec.ofInt 64 3).toNat = (n % ((2 ^ 64 : Nat) : Int)).toNat % 2 ^ 2 := by
    rw [BitVec.toNat_and, BitVec.toNat_ofInt, h127, Nat.and_two_pow_sub_one_eq_mod]
  show IntKind.i64.wrap ((BitVec.ofInt 64 n &&& BitVec.ofInt 64 3).toNat : Nat) = n % 4
  rw [key, IntKind.wrap_i64]
  omega
theorem i64_and4095 (n : Int) : bits .and .i64 n 4095 = n % 4096 := by
  have h127 : (BitVec.ofInt 64 4095).toNat = 2 ^ 12 - 1 := by decide
  have key : (BitVec.ofInt 64 n &&& BitVec.ofInt 64 4095).toNat = (n % ((2 ^ 64 : Nat) : Int)).toNat % 2 ^ 12 := by
    rw [BitVec.toNat_and, BitVec.toNat_ofInt, h127, Nat.and_two_pow_sub_one_eq_mod]
  show IntKind.i64.wrap ((BitVec.ofInt 64 n &&& BitVec.ofInt 64 4095).toNat : Nat) = n % 4096
  rw [key, IntKind.wrap_i64]
  omega
theorem quiet_stop {x y : SideF} {t : Sums} (h1 : y.app.waits = []) (h2 : y.app.outs = []) : moveW t y x = (t, y, x, false) := by
  have hf := firstW_none (E := y.app) (fun i => by rw [h2]; simp [getV, OutF.nil])
  have hy : nextW y.app = (y.app, none) := by
    unfold nextW
    rw [h1]
    simp only
    rw [hf]
  unfold moveW
  rw [hy]
/-- What an offer of nothing by the first end asks. -/
theorem offer_f {p q : Nat} {mp : Value} {t : Sums} {x y : SideF} {n pp : Nat} {l : List Res} {w : World} (hok : Ok n pp t x y) (hn : n ≤ 100000) (h : Hold w (pairR p q mp t (memS x.app) (memS y.app) :: l)) :
    ∃ ze, w.cell? ⟨p, 0, none⟩ = some (.pointer (some ⟨ze, 0, none⟩)) ∧ Calls Try.prog 8 #[.pointer (some ⟨ze, 0, none⟩), .string fB, .slice none 0 0] w fun e w' => e = .returned (.tuple #[.int .i64 (offerW t x.app fB []).2.2.1, .int .i64 (offerW t x.app fB []).2.2.2]) ∧ Hold w' (pairR p q mp (offerW t x.app fB []).1 (memS (offerW t x.app fB []).2.1) (memS y.app) :: l) := by
  obtain ⟨z, u, h⟩ := pairR_two h
  have hb := restR_blk (p := p) (z := z) (u := u) (x := memS x.app) (y := memS y.app) h (by simp)
  have b1 := hok.bx.id
  have b2 := hok.bx.waits
  have b3 := hok.tl
  have b4 := hok.outs
  have b5 := hok.bx.names
  refine ⟨z.e, hb.cell 0, ?_⟩
  have HOF := appOffer_any z.e q z.P (.slice none 0 0) (.slice none 0 0) mp t x.app.app fB (.slice none 0 0) [] _ w h.pull3.swap (fun W _ => Sl.nil _ _ _) (by decide) (hasV_idsNext hok.both.a.okeys) (hasV_idsNext hok.both.a.nkeys) (by show x.app.id ≤ _; omega) (by simp [EndW.app]; omega) (by omega) (by show x.app.outs.length ≤ _; omega) (by show x.app.names.length ≤ _; omega)
  rw [offerW_eq] at HOF
  refine HOF.mono ?_
  rintro e w' ⟨he, P', hc⟩
  exact ⟨he, pairR_back (x := memS x.app) (y := memS y.app) (E := (offerW t x.app fB []).2.1) (G := y.app) (z := z) (u := u) hc.swap.push3⟩
/-- What an answer of the second end asks. -/
theorem answer_no {p q : Nat} {mp : Value} {t : Sums} {x y : SideF} {n pp : Nat} {k : Int} {l : List Res} {w : World} (hok : Ok n pp t x y) (hn : n ≤ 100000) (hk : 1 ≤ k ∧ k ≤ 4) (h : Hold w (pairR p q mp t (memS x.app) (memS y.app) :: l)) :
    ∃ ue, w.cell? ⟨p, 1, none⟩ = some (.pointer (some ⟨ue, 0, none⟩)) ∧ Calls Try.prog 11 #[.pointer (some ⟨ue, 0, none⟩), .int .i64 k, .bool false] w fun e w' => e = .returned (.int .i64 (answerW t y.app k false).2.2) ∧ Hold w' (pairR p q mp (answerW t y.app k false).1 (memS x.app) (memS (answerW t y.app k false).2.1) :: l) := by
  obtain ⟨z, u, h⟩ := pairR_two h
  have hb := restR_blk (p := p) (z := z) (u := u) (x := memS x.app) (y := memS y.app) h (by simp)
  have b1 := hok.bY.log
  have b2 := hok.bY.waits
  have b3 := hok.tl
  refine ⟨u.e, hb.cell 1, ?_⟩
  have h2 := h.front (m := [_, _, _]) [1, 2, 0] 3 (by decide)
  have HA := appAnswer_any u.e q u.P (.slice none 0 0) (.slice none 0 0) mp t y.app.app k false _ w h2 (by omega) (fun hh => ⟨by omega, by omega, hok.symm.inOk hh⟩) (by simp [EndW.app]; omega) (by show y.app.log.length ≤ _; omega) (by omega)
  rw [answerW_eq] at HA
  refine HA.mono ?_
  rintro e w' ⟨he, hc⟩
  have h3 := hc.front (m := [_, _, _]) [2, 0, 1] 3 (by decide)
  exact ⟨he, pairR_back (x := memS x.app) (y := memS y.app) (E := x.app) (G := (answerW t y.app k false).2.1) (z := z) (u := u) h3⟩
set_option maxRecDepth 100000 in
set_option maxHeartbeats 16000000 in
theorem appQuotas_go (ti : ByteArray) (size n : Int) (w : World) (hti : ti.size ≤ maxLen) :
    Calls Try.prog 3 #[.string ti, .int .i64 size, .int .i64 n] w fun e w' => e = .returned (.bool true) ∧ Below w.heap.size w w' := by
  unfold maxLen at hti
  by_cases h60 : 60 < ti.size
  · have h60' : (60 : Int) < ti.size := by omega
    go_enter Try.func3, Try.ntmps3
    go_wp2_with fail
    refine (alive22_any w).mono ?_
    rintro e w1 ⟨rfl, hb1⟩
    have HB := hI hb1
    clear hb1
    go_wp2_with fail
    go_ret
    exact ⟨rfl, HB.out⟩
  · have h60' : ¬ ((60 : Int) < ti.size) := by omega
    obtain ⟨sz, hsz⟩ : ∃ sz : Nat, (sz : Int) = size % 4096 := ⟨(size % 4096).toNat, by omega⟩
    have hszl : sz ≤ 4095 := by omega
    have hand : bits .and .i64 size 4095 = (sz : Int) := by rw [i64_and4095, hsz]
    have HAN := hI hand
    have hmk := fun W => mkBytes W sz (sz : Int) rfl (by omega)
    have HMK := hI hmk
    obtain ⟨⟨t0, E0, id0, er0⟩, hoe⟩ : ∃ r, offerW [] EndW.nil ti (List.replicate sz 0) = r := ⟨_, rfl⟩
    have HOE := hI hoe
    have HRW := hI (fun W => refRight_any ti W (by unfold maxLen; omega))
    clear hmk hoe hsz hand
    go_enter Try.func3, Try.ntmps3
    go_wp2_with fail
    refine (alive22_any w).mono ?_
    rintro e w1 ⟨rfl, hb1⟩
    have HB := hI ((Hold.start w).step hb1)
    clear hb1
    go_wp2_with fail
    refine (open_any _ _ HB.out).mono ?_
    rintro e w2 ⟨p, q, mp, rfl, hc⟩
    obtain ⟨z, u, hc⟩ := pairR_two hc
    obtain ⟨ze, zP, zs, zh, zf, zo⟩ := z
    obtain ⟨ue, uP, us, uh, uf, uo⟩ := u
    have HR := hI hc.drew
    clear hc HB
    go_wp2_with fail
    obtain ⟨wd, hwd⟩ : ∃ wd, wd = w2.drew := ⟨_, rfl⟩
    rw [← hwd] at HR
    have HS : Hid (wd.cell? ⟨p, 0, none⟩ = some (.pointer (some ⟨ze, 0, none⟩))) := hI ((restR_blk (p := p) (z := ⟨ze, zP, zs, zh, zf, zo⟩) (u := ⟨ue, uP, us, uh, uf, uo⟩) (x := SideF.nil) (y := SideF.nil) HR.out (by simp)).cell 0)
    refine wp_region_held (S := fun W : World => W.cell? ⟨p, 0, none⟩ = some (.pointer (some ⟨ze, 0, none⟩))) (by kernel_rfl) ?_
    change wpAnyH _ _ _ _ _ _ _ _ (World.drew _)
    rw [← hwd]
    clear hwd
    refine tkH 0 25 none (.pointer (some ⟨p, 0, none⟩)) rfl (by kernel_rfl) (fun _ _ _ h => h) (by rfl) (by intro W hW; go_simp) HS.out ?_
    simp only [Act.put, zq1, zq2, zq3]
    refine tkH 1 26 none (.pointer (some ⟨p, 0, none⟩)) rfl (by kernel_rfl) (fun _ _ _ h => h) (by rfl) (by intro W hW; go_simp) HS.out ?_
    simp only [Act.put, zq1, zq2, zq3]
    refine tkH 2 27 none (.pointer (some ⟨p, 0, none⟩)) rfl (by kernel_rfl) (fun _ _ _ h => h) (by rfl) (by intro W hW; go_simp) HS.out ?_
    simp only [Act.put, zq1, zq2, zq3]
    refine tkH 3 28 none (.pointer (some ⟨p, 0, none⟩)) rfl (by kernel_rfl) (fun _ _ _ h => h) (by rfl) (by intro W hW; go_simp) HS.out ?_
    simp only [Act.put, zq1, zq2, zq3]
    refine tkH 4 29 none (.pointer (some ⟨ze, 0, none⟩)) rfl (by kernel_rfl) (fun _ _ _ h => h) (by rfl) (by intro W hW; have hce : W.cell? ⟨p, 0, none⟩ = some (.pointer (some ⟨ze, 0, none⟩)) := hW; go_simp) HS.out ?_
    simp only [Act.put, zq1, zq2, zq3]
    refine tkH 5 30 none (.string ti) rfl (by kernel_rfl) (fun _ _ _ h => h) (by rfl) (by intro W hW; go_simp) HS.out ?_
    simp only [Act.put, zq1, zq2, zq3]
    refine tkH 6 31 none (.int .i64 size) rfl (by kernel_rfl) (fun _ _ _ h => h) (by rfl) (by intro W hW; go_simp) HS.out ?_
    simp only [Act.put, zq1, zq2, zq3]
    refine tkH 7 32 none (.int .i64 (sz : Int)) rfl (by kernel_rfl) (fun _ _ _ h => h) (by rfl) (by intro W hW; have hz := HAN.out; go_simp) HS.out ?_
    simp only [Act.put, zq1, zq2, zq3]
    refine anyH_ready (rs := [8]) (by decide +kernel) (by simp) ?_
    refine AllReadyH.cons (o := { dst := some 33, op := .makeSlice 40 (.tmp 32) (.tmp 32), type := _, pos := _, after := _, guard := none }) rfl (fun K hK => ?_) AllReadyH.nil
    have hmk := HMK.out wd
    go_simp
    clear hmk
    have hbs : Bs (wd.alloc (.cells (List.replicate sz (.int .u8 0)).toArray 5)) (.slice (some ⟨wd.heap.size, 0, none⟩) (List.replicate sz (0 : UInt8)).length (List.replicate sz (0 : UInt8)).length) (List.replicate sz 0) := Bs.litM (List.replicate sz 0) rfl (by simp [bCells, bV]) (by simp [maxLen]; omega)
    rw [List.length_replicate] at hbs
    have h3 := HR.out.addRow ((Below.refl wd.heap.size wd).alloc (Nat.le_refl _) _) hbs (fun k _ hk => by simp [Value.ownBlock] at hk; omega)
    have HOF := hI (appOffer_any ze q zP (.slice none 0 0) (.slice none 0 0) mp [] EndW.nil.app ti (.slice (some ⟨wd.heap.size, 0, none⟩) sz sz) (List.replicate sz 0) _ _ h3.pull4.pull3 (fun W h => h.row0) (by omega) (by decide) (by decide) (by decide) (by decide) (by decide) (by decide) (by decide))
    rw [offerW_eq, HOE.out] at HOF
    have HS : Hid ((wd.alloc (.cells (List.replicate sz (.int .u8 0)).toArray 5)).cell? ⟨p, 0, none⟩ = some (.pointer (some ⟨ze, 0, none⟩))) := hI ((restR_blk (p := p) (z := ⟨ze, zP, zs, zh, zf, zo⟩) (u := ⟨ue, uP, us, uh, uf, uo⟩) (x := SideF.nil) (y := SideF.nil) h3 (by simp)).cell 0)
    clear hbs h3
    refine hK _ _ HS.out ?_
    clear hK K
    try simp only [Act.put, zq1, zq2, zq3]
    refine anyH_ready (rs := [9]) (by decide +kernel) (by simp) ?_
    refine AllReadyH.cons (o := { dst := some 34, op := .call { callee := .value (.func 8), args := #[.tmp 29, .tmp 30, .tmp 33], argTypes := #[27, 9, 40] }, type := _, pos := _, after := _, guard := none }) rfl (fun K hK => ?_) AllReadyH.nil
    go_simp
    refine HOF.out.mono ?_
    rintro e w3 ⟨rfl, P', hc⟩
    have HS : Hid (w3.cell? ⟨p, 0, none⟩ = some (.pointer (some ⟨ze, 0, none⟩))) := hI ((restR_blk (p := p) (z := ⟨ze, zP, zs, zh, zf, zo⟩) (u := ⟨ue, uP, us, uh, uf, uo⟩) (x := SideF.nil) (y := SideF.nil) hc (by simp)).cell 0)
    have h4 := hc.front (m := [_, _, _, _, _]) (l := [.base w]) [0, 3, 1, 4, 2] 5 (by decide)
    have h5 : Hold w3 (pairR p q mp t0 (memS E0) SideF.nil :: .row (.slice (some ⟨wd.heap.size, 0, none⟩) sz sz) (List.replicate sz 0) :: [.base w]) := pairR_back (x := SideF.nil) (y := SideF.nil) (E := E0) (G := EndW.nil) (z := ⟨ze, zP, zs, zh, zf, zo⟩) (u := ⟨ue, uP, us, uh, uf, uo⟩) (P1 := P') (P2 := uP) h4
    have HC := hI h5.swap.tail
    clear hc h4 h5 HOF
    refine hK _ _ HS.out ?_
    clear hK K
    try simp only [Act.put, zq1, zq2, zq3]
    refine tkH 10 24 none (.tuple #[.int .i64 id0, .int .i64 er0]) rfl (by kernel_rfl) (fun _ _ _ h => h) (by rfl) (by intro W hW; go_simp) HS.out ?_
    simp only [Act.put, zq1, zq2, zq3]
    refine tkH 11 35 none (.int .i64 id0) rfl (by kernel_rfl) (fun _ _ _ h => h) (by rfl) (by intro W hW; go_simp) HS.out ?_
    simp only [Act.put, zq1, zq2, zq3]
    refine tkH 12 36 none (.int .i64 er0) rfl (by kernel_rfl) (fun _ _ _ h => h) (by rfl) (by intro W hW; go_simp) HS.out ?_
    simp only [Act.put, zq1, zq2, zq3]
    refine tkH 13 8 none (.int .i64 id0) rfl (by kernel_rfl) (fun _ _ _ h => h) (by rfl) (by intro W hW; go_simp) HS.out ?_
    simp only [Act.put, zq1, zq2, zq3]
    refine tkH 14 9 none (.int .i64 er0) rfl (by kernel_rfl) (fun _ _ _ h => h) (by rfl) (by intro W hW; go_simp) HS.out ?_
    simp only [Act.put, zq1, zq2, zq3]
    refine wpAnyH_done (by decide +kernel) ?_ _
    clear HS HR HMK
    go_wp2_with fail
    refine (HRW.out _).mono ?_
    rintro e w4 ⟨rfl, rfl⟩
    by_cases hr : rightB ti = true
    · rw [hr]
      have hand := HAN.out
      by_cases hbig : 2048 < sz
      · have hbi : (2048 : Int) < (sz : Int) := by omega
        have he : er0 = 20 ∧ id0 = 0 := by
          have h1 := HOE.out
          rw [offerW, if_neg (by simp [hr]), if_pos (by simpa using hbig)] at h1
          simp only [Prod.mk.injEq] at h1
          exact ⟨h1.2.2.2.symm, h1.2.2.1.symm⟩
        obtain ⟨rfl, rfl⟩ := he
        clear hr hbig HOE
        go_wp2_with fail
        go_ret
        exact ⟨rfl, HC.out.baseOf (w0 := w) (by simp)⟩
      · have hbi : ¬ ((2048 : Int) < (sz : Int)) := by omega
        have hadd := offerW_add (t := []) (E := EndW.nil) (title := ti) (b := List.replicate sz 0) hr (by simpa using Nat.le_of_not_lt hbig) (by decide) (by decide)
        have h1 := HOE.out
        rw [hadd] at h1
        simp only [Prod.mk.injEq] at h1
        obtain ⟨g1, g2, g3, g4⟩ := h1
        have hq1 : Qk 1 E0 := by rw [← g2]; exact Qk.nil.add hr
        obtain ⟨x0, hx0, hok0⟩ : ∃ x0 : SideF, x0.app = E0 ∧ Ok 2 65 t0 x0 SideF.nil := by
          have h2 := Ok.nil.offer (s := ti) (b := List.replicate sz 0) (by omega) (by decide)
          refine ⟨(offerS [] SideF.nil ti (List.replicate sz 0)).2, ?_, ?_⟩
          · show (offerW [] EndW.nil ti (List.replicate sz 0)).2.1 = E0
            rw [HOE.out]
          · have h3 : (offerS [] SideF.nil ti (List.replicate sz 0)).1 = t0 := by
              show (offerW [] EndW.nil ti (List.replicate sz 0)).1 = t0
              rw [HOE.out]
            rw [h3] at h2
            exact h2
        have HQ := hI hq1
        have HK := hI hok0
        have hid1 : id0 = 1 := by rw [← g3]; rfl
        subst hid1 g4
        have HC : Hid (Hold w3 (pairR p q mp t0 (memS x0.app) (memS SideF.nil.app) :: [.base w])) := hI (by rw [hx0]; exact HC.out)
        rw [← hx0] at HQ
        clear g1 g2 g3 hq1 hok0 hadd hr hbig HOE hx0
        go_wp2_with fail
        go_loopw [55] (fun v wr => ∃ (i : Nat) (t : Sums) (x : SideF), i ≤ 5 ∧ v = .int .i64 i ∧ Qk (min (i + 1) 4) x.app ∧ Ok (2 + 2 * i) (65 + 65 * i) t x SideF.nil ∧ Hold wr (pairR p q mp t (memS x.app) (memS SideF.nil.app) :: [.base w])) (fun v _ => 5 - (intOf v).toNat)
        case atStart => exact ⟨0, t0, x0, by omega, rfl, HQ.out, HK.out, HC.out⟩
        case round =>
          clear HQ HK HC
          obtain ⟨i, t, x, hi, rfl, hq, hok, hr⟩ := hrel
          by_cases hlt : i < 5
          · have hi5 : (i : Int) < 5 := by omega
            obtain ⟨ze, c0, hof⟩ := offer_f hok (by omega) hr
            unfold fB at hof
            have HOF := hI hof
            have HQ := hI hq
            have HOK := hI hok
            by_cases h3 : i < 3
            · have hi3 : (i : Int) < 3 := by omega
              have hmin : min (i + 1) 4 = i + 1 := by omega
              have hadd : Hid (offerW t x.app ⟨#[102]⟩ [] = (digT t [], addW t x.app ⟨#[102]⟩ [], ((x.app.id + 1 : Nat) : Int), 0)) := hI (offerW_add (by decide +kernel) (by decide) (by rw [HQ.out.live]; omega) (by rw [HQ.out.len]; omega))
              have HN : Hid (Qk (min (i + 1 + 1) 4) (addW t x.app ⟨#[102]⟩ [])) := hI (by
                have := HQ.out.add (t := t) (title := ⟨#[102]⟩) (b := []) (by decide +kernel)
                rw [hmin] at this
                rw [show min (i + 1 + 1) 4 = i + 1 + 1 from by omega]
                exact this)
              obtain ⟨x2, hx2, hok2⟩ : ∃ x2 : SideF, x2.app = addW t x.app ⟨#[102]⟩ [] ∧ Ok (2 + 2 * (i + 1)) (65 + 65 * (i + 1)) (digT t []) x2 SideF.nil := by
                have h2 := HOK.out.offer (s := ⟨#[102]⟩) (b := []) (by decide) (by omega)
                refine ⟨(offerS t x ⟨#[102]⟩ []).2, ?_, ?_⟩
                · show (offerW t x.app ⟨#[102]⟩ []).2.1 = _
                  rw [hadd.out]
                · have h3 : (offerS t x ⟨#[102]⟩ []).1 = digT t [] := by
                    show (offerW t x.app ⟨#[102]⟩ []).1 = _
                    rw [hadd.out]
                  rw [h3] at h2
                  exact h2.mono (by omega) (by omega)
              have HK2 := hI hok2
              have HX2 := hI hx2
              rw [hadd.out] at HOF
              clear hof hq hok hr hmin hx2 hok2
              go_wp2_with fail
              refine HOF.out.mono ?_
              rintro e w5 ⟨rfl, hc⟩
              have HC := hI hc
              clear hc HOF c0
              go_wp2_with fail
              go_roundw
              case rel => exact ⟨i + 1, digT t [], x2, by omega, by go_num, by rw [HX2.out]; exact HN.out, HK2.out, by rw [HX2.out]; exact HC.out⟩
              case measure => simp [intOf]; omega
            · have hi3 : ¬ ((i : Int) < 3) := by omega
              have hi3d : decide ((i : Int) < 3) = false := by simpa using hi3
              have hfull : Hid (offerW t x.app ⟨#[102]⟩ [] = (t, x.app, 0, 19)) := hI (offerW_full (by decide +kernel) (by decide) (by rw [HQ.out.live]; omega))
              rw [hfull.out] at HOF
              have HN : Hid (Qk (min (i + 1 + 1) 4) x.app) := hI (by
                have := HQ.out
                rw [show min (i + 1) 4 = 4 from by omega] at this
                rw [show min (i + 1 + 1) 4 = 4 from by omega]
                exact this)
              clear hof hq hok hr
              go_wp2_with fail
              refine HOF.out.mono ?_
              rintro e w5 ⟨rfl, hc⟩
              have HC := hI hc
              clear hc HOF c0
              go_wp2_with fail
              go_roundw
              case rel => exact ⟨i + 1, t, x, by omega, by go_num, HN.out, HOK.out.mono (by omega) (by omega), HC.out⟩
              case measure => simp [intOf]; omega
          · obtain rfl : i = 5 := by omega
            have HQ : Hid (Qk 4 x.app) := hI hq
            have HOK := hI hok
            have HC := hI hr
            clear hq hok hr hlt hi
            go_wp2_with fail
            go_loopg [] 4 (fun g wr => ∃ (j : Nat) (t : Sums) (x y : SideF), j + g = 4 ∧ Rj j x.app y.app ∧ liveN (x.app.outs.map fun z => z.2.st) = 4 ∧ x.app.id = 4 ∧ Ok (12 + 2 * j) 1000 t x y ∧ Hold wr (pairR p q mp t (memS x.app) (memS y.app) :: [.base w]))
            case atStart => exact ⟨0, t, x, SideF.nil, rfl, HQ.out.start, HQ.out.live, HQ.out.id, HOK.out.mono (by omega) (by omega), HC.out⟩
            case round =>
              clear HQ HOK HC
              obtain ⟨j, t, x, y, hj, hR, hl4, hi4, hok, hr⟩ := hrel
              have HM := hI (move0_any p q mp t (memS x.app) (memS y.app) _ wr hr (hok.mv (by omega)))
              rw [moveW_mem] at HM
              by_cases h4 : j < 4
              · obtain ⟨b1, b2, b3⟩ := hR.move (t := t) h4
                have hok2 := (hok.move (by omega)).2.1
                rw [b1] at HM
                have HOK : Hid (Ok (12 + 2 * (j + 1)) 1000 (moveW t x y).1 (moveW t x y).2.1 (moveW t x y).2.2.1) := hI (by
                  rcases hok2 with ⟨_, _, h⟩ | ⟨h, _⟩
                  · exact h.mono (by omega) (by omega)
                  · rw [h] at b1
                    simp at b1)
                have HR2 := hI b2
                have HL4 : Hid (liveN ((moveW t x y).2.1.app.outs.map fun z => z.2.st) = 4 ∧ (moveW t x y).2.1.app.id = 4) := hI ⟨by rw [b3.outs]; exact hl4, by rw [b3.id]; exact hi4⟩
                obtain ⟨g2, hg2⟩ : ∃ g2, gk = g2 + 1 := ⟨gk - 1, by omega⟩
                subst hg2
                clear hR hl4 hi4 hok hr hok2 b1 b2 b3
                go_wp2_with fail
                refine HM.out.mono ?_
                rintro e w5 ⟨rfl, hc⟩
                have HC := hI hc
                clear hc HM
                go_wp2_with fail
                go_roundg g2
                case measure => omega
                case rel => exact ⟨j + 1, _, _, _, by omega, HR2.out, HL4.out.1, HL4.out.2, HOK.out, HC.out⟩
              · obtain rfl : j = 4 := by omega
                rw [hR.stop] at HM
                have HR := hI hR
                have HL4 := hI hl4
                have HI4 := hI hi4
                have HOK := hI hok
                have hk3 : bits .and .i64 n 3 = n % 4 := i64_and3q n
                have hk5 : IntKind.i64.wrap (1 + n % 4) = 1 + n % 4 := by rw [IntKind.wrap_i64]; omega
                obtain ⟨kk, hkk⟩ : ∃ kk : Nat, (kk : Int) = 1 + n % 4 := ⟨(1 + n % 4).toNat, by omega⟩
                have hkb : 1 ≤ kk ∧ kk ≤ 4 := by omega
                have HKK := hI hkk
                clear hR hl4 hi4 hok hr h4 hj hkk hk5
                go_wp2_with fail
                refine HM.out.mono ?_
                rintro e w5 ⟨rfl, hc⟩
                have HC := hI hc
                clear hc HM
                have hRo := HR.out
                obtain ⟨a1, a2, a3⟩ := hRo.no (t := t) (k := (kk : Int)) (by omega) (by omega)
                have hok := HOK.out
                obtain ⟨ue, c1, han⟩ := answer_no (k := (kk : Int)) hok (by omega) (by omega) HC.out
                rw [a2] at han
                obtain ⟨F2, hF2⟩ : ∃ F2 : EndW, F2 = { y.app with ins := setV y.app.ins (kk : Int) (inRefuse (getV y.app.ins (kk : Int) InF.nil)).1, waits := y.app.waits ++ [.answer (kk : Int).toNat 0] } := ⟨_, rfl⟩
                rw [← hF2] at han a2 a3
                obtain ⟨y2, hy2, hok2⟩ : ∃ y2 : SideF, y2.app = F2 ∧ Ok 22 2000 t x y2 := by
                  have h2 := (hok.symm.answer (kk : Int) false (by omega)).1
                  refine ⟨(answerS t y (kk : Int) false).2, ?_, ?_⟩
                  · show (answerW t y.app (kk : Int) false).2.1 = F2
                    rw [a2]
                  · have h3 : (answerS t y (kk : Int) false).1 = t := by
                      show (answerW t y.app (kk : Int) false).1 = t
                      rw [a2]
                    rw [h3] at h2
                    exact h2.symm.mono (by omega) (by omega)
                have HHAN := hI han
                have HA3 := hI a3
                have HK2 := hI hok2
                have HY2 := hI hy2
                have HF2 : Hid (y2.app.waits = [.answer kk 0] ∧ y2.app.outs = []) := hI (by
                  rw [hy2, hF2]
                  exact ⟨by show y.app.waits ++ _ = _; rw [hRo.fw]; rfl, hRo.fo⟩)
                have HX4 : Hid (x.app.waits = [] ∧ hasV x.app.outs (kk : Int) = true ∧ (getV x.app.outs (kk : Int) OutF.nil).st = 0) := hI ⟨List.eq_nil_of_length_eq_zero (by have := hRo.len; omega), (hasV_ids hok.both.a.okeys _).2 (by rw [HI4.out]; omega), hRo.st0 _⟩
                clear hRo a1 a2 a3 hok han hF2 hok2 hy2 HC
                go_wp2_with fail
                rw [← HKK.out]
                refine HHAN.out.mono ?_
                rintro e w6 ⟨rfl, hc⟩
                have hc2 : Hold w6 (pairR p q mp t (memS x.app) (memS y2.app) :: [.base w]) := by rw [HY2.out]; exact hc
                obtain ⟨ue2, c2, han2⟩ := answer_no (k := (kk : Int)) HK2.out (by omega) (by omega) hc2
                rw [HY2.out, HA3.out] at han2
                have HHAN2 := hI han2
                clear hc hc2 han2 HHAN c1
                go_wp2_with fail
                refine HHAN2.out.mono ?_
                rintro e w7 ⟨rfl, hc⟩
                have HC : Hid (Hold w7 (pairR p q mp t (memS x.app) (memS y2.app) :: [.base w])) := hI (by rw [HY2.out]; exact hc)
                clear hc HHAN2 c2
                go_wp2_with fail
                go_loopg [] 1 (fun g wr => ∃ (nn pp : Nat) (t : Sums) (x y : SideF), nn + 2 * g ≤ 100 ∧ Ok nn pp t x y ∧ Hold wr (pairR p q mp t (memS x.app) (memS y.app) :: [.base w]) ∧ y.app.outs = [] ∧ x.app.id = 4 ∧ x.app.waits = [] ∧
                  (g = 1 ∧ y.app.waits = [.answer kk 0] ∧ hasV x.app.outs (kk : Int) = true ∧ (getV x.app.outs (kk : Int) OutF.nil).st = 0 ∧ liveN (x.app.outs.map fun z => z.2.st) = 4 ∨ g = 0 ∧ y.app.waits = [] ∧ liveN (x.app.outs.map fun z => z.2.st) = 3))
                case atStart => exact ⟨22, 2000, t, x, y2, by omega, HK2.out, HC.out, HF2.out.2, HI4.out, HX4.out.1, .inl ⟨rfl, HF2.out.1, HX4.out.2.1, HX4.out.2.2, HL4.out⟩⟩
                case round =>
                  clear HK2 HC HF2 HI4 HX4 HL4 HR HOK HY2 HA3 HKK
                  obtain ⟨nn, pp, t, x, y, hnn, hok, hr, q1, q2, q3, hcase⟩ := hrel
                  have HM := hI (move1_any p q mp t (memS y.app) (memS x.app) _ wr hr (hok.symm.mv (by omega)))
                  rw [moveW_mem] at HM
                  rcases hcase with ⟨rfl, r1, r2, r3, r4⟩ | ⟨rfl, r1, r4⟩
                  · obtain ⟨b1, b2, b3, b4, b5, b6, b7⟩ := no_move (t := t) r2 r3 r1 r4
                    have hok2 := (hok.symm.move (by omega)).2.1
                    rw [b1] at HM
                    have HOK : Hid (Ok (nn + 2) pp (moveW t y x).1 (moveW t y x).2.2.1 (moveW t y x).2.1) := hI (by
                      rcases hok2 with ⟨_, _, h⟩ | ⟨h, _⟩
                      · exact h.symm.mono (by omega) (by omega)
                      · rw [h] at b1
                        simp at b1)
                    have HB := hI (And.intro (b4.trans q1) (And.intro (b6.trans q2) (And.intro (b7.trans q3) (And.intro b3 b5))))
                    clear hok hr q1 q2 q3 r1 r2 r3 r4 b1 b2 b3 b4 b5 b6 b7 hok2
                    go_wp2_with fail
                    refine HM.out.mono ?_
                    rintro e w8 ⟨rfl, hc⟩
                    have HC := hI hc
                    clear hc HM
                    go_wp2_with fail
                    go_roundg 0
                    case measure => decide
                    case rel => exact ⟨nn + 2, pp, _, _, _, by omega, HOK.out, HC.out, HB.out.1, HB.out.2.1, HB.out.2.2.1, .inr ⟨rfl, HB.out.2.2.2.1, HB.out.2.2.2.2⟩⟩
                  · rw [quiet_stop r1 q1] at HM
                    have HOK := hI hok
                    have HL3 := hI r4
                    have HID := hI q2
                    have hadd : Hid (offerW t x.app ⟨#[102]⟩ [] = (digT t [], addW t x.app ⟨#[102]⟩ [], 5, 0)) := hI (by
                      have := offerW_add (t := t) (E := x.app) (title := ⟨#[102]⟩) (b := []) (by decide +kernel) (by decide) (by rw [r4]; decide) (by rw [q3]; decide)
                      rw [q2] at this
                      exact this)
                    obtain ⟨x2, hx2, hok2⟩ : ∃ x2 : SideF, x2.app = addW t x.app ⟨#[102]⟩ [] ∧ Ok (nn + 2) (pp + 65) (digT t []) x2 y := by
                      have h2 := hok.offer (s := ⟨#[102]⟩) (b := []) (by decide) (by omega)
                      refine ⟨(offerS t x ⟨#[102]⟩ []).2, ?_, ?_⟩
                      · show (offerW t x.app ⟨#[102]⟩ []).2.1 = _
                        rw [hadd.out]
                      · have h3 : (offerS t x ⟨#[102]⟩ []).1 = digT t [] := by
                          show (offerW t x.app ⟨#[102]⟩ []).1 = _
                          rw [hadd.out]
                        rw [h3] at h2
                        exact h2
                    have HK2 := hI hok2
                    have HX2 := hI hx2
                    have hfull : Hid (offerW (digT t []) x2.app ⟨#[102]⟩ [] = (digT t [], x2.app, 0, 19)) := hI (offerW_full (by decide +kernel) (by decide) (by
                      rw [HX2.out]
                      show liveN ((x.app.outs ++ _).map _) = 4
                      rw [List.map_append]
                      have := liveN_snoc (x.app.outs.map fun z => z.2.st) 0
                      rw [HL3.out] at this
                      exact this))
                    clear hok hr q1 q2 q3 r1 r4 hx2 hok2
                    go_wp2_with fail
                    refine HM.out.mono ?_
                    rintro e w8 ⟨rfl, hc⟩
                    obtain ⟨zf, c3, hof⟩ := offer_f HOK.out (by omega) hc
                    unfold fB at hof
                    rw [hadd.out] at hof
                    have HOF := hI hof
                    clear hc hof HM
                    go_wp2_with fail
                    refine HOF.out.mono ?_
                    rintro e w9 ⟨rfl, hc⟩
                    have hc2 : Hold w9 (pairR p q mp (digT t []) (memS x2.app) (memS y.app) :: [.base w]) := by rw [HX2.out]; exact hc
                    obtain ⟨zf2, c4, hof2⟩ := offer_f HK2.out (by omega) hc2
                    unfold fB at hof2
                    rw [hfull.out] at hof2
                    have HOF2 := hI hof2
                    clear hc hc2 hof2 HOF c3
                    go_wp2_with fail
                    refine HOF2.out.mono ?_
                    rintro e w10 ⟨rfl, hc⟩
                    have HB10 := hI (hc.baseOf (w0 := w) (by simp))
                    clear hc HOF2 c4
                    go_wp2_with fail
                    go_ret
                    exact ⟨rfl, HB10.out⟩
    · have hrf : rightB ti = false := by simpa using hr
      rw [hrf]
      have he : er0 = 6 ∧ id0 = 0 := by
        have h1 := HOE.out
        rw [offerW, if_pos hrf] at h1
        simp only [Prod.mk.injEq] at h1
        exact ⟨h1.2.2.2.symm, h1.2.2.1.symm⟩
      obtain ⟨rfl, rfl⟩ := he
      clear hr hrf HOE
      go_wp2_with fail
      go_ret
      exact ⟨rfl, HC.out.baseOf (w0 := w) (by simp)⟩
end Go.Proofs.Ytiplepdmkbiehaa
namespace Go.Proofs.Ytiplepdmkbiehaa.appQuotas
open Go.ChangeShapes Go.WideShapes Go.ChangeAt Go.RowKit
open Go.ChangeMaps (open_string shut_string)
set_option linter.unusedVariables false
set_option maxRecDepth 100000 in
theorem contract (H : Type) (enc : TypeId × Value → H) (W : World) (base : Nat) (args : Array Value) (ds gs : List (DataW H)) (before : List MemPlace)
    (hval0 : ∀ (j : Nat) t v, Try.f3.params[j]? = some t → args[j]? = some v → Value.okWide Try.prog W .any base t v)
    (hW : DataW.Whole enc Try.prog Try.f3.params.toList Rows.appQuotasSpec.vars false W args.toList ds gs before) :
    Calls Try.prog 3 args W fun e W' => ∃ v, e = .returned v ∧ Rows.appQuotasSpec.post enc Try.prog Try.f3 false true false false W args v W' := by
  have hval := hval0
  have hW' := hW
  obtain ⟨p, q, hA0, hV, rfl, hfz, hnd⟩ := hW
  have hA : DataW.TrodAll enc Try.prog W 0 (fun _ => true) true Try.f3.params.toList args.toList ds p := hA0
  rw [Try.params3] at hA hval
  obtain ⟨v0, vs0, d0, ds0, p0, q0, hargs, rfl, rfl, h0, r0⟩ := trodAll_cons hA
  obtain ⟨v1, vs1, d1, ds1, p1, q1, rfl, rfl, rfl, h1, r1⟩ := trodAll_cons r0
  obtain ⟨v2, vs2, d2, ds2, p2, q2, rfl, rfl, rfl, h2, r2⟩ := trodAll_cons r1
  obtain ⟨rfl, rfl, rfl⟩ := trodAll_nil r2
  obtain rfl : args = #[v0, v1, v2] := by cases args; simp_all
  obtain ⟨rfl, rfl⟩ := trodVars_none hV
  have hcall : Calls Try.prog 3 #[v0, v1, v2] W fun e W' => e = .returned (.bool true) ∧ Below W.heap.size W W' := by
    obtain ⟨s, rfl, rfl, rfl, hs⟩ := open_string Try.underlying9 (hval 0 _ v0 rfl rfl) h0
    obtain ⟨a1, rfl, rfl, rfl, w1⟩ := open_int Try.underlying3 (hval 1 _ v1 rfl rfl) h1
    obtain ⟨a2, rfl, rfl, rfl, w2⟩ := open_int Try.underlying3 (hval 2 _ v2 rfl rfl) h2
    exact appQuotas_go s a1 a2 W hs
  refine hcall.mono fun e W' ⟨he, bel⟩ => ?_
  subst he
  exact ⟨_, rfl, _, _, _, [], _, [], hW', trodAll_mk1 (shut_bool Try.underlying4 _), trodAll_below rowLaidOut bel (by kernel_rfl) hA0, rfl, bel.frame _, fun h => by cases h⟩
set_option maxRecDepth 100000 in
theorem lifted (os : Os) (started : os.Started) (H : Type) (enc : TypeId × Value → H) :
    ReturnsInHanded {} Try.checked os 3 .any (Rows.appQuotasSpec.pre6 enc Try.prog Try.f3 Rows.appQuotasRow.domain false) (Rows.appQuotasSpec.post enc Try.prog Try.f3 false true false false) := by
  refine returnsInHanded_of_change (C := Try.checked) rowOwn started (by kernel_rfl) Try.func3
    (ChangeSpec.witness6 (enc := enc) (C := Try.checked) false ⟨#[], #[.string ⟨#[]⟩, .int .i64 0, .int .i64 0], []⟩ 8 (by kernel_rfl) (by kernel_rfl) (by kernel_rfl) (by kernel_rfl)) ?_
  intro W base args ds gs before hval hW _ _
  exact contract H enc W base args ds gs before hval hW
theorem over : Rows.appQuotasRow.holds Try.pinned (OpenSpec.ofChange Rows.appQuotasSpec) :=
  OpenClaim.holds_of_wide 3 Try.f3 rfl rfl rfl rfl rfl rfl rfl ⟨rfl, rfl, rfl, rfl, rfl⟩ rfl rfl rfl rfl rfl (by kernel_rfl) Try.func3 (by kernel_rfl)
    (of_decide_eq_true (by kernel_rfl)) (by unfold Func.isWrapper; first | (rw [if_pos (by decide +kernel)]; kernel_rfl) | (rw [if_neg (by decide +kernel)]; exact ⟨rfl, rfl⟩))
    (fun os started H enc _ => lifted os started H enc)
/-- THE STATEMENT. -/
theorem proved : Rows.AppQuotasSaid := over
end Go.Proofs.Ytiplepdmkbiehaa.appQuotas
