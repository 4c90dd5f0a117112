/- Texts of this proof, one behind the other: AppMv. -/
import Derived.Test.YtiplepdmkbiehaaAeA8
namespace Go.Proofs.Ytiplepdmkbiehaa
set_option linter.unusedSimpArgs false
set_option linter.unusedVariables false
open Go.RowKit Go.Maps Go.MapKept Go.WideMaps
/-- As pairR_two, with the second end first. -/
theorem pairR_twoS {W : World} {p q : Nat} {mp : Value} {t : List (List UInt8)} {x y : SideF} {l : List Res} (h : Hold W (pairR p q mp t y x :: l)) : ∃ z u,
    Hold W (appR z.e q z.P x.app.app :: appR u.e q u.P y.app.app :: tabR q (.slice none 0 0) (.slice none 0 0) mp t :: restR p u z y x :: l) := by
  obtain ⟨u, z, h⟩ := pairR_two h
  exact ⟨z, u, h.swap⟩
theorem pairR_backS {W : World} {p q : Nat} {mp : Value} {t : List (List UInt8)} {x y : SideF} {E G : EndW} {P1 P2 : List Nat × List Nat} {z u : SideP} {l : List Res} (h : Hold W (appR z.e q P1 E.app :: appR u.e q P2 G.app :: tabR q (.slice none 0 0) (.slice none 0 0) mp t :: restR p u z y x :: l)) :
    Hold W (pairR p q mp t { y with app := G } { x with app := E } :: l) := pairR_back h.swap
set_option maxRecDepth 100000 in
set_option maxHeartbeats 2000000 in
theorem move0_any (p q : Nat) (mp : Value) (t : Sums) (x y : SideF) (l : List Res) (w : World) (h : Hold w (pairR p q mp t x y :: l)) (hok : MvOk t x.app y.app) :
    Calls Try.prog 10 #[.pointer (some ⟨p, 0, none⟩), .int .i64 0] w fun e w' => e = .returned (.bool (moveW t x y).2.2.2) ∧ Hold w' (pairR p q mp (moveW t x y).1 (moveW t x y).2.1 (moveW t x y).2.2.1 :: l) := by
  obtain ⟨z, u, h⟩ := pairR_two h
  have hb := restR_blk (p := p) (z := z) (u := u) (x := x) (y := y) h (by simp)
  have c0 : w.cell? ⟨p, 0, none⟩ = some (.pointer (some ⟨z.e, 0, none⟩)) := hb.cell 0
  have HN := hI (appNext_any z.e q z.P x.app.app _ w h hok.outs (by have := hok.id; show x.app.id ≤ _; omega))
  rw [nextW_eq] at HN
  have HWD := hI hok.wd
  have HOK := hI hok
  have hxe : Hid (moveW t x y = match (nextW x.app).2 with
    | some wd => ((takeW t y.app wd).1, { x with app := (nextW x.app).1 }, { y with app := (takeW t y.app wd).2 }, true)
    | none => (t, { x with app := (nextW x.app).1 }, y, false)) := hI rfl
  obtain ⟨M, hM⟩ : ∃ M, M = moveW t x y := ⟨_, rfl⟩
  rw [← hM] at hxe ⊢
  clear hM
  obtain ⟨nx, hnx⟩ : ∃ nx, nx = nextW x.app := ⟨_, rfl⟩
  rw [← hnx] at HN HWD hxe
  obtain ⟨E, o⟩ := nx
  clear h hb hnx hok
  cases o with
  | none =>
    go_enter Try.func10, Try.ntmps10
    go_wp2_with ((with_reducible show Calls _ _ #[_] _ _); refine HN.out.mono ?_)
    rintro e w2 ⟨rfl, hc⟩
    have HC := hI hc
    clear hc
    go_wp2_with fail
    go_ret
    rw [hxe.out]
    exact ⟨rfl, pairR_back HC.out⟩
  | some wd =>
    go_enter Try.func10, Try.ntmps10
    go_wp2_with ((with_reducible show Calls _ _ #[_] _ _); refine HN.out.mono ?_)
    rintro e w2 ⟨v, rfl, hc⟩
    have hr : Bs w2 v wd.enc := hc.row0
    have hc2 := hc.tail
    have hb := restR_blk (p := p) (z := z) (u := u) (x := x) (y := y) hc2 (by simp)
    have c1 : w2.cell? ⟨p, 1, none⟩ = some (.pointer (some ⟨u.e, 0, none⟩)) := hb.cell 1
    have HT := hI (appTake_word u.e q u.P (.slice none 0 0) (.slice none 0 0) mp t y.app.app wd v _ w2 (hc2.pull3.pull3) hr (HWD.out wd rfl) HOK.out.app HOK.out.tl)
    rw [takeW_eq] at HT
    obtain ⟨va, vc, hvf, -, -⟩ := hr.form
    subst hvf
    clear hc hr hc2 hb
    go_wp2_with ((with_reducible show Calls _ _ #[_, _] _ _); refine HT.out.mono ?_)
    rintro e w3 ⟨⟨n3, rfl⟩, P', hc⟩
    have HC := hI hc
    clear hc
    go_wp2_with fail
    go_ret
    rw [hxe.out]
    exact ⟨rfl, pairR_back HC.out.pull3⟩
set_option maxRecDepth 100000 in
set_option maxHeartbeats 2000000 in
theorem move1_any (p q : Nat) (mp : Value) (t : Sums) (x y : SideF) (l : List Res) (w : World) (h : Hold w (pairR p q mp t y x :: l)) (hok : MvOk t x.app y.app) :
    Calls Try.prog 10 #[.pointer (some ⟨p, 0, none⟩), .int .i64 1] w fun e w' => e = .returned (.bool (moveW t x y).2.2.2) ∧ Hold w' (pairR p q mp (moveW t x y).1 (moveW t x y).2.2.1 (moveW t x y).2.1 :: l) := by
  obtain ⟨z, u, h⟩ := pairR_twoS h
  have hb := restR_blk (p := p) (z := u) (u := z) (x := y) (y := x) h (by simp)
  have c0 : w.cell? ⟨p, 1, none⟩ = some (.pointer (some ⟨z.e, 0, none⟩)) := hb.cell 1
  have HN := hI (appNext_any z.e q z.P x.app.app _ w h hok.outs (by have := hok.id; show x.app.id ≤ _; omega))
  rw [nextW_eq] at HN
  have HWD := hI hok.wd
  have HOK := hI hok
  have hxe : Hid (moveW t x y = match (nextW x.app).2 with
    | some wd => ((takeW t y.app wd).1, { x with app := (nextW x.app).1 }, { y with app := (takeW t y.app wd).2 }, true)
    | none => (t, { x with app := (nextW x.app).1 }, y, false)) := hI rfl
  obtain ⟨M, hM⟩ : ∃ M, M = moveW t x y := ⟨_, rfl⟩
  rw [← hM] at hxe ⊢
  clear hM
  obtain ⟨nx, hnx⟩ : ∃ nx, nx = nextW x.app := ⟨_, rfl⟩
  rw [← hnx] at HN HWD hxe
  obtain ⟨E, o⟩ := nx
  clear h hb hnx hok
  cases o with
  | none =>
    go_enter Try.func10, Try.ntmps10
    go_wp2_with ((with_reducible show Calls _ _ #[_] _ _); refine HN.out.mono ?_)
    rintro e w2 ⟨rfl, hc⟩
    have HC := hI hc
    clear hc
    go_wp2_with fail
    go_ret
    rw [hxe.out]
    exact ⟨rfl, pairR_backS HC.out⟩
  | some wd =>
    go_enter Try.func10, Try.ntmps10
    go_wp2_with ((with_reducible show Calls _ _ #[_] _ _); refine HN.out.mono ?_)
    rintro e w2 ⟨v, rfl, hc⟩
    have hr : Bs w2 v wd.enc := hc.row0
    have hc2 := hc.tail
    have hb := restR_blk (p := p) (z := u) (u := z) (x := y) (y := x) hc2 (by simp)
    have c1 : w2.cell? ⟨p, 0, none⟩ = some (.pointer (some ⟨u.e, 0, none⟩)) := hb.cell 0
    have HT := hI (appTake_word u.e q u.P (.slice none 0 0) (.slice none 0 0) mp t y.app.app wd v _ w2 (hc2.pull3.pull3) hr (HWD.out wd rfl) HOK.out.app HOK.out.tl)
    rw [takeW_eq] at HT
    obtain ⟨va, vc, hvf, -, -⟩ := hr.form
    subst hvf
    clear hc hr hc2 hb
    go_wp2_with ((with_reducible show Calls _ _ #[_, _] _ _); refine HT.out.mono ?_)
    rintro e w3 ⟨⟨n3, rfl⟩, P', hc⟩
    have HC := hI hc
    clear hc
    go_wp2_with fail
    go_ret
    rw [hxe.out]
    exact ⟨rfl, pairR_backS HC.out.pull3⟩
end Go.Proofs.Ytiplepdmkbiehaa
