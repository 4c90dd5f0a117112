/- The law AppPlays returns true for all rows of steps: no conditions. (Behind the texts of AppEnds, whose contracts it uses.) -/
import Derived.Test.YtiplepdmkbiehaaAeA13
namespace Go.Proofs.Ytiplepdmkbiehaa
set_option linter.unusedSimpArgs false
set_option linter.unusedVariables false
open Go.RowKit
theorem heard_any (p q : Nat) (mp : Value) (t : Sums) (x y : SideF) (l : List Res) (w : World) (h : Hold w (pairR p q mp t x y :: l)) (h1 : x.hear <+: y.said) (h2 : y.hear <+: x.said) :
    Calls Try.prog 15 #[.pointer (some ⟨p, 0, none⟩)] w fun e w' => e = .returned (.bool true) ∧ Hold w' (pairR p q mp t x y :: l) :=
  (heard_drw p q mp t x y l w h h1 h2).mono (by rintro e w' ⟨rfl, k, rfl⟩; exact ⟨rfl, h.drewN k⟩)
set_option maxRecDepth 100000 in
set_option maxHeartbeats 8000000 in
theorem appPlays_go (v : Value) (l : List StX) (w : World) (h : Sl w 5 v l.length (l.map StX.cells).flatten) (hn : ∀ x ∈ l, x.In w) :
    Calls Try.prog 4 #[v] w fun e w' => e = .returned (.bool true) ∧ Below w.heap.size w w' := by
  obtain ⟨al, cl, rfl, hcl, hml⟩ := h.form
  have HSL := Lib.hid h
  have HN := Lib.hid hn
  unfold maxLen at hml
  clear h hn
  go_enter Try.func4, Try.ntmps4
  go_wp2_with fail
  refine (alive22_any w).mono ?_
  rintro e w1 ⟨rfl, hb1⟩
  have HC1 := Lib.hid ((Hold.start w).step hb1)
  have HBR := Lib.hid (brief_any (.slice al l.length cl) l w1 (HSL.out.below hb1) (fun x hx => ⟨(HN.out x hx).1.below hb1, (HN.out x hx).2⟩))
  clear hb1
  go_wp2_with fail
  refine HBR.out.mono ?_
  rintro e w2 ⟨b, rfl, hb2, hsm⟩
  have HC2 := Lib.hid (HC1.out.step hb2)
  clear hb2 HC1 HBR
  cases b with
  | false =>
    clear hsm
    go_wp2_with fail
    go_ret
    exact ⟨rfl, HC2.out.baseOf (w0 := w) (by simp)⟩
  | true =>
    obtain ⟨hl, hs⟩ := hsm rfl
    have HSM := Lib.hid hs
    clear hsm hs
    go_wp2_with fail
    refine (open_any _ _ HC2.out).mono ?_
    rintro e w3 ⟨p, q, mp, rfl, hc⟩
    have HC := Lib.hid hc
    clear hc HC2
    go_wp2_with fail
    go_loopw [14] (fun i wr => ∃ (k : Nat) (t : Sums) (x y : SideF), k ≤ l.length ∧ i = .int .i64 k ∧ StI (2 * k) (65 * k) k (1000000 * k) t x y ∧ Hold wr (pairR p q mp t x y :: [.base w])) (fun i _ => l.length - (intOf i).toNat)
    case atStart => exact ⟨0, [], SideF.nil, SideF.nil, Nat.zero_le _, rfl, StI.nil, HC.out⟩
    case round =>
      obtain ⟨k, t, x, y, hk, rfl, hSI, hr⟩ := hrel
      by_cases hlt : k < l.length
      · obtain ⟨e, he⟩ : ∃ e, e = l[k] := ⟨_, rfl⟩
        have hem : e ∈ l := by rw [he]; exact List.getElem_mem hlt
        obtain ⟨ab, cb, hxv, hcb, hmb⟩ := (HN.out e hem).1.form
        obtain ⟨bl, ol, hal, hcell⟩ := HSL.out.addr (by rw [HSL.out.1]; omega)
        subst hal
        have hbw := hr.baseOf (w0 := w) (by simp)
        have hel : ∀ (j : Nat) u, e.cells[j]? = some u → wr.cell? ⟨bl, ol + k * 5 + j, none⟩ = some u := by
          intro j u hj
          have hj' : j < 5 := by have := (List.getElem?_eq_some_iff.1 hj).1; simpa [StX.cells] using this
          have := hcell (k * 5 + j) u (by rw [flatC_at (n := 5) StX.cells l (fun _ _ => rfl) k j hlt hj', ← he]; exact hj)
          rw [Nat.add_assoc]
          exact below_cell hbw this
        have hin := HN.out e hem
        have hsm := HSM.out e hem
        obtain ⟨s, sv⟩ := e
        obtain ⟨xk, xa, xi, xt, xd⟩ := s
        simp only at hxv
        subst hxv
        have e0 := hel 0 (.int .i64 xk) rfl
        have e1 := hel 1 (.int .i64 xa) rfl
        have e2 := hel 2 (.int .i64 xi) rfl
        have e3 := hel 3 (.string xt) rfl
        have e4 := hel 4 (.slice ab xd.length cb) rfl
        rw [Nat.add_zero] at e0
        have hki : (k : Int) < l.length := by omega
        have HST := Lib.hid (step_pl p q mp t x y (2 * k) (65 * k) k (1000000 * k) ⟨xk, xa, xi, xt, xd⟩ (.slice ab xd.length cb) [.base w] _ (hr.alloc (.cells #[.int .i64 xk, .int .i64 xa, .int .i64 xi, .string xt, .slice ab xd.length cb] 48)) hSI (by omega) (by omega) (by omega) hsm.1 hsm.2 hin.2
          (fun W hW => hin.1.below (hW.baseOf (w0 := w) (by simp))))
        clear he hem hcell hel hbw hin hsm hSI hr HC hmb
        go_wp2_with fail
        refine HST.out.mono ?_
        rintro e w5 ⟨rfl, t', A, B, L, hc⟩
        have HL := Lib.hid L
        have H1 := Lib.hid (look1_pl p q mp t' A B _ _ _ _ _ w5 hc L (by omega))
        clear L hc HST e0 e1 e2 e3 e4
        go_wp2_with fail
        refine H1.out.mono ?_
        rintro e w6 ⟨rfl, hc⟩
        have H0 := Lib.hid (look0_pl p q mp t' A B _ _ _ _ _ w6 hc HL.out (by omega))
        clear hc H1
        go_wp2_with fail
        refine H0.out.mono ?_
        rintro e w7 ⟨rfl, hc⟩
        have HH := Lib.hid (heard_any p q mp t' (lookW A) (lookW B) _ w7 hc HL.out.nxt.heard.1 HL.out.nxt.heard.2)
        clear hc H0
        go_wp2_with fail
        refine HH.out.mono ?_
        rintro e w8 ⟨rfl, hc⟩
        have HC8 := Lib.hid hc
        clear hc HH
        go_wp2_with fail
        go_roundw
        case rel => exact ⟨k + 1, t', lookW A, lookW B, by omega, by go_num, HL.out.nxt.mono (by omega) (by omega) (Nat.le_refl _) (by omega), HC8.out⟩
        case measure => simp [intOf]; omega
      · obtain rfl : k = l.length := by omega
        have HB := Lib.hid (hr.baseOf (w0 := w) (by simp))
        clear hr hSI HC
        go_wp2_with fail
        go_ret
        exact ⟨rfl, HB.out⟩
end Go.Proofs.Ytiplepdmkbiehaa
namespace Go.Proofs.Ytiplepdmkbiehaa.appPlays
open Go.ChangeShapes Go.WideShapes Go.ChangeAt Go.RowKit
open Go.ChangeMaps (open_string shut_string)
set_option linter.unusedVariables false

set_option maxRecDepth 100000 in
theorem contract (H : Type) (enc : TypeId × Value → H) (W : World) (base : Nat) (args : Array Value) (ds gs : List (DataW H)) (before : List MemPlace)
    (hval0 : ∀ (j : Nat) t v, Try.f4.params[j]? = some t → args[j]? = some v → Value.okWide Try.prog W .any base t v)
    (hW : DataW.Whole enc Try.prog Try.f4.params.toList Rows.appPlaysSpec.vars false W args.toList ds gs before) :
    Calls Try.prog 4 args W fun e W' => ∃ v, e = .returned v ∧ Rows.appPlaysSpec.post enc Try.prog Try.f4 false true false false W args v W' := by
  have hval := hval0
  have hW' := hW
  obtain ⟨p, q, hA0, hV, rfl, hfz, hnd⟩ := hW
  have hA : DataW.TrodAll enc Try.prog W 0 (fun _ => true) true Try.f4.params.toList args.toList ds p := hA0
  rw [Try.params4] at hA hval
  obtain ⟨v0, vs0, d0, ds0, p0, q0, hargs, rfl, rfl, h0, r0⟩ := trodAll_cons hA
  obtain ⟨rfl, rfl, rfl⟩ := trodAll_nil r0
  obtain rfl : args = #[v0] := by cases args; simp_all
  obtain ⟨rfl, rfl⟩ := trodVars_none hV
  have hcall : Calls Try.prog 4 #[v0] W fun e W' => e = .returned (.bool true) ∧ Below W.heap.size W W' := by
    obtain ⟨l, hs, hin⟩ := open_steps (hval 0 _ v0 rfl rfl) h0
    exact appPlays_go v0 l W hs hin
  refine hcall.mono fun e W' ⟨he, bel⟩ => ?_
  subst he
  exact ⟨_, rfl, _, _, _, [], _, [], hW', trodAll_mk1 (shut_bool Try.underlying4 _), trodAll_below rowLaidOut bel (by kernel_rfl) hA0, rfl, bel.frame _, fun h => by cases h⟩

set_option maxRecDepth 100000 in
theorem lifted (os : Os) (started : os.Started) (H : Type) (enc : TypeId × Value → H) :
    ReturnsInHanded {} Try.checked os 4 .any (Rows.appPlaysSpec.pre6 enc Try.prog Try.f4 Rows.appPlaysRow.domain false) (Rows.appPlaysSpec.post enc Try.prog Try.f4 false true false false) := by
  refine returnsInHanded_of_change (C := Try.checked) rowOwn started (by kernel_rfl) Try.func4
    (ChangeSpec.witness6 (enc := enc) (C := Try.checked) false ⟨#[], #[.slice none 0 0], []⟩ 8 (by kernel_rfl) (by kernel_rfl) (by kernel_rfl) (by kernel_rfl)) ?_
  intro W base args ds gs before hval hW _ _
  exact contract H enc W base args ds gs before hval hW

theorem over : Rows.appPlaysRow.holds Try.pinned (OpenSpec.ofChange Rows.appPlaysSpec) :=
  OpenClaim.holds_of_wide 4 Try.f4 rfl rfl rfl rfl rfl rfl rfl ⟨rfl, rfl, rfl, rfl, rfl⟩ rfl rfl rfl rfl rfl (by kernel_rfl) Try.func4 (by kernel_rfl)
    (of_decide_eq_true (by kernel_rfl)) (by unfold Func.isWrapper; first | (rw [if_pos (by decide +kernel)]; kernel_rfl) | (rw [if_neg (by decide +kernel)]; exact ⟨rfl, rfl⟩))
    (fun os started H enc _ => lifted os started H enc)

/-- THE STATEMENT. -/
theorem proved : Rows.AppPlaysSaid := over
end Go.Proofs.Ytiplepdmkbiehaa.appPlays
