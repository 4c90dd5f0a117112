/- The statement XferTakes, for all inputs; its argument of steps, opened. -/
import Derived.Test.YtogfkfoklnpfhaaXferTakes
import Derived.Test.YtogfkfoklnpfhaaOpenL
namespace Go.Proofs.Ytogfkfoklnpfhaa
set_option linter.unusedSimpArgs false
set_option linter.unusedVariables false
open Go.ChangeShapes Go.WideShapes Go.RowKit Go.OpenShut
variable {H : Type} {enc : TypeId × Value → H} {w : World} {base : Nat} {spare : Nat → Bool} {held : Bool}

set_option maxRecDepth 100000 in
theorem open_stx {v : Value} {d : DataW H} {ps : List MemPlace} {r : Reach} {b0 : Nat} (hval : Value.okWide Try.prog w r b0 49 v)
    (h : DataW.Trod enc Try.prog w base spare held 49 v d ps) :
    ∃ l : List StX, Sl w 3 v l.length (l.map StX.cells).flatten ∧ ∀ x ∈ l, Bs w x.bv x.b := by
  have hf : flatTy Try.prog 8 53 = some [3, 3, 22] := by kernel_rfl
  obtain ⟨n, xs, hn, hx, hs⟩ := open_elems Try.underlying49 hf (by kernel_rfl) (by decide) (okWide_slice Try.underlying49 hval) h
  obtain ⟨l, rfl, hl⟩ := exists_map' (fun x : StX => Bs w x.bv x.b) StX.cells xs (fun x hxm => by
    obtain ⟨c0, x0, rfl, k0, hL⟩ := (hx x hxm).cons
    obtain ⟨c1, x1, rfl, k1, hL⟩ := hL.cons
    obtain ⟨c2, x2, rfl, k2, hL⟩ := hL.cons
    obtain rfl := hL.nil
    obtain ⟨f0, rfl, _⟩ := k0.int Try.underlying3
    obtain ⟨f1, rfl, _⟩ := k1.int Try.underlying3
    obtain ⟨b, hb⟩ := leaf_box k2
    exact ⟨⟨f0, f1, c2, b⟩, rfl, hb⟩)
  rw [List.length_map] at hn
  subst hn
  exact ⟨l, hs, hl⟩

set_option maxRecDepth 100000 in
set_option maxHeartbeats 4000000 in
theorem takes_walk (size : Int) (v sv : Value) (of : List UInt8) (l : List StX) (w : World) (h : Bs w v of) (hs : Sl w 3 sv l.length (l.map StX.cells).flatten) (hb : ∀ x ∈ l, Bs w x.bv x.b) :
    Calls Try.prog 5 #[.int .i64 size, v, sv] w fun e w' => e = .returned (.bool true) ∧ Below w.heap.size w w' := by
  by_cases hbig : of.length ≤ 300 ∧ l.length ≤ 60
  · by_cases hz : 0 ≤ size ∧ size ≤ 2048
    · exact takes_go size v sv of l w h hs hb hbig.1 hbig.2 hz.1 hz.2
    · obtain ⟨ao, co, rfl, hco, hmo⟩ := h.form
      obtain ⟨al, cl, rfl, hcl, hml⟩ := hs.form
      have HOF := Lib.hid h
      have ho1 : (of.length : Int) ≤ 300 := by omega
      have hl1 : (l.length : Int) ≤ 60 := by omega
      have hzz : size < 0 ∨ 2048 < size := by omega
      unfold maxLen at hmo hml
      clear h hs hb hbig hz
      rcases hzz with hz | hz
      · go_enter Try.func5, Try.ntmps5
        go_wp2_with fail
        refine (alive21_any w).mono ?_
        rintro e w1 ⟨rfl, hb⟩
        have HC := Lib.hid ((Hold.start w).step hb)
        clear hb
        go_wp2_with fail
        refine (symNew_any _ _ HC.out).mono ?_
        rintro e w2 ⟨q, mp, rfl, hc⟩
        have h1 := Lib.hid (digest_any q _ _ mp [] _ of _ _ hc (HOF.out.below (hc.baseOf (w0 := w) (by simp))) (by omega) (by decide))
        clear hc HC
        go_wp2_with fail
        refine h1.out.mono ?_
        rintro e w3 ⟨r, rfl, hc⟩
        have HB := Lib.hid (hc.baseOf (w0 := w) (by simp))
        clear hc h1
        go_wp2_with fail
        refine (hear_bad _ _ _ _ _ (.inl hz)).mono ?_
        rintro e w4 ⟨rfl, rfl⟩
        go_wp2_with fail
        go_ret
        exact ⟨rfl, HB.out⟩
      · have hz2 : ¬ size < 0 := by omega
        go_enter Try.func5, Try.ntmps5
        go_wp2_with fail
        refine (alive21_any w).mono ?_
        rintro e w1 ⟨rfl, hb⟩
        have HC := Lib.hid ((Hold.start w).step hb)
        clear hb
        go_wp2_with fail
        refine (symNew_any _ _ HC.out).mono ?_
        rintro e w2 ⟨q, mp, rfl, hc⟩
        have h1 := Lib.hid (digest_any q _ _ mp [] _ of _ _ hc (HOF.out.below (hc.baseOf (w0 := w) (by simp))) (by omega) (by decide))
        clear hc HC
        go_wp2_with fail
        refine h1.out.mono ?_
        rintro e w3 ⟨r, rfl, hc⟩
        have HB := Lib.hid (hc.baseOf (w0 := w) (by simp))
        clear hc h1
        go_wp2_with fail
        refine (hear_bad _ _ _ _ _ (.inr hz)).mono ?_
        rintro e w4 ⟨rfl, rfl⟩
        go_wp2_with fail
        go_ret
        exact ⟨rfl, HB.out⟩
  · obtain ⟨ao, co, rfl, hco, hmo⟩ := h.form
    obtain ⟨al, cl, rfl, hcl, hml⟩ := hs.form
    unfold maxLen at hmo hml
    clear h hs hb
    have ho : (300 : Int) < of.length ∨ ¬ (300 : Int) < of.length ∧ (60 : Int) < l.length := by omega
    clear hbig
    rcases ho with ho | ⟨ho, ho2⟩
    all_goals
      go_enter Try.func5, Try.ntmps5
      go_wp2_with fail
      refine (alive21_any w).mono ?_
      rintro e w1 ⟨rfl, hb⟩
      have HB := Lib.hid hb
      clear hb
      go_wp2_with fail
      go_ret
      exact ⟨rfl, HB.out⟩
end Go.Proofs.Ytogfkfoklnpfhaa
