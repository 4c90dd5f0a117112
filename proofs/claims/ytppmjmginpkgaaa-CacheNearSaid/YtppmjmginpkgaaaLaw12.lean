/- The statements of the cache: the examples hold, and what the program answers is what the document says. -/
import Derived.Test.YtppmjmginpkgaaaRef12
namespace Go.Proofs.Ytppmjmginpkgaaa
open Go.RowKit

def shA (t s : Int) : Sh := (⟨#[97]⟩, t, s)

theorem al1 : shShow [] (cacheMost 1) 100 (shA 100 1) = ([shA 100 1], 0) := by decide +kernel
theorem al2 : shShow [shA 100 1] (cacheMost 1) 101 (shA 100 1) = ([shA 100 1], 14) := by decide +kernel
theorem al3 : shShow [shA 100 1] (cacheMost 1) 101 (shA 100 2) = ([shA 100 1], 8) := by decide +kernel
theorem al4 : shShow [shA 100 1] (cacheMost 1) 131 (shA 100 2) = ([shA 100 1], 11) := by decide +kernel
theorem al5 : shShow [shA 100 1] (cacheMost 1) 131 (shA 130 2) = ([shA 130 2], 0) := by decide +kernel

set_option maxRecDepth 100000 in
theorem alive12_any (w : World) : Calls Try.prog 15 #[] w fun e w' => e = .returned (.bool true) ∧ Below w.heap.size w w' := by
  go_enter Try.func15, Try.ntmps15
  go_wp2_with fail
  refine (cacheNew_any 1 w).mono ?_
  rintro e w1 ⟨rfl, hc1, hb1⟩
  go_wp2_with fail
  refine (cacheShow_any _ _ _ _ 100 (shA 100 1) _ hc1 (by simp)).mono ?_
  rw [al1]
  rintro e w2 ⟨rfl, hc2, hk2⟩
  go_wp2_with fail
  refine (cacheShow_any _ _ _ _ 101 (shA 100 1) _ hc2 (by simp)).mono ?_
  rw [al2]
  rintro e w3 ⟨rfl, hc3, hk3⟩
  go_wp2_with fail
  refine (cacheShow_any _ _ _ _ 101 (shA 100 2) _ hc3 (by simp)).mono ?_
  rw [al3]
  rintro e w4 ⟨rfl, hc4, hk4⟩
  go_wp2_with fail
  refine (cacheShow_any _ _ _ _ 131 (shA 100 2) _ hc4 (by simp)).mono ?_
  rw [al4]
  rintro e w5 ⟨rfl, hc5, hk5⟩
  go_wp2_with fail
  refine (cacheShow_any _ _ _ _ 131 (shA 130 2) _ hc5 (by simp)).mono ?_
  rw [al5]
  rintro e w6 ⟨rfl, hc6, hk6⟩
  go_wp2_with fail
  refine (cacheLen_any _ _ _ _ _ hc6).mono ?_
  rintro e w7 ⟨rfl, rfl⟩
  have fin : Below w.heap.size w w6 := by
    have hs1 := hb1.size
    have hs2 := hk2.size
    have hs3 := hk3.size
    have hs4 := hk4.size
    have hs5 := hk5.size
    exact ((((hb1.trans (hk2.below (by omega))).trans (hk3.below (by omega))).trans (hk4.below (by omega))).trans (hk5.below (by omega))).trans (hk6.below (by omega))
  clear hc1 hc2 hc3 hc4 hc5 hc6 hk2 hk3 hk4 hk5 hk6 hb1
  go_wp2_with fail
  go_ret
  exact ⟨rfl, fin⟩

set_option maxRecDepth 100000 in
theorem cacheNear_walk (now t : Int) (w : World) : Calls Try.prog 4 #[.int .i64 now, .int .i64 t] w fun e w' => e = .returned (.bool true) ∧ Below w.heap.size w w' := by
  have hsym : nearB t now = nearB now t := by unfold nearB; congr 1; simp only [eq_iff_iff]; omega
  have hb : ∀ b : Bool, (b == b) = true := by simp
  go_enter Try.func4, Try.ntmps4
  go_wp2_with fail
  refine (alive12_any w).mono ?_
  rintro e w1 ⟨rfl, hb1⟩
  go_wp2_with fail
  refine (near_any _ _ _).mono ?_
  rintro e w2 ⟨rfl, rfl⟩
  go_wp2_with fail
  refine (ref12Near_any _ _ _).mono ?_
  rintro e w2 ⟨rfl, rfl⟩
  go_wp2_with fail
  refine (near_any _ _ _).mono ?_
  rintro e w2 ⟨rfl, rfl⟩
  go_wp2_with fail
  refine (near_any _ _ _).mono ?_
  rintro e w2 ⟨rfl, rfl⟩
  go_wp2_with fail
  go_ret
  exact ⟨rfl, hb1⟩
end Go.Proofs.Ytppmjmginpkgaaa
