/- Contracts: sym.New; law 21's alive. -/
import Derived.Test.YtogfkfoklnpfhaaXferC
import Derived.Test.YtogfkfoklnpfhaaXferJ
import Derived.Test.YtogfkfoklnpfhaaSame
import Derived.Lib.SlBytesConst
namespace Go.Proofs.Ytogfkfoklnpfhaa
set_option linter.unusedSimpArgs false
set_option linter.unusedVariables false
open Go.RowKit

def NewRes (l : List Res) (e : Ending) (w' : World) : Prop := ∃ q mp, e = .returned (.pointer (some ⟨q, 0, none⟩)) ∧ Hold w' (tabR q (.slice none 0 0) (.slice none 0 0) mp [] :: l)

theorem Hold.addEmp {W : World} {l : List Res} (h : Hold W l) : Hold W (.emp :: l) := h.new (Below.refl _ _) (F := fun _ => False) (fun _ h => h) (fun _ h => h.elim)

set_option maxRecDepth 100000 in
theorem symNew_any (l : List Res) (w : World) (h : Hold w l) : Calls Try.prog 8 #[] w (NewRes l) := by
  have HC := Lib.hid h
  clear h
  have hmm := @run_makeMap Try.prog
  go_enter Try.func8, Try.ntmps8
  go_wp2_with fail
  go_ret
  exact ⟨w.heap.size + 1, .map (some w.heap.size), rfl, tabR_shut (sv := .slice none 0 0) (vs := []) (sums := []) (((((HC.out.alloc (.map #[] 0)).addBlkAt [.slice none 0 0, .slice none 0 0, .slice none 0 0, .map (some w.heap.size)] 64 (by simp)).addNil 22 1).swap.addEmp).push3)⟩

theorem digT_again (s : List (List UInt8)) (b : List UInt8) : digT (digT s b) b = digT s b := by
  by_cases h : b ∈ s
  · simp [digT, h]
  · simp [digT, h]
theorem digM_again (s : List (List UInt8)) (b : List UInt8) : digM (digT s b) b = digM s b := by
  unfold digM
  rw [digT_again]

def abcB : List UInt8 := [97, 98, 99]

set_option maxRecDepth 100000 in
set_option maxHeartbeats 4000000 in
theorem alive21_any (w : World) : Calls Try.prog 6 #[] w fun e w' => e = .returned (.bool true) ∧ Below w.heap.size w w' := by
  have kc := fun (w : World) (C : Array Value) (n c : Nat) => Lib.run_convert_bytes_const (P := Try.prog) w 22 5 C n c Try.underlying22 Try.underlying5
  have HB := Lib.hid (Hold.start w)
  go_enter Try.func6, Try.ntmps6
  go_wp2_with fail
  refine (symNew_any _ _ HB.out).mono ?_
  rintro e w1 ⟨q, mp, rfl, hc⟩
  have HC := Lib.hid hc
  clear hc HB
  have hof := Lib.hid (offer_any _ abcB _ _ (HC.out.alloc (.cells #[.int .u8 97, .int .u8 98, .int .u8 99] 5 (3, 4))) (Bs.litM abcB rfl rfl (by simp [abcB, maxLen]) : Bs (w1.alloc (.cells #[.int .u8 97, .int .u8 98, .int .u8 99] 5 (3, 4))) (.slice (some ⟨w1.heap.size, 0, none⟩) 3 3) abcB) (by decide))
  clear HC
  go_wp2_with fail
  refine hof.out.mono ?_
  rintro e w2 ⟨p, rfl, hc⟩
  have hdg := Lib.hid (digest_any q _ _ mp [] _ abcB _ _ (hc.alloc (.cells #[.int .u8 97, .int .u8 98, .int .u8 99] 5 (3, 4))).swap (Bs.litM abcB rfl rfl (by simp [abcB, maxLen]) : Bs (w2.alloc (.cells #[.int .u8 97, .int .u8 98, .int .u8 99] 5 (3, 4))) (.slice (some ⟨w2.heap.size, 0, none⟩) 3 3) abcB) (by decide) (by decide))
  clear hc hof
  go_wp2_with fail
  refine hdg.out.mono ?_
  rintro e w3 ⟨r, rfl, hc⟩
  obtain ⟨S, hS⟩ : ∃ S, S = digT [] abcB := ⟨_, rfl⟩
  obtain ⟨M, hM⟩ : ∃ M, M = digM [] abcB := ⟨_, rfl⟩
  have hSM : digM S abcB = M ∧ digT S abcB = S := by
    rw [hS, hM]
    exact ⟨digM_again [] abcB, digT_again [] abcB⟩
  have hMl : M.length = 16 := by rw [hM]; exact markB_length _ _
  have hSl : S.length = 1 := by rw [hS]; rfl
  rw [← hS, ← hM] at hc
  have hhe := Lib.hid (hear_any 3 _ M _ _ hc (hc.rowOf (v := .slice (some ⟨r, 0, none⟩) 16 16) (b := M) (by simp)) (by omega) (by decide) (by decide))
  have HSM := Lib.hid hSM
  have HML := Lib.hid hMl
  have HSL := Lib.hid hSl
  clear hc hdg hS hM hSM hMl hSl
  go_wp2_with fail
  refine hhe.out.mono ?_
  rintro e w4 ⟨i, rfl, hc⟩
  have HC : Hid (Hold w4 [outR p ⟨0, abcB, 0, 0⟩, inR i ⟨0, 3, M, []⟩, tabR q (.slice none 0 0) (.slice none 0 0) mp S, .base w]) := Lib.hid (hc.front (m := [_, _, _, _, _]) (l := []) [2, 3, 0, 1, 4] 5 (by decide)).tail
  clear hc hhe
  have h1 := Lib.hid (chunk_no p ⟨0, abcB, 0, 0⟩ _ w4 HC.out (Or.inl (by decide)))
  go_wp2_with fail
  refine h1.out.mono ?_
  rintro e w5 ⟨rfl, hc⟩
  have h2 := outAccept_any p ⟨0, abcB, 0, 0⟩ _ w5 hc (by decide)
  rw [show outTurn ⟨0, abcB, 0, 0⟩ 1 = (⟨1, abcB, 0, 0⟩, 0) from rfl] at h2
  have H2 := Lib.hid h2
  clear hc h1 h2 HC
  go_wp2_with fail
  refine H2.out.mono ?_
  rintro e w6 ⟨rfl, hc⟩
  have h3 := inAccept_any i q (.slice none 0 0) (.slice none 0 0) mp S ⟨0, 3, M, []⟩ [outR p ⟨1, abcB, 0, 0⟩, .base w] w6 (hc.front (m := [_, _, _, _]) (l := []) [1, 2, 0, 3] 4 (by decide)) (by simp) (by simp only; rw [HML.out]; decide) (by rw [HSL.out]; decide) (by simp) (by simp)
  rw [show inAccept S ⟨0, 3, M, []⟩ = (S, ⟨1, 3, M, []⟩, 0) from by simp [inAccept, inWhole]] at h3
  have H3 := Lib.hid h3
  clear hc h3 H2
  go_wp2_with fail
  refine H3.out.mono ?_
  rintro e w7 ⟨rfl, hc⟩
  have h4 := chunk_yes p ⟨1, abcB, 0, 0⟩ [inR i ⟨1, 3, M, []⟩, tabR q (.slice none 0 0) (.slice none 0 0) mp S, .base w] w7 (hc.front (m := [_, _, _, _]) (l := []) [2, 0, 1, 3] 4 (by decide)) (by unfold outStop; decide) (by decide) (by decide) (by decide)
  have H4 := Lib.hid h4
  clear hc h4 H3
  go_wp2_with fail
  refine H4.out.mono ?_
  rintro e w8 ⟨v, rfl, hc⟩
  rw [show (abcB.drop (OutF.sent ⟨1, abcB, 0, 0⟩)).take (min ((OutF.sent ⟨1, abcB, 0, 0⟩) + 64) (OutF.data ⟨1, abcB, 0, 0⟩).length - (OutF.sent ⟨1, abcB, 0, 0⟩)) = abcB from rfl] at hc
  have hc : Hold w8 [outR p ⟨1, abcB, 3, 1⟩, .row v abcB, inR i ⟨1, 3, M, []⟩, tabR q (.slice none 0 0) (.slice none 0 0) mp S, .base w] := hc
  have hrow := hc.rowOf (v := v) (b := abcB) (by simp)
  obtain ⟨av, cv, rfl, hcv, hmv⟩ := hrow.form
  unfold maxLen at hmv
  have h5 := inTake_any i q (.slice none 0 0) (.slice none 0 0) mp S ⟨1, 3, M, []⟩ 0 _ abcB [outR p ⟨1, abcB, 3, 1⟩, .row (.slice av abcB.length cv) abcB, .base w] w8 (hc.front (m := [_, _, _, _, _]) (l := []) [2, 3, 0, 1, 4] 5 (by decide)) hrow (by simp) (by simp only; rw [HML.out]; decide) (by rw [HSL.out]; decide) (by simp)
  rw [show inTake S ⟨1, 3, M, []⟩ 0 abcB = (S, ⟨2, 3, M, abcB⟩, 0) from by
    have h := HSM.out
    have h1 : digM S [97, 98, 99] = M := h.1
    have h2 : digT S [97, 98, 99] = S := h.2
    simp [inTake, inWhole, abcB, h1, h2]] at h5
  have H5 := Lib.hid h5
  clear hc h5 H4 hrow
  go_wp2_with fail
  refine H5.out.mono ?_
  rintro e w9 ⟨rfl, hc⟩
  have h6 := came_yes p ⟨1, abcB, 3, 1⟩ [inR i ⟨2, 3, M, abcB⟩, tabR q (.slice none 0 0) (.slice none 0 0) mp S, .row (.slice av abcB.length cv) abcB, .base w] w9 (hc.front (m := [_, _, _, _, _]) (l := []) [2, 0, 1, 3, 4] 5 (by decide)) rfl (by decide) (by decide) (by decide) (by decide)
  rw [show outCame ⟨1, abcB, 3, 1⟩ = (⟨2, abcB, 3, 0⟩, 0) from rfl] at h6
  have H6 := Lib.hid h6
  clear hc h6 H5
  go_wp2_with fail
  refine H6.out.mono ?_
  rintro e w10 ⟨rfl, hc⟩
  have HC := Lib.hid hc
  clear hc H6
  go_wp2_with fail
  refine (hear_bad (-1) none 0 0 w10 (.inl (by decide))).mono ?_
  rintro e w11 ⟨rfl, rfl⟩
  obtain ⟨ao, co, _, _, ho⟩ := outR_open HC.out
  have c0 : w10.cell? ⟨p, 0, none⟩ = some (.int .i64 2) := (ho.blkOf (List.mem_cons_self)).cell 0
  have hi := (HC.out.front (m := [_, _, _, _, _]) (l := []) [1, 0, 2, 3, 4] 5 (by decide))
  obtain ⟨_, _, _, _, _, _, _, _, hi⟩ := inR_open hi
  have d0 : w10.cell? ⟨i, 0, none⟩ = some (.int .i64 2) := (hi.blkOf (List.mem_cons_self)).cell 0
  have h7 := Lib.hid (outSize_any p _ _ w10 HC.out)
  have hal : abcB.length = 3 := rfl
  clear ho hi
  go_wp2_with fail
  refine h7.out.mono ?_
  rintro e w12 ⟨rfl, hc⟩
  have h8 := Lib.hid (inBytes_any i ⟨2, 3, M, abcB⟩ _ w12 (hc.front (m := [_, _, _, _, _]) (l := []) [1, 0, 2, 3, 4] 5 (by decide)) (show abcB.length ≤ 2048 by decide))
  clear hc h7
  go_wp2_with fail
  refine h8.out.mono ?_
  rintro e w13 ⟨v1, rfl, hc⟩
  have h9 := Lib.hid (outBytes_any p ⟨2, abcB, 3, 0⟩ _ w13 (hc.front (m := [_, _, _, _, _, _]) (l := []) [2, 0, 1, 3, 4, 5] 6 (by decide)) (by decide))
  have hf := (hc.rowOf (v := v1) (b := abcB) (by simp)).form
  obtain ⟨a1, c1, rfl, _, _⟩ := hf
  clear hc h8
  go_wp2_with fail
  refine h9.out.mono ?_
  rintro e w14 ⟨v2, rfl, hc⟩
  have hr1 := hc.rowOf (v := v2) (b := abcB) (by simp)
  have hr2 := hc.rowOf (v := .slice a1 abcB.length c1) (b := abcB) (by simp)
  obtain ⟨a2, c2, rfl, _, _⟩ := hr1.form
  have h10 := Lib.hid (same_b _ _ abcB abcB w14 hr2 hr1)
  have HB := Lib.hid (hc.baseOf (w0 := w) (by simp))
  have hz := HB.out.size
  clear hc hr1 hr2 h9
  go_wp2_with fail
  refine h10.out.mono ?_
  rintro e w15 ⟨rfl, hb⟩
  have HB := Lib.hid (HB.out.trans (hb.mono hz))
  simp only [decide_true]
  clear hb
  go_wp2_with fail
  go_ret
  exact ⟨rfl, HB.out⟩
end Go.Proofs.Ytogfkfoklnpfhaa
