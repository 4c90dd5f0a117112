/- Contracts of the document's book (compeerref13): Live, Set, Until. -/
import Derived.Test.YtclonbojpcgngaaBookP
import Derived.Test.YtclonbojpcgngaaRes
import Derived.Test.YtclonbojpcgngaaRef09c
import Derived.Test.YtclonbojpcgngaaFlat
namespace Go.Proofs.Ytclonbojpcgngaa
set_option linter.unusedSimpArgs false
set_option linter.unusedVariables false
open Go.RowKit

def enC (M : List En) : List Value := (M.map fun x => [.string x.1, .int .i64 x.2]).flatten
theorem enC_length (M : List En) : (enC M).length = M.length * 2 := flat_length (n := 2) _ M (fun _ _ => rfl)
theorem enC_snoc (M : List En) (x : En) : enC (M ++ [x]) = enC M ++ [.string x.1, .int .i64 x.2] := by simp [enC]
theorem elEn : Elem Try.prog 52 76 2 24 (.agg #[.string .empty, .int .i64 0]) := by
  refine Elem.mk Try.underlying52 ?_ rfl (by decide)
  kernel_rfl
abbrev enR (v : Value) (M : List En) : Res := .own 76 2 v M.length (enC M)
theorem enR_cells {W : World} {l : List Res} {a : Option Addr} {c : Nat} {M : List En} (h : Hold W l) (hm : enR (.slice a M.length c) M ∈ l) (hp : 0 < M.length) :
    ∃ b o, a = some ⟨b, o, none⟩ ∧ ∀ k (hk : k < M.length), W.cell? ⟨b, o + k * 2, none⟩ = some (.string M[k].1) ∧ W.cell? ⟨b, o + k * 2 + 1, none⟩ = some (.int .i64 M[k].2) := by
  obtain ⟨b, o, rfl, hc⟩ := (h.ownOf hm).1.sl.addr (by rw [enC_length]; omega)
  refine ⟨b, o, rfl, fun k hk => ⟨?_, ?_⟩⟩
  · exact hc (k * 2) _ (by have := flatC_at (n := 2) (fun x : En => [.string x.1, .int .i64 x.2]) M (fun _ _ => rfl) k 0 hk (by omega); exact this)
  · rw [Nat.add_assoc]
    exact hc (k * 2 + 1) _ (flatC_at (n := 2) (fun x : En => [.string x.1, .int .i64 x.2]) M (fun _ _ => rfl) k 1 hk (by omega))
theorem filter_snoc {p : En → Bool} (M : List En) (k : Nat) (h : k < M.length) : (M.take (k + 1)).filter p = (M.take k).filter p ++ if p M[k] = true then [M[k]] else [] := by
  rw [List.take_succ_eq_append_getElem h, List.filter_append]
  congr 1
  by_cases hc : p M[k] = true <;> simp [hc]
theorem filter_le {p : En → Bool} (M : List En) (k : Nat) : ((M.take k).filter p).length ≤ M.length := by
  have h1 := List.length_filter_le p (M.take k)
  rw [List.length_take] at h1
  omega

set_option maxRecDepth 100000 in
set_option maxHeartbeats 2000000 in
theorem live_any (v : Value) (M : List En) (now : Int) (l : List Res) (w : World) (h : Hold w (enR v M :: l)) (hl : M.length ≤ 1000) :
    Calls Try.prog 27 #[v, .int .i64 now] w fun e w' => ∃ v', e = .returned v' ∧ Hold w' (enR v' (liveB M now) :: enR v M :: l) := by
  obtain ⟨a, c, rfl, hc, hm⟩ := (h.ownOf (List.mem_cons_self)).1.sl.form
  unfold maxLen at hm
  have HC := Lib.hid (h.addEmpty 76 2 rfl)
  clear h
  go_enter Try.func27, Try.ntmps27
  go_wp2_with fail
  go_loopw [5, 6] (fun ov iv wr => ∃ (k : Nat), iv = .int .i64 k ∧ k ≤ M.length ∧ Hold wr (enR ov (liveB (M.take k) now) :: enR (.slice a M.length c) M :: l)) (fun _ i _ => M.length - (intOf i).toNat)
  case atStart => exact ⟨0, rfl, Nat.zero_le _, HC.out⟩
  case round =>
    obtain ⟨k, rfl, hk, hr⟩ := hrel
    obtain ⟨n, hn⟩ : ∃ n, n = (liveB (M.take k) now).length := ⟨_, rfl⟩
    have hn1 : n ≤ 1000 := by rw [hn]; have := filter_le (p := fun x => decide (now < x.2)) M k; exact Nat.le_trans this hl
    obtain ⟨ao, co, rfl, hco, hmo⟩ := (hr.ownOf (List.mem_cons_self)).1.sl.form
    have HR := Lib.hid hr
    clear hr HC
    by_cases hlt : k < M.length
    · obtain ⟨b, o, ha, hcell⟩ := enR_cells (M := M) (a := a) (c := c) HR.out (by simp) (by omega)
      subst ha
      obtain ⟨e0, e1⟩ := hcell k hlt
      obtain ⟨x, hx⟩ : ∃ x, x = M[k] := ⟨_, rfl⟩
      have hsn := filter_snoc (p := fun x => decide (now < x.2)) M k hlt
      rw [← hx] at e0 e1 hsn
      have HSN := Lib.hid hsn
      clear hcell hx hsn
      by_cases hlive : now < x.2
      · have HA := Lib.hid (HR.out.alloc (.cells #[.string x.1, .int .i64 x.2] 76))
        have HOWN := Lib.hid (HA.out.ownOf (e := 76) (sz := 2) (v := .slice ao (liveB (M.take k) now).length co) (n := (liveB (M.take k) now).length) (cs := enC (liveB (M.take k) now)) (List.mem_cons_self))
        have HLIT : Hid (Sl (wr.alloc (.cells #[.string x.1, .int .i64 x.2] 76)) 2 (.slice (some ⟨wr.heap.size, 0, none⟩) 1 1) 1 [.string x.1, .int .i64 x.2]) := Lib.hid (Sl.lit rfl rfl (by simp [Value.oneCell']) (by unfold maxLen; decide))
        have HN1 : Hid ((liveB (M.take k) now).length ≤ 1000) := Lib.hid (by rw [← hn]; exact hn1)
        go_wp2_with ((with_reducible show wpList _ _ _ (⟨some 27, _, _, _, _, _⟩ :: _) _ _); refine wpList_app2 rfl (.tmp 21) (.tmp 26) elEn rfl 0 HOWN.out.1 HOWN.out.2 HLIT.out (by have := HN1.out; unfold maxLen; omega) (by have := HN1.out; omega) (Nat.zero_le _) ?_)
        intro v' w' h1 h2 h3
        have HD := Lib.hid (HA.out.append (B := 0) h1 (h2.mono fun k h => by simpa using h) (fun k h => by simpa using h3 k h))
        clear h1 h2 h3
        go_wp2_with fail
        go_roundw
        case rel => exact ⟨k + 1, by go_num, by omega, by
          have e : liveB (M.take (k + 1)) now = liveB (M.take k) now ++ [x] := by
            have := HSN.out
            rw [if_pos (by simpa using hlive)] at this
            exact this
          rw [e]
          unfold enR
          rw [enC_snoc, List.length_append]
          exact HD.out⟩
        case measure => simp [intOf]; omega
      · go_wp2_with fail
        go_roundw
        case rel => exact ⟨k + 1, by go_num, by omega, by
          have e : liveB (M.take (k + 1)) now = liveB (M.take k) now := by
            have := HSN.out
            rw [if_neg (by simp; omega), List.append_nil] at this
            exact this
          rw [e]
          exact HR.out⟩
        case measure => simp [intOf]; omega
    · obtain rfl : k = M.length := by omega
      go_wp2_with fail
      go_ret
      have h9 := HR.out
      rw [List.take_length] at h9 ⊢
      exact ⟨_, rfl, h9⟩

theorem wipe_same {M : List En} {s : ByteArray} (h : hasB M s = false) : wipeB M s = M := by
  unfold wipeB
  rw [List.filter_eq_self]
  intro x hx
  have := List.any_eq_false.1 h x hx
  simpa using this
theorem hasB_snoc (M : List En) (s : ByteArray) (k : Nat) (h : k < M.length) : hasB (M.take (k + 1)) s = (hasB (M.take k) s || decide (M[k].1 = s)) := by
  rw [List.take_succ_eq_append_getElem h, hasB, List.any_append]
  simp [hasB, List.any_cons]
theorem str_ne {a b : ByteArray} (h : ¬ a = b) : (a.toList == b.toList) = false := by
  rw [beq_eq_false_iff_ne]
  exact fun e => h ((bytes_toList_inj _ _).1 e)

/-- The document's book behind an entry, and the error's number. -/
def setH (M : List En) (now : Int) (s : ByteArray) (till : Int) : List En × Int :=
  if rightB s = false then (M, 6) else if till ≤ now then (wipeB (liveB M now) s, 12) else if hasB (liveB M now) s = false ∧ (wipeB (liveB M now) s).length = 32 then (liveB M now, 8) else (wipeB (liveB M now) s ++ [(s, till)], 0)

set_option maxRecDepth 100000 in
set_option maxHeartbeats 4000000 in
theorem refSet_any (v : Value) (H : List En) (now : Int) (s : ByteArray) (till : Int) (l : List Res) (w : World) (h : Hold w (enR v H :: l)) (hl : H.length ≤ 900) (hs : s.size ≤ maxLen) :
    Calls Try.prog 18 #[v, .int .i64 now, .string s, .int .i64 till] w fun e w' => ∃ v', e = .returned (.tuple #[v', .int .i64 (setH H now s till).2]) ∧ Hold w' (enR v' (setH H now s till).1 :: l) := by
  obtain ⟨a, c, rfl, hc, hm⟩ := (h.ownOf (List.mem_cons_self)).1.sl.form
  have HR0 := Lib.hid (refRight_any s w hs)
  have HC0 := Lib.hid h
  clear h hs
  go_enter Try.func18, Try.ntmps18
  go_wp2_with fail
  refine HR0.out.mono ?_
  rintro e w1 ⟨rfl, rfl⟩
  clear HR0
  obtain ⟨B, hB⟩ : ∃ B, B = rightB s := ⟨_, rfl⟩
  rw [← hB]
  have HB := Lib.hid hB
  clear hB
  cases B with
  | false =>
    have HF : Hid (setH H now s till = (H, 6)) := Lib.hid (by rw [setH, if_pos HB.out.symm])
    go_wp2_with fail
    go_ret2
    rw [HF.out]
    exact ⟨_, rfl, HC0.out⟩
  | true =>
    have HB1 : Hid (¬ rightB s = false) := Lib.hid (by rw [← HB.out]; decide)
    have HC1 := Lib.hid (HC0.out.addEmpty 76 2 rfl)
    obtain ⟨q, hq⟩ : ∃ q, q = w.heap.size := ⟨_, rfl⟩
    rw [← hq] at HC1
    have HQ := Lib.hid hq
    have HL := Lib.hid (live_any (.slice a H.length c) H now _ _ HC1.out.swap (by omega))
    clear hq HC0
    go_wp2_with fail
    rw [← HQ.out]
    refine HL.out.mono ?_
    rintro e w2 ⟨v2, rfl, hc2⟩
    obtain ⟨V, hV⟩ : ∃ V, V = liveB H now := ⟨_, rfl⟩
    rw [← hV] at hc2
    have HV := Lib.hid hV
    have hVl : V.length ≤ 900 := by rw [hV]; exact Nat.le_trans (List.length_filter_le _ _) hl
    obtain ⟨a2, c2, rfl, hcc2, hm2⟩ := (hc2.ownOf (List.mem_cons_self)).1.sl.form
    have HC := Lib.hid (hc2.front (m := [_, _, _]) (l := l) [2, 0, 1] 3 (by decide))
    unfold maxLen at hm2
    clear HL hc2 hV HC1
    go_wp2_with fail
    go_loopw [10, 11, 13] (fun ov bv iv wr => ∃ (k : Nat), iv = .int .i64 k ∧ k ≤ V.length ∧ bv = .bool (hasB (V.take k) s) ∧ Hold wr (enR ov (wipeB (V.take k) s) :: enR (.slice a2 V.length c2) V :: enR (.slice a H.length c) H :: l)) (fun _ _ i _ => V.length - (intOf i).toNat)
    case atStart => exact ⟨0, rfl, Nat.zero_le _, rfl, HC.out⟩
    case round =>
      obtain ⟨k, rfl, hk, rfl, hr⟩ := hrel
      have hn1 : (wipeB (V.take k) s).length ≤ 1000 := by have := filter_le (p := fun x => decide (x.1 ≠ s)) V k; unfold wipeB; omega
      obtain ⟨ao, co, rfl, hco, hmo⟩ := (hr.ownOf (List.mem_cons_self)).1.sl.form
      have HR := Lib.hid hr
      clear hr HC
      by_cases hlt : k < V.length
      · obtain ⟨b, o, ha, hcell⟩ := enR_cells (M := V) (a := a2) (c := c2) HR.out (by simp) (by omega)
        subst ha
        obtain ⟨e0, e1⟩ := hcell k hlt
        obtain ⟨x, hx⟩ : ∃ x, x = V[k] := ⟨_, rfl⟩
        have hsn := filter_snoc (p := fun x => decide (x.1 ≠ s)) V k hlt
        have hhs := hasB_snoc V s k hlt
        rw [← hx] at e0 e1 hsn hhs
        have HSN := Lib.hid hsn
        have HHS := Lib.hid hhs
        have hklt : (k : Int) < V.length := by omega
        obtain ⟨n, hn⟩ : ∃ n, n = (wipeB (V.take k) s).length := ⟨_, rfl⟩
        have HNN := Lib.hid hn
        obtain ⟨bw, hbw⟩ : ∃ bw, bw = hasB (V.take k) s := ⟨_, rfl⟩
        rw [← hbw] at HHS ⊢
        clear hcell hx hsn hhs hn hbw
        by_cases hxs : x.1 = s
        · have hbe : (x.1.toList == s.toList) = true := by rw [hxs]; simp
          have HXS := Lib.hid hxs
          clear hxs
          go_wp2_with fail
          go_roundw
          case rel => exact ⟨k + 1, by go_num, by omega, by rw [HHS.out, HXS.out]; simp, by
            have e : wipeB (V.take (k + 1)) s = wipeB (V.take k) s := by
              have := HSN.out
              rw [if_neg (by simp [HXS.out]), List.append_nil] at this
              exact this
            rw [e]
            exact HR.out⟩
          case measure => simp [intOf]; omega
        · have hbe := str_ne hxs
          have HXS := Lib.hid hxs
          have HA := Lib.hid (HR.out.alloc (.cells #[.string x.1, .int .i64 x.2] 76))
          have HOWN := Lib.hid (HA.out.ownOf (e := 76) (sz := 2) (v := .slice ao (wipeB (V.take k) s).length co) (n := (wipeB (V.take k) s).length) (cs := enC (wipeB (V.take k) s)) (List.mem_cons_self))
          have HLIT : Hid (Sl (wr.alloc (.cells #[.string x.1, .int .i64 x.2] 76)) 2 (.slice (some ⟨wr.heap.size, 0, none⟩) 1 1) 1 [.string x.1, .int .i64 x.2]) := Lib.hid (Sl.lit rfl rfl (by simp [Value.oneCell']) (by unfold maxLen; decide))
          have HN1 := Lib.hid hn1
          clear hxs
          go_wp2_with ((with_reducible show wpList _ _ _ (⟨some 41, _, _, _, _, _⟩ :: _) _ _); refine wpList_app2 rfl (.tmp 35) (.tmp 40) elEn rfl 0 HOWN.out.1 HOWN.out.2 HLIT.out (by have := HN1.out; unfold maxLen; omega) (by have := HN1.out; omega) (Nat.zero_le _) ?_)
          intro v' w' h1 h2 h3
          have HD := Lib.hid (HA.out.append (B := 0) h1 (h2.mono fun k h => by simpa using h) (fun k h => by simpa using h3 k h))
          clear h1 h2 h3
          go_wp2_with fail
          go_roundw
          case rel => exact ⟨k + 1, by go_num, by omega, by rw [HHS.out]; simp [HXS.out], by
            have e : wipeB (V.take (k + 1)) s = wipeB (V.take k) s ++ [x] := by
              have := HSN.out
              rw [if_pos (by simp [HXS.out])] at this
              exact this
            rw [e]
            unfold enR
            rw [enC_snoc, List.length_append]
            exact HD.out⟩
          case measure => simp [intOf]; omega
      · obtain rfl : k = V.length := by omega
        have h9 := HR.out
        rw [List.take_length] at h9 hn1 ⊢
        obtain ⟨W, hW⟩ : ∃ W, W = wipeB V s := ⟨_, rfl⟩
        obtain ⟨bw, hbw⟩ : ∃ bw, bw = hasB V s := ⟨_, rfl⟩
        rw [← hW] at h9 hn1 ⊢
        rw [← hbw]
        have HW := Lib.hid hW
        have HBW := Lib.hid hbw
        have HE := Lib.hid h9
        clear h9 HR hW hbw
        by_cases hle : till ≤ now
        · have HF : Hid (setH H now s till = (W, 12)) := Lib.hid (by rw [setH, if_neg HB1.out, if_pos hle, ← HV.out, ← HW.out])
          go_wp2_with fail
          go_ret2
          rw [HF.out]
          exact ⟨_, rfl, HE.out.perm (List.Perm.refl _) |>.front (m := [_, _, _]) (l := l) [1, 2, 0] 3 (by decide) |>.tail.tail⟩
        · have HLE : Hid (¬ till ≤ now) := Lib.hid (by omega)
          by_cases hfull : bw = false ∧ W.length = 32
          · have HF : Hid (setH H now s till = (V, 8)) := Lib.hid (by rw [setH, if_neg HB1.out, if_neg (by omega), ← HV.out, ← HW.out, if_pos ⟨by rw [← HBW.out]; exact hfull.1, hfull.2⟩])
            obtain ⟨rfl, h32⟩ := hfull
            have h32' : ((W.length : Int) == 32) = true := by rw [h32]; rfl
            clear h32
            go_wp2_with fail
            go_ret2
            rw [HF.out]
            exact ⟨_, rfl, HE.out.front (m := [_, _, _]) (l := l) [0, 2, 1] 3 (by decide) |>.tail.tail⟩
          · have HF : Hid (setH H now s till = (W ++ [(s, till)], 0)) := Lib.hid (by rw [setH, if_neg HB1.out, if_neg (by omega), ← HV.out, ← HW.out, if_neg (by rw [← HBW.out]; exact hfull)])
            have hnf : bw = false → ((W.length : Int) == 32) = false := fun hb => by
              simp only [beq_eq_false_iff_ne, ne_eq]
              intro e
              exact hfull ⟨hb, by omega⟩
            have HA := Lib.hid (HE.out.alloc (.cells #[.string s, .int .i64 till] 76))
            have HOWN := Lib.hid (HA.out.ownOf (e := 76) (sz := 2) (v := .slice ao W.length co) (n := W.length) (cs := enC W) (List.mem_cons_self))
            have HLIT : Hid (Sl (wr.alloc (.cells #[.string s, .int .i64 till] 76)) 2 (.slice (some ⟨wr.heap.size, 0, none⟩) 1 1) 1 [.string s, .int .i64 till]) := Lib.hid (Sl.lit rfl rfl (by simp [Value.oneCell']) (by unfold maxLen; decide))
            have HNF := Lib.hid hnf
            have HN1 := Lib.hid hn1
            clear hfull hnf
            cases bw with
            | true =>
              go_wp2_with ((with_reducible show wpList _ _ _ (⟨some 59, _, _, _, _, _⟩ :: _) _ _); refine wpList_app2 rfl (.tmp 54) (.tmp 58) elEn rfl 0 HOWN.out.1 HOWN.out.2 HLIT.out (by have := HN1.out; unfold maxLen; omega) (by have := HN1.out; omega) (Nat.zero_le _) ?_)
              intro v' w' h1 h2 h3
              have HD := Lib.hid (HA.out.append (B := 0) h1 (h2.mono fun k h => by simpa using h) (fun k h => by simpa using h3 k h))
              clear h1 h2 h3
              go_wp2_with fail
              go_ret2
              rw [HF.out]
              refine ⟨v', rfl, ?_⟩
              have h9 := HD.out.front (m := [_, _, _]) (l := l) [1, 2, 0] 3 (by decide) |>.tail.tail
              unfold enR
              rw [enC_snoc, List.length_append]
              exact h9
            | false =>
              have hnf := HNF.out rfl
              go_wp2_with ((with_reducible show wpList _ _ _ (⟨some 59, _, _, _, _, _⟩ :: _) _ _); refine wpList_app2 rfl (.tmp 54) (.tmp 58) elEn rfl 0 HOWN.out.1 HOWN.out.2 HLIT.out (by have := HN1.out; unfold maxLen; omega) (by have := HN1.out; omega) (Nat.zero_le _) ?_)
              intro v' w' h1 h2 h3
              have HD := Lib.hid (HA.out.append (B := 0) h1 (h2.mono fun k h => by simpa using h) (fun k h => by simpa using h3 k h))
              clear h1 h2 h3
              go_wp2_with fail
              go_ret2
              rw [HF.out]
              refine ⟨v', rfl, ?_⟩
              have h9 := HD.out.front (m := [_, _, _]) (l := l) [1, 2, 0] 3 (by decide) |>.tail.tail
              unfold enR
              rw [enC_snoc, List.length_append]
              exact h9

/-- Until when somebody can be met, as the document has it. -/
def untilH (M : List En) (now : Int) (s : ByteArray) : Int × Bool := match M.find? fun x => decide (x.1 = s) && decide (now < x.2) with | some x => (x.2, true) | none => (0, false)
theorem untilH_hit {M : List En} {now : Int} {s : ByteArray} {k : Nat} (hk : k < M.length) (h1 : M[k].1 = s) (h2 : now < M[k].2) (hb : ∀ j (hj : j < M.length), j < k → ¬ (M[j].1 = s ∧ now < M[j].2)) : untilH M now s = (M[k].2, true) := by
  unfold untilH
  rw [List.find?_eq_some_iff_getElem.2 ⟨by simp [h1, h2], k, hk, rfl, fun j hj => by
    have h := hb j (by omega) hj
    by_cases h3 : M[j].1 = s
    · have h4 : ¬ now < M[j].2 := fun h5 => h ⟨h3, h5⟩
      simp [h3, h4]
    · simp [h3]⟩]
theorem untilH_miss {M : List En} {now : Int} {s : ByteArray} (hb : ∀ j (hj : j < M.length), ¬ (M[j].1 = s ∧ now < M[j].2)) : untilH M now s = (0, false) := by
  unfold untilH
  rw [List.find?_eq_none.2 fun x hx => by
    obtain ⟨j, hj, rfl⟩ := List.getElem_of_mem hx
    have := hb j hj
    simpa using this]

set_option maxRecDepth 100000 in
set_option maxHeartbeats 2000000 in
theorem until_any (v : Value) (M : List En) (now : Int) (s : ByteArray) (l : List Res) (w : World) (h : Hold w (enR v M :: l)) (hl : M.length ≤ 1000) :
    Calls Try.prog 21 #[v, .int .i64 now, .string s] w fun e w' => e = .returned (.tuple #[.int .i64 (untilH M now s).1, .bool (untilH M now s).2]) ∧ w = w' := by
  obtain ⟨a, c, rfl, hc, hm⟩ := (h.ownOf (List.mem_cons_self)).1.sl.form
  unfold maxLen at hm
  have HC := Lib.hid h
  clear h
  go_enter Try.func21, Try.ntmps21
  go_wp2_with fail
  go_loopw [8] (fun iv wr => ∃ (k : Nat), iv = .int .i64 k ∧ k ≤ M.length ∧ wr = w ∧ ∀ j (hj : j < M.length), j < k → ¬ (M[j].1 = s ∧ now < M[j].2)) (fun i _ => M.length - (intOf i).toNat)
  case atStart => exact ⟨0, rfl, Nat.zero_le _, rfl, fun j _ h => by omega⟩
  case round =>
    obtain ⟨k, rfl, hk, rfl, hno⟩ := hrel
    have HNO := Lib.hid hno
    clear hno
    by_cases hlt : k < M.length
    · obtain ⟨b, o, ha, hcell⟩ := enR_cells (M := M) (a := a) (c := c) HC.out (by simp) (by omega)
      subst ha
      obtain ⟨e0, e1⟩ := hcell k hlt
      obtain ⟨x, hx⟩ : ∃ x, x = M[k] := ⟨_, rfl⟩
      rw [← hx] at e0 e1
      have HX := Lib.hid hx
      clear hcell hx
      by_cases hxs : x.1 = s
      · have hbe : (x.1.toList == s.toList) = true := by rw [hxs]; simp
        have HXS := Lib.hid hxs
        clear hxs
        by_cases hlive : now < x.2
        · have HF : Hid (untilH M now s = (x.2, true)) := Lib.hid (by rw [HX.out]; exact untilH_hit hlt (by rw [← HX.out]; exact HXS.out) (by rw [← HX.out]; exact hlive) HNO.out)
          go_wp2_with fail
          go_ret2
          rw [HF.out]
          exact ⟨rfl, rfl⟩
        · have HLV := Lib.hid hlive
          go_wp2_with fail
          go_roundw
          case rel => exact ⟨k + 1, by go_num, by omega, trivial, fun j hj hjk hh => by
            rcases Nat.lt_or_ge j k with h' | h'
            · exact HNO.out j hj h' hh
            · have : j = k := by omega
              subst this
              rw [← HX.out] at hh
              have h1 := HLV.out
              have h2 := hh.2
              omega⟩
          case measure => simp [intOf]; omega
      · have hbe := str_ne hxs
        have HXS := Lib.hid hxs
        clear hxs
        go_wp2_with fail
        go_roundw
        case rel => exact ⟨k + 1, by go_num, by omega, trivial, fun j hj hjk hh => by
          rcases Nat.lt_or_ge j k with h' | h'
          · exact HNO.out j hj h' hh
          · have : j = k := by omega
            subst this
            rw [← HX.out] at hh
            exact HXS.out hh.1⟩
        case measure => simp [intOf]; omega
    · obtain rfl : k = M.length := by omega
      have HF : Hid (untilH M now s = (0, false)) := Lib.hid (untilH_miss fun j hj => HNO.out j hj hj)
      go_wp2_with fail
      go_ret2
      rw [HF.out]
      exact ⟨rfl, rfl⟩
end Go.Proofs.Ytclonbojpcgngaa
