/- Contracts of the document's cache (compeerref12). -/
import Derived.Test.YtppmjmginpkgaaaCache
namespace Go.Proofs.Ytppmjmginpkgaaa
open Go.RowKit

theorem ref12Near_any (now t : Int) (w : World) :
    Calls Try.prog 20 #[.int .i64 now, .int .i64 t] w fun e w' => e = .returned (.bool (nearB now t)) ∧ w = w' := by
  by_cases h1 : 0 ≤ t
  · by_cases h2 : t ≤ 1099511627776
    · by_cases h3 : 0 ≤ now
      · by_cases h4 : now ≤ 1099511627776
        · by_cases h5 : now - t ≤ 30
          · by_cases h6 : t - now ≤ 30
            all_goals
              go_enter Try.func20, Try.ntmps20
              go_wp2
              go_ret
              exact ⟨by simp [nearB]; omega, rfl⟩
          · go_enter Try.func20, Try.ntmps20
            go_wp2
            go_ret
            exact ⟨by simp [nearB]; omega, rfl⟩
        · go_enter Try.func20, Try.ntmps20
          go_wp2
          go_ret
          exact ⟨by simp [nearB]; omega, rfl⟩
      · go_enter Try.func20, Try.ntmps20
        go_wp2
        go_ret
        exact ⟨by simp [nearB]; omega, rfl⟩
    · go_enter Try.func20, Try.ntmps20
      go_wp2
      go_ret
      exact ⟨by simp [nearB]; omega, rfl⟩
  · go_enter Try.func20, Try.ntmps20
    go_wp2
    go_ret
    exact ⟨by simp [nearB]; omega, rfl⟩

theorem elRefShown : Elem Try.prog 36 32 3 32 (.agg #[.string ⟨#[]⟩, .int .i64 0, .int .i64 0]) := by
  refine Elem.mk Try.underlying36 ?_ rfl (by decide)
  kernel_rfl

set_option maxRecDepth 20000 in
theorem run_eql_refShown (w : World) (c1 : ByteArray) (t1 s1 : Int) (c2 : ByteArray) (t2 s2 : Int) :
    (binOp .eql 32 (.agg #[.string c1, .int .i64 t1, .int .i64 s1]) (.agg #[.string c2, .int .i64 t2, .int .i64 s2])).run Try.prog w = .ok (.bool (shEqB c1 t1 s1 c2 t2 s2)) w := by
  have h1 := Try.stoodInHeld32
  unfold binOp shEqB
  simp only [Prod.mk.injEq, ← bytes_toList_inj]
  simp [go_sem, Op.equal, Op.maxDepth, run_equalIn_struct _ _ 32 _ _ Try.underlying32 h1]
  by_cases a : c1.toList = c2.toList <;> by_cases b : t1 = t2 <;> by_cases c : s1 = s2 <;> simp [a, b, c]

theorem cacheMost_if (m : Int) : cacheMost m = if 1 < (if 64 < m then 64 else m) then (if 64 < m then 64 else m) else 1 := by unfold cacheMost; omega

set_option maxHeartbeats 1000000 in
set_option maxRecDepth 100000 in
/-- Show, as the document has it. -/
theorem ref12Show_any (v : Value) (l : List Sh) (m now : Int) (x : Sh) (w : World) (hs : Sl w 3 v l.length (shCells l)) (hl : l.length ≤ 64) :
    Calls Try.prog 21 #[v, .int .i64 m, .int .i64 now, .agg #[.string x.1, .int .i64 x.2.1, .int .i64 x.2.2]] w fun e w' =>
      ∃ v', e = .returned (.tuple #[v', .int .i64 (shShow l (cacheMost m) now x).2]) ∧ Sl w' 3 v' (shShow l (cacheMost m) now x).1.length (shCells (shShow l (cacheMost m) now x).1) ∧ Below w.heap.size w w' ∧
        (v' = v ∨ ∀ b, v'.ownBlock = some b → w.heap.size ≤ b) := by
  obtain ⟨a, cap, rfl, hcap, hcm⟩ := hs.form
  have heq := run_eql_refShown
  cases hn : nearB now x.2.1 with
  | false =>
    have HM : Hid (shShow l (cacheMost m) now x = (l, 11)) := Lib.hid (by rw [shShow, if_pos hn])
    have HS := Lib.hid hs
    clear hs
    go_enter Try.func21, Try.ntmps21
    go_wp2_with (go_at_call 20; refine (ref12Near_any _ _ _).mono ?_; rintro e w' ⟨rfl, rfl⟩)
    go_ret2
    rw [HM.out]
    exact ⟨_, rfl, HS.out.alloc _, (Below.refl _ _).alloc (Nat.le_refl _) _, .inl rfl⟩
  | true =>
    go_enter Try.func21, Try.ntmps21
    go_wp2_with (go_at_call 20; refine (ref12Near_any _ _ _).mono ?_; rintro e w' ⟨rfl, rfl⟩)
    go_loopw [10, 11] (fun v i wr => ∃ k : Nat, k ≤ l.length ∧ i = .int .i64 k ∧ Own wr (w.heap.size + 1) 32 3 v (shKept now (l.take k)).length (shCells (shKept now (l.take k))) ∧ x ∉ l.take k ∧
      Below w.heap.size w wr ∧ Blk wr w.heap.size [.string x.1, .int .i64 x.2.1, .int .i64 x.2.2] 32 ∧ (∀ b, v.ownBlock = some b → w.heap.size ≤ b)) (fun _ i _ => l.length - (intOf i).toNat)
    case atStart =>
      exact ⟨0, Nat.zero_le _, rfl, by simpa [shKept, shCells] using Own.nil _ _ _ _ _, by simp, ((Below.refl _ _).alloc (Nat.le_refl _) _).alloc (by simp) _, (Blk.new w [.string x.1, .int .i64 x.2.1, .int .i64 x.2.2] _).alloc _, fun b h => by simp [Value.ownBlock] at h; omega⟩
    case round =>
      obtain ⟨k, hk, rfl, hown, hnot, hbel, hx, hvb⟩ := hrel
      have hsz := hbel.size
      have hxl := hx.lt
      have hx0 := hx.cell 0
      have hx1 := hx.cell 1
      have hx2 := hx.cell 2
      simp only [List.getElem?_cons_zero, List.getElem?_cons_succ] at hx0 hx1 hx2
      have HX := Lib.hid hx
      have HN := Lib.hid hnot
      have HS := Lib.hid hs
      clear hx hnot hs
      by_cases hlt : k < l.length
      · obtain ⟨b, off, rfl, hc⟩ := HS.out.addr (by rw [shCells_length]; omega)
        obtain ⟨e0, e1, e2⟩ := shCells_at l k hlt
        have c0 := below_cell hbel (hc _ _ e0)
        have c1 : wr.cell? ⟨b, off + k * 3 + 1, none⟩ = _ := below_cell hbel (hc _ _ e1)
        have c2 : wr.cell? ⟨b, off + k * 3 + 2, none⟩ = _ := below_cell hbel (hc _ _ e2)
        have hlt' : (k : Int) < (l.length : Int) := by omega
        clear hc e0 e1 e2
        cases hE : shEqB l[k].1 l[k].2.1 l[k].2.2 x.1 x.2.1 x.2.2 with
        | true =>
          have HM : Hid (shShow l (cacheMost m) now x = (l, 14)) := by
            have : x ∈ l := (shEqB_iff l[k] x).1 hE ▸ List.getElem_mem hlt
            exact Lib.hid (by rw [shShow, if_neg (by simp [hn]), if_pos ((shHas_iff l x).2 this)])
          go_wp2_with fail
          go_quiet (fail)
          go_wp2_with fail
          go_ret2
          rw [HM.out]
          exact ⟨_, rfl, HS.out.below (below_drewN hbel _), below_drewN hbel _, .inl rfl⟩
        | false =>
          have HK1 := Lib.hid (shKept_keep now l k hlt)
          have HK2 := Lib.hid (shKept_drop now l k hlt)
          have HNE : x ∉ l.take (k + 1) := not_mem_take_succ x l k hlt HN.out (fun e => by have := (shEqB_iff l[k] x).2 e; rw [hE] at this; exact absurd this (by simp))
          have hkl := shKept_le now (l.take k)
          have hkt : (l.take k).length ≤ k := List.length_take_le _ _
          have HN1 := Lib.hid HNE
          clear HNE
          by_cases hK : wrap64 (now - l[k].2.1) ≤ 30
          · go_wp2_with fail
            go_quiet (fail)
            go_wp2_with (at_builtin; go_loud (refine wpList_app rfl (.tmp 40) (.tmp 45) elRefShown rfl (w.heap.size + 1) ((hown.drewN nq).alloc _) (Sl.lit ?c0 ?c1 ?c2 ?c3) ?c4 ?c5 ?c6 ?_))
            case c0 => rfl
            case c2 => exact ⟨rfl, rfl, rfl⟩
            case c3 => decide
            case c4 => unfold maxLen; omega
            case c5 => omega
            case c6 => simp; omega
            intro v' w' hown' hk' hvb'
            have hb0 : Below w.heap.size w (((wr.drewN nq).alloc (.cells #[.string l[k].1, .int .i64 l[k].2.1, .int .i64 l[k].2.2] 32))) := (below_drewN hbel nq).alloc hsz _
            have HV : Hid (∀ b, v'.ownBlock = some b → w.heap.size ≤ b) := Lib.hid (by
              intro b' hb'
              rcases hvb' b' hb' with h | h
              · exact hvb b' h
              · omega)
            have HR : Hid (Own w' (w.heap.size + 1) 32 3 v' (shKept now (l.take (k + 1))).length (shCells (shKept now (l.take (k + 1))))) := by
              refine Lib.hid ?_
              rw [HK1.out hK, shCells_append]
              simpa [shCells, Sh.cells] using hown'
            have hb2 : Below w.heap.size w w' := by
              refine hb0.trans (hk'.below ?_)
              intro k' hk2
              rcases hk2 with ⟨_, h⟩ | h <;> omega
            have hx' : Blk w' w.heap.size [.string x.1, .int .i64 x.2.1, .int .i64 x.2.2] 32 :=
              ((HX.out.drewN nq).alloc _).keep hk' (by rintro (⟨_, h⟩ | h) <;> omega)
            have HX' := Lib.hid hx'
            clear hown' hk' hown hbel hsz hxl hx0 hx1 hx2 c0 c1 c2 hvb hvb' hx' hb0
            go_wp2
            go_roundw
            case rel => exact ⟨k + 1, by omega, by go_num, HR.out, HN1.out, hb2, HX'.out, HV.out⟩
            case measure => simp [intOf]; omega
          · go_wp2_with fail
            go_quiet (fail)
            go_wp2_with fail
            go_roundw
            case rel => exact ⟨k + 1, by omega, by go_num, by rw [HK2.out hK]; exact hown.drewN _, HN1.out, below_drewN hbel _, HX.out.drewN _, hvb⟩
            case measure => simp [intOf]; omega
      · obtain rfl : k = l.length := by omega
        have hnot : ¬ shHas l x = true := fun e => absurd ((shHas_iff l x).1 e) (by simpa using HN.out)
        have hown' : Own wr (w.heap.size + 1) 32 3 u10 (shKept now l).length (shCells (shKept now l)) := by simpa using hown
        obtain ⟨a', cap', rfl, _, _⟩ := hown'.sl.form
        have hkl := shKept_le now l
        have HO := Lib.hid hown'
        clear hown hown'
        have HM : Hid (shShow l (cacheMost m) now x = if cacheMost m ≤ (shKept now l).length then (shKept now l, 8) else (shKept now l ++ [x], 0)) := Lib.hid (by rw [shShow, if_neg (by simp [hn]), if_neg hnot])
        have hcm1 : Hid (cacheMost m = max 1 (min m 64)) := rfl
        go_wp2_with (at_builtin; refine wpList_app rfl (.tmp 54) (.tmp 56) elRefShown rfl (w.heap.size + 1) (HO.out.alloc _) (Sl.lit (by simp) rfl (by simp [Value.oneCell']) (by decide)) (by unfold maxLen; omega) (by omega) (by simp; omega) ?_)
        any_goals
          first
          | (have hfull : cacheMost m ≤ ((shKept now l).length : Int) := by rw [cacheMost_if]; assumption
             go_ret2
             rw [HM.out, if_pos hfull]
             exact ⟨_, rfl, HO.out.sl, hbel, .inr hvb⟩)
          | skip
        all_goals
          intro v' w' hown' hk' hvb'
          have hfull : ¬ cacheMost m ≤ ((shKept now l).length : Int) := by rw [cacheMost_if]; exact Int.not_le.2 (by assumption)
          obtain ⟨L, hL⟩ : ∃ L, L = shKept now l ++ [x] := ⟨_, rfl⟩
          have HL := Lib.hid hL
          have fin : Sl w' 3 v' L.length (shCells L) ∧ Below w.heap.size w w' ∧ (∀ b, v'.ownBlock = some b → w.heap.size ≤ b) := by
            refine ⟨by rw [hL, shCells_append]; simpa [shCells, Sh.cells] using hown'.sl, (hbel.alloc (by omega) _).trans (hk'.below ?_), ?_⟩
            · intro k' hk2
              rcases hk2 with ⟨_, h⟩ | h <;> omega
            · intro b hb
              rcases hvb' b hb with h | h
              · exact hvb b h
              · omega
          have FIN := Lib.hid fin
          clear fin hown' hk' hvb' hvb hbel hL
          obtain ⟨a2, c2, rfl, _⟩ := FIN.out.1.form
          go_wp2_with fail
          go_ret2
          rw [HM.out, if_neg (Int.not_le.2 hfull), ← HL.out]
          exact ⟨_, rfl, FIN.out.1, FIN.out.2.1, .inr FIN.out.2.2⟩
end Go.Proofs.Ytppmjmginpkgaaa
