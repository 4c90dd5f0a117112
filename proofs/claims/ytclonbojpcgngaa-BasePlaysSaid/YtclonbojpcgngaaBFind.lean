/- Contracts: strings.Compare, slices.BinarySearchFunc over users, Base.place. -/
import Derived.Test.YtclonbojpcgngaaBUs
import Derived.Test.YtclonbojpcgngaaRes
import Derived.Laws.Externs
import Derived.Deep.DeepCutAuto
namespace Go.Proofs.Ytclonbojpcgngaa
set_option linter.unusedSimpArgs false
set_option linter.unusedVariables false
open Go.RowKit

set_option maxRecDepth 100000 in
theorem cmpString_any (a b : ByteArray) (w : World) :
    Calls Try.prog 37 #[.string a, .string b] w fun e w' => e = .returned (.int .i64 (cmpN a b)) ∧ w = w' := by
  go_enter Try.func37, Try.ntmps37
  go_wp2_with fail
  rw [run_callFunc_extern Try.func39 (by kernel_rfl) (by kernel_rfl) (by kernel_rfl) (e := Extern.BytealgCompare.compare) (by kernel_rfl), Lib.run_compareString]
  simp only [Result.andThen]
  rw [Oper.upon_value]
  go_wp2_with fail
  go_ret
  exact ⟨rfl, rfl⟩

set_option maxRecDepth 100000 in
theorem compare_any (a b : ByteArray) (w : World) :
    Calls Try.prog 32 #[.string a, .string b] w fun e w' => e = .returned (.int .i64 (cmpN a b)) ∧ w = w' := by
  go_enter Try.func32, Try.ntmps32
  go_wp2_with fail
  refine (cmpString_any a b w).mono ?_
  rintro e w1 ⟨rfl, rfl⟩
  go_wp2_with fail
  go_ret
  exact ⟨rfl, rfl⟩

set_option maxRecDepth 100000 in
theorem placeF_any (u : Us) (s : ByteArray) (w : World) :
    Calls Try.prog 31 #[.agg u.cells.toArray, .string s] w fun e w' => e = .returned (.int .i64 (cmpN u.name s)) ∧ Below w.heap.size w w' := by
  have c0 : (w.alloc (.cells u.cells.toArray 30)).cell? ⟨w.heap.size, 0, none⟩ = some (.string u.name) := (Blk.new w u.cells 30).cell 0
  go_enter Try.func31, Try.ntmps31
  go_wp2_with fail
  refine (compare_any u.name s _).mono ?_
  rintro e w1 ⟨rfl, rfl⟩
  go_wp2_with fail
  go_ret
  exact ⟨rfl, (Below.refl _ _).alloc (Nat.le_refl _) _⟩

theorem usC_cells {w w' : World} {b o n c : Nat} {L : List Us} (h : Sl w 20 (.slice (some ⟨b, o, none⟩) n c) n (usC L)) (hb : Below w.heap.size w w') (k : Nat) (hk : k < L.length) : CellsAt w' b (o + k * 20) L[k].cells := by
  obtain ⟨b', o', he, hcell⟩ := h.addr (by rw [usC_length]; omega)
  simp only [Option.some.injEq, Addr.mk.injEq, and_true] at he
  obtain ⟨rfl, rfl⟩ := he
  intro j u hj
  have hj' : j < 20 := by rw [← L[k].cells_length]; exact (List.getElem?_eq_some_iff.1 hj).1
  have := hcell (k * 20 + j) u (by rw [usC_at L k j hk hj']; exact hj)
  rw [Nat.add_assoc]
  exact below_cell hb this

set_option maxRecDepth 100000 in
set_option maxHeartbeats 2000000 in
theorem bs_any (v : Value) (L : List Us) (s : ByteArray) (w : World) (h : Sl w 20 v L.length (usC L)) (hs : Sorted L) (hl : L.length ≤ 1000) :
    Calls Try.prog 30 #[v, .string s, .func (.func 31) #[] #[]] w fun e w' =>
      e = .returned (.tuple #[.int .i64 (posU L s), .bool (hasU L s)]) ∧ Below w.heap.size w w' := by
  obtain ⟨a, c, rfl, hc, hm⟩ := h.form
  unfold maxLen at hm
  have HSL := Lib.hid h
  have HS := Lib.hid hs
  clear h hs
  go_enter Try.func30, Try.ntmps30
  go_wp2_with fail
  go_loopw [9, 10] (fun iv jv wr => ∃ i j : Nat, iv = .int .i64 i ∧ jv = .int .i64 j ∧ i ≤ j ∧ j ≤ L.length ∧ (∀ k (hk : k < L.length), k < i → cmpN L[k].name s < 0) ∧ (∀ k (hk : k < L.length), j ≤ k → 0 ≤ cmpN L[k].name s) ∧ Below w.heap.size w wr) (fun i j _ => (intOf j).toNat - (intOf i).toNat)
  case atStart => exact ⟨0, L.length, rfl, rfl, Nat.zero_le _, Nat.le_refl _, fun k _ h => by omega, fun k h h' => by omega, Below.refl _ _⟩
  case round =>
    obtain ⟨i, j, rfl, rfl, hij, hjl, hlo, hhi, hB⟩ := hrel
    have HLO := Lib.hid hlo
    have HHI := Lib.hid hhi
    have HB := Lib.hid hB
    clear hlo hhi hB
    by_cases hlt : i < j
    · obtain ⟨bl, ol, rfl, _⟩ := HSL.out.addr (by rw [usC_length]; omega)
      go_upto_region 5 with fail
      obtain ⟨m, hmid⟩ : ∃ m : Nat, ((i : Int) + j) / 2 = m := ⟨(i + j) / 2, by omega⟩
      rw [hmid]
      have hmi : i ≤ m := by omega
      have hmj : m < j := by omega
      have hml : m < L.length := by omega
      have HCE := Lib.hid (usC_cells HSL.out HB.out m hml)
      obtain ⟨u, hu⟩ : ∃ u, u = L[m] := ⟨_, rfl⟩
      rw [← hu] at HCE
      have HU := Lib.hid hu
      clear hu hmid
      go_wp2_with ((with_reducible show wpList _ _ _ (⟨some 28, _, _, _, _, _⟩ :: _) _ _); refine wpList_ldAgg rfl (.tmp 27) aggUs rfl rfl (cs := u.cells) u.cells_length HCE.out ?_)
      refine (placeF_any u s wr).mono ?_
      rintro e w1 ⟨rfl, hb⟩
      have HB1 := Lib.hid (HB.out.trans (hb.mono HB.out.size))
      clear hb
      by_cases hcm : cmpN u.name s < 0
      · have HCM := Lib.hid hcm
        go_wp2_with fail
        go_roundw
        case rel => exact ⟨m + 1, j, by go_num, rfl, by omega, hjl, fun k hk hlt => by
          rcases Nat.lt_or_ge k m with h | h
          · exact cmpN_trans (HS.out.at h hml) (by rw [← HU.out]; exact HCM.out)
          · have h' : k = m := by omega
            subst h'
            rw [← HU.out]; exact HCM.out, HHI.out, HB1.out⟩
        case measure => simp [intOf]; omega
      · have HCM := Lib.hid hcm
        go_wp2_with fail
        go_roundw
        case rel => exact ⟨i, m, rfl, rfl, hmi, by omega, HLO.out, fun k hk hle => by
          have h0 : 0 ≤ cmpN u.name s := HCM.out
          rcases Nat.eq_or_lt_of_le hle with h' | h'
          · subst h'
            rw [← HU.out]; exact h0
          · apply Int.not_lt.1
            intro h
            exact Int.not_lt.2 h0 (by rw [HU.out]; exact cmpN_trans (HS.out.at h' hk) h), HB1.out⟩
        case measure => simp [intOf]; omega
    · obtain rfl : i = j := by omega
      have hp : posU L s = i := posU_is hjl HLO.out (fun h => Int.not_lt.2 (HHI.out i h (Nat.le_refl _)))
      have HP := Lib.hid hp
      clear hp
      by_cases hil : i < L.length
      · have hil' : (i : Int) < L.length := by omega
        obtain ⟨bl, ol, rfl, _⟩ := HSL.out.addr (by rw [usC_length]; omega)
        have HCE := Lib.hid (usC_cells HSL.out HB.out i hil)
        obtain ⟨u, hu⟩ : ∃ u, u = L[i] := ⟨_, rfl⟩
        rw [← hu] at HCE
        have HH : Hid (hasU L s = (cmpN u.name s == 0)) := Lib.hid (by
          unfold hasU
          rw [HP.out, List.getElem?_eq_getElem hil, hu]
          rfl)
        clear hu
        go_wp2_with ((with_reducible show wpList _ _ _ (⟨some 44, _, _, _, _, _⟩ :: _) _ _); refine wpList_ldAgg rfl (.tmp 43) aggUs rfl rfl (cs := u.cells) u.cells_length HCE.out ?_)
        refine (placeF_any u s wr).mono ?_
        rintro e w1 ⟨rfl, hb⟩
        have HB1 := Lib.hid (HB.out.trans (hb.mono HB.out.size))
        clear hb
        go_wp2_with fail
        go_ret2
        rw [HP.out, HH.out]
        exact ⟨rfl, HB1.out⟩
      · have hil' : ¬ (i : Int) < L.length := by omega
        have HH : Hid (hasU L s = false) := Lib.hid (by
          unfold hasU
          rw [HP.out, List.getElem?_eq_none (by omega)])
        go_wp2_with fail
        go_ret2
        rw [HP.out, HH.out]
        exact ⟨rfl, HB.out⟩

/-- All users, in memory. -/
def baseR (p : Nat) (L : List Us) : Res := .ex fun v => .all [.blk p [v] 65, .own 30 20 v L.length (usC L)]
theorem baseR_open {W : World} {p : Nat} {L : List Us} {l : List Res} (h : Hold W (baseR p L :: l)) :
    ∃ a c, L.length ≤ c ∧ c ≤ maxLen ∧ Hold W (.blk p [.slice a L.length c] 65 :: .own 30 20 (.slice a L.length c) L.length (usC L) :: l) := by
  obtain ⟨v, h⟩ := Hold.ex.1 h
  have h := Hold.app.1 h
  obtain ⟨a, c, rfl, h1, h2⟩ := (h.ownOf (e := 30) (sz := 20) (v := v) (n := L.length) (cs := usC L) (by simp)).1.sl.form
  exact ⟨a, c, h1, h2, h⟩
theorem baseR_shut {W : World} {p : Nat} {L : List Us} {v : Value} {l : List Res} (h : Hold W (.blk p [v] 65 :: .own 30 20 v L.length (usC L) :: l)) : Hold W (baseR p L :: l) :=
  Hold.ex.2 ⟨v, Hold.app.2 h⟩

set_option maxRecDepth 100000 in
theorem place_any (p : Nat) (L : List Us) (s : ByteArray) (l : List Res) (w : World) (h : Hold w (baseR p L :: l)) (hs : Sorted L) (hl : L.length ≤ 1000) :
    Calls Try.prog 23 #[.pointer (some ⟨p, 0, none⟩), .string s] w fun e w' => e = .returned (.tuple #[.int .i64 (posU L s), .bool (hasU L s)]) ∧ Below w.heap.size w w' := by
  obtain ⟨a, c, hc, hm, h⟩ := baseR_open h
  have c0 : w.cell? ⟨p, 0, none⟩ = some (.slice a L.length c) := (h.blkOf (List.mem_cons_self)).cell 0
  have hsl := (h.ownOf (e := 30) (sz := 20) (v := .slice a L.length c) (n := L.length) (cs := usC L) (by simp)).1.sl
  have HB := Lib.hid (bs_any _ L s w hsl hs hl)
  clear h hsl hs
  go_enter Try.func23, Try.ntmps23
  go_wp2_with fail
  refine HB.out.mono ?_
  rintro e w1 ⟨rfl, hb⟩
  go_wp2_with fail
  go_ret2
  exact ⟨rfl, hb⟩
end Go.Proofs.Ytclonbojpcgngaa
