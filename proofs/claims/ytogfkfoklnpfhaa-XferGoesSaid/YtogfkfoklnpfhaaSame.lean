/- Contract of the document's Same. -/
import Derived.Test.YtogfkfoklnpfhaaSlices
namespace Go.Proofs.Ytogfkfoklnpfhaa
set_option linter.unusedSimpArgs false
set_option linter.unusedVariables false
open Go.RowKit

set_option maxRecDepth 100000 in
theorem same_any (v u : Value) (a b : List UInt8) (w : World) (ha : Bs w v a) (hb : Bs w u b) :
    Calls Try.prog 16 #[v, u] w fun e w' => e = .returned (.bool (decide (a = b))) ∧ ∃ n, w' = w.drewN n := by
  have HA := Lib.hid ha
  have HB := Lib.hid hb
  obtain ⟨ad, cap, rfl, hcap, hcm⟩ := ha.form
  obtain ⟨bd, cap', rfl, hcap', hcm'⟩ := hb.form
  clear ha hb
  unfold maxLen at hcm hcm'
  by_cases hl : a.length = b.length
  · have hne : ((a.length : Int) != (b.length : Int)) = false := by simp [hl]
    have HLL := Lib.hid hl
    have hle : a.length ≤ b.length := by omega
    have hge : b.length ≤ a.length := by omega
    clear hl
    go_enter Try.func16, Try.ntmps16
    go_wp2_with fail
    go_loopw [5] (fun i wr => ∃ (k n : Nat), k ≤ a.length ∧ i = .int .i64 k ∧ wr = w.drewN n ∧ ∀ j, j < k → a[j]? = b[j]?) (fun i _ => a.length - (intOf i).toNat)
    case atStart => exact ⟨0, 0, Nat.zero_le _, rfl, rfl, by simp⟩
    case round =>
      obtain ⟨k, n, hk, rfl, rfl, heq⟩ := hrel
      have HE := Lib.hid heq
      clear heq
      by_cases hlt : k < a.length
      · have hlt1 : (k : Int) < (a.length : Int) := by omega
        have hltb : k < b.length := by omega
        have hlt2 : (k : Int) < (b.length : Int) := by omega
        obtain ⟨b1, o1, rfl, hc1⟩ := HA.out.addr (by rw [bCells_length]; omega)
        obtain ⟨b2, o2, rfl, hc2⟩ := HB.out.addr (by rw [bCells_length]; omega)
        have c1 : w.cell? ⟨b1, o1 + k, none⟩ = some (.int .u8 a[k].toNat) := hc1 k _ (bCells_get a k hlt)
        have c2 : w.cell? ⟨b2, o2 + k, none⟩ = some (.int .u8 b[k].toNat) := hc2 k _ (bCells_get b k hltb)
        clear hc1 hc2
        by_cases hx : a[k] = b[k]
        · have hx1 : ((a[k].toNat : Int) != (b[k].toNat : Int)) = false := by simp [hx]
          have HX := Lib.hid hx
          clear hx
          have HE' : Hid (∀ j, j < k + 1 → a[j]? = b[j]?) := Lib.hid (by
            intro j hj
            rcases Nat.lt_or_ge j k with h | h
            · exact HE.out j h
            · obtain rfl : j = k := by omega
              rw [List.getElem?_eq_getElem hlt, List.getElem?_eq_getElem hltb, HX.out])
          go_wp2_with fail
          go_quiet (fail)
          go_wp2_with fail
          go_roundw
          case rel => exact ⟨k + 1, _, by omega, by go_num, rfl, HE'.out⟩
          case measure => simp [intOf]; omega
        · have hx1 : ((a[k].toNat : Int) != (b[k].toNat : Int)) = true := by
            rw [bne_iff_ne]
            intro e
            exact hx (UInt8.toNat_inj.1 (by omega))
          have HX := Lib.hid hx
          clear hx
          have HR : Hid (decide (a = b) = false) := Lib.hid (by
            rw [decide_eq_false_iff_not]
            rintro rfl
            exact HX.out rfl)
          go_wp2_with fail
          go_quiet (fail)
          go_wp2_with fail
          go_ret
          rw [HR.out]
          exact ⟨rfl, n + nq, by simp [World.drewN, Nat.add_assoc]⟩
      · obtain rfl : k = a.length := by omega
        have HR : Hid (decide (a = b) = true) := Lib.hid (by
          rw [decide_eq_true_eq]
          apply List.ext_getElem? 
          intro j
          rcases Nat.lt_or_ge j a.length with h | h
          · exact HE.out j h
          · rw [List.getElem?_eq_none h, List.getElem?_eq_none (by omega)])
        go_wp2_with fail
        go_ret
        rw [HR.out]
        exact ⟨rfl, _, rfl⟩
  · have hne : ((a.length : Int) != (b.length : Int)) = true := by rw [bne_iff_ne]; omega
    have HR : Hid (decide (a = b) = false) := Lib.hid (by rw [decide_eq_false_iff_not]; rintro rfl; exact hl rfl)
    clear hl
    go_enter Try.func16, Try.ntmps16
    go_wp2_with fail
    go_ret
    rw [HR.out]
    exact ⟨rfl, 0, rfl⟩

theorem same_b (v u : Value) (a b : List UInt8) (w : World) (ha : Bs w v a) (hb : Bs w u b) :
    Calls Try.prog 16 #[v, u] w fun e w' => e = .returned (.bool (decide (a = b))) ∧ Below w.heap.size w w' :=
  (same_any v u a b w ha hb).mono (by rintro e w' ⟨rfl, n, rfl⟩; exact ⟨rfl, below_drewN (Below.refl _ _) n⟩)
end Go.Proofs.Ytogfkfoklnpfhaa
