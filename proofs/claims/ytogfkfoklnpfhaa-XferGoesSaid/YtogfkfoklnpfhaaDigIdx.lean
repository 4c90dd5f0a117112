/- Contracts: the search for a row of bytes among rows (slices.IndexFunc with Digest's closure). -/
import Derived.Test.YtogfkfoklnpfhaaMark
import Derived.Test.YtogfkfoklnpfhaaRes
import Derived.Test.YtogfkfoklnpfhaaOctetEq
namespace Go.Proofs.Ytogfkfoklnpfhaa
set_option linter.unusedSimpArgs false
set_option linter.unusedVariables false
open Go.RowKit
set_option maxRecDepth 100000 in
theorem digClos_any (v u : Value) (a b : List UInt8) (q : Nat) (w : World) (ha : Bs w v a) (hb : Bs w u b) (hq : w.cell? ⟨q, 0, none⟩ = some u) :
    Calls Try.prog 30 #[v, .pointer (some ⟨q, 0, none⟩)] w fun e w' => e = .returned (.bool (decide (a = b))) ∧ w = w' := by
  have HE := Lib.hid (equal_any v u a b w ha hb)
  obtain ⟨a1, c1, rfl, _, _⟩ := ha.form
  obtain ⟨a2, c2, rfl, _, _⟩ := hb.form
  clear ha hb
  go_enter Try.func30, Try.ntmps30
  go_wp2_with fail
  refine HE.out.mono ?_
  rintro e w' ⟨rfl, rfl⟩
  go_wp2_with fail
  go_ret
  exact ⟨rfl, rfl⟩

def IdxRes (w : World) (sums : List (List UInt8)) (b : List UInt8) (e : Ending) (w' : World) : Prop :=
  e = .returned (.int .i64 (if b ∈ sums then (sums.idxOf b : Int) else -1)) ∧ w = w'

set_option maxRecDepth 100000 in
set_option maxHeartbeats 1000000 in
theorem digIndex_any (sv u : Value) (vs : List Value) (sums : List (List UInt8)) (b : List UInt8) (q : Nat) (w : World) (hs : Sl w 1 sv sums.length vs) (hr : ∀ (j : Nat) v r, vs[j]? = some v → sums[j]? = some r → Bs w v r) (hb : Bs w u b) (hq : w.cell? ⟨q, 0, none⟩ = some u) :
    Calls Try.prog 29 #[sv, .func (Fn.func 30) #[] #[.pointer (some ⟨q, 0, none⟩)]] w (IdxRes w sums b) := by
  obtain ⟨a, c, rfl, hc, hm⟩ := hs.form
  have HS := Lib.hid hs
  have HR := Lib.hid hr
  have HB := Lib.hid hb
  have HQ := Lib.hid hq
  unfold maxLen at hm
  clear hs hr hb hq
  go_enter Try.func29, Try.ntmps29
  go_wp2_with fail
  go_loop [5, 8] (fun _ i => ∃ k : Nat, k ≤ sums.length ∧ i = .int .i64 k ∧ b ∉ sums.take k) (fun _ i => sums.length - (intOf i).toNat)
  case atStart => exact ⟨0, Nat.zero_le _, rfl, by simp⟩
  case round =>
    obtain ⟨k, hk, rfl, hn⟩ := hrel
    have HN := Lib.hid hn
    clear hn
    by_cases hlt : k < sums.length
    · obtain ⟨g, o, rfl, hcell⟩ := HS.out.addr (by rw [HS.out.1]; omega)
      have hkl : k < vs.length := by rw [HS.out.1]; omega
      obtain ⟨v, hv⟩ : ∃ v, vs[k]? = some v := ⟨_, List.getElem?_eq_getElem hkl⟩
      have hck : w.cell? ⟨g, o + k, none⟩ = some v := hcell k v hv
      have hrow := HR.out k v sums[k] hv (List.getElem?_eq_getElem hlt)
      have HC := Lib.hid (digClos_any v u sums[k] b q w hrow HB.out HQ.out)
      obtain ⟨a1, c1, rfl, _, _⟩ := hrow.form
      clear hcell hrow hv
      by_cases he : sums[k] = b
      · have HF : Hid ((if b ∈ sums then (sums.idxOf b : Int) else -1) = k) := Lib.hid (by
          have hm : b ∈ sums := he ▸ List.getElem_mem hlt
          rw [if_pos hm]
          have hnb := HN.out
          have : sums.idxOf b = k := by
            have e1 : sums = sums.take k ++ sums.drop k := (List.take_append_drop _ _).symm
            rw [e1, List.idxOf_append, if_neg hnb, List.drop_eq_getElem_cons hlt, he, List.idxOf_cons_self]
            simp; omega
          rw [this])
        have HE : Hid (decide (sums[k] = b) = true) := Lib.hid (by simpa using he)
        rw [HE.out] at HC
        clear he
        go_wp2_with fail
        refine HC.out.mono ?_
        rintro e w' ⟨rfl, rfl⟩
        go_wp2_with fail
        go_ret
        exact ⟨by rw [HF.out]; rfl, rfl⟩
      · have HE : Hid (decide (sums[k] = b) = false) := Lib.hid (by simpa using he)
        rw [HE.out] at HC
        have HT : Hid (b ∉ sums.take (k + 1)) := Lib.hid (not_mem_take_succ b sums k hlt HN.out he)
        clear he
        go_wp2_with fail
        refine HC.out.mono ?_
        rintro e w' ⟨rfl, rfl⟩
        go_wp2_with fail
        go_round
        case rel => exact ⟨k + 1, by omega, by go_num, HT.out⟩
        case measure => simp [intOf]; omega
    · obtain rfl : k = sums.length := by omega
      have HF : Hid ((if b ∈ sums then (sums.idxOf b : Int) else -1) = -1) := Lib.hid (by
        have hnb := HN.out
        rw [List.take_length] at hnb
        rw [if_neg hnb])
      go_wp2_with fail
      go_ret
      exact ⟨by rw [HF.out]; rfl, rfl⟩
end Go.Proofs.Ytogfkfoklnpfhaa
