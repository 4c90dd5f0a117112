/- sha: the digest of rows of bytes. -/
import Derived.Test.YtdmjliehobgknaaShaDigest
namespace Go.Proofs.Ytdmjliehobgknaa
set_option linter.unusedSimpArgs false
set_option linter.unusedVariables false
open Go.RowKit

set_option maxHeartbeats 2000000 in
set_option maxRecDepth 100000 in
theorem shaOf_any (v : Value) (rows : List (List UInt8)) (w : World) (h : Rs w v rows) (hlen : rows.flatten.length ≤ 1099511627000) :
    Calls Try.prog 15 #[v] w fun e w' => ∃ v', e = .returned v' ∧ OwnBs w' w.heap.size v' (digB rows.flatten) ∧ Below w.heap.size w w' := by
  obtain ⟨vs, hvl, hsl, hel⟩ := h
  obtain ⟨a, cap, rfl, hcap, hcm⟩ := hsl.form
  have HSL := Lib.hid hsl
  have HEL := Lib.hid hel
  have HVL := Lib.hid hvl
  unfold maxLen at hcm
  clear hsl hel
  go_enter Try.func15, Try.ntmps15
  go_wp2_with fail
  refine (shaNew_any w).mono ?_
  rintro e w1 ⟨rfl, hs1, hb1⟩
  have HS1 := Lib.hid (hs1.mono (fun k (hk : k = w.heap.size) => Nat.le_of_eq hk.symm))
  have HB1 := Lib.hid hb1
  obtain ⟨p, hp⟩ : ∃ p, p = w.heap.size := ⟨_, rfl⟩
  rw [← hp] at HS1 ⊢
  have HPE := Lib.hid hp
  have hpw : w.heap.size ≤ p := by omega
  clear hs1 hb1 hp
  go_wp2_with fail
  go_loopw [9] (fun i wr => ∃ k : Nat, k ≤ rows.length ∧ i = .int .i64 k ∧ SumOf wr (fun j => w.heap.size ≤ j) p (rows.take k).flatten ∧ Below w.heap.size w wr) (fun i _ => rows.length - (intOf i).toNat)
  case atStart => exact ⟨0, Nat.zero_le _, rfl, by rw [HPE.out] at HS1 ⊢; exact HS1.out, HB1.out⟩
  case round =>
    obtain ⟨k, hk, rfl, hsum, hB⟩ := hrel
    by_cases hlt : k < rows.length
    · obtain ⟨b, off, rfl, hc⟩ := HSL.out.addr (by rw [HVL.out]; omega)
      have hkv : k < vs.length := by rw [HVL.out]; exact hlt
      have c0 : wr.cell? ⟨b, off + k, none⟩ = some vs[k] := below_cell hB (hc k _ (List.getElem?_eq_getElem hkv))
      have hbs := (HEL.out k vs[k] rows[k] (List.getElem?_eq_getElem hkv) (List.getElem?_eq_getElem hlt)).below hB
      obtain ⟨ar, cr, hvk, _⟩ := hbs.form
      have hft := flatten_take_succ rows k hlt
      have hfl := flatten_take_le rows (k + 1)
      rw [hft, List.length_append] at hfl
      have HBS := Lib.hid hbs
      have HFT := Lib.hid hft
      have HSUM := Lib.hid hsum
      have hwB := hB.size
      generalize vs[k] = u at c0 hvk HBS
      subst hvk
      clear hc hbs hft hsum
      go_wp2_with fail
      refine (shaWrite_any _ p _ _ _ wr HSUM.out HBS.out (by omega)).mono ?_
      rintro e w2 ⟨rfl, hs2, hk2⟩
      have hb2 : Below w.heap.size w w2 := hB.trans (hk2.below (by rintro j (h | h) <;> omega))
      have HS2 := Lib.hid (hs2.mono (G := fun j => w.heap.size ≤ j) (fun j hj => by rcases hj with h | h; exact h; exact Nat.le_trans hwB h))
      clear hs2 hk2
      go_wp2_with fail
      go_roundw
      case rel => exact ⟨k + 1, by omega, by go_num, by rw [HFT.out]; exact HS2.out, hb2⟩
      case measure => simp [intOf]; omega
    · obtain rfl : k = rows.length := by omega
      rw [List.take_length] at hsum
      have HSUM := Lib.hid hsum
      clear hsum
      go_wp2_with fail
      refine (shaDigest_any _ p _ wr HSUM.out (by omega)).mono ?_
      rintro e w2 ⟨v2, rfl, ho2, hb2⟩
      have hwB := hB.size
      have fin : OwnBs w2 w.heap.size v2 (digB rows.flatten) := ho2.base hwB
      have hb3 : Below w.heap.size w w2 := hB.trans (hb2.mono hwB)
      have FIN := Lib.hid fin
      clear ho2 fin hb2
      go_wp2_with fail
      go_ret
      exact ⟨_, rfl, FIN.out, hb3⟩
end Go.Proofs.Ytdmjliehobgknaa
