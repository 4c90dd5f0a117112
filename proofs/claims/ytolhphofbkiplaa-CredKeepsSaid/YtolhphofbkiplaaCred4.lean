/- Contracts of package cred: Drop, Wipe, Len. -/
import Derived.Test.YtolhphofbkiplaaCred3
namespace Go.Proofs.Ytolhphofbkiplaa
set_option linter.unusedSimpArgs false
set_option linter.unusedVariables false
open Go.RowKit

/-- The slots behind Drop, and its error. -/
def dropI (L : List (Option Cr)) (s : ByteArray) : List (Option Cr) × Int :=
  if placeI L s < 0 ∨ (L.getD (placeI L s).toNat none) = none then (L, 9) else (L.set (placeI L s).toNat none, 0)

set_option maxRecDepth 100000 in
theorem credDrop_any (F : Nat → Prop) (p : Nat) (L : List (Option Cr)) (s : ByteArray) (w : World) (h : StoreAt w F p L) :
    Calls Try.prog 8 #[.pointer (some ⟨p, 0, none⟩), .string s] w fun e w' => e = .returned (.int .i64 (dropI L s).2) ∧ StoreAt w' F p (dropI L s).1 ∧ Keeps (fun j => j = p) w w' := by
  have HH := Lib.hid h
  have HL := Lib.hid h.2.1
  clear h
  go_enter Try.func8, Try.ntmps8
  go_wp2_with fail
  refine (credPlace_any F p L s w HH.out).mono ?_
  rintro e w1 ⟨rfl, rfl⟩
  by_cases hneg : placeI L s < 0
  · have hd : dropI L s = (L, 9) := by rw [dropI, if_pos (.inl hneg)]
    have HD := Lib.hid hd
    clear hd
    go_wp2_with fail
    go_ret
    rw [HD.out]
    exact ⟨rfl, HH.out, Keeps.refl _ _⟩
  · obtain ⟨k, hkk⟩ : ∃ k : Nat, placeI L s = k := ⟨(placeI L s).toNat, by omega⟩
    have hk16 : k < 16 := by have := placeI_lt L s; rw [HL.out] at this; omega
    have hkL : k < L.length := by rw [HL.out]; exact hk16
    rw [hkk] at hneg ⊢
    have HKK := Lib.hid hkk
    have hiu := ixUsed p k hk16
    have hcu := HH.out.usedC k hkL
    have hg : L.getD k none = L[k] := by simp [List.getD, hkL]
    cases ho : L[k] with
    | none =>
      have hd : dropI L s = (L, 9) := by rw [dropI, HKK.out, if_pos (.inr (by rw [Int.toNat_natCast, hg, ho]))]
      have HD := Lib.hid hd
      have hcu2 : w.cell? ⟨p, 336 + k, none⟩ = some (.bool false) := by rw [hcu, ho]; rfl
      clear hd hkk ho hg hcu
      go_wp2_with fail
      go_ret
      rw [HD.out]
      exact ⟨rfl, HH.out, Keeps.refl _ _⟩
    | some c =>
      have hd : dropI L s = (L.set k none, 0) := by rw [dropI, HKK.out, Int.toNat_natCast, hg, ho, if_neg (by simp)]
      have HD := Lib.hid hd
      have hcu2 : w.cell? ⟨p, 336 + k, none⟩ = some (.bool true) := by rw [hcu, ho]; rfl
      clear hd hkk ho hg hcu
      go_wp2_with fail
      refine (credWipe1_any F p k L w HH.out hk16).mono ?_
      rintro e w2 ⟨rfl, hs2, hk2⟩
      have HS2 := Lib.hid hs2
      have HK2 := Lib.hid hk2
      clear hs2 hk2
      go_wp2_with fail
      go_ret
      rw [HD.out]
      exact ⟨rfl, HS2.out, HK2.out⟩

def wipeN (L : List (Option Cr)) (k : Nat) : List (Option Cr) := List.replicate k none ++ L.drop k
theorem wipeN_set (L : List (Option Cr)) (k : Nat) (hk : k < L.length) : (wipeN L k).set k none = wipeN L (k + 1) := by
  unfold wipeN
  rw [List.set_append_right _ _ (by simp), List.length_replicate, Nat.sub_self, List.drop_eq_getElem_cons hk, List.set_cons_zero, List.replicate_succ']
  simp

set_option maxRecDepth 100000 in
theorem credWipe_any (F : Nat → Prop) (p : Nat) (L : List (Option Cr)) (w : World) (h : StoreAt w F p L) :
    Calls Try.prog 9 #[.pointer (some ⟨p, 0, none⟩)] w fun e w' => e = .returned (.tuple #[]) ∧ StoreAt w' F p noneL ∧ Keeps (fun j => j = p) w w' := by
  have HH := Lib.hid h
  have HL := Lib.hid h.2.1
  clear h
  go_enter Try.func9, Try.ntmps9
  go_wp2_with fail
  go_loopw [3] (fun i wr => ∃ k : Nat, k ≤ 16 ∧ i = .int .i64 k ∧ StoreAt wr F p (wipeN L k) ∧ Keeps (fun j => j = p) w wr) (fun i _ => 16 - (intOf i).toNat)
  case atStart => exact ⟨0, by omega, rfl, by simpa [wipeN] using HH.out, Keeps.refl _ _⟩
  case round =>
    obtain ⟨k, hk, rfl, hs, hkp⟩ := hrel
    have HS := Lib.hid hs
    have HK := Lib.hid hkp
    clear hs hkp
    by_cases hlt : k < 16
    · have hki : (k : Int) < 16 := by omega
      go_wp2_with fail
      refine (credWipe1_any F p k _ wr HS.out hlt).mono ?_
      rintro e w2 ⟨rfl, hs2, hk2⟩
      rw [wipeN_set L k (by rw [HL.out]; exact hlt)] at hs2
      have HS2 := Lib.hid hs2
      have HK2 := Lib.hid hk2
      clear hs2 hk2
      go_wp2_with fail
      go_roundw
      case rel => exact ⟨k + 1, by omega, by go_num, HS2.out, HK.out.trans HK2.out⟩
      case measure => simp [intOf]; omega
    · obtain rfl : k = 16 := by omega
      have e : wipeN L 16 = noneL := by rw [wipeN, List.drop_of_length_le (by rw [HL.out]; exact Nat.le_refl _)]; simp [noneL]
      rw [e] at HS
      clear e
      go_wp2_with fail
      go_end0
      exact ⟨rfl, HS.out, HK.out⟩

/-- How many slots have tickets. -/
def usedN (L : List (Option Cr)) : Nat := (L.filter (·.isSome)).length
theorem usedN_snoc (L : List (Option Cr)) (o : Option Cr) : usedN (L ++ [o]) = usedN L + if o.isSome then 1 else 0 := by
  unfold usedN
  rw [List.filter_append, List.length_append]
  cases o <;> simp
theorem usedN_le (L : List (Option Cr)) : usedN L ≤ L.length := List.length_filter_le _ _

set_option maxRecDepth 100000 in
theorem credLen_any (F : Nat → Prop) (p : Nat) (L : List (Option Cr)) (w : World) (h : StoreAt w F p L) :
    Calls Try.prog 14 #[.pointer (some ⟨p, 0, none⟩)] w fun e w' => e = .returned (.int .i64 (usedN L)) ∧ w = w' := by
  have hl := h.2.1
  have HL := Lib.hid hl
  have hu := h.used
  have HU := Lib.hid hu
  have hul : (L.map slB).length = 16 := by rw [List.length_map, hl]
  have HUL := Lib.hid hul
  clear h hl hu hul
  go_enter Try.func14, Try.ntmps14
  go_wp2_with ((with_reducible show wpList _ _ _ (⟨some 9, _, _, _, _, _⟩ :: _) _ _); refine wpList_ldAgg rfl (.tmp 8) aggUsed rfl rfl (cs := L.map slB) HUL.out HU.out ?_)
  go_wp2_with fail
  go_loop [3, 10] (fun n i => ∃ k : Nat, k ≤ 16 ∧ i = .int .i64 k ∧ n = .int .i64 (usedN (L.take k))) (fun _ i => 16 - (intOf i).toNat)
  case atStart => exact ⟨0, by omega, rfl, rfl⟩
  case round =>
    obtain ⟨k, hk, rfl, rfl⟩ := hrel
    by_cases hlt : k < 16
    · have hkl : k < L.length := by rw [HL.out]; exact hlt
      have hix := run_index16 L k hkl HL.out
      have hki : (k : Int) < 16 := by omega
      have hsn := usedN_snoc (L.take k) L[k]
      rw [← List.take_succ_eq_append_getElem hkl] at hsn
      have hle := usedN_le (L.take k)
      rw [List.length_take] at hle
      cases ho : L[k] with
      | none =>
        have hix2 : ∀ w, (Instr.index 49 (.agg (L.map slB).toArray) (.int .i64 k)).run Try.prog w = .ok (.bool false) w := fun w => by rw [hix w, ho]; rfl
        have hv : usedN (L.take (k + 1)) = usedN (L.take k) := by rw [hsn, ho]; rfl
        have HV := Lib.hid hv
        clear hix hsn hv ho
        go_wp2_with fail
        go_round
        case rel => exact ⟨k + 1, by omega, by go_num, by rw [HV.out]⟩
        case measure => simp [intOf]; omega
      | some c =>
        have hix2 : ∀ w, (Instr.index 49 (.agg (L.map slB).toArray) (.int .i64 k)).run Try.prog w = .ok (.bool true) w := fun w => by rw [hix w, ho]; rfl
        have hv : usedN (L.take (k + 1)) = usedN (L.take k) + 1 := by rw [hsn, ho]; rfl
        have HV := Lib.hid hv
        clear hix hsn hv ho
        go_wp2_with fail
        go_round
        case rel => exact ⟨k + 1, by omega, by go_num, by rw [HV.out]; go_num⟩
        case measure => simp [intOf]; omega
    · obtain rfl : k = 16 := by omega
      rw [List.take_of_length_le (by rw [HL.out]; exact Nat.le_refl _)]
      go_wp2_with fail
      go_ret
      exact ⟨rfl, rfl⟩
end Go.Proofs.Ytolhphofbkiplaa
