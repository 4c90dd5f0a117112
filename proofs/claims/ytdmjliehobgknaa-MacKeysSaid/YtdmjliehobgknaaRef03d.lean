/- Contracts of the document's primes and Ks (compeerref03). -/
import Derived.Test.YtdmjliehobgknaaRef03c
namespace Go.Proofs.Ytdmjliehobgknaa
set_option linter.unusedSimpArgs false
set_option linter.unusedVariables false
open Go.RowKit

/-- The primes among the first numbers from 2 on. -/
def prm : Nat → List Nat
  | 0 => []
  | k + 1 => if (prm k).any (fun q => (k + 2) % q == 0) then prm k else prm k ++ [k + 2]
theorem prm_ge : ∀ k, ∀ q ∈ prm k, 2 ≤ q
  | 0, q, h => by simp [prm] at h
  | k + 1, q, h => by
    unfold prm at h
    split at h
    · exact prm_ge k q h
    · rcases List.mem_append.1 h with h | h
      · exact prm_ge k q h
      · simp at h; omega
theorem prm_mono : ∀ k, (prm k).length ≤ (prm (k + 1)).length := fun k => by
  rw [prm]
  split
  · exact Nat.le_refl _
  · simp
theorem prm_le (a b : Nat) (h : a ≤ b) : (prm a).length ≤ (prm b).length := by
  induction b with
  | zero => rw [show a = 0 by omega]; exact Nat.le_refl _
  | succ b ih =>
    by_cases e : a = b + 1
    · subst e; exact Nat.le_refl _
    · exact Nat.le_trans (ih (by omega)) (prm_mono b)
theorem prm_310 : prm 310 = primesL := by decide +kernel
theorem prm_309 : (prm 309).length = 63 := by decide +kernel

set_option maxHeartbeats 2000000 in
set_option maxRecDepth 100000 in
theorem refPrimes_any (w : World) :
    Calls Try.prog 41 #[.int .i64 64] w fun e w' => ∃ x, e = .returned x ∧ Own w' w.heap.size 44 1 x primesL.length (dCells primesL) ∧ Below w.heap.size w w' := by
  have H310 := Lib.hid prm_310
  have H309 := Lib.hid prm_309
  go_enter Try.func41, Try.ntmps41
  go_wp2_with fail
  go_loopw [3, 4] (fun out p wr => ∃ (r n : Nat) (L : List Nat), r ≤ 310 ∧ L = prm r ∧ L.length = n ∧ p = .int .u64 ((r : Int) + 2) ∧ Own wr w.heap.size 44 1 out n (dCells L) ∧ Below w.heap.size w wr) (fun _ p _ => 400 - (intOf p).toNat)
  case atStart => exact ⟨0, 0, [], by omega, rfl, rfl, rfl, Own.nil _ _ _ _ _, (Below.refl _ _).alloc (Nat.le_refl _) _⟩
  case round =>
    obtain ⟨r, n0, L, hr, hL, rfl, rfl, hout, hB⟩ := hrel
    obtain ⟨ao, co, rfl, hco, hmo⟩ := hout.sl.form
    have hn63 : r < 310 ↔ L.length < 64 := by
      constructor
      · intro h
        have h1 := prm_le r 309 (by omega)
        rw [H309.out] at h1
        rw [hL]; omega
      · intro h
        by_cases e : r = 310
        · subst e
          rw [hL, H310.out] at h
          exact absurd h (by decide)
        · omega
    have hge : ∀ q ∈ L, 2 ≤ q := by rw [hL]; exact prm_ge r
    have HL := Lib.hid hL
    have HO := Lib.hid hout
    have HBr := Lib.hid hB
    have hss := hB.size
    unfold maxLen at hmo
    clear hL hout hB
    by_cases hlt : L.length < 64
    · have hlt' : (L.length : Int) < 64 := by omega
      have hr2 : r < 310 := hn63.2 hlt
      have HGE := Lib.hid hge
      clear hn63 hge
      go_wp2_with fail
      go_loopw [5, 6] (fun b i ws => ∃ m : Nat, m ≤ L.length ∧ i = .int .i64 m ∧ b = .bool (!((L.take m).any fun q => (r + 2) % q == 0)) ∧ ws = wr) (fun _ i _ => L.length - (intOf i).toNat)
      case atStart => exact ⟨0, Nat.zero_le _, rfl, rfl, rfl⟩
      case round =>
        obtain ⟨m, hm, rfl, rfl, rfl⟩ := hrel
        by_cases hmn : m < L.length
        · obtain ⟨bo, offo, rfl, hcell⟩ := HO.out.sl.addr (by rw [dCells_length]; omega)
          have hmL : m < L.length := hmn
          have c0 : wr.cell? ⟨bo, offo + m, none⟩ = some (.int .u64 (L[m] : Int)) := hcell m _ (dCells_get L m hmL)
          have hq2 : 2 ≤ L[m] := HGE.out _ (List.getElem_mem hmL)
          have hstep : ((L.take (m + 1)).any fun q => (r + 2) % q == 0) = (((L.take m).any fun q => (r + 2) % q == 0) || ((r + 2) % L[m] == 0)) := by
            rw [List.take_succ_eq_append_getElem hmL, List.any_append]
            simp
          generalize L[m] = q at c0 hq2 hstep
          generalize ((L.take m).any fun q => (r + 2) % q == 0) = A at hstep ⊢
          have HSTEP := Lib.hid hstep
          clear hstep
          have hq0 : ((q : Int) == 0) = false := by simp; omega
          have hq1 : ¬ (q : Int) = 0 := by omega
          have hmd : ((r : Int) + 2) % (q : Int) = (((r + 2) % q : Nat) : Int) := by simp
          clear hcell
          by_cases hd : (r + 2) % q = 0
          · have hdI : ((r : Int) + 2) % (q : Int) = 0 := by rw [hmd, hd]; rfl
            clear hmd
            go_wp2_with fail
            go_roundw
            case rel => exact ⟨m + 1, by omega, by go_num, by rw [HSTEP.out]; simp [hd], by first | rfl | trivial⟩
            case measure => simp [intOf]; omega
          · have hdI : ¬ ((r : Int) + 2) % (q : Int) = 0 := by rw [hmd]; omega
            clear hmd
            go_wp2_with fail
            go_roundw
            case rel => exact ⟨m + 1, by omega, by go_num, by rw [HSTEP.out]; simp [hd], by first | rfl | trivial⟩
            case measure => simp [intOf]; omega
        · obtain rfl : m = L.length := by omega
          rw [List.take_length]
          have hnext : prm (r + 1) = if (L.any fun q => (r + 2) % q == 0) then L else L ++ [r + 2] := by rw [HL.out]; rfl
          cases hA : (L.any fun q => (r + 2) % q == 0) with
          | true =>
            rw [hA, if_pos rfl] at hnext
            have HNX := Lib.hid hnext
            clear hnext hA
            go_wp2_with fail
            go_roundw
            case rel => exact ⟨r + 1, L.length, L, by omega, HNX.out.symm, rfl, by go_num, HO.out, HBr.out⟩
            case measure => simp [intOf]; omega
          | false =>
            rw [hA, if_neg (by simp)] at hnext
            have HNX := Lib.hid hnext
            have HO1 := Lib.hid (HO.out.alloc (.cells #[.int .u64 ((r : Int) + 2)] 44))
            have HB1 := Lib.hid (HBr.out.alloc hss (.cells #[.int .u64 ((r : Int) + 2)] 44))
            clear hnext hA
            go_wp2_with ((with_reducible show wpList _ _ _ (⟨some 31, _, _, _, _, _⟩ :: _) _ _); refine wpList_app rfl (.tmp 28) (.tmp 30) elNums rfl w.heap.size HO1.out (Sl.lit (n := 1) rfl rfl (by simp [Value.oneCell']) (by unfold maxLen; decide)) (by unfold maxLen; omega) (by omega) (by simp; omega) ?_)
            intro v2 w2 hown2 hk2 hvb2
            have ho2 : Own w2 w.heap.size 44 1 v2 (L ++ [r + 2]).length (dCells (L ++ [r + 2])) := by
              rw [List.length_append, dCells_append]
              simpa [dCells] using hown2
            have HO2 := Lib.hid ho2
            have HB2 : Hid (Below w.heap.size w w2) := Lib.hid (HB1.out.trans (hk2.below (by
              rintro j (h | h) <;> omega)))
            clear hown2 hk2 hvb2 ho2
            go_wp2_with fail
            go_roundw
            case rel => exact ⟨r + 1, (L ++ [r + 2]).length, L ++ [r + 2], by omega, HNX.out.symm, rfl, by go_num, HO2.out, HB2.out⟩
            case measure => simp [intOf]; omega
    · have hlt' : ¬ (L.length : Int) < 64 := by omega
      have hr310 : r = 310 := by omega
      have hLp : L = primesL := by rw [HL.out, hr310]; exact H310.out
      have fin : Own wr w.heap.size 44 1 (.slice ao L.length co) primesL.length (dCells primesL) := by rw [← hLp]; exact HO.out
      have FIN := Lib.hid fin
      clear hLp fin hn63 hge
      go_wp2_with fail
      go_ret
      exact ⟨_, rfl, FIN.out, HBr.out⟩

theorem primes_le : ∀ q ∈ primesL, q ≤ 100000 := by decide

set_option maxHeartbeats 2000000 in
set_option maxRecDepth 100000 in
theorem refKs_any (w : World) (hks : (primesL.map fun n => (cubeB n : Int)) = kL) :
    Calls Try.prog 17 #[] w fun e w' => ∃ x, e = .returned x ∧ Own w' w.heap.size 71 1 x kL.length (wCells kL) ∧ Below w.heap.size w w' := by
  obtain ⟨K, hK⟩ : ∃ K, K = kL := ⟨_, rfl⟩
  rw [← hK] at hks ⊢
  clear hK
  go_enter Try.func17, Try.ntmps17
  go_wp2_with fail
  refine (refPrimes_any w).mono ?_
  rintro e w1 ⟨x1, rfl, ho1, hb1⟩
  have hpl : primesL.length = 64 := rfl
  have hple := primes_le
  obtain ⟨L, hL⟩ : ∃ L, L = primesL := ⟨_, rfl⟩
  rw [← hL] at ho1 hks hpl hple
  clear hL
  rw [hpl] at ho1
  have hpl64 := Lib.hid hpl
  have HKS := Lib.hid hks
  have HPLE := Lib.hid hple
  obtain ⟨g, cap, cur, rfl, hgB, _, hc64, hcm, _⟩ := ho1.form' (by omega)
  have HD1 := Lib.hid ho1.sl
  have HB1 := Lib.hid hb1
  have hz1 := hb1.size
  unfold maxLen at hcm
  clear ho1 hb1 hks hple hpl
  go_wp2_with fail
  go_loopw [2, 3] (fun out i wr => ∃ k : Nat, k ≤ 64 ∧ i = .int .i64 k ∧ Own wr w1.heap.size 71 1 out k (wCells (K.take k)) ∧ Below w.heap.size w wr ∧ Below w1.heap.size w1 wr) (fun _ i _ => 64 - (intOf i).toNat)
  case atStart => exact ⟨0, by omega, rfl, Own.nil _ _ _ _ _, HB1.out.alloc hz1 _, (Below.refl _ _).alloc (Nat.le_refl _) _⟩
  case round =>
    obtain ⟨k, hk, rfl, hout, hB, hB1⟩ := hrel
    have hKl : K.length = 64 := by rw [← HKS.out, List.length_map]; exact hpl64.out
    by_cases hlt : k < 64
    · obtain ⟨bg, offg, he, hcg⟩ := HD1.out.addr (by rw [dCells_length, hpl64.out]; omega)
      simp only [Option.some.injEq, Addr.mk.injEq, and_true] at he
      obtain ⟨rfl, rfl⟩ := he
      have hkL : k < L.length := by rw [hpl64.out]; exact hlt
      have c0 : wr.cell? ⟨g, k, none⟩ = some (.int .u64 (L[k] : Int)) := by
        have := below_cell hB1 (hcg k _ (dCells_get L k hkL))
        rwa [Nat.zero_add] at this
      have hle := HPLE.out _ (List.getElem_mem hkL)
      have hKk : K[k]'(by omega) = (cubeB L[k] : Int) := by simp [← HKS.out]
      have htk : K.take (k + 1) = K.take k ++ [(cubeB L[k] : Int)] := by rw [List.take_succ_eq_append_getElem (by omega), hKk]
      generalize L[k] = q at c0 hle htk
      have HTK := Lib.hid htk
      have HO := Lib.hid hout
      have HBr := Lib.hid hB
      have HBr1 := Lib.hid hB1
      have hzr := hB.size
      have hzr1 := hB1.size
      clear htk hKk hout hB hB1 hcg hKl
      go_wp2_with fail
      refine (refCube_any q wr hle).mono ?_
      rintro e w3 ⟨rfl, hb3⟩
      have hz3 := hb3.size
      obtain ⟨cv, hcv⟩ : ∃ cv : Int, cv = (cubeB q : Int) := ⟨_, rfl⟩
      rw [← hcv]
      have HTK2 : Hid (K.take (k + 1) = K.take k ++ [cv]) := Lib.hid (by rw [hcv]; exact HTK.out)
      have HO3 := Lib.hid ((HO.out.below hb3).alloc (.cells #[.int .u32 cv] 71))
      have HB3 := Lib.hid ((HBr.out.trans (hb3.mono hzr)).alloc (by omega) (.cells #[.int .u32 cv] 71))
      have HB13 := Lib.hid ((HBr1.out.trans (hb3.mono hzr1)).alloc (by omega) (.cells #[.int .u32 cv] 71))
      clear hcv hb3 HTK HO
      go_wp2_with ((with_reducible show wpList _ _ _ (⟨some 17, _, _, _, _, _⟩ :: _) _ _); refine wpList_app rfl (.tmp 10) (.tmp 16) elWords rfl w1.heap.size HO3.out (Sl.lit (n := 1) rfl rfl (by simp [Value.oneCell']) (by unfold maxLen; decide)) (by unfold maxLen; omega) (by omega) (by simp; omega) ?_)
      intro v4 w4 hown4 hk4 hvb4
      have ho4 : Own w4 w1.heap.size 71 1 v4 (k + 1) (wCells (K.take (k + 1))) := by
        rw [HTK2.out, wCells_append]
        exact hown4
      have hB14 : Below w1.heap.size w1 w4 := HB13.out.trans (hk4.below (by rintro j (h | h) <;> omega))
      have hB4 : Below w.heap.size w w4 := HB3.out.trans (hk4.below (by rintro j (h | h) <;> omega))
      have HO4 := Lib.hid ho4
      have HB4 := Lib.hid hB4
      have HB14 := Lib.hid hB14
      clear hown4 hk4 hvb4 ho4 hB14 hB4
      go_wp2_with fail
      go_roundw
      case rel => exact ⟨k + 1, by omega, by go_num, HO4.out, HB4.out, HB14.out⟩
      case measure => simp [intOf]; omega
    · obtain rfl : k = 64 := by omega
      rw [List.take_of_length_le (by omega)] at hout
      have hout2 := hout.base hz1
      rw [← hKl] at hout2
      have FIN := Lib.hid hout2
      clear hout hout2 hKl
      go_wp2_with fail
      go_ret
      exact ⟨_, rfl, FIN.out, hB⟩
end Go.Proofs.Ytdmjliehobgknaa
