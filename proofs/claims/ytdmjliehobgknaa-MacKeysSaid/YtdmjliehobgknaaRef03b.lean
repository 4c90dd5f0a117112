/- Contract of the document's times (compeerref03). -/
import Derived.Test.YtdmjliehobgknaaRef03
namespace Go.Proofs.Ytdmjliehobgknaa
set_option linter.unusedSimpArgs false
set_option linter.unusedVariables false
open Go.RowKit

theorem mulIn_length (a b : List Nat) (i : Nat) (out : List Nat) : ∀ j, (mulIn a b i out j).length = out.length
  | 0 => rfl
  | j + 1 => by simp [mulIn, mulIn_length a b i out j]
theorem mulOut_length (a b : List Nat) : ∀ i, (mulOut a b i).length = a.length + b.length
  | 0 => by simp [mulOut]
  | i + 1 => by simp [mulOut, mulIn_length, mulOut_length a b i]
theorem carry_length (out : List Nat) : ∀ k, (carry out k).length = out.length
  | 0 => rfl
  | k + 1 => by simp [carry, carry_length out k]

theorem u64_muladd (o x y : Nat) : IntKind.u64.wrap ((o : Int) + IntKind.u64.wrap ((x : Int) * (y : Int))) = (((o + x * y) % 18446744073709551616 : Nat) : Int) := by
  rw [IntKind.wrap_u64, IntKind.wrap_u64, ← Int.natCast_mul]
  generalize x * y = z
  omega

theorem u64_adddiv (c1 c0 : Nat) : IntKind.u64.wrap ((c1 : Int) + IntKind.u64.wrap ((c0 : Int) / 262144)) = (((c1 + c0 / 262144) % 18446744073709551616 : Nat) : Int) := by
  rw [IntKind.wrap_u64, IntKind.wrap_u64]
  omega
theorem nat_mod18 (c0 : Nat) : (c0 : Int) % 262144 = ((c0 % 262144 : Nat) : Int) := by omega

set_option maxHeartbeats 2000000 in
set_option maxRecDepth 100000 in
theorem refTimes_any (u v : Value) (a b : List Nat) (w : World) (ha : Ds w u a) (hb : Ds w v b) (hla : a.length ≤ 100) (hlb : b.length ≤ 100) (hpos : 0 < a.length + b.length) :
    Calls Try.prog 67 #[u, v] w fun e w' => ∃ x, e = .returned x ∧ Own w' w.heap.size 44 1 x (timesB a b).length (dCells (timesB a b)) ∧ Below w.heap.size w w' := by
  obtain ⟨aa, ca, rfl, hca, hma⟩ := ha.form
  obtain ⟨ab, cb, rfl, hcb, hmb⟩ := hb.form
  have HA := Lib.hid ha
  have HB := Lib.hid hb
  unfold maxLen at hma hmb
  clear ha hb
  go_enter Try.func67, Try.ntmps67
  go_wp2_with fail
  go_loopw [5, 6] (fun out i wr => ∃ k : Nat, k ≤ a.length + b.length ∧ i = .int .i64 k ∧ Own wr w.heap.size 44 1 out k (dCells (List.replicate k 0)) ∧ Below w.heap.size w wr) (fun _ i _ => a.length + b.length - (intOf i).toNat)
  case atStart => exact ⟨0, by omega, rfl, Own.nil _ _ _ _ _, (Below.refl _ _).alloc (Nat.le_refl _) _⟩
  case round =>
    obtain ⟨k, hk, rfl, hout, hB⟩ := hrel
    have hss := hB.size
    by_cases hlt : k < a.length + b.length
    · have hlt' : (k : Int) < (a.length : Int) + (b.length : Int) := by omega
      have HOUT := Lib.hid (hout.alloc (.cells #[.int .u64 0] 44))
      have HB1 := Lib.hid (hB.alloc hss (.cells #[.int .u64 0] 44))
      clear hout hB
      go_wp2_with ((with_reducible show wpList _ _ _ (⟨some 22, _, _, _, _, _⟩ :: _) _ _); refine wpList_app rfl (.tmp 20) (.tmp 21) elNums rfl w.heap.size HOUT.out (Sl.lit (n := 1) rfl rfl (by decide) (by unfold maxLen; decide)) (by unfold maxLen; omega) (by omega) (by simp; omega) ?_)
      intro v2 w2 hown2 hk2 hvb2
      have hout2 : Own w2 w.heap.size 44 1 v2 (k + 1) (dCells (List.replicate (k + 1) 0)) := by
        rw [List.replicate_succ', dCells_append]
        exact hown2
      have HO2 := Lib.hid hout2
      have hz2 := hk2.size
      simp at hz2
      have HB2 : Hid (Below w.heap.size w w2) := Lib.hid (HB1.out.trans (hk2.below (by
        rintro j (h | h) <;> omega)))
      clear hown2 hk2 hvb2 hout2
      go_wp2_with fail
      go_roundw
      case rel => exact ⟨k + 1, by omega, by go_num, HO2.out, HB2.out⟩
      case measure => simp [intOf]; omega
    · obtain rfl : k = a.length + b.length := by omega
      have hlt' : ¬ ((a.length + b.length : Nat) : Int) < (a.length : Int) + (b.length : Int) := by omega
      obtain ⟨N, hN⟩ : ∃ N, N = a.length + b.length := ⟨_, rfl⟩
      rw [← hN] at hout
      obtain ⟨g, cap, cur, rfl, hgB, hgh, hNc, hcm, _⟩ := hout.form' (by omega)
      have hm0 : dCells (mulOut a b 0) = dCells (List.replicate N 0) := by rw [hN]; rfl
      rw [← hm0] at hout
      have HO := Lib.hid hout
      have HBr := Lib.hid hB
      have hNle : N ≤ 200 := by omega
      have hNi : (N : Int) = (a.length : Int) + (b.length : Int) := by omega
      have HN := Lib.hid hN
      have HNI := Lib.hid hNi
      unfold maxLen at hcm
      clear hout hB hgh hm0 hN hNi
      go_wp2_with fail
      go_loopw [7] (fun i wr => ∃ k : Nat, k ≤ a.length ∧ i = .int .i64 k ∧ Own wr w.heap.size 44 1 (.slice (some ⟨g, 0, none⟩) N cap) N (dCells (mulOut a b k)) ∧ Below w.heap.size w wr) (fun i _ => a.length - (intOf i).toNat)
      case atStart => exact ⟨0, by omega, rfl, HO.out, HBr.out⟩
      case round =>
        obtain ⟨k, hk, rfl, hout, hB⟩ := hrel
        by_cases hlt : k < a.length
        · have HO1 := Lib.hid hout
          have HB1 := Lib.hid hB
          clear hout hB
          go_wp2_with fail
          go_loopw [8] (fun j ws => ∃ m : Nat, m ≤ b.length ∧ j = .int .i64 m ∧ Own ws w.heap.size 44 1 (.slice (some ⟨g, 0, none⟩) N cap) N (dCells (mulIn a b k (mulOut a b k) m)) ∧ Below w.heap.size w ws) (fun j _ => b.length - (intOf j).toNat)
          case atStart => exact ⟨0, by omega, rfl, HO1.out, HB1.out⟩
          case round =>
            obtain ⟨m, hm, rfl, hout, hB⟩ := hrel
            by_cases hltm : m < b.length
            · obtain ⟨ba, offa, rfl, hca'⟩ := HA.out.addr (by rw [dCells_length]; omega)
              obtain ⟨bb, offb, rfl, hcb'⟩ := HB.out.addr (by rw [dCells_length]; omega)
              have xa : wr.drew.cell? ⟨ba, offa + k, none⟩ = some (.int .u64 (a[k] : Int)) := below_cell hB (hca' k _ (dCells_get a k hlt))
              have xb : wr.drew.cell? ⟨bb, offb + m, none⟩ = some (.int .u64 (b[m] : Int)) := below_cell hB (hcb' m _ (dCells_get b m hltm))
              have hNv := HN.out
              have hol := mulIn_length a b k (mulOut a b k) m
              rw [mulOut_length] at hol
              have hgl : (dCells (mulIn a b k (mulOut a b k) m)).length = N := by rw [dCells_length, hol, hNv]
              obtain ⟨bg, offg, he, hcg⟩ := hout.sl.addr (by omega)
              simp only [Option.some.injEq, Addr.mk.injEq, and_true] at he
              obtain ⟨rfl, rfl⟩ := he
              have hkm : k + m < (mulIn a b k (mulOut a b k) m).length := by omega
              have xo : wr.drew.cell? ⟨g, k + m, none⟩ = some (.int .u64 ((mulIn a b k (mulOut a b k) m)[k + m] : Int)) := by
                have := hcg (k + m) _ (dCells_get _ (k + m) hkm)
                rwa [Nat.zero_add] at this
              have fo : wr.drew.frozen? ⟨g, k + m, none⟩ = false := hout.frozen (by omega) (k + m)
              have hset := fun x : Nat => hout.set (by omega) (k + m) (.int .u64 (x : Int)) rfl
              have hstep : mulIn a b k (mulOut a b k) (m + 1) = (mulIn a b k (mulOut a b k) m).set (k + m) (((mulIn a b k (mulOut a b k) m)[k + m] + a[k] * b[m]) % 18446744073709551616) := by
                simp [mulIn, List.getD, hkm, hlt, hltm]
              have hi : (k : Int) + (m : Int) < N := by omega
              have hki : (k : Int) < a.length := by omega
              have hmi : (m : Int) < b.length := by omega
              generalize (mulIn a b k (mulOut a b k) m)[k + m] = xo0 at xo hstep
              generalize a[k] = xa0 at xa hstep
              generalize b[m] = xb0 at xb hstep
              have HSET := Lib.hid hset
              have HSTEP := Lib.hid hstep
              have HB2 := Lib.hid hB
              clear hset hstep hout hB hcg hol hgl hca' hcb' hNv
              go_wp2_with fail
              go_region
              go_wp2_with fail
              go_roundw
              case rel => exact ⟨m + 1, by omega, by go_num, by
                rw [u64_muladd, HSTEP.out, ← dCells_set]
                exact (HSET.out _).drew, below_drewN (HB2.out.trans ((Keeps.one _ _ _ _).below (by rintro j rfl; exact hgB))) 1⟩
              case measure => simp [intOf]; omega
            · obtain rfl : m = b.length := by omega
              have HO2 := Lib.hid hout
              have HB2 := Lib.hid hB
              clear hout hB
              go_wp2_with fail
              go_roundw
              case rel => exact ⟨k + 1, by omega, by go_num, HO2.out, HB2.out⟩
              case measure => simp [intOf]; omega
        · obtain rfl : k = a.length := by omega
          have HO3 := Lib.hid hout
          have HB3 := Lib.hid hB
          clear hout hB
          go_wp2_with fail
          go_loopw [9] (fun i wr => ∃ k : Nat, k + 1 ≤ N ∧ i = .int .i64 k ∧ Own wr w.heap.size 44 1 (.slice (some ⟨g, 0, none⟩) N cap) N (dCells (carry (mulOut a b a.length) k)) ∧ Below w.heap.size w wr) (fun i _ => N - (intOf i).toNat)
          case atStart => exact ⟨0, by have := HN.out; omega, rfl, HO3.out, HB3.out⟩
          case round =>
            obtain ⟨k, hk, rfl, hout, hB⟩ := hrel
            have hNv := HN.out
            have hol := carry_length (mulOut a b a.length) k
            rw [mulOut_length] at hol
            have hgl : (dCells (carry (mulOut a b a.length) k)).length = N := by rw [dCells_length, hol, hNv]
            by_cases hlt : k + 1 < N
            · obtain ⟨bg, offg, he, hcg⟩ := hout.sl.addr (by omega)
              simp only [Option.some.injEq, Addr.mk.injEq, and_true] at he
              obtain ⟨rfl, rfl⟩ := he
              have hk0 : k < (carry (mulOut a b a.length) k).length := by omega
              have hk1 : k + 1 < (carry (mulOut a b a.length) k).length := by omega
              have x0 : wr.drew.cell? ⟨g, k, none⟩ = some (.int .u64 ((carry (mulOut a b a.length) k)[k] : Int)) := by
                have := hcg k _ (dCells_get _ k hk0)
                rwa [Nat.zero_add] at this
              have x1 : wr.drew.cell? ⟨g, k + 1, none⟩ = some (.int .u64 ((carry (mulOut a b a.length) k)[k + 1] : Int)) := by
                have := hcg (k + 1) _ (dCells_get _ (k + 1) hk1)
                rwa [Nat.zero_add] at this
              have f1 : wr.drew.frozen? ⟨g, k + 1, none⟩ = false := hout.frozen (by omega) (k + 1)
              have f0 : wr.frozen? ⟨g, k, none⟩ = false := hout.frozen (by omega) k
              have y0 : wr.cell? ⟨g, k, none⟩ = _ := x0
              have hset := fun x y : Nat => (hout.set (by omega) (k + 1) (.int .u64 (x : Int)) rfl).set (by omega) k (.int .u64 (y : Int)) rfl
              have hstep : carry (mulOut a b a.length) (k + 1) = ((carry (mulOut a b a.length) k).set (k + 1) (((carry (mulOut a b a.length) k)[k + 1] + (carry (mulOut a b a.length) k)[k] / 262144) % 18446744073709551616)).set k ((carry (mulOut a b a.length) k)[k] % 262144) := by
                simp [carry, List.getD, hk0, hk1]
              have hi : (k : Int) + 1 < N := by omega
              have hi0 : (k : Int) < N := by omega
              generalize (carry (mulOut a b a.length) k)[k] = c0 at x0 y0 hstep
              generalize (carry (mulOut a b a.length) k)[k + 1] = c1 at x1 hstep
              have HSET := Lib.hid hset
              have HSTEP := Lib.hid hstep
              have HB2 := Lib.hid hB
              clear hset hstep hout hB hcg hol hgl hNv
              go_wp2_with fail
              go_region
              go_wp2_with fail
              go_roundw
              case rel => exact ⟨k + 1, by omega, by go_num, by
                rw [u64_adddiv, nat_mod18, HSTEP.out, ← dCells_set, ← dCells_set]
                exact (HSET.out _ _).drew, below_drewN ((HB2.out.trans ((Keeps.one _ _ _ _).below (by rintro j rfl; exact hgB))).trans ((Keeps.one _ _ _ _).below (by rintro j rfl; exact hgB))) 1⟩
              case measure => simp [intOf]; omega
            · have hkN : k = a.length + b.length - 1 := by omega
              have fin : Own wr w.heap.size 44 1 (.slice (some ⟨g, 0, none⟩) N cap) (timesB a b).length (dCells (timesB a b)) := by
                unfold timesB
                rw [← hkN, hol, ← hNv]
                exact hout
              have FIN := Lib.hid fin
              have hlt' : ¬ (k : Int) + 1 < N := by omega
              clear fin hout hol hgl hNv hkN
              go_wp2_with fail
              go_ret
              exact ⟨_, rfl, FIN.out, hB⟩
end Go.Proofs.Ytdmjliehobgknaa
