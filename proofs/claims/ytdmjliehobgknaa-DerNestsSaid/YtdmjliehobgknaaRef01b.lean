/- Contracts of the document's octets, the rest: Short, Get. -/
import Derived.Test.YtdmjliehobgknaaRef01
import Derived.Outline
namespace Go.Proofs.Ytdmjliehobgknaa
set_option linter.unusedSimpArgs false
set_option linter.unusedVariables false
open Go.RowKit

theorem byte_mod (q : Nat) : (q : Int) % 256 = (UInt8.ofNat (q % 256)).toNat := by
  have := bV_ofNat (q % 256) (Nat.mod_lt _ (by decide))
  simp only [bV, Value.int.injEq, true_and] at this
  omega

set_option maxRecDepth 100000 in
theorem wrap_mul_add (n c : Nat) (hc : c < 256) (h : n < 256 ^ 7) : IntKind.u64.wrap (IntKind.u64.wrap (256 * (n : Int)) + IntKind.u64.wrap (c : Int)) = ((n * 256 + c : Nat) : Int) := by
  simp only [IntKind.wrap_u64]
  have : (256 : Nat) ^ 7 = 72057594037927936 := by rfl
  omega

set_option maxRecDepth 100000 in
/-- Short, as the document has it. -/
theorem refShort_any (n : Nat) (w : World) (hn : n < 18446744073709551616) :
    Calls Try.prog 63 #[.int .u64 n] w fun e w' => ∃ v, e = .returned v ∧ OwnBs w' w.heap.size v (shortB n) ∧ Below w.heap.size w w' := by
  rw [shortB_eq n (by simpa using hn)]
  have HN := Lib.hid hn
  clear hn
  have HB0 := Lib.hid (byte_mod n)
  go_enter Try.func63, Try.ntmps63
  go_wp2
  go_loopw [0, 3] (fun m o wr => ∃ (f q : Nat) (d : List UInt8), f ≤ 7 ∧ m = .int .u64 q ∧ OwnBs wr w.heap.size o (UInt8.ofNat (q % 256) :: d) ∧ d.length + f ≤ 7 ∧ q < 256 ^ (f + 1) ∧ q ≤ n ∧ shortR (f + 1) q ++ d = shortR 8 n ∧ Below w.heap.size w wr) (fun m _ _ => (intOf m).toNat)
  case atStart =>
    refine ⟨7, n, [], by omega, rfl, ?_, by simp, by simpa using HN.out, Nat.le_refl _, by simp, (Below.refl _ _).alloc (Nat.le_refl _) _⟩
    rw [HB0.out]
    exact Own.at_ (cs := #[bV (UInt8.ofNat (n % 256))]) rfl (Nat.le_refl _) rfl (by simp [bV, Value.oneCell']) (by decide)
  case round =>
    obtain ⟨f, q, d, hf, rfl, hown, hdl, hq, hqn, hs, hbel⟩ := hrel
    have HO := Lib.hid hown
    have HQ := Lib.hid hq
    have HQN := Lib.hid hqn
    have HS := Lib.hid hs
    have hsz := hbel.size
    clear hown hq hqn hs
    by_cases hlt : 256 ≤ q
    · have hlt' : (256 : Int) ≤ (q : Int) := by omega
      have hf1 : 1 ≤ f := by
        rcases Nat.eq_zero_or_pos f with h | h
        · subst h
          have := HQ.out
          simp at this
          omega
        · exact h
      have HBY : Hid ((q : Int) / 256 % 256 = (UInt8.ofNat (q / 256 % 256)).toNat) := Lib.hid (by rw [← byte_mod (q / 256), Int.natCast_ediv]; rfl)
      have hW : IntKind.u64.wrap ((q : Int) / 256) = (q : Int) / 256 := by rw [wrap_quot q n HQN.out HN.out, Int.natCast_ediv]; rfl
      obtain ⟨f', rfl⟩ : ∃ f', f = f' + 1 := ⟨f - 1, by omega⟩
      have hlen : (UInt8.ofNat (q % 256) :: d).length ≤ 8 := by rw [List.length_cons]; omega
      go_wp2_with ((with_reducible show wpList _ _ _ (⟨some 17, _, _, _, _, _⟩ :: _) _ _); refine wpList_app rfl (.tmp 15) (.tmp 16) elBytes rfl w.heap.size (Own.at_ rfl hsz rfl (by simp [Value.oneCell']) (by decide)) (HO.out.sl.alloc _) (by unfold maxLen; omega) (by omega) (by simp; omega) ?_)
      intro v' w' h1 h2 h3
      have HO' : Hid (OwnBs w' w.heap.size v' (UInt8.ofNat (q / 256 % 256) :: UInt8.ofNat (q % 256) :: d)) := by
        refine Lib.hid ?_
        unfold OwnBs
        have e : (UInt8.ofNat (q / 256 % 256) :: UInt8.ofNat (q % 256) :: d).length = 1 + (d.length + 1) := by simp only [List.length_cons]; omega
        rw [e]
        have e2 : bCells (UInt8.ofNat (q / 256 % 256) :: UInt8.ofNat (q % 256) :: d) = .int .u8 ((q : Int) / 256 % 256) :: bCells (UInt8.ofNat (q % 256) :: d) := by rw [HBY.out]; rfl
        rw [e2]
        exact h1
      have hb2 : Below w.heap.size w w' := (hbel.alloc hsz _).trans (h2.below (by
        intro k' hk'
        rcases hk' with ⟨_, h⟩ | h <;> omega))
      have HS' : Hid (shortR (f' + 1) (q / 256) ++ (UInt8.ofNat (q % 256) :: d) = shortR 8 n) := Lib.hid (by
        have e : shortR (f' + 1 + 1) q = shortR (f' + 1) (q / 256) ++ [UInt8.ofNat (q % 256)] := by
          have := show shortR (f' + 1 + 1) q = if q < 256 then [UInt8.ofNat q] else shortR (f' + 1) (q / 256) ++ [UInt8.ofNat (q % 256)] from rfl
          rw [this, if_neg (by omega)]
        rw [← HS.out, e, List.append_assoc]
        rfl)
      have HQ' : Hid (q / 256 < 256 ^ (f' + 1)) := Lib.hid (by have := HQ.out; rw [Nat.pow_succ] at this; omega)
      clear h1 h2 h3
      go_wp2_with fail
      go_roundw
      case rel => exact ⟨f', q / 256, _, by omega, by go_num, HO'.out, by simp; omega, HQ'.out, Nat.le_trans (Nat.div_le_self _ _) HQN.out, HS'.out, hb2⟩
      case measure => simp [intOf]; omega
    · have hlt' : (q : Int) < 256 := by omega
      have HR : Hid (UInt8.ofNat (q % 256) :: d = shortR 8 n) := Lib.hid (by rw [← HS.out, shortR, if_pos (by omega), Nat.mod_eq_of_lt (by omega)]; rfl)
      go_wp2_with fail
      go_ret
      rw [← HR.out]
      exact ⟨_, rfl, HO.out, hbel⟩

set_option maxRecDepth 100000 in
theorem refGet_any (v : Value) (l : List UInt8) (w : World) (h : Bs w v l) :
    Calls Try.prog 66 #[v] w fun e w' => e = .returned (.tuple #[.int .u64 (getB l).1, .bool (getB l).2]) ∧ w = w' := by
  obtain ⟨a, cap, rfl, hcap, hcm⟩ := h.form
  unfold maxLen at hcm
  by_cases h0 : (l.length : Int) < 1
  · have HG : Hid (getB l = (0, false)) := Lib.hid (by simp only [getB]; rw [if_pos (by omega)])
    go_enter Try.func66, Try.ntmps66
    go_wp2
    go_ret2
    rw [HG.out]
    exact ⟨rfl, rfl⟩
  · by_cases h8 : (8 : Int) < l.length
    · have HG : Hid (getB l = (0, false)) := Lib.hid (by simp only [getB]; rw [if_pos (by omega)])
      go_enter Try.func66, Try.ntmps66
      go_wp2
      go_ret2
      rw [HG.out]
      exact ⟨rfl, rfl⟩
    · have HG : Hid (getB l = (getN l, true)) := Lib.hid (by simp only [getB]; rw [if_neg (by omega)])
      obtain ⟨b, off, rfl, hc⟩ := h.addr (by rw [bCells_length]; omega)
      have HC := Lib.hid hc
      clear hc h
      go_enter Try.func66, Try.ntmps66
      go_wp2
      go_loop [4, 5] (fun n i => ∃ k : Nat, k ≤ l.length ∧ i = .int .i64 k ∧ n = .int .u64 (getN (l.take k))) (fun _ i => l.length - (intOf i).toNat)
      case atStart => exact ⟨0, Nat.zero_le _, rfl, rfl⟩
      case round =>
        obtain ⟨k, hk, rfl, rfl⟩ := hrel
        by_cases hlt : k < l.length
        · have c0 : w.cell? ⟨b, off + k, none⟩ = some (.int .u8 l[k].toNat) := HC.out k _ (bCells_get l k hlt)
          have hX : Hid (Value.int .u64 (IntKind.u64.wrap (IntKind.u64.wrap (256 * (getN (l.take k) : Int)) + IntKind.u64.wrap (l[k].toNat : Int))) = .int .u64 (getN (l.take (k + 1)))) := by
            refine Lib.hid ?_
            rw [List.take_succ_eq_append_getElem hlt, getN_snoc]
            have h1 := getN_lt (l.take k)
            have h2 : (l.take k).length ≤ 7 := by rw [List.length_take]; omega
            have h3 : (256 : Nat) ^ (l.take k).length ≤ 256 ^ 7 := Nat.pow_le_pow_right (by decide) h2
            exact congrArg _ (wrap_mul_add _ _ l[k].toNat_lt (by omega))
          go_wp2
          go_round
          case rel => exact ⟨k + 1, by omega, by go_num, hX.out⟩
          case measure => simp [intOf]; omega
        · obtain rfl : k = l.length := by omega
          go_wp2
          go_ret2
          rw [HG.out]
          exact ⟨by simp, rfl⟩
end Go.Proofs.Ytdmjliehobgknaa
