/- Contracts of the document's octets (compeerref01). -/
import Derived.Test.YtppmjmginpkgaaaOctet2
namespace Go.Proofs.Ytppmjmginpkgaaa
open Go.RowKit

set_option maxRecDepth 100000 in
theorem same_any (v u : Value) (a b : List UInt8) (w : World) (ha : Bs w v a) (hb : Bs w u b) :
    Calls Try.prog 26 #[v, u] w fun e w' => e = .returned (.bool (decide (a = b))) ∧ ∃ n, w' = w.drewN n := by
  have HA := Lib.hid ha
  have HB := Lib.hid hb
  obtain ⟨ad, cap, rfl, hcap, hcm⟩ := ha.form
  obtain ⟨bd, cap', rfl, hcap', hcm'⟩ := hb.form
  clear ha hb
  unfold maxLen at hcm hcm'
  by_cases hl : a.length = b.length
  · have hne : ((a.length : Int) != (b.length : Int)) = false := by simp [hl]
    have HLL := Lib.hid hl
    have hle : a.length ≤ b.length := by omega
    have hge : b.length ≤ a.length := by omega
    clear hl
    go_enter Try.func26, Try.ntmps26
    go_wp2_with fail
    go_loopw [5] (fun i wr => ∃ (k n : Nat), k ≤ a.length ∧ i = .int .i64 k ∧ wr = w.drewN n ∧ ∀ j, j < k → a[j]? = b[j]?) (fun i _ => a.length - (intOf i).toNat)
    case atStart => exact ⟨0, 0, Nat.zero_le _, rfl, rfl, by simp⟩
    case round =>
      obtain ⟨k, n, hk, rfl, rfl, heq⟩ := hrel
      have HE := Lib.hid heq
      clear heq
      by_cases hlt : k < a.length
      · have hlt1 : (k : Int) < (a.length : Int) := by omega
        have hltb : k < b.length := by omega
        have hlt2 : (k : Int) < (b.length : Int) := by omega
        obtain ⟨b1, o1, rfl, hc1⟩ := HA.out.addr (by rw [bCells_length]; omega)
        obtain ⟨b2, o2, rfl, hc2⟩ := HB.out.addr (by rw [bCells_length]; omega)
        have c1 : w.cell? ⟨b1, o1 + k, none⟩ = some (.int .u8 a[k].toNat) := hc1 k _ (bCells_get a k hlt)
        have c2 : w.cell? ⟨b2, o2 + k, none⟩ = some (.int .u8 b[k].toNat) := hc2 k _ (bCells_get b k hltb)
        clear hc1 hc2
        by_cases hx : a[k] = b[k]
        · have hx1 : ((a[k].toNat : Int) != (b[k].toNat : Int)) = false := by simp [hx]
          have HX := Lib.hid hx
          clear hx
          have HE' : Hid (∀ j, j < k + 1 → a[j]? = b[j]?) := Lib.hid (by
            intro j hj
            rcases Nat.lt_or_ge j k with h | h
            · exact HE.out j h
            · obtain rfl : j = k := by omega
              rw [List.getElem?_eq_getElem hlt, List.getElem?_eq_getElem hltb, HX.out])
          go_wp2_with fail
          go_quiet (fail)
          go_wp2_with fail
          go_roundw
          case rel => exact ⟨k + 1, _, by omega, by go_num, rfl, HE'.out⟩
          case measure => simp [intOf]; omega
        · have hx1 : ((a[k].toNat : Int) != (b[k].toNat : Int)) = true := by
            rw [bne_iff_ne]
            intro e
            exact hx (UInt8.toNat_inj.1 (by omega))
          have HX := Lib.hid hx
          clear hx
          have HR : Hid (decide (a = b) = false) := Lib.hid (by
            rw [decide_eq_false_iff_not]
            rintro rfl
            exact HX.out rfl)
          go_wp2_with fail
          go_quiet (fail)
          go_wp2_with fail
          go_ret
          rw [HR.out]
          exact ⟨rfl, n + nq, by simp [World.drewN, Nat.add_assoc]⟩
      · obtain rfl : k = a.length := by omega
        have HR : Hid (decide (a = b) = true) := Lib.hid (by
          rw [decide_eq_true_eq]
          apply List.ext_getElem? 
          intro j
          rcases Nat.lt_or_ge j a.length with h | h
          · exact HE.out j h
          · rw [List.getElem?_eq_none h, List.getElem?_eq_none (by omega)])
        go_wp2_with fail
        go_ret
        rw [HR.out]
        exact ⟨rfl, _, rfl⟩
  · have hne : ((a.length : Int) != (b.length : Int)) = true := by rw [bne_iff_ne]; omega
    have HR : Hid (decide (a = b) = false) := Lib.hid (by rw [decide_eq_false_iff_not]; rintro rfl; exact hl rfl)
    clear hl
    go_enter Try.func26, Try.ntmps26
    go_wp2_with fail
    go_ret
    rw [HR.out]
    exact ⟨rfl, 0, rfl⟩

theorem nat_256 (n : Nat) : ((n : Int) / 256) = ((n / 256 : Nat) : Int) := by simp

/-- The k lowest bytes of a number, the highest first. -/
def beB : Nat → Nat → List UInt8
  | 0, _ => []
  | k + 1, n => beB k (n / 256) ++ [UInt8.ofNat (n % 256)]

theorem beB_cons : ∀ (k n : Nat), UInt8.ofNat (n / 256 ^ k % 256) :: beB k n = beB (k + 1) n
  | 0, n => by simp [beB]
  | k + 1, n => by
    rw [beB, beB, ← beB_cons k (n / 256), Nat.div_div_eq_div_mul, ← Nat.pow_succ', List.cons_append]

theorem beB_length : ∀ (k n : Nat), (beB k n).length = k
  | 0, _ => rfl
  | k + 1, n => by simp [beB, beB_length k]

theorem putB_eq (n : Nat) : putB n = beB 8 n := by
  have h : ∀ k, k ≤ 8 → ((List.range' (8 - k) k).map fun i => UInt8.ofNat (n / 2 ^ (56 - 8 * i) % 256)) = beB k n := by
    intro k
    induction k with
    | zero => intro _; rfl
    | succ k ih =>
      intro hk
      rw [← beB_cons, ← ih (by omega), List.range'_succ, List.map_cons, show 8 - (k + 1) + 1 = 8 - k by omega]
      congr 4
      rw [show (256 : Nat) = 2 ^ 8 by rfl, ← Nat.pow_mul]
      congr 1
      omega
  have := h 8 (Nat.le_refl _)
  rw [← this, putB, List.range_eq_range']

set_option maxRecDepth 100000 in
theorem wrap_quot (q n : Nat) (h : q ≤ n) (hn : n < 18446744073709551616) : IntKind.u64.wrap ((q : Int) / 256) = ((q / 256 : Nat) : Int) := by
  rw [IntKind.wrap_u64]
  omega

set_option maxRecDepth 100000 in
/-- Put, as the document has it. -/
theorem refPut_any (n : Nat) (w : World) (hn : n < 18446744073709551616) :
    Calls Try.prog 28 #[.int .u64 n] w fun e w' => ∃ v, e = .returned v ∧ OwnBs w' w.heap.size v (putB n) ∧ Below w.heap.size w w' := by
  rw [putB_eq]
  have HN := Lib.hid hn
  clear hn
  go_enter Try.func28, Try.ntmps28
  go_wp2
  go_loopw [0, 3, 4] (fun m o i wr => ∃ k q : Nat, k ≤ 8 ∧ i = .int .i64 k ∧ m = .int .u64 q ∧ q = n / 256 ^ k ∧ OwnBs wr w.heap.size o (beB k n) ∧ Below w.heap.size w wr) (fun _ _ i _ => 8 - (intOf i).toNat)
  case atStart => exact ⟨0, n, by omega, rfl, rfl, by simp, Own.nil _ _ _ _ _, (Below.refl _ _).alloc (Nat.le_refl _) _⟩
  case round =>
    obtain ⟨k, q, hk, rfl, rfl, hq, hown, hbel⟩ := hrel
    have HO := Lib.hid hown
    have HQ := Lib.hid hq
    have hsz := hbel.size
    have hbl := beB_length k n
    clear hown hq
    by_cases hlt : k < 8
    · have hlt' : (k : Int) < 8 := by omega
      have hbyte : (q : Int) % 256 = (UInt8.ofNat (q % 256)).toNat := by
        have := bV_ofNat (q % 256) (Nat.mod_lt _ (by decide))
        simp only [bV, Value.int.injEq, true_and] at this
        omega
      have HBY := Lib.hid hbyte
      clear hbyte
      have HW : Hid (IntKind.u64.wrap ((q : Int) / 256) = ((q / 256 : Nat) : Int)) := Lib.hid (by
        have h1 : q ≤ n := by rw [HQ.out]; exact Nat.div_le_self _ _
        exact wrap_quot q n h1 HN.out)
      have HQ' : Hid (q / 256 = n / 256 ^ (k + 1)) := Lib.hid (by rw [HQ.out, Nat.div_div_eq_div_mul, ← Nat.pow_succ])
      go_wp2_with ((with_reducible show wpList _ _ _ (⟨some 15, _, _, _, _, _⟩ :: _) _ _); refine wpList_app rfl (.tmp 13) (.tmp 14) elBytes rfl w.heap.size (Own.at_ rfl hsz rfl (by simp [Value.oneCell']) (by decide)) (HO.out.sl.alloc _) (by unfold maxLen; omega) (by omega) (by simp; omega) ?_)
      intro v' w' h1 h2 h3
      have HO' : Hid (OwnBs w' w.heap.size v' (beB (k + 1) n)) := by
        refine Lib.hid ?_
        unfold OwnBs
        rw [← beB_cons, ← HQ.out]
        have e : (UInt8.ofNat (q % 256) :: beB k n).length = 1 + (beB k n).length := by rw [List.length_cons]; omega
        rw [e, hbl]
        have e2 : bCells (UInt8.ofNat (q % 256) :: beB k n) = .int .u8 ((q : Int) % 256) :: bCells (beB k n) := by rw [HBY.out]; rfl
        rw [e2]
        exact h1
      have hb2 : Below w.heap.size w w' := (hbel.alloc hsz _).trans (h2.below (by
        intro k' hk'
        rcases hk' with ⟨_, h⟩ | h <;> omega))
      clear h1 h2 h3
      go_wp2_with fail
      go_roundw
      case rel => exact ⟨k + 1, q / 256, by omega, by go_num, by rw [HW.out], HQ'.out, HO'.out, hb2⟩
      case measure => simp [intOf]; omega
    · obtain rfl : k = 8 := by omega
      go_wp2_with fail
      go_ret
      exact ⟨_, rfl, HO.out, hbel⟩

/-- A number's bytes, as few as may be. -/
def shortR : Nat → Nat → List UInt8
  | 0, _ => []
  | f + 1, n => if n < 256 then [UInt8.ofNat n] else shortR f (n / 256) ++ [UInt8.ofNat (n % 256)]

theorem stripZ_snoc : ∀ (l : List UInt8) (x : UInt8), l ≠ [] → (∃ y ∈ l, y ≠ 0) → stripZ (l ++ [x]) = stripZ l ++ [x]
  | [], _, h, _ => absurd rfl h
  | [a], x, _, h => by
    obtain ⟨y, hy, h0⟩ := h
    rw [List.mem_singleton] at hy
    subst hy
    simp [stripZ, h0]
  | a :: b :: l, x, _, h => by
    by_cases h0 : a = 0
    · subst h0
      simp only [List.cons_append, stripZ, if_true]
      refine stripZ_snoc (b :: l) x (by simp) ?_
      obtain ⟨y, hy, h1⟩ := h
      rcases List.mem_cons.1 hy with rfl | hy
      · exact absurd rfl h1
      · exact ⟨y, hy, h1⟩
    · simp [stripZ, h0]

theorem stripZ_zeros : ∀ (l : List UInt8) (x : UInt8), (∀ y ∈ l, y = 0) → stripZ (l ++ [x]) = [x]
  | [], _, _ => rfl
  | [a], x, h => by
    have := h a (by simp)
    subst this
    simp [stripZ]
  | a :: b :: l, x, h => by
    have := h a (by simp)
    subst this
    simp only [List.cons_append, stripZ, if_true]
    exact stripZ_zeros (b :: l) x (fun y hy => h y (by simp [hy]))

theorem beB_zero : ∀ (k : Nat), ∀ y ∈ beB k 0, y = 0
  | 0, y, h => by simp [beB] at h
  | k + 1, y, h => by
    simp only [beB, List.mem_append, List.mem_singleton] at h
    rcases h with h | h
    · exact beB_zero k y (by simpa using h)
    · rw [h]; rfl

theorem beB_some : ∀ (k n : Nat), 0 < n → n < 256 ^ k → ∃ y ∈ beB k n, y ≠ 0
  | 0, n, h0, h => by simp at h; omega
  | k + 1, n, h0, h => by
    by_cases hn : n < 256
    · refine ⟨UInt8.ofNat (n % 256), by simp [beB], fun e => ?_⟩
      have := congrArg UInt8.toNat e
      simp at this
      omega
    · obtain ⟨y, hy, h1⟩ := beB_some k (n / 256) (by omega) (by rw [Nat.pow_succ] at h; omega)
      exact ⟨y, by simp [beB, hy], h1⟩

theorem shortR_eq : ∀ (k n : Nat), n < 256 ^ (k + 1) → stripZ (beB (k + 1) n) = shortR (k + 1) n
  | 0, n, h => by
    have : n < 256 := by simpa using h
    simp [beB, stripZ, shortR, this, Nat.mod_eq_of_lt this]
  | k + 1, n, h => by
    rw [beB, shortR]
    by_cases hn : n < 256
    · rw [if_pos hn, Nat.div_eq_of_lt hn, stripZ_zeros _ _ (beB_zero _), Nat.mod_eq_of_lt hn]
    · have h' : n / 256 < 256 ^ (k + 1) := by rw [Nat.pow_succ] at h; omega
      rw [if_neg hn, stripZ_snoc _ _ (by intro e; have := congrArg List.length e; simp [beB_length] at this) (beB_some _ _ (by omega) h'), shortR_eq k (n / 256) h']

theorem shortB_eq (n : Nat) (h : n < 256 ^ 8) : shortB n = shortR 8 n := by rw [shortB, putB_eq, shortR_eq 7 n h]
end Go.Proofs.Ytppmjmginpkgaaa
