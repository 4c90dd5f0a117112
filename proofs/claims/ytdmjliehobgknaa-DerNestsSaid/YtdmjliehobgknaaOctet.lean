/- Contracts of package octet. -/
import Derived.Test.YtdmjliehobgknaaBytes
import Derived.Outline
namespace Go.Proofs.Ytdmjliehobgknaa
set_option linter.unusedSimpArgs false
set_option linter.unusedVariables false
open Go.RowKit

theorem octetAt_out (a : Option Addr) (len cap : Nat) (i : Int) (w : World) (h : (len : Int) ≤ i) :
    Calls Try.prog 65 #[.slice a len cap, .int .i64 i] w fun e w' => e = .returned (.int .u8 0) ∧ w = w' := by
  go_enter Try.func65, Try.ntmps65
  go_wp2
  go_ret
  exact ⟨rfl, rfl⟩

theorem octetAt_in (b off : Nat) (len cap : Nat) (i : Int) (x : Int) (w : World) (h0 : 0 ≤ i) (h : i < len) (hc : w.cell? ⟨b, off + i.toNat, none⟩ = some (.int .u8 x)) :
    Calls Try.prog 65 #[.slice (some ⟨b, off, none⟩) len cap, .int .i64 i] w fun e w' => e = .returned (.int .u8 x) ∧ w = w' := by
  go_enter Try.func65, Try.ntmps65
  go_wp2
  go_ret
  exact ⟨rfl, rfl⟩

theorem octetAt_any (v : Value) (l : List UInt8) (i : Nat) (w : World) (h : Bs w v l) :
    Calls Try.prog 65 #[v, .int .i64 i] w fun e w' => e = .returned (bV (l.getD i 0)) ∧ w = w' := by
  obtain ⟨a, cap, rfl, _⟩ := h.form
  by_cases hi : i < l.length
  · obtain ⟨b, off, rfl, hc⟩ := h.addr (by simp [bCells]; omega)
    have hc' := hc i (bV (l.getD i 0)) (by simp [bCells, hi])
    exact octetAt_in b off _ _ i _ w (by omega) (by omega) (by simpa [bV] using hc')
  · have : l.getD i 0 = 0 := by simp [List.getD, List.getElem?_eq_none (Nat.le_of_not_lt hi)]
    rw [this]
    exact octetAt_out _ _ _ _ _ (by omega)

/-- The eight bytes of a number. -/
def putB (n : Nat) : List UInt8 := (List.range 8).map fun i => UInt8.ofNat (n / 2 ^ (56 - 8 * i) % 256)
theorem putB_length (n : Nat) : (putB n).length = 8 := by simp [putB]
theorem putB_get (n k : Nat) (h : k < 8) : (putB n)[k]? = some (UInt8.ofNat (n / 2 ^ (56 - 8 * k) % 256)) := by simp [putB, h]

set_option maxRecDepth 100000 in
theorem put_any (n : Nat) (w : World) :
    Calls Try.prog 45 #[.int .u64 n] w fun e w' => e = .returned (.slice (some ⟨w.heap.size, 0, none⟩) 8 8) ∧ OwnBs w' w.heap.size (.slice (some ⟨w.heap.size, 0, none⟩) 8 8) (putB n) ∧ Below w.heap.size w w' ∧ Blk w' w.heap.size (bCells (putB n)) 5 := by
  have hmk := fun w => mkBytes w 8 8 rfl (by decide)
  simp only [List.replicate, List.toArray] at hmk
  have hpl := putB_length n
  go_enter Try.func45, Try.ntmps45
  go_wp2
  go_loopw [8] (fun i wr => ∃ k : Nat, k ≤ 8 ∧ i = .int .i64 k ∧ Blk wr w.heap.size ((bCells (putB n)).take k ++ List.replicate (8 - k) (.int .u8 0)) 5 ∧ Below w.heap.size w wr) (fun i _ => 8 - (intOf i).toNat)
  case atStart => exact ⟨0, by omega, rfl, Blk.new w (List.replicate 8 (.int .u8 0)) _, (Below.refl _ _).alloc (Nat.le_refl _) _⟩
  case round =>
    obtain ⟨k, hk, rfl, hb, hbel⟩ := hrel
    have HB := Lib.hid hb
    by_cases hlt : k < 8
    · have h1 : (k : Int) < 8 := by omega
      have hf := hb.frozen k
      have hc : wr.cell? ⟨w.heap.size, k, none⟩ = some (.int .u8 0) := by
        rw [hb.cell, List.getElem?_append_right (by simp [bCells_length]; omega)]
        rw [List.length_take, bCells_length, hpl, show k - min k 8 = 0 by omega, show 8 - k = (7 - k) + 1 by omega]
        rfl
      have hst : Hid (Blk (wr.setCell ⟨w.heap.size, k, none⟩ (.int .u8 ((n : Int) / 2 ^ (56 - 8 * k) % 256))) w.heap.size ((bCells (putB n)).take (k + 1) ++ List.replicate (8 - (k + 1)) (.int .u8 0)) 5) := by
        have := hb.set k (.int .u8 ((n : Int) / 2 ^ (56 - 8 * k) % 256))
        refine Lib.hid ?_
        have e : ((bCells (putB n)).take k ++ List.replicate (8 - k) (Value.int .u8 0)).set k (.int .u8 ((n : Int) / 2 ^ (56 - 8 * k) % 256)) = (bCells (putB n)).take (k + 1) ++ List.replicate (8 - (k + 1)) (.int .u8 0) := by
          have hkl : k < (bCells (putB n)).length := by rw [bCells_length]; omega
          rw [List.set_append_right _ _ (by simp [bCells_length]; omega), List.take_succ_eq_append_getElem hkl]
          have hg : (bCells (putB n))[k] = .int .u8 ((n : Int) / 2 ^ (56 - 8 * k) % 256) := by
            have h2 := bCells_get (putB n) k (by omega)
            rw [List.getElem?_eq_getElem hkl, Option.some.injEq] at h2
            have h3 := putB_get n k hlt
            rw [List.getElem?_eq_getElem (by omega), Option.some.injEq] at h3
            rw [h2, h3, bV_ofNat _ (Nat.mod_lt _ (by decide))]
            simp
          rw [hg, List.append_assoc]
          congr 1
          rw [show k - ((bCells (putB n)).take k).length = 0 by simp [bCells_length]; omega, show 8 - k = (8 - (k + 1)) + 1 by omega]
          rfl
        rw [← e]
        exact this
      clear hb
      go_wp2
      go_roundw
      case rel => exact ⟨k + 1, by omega, by go_num, hst.out, hbel.setCell (Nat.le_refl _) _⟩
      case measure => simp [intOf]; omega
    · obtain rfl : k = 8 := by omega
      have hb8 : Blk wr w.heap.size (bCells (putB n)) 5 := by
        have := hb
        rw [List.take_of_length_le (by rw [bCells_length]; omega)] at this
        simpa using this
      have HB8 := Lib.hid hb8
      clear hb hb8
      go_wp2
      go_ret
      have ho := HB8.out.own (B := w.heap.size) (Nat.le_refl _) (bCells_one _) (by rw [bCells_length, hpl]; decide)
      rw [bCells_length, hpl] at ho
      refine ⟨rfl, ?_, hbel, HB8.out⟩
      unfold OwnBs
      rw [hpl]
      exact ho

/-- The number of bytes. -/
def getN (l : List UInt8) : Nat := l.foldl (fun n c => n * 256 + c.toNat) 0
theorem getN_snoc (l : List UInt8) (c : UInt8) : getN (l ++ [c]) = getN l * 256 + c.toNat := by simp [getN]
theorem getN_lt (l : List UInt8) : getN l < 256 ^ l.length := by
  suffices ∀ (l : List UInt8) (n k : Nat), n < 256 ^ k → l.foldl (fun n c => n * 256 + c.toNat) n < 256 ^ (k + l.length) from by simpa [getN] using this l 0 0 (by decide)
  intro l
  induction l with
  | nil => intro n k h; simpa using h
  | cons c l ih =>
    intro n k h
    have := ih (n * 256 + c.toNat) (k + 1) (by have := c.toNat_lt; rw [Nat.pow_succ]; omega)
    simpa [Nat.add_assoc, Nat.add_comm 1] using this

theorem nat_or256 (n c : Nat) (hc : c < 256) : (n * 256) ||| c = n * 256 + c := by
  have := Nat.shiftLeft_add_eq_or_of_lt (b := c) (i := 8) (by simpa using hc) n
  rw [Nat.shiftLeft_eq] at this
  simpa using this.symm

set_option maxRecDepth 100000 in
theorem bits_or_u64 (n c : Nat) (hc : c < 256) (h : n * 256 + c < 18446744073709551616) : bits BinOp.or IntKind.u64 (IntKind.u64.wrap ((n : Int) * 256)) (IntKind.u64.wrap (c : Int)) = ((n * 256 + c : Nat) : Int) := by
  have e1 : IntKind.u64.wrap ((n : Int) * 256) = ((n * 256 : Nat) : Int) := by rw [IntKind.wrap_u64]; omega
  have e2 : IntKind.u64.wrap (c : Int) = (c : Int) := by rw [IntKind.wrap_u64]; omega
  rw [e1, e2, u64_or_nat _ _ (by omega) (by omega), nat_or256 n c hc]

/-- Get: the number of one to eight bytes. -/
def getB (l : List UInt8) : Nat × Bool := if l.length = 0 ∨ 8 < l.length then (0, false) else (getN l, true)

set_option maxRecDepth 100000 in
theorem get_any (v : Value) (l : List UInt8) (w : World) (h : Bs w v l) :
    Calls Try.prog 58 #[v] w fun e w' => e = .returned (.tuple #[.int .u64 (getB l).1, .bool (getB l).2]) ∧ w = w' := by
  obtain ⟨a, cap, rfl, hcap, hcm⟩ := h.form
  unfold maxLen at hcm
  by_cases h0 : l.length = 0
  · have h0' : ((l.length : Int) == 0) = true := by simp [h0]
    have HG : Hid (getB l = (0, false)) := Lib.hid (by simp [getB, h0])
    clear h0
    go_enter Try.func58, Try.ntmps58
    go_wp2
    go_ret2
    rw [HG.out]
    exact ⟨rfl, rfl⟩
  · have h0' : ((l.length : Int) == 0) = false := by simp; intro e; exact h0 (by simp [e])
    by_cases h8 : (8 : Int) < l.length
    · have HG : Hid (getB l = (0, false)) := Lib.hid (by simp only [getB]; rw [if_pos (by omega)])
      go_enter Try.func58, Try.ntmps58
      go_wp2
      go_ret2
      rw [HG.out]
      exact ⟨rfl, rfl⟩
    · have HG : Hid (getB l = (getN l, true)) := Lib.hid (by simp only [getB]; rw [if_neg (by omega)])
      obtain ⟨b, off, rfl, hc⟩ := h.addr (by rw [bCells_length]; omega)
      have HC := Lib.hid hc
      clear hc h
      go_enter Try.func58, Try.ntmps58
      go_wp2
      go_loop [4, 17] (fun n i => ∃ k : Nat, k ≤ l.length ∧ i = .int .i64 k ∧ n = .int .u64 (getN (l.take k))) (fun _ i => l.length - (intOf i).toNat)
      case atStart => exact ⟨0, Nat.zero_le _, rfl, rfl⟩
      case round =>
        obtain ⟨k, hk, rfl, rfl⟩ := hrel
        by_cases hlt : k < l.length
        · have c0 : w.cell? ⟨b, off + k, none⟩ = some (.int .u8 l[k].toNat) := HC.out k _ (bCells_get l k hlt)
          have hL : l.length ≤ 8 := by omega
          have hX : Hid (Value.int .u64 (bits .or .u64 (IntKind.u64.wrap ((getN (l.take k) : Int) * 256)) (IntKind.u64.wrap (l[k].toNat : Int))) = .int .u64 (getN (l.take (k + 1)))) := by
            refine Lib.hid ?_
            rw [List.take_succ_eq_append_getElem hlt, getN_snoc, bits_or_u64 _ _ l[k].toNat_lt]
            have h1 := getN_lt (l.take k)
            have h2 : (l.take k).length ≤ 7 := by rw [List.length_take]; omega
            have h3 : (256 : Nat) ^ (l.take k).length ≤ 256 ^ 7 := Nat.pow_le_pow_right (by decide) h2
            have := l[k].toNat_lt
            omega
          clear hL
          go_wp2
          go_round
          case rel => exact ⟨k + 1, by omega, by go_num, hX.out⟩
          case measure => simp [intOf]; omega
        · obtain rfl : k = l.length := by omega
          go_wp2
          go_ret2
          rw [HG.out]
          exact ⟨by simp, rfl⟩
/-- Without the noughts ahead; one byte at least. -/
def stripZ : List UInt8 → List UInt8
  | [] => []
  | [x] => [x]
  | x :: y :: l => if x = 0 then stripZ (y :: l) else x :: y :: l

def shortB (n : Nat) : List UInt8 := stripZ (putB n)

theorem bV_zero (x : UInt8) : (x.toNat : Int) = 0 ↔ x = 0 := by
  constructor
  · intro h
    exact UInt8.toNat_inj.1 (by simpa using h)
  · rintro rfl; rfl

theorem stripZ_drop_zero (l : List UInt8) (j : Nat) (h : j + 1 < l.length) (h0 : l[j] = 0) : stripZ (l.drop j) = stripZ (l.drop (j + 1)) := by
  rw [List.drop_eq_getElem_cons (by omega : j < l.length), List.drop_eq_getElem_cons h, h0]
  simp [stripZ]

theorem stripZ_drop_stop (l : List UInt8) (j : Nat) (h : j < l.length) (h0 : j + 1 = l.length ∨ l[j] ≠ 0) : stripZ (l.drop j) = l.drop j := by
  rw [List.drop_eq_getElem_cons h]
  rcases Nat.lt_or_ge (j + 1) l.length with h1 | h1
  · rw [List.drop_eq_getElem_cons h1]
    have : l[j] ≠ 0 := h0.resolve_left (by omega)
    simp [stripZ, this]
  · rw [List.drop_eq_nil_of_le h1]
    rfl

set_option maxRecDepth 100000 in
theorem short_any (n : Nat) (w : World) :
    Calls Try.prog 69 #[.int .u64 n] w fun e w' => ∃ v, e = .returned v ∧ Bs w' v (shortB n) ∧ Below w.heap.size w w' ∧ v.ownBlock = some w.heap.size := by
  have hpl := putB_length n
  go_enter Try.func69, Try.ntmps69
  go_wp2_with fail
  refine (put_any n w).mono ?_
  rintro e w1 ⟨rfl, _, hb1, hblk⟩
  have HB := Lib.hid hblk
  clear hblk
  go_wp2_with fail
  go_loop [3] (fun v => ∃ j : Nat, j ≤ 7 ∧ v = .slice (some ⟨w.heap.size, j, none⟩) (8 - j) (8 - j) ∧ shortB n = stripZ ((putB n).drop j)) (fun v => match v with | .slice _ n _ => n | _ => 0)
  case atStart => exact ⟨0, by omega, rfl, rfl⟩
  case round =>
    obtain ⟨j, hj, rfl, hs⟩ := hrel
    have HS := Lib.hid hs
    clear hs
    have hget : w1.cell? ⟨w.heap.size, j, none⟩ = some (.int .u8 ((putB n)[j]'(by omega)).toNat) := by rw [HB.out.cell]; exact bCells_get _ _ _
    have fin : shortB n = (putB n).drop j → Bs w1 (.slice (some ⟨w.heap.size, j, none⟩) (8 - j) (8 - j)) (shortB n) := by
      intro e
      rw [e]
      have hl : ((putB n).drop j).length = 8 - j := by rw [List.length_drop, hpl]
      unfold Bs
      rw [hl]
      refine ⟨by rw [bCells_length, hl]; omega, bCells_one _, _, 8 - j, rfl, Nat.le_refl _, by unfold maxLen; omega, fun h => by simp at h, .inr ⟨_, _, rfl, fun i u hi => ?_⟩⟩
      rw [HB.out.cell]
      simp only [bCells, List.map_drop, List.getElem?_drop] at hi ⊢
      exact hi
    have FIN := Lib.hid fin
    clear fin
    by_cases hj7 : j = 7
    · subst hj7
      have h1 : Hid (shortB n = (putB n).drop 7) := Lib.hid (by rw [HS.out, stripZ_drop_stop _ _ (by omega) (.inl (by omega))])
      clear hget
      go_wp2
      go_ret
      exact ⟨_, rfl, FIN.out h1.out, hb1, rfl⟩
    · have hj' : 1 < ((8 - j : Nat) : Int) := by omega
      have hj0 : (0 : Int) < ((8 - j : Nat) : Int) := by omega
      have hj0' : 0 < 8 - j := by omega
      have hjn : ¬ 8 - j = 1 := by omega
      by_cases hz : (putB n)[j]'(by omega) = 0
      · have hz' : ((((putB n)[j]'(by omega)).toNat : Int) == 0) = true := by rw [hz]; rfl
        have h1 : Hid (shortB n = stripZ ((putB n).drop (j + 1))) := Lib.hid (by rw [HS.out, stripZ_drop_zero _ _ (by omega) hz])
        clear hz
        go_wp2
        go_round
        case rel => exact ⟨j + 1, by omega, by rw [show 8 - (j + 1) = 8 - j - 1 by omega], h1.out⟩
        case measure => simp; omega
      · have hz' : ((((putB n)[j]'(by omega)).toNat : Int) == 0) = false := by
          rw [beq_eq_false_iff_ne]
          intro e
          exact hz ((bV_zero _).1 e)
        have h1 : Hid (shortB n = (putB n).drop j) := Lib.hid (by rw [HS.out, stripZ_drop_stop _ _ (by omega) (.inr hz)])
        clear hz
        go_wp2
        go_ret
        exact ⟨_, rfl, FIN.out h1.out, hb1, rfl⟩
theorem u8_step (D x y : UInt8) : Value.int .u8 (bits .or .u8 (D.toNat : Int) (bits .xor .u8 (x.toNat : Int) (y.toNat : Int))) = .int .u8 ((D ||| (x ^^^ y)).toNat) := by
  rw [u8_xor_nat _ _ x.toNat_lt y.toNat_lt, ← UInt8.toNat_xor, u8_or_nat _ _ D.toNat_lt (UInt8.toNat_lt _), ← UInt8.toNat_or]

theorem u8_or_zero (a b : UInt8) : a ||| b = 0 ↔ a = 0 ∧ b = 0 := by
  constructor
  · intro h
    have h1 : a.toNat ||| b.toNat = 0 := by rw [← UInt8.toNat_or, h]; rfl
    have h2 := Nat.or_eq_zero_iff.1 h1
    exact ⟨UInt8.toNat_inj.1 h2.1, UInt8.toNat_inj.1 h2.2⟩
  · rintro ⟨rfl, rfl⟩; rfl

theorem u8_xor_zero (a b : UInt8) : a ^^^ b = 0 ↔ a = b := by
  constructor
  · intro h
    have h1 : (a ^^^ b) ^^^ b = 0 ^^^ b := by rw [h]
    simpa [UInt8.xor_assoc] using h1
  · rintro rfl; simp

theorem getD_ext {a b : List UInt8} (hl : a.length = b.length) : (∀ j, j < max a.length b.length → a.getD j 0 = b.getD j 0) ↔ a = b := by
  constructor
  · intro h
    apply List.ext_getElem hl
    intro i h1 h2
    have := h i (by omega)
    simpa [h1, h2] using this
  · rintro rfl _ _; rfl

set_option maxRecDepth 100000 in
theorem equal_any (v u : Value) (a b : List UInt8) (w : World) (ha : Bs w v a) (hb : Bs w u b) :
    Calls Try.prog 54 #[v, u] w fun e w' => e = .returned (.bool (decide (a = b))) ∧ w = w' := by
  have HA := Lib.hid ha
  have HB := Lib.hid hb
  obtain ⟨ad, cap, rfl, hcap, hcm⟩ := ha.form
  obtain ⟨bd, cap', rfl, hcap', hcm'⟩ := hb.form
  clear ha hb
  unfold maxLen at hcm hcm'
  go_enter Try.func54, Try.ntmps54
  go_wp2_with fail
  all_goals
    go_loop [5, 12] (fun d i => ∃ (k : Nat) (D : UInt8), k ≤ max a.length b.length ∧ i = .int .i64 k ∧ d = .int .u8 D.toNat ∧ (D = 0 ↔ ∀ j, j < k → a.getD j 0 = b.getD j 0)) (fun _ i => max a.length b.length - (intOf i).toNat)
    case atStart => exact ⟨0, 0, Nat.zero_le _, rfl, rfl, by simp⟩
    case round =>
      obtain ⟨k, D, hk, rfl, rfl, hD⟩ := hrel
      have HD := Lib.hid hD
      clear hD
      by_cases hlt : k < max a.length b.length
      · obtain ⟨X, hX⟩ : ∃ X, a.getD k 0 = X := ⟨_, rfl⟩
        obtain ⟨Y, hY⟩ : ∃ Y, b.getD k 0 = Y := ⟨_, rfl⟩
        have cA := octetAt_any _ a k w HA.out
        have cB := octetAt_any _ b k w HB.out
        rw [hX] at cA
        rw [hY] at cB
        have CA := Lib.hid cA
        have CB := Lib.hid cB
        have HX := Lib.hid hX
        have HY := Lib.hid hY
        have HS := Lib.hid (u8_step D X Y)
        clear cA cB hX hY
        go_wp2_with fail
        refine CA.out.mono ?_
        rintro e w' ⟨rfl, rfl⟩
        go_wp2_with fail
        refine CB.out.mono ?_
        rintro e w' ⟨rfl, rfl⟩
        unfold bV
        go_wp2_with fail
        go_round
        case rel =>
          refine ⟨k + 1, D ||| (X ^^^ Y), by omega, by go_num, HS.out, ?_⟩
          · rw [u8_or_zero, u8_xor_zero, HD.out, ← HX.out, ← HY.out]
            constructor
            · rintro ⟨h1, h2⟩ j hj
              rcases Nat.lt_or_ge j k with h3 | h3
              · exact h1 j h3
              · obtain rfl : j = k := by omega
                exact h2
            · intro h
              exact ⟨fun j hj => h j (by omega), h k (by omega)⟩
        case measure => simp [intOf]; omega
      · obtain rfl : k = max a.length b.length := by omega
        have hfin : (decide (a = b)) = (decide (D = 0) && decide (a.length = b.length)) := by
          rw [Bool.eq_iff_iff, Bool.and_eq_true, decide_eq_true_eq, decide_eq_true_eq, decide_eq_true_eq]
          constructor
          · rintro rfl
            exact ⟨HD.out.2 (fun _ _ => rfl), rfl⟩
          · rintro ⟨h1, h2⟩
            exact (getD_ext h2).1 (HD.out.1 h1)
        have HF := Lib.hid hfin
        clear hfin
        by_cases h0 : D = 0
        · have h0' : ((D.toNat : Int) == 0) = true := by rw [h0]; rfl
          by_cases hl : a.length = b.length
          · have hl' : ((a.length : Int) == (b.length : Int)) = true := by simp [hl]
            have HR : Hid (decide (a = b) = true) := Lib.hid (by rw [HF.out, h0, hl]; simp)
            clear h0 hl
            go_wp2_with fail
            go_ret
            rw [HR.out]
            exact ⟨rfl, rfl⟩
          · have hl' : ((a.length : Int) == (b.length : Int)) = false := by rw [beq_eq_false_iff_ne]; omega
            have HR : Hid (decide (a = b) = false) := Lib.hid (by rw [HF.out]; simp [hl])
            clear h0 hl
            go_wp2_with fail
            go_ret
            rw [HR.out]
            exact ⟨rfl, rfl⟩
        · have h0' : ((D.toNat : Int) == 0) = false := by
            rw [beq_eq_false_iff_ne]
            intro e
            exact h0 ((bV_zero _).1 e)
          have HR : Hid (decide (a = b) = false) := Lib.hid (by rw [HF.out]; simp [h0])
          clear h0
          go_wp2_with fail
          go_ret
          rw [HR.out]
          exact ⟨rfl, rfl⟩
end Go.Proofs.Ytdmjliehobgknaa
