/- The statements of octet: OctetOrders returns true. -/
import Derived.Test.YtppmjmginpkgaaaLaw01b
namespace Go.Proofs.Ytppmjmginpkgaaa
open Go.RowKit

theorem pre_step (n p : Nat) : n / 2 ^ (p + 8) = n / 2 ^ p / 256 := by rw [Nat.pow_add, Nat.div_div_eq_div_mul]
theorem pre_lt {n m p : Nat} (h : n / 2 ^ (p + 8) = m / 2 ^ (p + 8)) (hl : n / 2 ^ p % 256 < m / 2 ^ p % 256) : n < m := by
  rw [pre_step, pre_step] at h
  refine Nat.lt_of_not_le fun hle => ?_
  have := Nat.div_le_div_right (c := 2 ^ p) hle
  omega
theorem pre_eq {n m p : Nat} (h : n / 2 ^ (p + 8) = m / 2 ^ (p + 8)) (hl : n / 2 ^ p % 256 = m / 2 ^ p % 256) : n / 2 ^ p = m / 2 ^ p := by
  rw [pre_step, pre_step] at h
  omega

/-- Where the comparison stands after k bytes. -/
def Ord (n m k : Nat) (r : Int) : Prop := (r = 0 ∧ n / 2 ^ (64 - 8 * k) = m / 2 ^ (64 - 8 * k)) ∨ (r = -1 ∧ n < m) ∨ (r = 1 ∧ m < n)
theorem Ord.zero {n m : Nat} (hn : n < 18446744073709551616) (hm : m < 18446744073709551616) : Ord n m 0 0 :=
  .inl ⟨rfl, by rw [Nat.div_eq_of_lt (by simpa using hn), Nat.div_eq_of_lt (by simpa using hm)]⟩
theorem Ord.ne {n m k : Nat} {r : Int} (h : Ord n m k r) (hr : r ≠ 0) (k' : Nat) : Ord n m k' r := by
  rcases h with ⟨h, _⟩ | h | h
  · exact absurd h hr
  · exact .inr (.inl h)
  · exact .inr (.inr h)
theorem Ord.pre {n m k : Nat} (h : Ord n m k 0) (hk : k < 8) : n / 2 ^ (56 - 8 * k + 8) = m / 2 ^ (56 - 8 * k + 8) := by
  rcases h with ⟨_, h⟩ | h | h
  · rwa [show 56 - 8 * k + 8 = 64 - 8 * k from by omega]
  · exact absurd h.1 (by decide)
  · exact absurd h.1 (by decide)
theorem Ord.eq {n m k : Nat} (h : Ord n m k 0) (hk : k < 8) (he : n / 2 ^ (56 - 8 * k) % 256 = m / 2 ^ (56 - 8 * k) % 256) : Ord n m (k + 1) 0 :=
  .inl ⟨rfl, by rw [show 64 - 8 * (k + 1) = 56 - 8 * k from by omega]; exact pre_eq (h.pre hk) he⟩
theorem Ord.lt {n m k : Nat} (h : Ord n m k 0) (hk : k < 8) (he : n / 2 ^ (56 - 8 * k) % 256 < m / 2 ^ (56 - 8 * k) % 256) : Ord n m (k + 1) (-1) :=
  .inr (.inl ⟨rfl, pre_lt (h.pre hk) he⟩)
theorem Ord.gt {n m k : Nat} (h : Ord n m k 0) (hk : k < 8) (he : m / 2 ^ (56 - 8 * k) % 256 < n / 2 ^ (56 - 8 * k) % 256) : Ord n m (k + 1) 1 :=
  .inr (.inr ⟨rfl, pre_lt (h.pre hk).symm he⟩)
theorem Ord.at8 {n m : Nat} {r : Int} (h : Ord n m 8 r) : (r = 0 ∧ n = m) ∨ (r = -1 ∧ n < m) ∨ (r = 1 ∧ m < n) := by
  rcases h with ⟨h, h'⟩ | h | h
  · exact .inl ⟨h, by simpa using h'⟩
  · exact .inr (.inl h)
  · exact .inr (.inr h)

theorem Blk.byte {w : World} {b : Nat} {T : TypeId} {n : Nat} (h : Blk w b (bCells (putB n)) T) (k : Nat) (hk : k < 8) : w.cell? ⟨b, k, none⟩ = some (.int .u8 ((n / 2 ^ (56 - 8 * k) % 256 : Nat) : Int)) := by
  rw [h.cell, bCells, List.getElem?_map, putB_get n k hk, Option.map_some, bV_ofNat _ (Nat.mod_lt _ (by decide))]

set_option maxHeartbeats 1000000 in
set_option maxRecDepth 100000 in
theorem octetOrders_walk (n m : Nat) (z : Int) (w : World) (hn : n < 18446744073709551616) (hm : m < 18446744073709551616) :
    Calls Try.prog 9 #[.int .u64 n, .int .u64 m, .int .i64 z] w fun e w' => e = .returned (.bool true) ∧ Below w.heap.size w w' := by
  have hq := getB_shortB n (by simpa using hn)
  have HQ := Lib.hid hq
  have HZ := Lib.hid (Ord.zero hn hm)
  have hle := shortB_le n
  have hpos := shortB_pos n
  clear hn hm hq
  go_enter Try.func9, Try.ntmps9
  go_wp2_with fail
  refine (alive01_any w).mono ?_
  rintro e w1 ⟨rfl, hb1⟩
  have HB1 := Lib.hid hb1
  clear hb1
  go_wp2_with fail
  refine (put_any n w1).mono ?_
  rintro e w2 ⟨rfl, _, hb2, hk2⟩
  have HB2 := Lib.hid (HB1.out.trans (hb2.mono HB1.out.size))
  go_wp2_with fail
  refine (put_any m w2).mono ?_
  rintro e w3 ⟨rfl, _, hb3, hk3⟩
  have HB3 := Lib.hid (HB2.out.trans (hb3.mono HB2.out.size))
  have HK2 := Lib.hid (hk2.below hb3 hk2.lt)
  have HK3 := Lib.hid hk3
  clear hb2 hk2 hb3 hk3
  go_wp2_with fail
  go_loopw [9, 22] (fun r i wr => ∃ (k q : Nat) (o : Int), k ≤ 8 ∧ i = .int .i64 k ∧ r = .int .i64 o ∧ wr = w3.drewN q ∧ Ord n m k o) (fun _ i _ => 8 - (intOf i).toNat)
  case atStart => exact ⟨0, 0, 0, Nat.zero_le _, rfl, rfl, rfl, HZ.out⟩
  case round =>
    obtain ⟨k, q, o, hk, rfl, rfl, rfl, hord⟩ := hrel
    have HO := Lib.hid hord
    clear hord
    by_cases hlt : k < 8
    · have hlt1 : (k : Int) < 8 := by omega
      have c1 : w3.cell? ⟨w1.heap.size, k, none⟩ = some (.int .u8 ((n / 2 ^ (56 - 8 * k) % 256 : Nat) : Int)) := HK2.out.byte k hlt
      have c2 : w3.cell? ⟨w2.heap.size, k, none⟩ = some (.int .u8 ((m / 2 ^ (56 - 8 * k) % 256 : Nat) : Int)) := HK3.out.byte k hlt
      obtain ⟨x, hx⟩ : ∃ x, x = n / 2 ^ (56 - 8 * k) % 256 := ⟨_, rfl⟩
      obtain ⟨y, hy⟩ : ∃ y, y = m / 2 ^ (56 - 8 * k) % 256 := ⟨_, rfl⟩
      rw [← hx] at c1
      rw [← hy] at c2
      have HX := Lib.hid hx
      have HY := Lib.hid hy
      clear hx hy
      by_cases ho : o = 0
      · subst ho
        rcases Nat.lt_trichotomy x y with hxy | hxy | hxy
        · have hxy1 : ((x : Int) != (y : Int)) = true := by rw [bne_iff_ne]; omega
          have hxy2 : (x : Int) < (y : Int) := by omega
          have HN := Lib.hid (HO.out.lt hlt (by rw [← HX.out, ← HY.out]; exact hxy))
          go_wp2_with fail
          go_quiet (fail)
          go_wp2_with fail
          go_quiet (fail)
          go_wp2_with fail
          go_roundw
          case rel => exact ⟨k + 1, _, _, by omega, by go_num, rfl, rfl, HN.out⟩
          case measure => simp [intOf]; omega
        · have hxy1 : ((x : Int) != (y : Int)) = false := by simp [hxy]
          have HN := Lib.hid (HO.out.eq hlt (by rw [← HX.out, ← HY.out]; exact hxy))
          clear hxy
          go_wp2_with fail
          go_quiet (fail)
          go_wp2_with fail
          go_roundw
          case rel => exact ⟨k + 1, _, _, by omega, by go_num, rfl, rfl, HN.out⟩
          case measure => simp [intOf]; omega
        · have hxy1 : ((x : Int) != (y : Int)) = true := by rw [bne_iff_ne]; omega
          have hxy2 : ¬ (x : Int) < (y : Int) := by omega
          have HN := Lib.hid (HO.out.gt hlt (by rw [← HX.out, ← HY.out]; exact hxy))
          clear hxy
          go_wp2_with fail
          go_quiet (fail)
          go_wp2_with fail
          go_quiet (fail)
          go_wp2_with fail
          go_roundw
          case rel => exact ⟨k + 1, _, _, by omega, by go_num, rfl, rfl, HN.out⟩
          case measure => simp [intOf]; omega
      · have HN := Lib.hid (HO.out.ne ho (k + 1))
        have ho1 : (o == 0) = false := by simpa using ho
        go_wp2_with fail
        go_quiet (fail)
        go_wp2_with fail
        go_roundw
        case rel => exact ⟨k + 1, _, _, by omega, by go_num, rfl, rfl, HN.out⟩
        case measure => simp [intOf]; omega
    · obtain rfl : k = 8 := by omega
      have hend := HO.out.at8
      go_wp2_with fail
      refine (short_any n _).mono ?_
      rintro e w4 ⟨v4, rfl, hs4, hb4, _⟩
      obtain ⟨a4, c4, rfl, _⟩ := hs4.form
      have HS4 := Lib.hid hs4
      have HB4 := Lib.hid ((below_drewN HB3.out q).trans (hb4.mono (below_drewN HB3.out q).size))
      clear hs4 hb4
      go_wp2_with fail
      case' inr =>
        obtain ⟨M, hMM, hM⟩ : ∃ M, M = bits BinOp.and IntKind.i64 z 7 ∧ M ≤ 8 - ((shortB n).length : Int) := ⟨_, rfl, by omega⟩
        rw [← hMM]
        clear h
      case' inl =>
        obtain ⟨M, hMM, hM⟩ : ∃ M, M = 8 - ((shortB n).length : Int) ∧ M ≤ 8 - ((shortB n).length : Int) := ⟨_, rfl, by omega⟩
        rw [← hMM]
        clear h
      all_goals
        clear hMM
        go_loopw [11, 56] (fun v i wr => ∃ (k : Nat), i = .int .i64 k ∧ (k = 0 ∨ (k : Int) ≤ M) ∧ Sl wr 1 v (k + (shortB n).length) (bCells (List.replicate k 0 ++ shortB n)) ∧ Below w.heap.size w wr) (fun _ i _ => (M - intOf i).toNat)
        case atStart => exact ⟨0, rfl, .inl rfl, by rw [Nat.zero_add]; exact HS4.out, HB4.out⟩
        case round =>
          obtain ⟨k, rfl, hk, hs, hB⟩ := hrel
          obtain ⟨a5, c5, rfl, _⟩ := hs.form
          have HS5 := Lib.hid hs
          have HB5 := Lib.hid hB
          clear hs hB
          by_cases hlt : (k : Int) < M
          · have hown := Own.at_ (w := wr) (cs := #[.int .u8 0]) (e := 5) (sz := 1) (n := 1) (B := wr.heap.size) rfl (Nat.le_refl _) rfl (by simp [Value.oneCell']) (by decide)
            have HW := Lib.hid hown
            clear hown
            go_wp2_with ((with_reducible show wpList _ _ _ (⟨some 60, _, _, _, _, _⟩ :: _) _ _); refine wpList_app rfl (.tmp 58) (.tmp 59) elBytes rfl wr.heap.size HW.out (HS5.out.alloc _) (by unfold maxLen; omega) (by omega) (by simp) ?_)
            intro v' w' h1 h2 h3
            obtain ⟨a6, c6, rfl, _⟩ := h1.sl.form
            have HS6 := Lib.hid h1.sl
            have HB6 : Hid (Below w.heap.size w w') := Lib.hid ((HB5.out.alloc HB5.out.size _).trans (h2.below (by rintro j (h | h); exact Nat.le_trans HB5.out.size h.2; exact Nat.le_trans HB5.out.size (Nat.le_of_succ_le h))))
            clear h1 h2 h3
            go_wp2_with fail
            go_roundw
            case rel =>
              refine ⟨k + 1, by go_num, .inr (by omega), ?_, HB6.out⟩
              have h := HS6.out
              rw [show 1 + (k + (shortB n).length) = k + 1 + (shortB n).length from by omega] at h ⊢
              exact h
            case measure => simp [intOf]; omega
          · have hg : getB (List.replicate k 0 ++ shortB n) = (n, true) := by
              have h := HQ.out
              unfold getB at h ⊢
              rw [if_neg (by omega)] at h
              rw [if_neg (by rw [List.length_append, List.length_replicate]; omega), getN_zeros]
              exact h
            have HG := Lib.hid hg
            clear hg
            go_wp2_with fail
            refine (get_any _ (List.replicate k 0 ++ shortB n) wr (HS5.out.bs rfl (by simp))).mono ?_
            rw [HG.out]
            rintro e w' ⟨rfl, rfl⟩
            rcases hend with ⟨rfl, he⟩ | ⟨rfl, he⟩ | ⟨rfl, he⟩
            · have he1 : ¬ (n : Int) < (m : Int) := by omega
              have he2 : ((n : Int) == (m : Int)) = true := by simp [he]
              have HE := Lib.hid (decide_eq_false (by omega : ¬ n < m))
              clear he
              go_wp2_with fail
              go_ret
              refine ⟨?_, HB5.out⟩
              have : Ending.returned (Value.bool (!decide (n < m))) = .returned (.bool true) := by rw [HE.out]; rfl
              exact this
            · have he1 : (n : Int) < (m : Int) := by omega
              have he2 : ((n : Int) == (m : Int)) = false := by simp; omega
              clear he
              go_wp2_with fail
              go_ret
              exact ⟨rfl, HB5.out⟩
            · have he1 : ¬ (n : Int) < (m : Int) := by omega
              have he2 : ((n : Int) == (m : Int)) = false := by simp; omega
              have HE := Lib.hid (decide_eq_false (by omega : ¬ n < m))
              clear he
              go_wp2_with fail
              go_ret
              refine ⟨?_, HB5.out⟩
              have : Ending.returned (Value.bool (!decide (n < m))) = .returned (.bool true) := by rw [HE.out]; rfl
              exact this
end Go.Proofs.Ytppmjmginpkgaaa
