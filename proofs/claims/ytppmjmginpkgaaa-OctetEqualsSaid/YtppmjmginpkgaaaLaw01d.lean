/- The statements of octet: OctetEquals returns true. -/
import Derived.Test.YtppmjmginpkgaaaLaw01b
namespace Go.Proofs.Ytppmjmginpkgaaa
open Go.RowKit

theorem i64_and1023 (n : Int) : bits .and .i64 n 1023 = n % 1024 := by
  have h127 : (BitVec.ofInt 64 1023).toNat = 2 ^ 10 - 1 := by decide
  have key : (BitVec.ofInt 64 n &&& BitVec.ofInt 64 1023).toNat = (n % ((2 ^ 64 : Nat) : Int)).toNat % 2 ^ 10 := by
    rw [BitVec.toNat_and, BitVec.toNat_ofInt, h127, Nat.and_two_pow_sub_one_eq_mod]
  show IntKind.i64.wrap ((BitVec.ofInt 64 n &&& BitVec.ofInt 64 1023).toNat : Nat) = n % 1024
  rw [key, IntKind.wrap_i64]
  omega

theorem Sl.mid {w : World} {b o cap0 n0 : Nat} {l : List UInt8} (h : Sl w 1 (.slice (some ⟨b, o, none⟩) n0 cap0) n0 (bCells l)) {off n cap : Nat} (hf : off + n ≤ n0) (hc : n ≤ cap) (hm : cap ≤ maxLen) :
    Sl w 1 (.slice (some ⟨b, o + off, none⟩) n cap) n (bCells ((l.drop off).take n)) := by
  have hll : l.length = n0 := by have := h.1; rw [bCells_length] at this; omega
  have hl : (bCells ((l.drop off).take n)).length = n := by rw [bCells_length, List.length_take, List.length_drop]; omega
  refine ⟨by rw [hl]; omega, bCells_one _, some ⟨b, o + off, none⟩, cap, rfl, hc, hm, (fun h => by cases h), ?_⟩
  by_cases hn : n = 0
  · exact .inl (List.eq_nil_of_length_eq_zero (by omega))
  · obtain ⟨b', o', e, hcell⟩ := h.addr (by rw [bCells_length]; omega)
    injection e with e
    injection e with e1 e2 e3
    subst e1 e2
    refine .inr ⟨b, o + off, rfl, fun j u hj => ?_⟩
    have hj' : j < n := by have := (List.getElem?_eq_some_iff.1 hj).1; omega
    rw [Nat.add_assoc]
    refine hcell _ _ ?_
    simp only [bCells, List.getElem?_map, List.getElem?_take, List.getElem?_drop, hj', if_true] at hj ⊢
    exact hj

/-- The block behind bytes of the call's own. -/
theorem OwnBs.blk {w : World} {B : Nat} {v : Value} {l : List UInt8} (h : OwnBs w B v l) (hl : 0 < l.length) :
    ∃ g cap rest, v = .slice (some ⟨g, 0, none⟩) l.length cap ∧ B ≤ g ∧ Blk w g (bCells l ++ rest) 5 ∧ l.length ≤ cap ∧ cap ≤ maxLen := by
  obtain ⟨h0, h1, ⟨a, _, hn⟩ | ⟨g, cap, cur, rfl, h2, h3, h4, h5, h6, h7⟩⟩ := h
  · omega
  · refine ⟨g, cap, cur.toList.drop (l.length * 1), rfl, h2, ?_, h4, h5⟩
    rw [← h7, List.take_append_drop]
    exact h3

theorem Blk.bs_app {w : World} {b : Nat} {l : List UInt8} {rest : List Value} {T : TypeId} (h : Blk w b (bCells l ++ rest) T) {cap : Nat} (hc : l.length ≤ cap) (hm : cap ≤ maxLen) :
    Sl w 1 (.slice (some ⟨b, 0, none⟩) l.length cap) l.length (bCells l) := by
  refine ⟨by rw [bCells_length]; omega, bCells_one _, some ⟨b, 0, none⟩, cap, rfl, hc, hm, (fun h => by cases h), .inr ⟨b, 0, rfl, fun j u hj => ?_⟩⟩
  have hj' := (List.getElem?_eq_some_iff.1 hj).1
  rw [Nat.zero_add, h.cell, List.getElem?_append_left hj']
  exact hj

theorem Bs.none (w : World) (a : Option Addr) (cap : Nat) (h : a = .none → cap = 0) (hm : cap ≤ maxLen) : Bs w (.slice a 0 cap) [] :=
  ⟨by simp [bCells], by simp [bCells], a, cap, rfl, Nat.zero_le _, hm, h, .inl rfl⟩
theorem Sl.lt {w : World} {sz b o n cap : Nat} {cs : List Value} (h : Sl w sz (.slice (some ⟨b, o, none⟩) n cap) n cs) (hpos : 0 < cs.length) : b < w.heap.size := by
  obtain ⟨b', o', e, hc⟩ := h.addr hpos
  injection e with e
  injection e with e1 e2 e3
  subst e1
  obtain ⟨u, hu⟩ : ∃ u, cs[0]? = some u := ⟨_, List.getElem?_eq_getElem hpos⟩
  exact World.block_lt_of_cell? w _ (hc 0 u hu)

theorem set_same (A : List UInt8) (k : Nat) (X y : UInt8) (h : A[k]? = some X) : A = A.set k (X ^^^ y) ↔ y = 0 := by
  obtain ⟨hk, hX⟩ := List.getElem?_eq_some_iff.1 h
  constructor
  · intro e
    have h2 : A[k]? = some (X ^^^ y) := by rw [e, List.getElem?_set_self hk]
    rw [h] at h2
    injection h2 with h2
    have h3 := (u8_xor_zero X (X ^^^ y)).2 h2
    rwa [← UInt8.xor_assoc, UInt8.xor_self, UInt8.zero_xor] at h3
  · rintro rfl
    rw [UInt8.xor_zero, ← hX, List.set_getElem_self]

set_option maxHeartbeats 4000000 in
set_option maxRecDepth 100000 in
theorem octetEquals_walk (u v : Value) (a b : List UInt8) (z : Int) (y : UInt8) (w : World) (ha : Bs w u a) (hb : Bs w v b) :
    Calls Try.prog 7 #[u, v, .int .i64 z, .int .u8 y.toNat] w fun e w' => e = .returned (.bool true) ∧ Below w.heap.size w w' := by
  obtain ⟨aa, ca, rfl, hca, hcma⟩ := ha.form
  obtain ⟨ab, cb, rfl, hcb, hcmb⟩ := hb.form
  unfold maxLen at hcma hcmb
  by_cases hla : 400 < a.length
  · have hl' : (400 : Int) < (a.length : Int) := by omega
    go_enter Try.func7, Try.ntmps7
    go_wp2_with fail
    refine (alive01_any w).mono ?_
    rintro e w1 ⟨rfl, hb1⟩
    go_wp2_with fail
    go_ret
    exact ⟨rfl, hb1⟩
  by_cases hlb : 400 < b.length
  · have hl' : ¬ (400 : Int) < (a.length : Int) := by omega
    have hl'' : (400 : Int) < (b.length : Int) := by omega
    go_enter Try.func7, Try.ntmps7
    go_wp2_with fail
    refine (alive01_any w).mono ?_
    rintro e w1 ⟨rfl, hb1⟩
    go_wp2_with fail
    go_ret
    exact ⟨rfl, hb1⟩
  have hl' : ¬ (400 : Int) < (a.length : Int) := by omega
  have hl'' : ¬ (400 : Int) < (b.length : Int) := by omega
  have HA := Lib.hid ha
  have HB := Lib.hid hb
  clear ha hb
  go_enter Try.func7, Try.ntmps7
  go_wp2_with fail
  refine (alive01_any w).mono ?_
  rintro e w1 ⟨rfl, hb1⟩
  have HB1 := Lib.hid hb1
  have HA1 := Lib.hid (HA.out.below hb1)
  have HD1 := Lib.hid (HB.out.below hb1)
  clear hb1
  go_wp2_with fail
  obtain ⟨E, hE⟩ : ∃ E, E = decide (a = b) := ⟨_, rfl⟩
  have heq := equal_any _ _ a b w1 HA1.out HD1.out
  have hsm := same_b _ _ a b w1 HA1.out HD1.out
  rw [← hE] at heq hsm
  have HSM := Lib.hid hsm
  clear hE hsm
  refine heq.mono ?_
  rintro e w' ⟨rfl, rfl⟩
  clear heq
  go_wp2_with fail
  refine HSM.out.mono ?_
  rintro e w2 ⟨rfl, hb2⟩
  have HB2 := Lib.hid (HB1.out.trans (hb2.mono HB1.out.size))
  have HA2 := Lib.hid (HA1.out.below hb2)
  have HD2 := Lib.hid (HD1.out.below hb2)
  clear hb2
  have hown := Own.at_ (w := w2) (cs := #[]) (e := 5) (sz := 1) (n := 0) (B := w2.heap.size) rfl (Nat.le_refl _) rfl (by simp) (by decide)
  have HW := Lib.hid hown
  clear hown
  go_wp2_with ((with_reducible show wpList _ _ _ (⟨some 36, _, _, _, _, _⟩ :: _) _ _); refine wpList_app rfl (.tmp 34) (.tmp 35) elBytes rfl w2.heap.size HW.out (HA2.out.alloc _) (by unfold maxLen; omega) (by omega) (by simp) ?_)
  intro v3 w3 h1 h2 h3
  obtain ⟨a3, c3, rfl, _⟩ := h1.sl.form
  have hb3 : Below w2.heap.size w2 w3 := ((Below.refl _ _).alloc (Nat.le_refl _) _).trans (h2.below (by rintro j (h | h); exact h.2; exact Nat.le_of_succ_le h))
  have hc3 : Bs w3 (.slice a3 a.length c3) a := h1.sl.bs rfl (by simp)
  have HC3 := Lib.hid hc3
  have HB3 := Lib.hid (HB2.out.trans (hb3.mono HB2.out.size))
  have HA3 := Lib.hid (HA2.out.below hb3)
  have HD3 := Lib.hid (HD2.out.below hb3)
  clear h1 h2 h3 hb3 HW hc3
  go_wp2_with fail
  refine (equal_b _ _ a a w3 HA3.out HC3.out).mono ?_
  rw [decide_eq_true (rfl : a = a)]
  rintro e w4 ⟨rfl, hb4⟩
  have HB4 := Lib.hid (HB3.out.trans (hb4.mono HB3.out.size))
  have HA4 := Lib.hid (HA3.out.below hb4)
  have HD4 := Lib.hid (HD3.out.below hb4)
  clear hb4 HSM HA1 HA2 HA3 HD1 HD2 HD3 HC3 HA HB HB1 HB2 HB3
  go_wp2_with fail
  have hrs : Rs (w4.alloc (.cells #[.slice aa a.length ca, .slice ab b.length cb] 40)) (.slice (some ⟨w4.heap.size, 0, none⟩) 2 2) [a, b] := by
    refine ⟨[.slice aa a.length ca, .slice ab b.length cb], rfl, Sl.lit (cs := #[.slice aa a.length ca, .slice ab b.length cb]) rfl rfl (by simp [Value.oneCell']) (by decide), ?_⟩
    intro j u r hu hr
    match j, hu, hr with
    | 0, hu, hr =>
      simp only [List.getElem?_cons_zero, Option.some.injEq] at hu hr
      subst hu hr
      exact HA4.out.alloc _
    | 1, hu, hr =>
      simp only [List.getElem?_cons_zero, List.getElem?_cons_succ, Option.some.injEq] at hu hr
      subst hu hr
      exact HD4.out.alloc _
  refine (joined_any _ [a, b] _ hrs (by simp; omega)).mono ?_
  rintro e w5 ⟨v5, rfl, ho5, hb5⟩
  rw [show [a, b].flatten = a ++ b from by simp] at ho5
  have hb5' : Below w4.heap.size w4 w5 := ((Below.refl _ _).alloc (Nat.le_refl _) _).trans (hb5.mono (by simp))
  have HO5 := Lib.hid ho5
  have HB5 := Lib.hid (HB4.out.trans (hb5'.mono HB4.out.size))
  have HA5 := Lib.hid (HA4.out.below hb5')
  have HD5 := Lib.hid (HD4.out.below hb5')
  clear hb5' hb5 hrs
  obtain ⟨a5, c5, rfl, _⟩ := ho5.bs.form
  clear ho5
  go_wp2_with fail
  obtain ⟨K, ok, hK, hKl, hKok⟩ : ∃ K ok, keyB a = (K, ok) ∧ K.length = 16 ∧ ((a.length = 16 ∧ K = a ∧ ok = true) ∨ (a.length ≠ 16 ∧ ok = false)) := by
    by_cases h : a.length = 16
    · exact ⟨a, true, by simp [keyB, h], h, .inl ⟨h, rfl, rfl⟩⟩
    · exact ⟨List.replicate 16 0, false, by simp [keyB, h], by simp, .inr ⟨h, rfl⟩⟩
  have hky := key_any _ a w5 HA5.out
  rw [hK] at hky
  refine hky.mono ?_
  rintro e w6 ⟨rfl, hb6⟩
  clear hky hK
  have HO6 := Lib.hid (HO5.out.below hb6)
  have HB6 := Lib.hid (HB5.out.trans (hb6.mono HB5.out.size))
  have HA6 := Lib.hid (HA5.out.below hb6)
  have HD6 := Lib.hid (HD5.out.below hb6)
  clear hb6 HA4 HD4 HA5 HD5 HO5 HB4 HB5
  have HK := Lib.hid hKok
  clear hKok
  go_wp2_with ((with_reducible show wpList _ _ _ (⟨none, .store _ (.tmp 10) (.tmp 47), _, _, _, _⟩ :: _) _ _); refine wpList_stAgg rfl (.tmp 10) (.tmp 47) aggKey rfl rfl (vs := bCells K) rfl (by rw [bCells_length, hKl]) (Blk.at_ (cs := zs16.toArray) rfl) (Nat.le_refl _) (bCells_one _) ?_)
  intro w7 h7 k7
  have hb7 : Below w6.heap.size w6 w7 := ((Below.refl _ _).alloc (Nat.le_refl _) _).trans (k7.below (by intro j h; simp [h]))
  have HO7 := Lib.hid (HO6.out.below hb7)
  have HB7 := Lib.hid (HB6.out.trans (hb7.mono HB6.out.size))
  have HA7 := Lib.hid (HA6.out.below hb7)
  have HD7 := Lib.hid (HD6.out.below hb7)
  have h7' : Blk w7 w6.heap.size (bCells K) 48 := by
    have h := h7
    rw [show bCells K ++ List.drop 16 zs16 = bCells K from by simp [zs16]] at h
    exact h
  have HK7 := Lib.hid h7'
  clear hb7 h7 h7' k7 HO6 HB6 HA6 HD6
  by_cases hN : a.length + b.length = 0
  · obtain rfl : a = [] := List.eq_nil_of_length_eq_zero (by omega)
    obtain rfl : b = [] := List.eq_nil_of_length_eq_zero (by omega)
    obtain ⟨h16, _⟩ | ⟨_, rfl⟩ := HK.out
    · cases h16
    have hform : (a5 = none → c5 = 0) ∧ c5 ≤ maxLen := by
      obtain ⟨_, _, a', cap', e, _, h2, h3, _⟩ := OwnBs.bs (l := [] ++ []) HO7.out
      injection e with e1 e2 e3
      subst e1 e3
      exact ⟨h3, h2⟩
    have HF := Lib.hid hform.2
    have HN0 := Lib.hid hform.1
    clear hform HO7
    cases a5 with
    | none =>
      obtain rfl : c5 = 0 := HN0.out rfl
      go_wp2_with fail
      refine (same_b _ _ [] [] w7 (Bs.none w7 _ _ (by simp) (by decide)) HA7.out).mono ?_
      rw [decide_eq_true (rfl : ([] : List UInt8) = [])]
      rintro e w8 ⟨rfl, hb8⟩
      have HB8 := Lib.hid (HB7.out.trans (hb8.mono HB7.out.size))
      have HD8 := Lib.hid (HD7.out.below hb8)
      clear hb8 HB7 HD7
      go_wp2_with fail
      refine (same_b _ _ [] [] w8 (Bs.none w8 _ _ (by simp) (by decide)) HD8.out).mono ?_
      rw [decide_eq_true (rfl : ([] : List UInt8) = [])]
      rintro e w9 ⟨rfl, hb9⟩
      have HB9 := Lib.hid (HB8.out.trans (hb9.mono HB8.out.size))
      clear hb9 HB8 HD8
      go_wp2_with fail
      go_ret
      exact ⟨rfl, HB9.out⟩
    | some p =>
      obtain ⟨pb, po, ps⟩ := p
      go_wp2_with fail
      refine (same_b _ _ [] [] w7 (Bs.none w7 _ _ (by simp) (by first | exact HF.out | decide)) HA7.out).mono ?_
      rw [decide_eq_true (rfl : ([] : List UInt8) = [])]
      rintro e w8 ⟨rfl, hb8⟩
      have HB8 := Lib.hid (HB7.out.trans (hb8.mono HB7.out.size))
      have HD8 := Lib.hid (HD7.out.below hb8)
      clear hb8 HB7 HD7
      go_wp2_with fail
      all_goals
        refine (same_b _ _ [] [] w8 (Bs.none w8 _ _ (by simp) (by first | exact HF.out | decide)) HD8.out).mono ?_
        rw [decide_eq_true (rfl : ([] : List UInt8) = [])]
        rintro e w9 ⟨rfl, hb9⟩
        have HB9 := Lib.hid (HB8.out.trans (hb9.mono HB8.out.size))
        clear hb9 HB8 HD8
        go_wp2_with fail
        go_ret
        exact ⟨rfl, HB9.out⟩
  · obtain ⟨g, cap, rest, hv, hg, hblk, hc, hcm⟩ := OwnBs.blk (l := a ++ b) HO7.out (by rw [List.length_append]; omega)
    injection hv with e1 e2 e3
    subst e1 e3
    have HBK := Lib.hid hblk
    have HG := Lib.hid hg
    unfold maxLen at hcm
    rw [List.length_append] at hc
    clear hblk hg
    have hall : Bs w7 (.slice (some ⟨g, 0, none⟩) (a ++ b).length c5) (a ++ b) := OwnBs.bs HO7.out
    have HL7 := Lib.hid hall
    clear hall
    go_wp2_with fail
    refine (same_b _ _ a a w7 ((Sl.mid HL7.out (off := 0) (n := a.length) (cap := c5) (by simp) (by omega) (by unfold maxLen; omega)).bs (by simp) rfl) HA7.out).mono ?_
    rw [decide_eq_true (rfl : a = a)]
    rintro e w8 ⟨rfl, hb8⟩
    have HL8 := Lib.hid (HL7.out.below hb8)
    have HBK8 := Lib.hid (HBK.out.below hb8 HBK.out.lt)
    have HB8 := Lib.hid (HB7.out.trans (hb8.mono HB7.out.size))
    have HA8 := Lib.hid (HA7.out.below hb8)
    have HD8 := Lib.hid (HD7.out.below hb8)
    have HK8 := Lib.hid (HK7.out.below hb8 HK7.out.lt)
    clear hb8 HL7 HBK HB7 HA7 HD7 HK7 HO7
    go_wp2_with fail
    case' inl h =>
      subst h
      have hmid : Bs w8 (.slice (some ⟨g, 0, none⟩) b.length 0) b := by
        have hb0 : b = [] := List.eq_nil_of_length_eq_zero (by omega)
        rw [hb0]
        exact Sl.nil w8 1 _
    case' inr h =>
      have hmid : Bs w8 (.slice (some ⟨g, a.length, none⟩) b.length (c5 - a.length)) b := by
        have h := (Sl.mid HL8.out (off := a.length) (n := b.length) (cap := c5 - a.length) (by simp) (by omega) (by unfold maxLen; omega)).bs (l' := b) (by simp) rfl
        rw [Nat.zero_add] at h
        exact h
    all_goals
      refine (same_b _ _ b b w8 hmid HD8.out).mono ?_
      rw [decide_eq_true (rfl : b = b)]
      rintro e w9 ⟨rfl, hb9⟩
      have HL9 := Lib.hid (HL8.out.below hb9)
      have HBK9 := Lib.hid (HBK8.out.below hb9 HBK8.out.lt)
      have HB9 := Lib.hid (HB8.out.trans (hb9.mono HB8.out.size))
      have HA9 := Lib.hid (HA8.out.below hb9)
      have HK9 := Lib.hid (HK8.out.below hb9 HK8.out.lt)
      clear hb9 HL8 HBK8 HB8 HA8 HD8 HK8 hmid
      rcases HK.out with ⟨h16, hKa, hok⟩ | ⟨h16, hok⟩
    all_goals
      subst hok
      first
      | have h16' : (a.length : Int) = 16 := by omega
        have HKA := Lib.hid hKa
        clear hKa HK h16
        go_wp2_with fail
        have hks : Bs w9 (.slice (some ⟨w6.heap.size, 0, none⟩) 16 16) K := (HK9.out.bs (off := 0) (n := 16) (cap := 16) (by omega) (by omega) (by decide)).bs (by simp; exact List.take_of_length_le (by omega)) hKl
        refine (same_b _ _ K a w9 hks HA9.out).mono ?_
        rw [decide_eq_true HKA.out]
        rintro e w10 ⟨rfl, hb10⟩
        have HL := Lib.hid (HL9.out.below hb10)
        have HBX := Lib.hid (HB9.out.trans (hb10.mono HB9.out.size))
        clear hb10
      | have h16' : ((a.length : Int) == 16) = false := by simp; omega
        clear h16
        have HL := HL9
        have HBX := HB9
        clear HK
    all_goals
      clear HL9 HBK9 HB9 HA9 HK9
      have hlx := HL.out
      unfold Bs at hlx
      rw [List.length_append] at hlx
      have HX := Lib.hid hlx
      clear HL hlx
      have HW : Hid (∀ w : World, Own (w.alloc (.cells #[] 5)) w.heap.size 5 1 (.slice (some ⟨w.heap.size, 0, none⟩) 0 0) 0 []) := Lib.hid (fun w => Own.at_ (cs := #[]) rfl (Nat.le_refl _) rfl (by simp) (by decide))
      go_wp2_with ((with_reducible show wpList _ _ _ (⟨some 96, _, _, _, _, _⟩ :: _) _ _); refine wpList_app rfl (.tmp 94) (.tmp 95) elBytes rfl _ (HW.out _) (Sl.alloc HX.out _) (by unfold maxLen; omega) (by omega) (by simp) ?_)
      intro v11 w11 h1 h2 h3
      have hb11 := fun (B : Nat) (w0 : World) => (Below.refl w0.heap.size w0).alloc (Nat.le_refl _) (.cells #[] 5)
      have hb11 := (hb11 0 _).trans (h2.below (by rintro j (h | h); exact h.2; exact Nat.le_of_succ_le h))
      have hHX := Sl.below HX.out hb11
      obtain ⟨A, hA⟩ : ∃ A, A = a ++ b := ⟨_, rfl⟩
      have hAl : a.length + b.length = A.length := by rw [hA, List.length_append]
      rw [← hA, hAl] at h1 hHX
      rw [hAl] at hN ⊢
      have hA8 : A.length ≤ 800 := by omega
      obtain ⟨g2, c12, rest2, hv, hg2, hblk, hc12, hcm12⟩ := OwnBs.blk (l := A) h1 (by omega)
      subst hv
      have HB11 := Lib.hid (HBX.out.trans (hb11.mono HBX.out.size))
      have HX11 := Lib.hid hHX
      have hg2w : w.heap.size ≤ g2 := Nat.le_trans HBX.out.size hg2
      have HBK := Lib.hid hblk
      obtain ⟨M, hM⟩ : ∃ M : Nat, bits .and .i64 z 1023 = M := ⟨(z % 1024).toNat, by rw [i64_and1023]; omega⟩
      have hkl : M % A.length < A.length := Nat.mod_lt _ (by omega)
      obtain ⟨X, hX⟩ : ∃ X, A[M % A.length]? = some X := ⟨_, List.getElem?_eq_getElem hkl⟩
      have c0 : w11.cell? ⟨g2, M % A.length, none⟩ = some (.int .u8 X.toNat) := by
        rw [HBK.out.cell, List.getElem?_append_left (by rw [bCells_length]; exact hkl), bCells, List.getElem?_map, hX]
        rfl
      have f0 : w11.frozen? ⟨g2, M % A.length, none⟩ = false := HBK.out.frozen _
      have hxor : bits .xor .u8 (X.toNat : Int) (y.toNat : Int) = ((X ^^^ y).toNat : Int) := by rw [u8_xor_nat _ _ X.toNat_lt y.toNat_lt, ← UInt8.toNat_xor]
      have HXX := Lib.hid hX
      have hgne : g ≠ g2 := by have := Sl.lt HX.out (by rw [bCells_length, List.length_append]; omega); omega
      clear h1 h2 h3 hb11 hHX hA hAl hg2 hblk HW HX HBX hl' hl'' hla hlb hc hcm hX
      go_wp2_with fail
      obtain ⟨w12, hw12⟩ : ∃ w12, w12 = w11.setCell ⟨g2, M % A.length, none⟩ (.int .u8 ((X.toNat ^^^ y.toNat : Nat) : Int)) := ⟨_, rfl⟩
      rw [← hw12]
      have hxa := Sl.setCell (p := ⟨g2, M % A.length, none⟩) HX11.out (by simp [Value.ownBlock, hgne]) (.int .u8 ((X.toNat ^^^ y.toNat : Nat) : Int))
      rw [← hw12] at hxa
      obtain ⟨C, hC⟩ : ∃ C, C = A.set (M % A.length) (X ^^^ y) := ⟨_, rfl⟩
      have hCl : C.length = A.length := by rw [hC, List.length_set]
      have hblk : Blk w12 g2 (bCells C ++ rest2) 5 := by
        have h := HBK.out.set (M % A.length) (.int .u8 ((X.toNat ^^^ y.toNat : Nat) : Int))
        rw [List.set_append_left _ _ (by rw [bCells_length]; exact hkl)] at h
        rw [hw12, hC, bCells, List.map_set, bV, UInt8.toNat_xor]
        exact h
      have HB12 : Hid (Below w.heap.size w w12) := Lib.hid (by rw [hw12]; exact HB11.out.trans ((Keeps.setCell (S := fun k => k = g2) (p := ⟨g2, M % A.length, none⟩) (Keeps.refl _ _) rfl _).below (by omega)))
      have hset : (A = C) ↔ y = 0 := by rw [hC]; exact set_same A _ X y HXX.out
      have HBK12 := Lib.hid hblk
      have HXA := Lib.hid hxa
      clear hw12 hxa hC hblk c0 f0 hxor HX11 HBK HB11 HXX hM hkl
      obtain ⟨E2, hE2, hy⟩ : ∃ E2, decide (A = C) = E2 ∧ (((y.toNat : Int) == 0) = E2) := by
        by_cases hy : y = 0
        · exact ⟨true, by simp [hset, hy], by simp [hy]⟩
        · exact ⟨false, by simp [hset, hy], by simp; exact fun h => hy ((bV_zero y).1 (by simpa using h))⟩
      have hcs : Bs w12 (.slice (some ⟨g2, 0, none⟩) A.length c12) C := by
        have h := Blk.bs_app HBK12.out (cap := c12) (by omega) hcm12
        rw [hCl] at h
        exact h.bs rfl hCl
      have heq := equal_any _ _ A C w12 HXA.out hcs
      clear hcs
      rw [hE2] at heq
      clear hE2 hset
      refine heq.mono ?_
      rintro e w' ⟨rfl, rfl⟩
      clear heq
      go_wp2_with fail
      refine (zero_any g2 0 A.length c12 (bCells C ++ rest2) _ _ HBK12.out (by rw [List.length_append, bCells_length]; omega)).mono ?_
      rintro e w13 ⟨rfl, hz, hk13⟩
      have HB13 := Lib.hid (HB12.out.trans (hk13.below (by omega)))
      have HZ : Hid (∀ j, j < A.length → w13.cell? ⟨g2, j, none⟩ = some (.int .u8 0)) := Lib.hid (by
        intro j hj
        rw [hz.cell, List.take_zero, List.nil_append, List.getElem?_append_left (by simpa using hj)]
        simp [hj])
      clear hz hk13
      go_wp2_with fail
      go_loopw [118] (fun i wr => ∃ k : Nat, k ≤ A.length ∧ i = .int .i64 k ∧ wr = w13) (fun i _ => A.length - (intOf i).toNat)
      case atStart => exact ⟨0, Nat.zero_le _, rfl, rfl⟩
      case round =>
        obtain ⟨k, hk, rfl, rfl⟩ := hrel
        by_cases hlt : k < A.length
        · have c1 := HZ.out k hlt
          go_wp2_with fail
          go_roundw
          case rel => exact ⟨k + 1, by omega, by go_num, trivial⟩
          case measure => simp [intOf]; omega
        · obtain rfl : k = A.length := by omega
          go_wp2_with fail
          go_ret
          exact ⟨rfl, HB13.out⟩
end Go.Proofs.Ytppmjmginpkgaaa
