/- The statement ShaApart, walked. -/
import Derived.Test.YtdmjliehobgknaaShaAlive
namespace Go.Proofs.Ytdmjliehobgknaa
open Go.RowKit

def u8Cells (l : List Int) : List Value := l.map fun x => .int .u8 x
theorem u8Cells_length (l : List Int) : (u8Cells l).length = l.length := by simp [u8Cells]
theorem bCells_u8 (l : List UInt8) : bCells l = u8Cells (l.map fun x => (x.toNat : Int)) := by simp [bCells, u8Cells, bV]
theorem u8Cells_get (l : List Int) (k : Nat) (h : k < l.length) : (u8Cells l)[k]? = some (.int .u8 l[k]) := by simp [u8Cells, h]
theorem u8Cells_set (l : List Int) (k : Nat) (x : Int) : (u8Cells l).set k (.int .u8 x) = u8Cells (l.set k x) := by simp [u8Cells, List.map_set]

set_option maxHeartbeats 4000000 in
set_option maxRecDepth 100000 in
theorem shaApart_walk (u v : Value) (a b : List UInt8) (w : World) (ha : Bs w u a) (hb : Bs w v b) :
    Calls Try.prog 5 #[u, v] w fun e w' => e = .returned (.bool true) ∧ Below w.heap.size w w' := by
  obtain ⟨aa, ca, rfl, hca, hma⟩ := ha.form
  obtain ⟨ab, cb, rfl, hcb, hmb⟩ := hb.form
  have HA := Lib.hid ha
  have HB := Lib.hid hb
  clear ha hb
  unfold maxLen at hma hmb
  by_cases hla : 500 < a.length
  · have hla' : (500 : Int) < (a.length : Int) := by omega
    go_enter Try.func5, Try.ntmps5
    go_wp2_with fail
    refine (alive03_any w).mono ?_
    rintro e w1 ⟨rfl, hb1⟩
    go_wp2_with fail
    go_ret
    exact ⟨rfl, hb1⟩
  have hla' : ¬ (500 : Int) < (a.length : Int) := by omega
  by_cases hlb : 500 < b.length
  · have hlb' : (500 : Int) < (b.length : Int) := by omega
    go_enter Try.func5, Try.ntmps5
    go_wp2_with fail
    refine (alive03_any w).mono ?_
    rintro e w1 ⟨rfl, hb1⟩
    go_wp2_with fail
    go_ret
    exact ⟨rfl, hb1⟩
  have hlb' : ¬ (500 : Int) < (b.length : Int) := by omega
  go_enter Try.func5, Try.ntmps5
  go_wp2_with fail
  refine (alive03_any w).mono ?_
  rintro e w1 ⟨rfl, hb1⟩
  have HB1 := Lib.hid hb1
  have hz1 := hb1.size
  clear hb1
  go_wp2_with fail
  refine (shaNew_any w1).mono ?_
  rintro e w2 ⟨rfl, hs2, hb2⟩
  have hp2 := hs2.lt
  have HS2 := Lib.hid hs2
  have HB2 := Lib.hid (HB1.out.trans (hb2.mono hz1))
  obtain ⟨p, hp⟩ : ∃ p, p = w1.heap.size := ⟨_, rfl⟩
  rw [← hp] at HS2 hp2 ⊢
  have hpw : w.heap.size ≤ p := by omega
  have hz2 := hb2.size
  have hpw1 : w1.heap.size ≤ p := by omega
  have hpp : p ≤ w1.heap.size := by omega
  clear hs2 hb2 hp
  go_wp2_with fail
  refine (shaNew_any w2).mono ?_
  rintro e w3 ⟨rfl, ht3, hb3⟩
  have hq3 := ht3.lt
  have HS3 := Lib.hid (HS2.out.below hb3)
  have HT3 := Lib.hid ht3
  have HB3 := Lib.hid (HB2.out.trans (hb3.mono (by omega)))
  obtain ⟨q, hq⟩ : ∃ q, q = w2.heap.size := ⟨_, rfl⟩
  rw [← hq] at HT3 hq3 ⊢
  have hpq : p < q := by omega
  have hz3 := hb3.size
  have hq2 : w2.heap.size ≤ q := by omega
  clear ht3 hb3 hq
  have hown0 := Own.nil (w3.alloc (.cells #[] 5)) w.heap.size 5 1 (some ⟨w3.heap.size, 0, none⟩)
  have HA3 := Lib.hid ((HA.out.below HB3.out).alloc (.cells #[] 5))
  go_wp2_with ((with_reducible show wpList _ _ _ (⟨some 25, _, _, _, _, _⟩ :: _) _ _); refine wpList_app rfl (.tmp 23) (.tmp 24) elBytes rfl w.heap.size hown0 HA3.out (by unfold maxLen; omega) (by omega) (by simp; omega) ?_)
  intro v4 w4 hown4 hk4 hvb4
  obtain ⟨a4, c4, rfl, hc4, hm4⟩ := hown4.sl.form
  have hz4 := hk4.size
  simp at hz4
  have hK34 : Below w3.heap.size w3 w4 := ((Below.refl _ _).alloc (Nat.le_refl _) _).trans (hk4.below (by
    simp only [Value.ownBlock, Option.some.injEq]
    rintro k (h | h) <;> omega))
  have HB4 := Lib.hid (HB3.out.trans (hK34.mono (by omega)))
  have HS4 := Lib.hid (HS3.out.below hK34)
  have HT4 := Lib.hid (HT3.out.below hK34)
  have hgl : ∀ k, (Value.slice a4 a.length c4).ownBlock = some k → w3.heap.size ≤ k := fun k hk => by
    have := hvb4 k hk
    simp only [Value.ownBlock, Option.some.injEq] at this
    omega
  have HGL := Lib.hid hgl
  have HOWN4 := Lib.hid hown4
  unfold maxLen at hm4
  clear hown4 hk4 hvb4 hown0 HA3 hK34 hgl
  go_wp2_with fail
  refine (shaWrite_any _ p [] a _ w4 HS4.out HOWN4.out.sl (by simp; omega)).mono ?_
  rintro e w5 ⟨rfl, hs5, hk5⟩
  have hz5 := hk5.size
  have HS5 := Lib.hid hs5
  have HT5 := Lib.hid (HT4.out.keep hk5 (by omega))
  have HB5 : Hid (Below w.heap.size w w5) := Lib.hid (HB4.out.trans (hk5.below (by rintro k (h | h) <;> omega)))
  have hlt4 : ∀ k, (Value.slice a4 a.length c4).ownBlock = some k → 0 < a.length → k < w4.heap.size := fun k hk hpos => by
    obtain ⟨g, cap, cur, he, _, hh, _⟩ := HOWN4.out.form' hpos
    rw [he] at hk
    simp only [Value.ownBlock, Option.some.injEq] at hk
    have := block_lt hh
    omega
  have hown5 : Own w5 w.heap.size 5 1 (.slice a4 a.length c4) a.length (bCells a) := by
    by_cases hpos : 0 < a.length
    · exact HOWN4.out.keep hk5 (fun k hk h => by
        have h1 := hlt4 k hk hpos
        have h2 := HGL.out k hk
        omega)
    · obtain ⟨h1, h2, h3 | ⟨g, cap, cur, h3, h4, h5, h6⟩⟩ := HOWN4.out
      · exact ⟨h1, h2, .inl h3⟩
      · have h7 := HGL.out g (by rw [h3]; rfl)
        exact ⟨h1, h2, .inr ⟨g, cap, cur, h3, h4, (hk5.block g (by have := block_lt h5; omega)).trans h5, h6⟩⟩
  rw [bCells_u8] at hown5
  have HO5 := Lib.hid hown5
  have HLT4 := Lib.hid hlt4
  clear hs5 hk5 hlt4 hown5 HOWN4
  go_wp2_with fail
  go_loopw [31] (fun i wr => ∃ (k : Nat) (L : List Int), k ≤ a.length ∧ i = .int .i64 k ∧ L.length = a.length ∧ Own wr w.heap.size 5 1 (.slice a4 a.length c4) a.length (u8Cells L) ∧ SumOf wr (fun k => k = p ∨ w4.heap.size ≤ k) p ([] ++ a) ∧ SumOf wr (fun k => k = q) q [] ∧ Below w.heap.size w wr ∧ w5.heap.size ≤ wr.heap.size) (fun i _ => a.length - (intOf i).toNat)
  case atStart => exact ⟨0, _, Nat.zero_le _, rfl, by simp, HO5.out, HS5.out, HT5.out, HB5.out, Nat.le_refl _⟩
  case round =>
    obtain ⟨k, L, hk, rfl, hL, hown, hs, ht, hB, hzr⟩ := hrel
    by_cases hlt : k < a.length
    · obtain ⟨g, cap, cur, he, hgB, hh, _⟩ := hown.form' (by omega)
      simp only [Value.slice.injEq] at he
      obtain ⟨rfl, _, rfl⟩ := he
      have hcell := hown.sl.addr (by rw [u8Cells_length]; omega)
      obtain ⟨b', off', he, hcell⟩ := hcell
      simp only [Option.some.injEq, Addr.mk.injEq, and_true] at he
      obtain ⟨rfl, rfl⟩ := he
      have c0 : wr.cell? ⟨g, k, none⟩ = some (.int .u8 (L[k]'(by omega))) := by
        have := hcell k _ (u8Cells_get L k (by omega))
        rwa [Nat.zero_add] at this
      have f0 := hown.frozen (by omega) k
      have hg4 := HLT4.out g rfl (by omega)
      have hg3 := HGL.out g rfl
      have hset := hown.set (by omega) k (.int .u8 (bits .xor .u8 (L[k]'(by omega)) 1)) rfl
      rw [u8Cells_set] at hset
      have hs' := hs.keep (Keeps.one wr g k (.int .u8 (bits .xor .u8 (L[k]'(by omega)) 1))) (by
        rintro j (h | h) _ e <;> omega)
      have ht' := ht.keep (Keeps.one wr g k (.int .u8 (bits .xor .u8 (L[k]'(by omega)) 1))) (by
        rintro j h _ e; omega)
      have hB' : Below w.heap.size w (wr.setCell ⟨g, k, none⟩ (.int .u8 (bits .xor .u8 (L[k]'(by omega)) 1))) := hB.trans ((Keeps.one _ _ _ _).below (by intro j hj; omega))
      have HSET := Lib.hid hset
      have HS' := Lib.hid hs'
      have HT' := Lib.hid ht'
      have HB' := Lib.hid hB'
      clear hset hs' ht' hB' hown hs ht hcell
      go_wp2_with fail
      go_roundw
      case rel => exact ⟨k + 1, _, by omega, by go_num, by simp [hL], HSET.out, HS'.out, HT'.out, HB'.out, by simp; exact hzr⟩
      case measure => simp [intOf]; omega
    · obtain rfl : k = a.length := by omega
      rw [List.nil_append] at hs
      have HS6 := Lib.hid hs
      have HT6 := Lib.hid ht
      have hzB := hB.size
      have HBr := Lib.hid hB
      clear hs ht hown hB hL
      go_wp2_with fail
      refine (shaWrite_any _ q [] b _ wr HT6.out (HB.out.below HBr.out) (by simp; omega)).mono ?_
      rintro e w6 ⟨rfl, ht6, hk6⟩
      rw [List.nil_append] at ht6
      have hz6 := hk6.size
      have HS7 := Lib.hid (HS6.out.keep hk6 (by rintro j (h | h) hl (e | e) <;> omega))
      have HT7 := Lib.hid ht6
      have HB6 : Hid (Below w.heap.size w w6) := Lib.hid (HBr.out.trans (hk6.below (by rintro j (h | h) <;> omega)))
      clear ht6 hk6
      go_wp2_with fail
      refine (shaDigest_any _ p a w6 HS7.out (by omega)).mono ?_
      rintro e w7 ⟨v7, rfl, ho7, hb7⟩
      obtain ⟨d, hd⟩ : ∃ d, d = digB a := ⟨_, rfl⟩
      have hdl : d.length = 32 := by rw [hd]; exact digB_length a
      have HD := Lib.hid hd
      rw [← hd] at ho7
      obtain ⟨g7, cap7, rest7, rfl, hg7, hblk7, hc7, hm7⟩ := ho7.blk (by omega)
      have hz7 := hb7.size
      have HB67 := Lib.hid hb7
      have HBK7 := Lib.hid hblk7
      have hg7l := hblk7.lt
      have HA7 := Lib.hid ((HA.out.below HB6.out).below hb7)
      rw [hdl] at hc7 ⊢
      have HDL := Lib.hid hdl
      clear hdl
      unfold maxLen at hm7
      have hrs := Rs.one (T := 22) HA7.out
      have HRS := Lib.hid hrs
      clear ho7 hb7 hblk7 hd hrs
      go_wp2_with fail
      refine (shaOf_any _ _ _ HRS.out (by simp; omega)).mono ?_
      rintro e w8 ⟨v8, rfl, ho8, hb8⟩
      rw [show [a].flatten = a by simp, ← HD.out] at ho8
      obtain ⟨g8, cap8, rest8, rfl, hg8, hblk8, hc8, hm8⟩ := ho8.blk (by have := HDL.out; omega)
      have hz8 := hb8.size
      simp at hz8 hg8
      have hbk8 := (HBK7.out.alloc (.cells #[.slice aa a.length ca] 22)).below hb8 (by simp; omega)
      have hd0 : 0 < d.length := by have := HDL.out; omega
      have c0 : w8.cell? ⟨g7, 0, none⟩ = some (.int .u8 (d[0]'hd0).toNat) := by
        rw [hbk8.cell, List.getElem?_append_left (by rw [bCells_length]; omega), bCells_get d 0 hd0]
        rfl
      have f0 := hbk8.frozen 0
      have hB68 : Below w6.heap.size w6 w8 := (HB67.out.alloc hz7 (.cells #[.slice aa a.length ca] 22)).trans (hb8.mono (by simp; omega))
      obtain ⟨x9, hx9⟩ : ∃ x, x = bits .xor .u8 ((d[0]'hd0).toNat : Int) 1 := ⟨_, rfl⟩
      have hB69 : Below w6.heap.size w6 (w8.setCell ⟨g7, 0, none⟩ (.int .u8 x9)) := hB68.trans ((Keeps.one _ _ _ _).below (by intro j hj; omega))
      have hW9 : Bs (w8.setCell ⟨g7, 0, none⟩ (.int .u8 x9)) (.slice (some ⟨g8, 0, none⟩) d.length cap8) d := (ho8.keep (Keeps.one w8 g7 0 (.int .u8 x9)) (by
        intro j hj e
        simp only [Value.ownBlock, Option.some.injEq] at hj
        omega)).sl
      have HW9 := Lib.hid hW9
      have HS9 := Lib.hid (HS7.out.below hB69)
      have HT9 := Lib.hid (HT7.out.below hB69)
      have HB9 : Hid (Below w.heap.size w (w8.setCell ⟨g7, 0, none⟩ (.int .u8 x9))) := Lib.hid (HB6.out.trans (hB69.mono (by omega)))
      clear ho8 hb8 hblk8 hbk8 hB68 hB69 hW9
      go_wp2_with fail
      rw [← hx9]
      clear hx9 c0 f0
      obtain ⟨w9, hw9⟩ : ∃ w9, w9 = w8.setCell ⟨g7, 0, none⟩ (.int .u8 x9) := ⟨_, rfl⟩
      rw [← hw9] at HW9 HS9 HT9 HB9 ⊢
      have hz9 : w9.heap.size = w8.heap.size := by rw [hw9]; simp
      clear hw9
      refine (shaDigest_any _ p a w9 HS9.out (by omega)).mono ?_
      rintro e w10 ⟨v10, rfl, ho10, hb10⟩
      rw [← HD.out] at ho10
      have H10 := Lib.hid ho10.bs
      have HW10 := Lib.hid (HW9.out.below hb10)
      have HT10 := Lib.hid (HT9.out.below hb10)
      have HB10 : Hid (Below w.heap.size w w10) := Lib.hid (HB9.out.trans (hb10.mono (by omega)))
      have hz10 := hb10.size
      clear ho10 hb10
      go_wp2_with fail
      refine (same_b _ _ _ _ _ H10.out HW10.out).mono ?_
      rintro e w11 ⟨rfl, hb11⟩
      have hdd : decide (d = d) = true := by simp
      have HT11 := Lib.hid (HT10.out.below hb11)
      have HB11 : Hid (Below w.heap.size w w11) := Lib.hid (HB10.out.trans (hb11.mono (by omega)))
      have hz11 := hb11.size
      clear hb11
      go_wp2_with fail
      refine (shaDigest_any _ q b w11 HT11.out (by omega)).mono ?_
      rintro e w12 ⟨v12, rfl, ho12, hb12⟩
      obtain ⟨d2, hd2⟩ : ∃ d2, d2 = digB b := ⟨_, rfl⟩
      have HD2 := Lib.hid hd2
      rw [← hd2] at ho12
      have H12 := Lib.hid ho12.bs
      have HB12 : Hid (Below w.heap.size w w12) := Lib.hid (HB11.out.trans (hb12.mono (by omega)))
      have hz12 := hb12.size
      have hrs := Rs.one (T := 22) (HB.out.below HB12.out)
      have HRS2 := Lib.hid hrs
      clear ho12 hb12 hd2 hrs
      go_wp2_with fail
      refine (shaOf_any _ _ _ HRS2.out (by simp; omega)).mono ?_
      rintro e w13 ⟨v13, rfl, ho13, hb13⟩
      rw [show [b].flatten = b by simp, ← HD2.out] at ho13
      have H13 := Lib.hid ho13.bs
      have H12' := Lib.hid ((H12.out.alloc (.cells #[.slice ab b.length cb] 22)).below hb13)
      have HB13 : Hid (Below w.heap.size w w13) := Lib.hid ((HB12.out.alloc (by omega) (.cells #[.slice ab b.length cb] 22)).trans (hb13.mono (by simp; omega)))
      have hz13 := hb13.size
      simp at hz13
      clear ho13 hb13
      go_wp2_with fail
      refine (same_b _ _ _ _ _ H12'.out H13.out).mono ?_
      rintro e w14 ⟨rfl, hb14⟩
      have hdd2 : decide (d2 = d2) = true := by simp
      have HB14 : Hid (Below w.heap.size w w14) := Lib.hid (HB13.out.trans (hb14.mono (by omega)))
      clear hb14
      go_wp2_with fail
      go_ret
      exact ⟨rfl, HB14.out⟩
end Go.Proofs.Ytdmjliehobgknaa
