/- mac: the keyed sum of rows of bytes. -/
import Derived.Test.YtdmjliehobgknaaShaAlive
import Derived.Test.YtdmjliehobgknaaBase3
namespace Go.Proofs.Ytdmjliehobgknaa
set_option linter.unusedSimpArgs false
set_option linter.unusedVariables false
open Go.RowKit

/-- A key as it goes in: its digest, if it is long. -/
def keyI (key : List UInt8) : List UInt8 := if 64 < key.length then digB key else key
/-- A key's 64 bytes, held against a byte. -/
def padK (K : List UInt8) (c : UInt8) : List UInt8 := (List.range 64).map fun i => K.getD i 0 ^^^ c
/-- The keyed sum. -/
def macB (key b : List UInt8) : List UInt8 := digB (padK (keyI key) 92 ++ digB (padK (keyI key) 54 ++ b))

theorem padK_length (K : List UInt8) (c : UInt8) : (padK K c).length = 64 := by simp [padK]
theorem padK_get (K : List UInt8) (c : UInt8) (k : Nat) (h : k < 64) : (padK K c)[k]? = some (K.getD k 0 ^^^ c) := by simp [padK, h]

/-- So many bytes are there, and 0 behind them. -/
def partZ (P : List UInt8) (k : Nat) : List UInt8 := P.take k ++ List.replicate (P.length - k) 0
theorem partZ_length (P : List UInt8) (k : Nat) (h : k ≤ P.length) : (partZ P k).length = P.length := by simp [partZ]; omega
theorem partZ_set (P : List UInt8) (k : Nat) (x : UInt8) (hx : P[k]? = some x) : (partZ P k).set k x = partZ P (k + 1) := by
  have hk := (List.getElem?_eq_some_iff.1 hx).1
  have hx2 := (List.getElem?_eq_some_iff.1 hx).2
  unfold partZ
  rw [List.set_append_right _ _ (by simp; omega), List.take_succ_eq_append_getElem hk, hx2]
  simp only [List.length_take, Nat.min_eq_left (Nat.le_of_lt hk), Nat.sub_self]
  rw [show P.length - k = (P.length - (k + 1)) + 1 by omega, List.replicate_succ, List.set_cons_zero]
  simp
theorem partZ_all (P : List UInt8) : partZ P P.length = P := by simp [partZ]
theorem partZ_get (P : List UInt8) (k : Nat) (h : k < P.length) : (partZ P k)[k]? = some 0 := by
  unfold partZ
  rw [List.getElem?_append_right (by simp; omega)]
  rw [List.length_take, Nat.min_eq_left (Nat.le_of_lt h), Nat.sub_self, List.getElem?_replicate, if_pos (by omega)]
theorem bCells_set (l : List UInt8) (k : Nat) (x : UInt8) : (bCells l).set k (bV x) = bCells (l.set k x) := by simp [bCells, List.map_set]
theorem bCells_getq (l : List UInt8) (k : Nat) (x : UInt8) (h : l[k]? = some x) : (bCells l)[k]? = some (bV x) := by simp [bCells, h]

theorem xor_bV (x : UInt8) (c : Nat) (hc : c < 256) : (Value.int .u8 (bits .xor .u8 (x.toNat : Int) (c : Int))) = bV (x ^^^ UInt8.ofNat c) := by
  have e : ((UInt8.ofNat c).toNat : Nat) = c := by rw [UInt8.toNat_ofNat']; exact Nat.mod_eq_of_lt hc
  rw [bV, UInt8.toNat_xor, e, u8_xor_nat _ _ x.toNat_lt hc]

theorem elRows : Elem Try.prog 69 22 1 24 (.slice none 0 0) := by
  refine Elem.mk Try.underlying69 ?_ rfl (by decide)
  kernel_rfl

set_option maxHeartbeats 4000000 in
set_option maxRecDepth 100000 in
theorem macSum_any (u v : Value) (key : List UInt8) (rows : List (List UInt8)) (w : World) (hu : Bs w u key) (hv : Rs w v rows) (hkl : key.length ≤ 1000000) (hrl : rows.flatten.length ≤ 1000000) (hrn : rows.length ≤ 1000000) :
    Calls Try.prog 22 #[u, v] w fun e w' => ∃ x, e = .returned x ∧ OwnBs w' w.heap.size x (macB key rows.flatten) ∧ Below w.heap.size w w' := by
  obtain ⟨au, cu, rfl, hcu, hmu⟩ := hu.form
  unfold maxLen at hmu
  have HU := Lib.hid hu
  have HV := Lib.hid hv
  obtain ⟨Z, hZ⟩ : ∃ Z : List Value, Z = List.replicate 64 (Value.int .u8 0) := ⟨_, rfl⟩
  have hmk : ∀ w : World, (Instr.makeSlice 22 (.int .i64 64) (.int .i64 64)).run Try.prog w = .ok (.slice (some ⟨w.heap.size, 0, none⟩) 64 64) (w.alloc (.cells Z.toArray 5)) := by
    intro w
    rw [hZ]
    exact mkBytes w 64 64 rfl (by decide)
  obtain ⟨P1, hP1⟩ : ∃ P, P = padK (keyI key) 54 := ⟨_, rfl⟩
  obtain ⟨P2, hP2⟩ : ∃ P, P = padK (keyI key) 92 := ⟨_, rfl⟩
  have hl1 : P1.length = 64 := by rw [hP1]; exact padK_length _ _
  have hl2 : P2.length = 64 := by rw [hP2]; exact padK_length _ _
  have hz1 : Z = bCells (partZ P1 0) := by rw [hZ, partZ, hl1]; rfl
  have hz2 : Z = bCells (partZ P2 0) := by rw [hZ, partZ, hl2]; rfl
  have HZ1 := Lib.hid hz1
  have HZ2 := Lib.hid hz2
  have HP1 := Lib.hid hP1
  have HP2 := Lib.hid hP2
  have HL1 := Lib.hid hl1
  have HL2 := Lib.hid hl2
  clear hu hv hZ hP1 hP2 hl1 hl2 hz1 hz2
  go_enter Try.func22, Try.ntmps22
  go_upto_if 11 with fail
  go_cut [0] (fun s0 wx => Bs wx s0 (keyI key) ∧ Below w.heap.size w wx)
  case first =>
    by_cases hlong : 64 < key.length
    · have hlI : (64 : Int) < key.length := by omega
      have hki : keyI key = digB key := by rw [keyI, if_pos hlong]
      have HKI := Lib.hid hki
      have HRS := Lib.hid (Rs.one (T := 22) HU.out)
      clear hki
      go_wp2_with fail
      refine (shaOf_any _ _ _ HRS.out (by simp; omega)).mono ?_
      rintro e w2 ⟨x2, rfl, ho2, hb2⟩
      rw [show [key].flatten = key by simp, ← HKI.out] at ho2
      have H2 := Lib.hid ho2.bs
      have HB2 : Hid (Below w.heap.size w w2) := Lib.hid (((Below.refl _ _).alloc (Nat.le_refl _) _).trans (hb2.mono (by simp)))
      clear ho2 hb2
      go_wp2_with fail
      go_meet
      exact ⟨H2.out, HB2.out⟩
    · have hlI : ¬ (64 : Int) < key.length := by omega
      have hki : keyI key = key := by rw [keyI, if_neg hlong]
      have HKI := Lib.hid hki
      clear hki
      go_wp2_with fail
      go_meet
      exact ⟨by rw [HKI.out]; exact HU.out, Below.refl _ _⟩
  case rest =>
  obtain ⟨hk0, hbw⟩ := hcut
  obtain ⟨K, hK⟩ : ∃ K, K = keyI key := ⟨_, rfl⟩
  rw [← hK] at hk0 HP1 HP2
  obtain ⟨a0, c0, rfl, hc0, hm0⟩ := hk0.form
  unfold maxLen at hm0
  have hzw := hbw.size
  have HK0 := Lib.hid hk0
  have HBW := Lib.hid hbw
  have HVW := Lib.hid (HV.out.below hbw)
  have HKd := Lib.hid hK
  clear hk0 hbw hK
  obtain ⟨wk, rfl⟩ : ∃ wk : World, wk = wc := ⟨_, rfl⟩
  go_upto_region 3 with fail
  go_cut [5, 6] (fun s5 s6 wx => ∃ p q : Nat, p ≠ q ∧ wk.heap.size ≤ p ∧ wk.heap.size ≤ q ∧ s5 = .slice (some ⟨p, 0, none⟩) 64 64 ∧ s6 = .slice (some ⟨q, 0, none⟩) 64 64 ∧ Blk wx p Z 5 ∧ Blk wx q Z 5 ∧ Below wk.heap.size wk wx)
  case first =>
    have hA : Blk ((wk.alloc (.cells Z.toArray 5)).alloc (.cells Z.toArray 5)).drew wk.heap.size Z 5 := ((Blk.new wk Z 5).alloc (.cells Z.toArray 5)).drew
    have hB : Blk ((wk.alloc (.cells Z.toArray 5)).alloc (.cells Z.toArray 5)).drew (wk.heap.size + 1) Z 5 := (Blk.at_ (cs := Z.toArray) (by simp)).drew
    have hC : Below wk.heap.size wk ((wk.alloc (.cells Z.toArray 5)).alloc (.cells Z.toArray 5)).drew := (((Below.refl _ _).alloc (Nat.le_refl _) _).alloc (by simp) _).drew
    have HA := Lib.hid hA
    have HB := Lib.hid hB
    have HC := Lib.hid hC
    clear hA hB hC
    go_wp2_with fail
    go_region
    · go_wp2_with fail
      go_meet
      exact ⟨wk.heap.size, wk.heap.size + 1, by omega, by omega, by omega, rfl, rfl, HA.out, HB.out, HC.out⟩
    · go_wp2_with fail
      go_meet
      exact ⟨wk.heap.size + 1, wk.heap.size, by omega, by omega, by omega, rfl, rfl, HB.out, HA.out, HC.out⟩
  case rest =>
  obtain ⟨p, q, hpq, hpw, hqw, rfl, rfl, hbp, hbq, hbc⟩ := hcut
  rw [HZ1.out] at hbp
  rw [HZ2.out] at hbq
  have hpk : wk.heap.size ≤ p := hpw
  have hqk : wk.heap.size ≤ q := hqw
  have HBP := Lib.hid hbp
  have HBQ := Lib.hid hbq
  have HBC := Lib.hid hbc
  clear hbp hbq hbc
  go_wp2_with fail
  go_loopw [19] (fun i wr => ∃ k : Nat, k ≤ 64 ∧ i = .int .i64 k ∧ Blk wr p (bCells (partZ P1 k)) 5 ∧ Blk wr q (bCells (partZ P2 k)) 5 ∧ Below wk.heap.size wk wr) (fun i _ => 64 - (intOf i).toNat)
  case atStart => exact ⟨0, by omega, rfl, HBP.out, HBQ.out, HBC.out⟩
  case round =>
    obtain ⟨k, hk, rfl, hbp, hbq, hB⟩ := hrel
    have HBr := Lib.hid hB
    have hzr := hB.size
    by_cases hlt : k < 64
    · have e1 : P1[k]? = some (K.getD k 0 ^^^ 54) := by rw [HP1.out]; exact padK_get K 54 k hlt
      have e2 : P2[k]? = some (K.getD k 0 ^^^ 92) := by rw [HP2.out]; exact padK_get K 92 k hlt
      have hs1 : Blk (wr.setCell ⟨p, k, none⟩ (bV (K.getD k 0 ^^^ 54))) p (bCells (partZ P1 (k + 1))) 5 := by
        have := hbp.set k (bV (K.getD k 0 ^^^ 54))
        rw [bCells_set, partZ_set _ _ _ e1] at this
        exact this
      have hs2 : ∀ w : World, Blk w q (bCells (partZ P2 k)) 5 → Blk (w.setCell ⟨q, k, none⟩ (bV (K.getD k 0 ^^^ 92))) q (bCells (partZ P2 (k + 1))) 5 := by
        intro w hw
        have := hw.set k (bV (K.getD k 0 ^^^ 92))
        rw [bCells_set, partZ_set _ _ _ e2] at this
        exact this
      have fin : Blk ((wr.setCell ⟨p, k, none⟩ (bV (K.getD k 0 ^^^ 54))).setCell ⟨q, k, none⟩ (bV (K.getD k 0 ^^^ 92))) p (bCells (partZ P1 (k + 1))) 5 ∧
          Blk ((wr.setCell ⟨p, k, none⟩ (bV (K.getD k 0 ^^^ 54))).setCell ⟨q, k, none⟩ (bV (K.getD k 0 ^^^ 92))) q (bCells (partZ P2 (k + 1))) 5 ∧
          Below wk.heap.size wk ((wr.setCell ⟨p, k, none⟩ (bV (K.getD k 0 ^^^ 54))).setCell ⟨q, k, none⟩ (bV (K.getD k 0 ^^^ 92))) :=
        ⟨hs1.set_other (by simpa using hpq) _, hs2 _ (hbq.set_other (by simpa using Ne.symm hpq) _), (HBr.out.setCell (p := ⟨p, k, none⟩) hpk _).setCell (p := ⟨q, k, none⟩) hqk _⟩
      have hx1 : Value.int .u8 (bits .xor .u8 ((K.getD k 0).toNat : Int) 54) = bV (K.getD k 0 ^^^ 54) := xor_bV _ 54 (by decide)
      have hx2 : Value.int .u8 (bits .xor .u8 ((K.getD k 0).toNat : Int) 92) = bV (K.getD k 0 ^^^ 92) := xor_bV _ 92 (by decide)
      rw [← hx1, ← hx2] at fin
      have cp : wr.cell? ⟨p, k, none⟩ = some (.int .u8 0) := by
        rw [hbp.cell]
        exact bCells_getq _ _ _ (partZ_get _ _ (by rw [HL1.out]; exact hlt))
      have cq : wr.cell? ⟨q, k, none⟩ = some (.int .u8 0) := by
        rw [hbq.cell]
        exact bCells_getq _ _ _ (partZ_get _ _ (by rw [HL2.out]; exact hlt))
      have fp := hbp.frozen k
      have fq := hbq.frozen k
      have FIN := Lib.hid fin
      have hk64 : (k : Int) < 64 := by omega
      by_cases hin : k < K.length
      · obtain ⟨b0, o0, rfl, hcell⟩ := HK0.out.addr (by rw [bCells_length]; omega)
        have hg : (K.getD k 0) = K[k] := by simp [List.getD, hin]
        have ck : wr.cell? ⟨b0, o0 + k, none⟩ = some (.int .u8 (K.getD k 0).toNat) := by rw [hg]; exact below_cell hB (hcell k _ (bCells_get K k hin))
        have hinI : (k : Int) < K.length := by omega
        generalize K.getD k 0 = x at ck FIN
        clear hbp hbq hB hs1 hs2 fin hx1 hx2 e1 e2 hcell hg
        go_wp2_with fail
        go_roundw
        case rel => exact ⟨k + 1, by omega, by go_num, FIN.out.1, FIN.out.2.1, FIN.out.2.2⟩
        case measure => simp [intOf]; omega
      · have hg : (K.getD k 0) = 0 := by simp [List.getD, List.getElem?_eq_none (Nat.le_of_not_lt hin)]
        rw [hg] at FIN
        have hinI : ¬ (k : Int) < K.length := by omega
        clear hbp hbq hB hs1 hs2 fin hx1 hx2 e1 e2 hg
        go_wp2_with fail
        go_roundw
        case rel => exact ⟨k + 1, by omega, by go_num, FIN.out.1, FIN.out.2.1, FIN.out.2.2⟩
        case measure => simp [intOf]; omega
    · obtain rfl : k = 64 := by omega
      rw [show partZ P1 64 = P1 by rw [← HL1.out]; exact partZ_all P1] at hbp
      rw [show partZ P2 64 = P2 by rw [← HL2.out]; exact partZ_all P2] at hbq
      have hb1 : Bs wr (.slice (some ⟨p, 0, none⟩) 64 64) P1 :=
        (hbp.bs (off := 0) (n := 64) (cap := 64) (by have := HL1.out; omega) (Nat.le_refl _) (by unfold maxLen; decide)).bs (by rw [List.drop_zero, List.take_of_length_le (by have := HL1.out; omega)]) HL1.out
      have hb2 : Bs wr (.slice (some ⟨q, 0, none⟩) 64 64) P2 :=
        (hbq.bs (off := 0) (n := 64) (cap := 64) (by have := HL2.out; omega) (Nat.le_refl _) (by unfold maxLen; decide)).bs (by rw [List.drop_zero, List.take_of_length_le (by have := HL2.out; omega)]) HL2.out
      obtain ⟨vs, hvl, hsl, hel⟩ := HVW.out.below hB
      obtain ⟨av, cv, rfl, hcv, hmv⟩ := hsl.form
      have HVL := Lib.hid hvl
      have HSL := Lib.hid (hsl.alloc (.cells #[.slice (some ⟨p, 0, none⟩) 64 64] 22))
      have HEL := Lib.hid hel
      have H1 := Lib.hid hb1
      have H2 := Lib.hid hb2
      have HLT : Hid (Own (wr.alloc (.cells #[.slice (some ⟨p, 0, none⟩) 64 64] 22)) wr.heap.size 22 1 (.slice (some ⟨wr.heap.size, 0, none⟩) 1 1) 1 [.slice (some ⟨p, 0, none⟩) 64 64]) :=
        Lib.hid (Own.at_ (n := 1) rfl (Nat.le_refl _) rfl (by simp [Value.oneCell']) (by unfold maxLen; decide))
      unfold maxLen at hmv
      clear hbp hbq hB hvl hsl hel hb1 hb2 HBP HBQ
      go_wp2_with ((with_reducible show wpList _ _ _ (⟨some 45, _, _, _, _, _⟩ :: _) _ _); refine wpList_app rfl (.tmp 43) (.tmp 44) elRows rfl wr.heap.size HLT.out HSL.out (by unfold maxLen; omega) (by omega) (by simp) ?_)
      intro v2 w2 ho2 hk2 hvb2
      have hB2 : Below wr.heap.size wr w2 := ((Below.refl _ _).alloc (Nat.le_refl _) _).trans (hk2.below (by
        rintro j (⟨_, h⟩ | h)
        · exact h
        · omega))
      have hrs2 : Rs w2 v2 (P1 :: rows) := by
        refine ⟨.slice (some ⟨p, 0, none⟩) 64 64 :: vs, by simp [HVL.out], ?_, ?_⟩
        · have := ho2.sl
          rw [Nat.add_comm] at this
          exact this
        · intro j u r hu hr
          cases j with
          | zero => simp at hu hr; subst hu hr; exact H1.out.below hB2
          | succ j => exact (HEL.out j u r (by simpa using hu) (by simpa using hr)).below hB2
      have HRS2 := Lib.hid hrs2
      have HB2 := Lib.hid hB2
      have hz2 := hB2.size
      obtain ⟨a2, c2, rfl, _⟩ := ho2.sl.form
      clear ho2 hk2 hvb2 hB2 hrs2 HLT
      go_wp2_with fail
      refine (shaOf_any _ _ _ HRS2.out (by rw [List.flatten_cons, List.length_append]; have := HL1.out; omega)).mono ?_
      rintro e w3 ⟨x3, rfl, ho3, hb3⟩
      rw [List.flatten_cons] at ho3
      obtain ⟨D1, hD1⟩ : ∃ D, D = digB (P1 ++ rows.flatten) := ⟨_, rfl⟩
      rw [← hD1] at ho3
      obtain ⟨a3, c3, rfl, _⟩ := ho3.sl.form
      have hDl : D1.length = 32 := by rw [hD1]; exact digB_length _
      have hrs3 := Rs.two (T := 22) ((H2.out.below HB2.out).below hb3) ho3.bs
      have HRS3 := Lib.hid hrs3
      have HDL := Lib.hid hDl
      have HD1 := Lib.hid hD1
      have HB3 : Hid (Below w.heap.size w w3) := Lib.hid (((HBW.out.trans (HBr.out.mono hzw)).trans (HB2.out.mono (by omega))).trans (hb3.mono (by omega)))
      have hz3 := HB3.out.size
      clear ho3 hb3 hrs3 hD1 hDl
      go_wp2_with fail
      refine (shaOf_any _ _ _ HRS3.out (by have := HL2.out; have := HDL.out; simp; omega)).mono ?_
      rintro e w4 ⟨x4, rfl, ho4, hb4⟩
      have hfin : digB [P2, D1].flatten = macB key rows.flatten := by
        rw [macB, ← HKd.out, ← HP2.out, ← HP1.out, ← HD1.out]
        simp
      rw [hfin] at ho4
      have ho5 : OwnBs w4 w.heap.size x4 (macB key rows.flatten) := Own.base ho4 (by simp; omega)
      have HO5 := Lib.hid ho5
      have HB5 : Hid (Below w.heap.size w w4) := Lib.hid ((HB3.out.alloc hz3 _).trans (hb4.mono (by simp; omega)))
      clear ho4 hb4 hfin ho5
      go_wp2_with fail
      go_ret
      exact ⟨_, rfl, HO5.out, HB5.out⟩
end Go.Proofs.Ytdmjliehobgknaa
