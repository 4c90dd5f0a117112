/- mac: the key of a password. -/
import Derived.Test.YtdmjliehobgknaaMacKey
namespace Go.Proofs.Ytdmjliehobgknaa
set_option linter.unusedSimpArgs false
set_option linter.unusedVariables false
open Go.RowKit

def xorB (t u : List UInt8) : List UInt8 := List.zipWith (fun a b => a ^^^ b) t u
/-- A password, turned so often: what is there, and what was the last. -/
def textIt (pw u0 : List UInt8) : Nat → List UInt8 × List UInt8
  | 0 => (u0, u0)
  | n + 1 => (xorB (textIt pw u0 n).1 (macB pw (textIt pw u0 n).2), macB pw (textIt pw u0 n).2)
def textB (pw salt : List UInt8) : List UInt8 := (textIt pw (macB pw (salt ++ [0, 0, 0, 1])) 15).1.take 16

theorem textIt_length (pw u0 : List UInt8) (h : u0.length = 32) : ∀ n, (textIt pw u0 n).1.length = 32 ∧ (textIt pw u0 n).2.length = 32
  | 0 => ⟨h, h⟩
  | n + 1 => by
    have := textIt_length pw u0 h n
    simp only [textIt, xorB, List.length_zipWith, macB_length, this.1]
    decide
theorem textB_length (pw salt : List UInt8) : (textB pw salt).length = 16 := by
  simp [textB, (textIt_length pw (macB pw (salt ++ [0, 0, 0, 1])) (macB_length _ _) 15).1]

theorem bCells_getD (l : List UInt8) (k : Nat) (h : k < l.length) : (bCells l)[k]? = some (bV (l.getD k 0)) := by simp [bCells, h]

theorem xor_bV2 (x y : UInt8) : (Value.int .u8 (bits .xor .u8 (x.toNat : Int) (y.toNat : Int))) = bV (x ^^^ y) := by
  rw [bV, UInt8.toNat_xor, u8_xor_nat _ _ x.toNat_lt y.toNat_lt]

set_option maxHeartbeats 4000000 in
set_option maxRecDepth 100000 in
theorem macText_any (pw salt : ByteArray) (w : World) (hs : pw.size ≤ 100000) (hs2 : salt.size ≤ 100000) :
    Calls Try.prog 25 #[.string pw, .string salt] w fun e w' => e = .returned (keyV (textB pw.data.toList salt.data.toList)) ∧ Below w.heap.size w w' := by
  have B0 := Lib.hid (Blk.new w zs16 37)
  have HBb : Hid (Below w.heap.size w (w.alloc (.cells zs16.toArray 37))) := Lib.hid ((Below.refl _ _).alloc (Nat.le_refl _) _)
  obtain ⟨Z, hZ⟩ : ∃ Z : List Value, Z = List.replicate 32 (Value.int .u8 0) := ⟨_, rfl⟩
  have hmk : ∀ w : World, (Instr.makeSlice 22 (.int .i64 32) (.int .i64 32)).run Try.prog w = .ok (.slice (some ⟨w.heap.size, 0, none⟩) 32 32) (w.alloc (.cells Z.toArray 5)) := by
    intro w
    rw [hZ]
    exact mkBytes w 32 32 rfl (by decide)
  have HZ := Lib.hid hZ
  have hpl : pw.data.toList.length = pw.size := rfl
  have hsl : salt.data.toList.length = salt.size := rfl
  obtain ⟨p, hp⟩ : ∃ p, p = pw.data.toList := ⟨_, rfl⟩
  obtain ⟨s, hsd⟩ : ∃ s, s = salt.data.toList := ⟨_, rfl⟩
  rw [← hp] at hpl ⊢
  rw [← hsd] at hsl ⊢
  have HP := Lib.hid hp
  have HS := Lib.hid hsd
  have HPL := Lib.hid hpl
  have HSL := Lib.hid hsl
  clear hZ hp hsd hpl hsl
  go_enter Try.func25, Try.ntmps25
  go_wp2_with ((with_reducible show wpList _ _ _ (⟨some 12, _, _, _, _, _⟩ :: _) _ _); refine wpList_conv rfl (.tmp 11) rfl (s := pw) rfl (by omega) ?_)
  intro cap1 w1 hcv1 hb1 hz1
  rw [← HP.out] at hcv1
  have HB1 : Hid (Below w.heap.size w w1) := Lib.hid (HBb.out.trans (hb1.mono (by simp)))
  have HK1 : Hid (Blk w1 w.heap.size zs16 37) := Lib.hid (B0.out.below hb1 (by simp))
  have HC1 : Hid (Bs w1 (.slice (some ⟨w.heap.size + 1, 0, none⟩) pw.size cap1) p) := Lib.hid (by
    have := hcv1.sl
    unfold Bs
    rw [HPL.out]
    simpa using this)
  have hzz1 : w.heap.size + 2 ≤ w1.heap.size := by omega
  clear hcv1 hb1 hz1 B0 HBb
  go_wp2_with ((with_reducible show wpList _ _ _ (⟨some 14, _, _, _, _, _⟩ :: _) _ _); refine wpList_conv rfl (.tmp 13) rfl (s := salt) rfl (by omega) ?_)
  intro cap2 w2 hcv2 hb2 hz2
  rw [← HS.out] at hcv2
  have HB2 : Hid (Below w.heap.size w w2) := Lib.hid (HB1.out.trans (hb2.mono (by omega)))
  have HK2 : Hid (Blk w2 w.heap.size zs16 37) := Lib.hid (HK1.out.below hb2 (by omega))
  have HC2 : Hid (Bs w2 (.slice (some ⟨w.heap.size + 1, 0, none⟩) pw.size cap1) p) := Lib.hid (HC1.out.below hb2)
  have hcb2 : Bs w2 (.slice (some ⟨w1.heap.size, 0, none⟩) salt.size cap2) s := by
    have := hcv2.sl
    unfold Bs
    rw [HSL.out]
    exact this
  have hzz2 : w.heap.size + 2 ≤ w2.heap.size := by omega
  have hlt : Bs (w2.alloc (.cells #[.int .u8 0, .int .u8 0, .int .u8 0, .int .u8 1] 5)) (.slice (some ⟨w2.heap.size, 0, none⟩) 4 4) [0, 0, 0, 1] := Bs.lit (w := w2) (cs := #[.int .u8 0, .int .u8 0, .int .u8 0, .int .u8 1]) [0, 0, 0, 1] rfl rfl (by decide)
  have hrs := Rs.two (T := 22) (hcb2.alloc (.cells #[.int .u8 0, .int .u8 0, .int .u8 0, .int .u8 1] 5)) hlt
  rw [show (w2.alloc (.cells #[.int .u8 0, .int .u8 0, .int .u8 0, .int .u8 1] 5)).heap.size = w2.heap.size + 1 by simp] at hrs
  have HRS := Lib.hid hrs
  have HKB := Lib.hid ((HC2.out.alloc (.cells #[.int .u8 0, .int .u8 0, .int .u8 0, .int .u8 1] 5)).alloc (.cells #[.slice (some ⟨w1.heap.size, 0, none⟩) salt.size cap2, .slice (some ⟨w2.heap.size, 0, none⟩) 4 4] 22))
  clear hcv2 hb2 hz2 hcb2 hlt hrs
  go_wp2_with fail
  refine (macSum_any _ _ p [s, [0, 0, 0, 1]] _ HKB.out HRS.out (by have := HPL.out; omega) (by have := HSL.out; simp; omega) (by simp)).mono ?_
  rintro e w3 ⟨x3, rfl, ho3, hb3⟩
  rw [show [s, [0, 0, 0, 1]].flatten = s ++ [0, 0, 0, 1] by simp] at ho3
  obtain ⟨U, hU⟩ : ∃ U, U = macB p (s ++ [0, 0, 0, 1]) := ⟨_, rfl⟩
  rw [← hU] at ho3
  have hUl : U.length = 32 := by rw [hU]; exact macB_length _ _
  have HU := Lib.hid hU
  have HUL := Lib.hid hUl
  have HX3 := Lib.hid ho3.bs
  have hz3 := hb3.size
  simp at hz3
  have HB3 : Hid (Below w.heap.size w w3) := Lib.hid (((HB2.out.alloc (by omega) _).alloc (by simp; omega) _).trans (hb3.mono (by simp; omega)))
  have HK3 : Hid (Blk w3 w.heap.size zs16 37) := Lib.hid (((HK2.out.alloc _).alloc _).below hb3 (by simp; omega))
  clear ho3 hb3 hU hUl
  go_wp2_with fail
  go_loopw [5, 6, 19] (fun t u i wr => ∃ n : Nat, n ≤ 15 ∧ i = .int .i64 n ∧ Bs wr t (textIt p U n).1 ∧ Bs wr u (textIt p U n).2 ∧ Below w.heap.size w wr ∧ Blk wr w.heap.size zs16 37) (fun _ _ i _ => 15 - (intOf i).toNat)
  case atStart => exact ⟨0, by omega, rfl, HX3.out, HX3.out, HB3.out, HK3.out⟩
  case round =>
    obtain ⟨n, hn, rfl, ht, hu, hB, hK⟩ := hrel
    have hlen := textIt_length p U HUL.out n
    obtain ⟨at_, ct, rfl, hct, hmt⟩ := ht.form
    obtain ⟨au, cu, rfl, hcu, hmu⟩ := hu.form
    rw [hlen.1] at hct ht ⊢
    rw [hlen.2] at hcu hu ⊢
    unfold maxLen at hmt hmu
    have HT := Lib.hid ht
    have HUu := Lib.hid hu
    have HBr := Lib.hid hB
    have HKr := Lib.hid hK
    have HLEN := Lib.hid hlen
    have hzr := hB.size
    have hzk := hK.lt
    clear ht hu hB hK hlen
    by_cases hlt : n < 15
    · have hltI : (n : Int) < 15 := by omega
      go_wp2_with ((with_reducible show wpList _ _ _ (⟨some 22, _, _, _, _, _⟩ :: _) _ _); refine wpList_conv rfl (.tmp 21) rfl (s := pw) rfl (by omega) ?_)
      intro cap4 w4 hcv4 hb4 hz4
      rw [← HP.out] at hcv4
      have HC4 : Hid (Bs w4 (.slice (some ⟨wr.heap.size, 0, none⟩) pw.size cap4) p) := Lib.hid (by
        have := hcv4.sl
        unfold Bs
        rw [HPL.out]
        exact this)
      have HB4 : Hid (Below w.heap.size w w4) := Lib.hid (HBr.out.trans (hb4.mono hzr))
      have HK4 : Hid (Blk w4 w.heap.size zs16 37) := Lib.hid (HKr.out.below hb4 hzk)
      have HT4 := Lib.hid (HT.out.below hb4)
      have hrs := Rs.one (T := 22) (HUu.out.below hb4)
      have HRS4 := Lib.hid hrs
      have HKB4 := Lib.hid (HC4.out.alloc (.cells #[.slice au 32 cu] 22))
      have hzz4 : w.heap.size + 2 ≤ w4.heap.size := by omega
      clear hcv4 hb4 hz4 hrs HT HUu HBr HKr
      go_wp2_with fail
      refine (macSum_any _ _ p [(textIt p U n).2] _ HKB4.out HRS4.out (by have := HPL.out; omega) (by have := HLEN.out.2; simp; omega) (by simp)).mono ?_
      rintro e w5 ⟨x5, rfl, ho5, hb5⟩
      rw [show [(textIt p U n).2].flatten = (textIt p U n).2 by simp] at ho5
      obtain ⟨V, hV⟩ : ∃ V, V = macB p (textIt p U n).2 := ⟨_, rfl⟩
      obtain ⟨T, hT⟩ : ∃ T, T = (textIt p U n).1 := ⟨_, rfl⟩
      have hTl : T.length = 32 := by rw [hT]; exact HLEN.out.1
      have hnext : textIt p U (n + 1) = (xorB T V, V) := by rw [hT, hV]; rfl
      rw [← hV] at ho5
      rw [← hT] at HT4
      have hVl : V.length = 32 := by rw [hV]; exact macB_length _ _
      obtain ⟨X, hX⟩ : ∃ X, X = xorB T V := ⟨_, rfl⟩
      rw [← hX] at hnext
      have hXl : X.length = 32 := by rw [hX]; simp [xorB, hTl, hVl]
      have hXg : ∀ k (h : k < 32), X[k]? = some (T.getD k 0 ^^^ V.getD k 0) := by
        intro k h
        rw [hX]
        have h1 : k < T.length := by omega
        have h2 : k < V.length := by omega
        simp [xorB, List.getElem?_zipWith, h1, h2]
      obtain ⟨g5, cap5, rest5, rfl, hg5, _, hc5, hm5⟩ := ho5.blk (by omega)
      have hv5 := ho5.bs
      rw [hVl] at hc5 hv5 ⊢
      have hz5 := hb5.size
      simp at hz5 hg5
      have HX5 := Lib.hid hv5
      have HT5 := Lib.hid ((HT4.out.alloc (.cells #[.slice au 32 cu] 22)).below hb5)
      have HB5 : Hid (Below w.heap.size w w5) := Lib.hid ((HB4.out.alloc (by omega) _).trans (hb5.mono (by simp; omega)))
      have HK5 : Hid (Blk w5 w.heap.size zs16 37) := Lib.hid ((HK4.out.alloc _).below hb5 (by simp; omega))
      have HNX := Lib.hid hnext
      have HXL := Lib.hid hXl
      have HXG := Lib.hid hXg
      have HTL := Lib.hid hTl
      have HVL := Lib.hid hVl
      have hzq : Blk (w5.alloc (.cells Z.toArray 5)) w5.heap.size (bCells (partZ X 0)) 5 := by
        have e : Z = bCells (partZ X 0) := by rw [HZ.out, partZ, hXl]; rfl
        rw [← e]
        exact Blk.new w5 Z _
      have HZQ := Lib.hid hzq
      unfold maxLen at hm5
      clear ho5 hb5 hv5 hV hT hX hTl hVl hXl hXg hnext hzq HT4 HRS4 HKB4 HC4
      go_wp2_with fail
      go_loopw [31] (fun i ws => ∃ k : Nat, k ≤ 32 ∧ i = .int .i64 k ∧ Blk ws w5.heap.size (bCells (partZ X k)) 5 ∧ Below w5.heap.size w5 ws) (fun i _ => 32 - (intOf i).toNat)
      case atStart => exact ⟨0, by omega, rfl, HZQ.out, (Below.refl _ _).alloc (Nat.le_refl _) _⟩
      case round =>
        obtain ⟨k, hk, rfl, hbq, hB⟩ := hrel
        by_cases hltk : k < 32
        · obtain ⟨bt, ot, rfl, hct⟩ := (show Sl w5 1 (.slice at_ 32 ct) 32 (bCells T) by have := HT5.out; unfold Bs at this; rwa [HTL.out] at this).addr (by rw [bCells_length, HTL.out]; decide)
          obtain ⟨bv, ov, hev, hcv⟩ := (show Sl w5 1 (.slice (some ⟨g5, 0, none⟩) 32 cap5) 32 (bCells V) by have := HX5.out; unfold Bs at this; rwa [HVL.out] at this).addr (by rw [bCells_length, HVL.out]; decide)
          simp only [Option.some.injEq, Addr.mk.injEq, and_true] at hev
          obtain ⟨rfl, rfl⟩ := hev
          have xt : wr.drew.cell? ⟨bt, ot + k, none⟩ = some (.int .u8 (T.getD k 0).toNat) := below_cell hB (hct k _ (bCells_getD T k (by have := HTL.out; omega)))
          have xv : wr.drew.cell? ⟨g5, k, none⟩ = some (.int .u8 (V.getD k 0).toNat) := by
            have := below_cell hB (hcv k _ (bCells_getD V k (by have := HVL.out; omega)))
            rwa [Nat.zero_add] at this
          have hst := hbq.set k (bV (T.getD k 0 ^^^ V.getD k 0))
          rw [bCells_set, partZ_set _ _ _ (HXG.out k hltk), ← xor_bV2] at hst
          have cq : wr.drew.cell? ⟨w5.heap.size, k, none⟩ = some (.int .u8 0) := by
            show wr.cell? _ = _
            rw [hbq.cell]
            exact bCells_getq _ _ _ (partZ_get _ _ (by rw [HXL.out]; exact hltk))
          have fq : wr.drew.frozen? ⟨w5.heap.size, k, none⟩ = false := hbq.frozen k
          have hki : (k : Int) < 32 := by omega
          generalize T.getD k 0 = xt0 at xt hst
          generalize V.getD k 0 = xv0 at xv hst
          have HST := Lib.hid hst
          have HBk := Lib.hid hB
          clear hbq hB hst hct hcv
          go_wp2_with fail
          go_region
          go_wp2_with fail
          go_roundw
          case rel => exact ⟨k + 1, by omega, by go_num, HST.out.drew, (HBk.out.setCell (p := ⟨w5.heap.size, k, none⟩) (Nat.le_refl _) _).drew⟩
          case measure => simp [intOf]; omega
        · obtain rfl : k = 32 := by omega
          rw [show partZ X 32 = X by rw [← HXL.out]; exact partZ_all X] at hbq
          have hx6 : Bs wr (.slice (some ⟨w5.heap.size, 0, none⟩) 32 32) X :=
            (hbq.bs (off := 0) (n := 32) (cap := 32) (by have := HXL.out; omega) (Nat.le_refl _) (by unfold maxLen; decide)).bs (by rw [List.drop_zero, List.take_of_length_le (by have := HXL.out; omega)]) HXL.out
          have HX6 := Lib.hid hx6
          have HV6 := Lib.hid (HX5.out.below hB)
          have HB6 : Hid (Below w.heap.size w wr) := Lib.hid (HB5.out.trans (hB.mono (by omega)))
          have HK6 : Hid (Blk wr w.heap.size zs16 37) := Lib.hid (HK5.out.below hB (by omega))
          clear hbq hx6 hB
          go_wp2_with fail
          go_roundw
          case rel => exact ⟨n + 1, by omega, by go_num, by rw [HNX.out]; exact HX6.out, by rw [HNX.out]; exact HV6.out, HB6.out, HK6.out⟩
          case measure => simp [intOf]; omega
    · obtain rfl : n = 15 := by omega
      obtain ⟨M, hM⟩ : ∃ M, M = (textIt p U 15).1 := ⟨_, rfl⟩
      have ht := HT.out
      rw [← hM] at ht
      have hMl : M.length = 32 := by rw [hM]; exact HLEN.out.1
      have hMd : M.take 16 = textB p s := by rw [hM, HU.out]; rfl
      obtain ⟨bt, ot, rfl, _⟩ := (show Sl wr 1 (.slice at_ 32 ct) 32 (bCells M) by have := ht; unfold Bs at this; rwa [hMl] at this).addr (by rw [bCells_length, hMl]; decide)
      have ht16 := bs_take ht 16 (by omega)
      have HT16 := Lib.hid ht16
      have HMD := Lib.hid hMd
      have HML := Lib.hid hMl
      clear ht ht16 hMl hMd hM HT HUu
      go_wp2_with fail
      refine (key_any _ _ _ HT16.out).mono ?_
      rw [show keyB (M.take 16) = (M.take 16, true) by rw [keyB, if_pos (by rw [List.length_take, HML.out]; rfl)], HMD.out]
      rintro e w4 ⟨rfl, hb4⟩
      obtain ⟨R, hR⟩ : ∃ R, R = textB p s := ⟨_, rfl⟩
      rw [← hR]
      have hRl : (bCells R).length = 16 := by rw [bCells_length, hR]; exact textB_length _ _
      have HRL := Lib.hid hRl
      have hz4 := hb4.size
      have HB4 : Hid (Below w.heap.size w w4) := Lib.hid (HBr.out.trans (hb4.mono (by omega)))
      have HP4 : Hid (Blk w4 w.heap.size zs16 37) := Lib.hid (HKr.out.below hb4 (by omega))
      have HZ4 := Lib.hid (Blk.new w4 zs16 37)
      have HRd := Lib.hid hR
      unfold keyV
      clear hb4 hRl hR
      go_wp2_with ((with_reducible show wpList _ _ _ (⟨none, .store _ (.tmp 9) (.tmp 53), _, _, _, _⟩ :: _) _ _); refine wpList_stAgg rfl (.tmp 9) (.tmp 53) aggKey rfl rfl (vs := bCells R) rfl HRL.out HZ4.out (Nat.le_refl _) (bCells_one _) ?_)
      intro w5 h5 k5
      have h5' : Blk w5 w4.heap.size (bCells R) 37 := by simpa [zs16] using h5
      have H5 := Lib.hid h5'
      have HP5 : Hid (Blk w5 w.heap.size zs16 37) := Lib.hid ((HP4.out.alloc _).keep k5 (by omega))
      have HB5 : Hid (Below w.heap.size w w5) := Lib.hid ((HB4.out.alloc (by omega) _).trans (k5.below (by omega)))
      have hz5 := k5.size
      simp at hz5
      clear h5 h5' k5
      go_wp2_with (first | ((with_reducible show wpList _ _ _ (⟨some 55, _, _, _, _, _⟩ :: _) _ _); refine wpList_ldAgg rfl (.tmp 9) aggKey rfl rfl (cs := bCells R) HRL.out H5.out.cellsAll ?_) | ((with_reducible show wpList _ _ _ (⟨none, .store _ (.tmp 4) (.tmp 55), _, _, _, _⟩ :: _) _ _); refine wpList_stAgg rfl (.tmp 4) (.tmp 55) aggKey rfl rfl (vs := bCells R) rfl HRL.out HP5.out (Nat.le_refl _) (bCells_one _) ?_))
      intro w6 h6 k6
      have h6' : Blk w6 w.heap.size (bCells R) 37 := by simpa [zs16] using h6
      have H6 := Lib.hid h6'
      have HB6 : Hid (Below w.heap.size w w6) := Lib.hid (HB5.out.trans (k6.below (by omega)))
      clear h6 h6' k6
      go_wp2_with fail
      exact bodyPost_ret (results_agg rfl aggKey rfl (cs := bCells R) HRL.out H6.out.cellsAll) rfl ⟨by rw [← HRd.out]; rfl, HB6.out⟩
end Go.Proofs.Ytdmjliehobgknaa
