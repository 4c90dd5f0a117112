/- Contracts of the document's mac (compeerref04): Derive, Text. -/
import Derived.Test.YtdmjliehobgknaaRef04
namespace Go.Proofs.Ytdmjliehobgknaa
set_option linter.unusedSimpArgs false
set_option linter.unusedVariables false
open Go.RowKit

set_option maxHeartbeats 2000000 in
set_option maxRecDepth 100000 in
theorem refDerive_any (vk u : Value) (Kc : List Int) (key : List UInt8) (s : ByteArray) (w : World) (hk : Ws w vk Kc) (hK : Kc = kL) (hu : Bs w u key) (hkl : key.length ≤ 1000) (hs : s.size ≤ 1000) :
    Calls Try.prog 26 #[vk, u, .string s] w fun e w' => ∃ x, e = .returned x ∧ Bs w' x (deriveB key s.data.toList) ∧ Below w.heap.size w w' := by
  have HU := Lib.hid hu
  have HKW := Lib.hid hk
  have HKC := Lib.hid hK
  clear hu hk hK
  go_enter Try.func26, Try.ntmps26
  go_wp2_with ((with_reducible show wpList _ _ _ (⟨some 10, _, _, _, _, _⟩ :: _) _ _); refine wpList_conv rfl (.tmp 9) rfl (s := s) rfl (by omega) ?_)
  intro cap w1 hcv hb1 hz1
  have hz1' : w.heap.size ≤ w1.heap.size := by omega
  have HCV := Lib.hid (hcv.alloc (.cells #[.int .u8 0, .int .u8 1] 5))
  have HB1 : Hid (Below w.heap.size w (w1.alloc (.cells #[.int .u8 0, .int .u8 1] 5))) := Lib.hid (hb1.alloc hz1' _)
  clear hcv hb1 hz1
  go_wp2_with ((with_reducible show wpList _ _ _ (⟨some 12, _, _, _, _, _⟩ :: _) _ _); refine wpList_appC rfl (.tmp 10) (.tmp 11) rfl rfl HCV.out (Sl.lit (n := 2) rfl rfl (by simp [Value.oneCell']) (by unfold maxLen; decide)) (by decide) (by omega) (by omega) ?_)
  intro v2 w2 hs2 hb2
  have hbb2 := hb2 w.heap.size (Nat.le_refl _) (by omega)
  have hbs2 : Bs w2 v2 (s.data.toList ++ [0, 1]) := by
    unfold Bs
    rw [bCells_append, List.length_append, show s.data.toList.length = s.size from rfl]
    exact hs2
  have HS2 := Lib.hid hbs2
  have HB2 : Hid (Below w.heap.size w w2) := Lib.hid (HB1.out.trans hbb2)
  have HK2 := Lib.hid (HKW.out.below HB2.out)
  have HU2 := Lib.hid (HU.out.below HB2.out)
  have hz2 := HB2.out.size
  clear hs2 hb2 hbb2 hbs2
  go_wp2_with fail
  refine (refMacSum_any _ _ _ Kc key (s.data.toList ++ [0, 1]) w2 HK2.out HKC.out HU2.out HS2.out (by omega) (by rw [List.length_append, show s.data.toList.length = s.size from rfl]; simp; omega)).mono ?_
  rintro e w3 ⟨x3, rfl, ho3, hb3⟩
  obtain ⟨M, hM⟩ : ∃ M, M = macB key (s.data.toList ++ [0, 1]) := ⟨_, rfl⟩
  rw [← hM] at ho3
  have hMl : M.length = 32 := by rw [hM]; exact macB_length _ _
  have hMd : M.take 16 = deriveB key s.data.toList := by rw [hM]; rfl
  obtain ⟨g3, cap3, rest3, rfl, hg3, _, hc3, hm3⟩ := ho3.blk (by omega)
  have ht := bs_take ho3.bs 16 (by omega)
  rw [hMl] at hc3 ⊢
  rw [hMd] at ht
  have HT := Lib.hid ht
  have HB3 : Hid (Below w.heap.size w w3) := Lib.hid (HB2.out.trans (hb3.mono hz2))
  unfold maxLen at hm3
  clear ho3 hb3 ht hM hMl hMd
  go_wp2_with fail
  go_ret
  exact ⟨_, rfl, HT.out, HB3.out⟩

def mixB (X T : List UInt8) (k : Nat) : List UInt8 := X.take k ++ T.drop k
theorem mixB_set (X T : List UInt8) (k : Nat) (x : UInt8) (hl : X.length = T.length) (hx : X[k]? = some x) : (mixB X T k).set k x = mixB X T (k + 1) := by
  have hk := (List.getElem?_eq_some_iff.1 hx).1
  have hx2 := (List.getElem?_eq_some_iff.1 hx).2
  unfold mixB
  rw [List.set_append_right _ _ (by simp; omega), List.take_succ_eq_append_getElem hk, hx2]
  simp only [List.length_take, Nat.min_eq_left (Nat.le_of_lt hk), Nat.sub_self]
  rw [List.drop_eq_getElem_cons (by omega), List.set_cons_zero]
  simp
theorem mixB_get (X T : List UInt8) (k : Nat) (hl : X.length = T.length) (h : k < T.length) : (mixB X T k)[k]? = some (T.getD k 0) := by
  unfold mixB
  rw [List.getElem?_append_right (by simp; omega)]
  simp [List.length_take, Nat.min_eq_left (by omega : k ≤ X.length), h]
theorem mixB_length (X T : List UInt8) (k : Nat) (hl : X.length = T.length) (h : k ≤ T.length) : (mixB X T k).length = T.length := by
  simp [mixB]; omega

set_option maxHeartbeats 4000000 in
set_option maxRecDepth 100000 in
theorem refText_any (vk : Value) (Kc : List Int) (pw salt : ByteArray) (w : World) (hk : Ws w vk Kc) (hK : Kc = kL) (hs : pw.size ≤ 1000) (hs2 : salt.size ≤ 1000) :
    Calls Try.prog 27 #[vk, .string pw, .string salt] w fun e w' => ∃ x, e = .returned x ∧ Bs w' x (textB pw.data.toList salt.data.toList) ∧ Below w.heap.size w w' := by
  have HKW := Lib.hid hk
  have HKC := Lib.hid hK
  have hpl : pw.data.toList.length = pw.size := rfl
  have hsl : salt.data.toList.length = salt.size := rfl
  obtain ⟨p, hp⟩ : ∃ p, p = pw.data.toList := ⟨_, rfl⟩
  obtain ⟨s, hsd⟩ : ∃ s, s = salt.data.toList := ⟨_, rfl⟩
  rw [← hp] at hpl ⊢
  rw [← hsd] at hsl ⊢
  have HP := Lib.hid hp
  have HS := Lib.hid hsd
  have HPL := Lib.hid hpl
  have HSL := Lib.hid hsl
  clear hk hK hp hsd hpl hsl
  go_enter Try.func27, Try.ntmps27
  go_wp2_with ((with_reducible show wpList _ _ _ (⟨some 13, _, _, _, _, _⟩ :: _) _ _); refine wpList_conv rfl (.tmp 12) rfl (s := pw) rfl (by omega) ?_)
  intro cap1 w1 hcv1 hb1 hz1
  rw [← HP.out] at hcv1
  have HB1 := Lib.hid hb1
  have HC1 : Hid (Bs w1 (.slice (some ⟨w.heap.size, 0, none⟩) pw.size cap1) p) := Lib.hid (by
    have := hcv1.sl
    unfold Bs
    rw [HPL.out]
    exact this)
  have hzz1 : w.heap.size ≤ w1.heap.size := by omega
  clear hcv1 hb1 hz1
  go_wp2_with ((with_reducible show wpList _ _ _ (⟨some 15, _, _, _, _, _⟩ :: _) _ _); refine wpList_conv rfl (.tmp 14) rfl (s := salt) rfl (by omega) ?_)
  intro cap2 w2 hcv2 hb2 hz2
  rw [← HS.out] at hcv2
  have hzz2 : w1.heap.size ≤ w2.heap.size := by omega
  have HCV := Lib.hid (hcv2.alloc (.cells #[.int .u8 0, .int .u8 0, .int .u8 0, .int .u8 1] 5))
  have HB2 : Hid (Below w.heap.size w (w2.alloc (.cells #[.int .u8 0, .int .u8 0, .int .u8 0, .int .u8 1] 5))) := Lib.hid ((HB1.out.trans (hb2.mono hzz1)).alloc (by omega) _)
  have HB12 : Hid (Below w1.heap.size w1 (w2.alloc (.cells #[.int .u8 0, .int .u8 0, .int .u8 0, .int .u8 1] 5))) := Lib.hid (hb2.alloc (by omega) _)
  clear hcv2 hb2 hz2
  go_wp2_with ((with_reducible show wpList _ _ _ (⟨some 17, _, _, _, _, _⟩ :: _) _ _); refine wpList_appC rfl (.tmp 15) (.tmp 16) rfl rfl HCV.out (Sl.lit (n := 4) rfl rfl (by simp [Value.oneCell']) (by unfold maxLen; decide)) (by decide) (by omega) (by omega) ?_)
  intro v3 w3 hs3 hb3
  have hbb3 := hb3 w1.heap.size (Nat.le_refl _) (by omega)
  have hbs3 : Bs w3 v3 (s ++ [0, 0, 0, 1]) := by
    unfold Bs
    rw [bCells_append, List.length_append, HSL.out]
    exact hs3
  have HS3 := Lib.hid hbs3
  have HB3 : Hid (Below w.heap.size w w3) := Lib.hid (HB2.out.trans (hbb3.mono hzz1))
  have HC3 := Lib.hid (HC1.out.below (HB12.out.trans hbb3))
  have HK3 := Lib.hid (HKW.out.below HB3.out)
  have hz3 := HB3.out.size
  clear hs3 hb3 hbb3 hbs3
  go_wp2_with fail
  refine (refMacSum_any _ _ _ Kc p (s ++ [0, 0, 0, 1]) w3 HK3.out HKC.out HC3.out HS3.out (by have := HPL.out; omega) (by have := HSL.out; simp; omega)).mono ?_
  rintro e w4 ⟨x4, rfl, ho4, hb4⟩
  obtain ⟨U, hU⟩ : ∃ U, U = macB p (s ++ [0, 0, 0, 1]) := ⟨_, rfl⟩
  rw [← hU] at ho4
  have hUl : U.length = 32 := by rw [hU]; exact macB_length _ _
  have HU := Lib.hid hU
  have HUL := Lib.hid hUl
  have HX4 := Lib.hid ho4.bs
  have hz4 := hb4.size
  have HB4 : Hid (Below w.heap.size w w4) := Lib.hid (HB3.out.trans (hb4.mono hz3))
  have HE4 : Hid (Own (w4.alloc (.cells #[] 5)) w.heap.size 5 1 (.slice (some ⟨w4.heap.size, 0, none⟩) 0 0) 0 []) := Lib.hid (Own.nil _ _ _ _ _)
  have HX4a := Lib.hid (HX4.out.alloc (.cells #[] 5))
  clear ho4 hb4 hU hUl
  go_wp2_with ((with_reducible show wpList _ _ _ (⟨some 21, _, _, _, _, _⟩ :: _) _ _); refine wpList_app rfl (.tmp 19) (.tmp 20) elBytes rfl w.heap.size HE4.out HX4a.out (by have := HUL.out; unfold maxLen; omega) (by have := HUL.out; omega) (by simp; omega) ?_)
  intro v5 w5 ho5 hk5 hvb5
  have hb5 : Below w4.heap.size w4 w5 := ((Below.refl _ _).alloc (Nat.le_refl _) _).trans (hk5.below (by
    rintro j (⟨h, _⟩ | h)
    · simp [Value.ownBlock] at h; omega
    · omega))
  have ho5' : OwnBs w5 w.heap.size v5 U := by
    unfold OwnBs
    simpa using ho5
  obtain ⟨g, ct, rest5, rfl, hgB, hgblk, hct, hmt⟩ := ho5'.blk (by have := HUL.out; omega)
  have hgl5 := hgblk.lt
  have ho5'' : Own w5 w.heap.size 5 1 (.slice (some ⟨g, 0, none⟩) 32 ct) 32 (bCells U) := by
    unfold OwnBs at ho5'
    rwa [HUL.out] at ho5'
  rw [HUL.out] at hct ⊢
  unfold maxLen at hmt
  have HO5 := Lib.hid ho5''
  have HX5 := Lib.hid (HX4.out.below hb5)
  have HB5 : Hid (Below w.heap.size w w5) := Lib.hid (HB4.out.trans (hb5.mono (by omega)))
  have hz5 := HB5.out.size
  clear ho5 hk5 hvb5 hb5 ho5' HE4 HX4a ho5'' hgblk
  go_wp2_with fail
  go_loopw [7, 9] (fun u i wr => ∃ n : Nat, n ≤ 15 ∧ i = .int .i64 ((n : Int) + 1) ∧ Own wr w.heap.size 5 1 (.slice (some ⟨g, 0, none⟩) 32 ct) 32 (bCells (textIt p U n).1) ∧ Bs wr u (textIt p U n).2 ∧ Below w.heap.size w wr ∧ g < wr.heap.size) (fun _ i _ => 16 - (intOf i).toNat)
  case atStart => exact ⟨0, by omega, rfl, HO5.out, HX5.out, HB5.out, hgl5⟩
  case round =>
    obtain ⟨n, hn, rfl, ht', hu, hB, hgl⟩ := hrel
    have hlen := textIt_length p U HUL.out n
    obtain ⟨T, hT⟩ : ∃ T, T = (textIt p U n).1 := ⟨_, rfl⟩
    have hTl : T.length = 32 := by rw [hT]; exact hlen.1
    rw [← hT] at ht'
    obtain ⟨au, cu, rfl, hcu, hmu⟩ := hu.form
    rw [hlen.2] at hcu hu ⊢
    unfold maxLen at hmu
    have HT := Lib.hid hT
    have HTL := Lib.hid hTl
    have HO := Lib.hid ht'
    have HUu := Lib.hid hu
    have HBr := Lib.hid hB
    have HLEN := Lib.hid hlen
    have hzr := hB.size
    clear hu hB hlen hT hTl ht'
    by_cases hlt : n < 15
    · have hltI : (n : Int) + 1 < 16 := by omega
      go_wp2_with ((with_reducible show wpList _ _ _ (⟨some 28, _, _, _, _, _⟩ :: _) _ _); refine wpList_conv rfl (.tmp 27) rfl (s := pw) rfl (by omega) ?_)
      intro cap6 w6 hcv6 hb6 hz6
      rw [← HP.out] at hcv6
      have HC6 : Hid (Bs w6 (.slice (some ⟨wr.heap.size, 0, none⟩) pw.size cap6) p) := Lib.hid (by
        have := hcv6.sl
        unfold Bs
        rw [HPL.out]
        exact this)
      have HB6 : Hid (Below w.heap.size w w6) := Lib.hid (HBr.out.trans (hb6.mono hzr))
      have HK6 := Lib.hid (HKW.out.below HB6.out)
      have HO6 := Lib.hid (HO.out.below hb6)
      have HU6 := Lib.hid (HUu.out.below hb6)
      have hzz6 : wr.heap.size ≤ w6.heap.size := by omega
      clear hcv6 hb6 hz6 HUu HBr HO
      go_wp2_with fail
      refine (refMacSum_any _ _ _ Kc p (textIt p U n).2 w6 HK6.out HKC.out HC6.out HU6.out (by have := HPL.out; omega) (by have := HLEN.out.2; omega)).mono ?_
      rintro e w7 ⟨x7, rfl, ho7, hb7⟩
      obtain ⟨V, hV⟩ : ∃ V, V = macB p (textIt p U n).2 := ⟨_, rfl⟩
      have hnext : textIt p U (n + 1) = (xorB T V, V) := by rw [HT.out, hV]; rfl
      rw [← hV] at ho7
      have hVl : V.length = 32 := by rw [hV]; exact macB_length _ _
      obtain ⟨X, hX⟩ : ∃ X, X = xorB T V := ⟨_, rfl⟩
      rw [← hX] at hnext
      have hXl : X.length = 32 := by rw [hX]; simp [xorB, HTL.out, hVl]
      have hXg : ∀ k (h : k < 32), X[k]? = some (T.getD k 0 ^^^ V.getD k 0) := by
        intro k h
        rw [hX]
        have h1 : k < T.length := by rw [HTL.out]; exact h
        have h2 : k < V.length := by omega
        simp [xorB, List.getElem?_zipWith, h1, h2]
      obtain ⟨g7, cap7, rest7, rfl, hg7, _, hc7, hm7⟩ := ho7.blk (by omega)
      have hv7 : Sl w7 1 (.slice (some ⟨g7, 0, none⟩) 32 cap7) 32 (bCells V) := by
        have := ho7.bs
        unfold Bs at this
        rwa [hVl] at this
      rw [hVl] at hc7 ⊢
      have hz7 := hb7.size
      have HX7 := Lib.hid hv7
      have HO7 := Lib.hid (HO6.out.below hb7)
      have HB7 : Hid (Below w.heap.size w w7) := Lib.hid (HB6.out.trans (hb7.mono (by omega)))
      have HNX := Lib.hid hnext
      have HXL := Lib.hid hXl
      have HXG := Lib.hid hXg
      have HVL := Lib.hid hVl
      have hgg : g7 ≠ g := by omega
      have hmix0 : bCells (mixB X T 0) = bCells T := by simp [mixB]
      have HM0 := Lib.hid hmix0
      unfold maxLen at hm7
      clear ho7 hb7 hv7 hV hX hVl hXl hXg hnext hmix0 HO6 HU6 HC6 HK6
      go_wp2_with fail
      go_loopw [10] (fun i ws => ∃ k : Nat, k ≤ 32 ∧ i = .int .i64 k ∧ Own ws w.heap.size 5 1 (.slice (some ⟨g, 0, none⟩) 32 ct) 32 (bCells (mixB X T k)) ∧ Keeps (fun j => j = g) w7 ws) (fun i _ => 32 - (intOf i).toNat)
      case atStart => exact ⟨0, by omega, rfl, by rw [HM0.out]; exact HO7.out, Keeps.refl _ _⟩
      case round =>
        obtain ⟨k, hk, rfl, hown, hkp⟩ := hrel
        by_cases hltk : k < 32
        · obtain ⟨bt, ot, het, hct'⟩ := hown.sl.addr (by rw [bCells_length, mixB_length _ _ _ (by rw [HXL.out, HTL.out]) (by rw [HTL.out]; omega), HTL.out]; decide)
          simp only [Option.some.injEq, Addr.mk.injEq, and_true] at het
          obtain ⟨rfl, rfl⟩ := het
          obtain ⟨bv, ov, hev, hcv⟩ := (HX7.out.keep hkp (by intro b hb e; simp only [Value.ownBlock, Option.some.injEq] at hb; omega)).addr (by rw [bCells_length, HVL.out]; decide)
          simp only [Option.some.injEq, Addr.mk.injEq, and_true] at hev
          obtain ⟨rfl, rfl⟩ := hev
          have xt : wr.drew.cell? ⟨g, k, none⟩ = some (.int .u8 (T.getD k 0).toNat) := by
            have := hct' k _ (bCells_getq _ _ _ (mixB_get X T k (by rw [HXL.out, HTL.out]) (by rw [HTL.out]; exact hltk)))
            rwa [Nat.zero_add] at this
          have xv : wr.drew.cell? ⟨g7, k, none⟩ = some (.int .u8 (V.getD k 0).toNat) := by
            have := hcv k _ (bCells_getD V k (by rw [HVL.out]; exact hltk))
            rwa [Nat.zero_add] at this
          have hst := hown.set (by decide) k (bV (T.getD k 0 ^^^ V.getD k 0)) rfl
          rw [bCells_set, mixB_set _ _ _ _ (by rw [HXL.out, HTL.out]) (HXG.out k hltk), ← xor_bV2] at hst
          have fq : wr.drew.frozen? ⟨g, k, none⟩ = false := hown.frozen (by decide) k
          have hki : (k : Int) < 32 := by omega
          generalize T.getD k 0 = xt0 at xt hst
          generalize V.getD k 0 = xv0 at xv hst
          have HST := Lib.hid hst
          have HKk := Lib.hid hkp
          clear hown hkp hst hct' hcv
          go_wp2_with fail
          go_region
          go_wp2_with fail
          go_roundw
          case rel => exact ⟨k + 1, by omega, by go_num, HST.out.drew, (HKk.out.setCell (p := ⟨g, k, none⟩) rfl _).drew⟩
          case measure => simp [intOf]; omega
        · obtain rfl : k = 32 := by omega
          have hown2 : Own wr w.heap.size 5 1 (.slice (some ⟨g, 0, none⟩) 32 ct) 32 (bCells X) := by
            rw [show mixB X T 32 = X by rw [mixB, List.take_of_length_le (by have := HXL.out; omega), List.drop_of_length_le (by have := HTL.out; omega), List.append_nil]] at hown
            exact hown
          have hsz := hkp.size
          have hV8 : Bs wr (.slice (some ⟨g7, 0, none⟩) 32 cap7) V := by
            unfold Bs
            rw [HVL.out]
            exact HX7.out.keep hkp (by intro b hb e; simp only [Value.ownBlock, Option.some.injEq] at hb; omega)
          have HO8 := Lib.hid hown2
          have HV8 := Lib.hid hV8
          have HB8 : Hid (Below w.heap.size w wr) := Lib.hid (HB7.out.trans (hkp.below (by rintro j rfl; exact hgB)))
          clear hown hkp hown2 hV8
          go_wp2_with fail
          go_roundw
          case rel => exact ⟨n + 1, by omega, by go_num, by rw [HNX.out]; exact HO8.out, by rw [HNX.out]; exact HV8.out, HB8.out, by omega⟩
          case measure => simp [intOf]; omega
    · obtain rfl : n = 15 := by omega
      have ht16 : Bs wr (.slice (some ⟨g, 0, none⟩) 16 ct) (T.take 16) := by
        have hbs : Bs wr (.slice (some ⟨g, 0, none⟩) 32 ct) T := by
          unfold Bs
          rw [HTL.out]
          exact HO.out.sl
        exact bs_take hbs 16 (by have := HTL.out; omega)
      rw [show T.take 16 = textB p s by rw [HT.out, HU.out]; rfl] at ht16
      have HT16 := Lib.hid ht16
      clear ht16
      go_wp2_with fail
      go_ret
      exact ⟨_, rfl, HT16.out, HBr.out⟩
end Go.Proofs.Ytdmjliehobgknaa
