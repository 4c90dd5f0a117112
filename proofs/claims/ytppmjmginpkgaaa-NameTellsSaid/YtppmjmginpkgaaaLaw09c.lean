/- The statements of name: NameTells. -/
import Derived.Test.YtppmjmginpkgaaaLaw09b
import Derived.Test.YtppmjmginpkgaaaRef09e
namespace Go.Proofs.Ytppmjmginpkgaaa
open Go.RowKit Go.Lib

set_option maxHeartbeats 4000000 in
set_option maxRecDepth 100000 in
theorem nameTells_walk (s : ByteArray) (most : Int) (w : World) (hs : s.size ≤ maxLen) :
    Calls Try.prog 10 #[.string s, .int .i64 most] w fun e w' => e = .returned (.bool true) ∧ Below w.heap.size w w' := by
  have hmS := hs
  unfold maxLen at hs
  by_cases hl : 120 < s.size
  · have hl' : (120 : Int) < (s.size : Int) := by omega
    go_enter Try.func10, Try.ntmps10
    go_wp2_with fail
    refine (alive09_any w).mono ?_
    rintro e w1 ⟨rfl, hb1⟩
    go_wp2_with fail
    go_ret
    exact ⟨rfl, hb1⟩
  have hl' : ¬ (120 : Int) < (s.size : Int) := by omega
  have hfs := foldB_size s
  obtain ⟨F, hF⟩ : ∃ F, F = foldB s := ⟨_, rfl⟩
  obtain ⟨ok, hok⟩ : ∃ ok, ok = rightB F := ⟨_, rfl⟩
  obtain ⟨rt, hrt⟩ : ∃ rt, rt = rightB s := ⟨_, rfl⟩
  obtain ⟨tx, htx⟩ : ∃ tx, tx = textB s most := ⟨_, rfl⟩
  obtain ⟨ws, hws⟩ : ∃ ws, ws = wordsB s := ⟨_, rfl⟩
  have hsF : F.size ≤ 480 := by rw [hF]; omega
  have HF := Lib.hid hF
  have HK := Lib.hid hok
  have HRT := Lib.hid hrt
  have HTX := Lib.hid htx
  have HWS := Lib.hid hws
  have hmF : F.size ≤ maxLen := by unfold maxLen; omega
  clear hfs hF hok hrt htx hws
  go_enter Try.func10, Try.ntmps10
  go_wp2_with fail
  refine (alive09_any w).mono ?_
  rintro e w1 ⟨rfl, hb1⟩
  have HB1 := Lib.hid hb1
  clear hb1
  go_wp2_with fail
  have c2 := fold_any s w1 (by omega)
  rw [← HF.out, ← HK.out] at c2
  refine c2.mono ?_
  rintro e w2 ⟨rfl, hb2⟩
  have HB2 := Lib.hid (HB1.out.trans (hb2.mono HB1.out.size))
  clear hb2 c2 HB1
  go_wp2_with fail
  have c3 := words_any s w2 (by omega)
  rw [← HWS.out] at c3
  refine c3.mono ?_
  rintro e w3 ⟨v3, rfl, ho3, hb3⟩
  obtain ⟨a3, cp3, rfl, hcp3, hcm3⟩ := ho3.sl.form
  have HO3 := Lib.hid ho3.sl
  have HB3 := Lib.hid (HB2.out.trans (hb3.mono HB2.out.size))
  clear ho3 hb3 c3 HB2
  go_wp2_with fail
  have c4 := refWords_any s w3 (by omega)
  rw [← HWS.out] at c4
  refine c4.mono ?_
  rintro e w4 ⟨v4, rfl, ho4, hb4⟩
  obtain ⟨a4, cp4, rfl, hcp4, hcm4⟩ := ho4.sl.form
  have HO4 := Lib.hid ho4.sl
  have HP4 := Lib.hid (HO3.out.below hb4)
  have HB4 := Lib.hid (HB3.out.trans (hb4.mono HB3.out.size))
  clear ho4 hb4 c4 HB3 HO3
  go_wp2_with fail
  have c5 := right_any s w4 hmS
  rw [← HRT.out] at c5
  refine c5.mono ?_
  rintro e w5 ⟨rfl, hb5⟩
  have HO5 := Lib.hid (HO4.out.below hb5)
  have HP5 := Lib.hid (HP4.out.below hb5)
  have HB5 := Lib.hid (HB4.out.trans (hb5.mono HB4.out.size))
  clear hb5 c5 HO4 HP4 HB4
  go_wp2_with fail
  have c6 := refRight_any s w5 hmS
  rw [← HRT.out] at c6
  refine c6.mono ?_
  rintro e w' ⟨rfl, rfl⟩
  clear c6
  go_wp2_with fail
  have c7 := text_any s most w5 hmS
  rw [← HTX.out] at c7
  refine c7.mono ?_
  rintro e w7 ⟨rfl, hb7⟩
  have HO7 := Lib.hid (HO5.out.below hb7)
  have HP7 := Lib.hid (HP5.out.below hb7)
  have HB7 := Lib.hid (HB5.out.trans (hb7.mono HB5.out.size))
  clear hb7 c7 HO5 HP5 HB5
  go_wp2_with fail
  have c8 := refText_any s most w7 hmS
  rw [← HTX.out] at c8
  refine c8.mono ?_
  rintro e w' ⟨rfl, rfl⟩
  clear c8
  go_wp2_with fail
  have c9 := refFold_any s w7 (by omega)
  rw [← HF.out] at c9
  refine c9.mono ?_
  rintro e w' ⟨rfl, rfl⟩
  clear c9
  go_wp2_with fail
  have c10 := refRight_any F w7 hmF
  rw [← HK.out] at c10
  refine c10.mono ?_
  rintro e w' ⟨rfl, rfl⟩
  clear c10
  unfold maxLen at hcm3 hcm4
  go_wp2_with fail
  go_loopw [60] (fun i wr => ∃ k : Nat, k ≤ ws.length ∧ i = .int .i64 k ∧ wr = w7) (fun i _ => ws.length - (intOf i).toNat)
  case atStart => exact ⟨0, Nat.zero_le _, rfl, rfl⟩
  case round =>
    obtain ⟨k, hk, rfl, rfl⟩ := hrel
    by_cases hlt : k < ws.length
    · have hlt1 : (k : Int) < (ws.length : Int) := by omega
      obtain ⟨b1, o1, rfl, hc1⟩ := HO7.out.addr (by unfold strCells; rw [List.length_map]; omega)
      obtain ⟨b2, o2, rfl, hc2⟩ := HP7.out.addr (by unfold strCells; rw [List.length_map]; omega)
      have g1 := hc1 k (.string ws[k]) (by simp [strCells, hlt])
      have g2 := hc2 k (.string ws[k]) (by simp [strCells, hlt])
      clear hc1 hc2
      generalize ws[k] = y at g1 g2
      go_wp2_with fail
      go_roundw
      case rel => exact ⟨k + 1, by omega, by go_num, by first | rfl | trivial⟩
      case measure => simp [intOf]; omega
    · have hlt1 : ¬ (k : Int) < (ws.length : Int) := by omega
      go_wp2_with fail
      go_ret
      exact ⟨rfl, HB7.out⟩
end Go.Proofs.Ytppmjmginpkgaaa
