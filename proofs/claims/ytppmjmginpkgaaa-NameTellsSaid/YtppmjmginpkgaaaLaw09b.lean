/- The statements of name: NameFolds. -/
import Derived.Test.YtppmjmginpkgaaaLaw09
import Derived.Test.YtppmjmginpkgaaaNamePlain
namespace Go.Proofs.Ytppmjmginpkgaaa
open Go.RowKit

theorem rs_len (s : ByteArray) : ∀ (f p : Nat), s.size ≤ p + f → (rs s p).length ≤ f
  | 0, p, h => by rw [rs_end s p (by omega)]; simp
  | f + 1, p, h => by
    by_cases hp : p < s.size
    · have hw := Lib.decode_width_pos s p hp
      have := rs_len s f (p + (Utf8.decode s p).2) (by omega)
      rw [rs_step s p hp, List.length_cons]
      omega
    · rw [rs_end s p hp]; simp
theorem foldB_size (s : ByteArray) : (foldB s).size ≤ 4 * s.size := by
  have h1 := runesBytes_size_le (foldR s)
  have h2 := rs_len s s.size 0 (by omega)
  have h3 : (foldR s).length = (rs s 0).length := by unfold foldR; rw [List.length_map]
  unfold foldB
  omega

set_option maxHeartbeats 2000000 in
set_option maxRecDepth 100000 in
theorem nameFolds_walk (s : ByteArray) (w : World) (hs : s.size ≤ maxLen) :
    Calls Try.prog 12 #[.string s] w fun e w' => e = .returned (.bool true) ∧ Below w.heap.size w w' := by
  unfold maxLen at hs
  by_cases hl : 120 < s.size
  · have hl' : (120 : Int) < (s.size : Int) := by omega
    go_enter Try.func12, Try.ntmps12
    go_wp2_with fail
    refine (alive09_any w).mono ?_
    rintro e w1 ⟨rfl, hb1⟩
    go_wp2_with fail
    go_ret
    exact ⟨rfl, hb1⟩
  have hl' : ¬ (120 : Int) < (s.size : Int) := by omega
  have hfs := foldB_size s
  have htw := foldB_twice s
  obtain ⟨F, hF⟩ : ∃ F, F = foldB s := ⟨_, rfl⟩
  obtain ⟨ok, hok⟩ : ∃ ok, ok = rightB F := ⟨_, rfl⟩
  have hsF : F.size ≤ 480 := by rw [hF]; omega
  have HF := Lib.hid hF
  have HK := Lib.hid hok
  have HT : Hid (foldB F = F) := Lib.hid (by rw [hF, htw])
  have hright : rightB s = true → ok = true ∧ F = s := fun h => by
    have := right_fold s h
    rw [hok, hF, this]
    exact ⟨h, rfl⟩
  have HR := Lib.hid hright
  have hmF : F.size ≤ maxLen := by unfold maxLen; omega
  have hmS : s.size ≤ maxLen := by unfold maxLen; omega
  clear hfs htw hF hok hright
  go_enter Try.func12, Try.ntmps12
  go_wp2_with fail
  refine (alive09_any w).mono ?_
  rintro e w1 ⟨rfl, hb1⟩
  have HB1 := Lib.hid hb1
  clear hb1
  go_wp2_with fail
  have c2 := fold_any s w1 (by omega)
  rw [← HF.out, ← HK.out] at c2
  refine c2.mono ?_
  rintro e w2 ⟨rfl, hb2⟩
  have HB2 := Lib.hid (HB1.out.trans (hb2.mono HB1.out.size))
  clear hb2 c2 HB1
  go_wp2_with fail
  have c3 := fold_any F w2 (by omega)
  rw [HT.out, ← HK.out] at c3
  refine c3.mono ?_
  rintro e w3 ⟨rfl, hb3⟩
  have HB3 := Lib.hid (HB2.out.trans (hb3.mono HB2.out.size))
  clear hb3 c3 HB2
  go_wp2_with fail
  have c4 := right_any F w3 hmF
  rw [← HK.out] at c4
  refine c4.mono ?_
  rintro e w4 ⟨rfl, hb4⟩
  have HB4 := Lib.hid (HB3.out.trans (hb4.mono HB3.out.size))
  clear hb4 c4 HB3
  go_wp2_with fail
  obtain ⟨rs0, hrs⟩ : ∃ r, r = rightB s := ⟨_, rfl⟩
  have c5 := right_any s w4 hmS
  rw [← hrs] at c5
  have HRS := Lib.hid hrs
  refine c5.mono ?_
  rintro e w5 ⟨rfl, hb5⟩
  have HB5 := Lib.hid (HB4.out.trans (hb5.mono HB4.out.size))
  clear hb5 c5 HB4 hrs
  cases rs0 with
  | true =>
    obtain ⟨h1, h2⟩ := HR.out HRS.out.symm
    subst h1 h2
    have c6 := text_any F 16 w5 hmF
    rw [right_text F HK.out.symm] at c6
    go_wp2_with fail
    refine c6.mono ?_
    rintro e w6 ⟨rfl, hb6⟩
    have HB6 := Lib.hid (HB5.out.trans (hb6.mono HB5.out.size))
    clear hb6 c6 HB5
    go_wp2_with fail
    refine (words_any F w6 (by omega)).mono ?_
    rw [right_words F HK.out.symm]
    rintro e w7 ⟨v7, rfl, ho7, hb7⟩
    obtain ⟨a7, c7, rfl, _⟩ := ho7.sl.form
    have HB7 := Lib.hid (HB6.out.trans (hb7.mono HB6.out.size))
    clear hb7 ho7 HB6
    go_wp2_with fail
    go_ret
    exact ⟨rfl, HB7.out⟩
  | false =>
    cases ok with
    | true =>
      have c6 := text_any F 16 w5 hmF
      rw [right_text F HK.out.symm] at c6
      go_wp2_with fail
      refine c6.mono ?_
      rintro e w6 ⟨rfl, hb6⟩
      have HB6 := Lib.hid (HB5.out.trans (hb6.mono HB5.out.size))
      clear hb6 c6 HB5
      go_wp2_with fail
      refine (words_any F w6 (by omega)).mono ?_
      rw [right_words F HK.out.symm]
      rintro e w7 ⟨v7, rfl, ho7, hb7⟩
      obtain ⟨a7, c7, rfl, _⟩ := ho7.sl.form
      have HB7 := Lib.hid (HB6.out.trans (hb7.mono HB6.out.size))
      clear hb7 ho7 HB6
      go_wp2_with fail
      go_ret
      exact ⟨rfl, HB7.out⟩
    | false =>
      go_wp2_with fail
      go_ret
      exact ⟨rfl, HB5.out⟩
end Go.Proofs.Ytppmjmginpkgaaa
