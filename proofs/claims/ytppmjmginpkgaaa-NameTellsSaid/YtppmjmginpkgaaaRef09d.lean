/- Contracts of the document's names (compeerref09): Fold. -/
import Derived.Test.YtppmjmginpkgaaaRef09c
import Derived.Test.YtppmjmginpkgaaaLaw09b
namespace Go.Proofs.Ytppmjmginpkgaaa
open Go.RowKit Go.Lib

theorem extract_list (s : ByteArray) (p q : Nat) : (s.extract p q).data.toList = (s.data.toList.drop p).take (q - p) := by
  rw [ByteArray.data_extract, Array.toList_extract, List.extract_eq_take_drop]

theorem enc_extract (s : ByteArray) (p : Nat) (hp : p < s.size) (h : (refR (Utf8.decode s p)).1 ≠ -1) : Utf8.encode ((Utf8.decode s p).1 : Int) = s.extract p (p + (Utf8.decode s p).2) := by
  have hne : s.data.toList.drop p ≠ [] := by
    intro e
    have := congrArg List.length e
    rw [List.length_drop, size_toList] at this
    simp at this
    omega
  have hok : okR ((Utf8.decode s p).1 : Int) := by
    refine ru_ok (s.data.toList.drop p) _ ?_
    rw [← rs_ru s s.size p (by omega), rs_step s p hp]
    simp
  refine toList_inj ?_
  rw [encode_bytes _ hok, extract_list, Nat.add_sub_cancel_left, ← decodeL_drop, encode_decode _ hne]
  intro e
  rw [decodeL_drop] at e
  unfold refR at h
  rw [if_pos e] at h
  exact h rfl

theorem runesBytes_snoc (l : List Int) (r : Int) : runesBytes (l ++ [r]) = runesBytes l ++ Utf8.encode r := by
  unfold runesBytes
  rw [List.foldl_append]
  rfl

set_option maxHeartbeats 2000000 in
set_option maxRecDepth 100000 in
theorem refFold_any (s : ByteArray) (w : World) (hs : s.size ≤ 1099511627776) :
    Calls Try.prog 43 #[.string s] w fun e w' => e = .returned (.string (foldB s)) ∧ w = w' := by
  have hs' : s.size ≤ maxLen := by unfold maxLen; omega
  go_enter Try.func43, Try.ntmps43
  go_wp2_with fail
  go_loopw [3, 4] (fun o i wr => ∃ (pos : Nat) (l : List Int), o = .string (runesBytes l) ∧ i = .int .i64 pos ∧ pos ≤ s.size ∧ l.length ≤ pos ∧ wr = w ∧ l ++ (rs s pos).map (fun x => smallR x.2) = foldR s) (fun _ i _ => s.size - (intOf i).toNat)
  case atStart => exact ⟨0, [], rfl, rfl, Nat.zero_le _, Nat.le_refl _, rfl, rfl⟩
  case round =>
    obtain ⟨pos, l, rfl, rfl, hps, hlp, rfl, hR⟩ := hrel
    have HR := Lib.hid hR
    clear hR
    by_cases hp : pos < s.size
    · have hp1 : (pos : Int) < (s.size : Int) := by omega
      obtain ⟨r, wd, hwd, h1, h2, hr, hr0, hr1, hrd, hc⟩ := refRune_at s pos wr hs' hp
      have hstep := rs_step s pos hp
      have henc := enc_extract s pos hp
      rw [hrd] at henc
      rw [← hwd] at hstep henc
      obtain ⟨c, hcc⟩ : ∃ c : Int, c = ((Utf8.decode s pos).1 : Int) := ⟨_, rfl⟩
      have hr' : (r = -1 ∧ c = 65533) ∨ r = c := by omega
      have hc0 : 0 ≤ c := by omega
      rw [← hcc] at hstep henc
      have hF : (l ++ [smallR c]) ++ (rs s (pos + wd)).map (fun x => smallR x.2) = foldR s := by rw [← HR.out, hstep]; simp
      have HF := Lib.hid hF
      have hsl : ∀ W, (Instr.slice 9 (.string s) (some (.int .i64 pos)) none none).run Try.prog W = .ok (.string (s.extract pos s.size)) W := fun W => run_slice_string_l W _ s Try.underlying9 .i64 pos (by omega) (by omega)
      have hsl2 : ∀ W, (Instr.slice 9 (.string s) (some (.int .i64 pos)) (some (.int .i64 ((pos : Int) + (wd : Int)))) none).run Try.prog W = .ok (.string (s.extract pos (pos + wd))) W := fun W => run_slice_string W _ s .i64 .i64 pos ((pos : Int) + (wd : Int)) Try.underlying9 (by omega) (by omega) (by omega)
      have hsz := runesBytes_size_le l
      have hbg : letB (r + 32) = bigB c := by
        rcases hr' with ⟨rfl, rfl⟩ | rfl
        · decide +kernel
        · exact (big_eq r).symm
      have HE := Lib.hid henc
      have HR' := Lib.hid hr'
      clear hwd hr hstep hcc henc hF hr' hrd
      go_wp2_with fail
      refine hc.mono ?_
      rintro e w' ⟨rfl, rfl⟩
      clear hc
      go_wp2_with fail
      obtain ⟨L, hL⟩ : ∃ L, L = bigB c := ⟨_, rfl⟩
      have hl := refLetter_any r 32 wr (by omega) (by omega) (by omega) (by omega)
      rw [hbg, ← hL] at hl
      have HL := Lib.hid hL
      refine hl.mono ?_
      rintro e w' ⟨rfl, rfl⟩
      clear hl hL hsl hbg
      cases L with
      | true =>
        have hle := big_le c HL.out.symm
        obtain rfl : r = c := by
          rcases HR'.out with ⟨_, h⟩ | h
          · omega
          · exact h
        have hge : (0 : Int) ≤ r := by have := (bigB_iff r).1 HL.out.symm; omega
        have hwr : IntKind.i32.wrap (r + 32) = r + 32 := by rw [IntKind.wrap_i32]; omega
        have HG : Hid (runesBytes l ++ Utf8.encode (r + 32) = runesBytes (l ++ [smallR r])) := Lib.hid (by rw [runesBytes_snoc]; unfold smallR; rw [if_pos HL.out.symm])
        have hes := encode_size_le (r + 32)
        go_wp2_with fail
        go_roundw
        case rel => exact ⟨pos + wd, l ++ [smallR r], by rw [HG.out], by go_num, h2, by simp; omega, by first | rfl | trivial, HF.out⟩
        case measure => simp [intOf]; omega
      | false =>
        have hsm : smallR c = c := by unfold smallR; rw [if_neg (by rw [← HL.out]; decide)]
        by_cases hn : r < 0
        · have hc5 : c = 65533 := by
            rcases HR'.out with h | h
            · exact h.2
            · omega
          have HG : Hid (runesBytes l ++ { data := #[239, 191, 189] } = runesBytes (l ++ [smallR c])) := Lib.hid (by
            rw [runesBytes_snoc, hsm, hc5]
            congr 1)
          clear hsm hc5 hsl2
          go_wp2_with fail
          go_roundw
          case rel => exact ⟨pos + wd, l ++ [smallR c], by rw [← HG.out], by go_num, h2, by simp; omega, by first | rfl | trivial, HF.out⟩
          case measure => simp [intOf]; omega
        · obtain rfl : r = c := by
            rcases HR'.out with h | h
            · omega
            · exact h
          have HG : Hid (runesBytes l ++ s.extract pos (pos + wd) = runesBytes (l ++ [smallR r])) := Lib.hid (by
            rw [runesBytes_snoc, hsm, HE.out (by omega)])
          have hes : (s.extract pos (pos + wd)).size ≤ 1099511627776 := by rw [ByteArray.size_extract]; omega
          clear hsm
          go_wp2_with fail
          go_roundw
          case rel => exact ⟨pos + wd, l ++ [smallR r], by rw [← HG.out], by go_num, h2, by simp; omega, by first | rfl | trivial, HF.out⟩
          case measure => simp [intOf]; omega
    · have hp1 : ¬ (pos : Int) < (s.size : Int) := by omega
      have HF : Hid (runesBytes l = foldB s) := Lib.hid (by
        unfold foldB
        rw [← HR.out, rs_end s pos hp]
        simp)
      go_wp2_with fail
      go_ret
      rw [← HF.out]
      exact ⟨rfl, rfl⟩
end Go.Proofs.Ytppmjmginpkgaaa
