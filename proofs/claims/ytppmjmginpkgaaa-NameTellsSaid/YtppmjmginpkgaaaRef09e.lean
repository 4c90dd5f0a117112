/- Contracts of the document's names (compeerref09): Words. -/
import Derived.Test.YtppmjmginpkgaaaWords
namespace Go.Proofs.Ytppmjmginpkgaaa
open Go.RowKit Go.Lib

theorem getLast_set (pre : List ByteArray) (cur x : ByteArray) : (strCells (pre ++ [cur])).set pre.length (.string x) = strCells (pre ++ [x]) := by
  unfold strCells
  rw [List.map_append, List.map_append, List.set_append_right _ _ (by simp)]
  simp

set_option maxHeartbeats 2000000 in
set_option maxRecDepth 100000 in
theorem refWords_any (s : ByteArray) (w : World) (hs : s.size ≤ 1099511627776) :
    Calls Try.prog 38 #[.string s] w fun e w' => ∃ v, e = .returned v ∧ Own w' w.heap.size 9 1 v (wordsB s).length (strCells (wordsB s)) ∧ Below w.heap.size w w' := by
  go_enter Try.func38, Try.ntmps38
  go_wp2_with fail
  go_loopw [3, 4] (fun v i wr => ∃ (k : Nat) (pre : List ByteArray) (cur : ByteArray), i = .int .i64 k ∧ k ≤ s.size ∧ pre.length ≤ k ∧ cur.size ≤ k ∧ Own wr w.heap.size 9 1 v (pre.length + 1) (strCells (pre ++ [cur])) ∧ Below w.heap.size w wr ∧ pre ++ wordsY (s.data.toList.drop k) cur = wordsB s) (fun _ i _ => s.size - (intOf i).toNat)
  case atStart => exact ⟨0, [], .empty, rfl, Nat.zero_le _, Nat.le_refl _, Nat.le_refl _, Own.at_ (cs := #[.string .empty]) rfl (Nat.le_refl _) rfl (by simp [Value.oneCell']) (by decide), (Below.refl _ _).alloc (Nat.le_refl _) _, by rw [words_Y]; rfl⟩
  case round =>
    obtain ⟨k, pre, cur, rfl, hks, hpk, hck, hown, hB, hR⟩ := hrel
    have HR := Lib.hid hR
    have HO := Lib.hid hown
    have HB := Lib.hid hB
    obtain ⟨g, cap, cu, rfl, hg, hcu, hcap, hcm, _, _⟩ := hown.form' (by omega)
    have hgl : g < wr.heap.size := block_lt hcu
    clear hcu
    clear hR hown hB
    unfold maxLen at hcm
    by_cases hlt : k < s.size
    · have hlt1 : (k : Int) < (s.size : Int) := by omega
      obtain ⟨x, hx⟩ : ∃ x, x = s[k]'hlt := ⟨_, rfl⟩
      have hdr : s.data.toList.drop k = x :: s.data.toList.drop (k + 1) := by
        rw [hx]
        exact List.drop_eq_getElem_cons (by rw [size_toList]; exact hlt)
      have hcut : s.extract k (k + 1) = ⟨#[x]⟩ := toList_inj (by rw [extract_list, hdr, Nat.add_sub_cancel_left]; rfl)
      by_cases hx32 : x = 32
      · have h32 : (((s[k]'hlt).toNat : Int) == 32) = true := by rw [← hx, hx32]; rfl
        have HF : Hid ((pre ++ [cur]) ++ wordsY (s.data.toList.drop (k + 1)) .empty = wordsB s) := Lib.hid (by rw [← HR.out, hdr, wordsY, if_pos hx32]; simp)
        have HX : Hid (Sl (wr.alloc (.cells #[.string .empty] 9)) 1 (.slice (some ⟨wr.heap.size, 0, none⟩) 1 1) 1 [.string .empty]) := Lib.hid (Sl.lit (cs := #[.string .empty]) rfl rfl (by simp [Value.oneCell']) (by decide))
        clear hdr hcut hx hx32
        have hsz := HB.out.size
        go_wp2_with ((with_reducible show wpList _ _ _ (⟨some 18, _, _, _, _, _⟩ :: _) _ _); refine wpList_app rfl (.tmp 16) (.tmp 17) elStrs rfl w.heap.size (HO.out.alloc _) HX.out (by unfold maxLen; omega) (by omega) (by simp; omega) ?_)
        intro v' w' h1 h2 h3
        have HB' : Hid (Below w.heap.size w w') := Lib.hid ((HB.out.alloc HB.out.size _).trans (h2.below (by
          rintro j (h | h)
          · omega
          · have := HB.out.size; omega)))
        have HO' : Hid (Own w' w.heap.size 9 1 v' ((pre ++ [cur]).length + 1) (strCells ((pre ++ [cur]) ++ [.empty]))) := Lib.hid (by
          rw [List.length_append, strCells, List.map_append]
          exact h1)
        clear h1 h2 h3
        go_wp2_with fail
        go_roundw
        case rel => exact ⟨k + 1, pre ++ [cur], .empty, by go_num, by omega, by simp; omega, Nat.zero_le _, HO'.out, HB'.out, HF.out⟩
        case measure => simp [intOf]; omega
      · have h32 : (((s[k]'hlt).toNat : Int) == 32) = false := by
          rw [← hx, beq_eq_false_iff_ne]
          intro h
          exact hx32 (UInt8.toNat_inj.1 (by simpa using (by omega : x.toNat = 32)))
        have HF : Hid (pre ++ wordsY (s.data.toList.drop (k + 1)) (cur ++ s.extract k (k + 1)) = wordsB s) := Lib.hid (by rw [← HR.out, hdr, wordsY, if_neg hx32, hcut])
        have hsl2 : ∀ W, (Instr.slice 9 (.string s) (some (.int .i64 (k : Int))) (some (.int .i64 ((k : Int) + 1))) none).run Try.prog W = .ok (.string (s.extract k (k + 1))) W := fun W => run_slice_string W _ s .i64 .i64 k ((k : Int) + 1) Try.underlying9 (by omega) (by omega) (by omega)
        have c0 : wr.drew.cell? ⟨g, pre.length, none⟩ = some (.string cur) := by
          obtain ⟨b, o, e, hc⟩ := HO.out.sl.addr (by simp [strCells])
          injection e with e
          injection e with e1 e2 e3
          subst e1 e2
          have := hc pre.length (.string cur) (by simp [strCells])
          rw [Nat.zero_add] at this
          exact this
        have f0 : wr.drew.frozen? ⟨g, pre.length, none⟩ = false := HO.out.frozen (by omega) _
        have hsx : (s.extract k (k + 1)).size ≤ 1 := by rw [ByteArray.size_extract]; omega
        clear hdr hcut hx hx32
        go_wp2_with fail
        go_region
        have HO' : Hid (Own (wr.setCell ⟨g, pre.length, none⟩ (.string (cur ++ s.extract k (k + 1)))).drew w.heap.size 9 1 (.slice (some ⟨g, 0, none⟩) (pre.length + 1) cap) (pre.length + 1) (strCells (pre ++ [cur ++ s.extract k (k + 1)]))) := Lib.hid (by
          have h := (HO.out.set (by omega) pre.length (.string (cur ++ s.extract k (k + 1))) rfl).drew
          rw [getLast_set] at h
          exact h)
        have HB' : Hid (Below w.heap.size w (wr.setCell ⟨g, pre.length, none⟩ (.string (cur ++ s.extract k (k + 1)))).drew) := Lib.hid
          (HB.out.trans ((Keeps.setCell (S := fun k => k = g) (p := ⟨g, pre.length, none⟩) (Keeps.refl _ _) rfl _).below (by omega))).drew
        generalize (wr.setCell ⟨g, pre.length, none⟩ (.string (cur ++ s.extract k (k + 1)))).drew = W2 at *
        clear c0 f0 hsl2
        go_wp2_with fail
        go_roundw
        case rel => exact ⟨k + 1, pre, cur ++ s.extract k (k + 1), by go_num, by omega, by omega, by rw [ByteArray.size_append]; omega, HO'.out, HB'.out, HF.out⟩
        case measure => simp [intOf]; omega
    · obtain rfl : k = s.size := by omega
      have HF : Hid (pre ++ [cur] = wordsB s) := Lib.hid (by rw [← HR.out, List.drop_of_length_le (by rw [size_toList]; exact Nat.le_refl _)]; rfl)
      go_wp2_with fail
      go_ret
      refine ⟨_, rfl, ?_, HB.out⟩
      have h := HO.out
      rw [show pre.length + 1 = (wordsB s).length from by rw [← HF.out]; simp, HF.out] at h
      rw [show pre.length + 1 = (wordsB s).length from by rw [← HF.out]; simp]
      exact h
end Go.Proofs.Ytppmjmginpkgaaa
