/- Contracts of package name, text by text: Words, Fold. -/
import Derived.Test.YtppmjmginpkgaaaName2
import Derived.Laws.Cover4
import Derived.Deep.RegionWith
namespace Go.Proofs.Ytppmjmginpkgaaa
open Go.RowKit

theorem elStrs : Elem Try.prog 57 9 1 16 (.string .empty) := by
  refine Elem.mk Try.underlying57 ?_ rfl (by decide)
  kernel_rfl
theorem elRunes : Elem Try.prog 93 21 1 4 (.int .i32 0) := by
  refine Elem.mk Try.underlying93 ?_ rfl (by decide)
  kernel_rfl

theorem Own.keepB {w w' : World} {B : Nat} {e : TypeId} {sz : Nat} {v : Value} {n : Nat} {cs : List Value} {S : Nat → Prop} (h : Own w B e sz v n cs) (hk : Keeps S w w') (hb : ∀ k, S k → k < B) : Own w' B e sz v n cs := by
  obtain ⟨h0, h1, h2 | ⟨g, cap, cur, rfl, h2, h3, hr⟩⟩ := h
  · exact ⟨h0, h1, .inl h2⟩
  · exact ⟨h0, h1, .inr ⟨g, cap, cur, rfl, h2, (hk.block g (fun h => by have := hb g h; omega)).trans h3, hr⟩⟩

def wordsF (s : ByteArray) : List (Nat × Int) → Nat → List ByteArray
  | [], o => [s.extract o s.size]
  | (i, r) :: l, o => if r = 32 then s.extract o i :: wordsF s l (i + 1) else wordsF s l o
def wordsB (s : ByteArray) : List ByteArray := wordsF s (rs s 0) 0
def strCells (l : List ByteArray) : List Value := l.map Value.string

set_option maxHeartbeats 1000000 in
set_option maxRecDepth 100000 in
theorem words_any (s : ByteArray) (w : World) (hs : s.size ≤ 1099511627776) :
    Calls Try.prog 37 #[.string s] w fun e w' => ∃ v, e = .returned v ∧ Own w' w.heap.size 9 1 v (wordsB s).length (strCells (wordsB s)) ∧ Below w.heap.size w w' := by
  go_enter Try.func37, Try.ntmps37
  go_wp2_with fail
  go_loopw [3, 4] (fun v o wr => ∃ (pos f : Nat) (out : List ByteArray), o = .int .i64 f ∧ It wr w.heap.size s pos ∧ f ≤ pos ∧ f ≤ s.size ∧ out.length ≤ f ∧ Own wr (w.heap.size + 1) 9 1 v out.length (strCells out) ∧ Below w.heap.size w wr ∧ out ++ wordsF s (rs s pos) f = wordsB s) (fun _ _ wr => s.size - wr.iterPos w.heap.size)
  case atStart => exact ⟨0, 0, [], rfl, World.iter_heap w s 0, Nat.le_refl _, Nat.zero_le _, Nat.le_refl _, Own.nil _ _ _ _ _, (Below.refl _ _).alloc (Nat.le_refl _) _, rfl⟩
  case round =>
    obtain ⟨pos, f, out, rfl, hit, hfp, hfs, hop, hown, hB, hR⟩ := hrel
    have HP0 := Lib.hid hit.pos
    have HR := Lib.hid hR
    clear hR
    by_cases hp : pos < s.size
    · obtain ⟨W, hnx, hit2, hB2, hkw⟩ := hit.next (P := Try.prog) hp hB (Nat.le_refl _)
      have hwd := Lib.decode_width_pos s pos hp
      have hstep := rs_step s pos hp
      obtain ⟨c, hc⟩ : ∃ c : Int, c = ((Utf8.decode s pos).1 : Int) := ⟨_, rfl⟩
      obtain ⟨wd, hw⟩ : ∃ wd, wd = (Utf8.decode s pos).2 := ⟨_, rfl⟩
      rw [← hc, ← hw] at hstep
      rw [← hc] at hnx
      rw [← hw] at hit2 hwd
      have HS := Lib.hid hstep
      have HI := Lib.hid hit2
      have HB := Lib.hid hB2
      have HO := Lib.hid (hown.keepB hkw (by omega))
      clear hstep hit2 hB2 hB hit hc hw hown hkw
      by_cases h1 : c = 32
      · subst h1
        have HF : Hid ((out ++ [s.extract f pos]) ++ wordsF s (rs s (pos + wd)) (pos + 1) = wordsB s) := Lib.hid (by rw [← HR.out, HS.out, wordsF, if_pos rfl]; simp)
        have hszw : w.heap.size + 1 ≤ W.heap.size := HI.out.lt
        have hsl : ∀ W, (Instr.slice 9 (.string s) (some (.int .i64 f)) (some (.int .i64 pos)) none).run Try.prog W = .ok (.string (s.extract f pos)) W := fun W => run_slice_string W _ s .i64 .i64 f pos Try.underlying9 (by omega) (by omega) (by omega)
        have HX : Hid (Sl (W.alloc (.cells #[.string (s.extract f pos)] 9)) 1 (.slice (some ⟨W.heap.size, 0, none⟩) 1 1) 1 [.string (s.extract f pos)]) := Lib.hid (Sl.lit (cs := #[.string (s.extract f pos)]) rfl rfl (by simp [Value.oneCell']) (by decide))
        go_wp2_with ((with_reducible show wpList _ _ _ (⟨some 21, _, _, _, _, _⟩ :: _) _ _); refine wpList_app rfl (.tmp 15) (.tmp 20) elStrs rfl (w.heap.size + 1) (HO.out.alloc _) HX.out (by unfold maxLen; omega) (by omega) (by simp; omega) ?_)
        intro v' w' h1 h2 h3
        have HI' : Hid (It w' w.heap.size s (pos + wd)) := Lib.hid (by
          refine It.keep (It.below HI.out ((Below.refl W.heap.size W).alloc (Nat.le_refl _) _) HI.out.lt) h2 ?_
          rintro (h | h)
          · omega
          · have := HI.out.lt; omega)
        have HB' : Hid (Below w.heap.size w w') := Lib.hid ((HB.out.alloc HB.out.size _).trans (h2.below (by
          rintro j (h | h)
          · omega
          · have := HB.out.size; omega)))
        have HO' : Hid (Own w' (w.heap.size + 1) 9 1 v' (out ++ [s.extract f pos]).length (strCells (out ++ [s.extract f pos]))) := Lib.hid (by
          rw [List.length_append, strCells, List.map_append]
          exact h1)
        clear h1 h2 h3
        go_wp2_with fail
        go_roundw
        case rel => exact ⟨pos + wd, pos + 1, _, by go_num, HI'.out, by omega, by omega, by simp; omega, HO'.out, HB'.out, HF.out⟩
        case measure => rw [HI'.out.pos, HP0.out]; omega
      · have HF : Hid (out ++ wordsF s (rs s (pos + wd)) f = wordsB s) := Lib.hid (by rw [← HR.out, HS.out, wordsF, if_neg h1])
        have h1' : (c == 32) = false := by simpa using h1
        go_wp2_with fail
        go_roundw
        case rel => exact ⟨pos + wd, f, out, rfl, HI.out, by omega, hfs, by omega, HO.out, HB.out, HF.out⟩
        case measure => rw [HI.out.pos, HP0.out]; omega
    · have hnx : ∀ ty, (Instr.next (.pointer (some ⟨w.heap.size, 0, none⟩)) true ty).run Try.prog wr = .ok (.tuple #[.bool false]) wr := fun ty => Lib.run_next_end_at wr _ s pos ty hit hp
      have HF : Hid (out ++ [s.extract f s.size] = wordsB s) := Lib.hid (by rw [← HR.out, rs_end s pos hp, wordsF])
      have HB := Lib.hid hB
      have HO := Lib.hid hown
      have hszw : w.heap.size + 1 ≤ wr.heap.size := hit.lt
      have HX : Hid (Sl (wr.alloc (.cells #[.string (s.extract f s.size)] 9)) 1 (.slice (some ⟨wr.heap.size, 0, none⟩) 1 1) 1 [.string (s.extract f s.size)]) := Lib.hid (Sl.lit (cs := #[.string (s.extract f s.size)]) rfl rfl (by simp [Value.oneCell']) (by decide))
      clear hB hit hown
      go_wp2_with ((with_reducible show wpList _ _ _ (⟨some 29, _, _, _, _, _⟩ :: _) _ _); refine wpList_app rfl (.tmp 24) (.tmp 28) elStrs rfl (w.heap.size + 1) (HO.out.alloc _) HX.out (by unfold maxLen; omega) (by omega) (by simp; omega) ?_)
      intro v' w' h1 h2 h3
      have HB' : Hid (Below w.heap.size w w') := Lib.hid ((HB.out.alloc HB.out.size _).trans (h2.below (by
        rintro j (h | h)
        · omega
        · have := HB.out.size; omega)))
      have HO' : Hid (Own w' w.heap.size 9 1 v' (wordsB s).length (strCells (wordsB s))) := Lib.hid (by
        rw [← HF.out, List.length_append, strCells, List.map_append]
        exact Own.base h1 (by omega))
      clear h1 h2 h3
      go_wp2_with fail
      go_ret
      exact ⟨_, rfl, HO'.out, HB'.out⟩

def smallR (r : Int) : Int := if bigB r then r + 32 else r
def foldR (s : ByteArray) : List Int := (rs s 0).map fun x => smallR x.2
def runeV (l : List Int) : List Value := l.map (Value.int .i32)
def foldB (s : ByteArray) : ByteArray := runesBytes (foldR s)

theorem run_runes {P : Program} {w : World} {src dst e : TypeId} {v : Value} {l : List Int} (hs : P.underlying src = some (.slice e)) (he : P.underlying e = some (.int .i32)) (hd : P.underlying dst = some .string)
    (h : Sl w 1 v l.length (runeV l)) : (convert src dst v).run P w = .ok (.string (runesBytes l)) w := by
  obtain ⟨_, _, a, cap, rfl, _, _, ha, hc⟩ := h
  rcases hc with hc | ⟨b, off, rfl, hc⟩
  · have hl : l = [] := by simpa [runeV] using hc
    subst hl
    cases a with
    | none => exact run_convert_runes_nil w src dst e _ _ hs he hd
    | some a => exact run_convert_runes w src dst e a 0 cap [] (Nat.le_refl _) hs he hd (fun j hj => by simp at hj)
  · have := run_convert_runes (P := P) w src dst e ⟨b, off, none⟩ l.length cap l (Nat.le_refl _) hs he hd (fun j hj => by
      rw [show (Addr.add ⟨b, off, none⟩ j) = ⟨b, off + j, none⟩ from by simp [Addr.add]]
      refine hc j _ ?_
      simp [runeV, List.getD, hj])
    rw [List.take_length] at this
    exact this

theorem big_le (r : Int) (h : bigB r = true) : r ≤ 1071 := by
  simp only [bigB, inB, bigL, List.any_cons, List.any_nil, Sp.has, Bool.or_false, Bool.or_eq_true, Bool.and_eq_true, decide_eq_true_eq] at h
  omega

set_option maxHeartbeats 1000000 in
set_option maxRecDepth 100000 in
theorem fold_any (s : ByteArray) (w : World) (hs : s.size ≤ 1099511627776) :
    Calls Try.prog 36 #[.string s] w fun e w' => e = .returned (.tuple #[.string (foldB s), .bool (rightB (foldB s))]) ∧ Below w.heap.size w w' := by
  go_enter Try.func36, Try.ntmps36
  go_wp2_with fail
  go_loopw [4] (fun v wr => ∃ (pos : Nat) (out : List Int), It wr w.heap.size s pos ∧ out.length ≤ pos ∧ out.length ≤ s.size ∧ Own wr (w.heap.size + 1) 21 1 v out.length (runeV out) ∧ Below w.heap.size w wr ∧ out ++ (rs s pos).map (fun x => smallR x.2) = foldR s) (fun _ wr => s.size - wr.iterPos w.heap.size)
  case atStart => exact ⟨0, [], World.iter_heap w s 0, Nat.le_refl _, Nat.zero_le _, Own.nil _ _ _ _ _, (Below.refl _ _).alloc (Nat.le_refl _) _, rfl⟩
  case round =>
    obtain ⟨pos, out, hit, hop, hos, hown, hB, hR⟩ := hrel
    have HP0 := Lib.hid hit.pos
    have HR := Lib.hid hR
    clear hR
    by_cases hp : pos < s.size
    · obtain ⟨W, hnx, hit2, hB2, hkw⟩ := hit.next (P := Try.prog) hp hB (Nat.le_refl _)
      have hwd := Lib.decode_width_pos s pos hp
      have hstep := rs_step s pos hp
      obtain ⟨c, hc⟩ : ∃ c : Int, c = ((Utf8.decode s pos).1 : Int) := ⟨_, rfl⟩
      obtain ⟨wd, hw⟩ : ∃ wd, wd = (Utf8.decode s pos).2 := ⟨_, rfl⟩
      have hc0 : 0 ≤ c := by omega
      rw [← hc, ← hw] at hstep
      rw [← hc] at hnx
      rw [← hw] at hit2 hwd
      have HF : Hid ((out ++ [smallR c]) ++ (rs s (pos + wd)).map (fun x => smallR x.2) = foldR s) := Lib.hid (by rw [← HR.out, hstep]; simp)
      have HI := Lib.hid hit2
      have HB := Lib.hid hB2
      have HO := Lib.hid (hown.keepB hkw (by omega))
      clear hstep hit2 hB2 hB hit hc hw hown hkw
      go_wp2_with fail
      refine (big_any c W).mono ?_
      obtain ⟨L, hL⟩ : ∃ L, L = bigB c := ⟨_, rfl⟩
      rw [← hL]
      have HL := Lib.hid hL
      clear hL
      rintro e w1 ⟨rfl, hb1⟩
      have HI1 := Lib.hid (HI.out.below hb1 HI.out.lt)
      have HB1 := Lib.hid (HB.out.trans (hb1.mono HB.out.size))
      have HO1 := Lib.hid (HO.out.below hb1)
      have hszw : w.heap.size + 1 ≤ w1.heap.size := HI1.out.lt
      clear hb1 HI HB HO hnx
      cases L with
      | true =>
        have hcb := big_le c HL.out.symm
        have hsm : Hid (smallR c = c + 32) := Lib.hid (by unfold smallR; rw [if_pos HL.out.symm])
        have HX : Hid (Sl (w1.alloc (.cells #[.int .i32 (c + 32)] 21)) 1 (.slice (some ⟨w1.heap.size, 0, none⟩) 1 1) 1 [.int .i32 (c + 32)]) := Lib.hid (Sl.lit (cs := #[.int .i32 (c + 32)]) rfl rfl (by simp [Value.oneCell']) (by decide))
        have hwr : IntKind.i32.wrap (c + 32) = c + 32 := by rw [IntKind.wrap_i32]; omega
        go_wp2_with ((with_reducible show wpList _ _ _ (⟨some 19, _, _, _, _, _⟩ :: _) _ _); refine wpList_app rfl (.tmp 16) (.tmp 18) elRunes rfl (w.heap.size + 1) (HO1.out.alloc _) HX.out (by unfold maxLen; omega) (by omega) (by simp; omega) ?_)
        intro v' w' h1 h2 h3
        have HI' : Hid (It w' w.heap.size s (pos + wd)) := Lib.hid (by
          refine It.keep (It.below HI1.out ((Below.refl w1.heap.size w1).alloc (Nat.le_refl _) _) HI1.out.lt) h2 ?_
          rintro (h | h)
          · omega
          · have := HI1.out.lt; omega)
        have HB' : Hid (Below w.heap.size w w') := Lib.hid ((HB1.out.alloc HB1.out.size _).trans (h2.below (by
          rintro j (h | h)
          · omega
          · have := HB1.out.size; omega)))
        have HO' : Hid (Own w' (w.heap.size + 1) 21 1 v' (out ++ [smallR c]).length (runeV (out ++ [smallR c]))) := Lib.hid (by
          rw [List.length_append, runeV, List.map_append, hsm.out]
          exact h1)
        clear h1 h2 h3
        go_wp2_with fail
        go_roundw
        case rel => exact ⟨pos + wd, _, HI'.out, by simp; omega, by simp; omega, HO'.out, HB'.out, HF.out⟩
        case measure => rw [HI'.out.pos, HP0.out]; omega
      | false =>
        have hsm : Hid (smallR c = c) := Lib.hid (by unfold smallR; rw [if_neg (by rw [← HL.out]; decide)])
        have HX : Hid (Sl (w1.alloc (.cells #[.int .i32 c] 21)) 1 (.slice (some ⟨w1.heap.size, 0, none⟩) 1 1) 1 [.int .i32 c]) := Lib.hid (Sl.lit (cs := #[.int .i32 c]) rfl rfl (by simp [Value.oneCell']) (by decide))
        go_wp2_with ((with_reducible show wpList _ _ _ (⟨some 19, _, _, _, _, _⟩ :: _) _ _); refine wpList_app rfl (.tmp 16) (.tmp 18) elRunes rfl (w.heap.size + 1) (HO1.out.alloc _) HX.out (by unfold maxLen; omega) (by omega) (by simp; omega) ?_)
        intro v' w' h1 h2 h3
        have HI' : Hid (It w' w.heap.size s (pos + wd)) := Lib.hid (by
          refine It.keep (It.below HI1.out ((Below.refl w1.heap.size w1).alloc (Nat.le_refl _) _) HI1.out.lt) h2 ?_
          rintro (h | h)
          · omega
          · have := HI1.out.lt; omega)
        have HB' : Hid (Below w.heap.size w w') := Lib.hid ((HB1.out.alloc HB1.out.size _).trans (h2.below (by
          rintro j (h | h)
          · omega
          · have := HB1.out.size; omega)))
        have HO' : Hid (Own w' (w.heap.size + 1) 21 1 v' (out ++ [smallR c]).length (runeV (out ++ [smallR c]))) := Lib.hid (by
          rw [List.length_append, runeV, List.map_append, hsm.out]
          exact h1)
        clear h1 h2 h3
        go_wp2_with fail
        go_roundw
        case rel => exact ⟨pos + wd, _, HI'.out, by simp; omega, by simp; omega, HO'.out, HB'.out, HF.out⟩
        case measure => rw [HI'.out.pos, HP0.out]; omega
    · have hnx : ∀ ty, (Instr.next (.pointer (some ⟨w.heap.size, 0, none⟩)) true ty).run Try.prog wr = .ok (.tuple #[.bool false]) wr := fun ty => Lib.run_next_end_at wr _ s pos ty hit hp
      have HF : Hid (out = foldR s) := Lib.hid (by rw [← HR.out, rs_end s pos hp]; simp)
      have HB := Lib.hid hB
      have hsl := hown.sl
      obtain ⟨a, cap, hv, _⟩ := hsl.form
      have HO := Lib.hid hsl
      clear hB hit hown hsl
      subst hv
      have hsz : (foldB s).size ≤ maxLen := by
        have := runesBytes_size_le (foldR s)
        rw [← HF.out] at this
        unfold foldB maxLen
        rw [← HF.out]
        omega
      have HSZ := Lib.hid hsz
      have hcw : ∀ W, Below wr.heap.size wr W → (convert 93 9 (.slice a out.length cap)).run Try.prog W = .ok (.string (foldB s)) W := fun W hW => by
        have := run_runes (P := Try.prog) (src := 93) (dst := 9) (e := 21) Try.underlying93 Try.underlying21 Try.underlying9 (HO.out.below hW)
        rw [HF.out] at this
        rw [HF.out]
        exact this
      have HCW := Lib.hid hcw
      have hc0 := hcw wr.drew (Below.refl _ _).drew
      clear hsz hcw
      go_wp2_with fail
      go_region_with (refine (right_any (foldB s) _ HSZ.out).mono ?_; rintro e wq ⟨rfl, hbq⟩; have hcq := HCW.out wq ((Below.refl _ _).drew.trans hbq))
      all_goals
        have HBF := Lib.hid (HB.out.drew.trans (hbq.mono HB.out.drew.size))
        clear hbq hcq hc0 hnx
        go_wp2_with fail
        go_ret2
        exact ⟨rfl, HBF.out⟩
end Go.Proofs.Ytppmjmginpkgaaa
