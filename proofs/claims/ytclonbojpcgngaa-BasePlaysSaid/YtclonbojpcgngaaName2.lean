/- Contracts of package name, text by text: Right, Text. -/
import Derived.Test.YtclonbojpcgngaaName
import Derived.Lib.OthersKept
import Derived.Lib.RuneCount
namespace Go.Proofs.Ytclonbojpcgngaa
set_option linter.unusedSimpArgs false
set_option linter.unusedVariables false
open Go.RowKit

/-- The runes of a text, each with where it begins. -/
def rsF (s : ByteArray) : Nat → Nat → List (Nat × Int)
  | 0, _ => []
  | f + 1, p => if p < s.size then (p, ((Utf8.decode s p).1 : Int)) :: rsF s f (p + (Utf8.decode s p).2) else []
def rs (s : ByteArray) (p : Nat) : List (Nat × Int) := rsF s (s.size - p) p

theorem rsF_more (s : ByteArray) : ∀ (f f' p : Nat), s.size ≤ p + f → s.size ≤ p + f' → rsF s f p = rsF s f' p
  | 0, 0, _, _, _ => rfl
  | 0, f' + 1, p, h, _ => by simp [rsF, show ¬ p < s.size from by omega]
  | f + 1, 0, p, _, h => by simp [rsF, show ¬ p < s.size from by omega]
  | f + 1, f' + 1, p, h, h' => by
    by_cases hp : p < s.size
    · have := Lib.decode_width_pos s p hp
      simp only [rsF, if_pos hp]
      rw [rsF_more s f f' _ (by omega) (by omega)]
    · simp [rsF, hp]
theorem rs_step (s : ByteArray) (p : Nat) (h : p < s.size) : rs s p = (p, ((Utf8.decode s p).1 : Int)) :: rs s (p + (Utf8.decode s p).2) := by
  have := Lib.decode_width_pos s p h
  unfold rs
  obtain ⟨f, hf⟩ : ∃ f, s.size - p = f + 1 := ⟨s.size - p - 1, by omega⟩
  rw [hf]
  simp only [rsF, if_pos h]
  rw [rsF_more s f (s.size - (p + (Utf8.decode s p).2)) _ (by omega) (by omega)]
theorem rs_end (s : ByteArray) (p : Nat) (h : ¬ p < s.size) : rs s p = [] := by
  unfold rs
  rw [show s.size - p = 0 from by omega]
  rfl

/-- An iterator stands at a place. -/
def It (w : World) (k : Nat) (s : ByteArray) (p : Nat) : Prop := w.heap[k]? = some (.stringIter s p)
theorem It.pos {w : World} {k : Nat} {s : ByteArray} {p : Nat} (h : It w k s p) : w.iterPos k = p := by simp [World.iterPos, show w.heap[k]? = _ from h]
theorem It.lt {w : World} {k : Nat} {s : ByteArray} {p : Nat} (h : It w k s p) : k < w.heap.size := block_lt h
theorem It.below {w w' : World} {k B : Nat} {s : ByteArray} {p : Nat} (h : It w k s p) (hb : Below B w w') (hk : k < B) : It w' k s p := (hb.block k hk).trans h
theorem It.keep {w w' : World} {k : Nat} {S : Nat → Prop} {s : ByteArray} {p : Nat} (h : It w k s p) (hb : Keeps S w w') (hk : ¬ S k) : It w' k s p := (hb.block k hk).trans h

/-- One step of an iterator: what it gives, and the world then, as a variable. -/
theorem It.next {P : Program} {w0 wr : World} {k B : Nat} {s : ByteArray} {pos : Nat} (h : It wr k s pos) (hp : pos < s.size) (hB : Below B w0 wr) (hk : B ≤ k) :
    ∃ W, (∀ ty, (Instr.next (.pointer (some ⟨k, 0, none⟩)) true ty).run P wr = .ok (.tuple #[.bool true, .int .i64 pos, .int .i32 (Utf8.decode s pos).1]) W) ∧ It W k s (pos + (Utf8.decode s pos).2) ∧ Below B w0 W ∧ Keeps (fun j => j = k) wr W :=
  ⟨_, fun ty => Lib.run_next_any_at wr k s pos ty h hp, Lib.iterAt_heap wr k s pos _ h, Lib.below_iterAt hB hk s _,
    ⟨rfl, rfl, rfl, by rw [Lib.iterAt_size]; exact Nat.le_refl _, fun j hj => Lib.iterAt_other wr k j s _ hj⟩⟩

def rightF : List (Nat × Int) → Nat → Bool
  | [], n => decide (1 ≤ n) && decide (n ≤ 16)
  | (i, r) :: l, n => if letB r then rightF l (n + 1) else if i = 0 then false else if numB r then rightF l (n + 1) else false
def rightB (s : ByteArray) : Bool := rightF (rs s 0) 0

set_option maxHeartbeats 1000000 in
set_option maxRecDepth 100000 in
theorem right_any (s : ByteArray) (w : World) (hs : s.size ≤ maxLen) :
    Calls Try.prog 24 #[.string s] w fun e w' => e = .returned (.bool (rightB s)) ∧ Below w.heap.size w w' := by
  unfold maxLen at hs
  go_enter Try.func24, Try.ntmps24
  go_wp2_with fail
  go_loopw [3] (fun n wr => ∃ (pos q : Nat), n = .int .i64 q ∧ It wr w.heap.size s pos ∧ q ≤ pos ∧ Below w.heap.size w wr ∧ rightF (rs s pos) q = rightB s) (fun _ wr => s.size - wr.iterPos w.heap.size)
  case atStart => exact ⟨0, 0, rfl, World.iter_heap w s 0, Nat.le_refl _, (Below.refl _ _).alloc (Nat.le_refl _) _, rfl⟩
  case round =>
    obtain ⟨pos, q, rfl, hit, hq, hB, hR⟩ := hrel
    have HP0 := Lib.hid hit.pos
    have HR := Lib.hid hR
    clear hR
    by_cases hp : pos < s.size
    · obtain ⟨W, hnx, hit2, hB2, _⟩ := hit.next (P := Try.prog) hp hB (Nat.le_refl _)
      have hwd := Lib.decode_width_pos s pos hp
      have hstep := rs_step s pos hp
      obtain ⟨c, hc⟩ : ∃ c : Int, c = ((Utf8.decode s pos).1 : Int) := ⟨_, rfl⟩
      obtain ⟨wd, hw⟩ : ∃ wd, wd = (Utf8.decode s pos).2 := ⟨_, rfl⟩
      rw [← hc, ← hw] at hstep
      rw [← hc] at hnx
      rw [← hw] at hit2 hwd
      have HS := Lib.hid hstep
      have HI := Lib.hid hit2
      have HB := Lib.hid hB2
      clear hstep hit2 hB2 hB hit hc hw
      go_wp2_with fail
      refine (letter_any c W).mono ?_
      obtain ⟨L, hL⟩ : ∃ L, L = letB c := ⟨_, rfl⟩
      rw [← hL]
      have HL := Lib.hid hL
      clear hL
      rintro e w1 ⟨rfl, hb1⟩
      have HI1 := Lib.hid (HI.out.below hb1 HI.out.lt)
      have HB1 := Lib.hid (HB.out.trans (hb1.mono HB.out.size))
      clear hb1 HI HB hnx
      cases L with
      | true =>
        have HF : Hid (rightF (rs s (pos + wd)) (q + 1) = rightB s) := Lib.hid (by
          rw [← HR.out, HS.out, rightF, ← HL.out, if_pos rfl])
        go_wp2_with fail
        go_roundw
        case rel => exact ⟨pos + wd, q + 1, by go_num, HI1.out, by omega, HB1.out, HF.out⟩
        case measure => rw [HI1.out.pos, HP0.out]; omega
      | false =>
        by_cases hp0 : pos = 0
        · subst hp0
          have HF : Hid (rightB s = false) := Lib.hid (by
            rw [← HR.out, HS.out, rightF, ← HL.out]
            simp)
          go_wp2_with fail
          go_ret
          rw [HF.out]
          exact ⟨rfl, HB1.out⟩
        · have hp1 : ((pos : Int) == 0) = false := by simp; omega
          have HN0 := Lib.hid hp0
          clear hp0
          go_wp2_with fail
          refine (in_any c _ numL _ (Sl.spans numL rfl rfl rfl (by decide) (by decide))).mono ?_
          obtain ⟨M, hM⟩ : ∃ M, M = numB c := ⟨_, rfl⟩
          rw [show inB c numL = numB c from rfl, ← hM]
          have HM := Lib.hid hM
          clear hM
          rintro e w2 ⟨rfl, hb2⟩
          have HI2 := Lib.hid (It.below (It.below HI1.out ((Below.refl w1.heap.size w1).alloc (Nat.le_refl _) _) HI1.out.lt) hb2 (by have := HI1.out.lt; simp; omega))
          have HB2 := Lib.hid ((HB1.out.alloc HB1.out.size _).trans (hb2.mono (by have := HB1.out.size; simp; omega)))
          clear hb2 HI1 HB1
          cases M with
          | true =>
            have HF : Hid (rightF (rs s (pos + wd)) (q + 1) = rightB s) := Lib.hid (by
              rw [← HR.out, HS.out, rightF, ← HL.out, ← HM.out]
              simp [HN0.out])
            go_wp2_with fail
            go_roundw
            case rel => exact ⟨pos + wd, q + 1, by go_num, HI2.out, by omega, HB2.out, HF.out⟩
            case measure => rw [HI2.out.pos, HP0.out]; omega
          | false =>
            have HF : Hid (rightB s = false) := Lib.hid (by
              rw [← HR.out, HS.out, rightF, ← HL.out, ← HM.out]
              simp)
            go_wp2_with fail
            go_ret
            rw [HF.out]
            exact ⟨rfl, HB2.out⟩
    · have hnx : ∀ ty, (Instr.next (.pointer (some ⟨w.heap.size, 0, none⟩)) true ty).run Try.prog wr = .ok (.tuple #[.bool false]) wr := fun ty => Lib.run_next_end_at wr _ s pos ty hit hp
      have HF : Hid (rightB s = (decide (1 ≤ q) && decide (q ≤ 16))) := Lib.hid (by rw [← HR.out, rs_end s pos hp, rightF])
      have HB := Lib.hid hB
      clear hB hit
      rcases (by omega : q < 1 ∨ (1 ≤ q ∧ q ≤ 16) ∨ 16 < q) with h | ⟨h, h'⟩ | h
      · have h1 : ¬ (1 : Int) ≤ (q : Int) := by omega
        have HG := Lib.hid (HF.out.trans (show _ = false by rw [decide_eq_false (by omega : ¬ 1 ≤ q)]; rfl))
        clear h
        go_wp2_with fail
        go_ret
        rw [HG.out]
        exact ⟨rfl, HB.out⟩
      · have h1 : (1 : Int) ≤ (q : Int) := by omega
        have h2 : (q : Int) ≤ 16 := by omega
        have HG := Lib.hid (HF.out.trans (show _ = true by rw [decide_eq_true h, decide_eq_true h']; rfl))
        clear h h'
        go_wp2_with fail
        go_ret
        rw [HG.out]
        exact ⟨rfl, HB.out⟩
      · have h1 : (1 : Int) ≤ (q : Int) := by omega
        have h2 : ¬ (q : Int) ≤ 16 := by omega
        have HG := Lib.hid (HF.out.trans (show _ = false by rw [decide_eq_false (by omega : ¬ q ≤ 16)]; simp))
        clear h
        go_wp2_with fail
        go_ret
        rw [HG.out]
        exact ⟨rfl, HB.out⟩

def textF (most : Int) : List (Nat × Int) → Nat → Bool
  | [], n => decide ((n : Int) ≤ most)
  | (_, r) :: l, n => if r < 32 then false else if r = 127 then false else if r = 65533 then false else textF most l (n + 1)
def textB (s : ByteArray) (most : Int) : Bool := textF most (rs s 0) 0
end Go.Proofs.Ytclonbojpcgngaa
