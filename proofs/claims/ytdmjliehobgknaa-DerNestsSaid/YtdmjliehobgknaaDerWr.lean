/- Contract: der.Write; which values are right. -/
import Derived.Test.YtdmjliehobgknaaDerWrite
namespace Go.Proofs.Ytdmjliehobgknaa
set_option linter.unusedSimpArgs false
set_option linter.unusedVariables false
open Go.RowKit

mutual
/-- Every number has 64 bits. -/
def Nw : Tv → Prop
  | .mk _ _ n _ l => n < 18446744073709551616 ∧ NsW l
def NsW : List Tv → Prop
  | [] => True
  | x :: l => Nw x ∧ NsW l
end
theorem NsW.mem : ∀ {l : List Tv}, NsW l → ∀ x ∈ l, Nw x
  | [], _, x, hx => by simp at hx
  | y :: l, h, x, hx => by
    rcases List.mem_cons.1 hx with e | hx
    · rw [e]; exact h.1
    · exact h.2.mem x hx
theorem NsW.of : ∀ {l : List Tv}, (∀ x ∈ l, Nw x) → NsW l
  | [], _ => trivial
  | y :: l, h => ⟨h y (by simp), NsW.of (fun x hx => h x (by simp [hx]))⟩

theorem rightS_ok : ∀ (d : Nat) (x : Tv), rightS d x = true → Nw x → OkW x
  | 0, x, h, _ => by simp [rightS] at h
  | d + 1, .mk k t n b l, h, hn => by
    unfold rightS at h
    simp only [Bool.and_eq_true, decide_eq_true_eq] at h
    obtain ⟨⟨h1, h2⟩, h3⟩ := h
    split at h3
    · rename_i hk
      simp only [Bool.and_eq_true, decide_eq_true_eq] at h3
      refine ⟨.inl hk, h1, h2, hn.1, ?_⟩
      rw [List.eq_nil_of_length_eq_zero h3.2]
      trivial
    · split at h3
      · rename_i hk
        simp only [Bool.and_eq_true, decide_eq_true_eq] at h3
        refine ⟨.inr (.inl hk), h1, h2, hn.1, ?_⟩
        rw [List.eq_nil_of_length_eq_zero h3.2]
        trivial
      · split at h3
        · rename_i hk
          simp only [Bool.and_eq_true, decide_eq_true_eq] at h3
          exact ⟨.inr (.inr hk), h1, h2, hn.1, OksW.of (fun x hx => rightS_ok d x (List.all_eq_true.1 h3.1.1 x hx) (hn.2.mem x hx))⟩
        · simp at h3

/-- A value's bytes, and the error's number. -/
def wrS (x : Tv) : List UInt8 × Int := if rightS 8 x = false then ([], 7) else if 4096 < (writeS x).length then ([], 20) else (writeS x, 0)
def WtRes (w : World) (r : List UInt8 × Int) (e : Ending) (w' : World) : Prop := ∃ v, e = .returned (.tuple #[v, .int .i64 r.2]) ∧ Bs w' v r.1 ∧ Below w.heap.size w w'

set_option maxHeartbeats 4000000 in
set_option maxRecDepth 100000 in
theorem derWriteIt_any (x : Tv) (F : Nat → Prop) (cs : List Value) (w : World) (h : TvF w F x cs) (hn : Nw x) (hlen : rightS 8 x = true → (writeS x).length ≤ 1073741824) :
    Calls Try.prog 31 #[.agg cs.toArray] w (WtRes w (wrS x)) := by
  have hcl := h.length
  have HCL := Lib.hid hcl
  have HN := Lib.hid (Blk.new w cs 47)
  have HT := Lib.hid h
  have HR := Lib.hid (derRightIt_any x F cs (w.alloc (.cells cs.toArray 47)) (h.below ((Below.refl _ _).alloc (Nat.le_refl _) _)))
  have HNW := Lib.hid hn
  have HLEN := Lib.hid hlen
  clear h hcl hn hlen
  go_enter Try.func31, Try.ntmps31
  go_wp2_with ((with_reducible show wpList _ _ _ (⟨some 5, _, _, _, _, _⟩ :: _) _ _); refine wpList_ldAgg rfl (.tmp 1) aggDer rfl rfl (cs := cs) HCL.out HN.out.cellsAll ?_)
  refine HR.out.mono ?_
  rintro e w1 ⟨rfl, hb1⟩
  have hz1 := hb1.size
  simp at hz1
  have hba : Below w.heap.size w w1 := ((Below.refl _ _).alloc (Nat.le_refl _) _).trans (hb1.mono (by simp))
  have HB1 := Lib.hid hba
  have HN1 := Lib.hid (HN.out.below hb1 (by simp))
  have HT1 := Lib.hid (HT.out.below hba)
  clear hb1 hba HR
  obtain ⟨r, hr⟩ : ∃ r, r = rightS 8 x := ⟨_, rfl⟩
  rw [← hr]
  cases r with
  | false =>
    have HS : Hid (wrS x = ([], 7)) := Lib.hid (by unfold wrS; rw [if_pos hr.symm])
    clear hr
    go_wp2_with fail
    go_ret2
    rw [HS.out]
    exact ⟨_, rfl, Sl.nil _ _ _, HB1.out⟩
  | true =>
    have hlen := HLEN.out hr.symm
    have HC := Lib.hid (derWrite_any x F cs w1 HT1.out (rightS_ok 8 x hr.symm HNW.out) hlen)
    have hS : wrS x = if 4096 < (writeS x).length then ([], 20) else (writeS x, 0) := by unfold wrS; rw [if_neg (by rw [← hr]; decide)]
    have HS0 := Lib.hid hS
    clear hr hS
    generalize writeS x = bs at HC HS0 hlen
    go_wp2_with ((with_reducible show wpList _ _ _ (⟨some 8, _, _, _, _, _⟩ :: _) _ _); refine wpList_ldAgg rfl (.tmp 1) aggDer rfl rfl (cs := cs) HCL.out HN1.out.cellsAll ?_)
    refine HC.out.mono ?_
    rintro e w2 ⟨v2, rfl, ho2, hb2⟩
    obtain ⟨a2, c2, rfl, hc2, hm2⟩ := ho2.sl.form
    have HO := Lib.hid ho2.bs
    have HB2 : Hid (Below w.heap.size w w2) := Lib.hid (HB1.out.trans (hb2.mono (by omega)))
    unfold maxLen at hm2
    clear ho2 hb2 HC
    by_cases hl : 4096 < bs.length
    · have hl' : (4096 : Int) < bs.length := by omega
      have HS : Hid (wrS x = ([], 20)) := Lib.hid (by rw [HS0.out, if_pos hl])
      clear hl
      go_wp2_with fail
      go_ret2
      rw [HS.out]
      exact ⟨_, rfl, Sl.nil _ _ _, HB2.out⟩
    · have hl' : ¬ (4096 : Int) < bs.length := by omega
      have HS : Hid (wrS x = (bs, 0)) := Lib.hid (by rw [HS0.out, if_neg hl])
      clear hl
      go_wp2_with fail
      go_ret2
      rw [HS.out]
      exact ⟨_, rfl, HO.out, HB2.out⟩
end Go.Proofs.Ytdmjliehobgknaa
