/- sha: bytes are taken in. -/
import Derived.Test.YtdmjliehobgknaaShaSpec
namespace Go.Proofs.Ytdmjliehobgknaa
set_option linter.unusedSimpArgs false
set_option linter.unusedVariables false
open Go.RowKit

theorem Bs.empty {w : World} {v : Value} (h : Bs w v []) (w' : World) : Bs w' v [] := by
  obtain ⟨h1, h2, a, cap, h3, h4, h5, h6, _⟩ := h
  exact ⟨h1, h2, a, cap, h3, h4, h5, h6, .inl rfl⟩

theorem Bs.notSum {w : World} {v : Value} {b : List UInt8} {p : Nat} {H : List Int} {a : Option Addr} {n c : Nat} {x : Int} {T : TypeId} (h : Bs w v b) (hb : b ≠ []) (hp : Blk w p (wCells H ++ [.slice a n c, .int .u64 x]) T) : v.ownBlock ≠ some p := by
  intro e
  have hpos : 0 < b.length := List.length_pos_iff.2 hb
  obtain ⟨a', cap, rfl, _⟩ := h.form
  obtain ⟨bb, off, rfl, hcell⟩ := h.addr (by rw [bCells_length]; exact hpos)
  simp only [Value.ownBlock, Option.some.injEq] at e
  subst e
  have h0 := hcell 0 _ (bCells_get b 0 hpos)
  rw [hp.cell] at h0
  have hm := List.mem_of_getElem? h0
  rcases List.mem_append.1 hm with hm | hm
  · obtain ⟨y, _, hy⟩ := List.mem_map.1 hm
    simp [wV, bV] at hy
  · simp [bV] at hm

set_option maxHeartbeats 4000000 in
set_option maxRecDepth 100000 in
theorem shaWrite_any (F : Nat → Prop) (p : Nat) (D b : List UInt8) (v : Value) (w : World) (hs : SumOf w F p D) (hb : Bs w v b) (hl : D.length + b.length ≤ 1099511627776) :
    Calls Try.prog 19 #[.pointer (some ⟨p, 0, none⟩), v] w fun e w' => e = .returned (.tuple #[]) ∧ SumOf w' (fun k => F k ∨ w.heap.size ≤ k) p (D ++ b) ∧ Keeps (fun k => F k ∨ w.heap.size ≤ k) w w' := by
  obtain ⟨hF, va, hblk, hown, hne, hFv⟩ := hs
  have hH := blocksI_length h0I D rfl (D.length / 64)
  obtain ⟨av, cv, rfl, hcv, hcm⟩ := hb.form
  obtain ⟨q, hq⟩ : ∃ q, q = D.length / 64 := ⟨_, rfl⟩
  rw [← hq] at hblk hown hH
  have hqD : 64 * q ≤ D.length := by omega
  obtain ⟨r, hr⟩ : ∃ r, r = D.length - 64 * q := ⟨_, rfl⟩
  rw [← hr] at hown
  obtain ⟨ar, cr, rfl, hcr, hcm2⟩ := hown.sl.form
  have c8 := hblk.cell 8
  have c9 := hblk.cell 9
  have f8 := hblk.frozen 8
  have f9 := hblk.frozen 9
  rw [sum8 _ _ _ hH] at c8
  rw [sum9 _ _ _ hH] at c9
  obtain ⟨w1, hw1⟩ : ∃ w1, w1 = w.setCell ⟨p, 9, none⟩ (.int .u64 ((D.length : Int) + (b.length : Int))) := ⟨_, rfl⟩
  have hk1 : Keeps (fun k => k = p) w w1 := by rw [hw1]; exact Keeps.one _ _ _ _
  have hblk1 : Blk w1 p (wCells (blocksI h0I D q) ++ [.slice ar r cr, .int .u64 ((D.length : Int) + (b.length : Int))]) 78 := by
    rw [hw1, ← sumSet9 _ _ (.int .u64 D.length) _ hH]
    exact hblk.set 9 _
  have hown1 := hown.keep hk1 (fun b hb e => hne (e ▸ hb))
  have hb1 : Bs w1 (.slice av b.length cv) b := by
    by_cases hbe : b = []
    · subst hbe
      exact hb.empty w1
    · have hvp := hb.notSum hbe hblk
      exact Sl.keep hb hk1 (fun b hb e => hvp (e ▸ hb))
  have hs1 := hk1.size
  have c8' := hblk1.cell 8
  have f8' := hblk1.frozen 8
  rw [sum8 _ _ _ hH] at c8'
  have hsz1 : w1.heap.size = w.heap.size := by rw [hw1]; simp
  have HBLK1 := Lib.hid hblk1
  have HOWN1 := Lib.hid hown1
  have HB1 := Lib.hid hb1
  have HK1 := Lib.hid hk1
  have HH := Lib.hid hH
  have HQ := Lib.hid hq
  have HR := Lib.hid hr
  have hpl := hblk.lt
  have hrl : r + b.length ≤ 1099511627776 := by omega
  unfold maxLen at hcm hcm2
  have HNE := Lib.hid hne
  have HFV := Lib.hid hFv
  clear hblk hown hb hH hblk1 hown1 hb1 hk1 hq hr hne hFv
  subst hw1
  go_enter Try.func19, Try.ntmps19
  go_wp2_with ((with_reducible show wpList _ _ _ (⟨some 20, _, _, _, _, _⟩ :: _) _ _); refine wpList_appO rfl (.tmp 18) (.tmp 19) elBytes rfl 0 HOWN1.out HB1.out (by unfold maxLen; omega) (by omega) (Nat.zero_le _) ?_)
  intro v' w2 hown2 hk2 hvb2
  obtain ⟨a2, c2, rfl, hc2, hcm3⟩ := hown2.sl.form
  unfold maxLen at hcm3
  have hblk2 := HBLK1.out.keep hk2 (by
    intro h
    rcases h with h | h
    · exact HNE.out h
    · omega)
  have hne2 : (Value.slice a2 (r + b.length) c2).ownBlock ≠ some p := fun e => by
    rcases hvb2 p e with h | h
    · exact HNE.out h
    · omega
  have hfv2 : ∀ x, (Value.slice a2 (r + b.length) c2).ownBlock = some x → F x ∨ w.heap.size ≤ x := fun b hb => by
    rcases hvb2 b hb with h | h
    · exact .inl (HFV.out b h)
    · exact .inr (by omega)
  have hK2 : Keeps (fun k => F k ∨ w.heap.size ≤ k) w w2 := (HK1.out.mono (fun k hk => .inl (hk ▸ hF))).trans (hk2.mono (fun k hk => by
    rcases hk with h | h
    · exact .inl (HFV.out k h)
    · exact .inr (by omega)))
  have c82 := hblk2.cell 8
  have f82 := hblk2.frozen 8
  rw [sum8 _ _ _ HH.out] at c82
  have hE : D.drop (64 * q) ++ b = (D ++ b).drop (64 * q) := by rw [List.drop_append_of_le_length hqD]
  have HE := Lib.hid hE
  have HBLK2 := Lib.hid hblk2
  have HOWN2 := Lib.hid hown2
  have HK2 := Lib.hid hK2
  have HNE2 := Lib.hid hne2
  have HFV2 := Lib.hid hfv2
  clear hblk2 hne2 hfv2 hK2 hown2 hk2 hvb2 hE c8 c8' f8 f8' f9 c9
  go_wp2_with fail
  obtain ⟨E, hE⟩ : ∃ E, E = D ++ b := ⟨_, rfl⟩
  have hEl : E.length = D.length + b.length := by rw [hE]; simp
  go_loopw [23] (fun _ wr => ∃ (j : Nat) (va : Value), 64 * j ≤ E.length ∧ Blk wr p (wCells (blocksI h0I E j) ++ [va, .int .u64 E.length]) 78 ∧ OwnO wr 0 5 va (E.length - 64 * j) (bCells (E.drop (64 * j))) ∧
      va.ownBlock ≠ some p ∧ (∀ b, va.ownBlock = some b → F b ∨ w.heap.size ≤ b) ∧ Keeps (fun k => F k ∨ w.heap.size ≤ k) w wr) (fun _ wr => sumLeft wr p)
  case atStart =>
    refine ⟨q, .slice a2 (r + b.length) c2, by omega, ?_, ?_, HNE2.out, HFV2.out, ?_⟩
    · have := HBLK2.out.set 8 (.slice a2 (r + b.length) c2)
      rw [sumSet8 _ _ _ _ HH.out] at this
      rw [hE, blocksI_pre _ _ _ _ hqD, ← hE, hEl, Int.natCast_add]
      exact this
    · have := HOWN2.out.keep (Keeps.one w2 p 8 (.slice a2 (r + b.length) c2)) (fun b hb e => HNE2.out (e ▸ hb))
      rw [← bCells_append, HE.out, ← hE] at this
      rw [show E.length - 64 * q = r + b.length by have := HR.out; omega]
      exact this
    · exact HK2.out.setCell (p := ⟨p, 8, none⟩) (.inl hF) _
  case round =>
    obtain ⟨j, va, hj, hblk, hown, hne, hfv, hkw⟩ := hrel
    have hH := blocksI_length h0I E rfl j
    obtain ⟨av, cv, rfl, hcv, hcm'⟩ := hown.sl.form
    have c8 := hblk.cell 8
    have f8 := hblk.frozen 8
    rw [sum8 _ _ _ hH] at c8
    unfold maxLen at hcm'
    have HH2 := Lib.hid hH
    have HBL := Lib.hid hblk
    have HOW := Lib.hid hown
    have HN := Lib.hid hne
    have HF := Lib.hid hfv
    have HKW := Lib.hid hkw
    clear hblk hown hne hfv hkw hH
    by_cases hlt : 64 ≤ E.length - 64 * j
    · obtain ⟨g, o, cv', hv, _, hcv', _⟩ := HOW.out.form (by omega)
      simp only [Value.slice.injEq] at hv
      obtain ⟨rfl, _, rfl⟩ := hv
      obtain ⟨m, hm⟩ : ∃ m, m = E.length - 64 * j := ⟨_, rfl⟩
      rw [← hm] at HBL HOW hlt hcv' c8 HF HN
      have hgp : g ≠ p := fun e => HN.out (by simp [Value.ownBlock, e])
      have hch := (HOW.out.sl.mid (off := 0) (n := 64) (cap := cv) (by omega) (by omega) (by unfold maxLen; omega))
      simp only [Nat.add_zero, List.drop_zero] at hch
      have hchl : ((E.drop (64 * j)).take 64).length = 64 := by simp; omega
      have hch' : Bs wr _ ((E.drop (64 * j)).take 64) := hch.bs rfl hchl
      have HCH := Lib.hid hch'
      have HCL := Lib.hid hchl
      have HM := Lib.hid hm
      have hsl0 : Hid (sumLeft wr p = m) := Lib.hid (by unfold sumLeft; rw [c8])
      have hgl : g < wr.heap.size := HOW.out.sl.lt (by rw [bCells_length]; simp; omega)
      have hpl3 := HBL.out.lt
      clear hch hch' hchl hm
      have hm64 : (64 : Int) ≤ m := by omega
      go_wp2_with fail
      refine (shaBlock_any p _ _ _ _ wr HCH.out HCL.out HBL.out HH2.out).mono ?_
      rintro e w3 ⟨rfl, hb3, hk3⟩
      have hH3 := blockI_length (blocksI h0I E j) ((E.drop (64 * j)).take 64) HH2.out
      have c83 := hb3.cell 8
      have f83 := hb3.frozen 8
      rw [sum8 _ _ _ hH3] at c83
      have hown3 := HOW.out.keep hk3 (by
        intro b hb h
        simp only [Value.ownBlock, Option.some.injEq] at hb
        omega)
      have hkw3 : Keeps (fun k => F k ∨ w.heap.size ≤ k) w w3 := HKW.out.trans (hk3.mono (by
        intro k h
        have := HKW.out.size
        rcases h with h | h
        · exact .inl (h ▸ hF)
        · exact .inr (by omega)))
      have HB3 := Lib.hid hb3
      have HH3 := Lib.hid hH3
      have HO3 := Lib.hid hown3
      have HK3 := Lib.hid hkw3
      have C83 := Lib.hid c83
      clear hb3 hH3 hown3 hkw3 hk3 f8 c8
      have hstep : ∀ a n c, OwnO w3 0 5 (.slice a n c) n ((bCells (E.drop (64 * j))).drop 64) → n = m - 64 → ((Value.slice a n c).ownBlock = some g ∨ (Value.slice a n c).ownBlock = none) →
          (∃ (j : Nat) (va : Value), 64 * j ≤ E.length ∧ Blk (w3.setCell ⟨p, 8, none⟩ (.slice a n c)) p (wCells (blocksI h0I E j) ++ [va, .int .u64 E.length]) 78 ∧ OwnO (w3.setCell ⟨p, 8, none⟩ (.slice a n c)) 0 5 va (E.length - 64 * j) (bCells (E.drop (64 * j))) ∧
            va.ownBlock ≠ some p ∧ (∀ b, va.ownBlock = some b → F b ∨ w.heap.size ≤ b) ∧ Keeps (fun k => F k ∨ w.heap.size ≤ k) w (w3.setCell ⟨p, 8, none⟩ (.slice a n c))) ∧ sumLeft (w3.setCell ⟨p, 8, none⟩ (.slice a n c)) p < sumLeft wr p := by
        intro a n c hon hn hob
        have hm := HM.out
        refine ⟨⟨j + 1, .slice a n c, by omega, ?_, ?_, ?_, ?_, HK3.out.setCell (p := ⟨p, 8, none⟩) (.inl hF) _⟩, ?_⟩
        · have := HB3.out.set 8 (.slice a n c)
          rw [sumSet8 _ _ _ _ HH3.out] at this
          exact this
        · have := hon.keep (Keeps.one w3 p 8 (.slice a n c)) (fun b hb e => by
            rcases hob with h | h
            · rw [h] at hb; simp only [Option.some.injEq] at hb; omega
            · rw [h] at hb; cases hb)
          rw [show E.length - 64 * (j + 1) = n by omega, show E.drop (64 * (j + 1)) = (E.drop (64 * j)).drop 64 by rw [List.drop_drop]; rfl]
          simpa [bCells, List.map_drop] using this
        · intro e
          rcases hob with h | h
          · rw [h] at e; simp only [Option.some.injEq] at e; omega
          · rw [h] at e; cases e
        · intro b hb
          rcases hob with h | h
          · rw [h] at hb; simp only [Option.some.injEq] at hb; subst hb; exact HF.out _ rfl
          · rw [h] at hb; cases hb
        · rw [hsl0.out]
          unfold sumLeft
          rw [World.cell?_setCell_same (h := C83.out)]
          show n < m
          omega
      have HSTEP := Lib.hid hstep
      clear hstep
      by_cases hcc : cv = 64
      · subst hcc
        obtain rfl : m = 64 := by omega
        go_wp2_with fail
        refine HSTEP.out _ _ _ ?_ ?_ ?_
        · have hm := HM.out
          have : (bCells (E.drop (64 * j))).drop 64 = [] := List.drop_of_length_le (by rw [bCells_length]; simp; omega)
          rw [this]
          exact OwnO.nil _ _ _ _
        · rfl
        · first | exact .inl rfl | exact .inr rfl
      · have hcc' : ¬ ((64 : Int) = cv) := by omega
        go_wp2_with fail
        refine HSTEP.out _ _ _ (HO3.out.cut 64 hlt) rfl (.inl rfl)
    · have hjq : j = E.length / 64 := by omega
      go_wp2_with fail
      go_end0
      refine ⟨rfl, ⟨.inl hF, _, ?_, ?_, HN.out, HF.out⟩, HKW.out⟩
      · rw [← hE, ← hjq]; exact HBL.out
      · rw [← hE, ← hjq]; exact HOW.out
end Go.Proofs.Ytdmjliehobgknaa
