/- mac: the keys that a key has for labels, and the key of a password. -/
import Derived.Test.YtdmjliehobgknaaMac
import Derived.Test.YtdmjliehobgknaaConv
namespace Go.Proofs.Ytdmjliehobgknaa
set_option linter.unusedSimpArgs false
set_option linter.unusedVariables false
open Go.RowKit

theorem macB_length (key b : List UInt8) : (macB key b).length = 32 := digB_length _

/-- The key for a label. -/
def deriveB (k : List UInt8) (s : List UInt8) : List UInt8 := (macB k (s ++ [0, 1])).take 16
theorem deriveB_length (k s : List UInt8) : (deriveB k s).length = 16 := by simp [deriveB, macB_length]

theorem bs_take {w : World} {b o cap0 n0 : Nat} {l : List UInt8} (h : Bs w (.slice (some ⟨b, o, none⟩) n0 cap0) l) (n : Nat) (hn : n ≤ l.length) : Bs w (.slice (some ⟨b, o, none⟩) n cap0) (l.take n) := by
  obtain ⟨a, cap, e, h1, h2⟩ := h.form
  simp only [Value.slice.injEq] at e
  obtain ⟨_, rfl, rfl⟩ := e
  have := (h.mid (off := 0) (n := n) (cap := cap0) (by omega) (by omega) h2).bs (l' := l.take n) (by rw [List.drop_zero]) (by simp; omega)
  simpa using this

set_option maxHeartbeats 2000000 in
set_option maxRecDepth 100000 in
theorem macDerive_any (k : List UInt8) (s : ByteArray) (w : World) (hk : k.length = 16) (hs : s.size ≤ 100000) :
    Calls Try.prog 24 #[keyV k, .string s] w fun e w' => e = .returned (keyV (deriveB k s.data.toList)) ∧ Below w.heap.size w w' := by
  have B0 := Lib.hid ((Blk.new w (bCells k) 37).alloc (.cells zs16.toArray 37))
  have B1 : Hid (Blk ((w.alloc (.cells (bCells k).toArray 37)).alloc (.cells zs16.toArray 37)) (w.heap.size + 1) zs16 37) := Lib.hid (Blk.at_ (cs := zs16.toArray) (by simp))
  have HBb : Hid (Below w.heap.size w ((w.alloc (.cells (bCells k).toArray 37)).alloc (.cells zs16.toArray 37))) := Lib.hid (((Below.refl _ _).alloc (Nat.le_refl _) _).alloc (by simp) _)
  have HK := Lib.hid hk
  unfold keyV
  clear hk
  go_enter Try.func24, Try.ntmps24
  go_wp2_with ((with_reducible show wpList _ _ _ (⟨some 10, _, _, _, _, _⟩ :: _) _ _); refine wpList_conv rfl (.tmp 9) rfl (s := s) rfl (by omega) ?_)
  intro cap w1 hcv hb1 hz1
  have hB1 : Below w.heap.size w w1 := HBb.out.trans (hb1.mono (by omega))
  have HCV := Lib.hid hcv
  have HB1 := Lib.hid hB1
  have hp0 : Blk w1 w.heap.size (bCells k) 37 := B0.out.below hb1 (by omega)
  have hp1 : Blk w1 (w.heap.size + 1) zs16 37 := B1.out.below hb1 (by omega)
  have HP0 := Lib.hid hp0
  have HP1 := Lib.hid hp1
  have hz1' : w.heap.size + 3 ≤ w1.heap.size := by omega
  have hkb : Bs w1 (.slice (some ⟨w.heap.size, 0, none⟩) 16 16) k :=
    (hp0.bs (off := 0) (n := 16) (cap := 16) (by have := HK.out; omega) (Nat.le_refl _) (by unfold maxLen; decide)).bs (by rw [List.drop_zero, List.take_of_length_le (by have := HK.out; omega)]) HK.out
  have hcb : Bs w1 (.slice (some ⟨w.heap.size + 1 + 1, 0, none⟩) s.size cap) s.data.toList := hcv.sl
  have hlt : Bs (w1.alloc (.cells #[.int .u8 0, .int .u8 1] 5)) (.slice (some ⟨w1.heap.size, 0, none⟩) 2 2) [0, 1] := Bs.lit (w := w1) (cs := #[.int .u8 0, .int .u8 1]) [0, 1] rfl rfl (by decide)
  have hrs := Rs.two (T := 22) (hcb.alloc (.cells #[.int .u8 0, .int .u8 1] 5)) hlt
  rw [show (w1.alloc (.cells #[.int .u8 0, .int .u8 1] 5)).heap.size = w1.heap.size + 1 by simp] at hrs
  have HRS := Lib.hid hrs
  have HKB := Lib.hid ((hkb.alloc (.cells #[.int .u8 0, .int .u8 1] 5)).alloc (.cells #[.slice (some ⟨w.heap.size + 1 + 1, 0, none⟩) s.size cap, .slice (some ⟨w1.heap.size, 0, none⟩) 2 2] 22))
  clear hcv hb1 hz1 hB1 hp0 hp1 hkb hcb hrs B0 B1 HBb hlt
  go_wp2_with fail
  refine (macSum_any _ _ k [s.data.toList, [0, 1]] _ HKB.out HRS.out (by have := HK.out; omega) (by simp; omega) (by simp)).mono ?_
  rintro e w2 ⟨x2, rfl, ho2, hb2⟩
  rw [show [s.data.toList, [0, 1]].flatten = s.data.toList ++ [0, 1] by simp] at ho2
  obtain ⟨M, hM⟩ : ∃ M, M = macB k (s.data.toList ++ [0, 1]) := ⟨_, rfl⟩
  rw [← hM] at ho2
  have hMl : M.length = 32 := by rw [hM]; exact macB_length _ _
  have hMd : M.take 16 = deriveB k s.data.toList := by rw [hM]; rfl
  obtain ⟨g2, cap2, rest2, rfl, hg2, _, hc2, hm2⟩ := ho2.blk (by omega)
  have ht := bs_take ho2.bs 16 (by omega)
  rw [hMl] at hc2 ⊢
  have HT := Lib.hid ht
  have HMD := Lib.hid hMd
  have HML := Lib.hid hMl
  have hz2 := hb2.size
  simp at hz2
  have HB2 : Hid (Below w.heap.size w w2) := Lib.hid (((HB1.out.alloc (by omega) _).alloc (by simp; omega) _).trans (hb2.mono (by simp; omega)))
  have HP12 : Hid (Blk w2 (w.heap.size + 1) zs16 37) := Lib.hid (((HP1.out.alloc _).alloc _).below hb2 (by simp; omega))
  unfold maxLen at hm2
  clear ho2 hb2 ht hM hMl hMd
  go_wp2_with fail
  refine (key_any _ _ _ HT.out).mono ?_
  rw [show keyB (M.take 16) = (M.take 16, true) by rw [keyB, if_pos (by rw [List.length_take, HML.out]; rfl)], HMD.out]
  rintro e w3 ⟨rfl, hb3⟩
  obtain ⟨R, hR⟩ : ∃ R, R = deriveB k s.data.toList := ⟨_, rfl⟩
  rw [← hR]
  have hRl : (bCells R).length = 16 := by rw [bCells_length, hR]; exact deriveB_length _ _
  have HRL := Lib.hid hRl
  have hz3 := hb3.size
  have HB3 : Hid (Below w.heap.size w w3) := Lib.hid (HB2.out.trans (hb3.mono (by omega)))
  have HP13 : Hid (Blk w3 (w.heap.size + 1) zs16 37) := Lib.hid (HP12.out.below hb3 (by omega))
  have HZ3 := Lib.hid (Blk.new w3 zs16 37)
  have HRd := Lib.hid hR
  unfold keyV
  clear hb3 hRl hR HP0 HP1 HP12
  go_wp2_with ((with_reducible show wpList _ _ _ (⟨none, .store _ (.tmp 5) (.tmp 16), _, _, _, _⟩ :: _) _ _); refine wpList_stAgg rfl (.tmp 5) (.tmp 16) aggKey rfl rfl (vs := bCells R) rfl HRL.out HZ3.out (Nat.le_refl _) (bCells_one _) ?_)
  intro w4 h4 k4
  have h4' : Blk w4 w3.heap.size (bCells R) 37 := by simpa [zs16] using h4
  have H4 := Lib.hid h4'
  have HP14 : Hid (Blk w4 (w.heap.size + 1) zs16 37) := Lib.hid ((HP13.out.alloc _).keep k4 (by omega))
  have HB4 : Hid (Below w.heap.size w w4) := Lib.hid ((HB3.out.alloc (by omega) _).trans (k4.below (by omega)))
  have hz4 := k4.size
  simp at hz4
  clear h4 h4' k4
  go_wp2_with (first | ((with_reducible show wpList _ _ _ (⟨some 18, _, _, _, _, _⟩ :: _) _ _); refine wpList_ldAgg rfl (.tmp 5) aggKey rfl rfl (cs := bCells R) HRL.out H4.out.cellsAll ?_) | ((with_reducible show wpList _ _ _ (⟨none, .store _ (.tmp 4) (.tmp 18), _, _, _, _⟩ :: _) _ _); refine wpList_stAgg rfl (.tmp 4) (.tmp 18) aggKey rfl rfl (vs := bCells R) rfl HRL.out HP14.out (Nat.le_refl _) (bCells_one _) ?_))
  intro w5 h5 k5
  have h5' : Blk w5 (w.heap.size + 1) (bCells R) 37 := by simpa [zs16] using h5
  have H5 := Lib.hid h5'
  have HB5 : Hid (Below w.heap.size w w5) := Lib.hid (HB4.out.trans (k5.below (by omega)))
  clear h5 h5' k5
  go_wp2_with fail
  exact bodyPost_ret (results_agg rfl aggKey rfl (cs := bCells R) HRL.out H5.out.cellsAll) rfl ⟨by rw [← HRd.out], HB5.out⟩
end Go.Proofs.Ytdmjliehobgknaa
