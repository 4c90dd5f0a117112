/- The statement MacKeys: the keys of all keys and labels, and of all passwords, are the document's. -/
import Derived.Test.YtdmjliehobgknaaMacAlive
import Derived.Test.YtdmjliehobgknaaRef04b
import Derived.Test.YtdmjliehobgknaaRef03d
import Derived.Test.YtdmjliehobgknaaRefKs
import Derived.Test.YtdmjliehobgknaaShaParts
namespace Go.Proofs.Ytdmjliehobgknaa
set_option linter.unusedSimpArgs false
set_option linter.unusedVariables false
open Go.RowKit

theorem Ws.below {w w' : World} {v : Value} {l : List Int} (h : Ws w v l) (hb : Below w.heap.size w w') : Ws w' v l := Sl.below h hb
theorem Ws.drew {w : World} {v : Value} {l : List Int} (h : Ws w v l) : Ws w.drew v l := Sl.drew h
theorem Ws.alloc {w : World} {v : Value} {l : List Int} (h : Ws w v l) (o : Obj) : Ws (w.alloc o) v l := Sl.alloc h o

theorem agg16 : AggTy Try.prog 36 16 := AggTy.mk Try.underlying36 rfl (by kernel_rfl)

theorem Blk.bs16 {w : World} {b : Nat} {l : List UInt8} {T : TypeId} (h : Blk w b (bCells l) T) (hl : l.length = 16) : Bs w (.slice (some ⟨b, 0, Option.none⟩) 16 16) l :=
  (h.bs (off := 0) (n := 16) (cap := 16) (by omega) (Nat.le_refl _) (by unfold maxLen; decide)).bs (by rw [List.drop_zero, List.take_of_length_le (by omega)]) hl

set_option maxHeartbeats 4000000 in
set_option maxRecDepth 100000 in
theorem macKeys_walk (k : List UInt8) (label pw salt : ByteArray) (w : World) (hk : k.length = 16) :
    Calls Try.prog 7 #[keyV k, .string label, .string pw, .string salt] w fun e w' => e = .returned (.bool true) ∧ Below w.heap.size w w' := by
  have B0 := Lib.hid (Blk.new w (bCells k) 36)
  have HBb : Hid (Below w.heap.size w (w.alloc (.cells (bCells k).toArray 36))) := Lib.hid ((Below.refl _ _).alloc (Nat.le_refl _) _)
  have hkl : (bCells k).length = 16 := by rw [bCells_length, hk]
  have HKL := Lib.hid hkl
  have HK := Lib.hid hk
  unfold keyV
  clear hk hkl
  go_enter Try.func7, Try.ntmps7
  go_wp2_with fail
  refine (alive04_any _).mono ?_
  rintro e w1 ⟨rfl, hb1⟩
  have hz1 := hb1.size
  simp at hz1
  have HB1 : Hid (Below w.heap.size w w1) := Lib.hid (HBb.out.trans (hb1.mono (by simp)))
  have HK1 : Hid (Blk w1 w.heap.size (bCells k) 36) := Lib.hid (B0.out.below hb1 (by simp))
  clear hb1 HBb B0
  by_cases h1 : label.size ≤ 60
  · by_cases h2 : pw.size ≤ 60
    · by_cases h3 : salt.size ≤ 60
      · have h1' : ¬ (60 : Int) < label.size := by omega
        have h2' : ¬ (60 : Int) < pw.size := by omega
        have h3' : ¬ (60 : Int) < salt.size := by omega
        go_wp2_with fail
        refine (refKs_any w1 ks_eq).mono ?_
        rintro e w2 ⟨x2, rfl, ho2, hb2⟩
        obtain ⟨K, hK⟩ : ∃ K, K = kL := ⟨_, rfl⟩
        rw [← hK] at ho2
        have HKd := Lib.hid hK
        have H2 : Hid (Ws w2 x2 K) := Lib.hid ho2.sl
        have hz2 := hb2.size
        have HB2 : Hid (Below w.heap.size w w2) := Lib.hid (HB1.out.trans (hb2.mono (by omega)))
        have HK2 : Hid (Blk w2 w.heap.size (bCells k) 36) := Lib.hid (HK1.out.below hb2 (by omega))
        clear ho2 hb2 hK
        go_wp2_with ((with_reducible show wpList _ _ _ (⟨some 28, _, _, _, _, _⟩ :: _) _ _); refine wpList_ldAgg rfl (.tmp 4) agg16 rfl rfl (cs := bCells k) HKL.out HK2.out.cellsAll ?_)
        go_wp2_with fail
        refine (macDerive_any k label w2 HK.out (by omega)).mono ?_
        rintro e w3 ⟨rfl, hb3⟩
        obtain ⟨D1, hD1⟩ : ∃ D, D = deriveB k label.data.toList := ⟨_, rfl⟩
        rw [← hD1]
        have hD1l : (bCells D1).length = 16 := by rw [bCells_length, hD1]; exact deriveB_length _ _
        have HD1 := Lib.hid hD1
        have HD1L := Lib.hid hD1l
        have hz3 := hb3.size
        have HB3 : Hid (Below w.heap.size w w3) := Lib.hid (HB2.out.trans (hb3.mono (by omega)))
        have HK3 : Hid (Blk w3 w.heap.size (bCells k) 36) := Lib.hid (HK2.out.below hb3 (by omega))
        have H3 := Lib.hid (H2.out.below hb3)
        clear hb3 hD1 hD1l
        go_wp2_with fail
        refine (macText_any pw salt w3 (by omega) (by omega)).mono ?_
        rintro e w4 ⟨rfl, hb4⟩
        obtain ⟨D2, hD2⟩ : ∃ D, D = textB pw.data.toList salt.data.toList := ⟨_, rfl⟩
        rw [← hD2]
        have hD2l : (bCells D2).length = 16 := by rw [bCells_length, hD2]; exact textB_length _ _
        have HD2 := Lib.hid hD2
        have HD2L := Lib.hid hD2l
        have hz4 := hb4.size
        have HB4 : Hid (Below w.heap.size w w4) := Lib.hid (HB3.out.trans (hb4.mono (by omega)))
        have HK4 : Hid (Blk w4 w.heap.size (bCells k) 36) := Lib.hid (HK3.out.below hb4 (by omega))
        have H4 := Lib.hid (H3.out.below hb4)
        have HA := Lib.hid ((Blk.new w4 zs16 37).alloc (.cells zs16.toArray 37))
        have HBk : Hid (Blk ((w4.alloc (.cells zs16.toArray 37)).alloc (.cells zs16.toArray 37)) (w4.heap.size + 1) zs16 37) := Lib.hid (Blk.at_ (cs := zs16.toArray) (by simp))
        have HBB : Hid (Below w4.heap.size w4 ((w4.alloc (.cells zs16.toArray 37)).alloc (.cells zs16.toArray 37))) := Lib.hid (((Below.refl _ _).alloc (Nat.le_refl _) _).alloc (by simp) _)
        unfold keyV
        clear hb4 hD2 hD2l
        go_wp2_with ((with_reducible show wpList _ _ _ (⟨none, .store _ (.tmp 10) (.tmp 30), _, _, _, _⟩ :: _) _ _); refine wpList_stAgg rfl (.tmp 10) (.tmp 30) aggKey rfl rfl (vs := bCells D1) rfl HD1L.out HA.out (Nat.le_refl _) (bCells_one _) ?_)
        intro w5 h5 k5
        have HA5 : Hid (Blk w5 w4.heap.size (bCells D1) 37) := Lib.hid (by simpa [zs16] using h5)
        have HBk5 := Lib.hid (HBk.out.keep k5 (by omega))
        have HBB5 : Hid (Below w4.heap.size w4 w5) := Lib.hid (HBB.out.trans (k5.below (by omega)))
        clear h5 k5
        go_wp2_with ((with_reducible show wpList _ _ _ (⟨none, .store _ (.tmp 11) (.tmp 33), _, _, _, _⟩ :: _) _ _); refine wpList_stAgg rfl (.tmp 11) (.tmp 33) aggKey rfl rfl (vs := bCells D2) rfl HD2L.out HBk5.out (Nat.le_refl _) (bCells_one _) ?_)
        intro w6 h6 k6
        have HA6 := Lib.hid (HA5.out.keep k6 (by omega))
        have HBk6 : Hid (Blk w6 (w4.heap.size + 1) (bCells D2) 37) := Lib.hid (by simpa [zs16] using h6)
        have hBB6 : Below w4.heap.size w4 w6 := HBB5.out.trans (k6.below (by omega))
        have hz6 := hBB6.size
        have HB6 : Hid (Below w.heap.size w w6) := Lib.hid (HB4.out.trans (hBB6.mono (by omega)))
        have hK6 : Bs w6 (.slice (some ⟨w.heap.size, 0, none⟩) 16 16) k := (HK4.out.below hBB6 (by omega)).bs16 HK.out
        have hW6 : Ws w6 x2 K := H4.out.below hBB6
        have hS1 : Bs w6 (.slice (some ⟨w4.heap.size, 0, none⟩) 16 16) D1 := HA6.out.bs16 (by have := HD1L.out; rwa [bCells_length] at this)
        have hS2 : Bs w6 (.slice (some ⟨w4.heap.size + 1, 0, none⟩) 16 16) D2 := HBk6.out.bs16 (by have := HD2L.out; rwa [bCells_length] at this)
        clear h6 k6 hBB6
        go_upto_region 7 with fail
        go_cut [8] (fun s8 wx => s8 = .bool true ∧ Below w6.heap.size w6 wx)
        case first =>
          go_region_held3 (fun _ : World => True) (trivial) (first | (go_at_call 26; refine (refDerive_any _ _ K k label _ (by repeat (first | (with_reducible assumption) | (with_reducible refine Ws.drew ?_) | (with_reducible refine Ws.alloc ?_ _) | (apply Ws.below; rotate_left; assumption))) HKd.out (by repeat (first | (with_reducible assumption) | (with_reducible refine Bs.drew ?_) | (with_reducible refine Bs.alloc ?_ _) | (apply Bs.below; rotate_left; assumption))) (by rw [HK.out]; decide) (by omega)).mono ?_; rw [← HD1.out]; rintro e w' ⟨vo, rfl, hoo, hbo⟩) | (go_at_call 27; refine (refText_any _ K pw salt _ (by repeat (first | (with_reducible assumption) | (with_reducible refine Ws.drew ?_) | (with_reducible refine Ws.alloc ?_ _) | (apply Ws.below; rotate_left; assumption))) HKd.out (by omega) (by omega)).mono ?_; rw [← HD2.out]; rintro e w' ⟨vo, rfl, hoo, hbo⟩) | (go_at_call 14; (with_reducible show Calls _ _ #[Value.slice (some ⟨w4.heap.size, 0, none⟩) 16 16, _] _ _); refine (same_b _ _ D1 D1 _ (by repeat (first | (with_reducible assumption) | (with_reducible refine Bs.drew ?_) | (with_reducible refine Bs.alloc ?_ _) | (apply Bs.below; rotate_left; assumption))) (by repeat (first | (with_reducible assumption) | (with_reducible refine Bs.drew ?_) | (with_reducible refine Bs.alloc ?_ _) | (apply Bs.below; rotate_left; assumption)))).mono ?_; rintro e w' ⟨rfl, hbs⟩) | (go_at_call 14; (with_reducible show Calls _ _ #[Value.slice (some ⟨w4.heap.size + 1, 0, none⟩) 16 16, _] _ _); refine (same_b _ _ D2 D2 _ (by repeat (first | (with_reducible assumption) | (with_reducible refine Bs.drew ?_) | (with_reducible refine Bs.alloc ?_ _) | (apply Bs.below; rotate_left; assumption))) (by repeat (first | (with_reducible assumption) | (with_reducible refine Bs.drew ?_) | (with_reducible refine Bs.alloc ?_ _) | (apply Bs.below; rotate_left; assumption)))).mono ?_; rintro e w' ⟨rfl, hbs⟩))
          all_goals go_wp2_with fail
          all_goals go_meet
          all_goals exact ⟨rfl, by repeat (first | (with_reducible assumption) | (with_reducible refine belowDrew ?_) | (with_reducible refine belowAlloc ?_ _) | (with_reducible exact Below.refl _ _) | (apply belowStep; rotate_left; assumption))⟩
        case rest =>
        obtain ⟨rfl, hbW⟩ := hcut
        have HBW : Hid (Below w.heap.size w wc) := Lib.hid (HB6.out.trans (hbW.mono (by omega)))
        clear hbW
        go_wp2_with fail
        go_ret
        exact ⟨rfl, HBW.out⟩
      · have h1' : ¬ (60 : Int) < label.size := by omega
        have h2' : ¬ (60 : Int) < pw.size := by omega
        have h3' : (60 : Int) < salt.size := by omega
        go_wp2_with fail
        go_ret
        exact ⟨rfl, HB1.out⟩
    · have h1' : ¬ (60 : Int) < label.size := by omega
      have h2' : (60 : Int) < pw.size := by omega
      go_wp2_with fail
      go_ret
      exact ⟨rfl, HB1.out⟩
  · have h1' : (60 : Int) < label.size := by omega
    go_wp2_with fail
    go_ret
    exact ⟨rfl, HB1.out⟩
end Go.Proofs.Ytdmjliehobgknaa
