/- Contract: the document's Bytes. (Printed by wip/tools/genrefbytes.py.) -/
import Derived.Test.YtdmjliehobgknaaRefRight
import Derived.Test.YtdmjliehobgknaaDerWr
import Derived.Test.YtdmjliehobgknaaRef01b
namespace Go.Proofs.Ytdmjliehobgknaa
set_option linter.unusedSimpArgs false
set_option linter.unusedVariables false
open Go.RowKit

/-- What is asked of the bytes of a value. -/
def RbP (x : Tv) : Prop := ∀ (F : Nat → Prop) (cs : List Value) (w : World), TvF w F x cs → OkW x → (writeS x).length ≤ 1073741824 →
  Calls Try.prog 51 #[.agg cs.toArray] w (BdRes w (writeS x))

set_option maxHeartbeats 4000000 in
set_option maxRecDepth 100000 in
theorem refBytes_any : ∀ x : Tv, RbP x := by
  refine tv_ind (fun k t n b l ih => ?_)
  intro F cs w h ok hlen
  obtain ⟨bv, lv, rows, rfl, hb, _, hl, _, hls⟩ := h.open_
  have hw : writeS (.mk k t n b l) = headS k t (bodyOf k n b (writesS l)).length ++ bodyOf k n b (writesS l) := by rw [writeS]
  rw [hw] at hlen ⊢
  have hlen : (bodyOf k n b (writesS l)).length ≤ 1073741824 := by rw [List.length_append] at hlen; omega
  simp only [Tv.kind, Tv.tag, Tv.n, Tv.b, Tv.l] at *
  obtain ⟨hk, ht0, ht1, hn, hol⟩ := ok
  obtain ⟨ab, cb, rfl, hcb, hmb⟩ := hb.form
  obtain ⟨al, cl, rfl, hcl, hml⟩ := hl.form
  unfold maxLen at hmb hml
  have HL := Lib.hid hl
  have HLS := Lib.hid hls
  have HBS := Lib.hid hb
  have HIH := Lib.hid ih
  have HOL := Lib.hid hol
  have HLEN := Lib.hid hlen
  clear h hb hl hls ih hol hlen hw
  rcases hk with rfl | rfl | rfl
  · have hbd : bodyOf 0 n b (writesS l) = shortB n := rfl
    have hlen := HLEN.out
    obtain ⟨bd, hbd2⟩ : ∃ bd, bd = shortB n := ⟨_, rfl⟩
    rw [hbd, ← hbd2] at hlen ⊢
    have HN := Lib.hid hn
    have HQ0 : Hid (Blk (w.alloc (.cells #[.int .i64 0, .int .i64 t, .int .u64 n, .slice ab b.length cb, .slice al l.length cl] 50)) w.heap.size [.int .i64 0, .int .i64 t, .int .u64 n, .slice ab b.length cb, .slice al l.length cl] 50) := Lib.hid (Blk.new w _ _)
    have HSH := Lib.hid (refShort_any n (w.alloc (.cells #[.int .i64 0, .int .i64 t, .int .u64 n, .slice ab b.length cb, .slice al l.length cl] 50)) hn)
    rw [← hbd2] at HSH
    clear hbd hbd2 hn HLEN HBS
    go_enter Try.func51, Try.ntmps51
    go_wp2_with fail
    refine HSH.out.mono ?_
    rintro e W ⟨vi, rfl, ho, hB⟩
    obtain ⟨ai, ci, rfl, hci, hmi⟩ := ho.bs.form
    have HIN := Lib.hid ho.bs
    have HBW : Hid (Below w.heap.size w W) := Lib.hid (((Below.refl _ _).alloc (Nat.le_refl _) _).trans (hB.mono (by simp)))
    have HQ := Lib.hid (HQ0.out.below hB (by simp))
    have y0 : W.cell? ⟨w.heap.size, 0, none⟩ = some (.int .i64 0) := by rw [HQ.out.cell]; rfl
    have y1 : W.cell? ⟨w.heap.size, 1, none⟩ = some (.int .i64 t) := by rw [HQ.out.cell]; rfl
    have hblk : w.heap.size < W.heap.size := HQ.out.lt
    unfold maxLen at hmi
    clear ho hB HQ0 HSH
    have HG : Hid (bV (UInt8.ofNat ((0 : Int) * 64 + t).toNat) = .int .u8 (t)) := Lib.hid (by rw [bV_ofNat _ (by omega)]; congr 1; omega)
    have hzW := HBW.out.size
    have HBB := HBW
    by_cases hs : bd.length < 128
    · have hs' : (bd.length : Int) < 128 := by omega
      have HH : Hid (bCells (headS 0 t bd.length) = [.int .u8 (t)] ++ [.int .u8 bd.length] ∧ (headS 0 t bd.length).length = 1 + 1) := Lib.hid (by unfold headS; rw [if_pos hs]; exact ⟨by simp only [bCells, List.map_cons, List.map_nil, HG.out, bV_ofNat bd.length (show bd.length < 256 by omega)]; rfl, rfl⟩)
      have HO1 : Hid (Own ((W.alloc (.cells #[.int .u8 (t)] 5)).alloc (.cells #[.int .u8 bd.length] 5)) w.heap.size 5 1 (.slice (some ⟨W.heap.size, 0, none⟩) 1 1) 1 [.int .u8 (t)]) := Lib.hid ((Own.at_ (cs := #[.int .u8 (t)]) (by first | rfl | simp) (by omega) rfl (by simp [Value.oneCell']) (by decide)).alloc _)
      have HS1 : Hid (Sl ((W.alloc (.cells #[.int .u8 (t)] 5)).alloc (.cells #[.int .u8 bd.length] 5)) 1 (.slice (some ⟨W.heap.size + 1, 0, none⟩) 1 1) 1 [.int .u8 bd.length]) := Lib.hid (Sl.lit (n := 1) (cs := #[.int .u8 bd.length]) (by simp) rfl (by simp [Value.oneCell']) (by unfold maxLen; decide))
      have HBA : Hid (Below W.heap.size W ((W.alloc (.cells #[.int .u8 (t)] 5)).alloc (.cells #[.int .u8 bd.length] 5))) := Lib.hid (((Below.refl _ _).alloc (Nat.le_refl _) _).alloc (by simp) _)
      clear hs HG
      go_wp2_with ((with_reducible show wpList _ _ _ (⟨some 51, _, _, _, _, _⟩ :: _) _ _); refine wpList_app rfl (.tmp 47) (.tmp 50) elBytes rfl w.heap.size HO1.out HS1.out (by unfold maxLen; omega) (by omega) (by first | omega | (simp; done) | (simp; omega)) ?_)
      intro v1 w1 ho1 hk1 hv1
      have hb1 : Below W.heap.size W w1 := HBA.out.trans (hk1.below (by
        rintro i (h | h)
        · have := h.1
          simp [Value.ownBlock] at this
          try simp
          omega
        · try simp at h
          try simp
          omega))
      have hz1 := hb1.size
      have HO2 := Lib.hid ho1
      have HIN2 := Lib.hid (HIN.out.below hb1)
      have HB2 : Hid (Below w.heap.size w w1) := Lib.hid (HBB.out.trans (hb1.mono (by omega)))
      clear ho1 hk1 hv1 hb1 HO1 HS1
      go_wp2_with ((with_reducible show wpList _ _ _ (⟨some 66, _, _, _, _, _⟩ :: _) _ _); refine wpList_app rfl (.tmp 64) (.tmp 65) elBytes rfl w.heap.size HO2.out HIN2.out (by unfold maxLen; omega) (by omega) (by first | omega | (simp; done) | (simp; omega)) ?_)
      intro v2 w2 ho2 hk2 hv2
      have HO3 := Lib.hid ho2
      have HB3 : Hid (Below w.heap.size w w2) := Lib.hid (HB2.out.trans (hk2.below (by
        rintro i (h | h)
        · exact h.2
        · omega)))
      clear ho2 hk2 hv2
      go_wp2_with fail
      go_ret
      refine ⟨_, rfl, ?_, HB3.out⟩
      unfold Bs
      rw [bCells_append, HH.out.1, List.length_append, HH.out.2]
      exact HO3.out.sl
    · have hs' : ¬ (bd.length : Int) < 128 := by omega
      obtain ⟨sb, hsb⟩ : ∃ sb, sb = shortB bd.length := ⟨_, rfl⟩
      have hsf := shortB_few bd.length
      rw [← hsb] at hsf
      have hsf1 := hsf.1
      have hsf2 := hsf.2
      have HH : Hid (bCells (headS 0 t bd.length) = ([.int .u8 (t)] ++ [.int .u8 (128 + (sb.length : Int))]) ++ bCells sb ∧ (headS 0 t bd.length).length = 1 + 1 + sb.length) := Lib.hid (by
        unfold headS
        rw [if_neg hs, ← hsb]
        refine ⟨?_, by simp; omega⟩
        have h1 := bV_ofNat (128 + sb.length) (by omega)
        rw [show ((128 + sb.length : Nat) : Int) = 128 + (sb.length : Int) by omega] at h1
        simp only [bCells, List.map_cons, HG.out, h1]
        rfl)
      have HSZ := Lib.hid (refShort_any bd.length (W.alloc (.cells #[.int .u8 (t)] 5)) (by omega))
      rw [← hsb] at HSZ
      have HO1 : Hid (Own (W.alloc (.cells #[.int .u8 (t)] 5)) w.heap.size 5 1 (.slice (some ⟨W.heap.size, 0, none⟩) 1 1) 1 [.int .u8 (t)]) := Lib.hid (Own.at_ (cs := #[.int .u8 (t)]) (by first | rfl | simp) (by omega) rfl (by simp [Value.oneCell']) (by decide))
      have hzA : (W.alloc (.cells #[.int .u8 (t)] 5)).heap.size = W.heap.size + 1 := by simp
      have HZA := Lib.hid hzA
      have HBA : Hid (Below W.heap.size W (W.alloc (.cells #[.int .u8 (t)] 5))) := Lib.hid ((Below.refl _ _).alloc (Nat.le_refl _) _)
      have HWZ : Hid (W.heap.size = W.heap.size) := Lib.hid (by first | rfl | simp)
      clear hs HG hsb hsf hzA
      go_wp2_with fail
      refine HSZ.out.mono ?_
      rintro e w3 ⟨vs, rfl, ho3, hB3⟩
      obtain ⟨g, c3, rest3, rfl, hg, hblk3, hc3, hm3⟩ := ho3.blk hsf2
      have hg3 := hblk3.lt
      have hz3 := hB3.size
      rw [HZA.out] at hg hz3
      have HSO : Hid (Own (w3.alloc (.cells #[.int .u8 (128 + (sb.length : Int))] 5)) (W.alloc (.cells #[.int .u8 (t)] 5)).heap.size 5 1 (.slice (some ⟨g, 0, none⟩) sb.length c3) sb.length (bCells sb)) := Lib.hid (Own.alloc ho3 _)
      have HO3 : Hid (Own (w3.alloc (.cells #[.int .u8 (128 + (sb.length : Int))] 5)) w.heap.size 5 1 (.slice (some ⟨W.heap.size, 0, none⟩) 1 1) 1 [.int .u8 (t)]) := Lib.hid ((HO1.out.below hB3).alloc _)
      have HS3 : Hid (Sl (w3.alloc (.cells #[.int .u8 (128 + (sb.length : Int))] 5)) 1 (.slice (some ⟨w3.heap.size, 0, none⟩) 1 1) 1 [.int .u8 (128 + (sb.length : Int))]) := Lib.hid (Sl.lit (n := 1) (cs := #[.int .u8 (128 + (sb.length : Int))]) rfl rfl (by simp [Value.oneCell']) (by unfold maxLen; decide))
      have HBX : Hid (Below W.heap.size W (w3.alloc (.cells #[.int .u8 (128 + (sb.length : Int))] 5))) := Lib.hid ((HBA.out.trans (hB3.mono (by have := HZA.out; have := HWZ.out; omega))).alloc (by have := HWZ.out; omega) _)
      unfold maxLen at hm3
      clear ho3 hB3 hblk3 HO1 HSZ
      go_wp2_with ((with_reducible show wpList _ _ _ (⟨some 61, _, _, _, _, _⟩ :: _) _ _); refine wpList_app rfl (.tmp 55) (.tmp 60) elBytes rfl w.heap.size HO3.out HS3.out (by unfold maxLen; omega) (by omega) (by first | omega | (simp; done) | (simp; omega)) ?_)
      intro v4 w4 ho4 hk4 hv4
      have hb4 : Below W.heap.size W w4 := HBX.out.trans (hk4.below (by
        have hwz := HWZ.out
        rintro i (h | h)
        · have := h.1
          simp [Value.ownBlock] at this
          omega
        · try rw [World.size_alloc] at h
          omega))
      have HS4 : Hid (Sl w4 1 (.slice (some ⟨g, 0, none⟩) sb.length c3) sb.length (bCells sb)) := Lib.hid (Own.sl (HSO.out.keep hk4 (by
        intro b hb h
        simp [Value.ownBlock] at hb
        rcases h with h | h
        · have := h.1
          simp [Value.ownBlock] at this
          omega
        · try rw [World.size_alloc] at h
          omega)))
      have hvz : ∀ i, v4.ownBlock = some i → W.heap.size ≤ i := fun i hi => by
        have hwz := HWZ.out
        rcases hv4 i hi with h | h
        · simp [Value.ownBlock] at h
          omega
        · try rw [World.size_alloc] at h
          omega
      have HVZ := Lib.hid hvz
      have HO4 := Lib.hid ho4
      have HB4 := Lib.hid hb4
      have hzb : w.heap.size ≤ w4.heap.size := by have := hb4.size; have := HWZ.out; omega
      clear ho4 hk4 hv4 hb4 HO3 HS3 HSO HBX hvz
      go_wp2_with ((with_reducible show wpList _ _ _ (⟨some 63, _, _, _, _, _⟩ :: _) _ _); refine wpList_app rfl (.tmp 61) (.tmp 62) elBytes rfl w.heap.size HO4.out HS4.out (by unfold maxLen; omega) (by omega) (by first | omega | (simp; done) | (simp; omega)) ?_)
      intro v5 w5 ho5 hk5 hv5
      have hb5 : Below W.heap.size W w5 := HB4.out.trans (hk5.below (by
        have := HB4.out.size
        rintro i (h | h)
        · exact HVZ.out i h.1
        · omega))
      have HO5 := Lib.hid ho5
      have HIN5 := Lib.hid (HIN.out.below hb5)
      have HB5 : Hid (Below w.heap.size w w5) := Lib.hid (HBB.out.trans (hb5.mono (by have := HWZ.out; omega)))
      have hzc : w.heap.size ≤ w5.heap.size := HB5.out.size
      clear ho5 hk5 hv5 hb5 HO4 HS4
      go_wp2_with ((with_reducible show wpList _ _ _ (⟨some 66, _, _, _, _, _⟩ :: _) _ _); refine wpList_app rfl (.tmp 64) (.tmp 65) elBytes rfl w.heap.size HO5.out HIN5.out (by unfold maxLen; omega) (by omega) (by first | omega | (simp; done) | (simp; omega)) ?_)
      intro v6 w6 ho6 hk6 hv6
      have HO6 := Lib.hid ho6
      have HB6 : Hid (Below w.heap.size w w6) := Lib.hid (HB5.out.trans (hk6.below (by
        rintro i (h | h)
        · exact h.2
        · omega)))
      clear ho6 hk6 hv6
      go_wp2_with fail
      go_ret
      refine ⟨_, rfl, ?_, HB6.out⟩
      unfold Bs
      rw [bCells_append, HH.out.1, List.length_append, HH.out.2]
      exact HO6.out.sl
  · have hbd : bodyOf 1 n b (writesS l) = b := rfl
    have hlen := HLEN.out
    rw [hbd] at hlen ⊢
    have HIN := Lib.hid (HBS.out.alloc (.cells #[.int .i64 1, .int .i64 t, .int .u64 n, .slice ab b.length cb, .slice al l.length cl] 50))
    have HBW : Hid (Below w.heap.size w (w.alloc (.cells #[.int .i64 1, .int .i64 t, .int .u64 n, .slice ab b.length cb, .slice al l.length cl] 50))) := Lib.hid ((Below.refl _ _).alloc (Nat.le_refl _) _)
    clear hbd hn HLEN HBS
    rename List UInt8 => bd
    have HG : Hid (bV (UInt8.ofNat ((1 : Int) * 64 + t).toNat) = .int .u8 (64 + t)) := Lib.hid (by rw [bV_ofNat _ (by omega)]; congr 1; omega)
    have hzW := HBW.out.size
    have HBB := HBW
    by_cases hs : bd.length < 128
    · have hs' : (bd.length : Int) < 128 := by omega
      have HH : Hid (bCells (headS 1 t bd.length) = [.int .u8 (64 + t)] ++ [.int .u8 bd.length] ∧ (headS 1 t bd.length).length = 1 + 1) := Lib.hid (by unfold headS; rw [if_pos hs]; exact ⟨by simp only [bCells, List.map_cons, List.map_nil, HG.out, bV_ofNat bd.length (show bd.length < 256 by omega)]; rfl, rfl⟩)
      have HO1 : Hid (Own (((w.alloc (.cells #[.int .i64 1, .int .i64 t, .int .u64 n, .slice ab bd.length cb, .slice al l.length cl] 50)).alloc (.cells #[.int .u8 (64 + t)] 5)).alloc (.cells #[.int .u8 bd.length] 5)) w.heap.size 5 1 (.slice (some ⟨(w.heap.size + 1), 0, none⟩) 1 1) 1 [.int .u8 (64 + t)]) := Lib.hid ((Own.at_ (cs := #[.int .u8 (64 + t)]) (by first | rfl | simp) (by omega) rfl (by simp [Value.oneCell']) (by decide)).alloc _)
      have HS1 : Hid (Sl (((w.alloc (.cells #[.int .i64 1, .int .i64 t, .int .u64 n, .slice ab bd.length cb, .slice al l.length cl] 50)).alloc (.cells #[.int .u8 (64 + t)] 5)).alloc (.cells #[.int .u8 bd.length] 5)) 1 (.slice (some ⟨(w.heap.size + 1) + 1, 0, none⟩) 1 1) 1 [.int .u8 bd.length]) := Lib.hid (Sl.lit (n := 1) (cs := #[.int .u8 bd.length]) (by simp) rfl (by simp [Value.oneCell']) (by unfold maxLen; decide))
      have HBA : Hid (Below (w.alloc (.cells #[.int .i64 1, .int .i64 t, .int .u64 n, .slice ab bd.length cb, .slice al l.length cl] 50)).heap.size (w.alloc (.cells #[.int .i64 1, .int .i64 t, .int .u64 n, .slice ab bd.length cb, .slice al l.length cl] 50)) (((w.alloc (.cells #[.int .i64 1, .int .i64 t, .int .u64 n, .slice ab bd.length cb, .slice al l.length cl] 50)).alloc (.cells #[.int .u8 (64 + t)] 5)).alloc (.cells #[.int .u8 bd.length] 5))) := Lib.hid (((Below.refl _ _).alloc (Nat.le_refl _) _).alloc (by simp) _)
      clear hs HG
      go_enter Try.func51, Try.ntmps51
      go_wp2_with ((with_reducible show wpList _ _ _ (⟨some 51, _, _, _, _, _⟩ :: _) _ _); refine wpList_app rfl (.tmp 47) (.tmp 50) elBytes rfl w.heap.size HO1.out HS1.out (by unfold maxLen; omega) (by omega) (by first | omega | (simp; done) | (simp; omega)) ?_)
      intro v1 w1 ho1 hk1 hv1
      have hb1 : Below (w.alloc (.cells #[.int .i64 1, .int .i64 t, .int .u64 n, .slice ab bd.length cb, .slice al l.length cl] 50)).heap.size (w.alloc (.cells #[.int .i64 1, .int .i64 t, .int .u64 n, .slice ab bd.length cb, .slice al l.length cl] 50)) w1 := HBA.out.trans (hk1.below (by
        rintro i (h | h)
        · have := h.1
          simp [Value.ownBlock] at this
          try simp
          omega
        · try simp at h
          try simp
          omega))
      have hz1 := hb1.size
      have HO2 := Lib.hid ho1
      have HIN2 := Lib.hid (HIN.out.below hb1)
      have HB2 : Hid (Below w.heap.size w w1) := Lib.hid (HBB.out.trans (hb1.mono (by omega)))
      clear ho1 hk1 hv1 hb1 HO1 HS1
      go_wp2_with ((with_reducible show wpList _ _ _ (⟨some 66, _, _, _, _, _⟩ :: _) _ _); refine wpList_app rfl (.tmp 64) (.tmp 65) elBytes rfl w.heap.size HO2.out HIN2.out (by unfold maxLen; omega) (by omega) (by first | omega | (simp; done) | (simp; omega)) ?_)
      intro v2 w2 ho2 hk2 hv2
      have HO3 := Lib.hid ho2
      have HB3 : Hid (Below w.heap.size w w2) := Lib.hid (HB2.out.trans (hk2.below (by
        rintro i (h | h)
        · exact h.2
        · omega)))
      clear ho2 hk2 hv2
      go_wp2_with fail
      go_ret
      refine ⟨_, rfl, ?_, HB3.out⟩
      unfold Bs
      rw [bCells_append, HH.out.1, List.length_append, HH.out.2]
      exact HO3.out.sl
    · have hs' : ¬ (bd.length : Int) < 128 := by omega
      obtain ⟨sb, hsb⟩ : ∃ sb, sb = shortB bd.length := ⟨_, rfl⟩
      have hsf := shortB_few bd.length
      rw [← hsb] at hsf
      have hsf1 := hsf.1
      have hsf2 := hsf.2
      have HH : Hid (bCells (headS 1 t bd.length) = ([.int .u8 (64 + t)] ++ [.int .u8 (128 + (sb.length : Int))]) ++ bCells sb ∧ (headS 1 t bd.length).length = 1 + 1 + sb.length) := Lib.hid (by
        unfold headS
        rw [if_neg hs, ← hsb]
        refine ⟨?_, by simp; omega⟩
        have h1 := bV_ofNat (128 + sb.length) (by omega)
        rw [show ((128 + sb.length : Nat) : Int) = 128 + (sb.length : Int) by omega] at h1
        simp only [bCells, List.map_cons, HG.out, h1]
        rfl)
      have HSZ := Lib.hid (refShort_any bd.length ((w.alloc (.cells #[.int .i64 1, .int .i64 t, .int .u64 n, .slice ab bd.length cb, .slice al l.length cl] 50)).alloc (.cells #[.int .u8 (64 + t)] 5)) (by omega))
      rw [← hsb] at HSZ
      have HO1 : Hid (Own ((w.alloc (.cells #[.int .i64 1, .int .i64 t, .int .u64 n, .slice ab bd.length cb, .slice al l.length cl] 50)).alloc (.cells #[.int .u8 (64 + t)] 5)) w.heap.size 5 1 (.slice (some ⟨(w.heap.size + 1), 0, none⟩) 1 1) 1 [.int .u8 (64 + t)]) := Lib.hid (Own.at_ (cs := #[.int .u8 (64 + t)]) (by first | rfl | simp) (by omega) rfl (by simp [Value.oneCell']) (by decide))
      have hzA : ((w.alloc (.cells #[.int .i64 1, .int .i64 t, .int .u64 n, .slice ab bd.length cb, .slice al l.length cl] 50)).alloc (.cells #[.int .u8 (64 + t)] 5)).heap.size = (w.heap.size + 1) + 1 := by simp
      have HZA := Lib.hid hzA
      have HBA : Hid (Below (w.alloc (.cells #[.int .i64 1, .int .i64 t, .int .u64 n, .slice ab bd.length cb, .slice al l.length cl] 50)).heap.size (w.alloc (.cells #[.int .i64 1, .int .i64 t, .int .u64 n, .slice ab bd.length cb, .slice al l.length cl] 50)) ((w.alloc (.cells #[.int .i64 1, .int .i64 t, .int .u64 n, .slice ab bd.length cb, .slice al l.length cl] 50)).alloc (.cells #[.int .u8 (64 + t)] 5))) := Lib.hid ((Below.refl _ _).alloc (Nat.le_refl _) _)
      have HWZ : Hid ((w.alloc (.cells #[.int .i64 1, .int .i64 t, .int .u64 n, .slice ab bd.length cb, .slice al l.length cl] 50)).heap.size = (w.heap.size + 1)) := Lib.hid (by first | rfl | simp)
      clear hs HG hsb hsf hzA
      go_enter Try.func51, Try.ntmps51
      go_wp2_with fail
      refine HSZ.out.mono ?_
      rintro e w3 ⟨vs, rfl, ho3, hB3⟩
      obtain ⟨g, c3, rest3, rfl, hg, hblk3, hc3, hm3⟩ := ho3.blk hsf2
      have hg3 := hblk3.lt
      have hz3 := hB3.size
      rw [HZA.out] at hg hz3
      have HSO : Hid (Own (w3.alloc (.cells #[.int .u8 (128 + (sb.length : Int))] 5)) ((w.alloc (.cells #[.int .i64 1, .int .i64 t, .int .u64 n, .slice ab bd.length cb, .slice al l.length cl] 50)).alloc (.cells #[.int .u8 (64 + t)] 5)).heap.size 5 1 (.slice (some ⟨g, 0, none⟩) sb.length c3) sb.length (bCells sb)) := Lib.hid (Own.alloc ho3 _)
      have HO3 : Hid (Own (w3.alloc (.cells #[.int .u8 (128 + (sb.length : Int))] 5)) w.heap.size 5 1 (.slice (some ⟨(w.heap.size + 1), 0, none⟩) 1 1) 1 [.int .u8 (64 + t)]) := Lib.hid ((HO1.out.below hB3).alloc _)
      have HS3 : Hid (Sl (w3.alloc (.cells #[.int .u8 (128 + (sb.length : Int))] 5)) 1 (.slice (some ⟨w3.heap.size, 0, none⟩) 1 1) 1 [.int .u8 (128 + (sb.length : Int))]) := Lib.hid (Sl.lit (n := 1) (cs := #[.int .u8 (128 + (sb.length : Int))]) rfl rfl (by simp [Value.oneCell']) (by unfold maxLen; decide))
      have HBX : Hid (Below (w.alloc (.cells #[.int .i64 1, .int .i64 t, .int .u64 n, .slice ab bd.length cb, .slice al l.length cl] 50)).heap.size (w.alloc (.cells #[.int .i64 1, .int .i64 t, .int .u64 n, .slice ab bd.length cb, .slice al l.length cl] 50)) (w3.alloc (.cells #[.int .u8 (128 + (sb.length : Int))] 5))) := Lib.hid ((HBA.out.trans (hB3.mono (by have := HZA.out; have := HWZ.out; omega))).alloc (by have := HWZ.out; omega) _)
      unfold maxLen at hm3
      clear ho3 hB3 hblk3 HO1 HSZ
      go_wp2_with ((with_reducible show wpList _ _ _ (⟨some 61, _, _, _, _, _⟩ :: _) _ _); refine wpList_app rfl (.tmp 55) (.tmp 60) elBytes rfl w.heap.size HO3.out HS3.out (by unfold maxLen; omega) (by omega) (by first | omega | (simp; done) | (simp; omega)) ?_)
      intro v4 w4 ho4 hk4 hv4
      have hb4 : Below (w.alloc (.cells #[.int .i64 1, .int .i64 t, .int .u64 n, .slice ab bd.length cb, .slice al l.length cl] 50)).heap.size (w.alloc (.cells #[.int .i64 1, .int .i64 t, .int .u64 n, .slice ab bd.length cb, .slice al l.length cl] 50)) w4 := HBX.out.trans (hk4.below (by
        have hwz := HWZ.out
        rintro i (h | h)
        · have := h.1
          simp [Value.ownBlock] at this
          omega
        · try rw [World.size_alloc] at h
          omega))
      have HS4 : Hid (Sl w4 1 (.slice (some ⟨g, 0, none⟩) sb.length c3) sb.length (bCells sb)) := Lib.hid (Own.sl (HSO.out.keep hk4 (by
        intro b hb h
        simp [Value.ownBlock] at hb
        rcases h with h | h
        · have := h.1
          simp [Value.ownBlock] at this
          omega
        · try rw [World.size_alloc] at h
          omega)))
      have hvz : ∀ i, v4.ownBlock = some i → (w.alloc (.cells #[.int .i64 1, .int .i64 t, .int .u64 n, .slice ab bd.length cb, .slice al l.length cl] 50)).heap.size ≤ i := fun i hi => by
        have hwz := HWZ.out
        rcases hv4 i hi with h | h
        · simp [Value.ownBlock] at h
          omega
        · try rw [World.size_alloc] at h
          omega
      have HVZ := Lib.hid hvz
      have HO4 := Lib.hid ho4
      have HB4 := Lib.hid hb4
      have hzb : w.heap.size ≤ w4.heap.size := by have := hb4.size; have := HWZ.out; omega
      clear ho4 hk4 hv4 hb4 HO3 HS3 HSO HBX hvz
      go_wp2_with ((with_reducible show wpList _ _ _ (⟨some 63, _, _, _, _, _⟩ :: _) _ _); refine wpList_app rfl (.tmp 61) (.tmp 62) elBytes rfl w.heap.size HO4.out HS4.out (by unfold maxLen; omega) (by omega) (by first | omega | (simp; done) | (simp; omega)) ?_)
      intro v5 w5 ho5 hk5 hv5
      have hb5 : Below (w.alloc (.cells #[.int .i64 1, .int .i64 t, .int .u64 n, .slice ab bd.length cb, .slice al l.length cl] 50)).heap.size (w.alloc (.cells #[.int .i64 1, .int .i64 t, .int .u64 n, .slice ab bd.length cb, .slice al l.length cl] 50)) w5 := HB4.out.trans (hk5.below (by
        have := HB4.out.size
        rintro i (h | h)
        · exact HVZ.out i h.1
        · omega))
      have HO5 := Lib.hid ho5
      have HIN5 := Lib.hid (HIN.out.below hb5)
      have HB5 : Hid (Below w.heap.size w w5) := Lib.hid (HBB.out.trans (hb5.mono (by have := HWZ.out; omega)))
      have hzc : w.heap.size ≤ w5.heap.size := HB5.out.size
      clear ho5 hk5 hv5 hb5 HO4 HS4
      go_wp2_with ((with_reducible show wpList _ _ _ (⟨some 66, _, _, _, _, _⟩ :: _) _ _); refine wpList_app rfl (.tmp 64) (.tmp 65) elBytes rfl w.heap.size HO5.out HIN5.out (by unfold maxLen; omega) (by omega) (by first | omega | (simp; done) | (simp; omega)) ?_)
      intro v6 w6 ho6 hk6 hv6
      have HO6 := Lib.hid ho6
      have HB6 : Hid (Below w.heap.size w w6) := Lib.hid (HB5.out.trans (hk6.below (by
        rintro i (h | h)
        · exact h.2
        · omega)))
      clear ho6 hk6 hv6
      go_wp2_with fail
      go_ret
      refine ⟨_, rfl, ?_, HB6.out⟩
      unfold Bs
      rw [bCells_append, HH.out.1, List.length_append, HH.out.2]
      exact HO6.out.sl
  · have hbd : bodyOf 2 n b (writesS l) = writesS l := rfl
    have hlen := HLEN.out
    rw [hbd] at hlen ⊢
    have HLEN := Lib.hid hlen
    obtain ⟨bd, hbd2⟩ : ∃ bd, bd = writesS l := ⟨_, rfl⟩
    rw [← hbd2]
    have HBD := Lib.hid hbd2
    have HBB0 : Hid (Below w.heap.size w (w.alloc (.cells #[.int .i64 2, .int .i64 t, .int .u64 n, .slice ab b.length cb, .slice al l.length cl] 50))) := Lib.hid ((Below.refl _ _).alloc (Nat.le_refl _) _)
    have HQ0 : Hid (Blk (w.alloc (.cells #[.int .i64 2, .int .i64 t, .int .u64 n, .slice ab b.length cb, .slice al l.length cl] 50)) w.heap.size [.int .i64 2, .int .i64 t, .int .u64 n, .slice ab b.length cb, .slice al l.length cl] 50) := Lib.hid (Blk.new w _ _)
    clear hbd hbd2 hn HBS hlen
    go_enter Try.func51, Try.ntmps51
    go_wp2_with fail
    go_loopw [3, 4] (fun o i wr => ∃ k : Nat, k ≤ l.length ∧ i = .int .i64 k ∧ OwnBs wr w.heap.size o (writesS (l.take k)) ∧ Blk wr w.heap.size [.int .i64 2, .int .i64 t, .int .u64 n, .slice ab b.length cb, .slice al l.length cl] 50 ∧ Below w.heap.size w wr ∧ (∀ i, o.ownBlock = some i → w.heap.size < i)) (fun _ i _ => l.length - (intOf i).toNat)
    case atStart => exact ⟨0, Nat.zero_le _, rfl, Own.nil _ _ _ _ _, HQ0.out.alloc _, HBB0.out.alloc (by simp) _, by simp [Value.ownBlock]⟩
    case round =>
      obtain ⟨j, hj, rfl, hown, hq, hB, hob⟩ := hrel
      have HB := Lib.hid hB
      have HQ := Lib.hid hq
      have HO := Lib.hid hown
      have HOB := Lib.hid hob
      have hzr := hB.size
      have hl4 : wr.cell? ⟨w.heap.size, 4, none⟩ = some (.slice al l.length cl) := by rw [hq.cell]; rfl
      have hblk : w.heap.size < wr.heap.size := hq.lt
      by_cases hlt : j < l.length
      · obtain ⟨bl, ol, rfl, _⟩ := HL.out.addr (by rw [HL.out.1]; omega)
        obtain ⟨r, hr, hrc⟩ := HLS.out.cells HL.out j hlt
        have hcr : CellsAt wr bl (ol + j * 5) r := fun i u hi => below_cell hB (hrc i u hi)
        have hst := writesS_take l j hlt
        have hle := writeS_mem_le l j hlt
        have hji : (j : Int) < l.length := by omega
        have hih := HIH.out l[j] (List.getElem_mem hlt)
        have hok := HOL.out.mem l[j] (List.getElem_mem hlt)
        generalize l[j] = y at hr hst hle hih hok
        have HRL := Lib.hid hr.length
        have HCR := Lib.hid hcr
        have HST := Lib.hid hst
        have HLE := Lib.hid hle
        have HCALL := Lib.hid (hih _ r wr (hr.below hB) hok (by have := HLEN.out; omega))
        clear hr hrc hcr hst hle hB hown hih hok hq hob
        go_wp2_with ((with_reducible show wpList _ _ _ (⟨some 32, _, _, _, _, _⟩ :: _) _ _); refine wpList_ldAgg rfl (.tmp 31) aggRef rfl rfl (cs := r) HRL.out HCR.out ?_)
        refine HCALL.out.mono ?_
        rintro e w4 ⟨v4, rfl, hs4, hb4⟩
        have hz4 := hb4.size
        have HQ4 := Lib.hid (HQ.out.below hb4 hblk)
        have HB4 : Hid (Below w.heap.size w w4) := Lib.hid (HB.out.trans (hb4.mono (by omega)))
        have HO4 := Lib.hid (Own.below HO.out hb4)
        have HS4 := Lib.hid hs4
        have hl1 := HLE.out
        have hl2 := HLEN.out
        have hle' : (writesS (l.take j)).length + (writeS y).length ≤ 1073741824 := by omega
        clear hs4 hb4 HCALL HQ HB HO hl4 hl1 hl2
        go_wp2_with ((with_reducible show wpList _ _ _ (⟨some 34, _, _, _, _, _⟩ :: _) _ _); refine wpList_app rfl (.tmp 27) (.tmp 33) elBytes rfl w.heap.size HO4.out HS4.out (by unfold maxLen; omega) (by omega) (by omega) ?_)
        intro v5 w5 ho5 hk5 hv5
        have HB5 : Hid (Below w.heap.size w w5) := Lib.hid (HB4.out.trans (hk5.below (by rintro b (h | h); exact h.2; omega)))
        have HQ5 := Lib.hid (HQ4.out.keep hk5 (by
          rintro (h | h)
          · have := HOB.out _ h.1; omega
          · omega))
        have HOB5 : Hid (∀ i, v5.ownBlock = some i → w.heap.size < i) := Lib.hid (fun i hi => by
          rcases hv5 i hi with h | h
          · exact HOB.out i h
          · omega)
        have HO5 : Hid (OwnBs w5 w.heap.size v5 (writesS (l.take (j + 1)))) := Lib.hid (by
          rw [HST.out]
          unfold OwnBs
          rw [bCells_append, List.length_append]
          exact ho5)
        clear ho5 hk5 hv5 HO4 HS4 HB4 HQ4
        go_wp2_with fail
        go_roundw
        case rel => exact ⟨j + 1, by omega, by go_num, HO5.out, HQ5.out, HB5.out, HOB5.out⟩
        case measure => simp [intOf]; omega
      · obtain rfl : j = l.length := by omega
        rw [List.take_length] at hown
        have hlen := HLEN.out
        rw [← HBD.out] at hown hlen
        obtain ⟨ai, ci, rfl, hci, hmi⟩ := hown.bs.form
        have HIN := Lib.hid hown.bs
        have y0 : wr.cell? ⟨w.heap.size, 0, none⟩ = some (.int .i64 2) := by rw [hq.cell]; rfl
        have y1 : wr.cell? ⟨w.heap.size, 1, none⟩ = some (.int .i64 t) := by rw [hq.cell]; rfl
        have HBW := HB
        unfold maxLen at hmi
        clear hown hB hq hob HBD HO HQ HQ0 HBB0 HB HLEN HOB
        have HG : Hid (bV (UInt8.ofNat ((2 : Int) * 64 + t).toNat) = .int .u8 (128 + t)) := Lib.hid (by rw [bV_ofNat _ (by omega)]; congr 1; omega)
        have hzW := HBW.out.size
        have HBB := HBW
        by_cases hs : bd.length < 128
        · have hs' : (bd.length : Int) < 128 := by omega
          have HH : Hid (bCells (headS 2 t bd.length) = [.int .u8 (128 + t)] ++ [.int .u8 bd.length] ∧ (headS 2 t bd.length).length = 1 + 1) := Lib.hid (by unfold headS; rw [if_pos hs]; exact ⟨by simp only [bCells, List.map_cons, List.map_nil, HG.out, bV_ofNat bd.length (show bd.length < 256 by omega)]; rfl, rfl⟩)
          have HO1 : Hid (Own ((wr.alloc (.cells #[.int .u8 (128 + t)] 5)).alloc (.cells #[.int .u8 bd.length] 5)) w.heap.size 5 1 (.slice (some ⟨wr.heap.size, 0, none⟩) 1 1) 1 [.int .u8 (128 + t)]) := Lib.hid ((Own.at_ (cs := #[.int .u8 (128 + t)]) (by first | rfl | simp) (by omega) rfl (by simp [Value.oneCell']) (by decide)).alloc _)
          have HS1 : Hid (Sl ((wr.alloc (.cells #[.int .u8 (128 + t)] 5)).alloc (.cells #[.int .u8 bd.length] 5)) 1 (.slice (some ⟨wr.heap.size + 1, 0, none⟩) 1 1) 1 [.int .u8 bd.length]) := Lib.hid (Sl.lit (n := 1) (cs := #[.int .u8 bd.length]) (by simp) rfl (by simp [Value.oneCell']) (by unfold maxLen; decide))
          have HBA : Hid (Below wr.heap.size wr ((wr.alloc (.cells #[.int .u8 (128 + t)] 5)).alloc (.cells #[.int .u8 bd.length] 5))) := Lib.hid (((Below.refl _ _).alloc (Nat.le_refl _) _).alloc (by simp) _)
          clear hs HG
          go_wp2_with ((with_reducible show wpList _ _ _ (⟨some 51, _, _, _, _, _⟩ :: _) _ _); refine wpList_app rfl (.tmp 47) (.tmp 50) elBytes rfl w.heap.size HO1.out HS1.out (by unfold maxLen; omega) (by omega) (by first | omega | (simp; done) | (simp; omega)) ?_)
          intro v1 w1 ho1 hk1 hv1
          have hb1 : Below wr.heap.size wr w1 := HBA.out.trans (hk1.below (by
            rintro i (h | h)
            · have := h.1
              simp [Value.ownBlock] at this
              try simp
              omega
            · try simp at h
              try simp
              omega))
          have hz1 := hb1.size
          have HO2 := Lib.hid ho1
          have HIN2 := Lib.hid (HIN.out.below hb1)
          have HB2 : Hid (Below w.heap.size w w1) := Lib.hid (HBB.out.trans (hb1.mono (by omega)))
          clear ho1 hk1 hv1 hb1 HO1 HS1
          go_wp2_with ((with_reducible show wpList _ _ _ (⟨some 66, _, _, _, _, _⟩ :: _) _ _); refine wpList_app rfl (.tmp 64) (.tmp 65) elBytes rfl w.heap.size HO2.out HIN2.out (by unfold maxLen; omega) (by omega) (by first | omega | (simp; done) | (simp; omega)) ?_)
          intro v2 w2 ho2 hk2 hv2
          have HO3 := Lib.hid ho2
          have HB3 : Hid (Below w.heap.size w w2) := Lib.hid (HB2.out.trans (hk2.below (by
            rintro i (h | h)
            · exact h.2
            · omega)))
          clear ho2 hk2 hv2
          go_wp2_with fail
          go_ret
          refine ⟨_, rfl, ?_, HB3.out⟩
          unfold Bs
          rw [bCells_append, HH.out.1, List.length_append, HH.out.2]
          exact HO3.out.sl
        · have hs' : ¬ (bd.length : Int) < 128 := by omega
          obtain ⟨sb, hsb⟩ : ∃ sb, sb = shortB bd.length := ⟨_, rfl⟩
          have hsf := shortB_few bd.length
          rw [← hsb] at hsf
          have hsf1 := hsf.1
          have hsf2 := hsf.2
          have HH : Hid (bCells (headS 2 t bd.length) = ([.int .u8 (128 + t)] ++ [.int .u8 (128 + (sb.length : Int))]) ++ bCells sb ∧ (headS 2 t bd.length).length = 1 + 1 + sb.length) := Lib.hid (by
            unfold headS
            rw [if_neg hs, ← hsb]
            refine ⟨?_, by simp; omega⟩
            have h1 := bV_ofNat (128 + sb.length) (by omega)
            rw [show ((128 + sb.length : Nat) : Int) = 128 + (sb.length : Int) by omega] at h1
            simp only [bCells, List.map_cons, HG.out, h1]
            rfl)
          have HSZ := Lib.hid (refShort_any bd.length (wr.alloc (.cells #[.int .u8 (128 + t)] 5)) (by omega))
          rw [← hsb] at HSZ
          have HO1 : Hid (Own (wr.alloc (.cells #[.int .u8 (128 + t)] 5)) w.heap.size 5 1 (.slice (some ⟨wr.heap.size, 0, none⟩) 1 1) 1 [.int .u8 (128 + t)]) := Lib.hid (Own.at_ (cs := #[.int .u8 (128 + t)]) (by first | rfl | simp) (by omega) rfl (by simp [Value.oneCell']) (by decide))
          have hzA : (wr.alloc (.cells #[.int .u8 (128 + t)] 5)).heap.size = wr.heap.size + 1 := by simp
          have HZA := Lib.hid hzA
          have HBA : Hid (Below wr.heap.size wr (wr.alloc (.cells #[.int .u8 (128 + t)] 5))) := Lib.hid ((Below.refl _ _).alloc (Nat.le_refl _) _)
          have HWZ : Hid (wr.heap.size = wr.heap.size) := Lib.hid (by first | rfl | simp)
          clear hs HG hsb hsf hzA
          go_wp2_with fail
          refine HSZ.out.mono ?_
          rintro e w3 ⟨vs, rfl, ho3, hB3⟩
          obtain ⟨g, c3, rest3, rfl, hg, hblk3, hc3, hm3⟩ := ho3.blk hsf2
          have hg3 := hblk3.lt
          have hz3 := hB3.size
          rw [HZA.out] at hg hz3
          have HSO : Hid (Own (w3.alloc (.cells #[.int .u8 (128 + (sb.length : Int))] 5)) (wr.alloc (.cells #[.int .u8 (128 + t)] 5)).heap.size 5 1 (.slice (some ⟨g, 0, none⟩) sb.length c3) sb.length (bCells sb)) := Lib.hid (Own.alloc ho3 _)
          have HO3 : Hid (Own (w3.alloc (.cells #[.int .u8 (128 + (sb.length : Int))] 5)) w.heap.size 5 1 (.slice (some ⟨wr.heap.size, 0, none⟩) 1 1) 1 [.int .u8 (128 + t)]) := Lib.hid ((HO1.out.below hB3).alloc _)
          have HS3 : Hid (Sl (w3.alloc (.cells #[.int .u8 (128 + (sb.length : Int))] 5)) 1 (.slice (some ⟨w3.heap.size, 0, none⟩) 1 1) 1 [.int .u8 (128 + (sb.length : Int))]) := Lib.hid (Sl.lit (n := 1) (cs := #[.int .u8 (128 + (sb.length : Int))]) rfl rfl (by simp [Value.oneCell']) (by unfold maxLen; decide))
          have HBX : Hid (Below wr.heap.size wr (w3.alloc (.cells #[.int .u8 (128 + (sb.length : Int))] 5))) := Lib.hid ((HBA.out.trans (hB3.mono (by have := HZA.out; have := HWZ.out; omega))).alloc (by have := HWZ.out; omega) _)
          unfold maxLen at hm3
          clear ho3 hB3 hblk3 HO1 HSZ
          go_wp2_with ((with_reducible show wpList _ _ _ (⟨some 61, _, _, _, _, _⟩ :: _) _ _); refine wpList_app rfl (.tmp 55) (.tmp 60) elBytes rfl w.heap.size HO3.out HS3.out (by unfold maxLen; omega) (by omega) (by first | omega | (simp; done) | (simp; omega)) ?_)
          intro v4 w4 ho4 hk4 hv4
          have hb4 : Below wr.heap.size wr w4 := HBX.out.trans (hk4.below (by
            have hwz := HWZ.out
            rintro i (h | h)
            · have := h.1
              simp [Value.ownBlock] at this
              omega
            · try rw [World.size_alloc] at h
              omega))
          have HS4 : Hid (Sl w4 1 (.slice (some ⟨g, 0, none⟩) sb.length c3) sb.length (bCells sb)) := Lib.hid (Own.sl (HSO.out.keep hk4 (by
            intro b hb h
            simp [Value.ownBlock] at hb
            rcases h with h | h
            · have := h.1
              simp [Value.ownBlock] at this
              omega
            · try rw [World.size_alloc] at h
              omega)))
          have hvz : ∀ i, v4.ownBlock = some i → wr.heap.size ≤ i := fun i hi => by
            have hwz := HWZ.out
            rcases hv4 i hi with h | h
            · simp [Value.ownBlock] at h
              omega
            · try rw [World.size_alloc] at h
              omega
          have HVZ := Lib.hid hvz
          have HO4 := Lib.hid ho4
          have HB4 := Lib.hid hb4
          have hzb : w.heap.size ≤ w4.heap.size := by have := hb4.size; have := HWZ.out; omega
          clear ho4 hk4 hv4 hb4 HO3 HS3 HSO HBX hvz
          go_wp2_with ((with_reducible show wpList _ _ _ (⟨some 63, _, _, _, _, _⟩ :: _) _ _); refine wpList_app rfl (.tmp 61) (.tmp 62) elBytes rfl w.heap.size HO4.out HS4.out (by unfold maxLen; omega) (by omega) (by first | omega | (simp; done) | (simp; omega)) ?_)
          intro v5 w5 ho5 hk5 hv5
          have hb5 : Below wr.heap.size wr w5 := HB4.out.trans (hk5.below (by
            have := HB4.out.size
            rintro i (h | h)
            · exact HVZ.out i h.1
            · omega))
          have HO5 := Lib.hid ho5
          have HIN5 := Lib.hid (HIN.out.below hb5)
          have HB5 : Hid (Below w.heap.size w w5) := Lib.hid (HBB.out.trans (hb5.mono (by have := HWZ.out; omega)))
          have hzc : w.heap.size ≤ w5.heap.size := HB5.out.size
          clear ho5 hk5 hv5 hb5 HO4 HS4
          go_wp2_with ((with_reducible show wpList _ _ _ (⟨some 66, _, _, _, _, _⟩ :: _) _ _); refine wpList_app rfl (.tmp 64) (.tmp 65) elBytes rfl w.heap.size HO5.out HIN5.out (by unfold maxLen; omega) (by omega) (by first | omega | (simp; done) | (simp; omega)) ?_)
          intro v6 w6 ho6 hk6 hv6
          have HO6 := Lib.hid ho6
          have HB6 : Hid (Below w.heap.size w w6) := Lib.hid (HB5.out.trans (hk6.below (by
            rintro i (h | h)
            · exact h.2
            · omega)))
          clear ho6 hk6 hv6
          go_wp2_with fail
          go_ret
          refine ⟨_, rfl, ?_, HB6.out⟩
          unfold Bs
          rw [bCells_append, HH.out.1, List.length_append, HH.out.2]
          exact HO6.out.sl
end Go.Proofs.Ytdmjliehobgknaa
