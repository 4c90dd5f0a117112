/- Contracts of package der: body, write, Write. -/
import Derived.Test.YtdmjliehobgknaaDerHead
namespace Go.Proofs.Ytdmjliehobgknaa
set_option linter.unusedSimpArgs false
set_option linter.unusedVariables false
open Go.RowKit

def WrRes (w : World) (bs : List UInt8) (e : Ending) (w' : World) : Prop := ∃ v, e = .returned v ∧ OwnBs w' w.heap.size v bs ∧ Below w.heap.size w w'
def BdRes (w : World) (bs : List UInt8) (e : Ending) (w' : World) : Prop := ∃ v, e = .returned v ∧ Bs w' v bs ∧ Below w.heap.size w w'

/-- What is asked of the write of a value. -/
def WrP (x : Tv) : Prop := ∀ (F : Nat → Prop) (cs : List Value) (w : World), TvF w F x cs → OkW x → (writeS x).length ≤ 1073741824 →
  Calls Try.prog 50 #[.agg cs.toArray] w (WrRes w (writeS x))

set_option maxHeartbeats 4000000 in
set_option maxRecDepth 100000 in
theorem derBody_any (x : Tv) (ih : ∀ y ∈ x.l, WrP y) (F : Nat → Prop) (cs : List Value) (w : World) (h : TvF w F x cs) (ok : OkW x) (hlen : (bodyS x).length ≤ 1073741824) :
    Calls Try.prog 61 #[.agg cs.toArray] w (BdRes w (bodyS x)) := by
  obtain ⟨bv, lv, rows, rfl, hb, _, hl, _, hls⟩ := h.open_
  obtain ⟨k, t, n, b, l⟩ := x
  simp only [bodyS, Tv.kind, Tv.tag, Tv.n, Tv.b, Tv.l] at *
  obtain ⟨hk, ht0, ht1, hn, hol⟩ := ok
  obtain ⟨ab, cb, rfl, hcb, hmb⟩ := hb.form
  obtain ⟨al, cl, rfl, hcl, hml⟩ := hl.form
  unfold maxLen at hmb hml
  have HL := Lib.hid hl
  have HLS := Lib.hid hls
  have HBS := Lib.hid hb
  have HIH := Lib.hid ih
  have HOL := Lib.hid hol
  have HLEN := Lib.hid hlen
  clear h hb hl hls ih hol hlen
  rcases hk with rfl | rfl | rfl
  · have HR : Hid (bodyOf 0 n b (writesS l) = shortB n) := Lib.hid rfl
    go_enter Try.func61, Try.ntmps61
    go_wp2_with fail
    refine (short_any n _).mono ?_
    rintro e w1 ⟨v1, rfl, hb1, hB1, _⟩
    have HB1 := Lib.hid hb1
    have HBW : Hid (Below w.heap.size w w1) := Lib.hid (((Below.refl _ _).alloc (Nat.le_refl _) _).trans (hB1.mono (by simp)))
    clear hb1 hB1
    go_wp2_with fail
    go_ret
    rw [HR.out]
    exact ⟨_, rfl, HB1.out, HBW.out⟩
  · have HR : Hid (bodyOf 1 n b (writesS l) = b) := Lib.hid rfl
    go_enter Try.func61, Try.ntmps61
    go_wp2_with fail
    go_ret
    rw [HR.out]
    exact ⟨_, rfl, HBS.out.alloc _, (Below.refl _ _).alloc (Nat.le_refl _) _⟩
  · have HR : Hid (bodyOf 2 n b (writesS l) = writesS l) := Lib.hid rfl
    have hlen := HLEN.out
    rw [HR.out] at hlen
    have HLEN := Lib.hid hlen
    have HBB : Hid (Below w.heap.size w (w.alloc (.cells #[.int .i64 2, .int .i64 t, .int .u64 n, .slice ab b.length cb, .slice al l.length cl] 47))) := Lib.hid ((Below.refl _ _).alloc (Nat.le_refl _) _)
    clear hlen
    go_enter Try.func61, Try.ntmps61
    go_wp2_with fail
    go_loopw [3, 20] (fun o i wr => ∃ k : Nat, k ≤ l.length ∧ i = .int .i64 k ∧ OwnBs wr w.heap.size o (writesS (l.take k)) ∧ Below w.heap.size w wr) (fun _ i _ => l.length - (intOf i).toNat)
    case atStart => exact ⟨0, Nat.zero_le _, rfl, Own.nil _ _ _ _ _, HBB.out⟩
    case round =>
      obtain ⟨j, hj, rfl, hown, hB⟩ := hrel
      have HB := Lib.hid hB
      have HO := Lib.hid hown
      have hzr := hB.size
      by_cases hlt : j < l.length
      · obtain ⟨bl, ol, rfl, _⟩ := HL.out.addr (by rw [HL.out.1]; omega)
        obtain ⟨r, hr, hrc⟩ := HLS.out.cells HL.out j hlt
        have hcr : CellsAt wr bl (ol + j * 5) r := fun i u hi => below_cell hB (hrc i u hi)
        have hst := writesS_take l j hlt
        have hle := writeS_mem_le l j hlt
        have hji : (j : Int) < l.length := by omega
        have hih := HIH.out l[j] (List.getElem_mem hlt)
        have hok := HOL.out.mem l[j] (List.getElem_mem hlt)
        generalize l[j] = y at hr hst hle hih hok
        have hrl := hr.length
        have HR1 := Lib.hid hr.one
        have HRL := Lib.hid hrl
        have HCR := Lib.hid hcr
        have HRT := Lib.hid (hr.below hB)
        have HST := Lib.hid hst
        have HLE := Lib.hid hle
        have HIHy := Lib.hid hih
        have HOKy := Lib.hid hok
        have HN := Lib.hid (Blk.new wr zs5 47)
        clear hr hrc hcr hst hle hrl hB hown hih hok
        go_wp2_with (first | ((with_reducible show wpList _ _ _ (⟨some 23, _, _, _, _, _⟩ :: _) _ _); refine wpList_ldAgg rfl (.tmp 22) aggDer rfl rfl (cs := r) HRL.out HCR.out ?_) | ((with_reducible show wpList _ _ _ (⟨none, .store _ (.tmp 5) (.tmp 23), _, _, _, _⟩ :: _) _ _); refine wpList_stAgg rfl (.tmp 5) (.tmp 23) aggDer rfl rfl (vs := r) rfl HRL.out HN.out (Nat.le_refl _) HR1.out ?_))
        intro w3 h3 k3
        have h3' : Blk w3 wr.heap.size r 47 := by
          rw [List.drop_of_length_le (by decide), List.append_nil] at h3
          exact h3
        have hz3 := k3.size
        simp at hz3
        have hb3 : Below wr.heap.size wr w3 := ((Below.refl _ _).alloc (Nat.le_refl _) _).trans (k3.below (by omega))
        have H3 := Lib.hid h3'
        have HB3 : Hid (Below w.heap.size w w3) := Lib.hid (HB.out.trans (hb3.mono hzr))
        have HO3 := Lib.hid (Own.below HO.out hb3)
        have HCALL := Lib.hid (HIHy.out F r w3 (HRT.out.below hb3) HOKy.out (by have := HLEN.out; have := HLE.out; omega))
        clear h3 h3' k3 hb3 HN HRT HCR HO HB
        go_wp2_with ((with_reducible show wpList _ _ _ (⟨some 25, _, _, _, _, _⟩ :: _) _ _); refine wpList_ldAgg rfl (.tmp 5) aggDer rfl rfl (cs := r) HRL.out H3.out.cellsAll ?_)
        refine HCALL.out.mono ?_
        rintro e w4 ⟨v4, rfl, ho4, hb4⟩
        have hz4 := hb4.size
        have HB4 : Hid (Below w.heap.size w w4) := Lib.hid (HB3.out.trans (hb4.mono (by omega)))
        have HO4 := Lib.hid (Own.below HO3.out hb4)
        have HS4 := Lib.hid ho4.sl
        have hl1 := HLE.out
        have hl2 := HLEN.out
        have hle' : (writesS (l.take j)).length + (writeS y).length ≤ 1073741824 := by omega
        clear ho4 hb4 HCALL HO3 HB3 H3 hl1 hl2
        go_wp2_with ((with_reducible show wpList _ _ _ (⟨some 27, _, _, _, _, _⟩ :: _) _ _); refine wpList_app rfl (.tmp 24) (.tmp 26) elBytes rfl w.heap.size HO4.out HS4.out (by unfold maxLen; omega) (by omega) (by omega) ?_)
        intro v5 w5 ho5 hk5 hv5
        have HB5 : Hid (Below w.heap.size w w5) := Lib.hid (HB4.out.trans (hk5.below (by rintro b (h | h); exact h.2; omega)))
        have HO5 : Hid (OwnBs w5 w.heap.size v5 (writesS (l.take (j + 1)))) := Lib.hid (by
          rw [HST.out]
          unfold OwnBs
          rw [bCells_append, List.length_append]
          exact ho5)
        clear ho5 hk5 hv5 HO4 HS4 HB4
        go_wp2_with fail
        go_roundw
        case rel => exact ⟨j + 1, by omega, by go_num, HO5.out, HB5.out⟩
        case measure => simp [intOf]; omega
      · obtain rfl : j = l.length := by omega
        rw [List.take_length] at hown
        have HO := Lib.hid hown
        clear hown
        go_wp2_with fail
        go_ret
        rw [HR.out]
        exact ⟨_, rfl, HO.out.bs, HB.out⟩

set_option maxHeartbeats 4000000 in
set_option maxRecDepth 100000 in
theorem derWrite_any : ∀ x : Tv, WrP x := by
  refine tv_ind (fun k t n b l ih => ?_)
  intro F cs w h ok hlen
  have hw := writeS_eq (.mk k t n b l)
  have hbl : (bodyS (.mk k t n b l)).length ≤ 1073741824 := by rw [hw, List.length_append] at hlen; omega
  have HBODY := Lib.hid (derBody_any (.mk k t n b l) ih F cs (w.alloc (.cells cs.toArray 47)) (h.below ((Below.refl _ _).alloc (Nat.le_refl _) _)) ok hbl)
  have hcl := h.length
  have HCL := Lib.hid hcl
  have HN := Lib.hid (Blk.new w cs 47)
  obtain ⟨bv, lv, rows, hcs, _⟩ := h.open_
  obtain ⟨hk, ht0, ht1, hn, hol⟩ := ok
  have x0 : ∀ W : World, Blk W w.heap.size cs 47 → W.cell? ⟨w.heap.size, 0, none⟩ = some (.int .i64 k) ∧ W.cell? ⟨w.heap.size, 1, none⟩ = some (.int .i64 t) := fun W hW => by
    rw [hW.cell, hW.cell, hcs]
    exact ⟨rfl, rfl⟩
  have HX0 := Lib.hid x0
  have HW := Lib.hid hw
  have HLEN := Lib.hid hlen
  simp only [Tv.kind, Tv.tag] at HW
  generalize bodyS (.mk k t n b l) = bd at HBODY hbl HW
  clear h hol x0 hw hlen ih hcl hcs
  go_enter Try.func50, Try.ntmps50
  go_wp2_with ((with_reducible show wpList _ _ _ (⟨some 4, _, _, _, _, _⟩ :: _) _ _); refine wpList_ldAgg rfl (.tmp 1) aggDer rfl rfl (cs := cs) HCL.out HN.out.cellsAll ?_)
  refine HBODY.out.mono ?_
  rintro e w1 ⟨v1, rfl, hb1, hB1⟩
  have hz1 := hB1.size
  simp at hz1
  obtain ⟨a1, c1, rfl, hc1, hm1⟩ := hb1.form
  obtain ⟨y0, y1⟩ := HX0.out w1 (HN.out.below hB1 (by simp))
  have HB1 := Lib.hid hb1
  have HBW : Hid (Below w.heap.size w w1) := Lib.hid (((Below.refl _ _).alloc (Nat.le_refl _) _).trans (hB1.mono (by simp)))
  unfold maxLen at hm1
  clear hb1 hB1 HBODY
  go_wp2_with fail
  refine (derHead_any k t bd.length w1 hk ht0 ht1 (by omega)).mono ?_
  rintro e w2 ⟨v2, rfl, hb2, hB2⟩
  have hz2 := hB2.size
  obtain ⟨a2, c2, rfl, hc2, hm2⟩ := hb2.form
  have HRS := Lib.hid (Rs.two (T := 22) (g := w2.heap.size) rfl hb2 (HB1.out.below hB2))
  have HBW2 : Hid (Below w.heap.size w w2) := Lib.hid (HBW.out.trans (hB2.mono (by omega)))
  have hlen := HLEN.out
  rw [HW.out, List.length_append] at hlen
  generalize headS k t bd.length = hd at *
  clear hb2 hB2 HB1 HBW y0 y1
  go_wp2_with fail
  refine (joined_any _ _ _ HRS.out (by simp; omega)).mono ?_
  rintro e w3 ⟨v3, rfl, ho3, hb3⟩
  have HO : Hid (OwnBs w3 w.heap.size v3 (hd ++ bd)) := Lib.hid (by
    have := ho3.base (B' := w.heap.size) (by simp; omega)
    simpa [OwnBs] using this)
  have HB3 : Hid (Below w.heap.size w w3) := Lib.hid ((HBW2.out.alloc (by omega) _).trans (hb3.mono (by simp; omega)))
  clear ho3 hb3
  go_wp2_with fail
  go_ret
  rw [HW.out]
  exact ⟨_, rfl, HO.out, HB3.out⟩
end Go.Proofs.Ytdmjliehobgknaa
