/- The law RelayApart returns true for all rows of numbers: no conditions. -/
import Derived.Test.YtofmkkcbfeadgaaRaA9
import Derived.Deep.DeepCutAuto
import Derived.OpenShut
import Derived.Deep.Slices
import Derived.ChangeArms
import Derived.WideShapes
namespace Go.Proofs.Ytofmkkcbfeadgaa
set_option linter.unusedSimpArgs false
set_option linter.unusedVariables false
open Go.RowKit
theorem own_blk {W : World} {B : Nat} {v : Value} {l : List UInt8} (h : OwnBs W B v l) (hl : 0 < l.length) : ∃ g cap cur, v = .slice (some ⟨g, 0, none⟩) l.length cap ∧ B ≤ g ∧ Blk W g cur 5 ∧ l.length ≤ cur.length := by
  obtain ⟨h1, h2, ⟨a, e1, e2⟩ | ⟨g, cap, cur, e1, e2, e3, e4, e5, e6, e7⟩⟩ := h
  · omega
  · exact ⟨g, cap, cur.toList, e1, e2, by simpa [Blk] using e3, by simp; omega⟩
def tw (n : Int) : List UInt8 := if n % 2 = 0 then annB else bobB
set_option maxRecDepth 100000 in
set_option maxHeartbeats 16000000 in
theorem apart_go (v : Value) (l : List Int) (w : World) (h : Sl w 1 v l.length (l.map (Value.int .i64))) (hl : l.length ≤ 30) :
    Calls Try.prog 4 #[v] w fun e w' => e = .returned (.bool true) ∧ Below w.heap.size w w' := by
  obtain ⟨al, cl, rfl, hcl, hml⟩ := h.form
  have HSL := hI h
  unfold maxLen at hml
  clear h
  have hl' : ¬ (30 : Int) < l.length := by omega
  have HSA : Hid (ann23.size ≤ maxLen) := hI (by unfold maxLen; decide)
  have HSB : Hid (bob23.size ≤ maxLen) := hI (by unfold maxLen; decide)
  have HSE : Hid (eve23.size ≤ maxLen) := hI (by unfold maxLen; decide)
  go_enter Try.func4, Try.ntmps4
  go_wp2_with fail
  refine (alive23_any _).mono ?_
  rintro e w1 ⟨rfl, hb⟩
  have HC := hI ((Hold.start w).step hb)
  clear hb
  go_wp2_with fail
  refine (relNew_any _ _ HC.out).mono ?_
  rintro e w2 ⟨p, rfl, hc⟩
  have HC := hI hc
  clear hc
  go_wp2_with fail
  refine (relOpen_any p [] ann23 _ w2 HC.out HSA.out (by decide)).mono ?_
  rintro e w3 ⟨rfl, hc, _⟩
  rw [show openS [] ann23 = ([(ann23, [])], 0) from by kernel_rfl] at hc ⊢
  have HC := hI hc
  clear hc
  go_wp2_with fail
  refine (relOpen_any p [(ann23, [])] bob23 _ w3 HC.out HSB.out (by decide)).mono ?_
  rintro e w4 ⟨rfl, hc, _⟩
  rw [show openS [(ann23, [])] bob23 = ([(ann23, []), (bob23, [])], 0) from by kernel_rfl] at hc ⊢
  have HC := hI hc
  clear hc
  obtain ⟨q, hq⟩ : ∃ q, q = w4.heap.size := ⟨_, rfl⟩
  have HA := hI (HC.out.addBlkAt [.int .i64 0, .int .i64 0] 50 hq.symm)
  have HQE := hI hq
  clear hq
  go_upto_region 9 with fail
  show Code.wp _ _ _ _ (w4.alloc (.cells [.int .i64 0, .int .i64 0].toArray 50))
  rw [← HQE.out]
  obtain ⟨w5, hw5⟩ : ∃ w5, w5 = w4.alloc (.cells [.int .i64 0, .int .i64 0].toArray 50) := ⟨_, rfl⟩
  rw [← hw5] at HA ⊢
  clear hw5 HC HQE
  have HRS : Hid (Rap [(ann23, []), (bob23, [])] [] []) := hI Rap.start
  go_wp2_with fail
  go_loopw [32] (fun iv wr => ∃ (i : Nat) (T : Mail) (A B : List (List UInt8)) (sids : List Nat), iv = .int .i64 i ∧ i ≤ l.length ∧ Rap T A B ∧ Rising A sids i ∧ Hold wr [.blk q [.int .i64 A.length, .int .i64 B.length] 50, relR p T, .base w]) (fun iv _ => l.length - (intOf iv).toNat)
  case atStart => exact ⟨0, _, [], [], [], rfl, Nat.zero_le _, HRS.out, Rising.nil, HA.out⟩
  case round =>
    obtain ⟨i, T, A, B, sids, rfl, hi, hrap, hris, hr⟩ := hrel
    have HRAP := hI hrap
    have HRIS := hI hris
    have HC := hI hr
    clear hrap hris hr HA HRS
    by_cases hlt : i < l.length
    · obtain ⟨bl, ol, rfl, hcell⟩ := HSL.out.addr (by simp; omega)
      obtain ⟨n, hn⟩ : ∃ n, n = l[i] := ⟨_, rfl⟩
      have c0 : wr.cell? ⟨bl, ol + i, none⟩ = some (.int .i64 n) := below_cell (HC.out.baseOf (w0 := w) (by simp)) (hcell i _ (by simp [hn, hlt]))
      have HN := hI hn
      clear hcell hn
      have hi30 : i < 30 := by omega
      have H30 := hI hi30
      clear hi30
      obtain ⟨z, hz⟩ : ∃ z, z = bits .and .i64 n 1 := ⟨_, rfl⟩
      have hz01 : z = 0 ∨ z = 1 := by rw [hz, i64_and1r]; omega
      have HZ : Hid (bits .and .i64 n 1 = z) := hI hz.symm
      clear hz
      rcases hz01 with rfl | rfl
      · have hz := HZ.out
        obtain ⟨m, hm⟩ : ∃ m, m = cb annB i := ⟨_, rfl⟩
        have hok := cb_ok annB (.inl rfl) i H30.out
        rw [← hm] at hok
        have HML : Hid (m.length ≤ 500 ∧ 0 < m.length) := hI ⟨hok.2.1, hok.2.2.1⟩
        have hps := putS_cb (T := T) (tw := annB) (.inl rfl) H30.out HRAP.out.ann
        have hps : putS T m = if (getV T ann23 []).length = 16 then (T, 8) else (putV T ann23 (getV T ann23 [] ++ [m]), 0) := by rw [hm]; exact hps
        rw [HRAP.out.a] at hps
        have HPS := hI hps
        have HMC := hI hm
        obtain ⟨w6, hw6⟩ : ∃ w6, w6 = wr.alloc (.cells #[.string ⟨#[97, 110, 110]⟩, .string ⟨#[98, 111, 98]⟩] 9) := ⟨_, rfl⟩
        have HWR := hI (msgWriteCall eveB annB i w6 (by decide) (by decide) (by omega) (fun _ => hok.2.2.2.2))
        rw [hok.1] at HWR
        have HC6 : Hid (Hold w6 [.blk q [.int .i64 A.length, .int .i64 B.length] 50, relR p T, .base w]) := hI (by rw [hw6]; exact HC.out.alloc _)
        have HW6 := hI hw6
        clear hm hok hps hw6 HC
        go_wp2_with fail
        rw [← HW6.out]
        refine HWR.out.mono ?_
        rintro e w7 ⟨v7, rfl, ho7, hb7⟩
        obtain ⟨g, cap, cur, rfl, hgb, hbk, hcu⟩ := own_blk ho7 HML.out.2
        have HC7 : Hid (Hold w7 [.blk g cur 5, .blk q [.int .i64 A.length, .int .i64 B.length] 50, relR p T, .base w]) := hI (HC6.out.new hb7 (F := fun y => y = g) ⟨hbk, fun _ => Iff.rfl⟩ (fun y hy => by rw [hy]; exact hgb))
        have HCU := hI hcu
        have h8 := relPut_any p T (.slice (some ⟨g, 0, none⟩) m.length cap) m _ w7 (HC7.out.front (m := [_, _, _, _]) (l := []) [2, 0, 1, 3] 4 (by decide)) ho7.bs HML.out.1 HRAP.out.ok
        have H8 := hI h8
        clear ho7 hb7 hgb hbk hcu HWR HC6 h8
        go_wp2_with fail
        have h8 := H8.out
        by_cases hfull : A.length = 16
        · rw [HPS.out, if_pos hfull] at h8
          refine h8.mono ?_
          rintro e w9 ⟨rfl, hc, _⟩
          have HC9 : Hid (Hold w9 [.blk g cur 5, .blk q [.int .i64 A.length, .int .i64 B.length] 50, relR p T, .base w]) := hI (hc.front (m := [_, _, _, _]) (l := []) [1, 2, 0, 3] 4 (by decide))
          clear hc h8 hfull H8
          go_wp2_with fail
          go_loopw [61] (fun kv wz => ∃ (k : Nat) (cs : List Value), kv = .int .i64 k ∧ k ≤ m.length ∧ m.length ≤ cs.length ∧ Hold wz [.blk g cs 5, .blk q [.int .i64 A.length, .int .i64 B.length] 50, relR p T, .base w]) (fun kv _ => m.length - (intOf kv).toNat)
          case atStart => exact ⟨0, _, rfl, Nat.zero_le _, HCU.out, HC9.out⟩
          case round =>
            obtain ⟨k, cs, rfl, hk, hcs, hr2⟩ := hrel
            by_cases hkl : k < m.length
            · have hg := hr2.blkOf (p := g) (cs := cs) (T := 5) (by simp)
              have hm5 := HML.out.1
              have HK1 : Hid (k + 1 ≤ m.length) := hI hkl
              have hkc : k < cs.length := by omega
              obtain ⟨u, hu⟩ : ∃ u, cs[k]? = some u := ⟨_, List.getElem?_eq_getElem hkc⟩
              have d0 : wr.cell? ⟨g, k, none⟩ = some u := by rw [hg.cell]; exact hu
              have f0 := hg.frozen k
              have HR2 := hI (hr2.set k (.int .u8 0))
              have HCS : Hid (m.length ≤ (cs.set k (.int .u8 0)).length) := hI (by simp; exact hcs)
              clear hg hu hr2 hcs
              go_wp2_with fail
              go_roundw
              case rel => exact ⟨k + 1, _, by go_num, HK1.out, HCS.out, HR2.out⟩
              case measure => have := HK1.out; simp [intOf]; omega
            · have HR2 := hI hr2
              clear hr2 hcs
              go_wp2_with fail
              go_roundw
              case rel => exact ⟨i + 1, T, A, B, sids, by go_num, by omega, HRAP.out, HRIS.out.skip, HR2.out.tail⟩
              case measure => simp [intOf]; omega
        · rw [HPS.out, if_neg hfull] at h8
          refine h8.mono ?_
          rintro e w9 ⟨rfl, hc, _⟩
          have HC8 : Hid (Hold w9 [.blk g cur 5, .blk q [.int .i64 A.length, .int .i64 B.length] 50, relR p (putV T ann23 (A ++ [m])), .base w]) := hI (hc.front (m := [_, _, _, _]) (l := []) [1, 2, 0, 3] 4 (by decide))
          have HRAP2 : Hid (Rap (putV T ann23 (A ++ [m])) (A ++ [m]) B) := hI (HRAP.out.putA (A ++ [m]) (by
            have h1 := HRAP.out.ok.get ann23
            rw [HRAP.out.a] at h1
            refine ⟨by simp; omega, fun b hb => ?_⟩
            rcases List.mem_append.1 hb with hb | hb
            · exact h1.2 b hb
            · rw [List.mem_singleton.1 hb]; exact HML.out.1))
          have HRIS2 : Hid (Rising (A ++ [m]) (sids ++ [i]) (i + 1)) := hI (by rw [HMC.out]; exact HRIS.out.snoc)
          have hq8 := HC8.out.blkOf (p := q) (cs := [.int .i64 A.length, .int .i64 B.length]) (T := 50) (by simp)
          have e0 : w9.cell? ⟨q, 0, none⟩ = some (.int .i64 A.length) := hq8.cell 0
          have ef := hq8.frozen 0
          have hl16 : A.length ≤ 16 := by
            have h1 := HRAP.out.ok.get ann23
            rw [HRAP.out.a] at h1
            exact h1.1
          have HC9 : Hid (Hold (w9.setCell ⟨q, 0, none⟩ (.int .i64 ((A.length : Int) + 1))) [.blk g cur 5, .blk q [.int .i64 (A ++ [m]).length, .int .i64 B.length] 50, relR p (putV T ann23 (A ++ [m])), .base w]) := hI (by
            have := (HC8.out.front (m := [_, _, _, _]) (l := []) [1, 0, 2, 3] 4 (by decide)).set 0 (.int .i64 ((A.length : Int) + 1))
            have := Hold.front (m := [_, _, _, _]) (l := []) this [1, 0, 2, 3] 4 (by decide)
            rw [show (((A ++ [m]).length : Nat) : Int) = (A.length : Int) + 1 by simp]
            exact this)
          clear hc h8 hfull hq8 H8
          go_wp2_with fail
          go_loopw [61] (fun kv wz => ∃ (k : Nat) (cs : List Value), kv = .int .i64 k ∧ k ≤ m.length ∧ m.length ≤ cs.length ∧ Hold wz [.blk g cs 5, .blk q [.int .i64 (A ++ [m]).length, .int .i64 B.length] 50, relR p (putV T ann23 (A ++ [m])), .base w]) (fun kv _ => m.length - (intOf kv).toNat)
          case atStart => exact ⟨0, _, rfl, Nat.zero_le _, HCU.out, HC9.out⟩
          case round =>
            obtain ⟨k, cs, rfl, hk, hcs, hr2⟩ := hrel
            by_cases hkl : k < m.length
            · have hg := hr2.blkOf (p := g) (cs := cs) (T := 5) (by simp)
              have hm5 := HML.out.1
              have HK1 : Hid (k + 1 ≤ m.length) := hI hkl
              have hkc : k < cs.length := by omega
              obtain ⟨u, hu⟩ : ∃ u, cs[k]? = some u := ⟨_, List.getElem?_eq_getElem hkc⟩
              have d0 : wr.cell? ⟨g, k, none⟩ = some u := by rw [hg.cell]; exact hu
              have f0 := hg.frozen k
              have HR2 := hI (hr2.set k (.int .u8 0))
              have HCS : Hid (m.length ≤ (cs.set k (.int .u8 0)).length) := hI (by simp; exact hcs)
              clear hg hu hr2 hcs
              go_wp2_with fail
              go_roundw
              case rel => exact ⟨k + 1, _, by go_num, HK1.out, HCS.out, HR2.out⟩
              case measure => have := HK1.out; simp [intOf]; omega
            · have HR2 := hI hr2
              clear hr2 hcs
              go_wp2_with fail
              go_roundw
              case rel => exact ⟨i + 1, (putV T ann23 (A ++ [m])), (A ++ [m]), B, (sids ++ [i]), by go_num, by omega, HRAP2.out, HRIS2.out, HR2.out.tail⟩
              case measure => simp [intOf]; omega
      · have hz := HZ.out
        obtain ⟨m, hm⟩ : ∃ m, m = cb bobB i := ⟨_, rfl⟩
        have hok := cb_ok bobB (.inr rfl) i H30.out
        rw [← hm] at hok
        have HML : Hid (m.length ≤ 500 ∧ 0 < m.length) := hI ⟨hok.2.1, hok.2.2.1⟩
        have hps := putS_cb (T := T) (tw := bobB) (.inr rfl) H30.out HRAP.out.bob
        have hps : putS T m = if (getV T bob23 []).length = 16 then (T, 8) else (putV T bob23 (getV T bob23 [] ++ [m]), 0) := by rw [hm]; exact hps
        rw [HRAP.out.b] at hps
        have HPS := hI hps
        have HMC := hI hm
        obtain ⟨w6, hw6⟩ : ∃ w6, w6 = wr.alloc (.cells #[.string ⟨#[97, 110, 110]⟩, .string ⟨#[98, 111, 98]⟩] 9) := ⟨_, rfl⟩
        have HWR := hI (msgWriteCall eveB bobB i w6 (by decide) (by decide) (by omega) (fun _ => hok.2.2.2.2))
        rw [hok.1] at HWR
        have HC6 : Hid (Hold w6 [.blk q [.int .i64 A.length, .int .i64 B.length] 50, relR p T, .base w]) := hI (by rw [hw6]; exact HC.out.alloc _)
        have HW6 := hI hw6
        clear hm hok hps hw6 HC
        go_wp2_with fail
        rw [← HW6.out]
        refine HWR.out.mono ?_
        rintro e w7 ⟨v7, rfl, ho7, hb7⟩
        obtain ⟨g, cap, cur, rfl, hgb, hbk, hcu⟩ := own_blk ho7 HML.out.2
        have HC7 : Hid (Hold w7 [.blk g cur 5, .blk q [.int .i64 A.length, .int .i64 B.length] 50, relR p T, .base w]) := hI (HC6.out.new hb7 (F := fun y => y = g) ⟨hbk, fun _ => Iff.rfl⟩ (fun y hy => by rw [hy]; exact hgb))
        have HCU := hI hcu
        have h8 := relPut_any p T (.slice (some ⟨g, 0, none⟩) m.length cap) m _ w7 (HC7.out.front (m := [_, _, _, _]) (l := []) [2, 0, 1, 3] 4 (by decide)) ho7.bs HML.out.1 HRAP.out.ok
        have H8 := hI h8
        clear ho7 hb7 hgb hbk hcu HWR HC6 h8
        go_wp2_with fail
        have h8 := H8.out
        by_cases hfull : B.length = 16
        · rw [HPS.out, if_pos hfull] at h8
          refine h8.mono ?_
          rintro e w9 ⟨rfl, hc, _⟩
          have HC9 : Hid (Hold w9 [.blk g cur 5, .blk q [.int .i64 A.length, .int .i64 B.length] 50, relR p T, .base w]) := hI (hc.front (m := [_, _, _, _]) (l := []) [1, 2, 0, 3] 4 (by decide))
          clear hc h8 hfull H8
          go_wp2_with fail
          go_loopw [61] (fun kv wz => ∃ (k : Nat) (cs : List Value), kv = .int .i64 k ∧ k ≤ m.length ∧ m.length ≤ cs.length ∧ Hold wz [.blk g cs 5, .blk q [.int .i64 A.length, .int .i64 B.length] 50, relR p T, .base w]) (fun kv _ => m.length - (intOf kv).toNat)
          case atStart => exact ⟨0, _, rfl, Nat.zero_le _, HCU.out, HC9.out⟩
          case round =>
            obtain ⟨k, cs, rfl, hk, hcs, hr2⟩ := hrel
            by_cases hkl : k < m.length
            · have hg := hr2.blkOf (p := g) (cs := cs) (T := 5) (by simp)
              have hm5 := HML.out.1
              have HK1 : Hid (k + 1 ≤ m.length) := hI hkl
              have hkc : k < cs.length := by omega
              obtain ⟨u, hu⟩ : ∃ u, cs[k]? = some u := ⟨_, List.getElem?_eq_getElem hkc⟩
              have d0 : wr.cell? ⟨g, k, none⟩ = some u := by rw [hg.cell]; exact hu
              have f0 := hg.frozen k
              have HR2 := hI (hr2.set k (.int .u8 0))
              have HCS : Hid (m.length ≤ (cs.set k (.int .u8 0)).length) := hI (by simp; exact hcs)
              clear hg hu hr2 hcs
              go_wp2_with fail
              go_roundw
              case rel => exact ⟨k + 1, _, by go_num, HK1.out, HCS.out, HR2.out⟩
              case measure => have := HK1.out; simp [intOf]; omega
            · have HR2 := hI hr2
              clear hr2 hcs
              go_wp2_with fail
              go_roundw
              case rel => exact ⟨i + 1, T, A, B, sids, by go_num, by omega, HRAP.out, HRIS.out.skip, HR2.out.tail⟩
              case measure => simp [intOf]; omega
        · rw [HPS.out, if_neg hfull] at h8
          refine h8.mono ?_
          rintro e w9 ⟨rfl, hc, _⟩
          have HC8 : Hid (Hold w9 [.blk g cur 5, .blk q [.int .i64 A.length, .int .i64 B.length] 50, relR p (putV T bob23 (B ++ [m])), .base w]) := hI (hc.front (m := [_, _, _, _]) (l := []) [1, 2, 0, 3] 4 (by decide))
          have HRAP2 : Hid (Rap (putV T bob23 (B ++ [m])) A (B ++ [m])) := hI (HRAP.out.putB (B ++ [m]) (by
            have h1 := HRAP.out.ok.get bob23
            rw [HRAP.out.b] at h1
            refine ⟨by simp; omega, fun b hb => ?_⟩
            rcases List.mem_append.1 hb with hb | hb
            · exact h1.2 b hb
            · rw [List.mem_singleton.1 hb]; exact HML.out.1))
          have HRIS2 : Hid (Rising A sids (i + 1)) := hI (HRIS.out.skip)
          have hq8 := HC8.out.blkOf (p := q) (cs := [.int .i64 A.length, .int .i64 B.length]) (T := 50) (by simp)
          have e0 : w9.cell? ⟨q, 1, none⟩ = some (.int .i64 B.length) := hq8.cell 1
          have ef := hq8.frozen 1
          have hl16 : B.length ≤ 16 := by
            have h1 := HRAP.out.ok.get bob23
            rw [HRAP.out.b] at h1
            exact h1.1
          have HC9 : Hid (Hold (w9.setCell ⟨q, 1, none⟩ (.int .i64 ((B.length : Int) + 1))) [.blk g cur 5, .blk q [.int .i64 A.length, .int .i64 (B ++ [m]).length] 50, relR p (putV T bob23 (B ++ [m])), .base w]) := hI (by
            have := (HC8.out.front (m := [_, _, _, _]) (l := []) [1, 0, 2, 3] 4 (by decide)).set 1 (.int .i64 ((B.length : Int) + 1))
            have := Hold.front (m := [_, _, _, _]) (l := []) this [1, 0, 2, 3] 4 (by decide)
            rw [show (((B ++ [m]).length : Nat) : Int) = (B.length : Int) + 1 by simp]
            exact this)
          clear hc h8 hfull hq8 H8
          go_wp2_with fail
          go_loopw [61] (fun kv wz => ∃ (k : Nat) (cs : List Value), kv = .int .i64 k ∧ k ≤ m.length ∧ m.length ≤ cs.length ∧ Hold wz [.blk g cs 5, .blk q [.int .i64 A.length, .int .i64 (B ++ [m]).length] 50, relR p (putV T bob23 (B ++ [m])), .base w]) (fun kv _ => m.length - (intOf kv).toNat)
          case atStart => exact ⟨0, _, rfl, Nat.zero_le _, HCU.out, HC9.out⟩
          case round =>
            obtain ⟨k, cs, rfl, hk, hcs, hr2⟩ := hrel
            by_cases hkl : k < m.length
            · have hg := hr2.blkOf (p := g) (cs := cs) (T := 5) (by simp)
              have hm5 := HML.out.1
              have HK1 : Hid (k + 1 ≤ m.length) := hI hkl
              have hkc : k < cs.length := by omega
              obtain ⟨u, hu⟩ : ∃ u, cs[k]? = some u := ⟨_, List.getElem?_eq_getElem hkc⟩
              have d0 : wr.cell? ⟨g, k, none⟩ = some u := by rw [hg.cell]; exact hu
              have f0 := hg.frozen k
              have HR2 := hI (hr2.set k (.int .u8 0))
              have HCS : Hid (m.length ≤ (cs.set k (.int .u8 0)).length) := hI (by simp; exact hcs)
              clear hg hu hr2 hcs
              go_wp2_with fail
              go_roundw
              case rel => exact ⟨k + 1, _, by go_num, HK1.out, HCS.out, HR2.out⟩
              case measure => have := HK1.out; simp [intOf]; omega
            · have HR2 := hI hr2
              clear hr2 hcs
              go_wp2_with fail
              go_roundw
              case rel => exact ⟨i + 1, (putV T bob23 (B ++ [m])), A, (B ++ [m]), sids, by go_num, by omega, HRAP2.out, HRIS2.out, HR2.out.tail⟩
              case measure => simp [intOf]; omega
    · have hge : ¬ (i : Int) < l.length := by omega
      have h9 := relClear_any p T bob23 _ wr (HC.out.front (m := [_, _, _]) (l := []) [1, 0, 2] 3 (by decide)) HSB.out HRAP.out.ok.few
      rw [if_pos HRAP.out.bob] at h9
      have HRAP2 := hI (HRAP.out.putB [] (by simp))
      have H9 := hI h9
      have HI : Hid (i ≤ 30) := hI (by omega)
      clear h9
      go_wp2_with fail
      refine H9.out.mono ?_
      rintro e w6 ⟨rfl, hc, _⟩
      obtain ⟨T0, hT0⟩ : ∃ T0, T0 = putV T bob23 [] := ⟨_, rfl⟩
      rw [← hT0] at hc HRAP2
      have HC6 := hI hc
      have q0 : w6.cell? ⟨q, 0, none⟩ = some (.int .i64 A.length) := (hc.blkOf (p := q) (cs := [.int .i64 A.length, .int .i64 B.length]) (T := 50) (by simp)).cell 0
      clear hc H9 hT0 HC HRAP
      have HAS : Hid (A = sids.map (cb annB)) := hI HRIS.out.1
      obtain ⟨N, hN⟩ : ∃ N, N = A.length := ⟨_, rfl⟩
      rw [← hN] at q0
      have HNA : Hid (N = sids.length) := hI (by rw [hN, HAS.out, List.length_map])
      have hN16 : N ≤ 16 := by
        have h1 := HRAP2.out.ok.get ann23
        rw [HRAP2.out.a] at h1
        rw [hN]; exact h1.1
      have HC7 : Hid (Hold w6 [relR p T0, .base w]) := hI (HC6.out.front (m := [_, _, _]) (l := []) [1, 0, 2] 3 (by decide)).tail
      have HRP0 : Hid (Rap T0 ((sids.drop 0).map (cb annB)) []) := hI (by rw [List.drop_zero, ← HAS.out]; exact HRAP2.out)
      clear hN HC6 HRAP2 HAS
      go_wp2_with fail
      go_loopw [10, 73] (fun lv jv wz => ∃ (j : Nat) (T : Mail) (last : Int), jv = .int .i64 j ∧ lv = .int .i64 last ∧ j ≤ N ∧ Rap T ((sids.drop j).map (cb annB)) [] ∧ (∀ s ∈ sids.drop j, last < (s : Int)) ∧ -1 ≤ last ∧ Hold wz [relR p T, .base w]) (fun _ jv _ => N - (intOf jv).toNat)
      case atStart => exact ⟨0, T0, -1, rfl, rfl, Nat.zero_le _, HRP0.out, fun s _ => by omega, by omega, HC7.out⟩
      case round =>
        obtain ⟨j, T1, last, rfl, rfl, hj, hrap, hlast, hl1, hr2⟩ := hrel
        have HRAP := hI hrap
        have HLST := hI hlast
        have HC := hI hr2
        clear hrap hlast hr2 HC7 HRP0 q0
        by_cases hjn : j < N
        · have HJ1 : Hid (j + 1 ≤ N) := hI hjn
          have hjs : j < sids.length := by rw [← HNA.out]; exact hjn
          obtain ⟨s, hs⟩ : ∃ s, s = sids[j] := ⟨_, rfl⟩
          have hd : sids.drop j = s :: sids.drop (j + 1) := by rw [hs]; exact List.drop_eq_getElem_cons hjs
          have hs30 : s < 30 := by
            have h1 := HRIS.out.2.2 s (by rw [hs]; exact List.getElem_mem hjs)
            have h2 := HI.out
            omega
          have hsl : last < (s : Int) := HLST.out s (by rw [hd]; simp)
          have hnext : ∀ y ∈ sids.drop (j + 1), (s : Int) < (y : Int) := by
            have h1 : (sids.drop j).Pairwise (· < ·) := HRIS.out.2.1.drop
            rw [hd] at h1
            intro y hy
            have := (List.pairwise_cons.1 h1).1 y hy
            omega
          have HNX := hI hnext
          have hok := cb_ok annB (.inl rfl) s hs30
          obtain ⟨m, hm⟩ : ∃ m, m = cb annB s := ⟨_, rfl⟩
          rw [← hm] at hok
          have hga : getV T1 ann23 [] = m :: (sids.drop (j + 1)).map (cb annB) := by rw [HRAP.out.a, hd, List.map_cons, hm]
          have hgs : getS T1 ann23 = (m, putV T1 ann23 ((sids.drop (j + 1)).map (cb annB)), 0) := by unfold getS; rw [hga]
          have h4 := relGet_any p T1 ann23 _ wr HC.out HSA.out HRAP.out.ok
          rw [hgs] at h4
          have HRAP3 : Hid (Rap (putV T1 ann23 ((sids.drop (j + 1)).map (cb annB))) ((sids.drop (j + 1)).map (cb annB)) []) := hI (HRAP.out.putA _ (by
            have h1 := HRAP.out.ok.get ann23
            rw [hga] at h1
            exact ⟨by have := h1.1; simp at this; simp; omega, fun b hb => h1.2 b (List.mem_cons_of_mem _ hb)⟩))
          have HRD : Hid (rdM m = (some (15, [.s eveB, .s annB, .n s]), 0)) := hI hok.2.2.2.1
          have H4 := hI h4
          have hns : ¬ (s : Int) ≤ last := by omega
          clear hjs hs hd hnext hok hga hgs h4 hm hsl
          go_wp2_with fail
          refine H4.out.mono ?_
          rintro e w7 ⟨v7, rfl, hb7, hc, _⟩
          obtain ⟨a7, c7, rfl, _⟩ := hb7.form
          have HC7 := hI hc
          have HR := hI (msgRead_any _ m w7 hb7)
          rw [HRD.out] at HR
          clear hc hb7 H4
          go_wp2_with fail
          refine HR.out.mono ?_
          rintro e w8 ⟨v8, rfl, hb8, hm8⟩
          have HC8 := hI (HC7.out.step hb8)
          have hm8 : MsgV w8 (fun b => b < w8.heap.size) 15 [.s eveB, .s annB, .n s] v8 := hm8
          obtain ⟨cs, rfl, hp8⟩ := hm8
          obtain ⟨_, _, rfl, rfl, _, _, rfl, rfl, _, _, rfl, rfl, hp8⟩ := hp8
          obtain rfl : _ = [] := hp8
          have hty : typM 15 = 54 := rfl
          have hae : tx eveB = ⟨#[101, 118, 101]⟩ := rfl
          have haa : tx annB = ⟨#[97, 110, 110]⟩ := rfl
          simp only [List.cons_append, List.nil_append, hty, hae, haa]
          have hta : ∀ W, (Instr.typeAssert (.iface 54 (.agg #[.string ⟨#[101, 118, 101]⟩, .string ⟨#[97, 110, 110]⟩, .int .i64 s])) 20 54 true).run Try.prog W = .ok (.tuple #[.agg #[.string ⟨#[101, 118, 101]⟩, .string ⟨#[97, 110, 110]⟩, .int .i64 s], .bool true]) W := fun W => ta_is _ _ _ (by kernel_rfl) W
          have HC9 : Hid (Hold (w8.alloc (.cells #[.string ⟨#[101, 118, 101]⟩, .string ⟨#[97, 110, 110]⟩, .int .i64 s] 54)) [relR p (putV T1 ann23 ((sids.drop (j + 1)).map (cb annB))), .base w]) := hI (HC8.out.alloc _)
          clear hb8 hm8 HR hty hae haa HC7 HC8
          go_wp2_with fail
          go_roundw
          case rel => exact ⟨j + 1, _, s, by go_num, rfl, HJ1.out, HRAP3.out, HNX.out, by omega, HC9.out⟩
          case measure => have := HJ1.out; simp [intOf]; omega
        · have hjl : ¬ (j : Int) < N := by omega
          have HRP : Hid (Rap T1 [] []) := hI (by
            have h1 := HRAP.out
            rw [List.drop_of_length_le (by rw [← HNA.out]; omega)] at h1
            exact h1)
          have hgs : getS T1 bob23 = ([], T1, 9) := by unfold getS; rw [HRP.out.b]
          have h4 := relGet_any p T1 bob23 _ wr HC.out HSB.out HRP.out.ok
          rw [hgs] at h4
          have H4 := hI h4
          clear h4 hgs HRAP
          go_wp2_with fail
          refine H4.out.mono ?_
          rintro e w7 ⟨v7, rfl, _, hc, _⟩
          have HC7 := hI hc
          have h5 := relLen_any p T1 ann23 _ w7 hc HSA.out
          have h6 := relLen_any p T1 bob23 _ w7 hc HSB.out
          have h7 := relLen_any p T1 eve23 _ w7 hc HSE.out
          rw [HRP.out.a] at h5
          rw [HRP.out.b] at h6
          rw [getV_no HRP.out.eve] at h7
          have H5 := hI h5
          have H6 := hI h6
          have H7 := hI h7
          clear hc h5 h6 h7 H4 HC
          go_wp2_with fail
          refine H5.out.mono ?_
          rintro e w8 ⟨rfl, rfl⟩
          go_wp2_with fail
          refine H6.out.mono ?_
          rintro e w8 ⟨rfl, rfl⟩
          go_wp2_with fail
          refine H7.out.mono ?_
          rintro e w8 ⟨rfl, rfl⟩
          go_wp2_with fail
          go_ret
          exact ⟨rfl, HC7.out.baseOf (by simp)⟩
set_option maxRecDepth 100000 in
theorem apart_walk (v : Value) (l : List Int) (w : World) (h : Sl w 1 v l.length (l.map (Value.int .i64))) :
    Calls Try.prog 4 #[v] w fun e w' => e = .returned (.bool true) ∧ Below w.heap.size w w' := by
  by_cases hl : l.length ≤ 30
  · exact apart_go v l w h hl
  · obtain ⟨al, cl, rfl, hcl, hml⟩ := h.form
    unfold maxLen at hml
    have hl' : (30 : Int) < l.length := by omega
    clear h
    go_enter Try.func4, Try.ntmps4
    go_wp2_with fail
    refine (alive23_any _).mono ?_
    rintro e w1 ⟨rfl, hb⟩
    have HB := hI hb
    clear hb
    go_wp2_with fail
    go_ret
    exact ⟨rfl, HB.out⟩
def flatFs (rec : TypeId → Option (List TypeId)) (cells : TypeId → Nat) : List Field → Nat → Option (List TypeId × Nat)
  | [], o => some ([], o)
  | f :: fs, o =>
    match rec f.type with
    | some l => if f.offset = o ∧ l.length = cells f.type then (flatFs rec cells fs (o + l.length)).map fun x => (l ++ x.1, x.2) else none
    | none => none
/-- The types of a type's cells, structs and arrays taken apart. -/
def flatTy (P : Program) : Nat → TypeId → Option (List TypeId)
  | 0, _ => none
  | fuel + 1, t =>
    match P.underlying t with
    | some (.struct fs) => match flatFs (flatTy P fuel) P.cellsOf fs.toList 0 with
      | some (l, o) => if o = P.cellsOf t then some l else none
      | none => none
    | some (.array n e) => match flatTy P fuel e with
      | some l => if l.length = P.cellsOf e ∧ n * l.length = P.cellsOf t then some ((List.range n).flatMap fun _ => l) else none
      | none => none
    | some _ => some [t]
    | none => none
theorem flatFs_ok {rec : TypeId → Option (List TypeId)} {cells : TypeId → Nat} : ∀ {fs : List Field} {o : Nat} {L : List TypeId} {o' : Nat}, flatFs rec cells fs o = some (L, o') →
    o' = o + L.length ∧ ∀ j t', L[j]? = some t' → ∃ f ∈ fs, ∃ l k, rec f.type = some l ∧ l[k]? = some t' ∧ f.offset + k = o + j ∧ l.length = cells f.type ∧ f.offset + l.length ≤ o'
  | [], o, L, o', h => by
    simp only [flatFs, Option.some.injEq, Prod.mk.injEq] at h
    obtain ⟨rfl, rfl⟩ := h
    exact ⟨rfl, fun j t' h => by simp at h⟩
  | f :: fs, o, L, o', h => by
    simp only [flatFs] at h
    split at h
    · rename_i l hl
      split at h
      · rename_i hc
        obtain ⟨⟨L1, o1⟩, h1, h2⟩ := Option.map_eq_some_iff.1 h
        simp only [Prod.mk.injEq] at h2
        obtain ⟨rfl, rfl⟩ := h2
        obtain ⟨e1, e2⟩ := flatFs_ok h1
        refine ⟨by simp; omega, fun j t' hj => ?_⟩
        by_cases hjl : j < l.length
        · rw [List.getElem?_append_left hjl] at hj
          exact ⟨f, by simp, l, j, hl, hj, by omega, hc.2, by omega⟩
        · rw [List.getElem?_append_right (by omega)] at hj
          obtain ⟨f', hf', l', k, q1, q2, q3, q4, q5⟩ := e2 _ _ hj
          exact ⟨f', by simp [hf'], l', k, q1, q2, by omega, q4, by omega⟩
      · simp at h
    · simp at h
section
variable {H : Type} {enc : TypeId × Value → H} {P : Program} {w : World} {base : Nat} {spare : Nat → Bool} {held : Bool}
/-- A cell of a type that is neither a struct nor an array reads by itself. -/
def Leaf (enc : TypeId × Value → H) (P : Program) (w : World) (base : Nat) (spare : Nat → Bool) (held : Bool) (t : TypeId) (c : Value) : Prop :=
  (∃ d, P.underlying t = some d ∧ (∀ fs, d ≠ .struct fs) ∧ ∀ n e, d ≠ .array n e) ∧ ∃ n y, DataW.trod enc P w base spare held n t [c] = some y
def Leaves (enc : TypeId × Value → H) (P : Program) (w : World) (base : Nat) (spare : Nat → Bool) (held : Bool) (ts : List TypeId) (cs : List Value) : Prop :=
  cs.length = ts.length ∧ ∀ (j : Nat) t' c, ts[j]? = some t' → cs[j]? = some c → Leaf enc P w base spare held t' c
theorem getElem?_slice {α : Type} (l : List α) (o n k : Nat) (hk : k < n) : ((l.drop o).take n)[k]? = l[o + k]? := by
  rw [List.getElem?_take, if_pos hk, List.getElem?_drop]
theorem length_flatMap_const {α : Type} (l : List α) : ∀ n : Nat, ((List.range n).flatMap fun _ => l).length = n * l.length := by
  intro n
  induction n with
  | zero => simp
  | succ n ih =>
    rw [List.range_succ, List.flatMap_append, List.length_append, ih, Nat.add_mul]
    simp
theorem flatMap_const_get {α : Type} (l : List α) : ∀ (n j : Nat) (x : α), ((List.range n).flatMap fun _ => l)[j]? = some x → ∃ i k, i < n ∧ k < l.length ∧ j = i * l.length + k ∧ l[k]? = some x := by
  intro n
  induction n with
  | zero => intro j x h; simp at h
  | succ n ih =>
    intro j x h
    rw [List.range_succ, List.flatMap_append] at h
    simp only [List.flatMap_cons, List.flatMap_nil, List.append_nil] at h
    have hlen := length_flatMap_const l n
    by_cases hj : j < n * l.length
    · rw [List.getElem?_append_left (by omega)] at h
      obtain ⟨i, k, h1, h2, h3, h4⟩ := ih j x h
      exact ⟨i, k, by omega, h2, h3, h4⟩
    · rw [List.getElem?_append_right (by omega), hlen] at h
      exact ⟨n, j - n * l.length, by omega, (List.getElem?_eq_some_iff.1 h).1, by omega, h⟩
theorem trod_leaves : ∀ (m : Nat) (t : TypeId) (ts : List TypeId) (n : Nat) (cs : List Value) (x : DataW H × List MemPlace), flatTy P m t = some ts → P.cellsOf t = ts.length → cs.length = P.cellsOf t →
    DataW.trod enc P w base spare held n t cs = some x → Leaves enc P w base spare held ts cs := by
  intro m
  induction m with
  | zero => intro t ts n cs x h; simp [flatTy] at h
  | succ m ih =>
    intro t ts n cs x hf hts hcs h
    refine ⟨by omega, fun j t' c hj hc => ?_⟩
    rw [flatTy] at hf
    split at hf
    · rename_i fs hu
      split at hf
      · rename_i l o hfl
        split at hf
        · rename_i ho
          obtain rfl : l = ts := by simpa using hf
          obtain ⟨e1, e2⟩ := flatFs_ok hfl
          obtain ⟨f, hfm, l', k, q1, q2, q3, q4, q5⟩ := e2 j t' hj
          obtain ⟨xs, n', rfl, _, _, hxl, hfield⟩ := DataW.trod_struct hu h
          obtain ⟨i, hi⟩ := List.mem_iff_getElem?.1 hfm
          have hi' : fs[i]? = some f := by simpa using hi
          have hlt : i < xs.length := by
            have := (Array.getElem?_eq_some_iff.1 hi').1
            omega
          have ht := hfield i f hi'
          rw [List.getElem?_eq_getElem hlt] at ht
          have hk : k < l'.length := (List.getElem?_eq_some_iff.1 q2).1
          have hjl : j < cs.length := (List.getElem?_eq_some_iff.1 hc).1
          have hlen : ((cs.drop f.offset).take (P.cellsOf f.type)).length = P.cellsOf f.type := by
            rw [List.length_take, List.length_drop]
            omega
          have r := ih f.type l' n' _ _ q1 (by omega) hlen ht
          exact r.2 k t' c q2 (by rw [getElem?_slice _ _ _ _ (by omega), q3]; simpa using hc)
        · simp at hf
      · simp at hf
    · rename_i nn e hu
      split at hf
      · rename_i l hl
        split at hf
        · rename_i ho
          obtain rfl : ((List.range nn).flatMap fun _ => l) = ts := by simpa using hf
          obtain ⟨i, k, q1, q2, q3, q4⟩ := flatMap_const_get l nn j t' hj
          obtain ⟨xs, n', rfl, _, _, hxl, hel⟩ := DataW.trod_array hu h
          have hlt : i < xs.length := by omega
          have ht := hel i q1
          rw [List.getElem?_eq_getElem hlt] at ht
          have hmul : i * P.cellsOf e + P.cellsOf e ≤ P.cellsOf t := by
            rw [← ho.2, ← ho.1, ← Nat.succ_mul]
            exact Nat.mul_le_mul_right _ q1
          have hlen : ((cs.drop (i * P.cellsOf e)).take (P.cellsOf e)).length = P.cellsOf e := by
            rw [List.length_take, List.length_drop]
            omega
          have r := ih e l n' _ _ hl (by omega) hlen ht
          exact r.2 k t' c q4 (by rw [getElem?_slice _ _ _ _ (by omega), ← ho.1, ← q3]; exact hc)
        · simp at hf
      · simp at hf
    · rename_i d hd1 hd2 hu
      obtain rfl : [t] = ts := by simpa using hf
      have h1 : cs.length = 1 := by simpa [hts] using hcs
      match cs, h1 with
      | [c0], _ =>
        cases j with
        | zero =>
          simp only [List.getElem?_cons_zero, Option.some.injEq] at hj hc
          subst hj hc
          exact ⟨⟨d, hu, fun fs e => hd1 fs e, fun n e he => hd2 n e he⟩, n, x, h⟩
        | succ j => simp at hj
    · simp at hf
theorem Leaf.int {k : IntKind} {t : TypeId} {c : Value} (ht : P.underlying t = some (.int k)) (h : Leaf enc P w base spare held t c) : ∃ n, c = .int k n ∧ (Lit.int k n).wf = true := by
  obtain ⟨_, n, y, hy⟩ := h
  obtain ⟨m, e, _, hw⟩ := DataW.trod_int ht hy
  exact ⟨m, by simpa using e, hw⟩
theorem Leaf.bool {t : TypeId} {c : Value} (ht : P.underlying t = some .bool) (h : Leaf enc P w base spare held t c) : ∃ b, c = .bool b := by
  obtain ⟨_, n, y, hy⟩ := h
  obtain ⟨m, e, _⟩ := DataW.trod_bool ht hy
  exact ⟨m, by simpa using e⟩
theorem Leaf.string {t : TypeId} {c : Value} (ht : P.underlying t = some .string) (h : Leaf enc P w base spare held t c) : ∃ s : ByteArray, c = .string s ∧ s.size ≤ maxLen := by
  obtain ⟨_, n, y, hy⟩ := h
  obtain ⟨m, e, _, hw⟩ := DataW.trod_string ht hy
  exact ⟨m, by simpa using e, hw⟩
theorem Leaf.one {t : TypeId} {c : Value} (h : Leaf enc P w base spare held t c) : c.oneCell' = true := by
  obtain ⟨⟨d, hu, h1, h2⟩, n, y, hy⟩ := h
  cases n with
  | zero => simp [DataW.trod] at hy
  | succ n =>
    cases c with
    | agg cs => 
      unfold DataW.trod at hy
      rw [hu] at hy
      split at hy <;> simp_all
    | tuple vs =>
      unfold DataW.trod at hy
      rw [hu] at hy
      split at hy <;> simp_all
    | _ => rfl
theorem Leaves.one {ts : List TypeId} {cs : List Value} (h : Leaves enc P w base spare held ts cs) : ∀ u ∈ cs, u.oneCell' = true := by
  intro u hu
  obtain ⟨j, hj⟩ := List.mem_iff_getElem?.1 hu
  have hl : j < cs.length := (List.getElem?_eq_some_iff.1 hj).1
  have : j < ts.length := by have := h.1; omega
  exact (h.2 j ts[j] u (List.getElem?_eq_getElem this) hj).one
theorem Leaves.cons {t : TypeId} {ts : List TypeId} {cs : List Value} (h : Leaves enc P w base spare held (t :: ts) cs) : ∃ c cs', cs = c :: cs' ∧ Leaf enc P w base spare held t c ∧ Leaves enc P w base spare held ts cs' := by
  obtain ⟨h1, h2⟩ := h
  cases cs with
  | nil => simp at h1
  | cons c cs' => exact ⟨c, cs', rfl, h2 0 t c rfl rfl, by simpa using h1, fun j t' c' hj hc => h2 (j + 1) t' c' (by simpa using hj) (by simpa using hc)⟩
theorem Leaves.nil {cs : List Value} (h : Leaves enc P w base spare held [] cs) : cs = [] := by simpa using h.1
theorem addr_of_cell {a : Addr} {u : Value} (h : w.cell? a = some u) : a = ⟨a.block, a.off, none⟩ := by
  obtain ⟨b, o, s⟩ := a
  cases s with
  | none => rfl
  | some n => simp [World.cell?] at h; split at h <;> simp at h
/-- A slice of structs (or of whatever), each element's cells by their types. -/
theorem open_elems {t e : TypeId} {v : Value} {d : DataW H} {ps : List MemPlace} {m : Nat} {ts : List TypeId} (ht : P.underlying t = some (.slice e)) (hf : flatTy P m e = some ts) (hc : P.cellsOf e = ts.length) (hpos : 0 < ts.length)
    (hv : ∃ a len cap, v = .slice a len cap) (h : DataW.Trod enc P w base spare held t v d ps) :
    ∃ (n : Nat) (xs : List (List Value)), xs.length = n ∧ (∀ x ∈ xs, Leaves enc P w base spare held ts x) ∧ Sl w ts.length v n xs.flatten := by
  obtain ⟨a, len, cap, rfl⟩ := hv
  obtain ⟨fuel, hy⟩ := h
  rcases Deep.open_slice ht hy with ⟨h1, _⟩ | ⟨a', len', cap', m', n', D, Pl, h1, hb, hl, hm, hm', hx, hel⟩
  · simp only [Value.cells, List.cons.injEq, and_true, Value.slice.injEq] at h1
    obtain ⟨rfl, rfl, rfl⟩ := h1
    exact ⟨0, [], rfl, by simp, Sl.nil _ _ _⟩
  · simp only [Value.cells, List.cons.injEq, and_true, Value.slice.injEq] at h1
    obtain ⟨rfl, rfl, rfl⟩ := h1
    have hlm : len ≤ m' := by rw [hm']; split <;> omega
    have key : ∀ i, ∃ cs', i < len → cs'.length = ts.length ∧ Leaves enc P w base spare held ts cs' ∧ ∀ j u, cs'[j]? = some u → w.cell? (a'.add (i * ts.length + j)) = some u := by
      intro i
      by_cases hi : i < len
      · obtain ⟨cs', h2, h3⟩ := hel i (by omega)
        obtain ⟨_, h4, h5⟩ := World.cells?_some h2
        rw [hc] at h4
        refine ⟨cs', fun _ => ⟨h4, trod_leaves m e ts n' cs' _ hf hc (by omega) h3, fun j u hj => ?_⟩⟩
        have hjl := (List.getElem?_eq_some_iff.1 hj).1
        have := h5 j (by omega)
        rw [Deep.add_add, hc] at this
        rw [this, hj]
      · exact ⟨[], fun h => absurd h hi⟩
    obtain ⟨f, hf'⟩ : ∃ f : Nat → List Value, ∀ i, i < len → (f i).length = ts.length ∧ Leaves enc P w base spare held ts (f i) ∧ ∀ j u, (f i)[j]? = some u → w.cell? (a'.add (i * ts.length + j)) = some u :=
      ⟨fun i => (key i).choose, fun i hi => (key i).choose_spec hi⟩
    refine ⟨len, (List.range len).map f, by simp, ?_, ?_⟩
    · intro x hx
      obtain ⟨i, hi, rfl⟩ := List.mem_map.1 hx
      exact (hf' i (List.mem_range.1 hi)).2.1
    · have hlen : ∀ k, k ≤ len → (((List.range k).map f).flatten).length = k * ts.length := by
        intro k
        induction k with
        | zero => simp
        | succ k ih =>
          intro hk
          rw [List.range_succ, List.map_append, List.flatten_append, List.length_append, ih (by omega)]
          simp only [List.map_cons, List.map_nil, List.flatten_cons, List.flatten_nil, List.append_nil, (hf' k (by omega)).1, Nat.add_mul, Nat.one_mul]
      have hget : ∀ k, k ≤ len → ∀ j u, (((List.range k).map f).flatten)[j]? = some u → w.cell? (a'.add j) = some u := by
        intro k
        induction k with
        | zero => intro _ j u h; simp at h
        | succ k ih =>
          intro hk j u h
          rw [List.range_succ, List.map_append, List.flatten_append] at h
          simp only [List.map_cons, List.map_nil, List.flatten_cons, List.flatten_nil, List.append_nil] at h
          by_cases hj : j < k * ts.length
          · rw [List.getElem?_append_left (by rw [hlen k (by omega)]; exact hj)] at h
            exact ih (by omega) j u h
          · rw [List.getElem?_append_right (by rw [hlen k (by omega)]; omega), hlen k (by omega)] at h
            have := (hf' k (by omega)).2.2 _ u h
            rwa [show k * ts.length + (j - k * ts.length) = j by omega] at this
      refine ⟨hlen len (Nat.le_refl _), ?_, some a', cap, rfl, hl, hm, fun h => by simp at h, ?_⟩
      · intro u hu
        obtain ⟨x, hx, hu⟩ := List.mem_flatten.1 hu
        obtain ⟨i, hi, rfl⟩ := List.mem_map.1 hx
        exact (hf' i (List.mem_range.1 hi)).2.1.one u hu
      · by_cases h0 : len = 0
        · subst h0; exact .inl rfl
        · have hpos' : 0 < ((List.range len).map f).flatten.length := by rw [hlen len (Nat.le_refl _)]; exact Nat.mul_pos (by omega) hpos
          have hc0 := hget len (Nat.le_refl _) 0 _ (List.getElem?_eq_getElem hpos')
          have ea : a' = ⟨a'.block, a'.off, none⟩ := by
            have := addr_of_cell hc0
            simpa [Addr.add] using this
          refine .inr ⟨a'.block, a'.off, by rw [← ea], fun j u hj => ?_⟩
          have := hget len (Nat.le_refl _) j u hj
          rw [ea, Addr.add_lit] at this
          exact this
/-- Each of some lists is one of a function's values: then they are a list's. -/
theorem exists_map {α β : Type} (f : α → β) : ∀ (xs : List β), (∀ x ∈ xs, ∃ a, x = f a) → ∃ l : List α, xs = l.map f
  | [], _ => ⟨[], rfl⟩
  | x :: xs, h => by
    obtain ⟨a, rfl⟩ := h x (by simp)
    obtain ⟨l, rfl⟩ := exists_map f xs (fun y hy => h y (by simp [hy]))
    exact ⟨a :: l, rfl⟩
end
end Go.Proofs.Ytofmkkcbfeadgaa
namespace Go.Proofs.Ytofmkkcbfeadgaa
set_option linter.unusedSimpArgs false
set_option linter.unusedVariables false
open Go.ChangeShapes Go.WideShapes Go.RowKit Go.OpenShut
variable {H : Type} {enc : TypeId × Value → H} {w : World} {base : Nat} {spare : Nat → Bool} {held : Bool}
theorem flat_one {α : Type} (f : α → Value) : ∀ l : List α, (l.map fun x => [f x]).flatten = l.map f
  | [] => rfl
  | x :: l => by rw [List.map_cons, List.flatten_cons, flat_one f l]; rfl
set_option maxRecDepth 100000 in
theorem open_nums {v : Value} {d : DataW H} {ps : List MemPlace} {r : Reach} {b0 : Nat} (hval : Value.okWide Try.prog w r b0 49 v)
    (h : DataW.Trod enc Try.prog w base spare held 49 v d ps) : ∃ l : List Int, Sl w 1 v l.length (l.map (Value.int .i64)) := by
  have hf : flatTy Try.prog 4 3 = some [3] := by kernel_rfl
  obtain ⟨n, xs, hn, hx, hs⟩ := open_elems Try.underlying49 hf (by kernel_rfl) (by decide) (okWide_slice Try.underlying49 hval) h
  obtain ⟨l, rfl⟩ := exists_map (fun x : Int => [Value.int .i64 x]) xs (fun x hxm => by
    obtain ⟨c0, x, rfl, k0, hL⟩ := (hx x hxm).cons
    obtain rfl := hL.nil
    obtain ⟨y0, rfl, hw⟩ := k0.int Try.underlying3
    exact ⟨y0, rfl⟩)
  refine ⟨l, ?_⟩
  rw [flat_one] at hs
  rw [List.length_map] at hn
  subst hn
  exact hs
end Go.Proofs.Ytofmkkcbfeadgaa
namespace Go.Proofs.Ytofmkkcbfeadgaa.relayApart
open Go.ChangeShapes Go.WideShapes Go.ChangeAt Go.RowKit
open Go.ChangeMaps (open_string shut_string)
set_option linter.unusedVariables false
set_option maxRecDepth 100000 in
theorem contract (H : Type) (enc : TypeId × Value → H) (W : World) (base : Nat) (args : Array Value) (ds gs : List (DataW H)) (before : List MemPlace)
    (hval0 : ∀ (j : Nat) t v, Try.f4.params[j]? = some t → args[j]? = some v → Value.okWide Try.prog W .any base t v)
    (hW : DataW.Whole enc Try.prog Try.f4.params.toList Rows.relayApartSpec.vars false W args.toList ds gs before) :
    Calls Try.prog 4 args W fun e W' => ∃ v, e = .returned v ∧ Rows.relayApartSpec.post enc Try.prog Try.f4 false true false false W args v W' := by
  have hval := hval0
  have hW' := hW
  obtain ⟨p, q, hA0, hV, rfl, hfz, hnd⟩ := hW
  have hA : DataW.TrodAll enc Try.prog W 0 (fun _ => true) true Try.f4.params.toList args.toList ds p := hA0
  rw [Try.params4] at hA hval
  obtain ⟨v0, vs0, d0, ds0, p0, q0, hargs, rfl, rfl, h0, r0⟩ := trodAll_cons hA
  obtain ⟨rfl, rfl, rfl⟩ := trodAll_nil r0
  obtain rfl : args = #[v0] := by cases args; simp_all
  obtain ⟨rfl, rfl⟩ := trodVars_none hV
  have hcall : Calls Try.prog 4 #[v0] W fun e W' => e = .returned (.bool true) ∧ Below W.heap.size W W' := by
    obtain ⟨l, hs⟩ := open_nums (hval 0 _ v0 rfl rfl) h0
    exact apart_walk v0 l W hs
  refine hcall.mono fun e W' ⟨he, bel⟩ => ?_
  subst he
  exact ⟨_, rfl, _, _, _, [], _, [], hW', trodAll_mk1 (shut_bool Try.underlying4 _), trodAll_below rowLaidOut bel (by kernel_rfl) hA0, rfl, bel.frame _, fun h => by cases h⟩
set_option maxRecDepth 100000 in
theorem lifted (os : Os) (started : os.Started) (H : Type) (enc : TypeId × Value → H) :
    ReturnsInHanded {} Try.checked os 4 .any (Rows.relayApartSpec.pre6 enc Try.prog Try.f4 Rows.relayApartRow.domain false) (Rows.relayApartSpec.post enc Try.prog Try.f4 false true false false) := by
  refine returnsInHanded_of_change (C := Try.checked) rowOwn started (by kernel_rfl) Try.func4
    (ChangeSpec.witness6 (enc := enc) (C := Try.checked) false ⟨#[], #[.slice none 0 0], []⟩ 8 (by kernel_rfl) (by kernel_rfl) (by kernel_rfl) (by kernel_rfl)) ?_
  intro W base args ds gs before hval hW _ _
  exact contract H enc W base args ds gs before hval hW
theorem over : Rows.relayApartRow.holds Try.pinned (OpenSpec.ofChange Rows.relayApartSpec) :=
  OpenClaim.holds_of_wide 4 Try.f4 rfl rfl rfl rfl rfl rfl rfl ⟨rfl, rfl, rfl, rfl, rfl⟩ rfl rfl rfl rfl rfl (by kernel_rfl) Try.func4 (by kernel_rfl)
    (of_decide_eq_true (by kernel_rfl)) (by unfold Func.isWrapper; first | (rw [if_pos (by decide +kernel)]; kernel_rfl) | (rw [if_neg (by decide +kernel)]; exact ⟨rfl, rfl⟩))
    (fun os started H enc _ => lifted os started H enc)
/-- THE STATEMENT. -/
theorem proved : Rows.RelayApartSaid := over
end Go.Proofs.Ytofmkkcbfeadgaa.relayApart
