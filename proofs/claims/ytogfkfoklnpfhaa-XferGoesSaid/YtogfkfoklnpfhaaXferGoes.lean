/- The statement XferGoes, walked. (Printed by wip/tools/gengoes.py.) -/
import Derived.Test.YtogfkfoklnpfhaaGoesP
import Derived.Test.YtogfkfoklnpfhaaHReg
import Derived.Test.YtogfkfoklnpfhaaAlive21
import Derived.Deep.DeepCutAuto
import Derived.Deep.CutBlock
import Derived.Outline
namespace Go.Proofs.Ytogfkfoklnpfhaa
set_option linter.unusedSimpArgs false
set_option linter.unusedVariables false
open Go.RowKit

theorem inR_st2 {W : World} {p : Nat} {i : InF} {l : List Res} (h : Hold W (inR p i :: l)) : W.cell? ⟨p, 0, none⟩ = some (.int .i64 i.st) := by
  obtain ⟨_, _, _, _, _, _, _, _, ho⟩ := inR_open h
  exact (ho.blkOf (List.mem_cons_self)).cell 0
theorem outR_st {W : World} {p : Nat} {i : OutF} {l : List Res} (h : Hold W (outR p i :: l)) : W.cell? ⟨p, 0, none⟩ = some (.int .i64 i.st) := by
  obtain ⟨_, _, _, _, ho⟩ := outR_open h
  exact (ho.blkOf (List.mem_cons_self)).cell 0

theorem Hold.cons_emp {W : World} {r : Res} {l : List Res} (h : Hold W (r :: l)) : Hold W (.emp :: r :: l) := by
  rw [Hold.cons]
  obtain ⟨F, h⟩ := h
  exact ⟨fun _ => False, F, fun _ h => h, h, fun _ h _ => h⟩
set_option maxRecDepth 100000 in
set_option maxHeartbeats 8000000 in
theorem goes_go (v av : Value) (b ah : List UInt8) (w : World) (h : Bs w v b) (ha : Bs w av ah) (hl : b.length ≤ 2048) (hal : ah.length ≤ 100) :
    Calls Try.prog 3 #[v, av] w fun e w' => e = .returned (.bool true) ∧ Below w.heap.size w w' := by
  obtain ⟨ao, co, rfl, hco, hmo⟩ := h.form
  obtain ⟨aa, ca, rfl, hca, hma⟩ := ha.form
  have HBS := Lib.hid h
  have HAS := Lib.hid ha
  unfold maxLen at hmo hma
  clear h ha
  go_enter Try.func3, Try.ntmps3
  go_wp2_with fail
  refine (alive21_any w).mono ?_
  rintro e w1 ⟨rfl, hb⟩
  have HC := Lib.hid ((Hold.start w).step hb)
  clear hb
  go_wp2_with fail
  refine (offer_any _ b _ _ HC.out (HBS.out.below (HC.out.baseOf (w0 := w) (by simp))) hl).mono ?_
  rintro e w2 ⟨po, rfl, hc⟩
  have HC := Lib.hid hc
  clear hc
  go_wp2_with fail
  refine (symNew_any _ _ HC.out).mono ?_
  rintro e w3 ⟨q, mp, rfl, hc⟩
  have h1 := Lib.hid (digest_any q _ _ mp [] _ b _ _ hc (HBS.out.below (hc.baseOf (w0 := w) (by simp))) (by omega) (by decide))
  clear hc HC
  go_wp2_with fail
  refine h1.out.mono ?_
  rintro e w4 ⟨r, rfl, hc⟩
  obtain ⟨M, hM⟩ : ∃ M, M = digM [] b := ⟨_, rfl⟩
  have hMl : M.length = 16 := by rw [hM]; exact markB_length _ _
  have HM := Lib.hid hM
  have HML := Lib.hid hMl
  rw [← hM] at hc
  have h2 := Lib.hid (hear_any b.length _ M _ _ hc (hc.rowOf (v := .slice (some ⟨r, 0, none⟩) 16 16) (b := M) (by simp)) (by omega) (by omega) (by omega))
  clear hc hM hMl h1
  go_wp2_with fail
  refine h2.out.mono ?_
  rintro e w5 ⟨pi, rfl, hc⟩
  have HC : Hid (Hold w5 [outR po ⟨0, b, 0, 0⟩, tabR q (.slice none 0 0) (.slice none 0 0) mp [b], inR pi ⟨0, b.length, M, []⟩, .base w]) := Lib.hid ((hc).front (m := [_, _, _, _, _]) (l := []) [3, 1, 0, 4, 2] 5 (by decide)|>.front (m := [_, _, _, _, _]) (l := []) [0, 1, 2, 3, 4] 5 (by decide) |> fun h => ((h).front (m := [_, _, _, _, _]) (l := []) [4, 0, 1, 2, 3] 5 (by decide)).tail)
  clear hc h2
  have h3 := outAccept_any po ⟨0, b, 0, 0⟩ _ _ HC.out hl
  rw [accept_out] at h3
  have H3 := Lib.hid h3
  clear h3
  go_wp2_with fail
  refine H3.out.mono ?_
  rintro e w6 ⟨rfl, hc⟩
  have hc2 := (hc).front (m := [_, _, _, _]) (l := []) [2, 1, 0, 3] 4 (by decide)
  have h4 := inAccept_any pi q (.slice none 0 0) (.slice none 0 0) mp [b] ⟨0, b.length, M, []⟩ _ _ hc2 (by simp) (by simp only; rw [HML.out]; decide) (by simp) (by simp) (by simp only; omega)
  rw [HM.out, accept_first, ← HM.out] at h4
  have H4 := Lib.hid h4
  clear h4 H3 HC hc hc2
  go_wp2_with fail
  refine H4.out.mono ?_
  rintro e w7 ⟨rfl, hc⟩
  have hc : Hold w7 [inR pi ⟨if b.length = 0 then 2 else 1, b.length, M, []⟩, tabR q (.slice none 0 0) (.slice none 0 0) mp [b], outR po ⟨if b.length = 0 then 2 else 1, b, 0, 0⟩, .base w] := hc
  have hc3 := hc.addEmpty 42 2 rfl
  have HC : Hid (Hold (w7.alloc (.cells #[] 42)) [inR pi ⟨(if b.length = 0 then 2 else 1), b.length, M, b.take 0⟩, tabR q (.slice none 0 0) (.slice none 0 0) mp [b], outR po ⟨(if b.length = 0 then 2 else 1), b, 0, 0⟩, .ownZ 42 2 (.slice (some ⟨w7.heap.size, 0, none⟩) 0 0) 0 (pcC 0 []), sumsR [] (pcB b 0 0), .base w]) := Lib.hid (Hold.front (m := [_, _, _, _, _, _]) (l := []) (by exact Hold.cons_emp hc3.ownToZ) [2, 3, 4, 1, 0, 5] 6 (by decide))
  clear hc hc3 H4
  go_wp2_with fail
  go_loopw [10, 11, 12] (fun wv nv kv wr => ∃ (d a s n : Nat) (st : Int) (vs : List Value) (aw : Option Addr) (cw : Nat), wv = .slice aw a cw ∧ nv = .int .i64 n ∧ kv = .int .i64 ((d + 63) / 64 : Nat) ∧ GoInv b d a s n st ∧ vs.length = a ∧ Hold wr [inR pi ⟨st, b.length, M, b.take d⟩, tabR q (.slice none 0 0) (.slice none 0 0) mp [b], outR po ⟨st, b, s, a⟩, .ownZ 42 2 (.slice aw a cw) a (pcC d vs), sumsR vs (pcB b d a), .base w]) (fun _ _ kv _ => 400 - (intOf kv).toNat)
  case atStart => exact ⟨0, 0, 0, 0, _, [], _, 0, rfl, rfl, rfl, GoInv.first b, rfl, HC.out⟩
  case round =>
    obtain ⟨d, a, s, n, st, vs, aw, cw, rfl, rfl, rfl, hinv, hvs, hr⟩ := hrel
    have HI := Lib.hid hinv
    have HC := Lib.hid hr
    have HVS := Lib.hid hvs
    have hdl := hinv.dl
    have c0 := outR_st hr.tail.tail
    simp only at c0
    clear hinv hr hvs
    by_cases hd : d < b.length
    · obtain rfl := HI.out.run hd
      have hk4 : (((d + 63) / 64 : Nat) : Int) < 400 := by omega
      obtain ⟨k, hk⟩ : ∃ k, k = (d + 63) / 64 := ⟨_, rfl⟩
      have HK := Lib.hid hk
      rw [← hk] at hk4 ⊢
      clear hk
      go_upto_if 79 with fail
      go_cut [13] from 66 to 137 (fun m wx => ∃ j : Nat, m = .int .i64 j ∧ 1 ≤ j ∧ j ≤ 8 ∧ wx = wr)
      case first =>
        by_cases hah : 0 < ah.length
        · have hah' : (0 : Int) < ah.length := by omega
          have hrm : ((k : Int).tmod ah.length) = ((k % ah.length : Nat) : Int) := by rw [Int.tmod_eq_emod_of_nonneg (by omega)]; rfl
          have hlt : k % ah.length < ah.length := Nat.mod_lt _ hah
          have hlt' : ((k % ah.length : Nat) : Int) < ah.length := by omega
          obtain ⟨bl, ol, hal2, hcell⟩ := (HAS.out.below (HC.out.baseOf (w0 := w) (by simp))).addr (by rw [bCells_length]; exact hah)
          subst hal2
          have e0 := hcell (k % ah.length) _ (bCells_get ah _ hlt)
          obtain ⟨x, hx⟩ : ∃ x, x = ah[k % ah.length] := ⟨_, rfl⟩
          rw [← hx] at e0
          have hx256 : x.toNat < 256 := x.toNat_lt
          have hwx : IntKind.i64.wrap (x.toNat : Int) = x.toNat := by rw [IntKind.wrap_i64]; omega
          obtain ⟨y, hy⟩ : ∃ y, bits .and .i64 (x.toNat : Int) 7 = y := ⟨_, rfl⟩
          have hy0 : 0 ≤ y ∧ y ≤ 7 := by rw [← hy, i64_and7]; omega
          obtain ⟨j, rfl⟩ := Int.eq_ofNat_of_zero_le hy0.1
          have hj7 : j ≤ 7 := by omega
          clear hx hcell hy0
          unfold bV at e0
          go_wp2_with fail
          go_meet
          refine ⟨1 + j, ?_, by omega, by omega, rfl⟩
          go_num
        · have hah' : ¬ (0 : Int) < ah.length := by omega
          go_wp2_with fail
          go_meet
          exact ⟨1, rfl, by decide, by decide, rfl⟩
      case rest =>
        obtain ⟨m, rfl, hm1, hm8, rfl⟩ := hcut
        clear c0
        go_wp2_with fail
        go_loopw [10, 11, 92] (fun wv nv jv ws => ∃ (j a s n : Nat) (vs : List Value) (aw : Option Addr) (cw : Nat), j ≤ m ∧ (1 ≤ j → 1 ≤ a) ∧ wv = .slice aw a cw ∧ nv = .int .i64 n ∧ jv = .int .i64 j ∧ GoInv b d a s n 1 ∧ vs.length = a ∧ Hold ws [inR pi ⟨1, b.length, M, b.take d⟩, tabR q (.slice none 0 0) (.slice none 0 0) mp [b], outR po ⟨1, b, s, a⟩, .ownZ 42 2 (.slice aw a cw) a (pcC d vs), sumsR vs (pcB b d a), .base w]) (fun _ _ jv _ => m - (intOf jv).toNat)
        case atStart => exact ⟨0, a, s, n, vs, aw, cw, Nat.zero_le _, by omega, rfl, rfl, rfl, HI.out, HVS.out, HC.out⟩
        case round =>
          clear HI HC HVS
          obtain ⟨j, a, s, n, vs, aw, cw, hj, hja, rfl, rfl, rfl, hinv, hvs, hr⟩ := hrel
          have HI := Lib.hid hinv
          have HVS := Lib.hid hvs
          have HJA := Lib.hid hja
          have hsl := hinv.sl
          have ha4 := hinv.a4
          have hn40 : n ≤ 40 := by have := hinv.cnt; omega
          have HC : Hid (Hold wr [inR pi ⟨1, b.length, M, b.take d⟩, tabR q (.slice none 0 0) (.slice none 0 0) mp [b], outR po ⟨1, b, s, a⟩, .ownZ 42 2 (.slice aw a cw) a (pcC d vs), sumsR vs (pcB b d a), .base w]) := Lib.hid hr
          have HC2 := Lib.hid (hr.front (m := [_, _, _, _, _, _]) (l := []) [2, 3, 0, 1, 4, 5] 6 (by decide))
          clear hinv hr hvs hja
          by_cases hlt : j < m
          · by_cases hst : outStop ⟨1, b, s, a⟩
            · have h5 := Lib.hid (chunk_no po ⟨1, b, s, a⟩ _ _ HC2.out hst)
              have HST := Lib.hid hst
              clear hst HC HC2
              go_wp2_with fail
              refine h5.out.mono ?_
              rintro e w8 ⟨rfl, hc⟩
              have HC := Lib.hid (hc.front (m := [_, _, _, _, _, _]) (l := []) [2, 3, 0, 1, 4, 5] 6 (by decide))
              clear hc h5
              go_wp2_with fail
              go_roundw
              case rel => exact ⟨j + 1, a, s, n, vs, aw, cw, by omega, fun _ => Nat.pos_of_ne_zero fun h0 => HI.out.goes hd h0 HST.out, rfl, rfl, by go_num, HI.out, HVS.out, HC.out⟩
              case measure => simp [intOf]; omega
            · have HI2 := Lib.hid (HI.out.chunk hst).2
              have HE := Lib.hid (HI.out.chunk hst).1
              have h5 := chunk_yes po ⟨1, b, s, a⟩ _ _ HC2.out hst hsl hl ha4
              unfold ChunkRes at h5
              simp only [chunk_eq] at h5
              have H5 := Lib.hid h5
              clear hst h5 HC HC2
              go_wp2_with fail
              refine H5.out.mono ?_
              rintro e w8 ⟨v8, rfl, hc⟩
              have hf := (hc.rowOf (v := v8) (b := (b.drop s).take 64) (by simp)).form
              obtain ⟨a8, c8, rfl, hc8, hm8'⟩ := hf
              obtain ⟨l8, hl8⟩ : ∃ l8, l8 = ((b.drop s).take 64).length := ⟨_, rfl⟩
              rw [← hl8] at hc hc8 ⊢
              clear hl8
              have HC3 := Lib.hid (hc.front (m := [_, _, _, _, _, _, _]) (l := []) [2, 0, 1, 3, 4, 5, 6] 7 (by decide))
              have HA := Lib.hid (HC3.out.alloc (.cells #[.int .i64 s, .slice a8 l8 c8] 42))
              have HSL : Hid (Sl (w8.alloc (.cells #[.int .i64 s, .slice a8 l8 c8] 42)) 2 (.slice (some ⟨w8.heap.size, 0, none⟩) 1 1) 1 [.int .i64 s, .slice a8 l8 c8]) := Lib.hid (Sl.lit rfl rfl (by simp [Value.oneCell']) (by unfold maxLen; decide))
              have HOZ := Lib.hid (HA.out.ownZOf (e := 42) (sz := 2) (n := a) (v := .slice aw a cw) (cs := pcC d vs) (by simp))
              clear hc HC3 H5
              go_wp2_with ((with_reducible show wpList _ _ _ (⟨some 106, _, _, _, _, _⟩ :: _) _ _); refine wpList_appZ rfl (.tmp 101) (.tmp 105) elPieces rfl 0 HOZ.out HSL.out (by decide) (by unfold maxLen; omega) (by omega) (Nat.zero_le _) ?_)
              intro v9 w9 hown hk hv
              have HC := Lib.hid (HA.out.appendZ (B := 0) hown (hk.mono fun k h => by simpa using h) (fun k h => by simpa using hv k h))
              obtain ⟨g, o, cap, rfl, -, -, -, -⟩ := hown.form (by omega)
              clear hk hv hown HA HSL HOZ
              have HC4 : Hid (Hold w9 [.ownZ 42 2 (.slice (some ⟨g, o, none⟩) (a + 1) cap) (a + 1) (pcC d (vs ++ [.slice a8 l8 c8])), outR po ⟨1, b, min (s + 64) b.length, a + 1⟩, .row (.slice a8 l8 c8) ((b.drop s).take 64), inR pi ⟨1, b.length, M, b.take d⟩, tabR q (.slice none 0 0) (.slice none 0 0) mp [b], sumsR vs (pcB b d a), .base w]) := Lib.hid (by
                rw [pcC_snoc, HVS.out, ← HE.out]
                exact HC.out)
              have HC5 := Lib.hid (sumsR_snoc (HC4.out.front (m := [_, _, _, _, _, _, _]) (l := []) [5, 2, 0, 1, 3, 4, 6] 7 (by decide)))
              have HC6 : Hid (Hold w9 [inR pi ⟨1, b.length, M, b.take d⟩, tabR q (.slice none 0 0) (.slice none 0 0) mp [b], outR po ⟨1, b, (min (s + 64) b.length), (a + 1)⟩, .ownZ 42 2 (.slice (some ⟨g, o, none⟩) (a + 1) cap) (a + 1) (pcC d (vs ++ [.slice a8 l8 c8])), sumsR (vs ++ [.slice a8 l8 c8]) (pcB b d (a + 1)), .base w]) := Lib.hid (by
                rw [pcB_snoc, ← HE.out]
                exact HC5.out.front (m := [_, _, _, _, _, _]) (l := []) [3, 4, 2, 1, 0, 5] 6 (by decide))
              clear HC HC4 HC5
              go_wp2_with fail
              go_roundw
              case rel => exact ⟨j + 1, a + 1, _, n + 1, _, _, cap, by omega, fun _ => by omega, rfl, by go_num, by go_num, HI2.out, by rw [List.length_append, HVS.out]; rfl, HC6.out⟩
              case measure => simp [intOf]; omega
          · have ha1 : 1 ≤ a := HJA.out (by omega)
            obtain rfl : j = m := by omega
            obtain ⟨a, rfl⟩ : ∃ a', a = a' + 1 := ⟨a - 1, by omega⟩
            have ha4' : (a : Int) + 1 ≤ 4 := by omega
            have ha0 : ((a : Int) + 1 == 0) = false := by simp; omega
            have ha4'' : ((a + 1 : Nat) : Int) ≤ 4 := by omega
            have ha0' : (((a + 1 : Nat) : Int) == 0) = false := by simp; omega
            have hvs := HVS.out
            obtain ⟨v0, vs, rfl⟩ : ∃ v0 vs', vs = v0 :: vs' := by
              cases vs with
              | nil => simp at hvs
              | cons v0 vs' => exact ⟨v0, vs', rfl⟩
            have hvs2 : vs.length = a := by simpa using hvs
            have HV2 := Lib.hid hvs2
            obtain ⟨g, o, cap, haw, -, hcap, hcapm, -⟩ := (HC.out.ownZOf (e := 42) (sz := 2) (n := a + 1) (v := .slice aw (a + 1) cw) (cs := pcC d (v0 :: vs)) (by simp)).form (by omega)
            simp only [Value.slice.injEq, true_and] at haw
            obtain ⟨rfl, rfl⟩ := haw
            have h0 : Bs wr v0 ((b.drop d).take 64) := sumsR_at ((HC.out.front (m := [_, _, _, _, _, _]) (l := []) [4, 0, 1, 2, 3, 5] 6 (by decide))) 0 rfl rfl
            obtain ⟨a0, c0, rfl, hc0, hm0⟩ := h0.form
            obtain ⟨l0, hl0⟩ : ∃ l0, l0 = ((b.drop d).take 64).length := ⟨_, rfl⟩
            rw [← hl0] at h0 hc0 HC
            have H0 := Lib.hid h0
            obtain ⟨-, d', st', hT, hO, hI', hk', hd'⟩ := HI.out.came (by omega)
            rw [← HM.out] at hT
            have HT := Lib.hid hT
            have HO := Lib.hid hO
            have HI' := Lib.hid hI'
            have HD' := Lib.hid hd'
            have HK' := Lib.hid hk'
            have HCUT : Hid (∀ W, (Instr.sliceAt 36 (.slice (some ⟨g, o, none⟩) (a + 1) cw) (some (.int .i64 1)) none none).run Try.prog W = .ok (.slice (Go.Proofs.Ytogfkfoklnpfhaa.cutZ g o cw 1 2) a (cw - 1)) W) := Lib.hid (fun W => run_sliceZ (P := Try.prog) (e := 42) (sz := 2) Try.underlying36 (by intro w; kernel_rfl) g o (a + 1) cw 1 (by omega) hcap W)
            clear HC2 hlt HJA hl0 h0 hT hO hI' hk' hd' hvs hvs2 hc0 hm0 hcapm
            go_upto_region 29 with fail
            have HC := Lib.hid HC.out.drew
            have HS := HC.out.ownZOf (e := 42) (sz := 2) (n := a + 1) (v := .slice (some ⟨g, o, none⟩) (a + 1) cw) (cs := pcC d (.slice a0 l0 c0 :: vs)) (by simp) |>.two
            refine wp_region_held (S := fun W : World => W.cell? ⟨g, o, none⟩ = some (.int .i64 d) ∧ W.cell? ⟨g, o + 1, none⟩ = some (.slice a0 l0 c0)) (by kernel_rfl) ?_
            change wpAnyH _ _ _ _ _ _ _ _ (World.drew _)
            refine wpAnyH_take (i := 0) (oi := { dst := some 118, op := _, type := _, pos := _, after := _, guard := none }) (v := .pointer (some ⟨pi, 0, none⟩)) rfl (by kernel_rfl) (by kernel_rfl) (by kernel_rfl) (fun _ _ _ h => h) (Or.inl ⟨by rfl, by intro W hW; go_simp⟩) HS ?_
            simp only [Act.put, List.setIfInBounds_toArray, List.set_cons_zero, List.set_cons_succ]
            refine wpAnyH_take (i := 1) (oi := { dst := some 119, op := _, type := _, pos := _, after := _, guard := none }) (v := .pointer (some ⟨q, 0, none⟩)) rfl (by kernel_rfl) (by kernel_rfl) (by kernel_rfl) (fun _ _ _ h => h) (Or.inl ⟨by rfl, by intro W hW; go_simp⟩) HS ?_
            simp only [Act.put, List.setIfInBounds_toArray, List.set_cons_zero, List.set_cons_succ]
            refine wpAnyH_take (i := 2) (oi := { dst := some 120, op := _, type := _, pos := _, after := _, guard := none }) (v := .iface 28 (.pointer (some ⟨q, 0, none⟩))) rfl (by kernel_rfl) (by kernel_rfl) (by kernel_rfl) (fun _ _ _ h => h) (Or.inl ⟨by rfl, by intro W hW; go_simp⟩) HS ?_
            simp only [Act.put, List.setIfInBounds_toArray, List.set_cons_zero, List.set_cons_succ]
            refine wpAnyH_take (i := 3) (oi := { dst := some 121, op := _, type := _, pos := _, after := _, guard := none }) (v := .slice (some ⟨g, o, none⟩) (a + 1) cw) rfl (by kernel_rfl) (by kernel_rfl) (by kernel_rfl) (fun _ _ _ h => h) (Or.inl ⟨by rfl, by intro W hW; go_simp⟩) HS ?_
            simp only [Act.put, List.setIfInBounds_toArray, List.set_cons_zero, List.set_cons_succ]
            refine wpAnyH_take (i := 4) (oi := { dst := some 122, op := _, type := _, pos := _, after := _, guard := none }) (v := .pointer (some ⟨g, o, none⟩)) rfl (by kernel_rfl) (by kernel_rfl) (by kernel_rfl) (fun _ _ _ h => h) (Or.inl ⟨by rfl, by intro W hW; go_simp⟩) HS ?_
            simp only [Act.put, List.setIfInBounds_toArray, List.set_cons_zero, List.set_cons_succ]
            refine wpAnyH_take (i := 5) (oi := { dst := some 123, op := _, type := _, pos := _, after := _, guard := none }) (v := .pointer (some ⟨g, o, none⟩)) rfl (by kernel_rfl) (by kernel_rfl) (by kernel_rfl) (fun _ _ _ h => h) (Or.inl ⟨by rfl, by intro W hW; go_simp⟩) HS ?_
            simp only [Act.put, List.setIfInBounds_toArray, List.set_cons_zero, List.set_cons_succ]
            refine wpAnyH_take (i := 6) (oi := { dst := some 124, op := _, type := _, pos := _, after := _, guard := none }) (v := .int .i64 d) rfl (by kernel_rfl) (by kernel_rfl) (by kernel_rfl) (fun _ _ _ h => h) (Or.inl ⟨by rfl, by intro W hW; obtain ⟨hc0, hc1⟩ := hW; go_simp⟩) HS ?_
            simp only [Act.put, List.setIfInBounds_toArray, List.set_cons_zero, List.set_cons_succ]
            refine wpAnyH_take (i := 7) (oi := { dst := some 125, op := _, type := _, pos := _, after := _, guard := none }) (v := .slice (some ⟨g, o, none⟩) (a + 1) cw) rfl (by kernel_rfl) (by kernel_rfl) (by kernel_rfl) (fun _ _ _ h => h) (Or.inl ⟨by rfl, by intro W hW; go_simp⟩) HS ?_
            simp only [Act.put, List.setIfInBounds_toArray, List.set_cons_zero, List.set_cons_succ]
            refine wpAnyH_take (i := 8) (oi := { dst := some 126, op := _, type := _, pos := _, after := _, guard := none }) (v := .pointer (some ⟨g, o, none⟩)) rfl (by kernel_rfl) (by kernel_rfl) (by kernel_rfl) (fun _ _ _ h => h) (Or.inl ⟨by rfl, by intro W hW; go_simp⟩) HS ?_
            simp only [Act.put, List.setIfInBounds_toArray, List.set_cons_zero, List.set_cons_succ]
            refine wpAnyH_take (i := 9) (oi := { dst := some 127, op := _, type := _, pos := _, after := _, guard := none }) (v := .pointer (some ⟨g, o + 1, none⟩)) rfl (by kernel_rfl) (by kernel_rfl) (by kernel_rfl) (fun _ _ _ h => h) (Or.inl ⟨by rfl, by intro W hW; go_simp⟩) HS ?_
            simp only [Act.put, List.setIfInBounds_toArray, List.set_cons_zero, List.set_cons_succ]
            refine wpAnyH_take (i := 10) (oi := { dst := some 128, op := _, type := _, pos := _, after := _, guard := none }) (v := .slice a0 l0 c0) rfl (by kernel_rfl) (by kernel_rfl) (by kernel_rfl) (fun _ _ _ h => h) (Or.inl ⟨by rfl, by intro W hW; obtain ⟨hc0, hc1⟩ := hW; go_simp⟩) HS ?_
            simp only [Act.put, List.setIfInBounds_toArray, List.set_cons_zero, List.set_cons_succ]
            refine anyH_ready (rs := [11]) (by decide +kernel) (by simp) ?_
            refine AllReadyH.cons (o := { dst := some 129, op := .call { callee := .value (.func 14), args := #[.tmp 118, .tmp 120, .tmp 124, .tmp 128], argTypes := #[30, 72, 3, 22] }, type := _, pos := _, after := _, guard := none }) rfl (fun K hK => ?_) AllReadyH.nil
            go_simp
            have h9 := inTake_any pi q (.slice none 0 0) (.slice none 0 0) mp [b] ⟨1, b.length, M, b.take d⟩ d (.slice a0 l0 c0) ((b.drop d).take 64) _ _ HC.out (sumsR_at ((HC.out.front (m := [_, _, _, _, _, _]) (l := []) [4, 0, 1, 2, 3, 5] 6 (by decide))) 0 rfl rfl) (by simp only [List.length_take]; omega) (by simp only; rw [HML.out]; decide) (by simp) (by simp only; omega)
            rw [HT.out] at h9
            refine h9.mono ?_
            rintro e w9 ⟨rfl, hc⟩
            have HC : Hid (Hold w9 [inR pi ⟨st', b.length, M, b.take d'⟩, tabR q (.slice none 0 0) (.slice none 0 0) mp [b], outR po ⟨1, b, s, a + 1⟩, .ownZ 42 2 (.slice (some ⟨g, o, none⟩) (a + 1) cw) (a + 1) (pcC d (.slice a0 l0 c0 :: vs)), sumsR (.slice a0 l0 c0 :: vs) (pcB b d (a + 1)), .base w]) := Lib.hid hc
            have HS := HC.out.ownZOf (e := 42) (sz := 2) (n := a + 1) (v := .slice (some ⟨g, o, none⟩) (a + 1) cw) (cs := pcC d (.slice a0 l0 c0 :: vs)) (by simp) |>.two
            clear hc h9
            refine hK _ _ HS ?_
            clear hK K
            try simp only [Act.put, List.setIfInBounds_toArray, List.set_cons_zero, List.set_cons_succ]
            refine wpAnyH_take (i := 12) (oi := { dst := some 130, op := _, type := _, pos := _, after := _, guard := none }) (v := .bool false) rfl (by kernel_rfl) (by kernel_rfl) (by kernel_rfl) (fun _ _ _ h => h) (Or.inl ⟨by rfl, by intro W hW; go_simp⟩) HS ?_
            simp only [Act.put, List.setIfInBounds_toArray, List.set_cons_zero, List.set_cons_succ]
            refine wpAnyH_take (i := 13) (oi := { dst := some 131, op := _, type := _, pos := _, after := _, guard := none }) (v := .bool false) rfl (by kernel_rfl) (by kernel_rfl) (by kernel_rfl) (fun _ _ _ h => h) (Or.inl ⟨by rfl, by intro W hW; go_simp⟩) HS ?_
            simp only [Act.put, List.setIfInBounds_toArray, List.set_cons_zero, List.set_cons_succ]
            refine wpAnyH_take (i := 14) (oi := { dst := some 132, op := _, type := _, pos := _, after := _, guard := (some (13, false)) }) (v := .pointer (some ⟨po, 0, none⟩)) rfl (by kernel_rfl) (by kernel_rfl) (by kernel_rfl) (fun _ _ _ h => h) (Or.inl ⟨by rfl, by intro W hW; go_simp⟩) HS ?_
            simp only [Act.put, List.setIfInBounds_toArray, List.set_cons_zero, List.set_cons_succ]
            refine anyH_ready (rs := [15]) (by decide +kernel) (by simp) ?_
            refine AllReadyH.cons (o := { dst := some 133, op := .call { callee := .value (.func 15), args := #[.tmp 132], argTypes := #[24] }, type := _, pos := _, after := _, guard := (some (13, false)) }) rfl (fun K hK => ?_) AllReadyH.nil
            go_simp
            have h9 := came_yes po ⟨1, b, s, a + 1⟩ _ _ (HC.out.front (m := [_, _, _, _, _, _]) (l := []) [2, 3, 0, 1, 4, 5] 6 (by decide)) rfl (Nat.succ_pos _) ha4 hsl hl
            rw [HO.out] at h9
            refine h9.mono ?_
            rintro e w10 ⟨rfl, hc⟩
            have HC : Hid (Hold w10 [inR pi ⟨st', b.length, M, b.take d'⟩, tabR q (.slice none 0 0) (.slice none 0 0) mp [b], outR po ⟨st', b, s, a + 1 - 1⟩, .ownZ 42 2 (.slice (some ⟨g, o, none⟩) (a + 1) cw) (a + 1) (pcC d (.slice a0 l0 c0 :: vs)), sumsR (.slice a0 l0 c0 :: vs) (pcB b d (a + 1)), .base w]) := Lib.hid (hc.front (m := [_, _, _, _, _, _]) (l := []) [2, 3, 0, 1, 4, 5] 6 (by decide))
            have HS := HC.out.ownZOf (e := 42) (sz := 2) (n := a + 1) (v := .slice (some ⟨g, o, none⟩) (a + 1) cw) (cs := pcC d (.slice a0 l0 c0 :: vs)) (by simp) |>.two
            clear hc h9
            refine hK _ _ HS ?_
            clear hK K
            try simp only [Act.put, List.setIfInBounds_toArray, List.set_cons_zero, List.set_cons_succ]
            refine wpAnyH_take (i := 16) (oi := { dst := some 134, op := _, type := _, pos := _, after := _, guard := (some (13, false)) }) (v := .bool false) rfl (by kernel_rfl) (by kernel_rfl) (by kernel_rfl) (fun _ _ _ h => h) (Or.inl ⟨by rfl, by intro W hW; go_simp⟩) HS ?_
            simp only [Act.put, List.setIfInBounds_toArray, List.set_cons_zero, List.set_cons_succ]
            refine wpAnyH_take (i := 17) (oi := { dst := some 135, op := _, type := _, pos := _, after := _, guard := none }) (v := .bool false) rfl (by kernel_rfl) (by kernel_rfl) (by kernel_rfl) (fun _ _ _ h => h) (Or.inl ⟨by rfl, by intro W hW; go_simp⟩) HS ?_
            simp only [Act.put, List.setIfInBounds_toArray, List.set_cons_zero, List.set_cons_succ]
            refine wpAnyH_done (by decide +kernel) ?_ _
            have HC7 := Hold.cutZ (HC.out.front (m := [_, _, _, _, _, _]) (l := []) [3, 0, 1, 2, 4, 5] 6 (by decide)) 1 (by omega)
            have HC8 := (Hold.star.1 (HC7.front (m := [_, _, _, _, _, _]) (l := []) [4, 0, 1, 2, 3, 5] 6 (by decide))).tail
            have HC9 := Hold.front (m := [_, _, _, _, _, _]) (l := []) HC8 [2, 3, 4, 1, 0, 5] 6 (by decide)
            have HCA : Hid (Hold w10 [inR pi ⟨st', b.length, M, b.take d'⟩, tabR q (.slice none 0 0) (.slice none 0 0) mp [b], outR po ⟨st', b, s, a⟩, .ownZ 42 2 (.slice (Go.Proofs.Ytogfkfoklnpfhaa.cutZ g o cw 1 2) a (cw - 1)) a (pcC d' vs), sumsR vs (pcB b d' a), .base w]) := Lib.hid (by
              rw [← pcC_move (d := d) (d' := d') (vs := vs) (fun h => HD'.out (by rw [HV2.out] at h; exact h)), ← pcB_move (d := d) (d' := d') (a := a) HD'.out]
              exact HC9)
            have hcut1 := HCUT.out
            clear HC HC7 HC8 HC9 HS
            go_wp2_with fail
            go_roundw
            case rel => exact ⟨d', a, s, n, st', vs, _, cw - 1, rfl, rfl, by rw [HK'.out, ← HK.out]; go_num, HI'.out, HV2.out, HCA.out⟩
            case measure => simp [intOf]; omega
    · obtain ⟨rfl, rfl, rfl, rfl, hn⟩ := HI.out.fin hd
      have i0 := inR_st2 HC.out
      simp only at i0
      have h9 := inBytes_any pi _ _ _ HC.out (by simp only [List.length_take]; omega)
      simp only [List.take_length] at h9
      have H9 := Lib.hid h9
      clear h9
      go_wp2_with fail
      refine H9.out.mono ?_
      rintro e w11 ⟨v8, rfl, hc⟩
      have hr8 : Bs w11 v8 b := hc.rowOf (by simp)
      obtain ⟨a8, c8, rfl, _, _⟩ := hr8.form
      have HC := Lib.hid hc.tail
      have h10 := Lib.hid (same_b _ _ b b _ hr8 (HBS.out.below (HC.out.baseOf (w0 := w) (by simp))))
      clear hc hr8 H9
      go_wp2_with fail
      refine h10.out.mono ?_
      rintro e w12 ⟨rfl, hb⟩
      have HC := Lib.hid (HC.out.step hb)
      clear hb h10
      go_wp2_with fail
      go_ret
      exact ⟨rfl, HC.out.baseOf (by simp)⟩

set_option maxRecDepth 100000 in
set_option maxHeartbeats 4000000 in
theorem goes_walk (v av : Value) (b ah : List UInt8) (w : World) (h : Bs w v b) (ha : Bs w av ah) :
    Calls Try.prog 3 #[v, av] w fun e w' => e = .returned (.bool true) ∧ Below w.heap.size w w' := by
  by_cases hsm : b.length ≤ 3000 ∧ ah.length ≤ 100
  · by_cases hl : b.length ≤ 2048
    · exact goes_go v av b ah w h ha hl hsm.2
    · have HBS := Lib.hid h
      obtain ⟨ao, co, rfl, hco, hmo⟩ := h.form
      obtain ⟨aa, ca, rfl, hca, hma⟩ := ha.form
      unfold maxLen at hmo hma
      have h1 : (b.length : Int) ≤ 3000 := by omega
      have h2 : (ah.length : Int) ≤ 100 := by omega
      have h3 : (2048 : Int) < b.length := by omega
      have h4 : 2048 < b.length := by omega
      clear h ha hsm
      go_enter Try.func3, Try.ntmps3
      go_wp2_with fail
      refine (alive21_any w).mono ?_
      rintro e w1 ⟨rfl, hb⟩
      have HC := Lib.hid ((Hold.start w).step hb)
      clear hb
      go_wp2_with fail
      refine (offer_long _ b _ _ HC.out (HBS.out.below (HC.out.baseOf (w0 := w) (by simp))) h4).mono ?_
      rintro e w2 ⟨rfl, hc⟩
      have HB := Lib.hid (hc.baseOf (w0 := w) (by simp))
      clear hc HC
      go_wp2_with fail
      go_ret
      exact ⟨rfl, HB.out⟩
  · obtain ⟨ao, co, rfl, hco, hmo⟩ := h.form
    obtain ⟨aa, ca, rfl, hca, hma⟩ := ha.form
    unfold maxLen at hmo hma
    clear h ha
    have ho : (3000 : Int) < b.length ∨ ¬ (3000 : Int) < b.length ∧ (100 : Int) < ah.length := by omega
    clear hsm
    rcases ho with ho | ⟨ho, ho2⟩
    all_goals
      go_enter Try.func3, Try.ntmps3
      go_wp2_with fail
      refine (alive21_any w).mono ?_
      rintro e w1 ⟨rfl, hb⟩
      have HB := Lib.hid hb
      clear hb
      go_wp2_with fail
      go_ret
      exact ⟨rfl, HB.out⟩
end Go.Proofs.Ytogfkfoklnpfhaa
