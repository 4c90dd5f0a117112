/- Texts of this proof, one behind the other: AppNx, DerRawO, HReg, AppOf, AppEnd, AppSide, AppPair, MarkInj, AppFile. -/
import Derived.Test.YtiplepdmkbiehaaAeA6
import Derived.OrdersHeld
import Derived.StillTailTactics
namespace Go.Proofs.Ytiplepdmkbiehaa
set_option linter.unusedSimpArgs false
set_option linter.unusedVariables false
open Go.RowKit Go.Maps Go.MapKept Go.WideMaps
theorem firstI_some {A : AppF} {i : Nat} (h1 : 1 ≤ i) (h2 : i ≤ A.id) (h3 : ∀ k : Nat, 1 ≤ k → k < i → outStop (getV A.outs k OutF.nil)) (h4 : ¬ outStop (getV A.outs i OutF.nil)) : firstI A = some i := by
  unfold firstI
  rw [List.find?_range'_eq_some]
  refine ⟨by simpa using h4, by simp; omega, fun j hj1 hj2 => ?_⟩
  simpa using h3 j hj1 hj2
theorem firstI_none {A : AppF} (h3 : ∀ k : Nat, 1 ≤ k → k < A.id + 1 → outStop (getV A.outs k OutF.nil)) : firstI A = none := by
  unfold firstI
  rw [List.find?_eq_none]
  intro k hk
  simp at hk
  simpa using h3 k hk.1 (by omega)
theorem three_vals {w : World} (m n : Nat) {v : Value} {b : List UInt8} (h : Bs w v b) : TvsF w TF [numT m, numT n, rawT b] [.int .i64 0, .int .i64 0, .int .u64 m, .slice none 0 0, .slice none 0 0, .int .i64 0, .int .i64 0, .int .u64 n, .slice none 0 0, .slice none 0 0, .int .i64 1, .int .i64 0, .int .u64 0, v, .slice none 0 0] :=
  ⟨[.int .i64 0, .int .i64 0, .int .u64 m, .slice none 0 0, .slice none 0 0], [.int .i64 0, .int .i64 0, .int .u64 n, .slice none 0 0, .slice none 0 0, .int .i64 1, .int .i64 0, .int .u64 0, v, .slice none 0 0], rfl, tvf_num w m, [.int .i64 0, .int .i64 0, .int .u64 n, .slice none 0 0, .slice none 0 0], [.int .i64 1, .int .i64 0, .int .u64 0, v, .slice none 0 0], rfl, tvf_num w n, _, [], rfl, tvf_raw h, rfl⟩
theorem chunkB_len (o : OutF) : (chunkB o).length ≤ 64 := by
  unfold chunkB
  rw [List.length_take]
  omega
set_option maxRecDepth 100000 in
set_option maxHeartbeats 8000000 in
theorem appNext_none (a q : Nat) (P : List Nat × List Nat) (id : Nat) (outs : List (Int × OutF)) (ins : List (Int × InF)) (names : List (Int × ByteArray)) (log : List EvF) (l : List Res) (w : World) (h : Hold w (appR a q P ⟨id, outs, ins, names, [], log⟩ :: l))
    (hk : ∀ i : Nat, 1 ≤ i → i ≤ id → hasV outs i = true ∧ OutOk (getV outs i OutF.nil)) (hid : id ≤ 1099511627776) :
    Calls Try.prog 30 #[.pointer (some ⟨a, 0, none⟩)] w (NextRes a q P l (nextA ⟨id, outs, ins, names, [], log⟩)) := by
  have HC0 := hI h
  have HKS := hI hk
  obtain ⟨ob0, ib0, nb0, wv0, lv0, h0⟩ := appR_open h
  obtain ⟨wa, wc, rfl, hw1, hw2⟩ := waitsR_form (v := wv0) (ws := []) h0 (by simp)
  have c5 : w.cell? ⟨a, 5, none⟩ = some (.slice wa 0 wc) := h0.blk0.cell 5
  clear h h0 hk
  go_enter Try.func30, Try.ntmps30
  go_wp2_with fail
  go_loopw [4] (fun m wr => ∃ j : Nat, 1 ≤ j ∧ m = .int .i64 j ∧ ((j ≤ id + 1 ∧ (∀ k : Nat, 1 ≤ k → k < j → outStop (getV outs k OutF.nil)) ∧ Hold wr (appR a q P ⟨id, outs, ins, names, [], log⟩ :: l)) ∨
    (∃ i : Nat, 1 ≤ i ∧ i ≤ id ∧ (∀ k : Nat, 1 ≤ k → k < i → outStop (getV outs k OutF.nil)) ∧ ¬ outStop (getV outs i OutF.nil) ∧ j = i + 1 ∧ Hold wr (appR a q P (sayA (goA ⟨id, outs, ins, names, [], log⟩ i) (chunkW ⟨id, outs, ins, names, [], log⟩ i)) :: l)))) (fun m _ => id + 2 - (intOf m).toNat)
  case atStart => exact ⟨1, by omega, rfl, .inl ⟨by omega, fun k _ _ => by omega, HC0.out⟩⟩
  case round =>
    obtain ⟨j, hj1, rfl, ⟨hj2, hst, hh⟩ | ⟨i, hi1, hi2, hst, hns, rfl, hh⟩⟩ := hrel
    · have HCR := hI hh
      have HST := hI hst
      obtain ⟨ob, ib, nb, wv, lv, h0⟩ := appR_open hh
      obtain ⟨wa', wc', rfl, -, -⟩ := waitsR_form (v := wv) (ws := []) h0 (by simp)
      have c5 : wr.cell? ⟨a, 5, none⟩ = some (.slice wa' 0 wc') := h0.blk0.cell 5
      have c1 : wr.cell? ⟨a, 1, none⟩ = some (.int .i64 id) := h0.blk0.cell 1
      have c2 : wr.cell? ⟨a, 2, none⟩ = some (.map (some ob)) := h0.blk0.cell 2
      have HM := hI ((outsR_iff.1 h0.swap).mapVOf (b := ob) (M := ptrM P.1 outs) List.mem_cons_self)
      clear hst hh h0 HC0
      by_cases hlt : j ≤ id
      · have hji : (j : Int) ≤ id := by omega
        obtain ⟨hhas, hok⟩ := HKS.out j hj1 hlt
        obtain ⟨p, _, hp, -, -⟩ := appR_out (j : Int) HCR.out hhas
        obtain ⟨R, hf, hback⟩ := appR_outP (k := (j : Int)) HCR.out hhas hp
        obtain ⟨o, ho⟩ : ∃ o, o = getV outs (j : Int) OutF.nil := ⟨_, rfl⟩
        have hf : Hold wr (outR p (getV outs (j : Int) OutF.nil) :: R :: l) := hf
        rw [← ho] at hf hok
        have HP := hI hp
        have HB := hI hback
        have HF := hI hf
        have HO := hI ho
        have HK := hI (kI_key (n := (j : Int)) (by omega))
        have HOK := hI hok
        have HHAS := hI hhas
        clear hf hback hp ho hok hhas
        by_cases hs : outStop o
        · have HCH := hI (chunk_no p o _ wr HF.out hs)
          have HS := hI hs
          clear hs HF
          go_wp2_with (at_lookup; refine wpList_lookupV _ rfl _ _ _ rfl 2 66 intK kI_inj Try.underlying61 (zOut _) ob _ rfl HM.out _ HK.out ?_; rw [HP.out])
          refine HCH.out.mono ?_
          rintro e w1 ⟨rfl, hc⟩
          have hc := HB.out w1 _ _ hc
          rw [show ({ (⟨id, outs, ins, names, [], log⟩ : AppF) with outs := setV (⟨id, outs, ins, names, [], log⟩ : AppF).outs j o } : AppF) = ⟨id, outs, ins, names, [], log⟩ from by rw [HO.out]; simp only [setV_get _ _ _ HHAS.out]] at hc
          have HC := hI hc
          clear hc HCH HB
          go_wp2_with fail
          go_roundw
          case rel => exact ⟨j + 1, by omega, by go_num, .inl ⟨by omega, fun k h1 h2 => by
            by_cases hkj : k = j
            · rw [hkj, ← HO.out]; exact HS.out
            · exact HST.out k h1 (by omega), HC.out⟩⟩
          case measure => simp [intOf]; omega
        · have HCH := hI (chunk_yes p o _ wr HF.out hs HOK.out.s HOK.out.d HOK.out.a)
          have HS := hI hs
          have hsn : ((o.sent : Nat) : Int) ≤ 2048 := by have h1 := HOK.out.s; have h2 := HOK.out.d; omega
          obtain ⟨sn, hsent⟩ : ∃ sn, sn = o.sent := ⟨_, rfl⟩
          unfold ChunkRes at HCH
          rw [← hsent] at hsn HCH
          have HSN := hI hsent
          have hw : IntKind.u64.wrap (j : Int) = j := by rw [IntKind.wrap_u64]; omega
          have hw2 : IntKind.u64.wrap (sn : Int) = sn := by rw [IntKind.wrap_u64]; omega
          clear hs HF hsent
          go_wp2_with (at_lookup; refine wpList_lookupV _ rfl _ _ _ rfl 2 66 intK kI_inj Try.underlying61 (zOut _) ob _ rfl HM.out _ HK.out ?_; rw [HP.out])
          refine HCH.out.mono ?_
          rintro e w1 ⟨v, rfl, hc⟩
          have hb1 : Bs w1 v (chunkB o) := by rw [chunkB, ← HSN.out]; exact hc.swap.row0
          have hlen := chunkB_len o
          have hg := HB.out w1 _ _ hc.swap.tail
          have hg : Hold w1 (appR a q P (goA ⟨id, outs, ins, names, [], log⟩ j) :: l) := by
            rw [goA, goO, ← HO.out, ← HSN.out]
            exact hg
          have HCW : Hid (chunkW ⟨id, outs, ins, names, [], log⟩ j = enc 4 [numT j, numT sn, rawT (chunkB o)]) := hI (by rw [chunkW, ← HO.out, ← HSN.out])
          have HWK : Hid (WordOk 4 [numT j, numT sn, rawT (chunkB o)]) := hI (wordOk (by decide) (by decide) (by simp) (by intro x hx; simp only [List.mem_cons, List.not_mem_nil, or_false] at hx; rcases hx with rfl | rfl | rfl <;> first | exact LeafT.num (by omega) | exact LeafT.raw (by omega)))
          obtain ⟨va, vc, rfl, -, -⟩ := hb1.form
          have HB1 := hI hb1
          have HC := hI hg
          obtain ⟨cb, hcb⟩ : ∃ cb, cb = chunkB o := ⟨_, rfl⟩
          rw [← hcb] at HB1 HCW HWK hlen ⊢
          clear hc hb1 hg HCH HB hcb
          go_wp2_with fail
          refine (derNum_any j w1).mono ?_
          rintro e w2 ⟨rfl, hb⟩
          have HC := hI (HC.out.step hb)
          have HB2 := hI (HB1.out.below hb)
          clear hb HB1
          go_wp2_with fail
          refine (derNum_any sn w2).mono ?_
          rintro e w3 ⟨rfl, hb⟩
          have HC := hI (HC.out.step hb)
          have HRW := hI (derRaw_any _ cb w3 (HB2.out.below hb) (by omega))
          clear hb HB2
          go_wp2_with fail
          refine HRW.out.mono ?_
          rintro e w4 ⟨v4, rfl, hb4, hb⟩
          obtain ⟨ra, rc, rfl, -, -⟩ := hb4.form
          have HSAY := hI (appSay_word a q P _ 4 (.slice (some ⟨w4.heap.size, 0, none⟩) 3 3) [numT j, numT sn, rawT cb] _ _ (w4.alloc (.cells #[.int .i64 0, .int .i64 0, .int .u64 j, .slice none 0 0, .slice none 0 0, .int .i64 0, .int .i64 0, .int .u64 sn, .slice none 0 0, .slice none 0 0, .int .i64 1, .int .i64 0, .int .u64 0, .slice ra cb.length rc, .slice none 0 0] 76)) ((HC.out.step hb).alloc _) (Sl.lit rfl rfl (by simp [Value.oneCell']) (by unfold maxLen; decide)) (three_vals j sn (hb4.alloc _)) HWK.out (Nat.zero_le _))
          clear hb hb4 HRW HC
          go_wp2_with fail
          refine HSAY.out.mono ?_
          rintro e w5 ⟨rfl, hc⟩
          have hc : Hold w5 (appR a q P (sayA (goA ⟨id, outs, ins, names, [], log⟩ j) (chunkW ⟨id, outs, ins, names, [], log⟩ j)) :: l) := by rw [HCW.out]; exact hc
          have HC := hI hc
          clear hc HSAY
          go_wp2_with fail
          go_roundw
          case rel => exact ⟨j + 1, by omega, by go_num, .inr ⟨j, hj1, hlt, HST.out, by rw [← HO.out]; exact HS.out, rfl, HC.out⟩⟩
          case measure => simp [intOf]; omega
      · obtain rfl : j = id + 1 := by omega
        have hji : ¬ ((id : Int) + 1 ≤ id) := by omega
        have HR : Hid (nextA ⟨id, outs, ins, names, [], log⟩ = (⟨id, outs, ins, names, [], log⟩, none)) := hI (by unfold nextA; simp only; rw [firstI_none (A := ⟨id, outs, ins, names, [], log⟩) HST.out])
        go_wp2_with fail
        go_ret2
        rw [HR.out]
        exact ⟨rfl, HCR.out⟩
    · have HR : Hid (nextA ⟨id, outs, ins, names, [], log⟩ = (goA ⟨id, outs, ins, names, [], log⟩ i, some (chunkW ⟨id, outs, ins, names, [], log⟩ i))) := hI (by unfold nextA; simp only; rw [firstI_some (A := ⟨id, outs, ins, names, [], log⟩) hi1 hi2 hst hns])
      obtain ⟨cw, hcw⟩ : ∃ cw, cw = chunkW ⟨id, outs, ins, names, [], log⟩ i := ⟨_, rfl⟩
      rw [← hcw] at HR hh
      have hh : Hold wr (appR a q P ⟨id, setV outs i (goO (getV outs i OutF.nil)), ins, names, cw :: [], log⟩ :: l) := hh
      obtain ⟨_, _, _, _, _, h0⟩ := appR_open hh
      have c1 : wr.cell? ⟨a, 1, none⟩ = some (.int .i64 id) := h0.blk0.cell 1
      obtain ⟨g, o, cap, v, c5, f5, cg, hc, hm, hb, hfin⟩ := appR_pop hh
      obtain ⟨va, vc, rfl, -, -⟩ := hb.form
      have HF := hI hfin
      unfold maxLen at hm
      have HCUT : Hid (∀ W, (Instr.sliceAt 29 (.slice (some ⟨g, o, none⟩) 1 cap) (some (.int .i64 1)) none none).run Try.prog W = .ok (.slice (cutZ g o cap 1 1) 0 (cap - 1)) W) := hI (fun W => by
        have := run_sliceZ Try.underlying29 szRow g o 1 cap 1 (by omega) hc W
        simpa using this)
      clear hh h0 hfin hb hst hns hcw HC0 HKS
      by_cases hji : (i : Int) + 1 ≤ id
      · go_wp2_with ((with_reducible show wpList _ _ _ (⟨some 71, _, _, _, _, _⟩ :: _) _ _); refine wpList_sliceV rfl rfl (HCUT.out _) ?_)
        go_ret2
        rw [HR.out]
        exact ⟨_, rfl, HF.out⟩
      · go_wp2_with ((with_reducible show wpList _ _ _ (⟨some 71, _, _, _, _, _⟩ :: _) _ _); refine wpList_sliceV rfl rfl (HCUT.out _) ?_)
        go_ret2
        rw [HR.out]
        exact ⟨_, rfl, HF.out⟩
theorem appNext_any (a q : Nat) (P : List Nat × List Nat) (A : AppF) (l : List Res) (w : World) (h : Hold w (appR a q P A :: l)) (hk : ∀ i : Nat, 1 ≤ i → i ≤ A.id → hasV A.outs i = true ∧ OutOk (getV A.outs i OutF.nil)) (hid : A.id ≤ 1099511627776) :
    Calls Try.prog 30 #[.pointer (some ⟨a, 0, none⟩)] w (NextRes a q P l (nextA A)) := by
  obtain ⟨id, outs, ins, names, waits, log⟩ := A
  cases waits with
  | nil => exact appNext_none a q P id outs ins names log l w h hk hid
  | cons b ws => exact appNext_pop a q P id outs ins names b ws log l w h
end Go.Proofs.Ytiplepdmkbiehaa
namespace Go.Proofs.Ytiplepdmkbiehaa
set_option linter.unusedSimpArgs false
set_option linter.unusedVariables false
open Go.RowKit
set_option maxHeartbeats 1000000 in
set_option maxRecDepth 100000 in
theorem derRawO_any (v : Value) (b : List UInt8) (w : World) (h : Bs w v b) (hl : b.length ≤ 1099511627776) :
    Calls Try.prog 27 #[v] w fun e w' => ∃ v', e = .returned (.agg #[.int .i64 1, .int .i64 0, .int .u64 0, v', .slice none 0 0]) ∧ Bs w' v' b ∧ Below w.heap.size w w' ∧ ∀ k, v'.ownBlock = some k → w.heap.size ≤ k := by
  obtain ⟨a, c, rfl, hc, hm⟩ := h.form
  have HA := hI (h.alloc (.cells zs5.toArray 76))
  have HN := hI (Blk.new w zs5 76)
  have HB0 : Hid (Below w.heap.size w (w.alloc (.cells zs5.toArray 76))) := hI ((Below.refl _ _).alloc (Nat.le_refl _) _)
  clear h
  go_enter Try.func27, Try.ntmps27
  go_wp2_with ((with_reducible show wpList _ _ _ (⟨some 4, _, _, _, _, _⟩ :: _) _ _); refine wpList_app2 rfl (.const (.slice none 0 0)) (.tmp 3) elBytes rfl w.heap.size (Own.nil _ _ _ _ _) (by simp [Act.eval, Value.ownBlock]) HA.out (by unfold maxLen; omega) (by omega) (by simp) ?_)
  intro v1 w1 ho1 hk1 hv1
  have hz1 := hk1.size
  simp at hz1
  have hb1 : Below w.heap.size w w1 := HB0.out.trans (hk1.below (by rintro x (h | h) <;> (try simp [Value.ownBlock] at h) <;> omega))
  have hr1 : Blk w1 w.heap.size zs5 76 := HN.out.keep hk1 (by rintro (h | h) <;> (try simp [Value.ownBlock] at h) <;> omega)
  have hvb : ∀ x, v1.ownBlock = some x → w.heap.size + 1 ≤ x := fun x hx => by
    rcases (hv1 x hx).1 with h | h
    · simp [Value.ownBlock] at h
    · try simp at h
      omega
  obtain ⟨a1, c1, rfl, _⟩ := ho1.sl.form
  have HR1 := hI hr1
  have HB1 := hI hb1
  have HS1 : Hid (Bs w1 (.slice a1 b.length c1) b) := hI ho1.sl
  have HVB := hI hvb
  clear ho1 hk1 hv1 hb1 hr1 hvb
  go_wp2_with ((with_reducible show wpList _ _ _ (⟨none, .store _ (.tmp 2) (.tmp 5), _, _, _, _⟩ :: _) _ _); refine wpList_stAgg rfl (.tmp 2) (.tmp 5) aggDer rfl rfl (vs := [.int .i64 1, .int .i64 0, .int .u64 0, .slice a1 b.length c1, .slice none 0 0]) rfl rfl HR1.out (Nat.le_refl _) (by intro u hu; simp at hu; rcases hu with rfl | rfl | rfl | rfl | rfl <;> rfl) ?_)
  intro w2 h2 k2
  have h2' : Blk w2 w.heap.size [.int .i64 1, .int .i64 0, .int .u64 0, .slice a1 b.length c1, .slice none 0 0] 76 := by simpa [zs5] using h2
  have H2 := hI h2'
  have HB2 : Hid (Below w.heap.size w w2) := hI (HB1.out.trans (k2.below (by omega)))
  have HS2 : Hid (Bs w2 (.slice a1 b.length c1) b) := hI (Sl.keep HS1.out k2 (fun x hx e => by have := HVB.out x hx; omega))
  clear h2 h2' k2
  go_wp2_with fail
  exact bodyPost_ret (results_agg rfl aggDer rfl (cs := [.int .i64 1, .int .i64 0, .int .u64 0, .slice a1 b.length c1, .slice none 0 0]) rfl H2.out.cellsAll) rfl ⟨_, rfl, HS2.out, HB2.out, fun k hk => by have := HVB.out k hk; omega⟩
end Go.Proofs.Ytiplepdmkbiehaa
namespace Go.Proofs.Ytiplepdmkbiehaa
set_option linter.unusedSimpArgs false
set_option linter.unusedVariables false
section
section
variable {P : Program} {ops : Array Oper} {Q : Exit → Act → World → Prop} {md : Region.Mode} {S : World → Prop}
/-- One operation that may come up, as the walk wants it. -/
def AllReadyH (P : Program) (md : Region.Mode) (ops : Array Oper) (Q : Exit → Act → World → Prop) (S : World → Prop) (fuel : Nat) (listed : Array Bool) (a : Act) (w : World) (rs : List Nat) : Prop :=
  ∀ i ∈ rs, wpOp P ops Q i (fun a' w' => S w' ∧ wpAnyH P md ops Q S fuel (listed.setIfInBounds i true) a' w') a w
theorem AllReadyH.nil {fuel : Nat} {listed : Array Bool} {a : Act} {w : World} : AllReadyH P md ops Q S fuel listed a w [] := fun _ h => by cases h
theorem AllReadyH.cons {fuel : Nat} {listed : Array Bool} {a : Act} {w : World} {i : Nat} {o : Oper} {rs : List Nat} (ho : ops[i]? = some o)
    (h : ∀ K' : Act → World → Prop, (∀ a w, S w → wpAnyH P md ops Q S fuel (listed.setIfInBounds i true) a w → K' a w) → if Region.wanted o (yielded ops a.tmps) = true then Oper.wp P o a w K' Q else K' (a.put o.dst undef) w)
    (hs : AllReadyH P md ops Q S fuel listed a w rs) : AllReadyH P md ops Q S fuel listed a w (i :: rs) := fun j hj => by
  rcases List.mem_cons.1 hj with rfl | hj
  · exact wpOp_step ho (fun K' hK => h K' (fun a w h1 h2 => hK a w ⟨h1, h2⟩))
  · exact hs j hj
theorem anyH_ready {rs : List Nat} {fuel : Nat} {listed : Array Bool} {a : Act} {w : World} (hr : Region.ready md ops listed = rs) (hne : rs ≠ [])
    (h : AllReadyH P md ops Q S fuel listed a w rs) : wpAnyH P md ops Q S (fuel + 1) listed a w := wpAnyH_all hr hne h
/-- Short forms (the hand-in's texts have a limit). -/
theorem tkH (i d : Nat) (g : Option (Nat × Bool)) (v : Value) {op : Op} {ty : TypeId} {pos : String} {aft : Array Edge} {fuel : Nat} {listed : Array Bool} {a : Act} {w : World} (hi : ops[i]? = some ⟨some d, op, ty, pos, aft, g⟩)
    (hb : (Region.noSelect ops && Region.free md ops listed i && (Region.ready md ops listed).contains i) = true) (hQ : ∀ c a w, Q (.panic c) (a.put (some d) v) w → Q (.panic c) a w)
    (hw : Region.wanted ⟨some d, op, ty, pos, aft, g⟩ (yielded ops a.tmps) = true) (hr : ∀ w, S w → (execOp a.eval ⟨some d, op, ty, pos, aft, g⟩).run P w = .ok (.value v) w) (hS : S w)
    (h : wpAnyH P md ops Q S fuel (listed.setIfInBounds i true) (a.put (some d) v) w) : wpAnyH P md ops Q S (fuel + 1) listed a w := by
  simp only [Bool.and_eq_true] at hb
  exact wpAnyH_take hi hb.1.1 hb.1.2 hb.2 hQ (.inl ⟨hw, hr⟩) hS h
theorem skH (i d : Nat) (g : Option (Nat × Bool)) {op : Op} {ty : TypeId} {pos : String} {aft : Array Edge} {fuel : Nat} {listed : Array Bool} {a : Act} {w : World} (hi : ops[i]? = some ⟨some d, op, ty, pos, aft, g⟩)
    (hb : (Region.noSelect ops && Region.free md ops listed i && (Region.ready md ops listed).contains i) = true) (hQ : ∀ c a w, Q (.panic c) (a.put (some d) undef) w → Q (.panic c) a w)
    (hw : Region.wanted ⟨some d, op, ty, pos, aft, g⟩ (yielded ops a.tmps) = false) (hS : S w)
    (h : wpAnyH P md ops Q S fuel (listed.setIfInBounds i true) (a.put (some d) undef) w) : wpAnyH P md ops Q S (fuel + 1) listed a w := by
  simp only [Bool.and_eq_true] at hb
  exact wpAnyH_take hi hb.1.1 hb.1.2 hb.2 hQ (.inr ⟨hw, rfl⟩) hS h
end
theorem zq1 (l : List Value) (i : Nat) (v : Value) : l.toArray.setIfInBounds i v = (l.set i v).toArray := List.setIfInBounds_toArray ..
theorem zq2 (l : List Value) (x v : Value) : (x :: l).set 0 v = v :: l := rfl
theorem zq3 (l : List Value) (i : Nat) (x v : Value) : (x :: l).set (i + 1) v = x :: l.set i v := rfl
end
end Go.Proofs.Ytiplepdmkbiehaa
namespace Go.Proofs.Ytiplepdmkbiehaa
set_option linter.unusedSimpArgs false
set_option linter.unusedVariables false
open Go.RowKit Go.Maps Go.MapKept Go.WideMaps
def offerA (t : Sums) (A : AppF) (title : ByteArray) (b : List UInt8) : Sums × AppF × Int × Int :=
  if rightB title = false then (t, A, 0, 6)
  else if 2048 < b.length then (t, A, 0, 20)
  else if liveN (A.outs.map fun x => x.2.st) = 4 then (t, A, 0, 19)
  else if 16 ≤ A.waits.length then (t, A, 0, 8)
  else (digT t b, sayA ⟨A.id + 1, A.outs ++ [(((A.id + 1 : Nat) : Int), (⟨0, b, 0, 0⟩ : OutF))], A.ins, A.names ++ [(((A.id + 1 : Nat) : Int), title)], A.waits, A.log⟩ (enc 2 [numT (A.id + 1), rawT title.data.toList, numT b.length, rawT (digM t b)]), ((A.id + 1 : Nat) : Int), 0)
/-- What a region may read of an end. -/
theorem offS {W : World} {a q : Nat} {P : List Nat × List Nat} {A : AppF} {l : List Res} (h : Hold W (appR a q P A :: l)) : W.cell? ⟨a, 1, none⟩ = some (.int .i64 A.id) ∧ W.cell? ⟨a, 0, none⟩ = some (.iface 55 (.pointer (some ⟨q, 0, none⟩))) := by
  obtain ⟨_, _, _, hat⟩ := appR_at h
  exact ⟨hat.c1, hat.c0⟩
theorem four_vals {w : World} (m n : Nat) {u v : Value} {x y : List UInt8} (hu : Bs w u x) (hv : Bs w v y) : TvsF w TF [numT m, rawT x, numT n, rawT y] [.int .i64 0, .int .i64 0, .int .u64 m, .slice none 0 0, .slice none 0 0, .int .i64 1, .int .i64 0, .int .u64 0, u, .slice none 0 0, .int .i64 0, .int .i64 0, .int .u64 n, .slice none 0 0, .slice none 0 0, .int .i64 1, .int .i64 0, .int .u64 0, v, .slice none 0 0] :=
  ⟨[.int .i64 0, .int .i64 0, .int .u64 m, .slice none 0 0, .slice none 0 0], _, rfl, tvf_num w m, [.int .i64 1, .int .i64 0, .int .u64 0, u, .slice none 0 0], _, rfl, tvf_raw hu, [.int .i64 0, .int .i64 0, .int .u64 n, .slice none 0 0, .slice none 0 0], _, rfl, tvf_num w n, [.int .i64 1, .int .i64 0, .int .u64 0, v, .slice none 0 0], [], rfl, tvf_raw hv, rfl⟩
/-- A text's conversion as one step of a region that draws its order. -/
theorem step_conv {w : World} {ops : Array Oper} {o : Oper} {a : Act} {K' : Act → World → Prop} {Q : Exit → Act → World → Prop} {E : Prop} (hgd : o.guard = none) (x : Operand) (ho : o.op = .convert 9 40 x) {s : ByteArray} (hx : a.eval x = .string s) (hs : s.size ≤ 281474976710656)
    (h : ∀ cap w', Cv w' w.heap.size s.size cap (bCells s.data.toList) → Below w.heap.size w w' → w'.heap.size = w.heap.size + 1 → K' (a.put o.dst (.slice (some ⟨w.heap.size, 0, none⟩) s.size cap)) w') : if Region.wanted o (yielded ops a.tmps) = true then Oper.wp Try.prog o a w K' Q else E := by
  have hw : Region.wanted o (yielded ops a.tmps) = true := by simp [Region.wanted, hgd]
  rw [if_pos hw]
  obtain ⟨cap, w', hr, h2, h3, h4⟩ := run_conv w s hs
  unfold Oper.wp execOp
  simp only [ho, hx, Sem.run_bind, Sem.run_pure, Result.andThen_ok, hr]
  exact h cap w' h2 h3 h4
set_option maxRecDepth 100000 in
set_option maxHeartbeats 8000000 in
theorem appOffer_any (a q : Nat) (P : List Nat × List Nat) (kv bv0 mp : Value) (t : Sums) (A : AppF) (title : ByteArray) (v : Value) (b : List UInt8) (l0 : List Res) (w : World) (h : Hold w (appR a q P A :: tabR q kv bv0 mp t :: l0)) (hrow : ∀ W, Hold W l0 → Bs W v b)
    (htl : title.size ≤ 900) (hno : hasV A.outs ((A.id + 1 : Nat) : Int) = false) (hno2 : hasV A.names ((A.id + 1 : Nat) : Int) = false) (hid : A.id ≤ 1099511627775) (hn : A.waits.length ≤ 1099511627776) (ht : t.length < 1099511627776) (hfew : A.outs.length ≤ 1099511627776) (hfew2 : A.names.length ≤ 1099511627776) :
    Calls Try.prog 8 #[.pointer (some ⟨a, 0, none⟩), .string title, v] w fun e w' => e = .returned (.tuple #[.int .i64 (offerA t A title b).2.2.1, .int .i64 (offerA t A title b).2.2.2]) ∧ ∃ P', Hold w' (appR a q P' (offerA t A title b).2.1 :: tabR q kv bv0 mp (offerA t A title b).1 :: l0) := by
  obtain ⟨va, vc, rfl, hvc, hvm⟩ := (hrow w h.tail.tail).form
  unfold maxLen at hvm
  have HROW := hI hrow
  have HNO := hI hno
  have HNO2 := hI hno2
  have HN := hI hn
  have HT := hI ht
  have HFEW2 := hI hfew2
  obtain ⟨l, hll⟩ : ∃ l, l = tabR q kv bv0 mp t :: l0 := ⟨_, rfl⟩
  rw [← hll] at h
  have HLL := hI hll
  clear hrow hno hno2 hn ht hfew2 hll
  obtain ⟨ia, outs, ins, names, waits, log⟩ := A
  obtain ⟨ob, ib, nb, wv, lv, h⟩ := appR_open h
  have cm : w.cell? ⟨a, 2, none⟩ = some (.map (some ob)) := h.blk0.cell 2
  have HBACK : Hid (∀ (W : World) (m : List Res), Hold W (mapV Try.prog 2 kI ob (ptrM P.1 outs) :: ptrsR outR P.1 outs :: Res.all [.blk a [provV q, .int .i64 ia, .map (some ob), .map (some ib), .map (some nb), wv, lv] 65, insR ib P.2 ins, mapV Try.prog 2 kI nb (namV names), waitsR wv waits, logR lv log] :: m) → Hold W (appR a q P ⟨ia, outs, ins, names, waits, log⟩ :: m)) := hI (fun W m hW => appR_shut ((outsR_iff.2 hW).swap |> Hold.app.1 |> Hold.pull6 |> Hold.swap))
  have hlen : P.1.length = outs.length := ptrsR_len (outsR_iff.1 h.swap).swap
  have HC : Hid (Hold w (mapV Try.prog 2 kI ob (ptrM P.1 outs) :: ptrsR outR P.1 outs :: Res.all [.blk a [provV q, .int .i64 ia, .map (some ob), .map (some ib), .map (some nb), wv, lv] 65, insR ib P.2 ins, mapV Try.prog 2 kI nb (namV names), waitsR wv waits, logR lv log] :: l)) := hI (outsR_iff.1 (Hold.app.2 h.swap.push6).swap)
  have HM := hI (HC.out.mapVOf (b := ob) (M := ptrM P.1 outs) List.mem_cons_self)
  obtain ⟨R, hR⟩ : ∃ R, R = Res.all [.blk a [provV q, .int .i64 ia, .map (some ob), .map (some ib), .map (some nb), wv, lv] 65, insR ib P.2 ins, mapV Try.prog 2 kI nb (namV names), waitsR wv waits, logR lv log] := ⟨_, rfl⟩
  rw [← hR] at HBACK HC
  have HLEN := hI hlen
  have HFEW : Hid (outs.length ≤ 1099511627776) := hI hfew
  clear h hR hlen hfew
  go_enter Try.func8, Try.ntmps8
  go_wp2_with (at_range; refine wpList_rangeV _ rfl _ 61 rfl 2 66 intK kI_inj Try.underlying61 ob _ rfl HM.out ?_)
  intro w2 left0 hleft hrg hbel
  have HC2 := hI ((HC.out.rngVStart hrg hbel).addNil 3 1)
  obtain ⟨r, hr⟩ : ∃ r, r = w.heap.size := ⟨_, rfl⟩
  rw [← hr] at HC2
  rw [← hr]
  have HR0 : Hid (w.heap.size ≤ r) := hI (by omega)
  have HB2 := hI hbel
  have HL0 : Hid (liveN [] + leftN (·.st) outs left0 = liveN (outs.map fun x => x.2.st)) := hI (by
    rw [leftN_all (fun x hx => by
      rw [hleft, hasV_keys x.1 (ptrM_keys HLEN.out)]
      exact List.any_eq_true.2 ⟨x, hx, by simp⟩)]
    simp [liveN])
  have HCN : Hid (([] : List Int).length + (ptrM P.1 outs).length ≤ outs.length) := hI (by
    have := congrArg List.length (ptrM_keys HLEN.out)
    simp at this
    simp [this])
  clear hrg hbel hleft HM HC hr
  go_wp2_with fail
  go_loopw [8] (fun sv wr => ∃ (acc : List Int) (left : Lit → Bool) (cnt : Nat), Hold wr (.own 3 1 sv acc.length (acc.map intC) :: rngV Try.prog 2 kI ob r (ptrM P.1 outs) left cnt :: ptrsR outR P.1 outs :: R :: l) ∧ (∀ y, sv.ownBlock = some y → w.heap.size ≤ y) ∧ Below w.heap.size w wr ∧
    liveN acc + leftN (·.st) outs left = liveN (outs.map fun x => x.2.st) ∧ acc.length + cnt ≤ outs.length) (fun _ wr => wr.rangeLeft ob r)
  case atStart => exact ⟨[], left0, _, HC2.out, by simp [Value.ownBlock], HB2.out, HL0.out, HCN.out⟩
  case round =>
    obtain ⟨acc, left, cnt, hr, hov, hbl, hsum, hcn⟩ := hrel
    have HCR := hI hr
    have HOV := hI hov
    have HBL := hI hbl
    have HSUM := hI hsum
    have HCNT := hI hcn
    have HRG := hI hr.swap.rngVOf
    obtain ⟨sa, sc, rfl, -, -⟩ := hr.own0.1.sl.form
    clear hr hov hbl hsum hcn HC2 HL0 HB2 HCN
    go_wp2_with (at_next; refine wpList_nextV _ rfl _ rfl 2 intK kI_inj (Value.int .i64) (fun _ _ h => kI_inv h) ob r _ left cnt rfl HRG.out ?_ ?_)
    · intro hc0 hl0
      have HE : Hid (Hold wr (.own 3 1 (.slice sa acc.length sc) acc.length (acc.map intC) :: appR a q P ⟨ia, outs, ins, names, waits, log⟩ :: l)) := hI (HBACK.out _ _ HCR.out.swap.rngVEnd.swap.push4).swap
      have HLV : Hid (liveN acc = liveN (outs.map fun x => x.2.st)) := hI (by have := HSUM.out; rw [leftN_none hl0] at this; exact this)
      clear hc0 hl0 HCR HRG HSUM HCNT
      rw [HLL.out] at HE
      have HRT := hI (right_any title wr (by unfold maxLen; omega))
      obtain ⟨B, hB⟩ : ∃ B, B = rightB title := ⟨_, rfl⟩
      have HB := hI hB
      rw [← hB] at HRT
      clear hB
      go_wp2_with fail
      refine HRT.out.mono ?_
      rintro e w5 ⟨rfl, hb⟩
      have HC5 := hI (HE.out.step hb)
      clear hb HRT HE
      cases B with
      | false =>
        have HR : Hid (offerA t ⟨ia, outs, ins, names, waits, log⟩ title b = (t, ⟨ia, outs, ins, names, waits, log⟩, 0, 6)) := hI (by rw [offerA, if_pos HB.out.symm])
        go_wp2_with fail
        go_ret2
        rw [HR.out]
        exact ⟨rfl, P, HC5.out.tail⟩
      | true =>
        have HB1 : Hid (¬ rightB title = false) := hI (by rw [← HB.out]; decide)
        by_cases hlong : 2048 < b.length
        · have hl' : (2048 : Int) < b.length := by omega
          have HR : Hid (offerA t ⟨ia, outs, ins, names, waits, log⟩ title b = (t, ⟨ia, outs, ins, names, waits, log⟩, 0, 20)) := hI (by rw [offerA, if_neg HB1.out, if_pos hlong])
          go_wp2_with fail
          go_ret2
          rw [HR.out]
          exact ⟨rfl, P, HC5.out.tail⟩
        · have hl' : ¬ (2048 : Int) < b.length := by omega
          have HLG := hI hlong
          have HLIVE := hI (live_any _ acc w5 HC5.out.own0.1.sl)
          clear hlong
          go_wp2_with fail
          refine HLIVE.out.mono ?_
          rintro e w6 ⟨rfl, rfl⟩
          by_cases h4 : liveN acc = 4
          · have HR : Hid (offerA t ⟨ia, outs, ins, names, waits, log⟩ title b = (t, ⟨ia, outs, ins, names, waits, log⟩, 0, 19)) := hI (by rw [offerA, if_neg HB1.out, if_neg HLG.out, if_pos (by rw [← h4]; exact HLV.out.symm)])
            rw [h4]
            clear h4 HLIVE
            go_wp2_with fail
            go_ret2
            rw [HR.out]
            exact ⟨rfl, P, HC5.out.tail⟩
          · have H4 : Hid (¬ liveN (outs.map fun x => x.2.st) = 4) := hI (by rw [← HLV.out]; exact h4)
            have h4' : (((liveN acc : Nat) : Int) == 4) = false := by simp; omega
            obtain ⟨lv4, hlv4⟩ : ∃ n, n = liveN acc := ⟨_, rfl⟩
            rw [← hlv4] at h4' ⊢
            have HFU := hI (appFull_eq a q P _ _ w6 HC5.out.tail)
            clear h4 hlv4 HLIVE
            go_wp2_with fail
            refine HFU.out.mono ?_
            rintro e w7 ⟨rfl, rfl⟩
            by_cases hf : 16 ≤ waits.length
            · have HR : Hid (offerA t ⟨ia, outs, ins, names, waits, log⟩ title b = (t, ⟨ia, outs, ins, names, waits, log⟩, 0, 8)) := hI (by rw [offerA, if_neg HB1.out, if_neg HLG.out, if_neg H4.out, if_pos hf])
              have hfd : decide (16 ≤ waits.length) = true := by simpa using hf
              rw [hfd]
              clear hf HFU
              go_wp2_with fail
              go_ret2
              rw [HR.out]
              exact ⟨rfl, P, HC5.out.tail⟩
            · have HF := hI hf
              have hfd : decide (16 ≤ waits.length) = false := by simpa using hf
              rw [hfd]
              have hbw := HROW.out _ HC5.out.tail.tail.tail
              have HOF := hI (offer_any _ b _ w7 HC5.out.tail hbw (by omega))
              clear hf HFU hbw hfd
              go_wp2_with fail
              refine HOF.out.mono ?_
              rintro e w8 ⟨p, rfl, hc⟩
              obtain ⟨c1, f1, hc9⟩ := appR_setId hc.tail (ia + 1)
              obtain ⟨-, -, hset⟩ := appR_setId hc.swap (ia + 1)
              have HC9 := hI hset.swap
              clear hc hc9 hset HOF HC5
              go_upto_region 16 with fail
              obtain ⟨m, hm⟩ : ∃ m : Nat, m = ia + 1 := ⟨_, rfl⟩
              have hmc : (ia : Int) + 1 = (m : Int) := by omega
              have HMI := hI hm
              rw [← hm] at HC9 HNO HNO2
              try rw [hmc]
              obtain ⟨w9, hw9⟩ : ∃ w9, w9 = w8.setCell ⟨a, 1, none⟩ (.int .i64 (m : Int)) := ⟨_, rfl⟩
              rw [← hw9] at HC9 ⊢
              have hmb : m ≤ 1099511627776 := by omega
              have HKY := hI (kI_key (n := (m : Int)) (by omega))
              clear hw9 hm hmc c1 f1 cm
              have hd9 := HC9.out.drew
              obtain ⟨ob9, ib9, nb9, hat9⟩ := appR_at hd9.tail
              have HAT9 := hI hat9
              have d1 : w9.drew.cell? ⟨a, 1, none⟩ = some (.int .i64 (m : Int)) := hat9.c1
              have d2 := hat9.c2
              have HML9 : Hid ((ptrM P.1 outs).length < maxLen) := hI (by
                have h1 := congrArg List.length (ptrM_keys HLEN.out)
                have h2 := HFEW.out
                simp at h1
                unfold maxLen
                omega)
              have HD9 := hI hd9
              clear hat9 hd9
              refine wp_region_still_tail 9 (by kernel_rfl) (by kernel_rfl) ?_
              simp only [List.take_succ_cons, List.take_zero, List.drop_succ_cons, List.drop_zero]
              change wpStill _ _ w9.drew _ _ _
              repeat still_step
              refine wpStill_nil ?_
              change wpList _ _ _ _ _ w9.drew
              generalize w9.drew = w9d at *
              refine wpList_updateV _ rfl _ _ _ _ rfl 2 66 intK kI_inj Try.underlying61 ob9 _ rfl HAT9.out.m2 HML9.out (m : Int) HKY.out ?_
              intro w10 hm10 hk10 hz10
              have HC10 := hI (appR_addOut (k := (m : Int)) HD9.out d2 HNO.out hm10 hk10)
              clear hm10 hk10 hz10 d1 d2 HD9 HAT9 HC9
              go_upto_region 17 with fail
              have hd10 := HC10.out.drew
              obtain ⟨ob11, ib11, nb11, hat11⟩ := appR_at hd10
              have HAT11 := hI hat11
              have d1 : w10.drew.cell? ⟨a, 1, none⟩ = some (.int .i64 (m : Int)) := hat11.c1
              have d4 := hat11.c4
              have HML11 : Hid ((namV names).length < maxLen) := hI (by
                have h2 := HFEW2.out
                unfold namV maxLen
                rw [List.length_map]
                have h3 : names.length ≤ 1099511627776 := h2
                omega)
              have HD10 := hI hd10
              clear hat11 hd10
              refine wp_region_still_tail 9 (by kernel_rfl) (by kernel_rfl) ?_
              simp only [List.take_succ_cons, List.take_zero, List.drop_succ_cons, List.drop_zero]
              change wpStill _ _ w10.drew _ _ _
              repeat still_step
              refine wpStill_nil ?_
              change wpList _ _ _ _ _ w10.drew
              generalize w10.drew = w10d at *
              refine wpList_updateV _ rfl _ _ _ _ rfl 2 9 intK kI_inj Try.underlying63 nb11 _ rfl HAT11.out.m4 HML11.out (m : Int) HKY.out ?_
              intro w12 hm12 hk12 hz12
              have HC12 := hI (appR_addName (k := (m : Int)) HD10.out d4 HNO2.out hm12 hk12)
              clear hm12 hk12 hz12 d1 d4 HD10 HAT11 HC10
              go_upto_region 18 with fail
              have hw : IntKind.u64.wrap (m : Int) = m := by rw [IntKind.wrap_u64]; omega
              have hw2 : IntKind.u64.wrap (b.length : Int) = b.length := by rw [IntKind.wrap_u64]; omega
              have HC := hI HC12.out.drew
              have HDM : Hid ((digM t b).length = 16) := hI (by unfold digM; exact markB_length _ _)
              clear HC12
              refine wp_region_held (S := fun W : World => W.cell? ⟨a, 1, none⟩ = some (.int .i64 (m : Int)) ∧ W.cell? ⟨a, 0, none⟩ = some (.iface 55 (.pointer (some ⟨q, 0, none⟩)))) (by kernel_rfl) ?_
              change wpAnyH _ _ _ _ _ _ _ _ (World.drew _)
              refine tkH 0 74 none (.pointer (some ⟨a, 0, none⟩)) rfl (by kernel_rfl) (fun _ _ _ h => h) (by rfl) (by intro W hW; go_simp) (offS HC.out) ?_
              simp only [Act.put, zq1, zq2, zq3]
              refine tkH 1 75 none (.pointer (some ⟨a, 0, none⟩)) rfl (by kernel_rfl) (fun _ _ _ h => h) (by rfl) (by intro W hW; go_simp) (offS HC.out) ?_
              simp only [Act.put, zq1, zq2, zq3]
              refine tkH 2 76 none (.pointer (some ⟨a, 1, none⟩)) rfl (by kernel_rfl) (fun _ _ _ h => h) (by rfl) (by intro W hW; go_simp) (offS HC.out) ?_
              simp only [Act.put, zq1, zq2, zq3]
              refine tkH 3 77 none (.int .i64 (m : Int)) rfl (by kernel_rfl) (fun _ _ _ h => h) (by rfl) (by intro W hW; have hc := hW.1; go_simp) (offS HC.out) ?_
              simp only [Act.put, zq1, zq2, zq3]
              refine tkH 4 78 none (.pointer (some ⟨a, 0, none⟩)) rfl (by kernel_rfl) (fun _ _ _ h => h) (by rfl) (by intro W hW; go_simp) (offS HC.out) ?_
              simp only [Act.put, zq1, zq2, zq3]
              refine tkH 5 79 none (.pointer (some ⟨a, 0, none⟩)) rfl (by kernel_rfl) (fun _ _ _ h => h) (by rfl) (by intro W hW; go_simp) (offS HC.out) ?_
              simp only [Act.put, zq1, zq2, zq3]
              refine tkH 6 80 none (.pointer (some ⟨a, 0, none⟩)) rfl (by kernel_rfl) (fun _ _ _ h => h) (by rfl) (by intro W hW; go_simp) (offS HC.out) ?_
              simp only [Act.put, zq1, zq2, zq3]
              refine tkH 7 81 none (.pointer (some ⟨a, 1, none⟩)) rfl (by kernel_rfl) (fun _ _ _ h => h) (by rfl) (by intro W hW; go_simp) (offS HC.out) ?_
              simp only [Act.put, zq1, zq2, zq3]
              refine tkH 8 82 none (.int .i64 (m : Int)) rfl (by kernel_rfl) (fun _ _ _ h => h) (by rfl) (by intro W hW; have hc := hW.1; go_simp) (offS HC.out) ?_
              simp only [Act.put, zq1, zq2, zq3]
              refine tkH 9 83 none (.int .u64 (m : Int)) rfl (by kernel_rfl) (fun _ _ _ h => h) (by rfl) (by intro W hW; go_simp) (offS HC.out) ?_
              simp only [Act.put, zq1, zq2, zq3]
              refine tkH 11 85 none (.string title) rfl (by kernel_rfl) (fun _ _ _ h => h) (by rfl) (by intro W hW; go_simp) (offS HC.out) ?_
              simp only [Act.put, zq1, zq2, zq3]
              refine tkH 14 88 none (.slice va b.length vc) rfl (by kernel_rfl) (fun _ _ _ h => h) (by rfl) (by intro W hW; go_simp) (offS HC.out) ?_
              simp only [Act.put, zq1, zq2, zq3]
              refine tkH 15 89 none (.int .i64 (b.length : Int)) rfl (by kernel_rfl) (fun _ _ _ h => h) (by rfl) (by intro W hW; go_simp) (offS HC.out) ?_
              simp only [Act.put, zq1, zq2, zq3]
              refine tkH 16 90 none (.int .u64 (b.length : Int)) rfl (by kernel_rfl) (fun _ _ _ h => h) (by rfl) (by intro W hW; go_simp) (offS HC.out) ?_
              simp only [Act.put, zq1, zq2, zq3]
              refine tkH 18 92 none (.pointer (some ⟨a, 0, none⟩)) rfl (by kernel_rfl) (fun _ _ _ h => h) (by rfl) (by intro W hW; go_simp) (offS HC.out) ?_
              simp only [Act.put, zq1, zq2, zq3]
              refine tkH 19 93 none (.pointer (some ⟨a, 0, none⟩)) rfl (by kernel_rfl) (fun _ _ _ h => h) (by rfl) (by intro W hW; go_simp) (offS HC.out) ?_
              simp only [Act.put, zq1, zq2, zq3]
              refine tkH 20 94 none (.pointer (some ⟨a, 0, none⟩)) rfl (by kernel_rfl) (fun _ _ _ h => h) (by rfl) (by intro W hW; go_simp) (offS HC.out) ?_
              simp only [Act.put, zq1, zq2, zq3]
              refine tkH 21 95 none (.iface 55 (.pointer (some ⟨q, 0, none⟩))) rfl (by kernel_rfl) (fun _ _ _ h => h) (by rfl) (by intro W hW; have hc := hW.2; go_simp) (offS HC.out) ?_
              simp only [Act.put, zq1, zq2, zq3]
              refine tkH 22 96 none (.slice va b.length vc) rfl (by kernel_rfl) (fun _ _ _ h => h) (by rfl) (by intro W hW; go_simp) (offS HC.out) ?_
              simp only [Act.put, zq1, zq2, zq3]
              refine anyH_ready (rs := [10, 12]) (by decide +kernel) (by simp) ?_
              refine AllReadyH.cons (o := { dst := some 84, op := .call { callee := .value (.func 26), args := #[.tmp 83], argTypes := #[73] }, type := _, pos := _, after := _, guard := none }) rfl (fun K hK => ?_) (AllReadyH.cons (o := { dst := some 86, op := .convert 9 40 (.tmp 85), type := _, pos := _, after := _, guard := none }) rfl (fun K hK => ?_) AllReadyH.nil)
              · go_simp
                refine (derNum_any m _).mono ?_
                rintro e wn ⟨rfl, hb⟩
                have HC := hI (HC.out.step hb)
                clear hb
                refine hK _ _ (offS HC.out) ?_
                clear hK K
                try simp only [Act.put, zq1, zq2, zq3]
                refine anyH_ready (rs := [12]) (by decide +kernel) (by simp) ?_
                refine AllReadyH.cons (o := { dst := some 86, op := .convert 9 40 (.tmp 85), type := _, pos := _, after := _, guard := none }) rfl (fun K hK => ?_) AllReadyH.nil
                refine step_conv rfl (.tmp 85) rfl (s := title) (by rfl) (by omega) ?_
                intro cap wc hcv hbl hsz
                have HC := hI (HC.out.step hbl)
                have HTB := hI (Sl.bs hcv.sl rfl (show title.data.toList.length = title.size from rfl))
                clear hcv hbl hsz
                refine hK _ _ (offS HC.out) ?_
                clear hK K
                try simp only [Act.put, zq1, zq2, zq3]
                refine anyH_ready (rs := [13]) (by decide +kernel) (by simp) ?_
                refine AllReadyH.cons (o := { dst := some 87, op := .call { callee := .value (.func 27), args := #[.tmp 86], argTypes := #[40] }, type := _, pos := _, after := _, guard := none }) rfl (fun K hK => ?_) AllReadyH.nil
                go_simp
                refine (derRawO_any _ title.data.toList _ HTB.out (by rw [show title.data.toList.length = title.size from rfl]; omega)).mono ?_
                rintro e wr2 ⟨v87, rfl, hb87, hbl, hown⟩
                have HC := hI ((HC.out.addRow hbl hb87 (fun k _ hk => hown k hk)).swap)
                obtain ⟨ra, rc, rfl, -, -⟩ := hb87.form
                clear hb87 hbl hown HTB
                refine hK _ _ (offS HC.out) ?_
                clear hK K
                try simp only [Act.put, zq1, zq2, zq3]
                refine anyH_ready (rs := [17]) (by decide +kernel) (by simp) ?_
                refine AllReadyH.cons (o := { dst := some 91, op := .call { callee := .value (.func 26), args := #[.tmp 90], argTypes := #[73] }, type := _, pos := _, after := _, guard := none }) rfl (fun K hK => ?_) AllReadyH.nil
                go_simp
                refine (derNum_any b.length _).mono ?_
                rintro e wn ⟨rfl, hb⟩
                have HC := hI (HC.out.step hb)
                clear hb
                refine hK _ _ (offS HC.out) ?_
                clear hK K
                try simp only [Act.put, zq1, zq2, zq3]
                refine anyH_ready (rs := [23]) (by decide +kernel) (by simp) ?_
                refine AllReadyH.cons (o := { dst := some 97, op := .call { callee := .invoke (.tmp 95) "Digest", args := #[.tmp 96], argTypes := #[40] }, type := _, pos := _, after := _, guard := none }) rfl (fun K hK => ?_) AllReadyH.nil
                have qn := dig_nil
                have qm := dig_method
                go_simp
                refine (digest_any q kv bv0 mp t _ b (appR a q (P.1 ++ [p], P.2) ⟨m, outs ++ [((m : Int), ⟨0, b, 0, 0⟩)], ins, names ++ [((m : Int), title)], waits, log⟩ :: .row (.slice ra title.data.toList.length rc) title.data.toList :: l0) _ HC.out.pull3 (HROW.out _ HC.out.tail.tail.tail) (by omega) HT.out).mono ?_
                rintro e wdg ⟨dq, rfl, hc⟩
                have HC := hI hc.pull3
                clear hc qn qm
                refine hK _ _ (offS HC.out) ?_
                clear hK K
                try simp only [Act.put, zq1, zq2, zq3]
                refine anyH_ready (rs := [24]) (by decide +kernel) (by simp) ?_
                refine AllReadyH.cons (o := { dst := some 98, op := .call { callee := .value (.func 27), args := #[.tmp 97], argTypes := #[40] }, type := _, pos := _, after := _, guard := none }) rfl (fun K hK => ?_) AllReadyH.nil
                have hrow9 := HC.out.tail.tail.row0
                go_simp
                refine (derRawO_any _ (digM t b) _ hrow9 (by rw [HDM.out]; omega)).mono ?_
                rintro e wr3 ⟨v98, rfl, hb98, hbl, hown⟩
                have HC := hI ((HC.out.addRow hbl hb98 (fun k _ hk => hown k hk)).swap)
                obtain ⟨da, dc, rfl, -, -⟩ := hb98.form
                clear hb98 hbl hown hrow9
                refine hK _ _ (offS HC.out) ?_
                clear hK K
                try simp only [Act.put, zq1, zq2, zq3]
                refine anyH_ready (rs := [25]) (by decide +kernel) (by simp) ?_
                refine AllReadyH.cons (o := { dst := some 99, op := .buildSlice 74 4 #[(0, .tmp 84), (1, .tmp 87), (2, .tmp 91), (3, .tmp 98)], type := _, pos := _, after := _, guard := none }) rfl (fun K hK => ?_) AllReadyH.nil
                go_simp
                obtain ⟨wB, hwB⟩ : ∃ wB, wB = wr3.alloc (.cells #[.int .i64 0, .int .i64 0, .int .u64 m, .slice none 0 0, .slice none 0 0, .int .i64 1, .int .i64 0, .int .u64 0, .slice ra title.data.toList.length rc, .slice none 0 0, .int .i64 0, .int .i64 0, .int .u64 b.length, .slice none 0 0, .slice none 0 0, .int .i64 1, .int .i64 0, .int .u64 0, .slice da (digM t b).length dc, .slice none 0 0] 76) := ⟨_, rfl⟩
                have hc := HC.out.alloc (.cells #[.int .i64 0, .int .i64 0, .int .u64 m, .slice none 0 0, .slice none 0 0, .int .i64 1, .int .i64 0, .int .u64 0, .slice ra title.data.toList.length rc, .slice none 0 0, .int .i64 0, .int .i64 0, .int .u64 b.length, .slice none 0 0, .slice none 0 0, .int .i64 1, .int .i64 0, .int .u64 0, .slice da (digM t b).length dc, .slice none 0 0] 76)
                rw [← hwB] at hc
                have HSAY := hI (appSay_word a q (P.1 ++ [p], P.2) _ 2 (.slice (some ⟨wr3.heap.size, 0, none⟩) 4 4) [numT m, rawT title.data.toList, numT b.length, rawT (digM t b)] [.int .i64 0, .int .i64 0, .int .u64 m, .slice none 0 0, .slice none 0 0, .int .i64 1, .int .i64 0, .int .u64 0, .slice ra title.data.toList.length rc, .slice none 0 0, .int .i64 0, .int .i64 0, .int .u64 b.length, .slice none 0 0, .slice none 0 0, .int .i64 1, .int .i64 0, .int .u64 0, .slice da (digM t b).length dc, .slice none 0 0] _ wB hc (by rw [hwB]; exact Sl.lit rfl rfl (by simp [Value.oneCell']) (by unfold maxLen; decide)) (four_vals m b.length hc.tail.tail.tail.tail.row0 hc.tail.row0) (wordOk (by decide) (by decide) (by simp) (by intro x hx; simp only [List.mem_cons, List.not_mem_nil, or_false] at hx; rcases hx with rfl | rfl | rfl | rfl <;> first | exact LeafT.num (by omega) | exact LeafT.raw (by rw [HDM.out]; decide) | exact LeafT.raw (show title.size ≤ 900 from htl))) HN.out)
                have HC := hI hc
                clear hc
                change K _ (wr3.alloc (.cells #[.int .i64 0, .int .i64 0, .int .u64 m, .slice none 0 0, .slice none 0 0, .int .i64 1, .int .i64 0, .int .u64 0, .slice ra title.data.toList.length rc, .slice none 0 0, .int .i64 0, .int .i64 0, .int .u64 b.length, .slice none 0 0, .slice none 0 0, .int .i64 1, .int .i64 0, .int .u64 0, .slice da (digM t b).length dc, .slice none 0 0] 76))
                rw [← hwB]
                clear hwB
                refine hK _ _ (offS HC.out) ?_
                clear hK K
                try simp only [Act.put, zq1, zq2, zq3]
                refine anyH_ready (rs := [26]) (by decide +kernel) (by simp) ?_
                refine AllReadyH.cons (o := { dst := some 100, op := .call { callee := .value (.func 25), args := #[.tmp 78, .const (.int .i64 2), .tmp 99], argTypes := #[27, 3, 74] }, type := _, pos := _, after := _, guard := none }) rfl (fun K hK => ?_) AllReadyH.nil
                go_simp
                refine HSAY.out.mono ?_
                rintro e wS ⟨rfl, hc⟩
                have HC := hI hc
                clear hc HSAY
                refine hK _ _ (offS HC.out) ?_
                clear hK K
                try simp only [Act.put, zq1, zq2, zq3]
                refine tkH 27 6 none (.int .i64 (m : Int)) rfl (by kernel_rfl) (fun _ _ _ h => h) (by rfl) (by intro W hW; go_simp) (offS HC.out) ?_
                simp only [Act.put, zq1, zq2, zq3]
                refine tkH 28 7 none (.int .i64 0) rfl (by kernel_rfl) (fun _ _ _ h => h) (by rfl) (by intro W hW; go_simp) (offS HC.out) ?_
                simp only [Act.put, zq1, zq2, zq3]
                refine wpAnyH_done (by decide +kernel) ?_ _
                have HR : Hid (offerA t ⟨ia, outs, ins, names, waits, log⟩ title b = (digT t b, sayA ⟨m, outs ++ [((m : Int), ⟨0, b, 0, 0⟩)], ins, names ++ [((m : Int), title)], waits, log⟩ (enc 2 [numT m, rawT title.data.toList, numT b.length, rawT (digM t b)]), (m : Int), 0)) := hI (by rw [offerA, if_neg HB1.out, if_neg HLG.out, if_neg H4.out, if_neg HF.out, HMI.out])
                go_wp2_with fail
                go_ret2
                rw [HR.out]
                exact ⟨rfl, P.1 ++ [p], P.2, HC.out.swap.tail.pull3.tail.pull3.tail⟩
              · refine step_conv rfl (.tmp 85) rfl (s := title) (by rfl) (by omega) ?_
                intro cap wc hcv hbl hsz
                have HC := hI (HC.out.step hbl)
                have HTB := hI (Sl.bs hcv.sl rfl (show title.data.toList.length = title.size from rfl))
                clear hcv hbl hsz
                refine hK _ _ (offS HC.out) ?_
                clear hK K
                try simp only [Act.put, zq1, zq2, zq3]
                refine anyH_ready (rs := [10]) (by decide +kernel) (by simp) ?_
                refine AllReadyH.cons (o := { dst := some 84, op := .call { callee := .value (.func 26), args := #[.tmp 83], argTypes := #[73] }, type := _, pos := _, after := _, guard := none }) rfl (fun K hK => ?_) AllReadyH.nil
                go_simp
                refine (derNum_any m _).mono ?_
                rintro e wn ⟨rfl, hb⟩
                have HC := hI (HC.out.step hb)
                have HTB := hI (HTB.out.below hb)
                clear hb
                refine hK _ _ (offS HC.out) ?_
                clear hK K
                try simp only [Act.put, zq1, zq2, zq3]
                refine anyH_ready (rs := [13]) (by decide +kernel) (by simp) ?_
                refine AllReadyH.cons (o := { dst := some 87, op := .call { callee := .value (.func 27), args := #[.tmp 86], argTypes := #[40] }, type := _, pos := _, after := _, guard := none }) rfl (fun K hK => ?_) AllReadyH.nil
                go_simp
                refine (derRawO_any _ title.data.toList _ HTB.out (by rw [show title.data.toList.length = title.size from rfl]; omega)).mono ?_
                rintro e wr2 ⟨v87, rfl, hb87, hbl, hown⟩
                have HC := hI ((HC.out.addRow hbl hb87 (fun k _ hk => hown k hk)).swap)
                obtain ⟨ra, rc, rfl, -, -⟩ := hb87.form
                clear hb87 hbl hown HTB
                refine hK _ _ (offS HC.out) ?_
                clear hK K
                try simp only [Act.put, zq1, zq2, zq3]
                refine anyH_ready (rs := [17]) (by decide +kernel) (by simp) ?_
                refine AllReadyH.cons (o := { dst := some 91, op := .call { callee := .value (.func 26), args := #[.tmp 90], argTypes := #[73] }, type := _, pos := _, after := _, guard := none }) rfl (fun K hK => ?_) AllReadyH.nil
                go_simp
                refine (derNum_any b.length _).mono ?_
                rintro e wn ⟨rfl, hb⟩
                have HC := hI (HC.out.step hb)
                clear hb
                refine hK _ _ (offS HC.out) ?_
                clear hK K
                try simp only [Act.put, zq1, zq2, zq3]
                refine anyH_ready (rs := [23]) (by decide +kernel) (by simp) ?_
                refine AllReadyH.cons (o := { dst := some 97, op := .call { callee := .invoke (.tmp 95) "Digest", args := #[.tmp 96], argTypes := #[40] }, type := _, pos := _, after := _, guard := none }) rfl (fun K hK => ?_) AllReadyH.nil
                have qn := dig_nil
                have qm := dig_method
                go_simp
                refine (digest_any q kv bv0 mp t _ b (appR a q (P.1 ++ [p], P.2) ⟨m, outs ++ [((m : Int), ⟨0, b, 0, 0⟩)], ins, names ++ [((m : Int), title)], waits, log⟩ :: .row (.slice ra title.data.toList.length rc) title.data.toList :: l0) _ HC.out.pull3 (HROW.out _ HC.out.tail.tail.tail) (by omega) HT.out).mono ?_
                rintro e wdg ⟨dq, rfl, hc⟩
                have HC := hI hc.pull3
                clear hc qn qm
                refine hK _ _ (offS HC.out) ?_
                clear hK K
                try simp only [Act.put, zq1, zq2, zq3]
                refine anyH_ready (rs := [24]) (by decide +kernel) (by simp) ?_
                refine AllReadyH.cons (o := { dst := some 98, op := .call { callee := .value (.func 27), args := #[.tmp 97], argTypes := #[40] }, type := _, pos := _, after := _, guard := none }) rfl (fun K hK => ?_) AllReadyH.nil
                have hrow9 := HC.out.tail.tail.row0
                go_simp
                refine (derRawO_any _ (digM t b) _ hrow9 (by rw [HDM.out]; omega)).mono ?_
                rintro e wr3 ⟨v98, rfl, hb98, hbl, hown⟩
                have HC := hI ((HC.out.addRow hbl hb98 (fun k _ hk => hown k hk)).swap)
                obtain ⟨da, dc, rfl, -, -⟩ := hb98.form
                clear hb98 hbl hown hrow9
                refine hK _ _ (offS HC.out) ?_
                clear hK K
                try simp only [Act.put, zq1, zq2, zq3]
                refine anyH_ready (rs := [25]) (by decide +kernel) (by simp) ?_
                refine AllReadyH.cons (o := { dst := some 99, op := .buildSlice 74 4 #[(0, .tmp 84), (1, .tmp 87), (2, .tmp 91), (3, .tmp 98)], type := _, pos := _, after := _, guard := none }) rfl (fun K hK => ?_) AllReadyH.nil
                go_simp
                obtain ⟨wB, hwB⟩ : ∃ wB, wB = wr3.alloc (.cells #[.int .i64 0, .int .i64 0, .int .u64 m, .slice none 0 0, .slice none 0 0, .int .i64 1, .int .i64 0, .int .u64 0, .slice ra title.data.toList.length rc, .slice none 0 0, .int .i64 0, .int .i64 0, .int .u64 b.length, .slice none 0 0, .slice none 0 0, .int .i64 1, .int .i64 0, .int .u64 0, .slice da (digM t b).length dc, .slice none 0 0] 76) := ⟨_, rfl⟩
                have hc := HC.out.alloc (.cells #[.int .i64 0, .int .i64 0, .int .u64 m, .slice none 0 0, .slice none 0 0, .int .i64 1, .int .i64 0, .int .u64 0, .slice ra title.data.toList.length rc, .slice none 0 0, .int .i64 0, .int .i64 0, .int .u64 b.length, .slice none 0 0, .slice none 0 0, .int .i64 1, .int .i64 0, .int .u64 0, .slice da (digM t b).length dc, .slice none 0 0] 76)
                rw [← hwB] at hc
                have HSAY := hI (appSay_word a q (P.1 ++ [p], P.2) _ 2 (.slice (some ⟨wr3.heap.size, 0, none⟩) 4 4) [numT m, rawT title.data.toList, numT b.length, rawT (digM t b)] [.int .i64 0, .int .i64 0, .int .u64 m, .slice none 0 0, .slice none 0 0, .int .i64 1, .int .i64 0, .int .u64 0, .slice ra title.data.toList.length rc, .slice none 0 0, .int .i64 0, .int .i64 0, .int .u64 b.length, .slice none 0 0, .slice none 0 0, .int .i64 1, .int .i64 0, .int .u64 0, .slice da (digM t b).length dc, .slice none 0 0] _ wB hc (by rw [hwB]; exact Sl.lit rfl rfl (by simp [Value.oneCell']) (by unfold maxLen; decide)) (four_vals m b.length hc.tail.tail.tail.tail.row0 hc.tail.row0) (wordOk (by decide) (by decide) (by simp) (by intro x hx; simp only [List.mem_cons, List.not_mem_nil, or_false] at hx; rcases hx with rfl | rfl | rfl | rfl <;> first | exact LeafT.num (by omega) | exact LeafT.raw (by rw [HDM.out]; decide) | exact LeafT.raw (show title.size ≤ 900 from htl))) HN.out)
                have HC := hI hc
                clear hc
                change K _ (wr3.alloc (.cells #[.int .i64 0, .int .i64 0, .int .u64 m, .slice none 0 0, .slice none 0 0, .int .i64 1, .int .i64 0, .int .u64 0, .slice ra title.data.toList.length rc, .slice none 0 0, .int .i64 0, .int .i64 0, .int .u64 b.length, .slice none 0 0, .slice none 0 0, .int .i64 1, .int .i64 0, .int .u64 0, .slice da (digM t b).length dc, .slice none 0 0] 76))
                rw [← hwB]
                clear hwB
                refine hK _ _ (offS HC.out) ?_
                clear hK K
                try simp only [Act.put, zq1, zq2, zq3]
                refine anyH_ready (rs := [26]) (by decide +kernel) (by simp) ?_
                refine AllReadyH.cons (o := { dst := some 100, op := .call { callee := .value (.func 25), args := #[.tmp 78, .const (.int .i64 2), .tmp 99], argTypes := #[27, 3, 74] }, type := _, pos := _, after := _, guard := none }) rfl (fun K hK => ?_) AllReadyH.nil
                go_simp
                refine HSAY.out.mono ?_
                rintro e wS ⟨rfl, hc⟩
                have HC := hI hc
                clear hc HSAY
                refine hK _ _ (offS HC.out) ?_
                clear hK K
                try simp only [Act.put, zq1, zq2, zq3]
                refine tkH 27 6 none (.int .i64 (m : Int)) rfl (by kernel_rfl) (fun _ _ _ h => h) (by rfl) (by intro W hW; go_simp) (offS HC.out) ?_
                simp only [Act.put, zq1, zq2, zq3]
                refine tkH 28 7 none (.int .i64 0) rfl (by kernel_rfl) (fun _ _ _ h => h) (by rfl) (by intro W hW; go_simp) (offS HC.out) ?_
                simp only [Act.put, zq1, zq2, zq3]
                refine wpAnyH_done (by decide +kernel) ?_ _
                have HR : Hid (offerA t ⟨ia, outs, ins, names, waits, log⟩ title b = (digT t b, sayA ⟨m, outs ++ [((m : Int), ⟨0, b, 0, 0⟩)], ins, names ++ [((m : Int), title)], waits, log⟩ (enc 2 [numT m, rawT title.data.toList, numT b.length, rawT (digM t b)]), (m : Int), 0)) := hI (by rw [offerA, if_neg HB1.out, if_neg HLG.out, if_neg H4.out, if_neg HF.out, HMI.out])
                go_wp2_with fail
                go_ret2
                rw [HR.out]
                exact ⟨rfl, P.1 ++ [p], P.2, HC.out.swap.tail.pull3.tail.pull3.tail⟩
    · intro s v w3 cnt3 hmem hls hrg3 hlt3 hk3 hz3 hen
      have hc3 := (HCR.out.swap.rngVTurn hrg3 hk3).swap
      obtain ⟨_, _, hml, _⟩ := HRG.out
      obtain ⟨hhas, rfl⟩ := ptrs_entry hml.1 hmem hc3.tail.tail
      obtain ⟨p, R0, hp, hf, -⟩ := ptrsR_focus s OutF.nil hc3.tail.tail hhas
      have hmo := getV_mem hhas OutF.nil
      obtain ⟨o, ho⟩ : ∃ o, o = getV outs s OutF.nil := ⟨_, rfl⟩
      rw [← ho] at hf hmo
      rw [hp] at hen ⊢
      obtain ⟨st, data0, sent0, ahead0⟩ := o
      obtain ⟨_, _, -, -, hf⟩ := outR_open hf
      have cp : w3.cell? ⟨p, 0, none⟩ = some (.int .i64 st) := hf.blk0.cell 0
      have hkeys := ptrs_keys (ptrsR_len hc3.tail.tail) hml.1
      have htk := leftN_take (f := (·.st)) hkeys hmo hls
      have HRL3 : Hid (w3.rangeLeft ob r = cnt3) := hI hrg3.left_eq
      have HLE : Hid (w3.rangeLeft ob r < wr.rangeLeft ob r) := hI (by rw [hrg3.left_eq, HRG.out.left_eq]; exact hlt3)
      have HB3 : Hid (Below w.heap.size w w3) := hI (HBL.out.trans (hk3.below (by
        have := HR0.out
        have := HBL.out.size
        rintro k (rfl | h) <;> omega)))
      have HSUM3 : Hid (liveN (acc ++ [st]) + leftN (·.st) outs (fun z => left z && !z.sameKey (kI s)) = liveN (outs.map fun x => x.2.st)) := hI (by
        rw [liveN_snoc]
        have := HSUM.out
        rw [htk] at this
        simp only at this
        omega)
      have HCN3 : Hid ((acc ++ [st]).length + cnt3 ≤ outs.length) := hI (by have := HCNT.out; rw [List.length_append, List.length_singleton]; omega)
      have HA := hI (hc3.alloc (.cells #[.int .i64 st] 3))
      have HOW := hI HA.out.own0
      have HSL : Hid (Sl (w3.alloc (.cells #[.int .i64 st] 3)) 1 (.slice (some ⟨w3.heap.size, 0, none⟩) 1 1) 1 [.int .i64 st]) := hI (Sl.lit rfl rfl (by simp [Value.oneCell']) (by unfold maxLen; decide))
      have hbnd : acc.length ≤ 1099511627776 := by have := HCNT.out; have := HFEW.out; omega
      clear hf hrg3 hlt3 hk3 hz3 hls hmem hmo ho hml hc3 hkeys htk HCR HRG HSUM HCNT
      go_wp2_with ((with_reducible show wpList _ _ _ (⟨some 28, _, _, _, _, _⟩ :: _) _ _); refine wpList_app2 rfl (.tmp 22) (.tmp 27) elInt rfl 0 HOW.out.1 HOW.out.2 HSL.out (by unfold maxLen; omega) (by omega) (Nat.zero_le _) ?_)
      intro v' w' ho hk hv
      have hc := HA.out.append (B := 0) ho (hk.mono fun k h => by simpa using h) (fun k h => by simpa using hv k h)
      have HC4 : Hid (Hold w' (.own 3 1 v' (acc ++ [st]).length ((acc ++ [st]).map intC) :: rngV Try.prog 2 kI ob r (ptrM P.1 outs) (fun z => left z && !z.sameKey (kI s)) cnt3 :: ptrsR outR P.1 outs :: R :: l)) := hI (by
        rw [List.length_append, List.map_append]
        exact hc)
      have HOV4 : Hid (∀ y, v'.ownBlock = some y → w.heap.size ≤ y) := hI (fun y hy => by
        rcases (hv y hy).1 with h | h
        · exact HOV.out y h
        · have h : w3.heap.size + 1 ≤ y := by simpa using h
          have := HB3.out.size
          omega)
      have HB4 : Hid (Below w.heap.size w w') := hI ((HB3.out.alloc HB3.out.size _).trans (hk.below (by
        have h3 := HB3.out.size
        rintro k (h | h)
        · exact HOV.out k (by simpa using h)
        · have h : w3.heap.size + 1 ≤ k := by simpa using h
          omega)))
      have HLE4 : Hid (w'.rangeLeft ob r < wr.rangeLeft ob r) := hI (by
        rw [hc.swap.rngVOf.left_eq]
        have h1 := HLE.out
        have h2 := (HA.out.swap.rngVOf).left_eq
        have h3 : (w3.alloc (.cells #[.int .i64 st] 3)).rangeLeft ob r = w3.rangeLeft ob r := by
          rw [h2]; exact HRL3.out.symm
        omega)
      clear ho hk hv hc HA HOW HSL
      go_wp2_with fail
      go_roundw
      case rel => exact ⟨acc ++ [st], _, cnt3, HC4.out, HOV4.out, HB4.out, HSUM3.out, HCN3.out⟩
      case measure => exact HLE4.out
end Go.Proofs.Ytiplepdmkbiehaa
namespace Go.Proofs.Ytiplepdmkbiehaa
set_option linter.unusedSimpArgs false
set_option linter.unusedVariables false
open Go.RowKit
structure EndW where
  id : Nat
  outs : List (Int × OutF)
  ins : List (Int × InF)
  names : List (Int × ByteArray)
  waits : List Wd
  log : List EvF
def EndW.nil : EndW := ⟨0, [], [], [], [], []⟩
def EndW.app (E : EndW) : AppF := ⟨E.id, E.outs, E.ins, E.names, E.waits.map Wd.enc, E.log⟩
def EndW.say (E : EndW) (x : Wd) : EndW := { E with waits := E.waits ++ [x] }
def EndW.hap (E : EndW) (e : EvF) : EndW := { E with log := E.log ++ [e] }
theorem EndW.app_say (E : EndW) (x : Wd) : (E.say x).app = sayA E.app x.enc := by simp [EndW.app, EndW.say, sayA]
theorem EndW.app_hap (E : EndW) (e : EvF) : (E.hap e).app = hapA E.app e := rfl
def chatW (E : EndW) (s : ByteArray) : EndW × Int :=
  if textB s 200 = false then (E, 4) else if 16 ≤ E.waits.length then (E, 8) else (E.say (.chat s.data.toList), 0)
theorem chatW_eq (E : EndW) (s : ByteArray) : chatA E.app s = ((chatW E s).1.app, (chatW E s).2) := by
  unfold chatA chatW
  by_cases h1 : textB s 200 = false
  · simp only [h1, if_true]
  · have e : E.app.waits.length = E.waits.length := by simp [EndW.app]
    by_cases h2 : 16 ≤ E.waits.length
    · simp only [h1, h2, e, if_true]; rfl
    · rw [if_neg h1, e, if_neg h2, if_neg h1, if_neg h2, EndW.app_say]; rfl
def offerW (t : Sums) (E : EndW) (title : ByteArray) (b : List UInt8) : Sums × EndW × Int × Int :=
  if rightB title = false then (t, E, 0, 6)
  else if 2048 < b.length then (t, E, 0, 20)
  else if liveN (E.outs.map fun x => x.2.st) = 4 then (t, E, 0, 19)
  else if 16 ≤ E.waits.length then (t, E, 0, 8)
  else (digT t b, ⟨E.id + 1, E.outs ++ [(((E.id + 1 : Nat) : Int), (⟨0, b, 0, 0⟩ : OutF))], E.ins, E.names ++ [(((E.id + 1 : Nat) : Int), title)], E.waits ++ [.offer (E.id + 1) title.data.toList b.length (digM t b)], E.log⟩, ((E.id + 1 : Nat) : Int), 0)
theorem offerW_eq (t : Sums) (E : EndW) (title : ByteArray) (b : List UInt8) : offerA t E.app title b = ((offerW t E title b).1, (offerW t E title b).2.1.app, (offerW t E title b).2.2.1, (offerW t E title b).2.2.2) := by
  have e1 : E.app.waits.length = E.waits.length := by simp [EndW.app]
  have e2 : E.app.outs = E.outs := rfl
  unfold offerA offerW
  rw [e1, e2]
  by_cases h1 : rightB title = false
  · simp only [h1, if_true]
  · by_cases h2 : 2048 < b.length
    · simp only [h1, h2, if_true]; rfl
    · by_cases h3 : liveN (E.outs.map fun x => x.2.st) = 4
      · simp only [h1, h2, h3, if_true]; rfl
      · by_cases h4 : 16 ≤ E.waits.length
        · simp only [h1, h2, h3, h4, if_true]; rfl
        · simp only [h1, h2, h3, h4]
          simp [EndW.app, sayA, Wd.enc]
def endedW (E : EndW) (id : Int) (i : InF) (e : Int) : EndW := if e = 0 ∧ i.st = 2 then E.hap ⟨5, id, ⟨#[]⟩, i.data⟩ else if e = 23 then E.hap ⟨6, id, ⟨#[]⟩, []⟩ else E
theorem endedW_eq (E : EndW) (id : Int) (i : InF) (e : Int) : endedA E.app id i e = (endedW E id i e).app := by
  unfold endedA endedW
  split
  · rfl
  · split <;> rfl
def answerW (t : Sums) (E : EndW) (id : Int) (yes : Bool) : Sums × EndW × Int :=
  if hasV E.ins id = false then (t, E, 9)
  else if (getV E.ins id InF.nil).st ≠ 0 then (t, E, 16)
  else if 16 ≤ E.waits.length then (t, E, 8)
  else if yes = false then (t, { E with ins := setV E.ins id (inRefuse (getV E.ins id InF.nil)).1, waits := E.waits ++ [.answer id.toNat 0] }, 0)
  else ((inAccept t (getV E.ins id InF.nil)).1, endedW { E with waits := E.waits ++ [.answer id.toNat 1], ins := setV E.ins id (inAccept t (getV E.ins id InF.nil)).2.1 } id (inAccept t (getV E.ins id InF.nil)).2.1 (inAccept t (getV E.ins id InF.nil)).2.2, 0)
theorem answerW_eq (t : Sums) (E : EndW) (id : Int) (yes : Bool) : answerA t E.app id yes = ((answerW t E id yes).1, (answerW t E id yes).2.1.app, (answerW t E id yes).2.2) := by
  have e1 : E.app.waits.length = E.waits.length := by simp [EndW.app]
  have e2 : E.app.ins = E.ins := rfl
  unfold answerA answerW
  rw [e1, e2]
  by_cases h1 : hasV E.ins id = false
  · simp only [h1, if_true]
  · by_cases h2 : (getV E.ins id InF.nil).st ≠ 0
    · rw [if_neg h1, if_pos h2, if_neg h1, if_pos h2]
    · by_cases h3 : 16 ≤ E.waits.length
      · rw [if_neg h1, if_neg h2, if_pos h3, if_neg h1, if_neg h2, if_pos h3]
      · rw [if_neg h1, if_neg h2, if_neg h3, if_neg h1, if_neg h2, if_neg h3]
        cases yes with
        | false =>
          simp [EndW.app, sayA, Wd.enc]
        | true =>
          simp [← endedW_eq]
          simp [EndW.app, sayA, Wd.enc]
def breakW (E : EndW) (id : Int) (inn : Bool) : EndW × Int :=
  if inn = true then (if hasV E.ins id = false then (E, 9) else ({ E with ins := setV E.ins id (inBreak (getV E.ins id InF.nil)).1 }, (inBreak (getV E.ins id InF.nil)).2))
  else (if hasV E.outs id = false then (E, 9) else ({ E with outs := setV E.outs id (outBreak (getV E.outs id OutF.nil)).1 }, (outBreak (getV E.outs id OutF.nil)).2))
theorem breakW_eq (E : EndW) (id : Int) (inn : Bool) : breakA E.app id inn = ((breakW E id inn).1.app, (breakW E id inn).2) := by
  unfold breakA breakW
  cases inn with
  | true =>
    simp only [if_true]
    show (if hasV E.ins id = false then _ else _) = _
    by_cases h : hasV E.ins id = false
    · rw [if_pos h, if_pos h]
    · rw [if_neg h, if_neg h]
      rfl
  | false =>
    simp only [Bool.false_eq_true, if_false]
    show (if hasV E.outs id = false then _ else _) = _
    by_cases h : hasV E.outs id = false
    · rw [if_pos h, if_pos h]
    · rw [if_neg h, if_neg h]
      rfl
def cancelW (E : EndW) (id : Int) (inn : Bool) : EndW × Int :=
  if (breakW E id inn).2 = 0 then ((breakW E id inn).1.say (.stop id.toNat (if inn = true then 1 else 0)), 0) else breakW E id inn
theorem cancelW_eq (E : EndW) (id : Int) (inn : Bool) : cancelA E.app id inn = ((cancelW E id inn).1.app, (cancelW E id inn).2) := by
  unfold cancelA cancelW
  rw [breakW_eq]
  by_cases h : (breakW E id inn).2 = 0
  · simp [h, EndW.app_say, Wd.enc]
  · simp [h]
def stoppedW (E : EndW) (id : Int) (inn : Bool) : EndW × Int :=
  if (breakW E id inn).2 = 0 then ((breakW E id inn).1.hap ⟨6, id, ⟨#[]⟩, []⟩, 0) else breakW E id inn
theorem stoppedW_eq (E : EndW) (id : Int) (inn : Bool) : stoppedA E.app id inn = ((stoppedW E id inn).1.app, (stoppedW E id inn).2) := by
  unfold stoppedA stoppedW
  rw [breakW_eq]
  by_cases h : (breakW E id inn).2 = 0
  · simp [h, EndW.app_hap]
  · simp [h]
def heardW (E : EndW) (s : ByteArray) : EndW := if textB s 200 = false then E else E.hap ⟨0, 0, s, []⟩
theorem heardW_eq (E : EndW) (s : ByteArray) : (heardA E.app s).1 = (heardW E s).app := by
  unfold heardA heardW
  by_cases h : textB s 200 = false <;> simp [h, EndW.app_hap]
def offeredW (E : EndW) (id : Int) (title : ByteArray) (size : Int) (sum : List UInt8) : EndW :=
  if rightB title = false then E
  else if hasV E.ins id = true then E
  else if liveN (E.ins.map fun x => x.2.st) = 4 then E
  else { E with ins := E.ins ++ [(id, ⟨0, size, sum, []⟩)], log := E.log ++ [⟨1, id, title, []⟩] }
theorem offeredW_eq (E : EndW) (id : Int) (title : ByteArray) (size : Int) (sum : List UInt8) : (offeredA E.app id title size sum).1 = (offeredW E id title size sum).app := by
  have e2 : E.app.ins = E.ins := rfl
  unfold offeredA offeredW
  rw [e2]
  split
  · rfl
  · split
    · rfl
    · split <;> rfl
def tellW (E : EndW) (k id : Int) : EndW := E.hap ⟨k, id, getV E.names id ⟨#[]⟩, []⟩
def overW (E : EndW) (id : Int) (o : OutF) : EndW := if o.st = 2 then tellW E 4 id else E
theorem overW_eq (E : EndW) (id : Int) (o : OutF) : overA E.app id o = (overW E id o).app := by
  unfold overA overW
  split <;> rfl
def tookW (E : EndW) (id : Int) (k : Int) (r : OutF × Int) : EndW :=
  if r.2 = 0 then tellW { E with outs := setV E.outs id r.1 } k id else { E with outs := setV E.outs id r.1 }
theorem tookW_eq (E : EndW) (id : Int) (k : Int) (r : OutF × Int) : (tookA E.app id k r).1 = (tookW E id k r).app := by
  unfold tookA tookW
  split <;> rfl
def answeredW (E : EndW) (id : Int) (yes : Bool) : EndW :=
  if hasV E.outs id = false then E
  else if yes = false then tookW E id 3 (outTurn (getV E.outs id OutF.nil) 3)
  else if (outTurn (getV E.outs id OutF.nil) 1).2 = 0 then overW (tookW E id 2 (outTurn (getV E.outs id OutF.nil) 1)) id (outTurn (getV E.outs id OutF.nil) 1).1
  else tookW E id 2 (outTurn (getV E.outs id OutF.nil) 1)
theorem answeredW_eq (E : EndW) (id : Int) (yes : Bool) : (answeredA E.app id yes).1 = (answeredW E id yes).app := by
  have e2 : E.app.outs = E.outs := rfl
  unfold answeredA answeredW
  rw [e2]
  by_cases h1 : hasV E.outs id = false
  · simp only [h1, if_true]
  · cases yes with
    | false => simp [h1, tookW_eq]
    | true =>
      by_cases h2 : (outTurn (getV E.outs id OutF.nil) 1).2 = 0
      · simp [h1, h2, tookW_eq, overW_eq]
      · simp [h1, h2, tookW_eq]
def cameW (E : EndW) (id : Int) : EndW :=
  if hasV E.outs id = false then E
  else if (outCame (getV E.outs id OutF.nil)).2 = 0 then overW { E with outs := setV E.outs id (outCame (getV E.outs id OutF.nil)).1 } id (outCame (getV E.outs id OutF.nil)).1
  else { E with outs := setV E.outs id (outCame (getV E.outs id OutF.nil)).1 }
theorem cameW_eq (E : EndW) (id : Int) : (cameA E.app id).1 = (cameW E id).app := by
  have e2 : E.app.outs = E.outs := rfl
  unfold cameA cameW
  rw [e2]
  by_cases h1 : hasV E.outs id = false
  · simp only [h1, if_true]
  · by_cases h2 : (outCame (getV E.outs id OutF.nil)).2 = 0
    · rw [if_neg h1, if_pos h2, if_neg h1, if_pos h2]
      exact overW_eq { E with outs := setV E.outs id (outCame (getV E.outs id OutF.nil)).1 } id _
    · rw [if_neg h1, if_neg h2, if_neg h1, if_neg h2]
      rfl
def gotW (E : EndW) (id : Int) (r : InF × Int) : EndW := if r.2 = 0 then { E with ins := setV E.ins id r.1, waits := E.waits ++ [.came id.toNat] } else { E with ins := setV E.ins id r.1 }
theorem gotW_eq (E : EndW) (id : Int) (r : InF × Int) : gotA E.app id r = (gotW E id r).app := by
  unfold gotA gotW
  split
  · simp [EndW.app, sayA, Wd.enc]
  · rfl
def pieceW (t : Sums) (E : EndW) (id at' : Int) (b : List UInt8) : Sums × EndW :=
  if hasV E.ins id = false then (t, E)
  else ((inTake t (getV E.ins id InF.nil) at' b).1, endedW (gotW E id (inTake t (getV E.ins id InF.nil) at' b).2) id (inTake t (getV E.ins id InF.nil) at' b).2.1 (inTake t (getV E.ins id InF.nil) at' b).2.2)
theorem pieceW_eq (t : Sums) (E : EndW) (id at' : Int) (b : List UInt8) : ((pieceA t E.app id at' b).1, (pieceA t E.app id at' b).2.1) = ((pieceW t E id at' b).1, (pieceW t E id at' b).2.app) := by
  have e2 : E.app.ins = E.ins := rfl
  unfold pieceA pieceW
  rw [e2]
  by_cases h1 : hasV E.ins id = false
  · simp only [h1, if_true]
  · simp only [h1, gotW_eq, endedW_eq]
    rfl
def takeW (t : Sums) (E : EndW) : Wd → Sums × EndW
  | .chat s => (t, heardW E (tx s))
  | .offer m ti sz sm => (t, offeredW E m (tx ti) sz sm)
  | .answer m y => (t, answeredW E m (decide (y = 1)))
  | .chunk m at1 b => pieceW t E m at1 b
  | .came m => (t, cameW E m)
  | .stop m f => (t, (stoppedW E m (decide (f = 0))).1)
theorem takeW_eq (t : Sums) (E : EndW) (x : Wd) : takeA t E.app x = ((takeW t E x).1, (takeW t E x).2.app) := by
  cases x with
  | chat s => simp [takeA, takeW, heardW_eq]
  | offer m ti sz sm => simp [takeA, takeW, offeredW_eq]
  | answer m y => simp [takeA, takeW, answeredW_eq]
  | chunk m at1 b => exact pieceW_eq t E m at1 b
  | came m => simp [takeA, takeW, cameW_eq]
  | stop m f => simp [takeA, takeW, stoppedW_eq]
def firstW (E : EndW) : Option Nat := (List.range' 1 E.id).find? fun i => decide (¬ outStop (getV E.outs i OutF.nil))
def goW (E : EndW) (i : Nat) : EndW := { E with outs := setV E.outs i (goO (getV E.outs i OutF.nil)) }
def chunkX (E : EndW) (i : Nat) : Wd := .chunk i (getV E.outs i OutF.nil).sent (chunkB (getV E.outs i OutF.nil))
def nextW (E : EndW) : EndW × Option Wd :=
  match E.waits with
  | x :: ws => ({ E with waits := ws }, some x)
  | [] => match firstW E with
    | some i => (goW E i, some (chunkX E i))
    | none => (E, none)
theorem nextW_eq (E : EndW) : nextA E.app = ((nextW E).1.app, (nextW E).2.map Wd.enc) := by
  obtain ⟨id, outs, ins, names, waits, log⟩ := E
  cases waits with
  | cons x ws => rfl
  | nil =>
    unfold nextW nextA
    show (match firstI (EndW.app ⟨id, outs, ins, names, [], log⟩) with | some i => _ | none => _) = _
    have e : firstI (EndW.app ⟨id, outs, ins, names, [], log⟩) = firstW ⟨id, outs, ins, names, [], log⟩ := rfl
    rw [e]
    cases h : firstW ⟨id, outs, ins, names, [], log⟩ with
    | none => simp [h]
    | some i => simp [h]; exact ⟨rfl, rfl⟩
/-- What the law keeps of one end: what it has said, and heard, its files, and which of them have come. -/
structure SideF where
  app : EndW
  said : List ByteArray
  hear : List ByteArray
  file : List (Int × List UInt8)
  over : List (Int × Nat)
def SideF.nil : SideF := ⟨EndW.nil, [], [], [], []⟩
/-- What an end says next comes to the other one. -/
def moveW (t : Sums) (x y : SideF) : Sums × SideF × SideF × Bool :=
  match (nextW x.app).2 with
  | some wd => ((takeW t y.app wd).1, { x with app := (nextW x.app).1 }, { y with app := (takeW t y.app wd).2 }, true)
  | none => (t, { x with app := (nextW x.app).1 }, y, false)
/-- What has happened at an end is looked at; the other one is y. -/
def lookOk (x y : SideF) (v : EvF) : Prop :=
  (v.kind = 5 → hasV y.file v.id = true ∧ getV y.file v.id [] = v.data ∧ getV x.over v.id 0 = 0) ∧ (v.kind = 4 → getV y.over v.id 0 = 1)
def lookE (x : SideF) (v : EvF) : SideF :=
  if v.kind = 0 then { x with hear := x.hear ++ [v.text] } else if v.kind = 5 then { x with over := putV x.over v.id 1 } else x
def lookL (x : SideF) (vs : List EvF) : SideF := vs.foldl lookE x
def lookOks (y : SideF) : SideF → List EvF → Prop
  | _, [] => True
  | x, v :: vs => lookOk x y v ∧ lookOks y (lookE x v) vs
def lookW (x : SideF) : SideF := lookL { x with app := { x.app with log := [] } } x.app.log
/-- A step of a script. -/
structure StF where
  kind : Int
  at_ : Int
  id : Int
  text : ByteArray
  data : List UInt8
def chatS (x : SideF) (s : ByteArray) : SideF := { x with app := (chatW x.app s).1, said := if (chatW x.app s).2 = 0 then x.said ++ [s] else x.said }
def offerS (t : Sums) (x : SideF) (s : ByteArray) (b : List UInt8) : Sums × SideF :=
  ((offerW t x.app s b).1, { x with app := (offerW t x.app s b).2.1, file := if (offerW t x.app s b).2.2.2 = 0 then putV x.file (offerW t x.app s b).2.2.1 b else x.file })
def answerS (t : Sums) (x : SideF) (id : Int) (yes : Bool) : Sums × SideF := ((answerW t x.app id yes).1, { x with app := (answerW t x.app id yes).2.1 })
def cancelS (x : SideF) (id : Int) (inn : Bool) : SideF := { x with app := (cancelW x.app id inn).1 }
/-- A step by the end x. -/
def stepS (t : Sums) (x y : SideF) (s : StF) : Sums × SideF × SideF :=
  if s.kind = 0 then (t, chatS x s.text, y)
  else if s.kind = 1 then ((offerS t x s.text s.data).1, (offerS t x s.text s.data).2, y)
  else if s.kind = 2 ∨ s.kind = 3 then ((answerS t x s.id (decide (s.kind = 2))).1, (answerS t x s.id (decide (s.kind = 2))).2, y)
  else if s.kind = 4 ∨ s.kind = 5 then (t, cancelS x s.id (decide (s.kind = 5)), y)
  else ((moveW t x y).1, (moveW t x y).2.1, (moveW t x y).2.2.1)
end Go.Proofs.Ytiplepdmkbiehaa
namespace Go.Proofs.Ytiplepdmkbiehaa
set_option linter.unusedSimpArgs false
set_option linter.unusedVariables false
open Go.RowKit Go.Maps Go.MapKept Go.WideMaps
def strC (s : ByteArray) : Value := .string s
theorem elStr : Elem Try.prog 31 9 1 16 (.string ⟨#[]⟩) := by
  refine Elem.mk Try.underlying31 ?_ rfl (by decide)
  kernel_rfl
/-- Texts, one behind the other. -/
def strsR (v : Value) (L : List ByteArray) : Res := .own 9 1 v L.length (L.map strC)
/-- A map's rows of bytes. -/
def rowM : List Value → List (Int × List UInt8) → List (Int × Value)
  | v :: vs, x :: L => (x.1, v) :: rowM vs L
  | _, _ => []
def filesR (b : Nat) (L : List (Int × List UInt8)) : Res := .ex fun vs => .all [mapV Try.prog 2 kI b (rowM vs L), sumsR vs (L.map (·.2))]
def overM (L : List (Int × Nat)) : List (Int × Value) := L.map fun x => (x.1, .int .i64 (x.2 : Int))
/-- Where one end's things lie. -/
structure SideP where
  e : Nat
  P : List Nat × List Nat
  s : Value
  h : Value
  f : Nat
  o : Nat
def sideR (q : Nat) (z : SideP) (x : SideF) : Res := .all [appR z.e q z.P x.app.app, strsR z.s x.said, strsR z.h x.hear, filesR z.f x.file, mapV Try.prog 2 kI z.o (overM x.over)]
def pairC (z u : SideP) : List Value := [.pointer (some ⟨z.e, 0, none⟩), .pointer (some ⟨u.e, 0, none⟩), .slice none 0 0, .slice none 0 0, z.s, u.s, z.h, u.h, .map (some z.f), .map (some u.f), .map (some z.o), .map (some u.o)]
/-- Two ends, in memory. -/
def pairR (p q : Nat) (mp : Value) (t : List (List UInt8)) (x y : SideF) : Res :=
  .ex fun (zu : SideP × SideP) => .all [.blk p (pairC zu.1 zu.2) 38, sideR q zu.1 x, sideR q zu.2 y, tabR q (.slice none 0 0) (.slice none 0 0) mp t]
theorem pairR_open {W : World} {p q : Nat} {mp : Value} {t : List (List UInt8)} {x y : SideF} {l : List Res} (h : Hold W (pairR p q mp t x y :: l)) : ∃ z u,
    Hold W (.blk p (pairC z u) 38 :: sideR q z x :: sideR q u y :: tabR q (.slice none 0 0) (.slice none 0 0) mp t :: l) := by
  obtain ⟨⟨z, u⟩, h⟩ := Hold.ex.1 h
  exact ⟨z, u, Hold.app.1 h⟩
theorem pairR_shut {W : World} {p q : Nat} {mp : Value} {t : List (List UInt8)} {x y : SideF} {z u : SideP} {l : List Res} (h : Hold W (.blk p (pairC z u) 38 :: sideR q z x :: sideR q u y :: tabR q (.slice none 0 0) (.slice none 0 0) mp t :: l)) :
    Hold W (pairR p q mp t x y :: l) := Hold.ex.2 ⟨(z, u), Hold.app.2 h⟩
theorem sideR_iff {W : World} {q : Nat} {z : SideP} {x : SideF} {l : List Res} : Hold W (sideR q z x :: l) ↔ Hold W (appR z.e q z.P x.app.app :: strsR z.s x.said :: strsR z.h x.hear :: filesR z.f x.file :: mapV Try.prog 2 kI z.o (overM x.over) :: l) := Hold.app
end Go.Proofs.Ytiplepdmkbiehaa
namespace Go.Proofs.Ytiplepdmkbiehaa
set_option linter.unusedSimpArgs false
set_option linter.unusedVariables false
open Go.RowKit
theorem digT_len (S : List (List UInt8)) (d : List UInt8) : (digT S d).length ≤ S.length + 1 := by
  unfold digT
  split
  · omega
  · simp
theorem mem_digT (t : List (List UInt8)) (b : List UInt8) : b ∈ digT t b := by
  unfold digT
  split
  · assumption
  · simp
theorem mem_digT_of {t : List (List UInt8)} {b : List UInt8} (h : b ∈ t) (d : List UInt8) : b ∈ digT t d := by
  unfold digT
  split
  · exact h
  · simp [h]
theorem digT_mem {t : List (List UInt8)} {b : List UInt8} (h : b ∈ t) : digT t b = t := by rw [digT, if_pos h]
theorem digM_mem {t : List (List UInt8)} {b : List UInt8} (h : b ∈ t) : digM t b = markB 100 (t.idxOf b + 1) := by rw [digM, digT_mem h]
theorem idxOf_digT {t : List (List UInt8)} {b : List UInt8} (h : b ∈ t) (d : List UInt8) : (digT t d).idxOf b = t.idxOf b := by
  unfold digT
  split
  · rfl
  · rw [List.idxOf_append, if_pos h]
theorem digM_digT {t : List (List UInt8)} {b : List UInt8} (h : b ∈ t) (d : List UInt8) : digM (digT t d) b = digM t b := by
  rw [digM_mem (mem_digT_of h d), digM_mem h, idxOf_digT h d]
section
/-- The file as it comes: of the bytes b. -/
structure InR (t : Sums) (b : List UInt8) (i : InF) : Prop where
  size : i.size = b.length
  sum : i.sum = digM t b
  st0 : i.st = 0 → i.data = []
  st1 : i.st = 1 → i.data.length < b.length
  dl : i.data.length ≤ b.length
  lo : 0 ≤ i.st
  hi : i.st ≤ 4
/-- A file b, as it is sent (o) and comes (i); a1: how often it is answered yes, cm: how many chunks are told to have come, sp: how often it is told to be broken off (words that wait). -/
structure FileR (t : Sums) (b : List UInt8) (o : OutF) (i : Option InF) (a1 cm sp : Nat) : Prop where
  data : o.data = b
  len : b.length ≤ 2048
  sent : o.sent ≤ b.length
  ahead : o.ahead ≤ 4
  mem : b ∈ t
  inn : ∀ j, i = some j → InR t b j
  off : o.st = 0 → o.sent = 0 ∧ o.ahead = 0 ∧ cm = 0 ∧ (i = none → a1 = 0) ∧ ∀ j, i = some j → (j.st = 0 ∨ j.st = 3 → a1 = 0) ∧ (j.st = 1 → j.data = []) ∧ (j.st = 2 → b.length = 0) ∧ (j.st = 4 → 0 < a1 → 0 < b.length ∧ 0 < sp)
  go : o.st = 1 → ¬ (o.ahead = 0 ∧ o.sent = b.length) ∧ ∃ j, i = some j ∧ (j.st = 1 ∧ j.data = b.take o.sent ∧ o.sent < b.length ∧ o.ahead = cm ∨ j.st = 2 ∧ o.sent = b.length ∧ o.ahead = cm ∨ j.st = 4 ∧ 0 < sp ∧ cm ≤ o.ahead ∧ (o.sent < b.length ∨ cm < o.ahead))
variable {t : Sums} {b : List UInt8} {o : OutF} {i : Option InF} {a1 cm sp : Nat}
theorem InR.table {i : InF} (h : InR t b i) (hm : b ∈ t) (d : List UInt8) : InR (digT t d) b i := ⟨h.size, by rw [h.sum, digM_digT hm], h.st0, h.st1, h.dl, h.lo, h.hi⟩
theorem FileR.table (h : FileR t b o i a1 cm sp) (d : List UInt8) : FileR (digT t d) b o i a1 cm sp :=
  ⟨h.data, h.len, h.sent, h.ahead, mem_digT_of h.mem d, fun j e => (h.inn j e).table h.mem d, h.off, h.go⟩
theorem FileR.new (hb : b.length ≤ 2048) : FileR (digT t b) b ⟨0, b, 0, 0⟩ none 0 0 sp :=
  ⟨rfl, hb, Nat.zero_le _, by simp, mem_digT _ _, fun j e => by simp at e, fun _ => ⟨rfl, rfl, rfl, fun _ => rfl, fun j e => by simp at e⟩, fun e => by simp at e⟩
/-- Heard of. -/
theorem FileR.offered (h : FileR t b o none a1 cm sp) : FileR t b o (some ⟨0, b.length, digM t b, []⟩) a1 cm sp := by
  refine ⟨h.data, h.len, h.sent, h.ahead, h.mem, ?_, ?_, ?_⟩
  · rintro j ⟨⟩
    exact ⟨rfl, rfl, fun _ => rfl, fun e => by simp at e, Nat.zero_le _, by simp, by simp⟩
  · intro e
    obtain ⟨h1, h2, h3, h4, -⟩ := h.off e
    refine ⟨h1, h2, h3, fun e => by simp at e, ?_⟩
    rintro j ⟨⟩
    exact ⟨fun _ => h4 rfl, fun _ => rfl, fun e => by simp at e, fun e => by simp at e⟩
  · intro e
    obtain ⟨-, j, e2, -⟩ := h.go e
    simp at e2
/-- Of the words that wait, fewer. -/
theorem FileR.lessA {a2 : Nat} (h : FileR t b o i a1 cm sp) (ha : a2 ≤ a1) : FileR t b o i a2 cm sp := by
  refine ⟨h.data, h.len, h.sent, h.ahead, h.mem, h.inn, ?_, h.go⟩
  intro e
  obtain ⟨h1, h2, h3, h4, h5⟩ := h.off e
  refine ⟨h1, h2, h3, fun e => by have := h4 e; omega, fun j ej => ?_⟩
  obtain ⟨g1, g2, g3, g4⟩ := h5 j ej
  exact ⟨fun e => by have := g1 e; omega, g2, g3, fun e k => g4 e (by omega)⟩
/-- The answer is no. -/
theorem FileR.refuse {j : InF} (h : FileR t b o (some j) a1 cm sp) (hj : j.st = 0) : FileR t b o (some (inRefuse j).1) a1 cm sp := by
  have hi := h.inn j rfl
  have hd := hi.st0 hj
  rw [inRefuse, if_neg (by simpa using hj)]
  refine ⟨h.data, h.len, h.sent, h.ahead, h.mem, ?_, ?_, ?_⟩
  · rintro k ⟨⟩
    exact ⟨hi.size, hi.sum, fun e => by simp at e, fun e => by simp at e, hi.dl, by simp, by simp⟩
  · intro e
    obtain ⟨h1, h2, h3, h4, h5⟩ := h.off e
    refine ⟨h1, h2, h3, fun e => by simp at e, ?_⟩
    rintro k ⟨⟩
    exact ⟨fun _ => (h5 j rfl).1 (.inl hj), fun e => by simp at e, fun e => by simp at e, fun e => by simp at e⟩
  · intro e
    obtain ⟨-, k, ek, h2⟩ := h.go e
    simp only [Option.some.injEq] at ek
    subst ek
    omega
/-- The answer is yes. -/
theorem FileR.accept {j : InF} (h : FileR t b o (some j) a1 cm sp) (hj : j.st = 0) : ∃ d, (inAccept t j).1 = digT t d ∧ (inAccept t j).2.2 = 0 ∧ ((inAccept t j).2.1.st = 1 ∨ (inAccept t j).2.1.st = 2 ∧ (inAccept t j).2.1.data = b) ∧
    FileR (inAccept t j).1 b o (some (inAccept t j).2.1) (a1 + 1) cm sp := by
  obtain ⟨jst, jsz, jsm, jd⟩ := j
  have hi := h.inn _ rfl
  have hd := hi.st0 hj
  have hmem := h.mem
  have hsz := hi.size
  have hsm := hi.sum
  simp only at hj hd hsz hsm
  subst hj hd hsz hsm
  rw [inAccept, if_neg (by simp)]
  unfold inWhole
  simp only [List.length_nil]
  by_cases h0 : 0 < b.length
  · rw [if_pos (by omega)]
    refine ⟨b, (digT_mem hmem).symm, rfl, .inl rfl, ⟨h.data, h.len, h.sent, h.ahead, h.mem, ?_, ?_, ?_⟩⟩
    · rintro k ⟨⟩
      exact ⟨rfl, rfl, fun e => by simp at e, fun _ => h0, by simp, by simp, by simp⟩
    · intro e
      obtain ⟨h1, h2, h3, h4, h5⟩ := h.off e
      refine ⟨h1, h2, h3, fun e => by simp at e, ?_⟩
      rintro k ⟨⟩
      exact ⟨fun e => by simp at e, fun _ => rfl, fun e => by simp at e, fun e => by simp at e⟩
    · intro e
      obtain ⟨-, k, ek, h2⟩ := h.go e
      simp only [Option.some.injEq] at ek
      subst ek
      simp only at h2
      omega
  · have hb : b = [] := List.eq_nil_of_length_eq_zero (by omega)
    subst hb
    rw [if_neg (by simp), if_pos rfl]
    refine ⟨[], rfl, rfl, .inr ⟨rfl, rfl⟩, ?_⟩
    rw [digT_mem hmem]
    refine ⟨h.data, h.len, h.sent, h.ahead, h.mem, ?_, ?_, ?_⟩
    · rintro k ⟨⟩
      exact ⟨rfl, rfl, fun _ => rfl, fun e => by simp at e, by simp, by simp, by simp⟩
    · intro e
      obtain ⟨h1, h2, h3, h4, h5⟩ := h.off e
      refine ⟨h1, h2, h3, fun e => by simp at e, ?_⟩
      rintro k ⟨⟩
      exact ⟨fun e => by simp at e, fun e => by simp at e, fun _ => rfl, fun e => by simp at e⟩
    · intro e
      obtain ⟨-, k, ek, h2⟩ := h.go e
      simp only [Option.some.injEq] at ek
      subst ek
      simp only at h2
      omega
/-- The other one hears of a yes. -/
theorem FileR.answered (h : FileR t b o i (a1 + 1) cm sp) : FileR t b (outTurn o 1).1 i a1 cm sp ∧ ((outTurn o 1).2 = 0 → (outTurn o 1).1.st = 2 → ∃ j, i = some j ∧ j.st = 2) := by
  unfold outTurn
  by_cases h0 : o.st = 0
  · rw [if_neg (by simpa using h0)]
    obtain ⟨h1, h2, h3, h4, h5⟩ := h.off h0
    have hdat := h.data
    cases i with
    | none => exact absurd (h4 rfl) (by omega)
    | some j =>
      obtain ⟨g1, g2, g3, g4⟩ := h5 j rfl
      have hi := h.inn j rfl
      have hlo := hi.lo
      have hhi := hi.hi
      have n0 : ¬ (j.st = 0 ∨ j.st = 3) := fun e => by have := g1 e; omega
      by_cases hl : o.data.length = 0
      · rw [if_pos ⟨rfl, hl⟩]
        rw [hdat] at hl
        have hs2 : j.st = 2 := by
          have n1 : ¬ j.st = 1 := fun e => by have := hi.st1 e; omega
          have n4 : ¬ j.st = 4 := fun e => by have := (g4 e (by omega)).1; omega
          omega
        exact ⟨⟨h.data, h.len, h.sent, h.ahead, h.mem, h.inn, fun e => by simp at e, fun e => by simp at e⟩, fun _ _ => ⟨j, rfl, hs2⟩⟩
      · rw [if_neg (by simp; intro e; simp [e] at hl)]
        rw [hdat] at hl
        refine ⟨⟨h.data, h.len, h.sent, h.ahead, h.mem, h.inn, fun e => by simp at e, fun _ => ⟨by simp only; omega, j, rfl, ?_⟩⟩, fun _ e => by simp at e⟩
        simp only
        by_cases s1 : j.st = 1
        · exact .inl ⟨s1, by rw [g2 s1, h1]; rfl, by omega, by omega⟩
        · by_cases s2 : j.st = 2
          · exact absurd (g3 s2) (by omega)
          · have s4 : j.st = 4 := by omega
            exact .inr (.inr ⟨s4, (g4 s4 (by omega)).2, by omega, by omega⟩)
  · rw [if_pos (by simpa using h0)]
    exact ⟨h.lessA (by omega), fun e => by simp at e⟩
/-- What is over stays so. -/
theorem FileR.dead {o' : OutF} {a2 cm2 sp2 : Nat} (h : FileR t b o i a1 cm sp) (h1 : o'.data = o.data) (h2 : o'.sent = o.sent) (h3 : o'.ahead = o.ahead) (h4 : o'.st ≠ 0) (h5 : o'.st ≠ 1) : FileR t b o' i a2 cm2 sp2 :=
  ⟨by rw [h1, h.data], h.len, by rw [h2]; exact h.sent, by rw [h3]; exact h.ahead, h.mem, h.inn, fun e => absurd e h4, fun e => absurd e h5⟩
theorem FileR.answeredNo (h : FileR t b o i a1 cm sp) : FileR t b (outTurn o 3).1 i a1 cm sp ∧ (outTurn o 3).1.st ≠ 2 ∨ FileR t b (outTurn o 3).1 i a1 cm sp ∧ (outTurn o 3).2 ≠ 0 := by
  unfold outTurn
  by_cases h0 : o.st = 0
  · rw [if_neg (by simpa using h0), if_neg (by simp)]
    exact .inl ⟨h.dead rfl rfl rfl (by simp) (by simp), by simp⟩
  · rw [if_pos (by simpa using h0)]
    exact .inr ⟨h, by simp⟩
/-- Broken off by the one who sends it. -/
theorem FileR.outBreak {sp2 : Nat} (h : FileR t b o i a1 cm sp) : FileR t b (outBreak o).1 i a1 cm sp2 ∧ ((Go.Proofs.Ytiplepdmkbiehaa.outBreak o).2 = 0 → (Go.Proofs.Ytiplepdmkbiehaa.outBreak o).1.st = 4) := by
  unfold Go.Proofs.Ytiplepdmkbiehaa.outBreak
  by_cases h0 : o.st ≠ 0 ∧ o.st ≠ 1
  · rw [if_pos h0]
    exact ⟨h.dead rfl rfl rfl h0.1 h0.2, fun e => by simp at e⟩
  · rw [if_neg h0]
    exact ⟨h.dead rfl rfl rfl (by simp) (by simp), fun _ => rfl⟩
/-- Broken off by the one to whom it comes. -/
theorem FileR.inBreak {j : InF} (h : FileR t b o (some j) a1 cm sp) : FileR t b o (some (inBreak j).1) a1 cm (sp + 1) ∧ (j.st = 2 → (Go.Proofs.Ytiplepdmkbiehaa.inBreak j).1.st = 2) ∧ ((Go.Proofs.Ytiplepdmkbiehaa.inBreak j).1.st = 2 → j.st = 2) := by
  have hi := h.inn j rfl
  unfold Go.Proofs.Ytiplepdmkbiehaa.inBreak
  by_cases h0 : j.st ≠ 0 ∧ j.st ≠ 1
  · rw [if_pos h0]
    refine ⟨⟨h.data, h.len, h.sent, h.ahead, h.mem, h.inn, ?_, ?_⟩, id, id⟩
    · intro e
      obtain ⟨h1, h2, h3, h4, h5⟩ := h.off e
      refine ⟨h1, h2, h3, h4, fun k ek => ?_⟩
      obtain ⟨g1, g2, g3, g4⟩ := h5 k ek
      exact ⟨g1, g2, g3, fun e k => ⟨(g4 e k).1, by omega⟩⟩
    · intro e
      obtain ⟨h1, k, ek, h2⟩ := h.go e
      exact ⟨h1, k, ek, h2.imp id (Or.imp id fun ⟨x1, x2, x3⟩ => ⟨x1, by omega, x3⟩)⟩
  · rw [if_neg h0]
    refine ⟨⟨h.data, h.len, h.sent, h.ahead, h.mem, ?_, ?_, ?_⟩, fun e => absurd e (by omega), fun e => by simp at e⟩
    · rintro k ⟨⟩
      exact ⟨hi.size, hi.sum, fun e => by simp at e, fun e => by simp at e, Nat.zero_le _, by simp, by simp⟩
    · intro e
      obtain ⟨h1, h2, h3, h4, h5⟩ := h.off e
      refine ⟨h1, h2, h3, fun e => by simp at e, ?_⟩
      rintro k ⟨⟩
      obtain ⟨g1, g2, g3, g4⟩ := h5 j rfl
      refine ⟨fun e => by simp at e, fun e => by simp at e, fun e => by simp at e, fun _ ha => ⟨?_, by omega⟩⟩
      have n0 : ¬ j.st = 0 := fun e => by have := g1 (.inl e); omega
      have := hi.st1 (by omega)
      omega
    · intro e
      obtain ⟨h1, k, ek, h2⟩ := h.go e
      simp only [Option.some.injEq] at ek
      subst ek
      refine ⟨h1, _, rfl, .inr (.inr ⟨rfl, by omega, ?_, ?_⟩)⟩ <;> omega
/-- The other one hears that it was broken off by the one who sends it, for whom it is over. -/
theorem FileR.stopped {j : InF} (h : FileR t b o (some j) a1 cm sp) (ho : o.st = 4) : FileR t b o (some (Go.Proofs.Ytiplepdmkbiehaa.inBreak j).1) a1 cm sp := by
  have := h.inBreak.1
  exact this.dead rfl rfl rfl (by omega) (by omega)
/-- A chunk is told to have come. -/
theorem FileR.came (h : FileR t b o i a1 (cm + 1) sp) : FileR t b (outCame o).1 i a1 cm sp ∧ ((outCame o).2 = 0 → (outCame o).1.st = 2 → ∃ j, i = some j ∧ j.st = 2) := by
  unfold outCame
  have h0 : o.st ≠ 0 := fun e => by have := (h.off e).2.2.1; omega
  by_cases h1 : o.st = 1
  · obtain ⟨g1, j, ej, g2⟩ := h.go h1
    have hdat := h.data
    have hah := h.ahead
    have ha : ¬ o.ahead = 0 := by omega
    rw [if_neg (by omega), hdat]
    by_cases hd : o.ahead - 1 = 0 ∧ o.sent = b.length
    · simp only [if_pos hd]
      refine ⟨⟨by first | exact hdat | rfl, h.len, h.sent, by simp only; omega, h.mem, h.inn, fun e => by simp at e, fun e => by simp at e⟩, fun _ _ => ⟨j, ej, by omega⟩⟩
    · simp only [if_neg hd]
      refine ⟨⟨by first | exact hdat | rfl, h.len, h.sent, by simp only; omega, h.mem, h.inn, fun e => absurd e h0, fun _ => ⟨hd, j, ej, ?_⟩⟩, fun _ e => by rw [h1] at e; simp at e⟩
      simp only
      rcases g2 with ⟨x1, x2, x3, x4⟩ | ⟨x1, x2, x3⟩ | ⟨x1, x2, x3, x4⟩
      · exact .inl ⟨x1, x2, x3, by omega⟩
      · exact .inr (.inl ⟨x1, x2, by omega⟩)
      · exact .inr (.inr ⟨x1, x2, by omega, by omega⟩)
  · rw [if_pos (.inl h1)]
    exact ⟨h.dead rfl rfl rfl h0 h1, fun e => by simp at e⟩
/-- A chunk goes over. -/
theorem FileR.chunk (h : FileR t b o i a1 cm sp) (ho : ¬ outStop o) (ht : t.length < 1099511627776) : ∃ j d, i = some j ∧ (inTake t j o.sent (chunkB o)).1 = digT t d ∧
    ((inTake t j o.sent (chunkB o)).2.2 = 0 ∧ ((inTake t j o.sent (chunkB o)).2.1.st = 1 ∨ (inTake t j o.sent (chunkB o)).2.1.st = 2 ∧ (inTake t j o.sent (chunkB o)).2.1.data = b) ∧ j.st ≠ 2 ∧ FileR (inTake t j o.sent (chunkB o)).1 b (goO o) (some (inTake t j o.sent (chunkB o)).2.1) a1 (cm + 1) sp ∨
     (inTake t j o.sent (chunkB o)).2.2 = 16 ∧ (inTake t j o.sent (chunkB o)).2.1 = j ∧ FileR (inTake t j o.sent (chunkB o)).1 b (goO o) (some j) a1 cm sp) := by
  unfold outStop at ho
  have hs := h.sent
  have hdat := h.data
  have hah := h.ahead
  have hmem := h.mem
  obtain ⟨g1, j, ej, g2⟩ := h.go (by omega)
  have hi := h.inn j ej
  have hck : chunkB o = (b.drop o.sent).take (min (o.sent + 64) b.length - o.sent) := by rw [chunkB, hdat]
  have hcl : (chunkB o).length = min (o.sent + 64) b.length - o.sent := by rw [hck]; simp; omega
  rw [hdat] at ho
  have hgs : (goO o).sent = min (o.sent + 64) b.length := by rw [goO, hdat]
  have hga : (goO o).ahead = o.ahead + 1 := rfl
  have hgd : (goO o).data = o.data := rfl
  have hgt : (goO o).st = o.st := rfl
  rcases g2 with ⟨x1, x2, x3, x4⟩ | ⟨x1, x2, x3⟩ | ⟨x1, x2, x3, x4⟩
  · have hjl : j.data.length = o.sent := by rw [x2]; simp; omega
    have hcat : j.data ++ chunkB o = b.take (min (o.sent + 64) b.length) := by
      rw [x2, hck]
      have : min (o.sent + 64) b.length = o.sent + (min (o.sent + 64) b.length - o.sent) := by omega
      conv => rhs; rw [this, List.take_add]
    have hcatl : (j.data ++ chunkB o).length = min (o.sent + 64) b.length := by rw [List.length_append, hjl, hcl]; omega
    have hsz := hi.size
    by_cases hf : o.sent + 64 < b.length
    · have hT : inTake t j o.sent (chunkB o) = (t, { j with data := j.data ++ chunkB o }, 0) := by
        unfold inTake
        rw [if_neg (by simpa using x1), if_neg (by rw [hjl, hcl]; omega)]
        rw [if_neg (by rw [hcl, hsz]; omega)]
        unfold inWhole
        simp only [hcatl, hi.size, hi.sum]
        rw [if_pos (by omega)]
      refine ⟨j, b, ej, ?_⟩
      rw [hT]
      refine ⟨(digT_mem hmem).symm, .inl ⟨rfl, .inl x1, by omega, ?_⟩⟩
      refine ⟨by rw [hgd, hdat], h.len, by omega, by omega, h.mem, ?_, fun e => by omega, fun _ => ⟨by omega, _, rfl, .inl ⟨x1, ?_, by omega, by omega⟩⟩⟩
      · rintro k ⟨⟩
        exact ⟨hsz, hi.sum, fun e => by simp at e; omega, fun _ => by simp only [hcatl]; omega, by simp only [hcatl]; omega, by simp only; omega, by simp only; omega⟩
      · rw [hgs]; exact hcat
    · have hm : min (o.sent + 64) b.length = b.length := by omega
      have hcat2 : j.data ++ chunkB o = b := by rw [hcat, hm, List.take_length]
      have hT : inTake t j o.sent (chunkB o) = (digT t b, { j with data := b, st := 2 }, 0) := by
        unfold inTake
        rw [if_neg (by simpa using x1), if_neg (by rw [hjl, hcl]; omega)]
        rw [if_neg (by rw [hcl, hsz]; omega)]
        unfold inWhole
        simp only [hcat2, hi.size, hi.sum]
        rw [if_neg (by omega)]
        simp
      refine ⟨j, b, ej, ?_⟩
      rw [hT]
      refine ⟨rfl, .inl ⟨rfl, .inr ⟨rfl, rfl⟩, by omega, ?_⟩⟩
      rw [digT_mem hmem]
      refine ⟨by rw [hgd, hdat], h.len, by omega, by omega, h.mem, ?_, fun e => by omega, fun _ => ⟨by omega, _, rfl, .inr (.inl ⟨rfl, by omega, by omega⟩)⟩⟩
      rintro k ⟨⟩
      exact ⟨hsz, hi.sum, fun e => by simp at e, fun e => by simp at e, Nat.le_refl _, by simp, by simp⟩
  · omega
  · have hT : inTake t j o.sent (chunkB o) = (t, j, 16) := by
      unfold inTake
      rw [if_pos (by omega)]
    refine ⟨j, b, ej, ?_⟩
    rw [hT]
    refine ⟨(digT_mem hmem).symm, .inr ⟨rfl, rfl, ?_⟩⟩
    exact ⟨by rw [hgd, hdat], h.len, by omega, by omega, h.mem, fun k ek => h.inn k (by rw [ej]; exact ek), fun e => by omega, fun _ => ⟨by omega, j, rfl, .inr (.inr ⟨x1, x2, by omega, by omega⟩)⟩⟩
end
end Go.Proofs.Ytiplepdmkbiehaa
