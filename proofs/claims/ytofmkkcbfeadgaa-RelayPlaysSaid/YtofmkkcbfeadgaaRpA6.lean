/- Texts of this proof, one behind the other: MMk, MRight, RegV, MTkOf, MTaken, MTick, MExtra, MTks, MMsg. -/
import Derived.Test.YtofmkkcbfeadgaaRpA5
import Derived.Deep.DeepCutAuto
import Derived.Deep.CutBlock
namespace Go.Proofs.Ytofmkkcbfeadgaa
set_option linter.unusedSimpArgs false
set_option linter.unusedVariables false
open Go.RowKit
/-- A value is made: all its rows are new. -/
def MkRes (w : World) (x : Tv) (e : Ending) (w' : World) : Prop :=
  ∃ cs, e = .returned (.agg cs.toArray) ∧ TvF w' (fun b => w.heap.size ≤ b) x cs ∧ Below w.heap.size w w'
theorem mk5 {w w' : World} {k t : Int} {n : Nat} {b : List UInt8} {bv : Value} (hb : Bs w' bv b) (ho : ∀ x, bv.ownBlock = some x → w.heap.size ≤ x) (hk : Below w.heap.size w w') :
    MkRes w (.mk k t n b []) (.returned (.agg #[.int .i64 k, .int .i64 t, .int .u64 (n : Int), bv, .slice none 0 0])) w' :=
  ⟨_, rfl, TvF.mk hb ho (Sl.nil _ _ _) (by simp [Value.ownBlock]) rfl, hk⟩
set_option maxRecDepth 100000 in
theorem rawNew_any (v : Value) (b : List UInt8) (w : World) (h : Bs w v b) (hl : b.length ≤ 1099511627776) :
    Calls Try.prog 35 #[v] w (MkRes w (.mk 1 0 0 b [])) := by
  obtain ⟨a, c, rfl, hc, hm⟩ := h.form
  have HA := hI (h.alloc (.cells zs5.toArray 70))
  have HN := hI (Blk.new w zs5 70)
  have HB0 : Hid (Below w.heap.size w (w.alloc (.cells zs5.toArray 70))) := hI ((Below.refl _ _).alloc (Nat.le_refl _) _)
  have HSZ : Hid (∀ o, (w.alloc o).heap.size = w.heap.size + 1) := hI (fun o => by simp)
  clear h
  go_enter Try.func35, Try.ntmps35
  go_wp2_with ((with_reducible show wpList _ _ _ (⟨some 4, _, _, _, _, _⟩ :: _) _ _); refine wpList_app2 rfl (.const (.slice none 0 0)) (.tmp 3) elBytes rfl w.heap.size (Own.nil _ _ _ _ _) (by simp [Act.eval, Value.ownBlock]) HA.out (by unfold maxLen; omega) (by omega) (by simp) ?_)
  intro v1 w1 ho1 hk1 hv1
  have hz1 := hk1.size
  simp at hz1
  have hb1 : Below w.heap.size w w1 := HB0.out.trans (hk1.below (by rintro x (h | h) <;> (try simp [Value.ownBlock] at h) <;> omega))
  have hr1 : Blk w1 w.heap.size zs5 70 := HN.out.keep hk1 (by rintro (h | h) <;> (try simp [Value.ownBlock] at h) <;> omega)
  have hvb : ∀ x, v1.ownBlock = some x → w.heap.size + 1 ≤ x := fun x hx => by
    rcases (hv1 x hx).1 with h | h
    · simp [Value.ownBlock] at h
    · try simp at h
      omega
  obtain ⟨a1, c1, rfl, _⟩ := ho1.sl.form
  have HR1 := hI hr1
  have HB1 := hI hb1
  have HS1 : Hid (Bs w1 (.slice a1 b.length c1) b) := hI ho1.sl
  have HVB := hI hvb
  clear ho1 hk1 hv1 hb1 hr1 hvb
  go_wp2_with ((with_reducible show wpList _ _ _ (⟨none, .store _ (.tmp 2) (.tmp 5), _, _, _, _⟩ :: _) _ _); refine wpList_stAgg rfl (.tmp 2) (.tmp 5) aggDer rfl rfl (vs := [.int .i64 1, .int .i64 0, .int .u64 0, .slice a1 b.length c1, .slice none 0 0]) rfl rfl HR1.out (Nat.le_refl _) (by intro u hu; simp at hu; rcases hu with rfl | rfl | rfl | rfl | rfl <;> rfl) ?_)
  intro w2 h2 k2
  have h2' : Blk w2 w.heap.size [.int .i64 1, .int .i64 0, .int .u64 0, .slice a1 b.length c1, .slice none 0 0] 70 := by simpa [zs5] using h2
  have H2 := hI h2'
  have HB2 : Hid (Below w.heap.size w w2) := hI (HB1.out.trans (k2.below (by omega)))
  have HS2 : Hid (Bs w2 (.slice a1 b.length c1) b) := hI (Sl.keep HS1.out k2 (fun x hx e => by have := HVB.out x hx; omega))
  clear h2 h2' k2
  go_wp2_with fail
  exact bodyPost_ret (results_agg rfl aggDer rfl (cs := [.int .i64 1, .int .i64 0, .int .u64 0, .slice a1 b.length c1, .slice none 0 0]) rfl H2.out.cellsAll) rfl (mk5 HS2.out (fun x hx => by have := HVB.out x hx; omega) HB2.out)
theorem numNew_any (n : Nat) (w : World) : Calls Try.prog 54 #[.int .u64 n] w (MkRes w (.mk 0 0 n [] [])) :=
  (derNum_any n w).mono fun _ _ ⟨h1, h2⟩ => by
    subst h1
    exact mk5 (Sl.nil _ _ _) (by simp [Value.ownBlock]) h2
set_option maxHeartbeats 1000000 in
set_option maxRecDepth 100000 in
theorem mtext_any (l : List UInt8) (w : World) (hl : l.length ≤ 1099511627776) : Calls Try.prog 33 #[.string (tx l)] w (MkRes w (.mk 1 0 0 l [])) := by
  have HN := hI (Blk.new w zs5 70)
  have HB0 : Hid (Below w.heap.size w (w.alloc (.cells zs5.toArray 70))) := hI ((Below.refl _ _).alloc (Nat.le_refl _) _)
  have HSZ : Hid (∀ o, (w.alloc o).heap.size = w.heap.size + 1) := hI (fun o => by simp)
  have hcv := run_conv (w.alloc (.cells zs5.toArray 70)) (tx l) (by rw [tx_size]; omega)
  have HCV := hI hcv
  clear hcv
  go_enter Try.func33, Try.ntmps33
  go_wp2_with ((with_reducible show wpList _ _ _ (⟨some 4, _, _, _, _, _⟩ :: _) _ _); refine wpList_conv rfl (.tmp 3) rfl (s := tx l) rfl (by rw [tx_size]; omega) ?_; intro cap w0 hcv hbv hsz)
  have hbs : Bs w0 (.slice (some ⟨w.heap.size + 1, 0, none⟩) (tx l).size cap) l := by
    have := hcv.sl
    rw [HSZ.out] at this
    exact Sl.bs this rfl (tx_size l).symm
  have hz0 := hbv.size
  simp at hz0
  have HBV := hI hbv
  have HRW := hI (rawNew_any _ l w0 hbs (by omega))
  clear hcv hbv hsz hbs HCV
  go_wp2_with fail
  refine HRW.out.mono ?_
  rintro e w1 ⟨cs, rfl, h1, h2⟩
  have HL := hI h1.length
  have HO := hI h1.one
  have h1' : TvF w1 (fun b => w.heap.size + 1 ≤ b) (.mk 1 0 0 l []) cs := h1.mono (fun b hb => by first | omega | (simp only [HSZ.out] at hb; omega) | (simp at hb; omega))
  have hbw : Below w.heap.size w w1 := (HB0.out.trans (HBV.out.mono (by simp))).trans (h2.mono (by first | omega | (simp; done) | (simp; omega)))
  have hr1 : Blk w1 w.heap.size zs5 70 := (HN.out.below HBV.out (by simp)).below h2 (by omega)
  have HT := hI h1'
  have HBW := hI hbw
  have HR := hI hr1
  clear h1 h1' h2 hbw hr1
  go_wp2_with ((with_reducible show wpList _ _ _ (⟨none, .store _ (.tmp 2) (.tmp 5), _, _, _, _⟩ :: _) _ _); refine wpList_stAgg rfl (.tmp 2) (.tmp 5) aggDer rfl rfl (vs := cs) rfl HL.out HR.out (Nat.le_refl _) HO.out ?_)
  intro w2 h2 k2
  have H2 : Hid (Blk w2 w.heap.size cs 70) := hI (by simpa [zs5] using h2)
  have HB2 : Hid (Below w.heap.size w w2) := hI (HBW.out.trans (k2.below (by omega)))
  have HT2 : Hid (TvF w2 (fun b => w.heap.size ≤ b) (.mk 1 0 0 l []) cs) := hI ((HT.out.keep k2 (fun b hb _ e => by omega)).mono (fun b hb => by omega))
  clear h2 k2
  go_wp2_with fail
  exact bodyPost_ret (results_agg rfl aggDer rfl (cs := cs) HL.out H2.out.cellsAll) rfl ⟨cs, rfl, HT2.out, HB2.out⟩
set_option maxHeartbeats 1000000 in
set_option maxRecDepth 100000 in
theorem mnum_any (n : Nat) (w : World) (hn : n ≤ 9223372036854775807) : Calls Try.prog 34 #[.int .i64 (n : Int)] w (MkRes w (.mk 0 0 n [] [])) := by
  have HN := hI (Blk.new w zs5 70)
  have HB0 : Hid (Below w.heap.size w (w.alloc (.cells zs5.toArray 70))) := hI ((Below.refl _ _).alloc (Nat.le_refl _) _)
  have HSZ : Hid (∀ o, (w.alloc o).heap.size = w.heap.size + 1) := hI (fun o => by simp)
  have HRW := hI (numNew_any n (w.alloc (.cells zs5.toArray 70)))
  go_enter Try.func34, Try.ntmps34
  go_wp2_with fail
  refine HRW.out.mono ?_
  rintro e w1 ⟨cs, rfl, h1, h2⟩
  have HL := hI h1.length
  have HO := hI h1.one
  have h1' : TvF w1 (fun b => w.heap.size + 1 ≤ b) (.mk 0 0 n [] []) cs := h1.mono (fun b hb => by first | omega | (simp only [HSZ.out] at hb; omega) | (simp at hb; omega))
  have hbw : Below w.heap.size w w1 := HB0.out.trans (h2.mono (by first | omega | (simp; done)))
  have hr1 : Blk w1 w.heap.size zs5 70 := HN.out.below h2 (by first | omega | (simp; done))
  have HT := hI h1'
  have HBW := hI hbw
  have HR := hI hr1
  clear h1 h1' h2 hbw hr1
  go_wp2_with ((with_reducible show wpList _ _ _ (⟨none, .store _ (.tmp 2) (.tmp 5), _, _, _, _⟩ :: _) _ _); refine wpList_stAgg rfl (.tmp 2) (.tmp 5) aggDer rfl rfl (vs := cs) rfl HL.out HR.out (Nat.le_refl _) HO.out ?_)
  intro w2 h2 k2
  have H2 : Hid (Blk w2 w.heap.size cs 70) := hI (by simpa [zs5] using h2)
  have HB2 : Hid (Below w.heap.size w w2) := hI (HBW.out.trans (k2.below (by omega)))
  have HT2 : Hid (TvF w2 (fun b => w.heap.size ≤ b) (.mk 0 0 n [] []) cs) := hI ((HT.out.keep k2 (fun b hb _ e => by omega)).mono (fun b hb => by omega))
  clear h2 k2
  go_wp2_with fail
  exact bodyPost_ret (results_agg rfl aggDer rfl (cs := cs) HL.out H2.out.cellsAll) rfl ⟨cs, rfl, HT2.out, HB2.out⟩
set_option maxHeartbeats 1000000 in
set_option maxRecDepth 100000 in
theorem mnum_neg (n : Int) (m : Nat) (w : World) (hn : n < 0) (hm : -9223372036854775808 ≤ n) (hnm : n + 18446744073709551616 = m) : Calls Try.prog 34 #[.int .i64 n] w (MkRes w (.mk 0 0 m [] [])) := by
  have HN := hI (Blk.new w zs5 70)
  have HB0 : Hid (Below w.heap.size w (w.alloc (.cells zs5.toArray 70))) := hI ((Below.refl _ _).alloc (Nat.le_refl _) _)
  have HSZ : Hid (∀ o, (w.alloc o).heap.size = w.heap.size + 1) := hI (fun o => by simp)
  have HRW := hI (numNew_any m (w.alloc (.cells zs5.toArray 70)))
  have hcvn : ∀ W, (convert 2 34 (.int .i64 n)).run Try.prog W = .ok (.int .u64 (m : Nat)) W := fun W => by
    have hw : IntKind.u64.wrap n = m := by
      have h64 : (2 : Int) ^ IntKind.u64.bits = 18446744073709551616 := by decide
      simp only [IntKind.wrap, IntKind.signed, h64]
      simp only [Bool.false_eq_true, false_and, if_false, Bool.false_and]
      omega
    simp [convert, Conv.intToInt, hw]
  clear hnm
  go_enter Try.func34, Try.ntmps34
  go_wp2_with fail
  refine HRW.out.mono ?_
  rintro e w1 ⟨cs, rfl, h1, h2⟩
  have HL := hI h1.length
  have HO := hI h1.one
  have h1' : TvF w1 (fun b => w.heap.size + 1 ≤ b) (.mk 0 0 m [] []) cs := h1.mono (fun b hb => by first | omega | (simp only [HSZ.out] at hb; omega) | (simp at hb; omega))
  have hbw : Below w.heap.size w w1 := HB0.out.trans (h2.mono (by first | omega | (simp; done)))
  have hr1 : Blk w1 w.heap.size zs5 70 := HN.out.below h2 (by first | omega | (simp; done))
  have HT := hI h1'
  have HBW := hI hbw
  have HR := hI hr1
  clear h1 h1' h2 hbw hr1
  go_wp2_with ((with_reducible show wpList _ _ _ (⟨none, .store _ (.tmp 2) (.tmp 5), _, _, _, _⟩ :: _) _ _); refine wpList_stAgg rfl (.tmp 2) (.tmp 5) aggDer rfl rfl (vs := cs) rfl HL.out HR.out (Nat.le_refl _) HO.out ?_)
  intro w2 h2 k2
  have H2 : Hid (Blk w2 w.heap.size cs 70) := hI (by simpa [zs5] using h2)
  have HB2 : Hid (Below w.heap.size w w2) := hI (HBW.out.trans (k2.below (by omega)))
  have HT2 : Hid (TvF w2 (fun b => w.heap.size ≤ b) (.mk 0 0 m [] []) cs) := hI ((HT.out.keep k2 (fun b hb _ e => by omega)).mono (fun b hb => by omega))
  clear h2 k2
  go_wp2_with fail
  exact bodyPost_ret (results_agg rfl aggDer rfl (cs := cs) HL.out H2.out.cellsAll) rfl ⟨cs, rfl, HT2.out, HB2.out⟩
def timeB (x : Int) : Bool := decide (0 ≤ x) && decide (x ≤ 1099511627776)
theorem map_at {α β : Type} (f : α → β) (l : List α) (k : Nat) (h : k < l.length) : (l.map f)[k]? = some (f l[k]) := by simp [h]
set_option maxHeartbeats 2000000 in
set_option maxRecDepth 100000 in
theorem mright_any (ns : List ByteArray) (xs : List Int) (v1 v2 : Value) (w : World) (h1 : Sl w 1 v1 ns.length (ns.map Value.string)) (h2 : Sl w 1 v2 xs.length (xs.map (Value.int .i64))) (hs : ∀ s ∈ ns, s.size ≤ maxLen) :
    Calls Try.prog 36 #[v1, v2] w fun e w' => e = .returned (.bool (ns.all rightB && xs.all timeB)) ∧ Below w.heap.size w w' := by
  obtain ⟨a, cap, rfl, hcap, hcm⟩ := h1.form
  obtain ⟨a2, cap2, rfl, hcap2, hcm2⟩ := h2.form
  unfold maxLen at hcm hcm2
  have HS := hI h1
  have HS2 := hI h2
  have HSZ := hI hs
  clear h1 h2 hs
  go_enter Try.func36, Try.ntmps36
  go_wp2_with fail
  go_loopw [11] (fun i wr => ∃ k : Nat, k ≤ ns.length ∧ i = .int .i64 k ∧ (ns.take k).all rightB = true ∧ Below w.heap.size w wr) (fun i _ => ns.length - (intOf i).toNat)
  case atStart => exact ⟨0, Nat.zero_le _, rfl, rfl, Below.refl _ _⟩
  case round =>
    obtain ⟨k, hk, rfl, hno, hB⟩ := hrel
    have HNO := hI hno
    have HB := hI hB
    clear hno hB
    by_cases hlt : k < ns.length
    · have hlt1 : (k : Int) < (ns.length : Int) := by omega
      obtain ⟨b, off, rfl, hcell⟩ := HS.out.addr (by rw [HS.out.1]; omega)
      have c0 : wr.cell? ⟨b, off + k, none⟩ = some (.string ns[k]) := below_cell HB.out (hcell _ _ (map_at Value.string ns k hlt))
      clear hcell
      have HN : Hid (rightB ns[k] = true → (ns.take (k + 1)).all rightB = true) := hI (by
        intro h
        rw [List.take_succ_eq_append_getElem hlt, List.all_append, HNO.out]
        simp [h])
      have HY : Hid (rightB ns[k] = false → ns.all rightB = false) := hI (by
        intro h
        exact List.all_eq_false.2 ⟨ns[k], List.getElem_mem hlt, by rw [h]; simp⟩)
      have HRT := hI (right_any ns[k] wr (HSZ.out _ (List.getElem_mem hlt)))
      generalize ns[k] = s at *
      go_wp2_with fail
      refine HRT.out.mono ?_
      rintro e w1 ⟨rfl, hb⟩
      have HB1 : Hid (Below w.heap.size w w1) := hI (HB.out.trans (hb.mono HB.out.size))
      clear hb
      cases hr : rightB s with
      | true =>
        have HR := hI hr
        clear hr
        go_wp2_with fail
        go_roundw
        case rel => exact ⟨k + 1, by omega, by go_num, HN.out HR.out, HB1.out⟩
        case measure => simp [intOf]; omega
      | false =>
        have HR := hI hr
        clear hr
        go_wp2_with fail
        go_ret
        rw [HY.out HR.out]
        exact ⟨rfl, HB1.out⟩
    · obtain rfl : k = ns.length := by omega
      have HA1 : Hid (ns.all rightB = true) := hI (by have h := HNO.out; rwa [List.take_length] at h)
      clear HNO
      go_wp2_with fail
      have hsz : w.heap.size ≤ wr.heap.size := HB.out.size
      go_loopw [21] (fun i wr => ∃ k : Nat, k ≤ xs.length ∧ i = .int .i64 k ∧ (xs.take k).all timeB = true ∧ Below w.heap.size w wr) (fun i _ => xs.length - (intOf i).toNat)
      case atStart => exact ⟨0, Nat.zero_le _, rfl, rfl, HB.out⟩
      case round =>
        obtain ⟨k, hk, rfl, hno, hB⟩ := hrel
        have HNO := hI hno
        have HB := hI hB
        clear hno hB
        by_cases hlt : k < xs.length
        · have hlt1 : (k : Int) < (xs.length : Int) := by omega
          obtain ⟨b, off, rfl, hcell⟩ := HS2.out.addr (by rw [HS2.out.1]; omega)
          have c0 : wr.cell? ⟨b, off + k, none⟩ = some (.int .i64 xs[k]) := below_cell HB.out (hcell _ _ (map_at (Value.int .i64) xs k hlt))
          clear hcell
          have HN : Hid (timeB xs[k] = true → (xs.take (k + 1)).all timeB = true) := hI (by
            intro h
            rw [List.take_succ_eq_append_getElem hlt, List.all_append, HNO.out]
            simp [h])
          have HY : Hid (timeB xs[k] = false → xs.all timeB = false) := hI (by
            intro h
            exact List.all_eq_false.2 ⟨xs[k], List.getElem_mem hlt, by rw [h]; simp⟩)
          have HE : Hid (timeB xs[k] = (decide (0 ≤ xs[k]) && decide (xs[k] ≤ 1099511627776))) := hI rfl
          generalize xs[k] = x at *
          by_cases h1 : 0 ≤ x
          · by_cases h2 : x ≤ 1099511627776
            · have hx0 : ¬ x < 0 := by omega
              go_wp2_with fail
              go_roundw
              case rel => exact ⟨k + 1, by omega, by go_num, HN.out (by rw [HE.out]; simp [h1, h2]), HB.out⟩
              case measure => simp [intOf]; omega
            · have hx0 : ¬ x < 0 := by omega
              have hx1 : 1099511627776 < x := by omega
              clear h2
              have HF : Hid (xs.all timeB = false) := hI (HY.out (by rw [HE.out]; simp; omega))
              go_wp2_with fail
              go_ret
              rw [HA1.out, HF.out]
              exact ⟨rfl, HB.out⟩
          · have hx0 : x < 0 := by omega
            clear h1
            have HF : Hid (xs.all timeB = false) := hI (HY.out (by rw [HE.out]; simp; omega))
            go_wp2_with fail
            go_ret
            rw [HA1.out, HF.out]
            exact ⟨rfl, HB.out⟩
        · obtain rfl : k = xs.length := by omega
          have HA : Hid (xs.all timeB = true) := hI (by have h := HNO.out; rwa [List.take_length] at h)
          go_wp2_with fail
          go_ret
          rw [HA1.out, HA.out]
          exact ⟨rfl, HB.out⟩
theorem Fr.lit {a0 a : Act} {ds : List Nat} (h : Fr a0 a ds) (s : Nat) (hs : ds.contains s = false) {v : Value} (hv : a0.eval (.tmp s) = v) : a.eval (.tmp s) = v := (h.eval s hs).trans hv
theorem PostAt.get {ops : Array Oper} {Post : Nat → Value → World → Prop} {i : Nat} {a : Act} {w : World} (h : PostAt ops Post i a w) {s : Nat} (hs : dstOf ops i = some s) : Post i (a.eval (.tmp s)) w := by
  obtain ⟨v, h1, h2⟩ := h
  rw [show a.eval (.tmp s) = v from h2 s hs]
  exact h1
theorem PostAt.fin {ops : Array Oper} {Post : Nat → Value → World → Prop} {i : Nat} {a : Act} {w : World} (h : PostAt ops Post i a w) : ∃ v, Post i v w := by
  obtain ⟨v, h1, h2⟩ := h
  exact ⟨v, h1⟩
section
variable (P : Program) (md : Region.Mode) (ops : Array Oper) (Q : Exit → Act → World → Prop) (S : World → Prop) (G : World → World → Prop) (Post : Nat → Value → World → Prop) (l0 : Array Bool) (ds : List Nat) (a0 : Act) (w0 : World)
def AllSteps (rs : List Nat) : Prop := ∀ i ∈ rs, StepAt P md ops Q S G Post l0 ds a0 w0 i
end
section
variable {P : Program} {md : Region.Mode} {ops : Array Oper} {Q : Exit → Act → World → Prop} {S : World → Prop} {G : World → World → Prop} {Post : Nat → Value → World → Prop} {l0 : Array Bool} {ds : List Nat} {a0 : Act} {w0 : World}
theorem AllSteps.nil : AllSteps P md ops Q S G Post l0 ds a0 w0 [] := fun _ h => by cases h
theorem AllSteps.cons {i : Nat} {o : Oper} {rs : List Nat} (ho : ops[i]? = some o)
    (h : ∀ a w, Fr a0 a ds → S w → (∀ d, depB md ops l0 i d = true → PostAt ops Post d a w) → ∀ K : Act → World → Prop, (∀ v w', G w w' → Post i v w' → K (a.put o.dst v) w') →
      if Region.wanted o (yielded ops a.tmps) = true then Oper.wp P o a w K Q else K (a.put o.dst undef) w)
    (hs : AllSteps P md ops Q S G Post l0 ds a0 w0 rs) : AllSteps P md ops Q S G Post l0 ds a0 w0 (i :: rs) := fun j hj => by
  rcases List.mem_cons.1 hj with rfl | hj
  · intro o' ho' a w hf _ hs hd K hK
    rw [ho] at ho'
    cases ho'
    exact h a w hf hs hd K hK
  · exact hs j hj
/-- What is still to come is shown, each once. -/
theorem anyH_steps (hr : ∀ w, G w w) (ht : ∀ a b c, G a b → G b c → G a c) (hS : ∀ w w', S w → G w w' → S w') (hst : ∀ i v w w', Post i v w → G w w' → Post i v w')
    (rs : List Nat) (n : Nat) (hn : a0.tmps.size = n) (hok : invOk md ops l0 ds n = true) (hrs : (List.range ops.size).filter (fun i => !l0.getD i true) = rs)
    (hstep : AllSteps P md ops Q S G Post l0 ds a0 w0 rs)
    (hfin : ∀ a w, Fr a0 a ds → S w → (∀ i, i ∈ rs → PostAt ops Post i a w) → Q .normal a w) (hS0 : S w0) {fuel : Nat} (hfuel : leftN ops.size l0 ≤ fuel) :
    wpAnyH P md ops Q S fuel l0 a0 w0 := by
  subst hn
  refine anyH_inv hr ht hS hst hok (fun i hi h0 => hstep i ?_) (fun a w hf hg hs hp => hfin a w hf hs fun i hi => ?_) hS0 hfuel
  · rw [← hrs]
    exact List.mem_filter.2 ⟨List.mem_range.2 hi, by rw [h0]; rfl⟩
  · rw [← hrs] at hi
    obtain ⟨h1, h2⟩ := List.mem_filter.1 hi
    exact hp i (List.mem_range.1 h1) (by simpa using h2)
def Enters (P : Program) (f : FuncId) : Prop := ∀ args w, (callFunc f args).run P w = .ok (.enter f args) w
theorem Enters.mk {f : FuncId} {fn : Func} (hf : P.funcs[f]? = some fn) (hname : (fn.name == "runtime.NumGoroutine") = false) (hb : fn.body.isNone = false) : Enters P f := by
  intro args w
  obtain ⟨c, hc⟩ : ∃ c, fn.body = some c := by
    cases h : fn.body with
    | none => rw [h] at hb; cases hb
    | some c => exact ⟨c, rfl⟩
  have h1 : fn.name ≠ "runtime.NumGoroutine" := by simpa using hname
  simp [callFunc, hf, h1, hc]
theorem wanted_none {o : Oper} {a : Act} (h : o.guard = none) : Region.wanted o (yielded ops a.tmps) = true := by simp [Region.wanted, h]
theorem step_call {E : Prop} {o : Oper} {a : Act} {w : World} {K : Act → World → Prop} (hw : Region.wanted o (yielded ops a.tmps) = true) {f : FuncId} {args : Array Operand} {tys : Array TypeId} (ho : o.op = .call { callee := .value (.func f), args := args, argTypes := tys })
    (hf : Enters P f) {vs : Array Value} (hv : args.map a.eval = vs) {C : Ending → World → Prop} (hc : Calls P f vs w C) (h : ∀ e w', C e w' → ∃ v, e = .returned v ∧ K (a.put o.dst v) w') :
    if Region.wanted o (yielded ops a.tmps) = true then Oper.wp P o a w K Q else E := by
  rw [if_pos hw]
  have he : (execOp a.eval o).run P w = .ok (.enter f vs) w := by
    unfold execOp
    simp only [ho, resolve, Deferred.ofValue, Act.eval, invoke, Sem.run_bind, Sem.run_pure, Result.andThen_ok, hv, Array.append_empty, Array.empty_append]
    exact hf vs w
  unfold Oper.wp
  rw [he]
  refine Calls.mono hc fun e w' hq => ?_
  obtain ⟨v, rfl, hk⟩ := h e w' hq
  exact hk
/-- An operation that yields a value and leaves the world. -/
theorem step_val {E : Prop} {o : Oper} {a : Act} {w : World} {K : Act → World → Prop} (hw : Region.wanted o (yielded ops a.tmps) = true) {v : Value} {w' : World} (hr : (execOp a.eval o).run P w = .ok (.value v) w') (h : K (a.put o.dst v) w') :
    if Region.wanted o (yielded ops a.tmps) = true then Oper.wp P o a w K Q else E := by
  rw [if_pos hw]
  unfold Oper.wp
  rw [hr]
  exact h
theorem exec_asg {o : Oper} {a : Act} {w : World} {x : Operand} (ho : o.op = .assign x) {v : Value} (hx : a.eval x = v) : (execOp a.eval o).run P w = .ok (.value v) w := by simp [execOp, ho, hx]
theorem step_st {E : Prop} {o : Oper} {a : Act} {w : World} {K : Act → World → Prop} (hw : Region.wanted o (yielded ops a.tmps) = true) (x y : Operand) {ty : TypeId} {m : Nat} (hT : AggTy P ty m) (ho : o.op = .store ty x y)
    {g off : Nat} (hx : a.eval x = .pointer (some ⟨g, off, none⟩)) {vs : List Value} (hy : a.eval y = .agg vs.toArray) (hm : vs.length = m) {cur : List Value} {T : TypeId} (hb : Blk w g cur T) (hfit : off + m ≤ cur.length) (h1 : ∀ v ∈ vs, v.oneCell' = true)
    (h : ∀ w', Blk w' g (cur.take off ++ vs ++ cur.drop (off + m)) T → Keeps (fun k => k = g) w w' → K (a.put o.dst undef) w') : if Region.wanted o (yielded ops a.tmps) = true then Oper.wp P o a w K Q else E := by
  rw [if_pos hw]
  obtain ⟨w', hr, h2, h3⟩ := run_stAgg hT hm hb hfit h1
  unfold Oper.wp execOp
  simp only [ho, hx, hy, Instr.storeAt, Instr.sureAddr, Sem.run_bind, Sem.run_pure, Result.andThen_ok, hr]
  exact h w' h2 h3
end
/-! ### A row of values, built -/
theorem foldl_set : ∀ (c : List Value) (j off : Nat) (pre mid post : List Value), pre.length = off + j → mid.length = c.length →
    (c.zipIdx j).foldl (fun (cs : Array Value) (x : Value × Nat) => cs.setIfInBounds (off + x.2) x.1) (pre ++ mid ++ post).toArray = (pre ++ c ++ post).toArray
  | [], j, off, pre, mid, post, h, hm => by
    have : mid = [] := List.eq_nil_of_length_eq_zero (by simpa using hm)
    simp [this]
  | x :: c, j, off, pre, mid, post, h, hm => by
    obtain ⟨y, mid, rfl⟩ : ∃ y l, mid = y :: l := by cases mid with
      | nil => simp at hm
      | cons y l => exact ⟨y, l, rfl⟩
    rw [List.zipIdx_cons, List.foldl_cons]
    have hs : ((pre ++ y :: mid ++ post).toArray).setIfInBounds (off + j) x = ((pre ++ [x]) ++ mid ++ post).toArray := by
      rw [List.setIfInBounds_toArray, ← h]
      simp
    simp only at hs ⊢
    rw [hs, foldl_set c (j + 1) off (pre ++ [x]) mid post (by simp; omega) (by simpa using hm)]
    simp
theorem fill_vals (sz : Nat) : ∀ (vs : List Value) (k : Nat) (pre post : List Value), (∀ v ∈ vs, v.cells.size = sz) → pre.length = k * sz → post.length = vs.length * sz →
    Instr.fill (fun i => some (i * sz, sz)) (pre ++ post).toArray ((vs.zipIdx k).map fun x => (x.2, x.1)) = some (pre ++ (vs.map (·.cells.toList)).flatten).toArray
  | [], k, pre, post, h, hp, hq => by
    have : post = [] := List.eq_nil_of_length_eq_zero (by simpa using hq)
    simp [this, Instr.fill]
  | v :: vs, k, pre, post, h, hp, hq => by
    have hv := h v List.mem_cons_self
    have hvl : v.cells.toList.length = sz := by rw [Array.length_toList]; exact hv
    rw [List.zipIdx_cons, List.map_cons]
    unfold Instr.fill
    simp only
    have hlen : post.length = sz + vs.length * sz := by rw [hq, List.length_cons, Nat.succ_mul]; omega
    rw [if_neg (by rw [hv]; simp [hlen, hp])]
    have hsplit : pre ++ post = pre ++ post.take sz ++ post.drop sz := by simp
    have hf := foldl_set v.cells.toList 0 (k * sz) pre (post.take sz) (post.drop sz) (by omega) (by show (post.take sz).length = v.cells.toList.length; rw [List.length_take, hvl]; omega)
    have he : v.cells.zipIdx.foldl (fun (cs : Array Value) (x : Value × Nat) => cs.setIfInBounds (k * sz + x.2) x.1) (pre ++ post).toArray = (pre ++ v.cells.toList ++ post.drop sz).toArray := by
      rw [hsplit, ← hf, ← Array.foldl_toList, Array.toList_zipIdx]
    rw [show (v.cells.zipIdx.foldl (fun cs (c, j) => cs.setIfInBounds (k * sz + j) c) (pre ++ post).toArray) = (pre ++ v.cells.toList ++ post.drop sz).toArray from he,
      fill_vals sz vs (k + 1) (pre ++ v.cells.toList) (post.drop sz) (fun u hu => h u (List.mem_cons_of_mem _ hu)) (by show (pre ++ v.cells.toList).length = _; rw [List.length_append, hvl, hp, Nat.succ_mul]) (by rw [List.length_drop, hlen]; omega)]
    simp
section
variable {P : Program} {ops : Array Oper} {Q : Exit → Act → World → Prop}
theorem exec_buildSlice {t e : TypeId} {size bytes : Nat} {z : Value} (hE : Elem P t e size bytes z) {o : Oper} {a : Act} {w : World} {len : Nat} {parts : Array (Nat × Operand)} (ho : o.op = .buildSlice t len parts)
    {vs : List Value} (hv : (parts.map fun p => (p.1, a.eval p.2)).toList = (vs.zipIdx 0).map fun x => (x.2, x.1)) (hlen : vs.length = len) (hsz : ∀ v ∈ vs, v.cells.size = size) (hpos : 0 < len * size) (hsmall : len * size ≤ 16777216) :
    (execOp a.eval o).run P w = .ok (.value (.slice (some ⟨w.heap.size, 0, none⟩) len len)) (w.alloc (.cells ((vs.map (·.cells.toList)).flatten).toArray e)) := by
  obtain ⟨ht, i, hi, hz, hsize, hby, hzs, hsz'⟩ := hE
  have hfl := fill_vals size vs 0 [] ((List.range (len * size)).map (z.cells[· % z.cells.size]!)) hsz (by simp) (by simp [hlen])
  simp only [List.nil_append] at hfl
  have hr : ((Array.range (len * i.size)).map (z.cells[· % z.cells.size]!)) = ((List.range (len * size)).map (z.cells[· % z.cells.size]!)).toArray := by rw [hsize]; apply Array.toList_inj.1; simp
  have h := run_buildSlice (P := P) w t e len (parts.map fun p => (p.1, a.eval p.2)) ((vs.map (·.cells.toList)).flatten).toArray i z ht hi hz (by rw [hsize]; omega) (by rw [hsize]; omega) (by rw [hr, hsize, hv]; exact hfl)
  unfold execOp
  simp only [ho, Sem.run_bind, Sem.run_pure, Result.andThen_ok]
  rw [show (parts.map fun (i, x) => (i, a.eval x)) = (parts.map fun p => (p.1, a.eval p.2)) from rfl, h]
  rfl
end
/-! ### What operations leave -/
inductive PK where
  | val (x : Tv)
  | vals (l : List Tv)
  | row (cs : List Value)
  | is (v : Value)
  | fin
  | any
/-- The result's block holds the value. -/
def FinV (F : Nat → Prop) (q : Nat) (x : Tv) (w : World) : Prop := ∃ cs, Blk w q cs 70 ∧ TvF w F x cs
def PK.holds (F : Nat → Prop) (q : Nat) (x : Tv) : PK → Value → World → Prop
  | .val y, v, w => ∃ cs, v = .agg cs.toArray ∧ TvF w F y cs
  | .vals l, v, w => ∃ rows, Sl w 5 v l.length rows ∧ (∀ y, v.ownBlock = some y → F y) ∧ TvsF w F l rows
  | .row cs, v, w => Sl w 1 v cs.length cs ∧ ∀ y, v.ownBlock = some y → F y
  | .is u, v, _ => v = u
  | .fin, _, w => FinV F q x w
  | .any, _, _ => True
/-- The result's block has five cells. -/
def LenV (q : Nat) (w : World) : Prop := ∃ cur, Blk w q cur 70 ∧ cur.length = 5
/-- Only the result's block may turn; once it holds the value, it does so. -/
def GV (F : Nat → Prop) (q : Nat) (x : Tv) (w w' : World) : Prop := Keeps (fun b => b = q ∨ w.heap.size ≤ b) w w' ∧ (FinV F q x w → FinV F q x w') ∧ (LenV q w → LenV q w')
theorem GV.refl (F : Nat → Prop) (q : Nat) (x : Tv) (w : World) : GV F q x w w := ⟨Keeps.refl _ _, id, id⟩
theorem GV.trans {F : Nat → Prop} {q : Nat} {x : Tv} (a b c : World) (h : GV F q x a b) (k : GV F q x b c) : GV F q x a c :=
  ⟨keeps2 (fun b => Iff.rfl) h.1 k.1, fun h0 => k.2.1 (h.2.1 h0), fun h0 => k.2.2 (h.2.2 h0)⟩
theorem GV.not {F : Nat → Prop} {q : Nat} {w : World} (hq : ¬ F q) : ∀ b, F b → b < w.heap.size → ¬ (b = q ∨ w.heap.size ≤ b) := fun b hb hl h => by
  rcases h with rfl | h
  · exact hq hb
  · omega
theorem PK.stable {F : Nat → Prop} {q : Nat} {x : Tv} (hq : ¬ F q) : ∀ {k : PK} {v : Value} {w w' : World}, k.holds F q x v w → GV F q x w w' → k.holds F q x v w'
  | .val y, v, w, w', ⟨cs, e, h⟩, g => ⟨cs, e, h.keep g.1 (GV.not hq)⟩
  | .vals l, v, w, w', ⟨rows, h1, h2, h3⟩, g => ⟨rows, h1.keepF g.1 (fun _ => h2) (GV.not hq), h2, h3.keep g.1 (GV.not hq)⟩
  | .row cs, v, w, w', ⟨h1, h2⟩, g => ⟨h1.keepF g.1 (fun _ => h2) (GV.not hq), h2⟩
  | .is u, _, _, _, h, _ => h
  | .fin, _, w, w', h, g => g.2.1 h
  | .any, _, _, _, _, _ => trivial
theorem GV.of_below {F : Nat → Prop} {q : Nat} {x : Tv} {w w' : World} (hq : q < w.heap.size) (h : Below w.heap.size w w') : GV F q x w w' :=
  ⟨(Keeps.of_below h).mono fun b hb => .inr hb, fun ⟨cs, h1, h2⟩ => ⟨cs, h1.below h hq, h2.below h⟩, fun ⟨cs, h1, h2⟩ => ⟨cs, h1.below h hq, h2⟩⟩
/-- The store of the result. -/
theorem GV.of_fin {F : Nat → Prop} {q : Nat} {x : Tv} {w w' : World} (h : Keeps (fun b => b = q) w w') (hf : FinV F q x w') : GV F q x w w' := ⟨h.mono fun b hb => .inl hb, fun _ => hf, fun _ => by obtain ⟨cs, h1, h2⟩ := hf; exact ⟨cs, h1, h2.length⟩⟩
/-- Each operand holds its value. -/
def HoldAll (F : Nat → Prop) (q : Nat) (x : Tv) (a : Act) (w : World) : List Tv → List Operand → Prop
  | [], [] => True
  | y :: l, p :: ps => PK.holds F q x (.val y) (a.eval p) w ∧ HoldAll F q x a w l ps
  | _, _ => False
def postV (F : Nat → Prop) (q : Nat) (x : Tv) (ks : List PK) : Nat → Value → World → Prop := fun i v w => (ks.getD i .any).holds F q x v w
section
variable {ops : Array Oper} {Q : Exit → Act → World → Prop} {F : Nat → Prop} {q : Nat} {x : Tv} {E : Prop} {o : Oper} {a : Act} {w : World} {K : Act → World → Prop}
/-- A call that makes a value. -/
theorem stepV_mk (hw : Region.wanted o (yielded ops a.tmps) = true) {f : FuncId} {args : Array Operand} {tys : Array TypeId} (ho : o.op = .call { callee := .value (.func f), args := args, argTypes := tys }) (hf : Enters Try.prog f) {vs : Array Value} (hv : args.map a.eval = vs)
    {y : Tv} (hc : Calls Try.prog f vs w (MkRes w y)) (hq : q < w.heap.size) (hF : ∀ b, w.heap.size ≤ b → F b) (h : ∀ v w', GV F q x w w' → PK.holds F q x (.val y) v w' → K (a.put o.dst v) w') :
    if Region.wanted o (yielded ops a.tmps) = true then Oper.wp Try.prog o a w K Q else E :=
  step_call hw ho hf hv hc fun e w' ⟨cs, h1, h2, h3⟩ => ⟨_, h1, h _ _ (GV.of_below hq h3) ⟨cs, rfl, h2.mono hF⟩⟩
/-- A call that tells something and makes memory. -/
theorem stepV_is (hw : Region.wanted o (yielded ops a.tmps) = true) {f : FuncId} {args : Array Operand} {tys : Array TypeId} (ho : o.op = .call { callee := .value (.func f), args := args, argTypes := tys }) (hf : Enters Try.prog f) {vs : Array Value} (hv : args.map a.eval = vs)
    {u : Value} (hc : Calls Try.prog f vs w fun e w' => e = .returned u ∧ Below w.heap.size w w') (hq : q < w.heap.size) (h : ∀ v w', GV F q x w w' → PK.holds F q x (.is u) v w' → K (a.put o.dst v) w') :
    if Region.wanted o (yielded ops a.tmps) = true then Oper.wp Try.prog o a w K Q else E :=
  step_call hw ho hf hv hc fun e w' ⟨h1, h2⟩ => ⟨_, h1, h _ _ (GV.of_below hq h2) rfl⟩
/-- der.Seq over a row of values. -/
theorem stepV_seq (hw : Region.wanted o (yielded ops a.tmps) = true) {t : Int} {s : Tmp} {tys : Array TypeId} (ho : o.op = .call { callee := .value (.func 32), args := #[.const (.int .i64 t), .tmp s], argTypes := tys }) (hf : Enters Try.prog 32)
    {l : List Tv} (hl : PK.holds F q x (.vals l) (a.eval (.tmp s)) w) (hq : q < w.heap.size) (h : ∀ v w', GV F q x w w' → PK.holds F q x (.val (.mk 2 t 0 [] l)) v w' → K (a.put o.dst v) w') (hqF : ¬ F q) :
    if Region.wanted o (yielded ops a.tmps) = true then Oper.wp Try.prog o a w K Q else E := by
  obtain ⟨rows, h1, h2, h3⟩ := hl
  obtain ⟨ad, c, e, _⟩ := h1.form
  refine step_call hw ho hf (vs := #[.int .i64 t, a.eval (.tmp s)]) (by simp [Act.eval]) (derSeq_any t _ l.length c ad e w) fun e w' ⟨h4, h5⟩ => ⟨_, h4, h _ _ (GV.of_below hq h5) ⟨_, rfl, ?_⟩⟩
  exact TvF.mk (Sl.nil _ _ _) (by simp [Value.ownBlock]) (h1.below h5) h2 (h3.below h5)
/-- A row of values is laid. -/
theorem stepV_vals (hw : Region.wanted o (yielded ops a.tmps) = true) {t : TypeId} {parts : Array (Nat × Operand)} {len : Nat} (ho : o.op = .buildSlice t len parts) {bytes : Nat} {z : Value} (hE : Elem Try.prog t 70 5 bytes z) {ps : List Operand} (hps : parts.toList = (ps.zipIdx 0).map fun p => (p.2, p.1)) {l : List Tv}
    (hl : HoldAll F q x a w l ps) (hlen : l.length = len) (hpos : 0 < len) (hsmall : len ≤ 1000000) (hq : q < w.heap.size) (hF : ∀ b, w.heap.size ≤ b → F b) (h : ∀ v w', GV F q x w w' → PK.holds F q x (.vals l) v w' → K (a.put o.dst v) w') :
    if Region.wanted o (yielded ops a.tmps) = true then Oper.wp Try.prog o a w K Q else E := by
  obtain ⟨css, h1, h2⟩ : ∃ css : List (List Value), ps.map a.eval = css.map (fun c => Value.agg c.toArray) ∧ TvsF w F l css.flatten ∧ css.length = l.length ∧ (∀ c ∈ css, c.length = 5) ∧ (∀ c ∈ css, ∀ u ∈ c, u.oneCell' = true) := by
    clear ho hlen hpos hsmall h hps
    induction l generalizing ps with
    | nil =>
      cases ps with
      | nil => exact ⟨[], rfl, rfl, rfl, by simp, by simp⟩
      | cons p ps => exact hl.elim
    | cons y l ih =>
      cases ps with
      | nil => exact hl.elim
      | cons p ps =>
      obtain ⟨css, i1, i2, i3, i4, i5⟩ := ih hl.2
      obtain ⟨cs, e, ht⟩ := hl.1
      refine ⟨cs :: css, by simp [e, i1], ⟨cs, css.flatten, rfl, ht, i2⟩, by simp [i3], ?_, ?_⟩
      · intro c hc
        rcases List.mem_cons.1 hc with rfl | hc
        · exact ht.length
        · exact i4 c hc
      · intro c hc
        rcases List.mem_cons.1 hc with rfl | hc
        · exact ht.one
        · exact i5 c hc
  obtain ⟨h2, h3, h4, h5⟩ := h2
  have hfl : ((css.map fun c => Value.agg c.toArray).map (·.cells.toList)).flatten = css.flatten := by
    rw [List.map_map, show (fun v : Value => v.cells.toList) ∘ (fun c : List Value => Value.agg c.toArray) = id from rfl, List.map_id]
  have hex := exec_buildSlice hE (o := o) (a := a) (w := w) ho (vs := css.map fun c => Value.agg c.toArray) (by
    rw [Array.toList_map, hps, ← h1, List.zipIdx_map, List.map_map, List.map_map]; rfl) (by simp [h3, hlen]) (by
      intro v hv
      obtain ⟨c, hc, rfl⟩ := List.mem_map.1 hv
      exact h4 c hc) (by omega) (by omega)
  rw [hfl] at hex
  have hsl : Sl (w.alloc (.cells css.flatten.toArray 70)) 5 (.slice (some ⟨w.heap.size, 0, none⟩) len len) len css.flatten := Sl.lit rfl (by rw [TvsF.length h2, hlen]) (by
    intro u hu
    obtain ⟨c, hc, hu⟩ := List.mem_flatten.1 hu
    exact h5 c hc u hu) (by unfold maxLen; omega)
  have hb : Below w.heap.size w (w.alloc (.cells css.flatten.toArray 70)) := (Below.refl _ _).alloc (Nat.le_refl _) _
  subst hlen
  exact step_val hw hex (h _ _ (GV.of_below hq hb) ⟨_, hsl, fun y hy => hF y (by simp [Value.ownBlock] at hy; omega), h2.below hb⟩)
/-- A row of cells is laid. -/
theorem stepV_row (hw : Region.wanted o (yielded ops a.tmps) = true) {t e : TypeId} {parts : Array (Nat × Operand)} {len : Nat} (ho : o.op = .buildSlice t len parts) {bytes : Nat} {z : Value} (hE : Elem Try.prog t e 1 bytes z) {ps : List Operand} (hps : parts.toList = (ps.zipIdx 0).map fun p => (p.2, p.1)) {cs : List Value}
    (hl : ps.map a.eval = cs) (h1 : ∀ u ∈ cs, u.oneCell' = true ∧ u.cells = #[u]) (hlen : cs.length = len) (hpos : 0 < len) (hsmall : len ≤ 1000000) (hq : q < w.heap.size) (hF : ∀ b, w.heap.size ≤ b → F b) (h : ∀ v w', GV F q x w w' → PK.holds F q x (.row cs) v w' → K (a.put o.dst v) w') :
    if Region.wanted o (yielded ops a.tmps) = true then Oper.wp Try.prog o a w K Q else E := by
  have hfl : (cs.map (·.cells.toList)).flatten = cs := by
    clear hl hlen h
    induction cs with
    | nil => rfl
    | cons u cs ih =>
      rw [List.map_cons, List.flatten_cons, ih (fun v hv => h1 v (List.mem_cons_of_mem _ hv)), (h1 u List.mem_cons_self).2]
      rfl
  have hex := exec_buildSlice hE (o := o) (a := a) (w := w) ho (vs := cs) (by
    rw [Array.toList_map, hps, ← hl, List.zipIdx_map, List.map_map, List.map_map]; rfl) hlen (by
      intro v hv
      rw [(h1 v hv).2]; rfl) (by omega) (by omega)
  rw [hfl] at hex
  have hsl : Sl (w.alloc (.cells cs.toArray e)) 1 (.slice (some ⟨w.heap.size, 0, none⟩) len len) len cs := Sl.lit rfl (by simp [hlen]) (fun u hu => (h1 u (by simpa using hu)).1) (by unfold maxLen; omega)
  have hb : Below w.heap.size w (w.alloc (.cells cs.toArray e)) := (Below.refl _ _).alloc (Nat.le_refl _) _
  subst hlen
  exact step_val hw hex (h _ _ (GV.of_below hq hb) ⟨hsl, fun y hy => hF y (by simp [Value.ownBlock] at hy; omega)⟩)
/-- The result is stored. -/
theorem stepV_fin (hw : Region.wanted o (yielded ops a.tmps) = true) {s t : Tmp} (ho : o.op = .store 70 (.tmp s) (.tmp t)) (hs : a.eval (.tmp s) = .pointer (some ⟨q, 0, none⟩)) (ht : PK.holds F q x (.val x) (a.eval (.tmp t)) w)
    {cur : List Value} (hb : Blk w q cur 70) (hcur : cur.length = 5) (hqF : ¬ F q) (h : ∀ v w', GV F q x w w' → PK.holds F q x .fin v w' → K (a.put o.dst v) w') :
    if Region.wanted o (yielded ops a.tmps) = true then Oper.wp Try.prog o a w K Q else E := by
  obtain ⟨cs, e, hx⟩ := ht
  refine step_st hw (.tmp s) (.tmp t) aggDer ho hs e hx.length hb (by omega) hx.one fun w' h1 h2 => ?_
  have hf : FinV F q x w' := ⟨_, h1, by
    have : cur.take 0 ++ cs ++ cur.drop (0 + 5) = cs := by rw [List.drop_of_length_le (by omega)]; simp
    rw [this]
    exact hx.keep h2 (fun b hb _ hq => hqF (hq ▸ hb))⟩
  exact h _ _ (GV.of_fin h2 hf) hf
end
theorem key16 (l : List UInt8) (h : l.length = 16) : ∃ c0 c1 c2 c3 c4 c5 c6 c7 c8 c9 c10 c11 c12 c13 c14 c15, l = [c0, c1, c2, c3, c4, c5, c6, c7, c8, c9, c10, c11, c12, c13, c14, c15] := by
  match l, h with
  | [c0, c1, c2, c3, c4, c5, c6, c7, c8, c9, c10, c11, c12, c13, c14, c15], _ => exact ⟨_, _, _, _, _, _, _, _, _, _, _, _, _, _, _, _, rfl⟩
/-- The ticket that a value is. -/
def ticketS (x : Tv) : Option (List UInt8 × List UInt8) :=
  if x.kind = 2 ∧ x.tag = 1 ∧ (bytesS (nameS x.l false).2.1 (nameS x.l false).2.2).2.1.isEmpty = true ∧ (bytesS (nameS x.l false).2.1 (nameS x.l false).2.2).2.2 = false then some ((nameS x.l false).1, (bytesS (nameS x.l false).2.1 (nameS x.l false).2.2).1) else none
/-- A ticket, as a struct of two cells. -/
def TicketV (w : World) (F : Nat → Prop) (t : List UInt8 × List UInt8) (v : Value) : Prop :=
  ∃ bv, v = .agg #[.string (tx t.1), bv] ∧ Bs w bv t.2 ∧ (0 < t.2.length → ∀ y, bv.ownBlock = some y → F y)
def BelowO (w W : World) : Prop := Below w.heap.size w W
/-- Nothing of a type. -/
def NotT (T : TypeId) (r : Value) : Prop := r = .nilIface ∨ ∃ U x, r = .iface U x ∧ U ≠ T
/-- What stands in 'out'. -/
def OutT (w : World) (F : Nat → Prop) (x : Tv) (o : Value) (rem : List Tv) (bad : Bool) : Prop :=
  if x.tag = 1 then (∃ v, o = .iface 84 v ∧ TicketV w F ((nameS x.l false).1, (bytesS (nameS x.l false).2.1 (nameS x.l false).2.2).1) v) ∧ (rem, bad) = (bytesS (nameS x.l false).2.1 (nameS x.l false).2.2).2
  else NotT 84 o
def OfRes (w : World) (F : Nat → Prop) (x : Tv) (e : Ending) (w' : World) : Prop :=
  ∃ r ok, e = .returned (.tuple #[r, .bool ok]) ∧ Below w.heap.size w w' ∧ (match ticketS x with | some t => ∃ v, r = .iface 84 v ∧ TicketV w' F t v | none => NotT 84 r)
set_option maxHeartbeats 8000000 in
set_option maxRecDepth 100000 in
theorem of_any (x : Tv) (F : Nat → Prop) (cs : List Value) (w : World) (h : TvF w F x cs) (hF : ∀ b, F b → b < w.heap.size) :
    Calls Try.prog 68 #[.agg cs.toArray] w (OfRes w F x) := by
  have HLN := hI h.length
  have HQ0 := hI (Blk.new w cs 70)
  have hB0 : Below w.heap.size w (w.alloc (.cells cs.toArray 70)) := (Below.refl _ _).alloc (Nat.le_refl _) _
  have HB0 := hI hB0
  have HTK := hI (take_any x F cs _ (h.below hB0) (fun b hb => by have := hF b hb; simp; omega))
  obtain ⟨q, hq⟩ : ∃ q, q = w.heap.size := ⟨_, rfl⟩
  have HQ : Hid (∀ W, Below q w W → BelowO w W) := hI (fun W h => by rw [hq] at h; exact h)
  have hopen := h.open_
  clear h hB0
  go_enter Try.func68, Try.ntmps68
  go_wp2_with ((with_reducible show wpList _ _ _ (⟨some 6, _, _, _, _, _⟩ :: _) _ _); refine wpList_ldAgg rfl (.tmp 1) aggDer rfl rfl (cs := cs) HLN.out HQ0.out.cellsAll ?_)
  refine HTK.out.mono ?_
  rintro e wt ⟨p, rfl, ht, hb, hp⟩
  have HT := hI ht
  have HBT : Hid (Below w.heap.size w wt) := hI (HB0.out.trans (hb.mono (by simp)))
  have HQT := hI (HQ0.out.below hb (by simp))
  have HP : Hid (w.heap.size < p ∧ p < wt.heap.size) := hI ⟨by simp at hp; omega, ht.lt⟩
  obtain ⟨bv, lv, rows, rfl, hb1, hb2, hb3, hb4, hb5⟩ := hopen
  have cT : wt.cell? ⟨w.heap.size, 1, none⟩ = some (.int .i64 x.tag) := HQT.out.cell 1
  have HKb : Hid (∀ W, Keeps (fun b => b = p ∨ wt.heap.size ≤ b) wt W → Below w.heap.size w W ∧ Blk W w.heap.size [.int .i64 x.kind, .int .i64 x.tag, .int .u64 (x.n : Int), bv, lv] 70) := hI (fun W hk =>
    ⟨HBT.out.trans (hk.below (fun b hb => by have := HP.out; rcases hb with h | h <;> omega)), HQT.out.keep hk (fun h => by have := HP.out; rcases h with h | h <;> omega)⟩)
  clear ht hb hp hb1 hb2 hb3 hb4 hb5 HQ0 HB0 HTK
  rw [← hq] at *
  clear hq
  go_upto_block 0 with fail
  go_cut [5] from 10 to 92 (fun o wx => ∃ rem bad, Tk wx F p rem bad ∧ Keeps (fun b => b = p ∨ wt.heap.size ≤ b) wt wx ∧ OutT wx F x o rem bad)
  case first =>
    have HOT : Hid (∀ W o rem bad, x.tag ≠ 1 → NotT 84 o → OutT W F x o rem bad) := hI (fun W o rem bad ht ho => by unfold OutT; rw [if_neg ht]; exact ho)
    have HO1 : Hid (∀ W o rem bad, x.tag = 1 → (∃ v, o = .iface 84 v ∧ TicketV W F ((nameS x.l false).1, (bytesS (nameS x.l false).2.1 (nameS x.l false).2.2).1) v) → (rem, bad) = (bytesS (nameS x.l false).2.1 (nameS x.l false).2.2).2 → OutT W F x o rem bad) := hI (fun W o rem bad ht ho h => by unfold OutT; rw [if_pos ht]; exact ⟨ho, h⟩)
    obtain ⟨k, t, n, b, l⟩ := x
    simp only [Tv.kind, Tv.tag, Tv.n, Tv.b, Tv.l] at *
    clear HKb HQT HBT
    rcases (by omega : t = 1 ∨ t = 2 ∨ t = 3 ∨ t = 4 ∨ t = 5 ∨ t = 6 ∨ t = 7 ∨ (t ≠ 1 ∧ t ≠ 2 ∧ t ≠ 3 ∧ t ≠ 4 ∧ t ≠ 5 ∧ t ≠ 6 ∧ t ≠ 7)) with ht | ht | ht | ht | ht | ht | ht | ⟨h1, h2, h3, h4, h5, h6, h7⟩
    · subst ht
      go_wp2_with fail
      refine (name_any l false p F wt HT.out).mono ?_
      rintro e v1 ⟨rfl, ht, hk⟩
      have HT1 := hI ht
      have HK1 := hI hk
      clear ht hk
      go_wp2_with fail
      refine (bytes_any (nameS l false).2.1 (nameS l false).2.2 p F v1 HT1.out).mono ?_
      rintro e v2 ⟨vb, ⟨rfl, ht, hk⟩, hb, ho⟩
      obtain ⟨ab, cb, rfl, hcb, hmb⟩ := hb.form
      have HB := hI hb
      have HO := hI ho
      have HT2 := hI ht
      have HK2 := hI (keeps2 (fun b => Iff.rfl) HK1.out hk)
      clear ht hk hb ho HT1 HK1
      go_wp2_with fail
      go_meet
      exact ⟨_, _, HT2.out, HK2.out, HO1.out _ _ _ _ (by first | rfl | trivial) ⟨_, rfl, _, rfl, HB.out, HO.out⟩ rfl⟩
    · subst ht
      go_wp2_with fail
      refine (num_any l false p F wt HT.out).mono ?_
      rintro e v1 ⟨rfl, ht, hk⟩
      have HT1 := hI ht
      have HK1 := hI hk
      clear ht hk
      generalize numS l false = st at *
      obtain ⟨x1, l1, b1⟩ := st
      simp only at *
      go_wp2_with fail
      refine (key_tk l1 b1 p F v1 HT1.out).mono ?_
      rintro e v2 ⟨rfl, ht, hk⟩
      have HT2 := hI ht
      have HK2 := hI (keeps2 (fun b => Iff.rfl) HK1.out hk)
      clear ht hk HT1 HK1
      have HL := hI (keyB_length (nextS 1 l1 b1).1.b)
      rw [show (keyB (nextS 1 l1 b1).1.b).1 = (keyS l1 b1).1 from rfl] at HL
      generalize keyS l1 b1 = st at *
      obtain ⟨x2, l2, b2⟩ := st
      simp only at *
      obtain ⟨c0, c1, c2, c3, c4, c5, c6, c7, c8, c9, c10, c11, c12, c13, c14, c15, rfl⟩ := key16 x2 HL.out
      have hkv : keyV [c0, c1, c2, c3, c4, c5, c6, c7, c8, c9, c10, c11, c12, c13, c14, c15] = .agg #[.int .u8 c0.toNat, .int .u8 c1.toNat, .int .u8 c2.toNat, .int .u8 c3.toNat, .int .u8 c4.toNat, .int .u8 c5.toNat, .int .u8 c6.toNat, .int .u8 c7.toNat, .int .u8 c8.toNat, .int .u8 c9.toNat, .int .u8 c10.toNat, .int .u8 c11.toNat, .int .u8 c12.toNat, .int .u8 c13.toNat, .int .u8 c14.toNat, .int .u8 c15.toNat] := rfl
      go_wp2_with fail
      refine (name_any l2 b2 p F v2 HT2.out).mono ?_
      rintro e v3 ⟨rfl, ht, hk⟩
      have HT3 := hI ht
      have HK3 := hI (keeps2 (fun b => Iff.rfl) HK2.out hk)
      clear ht hk HT2 HK2
      generalize nameS l2 b2 = st at *
      obtain ⟨x3, l3, b3⟩ := st
      simp only at *
      go_wp2_with fail
      refine (num_any l3 b3 p F v3 HT3.out).mono ?_
      rintro e v4 ⟨rfl, ht, hk⟩
      have HT4 := hI ht
      have HK4 := hI (keeps2 (fun b => Iff.rfl) HK3.out hk)
      clear ht hk HT3 HK3
      generalize numS l3 b3 = st at *
      obtain ⟨x4, l4, b4⟩ := st
      simp only at *
      go_wp2_with fail
      refine (num_any l4 b4 p F v4 HT4.out).mono ?_
      rintro e v5 ⟨rfl, ht, hk⟩
      have HT5 := hI ht
      have HK5 := hI (keeps2 (fun b => Iff.rfl) HK4.out hk)
      clear ht hk HT4 HK4
      generalize numS l4 b4 = st at *
      obtain ⟨x5, l5, b5⟩ := st
      simp only at *
      go_wp2_with fail
      refine (num_any l5 b5 p F v5 HT5.out).mono ?_
      rintro e v6 ⟨rfl, ht, hk⟩
      have HT6 := hI ht
      have HK6 := hI (keeps2 (fun b => Iff.rfl) HK5.out hk)
      clear ht hk HT5 HK5
      generalize numS l5 b5 = st at *
      obtain ⟨x6, l6, b6⟩ := st
      simp only at *
      go_wp2_with fail
      go_meet
      exact ⟨_, _, HT6.out, HK6.out, HOT.out _ _ _ _ (by decide) (.inr ⟨_, _, rfl, by decide⟩)⟩
    · subst ht
      go_wp2_with fail
      refine (num_any l false p F wt HT.out).mono ?_
      rintro e v1 ⟨rfl, ht, hk⟩
      have HT1 := hI ht
      have HK1 := hI hk
      clear ht hk
      generalize numS l false = st at *
      obtain ⟨x1, l1, b1⟩ := st
      simp only at *
      go_wp2_with fail
      refine (key_tk l1 b1 p F v1 HT1.out).mono ?_
      rintro e v2 ⟨rfl, ht, hk⟩
      have HT2 := hI ht
      have HK2 := hI (keeps2 (fun b => Iff.rfl) HK1.out hk)
      clear ht hk HT1 HK1
      have HL := hI (keyB_length (nextS 1 l1 b1).1.b)
      rw [show (keyB (nextS 1 l1 b1).1.b).1 = (keyS l1 b1).1 from rfl] at HL
      generalize keyS l1 b1 = st at *
      obtain ⟨x2, l2, b2⟩ := st
      simp only at *
      obtain ⟨c0, c1, c2, c3, c4, c5, c6, c7, c8, c9, c10, c11, c12, c13, c14, c15, rfl⟩ := key16 x2 HL.out
      have hkv : keyV [c0, c1, c2, c3, c4, c5, c6, c7, c8, c9, c10, c11, c12, c13, c14, c15] = .agg #[.int .u8 c0.toNat, .int .u8 c1.toNat, .int .u8 c2.toNat, .int .u8 c3.toNat, .int .u8 c4.toNat, .int .u8 c5.toNat, .int .u8 c6.toNat, .int .u8 c7.toNat, .int .u8 c8.toNat, .int .u8 c9.toNat, .int .u8 c10.toNat, .int .u8 c11.toNat, .int .u8 c12.toNat, .int .u8 c13.toNat, .int .u8 c14.toNat, .int .u8 c15.toNat] := rfl
      go_wp2_with fail
      refine (num_any l2 b2 p F v2 HT2.out).mono ?_
      rintro e v3 ⟨rfl, ht, hk⟩
      have HT3 := hI ht
      have HK3 := hI (keeps2 (fun b => Iff.rfl) HK2.out hk)
      clear ht hk HT2 HK2
      generalize numS l2 b2 = st at *
      obtain ⟨x3, l3, b3⟩ := st
      simp only at *
      go_wp2_with fail
      refine (name_any l3 b3 p F v3 HT3.out).mono ?_
      rintro e v4 ⟨rfl, ht, hk⟩
      have HT4 := hI ht
      have HK4 := hI (keeps2 (fun b => Iff.rfl) HK3.out hk)
      clear ht hk HT3 HK3
      generalize nameS l3 b3 = st at *
      obtain ⟨x4, l4, b4⟩ := st
      simp only at *
      go_wp2_with fail
      refine (num_any l4 b4 p F v4 HT4.out).mono ?_
      rintro e v5 ⟨rfl, ht, hk⟩
      have HT5 := hI ht
      have HK5 := hI (keeps2 (fun b => Iff.rfl) HK4.out hk)
      clear ht hk HT4 HK4
      generalize numS l4 b4 = st at *
      obtain ⟨x5, l5, b5⟩ := st
      simp only at *
      go_wp2_with fail
      refine (num_any l5 b5 p F v5 HT5.out).mono ?_
      rintro e v6 ⟨rfl, ht, hk⟩
      have HT6 := hI ht
      have HK6 := hI (keeps2 (fun b => Iff.rfl) HK5.out hk)
      clear ht hk HT5 HK5
      generalize numS l5 b5 = st at *
      obtain ⟨x6, l6, b6⟩ := st
      simp only at *
      go_wp2_with fail
      refine (num_any l6 b6 p F v6 HT6.out).mono ?_
      rintro e v7 ⟨rfl, ht, hk⟩
      have HT7 := hI ht
      have HK7 := hI (keeps2 (fun b => Iff.rfl) HK6.out hk)
      clear ht hk HT6 HK6
      generalize numS l6 b6 = st at *
      obtain ⟨x7, l7, b7⟩ := st
      simp only at *
      go_wp2_with fail
      go_meet
      exact ⟨_, _, HT7.out, HK7.out, HOT.out _ _ _ _ (by decide) (.inr ⟨_, _, rfl, by decide⟩)⟩
    · subst ht
      go_wp2_with fail
      refine (name_any l false p F wt HT.out).mono ?_
      rintro e v1 ⟨rfl, ht, hk⟩
      have HT1 := hI ht
      have HK1 := hI hk
      clear ht hk
      generalize nameS l false = st at *
      obtain ⟨x1, l1, b1⟩ := st
      simp only at *
      go_wp2_with fail
      refine (num_any l1 b1 p F v1 HT1.out).mono ?_
      rintro e v2 ⟨rfl, ht, hk⟩
      have HT2 := hI ht
      have HK2 := hI (keeps2 (fun b => Iff.rfl) HK1.out hk)
      clear ht hk HT1 HK1
      generalize numS l1 b1 = st at *
      obtain ⟨x2, l2, b2⟩ := st
      simp only at *
      go_wp2_with fail
      refine (num_any l2 b2 p F v2 HT2.out).mono ?_
      rintro e v3 ⟨rfl, ht, hk⟩
      have HT3 := hI ht
      have HK3 := hI (keeps2 (fun b => Iff.rfl) HK2.out hk)
      clear ht hk HT2 HK2
      generalize numS l2 b2 = st at *
      obtain ⟨x3, l3, b3⟩ := st
      simp only at *
      go_wp2_with fail
      refine (key_tk l3 b3 p F v3 HT3.out).mono ?_
      rintro e v4 ⟨rfl, ht, hk⟩
      have HT4 := hI ht
      have HK4 := hI (keeps2 (fun b => Iff.rfl) HK3.out hk)
      clear ht hk HT3 HK3
      have HL := hI (keyB_length (nextS 1 l3 b3).1.b)
      rw [show (keyB (nextS 1 l3 b3).1.b).1 = (keyS l3 b3).1 from rfl] at HL
      generalize keyS l3 b3 = st at *
      obtain ⟨x4, l4, b4⟩ := st
      simp only at *
      obtain ⟨c0, c1, c2, c3, c4, c5, c6, c7, c8, c9, c10, c11, c12, c13, c14, c15, rfl⟩ := key16 x4 HL.out
      have hkv : keyV [c0, c1, c2, c3, c4, c5, c6, c7, c8, c9, c10, c11, c12, c13, c14, c15] = .agg #[.int .u8 c0.toNat, .int .u8 c1.toNat, .int .u8 c2.toNat, .int .u8 c3.toNat, .int .u8 c4.toNat, .int .u8 c5.toNat, .int .u8 c6.toNat, .int .u8 c7.toNat, .int .u8 c8.toNat, .int .u8 c9.toNat, .int .u8 c10.toNat, .int .u8 c11.toNat, .int .u8 c12.toNat, .int .u8 c13.toNat, .int .u8 c14.toNat, .int .u8 c15.toNat] := rfl
      go_wp2_with fail
      refine (bytes_any l4 b4 p F v4 HT4.out).mono ?_
      rintro e v5 ⟨vb, ⟨rfl, ht, hk⟩, hb, ho⟩
      obtain ⟨ab, cb, rfl, hcb, hmb⟩ := hb.form
      have HB := hI hb
      have HO := hI ho
      have HT5 := hI ht
      have HK5 := hI (keeps2 (fun b => Iff.rfl) HK4.out hk)
      clear ht hk hb ho HT4 HK4
      generalize bytesS l4 b4 = st at *
      obtain ⟨x5, l5, b5⟩ := st
      simp only at *
      go_wp2_with fail
      go_meet
      exact ⟨_, _, HT5.out, HK5.out, HOT.out _ _ _ _ (by decide) (.inr ⟨_, _, rfl, by decide⟩)⟩
    · subst ht
      go_wp2_with fail
      refine (num_any l false p F wt HT.out).mono ?_
      rintro e v1 ⟨rfl, ht, hk⟩
      have HT1 := hI ht
      have HK1 := hI hk
      clear ht hk
      generalize numS l false = st at *
      obtain ⟨x1, l1, b1⟩ := st
      simp only at *
      go_wp2_with fail
      refine (num_any l1 b1 p F v1 HT1.out).mono ?_
      rintro e v2 ⟨rfl, ht, hk⟩
      have HT2 := hI ht
      have HK2 := hI (keeps2 (fun b => Iff.rfl) HK1.out hk)
      clear ht hk HT1 HK1
      generalize numS l1 b1 = st at *
      obtain ⟨x2, l2, b2⟩ := st
      simp only at *
      go_wp2_with fail
      go_meet
      exact ⟨_, _, HT2.out, HK2.out, HOT.out _ _ _ _ (by decide) (.inr ⟨_, _, rfl, by decide⟩)⟩
    · subst ht
      go_wp2_with fail
      refine (num_any l false p F wt HT.out).mono ?_
      rintro e v1 ⟨rfl, ht, hk⟩
      have HT1 := hI ht
      have HK1 := hI hk
      clear ht hk
      generalize numS l false = st at *
      obtain ⟨x1, l1, b1⟩ := st
      simp only at *
      go_wp2_with fail
      refine (name_any l1 b1 p F v1 HT1.out).mono ?_
      rintro e v2 ⟨rfl, ht, hk⟩
      have HT2 := hI ht
      have HK2 := hI (keeps2 (fun b => Iff.rfl) HK1.out hk)
      clear ht hk HT1 HK1
      generalize nameS l1 b1 = st at *
      obtain ⟨x2, l2, b2⟩ := st
      simp only at *
      go_wp2_with fail
      refine (truth_any l2 b2 p F v2 HT2.out).mono ?_
      rintro e v3 ⟨rfl, ht, hk⟩
      have HT3 := hI ht
      have HK3 := hI (keeps2 (fun b => Iff.rfl) HK2.out hk)
      clear ht hk HT2 HK2
      generalize truthS l2 b2 = st at *
      obtain ⟨x3, l3, b3⟩ := st
      simp only at *
      go_wp2_with fail
      refine (num_any l3 b3 p F v3 HT3.out).mono ?_
      rintro e v4 ⟨rfl, ht, hk⟩
      have HT4 := hI ht
      have HK4 := hI (keeps2 (fun b => Iff.rfl) HK3.out hk)
      clear ht hk HT3 HK3
      generalize numS l3 b3 = st at *
      obtain ⟨x4, l4, b4⟩ := st
      simp only at *
      go_wp2_with fail
      go_meet
      exact ⟨_, _, HT4.out, HK4.out, HOT.out _ _ _ _ (by decide) (.inr ⟨_, _, rfl, by decide⟩)⟩
    · subst ht
      go_wp2_with fail
      refine (bytes_any l false p F wt HT.out).mono ?_
      rintro e v1 ⟨vb, ⟨rfl, ht, hk⟩, hb, ho⟩
      obtain ⟨ab, cb, rfl, hcb, hmb⟩ := hb.form
      have HB := hI hb
      have HO := hI ho
      have HT1 := hI ht
      have HK1 := hI hk
      clear ht hk hb ho
      generalize bytesS l false = st at *
      obtain ⟨x1, l1, b1⟩ := st
      simp only at *
      go_wp2_with fail
      go_meet
      exact ⟨_, _, HT1.out, HK1.out, HOT.out _ _ _ _ (by decide) (.inr ⟨_, _, rfl, by decide⟩)⟩
    · have HNE := hI h1
      have e1 : (t == 1) = false := by simpa using h1
      have e2 : (t == 2) = false := by simpa using h2
      have e3 : (t == 3) = false := by simpa using h3
      have e4 : (t == 4) = false := by simpa using h4
      have e5 : (t == 5) = false := by simpa using h5
      have e6 : (t == 6) = false := by simpa using h6
      have e7 : (t == 7) = false := by simpa using h7
      clear h1 h2 h3 h4 h5 h6 h7
      go_wp2_with fail
      go_meet
      exact ⟨_, _, HT.out, Keeps.refl _ _, HOT.out _ _ _ _ HNE.out (.inl rfl)⟩
  case rest =>
    obtain ⟨rem, bad, ht, hk, ho⟩ := hcut
    generalize u5 = o at *
    generalize wc = wx at *
    have HT := hI ht
    obtain ⟨hb, hq⟩ := HKb.out wx hk
    have HB := hI hb
    have c0 : wx.cell? ⟨q, 0, none⟩ = some (.int .i64 x.kind) := hq.cell 0
    have HO := hI ho
    have hshape : o = .nilIface ∨ ∃ U y, o = .iface U y := by
      unfold OutT at ho
      split at ho
      · obtain ⟨⟨v, e, _⟩, _⟩ := ho
        exact .inr ⟨_, _, e⟩
      · rcases ho with h | ⟨U, y, h, _⟩
        · exact .inl h
        · exact .inr ⟨_, _, h⟩
    have HX : Hid (∀ W ok, Below q w W → Below wx.heap.size wx W → ¬ (x.kind = 2 ∧ (!bad && rem.isEmpty) = true ∧ o ≠ .nilIface) → OfRes w F x (.returned (.tuple #[.nilIface, .bool ok])) W) := hI (fun W ok h1 h2 h3 => by
      refine ⟨_, _, rfl, HQ.out W h1, ?_⟩
      have hn : ticketS x = none := by
        unfold ticketS
        split
        · rename_i hc
          exfalso
          obtain ⟨c1, c2, c3, c4⟩ := hc
          have ho' := HO.out
          unfold OutT at ho'
          rw [if_pos c2] at ho'
          obtain ⟨⟨v, e, _⟩, e2⟩ := ho'
          have e3 := congrArg Prod.fst e2
          have e4 := congrArg Prod.snd e2
          simp only at e3 e4
          exact h3 ⟨c1, by rw [e3, e4, c3, c4]; rfl, by rw [e]; simp⟩
        · rfl
      rw [hn]
      exact .inl rfl)
    have HY : Hid (∀ W ok, Below q w W → Below wx.heap.size wx W → x.kind = 2 → (!bad && rem.isEmpty) = true → OfRes w F x (.returned (.tuple #[o, .bool ok])) W) := hI (fun W ok h1 h2 h3 h4 => by
      refine ⟨_, _, rfl, HQ.out W h1, ?_⟩
      have ho' := HO.out
      unfold OutT at ho'
      simp only [Bool.and_eq_true, Bool.not_eq_true'] at h4
      split at ho'
      · rename_i ht1
        obtain ⟨⟨v, e, bv, ev, hbv, hfv⟩, e2⟩ := ho'
        have e3 := congrArg Prod.fst e2
        have e4 := congrArg Prod.snd e2
        simp only at e3 e4
        have hs : ticketS x = some ((nameS x.l false).1, (bytesS (nameS x.l false).2.1 (nameS x.l false).2.2).1) := by
          unfold ticketS
          rw [if_pos ⟨h3, ht1, by rw [← e3]; exact h4.2, by rw [← e4]; exact h4.1⟩]
        rw [hs]
        exact ⟨v, e, bv, ev, hbv.below h2, hfv⟩
      · rename_i ht1
        have hs : ticketS x = none := by
          unfold ticketS
          rw [if_neg (fun h => ht1 h.2.1)]
        rw [hs]
        exact ho')
    have HD := hI (done_any rem bad p F wx ht)
    clear ht hk ho hb hq
    by_cases hk2 : x.kind = 2
    · have HK2 := hI hk2
      have hkb : (x.kind != 2) = false := by simpa using hk2
      clear hk2
      generalize hdn : (!bad && rem.isEmpty) = dn at *
      clear hdn
      rcases hshape with e | ⟨U, y, e⟩
      · subst e
        go_wp2_with fail
        go_ret2
        exact HX.out _ _ HB.out (Below.refl _ _) (fun h => h.2.2 rfl)
      · subst e
        go_wp2_with fail
        refine HD.out.mono ?_
        rintro e w2 ⟨rfl, rfl⟩
        cases dn with
        | true =>
          go_wp2_with fail
          go_ret2
          exact HY.out _ _ HB.out (Below.refl _ _) HK2.out (by first | rfl | trivial)
        | false =>
          go_wp2_with fail
          go_ret2
          exact HX.out _ _ HB.out (Below.refl _ _) (fun h => by simp at h)
    · have hkb : (x.kind != 2) = true := by simpa using hk2
      have HK2 := hI hk2
      clear hk2
      go_wp2_with fail
      go_ret2
      exact HX.out _ _ HB.out (Below.refl _ _) (fun h => HK2.out h.1)
theorem aggTicket : AggTy Try.prog 84 2 := AggTy.mk Try.underlying84 rfl (by kernel_rfl)
theorem ta_is (T : TypeId) (v : Value) (X : TypeId) (hT : (match Try.prog.underlying T with | some (.interface _) => false | some _ => true | none => false) = true) (W : World) :
    (Instr.typeAssert (.iface T v) X T true).run Try.prog W = .ok (.tuple #[v, .bool true]) W := by
  cases hu : Try.prog.underlying T with
  | none => rw [hu] at hT; simp at hT
  | some d =>
    rw [hu] at hT
    unfold Instr.typeAssert
    rw [Sem.run_bind, run_underlying hu W]
    cases d <;> first | (simp at hT; done) | simp [Result.andThen, Sem.run_pure]
theorem ta_not (T : TypeId) (r : Value) (X : TypeId) (z : Value) (hT : (match Try.prog.underlying T with | some (.interface _) => false | some _ => true | none => false) = true)
    (hz : ∀ W, (zeroValue T).run Try.prog W = .ok z W) (h : NotT T r) (W : World) : (Instr.typeAssert r X T true).run Try.prog W = .ok (.tuple #[z, .bool false]) W := by
  cases hu : Try.prog.underlying T with
  | none => rw [hu] at hT; simp at hT
  | some d =>
    rw [hu] at hT
    unfold Instr.typeAssert
    rw [Sem.run_bind, run_underlying hu W]
    rcases h with rfl | ⟨U, x, rfl, hne⟩
    · cases d <;> first | (simp at hT; done) | simp [Result.andThen, Sem.run_pure, Sem.run_bind, hz]
    · cases d <;> first | (simp at hT; done) | simp [Result.andThen, Sem.run_pure, Sem.run_bind, hz, hne]
/-- Another type than the one asked for. -/
theorem tan (T U : TypeId) (x : Value) {z : Value} (hz : ∀ W, (zeroValue T).run Try.prog W = .ok z W) (hT : (match Try.prog.underlying T with | some (.interface _) => false | some _ => true | none => false) = true) (hne : U ≠ T) :
    ∃ z, ∀ W, (Instr.typeAssert (.iface U x) 20 T true).run Try.prog W = .ok (.tuple #[z, .bool false]) W :=
  ⟨z, fun W => ta_not T _ _ z hT hz (.inr ⟨_, _, rfl, hne⟩) W⟩
def zs2 : List Value := [.string ⟨#[]⟩, .slice none 0 0]
theorem zero_ticket (W : World) : (zeroValue 84).run Try.prog W = .ok (.agg zs2.toArray) W := by kernel_rfl
/-- Taken: the taker, and whether a ticket was wrong. -/
def Tkn (w : World) (F : Nat → Prop) (pm p : Nat) (rem : List Tv) (bad bad2 : Bool) : Prop :=
  Blk w pm [.pointer (some ⟨p, 0, none⟩), .bool bad2] 120 ∧ Tk w F p rem bad ∧ pm ≠ p ∧ ¬ F pm ∧ ∀ b, F b → b < w.heap.size
/-- The blocks that steps may change. -/
def Sm (pm p B : Nat) : Nat → Prop := fun b => b = p ∨ b = pm ∨ B ≤ b
theorem Tkn.lt {w : World} {F : Nat → Prop} {pm p : Nat} {rem : List Tv} {bad bad2 : Bool} (h : Tkn w F pm p rem bad bad2) : pm < w.heap.size ∧ p < w.heap.size := ⟨h.1.lt, h.2.1.lt⟩
theorem Tkn.below {w w' : World} {F : Nat → Prop} {pm p : Nat} {rem : List Tv} {bad bad2 : Bool} (h : Tkn w F pm p rem bad bad2) (hb : Below w.heap.size w w') : Tkn w' F pm p rem bad bad2 :=
  ⟨h.1.below hb h.1.lt, h.2.1.below hb, h.2.2.1, h.2.2.2.1, fun b hF => Nat.lt_of_lt_of_le (h.2.2.2.2 b hF) hb.size⟩
theorem Tkn.keep {w w' : World} {F S : Nat → Prop} {pm p : Nat} {rem : List Tv} {bad bad2 : Bool} (h : Tkn w F pm p rem bad bad2) (hk : Keeps S w w') (hs : ∀ b, F b → ¬ S b) (hp : ¬ S p) (hm : ¬ S pm) : Tkn w' F pm p rem bad bad2 :=
  ⟨h.1.keep hk hm, h.2.1.keep hk (fun b hb _ => hs b hb) hp, h.2.2.1, h.2.2.2.1, fun b hF => Nat.lt_of_lt_of_le (h.2.2.2.2 b hF) hk.size⟩
/-- The taker has gone on. -/
theorem Tkn.step {w w' : World} {F : Nat → Prop} {pm p : Nat} {rem rem' : List Tv} {bad bad2 bad' : Bool} (h : Tkn w F pm p rem bad bad2) (ht : Tk w' F p rem' bad') (hk : Keeps (fun b => b = p ∨ w.heap.size ≤ b) w w') : Tkn w' F pm p rem' bad' bad2 :=
  ⟨h.1.keep hk (fun e => by have := h.1.lt; rcases e with e | e; exact h.2.2.1 e; omega), ht, h.2.2.1, h.2.2.2.1, fun b hF => Nat.lt_of_lt_of_le (h.2.2.2.2 b hF) hk.size⟩
theorem Tkn.set {w : World} {F : Nat → Prop} {pm p : Nat} {rem : List Tv} {bad bad2 : Bool} (h : Tkn w F pm p rem bad bad2) (b : Bool) : Tkn (w.setCell ⟨pm, 1, none⟩ (.bool b)) F pm p rem bad b ∧ Keeps (Sm pm p w.heap.size) w (w.setCell ⟨pm, 1, none⟩ (.bool b)) := by
  have hk : Keeps (fun k => k = pm) w (w.setCell ⟨pm, 1, none⟩ (.bool b)) := Keeps.one w pm 1 _
  refine ⟨⟨h.1.set 1 (.bool b), h.2.1.keep hk (fun x hx _ e => h.2.2.2.1 (by rw [← e]; exact hx)) (fun e => h.2.2.1 e.symm), h.2.2.1, h.2.2.2.1, fun x hF => Nat.lt_of_lt_of_le (h.2.2.2.2 x hF) hk.size⟩, hk.mono (fun x hx => .inr (.inl hx))⟩
/-- The next part, a ticket. -/
def tickS (rem : List Tv) (bad bad2 : Bool) : (List UInt8 × List UInt8) × List Tv × Bool × Bool :=
  match ticketS (partS 1 rem bad).1 with
  | some t => (t, (partS 1 rem bad).2.1, (partS 1 rem bad).2.2, bad2)
  | none => (([], []), (partS 1 rem bad).2.1, (partS 1 rem bad).2.2, true)
def TknRes (w : World) (F : Nat → Prop) (pm p : Nat) (r : List Tv × Bool × Bool) (e : Ending) (v : Value) (w' : World) : Prop :=
  e = .returned v ∧ Tkn w' F pm p r.1 r.2.1 r.2.2 ∧ Keeps (Sm pm p w.heap.size) w w'
theorem keepsM {S : Nat → Prop} {pm p B : Nat} {w w1 w2 : World} (hS : S = Sm pm p B) (h : Keeps S w w1) (hB : B ≤ w1.heap.size) (k : Keeps (Sm pm p w1.heap.size) w1 w2) : Keeps S w w2 :=
  h.trans (k.mono (fun b hb => by rw [hS]; rcases hb with h' | h' | h'; exact .inl h'; exact .inr (.inl h'); exact .inr (.inr (Nat.le_trans hB h'))))
theorem sm_tk {pm p B : Nat} {w w1 : World} (hB : B ≤ w.heap.size) (k : Keeps (fun b => b = p ∨ w.heap.size ≤ b) w w1) : Keeps (Sm pm p B) w w1 :=
  k.mono (fun b hb => by rcases hb with h' | h'; exact .inl h'; exact .inr (.inr (Nat.le_trans hB h')))
theorem sm_below {pm p B C : Nat} {w w1 : World} (hB : B ≤ C) (k : Below C w w1) : Keeps (Sm pm p B) w w1 :=
  (Keeps.of_below k).mono (fun b hb => .inr (.inr (Nat.le_trans hB hb)))
set_option maxHeartbeats 4000000 in
set_option maxRecDepth 100000 in
theorem ticket_any (rem : List Tv) (bad bad2 : Bool) (pm p : Nat) (F : Nat → Prop) (w : World) (h : Tkn w F pm p rem bad bad2) :
    Calls Try.prog 47 #[.pointer (some ⟨pm, 0, none⟩)] w fun e w' => ∃ v, TknRes w F pm p (tickS rem bad bad2).2 e v w' ∧ TicketV w' F (tickS rem bad bad2).1 v := by
  have hlt := h.lt
  have hB0 : Below w.heap.size w (w.alloc (.cells zs2.toArray 84)) := (Below.refl _ _).alloc (Nat.le_refl _) _
  have h0 := h.below hB0
  have HQ0 := hI (Blk.new w zs2 84)
  obtain ⟨W0, hW0⟩ : ∃ W0, W0 = w.alloc (.cells zs2.toArray 84) := ⟨_, rfl⟩
  obtain ⟨q, hq⟩ : ∃ q, q = w.heap.size := ⟨_, rfl⟩
  rw [← hW0] at HQ0 h0 hB0
  rw [← hq] at HQ0 hB0
  have HQL : Hid (pm < q ∧ p < q ∧ q < W0.heap.size) := hI ⟨by omega, by omega, by rw [hW0, hq]; simp⟩
  have HT0 := hI h0
  have HPA := hI (part_any 1 rem bad p F W0 h0.2.1)
  have HFQ : Hid (∀ b, F b → b < q) := hI (fun b hb => by rw [hq]; exact h.2.2.2.2 b hb)
  have c0 : W0.cell? ⟨pm, 0, none⟩ = some (.pointer (some ⟨p, 0, none⟩)) := h0.1.cell 0
  have HKW : Hid (∀ W, Keeps (Sm pm p q) w W → Keeps (Sm pm p w.heap.size) w W) := hI (fun W hk => by rw [← hq]; exact hk)
  have HK0 : Hid (Keeps (Sm pm p q) w W0) := hI (sm_below (by omega) hB0)
  clear hlt hB0 h0 h
  go_enter Try.func47, Try.ntmps47
  go_upto_region 1 with fail
  show Code.wp _ _ _ _ (w.alloc (.cells zs2.toArray 84))
  rw [← hW0, ← hq]
  clear hW0 hq
  go_wp2_with fail
  refine HPA.out.mono ?_
  rintro e w1 ⟨cs, rfl, hx, ht, hk⟩
  have HS : Hid (tickS rem bad bad2 = match ticketS (partS 1 rem bad).1 with | some t => (t, (partS 1 rem bad).2.1, (partS 1 rem bad).2.2, bad2) | none => (([], []), (partS 1 rem bad).2.1, (partS 1 rem bad).2.2, true)) := hI rfl
  generalize partS 1 rem bad = r at *
  obtain ⟨x, r1, r2⟩ := r
  simp only at *
  have ht1 := HT0.out.step ht hk
  have HT1 := hI ht1
  have HK1 : Hid (Keeps (Sm pm p q) w w1) := hI (HK0.out.trans (sm_tk (Nat.le_of_lt HQL.out.2.2) hk))
  have HQ1 := hI (HQ0.out.keep hk (fun e => by have := HQL.out; rcases e with e | e <;> omega))
  have HZ1 : Hid (q < w1.heap.size) := hI HQ1.out.lt
  have HOF := hI (of_any x F cs w1 hx ht1.2.2.2.2)
  clear hx ht hk ht1 HPA HQ0 HT0 HK0
  go_wp2_with fail
  refine HOF.out.mono ?_
  rintro e w2 ⟨r, ok, rfl, hb, hm⟩
  have HT2 := hI (HT1.out.below hb)
  have HK2 : Hid (Keeps (Sm pm p q) w w2) := hI (HK1.out.trans (sm_below (Nat.le_of_lt HZ1.out) hb))
  have HQ2 := hI (HQ1.out.below hb HZ1.out)
  have HZ2 : Hid (q < w2.heap.size ∧ pm < q ∧ p < q) := hI ⟨HQ2.out.lt, HQL.out.1, HQL.out.2.1⟩
  clear hb HOF HT1 HK1 HQ1 HZ1 HQL
  obtain ⟨v, hta, hv, hfs⟩ : ∃ (z : Value) (hta : ∀ W, (Instr.typeAssert r 20 84 true).run Try.prog W = .ok (.tuple #[z, .bool (ticketS x).isSome]) W), (∃ t, TicketV w2 F t z ∧ t = (tickS rem bad bad2).1) ∧ (tickS rem bad bad2).2 = (r1, r2, if (ticketS x).isSome then bad2 else true) := by
    rw [HS.out]
    cases hts : ticketS x with
    | some t =>
      rw [hts] at hm
      obtain ⟨v, rfl, hv⟩ := hm
      exact ⟨v, fun W => ta_is _ _ _ (by kernel_rfl) W, ⟨t, hv, rfl⟩, rfl⟩
    | none =>
      rw [hts] at hm
      exact ⟨_, fun W => ta_not _ _ _ _ (by kernel_rfl) zero_ticket hm W, ⟨([], []), ⟨_, rfl, Sl.nil _ _ _, by simp⟩, rfl⟩, rfl⟩
  obtain ⟨t, ⟨bv, rfl, hbv, hbf⟩, et⟩ := hv
  obtain ⟨ab, cb, rfl, hcb, hmb⟩ := hbv.form
  have HE := hI et
  have HFS := hI hfs
  have HBV := hI hbv
  have HBF := hI hbf
  generalize (ticketS x).isSome = d at *
  clear hm hbv hbf et hfs HS
  obtain ⟨q3, hq3⟩ : ∃ q3, q3 = w2.heap.size := ⟨_, rfl⟩
  have HG : Hid (Blk (w2.alloc (.cells zs2.toArray 84)) w2.heap.size zs2 84) := hI (Blk.new _ _ _)
  have hone : ∀ u ∈ [Value.string (tx t.1), .slice ab t.2.length cb], u.oneCell' = true := by intro u hu; simp at hu; rcases hu with rfl | rfl <;> rfl
  have HON := hI hone
  clear hone
  have HTV : Hid (∀ W bv, Bs W bv t.2 → (0 < t.2.length → ∀ y, bv.ownBlock = some y → F y) → TicketV W F (tickS rem bad bad2).1 (.agg #[.string (tx t.1), bv])) := hI (fun W bv h1 h2 => by rw [← HE.out]; exact ⟨bv, rfl, h1, h2⟩)
  clear HE
  generalize t.2 = t2 at *
  generalize tx t.1 = t1 at *
  go_wp2_with ((with_reducible show wpList _ _ _ (⟨none, .store _ (.tmp 5) (.tmp 19), _, _, _, _⟩ :: _) _ _); refine wpList_stAgg rfl (.tmp 5) (.tmp 19) aggTicket rfl rfl (vs := [Value.string t1, .slice ab t2.length cb]) rfl rfl HG.out (Nat.le_refl _) HON.out ?_)
  intro w3 h3 k3
  have h3' : Blk w3 w2.heap.size [Value.string t1, .slice ab t2.length cb] 84 := by simpa [zs2] using h3
  have hb3 : Below w2.heap.size w2 w3 := ((Below.refl w2.heap.size w2).alloc (Nat.le_refl _) _).trans (k3.below (fun b hb => Nat.le_of_eq hb.symm))
  have HT3 := hI (HT2.out.below hb3)
  have HK3 : Hid (Keeps (Sm pm p q) w w3) := hI (HK2.out.trans (sm_below (Nat.le_of_lt HZ2.out.1) hb3))
  have HQ3 := hI (HQ2.out.below hb3 HZ2.out.1)
  have HBV3 := hI (HBV.out.below hb3)
  have HNE : Hid (pm ≠ w2.heap.size ∧ pm ≠ q ∧ w2.heap.size ≠ q ∧ pm < q) := hI (by have := HZ2.out; exact ⟨by omega, by omega, by omega, by omega⟩)
  have H3 := hI h3'
  have c1 : w3.cell? ⟨pm, 1, none⟩ = some (.bool bad2) := HT3.out.1.cell 1
  have f1 := HT3.out.1.frozen 1
  obtain ⟨W4, hW4⟩ : ∃ W4, W4 = w3.setCell ⟨pm, 1, none⟩ (.bool (if d = true then bad2 else true)) := ⟨_, rfl⟩
  obtain ⟨ht4, hk4⟩ := HT3.out.set (if d = true then bad2 else true)
  rw [← hW4] at ht4 hk4
  have HT4 := hI ht4
  have HK4 : Hid (Keeps (Sm pm p q) w W4) := hI (keepsM rfl HK3.out (Nat.le_of_lt HQ3.out.lt) hk4)
  have H4 : Hid (Blk W4 w2.heap.size [Value.string t1, .slice ab t2.length cb] 84) := hI (by rw [hW4]; exact H3.out.set_other (p := ⟨pm, 1, none⟩) (fun e => HNE.out.1 e.symm) _)
  have HQ4 : Hid (Blk W4 q zs2 84) := hI (by rw [hW4]; exact HQ3.out.set_other (p := ⟨pm, 1, none⟩) (fun e => HNE.out.2.1 e.symm) _)
  have HBV4 : Hid (Bs W4 (.slice ab t2.length cb) t2) := hI (HBV3.out.keepF hk4 HBF.out (fun b hb hl hs => by
    rcases hs with e | e | e
    · exact HT3.out.2.1.notF (by rw [← e]; exact hb)
    · exact HT3.out.2.2.2.1 (by rw [← e]; exact hb)
    · omega))
  clear h3 k3 h3' hb3 ht4 hk4
  have hd : ∀ c : Bool, (if d = true then bad2 else true) = c → (if bad2 = true then true else !d) = c := by
    intro c hc; rw [← hc]; cases d <;> cases bad2 <;> rfl
  generalize w2.heap.size = q3' at *
  subst hq3
  have hpick := hd _ rfl
  clear hd
  cases bad2 <;> cases d
  all_goals
    simp only [Bool.false_eq_true, if_true, if_false] at hW4
    go_upto_region 4 with fail
    rw [← hW4]
    clear hW4
    go_wp2_with (first | ((with_reducible show wpList _ _ _ (⟨some 32, _, _, _, _, _⟩ :: _) _ _); refine wpList_ldAgg rfl (.tmp 5) aggTicket rfl rfl (cs := [Value.string t1, .slice ab t2.length cb]) rfl H4.out.cellsAll ?_) | ((with_reducible show wpList _ _ _ (⟨none, .store _ (.tmp 2) (.tmp 32), _, _, _, _⟩ :: _) _ _); refine wpList_stAgg rfl (.tmp 2) (.tmp 32) aggTicket rfl rfl (vs := [Value.string t1, .slice ab t2.length cb]) rfl rfl HQ4.out (Nat.le_refl _) HON.out ?_))
    intro w5 h5 k5
    have H5 : Hid (Blk w5 q [Value.string t1, .slice ab t2.length cb] 84) := hI (by simpa [zs2] using h5)
    have HT5 := hI (HT4.out.keep k5 (fun b hb e => by have := HFQ.out b hb; omega) (fun e => by have := HZ2.out; omega) (fun e => HNE.out.2.1 e))
    have HK5 : Hid (Keeps (Sm pm p q) w w5) := hI (HK4.out.trans (k5.mono (fun b hb => .inr (.inr (Nat.le_of_eq hb.symm)))))
    have HBV5 : Hid (Bs w5 (.slice ab t2.length cb) t2) := hI (HBV4.out.keepF k5 HBF.out (fun b hb hl e => by have := HFQ.out b hb; omega))
    clear h5 k5
    go_wp2_with fail
    exact bodyPost_ret (results_agg rfl aggTicket rfl (cs := [Value.string t1, .slice ab t2.length cb]) rfl H5.out.cellsAll) rfl ⟨_, ⟨rfl, by rw [HFS.out]; exact HT5.out, HKW.out _ HK5.out⟩, HTV.out _ _ HBV5.out HBF.out⟩
/-- A ticket as a value. -/
def tkTv (t : List UInt8 × List UInt8) : Tv := .mk 2 1 0 [] [.mk 1 0 0 t.1 [], .mk 1 0 0 t.2 []]
/-- What a value's maker gives: a value, and whether it may be. -/
def VlRes (w : World) (x : Tv) (b : Bool) (e : Ending) (w' : World) : Prop :=
  ∃ cs, e = .returned (.tuple #[.agg cs.toArray, .bool b]) ∧ TvF w' (fun y => w.heap.size ≤ y) x cs ∧ Below w.heap.size w w'
theorem enters_seq : Enters Try.prog 32 := Enters.mk Try.func32 (by kernel_rfl) (by kernel_rfl)
theorem elTicket : Elem Try.prog 85 84 2 40 (.agg zs2.toArray) := by
  refine Elem.mk Try.underlying85 ?_ rfl (by decide)
  kernel_rfl
/-- Tickets, two cells each. -/
def TkRows (w : World) (F : Nat → Prop) : List (List UInt8 × List UInt8) → List Value → Prop
  | [], cs => cs = []
  | t :: l, cs => ∃ bv rs, cs = .string (tx t.1) :: bv :: rs ∧ Bs w bv t.2 ∧ (0 < t.2.length → ∀ y, bv.ownBlock = some y → F y) ∧ TkRows w F l rs
theorem TkRows.keep {w w' : World} {F S : Nat → Prop} (hk : Keeps S w w') (hs : ∀ b, F b → b < w.heap.size → ¬ S b) : ∀ {l : List (List UInt8 × List UInt8)} {cs : List Value}, TkRows w F l cs → TkRows w' F l cs
  | [], cs, h => h
  | t :: l, cs, h => by
    obtain ⟨bv, rs, e, h1, h2, h3⟩ := h
    exact ⟨bv, rs, e, h1.keepF hk h2 hs, h2, TkRows.keep hk hs h3⟩
theorem TkRows.below {w w' : World} {F : Nat → Prop} {l : List (List UInt8 × List UInt8)} {cs : List Value} (h : TkRows w F l cs) (hb : Below w.heap.size w w') : TkRows w' F l cs :=
  TkRows.keep (Keeps.of_below hb) (fun _ _ hl hs => by omega) h
theorem TkRows.snoc {w : World} {F : Nat → Prop} : ∀ {l : List (List UInt8 × List UInt8)} {cs : List Value} {t : List UInt8 × List UInt8} {bv : Value}, TkRows w F l cs → Bs w bv t.2 → (0 < t.2.length → ∀ y, bv.ownBlock = some y → F y) → TkRows w F (l ++ [t]) (cs ++ [.string (tx t.1), bv])
  | [], cs, t, bv, h, h1, h2 => by
    rw [show cs = [] from h]
    exact ⟨bv, [], rfl, h1, h2, rfl⟩
  | u :: l, cs, t, bv, h, h1, h2 => by
    obtain ⟨b1, rs, rfl, h3, h4, h5⟩ := h
    exact ⟨b1, rs ++ [.string (tx t.1), bv], by simp, h3, h4, TkRows.snoc h5 h1 h2⟩
/-- A slice of tickets. -/
def TksV (w : World) (F : Nat → Prop) (l : List (List UInt8 × List UInt8)) (v : Value) : Prop :=
  ∃ rows, Sl w 2 v l.length rows ∧ TkRows w F l rows
def tkOf (x : Tv) : List UInt8 × List UInt8 := (ticketS x).getD ([], [])
def allT (l : List Tv) : Bool := l.all (fun x => (ticketS x).isSome)
/-- The next part, at most one ticket. -/
def extraS (rem : List Tv) (bad bad2 : Bool) : List (List UInt8 × List UInt8) × List Tv × Bool × Bool :=
  ((partS 0 rem bad).1.l.map tkOf, (partS 0 rem bad).2.1, (partS 0 rem bad).2.2, if allT (partS 0 rem bad).1.l = true then (if 1 < (partS 0 rem bad).1.l.length then true else bad2) else true)
/-- The loop over the tickets. -/
structure ExInv (w1 : World) (F : Nat → Prop) (pm p q : Nat) (l : List Tv) (r1 : List Tv) (r2 bad2 : Bool) (k : Nat) (v : Value) (wr : World) : Prop where
  t : Tkn wr F pm p r1 r2 (if allT (l.take k) = true then bad2 else true)
  own : ∃ rows, Own wr q 84 2 v k rows ∧ TkRows wr F ((l.take k).map tkOf) rows
  vlt : ∀ b, v.ownBlock = some b → q ≤ b ∧ b < wr.heap.size
  keep : Keeps (Sm pm p q) w1 wr
theorem allT_snoc (l : List Tv) (k : Nat) (h : k < l.length) : allT (l.take (k + 1)) = (allT (l.take k) && (ticketS l[k]).isSome) := all_snoc _ l k h
set_option maxHeartbeats 8000000 in
set_option maxRecDepth 100000 in
theorem extra_any (rem : List Tv) (bad bad2 : Bool) (pm p : Nat) (F : Nat → Prop) (w : World) (h : Tkn w F pm p rem bad bad2) (hL : ∀ y ∈ rem, y.l.length ≤ 1954687338211) :
    Calls Try.prog 49 #[.pointer (some ⟨pm, 0, none⟩)] w fun e w' => ∃ v, TknRes w F pm p (extraS rem bad bad2).2 e v w' ∧ TksV w' F (extraS rem bad bad2).1 v := by
  have hlt := h.lt
  have HPA := hI (part_any 0 rem bad p F w h.2.1)
  have c0 : w.cell? ⟨pm, 0, none⟩ = some (.pointer (some ⟨p, 0, none⟩)) := h.1.cell 0
  have HT0 := hI h
  have HLL : Hid ((partS 0 rem bad).1.l.length ≤ 1954687338211) := hI (by
    unfold partS
    split
    · exact Nat.zero_le _
    · rename_i x r
      split
      · exact hL x (by simp)
      · exact Nat.zero_le _)
  clear h hL
  go_enter Try.func49, Try.ntmps49
  go_wp2_with fail
  refine HPA.out.mono ?_
  rintro e w1 ⟨cs, rfl, hx, ht, hk⟩
  have HS : Hid (extraS rem bad bad2 = ((partS 0 rem bad).1.l.map tkOf, (partS 0 rem bad).2.1, (partS 0 rem bad).2.2, if allT (partS 0 rem bad).1.l = true then (if 1 < (partS 0 rem bad).1.l.length then true else bad2) else true)) := hI rfl
  generalize partS 0 rem bad = r at *
  obtain ⟨x, r1, r2⟩ := r
  simp only at *
  have ht1 := HT0.out.step ht hk
  have HT1 := hI ht1
  have HK1 : Hid (Keeps (Sm pm p w.heap.size) w w1) := hI (sm_tk (Nat.le_refl _) hk)
  obtain ⟨bv, lv, rows, rfl, hb1, hb2, hb3, hb4, hb5⟩ := hx.open_
  obtain ⟨al, cl, rfl, hcl, hml⟩ := hb3.form
  obtain ⟨ab, cb0, rfl, hcb, hmb⟩ := hb1.form
  have hf4 := fld_l
  obtain ⟨l, hl⟩ : ∃ l, l = x.l := ⟨_, rfl⟩
  rw [← hl] at hb3 hb4 hb5 HLL HS hcl ⊢
  have HR3 := hI hb3
  have HR4 := hI hb4
  have HR5 := hI hb5
  have hlen := HLL.out
  have hpq : pm < w.heap.size ∧ p < w.heap.size := hlt
  have hqz : w.heap.size ≤ w1.heap.size := hk.size
  have hfq : ∀ b, F b → b < w.heap.size := HT0.out.2.2.2.2
  have HFQ := hI hfq
  have HPQ := hI hpq
  have HQZ := hI hqz
  obtain ⟨q, hq⟩ : ∃ q, q = w.heap.size := ⟨_, rfl⟩
  have HKW : Hid (∀ W, Keeps (Sm pm p q) w W → Keeps (Sm pm p w.heap.size) w W) := hI (fun W hk => by rw [← hq]; exact hk)
  rw [← hq] at HFQ HPQ HQZ HK1
  clear hx ht hk ht1 hb1 hb2 hb3 hb4 hb5 hlt hpq hqz hfq HPA HT0 HLL hl hq
  unfold maxLen at hml hmb
  go_wp2_with fail
  go_loopw [3, 17] (fun v i wr => ∃ k, i = .int .i64 (k : Nat) ∧ k ≤ l.length ∧ ExInv w1 F pm p q l r1 r2 bad2 k v wr) (fun _ i _ => l.length - (intOf i).toNat)
  case atStart => exact ⟨0, rfl, Nat.zero_le _, HT1.out, ⟨[], Own.nil _ _ _ _ _, rfl⟩, by simp [Value.ownBlock], Keeps.refl _ _⟩
  case round =>
    obtain ⟨k, rfl, hk, hi⟩ := hrel
    obtain ⟨rows2, hown, hrows⟩ := hi.own
    obtain ⟨av, cv, rfl, hcv, hmv⟩ := hown.sl.form
    unfold maxLen at hmv
    have hns : ∀ b, F b → ¬ Sm pm p q b := fun b hb hs => by
      have h1 := HT1.out.2.1.notF
      have h2 := HT1.out.2.2.2.1
      have h3 := HFQ.out b hb
      rcases hs with e | e | e
      · exact h1 (by rw [← e]; exact hb)
      · exact h2 (by rw [← e]; exact hb)
      · omega
    have HNS := hI hns
    have HSr : Hid (Sl wr 5 (.slice al l.length cl) l.length rows) := hI (HR3.out.keepF hi.keep HR4.out (fun b hb _ => hns b hb))
    have HRr : Hid (TvsF wr F l rows) := hI (HR5.out.keep hi.keep (fun b hb _ => hns b hb))
    have HTr := hI hi.t
    have HKr := hI hi.keep
    have HVL := hI hi.vlt
    have HOW := hI hown
    have HRW := hI hrows
    have HZr : Hid (q ≤ wr.heap.size ∧ pm < q ∧ p < q) := hI ⟨Nat.le_trans HQZ.out hi.keep.size, HPQ.out⟩
    clear hi hown hrows hns
    by_cases hlt : k < l.length
    · have hlt' : (k : Int) < (l.length : Int) := by omega
      obtain ⟨b, off, rfl, _⟩ := HSr.out.addr (by rw [HSr.out.1]; omega)
      obtain ⟨r, hxk, hck⟩ := HRr.out.cells HSr.out k hlt
      have HSN := hI (allT_snoc l k hlt)
      have HSM : Hid ((l.take (k + 1)).map tkOf = (l.take k).map tkOf ++ [tkOf l[k]]) := hI (by rw [List.take_succ_eq_append_getElem hlt, List.map_append]; rfl)
      generalize l[k] = x at *
      have HCK := hI hck
      have HXK := hI hxk
      have HRL := hI hxk.length
      have HR1 := hI hxk.one
      have HG : Hid (Blk (wr.alloc (.cells zs5.toArray 70)) wr.heap.size zs5 70) := hI (Blk.new _ _ _)
      clear hck hxk
      go_wp2_with (first | ((with_reducible show wpList _ _ _ (⟨some 20, _, _, _, _, _⟩ :: _) _ _); refine wpList_ldAgg rfl (.tmp 19) aggDer rfl rfl (cs := r) HRL.out HCK.out ?_) | ((with_reducible show wpList _ _ _ (⟨none, .store _ (.tmp 5) (.tmp 20), _, _, _, _⟩ :: _) _ _); refine wpList_stAgg rfl (.tmp 5) (.tmp 20) aggDer rfl rfl (vs := r) rfl HRL.out HG.out (Nat.le_refl _) HR1.out ?_))
      intro w2 h2 k2
      have H2 : Hid (Blk w2 wr.heap.size r 70) := hI (by simpa [zs5] using h2)
      have hb2 : Below wr.heap.size wr w2 := ((Below.refl wr.heap.size wr).alloc (Nat.le_refl _) _).trans (k2.below (fun b hb => Nat.le_of_eq hb.symm))
      have HB2 := hI hb2
      have HZ2 : Hid (q ≤ w2.heap.size) := hI (Nat.le_trans HZr.out.1 hb2.size)
      have HOF := hI (of_any x F r w2 (HXK.out.below hb2) (fun b hb => Nat.lt_of_lt_of_le (HFQ.out b hb) HZ2.out))
      clear h2 k2 hb2
      go_wp2_with ((with_reducible show wpList _ _ _ (⟨some 22, _, _, _, _, _⟩ :: _) _ _); refine wpList_ldAgg rfl (.tmp 5) aggDer rfl rfl (cs := r) HRL.out H2.out.cellsAll ?_)
      refine HOF.out.mono ?_
      rintro e w3 ⟨rr, ok, rfl, hb, hm⟩
      have HB3 : Hid (Below wr.heap.size wr w3) := hI (HB2.out.trans (hb.mono HB2.out.size))
      obtain ⟨v, hta, hv⟩ : ∃ (z : Value) (hta : ∀ W, (Instr.typeAssert rr 20 84 true).run Try.prog W = .ok (.tuple #[z, .bool (ticketS x).isSome]) W), TicketV w3 F (tkOf x) z := by
        unfold tkOf
        cases hts : ticketS x with
        | some t =>
          rw [hts] at hm
          obtain ⟨v, rfl, hv⟩ := hm
          exact ⟨v, fun W => ta_is _ _ _ (by kernel_rfl) W, hv⟩
        | none =>
          rw [hts] at hm
          exact ⟨_, fun W => ta_not _ _ _ _ (by kernel_rfl) zero_ticket hm W, ⟨_, rfl, Sl.nil _ _ _, by simp⟩⟩
      obtain ⟨bv, rfl, hbv, hbf⟩ := hv
      obtain ⟨ab', cb', rfl, hcb', hmb'⟩ := hbv.form
      have HBV := hI hbv
      have HBF := hI hbf
      generalize (ticketS x).isSome = d at *
      clear hm hbv hbf hb
      have HG3 : Hid (Blk (w3.alloc (.cells zs2.toArray 84)) w3.heap.size zs2 84) := hI (Blk.new _ _ _)
      have hone : ∀ u ∈ [Value.string (tx (tkOf x).1), .slice ab' (tkOf x).2.length cb'], u.oneCell' = true := by intro u hu; simp at hu; rcases hu with rfl | rfl <;> rfl
      have HON := hI hone
      have HTV : Hid (∀ W rs bv, TkRows W F ((l.take k).map tkOf) rs → Bs W bv (tkOf x).2 → (0 < (tkOf x).2.length → ∀ y, bv.ownBlock = some y → F y) → TkRows W F ((l.take (k + 1)).map tkOf) (rs ++ [.string (tx (tkOf x).1), bv])) := hI (fun W rs bv h0 h1 h2 => by rw [HSM.out]; exact h0.snoc h1 h2)
      clear hone HSM
      generalize (tkOf x).2 = t2 at *
      generalize tx (tkOf x).1 = t1 at *
      go_wp2_with ((with_reducible show wpList _ _ _ (⟨none, .store _ (.tmp 8) (.tmp 29), _, _, _, _⟩ :: _) _ _); refine wpList_stAgg rfl (.tmp 8) (.tmp 29) aggTicket rfl rfl (vs := [Value.string t1, .slice ab' t2.length cb']) rfl rfl HG3.out (Nat.le_refl _) HON.out ?_)
      intro w4 h4 k4
      have H4 : Hid (Blk w4 w3.heap.size [Value.string t1, .slice ab' t2.length cb'] 84) := hI (by simpa [zs2] using h4)
      have hb34 : Below w3.heap.size w3 w4 := ((Below.refl w3.heap.size w3).alloc (Nat.le_refl _) _).trans (k4.below (fun b hb => Nat.le_of_eq hb.symm))
      have hb4 : Below wr.heap.size wr w4 := HB3.out.trans (hb34.mono HB3.out.size)
      have HB4 := hI hb4
      have HT4 := hI (HTr.out.below hb4)
      have HBV4 := hI (HBV.out.below hb34)
      have HZ3 : Hid (q ≤ w3.heap.size ∧ w3.heap.size < w4.heap.size ∧ q ≤ w4.heap.size) := hI ⟨Nat.le_trans HZr.out.1 HB3.out.size, H4.out.lt, Nat.le_trans HZr.out.1 hb4.size⟩
      have HRW4 := hI (HRW.out.below hb4)
      have HOW4 := hI (HOW.out.below hb4)
      have HVL4 : Hid (∀ y, (Value.slice av k cv).ownBlock = some y → q ≤ y ∧ y < w4.heap.size) := hI (fun y hy => by have := HVL.out y hy; exact ⟨this.1, Nat.lt_of_lt_of_le this.2 hb4.size⟩)
      have HK4 : Hid (Keeps (Sm pm p q) w1 w4) := hI (HKr.out.trans (sm_below HZr.out.1 hb4))
      obtain ⟨c, hc⟩ : ∃ c, c = (if allT (l.take k) = true then bad2 else true) := ⟨_, rfl⟩
      have HC : Hid ((if allT (l.take (k + 1)) = true then bad2 else true) = if d = true then c else true) := hI (by rw [HSN.out, hc]; cases allT (l.take k) <;> cases d <;> cases bad2 <;> rfl)
      rw [← hc] at HT4
      have c1 : w4.cell? ⟨pm, 1, none⟩ = some (.bool c) := HT4.out.1.cell 1
      have f1 := HT4.out.1.frozen 1
      obtain ⟨W5, hW5⟩ : ∃ W5, W5 = w4.setCell ⟨pm, 1, none⟩ (.bool (if d = true then c else true)) := ⟨_, rfl⟩
      obtain ⟨ht5, hk5⟩ := HT4.out.set (if d = true then c else true)
      rw [← hW5] at ht5 hk5
      have HT5 := hI ht5
      have hk5' : Keeps (fun y => y = pm) w4 W5 := by rw [hW5]; exact Keeps.one _ _ _ _
      have HK5 : Hid (Keeps (Sm pm p q) w1 W5) := hI (keepsM rfl HK4.out HZ3.out.2.2 hk5)
      have H5 : Hid (Blk W5 w3.heap.size [Value.string t1, .slice ab' t2.length cb'] 84) := hI (H4.out.keep hk5' (fun e => by have := HZr.out; have := HZ3.out; omega))
      have hfp : ∀ y, F y → y < w4.heap.size → ¬ (y = pm) := fun y hy _ e => HT4.out.2.2.2.1 (by rw [← e]; exact hy)
      have HBV5 := hI (HBV4.out.keepF hk5' HBF.out hfp)
      have HRW5 := hI (HRW4.out.keep hk5' hfp)
      have HOW5 := hI (HOW4.out.keep hk5' (fun y hy e => by have := (HVL4.out y hy).1; have := HZr.out; omega))
      have hz5 : W5.heap.size = w4.heap.size := by rw [hW5]; simp [World.setCell]
      have HVL5 : Hid (∀ y, (Value.slice av k cv).ownBlock = some y → y < (W5.alloc (.cells [Value.string t1, .slice ab' t2.length cb'].toArray 84)).heap.size) := hI (fun y hy => by have := (HVL4.out y hy).2; simp; omega)
      have HOWa := hI (HOW5.out.alloc (.cells [Value.string t1, .slice ab' t2.length cb'].toArray 84))
      have HZ5 : Hid (q ≤ W5.heap.size) := hI (by rw [hz5]; exact HZ3.out.2.2)
      have HLIT : Hid (Sl (W5.alloc (.cells [Value.string t1, .slice ab' t2.length cb'].toArray 84)) 2 (.slice (some ⟨W5.heap.size, 0, none⟩) 1 1) 1 [Value.string t1, .slice ab' t2.length cb']) := hI (Sl.lit (n := 1) rfl rfl HON.out (by unfold maxLen; decide))
      clear h4 k4 hb34 hb4 ht5 hk5 hk5' hfp hz5 hc
      cases c <;> cases d
      all_goals
        simp only [Bool.false_eq_true, if_true, if_false] at hW5
        go_upto_region 8 with fail
        rw [← hW5]
        clear hW5
        go_wp2_with (first | ((with_reducible show wpList _ _ _ (⟨some 43, _, _, _, _, _⟩ :: _) _ _); refine wpList_ldAgg rfl (.tmp 8) aggTicket rfl rfl (cs := [Value.string t1, .slice ab' t2.length cb']) rfl H5.out.cellsAll ?_) | ((with_reducible show wpList _ _ _ (⟨some 44, _, _, _, _, _⟩ :: _) _ _); refine wpList_bs1 rfl (.tmp 43) elTicket rfl rfl rfl (by decide) ?_) | ((with_reducible show wpList _ _ _ (⟨some 45, _, _, _, _, _⟩ :: _) _ _); refine wpList_app2 rfl (.tmp 42) (.tmp 44) elTicket rfl q HOWa.out HVL5.out HLIT.out (by unfold maxLen; omega) (by omega) (by have := HZ5.out; simp; omega) ?_))
        intro v7 w7 ho7 hk7 hv7
        obtain ⟨a7, c7, e7, hc7, hm7⟩ := ho7.sl.form
        have kk : Keeps (fun y => q ≤ y) W5 w7 := ((Keeps.refl _ _).alloc _ HZ5.out).trans (hk7.mono (fun y hy => by
          rcases hy with hy | hy
          · exact hy.2
          · have := HZ5.out; omega))
        have hfs : ∀ y, F y → ¬ q ≤ y := fun y hy => by have := HFQ.out y hy; omega
        have hz := HZr.out
        have HINV : Hid (ExInv w1 F pm p q l r1 r2 bad2 (k + 1) v7 w7) := hI
          { t := by rw [HC.out]; exact HT5.out.keep kk hfs (by omega) (by omega)
            own := ⟨_, ho7, HTV.out _ _ _ (HRW5.out.keep kk (fun y hy _ => hfs y hy)) (HBV5.out.keepF kk HBF.out (fun y hy _ => hfs y hy)) HBF.out⟩
            vlt := fun y hy => by
              refine ⟨?_, (hv7 y hy).2⟩
              rcases (hv7 y hy).1 with h | h
              · exact (HVL4.out y h).1
              · have := HZ5.out; omega
            keep := HK5.out.trans (kk.mono (fun y hy => .inr (.inr hy))) }
        subst e7
        clear ho7 hk7 hv7 kk hfs hz
        go_wp2_with fail
        refine ⟨⟨k + 1, by simp, by omega, HINV.out⟩, ?_⟩
        simp only [intOf]
        omega
    · have hke : k = l.length := by omega
      have hlt' : ¬ (k : Int) < (l.length : Int) := by omega
      subst hke
      obtain ⟨c, hc⟩ : ∃ c, c = (if allT (l.take l.length) = true then bad2 else true) := ⟨_, rfl⟩
      rw [← hc] at HTr
      rw [List.take_length] at hc HRW
      have c1 : wr.cell? ⟨pm, 1, none⟩ = some (.bool c) := HTr.out.1.cell 1
      have f1 := HTr.out.1.frozen 1
      have HRES : Hid (∀ bb, bb = (if c = true then true else decide ((1 : Int) < l.length)) → ∃ v, TknRes w F pm p (extraS rem bad bad2).2 (.returned (.slice av l.length cv)) v (wr.setCell ⟨pm, 1, none⟩ (.bool bb)) ∧ TksV (wr.setCell ⟨pm, 1, none⟩ (.bool bb)) F (extraS rem bad bad2).1 v) := hI (fun bb hbb => by
        obtain ⟨ht, hk⟩ := HTr.out.set bb
        have hkp : Keeps (fun y => y = pm) wr (wr.setCell ⟨pm, 1, none⟩ (.bool bb)) := Keeps.one _ _ _ _
        refine ⟨_, ⟨rfl, ?_, HKW.out _ (HK1.out.trans (keepsM rfl HKr.out HZr.out.1 hk))⟩, rows2, ?_, ?_⟩
        · rw [HS.out]
          have : (if allT l = true then (if 1 < l.length then true else bad2) else true) = bb := by
            rw [hbb, hc]
            cases allT l <;> cases bad2 <;> by_cases h1 : 1 < l.length <;> simp [h1] <;> omega
          rw [this]
          exact ht
        · rw [HS.out]
          simp only [List.length_map]
          exact HOW.out.sl.keep hkp (fun y hy e => by have := (HVL.out y hy).1; have := HZr.out; omega)
        · rw [HS.out]
          exact HRW.out.keep hkp (fun y hy _ e => HTr.out.2.2.2.1 (by rw [← e]; exact hy)))
      clear hc
      cases c with
      | true =>
        go_wp2_with fail
        go_ret
        exact HRES.out true rfl
      | false =>
        by_cases h1 : (1 : Int) < l.length
        · have HE : Hid (true = (if false = true then true else decide ((1 : Int) < l.length))) := hI (by simp [h1])
          go_wp2_with fail
          go_ret
          exact HRES.out true HE.out
        · have HE : Hid (false = (if false = true then true else decide ((1 : Int) < l.length))) := hI (by simp [h1])
          go_wp2_with fail
          go_ret
          exact HRES.out false HE.out
def rT (t : List UInt8 × List UInt8) : Bool := rightB (tx t.1)
def tksTv (l : List (List UInt8 × List UInt8)) : Tv := .mk 2 0 0 [] ((l.takeWhile rT).map tkTv)
def tksB (l : List (List UInt8 × List UInt8)) : Bool := l.all rT && decide (l.length ≤ 1)
theorem TkRows.at_ {w : World} {F : Nat → Prop} : ∀ {l : List (List UInt8 × List UInt8)} {cs : List Value}, TkRows w F l cs → ∀ (k : Nat) (hk : k < l.length), ∃ bv, (cs.drop (k * 2)).take 2 = [.string (tx l[k].1), bv] ∧ Bs w bv l[k].2
  | [], cs, h, k, hk => by simp at hk
  | t :: l, cs, h, 0, hk => by
    obtain ⟨bv, rs, rfl, h1, h2, h3⟩ := h
    exact ⟨bv, rfl, h1⟩
  | t :: l, cs, h, k + 1, hk => by
    obtain ⟨bv, rs, rfl, h1, h2, h3⟩ := h
    obtain ⟨b2, e, h4⟩ := TkRows.at_ h3 k (by simpa using hk)
    refine ⟨b2, ?_, h4⟩
    rw [show (k + 1) * 2 = k * 2 + 1 + 1 by omega, List.drop_succ_cons, List.drop_succ_cons]
    exact e
structure TkL (w : World) (q z : Nat) (l : List (List UInt8 × List UInt8)) (wr : World) (j : Nat) (lv : Value) (rows : List Value) (G : Nat → Prop) : Prop where
  hq : Blk wr q zs5 70
  hz : Blk wr z [.int .i64 2, .int .i64 0, .int .u64 0, .slice none 0 0, lv] 70
  qz : q < z
  own : Own wr (z + 1) 70 5 lv j rows
  tvs : TvsF wr G ((l.take j).map tkTv) rows
  g : ∀ x, G x → z + 1 ≤ x ∧ x < wr.heap.size ∧ lv.ownBlock ≠ some x
  v : ∀ x, lv.ownBlock = some x → z + 1 ≤ x ∧ x < wr.heap.size
  below : Below q w wr
  size : z + 1 ≤ wr.heap.size
  all : (l.take j).all rT = true
/-- A part of a message: a name, a number, bytes, a truth, a ticket, tickets. -/
inductive Pt where
  | s (l : List UInt8)
  | n (x : Int)
  | b (l : List UInt8)
  | t (x : Bool)
  | i (t : List UInt8 × List UInt8)
  | x (l : List (List UInt8 × List UInt8))
inductive Kd where | s | n | b | t | i | x
abbrev St : Type := List Tv × Bool × Bool
def stepS (k : Kd) (st : St) : Pt × St :=
  match k with
  | .s => (.s (nameS st.1 st.2.1).1, (nameS st.1 st.2.1).2.1, (nameS st.1 st.2.1).2.2, st.2.2)
  | .n => (.n (numS st.1 st.2.1).1, (numS st.1 st.2.1).2.1, (numS st.1 st.2.1).2.2, st.2.2)
  | .b => (.b (bytesS st.1 st.2.1).1, (bytesS st.1 st.2.1).2.1, (bytesS st.1 st.2.1).2.2, st.2.2)
  | .t => (.t (truthS st.1 st.2.1).1, (truthS st.1 st.2.1).2.1, (truthS st.1 st.2.1).2.2, st.2.2)
  | .i => (.i (tickS st.1 st.2.1 st.2.2).1, (tickS st.1 st.2.1 st.2.2).2)
  | .x => (.x (extraS st.1 st.2.1 st.2.2).1, (extraS st.1 st.2.1 st.2.2).2)
def runS : List Kd → St → List Pt × St
  | [], st => ([], st)
  | k :: ks, st => ((stepS k st).1 :: (runS ks (stepS k st).2).1, (runS ks (stepS k st).2).2)
def shapeS (t : Int) : List Kd :=
  if t = 11 then [.s, .n, .n, .b] else if t = 12 then [.s, .i, .b] else if t = 13 then [.s, .n, .n, .t, .t, .i, .b, .x] else if t = 14 then [.s, .i, .b]
  else if t = 15 then [.s, .s, .n] else if t = 16 then [.s, .s, .n, .i] else if t = 17 then [.s, .s, .n, .i, .b] else if t = 18 then [.s, .s, .n, .b]
  else if t = 19 then [.s, .s, .n, .n, .n, .b] else if t = 20 then [.s, .n, .n, .t, .i, .b] else if t = 21 then [.s, .b] else if t = 22 then [.s, .n, .n] else []
def typM (t : Int) : TypeId :=
  if t = 11 then 82 else if t = 12 then 91 else if t = 13 then 87 else if t = 14 then 92
  else if t = 15 then 54 else if t = 16 then 94 else if t = 17 then 96 else if t = 18 then 98
  else if t = 19 then 100 else if t = 20 then 89 else if t = 21 then 102 else 104
/-- The parts of the message that a value is. -/
def ofS (x : Tv) : Option (List Pt) :=
  if x.kind = 2 ∧ (shapeS x.tag).isEmpty = false ∧ (runS (shapeS x.tag) (x.l, false, false)).2.2.2 = false ∧ (runS (shapeS x.tag) (x.l, false, false)).2.2.1 = false ∧ (runS (shapeS x.tag) (x.l, false, false)).2.1.isEmpty = true
  then some (runS (shapeS x.tag) (x.l, false, false)).1 else none
/-- A part's cells. -/
def PtV (w : World) (F : Nat → Prop) : Pt → List Value → Prop
  | .s l, cs => cs = [.string (tx l)]
  | .n x, cs => cs = [.int .i64 x]
  | .b l, cs => ∃ v, cs = [v] ∧ Bs w v l ∧ (0 < l.length → ∀ y, v.ownBlock = some y → F y)
  | .t x, cs => cs = [.bool x]
  | .i t, cs => ∃ bv, cs = [.string (tx t.1), bv] ∧ Bs w bv t.2 ∧ (0 < t.2.length → ∀ y, bv.ownBlock = some y → F y)
  | .x l, cs => ∃ v, cs = [v] ∧ TksV w F l v
def PtsV (w : World) (F : Nat → Prop) : List Pt → List Value → Prop
  | [], cs => cs = []
  | p :: l, cs => ∃ a b, cs = a ++ b ∧ PtV w F p a ∧ PtsV w F l b
def notX : Pt → Bool | .x _ => false | _ => true
theorem PtV.keep {w w' : World} {F S : Nat → Prop} (hk : Keeps S w w') (hs : ∀ b, F b → b < w.heap.size → ¬ S b) : ∀ {p : Pt} {cs : List Value}, notX p = true → PtV w F p cs → PtV w' F p cs
  | .s _, _, _, h => h
  | .n _, _, _, h => h
  | .t _, _, _, h => h
  | .b l, _, _, ⟨v, e, h1, h2⟩ => ⟨v, e, h1.keepF hk h2 hs, h2⟩
  | .i t, _, _, ⟨v, e, h1, h2⟩ => ⟨v, e, h1.keepF hk h2 hs, h2⟩
  | .x _, _, hn, _ => by simp [notX] at hn
theorem PtV.below {w w' : World} {F : Nat → Prop} (hb : Below w.heap.size w w') : ∀ {p : Pt} {cs : List Value}, PtV w F p cs → PtV w' F p cs
  | .s _, _, h => h
  | .n _, _, h => h
  | .t _, _, h => h
  | .b l, _, ⟨v, e, h1, h2⟩ => ⟨v, e, h1.below hb, h2⟩
  | .i t, _, ⟨v, e, h1, h2⟩ => ⟨v, e, h1.below hb, h2⟩
  | .x _, _, ⟨v, e, rows, h1, h2⟩ => ⟨v, e, rows, h1.below hb, h2.below hb⟩
theorem PtsV.keep {w w' : World} {F S : Nat → Prop} (hk : Keeps S w w') (hs : ∀ b, F b → b < w.heap.size → ¬ S b) : ∀ {l : List Pt} {cs : List Value}, l.all notX = true → PtsV w F l cs → PtsV w' F l cs
  | [], _, _, h => h
  | p :: l, _, hn, ⟨a, b, e, h1, h2⟩ => by
    simp only [List.all_cons, Bool.and_eq_true] at hn
    exact ⟨a, b, e, h1.keep hk hs hn.1, PtsV.keep hk hs hn.2 h2⟩
theorem PtsV.below {w w' : World} {F : Nat → Prop} (hb : Below w.heap.size w w') : ∀ {l : List Pt} {cs : List Value}, PtsV w F l cs → PtsV w' F l cs
  | [], _, h => h
  | p :: l, _, ⟨a, b, e, h1, h2⟩ => ⟨a, b, e, h1.below hb, PtsV.below hb h2⟩
theorem PtsV.snoc {w : World} {F : Nat → Prop} : ∀ {l : List Pt} {cs : List Value} {p : Pt} {c : List Value}, PtsV w F l cs → PtV w F p c → PtsV w F (l ++ [p]) (cs ++ c)
  | [], cs, p, c, h, hp => by
    rw [show cs = [] from h]
    exact ⟨c, [], by simp, hp, rfl⟩
  | q :: l, cs, p, c, ⟨a, b, e, h1, h2⟩, hp => by
    subst e
    exact ⟨a, b ++ c, by simp, h1, PtsV.snoc h2 hp⟩
/-- A message in memory: a struct of its type. -/
def MsgV (w : World) (F : Nat → Prop) (t : Int) (l : List Pt) (v : Value) : Prop := ∃ cs, v = .iface (typM t) (.agg cs.toArray) ∧ PtsV w F l cs
theorem MsgV.below {w w' : World} {F : Nat → Prop} {t : Int} {l : List Pt} {v : Value} (h : MsgV w F t l v) (hb : Below w.heap.size w w') : MsgV w' F t l v := by
  obtain ⟨cs, e, h⟩ := h
  exact ⟨cs, e, h.below hb⟩
theorem Tkn.hs {w : World} {F : Nat → Prop} {pm p : Nat} {rem : List Tv} {bad bad2 : Bool} (h : Tkn w F pm p rem bad bad2) : ∀ b, F b → b < w.heap.size → ¬ Sm pm p w.heap.size b := fun b hb hl e => by
  rcases e with e | e | e
  · exact h.2.1.notF (by rw [← e]; exact hb)
  · exact h.2.2.2.1 (by rw [← e]; exact hb)
  · omega
theorem Tkn.drew {w : World} {F : Nat → Prop} {pm p : Nat} {rem : List Tv} {bad bad2 : Bool} (h : Tkn w F pm p rem bad bad2) : Tkn w.drew F pm p rem bad bad2 := h.below (Below.refl _ _).drew
theorem Tkn.ptr {w : World} {F : Nat → Prop} {pm p : Nat} {rem : List Tv} {bad bad2 : Bool} (h : Tkn w F pm p rem bad bad2) : w.cell? ⟨pm, 0, none⟩ = some (.pointer (some ⟨p, 0, none⟩)) := h.1.cell 0
theorem tkRes {w w' : World} {F : Nat → Prop} {pm p : Nat} {rem : List Tv} {bad bad2 : Bool} (h : Tkn w F pm p rem bad bad2) {v : Value} {r : List Tv × Bool} {e : Ending} (k : TkRes w F p v r e w') : TknRes w F pm p (r.1, r.2, bad2) e v w' :=
  ⟨k.1, h.step k.2.1 k.2.2, sm_tk (Nat.le_refl _) k.2.2⟩
theorem nameK_any (rem : List Tv) (bad bad2 : Bool) (pm p : Nat) (F : Nat → Prop) (w : World) (h : Tkn w F pm p rem bad bad2) :
    Calls Try.prog 44 #[.pointer (some ⟨p, 0, none⟩)] w fun e w' => TknRes w F pm p ((nameS rem bad).2.1, (nameS rem bad).2.2, bad2) e (.string (tx (nameS rem bad).1)) w' :=
  (name_any rem bad p F w h.2.1).mono fun _ _ k => tkRes h k
theorem numK_any (rem : List Tv) (bad bad2 : Bool) (pm p : Nat) (F : Nat → Prop) (w : World) (h : Tkn w F pm p rem bad bad2) :
    Calls Try.prog 45 #[.pointer (some ⟨p, 0, none⟩)] w fun e w' => TknRes w F pm p ((numS rem bad).2.1, (numS rem bad).2.2, bad2) e (.int .i64 (numS rem bad).1) w' :=
  (num_any rem bad p F w h.2.1).mono fun _ _ k => tkRes h k
theorem truthK_any (rem : List Tv) (bad bad2 : Bool) (pm p : Nat) (F : Nat → Prop) (w : World) (h : Tkn w F pm p rem bad bad2) :
    Calls Try.prog 48 #[.pointer (some ⟨p, 0, none⟩)] w fun e w' => TknRes w F pm p ((truthS rem bad).2.1, (truthS rem bad).2.2, bad2) e (.bool (truthS rem bad).1) w' :=
  (truth_any rem bad p F w h.2.1).mono fun _ _ k => tkRes h k
theorem bytesK_any (rem : List Tv) (bad bad2 : Bool) (pm p : Nat) (F : Nat → Prop) (w : World) (h : Tkn w F pm p rem bad bad2) :
    Calls Try.prog 46 #[.pointer (some ⟨p, 0, none⟩)] w fun e w' => ∃ v, TknRes w F pm p ((bytesS rem bad).2.1, (bytesS rem bad).2.2, bad2) e v w' ∧ Bs w' v (bytesS rem bad).1 ∧ (0 < (bytesS rem bad).1.length → ∀ y, v.ownBlock = some y → F y) :=
  (bytes_any rem bad p F w h.2.1).mono fun _ _ ⟨v, k, h1, h2⟩ => ⟨v, tkRes h k, h1, h2⟩
theorem nextS_sub {k : Int} {rem : List Tv} {bad : Bool} : ∀ y ∈ (nextS k rem bad).2.1, y ∈ rem := by
  intro y hy
  unfold nextS at hy
  split at hy
  · simp at hy
  · split at hy
    · exact List.mem_cons_of_mem _ hy
    · simp at hy
theorem partS_sub {k : Int} {rem : List Tv} {bad : Bool} : ∀ y ∈ (partS k rem bad).2.1, y ∈ rem := by
  intro y hy
  unfold partS at hy
  split at hy
  · simp at hy
  · split at hy
    · exact List.mem_cons_of_mem _ hy
    · simp at hy
theorem nameS_sub {rem : List Tv} {bad : Bool} : ∀ y ∈ (nameS rem bad).2.1, y ∈ rem := nextS_sub
theorem bytesS_sub {rem : List Tv} {bad : Bool} : ∀ y ∈ (bytesS rem bad).2.1, y ∈ rem := nextS_sub
theorem truthS_sub {rem : List Tv} {bad : Bool} : ∀ y ∈ (truthS rem bad).2.1, y ∈ rem := nextS_sub
theorem numS_sub {rem : List Tv} {bad : Bool} : ∀ y ∈ (numS rem bad).2.1, y ∈ rem := by
  intro y hy
  unfold numS at hy
  split at hy <;> exact nextS_sub y hy
theorem tickS_sub {rem : List Tv} {bad bad2 : Bool} : ∀ y ∈ (tickS rem bad bad2).2.1, y ∈ rem := by
  intro y hy
  unfold tickS at hy
  split at hy <;> exact partS_sub y hy
end Go.Proofs.Ytofmkkcbfeadgaa
