/- Contracts: Book: NewBook, Find, Set. -/
import Derived.Test.YtclonbojpcgngaaBookP
import Derived.Test.YtclonbojpcgngaaMapT
import Derived.Test.YtclonbojpcgngaaRes
import Derived.Test.YtclonbojpcgngaaName2
import Derived.Sort.MapsRangeIn
import Derived.Deep.DeepCutAuto
namespace Go.Proofs.Ytclonbojpcgngaa
set_option linter.unusedSimpArgs false
set_option linter.unusedVariables false
open Go.RowKit Go.Maps Go.MapKept Go.WideMaps

theorem strK : Maps.Keyed Try.prog 9 := Maps.string_keyed Try.underlying9
theorem ownsMap_tight {w : World} {b n : Nat} {D : DataW Unit} (h : w.ownsMap Try.prog 9 (plainElem (H := Unit) Try.prog 2) b n D) : w.ownsMap Try.prog 9 (plainElem (H := Unit) Try.prog 2) b (Maps.size D) D := by
  obtain ⟨es, clock, h1, h2, h3, rfl⟩ := h
  exact ⟨es, clock, h1, h2, by rw [Maps.size_eq, length_read]; exact Nat.le_refl _, rfl⟩

/-- A map, in memory. -/
def mapR (b : Nat) (D : DataW Unit) : Res where
  holds W F := W.ownsMap Try.prog 9 (plainElem (H := Unit) Try.prog 2) b (Maps.size D) D ∧ ∀ x, F x ↔ x = b
  frame := by
    rintro W W' F S ⟨h, hf⟩ hk hs
    exact ⟨ownsMap_keep h hk (hs b ((hf b).2 rfl)), hf⟩
  lt := by
    rintro W F x ⟨⟨es, clock, h1, _⟩, hf⟩ hx
    rw [(hf x).1 hx]
    exact block_lt h1
theorem Hold.mapOf {W : World} {l : List Res} (h : Hold W l) {b : Nat} {D : DataW Unit} (hm : mapR b D ∈ l) : W.ownsMap Try.prog 9 (plainElem (H := Unit) Try.prog 2) b (Maps.size D) D := by
  obtain ⟨F, hr⟩ := h.get hm
  exact hr.1
theorem Hold.mapTurn {W W' : World} {l : List Res} {b n : Nat} {D D' : DataW Unit} (h : Hold W (mapR b D :: l)) (ho : W'.ownsMap Try.prog 9 (plainElem (H := Unit) Try.prog 2) b n D') (ht : W.mapTurned W' b) : Hold W' (mapR b D' :: l) :=
  h.turn fun F hF => ⟨F, ⟨ownsMap_tight ho, hF.2⟩, fun b hb => .inl hb, (keeps_grown ht.grown).mono fun k hk => hk.elim (fun e => .inl ((hF.2 k).2 e)) .inr⟩

/-- A book, in memory. -/
def bookR (p : Nat) (M : List En) : Res := .ex fun b => .ex fun D => .ex fun (_ : PLift (BookL D M)) => .all [.blk p [.map (some b)] 73, mapR b D]
theorem bookR_open {W : World} {p : Nat} {M : List En} {l : List Res} (h : Hold W (bookR p M :: l)) : ∃ b D, BookL D M ∧ Hold W (.blk p [.map (some b)] 73 :: mapR b D :: l) := by
  obtain ⟨b, h⟩ := Hold.ex.1 h
  obtain ⟨D, h⟩ := Hold.ex.1 h
  obtain ⟨⟨hd⟩, h⟩ := Hold.ex.1 h
  exact ⟨b, D, hd, Hold.app.1 h⟩
theorem bookR_shut {W : World} {p b : Nat} {D : DataW Unit} {M : List En} {l : List Res} (hd : BookL D M) (h : Hold W (.blk p [.map (some b)] 73 :: mapR b D :: l)) : Hold W (bookR p M :: l) :=
  Hold.ex.2 ⟨b, Hold.ex.2 ⟨D, Hold.ex.2 ⟨⟨hd⟩, Hold.app.2 h⟩⟩⟩

set_option maxRecDepth 100000 in
theorem newBook_any (l : List Res) (w : World) (h : Hold w l) : Calls Try.prog 17 #[] w fun e w' => ∃ p, e = .returned (.pointer (some ⟨p, 0, none⟩)) ∧ Hold w' (bookR p [] :: l) := by
  have h1 : Hold (w.alloc (.map #[] 0)) (mapR w.heap.size (.map []) :: l) := h.new ((Below.refl _ _).alloc (Nat.le_refl _) _) (F := fun x => x = w.heap.size) ⟨World.ownsMap_made w Try.prog 9 (plainElem (H := Unit) Try.prog 2), fun _ => Iff.rfl⟩ (fun b hb => by omega)
  have HC := Lib.hid (bookR_shut BookL.nil (h1.addBlkAt [.map (some w.heap.size)] 73 (b := w.heap.size + 1) (by simp)))
  clear h h1
  go_enter Try.func17, Try.ntmps17
  have hmm := @run_makeMap Try.prog
  go_wp2_with fail
  go_ret
  exact ⟨_, rfl, HC.out⟩

theorem zI (w : World) : (zeroValue 2).run Try.prog w = .ok (.int .i64 0) w := by kernel_rfl
set_option maxRecDepth 100000 in
set_option maxHeartbeats 1000000 in
theorem find_any (p : Nat) (M : List En) (now : Int) (s : ByteArray) (l : List Res) (w : World) (h : Hold w (bookR p M :: l)) (hs : s.size ≤ maxLen) :
    Calls Try.prog 20 #[.pointer (some ⟨p, 0, none⟩), .int .i64 now, .string s] w fun e w' => e = .returned (.tuple #[.int .i64 (findB M now s).1, .bool (findB M now s).2]) ∧ w = w' := by
  obtain ⟨b, D, hd, h⟩ := bookR_open h
  have c0 : w.cell? ⟨p, 0, none⟩ = some (.map (some b)) := (h.blkOf (List.mem_cons_self)).cell 0
  have HM := Lib.hid (h.mapOf (b := b) (D := D) (by simp))
  have HK := Lib.hid (keyOf_string_mk Try.underlying9 hs)
  have HD := Lib.hid hd
  clear h hd hs
  go_enter Try.func20, Try.ntmps20
  go_wp2_with (at_lookup; refine wpList_lookup_own_ok_int _ rfl _ _ _ rfl 9 2 .i64 strK Try.underlying71 Try.underlying2 (zI _) b _ D rfl HM.out _ (nmL s) rfl HK.out ?_)
  intro c hat hwf
  rw [HD.out.has s]
  obtain ⟨B, hB⟩ : ∃ B, B = hasB M s := ⟨_, rfl⟩
  rw [← hB]
  cases B with
  | false =>
    have HF : Hid (findB M now s = (0, false)) := Lib.hid (by rw [findB, if_pos (.inl hB.symm)])
    clear hat hwf
    have HB := Lib.hid hB
    clear hB
    go_wp2_with fail
    go_ret2
    rw [HF.out]
    exact ⟨rfl, rfl⟩
  | true =>
    have hc : c = tillB M s := by
      have := HD.out.at (tillB_mem hB.symm) (.lit (.int .i64 0))
      simp only at this
      rw [this] at hat
      simpa using hat.symm
    have HB := Lib.hid hB
    subst hc
    clear hat hwf hB
    obtain ⟨t, ht⟩ : ∃ t, t = tillB M s := ⟨_, rfl⟩
    rw [← ht]
    have HT := Lib.hid ht
    clear ht
    by_cases hle : t ≤ now
    · have HF : Hid (findB M now s = (0, false)) := Lib.hid (by rw [findB, if_pos (.inr (by rw [← HT.out]; exact hle))])
      go_wp2_with fail
      go_ret2
      rw [HF.out]
      exact ⟨rfl, rfl⟩
    · have HF : Hid (findB M now s = (t, true)) := Lib.hid (by rw [findB, if_neg (by rw [← HT.out, ← HB.out]; simp; omega), HT.out])
      go_wp2_with fail
      go_ret2
      rw [HF.out]
      exact ⟨rfl, rfl⟩

/-- A map over which a loop goes. -/
def rngR (b r n : Nat) (D : DataW Unit) (left : Lit → Bool) (cnt : Nat) : Res where
  holds W F := W.ranges Try.prog 9 (plainElem (H := Unit) Try.prog 2) b r n D left cnt ∧ ∀ x, F x ↔ x = b ∨ x = r
  frame := by
    rintro W W' F S ⟨⟨es, clock, since, seen, c0, h1, h2, h3, h4, h5, h6⟩, hf⟩ hk hs
    exact ⟨⟨es, clock, since, seen, c0, by rw [hk.block b (hs b ((hf b).2 (.inl rfl)))]; exact h1, h2, h3, h4, by rw [hk.block r (hs r ((hf r).2 (.inr rfl)))]; exact h5, h6⟩, hf⟩
  lt := by
    rintro W F x ⟨h, hf⟩ hx
    rcases (hf x).1 hx with rfl | rfl
    · obtain ⟨es, clock, since, seen, c0, h1, _⟩ := h
      exact block_lt h1
    · exact h.lt
theorem Hold.rngOf {W : World} {l : List Res} {b r n : Nat} {D : DataW Unit} {left : Lit → Bool} {cnt : Nat} (h : Hold W (rngR b r n D left cnt :: l)) : W.ranges Try.prog 9 (plainElem (H := Unit) Try.prog 2) b r n D left cnt := by
  obtain ⟨F, hr⟩ := h.head
  exact hr.1
theorem Hold.rngTurn {W W' : World} {l : List Res} {b r n n' : Nat} {D D' : DataW Unit} {left left' : Lit → Bool} {cnt cnt' x : Nat} (h : Hold W (rngR b r n D left cnt :: l)) (hr : W'.ranges Try.prog 9 (plainElem (H := Unit) Try.prog 2) b r n' D' left' cnt') (hg : W.grownBy W' (some x)) (hx : x = b ∨ x = r) : Hold W' (rngR b r n' D' left' cnt' :: l) :=
  h.turn fun F hF => ⟨F, ⟨hr, hF.2⟩, fun b hb => .inl hb, (keeps_grown hg).mono fun k hk => hk.elim (fun e => .inl ((hF.2 k).2 (by rw [e]; exact hx))) .inr⟩
theorem Hold.rngStart {W W' : World} {l : List Res} {b n : Nat} {D : DataW Unit} {left : Lit → Bool} {cnt : Nat} (h : Hold W (mapR b D :: l)) (hr : W'.ranges Try.prog 9 (plainElem (H := Unit) Try.prog 2) b W.heap.size n D left cnt) (hg : W.grownBy W' none) : Hold W' (rngR b W.heap.size n D left cnt :: l) :=
  h.turn fun F hF => ⟨fun x => x = b ∨ x = W.heap.size, ⟨hr, fun _ => Iff.rfl⟩, fun x hx => hx.elim (fun e => .inl ((hF.2 x).2 e)) (fun e => .inr (by rw [e]; exact Nat.le_refl _)), (keeps_grown (b := W.heap.size) (hg.but _)).mono fun k hk => .inr (hk.elim (fun e => by rw [e]; exact Nat.le_refl _) id)⟩
theorem Hold.rngEnd {W : World} {l : List Res} {b r n : Nat} {D : DataW Unit} {left : Lit → Bool} {cnt : Nat} (h : Hold W (rngR b r n D left cnt :: l)) : Hold W (mapR b D :: l) :=
  h.weaken fun F hF => ⟨fun x => x = b, ⟨ownsMap_tight hF.1.owns, fun _ => Iff.rfl⟩, fun x hx => (hF.2 x).2 (.inl hx)⟩

/-- 'len' of a map, guarded or not. -/
theorem wpList_lenG {P : Program} {ops : Array Oper} {rest : List Oper} {o : Oper} {a : Act} {w : World} {Q : Exit → Act → World → Prop} (hgd : Region.wanted o (yielded ops a.tmps) = true) (m : Operand) (t : TypeId) (hop : o.op = Op.call { callee := Callee.builtin Builtin.len, args := #[m], argTypes := #[t] })
    (k e : TypeId) (ht : P.underlying t = some (.map k e)) (R : Value → Option (DataW Unit × List MemPlace)) (b n : Nat) (D : DataW Unit) (hm : a.eval m = .map (some b)) (hown : w.ownsMap P k R b n D)
    (h : wpList P ops Q rest (a.put o.dst (.int .i64 (Maps.size D))) w) : wpList P ops Q (o :: rest) a w := by
  refine wpList_want hgd fun K' hK' => ?_
  unfold Oper.wp
  simp [execOp, hop, resolve, invoke, builtin, hm, hown.len ht o.type, Result.andThen]
  exact hK' _ _ h

/-- The book behind an entry, and the error's number. -/
def setB (M : List En) (now : Int) (s : ByteArray) (till : Int) : List En × Int :=
  if rightB s = false then (M, 6) else if till ≤ now then (wipeB M s, 12) else if hasB (liveB M now) s = false ∧ (liveB M now).length = 32 then (liveB M now, 8) else (wipeB (liveB M now) s ++ [(s, till)], 0)

set_option maxRecDepth 100000 in
set_option maxHeartbeats 4000000 in
theorem set_any (p : Nat) (M : List En) (now : Int) (s : ByteArray) (till : Int) (l : List Res) (w : World) (h : Hold w (bookR p M :: l)) (hs : s.size ≤ maxLen) (hM : M.length ≤ 1000) (ht : (Lit.int .i64 till).wf = true) :
    Calls Try.prog 19 #[.pointer (some ⟨p, 0, none⟩), .int .i64 now, .string s, .int .i64 till] w fun e w' => e = .returned (.int .i64 (setB M now s till).2) ∧ Hold w' (bookR p (setB M now s till).1 :: l) := by
  have HK := Lib.hid (keyOf_string_mk Try.underlying9 hs)
  have HR0 := Lib.hid (right_any s w hs)
  have HC0 := Lib.hid h
  have HTW := Lib.hid ht
  clear h hs ht
  go_enter Try.func19, Try.ntmps19
  go_wp2_with fail
  refine HR0.out.mono ?_
  rintro e w1 ⟨rfl, hb⟩
  have HC1 := Lib.hid (HC0.out.step hb)
  clear hb HR0 HC0
  obtain ⟨B, hB⟩ : ∃ B, B = rightB s := ⟨_, rfl⟩
  rw [← hB]
  have HB := Lib.hid hB
  clear hB
  cases B with
  | false =>
    have HF : Hid (setB M now s till = (M, 6)) := Lib.hid (by rw [setB, if_pos HB.out.symm])
    go_wp2_with fail
    go_ret
    rw [HF.out]
    exact ⟨rfl, HC1.out⟩
  | true =>
    have HB1 : Hid (¬ rightB s = false) := Lib.hid (by rw [← HB.out]; decide)
    obtain ⟨b, D, hd, h⟩ := bookR_open HC1.out
    have HD := Lib.hid hd
    have HC := Lib.hid h
    have c0 : w1.cell? ⟨p, 0, none⟩ = some (.map (some b)) := (h.blkOf (List.mem_cons_self)).cell 0
    have HM := Lib.hid (h.mapOf (b := b) (D := D) (by simp))
    clear h hd HC1
    by_cases hle : till ≤ now
    · have HF : Hid (setB M now s till = (wipeB M s, 12)) := Lib.hid (by rw [setB, if_neg HB1.out, if_pos hle])
      go_wp2_with (at_delete; refine wpList_delete_own _ rfl _ _ 71 9 rfl 2 strK Try.underlying71 _ b _ D rfl HM.out _ (nmL s) rfl HK.out ?_)
      intro w2 hown hturn
      have HC2 := Lib.hid (HC.out.swap.mapTurn hown hturn)
      clear hown hturn HM
      go_wp2_with fail
      go_ret
      rw [HF.out]
      exact ⟨rfl, bookR_shut (HD.out.del s) HC2.out.swap⟩
    · have hle' : ¬ till ≤ now := hle
      have HLE := Lib.hid hle'
      go_wp2_with (at_range; refine wpList_range_own _ rfl _ 71 rfl 9 2 strK Try.underlying71 _ b _ D rfl HM.out ?_)
      intro w2 hrg hg hsz
      have HC2 := Lib.hid (HC.out.swap.rngStart hrg hg)
      obtain ⟨r, hr⟩ : ∃ r, r = w1.heap.size := ⟨_, rfl⟩
      obtain ⟨left0, hl0⟩ : ∃ left0, left0 = Maps.has D := ⟨_, rfl⟩
      rw [← hr, ← hl0] at HC2
      rw [← hr]
      have HL0 : Hid (∀ x ∈ M, left0 (nmL x.1) = true) := Lib.hid (fun x hx => by
        rw [hl0, HD.out.has]
        exact List.any_eq_true.2 ⟨x, hx, by simp⟩)
      clear hrg hg hsz HM HC hr hl0 hle'
      have HB0 : Hid (BookL D (M.filter fun x => decide (now < x.2) || left0 (nmL x.1))) := Lib.hid (by
        rw [List.filter_eq_self.2 fun x hx => by rw [HL0.out x hx]; simp]
        exact HD.out)
      go_wp2_with fail
      go_loopw [] (fun wr => ∃ (D' : DataW Unit) (left : Lit → Bool) (cnt : Nat), BookL D' (M.filter fun x => decide (now < x.2) || left (nmL x.1)) ∧ Hold wr (rngR b r (Maps.size D) D' left cnt :: .blk p [.map (some b)] 73 :: l)) (fun wr => wr.rangeLeft b r)
      case atStart => exact ⟨D, left0, _, HB0.out, HC2.out⟩
      case round =>
        obtain ⟨D', left, cnt, hbk, hr⟩ := hrel
        have HBK := Lib.hid hbk
        have HR := Lib.hid hr
        have hrg := hr.rngOf
        have k0 : wr.cell? ⟨p, 0, none⟩ = some (.map (some b)) := (hr.blkOf (p := p) (cs := [.map (some b)]) (T := 73) (by simp)).cell 0
        clear hr hbk HC2 HL0 HB0
        go_wp2_with (at_next; refine wpList_next_ranges _ rfl _ rfl 9 strK _ Value.string (Value.int .i64) (fun key kl h => Maps.keyOf_string_inv Try.underlying9 h) (fun v y hv => by obtain ⟨c, rfl, _⟩ := plainElem_int_inv Try.underlying2 hv; exact ⟨c, rfl⟩) b r _ D' left cnt rfl hrg ?_ ?_)
        · intro hc0 hl0
          have hlv : (M.filter fun x => decide (now < x.2) || left (nmL x.1)) = liveB M now := by
            unfold liveB
            apply List.filter_congr
            intro x _
            rw [hl0, Bool.or_false]
          have hbk := HBK.out
          rw [hlv] at hbk
          have HLV := Lib.hid hbk
          have HE := Lib.hid HR.out.rngEnd
          have HM := Lib.hid (HE.out.mapOf (b := b) (D := D') (by simp))
          clear hlv hbk hrg hc0 hl0 HBK HR
          go_wp2_with (at_lookup; refine wpList_lookup_own_ok_int _ rfl _ _ _ rfl 9 2 .i64 strK Try.underlying71 Try.underlying2 (zI _) b _ D' rfl HM.out _ (nmL s) rfl HK.out ?_)
          intro c hat hwf
          rw [HLV.out.has s]
          clear hat hwf
          obtain ⟨V, hV⟩ : ∃ V, V = hasB (liveB M now) s := ⟨_, rfl⟩
          rw [← hV]
          have HV := Lib.hid hV
          have hsz := HLV.out.size
          have hml : (liveB M now).length ≤ M.length := List.length_filter_le _ _
          have HMU : Hid (Maps.size D' < maxLen) := Lib.hid (by rw [hsz]; unfold maxLen; omega)
          by_cases hfull : V = false ∧ (liveB M now).length = 32
          · have HF : Hid (setB M now s till = (liveB M now, 8)) := Lib.hid (by rw [setB, if_neg HB1.out, if_neg (Int.not_le.2 HLE.out), if_pos ⟨by rw [← HV.out]; exact hfull.1, hfull.2⟩])
            obtain ⟨rfl, h32⟩ := hfull
            have hs32 : ((Maps.size D' : Nat) : Int) == 32 := by rw [hsz, h32]; rfl
            have HS := Lib.hid hsz
            clear hsz hV h32
            go_wp2_with ((with_reducible show wpList _ _ _ (⟨some 58, _, _, _, _, _⟩ :: _) _ _); refine wpList_lenG rfl _ _ rfl 9 2 Try.underlying71 _ b _ D' rfl HM.out ?_)
            go_ret
            rw [HF.out]
            exact ⟨rfl, bookR_shut HLV.out HE.out.swap⟩
          · have HF : Hid (setB M now s till = (wipeB (liveB M now) s ++ [(s, till)], 0)) := Lib.hid (by rw [setB, if_neg HB1.out, if_neg (Int.not_le.2 HLE.out), if_neg (by rw [← HV.out]; exact hfull)])
            have hs32 : V = false → (((Maps.size D' : Nat) : Int) == 32) = false := fun hv => by
              rw [hsz]
              simp only [beq_eq_false_iff_ne, ne_eq]
              intro e
              exact hfull ⟨hv, by omega⟩
            have HS32 := Lib.hid hs32
            clear hfull hsz hV hs32
            cases V with
            | true =>
              go_wp2_with (at_mapUpdate; refine wpList_mapUpdate_in _ rfl _ _ _ 71 rfl 9 2 strK Try.underlying71 _ b _ D' rfl HM.out HMU.out _ _ (nmL s) rfl rfl HK.out (.lit (.int .i64 till)) [] (plainElem_int Try.underlying2 HTW.out) ?_)
              intro w5 hown hturn
              have HC5 := Lib.hid (HE.out.mapTurn hown hturn)
              clear hown hturn HM
              go_wp2_with fail
              go_ret
              rw [HF.out]
              exact ⟨rfl, bookR_shut (HLV.out.put s till) HC5.out.swap⟩
            | false =>
              have hs32 := HS32.out rfl
              go_wp2_with (first | ((with_reducible show wpList _ _ _ (⟨some 58, _, _, _, _, _⟩ :: _) _ _); refine wpList_lenG rfl _ _ rfl 9 2 Try.underlying71 _ b _ D' rfl HM.out ?_) | (at_mapUpdate; refine wpList_mapUpdate_in _ rfl _ _ _ 71 rfl 9 2 strK Try.underlying71 _ b _ D' rfl HM.out HMU.out _ _ (nmL s) rfl rfl HK.out (.lit (.int .i64 till)) [] (plainElem_int Try.underlying2 HTW.out) ?_))
              intro w5 hown hturn
              have HC5 := Lib.hid (HE.out.mapTurn hown hturn)
              clear hown hturn HM
              go_wp2_with fail
              go_ret
              rw [HF.out]
              exact ⟨rfl, bookR_shut (HLV.out.put s till) HC5.out.swap⟩
        · intro x c kl y ps w3 cnt3 hkx hlk hv hat hrg3 hlt3 hg3 hs3 hen
          have hkl : kl = nmL x := by
            simp [keyOf, Try.underlying9, mapKey] at hkx
            exact hkx.2.symm
          subst hkl
          obtain ⟨c', he1, he2, hwc⟩ := plainElem_int_inv Try.underlying2 hv
          simp only [Value.int.injEq, true_and] at he1
          subst he1
          have hy : y = .lit (.int .i64 c) := congrArg Prod.fst he2
          subst hy
          have hin : hasB (M.filter fun x => decide (now < x.2) || left (nmL x.1)) x = true := by
            cases hh : hasB (M.filter fun x => decide (now < x.2) || left (nmL x.1)) x with
            | true => rfl
            | false =>
              have := HBK.out.none hh (.map [])
              rw [hat] at this
              cases this
          have hmem := tillB_mem hin
          have htc : tillB (M.filter fun x => decide (now < x.2) || left (nmL x.1)) x = c := by
            have := HBK.out.at hmem (.map [])
            simp only at this
            rw [hat] at this
            simpa using this.symm
          rw [htc] at hmem
          have hmM : (x, c) ∈ M := (List.mem_filter.1 hmem).1
          have HONE : Hid (∀ y ∈ M, y.1 = x → y = (x, c)) := Lib.hid (fun y hy he => pair_inj HD.out.1 hy hmM he)
          have HR3 := Lib.hid (HR.out.rngTurn hrg3 hg3 (.inr rfl))
          have k3 : w3.cell? ⟨p, 0, none⟩ = some (.map (some b)) := (HR3.out.blkOf (p := p) (cs := [.map (some b)]) (T := 73) (by simp)).cell 0
          have HQ : Hid (True ∧ cnt3 < cnt) := Lib.hid ⟨trivial, hlt3⟩
          have HLE0 := Lib.hid hrg.left_eq
          have HLE3 := Lib.hid hrg3.left_eq
          by_cases hcn : c ≤ now
          · have HCN := Lib.hid hcn
            have HHK := Lib.hid hkx
            have HRG3 := Lib.hid hrg3
            clear hat hv hin hmem htc hmM hrg hrg3 hg3 hs3 he2 hwc hkx
            go_wp2_with (at_delete; refine wpList_delete_ranges _ rfl _ _ 71 9 rfl 2 strK Try.underlying71 _ b r _ D' _ cnt3 rfl HRG3.out _ (nmL x) rfl HHK.out ?_)
            intro w4 cnt4 hrg4 hle4 hturn4
            have HR4 := Lib.hid (HR3.out.rngTurn hrg4 hturn4.grown (.inl rfl))
            have HLE4 := Lib.hid hrg4.left_eq
            clear hrg4 hturn4
            go_wp2_with fail
            go_roundw
            case rel => exact ⟨_, _, _, HBK.out.filter_eq (s := x) _ _ (fun y hy => by
              by_cases hyx : y.1 = x
              · have := HONE.out y hy hyx
                subst this
                have h1 : ¬ now < c := by have := HCN.out; omega
                simp [h1, nmL_same]
              · simp [nmL_same, hyx]), HR4.out⟩
            case measure => rw [HLE4.out, HLE0.out]; have := HQ.out.2; omega
          · have HCN := Lib.hid hcn
            clear hat hv hin hmem htc hmM hrg hrg3 hg3 hs3 he2 hwc hkx
            go_wp2_with fail
            go_roundw
            case rel => exact ⟨D', _, _, by
              rw [show (M.filter fun y => decide (now < y.2) || (left (nmL y.1) && !(nmL y.1).sameKey (nmL x))) = M.filter fun y => decide (now < y.2) || left (nmL y.1) from List.filter_congr fun y hy => by
                by_cases hyx : y.1 = x
                · have := HONE.out y hy hyx
                  subst this
                  have h1 : now < c := by have := HCN.out; omega
                  simp [h1]
                · simp [nmL_same, hyx]]
              exact HBK.out, HR3.out⟩
            case measure => rw [HLE3.out, HLE0.out]; exact HQ.out.2
end Go.Proofs.Ytclonbojpcgngaa
