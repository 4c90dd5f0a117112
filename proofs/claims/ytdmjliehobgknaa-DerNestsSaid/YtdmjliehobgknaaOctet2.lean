/- Contracts of package octet, the rest: Key, Joined. -/
import Derived.Test.YtdmjliehobgknaaOctet
import Derived.Test.YtdmjliehobgknaaKeyT
import Derived.Outline
namespace Go.Proofs.Ytdmjliehobgknaa
set_option linter.unusedSimpArgs false
set_option linter.unusedVariables false
open Go.RowKit

/-- Key: the key of sixteen bytes; false, and noughts: there are more, or fewer. -/
def keyB (l : List UInt8) : List UInt8 × Bool := if l.length = 16 then (l, true) else (List.replicate 16 0, false)
theorem keyB_length (l : List UInt8) : (keyB l).1.length = 16 := by unfold keyB; split <;> simp [*]

set_option maxRecDepth 100000 in
theorem key_any (v : Value) (l : List UInt8) (w : World) (h : Bs w v l) :
    Calls Try.prog 47 #[v] w fun e w' => e = .returned (.tuple #[keyV (keyB l).1, .bool (keyB l).2]) ∧ Below w.heap.size w w' := by
  obtain ⟨a, cap, rfl, hcap, hcm⟩ := h.form
  have hbel : Below w.heap.size w ((w.alloc (.cells zs16.toArray 37)).alloc (.cells zs16.toArray 37)) := ((Below.refl _ _).alloc (Nat.le_refl _) _).alloc (by simp) _
  have B0 := Lib.hid (((Blk.new w zs16 37).alloc (.cells zs16.toArray 37)))
  have B1 : Hid (Blk ((w.alloc (.cells zs16.toArray 37)).alloc (.cells zs16.toArray 37)) (w.heap.size + 1) zs16 37) := Lib.hid (Blk.at_ (cs := zs16.toArray) (by simp))
  have HS := Lib.hid ((h.alloc (.cells zs16.toArray 37)).alloc (.cells zs16.toArray 37))
  have HB := Lib.hid hbel
  clear h hbel
  by_cases hl : l.length = 16
  · have hn' : ((l.length : Int) != 16) = false := by rw [hl]; rfl
    have HK : Hid (keyB l = (l, true)) := Lib.hid (by rw [keyB, if_pos hl])
    have HL := Lib.hid hl
    clear hl
    go_enter Try.func47, Try.ntmps47
    go_wp2_with ((with_reducible show wpList _ _ _ (⟨some 11, _, _, _, _, _⟩ :: _) _ _); refine wpList_cp rfl (.tmp 9) (.tmp 10) elBytes rfl rfl B1.out rfl HS.out (by rw [HL.out]; decide) ?_)
    intro w' h1 h2
    have h1' : Blk w' (w.heap.size + 1) (bCells l) 37 := by
      have := h1
      rw [HL.out] at this
      rw [show min 16 16 = 16 from rfl, List.take_of_length_le (by rw [bCells_length, HL.out]; exact Nat.le_refl _)] at this
      simpa [zs16] using this
    have B0' := Lib.hid (B0.out.keep h2 (by omega))
    have HB' : Hid (Below w.heap.size w w') := Lib.hid (HB.out.trans (h2.below (by omega)))
    have hsz : w.heap.size + 1 < w'.heap.size := h1'.lt
    have H1 := Lib.hid h1'
    have HBL : (bCells l).length = 16 := by rw [bCells_length, HL.out]
    have HBL' := Lib.hid HBL
    clear h1 h1' h2 HBL
    go_wp2_with (first | ((with_reducible show wpList _ _ _ (⟨some 12, _, _, _, _, _⟩ :: _) _ _); refine wpList_ldAgg rfl (.tmp 4) aggKey rfl rfl (cs := bCells l) HBL'.out H1.out.cellsAll ?_) | ((with_reducible show wpList _ _ _ (⟨none, .store _ (.tmp 2) (.tmp 12), _, _, _, _⟩ :: _) _ _); refine wpList_stAgg rfl (.tmp 2) (.tmp 12) aggKey rfl rfl (vs := bCells l) rfl HBL'.out B0'.out (Nat.le_refl _) (bCells_one _) ?_))
    intro w2 h3 h4
    have h3' : Blk w2 w.heap.size (bCells l) 37 := by simpa [zs16] using h3
    have H3 := Lib.hid h3'
    have HB2 : Hid (Below w.heap.size w w2) := Lib.hid (HB'.out.trans (h4.below (by omega)))
    clear h3 h3' h4
    go_wp2_with fail
    rw [HK.out]
    exact bodyPost_ret (results_agg_tmp rfl aggKey rfl (cs := bCells l) HBL'.out H3.out.cellsAll) rfl ⟨rfl, HB2.out⟩
  · have hn' : ((l.length : Int) != 16) = true := by rw [bne_iff_ne]; omega
    have HK : Hid (keyB l = (List.replicate 16 0, false)) := Lib.hid (by rw [keyB, if_neg hl])
    clear hl
    go_enter Try.func47, Try.ntmps47
    go_wp2_with (first | ((with_reducible show wpList _ _ _ (⟨some 8, _, _, _, _, _⟩ :: _) _ _); refine wpList_ldAgg rfl (.tmp 4) aggKey rfl rfl (cs := zs16) rfl B1.out.cellsAll ?_) | ((with_reducible show wpList _ _ _ (⟨none, .store _ (.tmp 2) (.tmp 8), _, _, _, _⟩ :: _) _ _); refine wpList_stAgg rfl (.tmp 2) (.tmp 8) aggKey rfl rfl (vs := zs16) rfl rfl B0.out (Nat.le_refl _) (by decide) ?_))
    intro w2 h3 h4
    have h3' : Blk w2 w.heap.size zs16 37 := by simpa [zs16] using h3
    have H3 := Lib.hid h3'
    have HB2 : Hid (Below w.heap.size w w2) := Lib.hid (HB.out.trans (h4.below (by omega)))
    clear h3 h3' h4
    go_wp2_with fail
    rw [HK.out]
    exact bodyPost_ret (results_agg_tmp rfl aggKey rfl (cs := zs16) rfl H3.out.cellsAll) rfl ⟨rfl, HB2.out⟩

/-- Rows of bytes: a slice value whose elements read as these. -/
def Rs (w : World) (v : Value) (rows : List (List UInt8)) : Prop := ∃ vs : List Value, vs.length = rows.length ∧ Sl w 1 v rows.length vs ∧ ∀ (j : Nat) u r, vs[j]? = some u → rows[j]? = some r → Bs w u r

theorem Rs.below {w w' : World} {v : Value} {rows : List (List UInt8)} (h : Rs w v rows) (hb : Below w.heap.size w w') : Rs w' v rows := by
  obtain ⟨vs, h1, h2, h3⟩ := h
  exact ⟨vs, h1, h2.below hb, fun j u r hu hr => (h3 j u r hu hr).below hb⟩

theorem flatten_take_succ (rows : List (List UInt8)) (k : Nat) (h : k < rows.length) : (rows.take (k + 1)).flatten = (rows.take k).flatten ++ rows[k] := by
  rw [List.take_succ_eq_append_getElem h, List.flatten_append, List.flatten_cons, List.flatten_nil, List.append_nil]

theorem flatten_take_le (rows : List (List UInt8)) (k : Nat) : (rows.take k).flatten.length ≤ rows.flatten.length := by
  have h := congrArg (fun l => (List.flatten l).length) (List.take_append_drop k rows)
  simp only [List.flatten_append, List.length_append] at h
  omega

set_option maxRecDepth 100000 in
/-- Joined: rows of bytes, one behind the other, in bytes of the call's own. -/
theorem joined_any (v : Value) (rows : List (List UInt8)) (w : World) (h : Rs w v rows) (hlen : rows.flatten.length ≤ 1099511627776) :
    Calls Try.prog 44 #[v] w fun e w' => ∃ v', e = .returned v' ∧ OwnBs w' w.heap.size v' rows.flatten ∧ Below w.heap.size w w' := by
  obtain ⟨vs, hvl, hsl, hel⟩ := h
  obtain ⟨a, cap, rfl, hcap, hcm⟩ := hsl.form
  unfold maxLen at hcm
  have HSL := Lib.hid hsl
  have HEL := Lib.hid hel
  have HVL := Lib.hid hvl
  clear hsl hel hvl
  go_enter Try.func44, Try.ntmps44
  go_wp2
  go_loopw [3, 8] (fun o i wr => ∃ k : Nat, k ≤ rows.length ∧ i = .int .i64 k ∧ OwnBs wr w.heap.size o (rows.take k).flatten ∧ Below w.heap.size w wr) (fun _ i _ => rows.length - (intOf i).toNat)
  case atStart => exact ⟨0, Nat.zero_le _, rfl, Own.nil _ _ _ _ _, Below.refl _ _⟩
  case round =>
    obtain ⟨k, hk, rfl, hown, hbel⟩ := hrel
    have HO := Lib.hid hown
    clear hown
    have hsz := hbel.size
    have hfl := flatten_take_le rows (k + 1)
    by_cases hlt : k < rows.length
    · obtain ⟨b, off, rfl, hc⟩ := HSL.out.addr (by rw [HVL.out]; omega)
      have hk' : k < vs.length := by rw [HVL.out]; exact hlt
      have hrow : Bs wr vs[k] rows[k] := (HEL.out k _ _ (List.getElem?_eq_getElem hk') (List.getElem?_eq_getElem hlt)).below hbel
      have c0 : wr.cell? ⟨b, off + k, none⟩ = some vs[k] := below_cell hbel (hc k _ (List.getElem?_eq_getElem hk'))
      obtain ⟨L, hL⟩ : ∃ L, (rows.take k).flatten = L := ⟨_, rfl⟩
      have HL := Lib.hid hL
      rw [flatten_take_succ rows k hlt, List.length_append, hL] at hfl
      have hown := HO.out
      rw [hL] at hown
      have HOL := Lib.hid hown
      clear hL hown
      obtain ⟨ak, ck, hvk, _, _⟩ := hrow.form
      rw [hvk] at c0 hrow
      have HR := Lib.hid hrow
      clear hc hrow hvk
      go_wp2_with ((with_reducible show wpList _ _ _ (⟨some 14, _, _, _, _, _⟩ :: _) _ _); refine wpList_app rfl (.tmp 12) (.tmp 13) elBytes rfl w.heap.size HOL.out HR.out (by unfold maxLen; omega) (by omega) hsz ?_)
      intro v' w' h1 h2 h3
      have HO' : Hid (OwnBs w' w.heap.size v' (rows.take (k + 1)).flatten) := by
        refine Lib.hid ?_
        unfold OwnBs
        rw [flatten_take_succ rows k hlt, HL.out, List.length_append, bCells_append]
        exact h1
      have hb2 : Below w.heap.size w w' := hbel.trans (h2.below (by
        intro k' hk'
        rcases hk' with ⟨_, h⟩ | h <;> omega))
      clear h1 h2 h3
      go_wp2_with fail
      go_roundw
      case rel => exact ⟨k + 1, by omega, by go_num, HO'.out, hb2⟩
      case measure => simp [intOf]; omega
    · obtain rfl : k = rows.length := by omega
      have HO' := HO.out
      rw [List.take_length] at HO'
      have HO2 := Lib.hid HO'
      clear HO'
      go_wp2_with fail
      go_ret
      exact ⟨_, rfl, HO2.out, hbel⟩
end Go.Proofs.Ytdmjliehobgknaa
