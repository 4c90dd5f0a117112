/- Texts of this proof, one behind the other: MTkOf, MTaken, MTick, MExtra, MTks, MMsg, MVCx, MVal. -/
import Derived.Test.YtpjkidcfidmfaaaMwB5
import Derived.Deep.DeepCutAuto
import Derived.Deep.CutBlock
namespace Go.Proofs.Ytpjkidcfidmfaaa
set_option linter.unusedSimpArgs false
set_option linter.unusedVariables false
open Go.RowKit
theorem key16 (l : List UInt8) (h : l.length = 16) : ∃ c0 c1 c2 c3 c4 c5 c6 c7 c8 c9 c10 c11 c12 c13 c14 c15, l = [c0, c1, c2, c3, c4, c5, c6, c7, c8, c9, c10, c11, c12, c13, c14, c15] := by
  match l, h with
  | [c0, c1, c2, c3, c4, c5, c6, c7, c8, c9, c10, c11, c12, c13, c14, c15], _ => exact ⟨_, _, _, _, _, _, _, _, _, _, _, _, _, _, _, _, rfl⟩
def ticketS (x : Tv) : Option (List UInt8 × List UInt8) :=
  if x.kind = 2 ∧ x.tag = 1 ∧ (bytesS (nameS x.l false).2.1 (nameS x.l false).2.2).2.1.isEmpty = true ∧ (bytesS (nameS x.l false).2.1 (nameS x.l false).2.2).2.2 = false then some ((nameS x.l false).1, (bytesS (nameS x.l false).2.1 (nameS x.l false).2.2).1) else none
def TicketV (w : World) (F : Nat → Prop) (t : List UInt8 × List UInt8) (v : Value) : Prop :=
  ∃ bv, v = .agg #[.string (tx t.1), bv] ∧ Bs w bv t.2 ∧ (0 < t.2.length → ∀ y, bv.ownBlock = some y → F y)
def BelowO (w W : World) : Prop := Below w.heap.size w W
def NotT (T : TypeId) (r : Value) : Prop := r = .nilIface ∨ ∃ U x, r = .iface U x ∧ U ≠ T
def OutT (w : World) (F : Nat → Prop) (x : Tv) (o : Value) (rem : List Tv) (bad : Bool) : Prop :=
  if x.tag = 1 then (∃ v, o = .iface 48 v ∧ TicketV w F ((nameS x.l false).1, (bytesS (nameS x.l false).2.1 (nameS x.l false).2.2).1) v) ∧ (rem, bad) = (bytesS (nameS x.l false).2.1 (nameS x.l false).2.2).2
  else NotT 48 o
def OfRes (w : World) (F : Nat → Prop) (x : Tv) (e : Ending) (w' : World) : Prop :=
  ∃ r ok, e = .returned (.tuple #[r, .bool ok]) ∧ Below w.heap.size w w' ∧ (match ticketS x with | some t => ∃ v, r = .iface 48 v ∧ TicketV w' F t v | none => NotT 48 r)
set_option maxHeartbeats 8000000 in
set_option maxRecDepth 100000 in
theorem of_any (x : Tv) (F : Nat → Prop) (cs : List Value) (w : World) (h : TvF w F x cs) (hF : ∀ b, F b → b < w.heap.size) :
    Calls Try.prog 57 #[.agg cs.toArray] w (OfRes w F x) := by
  have HLN := hqZ h.length
  have HQ0 := hqZ (Blk.new w cs 38)
  have hB0 : Below w.heap.size w (w.alloc (.cells cs.toArray 38)) := (Below.refl _ _).alloc (Nat.le_refl _) _
  have HB0 := hqZ hB0
  have HTK := hqZ (take_any x F cs _ (h.below hB0) (fun b hb => by have := hF b hb; simp; omega))
  obtain ⟨q, hq⟩ : ∃ q, q = w.heap.size := ⟨_, rfl⟩
  have HQ : Hid (∀ W, Below q w W → BelowO w W) := hqZ (fun W h => by rw [hq] at h; exact h)
  have hopen := h.open_
  clear h hB0
  go_enter Try.func57, Try.ntmps57
  go_wp2_with ((with_reducible show wpList _ _ _ (⟨some 6, _, _, _, _, _⟩ :: _) _ _); refine wpList_ldAgg rfl (.tmp 1) aggDer rfl rfl (cs := cs) HLN.out HQ0.out.cellsAll ?_)
  refine HTK.out.mono ?_
  rintro e wt ⟨p, rfl, ht, hb, hp⟩
  have HT := hqZ ht
  have HBT : Hid (Below w.heap.size w wt) := hqZ (HB0.out.trans (hb.mono (by simp)))
  have HQT := hqZ (HQ0.out.below hb (by simp))
  have HP : Hid (w.heap.size < p ∧ p < wt.heap.size) := hqZ ⟨by simp at hp; omega, ht.lt⟩
  obtain ⟨bv, lv, rows, rfl, hb1, hb2, hb3, hb4, hb5⟩ := hopen
  have cT : wt.cell? ⟨w.heap.size, 1, none⟩ = some (.int .i64 x.tag) := HQT.out.cell 1
  have HKb : Hid (∀ W, Keeps (fun b => b = p ∨ wt.heap.size ≤ b) wt W → Below w.heap.size w W ∧ Blk W w.heap.size [.int .i64 x.kind, .int .i64 x.tag, .int .u64 (x.n : Int), bv, lv] 38) := hqZ (fun W hk =>
    ⟨HBT.out.trans (hk.below (fun b hb => by have := HP.out; rcases hb with h | h <;> omega)), HQT.out.keep hk (fun h => by have := HP.out; rcases h with h | h <;> omega)⟩)
  clear ht hb hp hb1 hb2 hb3 hb4 hb5 HQ0 HB0 HTK
  rw [← hq] at *
  clear hq
  go_upto_block 0 with fail
  go_cut [5] from 10 to 92 (fun o wx => ∃ rem bad, Tk wx F p rem bad ∧ Keeps (fun b => b = p ∨ wt.heap.size ≤ b) wt wx ∧ OutT wx F x o rem bad)
  case first =>
    have HOT : Hid (∀ W o rem bad, x.tag ≠ 1 → NotT 48 o → OutT W F x o rem bad) := hqZ (fun W o rem bad ht ho => by unfold OutT; rw [if_neg ht]; exact ho)
    have HO1 : Hid (∀ W o rem bad, x.tag = 1 → (∃ v, o = .iface 48 v ∧ TicketV W F ((nameS x.l false).1, (bytesS (nameS x.l false).2.1 (nameS x.l false).2.2).1) v) → (rem, bad) = (bytesS (nameS x.l false).2.1 (nameS x.l false).2.2).2 → OutT W F x o rem bad) := hqZ (fun W o rem bad ht ho h => by unfold OutT; rw [if_pos ht]; exact ⟨ho, h⟩)
    obtain ⟨k, t, n, b, l⟩ := x
    simp only [Tv.kind, Tv.tag, Tv.n, Tv.b, Tv.l] at *
    clear HKb HQT HBT
    rcases (by omega : t = 1 ∨ t = 2 ∨ t = 3 ∨ t = 4 ∨ t = 5 ∨ t = 6 ∨ t = 7 ∨ (t ≠ 1 ∧ t ≠ 2 ∧ t ≠ 3 ∧ t ≠ 4 ∧ t ≠ 5 ∧ t ≠ 6 ∧ t ≠ 7)) with ht | ht | ht | ht | ht | ht | ht | ⟨h1, h2, h3, h4, h5, h6, h7⟩
    · subst ht
      go_wp2_with fail
      refine (name_any l false p F wt HT.out).mono ?_
      rintro e v1 ⟨rfl, ht, hk⟩
      have HT1 := hqZ ht
      have HK1 := hqZ hk
      clear ht hk
      go_wp2_with fail
      refine (bytes_any (nameS l false).2.1 (nameS l false).2.2 p F v1 HT1.out).mono ?_
      rintro e v2 ⟨vb, ⟨rfl, ht, hk⟩, hb, ho⟩
      obtain ⟨ab, cb, rfl, hcb, hmb⟩ := hb.form
      have HB := hqZ hb
      have HO := hqZ ho
      have HT2 := hqZ ht
      have HK2 := hqZ (keeps2 (fun b => Iff.rfl) HK1.out hk)
      clear ht hk hb ho HT1 HK1
      go_wp2_with fail
      go_meet
      exact ⟨_, _, HT2.out, HK2.out, HO1.out _ _ _ _ (by first | rfl | trivial) ⟨_, rfl, _, rfl, HB.out, HO.out⟩ rfl⟩
    · subst ht
      go_wp2_with fail
      refine (num_any l false p F wt HT.out).mono ?_
      rintro e v1 ⟨rfl, ht, hk⟩
      have HT1 := hqZ ht
      have HK1 := hqZ hk
      clear ht hk
      generalize numS l false = st at *
      obtain ⟨x1, l1, b1⟩ := st
      simp only at *
      go_wp2_with fail
      refine (key_tk l1 b1 p F v1 HT1.out).mono ?_
      rintro e v2 ⟨rfl, ht, hk⟩
      have HT2 := hqZ ht
      have HK2 := hqZ (keeps2 (fun b => Iff.rfl) HK1.out hk)
      clear ht hk HT1 HK1
      have HL := hqZ (keyB_length (nextS 1 l1 b1).1.b)
      rw [show (keyB (nextS 1 l1 b1).1.b).1 = (keyS l1 b1).1 from rfl] at HL
      generalize keyS l1 b1 = st at *
      obtain ⟨x2, l2, b2⟩ := st
      simp only at *
      obtain ⟨c0, c1, c2, c3, c4, c5, c6, c7, c8, c9, c10, c11, c12, c13, c14, c15, rfl⟩ := key16 x2 HL.out
      have hkv : keyV [c0, c1, c2, c3, c4, c5, c6, c7, c8, c9, c10, c11, c12, c13, c14, c15] = .agg #[.int .u8 c0.toNat, .int .u8 c1.toNat, .int .u8 c2.toNat, .int .u8 c3.toNat, .int .u8 c4.toNat, .int .u8 c5.toNat, .int .u8 c6.toNat, .int .u8 c7.toNat, .int .u8 c8.toNat, .int .u8 c9.toNat, .int .u8 c10.toNat, .int .u8 c11.toNat, .int .u8 c12.toNat, .int .u8 c13.toNat, .int .u8 c14.toNat, .int .u8 c15.toNat] := rfl
      go_wp2_with fail
      refine (name_any l2 b2 p F v2 HT2.out).mono ?_
      rintro e v3 ⟨rfl, ht, hk⟩
      have HT3 := hqZ ht
      have HK3 := hqZ (keeps2 (fun b => Iff.rfl) HK2.out hk)
      clear ht hk HT2 HK2
      generalize nameS l2 b2 = st at *
      obtain ⟨x3, l3, b3⟩ := st
      simp only at *
      go_wp2_with fail
      refine (num_any l3 b3 p F v3 HT3.out).mono ?_
      rintro e v4 ⟨rfl, ht, hk⟩
      have HT4 := hqZ ht
      have HK4 := hqZ (keeps2 (fun b => Iff.rfl) HK3.out hk)
      clear ht hk HT3 HK3
      generalize numS l3 b3 = st at *
      obtain ⟨x4, l4, b4⟩ := st
      simp only at *
      go_wp2_with fail
      refine (num_any l4 b4 p F v4 HT4.out).mono ?_
      rintro e v5 ⟨rfl, ht, hk⟩
      have HT5 := hqZ ht
      have HK5 := hqZ (keeps2 (fun b => Iff.rfl) HK4.out hk)
      clear ht hk HT4 HK4
      generalize numS l4 b4 = st at *
      obtain ⟨x5, l5, b5⟩ := st
      simp only at *
      go_wp2_with fail
      refine (num_any l5 b5 p F v5 HT5.out).mono ?_
      rintro e v6 ⟨rfl, ht, hk⟩
      have HT6 := hqZ ht
      have HK6 := hqZ (keeps2 (fun b => Iff.rfl) HK5.out hk)
      clear ht hk HT5 HK5
      generalize numS l5 b5 = st at *
      obtain ⟨x6, l6, b6⟩ := st
      simp only at *
      go_wp2_with fail
      go_meet
      exact ⟨_, _, HT6.out, HK6.out, HOT.out _ _ _ _ (by decide) (.inr ⟨_, _, rfl, by decide⟩)⟩
    · subst ht
      go_wp2_with fail
      refine (num_any l false p F wt HT.out).mono ?_
      rintro e v1 ⟨rfl, ht, hk⟩
      have HT1 := hqZ ht
      have HK1 := hqZ hk
      clear ht hk
      generalize numS l false = st at *
      obtain ⟨x1, l1, b1⟩ := st
      simp only at *
      go_wp2_with fail
      refine (key_tk l1 b1 p F v1 HT1.out).mono ?_
      rintro e v2 ⟨rfl, ht, hk⟩
      have HT2 := hqZ ht
      have HK2 := hqZ (keeps2 (fun b => Iff.rfl) HK1.out hk)
      clear ht hk HT1 HK1
      have HL := hqZ (keyB_length (nextS 1 l1 b1).1.b)
      rw [show (keyB (nextS 1 l1 b1).1.b).1 = (keyS l1 b1).1 from rfl] at HL
      generalize keyS l1 b1 = st at *
      obtain ⟨x2, l2, b2⟩ := st
      simp only at *
      obtain ⟨c0, c1, c2, c3, c4, c5, c6, c7, c8, c9, c10, c11, c12, c13, c14, c15, rfl⟩ := key16 x2 HL.out
      have hkv : keyV [c0, c1, c2, c3, c4, c5, c6, c7, c8, c9, c10, c11, c12, c13, c14, c15] = .agg #[.int .u8 c0.toNat, .int .u8 c1.toNat, .int .u8 c2.toNat, .int .u8 c3.toNat, .int .u8 c4.toNat, .int .u8 c5.toNat, .int .u8 c6.toNat, .int .u8 c7.toNat, .int .u8 c8.toNat, .int .u8 c9.toNat, .int .u8 c10.toNat, .int .u8 c11.toNat, .int .u8 c12.toNat, .int .u8 c13.toNat, .int .u8 c14.toNat, .int .u8 c15.toNat] := rfl
      go_wp2_with fail
      refine (num_any l2 b2 p F v2 HT2.out).mono ?_
      rintro e v3 ⟨rfl, ht, hk⟩
      have HT3 := hqZ ht
      have HK3 := hqZ (keeps2 (fun b => Iff.rfl) HK2.out hk)
      clear ht hk HT2 HK2
      generalize numS l2 b2 = st at *
      obtain ⟨x3, l3, b3⟩ := st
      simp only at *
      go_wp2_with fail
      refine (name_any l3 b3 p F v3 HT3.out).mono ?_
      rintro e v4 ⟨rfl, ht, hk⟩
      have HT4 := hqZ ht
      have HK4 := hqZ (keeps2 (fun b => Iff.rfl) HK3.out hk)
      clear ht hk HT3 HK3
      generalize nameS l3 b3 = st at *
      obtain ⟨x4, l4, b4⟩ := st
      simp only at *
      go_wp2_with fail
      refine (num_any l4 b4 p F v4 HT4.out).mono ?_
      rintro e v5 ⟨rfl, ht, hk⟩
      have HT5 := hqZ ht
      have HK5 := hqZ (keeps2 (fun b => Iff.rfl) HK4.out hk)
      clear ht hk HT4 HK4
      generalize numS l4 b4 = st at *
      obtain ⟨x5, l5, b5⟩ := st
      simp only at *
      go_wp2_with fail
      refine (num_any l5 b5 p F v5 HT5.out).mono ?_
      rintro e v6 ⟨rfl, ht, hk⟩
      have HT6 := hqZ ht
      have HK6 := hqZ (keeps2 (fun b => Iff.rfl) HK5.out hk)
      clear ht hk HT5 HK5
      generalize numS l5 b5 = st at *
      obtain ⟨x6, l6, b6⟩ := st
      simp only at *
      go_wp2_with fail
      refine (num_any l6 b6 p F v6 HT6.out).mono ?_
      rintro e v7 ⟨rfl, ht, hk⟩
      have HT7 := hqZ ht
      have HK7 := hqZ (keeps2 (fun b => Iff.rfl) HK6.out hk)
      clear ht hk HT6 HK6
      generalize numS l6 b6 = st at *
      obtain ⟨x7, l7, b7⟩ := st
      simp only at *
      go_wp2_with fail
      go_meet
      exact ⟨_, _, HT7.out, HK7.out, HOT.out _ _ _ _ (by decide) (.inr ⟨_, _, rfl, by decide⟩)⟩
    · subst ht
      go_wp2_with fail
      refine (name_any l false p F wt HT.out).mono ?_
      rintro e v1 ⟨rfl, ht, hk⟩
      have HT1 := hqZ ht
      have HK1 := hqZ hk
      clear ht hk
      generalize nameS l false = st at *
      obtain ⟨x1, l1, b1⟩ := st
      simp only at *
      go_wp2_with fail
      refine (num_any l1 b1 p F v1 HT1.out).mono ?_
      rintro e v2 ⟨rfl, ht, hk⟩
      have HT2 := hqZ ht
      have HK2 := hqZ (keeps2 (fun b => Iff.rfl) HK1.out hk)
      clear ht hk HT1 HK1
      generalize numS l1 b1 = st at *
      obtain ⟨x2, l2, b2⟩ := st
      simp only at *
      go_wp2_with fail
      refine (num_any l2 b2 p F v2 HT2.out).mono ?_
      rintro e v3 ⟨rfl, ht, hk⟩
      have HT3 := hqZ ht
      have HK3 := hqZ (keeps2 (fun b => Iff.rfl) HK2.out hk)
      clear ht hk HT2 HK2
      generalize numS l2 b2 = st at *
      obtain ⟨x3, l3, b3⟩ := st
      simp only at *
      go_wp2_with fail
      refine (key_tk l3 b3 p F v3 HT3.out).mono ?_
      rintro e v4 ⟨rfl, ht, hk⟩
      have HT4 := hqZ ht
      have HK4 := hqZ (keeps2 (fun b => Iff.rfl) HK3.out hk)
      clear ht hk HT3 HK3
      have HL := hqZ (keyB_length (nextS 1 l3 b3).1.b)
      rw [show (keyB (nextS 1 l3 b3).1.b).1 = (keyS l3 b3).1 from rfl] at HL
      generalize keyS l3 b3 = st at *
      obtain ⟨x4, l4, b4⟩ := st
      simp only at *
      obtain ⟨c0, c1, c2, c3, c4, c5, c6, c7, c8, c9, c10, c11, c12, c13, c14, c15, rfl⟩ := key16 x4 HL.out
      have hkv : keyV [c0, c1, c2, c3, c4, c5, c6, c7, c8, c9, c10, c11, c12, c13, c14, c15] = .agg #[.int .u8 c0.toNat, .int .u8 c1.toNat, .int .u8 c2.toNat, .int .u8 c3.toNat, .int .u8 c4.toNat, .int .u8 c5.toNat, .int .u8 c6.toNat, .int .u8 c7.toNat, .int .u8 c8.toNat, .int .u8 c9.toNat, .int .u8 c10.toNat, .int .u8 c11.toNat, .int .u8 c12.toNat, .int .u8 c13.toNat, .int .u8 c14.toNat, .int .u8 c15.toNat] := rfl
      go_wp2_with fail
      refine (bytes_any l4 b4 p F v4 HT4.out).mono ?_
      rintro e v5 ⟨vb, ⟨rfl, ht, hk⟩, hb, ho⟩
      obtain ⟨ab, cb, rfl, hcb, hmb⟩ := hb.form
      have HB := hqZ hb
      have HO := hqZ ho
      have HT5 := hqZ ht
      have HK5 := hqZ (keeps2 (fun b => Iff.rfl) HK4.out hk)
      clear ht hk hb ho HT4 HK4
      generalize bytesS l4 b4 = st at *
      obtain ⟨x5, l5, b5⟩ := st
      simp only at *
      go_wp2_with fail
      go_meet
      exact ⟨_, _, HT5.out, HK5.out, HOT.out _ _ _ _ (by decide) (.inr ⟨_, _, rfl, by decide⟩)⟩
    · subst ht
      go_wp2_with fail
      refine (num_any l false p F wt HT.out).mono ?_
      rintro e v1 ⟨rfl, ht, hk⟩
      have HT1 := hqZ ht
      have HK1 := hqZ hk
      clear ht hk
      generalize numS l false = st at *
      obtain ⟨x1, l1, b1⟩ := st
      simp only at *
      go_wp2_with fail
      refine (num_any l1 b1 p F v1 HT1.out).mono ?_
      rintro e v2 ⟨rfl, ht, hk⟩
      have HT2 := hqZ ht
      have HK2 := hqZ (keeps2 (fun b => Iff.rfl) HK1.out hk)
      clear ht hk HT1 HK1
      generalize numS l1 b1 = st at *
      obtain ⟨x2, l2, b2⟩ := st
      simp only at *
      go_wp2_with fail
      go_meet
      exact ⟨_, _, HT2.out, HK2.out, HOT.out _ _ _ _ (by decide) (.inr ⟨_, _, rfl, by decide⟩)⟩
    · subst ht
      go_wp2_with fail
      refine (num_any l false p F wt HT.out).mono ?_
      rintro e v1 ⟨rfl, ht, hk⟩
      have HT1 := hqZ ht
      have HK1 := hqZ hk
      clear ht hk
      generalize numS l false = st at *
      obtain ⟨x1, l1, b1⟩ := st
      simp only at *
      go_wp2_with fail
      refine (name_any l1 b1 p F v1 HT1.out).mono ?_
      rintro e v2 ⟨rfl, ht, hk⟩
      have HT2 := hqZ ht
      have HK2 := hqZ (keeps2 (fun b => Iff.rfl) HK1.out hk)
      clear ht hk HT1 HK1
      generalize nameS l1 b1 = st at *
      obtain ⟨x2, l2, b2⟩ := st
      simp only at *
      go_wp2_with fail
      refine (truth_any l2 b2 p F v2 HT2.out).mono ?_
      rintro e v3 ⟨rfl, ht, hk⟩
      have HT3 := hqZ ht
      have HK3 := hqZ (keeps2 (fun b => Iff.rfl) HK2.out hk)
      clear ht hk HT2 HK2
      generalize truthS l2 b2 = st at *
      obtain ⟨x3, l3, b3⟩ := st
      simp only at *
      go_wp2_with fail
      refine (num_any l3 b3 p F v3 HT3.out).mono ?_
      rintro e v4 ⟨rfl, ht, hk⟩
      have HT4 := hqZ ht
      have HK4 := hqZ (keeps2 (fun b => Iff.rfl) HK3.out hk)
      clear ht hk HT3 HK3
      generalize numS l3 b3 = st at *
      obtain ⟨x4, l4, b4⟩ := st
      simp only at *
      go_wp2_with fail
      go_meet
      exact ⟨_, _, HT4.out, HK4.out, HOT.out _ _ _ _ (by decide) (.inr ⟨_, _, rfl, by decide⟩)⟩
    · subst ht
      go_wp2_with fail
      refine (bytes_any l false p F wt HT.out).mono ?_
      rintro e v1 ⟨vb, ⟨rfl, ht, hk⟩, hb, ho⟩
      obtain ⟨ab, cb, rfl, hcb, hmb⟩ := hb.form
      have HB := hqZ hb
      have HO := hqZ ho
      have HT1 := hqZ ht
      have HK1 := hqZ hk
      clear ht hk hb ho
      generalize bytesS l false = st at *
      obtain ⟨x1, l1, b1⟩ := st
      simp only at *
      go_wp2_with fail
      go_meet
      exact ⟨_, _, HT1.out, HK1.out, HOT.out _ _ _ _ (by decide) (.inr ⟨_, _, rfl, by decide⟩)⟩
    · have HNE := hqZ h1
      have e1 : (t == 1) = false := by simpa using h1
      have e2 : (t == 2) = false := by simpa using h2
      have e3 : (t == 3) = false := by simpa using h3
      have e4 : (t == 4) = false := by simpa using h4
      have e5 : (t == 5) = false := by simpa using h5
      have e6 : (t == 6) = false := by simpa using h6
      have e7 : (t == 7) = false := by simpa using h7
      clear h1 h2 h3 h4 h5 h6 h7
      go_wp2_with fail
      go_meet
      exact ⟨_, _, HT.out, Keeps.refl _ _, HOT.out _ _ _ _ HNE.out (.inl rfl)⟩
  case rest =>
    obtain ⟨rem, bad, ht, hk, ho⟩ := hcut
    generalize u5 = o at *
    generalize wc = wx at *
    have HT := hqZ ht
    obtain ⟨hb, hq⟩ := HKb.out wx hk
    have HB := hqZ hb
    have c0 : wx.cell? ⟨q, 0, none⟩ = some (.int .i64 x.kind) := hq.cell 0
    have HO := hqZ ho
    have hshape : o = .nilIface ∨ ∃ U y, o = .iface U y := by
      unfold OutT at ho
      split at ho
      · obtain ⟨⟨v, e, _⟩, _⟩ := ho
        exact .inr ⟨_, _, e⟩
      · rcases ho with h | ⟨U, y, h, _⟩
        · exact .inl h
        · exact .inr ⟨_, _, h⟩
    have HX : Hid (∀ W ok, Below q w W → Below wx.heap.size wx W → ¬ (x.kind = 2 ∧ (!bad && rem.isEmpty) = true ∧ o ≠ .nilIface) → OfRes w F x (.returned (.tuple #[.nilIface, .bool ok])) W) := hqZ (fun W ok h1 h2 h3 => by
      refine ⟨_, _, rfl, HQ.out W h1, ?_⟩
      have hn : ticketS x = none := by
        unfold ticketS
        split
        · rename_i hc
          exfalso
          obtain ⟨c1, c2, c3, c4⟩ := hc
          have ho' := HO.out
          unfold OutT at ho'
          rw [if_pos c2] at ho'
          obtain ⟨⟨v, e, _⟩, e2⟩ := ho'
          have e3 := congrArg Prod.fst e2
          have e4 := congrArg Prod.snd e2
          simp only at e3 e4
          exact h3 ⟨c1, by rw [e3, e4, c3, c4]; rfl, by rw [e]; simp⟩
        · rfl
      rw [hn]
      exact .inl rfl)
    have HY : Hid (∀ W ok, Below q w W → Below wx.heap.size wx W → x.kind = 2 → (!bad && rem.isEmpty) = true → OfRes w F x (.returned (.tuple #[o, .bool ok])) W) := hqZ (fun W ok h1 h2 h3 h4 => by
      refine ⟨_, _, rfl, HQ.out W h1, ?_⟩
      have ho' := HO.out
      unfold OutT at ho'
      simp only [Bool.and_eq_true, Bool.not_eq_true'] at h4
      split at ho'
      · rename_i ht1
        obtain ⟨⟨v, e, bv, ev, hbv, hfv⟩, e2⟩ := ho'
        have e3 := congrArg Prod.fst e2
        have e4 := congrArg Prod.snd e2
        simp only at e3 e4
        have hs : ticketS x = some ((nameS x.l false).1, (bytesS (nameS x.l false).2.1 (nameS x.l false).2.2).1) := by
          unfold ticketS
          rw [if_pos ⟨h3, ht1, by rw [← e3]; exact h4.2, by rw [← e4]; exact h4.1⟩]
        rw [hs]
        exact ⟨v, e, bv, ev, hbv.below h2, hfv⟩
      · rename_i ht1
        have hs : ticketS x = none := by
          unfold ticketS
          rw [if_neg (fun h => ht1 h.2.1)]
        rw [hs]
        exact ho')
    have HD := hqZ (done_any rem bad p F wx ht)
    clear ht hk ho hb hq
    by_cases hk2 : x.kind = 2
    · have HK2 := hqZ hk2
      have hkb : (x.kind != 2) = false := by simpa using hk2
      clear hk2
      generalize hdn : (!bad && rem.isEmpty) = dn at *
      clear hdn
      rcases hshape with e | ⟨U, y, e⟩
      · subst e
        go_wp2_with fail
        go_ret2
        exact HX.out _ _ HB.out (Below.refl _ _) (fun h => h.2.2 rfl)
      · subst e
        go_wp2_with fail
        refine HD.out.mono ?_
        rintro e w2 ⟨rfl, rfl⟩
        cases dn with
        | true =>
          go_wp2_with fail
          go_ret2
          exact HY.out _ _ HB.out (Below.refl _ _) HK2.out (by first | rfl | trivial)
        | false =>
          go_wp2_with fail
          go_ret2
          exact HX.out _ _ HB.out (Below.refl _ _) (fun h => by simp at h)
    · have hkb : (x.kind != 2) = true := by simpa using hk2
      have HK2 := hqZ hk2
      clear hk2
      go_wp2_with fail
      go_ret2
      exact HX.out _ _ HB.out (Below.refl _ _) (fun h => HK2.out h.1)
theorem aggTicket : AggTy Try.prog 48 2 := AggTy.mk Try.underlying48 rfl (by kernel_rfl)
theorem ta_is (T : TypeId) (v : Value) (X : TypeId) (hT : (match Try.prog.underlying T with | some (.interface _) => false | some _ => true | none => false) = true) (W : World) :
    (Instr.typeAssert (.iface T v) X T true).run Try.prog W = .ok (.tuple #[v, .bool true]) W := by
  cases hu : Try.prog.underlying T with
  | none => rw [hu] at hT; simp at hT
  | some d =>
    rw [hu] at hT
    unfold Instr.typeAssert
    rw [Sem.run_bind, run_underlying hu W]
    cases d <;> first | (simp at hT; done) | simp [Result.andThen, Sem.run_pure]
theorem ta_not (T : TypeId) (r : Value) (X : TypeId) (z : Value) (hT : (match Try.prog.underlying T with | some (.interface _) => false | some _ => true | none => false) = true)
    (hz : ∀ W, (zeroValue T).run Try.prog W = .ok z W) (h : NotT T r) (W : World) : (Instr.typeAssert r X T true).run Try.prog W = .ok (.tuple #[z, .bool false]) W := by
  cases hu : Try.prog.underlying T with
  | none => rw [hu] at hT; simp at hT
  | some d =>
    rw [hu] at hT
    unfold Instr.typeAssert
    rw [Sem.run_bind, run_underlying hu W]
    rcases h with rfl | ⟨U, x, rfl, hne⟩
    · cases d <;> first | (simp at hT; done) | simp [Result.andThen, Sem.run_pure, Sem.run_bind, hz]
    · cases d <;> first | (simp at hT; done) | simp [Result.andThen, Sem.run_pure, Sem.run_bind, hz, hne]
theorem tan (T U : TypeId) (x : Value) {z : Value} (hz : ∀ W, (zeroValue T).run Try.prog W = .ok z W) (hT : (match Try.prog.underlying T with | some (.interface _) => false | some _ => true | none => false) = true) (hne : U ≠ T) :
    ∃ z, ∀ W, (Instr.typeAssert (.iface U x) 20 T true).run Try.prog W = .ok (.tuple #[z, .bool false]) W :=
  ⟨z, fun W => ta_not T _ _ z hT hz (.inr ⟨_, _, rfl, hne⟩) W⟩
def zs2 : List Value := [.string ⟨#[]⟩, .slice none 0 0]
theorem zero_ticket (W : World) : (zeroValue 48).run Try.prog W = .ok (.agg zs2.toArray) W := by kernel_rfl
def Tkn (w : World) (F : Nat → Prop) (pm p : Nat) (rem : List Tv) (bad bad2 : Bool) : Prop :=
  Blk w pm [.pointer (some ⟨p, 0, none⟩), .bool bad2] 104 ∧ Tk w F p rem bad ∧ pm ≠ p ∧ ¬ F pm ∧ ∀ b, F b → b < w.heap.size
def Sm (pm p B : Nat) : Nat → Prop := fun b => b = p ∨ b = pm ∨ B ≤ b
theorem Tkn.lt {w : World} {F : Nat → Prop} {pm p : Nat} {rem : List Tv} {bad bad2 : Bool} (h : Tkn w F pm p rem bad bad2) : pm < w.heap.size ∧ p < w.heap.size := ⟨h.1.lt, h.2.1.lt⟩
theorem Tkn.below {w w' : World} {F : Nat → Prop} {pm p : Nat} {rem : List Tv} {bad bad2 : Bool} (h : Tkn w F pm p rem bad bad2) (hb : Below w.heap.size w w') : Tkn w' F pm p rem bad bad2 :=
  ⟨h.1.below hb h.1.lt, h.2.1.below hb, h.2.2.1, h.2.2.2.1, fun b hF => Nat.lt_of_lt_of_le (h.2.2.2.2 b hF) hb.size⟩
theorem Tkn.keep {w w' : World} {F S : Nat → Prop} {pm p : Nat} {rem : List Tv} {bad bad2 : Bool} (h : Tkn w F pm p rem bad bad2) (hk : Keeps S w w') (hs : ∀ b, F b → ¬ S b) (hp : ¬ S p) (hm : ¬ S pm) : Tkn w' F pm p rem bad bad2 :=
  ⟨h.1.keep hk hm, h.2.1.keep hk (fun b hb _ => hs b hb) hp, h.2.2.1, h.2.2.2.1, fun b hF => Nat.lt_of_lt_of_le (h.2.2.2.2 b hF) hk.size⟩
theorem Tkn.step {w w' : World} {F : Nat → Prop} {pm p : Nat} {rem rem' : List Tv} {bad bad2 bad' : Bool} (h : Tkn w F pm p rem bad bad2) (ht : Tk w' F p rem' bad') (hk : Keeps (fun b => b = p ∨ w.heap.size ≤ b) w w') : Tkn w' F pm p rem' bad' bad2 :=
  ⟨h.1.keep hk (fun e => by have := h.1.lt; rcases e with e | e; exact h.2.2.1 e; omega), ht, h.2.2.1, h.2.2.2.1, fun b hF => Nat.lt_of_lt_of_le (h.2.2.2.2 b hF) hk.size⟩
theorem Tkn.set {w : World} {F : Nat → Prop} {pm p : Nat} {rem : List Tv} {bad bad2 : Bool} (h : Tkn w F pm p rem bad bad2) (b : Bool) : Tkn (w.setCell ⟨pm, 1, none⟩ (.bool b)) F pm p rem bad b ∧ Keeps (Sm pm p w.heap.size) w (w.setCell ⟨pm, 1, none⟩ (.bool b)) := by
  have hk : Keeps (fun k => k = pm) w (w.setCell ⟨pm, 1, none⟩ (.bool b)) := Keeps.one w pm 1 _
  refine ⟨⟨h.1.set 1 (.bool b), h.2.1.keep hk (fun x hx _ e => h.2.2.2.1 (by rw [← e]; exact hx)) (fun e => h.2.2.1 e.symm), h.2.2.1, h.2.2.2.1, fun x hF => Nat.lt_of_lt_of_le (h.2.2.2.2 x hF) hk.size⟩, hk.mono (fun x hx => .inr (.inl hx))⟩
def tickS (rem : List Tv) (bad bad2 : Bool) : (List UInt8 × List UInt8) × List Tv × Bool × Bool :=
  match ticketS (partS 1 rem bad).1 with
  | some t => (t, (partS 1 rem bad).2.1, (partS 1 rem bad).2.2, bad2)
  | none => (([], []), (partS 1 rem bad).2.1, (partS 1 rem bad).2.2, true)
def TknRes (w : World) (F : Nat → Prop) (pm p : Nat) (r : List Tv × Bool × Bool) (e : Ending) (v : Value) (w' : World) : Prop :=
  e = .returned v ∧ Tkn w' F pm p r.1 r.2.1 r.2.2 ∧ Keeps (Sm pm p w.heap.size) w w'
theorem keepsM {S : Nat → Prop} {pm p B : Nat} {w w1 w2 : World} (hS : S = Sm pm p B) (h : Keeps S w w1) (hB : B ≤ w1.heap.size) (k : Keeps (Sm pm p w1.heap.size) w1 w2) : Keeps S w w2 :=
  h.trans (k.mono (fun b hb => by rw [hS]; rcases hb with h' | h' | h'; exact .inl h'; exact .inr (.inl h'); exact .inr (.inr (Nat.le_trans hB h'))))
theorem sm_tk {pm p B : Nat} {w w1 : World} (hB : B ≤ w.heap.size) (k : Keeps (fun b => b = p ∨ w.heap.size ≤ b) w w1) : Keeps (Sm pm p B) w w1 :=
  k.mono (fun b hb => by rcases hb with h' | h'; exact .inl h'; exact .inr (.inr (Nat.le_trans hB h')))
theorem sm_below {pm p B C : Nat} {w w1 : World} (hB : B ≤ C) (k : Below C w w1) : Keeps (Sm pm p B) w w1 :=
  (Keeps.of_below k).mono (fun b hb => .inr (.inr (Nat.le_trans hB hb)))
set_option maxHeartbeats 4000000 in
set_option maxRecDepth 100000 in
theorem ticket_any (rem : List Tv) (bad bad2 : Bool) (pm p : Nat) (F : Nat → Prop) (w : World) (h : Tkn w F pm p rem bad bad2) :
    Calls Try.prog 38 #[.pointer (some ⟨pm, 0, none⟩)] w fun e w' => ∃ v, TknRes w F pm p (tickS rem bad bad2).2 e v w' ∧ TicketV w' F (tickS rem bad bad2).1 v := by
  have hlt := h.lt
  have hB0 : Below w.heap.size w (w.alloc (.cells zs2.toArray 48)) := (Below.refl _ _).alloc (Nat.le_refl _) _
  have h0 := h.below hB0
  have HQ0 := hqZ (Blk.new w zs2 48)
  obtain ⟨W0, hW0⟩ : ∃ W0, W0 = w.alloc (.cells zs2.toArray 48) := ⟨_, rfl⟩
  obtain ⟨q, hq⟩ : ∃ q, q = w.heap.size := ⟨_, rfl⟩
  rw [← hW0] at HQ0 h0 hB0
  rw [← hq] at HQ0 hB0
  have HQL : Hid (pm < q ∧ p < q ∧ q < W0.heap.size) := hqZ ⟨by omega, by omega, by rw [hW0, hq]; simp⟩
  have HT0 := hqZ h0
  have HPA := hqZ (part_any 1 rem bad p F W0 h0.2.1)
  have HFQ : Hid (∀ b, F b → b < q) := hqZ (fun b hb => by rw [hq]; exact h.2.2.2.2 b hb)
  have c0 : W0.cell? ⟨pm, 0, none⟩ = some (.pointer (some ⟨p, 0, none⟩)) := h0.1.cell 0
  have HKW : Hid (∀ W, Keeps (Sm pm p q) w W → Keeps (Sm pm p w.heap.size) w W) := hqZ (fun W hk => by rw [← hq]; exact hk)
  have HK0 : Hid (Keeps (Sm pm p q) w W0) := hqZ (sm_below (by omega) hB0)
  clear hlt hB0 h0 h
  go_enter Try.func38, Try.ntmps38
  go_upto_region 1 with fail
  show Code.wp _ _ _ _ (w.alloc (.cells zs2.toArray 48))
  rw [← hW0, ← hq]
  clear hW0 hq
  go_wp2_with fail
  refine HPA.out.mono ?_
  rintro e w1 ⟨cs, rfl, hx, ht, hk⟩
  have HS : Hid (tickS rem bad bad2 = match ticketS (partS 1 rem bad).1 with | some t => (t, (partS 1 rem bad).2.1, (partS 1 rem bad).2.2, bad2) | none => (([], []), (partS 1 rem bad).2.1, (partS 1 rem bad).2.2, true)) := hqZ rfl
  generalize partS 1 rem bad = r at *
  obtain ⟨x, r1, r2⟩ := r
  simp only at *
  have ht1 := HT0.out.step ht hk
  have HT1 := hqZ ht1
  have HK1 : Hid (Keeps (Sm pm p q) w w1) := hqZ (HK0.out.trans (sm_tk (Nat.le_of_lt HQL.out.2.2) hk))
  have HQ1 := hqZ (HQ0.out.keep hk (fun e => by have := HQL.out; rcases e with e | e <;> omega))
  have HZ1 : Hid (q < w1.heap.size) := hqZ HQ1.out.lt
  have HOF := hqZ (of_any x F cs w1 hx ht1.2.2.2.2)
  clear hx ht hk ht1 HPA HQ0 HT0 HK0
  go_wp2_with fail
  refine HOF.out.mono ?_
  rintro e w2 ⟨r, ok, rfl, hb, hm⟩
  have HT2 := hqZ (HT1.out.below hb)
  have HK2 : Hid (Keeps (Sm pm p q) w w2) := hqZ (HK1.out.trans (sm_below (Nat.le_of_lt HZ1.out) hb))
  have HQ2 := hqZ (HQ1.out.below hb HZ1.out)
  have HZ2 : Hid (q < w2.heap.size ∧ pm < q ∧ p < q) := hqZ ⟨HQ2.out.lt, HQL.out.1, HQL.out.2.1⟩
  clear hb HOF HT1 HK1 HQ1 HZ1 HQL
  obtain ⟨v, hta, hv, hfs⟩ : ∃ (z : Value) (hta : ∀ W, (Instr.typeAssert r 20 48 true).run Try.prog W = .ok (.tuple #[z, .bool (ticketS x).isSome]) W), (∃ t, TicketV w2 F t z ∧ t = (tickS rem bad bad2).1) ∧ (tickS rem bad bad2).2 = (r1, r2, if (ticketS x).isSome then bad2 else true) := by
    rw [HS.out]
    cases hts : ticketS x with
    | some t =>
      rw [hts] at hm
      obtain ⟨v, rfl, hv⟩ := hm
      exact ⟨v, fun W => ta_is _ _ _ (by kernel_rfl) W, ⟨t, hv, rfl⟩, rfl⟩
    | none =>
      rw [hts] at hm
      exact ⟨_, fun W => ta_not _ _ _ _ (by kernel_rfl) zero_ticket hm W, ⟨([], []), ⟨_, rfl, Sl.nil _ _ _, by simp⟩, rfl⟩, rfl⟩
  obtain ⟨t, ⟨bv, rfl, hbv, hbf⟩, et⟩ := hv
  obtain ⟨ab, cb, rfl, hcb, hmb⟩ := hbv.form
  have HE := hqZ et
  have HFS := hqZ hfs
  have HBV := hqZ hbv
  have HBF := hqZ hbf
  generalize (ticketS x).isSome = d at *
  clear hm hbv hbf et hfs HS
  obtain ⟨q3, hq3⟩ : ∃ q3, q3 = w2.heap.size := ⟨_, rfl⟩
  have HG : Hid (Blk (w2.alloc (.cells zs2.toArray 48)) w2.heap.size zs2 48) := hqZ (Blk.new _ _ _)
  have hone : ∀ u ∈ [Value.string (tx t.1), .slice ab t.2.length cb], u.oneCell' = true := by intro u hu; simp at hu; rcases hu with rfl | rfl <;> rfl
  have HON := hqZ hone
  clear hone
  have HTV : Hid (∀ W bv, Bs W bv t.2 → (0 < t.2.length → ∀ y, bv.ownBlock = some y → F y) → TicketV W F (tickS rem bad bad2).1 (.agg #[.string (tx t.1), bv])) := hqZ (fun W bv h1 h2 => by rw [← HE.out]; exact ⟨bv, rfl, h1, h2⟩)
  clear HE
  generalize t.2 = t2 at *
  generalize tx t.1 = t1 at *
  go_wp2_with ((with_reducible show wpList _ _ _ (⟨none, .store _ (.tmp 5) (.tmp 19), _, _, _, _⟩ :: _) _ _); refine wpList_stAgg rfl (.tmp 5) (.tmp 19) aggTicket rfl rfl (vs := [Value.string t1, .slice ab t2.length cb]) rfl rfl HG.out (Nat.le_refl _) HON.out ?_)
  intro w3 h3 k3
  have h3' : Blk w3 w2.heap.size [Value.string t1, .slice ab t2.length cb] 48 := by simpa [zs2] using h3
  have hb3 : Below w2.heap.size w2 w3 := ((Below.refl w2.heap.size w2).alloc (Nat.le_refl _) _).trans (k3.below (fun b hb => Nat.le_of_eq hb.symm))
  have HT3 := hqZ (HT2.out.below hb3)
  have HK3 : Hid (Keeps (Sm pm p q) w w3) := hqZ (HK2.out.trans (sm_below (Nat.le_of_lt HZ2.out.1) hb3))
  have HQ3 := hqZ (HQ2.out.below hb3 HZ2.out.1)
  have HBV3 := hqZ (HBV.out.below hb3)
  have HNE : Hid (pm ≠ w2.heap.size ∧ pm ≠ q ∧ w2.heap.size ≠ q ∧ pm < q) := hqZ (by have := HZ2.out; exact ⟨by omega, by omega, by omega, by omega⟩)
  have H3 := hqZ h3'
  have c1 : w3.cell? ⟨pm, 1, none⟩ = some (.bool bad2) := HT3.out.1.cell 1
  have f1 := HT3.out.1.frozen 1
  obtain ⟨W4, hW4⟩ : ∃ W4, W4 = w3.setCell ⟨pm, 1, none⟩ (.bool (if d = true then bad2 else true)) := ⟨_, rfl⟩
  obtain ⟨ht4, hk4⟩ := HT3.out.set (if d = true then bad2 else true)
  rw [← hW4] at ht4 hk4
  have HT4 := hqZ ht4
  have HK4 : Hid (Keeps (Sm pm p q) w W4) := hqZ (keepsM rfl HK3.out (Nat.le_of_lt HQ3.out.lt) hk4)
  have H4 : Hid (Blk W4 w2.heap.size [Value.string t1, .slice ab t2.length cb] 48) := hqZ (by rw [hW4]; exact H3.out.set_other (p := ⟨pm, 1, none⟩) (fun e => HNE.out.1 e.symm) _)
  have HQ4 : Hid (Blk W4 q zs2 48) := hqZ (by rw [hW4]; exact HQ3.out.set_other (p := ⟨pm, 1, none⟩) (fun e => HNE.out.2.1 e.symm) _)
  have HBV4 : Hid (Bs W4 (.slice ab t2.length cb) t2) := hqZ (HBV3.out.keepF hk4 HBF.out (fun b hb hl hs => by
    rcases hs with e | e | e
    · exact HT3.out.2.1.notF (by rw [← e]; exact hb)
    · exact HT3.out.2.2.2.1 (by rw [← e]; exact hb)
    · omega))
  clear h3 k3 h3' hb3 ht4 hk4
  have hd : ∀ c : Bool, (if d = true then bad2 else true) = c → (if bad2 = true then true else !d) = c := by
    intro c hc; rw [← hc]; cases d <;> cases bad2 <;> rfl
  generalize w2.heap.size = q3' at *
  subst hq3
  have hpick := hd _ rfl
  clear hd
  cases bad2 <;> cases d
  all_goals
    simp only [Bool.false_eq_true, if_true, if_false] at hW4
    go_upto_region 4 with fail
    rw [← hW4]
    clear hW4
    go_wp2_with (first | ((with_reducible show wpList _ _ _ (⟨some 32, _, _, _, _, _⟩ :: _) _ _); refine wpList_ldAgg rfl (.tmp 5) aggTicket rfl rfl (cs := [Value.string t1, .slice ab t2.length cb]) rfl H4.out.cellsAll ?_) | ((with_reducible show wpList _ _ _ (⟨none, .store _ (.tmp 2) (.tmp 32), _, _, _, _⟩ :: _) _ _); refine wpList_stAgg rfl (.tmp 2) (.tmp 32) aggTicket rfl rfl (vs := [Value.string t1, .slice ab t2.length cb]) rfl rfl HQ4.out (Nat.le_refl _) HON.out ?_))
    intro w5 h5 k5
    have H5 : Hid (Blk w5 q [Value.string t1, .slice ab t2.length cb] 48) := hqZ (by simpa [zs2] using h5)
    have HT5 := hqZ (HT4.out.keep k5 (fun b hb e => by have := HFQ.out b hb; omega) (fun e => by have := HZ2.out; omega) (fun e => HNE.out.2.1 e))
    have HK5 : Hid (Keeps (Sm pm p q) w w5) := hqZ (HK4.out.trans (k5.mono (fun b hb => .inr (.inr (Nat.le_of_eq hb.symm)))))
    have HBV5 : Hid (Bs w5 (.slice ab t2.length cb) t2) := hqZ (HBV4.out.keepF k5 HBF.out (fun b hb hl e => by have := HFQ.out b hb; omega))
    clear h5 k5
    go_wp2_with fail
    exact bodyPost_ret (results_agg rfl aggTicket rfl (cs := [Value.string t1, .slice ab t2.length cb]) rfl H5.out.cellsAll) rfl ⟨_, ⟨rfl, by rw [HFS.out]; exact HT5.out, HKW.out _ HK5.out⟩, HTV.out _ _ HBV5.out HBF.out⟩
def tkTv (t : List UInt8 × List UInt8) : Tv := .mk 2 1 0 [] [.mk 1 0 0 t.1 [], .mk 1 0 0 t.2 []]
def VlRes (w : World) (x : Tv) (b : Bool) (e : Ending) (w' : World) : Prop :=
  ∃ cs, e = .returned (.tuple #[.agg cs.toArray, .bool b]) ∧ TvF w' (fun y => w.heap.size ≤ y) x cs ∧ Below w.heap.size w w'
theorem enters_ttext : Enters Try.prog 49 := Enters.mk Try.func49 (by kernel_rfl) (by kernel_rfl)
theorem enters_raw : Enters Try.prog 28 := Enters.mk Try.func28 (by kernel_rfl) (by kernel_rfl)
theorem enters_seq : Enters Try.prog 25 := Enters.mk Try.func25 (by kernel_rfl) (by kernel_rfl)
theorem enters_tright : Enters Try.prog 50 := Enters.mk Try.func50 (by kernel_rfl) (by kernel_rfl)
set_option maxHeartbeats 4000000 in
set_option maxRecDepth 100000 in
theorem tickValue_any (t : List UInt8 × List UInt8) (bv : Value) (w : World) (hb : Bs w bv t.2) (h1 : t.1.length ≤ 140737488355328) (h2 : t.2.length ≤ 140737488355328) :
    Calls Try.prog 30 #[.iface 48 (.agg #[.string (tx t.1), bv])] w (VlRes w (tkTv t) (rightB (tx t.1))) := by
  obtain ⟨l1, l2⟩ := t
  simp only at *
  obtain ⟨ab, cb, rfl, hcb, hmb⟩ := hb.form
  have hta : ∀ W, (Instr.typeAssert (.iface 48 (.agg #[.string (tx l1), .slice ab l2.length cb])) 20 48 true).run Try.prog W = .ok (.tuple #[.agg #[.string (tx l1), .slice ab l2.length cb], .bool true]) W := fun W => ta_is _ _ _ (by kernel_rfl) W
  have HZ := hqZ h1
  have HZ2 := hqZ h2
  have HB := hqZ hb
  clear h1 h2 hb
  go_enter Try.func30, Try.ntmps30
  go_upto_region 4 with fail
  clear hta
  obtain ⟨w1, hw1⟩ : ∃ w1, w1 = w.alloc (.cells zs5.toArray 38) := ⟨_, rfl⟩
  obtain ⟨w2, hw2⟩ : ∃ w2, w2 = w1.alloc (.cells #[.string (tx l1), .slice ab l2.length cb] 48) := ⟨_, rfl⟩
  have hq0 : Blk w1 w.heap.size zs5 38 := by rw [hw1]; exact Blk.new _ _ _
  have hz1 : w1.heap.size = w.heap.size + 1 := by rw [hw1]; simp
  have hm0 : Blk w2 w1.heap.size [.string (tx l1), .slice ab l2.length cb] 48 := by rw [hw2]; exact Blk.new _ _ _
  have hz2 : w2.heap.size = w.heap.size + 2 := by rw [hw2]; simp [hz1]
  have hb1 : Below w.heap.size w w1 := by rw [hw1]; exact (Below.refl _ _).alloc (Nat.le_refl _) _
  have hb2 : Below w.heap.size w w2 := by rw [hw2]; exact hb1.alloc (by omega) _
  have hq2 : Blk w2 w.heap.size zs5 38 := by rw [hw2]; exact hq0.alloc _
  rw [hz1] at hm0
  have hbb : Bs w2 (.slice ab l2.length cb) l2 := HB.out.below hb2
  show Code.wp _ _ _ _ ((w.alloc (.cells zs5.toArray 38)).alloc (.cells #[.string (tx l1), .slice ab l2.length cb] 48))
  rw [← hw1, ← hw2]
  obtain ⟨q, hq⟩ : ∃ q, q = w.heap.size := ⟨_, rfl⟩
  obtain ⟨F, hF⟩ : ∃ F : Nat → Prop, F = fun b => q + 2 ≤ b := ⟨_, rfl⟩
  obtain ⟨wd, hwd⟩ : ∃ wd, wd = w2.drew := ⟨_, rfl⟩
  obtain ⟨p, hp⟩ : ∃ p, p = q + 1 := ⟨_, rfl⟩
  obtain ⟨X, hX⟩ : ∃ X, X = tkTv (l1, l2) := ⟨_, rfl⟩
  have HFq : Hid (¬ F q) := hqZ (by rw [hF]; intro h; omega)
  have hzd : wd.heap.size = q + 2 := by rw [hwd]; simp [hz2, hq]
  have HZD : Hid (∀ W, GV F q X wd W → q < W.heap.size ∧ (∀ b, W.heap.size ≤ b → F b)) := hqZ (fun W h => by
    have := h.1.size
    exact ⟨by omega, fun b hb => by rw [hF]; show q + 2 ≤ b; omega⟩)
  have HM : Hid (∀ W, GV F q X wd W → Blk W p [.string (tx l1), .slice ab l2.length cb] 48) := hqZ (fun W h =>
    (show Blk wd p _ _ by rw [hwd, hp, hq]; exact hm0.drew).keep h.1 (by rintro (e | e) <;> omega))
  have HQB : Hid (∀ W, GV F q X wd W → LenV q W) := hqZ (fun W h => h.2.2 ⟨zs5, by rw [hwd, hq]; exact hq2.drew, rfl⟩)
  have HBW : Hid (∀ W, GV F q X wd W → Bs W (.slice ab l2.length cb) l2) := hqZ (fun W h =>
    (show Bs wd _ _ by rw [hwd]; exact hbb.drew).keepF (F := fun b => b < q) h.1 (fun hn y hy => by rw [hq]; exact Sl.own_lt HB.out (by decide) hn y hy) (fun b hb _ hs => by have hb : b < q := hb; rcases hs with e | e <;> omega))
  have HFX : Hid (∀ b, F b → w.heap.size ≤ b) := hqZ (fun b hb => by rw [hF] at hb; have : q + 2 ≤ b := hb; omega)
  have HBD : Hid (∀ W, GV F q X wd W → Below w.heap.size w W) := hqZ (fun W h =>
    (show Below w.heap.size w wd by rw [hwd]; exact hb2.drew).trans (h.1.below (by rintro b (e | e) <;> omega)))
  have HXE : Hid (X = .mk 2 1 0 [] [.mk 1 0 0 l1 [], .mk 1 0 0 l2 []]) := hqZ hX
  have HXE2 : Hid (X = tkTv (l1, l2)) := hqZ hX
  rw [show w.heap.size = q from hq.symm]
  rw [← hp]
  clear hq0 hm0 hz1 hz2 hb1 hb2 hq2 hbb hw1 hw2 hF hX hzd hp
  refine wp_region_held (S := fun W => GV F q X wd W) (by kernel_rfl) ?_
  change wpAnyH _ _ _ _ _ _ _ _ (World.drew _)
  rw [← hwd]
  clear hwd
  refine tkH 0 15 none (.pointer (some ⟨p, 0, none⟩)) rfl (by kernel_rfl) (fun _ _ _ h => h) (by rfl) (by intro W hW; go_simp) (GV.refl _ _ _ _) ?_
  simp only [Act.put, zq1, zq2, zq3]
  refine tkH 1 16 none (.string (tx l1)) rfl (by kernel_rfl) (fun _ _ _ h => h) (by rfl) (by intro W hW; have hc : W.cell? ⟨p, 0, none⟩ = some (.string (tx l1)) := (HM.out W hW).cell 0; go_simp) (GV.refl _ _ _ _) ?_
  simp only [Act.put, zq1, zq2, zq3]
  refine tkH 3 18 none (.pointer (some ⟨p, 1, none⟩)) rfl (by kernel_rfl) (fun _ _ _ h => h) (by rfl) (by intro W hW; go_simp) (GV.refl _ _ _ _) ?_
  simp only [Act.put, zq1, zq2, zq3]
  refine tkH 4 19 none (.slice ab l2.length cb) rfl (by kernel_rfl) (fun _ _ _ h => h) (by rfl) (by intro W hW; have hc : W.cell? ⟨p, 1, none⟩ = some (.slice ab l2.length cb) := (HM.out W hW).cell 1; go_simp) (GV.refl _ _ _ _) ?_
  simp only [Act.put, zq1, zq2, zq3]
  refine tkH 8 23 none (.pointer (some ⟨p, 0, none⟩)) rfl (by kernel_rfl) (fun _ _ _ h => h) (by rfl) (by intro W hW; go_simp) (GV.refl _ _ _ _) ?_
  simp only [Act.put, zq1, zq2, zq3]
  refine tkH 9 24 none (.string (tx l1)) rfl (by kernel_rfl) (fun _ _ _ h => h) (by rfl) (by intro W hW; have hc : W.cell? ⟨p, 0, none⟩ = some (.string (tx l1)) := (HM.out W hW).cell 0; go_simp) (GV.refl _ _ _ _) ?_
  simp only [Act.put, zq1, zq2, zq3]
  refine anyH_steps (G := GV F q X) (Post := postV F q X [.any, .any, .val (.mk 1 0 0 l1 []), .any, .any, .val (.mk 1 0 0 l2 []), .vals [.mk 1 0 0 l1 [], .mk 1 0 0 l2 []], .val (.mk 2 1 0 [] [.mk 1 0 0 l1 [], .mk 1 0 0 l2 []]), .any, .any, .is (.bool (rightB (tx l1))), .fin, .is (.bool (rightB (tx l1)))]) (ds := [17, 20, 21, 22, 25, 3]) (GV.refl _ _ _) GV.trans (fun W W' h g => GV.trans _ _ _ h g) (fun i v W W' h g => PK.stable HFq.out h g) [2, 5, 6, 7, 10, 11, 12] 180 rfl (by decide +kernel) (by decide +kernel) ?_ ?_ (GV.refl _ _ _ _) (by decide +kernel)
  · refine AllSteps.cons (o := { dst := some 17, op := .call { callee := .value (.func 49), args := #[.tmp 16], argTypes := #[9] }, type := _, pos := _, after := _, guard := none }) rfl (fun a W hf hS hd K hK => ?_) ?_
    · have e16 : a.eval (.tmp 16) = .string (tx l1) := hf.lit 16 (by decide) rfl
      exact stepV_mk (wanted_none rfl) rfl enters_ttext (vs := #[.string (tx l1)]) (by simp [e16]) (ttext_any l1 W HZ.out) (HZD.out W hS).1 (HZD.out W hS).2 hK
    refine AllSteps.cons (o := { dst := some 20, op := .call { callee := .value (.func 28), args := #[.tmp 19], argTypes := #[22] }, type := _, pos := _, after := _, guard := none }) rfl (fun a W hf hS hd K hK => ?_) ?_
    · have e19 : a.eval (.tmp 19) = .slice ab l2.length cb := hf.lit 19 (by decide) rfl
      exact stepV_mk (wanted_none rfl) rfl enters_raw (vs := #[.slice ab l2.length cb]) (by simp [e19]) (rawNew_any _ l2 W (HBW.out W hS) HZ2.out) (HZD.out W hS).1 (HZD.out W hS).2 hK
    refine AllSteps.cons (o := { dst := some 21, op := .buildSlice 36 2 #[(0, .tmp 17), (1, .tmp 20)], type := _, pos := _, after := _, guard := none }) rfl (fun a W hf hS hd K hK => ?_) ?_
    · have d17 := (hd 2 (by decide +kernel)).get (s := 17) rfl
      have d20 := (hd 5 (by decide +kernel)).get (s := 20) rfl
      exact stepV_vals (wanted_none rfl) rfl elDer (ps := [.tmp 17, .tmp 20]) rfl (l := [.mk 1 0 0 l1 [], .mk 1 0 0 l2 []]) ⟨d17, d20, trivial⟩ rfl (by decide) (by decide) (HZD.out W hS).1 (HZD.out W hS).2 hK
    refine AllSteps.cons (o := { dst := some 22, op := .call { callee := .value (.func 25), args := #[.const (.int .i64 1), .tmp 21], argTypes := #[3, 36] }, type := _, pos := _, after := _, guard := none }) rfl (fun a W hf hS hd K hK => ?_) ?_
    · have d21 := (hd 6 (by decide +kernel)).get (s := 21) rfl
      exact stepV_seq (wanted_none rfl) rfl enters_seq d21 (HZD.out W hS).1 (fun v w1 h1 h2 => hK v w1 h1 h2) HFq.out
    refine AllSteps.cons (o := { dst := some 25, op := .call { callee := .value (.func 50), args := #[.tmp 24, .const (.slice none 0 0)], argTypes := #[9, 116] }, type := _, pos := _, after := _, guard := none }) rfl (fun a W hf hS hd K hK => ?_) ?_
    · have e24 : a.eval (.tmp 24) = .string (tx l1) := hf.lit 24 (by decide) rfl
      exact stepV_is (wanted_none rfl) rfl enters_tright (vs := #[.string (tx l1), .slice none 0 0]) (by simp only [List.map_toArray, List.map_cons, List.map_nil, e24]; rfl) (u := .bool (rightB (tx l1))) ((tright_any (tx l1) [] _ W (Sl.nil _ _ _) (by rw [tx_size]; have := HZ.out; unfold maxLen; omega)).mono fun e w1 h => ⟨by rw [h.1]; simp, h.2⟩) (HZD.out W hS).1 hK
    refine AllSteps.cons (o := { dst := none, op := .store 38 (.tmp 2) (.tmp 22), type := _, pos := _, after := _, guard := none }) rfl (fun a W hf hS hd K hK => ?_) ?_
    · have e2 : a.eval (.tmp 2) = .pointer (some ⟨q, 0, none⟩) := hf.lit 2 (by decide) rfl
      have d22 := (hd 7 (by decide +kernel)).get (s := 22) rfl
      obtain ⟨cur, hc1, hc2⟩ := HQB.out W hS
      rw [← HXE.out] at d22
      exact stepV_fin (wanted_none rfl) rfl e2 d22 hc1 hc2 HFq.out hK
    refine AllSteps.cons (o := { dst := some 3, op := .assign (.tmp 25), type := _, pos := _, after := _, guard := none }) rfl (fun a W hf hS hd K hK => ?_) ?_
    · have d25 := (hd 10 (by decide +kernel)).get (s := 25) rfl
      exact step_val (wanted_none rfl) (exec_assign rfl) (hK _ _ (GV.refl _ _ _ _) d25)
    exact AllSteps.nil
  · intro a W hf hS hp
    have h3 := (hp 12 (by decide)).get (s := 3) rfl
    obtain ⟨v, cs, h5, h6⟩ := (hp 11 (by decide)).fin
    have e2 : a.eval (.tmp 2) = .pointer (some ⟨q, 0, none⟩) := hf.lit 2 (by decide) rfl
    go_wp2_with fail
    refine bodyPost_ret (results_agg_tmp rfl aggDer (show a.tmps.getD 2 undef = _ from e2) h6.length h5.cellsAll) hf.defers ⟨cs, ?_, ?_, HBD.out W hS⟩
    · rw [show a.tmps.getD 3 undef = .bool (rightB (tx l1)) from h3]
    · exact HXE2.out ▸ h6.mono HFX.out
theorem elTicket : Elem Try.prog 49 48 2 40 (.agg zs2.toArray) := by
  refine Elem.mk Try.underlying49 ?_ rfl (by decide)
  kernel_rfl
def TkRows (w : World) (F : Nat → Prop) : List (List UInt8 × List UInt8) → List Value → Prop
  | [], cs => cs = []
  | t :: l, cs => ∃ bv rs, cs = .string (tx t.1) :: bv :: rs ∧ Bs w bv t.2 ∧ (0 < t.2.length → ∀ y, bv.ownBlock = some y → F y) ∧ TkRows w F l rs
theorem TkRows.keep {w w' : World} {F S : Nat → Prop} (hk : Keeps S w w') (hs : ∀ b, F b → b < w.heap.size → ¬ S b) : ∀ {l : List (List UInt8 × List UInt8)} {cs : List Value}, TkRows w F l cs → TkRows w' F l cs
  | [], cs, h => h
  | t :: l, cs, h => by
    obtain ⟨bv, rs, e, h1, h2, h3⟩ := h
    exact ⟨bv, rs, e, h1.keepF hk h2 hs, h2, TkRows.keep hk hs h3⟩
theorem TkRows.below {w w' : World} {F : Nat → Prop} {l : List (List UInt8 × List UInt8)} {cs : List Value} (h : TkRows w F l cs) (hb : Below w.heap.size w w') : TkRows w' F l cs :=
  TkRows.keep (Keeps.of_below hb) (fun _ _ hl hs => by omega) h
theorem TkRows.snoc {w : World} {F : Nat → Prop} : ∀ {l : List (List UInt8 × List UInt8)} {cs : List Value} {t : List UInt8 × List UInt8} {bv : Value}, TkRows w F l cs → Bs w bv t.2 → (0 < t.2.length → ∀ y, bv.ownBlock = some y → F y) → TkRows w F (l ++ [t]) (cs ++ [.string (tx t.1), bv])
  | [], cs, t, bv, h, h1, h2 => by
    rw [show cs = [] from h]
    exact ⟨bv, [], rfl, h1, h2, rfl⟩
  | u :: l, cs, t, bv, h, h1, h2 => by
    obtain ⟨b1, rs, rfl, h3, h4, h5⟩ := h
    exact ⟨b1, rs ++ [.string (tx t.1), bv], by simp, h3, h4, TkRows.snoc h5 h1 h2⟩
def TksV (w : World) (F : Nat → Prop) (l : List (List UInt8 × List UInt8)) (v : Value) : Prop :=
  ∃ rows, Sl w 2 v l.length rows ∧ TkRows w F l rows
def tkOf (x : Tv) : List UInt8 × List UInt8 := (ticketS x).getD ([], [])
def allT (l : List Tv) : Bool := l.all (fun x => (ticketS x).isSome)
def extraS (rem : List Tv) (bad bad2 : Bool) : List (List UInt8 × List UInt8) × List Tv × Bool × Bool :=
  ((partS 0 rem bad).1.l.map tkOf, (partS 0 rem bad).2.1, (partS 0 rem bad).2.2, if allT (partS 0 rem bad).1.l = true then (if 1 < (partS 0 rem bad).1.l.length then true else bad2) else true)
structure ExInv (w1 : World) (F : Nat → Prop) (pm p q : Nat) (l : List Tv) (r1 : List Tv) (r2 bad2 : Bool) (k : Nat) (v : Value) (wr : World) : Prop where
  t : Tkn wr F pm p r1 r2 (if allT (l.take k) = true then bad2 else true)
  own : ∃ rows, Own wr q 48 2 v k rows ∧ TkRows wr F ((l.take k).map tkOf) rows
  vlt : ∀ b, v.ownBlock = some b → q ≤ b ∧ b < wr.heap.size
  keep : Keeps (Sm pm p q) w1 wr
theorem allT_snoc (l : List Tv) (k : Nat) (h : k < l.length) : allT (l.take (k + 1)) = (allT (l.take k) && (ticketS l[k]).isSome) := all_snoc _ l k h
set_option maxHeartbeats 8000000 in
set_option maxRecDepth 100000 in
theorem extra_any (rem : List Tv) (bad bad2 : Bool) (pm p : Nat) (F : Nat → Prop) (w : World) (h : Tkn w F pm p rem bad bad2) (hL : ∀ y ∈ rem, y.l.length ≤ 1954687338211) :
    Calls Try.prog 40 #[.pointer (some ⟨pm, 0, none⟩)] w fun e w' => ∃ v, TknRes w F pm p (extraS rem bad bad2).2 e v w' ∧ TksV w' F (extraS rem bad bad2).1 v := by
  have hlt := h.lt
  have HPA := hqZ (part_any 0 rem bad p F w h.2.1)
  have c0 : w.cell? ⟨pm, 0, none⟩ = some (.pointer (some ⟨p, 0, none⟩)) := h.1.cell 0
  have HT0 := hqZ h
  have HLL : Hid ((partS 0 rem bad).1.l.length ≤ 1954687338211) := hqZ (by
    unfold partS
    split
    · exact Nat.zero_le _
    · rename_i x r
      split
      · exact hL x (by simp)
      · exact Nat.zero_le _)
  clear h hL
  go_enter Try.func40, Try.ntmps40
  go_wp2_with fail
  refine HPA.out.mono ?_
  rintro e w1 ⟨cs, rfl, hx, ht, hk⟩
  have HS : Hid (extraS rem bad bad2 = ((partS 0 rem bad).1.l.map tkOf, (partS 0 rem bad).2.1, (partS 0 rem bad).2.2, if allT (partS 0 rem bad).1.l = true then (if 1 < (partS 0 rem bad).1.l.length then true else bad2) else true)) := hqZ rfl
  generalize partS 0 rem bad = r at *
  obtain ⟨x, r1, r2⟩ := r
  simp only at *
  have ht1 := HT0.out.step ht hk
  have HT1 := hqZ ht1
  have HK1 : Hid (Keeps (Sm pm p w.heap.size) w w1) := hqZ (sm_tk (Nat.le_refl _) hk)
  obtain ⟨bv, lv, rows, rfl, hb1, hb2, hb3, hb4, hb5⟩ := hx.open_
  obtain ⟨al, cl, rfl, hcl, hml⟩ := hb3.form
  obtain ⟨ab, cb0, rfl, hcb, hmb⟩ := hb1.form
  have hf4 := fld_l
  obtain ⟨l, hl⟩ : ∃ l, l = x.l := ⟨_, rfl⟩
  rw [← hl] at hb3 hb4 hb5 HLL HS hcl ⊢
  have HR3 := hqZ hb3
  have HR4 := hqZ hb4
  have HR5 := hqZ hb5
  have hlen := HLL.out
  have hpq : pm < w.heap.size ∧ p < w.heap.size := hlt
  have hqz : w.heap.size ≤ w1.heap.size := hk.size
  have hfq : ∀ b, F b → b < w.heap.size := HT0.out.2.2.2.2
  have HFQ := hqZ hfq
  have HPQ := hqZ hpq
  have HQZ := hqZ hqz
  obtain ⟨q, hq⟩ : ∃ q, q = w.heap.size := ⟨_, rfl⟩
  have HKW : Hid (∀ W, Keeps (Sm pm p q) w W → Keeps (Sm pm p w.heap.size) w W) := hqZ (fun W hk => by rw [← hq]; exact hk)
  rw [← hq] at HFQ HPQ HQZ HK1
  clear hx ht hk ht1 hb1 hb2 hb3 hb4 hb5 hlt hpq hqz hfq HPA HT0 HLL hl hq
  unfold maxLen at hml hmb
  go_wp2_with fail
  go_loopw [3, 17] (fun v i wr => ∃ k, i = .int .i64 (k : Nat) ∧ k ≤ l.length ∧ ExInv w1 F pm p q l r1 r2 bad2 k v wr) (fun _ i _ => l.length - (intOf i).toNat)
  case atStart => exact ⟨0, rfl, Nat.zero_le _, HT1.out, ⟨[], Own.nil _ _ _ _ _, rfl⟩, by simp [Value.ownBlock], Keeps.refl _ _⟩
  case round =>
    obtain ⟨k, rfl, hk, hi⟩ := hrel
    obtain ⟨rows2, hown, hrows⟩ := hi.own
    obtain ⟨av, cv, rfl, hcv, hmv⟩ := hown.sl.form
    unfold maxLen at hmv
    have hns : ∀ b, F b → ¬ Sm pm p q b := fun b hb hs => by
      have h1 := HT1.out.2.1.notF
      have h2 := HT1.out.2.2.2.1
      have h3 := HFQ.out b hb
      rcases hs with e | e | e
      · exact h1 (by rw [← e]; exact hb)
      · exact h2 (by rw [← e]; exact hb)
      · omega
    have HNS := hqZ hns
    have HSr : Hid (Sl wr 5 (.slice al l.length cl) l.length rows) := hqZ (HR3.out.keepF hi.keep HR4.out (fun b hb _ => hns b hb))
    have HRr : Hid (TvsF wr F l rows) := hqZ (HR5.out.keep hi.keep (fun b hb _ => hns b hb))
    have HTr := hqZ hi.t
    have HKr := hqZ hi.keep
    have HVL := hqZ hi.vlt
    have HOW := hqZ hown
    have HRW := hqZ hrows
    have HZr : Hid (q ≤ wr.heap.size ∧ pm < q ∧ p < q) := hqZ ⟨Nat.le_trans HQZ.out hi.keep.size, HPQ.out⟩
    clear hi hown hrows hns
    by_cases hlt : k < l.length
    · have hlt' : (k : Int) < (l.length : Int) := by omega
      obtain ⟨b, off, rfl, _⟩ := HSr.out.addr (by rw [HSr.out.1]; omega)
      obtain ⟨r, hxk, hck⟩ := HRr.out.cells HSr.out k hlt
      have HSN := hqZ (allT_snoc l k hlt)
      have HSM : Hid ((l.take (k + 1)).map tkOf = (l.take k).map tkOf ++ [tkOf l[k]]) := hqZ (by rw [List.take_succ_eq_append_getElem hlt, List.map_append]; rfl)
      generalize l[k] = x at *
      have HCK := hqZ hck
      have HXK := hqZ hxk
      have HRL := hqZ hxk.length
      have HR1 := hqZ hxk.one
      have HG : Hid (Blk (wr.alloc (.cells zs5.toArray 38)) wr.heap.size zs5 38) := hqZ (Blk.new _ _ _)
      clear hck hxk
      go_wp2_with (first | ((with_reducible show wpList _ _ _ (⟨some 20, _, _, _, _, _⟩ :: _) _ _); refine wpList_ldAgg rfl (.tmp 19) aggDer rfl rfl (cs := r) HRL.out HCK.out ?_) | ((with_reducible show wpList _ _ _ (⟨none, .store _ (.tmp 5) (.tmp 20), _, _, _, _⟩ :: _) _ _); refine wpList_stAgg rfl (.tmp 5) (.tmp 20) aggDer rfl rfl (vs := r) rfl HRL.out HG.out (Nat.le_refl _) HR1.out ?_))
      intro w2 h2 k2
      have H2 : Hid (Blk w2 wr.heap.size r 38) := hqZ (by simpa [zs5] using h2)
      have hb2 : Below wr.heap.size wr w2 := ((Below.refl wr.heap.size wr).alloc (Nat.le_refl _) _).trans (k2.below (fun b hb => Nat.le_of_eq hb.symm))
      have HB2 := hqZ hb2
      have HZ2 : Hid (q ≤ w2.heap.size) := hqZ (Nat.le_trans HZr.out.1 hb2.size)
      have HOF := hqZ (of_any x F r w2 (HXK.out.below hb2) (fun b hb => Nat.lt_of_lt_of_le (HFQ.out b hb) HZ2.out))
      clear h2 k2 hb2
      go_wp2_with ((with_reducible show wpList _ _ _ (⟨some 22, _, _, _, _, _⟩ :: _) _ _); refine wpList_ldAgg rfl (.tmp 5) aggDer rfl rfl (cs := r) HRL.out H2.out.cellsAll ?_)
      refine HOF.out.mono ?_
      rintro e w3 ⟨rr, ok, rfl, hb, hm⟩
      have HB3 : Hid (Below wr.heap.size wr w3) := hqZ (HB2.out.trans (hb.mono HB2.out.size))
      obtain ⟨v, hta, hv⟩ : ∃ (z : Value) (hta : ∀ W, (Instr.typeAssert rr 20 48 true).run Try.prog W = .ok (.tuple #[z, .bool (ticketS x).isSome]) W), TicketV w3 F (tkOf x) z := by
        unfold tkOf
        cases hts : ticketS x with
        | some t =>
          rw [hts] at hm
          obtain ⟨v, rfl, hv⟩ := hm
          exact ⟨v, fun W => ta_is _ _ _ (by kernel_rfl) W, hv⟩
        | none =>
          rw [hts] at hm
          exact ⟨_, fun W => ta_not _ _ _ _ (by kernel_rfl) zero_ticket hm W, ⟨_, rfl, Sl.nil _ _ _, by simp⟩⟩
      obtain ⟨bv, rfl, hbv, hbf⟩ := hv
      obtain ⟨ab', cb', rfl, hcb', hmb'⟩ := hbv.form
      have HBV := hqZ hbv
      have HBF := hqZ hbf
      generalize (ticketS x).isSome = d at *
      clear hm hbv hbf hb
      have HG3 : Hid (Blk (w3.alloc (.cells zs2.toArray 48)) w3.heap.size zs2 48) := hqZ (Blk.new _ _ _)
      have hone : ∀ u ∈ [Value.string (tx (tkOf x).1), .slice ab' (tkOf x).2.length cb'], u.oneCell' = true := by intro u hu; simp at hu; rcases hu with rfl | rfl <;> rfl
      have HON := hqZ hone
      have HTV : Hid (∀ W rs bv, TkRows W F ((l.take k).map tkOf) rs → Bs W bv (tkOf x).2 → (0 < (tkOf x).2.length → ∀ y, bv.ownBlock = some y → F y) → TkRows W F ((l.take (k + 1)).map tkOf) (rs ++ [.string (tx (tkOf x).1), bv])) := hqZ (fun W rs bv h0 h1 h2 => by rw [HSM.out]; exact h0.snoc h1 h2)
      clear hone HSM
      generalize (tkOf x).2 = t2 at *
      generalize tx (tkOf x).1 = t1 at *
      go_wp2_with ((with_reducible show wpList _ _ _ (⟨none, .store _ (.tmp 8) (.tmp 29), _, _, _, _⟩ :: _) _ _); refine wpList_stAgg rfl (.tmp 8) (.tmp 29) aggTicket rfl rfl (vs := [Value.string t1, .slice ab' t2.length cb']) rfl rfl HG3.out (Nat.le_refl _) HON.out ?_)
      intro w4 h4 k4
      have H4 : Hid (Blk w4 w3.heap.size [Value.string t1, .slice ab' t2.length cb'] 48) := hqZ (by simpa [zs2] using h4)
      have hb34 : Below w3.heap.size w3 w4 := ((Below.refl w3.heap.size w3).alloc (Nat.le_refl _) _).trans (k4.below (fun b hb => Nat.le_of_eq hb.symm))
      have hb4 : Below wr.heap.size wr w4 := HB3.out.trans (hb34.mono HB3.out.size)
      have HB4 := hqZ hb4
      have HT4 := hqZ (HTr.out.below hb4)
      have HBV4 := hqZ (HBV.out.below hb34)
      have HZ3 : Hid (q ≤ w3.heap.size ∧ w3.heap.size < w4.heap.size ∧ q ≤ w4.heap.size) := hqZ ⟨Nat.le_trans HZr.out.1 HB3.out.size, H4.out.lt, Nat.le_trans HZr.out.1 hb4.size⟩
      have HRW4 := hqZ (HRW.out.below hb4)
      have HOW4 := hqZ (HOW.out.below hb4)
      have HVL4 : Hid (∀ y, (Value.slice av k cv).ownBlock = some y → q ≤ y ∧ y < w4.heap.size) := hqZ (fun y hy => by have := HVL.out y hy; exact ⟨this.1, Nat.lt_of_lt_of_le this.2 hb4.size⟩)
      have HK4 : Hid (Keeps (Sm pm p q) w1 w4) := hqZ (HKr.out.trans (sm_below HZr.out.1 hb4))
      obtain ⟨c, hc⟩ : ∃ c, c = (if allT (l.take k) = true then bad2 else true) := ⟨_, rfl⟩
      have HC : Hid ((if allT (l.take (k + 1)) = true then bad2 else true) = if d = true then c else true) := hqZ (by rw [HSN.out, hc]; cases allT (l.take k) <;> cases d <;> cases bad2 <;> rfl)
      rw [← hc] at HT4
      have c1 : w4.cell? ⟨pm, 1, none⟩ = some (.bool c) := HT4.out.1.cell 1
      have f1 := HT4.out.1.frozen 1
      obtain ⟨W5, hW5⟩ : ∃ W5, W5 = w4.setCell ⟨pm, 1, none⟩ (.bool (if d = true then c else true)) := ⟨_, rfl⟩
      obtain ⟨ht5, hk5⟩ := HT4.out.set (if d = true then c else true)
      rw [← hW5] at ht5 hk5
      have HT5 := hqZ ht5
      have hk5' : Keeps (fun y => y = pm) w4 W5 := by rw [hW5]; exact Keeps.one _ _ _ _
      have HK5 : Hid (Keeps (Sm pm p q) w1 W5) := hqZ (keepsM rfl HK4.out HZ3.out.2.2 hk5)
      have H5 : Hid (Blk W5 w3.heap.size [Value.string t1, .slice ab' t2.length cb'] 48) := hqZ (H4.out.keep hk5' (fun e => by have := HZr.out; have := HZ3.out; omega))
      have hfp : ∀ y, F y → y < w4.heap.size → ¬ (y = pm) := fun y hy _ e => HT4.out.2.2.2.1 (by rw [← e]; exact hy)
      have HBV5 := hqZ (HBV4.out.keepF hk5' HBF.out hfp)
      have HRW5 := hqZ (HRW4.out.keep hk5' hfp)
      have HOW5 := hqZ (HOW4.out.keep hk5' (fun y hy e => by have := (HVL4.out y hy).1; have := HZr.out; omega))
      have hz5 : W5.heap.size = w4.heap.size := by rw [hW5]; simp [World.setCell]
      have HVL5 : Hid (∀ y, (Value.slice av k cv).ownBlock = some y → y < (W5.alloc (.cells [Value.string t1, .slice ab' t2.length cb'].toArray 48)).heap.size) := hqZ (fun y hy => by have := (HVL4.out y hy).2; simp; omega)
      have HOWa := hqZ (HOW5.out.alloc (.cells [Value.string t1, .slice ab' t2.length cb'].toArray 48))
      have HZ5 : Hid (q ≤ W5.heap.size) := hqZ (by rw [hz5]; exact HZ3.out.2.2)
      have HLIT : Hid (Sl (W5.alloc (.cells [Value.string t1, .slice ab' t2.length cb'].toArray 48)) 2 (.slice (some ⟨W5.heap.size, 0, none⟩) 1 1) 1 [Value.string t1, .slice ab' t2.length cb']) := hqZ (Sl.lit (n := 1) rfl rfl HON.out (by unfold maxLen; decide))
      clear h4 k4 hb34 hb4 ht5 hk5 hk5' hfp hz5 hc
      cases c <;> cases d
      all_goals
        simp only [Bool.false_eq_true, if_true, if_false] at hW5
        go_upto_region 8 with fail
        rw [← hW5]
        clear hW5
        go_wp2_with (first | ((with_reducible show wpList _ _ _ (⟨some 43, _, _, _, _, _⟩ :: _) _ _); refine wpList_ldAgg rfl (.tmp 8) aggTicket rfl rfl (cs := [Value.string t1, .slice ab' t2.length cb']) rfl H5.out.cellsAll ?_) | ((with_reducible show wpList _ _ _ (⟨some 44, _, _, _, _, _⟩ :: _) _ _); refine wpList_bs1 rfl (.tmp 43) elTicket rfl rfl rfl (by decide) ?_) | ((with_reducible show wpList _ _ _ (⟨some 45, _, _, _, _, _⟩ :: _) _ _); refine wpList_app2 rfl (.tmp 42) (.tmp 44) elTicket rfl q HOWa.out HVL5.out HLIT.out (by unfold maxLen; omega) (by omega) (by have := HZ5.out; simp; omega) ?_))
        intro v7 w7 ho7 hk7 hv7
        obtain ⟨a7, c7, e7, hc7, hm7⟩ := ho7.sl.form
        have kk : Keeps (fun y => q ≤ y) W5 w7 := ((Keeps.refl _ _).alloc _ HZ5.out).trans (hk7.mono (fun y hy => by
          rcases hy with hy | hy
          · exact hy.2
          · have := HZ5.out; omega))
        have hfs : ∀ y, F y → ¬ q ≤ y := fun y hy => by have := HFQ.out y hy; omega
        have hz := HZr.out
        have HINV : Hid (ExInv w1 F pm p q l r1 r2 bad2 (k + 1) v7 w7) := hqZ
          { t := by rw [HC.out]; exact HT5.out.keep kk hfs (by omega) (by omega)
            own := ⟨_, ho7, HTV.out _ _ _ (HRW5.out.keep kk (fun y hy _ => hfs y hy)) (HBV5.out.keepF kk HBF.out (fun y hy _ => hfs y hy)) HBF.out⟩
            vlt := fun y hy => by
              refine ⟨?_, (hv7 y hy).2⟩
              rcases (hv7 y hy).1 with h | h
              · exact (HVL4.out y h).1
              · have := HZ5.out; omega
            keep := HK5.out.trans (kk.mono (fun y hy => .inr (.inr hy))) }
        subst e7
        clear ho7 hk7 hv7 kk hfs hz
        go_wp2_with fail
        refine ⟨⟨k + 1, by simp, by omega, HINV.out⟩, ?_⟩
        simp only [intOf]
        omega
    · have hke : k = l.length := by omega
      have hlt' : ¬ (k : Int) < (l.length : Int) := by omega
      subst hke
      obtain ⟨c, hc⟩ : ∃ c, c = (if allT (l.take l.length) = true then bad2 else true) := ⟨_, rfl⟩
      rw [← hc] at HTr
      rw [List.take_length] at hc HRW
      have c1 : wr.cell? ⟨pm, 1, none⟩ = some (.bool c) := HTr.out.1.cell 1
      have f1 := HTr.out.1.frozen 1
      have HRES : Hid (∀ bb, bb = (if c = true then true else decide ((1 : Int) < l.length)) → ∃ v, TknRes w F pm p (extraS rem bad bad2).2 (.returned (.slice av l.length cv)) v (wr.setCell ⟨pm, 1, none⟩ (.bool bb)) ∧ TksV (wr.setCell ⟨pm, 1, none⟩ (.bool bb)) F (extraS rem bad bad2).1 v) := hqZ (fun bb hbb => by
        obtain ⟨ht, hk⟩ := HTr.out.set bb
        have hkp : Keeps (fun y => y = pm) wr (wr.setCell ⟨pm, 1, none⟩ (.bool bb)) := Keeps.one _ _ _ _
        refine ⟨_, ⟨rfl, ?_, HKW.out _ (HK1.out.trans (keepsM rfl HKr.out HZr.out.1 hk))⟩, rows2, ?_, ?_⟩
        · rw [HS.out]
          have : (if allT l = true then (if 1 < l.length then true else bad2) else true) = bb := by
            rw [hbb, hc]
            cases allT l <;> cases bad2 <;> by_cases h1 : 1 < l.length <;> simp [h1] <;> omega
          rw [this]
          exact ht
        · rw [HS.out]
          simp only [List.length_map]
          exact HOW.out.sl.keep hkp (fun y hy e => by have := (HVL.out y hy).1; have := HZr.out; omega)
        · rw [HS.out]
          exact HRW.out.keep hkp (fun y hy _ e => HTr.out.2.2.2.1 (by rw [← e]; exact hy)))
      clear hc
      cases c with
      | true =>
        go_wp2_with fail
        go_ret
        exact HRES.out true rfl
      | false =>
        by_cases h1 : (1 : Int) < l.length
        · have HE : Hid (true = (if false = true then true else decide ((1 : Int) < l.length))) := hqZ (by simp [h1])
          go_wp2_with fail
          go_ret
          exact HRES.out true HE.out
        · have HE : Hid (false = (if false = true then true else decide ((1 : Int) < l.length))) := hqZ (by simp [h1])
          go_wp2_with fail
          go_ret
          exact HRES.out false HE.out
def rT (t : List UInt8 × List UInt8) : Bool := rightB (tx t.1)
def tksTv (l : List (List UInt8 × List UInt8)) : Tv := .mk 2 0 0 [] ((l.takeWhile rT).map tkTv)
def tksB (l : List (List UInt8 × List UInt8)) : Bool := l.all rT && decide (l.length ≤ 1)
theorem takeWhile_take {α : Type} (p : α → Bool) : ∀ (l : List α) (j : Nat), (l.take j).all p = true → (∀ h : j < l.length, p l[j] = false) → l.takeWhile p = l.take j
  | [], j, _, _ => by simp
  | x :: l, 0, _, h => by
    rw [List.takeWhile_cons, List.take_zero]
    have := h (by simp)
    simp only [List.getElem_cons_zero] at this
    rw [this]
    rfl
  | x :: l, j + 1, ha, h => by
    rw [List.take_succ_cons, List.all_cons, Bool.and_eq_true] at ha
    rw [List.takeWhile_cons, if_pos ha.1, List.take_succ_cons, takeWhile_take p l j ha.2 (fun hj => by
      have := h (by simpa using hj)
      simpa using this)]
theorem TkRows.at_ {w : World} {F : Nat → Prop} : ∀ {l : List (List UInt8 × List UInt8)} {cs : List Value}, TkRows w F l cs → ∀ (k : Nat) (hk : k < l.length), ∃ bv, (cs.drop (k * 2)).take 2 = [.string (tx l[k].1), bv] ∧ Bs w bv l[k].2
  | [], cs, h, k, hk => by simp at hk
  | t :: l, cs, h, 0, hk => by
    obtain ⟨bv, rs, rfl, h1, h2, h3⟩ := h
    exact ⟨bv, rfl, h1⟩
  | t :: l, cs, h, k + 1, hk => by
    obtain ⟨bv, rs, rfl, h1, h2, h3⟩ := h
    obtain ⟨b2, e, h4⟩ := TkRows.at_ h3 k (by simpa using hk)
    refine ⟨b2, ?_, h4⟩
    rw [show (k + 1) * 2 = k * 2 + 1 + 1 by omega, List.drop_succ_cons, List.drop_succ_cons]
    exact e
structure TkL (w : World) (q z : Nat) (l : List (List UInt8 × List UInt8)) (wr : World) (j : Nat) (lv : Value) (rows : List Value) (G : Nat → Prop) : Prop where
  hq : Blk wr q zs5 38
  hz : Blk wr z [.int .i64 2, .int .i64 0, .int .u64 0, .slice none 0 0, lv] 38
  qz : q < z
  own : Own wr (z + 1) 38 5 lv j rows
  tvs : TvsF wr G ((l.take j).map tkTv) rows
  g : ∀ x, G x → z + 1 ≤ x ∧ x < wr.heap.size ∧ lv.ownBlock ≠ some x
  v : ∀ x, lv.ownBlock = some x → z + 1 ≤ x ∧ x < wr.heap.size
  below : Below q w wr
  size : z + 1 ≤ wr.heap.size
  all : (l.take j).all rT = true
theorem TkL.tv {w wr : World} {q z : Nat} {l : List (List UInt8 × List UInt8)} {j : Nat} {lv : Value} {rows : List Value} {G : Nat → Prop} (h : TkL w q z l wr j lv rows G) (hs : ∀ h : j < l.length, rT l[j] = false) (hj : j ≤ l.length) :
    TvF wr (fun b => q < b) (tksTv l) [.int .i64 2, .int .i64 0, .int .u64 0, .slice none 0 0, lv] := by
  have hz := h.qz
  unfold tksTv
  rw [takeWhile_take rT l j h.all hs]
  refine TvF.mk (Sl.nil _ _ _) (by simp [Value.ownBlock]) ?_ (fun y hy => by have := h.v y hy; omega) (h.tvs.mono (fun b hb => by have := h.g b hb; omega))
  have := h.own.sl
  rw [show ((l.take j).map tkTv).length = j by rw [List.length_map, List.length_take]; omega]
  exact this
set_option maxHeartbeats 8000000 in
set_option maxRecDepth 100000 in
theorem tickets_any (l : List (List UInt8 × List UInt8)) (F0 : Nat → Prop) (v : Value) (w : World) (h : TksV w F0 l v) (hl : ∀ t ∈ l, t.1.length ≤ 140737488355328 ∧ t.2.length ≤ 140737488355328) (hn : l.length ≤ 1954687338211) :
    Calls Try.prog 31 #[v] w (VlRes w (tksTv l) (tksB l)) := by
  obtain ⟨rows0, hs, hr⟩ := h
  obtain ⟨a0, c0, rfl, hc0, hm0⟩ := hs.form
  unfold maxLen at hm0
  have HS := hqZ hs
  have HR := hqZ hr
  have HL := hqZ hl
  obtain ⟨q, hq⟩ : ∃ q, q = w.heap.size := ⟨_, rfl⟩
  have hqw : w.heap.size ≤ q := by omega
  have hq0 : Blk (w.alloc (.cells zs5.toArray 38)) q zs5 38 := by rw [hq]; exact Blk.new _ _ _
  have hb0 : Below w.heap.size w (w.alloc (.cells zs5.toArray 38)) := (Below.refl _ _).alloc (Nat.le_refl _) _
  have hz0 : (w.alloc (.cells zs5.toArray 38)).heap.size = q + 1 := by rw [hq]; simp
  have HQ0 := hqZ hq0
  have HB0 := hqZ hb0
  have HZ0 := hqZ hz0
  have HSEQ := hqZ (derSeq_any 0 (.slice none 0 0) 0 0 none rfl (w.alloc (.cells zs5.toArray 38)))
  have HQQ := hqZ hq
  clear hs hr hl hq0 hb0 hz0
  go_enter Try.func31, Try.ntmps31
  clear hq
  go_wp2_with fail
  refine HSEQ.out.mono ?_
  rintro e w1 ⟨rfl, hb⟩
  obtain ⟨z, hz⟩ : ∃ z, z = w1.heap.size := ⟨_, rfl⟩
  have hz1 := hb.size
  rw [HZ0.out] at hz1
  have hpl : TkL w q z l (w1.alloc (.cells #[.int .i64 2, .int .i64 0, .int .u64 0, .slice none 0 0, .slice none 0 0] 38)) 0 (.slice none 0 0) [] (fun _ => False) := by
    refine ⟨(HQ0.out.below hb (by rw [HZ0.out]; omega)).alloc _, by rw [hz]; exact Blk.at_ rfl, by omega, Own.nil _ _ _ _ _, rfl, fun _ h => h.elim, by simp [Value.ownBlock], ?_, by simp [hz], rfl⟩
    rw [HQQ.out]
    exact (HB0.out.trans (hb.mono (by simp))).alloc (by omega) _
  have HPL := hqZ hpl
  clear hb HSEQ hpl hz1 HB0 HQ0 HZ0
  go_upto_region 2 with fail
  generalize hW0 : w1.alloc (.cells #[.int .i64 2, .int .i64 0, .int .u64 0, .slice none 0 0, .slice none 0 0] 38) = W0 at *
  rw [← hz, ← HQQ.out]
  clear hW0 hz
  go_wp2_with fail
  go_loopw [12] (fun i wr => ∃ (j : Nat) (lv : Value) (rows : List Value) (G : Nat → Prop), j ≤ l.length ∧ i = .int .i64 j ∧ TkL w q z l wr j lv rows G) (fun i _ => l.length - (intOf i).toNat)
  case atStart => exact ⟨0, _, _, _, Nat.zero_le _, rfl, HPL.out⟩
  case round =>
    obtain ⟨j, lv, rows, G, hj, rfl, hp⟩ := hrel
    have HP := hqZ hp
    have hszr := hp.size
    have hqz := hp.qz
    clear HPL
    have hlf : ∃ a c, lv = .slice a j c := by obtain ⟨a, c, e, _⟩ := hp.own.sl.form; exact ⟨a, c, e⟩
    obtain ⟨la, lc, rfl⟩ := hlf
    by_cases hlt : j < l.length
    · obtain ⟨bl, ol, rfl, hcell⟩ := HS.out.addr (by rw [HS.out.1]; omega)
      obtain ⟨bv, hbe, hbv⟩ := HR.out.at_ j hlt
      have hbw : Below w.heap.size w wr := HP.out.below.mono hqw
      have hcr : CellsAt wr bl (ol + j * 2) [.string (tx l[j].1), bv] := fun i u hi => below_cell hbw (by
        rw [← hbe, List.getElem?_take] at hi
        split at hi
        · rw [List.getElem?_drop] at hi
          rw [Nat.add_assoc]
          exact hcell _ u hi
        · simp at hi)
      obtain ⟨ab, cb, rfl, hcb, hmb⟩ := hbv.form
      have hji : (j : Int) < l.length := by omega
      have HCR := hqZ hcr
      have HBV := hqZ (hbv.below hbw)
      have HLJ := hqZ (HL.out l[j] (List.getElem_mem hlt))
      have HSN : Hid (∀ (w0 : World) (Gx : Nat → Prop) (rs : List Value) (cs2 : List Value), TvsF w0 Gx ((l.take j).map tkTv) rs → TvF w0 Gx (tkTv l[j]) cs2 → TvsF w0 Gx ((l.take (j + 1)).map tkTv) (rs ++ cs2)) := hqZ (fun w0 Gx rs cs2 h1 h2 => by
        rw [List.take_succ_eq_append_getElem hlt, List.map_append]
        exact h1.snoc h2)
      have HAL : Hid (rT l[j] = true → (l.take (j + 1)).all rT = true) := hqZ (fun h => by
        rw [List.take_succ_eq_append_getElem hlt, List.all_append, HP.out.all]
        simp [h])
      have HNO : Hid (rT l[j] = false → (∀ h : j < l.length, rT l[j] = false) ∧ tksB l = false) := hqZ (fun h => ⟨fun _ => h, by
        unfold tksB
        rw [show l.all rT = false from List.all_eq_false.2 ⟨l[j], List.getElem_mem hlt, by rw [h]; simp⟩]
        rfl⟩)
      clear hcell hbe hbv hbw hcr hp
      generalize hgt : l[j] = t at *
      obtain ⟨t1, t2⟩ := t
      simp only at *
      have HG6 := hqZ (Blk.new wr [.string (tx t1), .slice ab t2.length cb] 48)
      have HTV := hqZ (tickValue_any (t1, t2) (.slice ab t2.length cb) (wr.alloc (.cells [.string (tx t1), .slice ab t2.length cb].toArray 48)) (HBV.out.alloc _) HLJ.out.1 HLJ.out.2)
      clear hgt
      go_wp2_with (first | ((with_reducible show wpList _ _ _ (⟨some 15, _, _, _, _, _⟩ :: _) _ _); refine wpList_ldAgg rfl (.tmp 14) aggTicket rfl rfl (cs := [.string (tx t1), .slice ab t2.length cb]) rfl HCR.out ?_) | ((with_reducible show wpList _ _ _ (⟨some 17, _, _, _, _, _⟩ :: _) _ _); refine wpList_ldAgg rfl (.tmp 6) aggTicket rfl rfl (cs := [.string (tx t1), .slice ab t2.length cb]) rfl HG6.out.cellsAll ?_))
      refine HTV.out.mono ?_
      rintro e w2 ⟨cs2, rfl, htv, hb2⟩
      have hz2 := hb2.size
      simp at hz2
      have hbr : Below wr.heap.size wr w2 := (((Below.refl _ _).alloc (Nat.le_refl _) _).trans (hb2.mono (by simp)))
      have HBR := hqZ hbr
      have HCL := hqZ htv.length
      have HC1 := hqZ htv.one
      have HTT := hqZ htv
      have HN7 := hqZ (Blk.new w2 zs5 38)
      have hrt : rightB (tx (t1, t2).1) = rT (t1, t2) := rfl
      rw [hrt]
      clear hb2 htv hbr HTV hrt
      go_upto_region 6 with ((with_reducible show wpList _ _ _ (⟨none, .store _ (.tmp 7) (.tmp 20), _, _, _, _⟩ :: _) _ _); refine wpList_stAgg rfl (.tmp 7) (.tmp 20) aggDer rfl rfl (vs := cs2) rfl HCL.out HN7.out (Nat.le_refl _) HC1.out ?_)
      intro w3 h3 k3
      have h3' : Blk w3 w2.heap.size cs2 38 := by
        rw [List.drop_of_length_le (by decide), List.append_nil] at h3
        exact h3
      have hz3 := k3.size
      simp at hz3
      have hb3 : Below w2.heap.size w2 w3 := ((Below.refl _ _).alloc (Nat.le_refl _) _).trans (k3.below (by omega))
      have HB3 : Hid (Below wr.heap.size wr w3) := hqZ (HBR.out.trans (hb3.mono (by omega)))
      have H3 := hqZ h3'
      have HTT3 := hqZ (HTT.out.keep (Keeps.of_below hb3) (fun y _ hl h => by omega))
      have hzq := HP.out.hz.below HB3.out (by omega)
      have z4 : w3.cell? ⟨z, 4, none⟩ = some (.slice la j lc) := by rw [hzq.cell]; rfl
      have HZ3 := hqZ hzq
      clear h3 k3 h3' hb3 HTT hzq HN7 HBR
      cases hrt : rT (t1, t2) with
      | false =>
        have HRT := hqZ hrt
        clear hrt
        have hq3 := HP.out.hq.below HB3.out (by omega)
        have HQ3 := hqZ hq3
        clear hq3
        go_wp2_with (first | ((with_reducible show wpList _ _ _ (⟨some 24, _, _, _, _, _⟩ :: _) _ _); refine wpList_ldAgg rfl (.tmp 4) aggDer rfl rfl (cs := [.int .i64 2, .int .i64 0, .int .u64 0, .slice none 0 0, .slice la j lc]) rfl HZ3.out.cellsAll ?_) | ((with_reducible show wpList _ _ _ (⟨none, .store _ (.tmp 2) (.tmp 24), _, _, _, _⟩ :: _) _ _); refine wpList_stAgg rfl (.tmp 2) (.tmp 24) aggDer rfl rfl (vs := [.int .i64 2, .int .i64 0, .int .u64 0, .slice none 0 0, .slice la j lc]) rfl rfl HQ3.out (Nat.le_refl _) (by intro u hu; simp at hu; rcases hu with rfl | rfl | rfl | rfl | rfl <;> rfl) ?_))
        intro w4 h4 k4
        have H4 : Hid (Blk w4 q [.int .i64 2, .int .i64 0, .int .u64 0, .slice none 0 0, .slice la j lc] 38) := hqZ (by simpa [zs5] using h4)
        have HK4 := hqZ k4
        clear h4 k4
        go_wp2_with fail
        refine bodyPost_ret (results_agg_tmp rfl aggDer rfl (cs := [.int .i64 2, .int .i64 0, .int .u64 0, .slice none 0 0, .slice la j lc]) rfl H4.out.cellsAll) rfl ⟨[.int .i64 2, .int .i64 0, .int .u64 0, .slice none 0 0, .slice la j lc], ?_, ?_, ?_⟩
        · rw [(HNO.out HRT.out).2]; rfl
        · exact (((HP.out.tv (HNO.out HRT.out).1 hj).below HB3.out).keep HK4.out (fun b hb _ e => by omega)).mono (fun b hb => by omega)
        · exact (HP.out.below.trans (HB3.out.mono (by omega)) |>.trans (HK4.out.below (by omega))).mono hqw
      | true =>
        have HRT := hqZ hrt
        clear hrt
        have HO3 := hqZ (HP.out.own.below HB3.out)
        go_wp2_with (first | ((with_reducible show wpList _ _ _ (⟨some 27, _, _, _, _, _⟩ :: _) _ _); refine wpList_ldAgg rfl (.tmp 7) aggDer rfl rfl (cs := cs2) HCL.out H3.out.cellsAll ?_) | ((with_reducible show wpList _ _ _ (⟨some 28, _, _, _, _, _⟩ :: _) _ _); refine wpList_bs1 rfl (.tmp 27) elDer rfl rfl (by have := HCL.out; simpa using this) (by decide) ?_) | ((with_reducible show wpList _ _ _ (⟨some 29, _, _, _, _, _⟩ :: _) _ _); refine wpList_app2 rfl (.tmp 26) (.tmp 28) elDer rfl (z + 1) (HO3.out.alloc _) (fun b hb => by have := (HP.out.v b hb).2; simp; omega) (Sl.lit (n := 1) rfl (by simpa using HCL.out) HC1.out (by unfold maxLen; decide)) (by unfold maxLen; omega) (by omega) (by simp; omega) ?_))
        intro v7 w7 ho7 hk7 hv7
        have hz7 := hk7.size
        simp at hz7
        obtain ⟨a7, c7, hv7f, _⟩ := ho7.sl.form
        subst hv7f
        have k37 : Keeps (fun b => (Value.slice la j lc).ownBlock = some b ∨ w3.heap.size ≤ b) w3 w7 := by
          refine ((Keeps.refl _ _).alloc _ (.inr (Nat.le_refl _))).trans (hk7.mono (fun b hb => ?_))
          rcases hb with hb | hb
          · exact .inl hb.1
          · exact .inr (by omega)
        have ka : Keeps (fun b => (Value.slice la j lc).ownBlock = some b ∨ wr.heap.size ≤ b) wr w7 := ((Keeps.of_below HB3.out).mono (fun b hb => .inr hb)).trans (k37.mono (fun b hb => by
          rcases hb with hb | hb
          · exact .inl hb
          · exact .inr (by omega)))
        have hvr : ∀ b, b < z + 1 → ¬ ((Value.slice la j lc).ownBlock = some b ∨ wr.heap.size ≤ b) := by
          rintro b hb (h | h)
          · have := (HP.out.v b h).1; omega
          · omega
        have hq7 := HP.out.hq.keep ka (hvr _ (by omega))
        have hz7' := HP.out.hz.keep ka (hvr _ (by omega))
        have z7 : w7.cell? ⟨z, 4, none⟩ = some (.slice la j lc) := by rw [hz7'.cell]; rfl
        have zf7 := hz7'.frozen 4
        have hb7 : Below q w w7 := HP.out.below.trans (ka.below (by
          rintro b (h | h)
          · have := (HP.out.v b h).1; omega
          · omega))
        have htvs7 : TvsF w7 (fun y => G y ∨ (wr.heap.size ≤ y ∧ y < w3.heap.size)) ((l.take (j + 1)).map tkTv) (rows ++ cs2) := by
          refine HSN.out w7 _ _ _ ((HP.out.tvs.keep ka (fun y hy hl h => ?_)).mono (fun y hy => .inl hy)) ?_
          · have hg := HP.out.g y hy
            rcases h with h | h
            · exact hg.2.2 h
            · omega
          · refine (((TvF.tight _ _ HTT3.out)).keep k37 (fun y hy hl h => ?_)).mono (fun y hy => ?_)
            · have hy1 := hy.1
              simp at hy1
              rcases h with h | h
              · have := (HP.out.v y h).2; omega
              · omega
            · have hy1 := hy.1
              simp at hy1
              exact .inr ⟨by omega, hy.2⟩
        have hv8 : ∀ b, (Value.slice a7 (j + 1) c7).ownBlock = some b → z + 1 ≤ b ∧ b < w7.heap.size := fun b hb => by
          refine ⟨?_, (hv7 b hb).2⟩
          rcases (hv7 b hb).1 with h | h
          · exact (HP.out.v b h).1
          · omega
        have HPn : Hid (TkL w q z l (w7.setCell ⟨z, 4, none⟩ (.slice a7 (j + 1) c7)) (j + 1) (.slice a7 (j + 1) c7) (rows ++ cs2) (fun y => G y ∨ (wr.heap.size ≤ y ∧ y < w3.heap.size))) := hqZ (by
          have ks : Keeps (fun b => b = z) w7 (w7.setCell ⟨z, 4, none⟩ (.slice a7 (j + 1) c7)) := Keeps.one _ _ _ _
          have hsz : (w7.setCell ⟨z, 4, none⟩ (.slice a7 (j + 1) c7)).heap.size = w7.heap.size := by simp [World.setCell]
          refine ⟨hq7.keep ks (by omega), hz7'.set 4 _, hqz, ho7.keep ks (fun b hb e => by have := (hv8 b hb).1; omega), htvs7.keep ks (fun y hy _ e => ?_), fun y hy => ?_, by rw [hsz]; exact hv8, hb7.trans (ks.below (by omega)), by rw [hsz]; omega, HAL.out HRT.out⟩
          · rcases hy with hy | hy
            · have := HP.out.g y hy; omega
            · omega
          · rw [hsz]
            rcases hy with hy | hy
            · have hg := HP.out.g y hy
              refine ⟨hg.1, by omega, fun e => ?_⟩
              rcases (hv7 y e).1 with h | h
              · exact hg.2.2 h
              · omega
            · refine ⟨by omega, by omega, fun e => ?_⟩
              rcases (hv7 y e).1 with h | h
              · have := (HP.out.v y h).2; omega
              · omega)
        clear ho7 hk7 hv7 k37 ka hvr hq7 hz7' hb7 htvs7 hv8 HB3 HO3 HTT3 HCL HC1 z4 HSN HAL HNO
        go_wp2_with fail
        go_roundw
        case rel => exact ⟨j + 1, _, _, _, by omega, by go_num, HPn.out⟩
        case measure => simp [intOf]; omega
    · obtain rfl : j = l.length := by omega
      have HA : Hid (tksB l = decide (l.length ≤ 1)) := hqZ (by
        have h := HP.out.all
        rw [List.take_length] at h
        unfold tksB
        rw [h, Bool.true_and])
      have HQ3 := hqZ HP.out.hq
      have HZ3 := hqZ HP.out.hz
      have HTV := hqZ (HP.out.tv (fun h => by omega) (Nat.le_refl _))
      clear hp
      obtain ⟨bb, hbb⟩ : ∃ bb, bb = decide (l.length ≤ 1) := ⟨_, rfl⟩
      have hb2 : decide ((l.length : Int) ≤ 1) = bb := by rw [hbb]; simp; omega
      have HBB := hqZ hbb
      clear hbb
      go_wp2_with (first | ((with_reducible show wpList _ _ _ (⟨some 32, _, _, _, _, _⟩ :: _) _ _); refine wpList_ldAgg rfl (.tmp 4) aggDer rfl rfl (cs := [.int .i64 2, .int .i64 0, .int .u64 0, .slice none 0 0, .slice la l.length lc]) rfl HZ3.out.cellsAll ?_) | ((with_reducible show wpList _ _ _ (⟨none, .store _ (.tmp 2) (.tmp 32), _, _, _, _⟩ :: _) _ _); refine wpList_stAgg rfl (.tmp 2) (.tmp 32) aggDer rfl rfl (vs := [.int .i64 2, .int .i64 0, .int .u64 0, .slice none 0 0, .slice la l.length lc]) rfl rfl HQ3.out (Nat.le_refl _) (by intro u hu; simp at hu; rcases hu with rfl | rfl | rfl | rfl | rfl <;> rfl) ?_))
      intro w4 h4 k4
      have H4 : Hid (Blk w4 q [.int .i64 2, .int .i64 0, .int .u64 0, .slice none 0 0, .slice la l.length lc] 38) := hqZ (by simpa [zs5] using h4)
      have HK4 := hqZ k4
      clear h4 k4
      go_wp2_with fail
      refine bodyPost_ret (results_agg_tmp rfl aggDer rfl (cs := [.int .i64 2, .int .i64 0, .int .u64 0, .slice none 0 0, .slice la l.length lc]) rfl H4.out.cellsAll) rfl ⟨[.int .i64 2, .int .i64 0, .int .u64 0, .slice none 0 0, .slice la l.length lc], ?_, ?_, ?_⟩
      · rw [HA.out, ← HBB.out]; rfl
      · exact (HTV.out.keep HK4.out (fun b hb _ e => by omega)).mono (fun b hb => by omega)
      · exact (HP.out.below.trans (HK4.out.below (by omega))).mono hqw
inductive Pt where
  | s (l : List UInt8)
  | n (x : Int)
  | b (l : List UInt8)
  | t (x : Bool)
  | i (t : List UInt8 × List UInt8)
  | x (l : List (List UInt8 × List UInt8))
inductive Kd where | s | n | b | t | i | x
abbrev St : Type := List Tv × Bool × Bool
def stepS (k : Kd) (st : St) : Pt × St :=
  match k with
  | .s => (.s (nameS st.1 st.2.1).1, (nameS st.1 st.2.1).2.1, (nameS st.1 st.2.1).2.2, st.2.2)
  | .n => (.n (numS st.1 st.2.1).1, (numS st.1 st.2.1).2.1, (numS st.1 st.2.1).2.2, st.2.2)
  | .b => (.b (bytesS st.1 st.2.1).1, (bytesS st.1 st.2.1).2.1, (bytesS st.1 st.2.1).2.2, st.2.2)
  | .t => (.t (truthS st.1 st.2.1).1, (truthS st.1 st.2.1).2.1, (truthS st.1 st.2.1).2.2, st.2.2)
  | .i => (.i (tickS st.1 st.2.1 st.2.2).1, (tickS st.1 st.2.1 st.2.2).2)
  | .x => (.x (extraS st.1 st.2.1 st.2.2).1, (extraS st.1 st.2.1 st.2.2).2)
def runS : List Kd → St → List Pt × St
  | [], st => ([], st)
  | k :: ks, st => ((stepS k st).1 :: (runS ks (stepS k st).2).1, (runS ks (stepS k st).2).2)
def shapeS (t : Int) : List Kd :=
  if t = 11 then [.s, .n, .n, .b] else if t = 12 then [.s, .i, .b] else if t = 13 then [.s, .n, .n, .t, .t, .i, .b, .x] else if t = 14 then [.s, .i, .b]
  else if t = 15 then [.s, .s, .n] else if t = 16 then [.s, .s, .n, .i] else if t = 17 then [.s, .s, .n, .i, .b] else if t = 18 then [.s, .s, .n, .b]
  else if t = 19 then [.s, .s, .n, .n, .n, .b] else if t = 20 then [.s, .n, .n, .t, .i, .b] else if t = 21 then [.s, .b] else if t = 22 then [.s, .n, .n] else []
def typM (t : Int) : TypeId :=
  if t = 11 then 54 else if t = 12 then 56 else if t = 13 then 59 else if t = 14 then 60
  else if t = 15 then 62 else if t = 16 then 64 else if t = 17 then 66 else if t = 18 then 68
  else if t = 19 then 70 else if t = 20 then 72 else if t = 21 then 74 else 76
def ofS (x : Tv) : Option (List Pt) :=
  if x.kind = 2 ∧ (shapeS x.tag).isEmpty = false ∧ (runS (shapeS x.tag) (x.l, false, false)).2.2.2 = false ∧ (runS (shapeS x.tag) (x.l, false, false)).2.2.1 = false ∧ (runS (shapeS x.tag) (x.l, false, false)).2.1.isEmpty = true
  then some (runS (shapeS x.tag) (x.l, false, false)).1 else none
def PtV (w : World) (F : Nat → Prop) : Pt → List Value → Prop
  | .s l, cs => cs = [.string (tx l)]
  | .n x, cs => cs = [.int .i64 x]
  | .b l, cs => ∃ v, cs = [v] ∧ Bs w v l ∧ (0 < l.length → ∀ y, v.ownBlock = some y → F y)
  | .t x, cs => cs = [.bool x]
  | .i t, cs => ∃ bv, cs = [.string (tx t.1), bv] ∧ Bs w bv t.2 ∧ (0 < t.2.length → ∀ y, bv.ownBlock = some y → F y)
  | .x l, cs => ∃ v, cs = [v] ∧ TksV w F l v
def PtsV (w : World) (F : Nat → Prop) : List Pt → List Value → Prop
  | [], cs => cs = []
  | p :: l, cs => ∃ a b, cs = a ++ b ∧ PtV w F p a ∧ PtsV w F l b
def notX : Pt → Bool | .x _ => false | _ => true
theorem PtV.keep {w w' : World} {F S : Nat → Prop} (hk : Keeps S w w') (hs : ∀ b, F b → b < w.heap.size → ¬ S b) : ∀ {p : Pt} {cs : List Value}, notX p = true → PtV w F p cs → PtV w' F p cs
  | .s _, _, _, h => h
  | .n _, _, _, h => h
  | .t _, _, _, h => h
  | .b l, _, _, ⟨v, e, h1, h2⟩ => ⟨v, e, h1.keepF hk h2 hs, h2⟩
  | .i t, _, _, ⟨v, e, h1, h2⟩ => ⟨v, e, h1.keepF hk h2 hs, h2⟩
  | .x _, _, hn, _ => by simp [notX] at hn
theorem PtV.below {w w' : World} {F : Nat → Prop} (hb : Below w.heap.size w w') : ∀ {p : Pt} {cs : List Value}, PtV w F p cs → PtV w' F p cs
  | .s _, _, h => h
  | .n _, _, h => h
  | .t _, _, h => h
  | .b l, _, ⟨v, e, h1, h2⟩ => ⟨v, e, h1.below hb, h2⟩
  | .i t, _, ⟨v, e, h1, h2⟩ => ⟨v, e, h1.below hb, h2⟩
  | .x _, _, ⟨v, e, rows, h1, h2⟩ => ⟨v, e, rows, h1.below hb, h2.below hb⟩
theorem PtsV.keep {w w' : World} {F S : Nat → Prop} (hk : Keeps S w w') (hs : ∀ b, F b → b < w.heap.size → ¬ S b) : ∀ {l : List Pt} {cs : List Value}, l.all notX = true → PtsV w F l cs → PtsV w' F l cs
  | [], _, _, h => h
  | p :: l, _, hn, ⟨a, b, e, h1, h2⟩ => by
    simp only [List.all_cons, Bool.and_eq_true] at hn
    exact ⟨a, b, e, h1.keep hk hs hn.1, PtsV.keep hk hs hn.2 h2⟩
theorem PtsV.below {w w' : World} {F : Nat → Prop} (hb : Below w.heap.size w w') : ∀ {l : List Pt} {cs : List Value}, PtsV w F l cs → PtsV w' F l cs
  | [], _, h => h
  | p :: l, _, ⟨a, b, e, h1, h2⟩ => ⟨a, b, e, h1.below hb, PtsV.below hb h2⟩
theorem PtsV.snoc {w : World} {F : Nat → Prop} : ∀ {l : List Pt} {cs : List Value} {p : Pt} {c : List Value}, PtsV w F l cs → PtV w F p c → PtsV w F (l ++ [p]) (cs ++ c)
  | [], cs, p, c, h, hp => by
    rw [show cs = [] from h]
    exact ⟨c, [], by simp, hp, rfl⟩
  | q :: l, cs, p, c, ⟨a, b, e, h1, h2⟩, hp => by
    subst e
    exact ⟨a, b ++ c, by simp, h1, PtsV.snoc h2 hp⟩
def MsgV (w : World) (F : Nat → Prop) (t : Int) (l : List Pt) (v : Value) : Prop := ∃ cs, v = .iface (typM t) (.agg cs.toArray) ∧ PtsV w F l cs
theorem MsgV.below {w w' : World} {F : Nat → Prop} {t : Int} {l : List Pt} {v : Value} (h : MsgV w F t l v) (hb : Below w.heap.size w w') : MsgV w' F t l v := by
  obtain ⟨cs, e, h⟩ := h
  exact ⟨cs, e, h.below hb⟩
theorem Tkn.hs {w : World} {F : Nat → Prop} {pm p : Nat} {rem : List Tv} {bad bad2 : Bool} (h : Tkn w F pm p rem bad bad2) : ∀ b, F b → b < w.heap.size → ¬ Sm pm p w.heap.size b := fun b hb hl e => by
  rcases e with e | e | e
  · exact h.2.1.notF (by rw [← e]; exact hb)
  · exact h.2.2.2.1 (by rw [← e]; exact hb)
  · omega
theorem Tkn.drew {w : World} {F : Nat → Prop} {pm p : Nat} {rem : List Tv} {bad bad2 : Bool} (h : Tkn w F pm p rem bad bad2) : Tkn w.drew F pm p rem bad bad2 := h.below (Below.refl _ _).drew
theorem Tkn.ptr {w : World} {F : Nat → Prop} {pm p : Nat} {rem : List Tv} {bad bad2 : Bool} (h : Tkn w F pm p rem bad bad2) : w.cell? ⟨pm, 0, none⟩ = some (.pointer (some ⟨p, 0, none⟩)) := h.1.cell 0
theorem tkRes {w w' : World} {F : Nat → Prop} {pm p : Nat} {rem : List Tv} {bad bad2 : Bool} (h : Tkn w F pm p rem bad bad2) {v : Value} {r : List Tv × Bool} {e : Ending} (k : TkRes w F p v r e w') : TknRes w F pm p (r.1, r.2, bad2) e v w' :=
  ⟨k.1, h.step k.2.1 k.2.2, sm_tk (Nat.le_refl _) k.2.2⟩
theorem nameK_any (rem : List Tv) (bad bad2 : Bool) (pm p : Nat) (F : Nat → Prop) (w : World) (h : Tkn w F pm p rem bad bad2) :
    Calls Try.prog 35 #[.pointer (some ⟨p, 0, none⟩)] w fun e w' => TknRes w F pm p ((nameS rem bad).2.1, (nameS rem bad).2.2, bad2) e (.string (tx (nameS rem bad).1)) w' :=
  (name_any rem bad p F w h.2.1).mono fun _ _ k => tkRes h k
theorem numK_any (rem : List Tv) (bad bad2 : Bool) (pm p : Nat) (F : Nat → Prop) (w : World) (h : Tkn w F pm p rem bad bad2) :
    Calls Try.prog 36 #[.pointer (some ⟨p, 0, none⟩)] w fun e w' => TknRes w F pm p ((numS rem bad).2.1, (numS rem bad).2.2, bad2) e (.int .i64 (numS rem bad).1) w' :=
  (num_any rem bad p F w h.2.1).mono fun _ _ k => tkRes h k
theorem truthK_any (rem : List Tv) (bad bad2 : Bool) (pm p : Nat) (F : Nat → Prop) (w : World) (h : Tkn w F pm p rem bad bad2) :
    Calls Try.prog 39 #[.pointer (some ⟨p, 0, none⟩)] w fun e w' => TknRes w F pm p ((truthS rem bad).2.1, (truthS rem bad).2.2, bad2) e (.bool (truthS rem bad).1) w' :=
  (truth_any rem bad p F w h.2.1).mono fun _ _ k => tkRes h k
theorem bytesK_any (rem : List Tv) (bad bad2 : Bool) (pm p : Nat) (F : Nat → Prop) (w : World) (h : Tkn w F pm p rem bad bad2) :
    Calls Try.prog 37 #[.pointer (some ⟨p, 0, none⟩)] w fun e w' => ∃ v, TknRes w F pm p ((bytesS rem bad).2.1, (bytesS rem bad).2.2, bad2) e v w' ∧ Bs w' v (bytesS rem bad).1 ∧ (0 < (bytesS rem bad).1.length → ∀ y, v.ownBlock = some y → F y) :=
  (bytes_any rem bad p F w h.2.1).mono fun _ _ ⟨v, k, h1, h2⟩ => ⟨v, tkRes h k, h1, h2⟩
theorem nextS_sub {k : Int} {rem : List Tv} {bad : Bool} : ∀ y ∈ (nextS k rem bad).2.1, y ∈ rem := by
  intro y hy
  unfold nextS at hy
  split at hy
  · simp at hy
  · split at hy
    · exact List.mem_cons_of_mem _ hy
    · simp at hy
theorem partS_sub {k : Int} {rem : List Tv} {bad : Bool} : ∀ y ∈ (partS k rem bad).2.1, y ∈ rem := by
  intro y hy
  unfold partS at hy
  split at hy
  · simp at hy
  · split at hy
    · exact List.mem_cons_of_mem _ hy
    · simp at hy
theorem nameS_sub {rem : List Tv} {bad : Bool} : ∀ y ∈ (nameS rem bad).2.1, y ∈ rem := nextS_sub
theorem bytesS_sub {rem : List Tv} {bad : Bool} : ∀ y ∈ (bytesS rem bad).2.1, y ∈ rem := nextS_sub
theorem truthS_sub {rem : List Tv} {bad : Bool} : ∀ y ∈ (truthS rem bad).2.1, y ∈ rem := nextS_sub
theorem numS_sub {rem : List Tv} {bad : Bool} : ∀ y ∈ (numS rem bad).2.1, y ∈ rem := by
  intro y hy
  unfold numS at hy
  split at hy <;> exact nextS_sub y hy
theorem tickS_sub {rem : List Tv} {bad bad2 : Bool} : ∀ y ∈ (tickS rem bad bad2).2.1, y ∈ rem := by
  intro y hy
  unfold tickS at hy
  split at hy <;> exact partS_sub y hy
section
def maxU : Nat := 18446744073709551615
def numU : Int → Nat
  | .ofNat n => n
  | .negSucc n => maxU - n
def ptTv : Pt → Tv
  | .s l => .mk 1 0 0 l []
  | .n x => .mk 0 0 (numU x) [] []
  | .b l => .mk 1 0 0 l []
  | .t b => .mk 0 0 (if b then 1 else 0) [] []
  | .i t => tkTv t
  | .x l => tksTv l
def ptB : Pt → Bool
  | .s l => rightB (tx l)
  | .n x => timeB x
  | .b _ => true
  | .t _ => true
  | .i t => rT t
  | .x l => tksB l
theorem numU_pos (n : Nat) : numU (n : Int) = n := rfl
theorem numU_neg (x : Int) (m : Nat) (h : x < 0) (hm : x + (maxU + 1 : Nat) = m) : numU x = m := by
  cases x with
  | ofNat n => exact absurd h (by simp)
  | negSucc n =>
    show maxU - n = m
    have : maxU = 18446744073709551615 := rfl
    omega
theorem mnumI_any (x : Int) (w : World) (h1 : -9223372036854775808 ≤ x) (h2 : x ≤ 9223372036854775807) : Calls Try.prog 27 #[.int .i64 x] w (MkRes w (.mk 0 0 (numU x) [] [])) := by
  rcases (by omega : x < 0 ∨ 0 ≤ x) with h | h
  · obtain ⟨m, hm⟩ : ∃ m : Nat, x + 18446744073709551616 = m := ⟨_, (Int.toNat_of_nonneg (by omega)).symm⟩
    rw [numU_neg x m h (by unfold maxU; omega)]
    exact mnum_neg x m w h h1 hm
  · obtain ⟨n, rfl⟩ := Int.eq_ofNat_of_zero_le h
    rw [numU_pos]
    exact mnum_any n w (by omega)
theorem exec_ldAgg {P : Program} {o : Oper} {a : Act} {W : World} {ty : TypeId} {m b off : Nat} {x : Operand} {cs : List Value} (ho : o.op = .load ty x) (hT : AggTy P ty m) (hx : a.eval x = .pointer (some ⟨b, off, none⟩)) (hm : cs.length = m) (hc : CellsAt W b off cs) :
    (execOp a.eval o).run P W = .ok (.value (.agg cs.toArray)) W := by
  have h := run_ldAgg hT hm hc
  unfold execOp
  simp only [ho, hx, Instr.loadAt, Instr.sureAddr, Sem.run_bind, Sem.run_pure, Result.andThen_ok, h]
structure VC (w : World) (q : Nat) (blks : List (Nat × List Value × TypeId)) (trees : List (Tv × List Value)) (rows : List (Value × List UInt8)) (W : World) : Prop where
  below : Below w.heap.size w W
  hq : q = w.heap.size
  lt : q < W.heap.size
  zq : Blk W q zs5 38
  blk : ∀ b ∈ blks, Blk W b.1 b.2.1 b.2.2 ∧ q < b.1
  tree : ∀ t ∈ trees, TvF W (fun b => q < b) t.1 t.2
  row : ∀ r ∈ rows, Bs W r.1 r.2 ∧ (0 < r.2.length → ∀ y, r.1.ownBlock = some y → y < q)
section
variable {w : World} {q : Nat} {blks : List (Nat × List Value × TypeId)} {trees : List (Tv × List Value)} {rows : List (Value × List UInt8)} {W W' : World}
theorem VC.step (h : VC w q blks trees rows W) (hb : Below W.heap.size W W') : VC w q blks trees rows W' :=
  ⟨h.below.trans (hb.mono h.below.size), h.hq, Nat.lt_of_lt_of_le h.lt hb.size, h.zq.below hb h.lt, fun b hm => ⟨(h.blk b hm).1.below hb (h.blk b hm).1.lt, (h.blk b hm).2⟩, fun t hm => (h.tree t hm).below hb, fun r hm => ⟨(h.row r hm).1.below hb, (h.row r hm).2⟩⟩
theorem VC.drew (h : VC w q blks trees rows W) : VC w q blks trees rows W.drew := h.step ((Below.refl _ _).drew)
theorem VC.blkAt (h : VC w q blks trees rows W) (i : Nat) {b : Nat} {cs : List Value} {T : TypeId} (hi : blks[i]? = some (b, cs, T)) : Blk W b cs T := (h.blk _ (List.mem_of_getElem? hi)).1
theorem VC.treeAt (h : VC w q blks trees rows W) (i : Nat) {x : Tv} {cs : List Value} (hi : trees[i]? = some (x, cs)) : TvF W (fun b => q < b) x cs := h.tree _ (List.mem_of_getElem? hi)
theorem VC.rowAt (h : VC w q blks trees rows W) (i : Nat) {v : Value} {l : List UInt8} (hi : rows[i]? = some (v, l)) : Bs W v l := (h.row _ (List.mem_of_getElem? hi)).1
theorem VC.addBlk (h : VC w q blks trees rows W) {b : Nat} {cs : List Value} {T : TypeId} (hb : Blk W b cs T) (hq : q < b) : VC w q (blks ++ [(b, cs, T)]) trees rows W :=
  ⟨h.below, h.hq, h.lt, h.zq, fun x hm => by
    rcases List.mem_append.1 hm with hm | hm
    · exact h.blk x hm
    · rw [List.mem_singleton.1 hm]; exact ⟨hb, hq⟩, h.tree, h.row⟩
theorem VC.addTree (h : VC w q blks trees rows W) {x : Tv} {cs : List Value} (ht : TvF W (fun b => q < b) x cs) : VC w q blks (trees ++ [(x, cs)]) rows W :=
  ⟨h.below, h.hq, h.lt, h.zq, h.blk, fun t hm => by
    rcases List.mem_append.1 hm with hm | hm
    · exact h.tree t hm
    · rw [List.mem_singleton.1 hm]; exact ht, h.row⟩
theorem VC.start (hr : ∀ r ∈ rows, Bs w r.1 r.2) (cs : List Value) (T : TypeId) : VC w w.heap.size [(w.heap.size + 1, cs, T)] [] rows ((w.alloc (.cells zs5.toArray 38)).alloc (.cells cs.toArray T)) := by
  have h1 : (w.alloc (.cells zs5.toArray 38)).heap.size = w.heap.size + 1 := by simp
  have hb1 : Below w.heap.size w (w.alloc (.cells zs5.toArray 38)) := (Below.refl _ _).alloc (Nat.le_refl _) _
  have hb2 : Below w.heap.size w ((w.alloc (.cells zs5.toArray 38)).alloc (.cells cs.toArray T)) := hb1.alloc (by omega) _
  refine ⟨hb2, rfl, by simp <;> omega, (Blk.new _ _ _).alloc _, fun b hm => ?_, fun t hm => by simp at hm, fun r hm => ⟨(hr r hm).below hb2, fun hn y hy => Sl.own_lt (hr r hm) (by decide) hn y hy⟩⟩
  rw [List.mem_singleton.1 hm]
  exact ⟨by have := Blk.new (w.alloc (.cells zs5.toArray 38)) cs T; rw [h1] at this; exact this, by omega⟩
structure VR (w : World) (q : Nat) (blks : List (Nat × List Value × TypeId)) (trees : List (Tv × List Value)) (rows : List (Value × List UInt8)) (W : World) : Prop where
  below : Below w.heap.size w W
  lt : q < W.heap.size
  len : LenV q W
  blk : ∀ b ∈ blks, Blk W b.1 b.2.1 b.2.2
  tree : ∀ t ∈ trees, TvF W (fun b => q < b) t.1 t.2
  row : ∀ r ∈ rows, Bs W r.1 r.2
theorem VC.gv (h : VC w q blks trees rows W) {X : Tv} (g : GV (fun b => q < b) q X W W') : VR w q blks trees rows W' := by
  have hz := g.1.size
  have hlt := h.lt
  refine ⟨h.below.trans (g.1.below (by have := h.hq; rintro b (e | e) <;> omega)), by omega, g.2.2 ⟨_, h.zq, rfl⟩, fun b hm => ?_, fun t hm => ?_, fun r hm => ?_⟩
  · have := h.blk b hm
    exact this.1.keep g.1 (by have := this.1.lt; rintro (e | e) <;> omega)
  · exact (h.tree t hm).keep g.1 (GV.not (Nat.lt_irrefl q))
  · have := h.row r hm
    exact this.1.keepF g.1 (F := fun y => y < q) this.2 (fun b hb hl e => by
      have hb : b < q := hb
      rcases e with e | e <;> omega)
theorem VR.blkAt (h : VR w q blks trees rows W) (i : Nat) {b : Nat} {cs : List Value} {T : TypeId} (hi : blks[i]? = some (b, cs, T)) : Blk W b cs T := h.blk _ (List.mem_of_getElem? hi)
theorem VR.treeAt (h : VR w q blks trees rows W) (i : Nat) {x : Tv} {cs : List Value} (hi : trees[i]? = some (x, cs)) : TvF W (fun b => q < b) x cs := h.tree _ (List.mem_of_getElem? hi)
theorem VR.rowAt (h : VR w q blks trees rows W) (i : Nat) {v : Value} {l : List UInt8} (hi : rows[i]? = some (v, l)) : Bs W v l := h.row _ (List.mem_of_getElem? hi)
end
end
theorem szTx {l : List UInt8} (h : l.length ≤ 140737488355328) : (tx l).size ≤ maxLen := by rw [tx_size]; unfold maxLen; omega
theorem enters_mtext : Enters Try.prog 26 := Enters.mk Try.func26 (by kernel_rfl) (by kernel_rfl)
theorem enters_mnum : Enters Try.prog 27 := Enters.mk Try.func27 (by kernel_rfl) (by kernel_rfl)
theorem enters_mtruth : Enters Try.prog 32 := Enters.mk Try.func32 (by kernel_rfl) (by kernel_rfl)
theorem enters_mright : Enters Try.prog 29 := Enters.mk Try.func29 (by kernel_rfl) (by kernel_rfl)
theorem elStr : Elem Try.prog 93 9 1 16 (.string ⟨#[]⟩) := by
  refine Elem.mk Try.underlying93 ?_ rfl (by decide)
  kernel_rfl
theorem elI64 : Elem Try.prog 116 2 1 8 (.int .i64 0) := by
  refine Elem.mk Try.underlying116 ?_ rfl (by decide)
  kernel_rfl
theorem zero_11 (W : World) : (zeroValue 54).run Try.prog W = .ok (.agg #[.string ⟨#[]⟩, .int .i64 0, .int .i64 0, .slice none 0 0]) W := by kernel_rfl
theorem zero_12 (W : World) : (zeroValue 56).run Try.prog W = .ok (.agg #[.string ⟨#[]⟩, .string ⟨#[]⟩, .slice none 0 0, .slice none 0 0]) W := by kernel_rfl
theorem zero_13 (W : World) : (zeroValue 59).run Try.prog W = .ok (.agg #[.string ⟨#[]⟩, .int .i64 0, .int .i64 0, .bool false, .bool false, .string ⟨#[]⟩, .slice none 0 0, .slice none 0 0, .slice none 0 0]) W := by kernel_rfl
theorem zero_14 (W : World) : (zeroValue 60).run Try.prog W = .ok (.agg #[.string ⟨#[]⟩, .string ⟨#[]⟩, .slice none 0 0, .slice none 0 0]) W := by kernel_rfl
theorem zero_15 (W : World) : (zeroValue 62).run Try.prog W = .ok (.agg #[.string ⟨#[]⟩, .string ⟨#[]⟩, .int .i64 0]) W := by kernel_rfl
theorem zero_16 (W : World) : (zeroValue 64).run Try.prog W = .ok (.agg #[.string ⟨#[]⟩, .string ⟨#[]⟩, .int .i64 0, .string ⟨#[]⟩, .slice none 0 0]) W := by kernel_rfl
theorem zero_17 (W : World) : (zeroValue 66).run Try.prog W = .ok (.agg #[.string ⟨#[]⟩, .string ⟨#[]⟩, .int .i64 0, .string ⟨#[]⟩, .slice none 0 0, .slice none 0 0]) W := by kernel_rfl
theorem zero_18 (W : World) : (zeroValue 68).run Try.prog W = .ok (.agg #[.string ⟨#[]⟩, .string ⟨#[]⟩, .int .i64 0, .slice none 0 0]) W := by kernel_rfl
theorem zero_19 (W : World) : (zeroValue 70).run Try.prog W = .ok (.agg #[.string ⟨#[]⟩, .string ⟨#[]⟩, .int .i64 0, .int .i64 0, .int .i64 0, .slice none 0 0]) W := by kernel_rfl
theorem zero_20 (W : World) : (zeroValue 72).run Try.prog W = .ok (.agg #[.string ⟨#[]⟩, .int .i64 0, .int .i64 0, .bool false, .string ⟨#[]⟩, .slice none 0 0, .slice none 0 0]) W := by kernel_rfl
theorem zero_21 (W : World) : (zeroValue 74).run Try.prog W = .ok (.agg #[.string ⟨#[]⟩, .slice none 0 0]) W := by kernel_rfl
theorem zero_22 (W : World) : (zeroValue 76).run Try.prog W = .ok (.agg #[.string ⟨#[]⟩, .int .i64 0, .int .i64 0]) W := by kernel_rfl
end Go.Proofs.Ytpjkidcfidmfaaa
