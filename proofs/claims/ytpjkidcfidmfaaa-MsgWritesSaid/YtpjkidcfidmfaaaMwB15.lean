/- Texts of this proof, one behind the other: MAlive, MItA, MSameTk, Runes, Ref09, Ref09b, Ref09c, MRef1, MRef2. -/
import Derived.Test.YtpjkidcfidmfaaaMwB14
import Derived.Laws.Cover4
import Derived.Lib.MapLaws
import Derived.Lib.TrimUEq
import Derived.Lib.QuoteLoop
import Derived.Stop.FmtQuoteTie
namespace Go.Proofs.Ytpjkidcfidmfaaa
set_option linter.unusedSimpArgs false
set_option linter.unusedVariables false
open Go.RowKit
def annB : List UInt8 := [97, 110, 110]
def AnnB : List UInt8 := [65, 110, 110]
def bobB : List UInt8 := [98, 111, 98]
def exB11 : List UInt8 := [143, 13, 64, 3, 97, 110, 110, 64, 3, 98, 111, 98, 0, 1, 7]
theorem exW11 : wrM 15 [.s annB, .s bobB, .n 7] = (exB11, 0) := by decide +kernel
theorem exN11 : wrM 15 [.s AnnB, .s bobB, .n 0] = ([], 7) := by decide +kernel
theorem exA11 : [Pt.s AnnB, Pt.s bobB, Pt.n 0].all ptB = false := by decide +kernel
theorem exR11 : rdM exB11 = (some (15, [.s annB, .s bobB, .n 7]), 0) := by
  have h1 : wholeS exB11 = (msgTv 15 [.s annB, .s bobB, .n 7], 0) := by kernel_rfl
  have h2 : msgR (msgTv 15 [.s annB, .s bobB, .n 7]) = true := by decide +kernel
  unfold rdM rdV
  rw [h1, if_pos rfl, ofS_eq, if_pos h2]
  rfl
theorem exL11 : (writeS (msgTv 15 [.s annB, .s bobB, .n 7])).length ≤ 140737521909760 := by
  have : writeS (msgTv 15 [.s annB, .s bobB, .n 7]) = exB11 := by kernel_rfl
  rw [this]
  decide
theorem callV (w : World) (a b : List UInt8) (n : Int) : MsgV w (fun _ => True) 15 [.s a, .s b, .n n] (.iface 62 (.agg #[.string (tx a), .string (tx b), .int .i64 n])) :=
  ⟨[.string (tx a), .string (tx b), .int .i64 n], rfl, [.string (tx a)], _, rfl, rfl, [.string (tx b)], _, rfl, rfl, [.int .i64 n], [], rfl, rfl, rfl⟩
theorem callOk (a b : List UInt8) (n : Int) (ha : a.length ≤ 140737488355328) (hb : b.length ≤ 140737488355328) (h1 : -9223372036854775808 ≤ n ∧ n ≤ 9223372036854775807) : ∀ p ∈ [Pt.s a, .s b, .n n], PtOk p := by
  intro p hp
  simp only [List.mem_cons, List.not_mem_nil, or_false] at hp
  rcases hp with rfl | rfl | rfl
  · exact ha
  · exact hb
  · exact h1
set_option maxHeartbeats 4000000 in
set_option maxRecDepth 100000 in
theorem alive11_any (w : World) : Calls Try.prog 5 #[] w fun e w' => e = .returned (.bool true) ∧ Below w.heap.size w w' := by
  have HW1 := hqZ (msgWrite_any 15 [.s annB, .s bobB, .n 7] (fun _ => True) _ w rfl rfl (callV w annB bobB 7) (callOk _ _ _ (by decide) (by decide) (by decide)) (fun _ => exL11))
  rw [exW11] at HW1
  go_enter Try.func5, Try.ntmps5
  go_wp2_with fail
  refine HW1.out.mono ?_
  rintro e w1 ⟨v1, rfl, hb1, hw1⟩
  have HB1 := hqZ hw1
  have HS1 := hqZ hb1
  obtain ⟨a1, c1, rfl, _⟩ := hb1.form
  have HR := hqZ (msgRead_any _ exB11 w1 hb1)
  rw [exR11] at HR
  clear hb1 hw1 HW1
  go_wp2_with fail
  refine HR.out.mono ?_
  rintro e w2 ⟨v2, rfl, hw2, hm⟩
  have hm : MsgV w2 (fun b => b < w2.heap.size) 15 [.s annB, .s bobB, .n 7] v2 := hm
  obtain ⟨cs, rfl, hp⟩ := hm
  obtain ⟨_, _, rfl, rfl, _, _, rfl, rfl, _, _, rfl, rfl, hp⟩ := hp
  obtain rfl : _ = [] := hp
  have HB2 : Hid (Below w.heap.size w w2) := hqZ (HB1.out.trans (hw2.mono HB1.out.size))
  have HS2 := hqZ (HS1.out.below hw2)
  clear hw2 HR
  have hty : typM 15 = 62 := rfl
  have ha : tx annB = ⟨#[97, 110, 110]⟩ := rfl
  have hb : tx bobB = ⟨#[98, 111, 98]⟩ := rfl
  have hk : tx kdcB = ⟨#[107, 100, 99]⟩ := rfl
  simp only [List.cons_append, List.nil_append, hty, ha, hb]
  have HA := hqZ ha
  have HBB := hqZ hb
  have HKB := hqZ hk
  have hta : ∀ W, (Instr.typeAssert (.iface 62 (.agg #[.string ⟨#[97, 110, 110]⟩, .string ⟨#[98, 111, 98]⟩, .int .i64 7])) 20 62 true).run Try.prog W = .ok (.tuple #[.agg #[.string ⟨#[97, 110, 110]⟩, .string ⟨#[98, 111, 98]⟩, .int .i64 7], .bool true]) W := fun W => ta_is _ _ _ (by kernel_rfl) W
  clear ha hb hk hm hty
  obtain ⟨w3, hw3⟩ : ∃ w3, w3 = w2.alloc (.cells #[.string ⟨#[97, 110, 110]⟩, .string ⟨#[98, 111, 98]⟩, .int .i64 7] 62) := ⟨_, rfl⟩
  have HB3 : Hid (Below w.heap.size w w3) := hqZ (by rw [hw3]; exact HB2.out.alloc HB2.out.size _)
  have HS3 := hqZ (show Bs w3 (.slice a1 exB11.length c1) exB11 by rw [hw3]; exact HS2.out.alloc _)
  have HQ3 : Hid (Blk w3 w2.heap.size [.string ⟨#[97, 110, 110]⟩, .string ⟨#[98, 111, 98]⟩, .int .i64 7] 62) := hqZ (by rw [hw3]; exact Blk.new _ _ _)
  have HW2 := hqZ (msgWrite_any 15 [.s AnnB, .s bobB, .n 0] (fun _ => True) _ w3 rfl rfl (callV w3 AnnB bobB 0) (callOk _ _ _ (by decide) (by decide) (by decide)) (fun h => by rw [exA11] at h; cases h))
  rw [exN11] at HW2
  go_upto_region 4 with fail
  show Code.wp _ _ _ _ (w2.alloc (.cells #[.string ⟨#[97, 110, 110]⟩, .string ⟨#[98, 111, 98]⟩, .int .i64 7] 62))
  rw [← hw3]
  clear hw3 hta
  go_wp2_with fail
  refine HW2.out.mono ?_
  rintro e w4 ⟨v4, rfl, hb4, hw4⟩
  obtain ⟨a4, c4, rfl, _⟩ := hb4.form
  have HB4 : Hid (Below w.heap.size w w4) := hqZ (HB3.out.trans (hw4.mono HB3.out.size))
  have HS4 := hqZ (HS3.out.below hw4)
  have HQ4 := hqZ (HQ3.out.below hw4 HQ3.out.lt)
  clear hw4 hb4 HW2
  obtain ⟨g, o, rfl, hc⟩ := HS4.out.addr (by rw [bCells_length]; decide)
  have c0 : w4.cell? ⟨g, o, none⟩ = some (.int .u8 143) := hc 0 _ rfl
  have q0 : w4.cell? ⟨w2.heap.size, 0, none⟩ = some (.string ⟨#[97, 110, 110]⟩) := HQ4.out.cell 0
  have q1 : w4.cell? ⟨w2.heap.size, 1, none⟩ = some (.string ⟨#[98, 111, 98]⟩) := HQ4.out.cell 1
  have q2 : w4.cell? ⟨w2.heap.size, 2, none⟩ = some (.int .i64 7) := HQ4.out.cell 2
  have hlen : exB11.length = 15 := rfl
  have hlen0 : ([] : List UInt8).length = 0 := rfl
  rw [hlen, hlen0]
  have HT1 := hqZ (msgTo_15 annB bobB 7 w4)
  clear hc hlen hlen0
  go_wp2_with fail
  refine HT1.out.mono ?_
  rintro e w5 ⟨rfl, hb5⟩
  rw [HBB.out]
  have HB5 : Hid (Below w.heap.size w w5) := hqZ (HB4.out.trans (hb5.mono HB4.out.size))
  have HT2 := hqZ (msgTo_11 [] 0 0 none 0 0 w5)
  clear hb5 HT1
  go_wp2_with fail
  refine HT2.out.mono ?_
  rintro e w6 ⟨rfl, hb6⟩
  rw [HKB.out]
  have HB6 : Hid (Below w.heap.size w w6) := hqZ (HB5.out.trans (hb6.mono HB5.out.size))
  have hno : NoMsg (.iface 3 (.int .i64 5)) := ⟨.inr ⟨_, _, rfl, by decide⟩, .inr ⟨_, _, rfl, by decide⟩, .inr ⟨_, _, rfl, by decide⟩, .inr ⟨_, _, rfl, by decide⟩, .inr ⟨_, _, rfl, by decide⟩, .inr ⟨_, _, rfl, by decide⟩, .inr ⟨_, _, rfl, by decide⟩, .inr ⟨_, _, rfl, by decide⟩, .inr ⟨_, _, rfl, by decide⟩, .inr ⟨_, _, rfl, by decide⟩, .inr ⟨_, _, rfl, by decide⟩, .inr ⟨_, _, rfl, by decide⟩⟩
  have HT3 := hqZ (msgTo_none (.iface 3 (.int .i64 5)) w6 hno)
  clear hb6 HT2 hno
  go_wp2_with fail
  refine HT3.out.mono ?_
  rintro e w7 ⟨rfl, hb7⟩
  have HB7 : Hid (Below w.heap.size w w7) := hqZ (HB6.out.trans (hb7.mono HB6.out.size))
  rw [show tx [] = ⟨#[]⟩ from rfl]
  clear hb7
  go_wp2_with fail
  go_ret
  exact ⟨rfl, HB7.out⟩
set_option maxHeartbeats 8000000 in
set_option maxRecDepth 100000 in
theorem it_0 (pick : Int) (a b ts : ByteArray) (n m l : Int) (ax ay at1 ae : Option Addr) (nx cx ny cy nt ct ne ce : Nat) (set1 mesh : Bool) (w : World) (hp : bits .and .i64 pick 15 = 0) : Calls Try.prog 16 #[.agg #[.int .i64 pick, .string a, .string b, .int .i64 n, .int .i64 m, .int .i64 l, .slice ax nx cx, .slice ay ny cy, .string ts, .slice at1 nt ct, .slice ae ne ce, .bool set1, .bool mesh]] w fun e w' => e = .returned (.iface 54 (.agg #[.string a, .int .i64 n, .int .i64 m, .slice ax nx cx])) ∧ Below w.heap.size w w' := by
  go_enter Try.func16, Try.ntmps16
  go_wp2_with fail
  go_ret
  exact ⟨rfl, ((Below.refl _ _).alloc (Nat.le_refl _) _).alloc (by simp) _⟩
set_option maxHeartbeats 8000000 in
set_option maxRecDepth 100000 in
theorem it_1 (pick : Int) (a b ts : ByteArray) (n m l : Int) (ax ay at1 ae : Option Addr) (nx cx ny cy nt ct ne ce : Nat) (set1 mesh : Bool) (w : World) (hp : bits .and .i64 pick 15 = 1) : Calls Try.prog 16 #[.agg #[.int .i64 pick, .string a, .string b, .int .i64 n, .int .i64 m, .int .i64 l, .slice ax nx cx, .slice ay ny cy, .string ts, .slice at1 nt ct, .slice ae ne ce, .bool set1, .bool mesh]] w fun e w' => e = .returned (.iface 56 (.agg #[.string a, .string ts, .slice at1 nt ct, .slice ax nx cx])) ∧ Below w.heap.size w w' := by
  go_enter Try.func16, Try.ntmps16
  go_wp2_with fail
  go_ret
  exact ⟨rfl, ((Below.refl _ _).alloc (Nat.le_refl _) _).alloc (by simp) _⟩
set_option maxHeartbeats 8000000 in
set_option maxRecDepth 100000 in
theorem it_2 (pick : Int) (a b ts : ByteArray) (n m l : Int) (ax ay at1 ae : Option Addr) (nx cx ny cy nt ct ne ce : Nat) (set1 mesh : Bool) (w : World) (hp : bits .and .i64 pick 15 = 2) : Calls Try.prog 16 #[.agg #[.int .i64 pick, .string a, .string b, .int .i64 n, .int .i64 m, .int .i64 l, .slice ax nx cx, .slice ay ny cy, .string ts, .slice at1 nt ct, .slice ae ne ce, .bool set1, .bool mesh]] w fun e w' => e = .returned (.iface 59 (.agg #[.string a, .int .i64 n, .int .i64 m, .bool set1, .bool mesh, .string ts, .slice at1 nt ct, .slice ax nx cx, .slice ae ne ce])) ∧ Below w.heap.size w w' := by
  go_enter Try.func16, Try.ntmps16
  go_wp2_with fail
  go_ret
  exact ⟨rfl, ((Below.refl _ _).alloc (Nat.le_refl _) _).alloc (by simp) _⟩
set_option maxHeartbeats 8000000 in
set_option maxRecDepth 100000 in
theorem it_3 (pick : Int) (a b ts : ByteArray) (n m l : Int) (ax ay at1 ae : Option Addr) (nx cx ny cy nt ct ne ce : Nat) (set1 mesh : Bool) (w : World) (hp : bits .and .i64 pick 15 = 3) : Calls Try.prog 16 #[.agg #[.int .i64 pick, .string a, .string b, .int .i64 n, .int .i64 m, .int .i64 l, .slice ax nx cx, .slice ay ny cy, .string ts, .slice at1 nt ct, .slice ae ne ce, .bool set1, .bool mesh]] w fun e w' => e = .returned (.iface 60 (.agg #[.string a, .string ts, .slice at1 nt ct, .slice ax nx cx])) ∧ Below w.heap.size w w' := by
  go_enter Try.func16, Try.ntmps16
  go_wp2_with fail
  go_ret
  exact ⟨rfl, ((Below.refl _ _).alloc (Nat.le_refl _) _).alloc (by simp) _⟩
theorem aggIn : AggTy Try.prog 51 13 := AggTy.mk Try.underlying51 rfl (by kernel_rfl)
set_option maxHeartbeats 1000000 in
set_option maxRecDepth 100000 in
theorem sameTk_any (s : ByteArray) (v1 v2 : Value) (l : List UInt8) (w : World) (h1 : Bs w v1 l) (h2 : Bs w v2 l) :
    Calls Try.prog 17 #[.agg #[.string s, v1], .agg #[.string s, v2]] w fun e w' => e = .returned (.bool true) ∧ Below w.heap.size w w' := by
  obtain ⟨a1, c1, rfl, _⟩ := h1.form
  obtain ⟨a2, c2, rfl, _⟩ := h2.form
  obtain ⟨w1, hw1⟩ : ∃ w1, w1 = (w.alloc (.cells #[.string s, .slice a1 l.length c1] 48)).alloc (.cells #[.string s, .slice a2 l.length c2] 48) := ⟨_, rfl⟩
  have hb : Below w.heap.size w w1 := by rw [hw1]; exact ((Below.refl _ _).alloc (Nat.le_refl _) _).alloc (by simp) _
  have HB := hqZ hb
  have HS := hqZ (same_b _ _ l l w1 (h1.below hb) (h2.below hb))
  rw [show decide (l = l) = true from by simp] at HS
  clear h1 h2 hb
  rw [hw1] at HS
  go_enter Try.func17, Try.ntmps17
  go_wp2_with fail
  refine HS.out.mono ?_
  rintro e w2 ⟨rfl, hb2⟩
  have HB2 : Hid (Below w.heap.size w w2) := hqZ (by rw [← hw1] at hb2; exact HB.out.trans (hb2.mono HB.out.size))
  clear hb2 hw1
  go_wp2_with fail
  go_ret
  exact ⟨rfl, HB2.out⟩
end Go.Proofs.Ytpjkidcfidmfaaa
namespace Go.Proofs.Ytpjkidcfidmfaaa
set_option linter.unusedSimpArgs false
set_option linter.unusedVariables false
open Go.RowKit Go.Lib
def ruF : Nat → List UInt8 → List Int
  | 0, _ => []
  | f + 1, l => if l = [] then [] else ((decodeL l).1 : Int) :: ruF f (l.drop (decodeL l).2)
def ru (l : List UInt8) : List Int := ruF l.length l
theorem width_posL (l : List UInt8) (h : l ≠ []) : 1 ≤ (decodeL l).2 := by
  have hl : 0 < l.length := List.length_pos_iff.2 h
  exact Lib.decode_width_pos ⟨l.toArray⟩ 0 (by simpa [ByteArray.size] using hl)
theorem ruF_more : ∀ (f f' : Nat) (l : List UInt8), l.length ≤ f → l.length ≤ f' → ruF f l = ruF f' l
  | 0, 0, _, _, _ => rfl
  | 0, f' + 1, l, h, _ => by rw [ruF, ruF, if_pos (List.eq_nil_of_length_eq_zero (by omega))]
  | f + 1, 0, l, _, h => by rw [ruF, ruF, if_pos (List.eq_nil_of_length_eq_zero (by omega))]
  | f + 1, f' + 1, l, h, h' => by
    rw [ruF, ruF]
    split
    · rfl
    · next hne =>
      have := width_posL l hne
      rw [ruF_more f f' _ (by rw [List.length_drop]; omega) (by rw [List.length_drop]; omega)]
theorem ru_nil : ru [] = [] := rfl
theorem ru_step (l : List UInt8) (h : l ≠ []) : ru l = ((decodeL l).1 : Int) :: ru (l.drop (decodeL l).2) := by
  have hl : 0 < l.length := List.length_pos_iff.2 h
  have := width_posL l h
  obtain ⟨f, hf⟩ : ∃ f, l.length = f + 1 := ⟨l.length - 1, by omega⟩
  unfold ru
  rw [hf, ruF, if_neg h, ruF_more f _ _ (by rw [List.length_drop]; omega) (Nat.le_refl _)]
theorem size_toList (s : ByteArray) : s.data.toList.length = s.size := Array.length_toList
theorem rs_ru (s : ByteArray) : ∀ (f p : Nat), s.size ≤ p + f → (rs s p).map Prod.snd = ru (s.data.toList.drop p)
  | 0, p, h => by
    rw [rs_end s p (by omega), List.drop_of_length_le (by rw [size_toList]; omega)]
    rfl
  | f + 1, p, h => by
    by_cases hp : p < s.size
    · have hne : s.data.toList.drop p ≠ [] := by
        intro e
        have := congrArg List.length e
        rw [List.length_drop, size_toList] at this
        simp at this
        omega
      have := Lib.decode_width_pos s p hp
      rw [rs_step s p hp, List.map_cons, rs_ru s f _ (by omega), ru_step _ hne, decodeL_drop, List.drop_drop]
    · rw [rs_end s p hp, List.drop_of_length_le (by rw [size_toList]; omega)]
      rfl
def okR (r : Int) : Prop := (0 ≤ r ∧ r < 55296) ∨ (57344 ≤ r ∧ r ≤ 1114111)
theorem ru_ok (l : List UInt8) : ∀ r ∈ ru l, okR r := by
  suffices ∀ (f : Nat) (l : List UInt8), l.length ≤ f → ∀ r ∈ ru l, okR r from this l.length l (Nat.le_refl _)
  intro f
  induction f with
  | zero =>
    intro l h r hr
    rw [List.eq_nil_of_length_eq_zero (by omega : l.length = 0), ru_nil] at hr
    cases hr
  | succ f ih =>
    intro l h r hr
    by_cases hne : l = []
    · rw [hne, ru_nil] at hr; cases hr
    · have := width_posL l hne
      rw [ru_step l hne] at hr
      rcases List.mem_cons.1 hr with rfl | hr
      · have h := Go.Lib.decodeN_valid l.length (l.getD 0 0).toNat (l.getD 1 0).toNat (l.getD 2 0).toNat (l.getD 3 0).toNat (UInt8.toNat_lt _)
        rw [← decodeL_N] at h
        unfold okR
        omega
      · exact ih _ (by rw [List.length_drop]; omega) r hr
theorem numB_iff (r : Int) : numB r = true ↔ (48 ≤ r ∧ r ≤ 57 ∨ 45 ≤ r ∧ r ≤ 45) := by
  simp only [numB, inB, numL, List.any_cons, List.any_nil, Sp.has, Bool.or_false, Bool.or_eq_true, Bool.and_eq_true, decide_eq_true_eq]
def refR (d : Nat × Nat) : Int × Nat := if d.1 = 65533 ∧ d.2 = 1 then (-1, 1) else (d.1, d.2)
theorem refR_wide (x k : Nat) (h : k ≠ 1) : refR (x, k) = ((x : Int), k) := by
  unfold refR
  rw [if_neg (fun e => h e.2)]
theorem ref_one (n b0 b1 b2 b3 : Nat) (h : b0 < 128) : refR (decodeN n b0 b1 b2 b3) = ((b0 : Int), 1) := by
  unfold decodeN
  rw [if_pos h]
  unfold refR
  rw [if_neg (by simp only; omega)]
theorem ref_bad (n b0 b1 b2 b3 : Nat) (h : 128 ≤ b0) (h' : b0 < 194 ∨ 244 < b0) (h2 : b0 < 256) : refR (decodeN n b0 b1 b2 b3) = (-1, 1) := by
  have : decodeN n b0 b1 b2 b3 = (65533, 1) := by
    unfold decodeN
    repeat' split
    all_goals first | rfl | (exfalso; omega)
  rw [this]
  rfl
theorem ref_two_no (n b0 b1 b2 b3 : Nat) (h : 194 ≤ b0 ∧ b0 ≤ 223) (hb1 : b1 < 256) (hn : n < 2 ∨ b1 < 128 ∨ 191 < b1) : refR (decodeN n b0 b1 b2 b3) = (-1, 1) := by
  have : decodeN n b0 b1 b2 b3 = (65533, 1) := by
    unfold decodeN
    repeat' split
    all_goals first | rfl | (exfalso; omega)
  rw [this]
  rfl
theorem ref_two (n b0 b1 b2 b3 : Nat) (h : 194 ≤ b0 ∧ b0 ≤ 223) (hn : 2 ≤ n) (hb1 : 128 ≤ b1 ∧ b1 ≤ 191) : refR (decodeN n b0 b1 b2 b3) = ((((b0 - 192) * 64 + (b1 - 128) : Nat) : Int), 2) := by
  have : decodeN n b0 b1 b2 b3 = ((b0 - 192) * 64 + (b1 - 128), 2) := by
    unfold decodeN
    rw [if_neg (by omega), if_pos (by omega), if_pos (by omega)]
    exact congrArg (fun y => (y, 2)) (by omega)
  rw [this]
  exact refR_wide _ _ (by decide)
theorem ref_three_no (n b0 b1 b2 b3 : Nat) (h : 224 ≤ b0 ∧ b0 ≤ 239) (hb1 : b1 < 256) (hb2 : b2 < 256) (hn : n < 3 ∨ b1 < 128 ∨ 191 < b1 ∨ b2 < 128 ∨ 191 < b2) : refR (decodeN n b0 b1 b2 b3) = (-1, 1) := by
  have : decodeN n b0 b1 b2 b3 = (65533, 1) := by
    unfold decodeN
    repeat' split
    all_goals first | rfl | (exfalso; omega)
  rw [this]
  rfl
theorem ref_three (n b0 b1 b2 b3 : Nat) (h : 224 ≤ b0 ∧ b0 ≤ 239) (hn : 3 ≤ n) (hb1 : 128 ≤ b1 ∧ b1 ≤ 191) (hb2 : 128 ≤ b2 ∧ b2 ≤ 191) (x : Nat) (hx : x = ((b0 - 224) * 64 + (b1 - 128)) * 64 + (b2 - 128)) :
    refR (decodeN n b0 b1 b2 b3) = if x < 2048 ∨ 1114111 < x ∨ (55296 ≤ x ∧ x ≤ 57343) then (-1, 1) else ((x : Int), 3) := by
  have hv : b0 % 16 * 4096 + b1 % 64 * 64 + b2 % 64 = x := by omega
  unfold decodeN
  rw [if_neg (by omega), if_neg (by omega), if_pos (by omega), hv]
  by_cases hb : x < 2048 ∨ 1114111 < x ∨ (55296 ≤ x ∧ x ≤ 57343)
  · rw [if_pos hb, if_neg (by omega)]; rfl
  · rw [if_neg hb, if_pos (by omega)]; exact refR_wide _ _ (by decide)
theorem ref_four_no (n b0 b1 b2 b3 : Nat) (h : 240 ≤ b0 ∧ b0 ≤ 244) (hb1 : b1 < 256) (hb2 : b2 < 256) (hb3 : b3 < 256) (hn : n < 4 ∨ b1 < 128 ∨ 191 < b1 ∨ b2 < 128 ∨ 191 < b2 ∨ b3 < 128 ∨ 191 < b3) : refR (decodeN n b0 b1 b2 b3) = (-1, 1) := by
  have : decodeN n b0 b1 b2 b3 = (65533, 1) := by
    unfold decodeN
    repeat' split
    all_goals first | rfl | (exfalso; omega)
  rw [this]
  rfl
theorem ref_four (n b0 b1 b2 b3 : Nat) (h : 240 ≤ b0 ∧ b0 ≤ 244) (hn : 4 ≤ n) (hb1 : 128 ≤ b1 ∧ b1 ≤ 191) (hb2 : 128 ≤ b2 ∧ b2 ≤ 191) (hb3 : 128 ≤ b3 ∧ b3 ≤ 191) (x : Nat) (hx : x = (((b0 - 240) * 64 + (b1 - 128)) * 64 + (b2 - 128)) * 64 + (b3 - 128)) :
    refR (decodeN n b0 b1 b2 b3) = if x < 65536 ∨ 1114111 < x ∨ (55296 ≤ x ∧ x ≤ 57343) then (-1, 1) else ((x : Int), 4) := by
  have hv : b0 % 8 * 262144 + b1 % 64 * 4096 + b2 % 64 * 64 + b3 % 64 = x := by omega
  unfold decodeN
  rw [if_neg (by omega), if_neg (by omega), if_neg (by omega), if_pos (by omega), hv]
  by_cases hb : x < 65536 ∨ 1114111 < x ∨ (55296 ≤ x ∧ x ≤ 57343)
  · rw [if_pos hb, if_neg (by omega)]; rfl
  · rw [if_neg hb, if_pos (by omega)]; exact refR_wide _ _ (by decide)
set_option maxHeartbeats 4000000 in
set_option maxRecDepth 100000 in
theorem refRune_any (s : ByteArray) (w : World) (hs : s.size ≤ maxLen) (h0 : 0 < s.size) :
    Calls Try.prog 60 #[.string s] w fun e w' => e = .returned (.tuple #[.int .i64 (refR (Utf8.decode s 0)).1, .int .i64 (refR (Utf8.decode s 0)).2]) ∧ w = w' := by
  unfold maxLen at hs
  have hb : ∀ (k : Nat) (h : k < s.size), (s.get! k).toNat < 256 ∧ wrap64 ((s[k]'h).toNat : Int) = ((s.get! k).toNat : Int) := by
    intro k h
    have h1 := (s.get! k).toNat_lt
    have h2 := get_at s k h
    rw [Nat.add_zero] at h2
    rw [← h2]
    refine ⟨h1, ?_⟩
    rw [wrap64]
    omega
  have hdec : refR (Utf8.decode s 0) = refR (decodeN s.size (s.get! 0).toNat (s.get! 1).toNat (s.get! 2).toNat (s.get! 3).toNat) := by
    rw [decode_at s 0, Nat.sub_zero]
  rw [hdec]
  obtain ⟨hx0, hy0⟩ := hb 0 h0
  have hx1 := (s.get! 1).toNat_lt
  have hx2 := (s.get! 2).toNat_lt
  have hx3 := (s.get! 3).toNat_lt
  have HB := hqZ hb
  clear hb hdec
  generalize hb0 : (s.get! 0).toNat = b0 at *
  generalize hb1 : (s.get! 1).toNat = b1 at *
  generalize hb2 : (s.get! 2).toNat = b2 at *
  generalize hb3 : (s.get! 3).toNat = b3 at *
  have HB1 := hqZ hb1
  have HB2 := hqZ hb2
  have HB3 := hqZ hb3
  clear hb0 hb1 hb2 hb3
  have HX1 := hqZ hx1
  have HX2 := hqZ hx2
  have HX3 := hqZ hx3
  clear hx1 hx2 hx3
  obtain ⟨D, hD⟩ : ∃ D, D = refR (decodeN s.size b0 b1 b2 b3) := ⟨_, rfl⟩
  rw [← hD]
  have HD := hqZ hD
  clear hD
  go_enter Try.func60, Try.ntmps60
  rcases (by omega : b0 < 128 ∨ (128 ≤ b0 ∧ b0 < 194) ∨ (194 ≤ b0 ∧ b0 ≤ 223) ∨ (224 ≤ b0 ∧ b0 ≤ 239) ∨ (240 ≤ b0 ∧ b0 ≤ 244) ∨ 244 < b0) with k | ⟨k, k'⟩ | ⟨k, k'⟩ | ⟨k, k'⟩ | ⟨k, k'⟩ | k
  · have hD := HD.out.trans (ref_one _ _ _ _ _ k)
    have HD' := hqZ hD
    have k1 : (b0 : Int) < 128 := by omega
    clear hD k HD
    go_wp2_with fail
    go_ret2
    rw [HD'.out]
    show Ending.returned (.tuple #[.int .i64 (wrap64 ((s[0]'h0).toNat : Int)), .int .i64 1]) = _ ∧ _
    rw [hy0]
    exact ⟨rfl, rfl⟩
  · have hD := HD.out.trans (ref_bad _ _ _ _ _ (by omega) (by omega) hx0)
    have HD' := hqZ hD
    have k1 : ¬ (b0 : Int) < 128 := by omega
    have k2 : ¬ (194 : Int) ≤ (b0 : Int) := by omega
    have k3 : ¬ (224 : Int) ≤ (b0 : Int) := by omega
    have k4 : ¬ (240 : Int) ≤ (b0 : Int) := by omega
    clear hD k k' HD
    go_wp2_with fail
    go_ret2
    rw [HD'.out]
    exact ⟨rfl, rfl⟩
  · have K := hqZ (And.intro k k')
    have k1 : ¬ (b0 : Int) < 128 := by omega
    have k2 : (194 : Int) ≤ (b0 : Int) := by omega
    have k3 : (b0 : Int) ≤ 223 := by omega
    obtain ⟨L, hL, hL2⟩ : ∃ L : Nat, L = b0 - 192 ∧ ((b0 : Int) - 192 = (L : Int)) := ⟨_, rfl, by omega⟩
    have hL3 : L < 32 := by omega
    have HL := hqZ hL
    clear hL k k'
    by_cases hn : s.size < 2
    · have HD' := hqZ (HD.out.trans (ref_two_no _ _ _ _ _ ⟨K.out.1, K.out.2⟩ HX1.out (.inl hn)))
      have hn1 : (s.size : Int) < 2 := by omega
      clear hn HD
      go_wp2_with fail
      go_ret2
      rw [HD'.out]
      exact ⟨rfl, rfl⟩
    · have hn1 : ¬ (s.size : Int) < 2 := by omega
      go_wp2_with fail
      go_loopw [4, 7] (fun av kv wr => ∃ k a : Nat, av = .int .i64 a ∧ kv = .int .i64 k ∧ wr = w ∧ ((k = 1 ∧ a = L) ∨ (k = 2 ∧ 128 ≤ b1 ∧ b1 ≤ 191 ∧ a = (L * 64 + (b1 - 128))))) (fun _ kv _ => 2 - (intOf kv).toNat)
      case atStart => exact ⟨1, L, by go_num, rfl, rfl, .inl ⟨rfl, rfl⟩⟩
      case round =>
        obtain ⟨k, a, rfl, rfl, rfl, hk⟩ := hrel
        rcases hk with ⟨rfl, hak⟩ | ⟨rfl, c1, d1, hak⟩
        · obtain ⟨hw, hy⟩ := HB.out 1 (by omega)
          rw [HB1.out] at hw hy
          have hlt : 1 < s.size := by omega
          have haa : a < 32 := by omega
          have HAK := hqZ hak
          clear hak
          rcases (by omega : b1 < 128 ∨ 191 < b1 ∨ (128 ≤ b1 ∧ b1 ≤ 191)) with q | q | ⟨q, q'⟩
          · have HD' := hqZ (HD.out.trans (ref_two_no _ _ _ _ _ ⟨K.out.1, K.out.2⟩ HX1.out (.inr (by omega))))
            have q1 : (b1 : Int) < 128 := by omega
            clear q HD
            go_wp2_with fail
            go_ret2
            rw [HD'.out]
            exact ⟨rfl, rfl⟩
          · have HD' := hqZ (HD.out.trans (ref_two_no _ _ _ _ _ ⟨K.out.1, K.out.2⟩ HX1.out (.inr (by omega))))
            have q1 : ¬ (b1 : Int) < 128 := by omega
            have q2 : (191 : Int) < (b1 : Int) := by omega
            clear q HD
            go_wp2_with fail
            go_ret2
            rw [HD'.out]
            exact ⟨rfl, rfl⟩
          · have q1 : ¬ (b1 : Int) < 128 := by omega
            have q2 : ¬ (191 : Int) < (b1 : Int) := by omega
            go_wp2_with fail
            go_roundw
            case rel =>
              have hak := HAK.out
              exact ⟨2, a * 64 + (b1 - 128), by go_num, by go_num, by first | rfl | trivial, .inr (⟨by omega, q, q', by omega⟩)⟩
            case measure => simp [intOf]
        · have haa : a < 2048 := by omega
          have hl : a = (b0 - 192) * 64 + (b1 - 128) := by have := HL.out; omega
          have HD' := hqZ (HD.out.trans (ref_two _ _ _ _ _ ⟨K.out.1, K.out.2⟩ (by omega) ⟨c1, d1⟩))
          rw [← hl] at HD'
          have g1 : ¬ (a : Int) < 128 := by have := K.out; omega
          have g2 : ¬ (1114111 : Int) < (a : Int) := by omega
          have g3 : ¬ (55296 : Int) ≤ (a : Int) := by omega
          clear hl hak HD c1 d1
          go_wp2_with fail
          go_ret2
          rw [HD'.out]
          exact ⟨rfl, rfl⟩
  · have K := hqZ (And.intro k k')
    have k1 : ¬ (b0 : Int) < 128 := by omega
    have k2 : (194 : Int) ≤ (b0 : Int) := by omega
    have k3 : ¬ (b0 : Int) ≤ 223 := by omega
    have k4 : (224 : Int) ≤ (b0 : Int) := by omega
    have k5 : (b0 : Int) ≤ 239 := by omega
    obtain ⟨L, hL, hL2⟩ : ∃ L : Nat, L = b0 - 224 ∧ ((b0 : Int) - 224 = (L : Int)) := ⟨_, rfl, by omega⟩
    have hL3 : L < 32 := by omega
    have HL := hqZ hL
    clear hL k k'
    by_cases hn : s.size < 3
    · have HD' := hqZ (HD.out.trans (ref_three_no _ _ _ _ _ ⟨K.out.1, K.out.2⟩ HX1.out HX2.out (.inl hn)))
      have hn1 : (s.size : Int) < 3 := by omega
      clear hn HD
      go_wp2_with fail
      go_ret2
      rw [HD'.out]
      exact ⟨rfl, rfl⟩
    · have hn1 : ¬ (s.size : Int) < 3 := by omega
      go_wp2_with fail
      go_loopw [4, 7] (fun av kv wr => ∃ k a : Nat, av = .int .i64 a ∧ kv = .int .i64 k ∧ wr = w ∧ ((k = 1 ∧ a = L) ∨ (k = 2 ∧ 128 ≤ b1 ∧ b1 ≤ 191 ∧ a = (L * 64 + (b1 - 128))) ∨ (k = 3 ∧ 128 ≤ b1 ∧ b1 ≤ 191 ∧ 128 ≤ b2 ∧ b2 ≤ 191 ∧ a = ((L * 64 + (b1 - 128)) * 64 + (b2 - 128))))) (fun _ kv _ => 3 - (intOf kv).toNat)
      case atStart => exact ⟨1, L, by go_num, rfl, rfl, .inl ⟨rfl, rfl⟩⟩
      case round =>
        obtain ⟨k, a, rfl, rfl, rfl, hk⟩ := hrel
        rcases hk with ⟨rfl, hak⟩ | ⟨rfl, c1, d1, hak⟩ | ⟨rfl, c1, d1, c2, d2, hak⟩
        · obtain ⟨hw, hy⟩ := HB.out 1 (by omega)
          rw [HB1.out] at hw hy
          have hlt : 1 < s.size := by omega
          have haa : a < 32 := by omega
          have HAK := hqZ hak
          clear hak
          rcases (by omega : b1 < 128 ∨ 191 < b1 ∨ (128 ≤ b1 ∧ b1 ≤ 191)) with q | q | ⟨q, q'⟩
          · have HD' := hqZ (HD.out.trans (ref_three_no _ _ _ _ _ ⟨K.out.1, K.out.2⟩ HX1.out HX2.out (.inr (by omega))))
            have q1 : (b1 : Int) < 128 := by omega
            clear q HD
            go_wp2_with fail
            go_ret2
            rw [HD'.out]
            exact ⟨rfl, rfl⟩
          · have HD' := hqZ (HD.out.trans (ref_three_no _ _ _ _ _ ⟨K.out.1, K.out.2⟩ HX1.out HX2.out (.inr (by omega))))
            have q1 : ¬ (b1 : Int) < 128 := by omega
            have q2 : (191 : Int) < (b1 : Int) := by omega
            clear q HD
            go_wp2_with fail
            go_ret2
            rw [HD'.out]
            exact ⟨rfl, rfl⟩
          · have q1 : ¬ (b1 : Int) < 128 := by omega
            have q2 : ¬ (191 : Int) < (b1 : Int) := by omega
            go_wp2_with fail
            go_roundw
            case rel =>
              have hak := HAK.out
              exact ⟨2, a * 64 + (b1 - 128), by go_num, by go_num, by first | rfl | trivial, .inr (.inl ⟨by omega, q, q', by omega⟩)⟩
            case measure => simp [intOf]
        · obtain ⟨hw, hy⟩ := HB.out 2 (by omega)
          rw [HB2.out] at hw hy
          have hlt : 2 < s.size := by omega
          have haa : a < 2048 := by omega
          have HAK := hqZ hak
          clear hak
          rcases (by omega : b2 < 128 ∨ 191 < b2 ∨ (128 ≤ b2 ∧ b2 ≤ 191)) with q | q | ⟨q, q'⟩
          · have HD' := hqZ (HD.out.trans (ref_three_no _ _ _ _ _ ⟨K.out.1, K.out.2⟩ HX1.out HX2.out (.inr (by omega))))
            have q1 : (b2 : Int) < 128 := by omega
            clear q HD
            go_wp2_with fail
            go_ret2
            rw [HD'.out]
            exact ⟨rfl, rfl⟩
          · have HD' := hqZ (HD.out.trans (ref_three_no _ _ _ _ _ ⟨K.out.1, K.out.2⟩ HX1.out HX2.out (.inr (by omega))))
            have q1 : ¬ (b2 : Int) < 128 := by omega
            have q2 : (191 : Int) < (b2 : Int) := by omega
            clear q HD
            go_wp2_with fail
            go_ret2
            rw [HD'.out]
            exact ⟨rfl, rfl⟩
          · have q1 : ¬ (b2 : Int) < 128 := by omega
            have q2 : ¬ (191 : Int) < (b2 : Int) := by omega
            go_wp2_with fail
            go_roundw
            case rel =>
              have hak := HAK.out
              exact ⟨3, a * 64 + (b2 - 128), by go_num, by go_num, by first | rfl | trivial, .inr (.inr (⟨by omega, c1, d1, q, q', by omega⟩))⟩
            case measure => simp [intOf]
        · have haa : a < 131072 := by omega
          have hl : a = ((b0 - 224) * 64 + (b1 - 128)) * 64 + (b2 - 128) := by have := HL.out; omega
          have hD' := HD.out.trans (ref_three _ _ _ _ _ ⟨K.out.1, K.out.2⟩ (by omega) ⟨c1, d1⟩ ⟨c2, d2⟩ a hl)
          clear hl hak HD c1 d1 c2 d2
          rcases (by omega : a < 2048 ∨ (2048 ≤ a ∧ 1114111 < a) ∨ (2048 ≤ a ∧ 55296 ≤ a ∧ a ≤ 57343) ∨ (2048 ≤ a ∧ a < 55296) ∨ (2048 ≤ a ∧ 57343 < a ∧ a ≤ 1114111)) with q | ⟨q, q'⟩ | ⟨q, q', q''⟩ | ⟨q, q'⟩ | ⟨q, q', q''⟩
          · rw [if_pos (by omega)] at hD'
            have HD' := hqZ hD'
            have g1 : (a : Int) < 2048 := by omega
            clear hD'
            go_wp2_with fail
            go_ret2
            rw [HD'.out]
            exact ⟨rfl, rfl⟩
          · rw [if_pos (by omega)] at hD'
            have HD' := hqZ hD'
            have g1 : ¬ (a : Int) < 2048 := by omega
            have g2 : (1114111 : Int) < (a : Int) := by omega
            clear hD'
            go_wp2_with fail
            go_ret2
            rw [HD'.out]
            exact ⟨rfl, rfl⟩
          · rw [if_pos (by omega)] at hD'
            have HD' := hqZ hD'
            have g1 : ¬ (a : Int) < 2048 := by omega
            have g2 : ¬ (1114111 : Int) < (a : Int) := by omega
            have g3 : (55296 : Int) ≤ (a : Int) := by omega
            have g4 : (a : Int) ≤ 57343 := by omega
            clear hD'
            go_wp2_with fail
            go_ret2
            rw [HD'.out]
            exact ⟨rfl, rfl⟩
          · rw [if_neg (by omega)] at hD'
            have HD' := hqZ hD'
            have g1 : ¬ (a : Int) < 2048 := by omega
            have g2 : ¬ (1114111 : Int) < (a : Int) := by omega
            have g3 : ¬ (55296 : Int) ≤ (a : Int) := by omega
            clear hD'
            go_wp2_with fail
            go_ret2
            rw [HD'.out]
            exact ⟨rfl, rfl⟩
          · rw [if_neg (by omega)] at hD'
            have HD' := hqZ hD'
            have g1 : ¬ (a : Int) < 2048 := by omega
            have g2 : ¬ (1114111 : Int) < (a : Int) := by omega
            have g3 : (55296 : Int) ≤ (a : Int) := by omega
            have g4 : ¬ (a : Int) ≤ 57343 := by omega
            clear hD'
            go_wp2_with fail
            go_ret2
            rw [HD'.out]
            exact ⟨rfl, rfl⟩
  · have K := hqZ (And.intro k k')
    have k1 : ¬ (b0 : Int) < 128 := by omega
    have k2 : (194 : Int) ≤ (b0 : Int) := by omega
    have k3 : ¬ (b0 : Int) ≤ 223 := by omega
    have k4 : (224 : Int) ≤ (b0 : Int) := by omega
    have k5 : ¬ (b0 : Int) ≤ 239 := by omega
    have k6 : (240 : Int) ≤ (b0 : Int) := by omega
    have k7 : (b0 : Int) ≤ 244 := by omega
    obtain ⟨L, hL, hL2⟩ : ∃ L : Nat, L = b0 - 240 ∧ ((b0 : Int) - 240 = (L : Int)) := ⟨_, rfl, by omega⟩
    have hL3 : L < 32 := by omega
    have HL := hqZ hL
    clear hL k k'
    by_cases hn : s.size < 4
    · have HD' := hqZ (HD.out.trans (ref_four_no _ _ _ _ _ ⟨K.out.1, K.out.2⟩ HX1.out HX2.out HX3.out (.inl hn)))
      have hn1 : (s.size : Int) < 4 := by omega
      clear hn HD
      go_wp2_with fail
      go_ret2
      rw [HD'.out]
      exact ⟨rfl, rfl⟩
    · have hn1 : ¬ (s.size : Int) < 4 := by omega
      go_wp2_with fail
      go_loopw [4, 7] (fun av kv wr => ∃ k a : Nat, av = .int .i64 a ∧ kv = .int .i64 k ∧ wr = w ∧ ((k = 1 ∧ a = L) ∨ (k = 2 ∧ 128 ≤ b1 ∧ b1 ≤ 191 ∧ a = (L * 64 + (b1 - 128))) ∨ (k = 3 ∧ 128 ≤ b1 ∧ b1 ≤ 191 ∧ 128 ≤ b2 ∧ b2 ≤ 191 ∧ a = ((L * 64 + (b1 - 128)) * 64 + (b2 - 128))) ∨ (k = 4 ∧ 128 ≤ b1 ∧ b1 ≤ 191 ∧ 128 ≤ b2 ∧ b2 ≤ 191 ∧ 128 ≤ b3 ∧ b3 ≤ 191 ∧ a = (((L * 64 + (b1 - 128)) * 64 + (b2 - 128)) * 64 + (b3 - 128))))) (fun _ kv _ => 4 - (intOf kv).toNat)
      case atStart => exact ⟨1, L, by go_num, rfl, rfl, .inl ⟨rfl, rfl⟩⟩
      case round =>
        obtain ⟨k, a, rfl, rfl, rfl, hk⟩ := hrel
        rcases hk with ⟨rfl, hak⟩ | ⟨rfl, c1, d1, hak⟩ | ⟨rfl, c1, d1, c2, d2, hak⟩ | ⟨rfl, c1, d1, c2, d2, c3, d3, hak⟩
        · obtain ⟨hw, hy⟩ := HB.out 1 (by omega)
          rw [HB1.out] at hw hy
          have hlt : 1 < s.size := by omega
          have haa : a < 32 := by omega
          have HAK := hqZ hak
          clear hak
          rcases (by omega : b1 < 128 ∨ 191 < b1 ∨ (128 ≤ b1 ∧ b1 ≤ 191)) with q | q | ⟨q, q'⟩
          · have HD' := hqZ (HD.out.trans (ref_four_no _ _ _ _ _ ⟨K.out.1, K.out.2⟩ HX1.out HX2.out HX3.out (.inr (by omega))))
            have q1 : (b1 : Int) < 128 := by omega
            clear q HD
            go_wp2_with fail
            go_ret2
            rw [HD'.out]
            exact ⟨rfl, rfl⟩
          · have HD' := hqZ (HD.out.trans (ref_four_no _ _ _ _ _ ⟨K.out.1, K.out.2⟩ HX1.out HX2.out HX3.out (.inr (by omega))))
            have q1 : ¬ (b1 : Int) < 128 := by omega
            have q2 : (191 : Int) < (b1 : Int) := by omega
            clear q HD
            go_wp2_with fail
            go_ret2
            rw [HD'.out]
            exact ⟨rfl, rfl⟩
          · have q1 : ¬ (b1 : Int) < 128 := by omega
            have q2 : ¬ (191 : Int) < (b1 : Int) := by omega
            go_wp2_with fail
            go_roundw
            case rel =>
              have hak := HAK.out
              exact ⟨2, a * 64 + (b1 - 128), by go_num, by go_num, by first | rfl | trivial, .inr (.inl ⟨by omega, q, q', by omega⟩)⟩
            case measure => simp [intOf]
        · obtain ⟨hw, hy⟩ := HB.out 2 (by omega)
          rw [HB2.out] at hw hy
          have hlt : 2 < s.size := by omega
          have haa : a < 2048 := by omega
          have HAK := hqZ hak
          clear hak
          rcases (by omega : b2 < 128 ∨ 191 < b2 ∨ (128 ≤ b2 ∧ b2 ≤ 191)) with q | q | ⟨q, q'⟩
          · have HD' := hqZ (HD.out.trans (ref_four_no _ _ _ _ _ ⟨K.out.1, K.out.2⟩ HX1.out HX2.out HX3.out (.inr (by omega))))
            have q1 : (b2 : Int) < 128 := by omega
            clear q HD
            go_wp2_with fail
            go_ret2
            rw [HD'.out]
            exact ⟨rfl, rfl⟩
          · have HD' := hqZ (HD.out.trans (ref_four_no _ _ _ _ _ ⟨K.out.1, K.out.2⟩ HX1.out HX2.out HX3.out (.inr (by omega))))
            have q1 : ¬ (b2 : Int) < 128 := by omega
            have q2 : (191 : Int) < (b2 : Int) := by omega
            clear q HD
            go_wp2_with fail
            go_ret2
            rw [HD'.out]
            exact ⟨rfl, rfl⟩
          · have q1 : ¬ (b2 : Int) < 128 := by omega
            have q2 : ¬ (191 : Int) < (b2 : Int) := by omega
            go_wp2_with fail
            go_roundw
            case rel =>
              have hak := HAK.out
              exact ⟨3, a * 64 + (b2 - 128), by go_num, by go_num, by first | rfl | trivial, .inr (.inr (.inl ⟨by omega, c1, d1, q, q', by omega⟩))⟩
            case measure => simp [intOf]
        · obtain ⟨hw, hy⟩ := HB.out 3 (by omega)
          rw [HB3.out] at hw hy
          have hlt : 3 < s.size := by omega
          have haa : a < 131072 := by omega
          have HAK := hqZ hak
          clear hak
          rcases (by omega : b3 < 128 ∨ 191 < b3 ∨ (128 ≤ b3 ∧ b3 ≤ 191)) with q | q | ⟨q, q'⟩
          · have HD' := hqZ (HD.out.trans (ref_four_no _ _ _ _ _ ⟨K.out.1, K.out.2⟩ HX1.out HX2.out HX3.out (.inr (by omega))))
            have q1 : (b3 : Int) < 128 := by omega
            clear q HD
            go_wp2_with fail
            go_ret2
            rw [HD'.out]
            exact ⟨rfl, rfl⟩
          · have HD' := hqZ (HD.out.trans (ref_four_no _ _ _ _ _ ⟨K.out.1, K.out.2⟩ HX1.out HX2.out HX3.out (.inr (by omega))))
            have q1 : ¬ (b3 : Int) < 128 := by omega
            have q2 : (191 : Int) < (b3 : Int) := by omega
            clear q HD
            go_wp2_with fail
            go_ret2
            rw [HD'.out]
            exact ⟨rfl, rfl⟩
          · have q1 : ¬ (b3 : Int) < 128 := by omega
            have q2 : ¬ (191 : Int) < (b3 : Int) := by omega
            go_wp2_with fail
            go_roundw
            case rel =>
              have hak := HAK.out
              exact ⟨4, a * 64 + (b3 - 128), by go_num, by go_num, by first | rfl | trivial, .inr (.inr (.inr (⟨by omega, c1, d1, c2, d2, q, q', by omega⟩)))⟩
            case measure => simp [intOf]
        · have haa : a < 8388608 := by omega
          have hl : a = (((b0 - 240) * 64 + (b1 - 128)) * 64 + (b2 - 128)) * 64 + (b3 - 128) := by have := HL.out; omega
          have hD' := HD.out.trans (ref_four _ _ _ _ _ ⟨K.out.1, K.out.2⟩ (by omega) ⟨c1, d1⟩ ⟨c2, d2⟩ ⟨c3, d3⟩ a hl)
          clear hl hak HD c1 d1 c2 d2 c3 d3
          rcases (by omega : a < 65536 ∨ (65536 ≤ a ∧ 1114111 < a) ∨ (65536 ≤ a ∧ 55296 ≤ a ∧ a ≤ 57343) ∨ (65536 ≤ a ∧ a < 55296) ∨ (65536 ≤ a ∧ 57343 < a ∧ a ≤ 1114111)) with q | ⟨q, q'⟩ | ⟨q, q', q''⟩ | ⟨q, q'⟩ | ⟨q, q', q''⟩
          · rw [if_pos (by omega)] at hD'
            have HD' := hqZ hD'
            have g1 : (a : Int) < 65536 := by omega
            clear hD'
            go_wp2_with fail
            go_ret2
            rw [HD'.out]
            exact ⟨rfl, rfl⟩
          · rw [if_pos (by omega)] at hD'
            have HD' := hqZ hD'
            have g1 : ¬ (a : Int) < 65536 := by omega
            have g2 : (1114111 : Int) < (a : Int) := by omega
            clear hD'
            go_wp2_with fail
            go_ret2
            rw [HD'.out]
            exact ⟨rfl, rfl⟩
          · rw [if_pos (by omega)] at hD'
            have HD' := hqZ hD'
            have g1 : ¬ (a : Int) < 65536 := by omega
            have g2 : ¬ (1114111 : Int) < (a : Int) := by omega
            have g3 : (55296 : Int) ≤ (a : Int) := by omega
            have g4 : (a : Int) ≤ 57343 := by omega
            clear hD'
            go_wp2_with fail
            go_ret2
            rw [HD'.out]
            exact ⟨rfl, rfl⟩
          · rw [if_neg (by omega)] at hD'
            have HD' := hqZ hD'
            have g1 : ¬ (a : Int) < 65536 := by omega
            have g2 : ¬ (1114111 : Int) < (a : Int) := by omega
            have g3 : ¬ (55296 : Int) ≤ (a : Int) := by omega
            clear hD'
            go_wp2_with fail
            go_ret2
            rw [HD'.out]
            exact ⟨rfl, rfl⟩
          · rw [if_neg (by omega)] at hD'
            have HD' := hqZ hD'
            have g1 : ¬ (a : Int) < 65536 := by omega
            have g2 : ¬ (1114111 : Int) < (a : Int) := by omega
            have g3 : (55296 : Int) ≤ (a : Int) := by omega
            have g4 : ¬ (a : Int) ≤ 57343 := by omega
            clear hD'
            go_wp2_with fail
            go_ret2
            rw [HD'.out]
            exact ⟨rfl, rfl⟩
  · have hD := HD.out.trans (ref_bad _ _ _ _ _ (by omega) (by omega) hx0)
    have HD' := hqZ hD
    have k1 : ¬ (b0 : Int) < 128 := by omega
    have k2 : (194 : Int) ≤ (b0 : Int) := by omega
    have k2' : ¬ (b0 : Int) ≤ 223 := by omega
    have k3 : (224 : Int) ≤ (b0 : Int) := by omega
    have k3' : ¬ (b0 : Int) ≤ 239 := by omega
    have k4 : (240 : Int) ≤ (b0 : Int) := by omega
    have k4' : ¬ (b0 : Int) ≤ 244 := by omega
    clear hD k HD
    go_wp2_with fail
    go_ret2
    rw [HD'.out]
    exact ⟨rfl, rfl⟩
theorem decode_from (s : ByteArray) (p : Nat) : Utf8.decode (s.extract p s.size) 0 = Utf8.decode s p := by
  rw [← decodeL_drop s p, ← decodeL_drop (s.extract p s.size) 0, List.drop_zero]
  congr 1
  rw [ByteArray.data_extract, Array.toList_extract, List.extract_eq_take_drop, List.take_of_length_le]
  rw [List.length_drop, size_toList]
  exact Nat.le_refl _
theorem refR_wd (s : ByteArray) (p : Nat) : (refR (Utf8.decode s p)).2 = (Utf8.decode s p).2 := by
  unfold refR
  split
  · next h => exact h.2.symm
  · rfl
theorem refR_r (s : ByteArray) (p : Nat) : ((refR (Utf8.decode s p)).1 = -1 ∧ (Utf8.decode s p).1 = 65533) ∨ (refR (Utf8.decode s p)).1 = ((Utf8.decode s p).1 : Int) := by
  unfold refR
  split
  · next h => exact .inl ⟨rfl, h.1⟩
  · exact .inr rfl
theorem refRune_at (s : ByteArray) (p : Nat) (w : World) (hs : s.size ≤ maxLen) (hp : p < s.size) :
    ∃ (r : Int) (wd : Nat), wd = (Utf8.decode s p).2 ∧ 1 ≤ wd ∧ p + wd ≤ s.size ∧ ((r = -1 ∧ (Utf8.decode s p).1 = 65533) ∨ r = ((Utf8.decode s p).1 : Int)) ∧ -1 ≤ r ∧ r ≤ 1114111 ∧ refR (Utf8.decode s p) = (r, wd) ∧
    Calls Try.prog 60 #[.string (s.extract p s.size)] w fun e w' => e = .returned (.tuple #[.int .i64 r, .int .i64 wd]) ∧ w = w' := by
  have h := refRune_any (s.extract p s.size) w (by rw [ByteArray.size_extract]; omega) (by rw [ByteArray.size_extract]; omega)
  rw [decode_from] at h
  have h1 := refR_r s p
  have h2 := refR_wd s p
  have h3 := Lib.decode_width_pos s p hp
  have h4 : p + (Utf8.decode s p).2 ≤ s.size := by
    have hne : s.data.toList.drop p ≠ [] := by
      intro e
      have := congrArg List.length e
      rw [List.length_drop, size_toList] at this
      simp at this
      omega
    have := decodeL_le _ hne
    rw [decodeL_drop, List.length_drop, size_toList] at this
    omega
  have h5 : (Utf8.decode s p).1 ≤ 1114111 := by
    have hr : ((Utf8.decode s p).1 : Int) ∈ ru (s.data.toList.drop p) := by
      rw [← rs_ru s s.size p (by omega), rs_step s p hp]
      simp
    have := ru_ok _ _ hr
    unfold okR at this
    omega
  obtain ⟨⟨r, wd⟩, hd⟩ : ∃ d, refR (Utf8.decode s p) = d := ⟨_, rfl⟩
  rw [hd] at h h1 h2
  simp only at h h1 h2
  exact ⟨r, wd, h2, by omega, by omega, h1, by omega, by omega, hd, h⟩
set_option maxHeartbeats 2000000 in
set_option maxRecDepth 100000 in
theorem refRight_any (s : ByteArray) (w : World) (hs : s.size ≤ maxLen) :
    Calls Try.prog 44 #[.string s] w fun e w' => e = .returned (.bool (rightB s)) ∧ w = w' := by
  have hs' := hs
  unfold maxLen at hs
  go_enter Try.func44, Try.ntmps44
  go_wp2_with fail
  go_loopw [3, 4] (fun n i wr => ∃ (pos q : Nat), n = .int .i64 q ∧ i = .int .i64 pos ∧ q ≤ pos ∧ pos ≤ s.size ∧ wr = w ∧ rightF (rs s pos) q = rightB s) (fun _ i _ => s.size - (intOf i).toNat)
  case atStart => exact ⟨0, 0, rfl, rfl, Nat.le_refl _, Nat.zero_le _, rfl, rfl⟩
  case round =>
    obtain ⟨pos, q, rfl, rfl, hq, hps, rfl, hR⟩ := hrel
    have HR := hqZ hR
    clear hR
    by_cases hp : pos < s.size
    · have hp1 : (pos : Int) < (s.size : Int) := by omega
      obtain ⟨r, wd, hwd, h1, h2, hr, hr0, hr1, _, hc⟩ := refRune_at s pos wr hs' hp
      have hstep := rs_step s pos hp
      rw [← hwd] at hstep
      obtain ⟨c, hcc⟩ : ∃ c : Int, c = ((Utf8.decode s pos).1 : Int) := ⟨_, rfl⟩
      have hr' : letB r = letB c ∧ (letB c = false → numB c = (decide (48 ≤ r ∧ r ≤ 57) || decide (r = 45))) := by
        rcases hr with ⟨rfl, h⟩ | h
        · rw [hcc, h]
          exact ⟨by decide +kernel, fun _ => by decide +kernel⟩
        · have : r = c := by omega
          subst this
          refine ⟨rfl, fun _ => ?_⟩
          rw [Bool.eq_iff_iff, numB_iff]
          simp only [Bool.or_eq_true, decide_eq_true_eq]
          omega
      rw [← hcc] at hstep
      have HS := hqZ hstep
      have HC := hqZ hr'
      have hsl : ∀ W, (Instr.slice 9 (.string s) (some (.int .i64 pos)) none none).run Try.prog W = .ok (.string (s.extract pos s.size)) W := fun W => run_slice_string_l W _ s Try.underlying9 .i64 pos (by omega) (by omega)
      clear hwd hr hstep hcc hr'
      go_wp2_with fail
      refine hc.mono ?_
      rintro e w' ⟨rfl, rfl⟩
      clear hc
      go_wp2_with fail
      obtain ⟨L, hL⟩ : ∃ L, L = letB c := ⟨_, rfl⟩
      have hl := refLetter_any r 0 wr (by omega) (by omega) (by omega) (by omega)
      rw [Int.add_zero, HC.out.1, ← hL] at hl
      have HL := hqZ hL
      refine hl.mono ?_
      rintro e w' ⟨rfl, rfl⟩
      clear hl hL hsl
      cases L with
      | true =>
        have HF : Hid (rightF (rs s (pos + wd)) (q + 1) = rightB s) := hqZ (by
          rw [← HR.out, HS.out, rightF, ← HL.out, if_pos rfl])
        go_wp2_with fail
        go_roundw
        case rel => exact ⟨pos + wd, q + 1, by go_num, by go_num, by omega, by omega, by first | rfl | trivial, HF.out⟩
        case measure => simp [intOf]; omega
      | false =>
        have HN := hqZ (HC.out.2 HL.out.symm)
        by_cases hp0 : pos = 0
        · subst hp0
          have HF : Hid (rightB s = false) := hqZ (by
            rw [← HR.out, HS.out, rightF, ← HL.out]
            simp)
          go_wp2_with fail
          go_ret
          rw [HF.out]
          exact ⟨rfl, rfl⟩
        · have hp2 : ((pos : Int) == 0) = false := by simp; omega
          have HP0 := hqZ hp0
          clear hp0
          rcases (by omega : r = 45 ∨ (r ≠ 45 ∧ r < 48) ∨ (r ≠ 45 ∧ 48 ≤ r ∧ 57 < r) ∨ (r ≠ 45 ∧ 48 ≤ r ∧ r ≤ 57)) with g | ⟨g, g'⟩ | ⟨g, g', g''⟩ | ⟨g, g', g''⟩
          · subst g
            have HF : Hid (rightF (rs s (pos + wd)) (q + 1) = rightB s) := hqZ (by
              rw [← HR.out, HS.out, rightF, ← HL.out, HN.out]
              simp [HP0.out])
            go_wp2_with fail
            go_roundw
            case rel => exact ⟨pos + wd, q + 1, by go_num, by go_num, by omega, by omega, by first | rfl | trivial, HF.out⟩
            case measure => simp [intOf]; omega
          · have g1 : (r != 45) = true := by simpa using g
            have HF : Hid (rightB s = false) := hqZ (by
              rw [← HR.out, HS.out, rightF, ← HL.out, HN.out, decide_eq_false (by omega : ¬ (48 ≤ r ∧ r ≤ 57)), decide_eq_false g]
              simp)
            go_wp2_with fail
            go_ret
            rw [HF.out]
            exact ⟨rfl, rfl⟩
          · have g1 : (r != 45) = true := by simpa using g
            have g2 : ¬ r < 48 := by omega
            have HF : Hid (rightB s = false) := hqZ (by
              rw [← HR.out, HS.out, rightF, ← HL.out, HN.out, decide_eq_false (by omega : ¬ (48 ≤ r ∧ r ≤ 57)), decide_eq_false g]
              simp)
            go_wp2_with fail
            go_ret
            rw [HF.out]
            exact ⟨rfl, rfl⟩
          · have g1 : (r != 45) = true := by simpa using g
            have g2 : ¬ r < 48 := by omega
            have g3 : ¬ 57 < r := by omega
            have HF : Hid (rightF (rs s (pos + wd)) (q + 1) = rightB s) := hqZ (by
              rw [← HR.out, HS.out, rightF, ← HL.out, HN.out, decide_eq_true (And.intro g' g'')]
              simp [HP0.out])
            go_wp2_with fail
            go_roundw
            case rel => exact ⟨pos + wd, q + 1, by go_num, by go_num, by omega, by omega, by first | rfl | trivial, HF.out⟩
            case measure => simp [intOf]; omega
    · have hp1 : ¬ (pos : Int) < (s.size : Int) := by omega
      have HF : Hid (rightB s = (decide (1 ≤ q) && decide (q ≤ 16))) := hqZ (by rw [← HR.out, rs_end s pos hp, rightF])
      rcases (by omega : q < 1 ∨ (1 ≤ q ∧ q ≤ 16) ∨ 16 < q) with h | ⟨h, h'⟩ | h
      · have h1 : ¬ (1 : Int) ≤ (q : Int) := by omega
        have HG := hqZ (HF.out.trans (show _ = false by rw [decide_eq_false (by omega : ¬ 1 ≤ q)]; rfl))
        clear h
        go_wp2_with fail
        go_ret
        rw [HG.out]
        exact ⟨rfl, rfl⟩
      · have h1 : (1 : Int) ≤ (q : Int) := by omega
        have h2 : (q : Int) ≤ 16 := by omega
        have HG := hqZ (HF.out.trans (show _ = true by rw [decide_eq_true h, decide_eq_true h']; rfl))
        clear h h'
        go_wp2_with fail
        go_ret
        rw [HG.out]
        exact ⟨rfl, rfl⟩
      · have h1 : (1 : Int) ≤ (q : Int) := by omega
        have h2 : ¬ (q : Int) ≤ 16 := by omega
        have HG := hqZ (HF.out.trans (show _ = false by rw [decide_eq_false (by omega : ¬ q ≤ 16)]; simp))
        clear h
        go_wp2_with fail
        go_ret
        rw [HG.out]
        exact ⟨rfl, rfl⟩
end Go.Proofs.Ytpjkidcfidmfaaa
namespace Go.Proofs.Ytpjkidcfidmfaaa
set_option linter.unusedSimpArgs false
set_option linter.unusedVariables false
open Go.RowKit
def kdC : Kd → UInt8
  | .s => 115
  | .n => 110
  | .b => 98
  | .t => 116
  | .i => 105
  | .x => 120
def shapeC (t : Int) : List UInt8 := if (shapeS t).isEmpty = true then [63] else (shapeS t).map kdC
theorem shape_none {t : Int} (h : t < 11 ∨ 22 < t) : shapeS t = [] := by
  unfold shapeS
  rw [if_neg (by omega), if_neg (by omega), if_neg (by omega), if_neg (by omega), if_neg (by omega), if_neg (by omega), if_neg (by omega), if_neg (by omega), if_neg (by omega), if_neg (by omega), if_neg (by omega), if_neg (by omega)]
set_option maxHeartbeats 4000000 in
set_option maxRecDepth 100000 in
theorem refShape_any (t : Int) (w : World) : Calls Try.prog 21 #[.int .i64 t] w fun e w' => e = .returned (.string (tx (shapeC t))) ∧ w = w' := by
  rcases (by omega : t = 11 ∨ t = 12 ∨ t = 13 ∨ t = 14 ∨ t = 15 ∨ t = 16 ∨ t = 17 ∨ t = 18 ∨ t = 19 ∨ t = 20 ∨ t = 21 ∨ t = 22 ∨ (t < 11 ∨ 22 < t)) with rfl | rfl | rfl | rfl | rfl | rfl | rfl | rfl | rfl | rfl | rfl | rfl | h
  · go_enter Try.func21, Try.ntmps21
    go_wp2_with fail
    go_ret
    exact ⟨rfl, rfl⟩
  · go_enter Try.func21, Try.ntmps21
    go_wp2_with fail
    go_ret
    exact ⟨rfl, rfl⟩
  · go_enter Try.func21, Try.ntmps21
    go_wp2_with fail
    go_ret
    exact ⟨rfl, rfl⟩
  · go_enter Try.func21, Try.ntmps21
    go_wp2_with fail
    go_ret
    exact ⟨rfl, rfl⟩
  · go_enter Try.func21, Try.ntmps21
    go_wp2_with fail
    go_ret
    exact ⟨rfl, rfl⟩
  · go_enter Try.func21, Try.ntmps21
    go_wp2_with fail
    go_ret
    exact ⟨rfl, rfl⟩
  · go_enter Try.func21, Try.ntmps21
    go_wp2_with fail
    go_ret
    exact ⟨rfl, rfl⟩
  · go_enter Try.func21, Try.ntmps21
    go_wp2_with fail
    go_ret
    exact ⟨rfl, rfl⟩
  · go_enter Try.func21, Try.ntmps21
    go_wp2_with fail
    go_ret
    exact ⟨rfl, rfl⟩
  · go_enter Try.func21, Try.ntmps21
    go_wp2_with fail
    go_ret
    exact ⟨rfl, rfl⟩
  · go_enter Try.func21, Try.ntmps21
    go_wp2_with fail
    go_ret
    exact ⟨rfl, rfl⟩
  · go_enter Try.func21, Try.ntmps21
    go_wp2_with fail
    go_ret
    exact ⟨rfl, rfl⟩
  · have HE : Hid (shapeC t = [63]) := hqZ (by unfold shapeC; rw [shape_none h]; rfl)
    have e11 : (t == 11) = false := by simp; omega
    have e12 : (t == 12) = false := by simp; omega
    have e13 : (t == 13) = false := by simp; omega
    have e14 : (t == 14) = false := by simp; omega
    have e15 : (t == 15) = false := by simp; omega
    have e16 : (t == 16) = false := by simp; omega
    have e17 : (t == 17) = false := by simp; omega
    have e18 : (t == 18) = false := by simp; omega
    have e19 : (t == 19) = false := by simp; omega
    have e20 : (t == 20) = false := by simp; omega
    have e21 : (t == 21) = false := by simp; omega
    have e22 : (t == 22) = false := by simp; omega
    clear h
    go_enter Try.func21, Try.ntmps21
    go_wp2_with fail
    go_ret
    rw [HE.out]
    exact ⟨rfl, rfl⟩
set_option maxHeartbeats 1000000 in
set_option maxRecDepth 100000 in
theorem refShape10_any (w : World) : Calls Try.prog 59 #[.int .i64 1] w fun e w' => e = .returned (.string (tx [115, 98])) ∧ w = w' := by
  go_enter Try.func59, Try.ntmps59
  go_wp2_with fail
  go_ret
  exact ⟨rfl, rfl⟩
def lowK : Kd → Bool
  | .i => false
  | .x => false
  | _ => true
set_option maxHeartbeats 2000000 in
set_option maxRecDepth 100000 in
theorem refFits_n (x : Tv) (F : Nat → Prop) (cs : List Value) (w : World) (h : TvF w F x cs) : Calls Try.prog 23 #[.agg cs.toArray, .int .u8 110] w fun e w' => e = .returned (.bool (fitK .n x)) ∧ Below w.heap.size w w' := by
  obtain ⟨bv, lv, rows, rfl, hb1, hb2, hb3, hb4, hb5⟩ := h.open_
  obtain ⟨al, cl, rfl, hcl, hml⟩ := hb3.form
  obtain ⟨ab, cb, rfl, hcb, hmb⟩ := hb1.form
  have HBS := hqZ hb1
  clear h hb1 hb2 hb3 hb4 hb5
  obtain ⟨r, hr⟩ : ∃ r, r = fitK .n x := ⟨_, rfl⟩
  rw [← hr]
  have HR := hqZ hr
  clear hr
  by_cases ht : x.tag = 0
  · have HT := hqZ ht
    have ht1 : (x.tag != 0) = false := by simpa using ht
    clear ht
    by_cases hk : x.kind = 0
    · have HK := hqZ hk
      have hk1 : (x.kind == 0) = true := by simpa using hk
      clear hk
      obtain ⟨d, hd⟩ : ∃ d, d = decide (x.n ≤ maxT) := ⟨_, rfl⟩
      have hn : decide ((x.n : Int) ≤ 1099511627776) = d := by rw [hd, decide_eq_decide]; unfold maxT; omega
      have HD := hqZ hd
      clear hd
      go_enter Try.func23, Try.ntmps23
      go_wp2_with fail
      go_ret
      rw [show r = d by rw [HR.out, HD.out]; simp [fitK, HK.out, HT.out]]
      exact ⟨rfl, (Below.refl _ _).alloc (Nat.le_refl _) _⟩
    · have HK := hqZ hk
      have hk1 : (x.kind == 0) = false := by simpa using hk
      clear hk
      go_enter Try.func23, Try.ntmps23
      go_wp2_with fail
      go_ret
      rw [show r = false by rw [HR.out]; simp [fitK, isS, isB, HK.out]]
      exact ⟨rfl, (Below.refl _ _).alloc (Nat.le_refl _) _⟩
  · have HT := hqZ ht
    have ht1 : (x.tag != 0) = true := by simpa using ht
    clear ht
    go_enter Try.func23, Try.ntmps23
    go_wp2_with fail
    go_ret
    rw [show r = false by rw [HR.out]; simp [fitK, isS, isB, HT.out]]
    exact ⟨rfl, (Below.refl _ _).alloc (Nat.le_refl _) _⟩
set_option maxHeartbeats 2000000 in
set_option maxRecDepth 100000 in
theorem refFits_t (x : Tv) (F : Nat → Prop) (cs : List Value) (w : World) (h : TvF w F x cs) : Calls Try.prog 23 #[.agg cs.toArray, .int .u8 116] w fun e w' => e = .returned (.bool (fitK .t x)) ∧ Below w.heap.size w w' := by
  obtain ⟨bv, lv, rows, rfl, hb1, hb2, hb3, hb4, hb5⟩ := h.open_
  obtain ⟨al, cl, rfl, hcl, hml⟩ := hb3.form
  obtain ⟨ab, cb, rfl, hcb, hmb⟩ := hb1.form
  have HBS := hqZ hb1
  clear h hb1 hb2 hb3 hb4 hb5
  obtain ⟨r, hr⟩ : ∃ r, r = fitK .t x := ⟨_, rfl⟩
  rw [← hr]
  have HR := hqZ hr
  clear hr
  by_cases ht : x.tag = 0
  · have HT := hqZ ht
    have ht1 : (x.tag != 0) = false := by simpa using ht
    clear ht
    by_cases hk : x.kind = 0
    · have HK := hqZ hk
      have hk1 : (x.kind == 0) = true := by simpa using hk
      clear hk
      obtain ⟨d, hd⟩ : ∃ d, d = decide (x.n ≤ 1) := ⟨_, rfl⟩
      have hn : decide ((x.n : Int) ≤ 1) = d := by rw [hd, decide_eq_decide]; omega
      have HD := hqZ hd
      clear hd
      go_enter Try.func23, Try.ntmps23
      go_wp2_with fail
      go_ret
      rw [show r = d by rw [HR.out, HD.out]; simp [fitK, HK.out, HT.out]]
      exact ⟨rfl, (Below.refl _ _).alloc (Nat.le_refl _) _⟩
    · have HK := hqZ hk
      have hk1 : (x.kind == 0) = false := by simpa using hk
      clear hk
      go_enter Try.func23, Try.ntmps23
      go_wp2_with fail
      go_ret
      rw [show r = false by rw [HR.out]; simp [fitK, isS, isB, HK.out]]
      exact ⟨rfl, (Below.refl _ _).alloc (Nat.le_refl _) _⟩
  · have HT := hqZ ht
    have ht1 : (x.tag != 0) = true := by simpa using ht
    clear ht
    go_enter Try.func23, Try.ntmps23
    go_wp2_with fail
    go_ret
    rw [show r = false by rw [HR.out]; simp [fitK, isS, isB, HT.out]]
    exact ⟨rfl, (Below.refl _ _).alloc (Nat.le_refl _) _⟩
set_option maxHeartbeats 2000000 in
set_option maxRecDepth 100000 in
theorem refFits_b (x : Tv) (F : Nat → Prop) (cs : List Value) (w : World) (h : TvF w F x cs) : Calls Try.prog 23 #[.agg cs.toArray, .int .u8 98] w fun e w' => e = .returned (.bool (fitK .b x)) ∧ Below w.heap.size w w' := by
  obtain ⟨bv, lv, rows, rfl, hb1, hb2, hb3, hb4, hb5⟩ := h.open_
  obtain ⟨al, cl, rfl, hcl, hml⟩ := hb3.form
  obtain ⟨ab, cb, rfl, hcb, hmb⟩ := hb1.form
  have HBS := hqZ hb1
  clear h hb1 hb2 hb3 hb4 hb5
  obtain ⟨r, hr⟩ : ∃ r, r = fitK .b x := ⟨_, rfl⟩
  rw [← hr]
  have HR := hqZ hr
  clear hr
  by_cases ht : x.tag = 0
  · have HT := hqZ ht
    have ht1 : (x.tag != 0) = false := by simpa using ht
    clear ht
    by_cases hk : x.kind = 1
    · have HK := hqZ hk
      have hk1 : (x.kind == 1) = true := by simpa using hk
      clear hk
      go_enter Try.func23, Try.ntmps23
      go_wp2_with fail
      go_ret
      rw [show r = true by rw [HR.out]; simp [fitK, isB, HK.out, HT.out]]
      exact ⟨rfl, (Below.refl _ _).alloc (Nat.le_refl _) _⟩
    · have HK := hqZ hk
      have hk1 : (x.kind == 1) = false := by simpa using hk
      clear hk
      go_enter Try.func23, Try.ntmps23
      go_wp2_with fail
      go_ret
      rw [show r = false by rw [HR.out]; simp [fitK, isS, isB, HK.out]]
      exact ⟨rfl, (Below.refl _ _).alloc (Nat.le_refl _) _⟩
  · have HT := hqZ ht
    have ht1 : (x.tag != 0) = true := by simpa using ht
    clear ht
    go_enter Try.func23, Try.ntmps23
    go_wp2_with fail
    go_ret
    rw [show r = false by rw [HR.out]; simp [fitK, isS, isB, HT.out]]
    exact ⟨rfl, (Below.refl _ _).alloc (Nat.le_refl _) _⟩
set_option maxHeartbeats 2000000 in
set_option maxRecDepth 100000 in
theorem refFits_s (x : Tv) (F : Nat → Prop) (cs : List Value) (w : World) (h : TvF w F x cs) : Calls Try.prog 23 #[.agg cs.toArray, .int .u8 115] w fun e w' => e = .returned (.bool (fitK .s x)) ∧ Below w.heap.size w w' := by
  obtain ⟨bv, lv, rows, rfl, hb1, hb2, hb3, hb4, hb5⟩ := h.open_
  obtain ⟨al, cl, rfl, hcl, hml⟩ := hb3.form
  obtain ⟨ab, cb, rfl, hcb, hmb⟩ := hb1.form
  have HBS := hqZ hb1
  clear h hb1 hb2 hb3 hb4 hb5
  obtain ⟨r, hr⟩ : ∃ r, r = fitK .s x := ⟨_, rfl⟩
  rw [← hr]
  have HR := hqZ hr
  clear hr
  by_cases ht : x.tag = 0
  · have HT := hqZ ht
    have ht1 : (x.tag != 0) = false := by simpa using ht
    clear ht
    by_cases hk : x.kind = 1
    · have HK := hqZ hk
      have hk1 : (x.kind == 1) = true := by simpa using hk
      clear hk
      obtain ⟨w1, hw1⟩ : ∃ w1, w1 = w.alloc (.cells #[.int .i64 x.kind, .int .i64 x.tag, .int .u64 (x.n : Int), .slice ab x.b.length cb, .slice al x.l.length cl] 30) := ⟨_, rfl⟩
      have HB1 : Hid (Bs w1 (.slice ab x.b.length cb) x.b) := hqZ (by rw [hw1]; exact HBS.out.alloc _)
      have HW1 : Hid (Below w.heap.size w w1) := hqZ (by rw [hw1]; exact (Below.refl _ _).alloc (Nat.le_refl _) _)
      have HRR := hqZ (refRight_any (tx x.b) w1 (by rw [tx_size]; omega))
      obtain ⟨d, hd⟩ : ∃ d, d = rightB (tx x.b) := ⟨_, rfl⟩
      rw [← hd] at HRR
      have HD := hqZ hd
      clear hd
      go_enter Try.func23, Try.ntmps23
      go_upto_region 9 with fail
      show Code.wp _ _ _ _ (w.alloc (.cells #[.int .i64 x.kind, .int .i64 x.tag, .int .u64 (x.n : Int), .slice ab x.b.length cb, .slice al x.l.length cl] 30))
      have c0 : w1.cell? ⟨w.heap.size, 0, none⟩ = some (.int .i64 x.kind) := by rw [hw1]; exact (Blk.new w [.int .i64 x.kind, .int .i64 x.tag, .int .u64 (x.n : Int), .slice ab x.b.length cb, .slice al x.l.length cl] 30).cell 0
      have c3 : w1.cell? ⟨w.heap.size, 3, none⟩ = some (.slice ab x.b.length cb) := by rw [hw1]; exact (Blk.new w [.int .i64 x.kind, .int .i64 x.tag, .int .u64 (x.n : Int), .slice ab x.b.length cb, .slice al x.l.length cl] 30).cell 3
      rw [← hw1]
      clear hw1
      have hcv := run_convS w1 _ x.b HB1.out
      go_wp2_with fail
      refine HRR.out.mono ?_
      rintro e w2 ⟨rfl, rfl⟩
      go_wp2_with fail
      go_ret
      rw [show r = d by rw [HR.out, HD.out]; simp [fitK, isS, HK.out, HT.out]]
      exact ⟨rfl, HW1.out⟩
    · have HK := hqZ hk
      have hk1 : (x.kind == 1) = false := by simpa using hk
      clear hk
      go_enter Try.func23, Try.ntmps23
      go_wp2_with fail
      go_ret
      rw [show r = false by rw [HR.out]; simp [fitK, isS, isB, HK.out]]
      exact ⟨rfl, (Below.refl _ _).alloc (Nat.le_refl _) _⟩
  · have HT := hqZ ht
    have ht1 : (x.tag != 0) = true := by simpa using ht
    clear ht
    go_enter Try.func23, Try.ntmps23
    go_wp2_with fail
    go_ret
    rw [show r = false by rw [HR.out]; simp [fitK, isS, isB, HT.out]]
    exact ⟨rfl, (Below.refl _ _).alloc (Nat.le_refl _) _⟩
theorem refFits_any (k : Kd) (hk : lowK k = true) (x : Tv) (F : Nat → Prop) (cs : List Value) (w : World) (h : TvF w F x cs) : Calls Try.prog 23 #[.agg cs.toArray, .int .u8 ((kdC k).toNat : Int)] w fun e w' => e = .returned (.bool (fitK k x)) ∧ Below w.heap.size w w' := by
  cases k
  · exact refFits_s x F cs w h
  · exact refFits_n x F cs w h
  · exact refFits_b x F cs w h
  · exact refFits_t x F cs w h
  · cases hk
  · cases hk
theorem tx_toList (l : List UInt8) : (tx l).toList = l := by rw [ByteArray.toList_eq]; rfl
theorem run_idxS (l : List UInt8) (k : Nat) (h : k < l.length) (W : World) : (Instr.index 9 (.string (tx l)) (.int .i64 (k : Int))).run Try.prog W = .ok (.int .u8 (l[k].toNat : Int)) W := by
  have hs : (tx l)[k]? = some l[k] := by
    have h1 : k < (tx l).size := by rw [tx_size]; exact h
    rw [getElem?_pos (tx l) k h1]
    rfl
  unfold Instr.index
  rw [Sem.run_bind]
  simp only [asIntOf, Sem.run_pure, Result.andThen_ok, Sem.run_bind, run_underlying Try.underlying9]
  rw [if_pos (by omega), Int.toNat_natCast, hs]
  simp
theorem fitsK_drop (ks : List Kd) (l : List Tv) (k : Nat) (h1 : k < ks.length) (h2 : k < l.length) : fitsK (ks.drop k) (l.drop k) = (fitK ks[k] l[k] && fitsK (ks.drop (k + 1)) (l.drop (k + 1))) := by
  rw [List.drop_eq_getElem_cons h1, List.drop_eq_getElem_cons h2]
  rfl
theorem fitsK_len : ∀ {ks : List Kd} {l : List Tv}, fitsK ks l = true → l.length = ks.length
  | [], [], _ => rfl
  | [], _ :: _, h => by simp [fitsK] at h
  | _ :: _, [], h => by simp [fitsK] at h
  | k :: ks, x :: l, h => by
    simp only [fitsK, Bool.and_eq_true] at h
    rw [List.length_cons, List.length_cons, fitsK_len h.2]
theorem tkR_fits (x : Tv) : tkR x = (decide (x.kind = 2 ∧ x.tag = 1) && fitsK [.s, .b] x.l) := by
  unfold tkR
  congr 1
  generalize x.l = l
  match l with
  | [] => rfl
  | [a] => simp [fitsK]
  | [a, b] => simp [fitsK, fitK]
  | a :: b :: c :: l => simp [fitsK]
set_option maxHeartbeats 4000000 in
set_option maxRecDepth 100000 in
theorem refRight10_any (x : Tv) (ht : x.tag = 1) (F : Nat → Prop) (cs : List Value) (w : World) (h : TvF w F x cs) : Calls Try.prog 43 #[.agg cs.toArray] w fun e w' => e = .returned (.bool (tkR x)) ∧ Below w.heap.size w w' := by
  obtain ⟨bv, lv, rows, rfl, hb1, hb2, hb3, hb4, hb5⟩ := h.open_
  obtain ⟨al, cl, rfl, hcl, hml⟩ := hb3.form
  obtain ⟨ab, cb, rfl, hcb, hmb⟩ := hb1.form
  unfold maxLen at hml
  have HSL := hqZ hb3
  have HTV := hqZ hb5
  clear h hb1 hb2 hb3 hb4 hb5
  obtain ⟨r, hr⟩ : ∃ r, r = tkR x := ⟨_, rfl⟩
  rw [← hr]
  have HR : Hid (r = (decide (x.kind = 2 ∧ x.tag = 1) && fitsK [.s, .b] x.l)) := hqZ (by rw [hr, tkR_fits])
  have HT := hqZ ht
  rw [ht]
  clear hr ht
  obtain ⟨n, hn⟩ : ∃ n, n = x.l.length := ⟨_, rfl⟩
  obtain ⟨q, hq⟩ : ∃ q, q = w.heap.size := ⟨_, rfl⟩
  obtain ⟨w1, hw1⟩ : ∃ w1, w1 = w.alloc (.cells #[.int .i64 x.kind, .int .i64 1, .int .u64 (x.n : Int), .slice ab x.b.length cb, .slice al x.l.length cl] 30) := ⟨_, rfl⟩
  have HB1 : Hid (Below w.heap.size w w1) := hqZ (by rw [hw1]; exact (Below.refl _ _).alloc (Nat.le_refl _) _)
  have HQ1 : Hid (Blk w1 q [.int .i64 x.kind, .int .i64 1, .int .u64 (x.n : Int), .slice ab x.b.length cb, .slice al x.l.length cl] 30) := hqZ (by rw [hw1, hq]; exact Blk.new _ _ _)
  have hq4 : w1.cell? ⟨q, 4, none⟩ = some (.slice al x.l.length cl) := HQ1.out.cell 4
  have hq0 : w1.cell? ⟨q, 0, none⟩ = some (.int .i64 x.kind) := HQ1.out.cell 0
  have hsz : (tx [115, 98]).size = 2 := rfl
  have hsq : ((tx [115, 98]).toList == [63]) = false := by rw [tx_toList]; decide
  have HSH := hqZ (refShape10_any w1)
  by_cases hk : x.kind = 2
  · have HK := hqZ hk
    have hk1 : (x.kind != 2) = false := by simpa using hk
    clear hk
    by_cases hl : x.l.length = 2
    · have HL := hqZ hl
      have hl1 : ((x.l.length : Int) != 2) = false := by simp; omega
      have HRR : Hid (r = fitsK [.s, .b] x.l) := hqZ (by rw [HR.out, HK.out, HT.out]; rfl)
      clear hl
      go_enter Try.func43, Try.ntmps43
      go_upto_region 1 with fail
      show Code.wp _ _ _ _ (w.alloc (.cells #[.int .i64 x.kind, .int .i64 1, .int .u64 (x.n : Int), .slice ab x.b.length cb, .slice al x.l.length cl] 30))
      have hq1 : w1.cell? ⟨q, 1, none⟩ = some (.int .i64 1) := HQ1.out.cell 1
      rw [← hw1, ← hq]
      clear hw1 hq hn
      go_wp2_with fail
      refine HSH.out.mono ?_
      rintro e w2 ⟨rfl, rfl⟩
      go_wp2_with fail
      go_loopw [4] (fun i wr => ∃ k : Nat, k ≤ 2 ∧ i = .int .i64 k ∧ Below w1.heap.size w1 wr ∧ fitsK ([Kd.s, Kd.b].drop k) (x.l.drop k) = r) (fun i _ => 2 - (intOf i).toNat)
      case atStart => exact ⟨0, by omega, rfl, Below.refl _ _, HRR.out.symm⟩
      case round =>
        obtain ⟨k, hk, rfl, hB, hF⟩ := hrel
        have HB := hqZ hB
        have HF := hqZ hF
        clear hB hF
        have hbz := HB.out.size
        have hqw := HQ1.out.lt
        by_cases hlt : k < 2
        · have hlt1 : (k : Int) < 2 := by omega
          have hlx : k < x.l.length := by rw [HL.out]; exact hlt
          have hlx1 : (k : Int) < (x.l.length : Int) := by omega
          obtain ⟨bl, ol, rfl, _⟩ := HSL.out.addr (by rw [HSL.out.1]; omega)
          obtain ⟨re, hre, hrc⟩ := HTV.out.cells HSL.out k hlx
          have hbw : Below w.heap.size w wr := HB1.out.trans (HB.out.mono HB1.out.size)
          have hbd : Below wr.heap.size wr wr.drew := (Below.refl _ _).drew
          have HCRW : Hid (∀ W, Below wr.heap.size wr W → CellsAt W bl (ol + k * 5) re) := hqZ (fun W hW i u hi => below_cell hW (below_cell hbw (hrc i u hi)))
          have HQW : Hid (∀ W, Below wr.heap.size wr W → Blk W q [.int .i64 x.kind, .int .i64 1, .int .u64 (x.n : Int), .slice ab x.b.length cb, .slice (some ⟨bl, ol, none⟩) x.l.length cl] 30) := hqZ (fun W hW => (HQ1.out.below HB.out hqw).below hW (by omega))
          have HRL := hqZ hre.length
          have hsx : ∀ W, (Instr.index 9 (.string (tx [115, 98])) (.int .i64 (k : Int))).run Try.prog W = .ok (.int .u8 ((kdC ([Kd.s, Kd.b][k])).toNat : Int)) W := fun W => by
            rw [run_idxS [115, 98] k hlt W]
            rcases (by omega : k = 0 ∨ k = 1) with rfl | rfl <;> rfl
          have hlow : lowK ([Kd.s, Kd.b][k]) = true := by rcases (by omega : k = 0 ∨ k = 1) with rfl | rfl <;> rfl
          have HFT := hqZ (refFits_any ([Kd.s, Kd.b][k]) hlow x.l[k] F re wr.drew ((hre.below hbw).below hbd))
          have HFD : Hid ((fitK ([Kd.s, Kd.b][k]) x.l[k] && fitsK ([Kd.s, Kd.b].drop (k + 1)) (x.l.drop (k + 1))) = r) := hqZ (by rw [← fitsK_drop [Kd.s, Kd.b] x.l k hlt hlx]; exact HF.out)
          clear hre hrc hbw hbd hlow HF
          generalize fitK ([Kd.s, Kd.b][k]) x.l[k] = d at *
          clear hlx
          generalize ((kdC ([Kd.s, Kd.b][k])).toNat : Int) = c at *
          generalize hnn : x.l.length = nn at *
          have hlx1 : (k : Int) < (nn : Int) := by omega
          go_upto_region 7 with fail
          obtain ⟨wd, hwd⟩ : ∃ wd, wd = World.drew wr := ⟨_, rfl⟩
          have HS0 : Hid (Below wr.heap.size wr wd) := hqZ (by rw [hwd]; exact (Below.refl _ _).drew)
          rw [← hwd] at HFT
          refine wp_region_held (S := fun W => Below wr.heap.size wr W) (by kernel_rfl) ?_
          change wpAnyH _ _ _ _ _ _ _ _ (World.drew _)
          rw [← hwd]
          clear hwd
          refine tkH 0 29 none (.pointer (some ⟨q, 4, none⟩)) rfl (by kernel_rfl) (fun _ _ _ h => h) (by rfl) (by intro W hW; go_simp) HS0.out ?_
          simp only [Act.put, zq1, zq2, zq3]
          refine tkH 1 30 none (.slice (some ⟨bl, ol, none⟩) nn cl) rfl (by kernel_rfl) (fun _ _ _ h => h) (by rfl) (by intro W hW; have hc : W.cell? ⟨q, 4, none⟩ = some (.slice (some ⟨bl, ol, none⟩) nn cl) := (HQW.out W hW).cell 4; go_simp) HS0.out ?_
          simp only [Act.put, zq1, zq2, zq3]
          refine tkH 2 31 none (.int .i64 k) rfl (by kernel_rfl) (fun _ _ _ h => h) (by rfl) (by intro W hW; go_simp) HS0.out ?_
          simp only [Act.put, zq1, zq2, zq3]
          refine tkH 3 32 none (.pointer (some ⟨bl, ol + k * 5, none⟩)) rfl (by kernel_rfl) (fun _ _ _ h => h) (by rfl) (by intro W hW; go_simp) HS0.out ?_
          simp only [Act.put, zq1, zq2, zq3]
          refine tkH 4 33 none (.agg re.toArray) rfl (by kernel_rfl) (fun _ _ _ h => h) (by rfl) (by intro W hW; exact exec_ldAgg rfl aggRef rfl HRL.out (HCRW.out W hW)) HS0.out ?_
          simp only [Act.put, zq1, zq2, zq3]
          refine tkH 5 34 none (.string (tx [115, 98])) rfl (by kernel_rfl) (fun _ _ _ h => h) (by rfl) (by intro W hW; go_simp) HS0.out ?_
          simp only [Act.put, zq1, zq2, zq3]
          refine tkH 6 35 none (.int .i64 k) rfl (by kernel_rfl) (fun _ _ _ h => h) (by rfl) (by intro W hW; go_simp) HS0.out ?_
          simp only [Act.put, zq1, zq2, zq3]
          refine tkH 7 36 none (.int .u8 c) rfl (by kernel_rfl) (fun _ _ _ h => h) (by rfl) (by intro W hW; have hc := hsx W; go_simp) HS0.out ?_
          simp only [Act.put, zq1, zq2, zq3]
          refine anyH_ready (rs := [8]) (by decide +kernel) (by simp) ?_
          refine AllReadyH.cons (o := { dst := some 37, op := .call { callee := .value (.func 23), args := #[.tmp 33, .tmp 36], argTypes := #[30, 5] }, type := _, pos := _, after := _, guard := none }) rfl (fun K hK => ?_) AllReadyH.nil
          go_simp
          refine HFT.out.mono ?_
          rintro e w3 ⟨rfl, hb⟩
          have HS0 : Hid (Below wr.heap.size wr w3) := hqZ (HS0.out.trans (hb.mono HS0.out.size))
          clear hb HFT
          refine hK _ _ HS0.out ?_
          clear hK K
          try simp only [Act.put, zq1, zq2, zq3]
          refine tkH 9 38 none (.bool (!d)) rfl (by kernel_rfl) (fun _ _ _ h => h) (by rfl) (by intro W hW; go_simp) HS0.out ?_
          simp only [Act.put, zq1, zq2, zq3]
          refine wpAnyH_done (by decide +kernel) ?_ _
          cases d with
          | true =>
            go_wp2_with fail
            go_roundw
            case rel => exact ⟨k + 1, by omega, by go_num, HS0.out.mono HB.out.size |> HB.out.trans, by have := HFD.out; rwa [Bool.true_and] at this⟩
            case measure => simp [intOf]; omega
          | false =>
            go_wp2_with fail
            go_ret
            rw [show r = false by have := HFD.out; rw [Bool.false_and] at this; exact this.symm]
            exact ⟨rfl, HB1.out.trans ((HB.out.trans (HS0.out.mono HB.out.size)).mono HB1.out.size)⟩
        · obtain rfl : k = 2 := by omega
          have HFD : Hid (r = true) := hqZ (by
            have h := HF.out
            rw [show [Kd.s, Kd.b].drop 2 = [] from rfl, show x.l.drop 2 = [] from List.drop_of_length_le (by rw [HL.out]; exact Nat.le_refl _)] at h
            exact h.symm)
          clear HF
          go_wp2_with fail
          go_ret
          rw [HFD.out]
          exact ⟨rfl, HB1.out.trans (HB.out.mono HB1.out.size)⟩
    · have HL := hqZ hl
      have hl1 : ((x.l.length : Int) != 2) = true := by simp; omega
      have HRR : Hid (r = false) := hqZ (by
        rw [HR.out]
        cases hf : fitsK [.s, .b] x.l with
        | false => simp
        | true => exact absurd (fitsK_len hf) hl)
      clear hl
      go_enter Try.func43, Try.ntmps43
      go_upto_region 1 with fail
      show Code.wp _ _ _ _ (w.alloc (.cells #[.int .i64 x.kind, .int .i64 1, .int .u64 (x.n : Int), .slice ab x.b.length cb, .slice al x.l.length cl] 30))
      have hq1 : w1.cell? ⟨q, 1, none⟩ = some (.int .i64 1) := HQ1.out.cell 1
      rw [← hw1, ← hq]
      clear hw1 hq hn
      go_wp2_with fail
      refine HSH.out.mono ?_
      rintro e w2 ⟨rfl, rfl⟩
      go_wp2_with fail
      go_ret
      rw [HRR.out]
      exact ⟨rfl, HB1.out⟩
  · have HK := hqZ hk
    have hk1 : (x.kind != 2) = true := by simpa using hk
    have HRR : Hid (r = false) := hqZ (by rw [HR.out]; simp [hk])
    clear hk
    go_enter Try.func43, Try.ntmps43
    go_upto_region 1 with fail
    show Code.wp _ _ _ _ (w.alloc (.cells #[.int .i64 x.kind, .int .i64 1, .int .u64 (x.n : Int), .slice ab x.b.length cb, .slice al x.l.length cl] 30))
    have hq1 : w1.cell? ⟨q, 1, none⟩ = some (.int .i64 1) := HQ1.out.cell 1
    rw [← hw1, ← hq]
    clear hw1 hq hn
    go_wp2_with fail
    refine HSH.out.mono ?_
    rintro e w2 ⟨rfl, rfl⟩
    go_wp2_with fail
    go_ret
    rw [HRR.out]
    exact ⟨rfl, HB1.out⟩
end Go.Proofs.Ytpjkidcfidmfaaa
