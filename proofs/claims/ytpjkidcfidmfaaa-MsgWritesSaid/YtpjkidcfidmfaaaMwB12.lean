/- Texts of this proof, one behind the other: MPure2, MValue, MTo, MMsgO, MMsgOA. -/
import Derived.Test.YtpjkidcfidmfaaaMwB11
import Derived.Deep.DeepCutAuto
import Derived.Deep.CutBlock
namespace Go.Proofs.Ytpjkidcfidmfaaa
set_option linter.unusedSimpArgs false
set_option linter.unusedVariables false
open Go.RowKit
def kdOf : Pt → Kd
  | .s _ => .s
  | .n _ => .n
  | .b _ => .b
  | .t _ => .t
  | .i _ => .i
  | .x _ => .x
theorem takeWhile_all {α : Type} (p : α → Bool) : ∀ (l : List α), l.all p = true → l.takeWhile p = l
  | [], _ => rfl
  | x :: l, h => by
    rw [List.all_cons, Bool.and_eq_true] at h
    rw [List.takeWhile_cons, if_pos h.1, takeWhile_all p l h.2]
def msgTv (t : Int) (pts : List Pt) : Tv := .mk 2 t 0 [] (pts.map ptTv)
/-! ### The other way -/
theorem right_s (d : Nat) (l : List UInt8) : rightS (d + 1) (.mk 1 0 0 l []) = true := by simp [rightS]
theorem right_n (d n : Nat) : rightS (d + 1) (.mk 0 0 n [] []) = true := by simp [rightS]
theorem right_l (d : Nat) (t : Int) (l : List Tv) (h0 : 0 ≤ t) (h1 : t ≤ 30) (h : l.all (rightS d) = true) : rightS (d + 1) (.mk 2 t 0 [] l) = true := by
  show (decide (0 ≤ t) && decide (t ≤ 30) && (l.all (rightS d) && decide ((0 : Nat) = 0) && decide (([] : List UInt8) = []))) = true
  rw [h, decide_eq_true h0, decide_eq_true h1]
  rfl
theorem tk_fwd (t : List UInt8 × List UInt8) (h : rT t = true) (d : Nat) : tkR (tkTv t) = true ∧ tkOf (tkTv t) = t ∧ rightS (d + 2) (tkTv t) = true := by
  have h1 : tkR (tkTv t) = true := by
    show (decide ((2 : Int) = 2 ∧ (1 : Int) = 1) && (isS (.mk 1 0 0 t.1 []) && isB (.mk 1 0 0 t.2 []))) = true
    have : isS (.mk 1 0 0 t.1 []) = true := by
      show (decide ((1 : Int) = 1 ∧ (0 : Int) = 0) && rightB (tx t.1)) = true
      rw [show rightB (tx t.1) = true from h]; decide
    rw [this]
    rfl
  refine ⟨h1, ?_, ?_⟩
  · have ht := ticketS_eq (tkTv t)
    rw [if_pos h1] at ht
    unfold tkOf
    rw [ht]
    rfl
  · refine right_l _ _ _ (by decide) (by decide) ?_
    simp only [List.all_cons, List.all_nil, right_s, Bool.and_true]
theorem tks_fwd (d : Nat) : ∀ (l : List (List UInt8 × List UInt8)), l.all rT = true → (l.map tkTv).all tkR = true ∧ (l.map tkTv).map tkOf = l ∧ (l.map tkTv).all (rightS (d + 2)) = true
  | [], _ => ⟨rfl, rfl, rfl⟩
  | t :: l, h => by
    rw [List.all_cons, Bool.and_eq_true] at h
    obtain ⟨h1, h2, h3⟩ := tk_fwd t h.1 d
    obtain ⟨h4, h5, h6⟩ := tks_fwd d l h.2
    exact ⟨by rw [List.map_cons, List.all_cons, h1, h4]; rfl, by rw [List.map_cons, List.map_cons, h2, h5], by rw [List.map_cons, List.all_cons, h3, h6]; rfl⟩
theorem timeB_iff (x : Int) : timeB x = true ↔ 0 ≤ x ∧ x ≤ 1099511627776 := by simp [timeB]
theorem pt_fwd (p : Pt) (h : ptB p = true) (d : Nat) : fitK (kdOf p) (ptTv p) = true ∧ ptOf (kdOf p) (ptTv p) = p ∧ rightS (d + 3) (ptTv p) = true := by
  cases p with
  | s l => exact ⟨by show (decide ((1 : Int) = 1 ∧ (0 : Int) = 0) && rightB (tx l)) = true; rw [show rightB (tx l) = true from h]; decide, rfl, right_s _ _⟩
  | n x =>
    obtain ⟨h0, h1⟩ := (timeB_iff x).1 h
    obtain ⟨n, rfl⟩ := Int.eq_ofNat_of_zero_le h0
    refine ⟨?_, rfl, right_n _ _⟩
    show (decide ((0 : Int) = 0 ∧ (0 : Int) = 0) && decide (n ≤ maxT)) = true
    rw [decide_eq_true (by unfold maxT; omega : n ≤ maxT)]
    decide
  | b l => exact ⟨rfl, rfl, right_s _ _⟩
  | t b => cases b <;> exact ⟨by decide, rfl, right_n _ _⟩
  | i t => obtain ⟨h1, h2, h3⟩ := tk_fwd t h (d + 1); exact ⟨h1, by show Pt.i _ = _; rw [show ptTv (.i t) = tkTv t from rfl, h2], h3⟩
  | x l =>
    have h : (l.all rT && decide (l.length ≤ 1)) = true := h
    rw [Bool.and_eq_true, decide_eq_true_eq] at h
    obtain ⟨h1, h2, h3⟩ := tks_fwd d l h.1
    have he : ptTv (.x l) = .mk 2 0 0 [] (l.map tkTv) := by show tksTv l = _; unfold tksTv; rw [takeWhile_all _ _ h.1]
    rw [he]
    refine ⟨?_, by show Pt.x ((l.map tkTv).map tkOf) = _; rw [h2], right_l _ _ _ (by decide) (by decide) h3⟩
    show (decide ((2 : Int) = 2 ∧ (0 : Int) = 0) && (decide ((l.map tkTv).length ≤ 1) && (l.map tkTv).all tkR)) = true
    rw [h1, List.length_map, decide_eq_true h.2]
    decide
theorem pts_fwd : ∀ (pts : List Pt), pts.all ptB = true → fitsK (pts.map kdOf) (pts.map ptTv) = true ∧ ptsOf (pts.map kdOf) (pts.map ptTv) = pts ∧ (pts.map ptTv).all (rightS 7) = true
  | [], _ => ⟨rfl, rfl, rfl⟩
  | p :: l, h => by
    rw [List.all_cons, Bool.and_eq_true] at h
    obtain ⟨h1, h2, h3⟩ := pt_fwd p h.1 4
    obtain ⟨h4, h5, h6⟩ := pts_fwd l h.2
    exact ⟨by simp only [List.map_cons, fitsK, h1, h4]; rfl, by simp only [List.map_cons, ptsOf, h2, h5], by rw [List.map_cons, List.all_cons, h3, h6]; rfl⟩
theorem shape_tag {t : Int} (h : (shapeS t).isEmpty = false) : 11 ≤ t ∧ t ≤ 22 := by
  unfold shapeS at h
  refine ⟨Decidable.byContradiction fun hn => ?_, Decidable.byContradiction fun hn => ?_⟩
  all_goals
    rw [if_neg (by omega), if_neg (by omega), if_neg (by omega), if_neg (by omega), if_neg (by omega), if_neg (by omega), if_neg (by omega), if_neg (by omega), if_neg (by omega), if_neg (by omega), if_neg (by omega), if_neg (by omega)] at h
    simp at h
theorem msg_fwd {t : Int} {pts : List Pt} (hk : pts.map kdOf = shapeS t) (hne : (shapeS t).isEmpty = false) (hb : pts.all ptB = true) : msgR (msgTv t pts) = true ∧ ptsOf (shapeS t) (msgTv t pts).l = pts ∧ rightS 8 (msgTv t pts) = true := by
  obtain ⟨h1, h2, h3⟩ := pts_fwd pts hb
  obtain ⟨ht1, ht2⟩ := shape_tag hne
  rw [hk] at h1 h2
  refine ⟨?_, h2, right_l _ _ _ (by omega) (by omega) h3⟩
  show (decide ((2 : Int) = 2) && (!(shapeS t).isEmpty && fitsK (shapeS t) (pts.map ptTv))) = true
  rw [h1, hne]
  decide
def PtOk : Pt → Prop
  | .s l => l.length ≤ 140737488355328
  | .n x => -9223372036854775808 ≤ x ∧ x ≤ 9223372036854775807
  | .b l => l.length ≤ 140737488355328
  | .t _ => True
  | .i t => t.1.length ≤ 140737488355328 ∧ t.2.length ≤ 140737488355328
  | .x l => (∀ t ∈ l, t.1.length ≤ 140737488355328 ∧ t.2.length ≤ 140737488355328) ∧ l.length ≤ 1954687338211
theorem map_cons_ex {pts : List Pt} {k : Kd} {ks : List Kd} (h : pts.map kdOf = k :: ks) : ∃ p r, pts = p :: r ∧ kdOf p = k ∧ r.map kdOf = ks := by
  cases pts with
  | nil => simp at h
  | cons p r =>
    simp only [List.map_cons, List.cons.injEq] at h
    exact ⟨p, r, rfl, h.1, h.2⟩
theorem map_nil_ex {pts : List Pt} (h : pts.map kdOf = []) : pts = [] := List.map_eq_nil_iff.1 h
theorem kd_s {p : Pt} (h : kdOf p = .s) : ∃ y : List UInt8, p = .s y := by
  cases p <;> first | exact ⟨_, rfl⟩ | cases h
theorem kd_n {p : Pt} (h : kdOf p = .n) : ∃ y : Int, p = .n y := by
  cases p <;> first | exact ⟨_, rfl⟩ | cases h
theorem kd_b {p : Pt} (h : kdOf p = .b) : ∃ y : List UInt8, p = .b y := by
  cases p <;> first | exact ⟨_, rfl⟩ | cases h
theorem kd_t {p : Pt} (h : kdOf p = .t) : ∃ y : Bool, p = .t y := by
  cases p <;> first | exact ⟨_, rfl⟩ | cases h
theorem kd_i {p : Pt} (h : kdOf p = .i) : ∃ y : List UInt8 × List UInt8, p = .i y := by
  cases p <;> first | exact ⟨_, rfl⟩ | cases h
theorem kd_x {p : Pt} (h : kdOf p = .x) : ∃ y : List (List UInt8 × List UInt8), p = .x y := by
  cases p <;> first | exact ⟨_, rfl⟩ | cases h
theorem msgValue_any (t : Int) (pts : List Pt) (F : Nat → Prop) (v : Value) (w : World) (hk : pts.map kdOf = shapeS t) (hne : (shapeS t).isEmpty = false) (hv : MsgV w F t pts v) (hok : ∀ p ∈ pts, PtOk p) :
    Calls Try.prog 10 #[v] w (VlRes w (msgTv t pts) (pts.all ptB)) := by
  obtain ⟨ht1, ht2⟩ := shape_tag hne
  rcases (by omega : t = 11 ∨ t = 12 ∨ t = 13 ∨ t = 14 ∨ t = 15 ∨ t = 16 ∨ t = 17 ∨ t = 18 ∨ t = 19 ∨ t = 20 ∨ t = 21 ∨ t = 22) with rfl | rfl | rfl | rfl | rfl | rfl | rfl | rfl | rfl | rfl | rfl | rfl
  · have k0 : pts.map kdOf = [.s, .n, .n, .b] := hk
    clear hk
    obtain ⟨p1, r1, rfl, e1, k1⟩ := map_cons_ex k0
    obtain ⟨y1, rfl⟩ := kd_s e1
    obtain ⟨p2, r2, rfl, e2, k2⟩ := map_cons_ex k1
    obtain ⟨y2, rfl⟩ := kd_n e2
    obtain ⟨p3, r3, rfl, e3, k3⟩ := map_cons_ex k2
    obtain ⟨y3, rfl⟩ := kd_n e3
    obtain ⟨p4, r4, rfl, e4, k4⟩ := map_cons_ex k3
    obtain ⟨y4, rfl⟩ := kd_b e4
    obtain rfl := map_nil_ex k4
    obtain ⟨cs, rfl, hp⟩ := hv
    obtain ⟨a1, b1, rfl, g1, hp⟩ := hp
    obtain rfl := g1
    obtain ⟨a2, b2, rfl, g2, hp⟩ := hp
    obtain rfl := g2
    obtain ⟨a3, b3, rfl, g3, hp⟩ := hp
    obtain rfl := g3
    obtain ⟨a4, b4, rfl, g4, hp⟩ := hp
    obtain ⟨v4, rfl, hb4, ho4⟩ := g4
    obtain rfl : _ = [] := hp
    exact msgValue_11 F y1 y2 y3 y4 v4 w (show PtOk (.s y1) from hok _ (by simp)) (show PtOk (.n y2) from hok _ (by simp)) (show PtOk (.n y3) from hok _ (by simp)) hb4 (show PtOk (.b y4) from hok _ (by simp))
  · have k0 : pts.map kdOf = [.s, .i, .b] := hk
    clear hk
    obtain ⟨p1, r1, rfl, e1, k1⟩ := map_cons_ex k0
    obtain ⟨y1, rfl⟩ := kd_s e1
    obtain ⟨p2, r2, rfl, e2, k2⟩ := map_cons_ex k1
    obtain ⟨y2, rfl⟩ := kd_i e2
    obtain ⟨p3, r3, rfl, e3, k3⟩ := map_cons_ex k2
    obtain ⟨y3, rfl⟩ := kd_b e3
    obtain rfl := map_nil_ex k3
    obtain ⟨cs, rfl, hp⟩ := hv
    obtain ⟨a1, b1, rfl, g1, hp⟩ := hp
    obtain rfl := g1
    obtain ⟨a2, b2, rfl, g2, hp⟩ := hp
    obtain ⟨v2, rfl, hb2, ho2⟩ := g2
    obtain ⟨a3, b3, rfl, g3, hp⟩ := hp
    obtain ⟨v3, rfl, hb3, ho3⟩ := g3
    obtain rfl : _ = [] := hp
    exact msgValue_12 F y1 y2.1 y2.2 v2 y3 v3 w (show PtOk (.s y1) from hok _ (by simp)) hb2 (show PtOk (.i y2) from hok _ (by simp)) hb3 (show PtOk (.b y3) from hok _ (by simp))
  · have k0 : pts.map kdOf = [.s, .n, .n, .t, .t, .i, .b, .x] := hk
    clear hk
    obtain ⟨p1, r1, rfl, e1, k1⟩ := map_cons_ex k0
    obtain ⟨y1, rfl⟩ := kd_s e1
    obtain ⟨p2, r2, rfl, e2, k2⟩ := map_cons_ex k1
    obtain ⟨y2, rfl⟩ := kd_n e2
    obtain ⟨p3, r3, rfl, e3, k3⟩ := map_cons_ex k2
    obtain ⟨y3, rfl⟩ := kd_n e3
    obtain ⟨p4, r4, rfl, e4, k4⟩ := map_cons_ex k3
    obtain ⟨y4, rfl⟩ := kd_t e4
    obtain ⟨p5, r5, rfl, e5, k5⟩ := map_cons_ex k4
    obtain ⟨y5, rfl⟩ := kd_t e5
    obtain ⟨p6, r6, rfl, e6, k6⟩ := map_cons_ex k5
    obtain ⟨y6, rfl⟩ := kd_i e6
    obtain ⟨p7, r7, rfl, e7, k7⟩ := map_cons_ex k6
    obtain ⟨y7, rfl⟩ := kd_b e7
    obtain ⟨p8, r8, rfl, e8, k8⟩ := map_cons_ex k7
    obtain ⟨y8, rfl⟩ := kd_x e8
    obtain rfl := map_nil_ex k8
    obtain ⟨cs, rfl, hp⟩ := hv
    obtain ⟨a1, b1, rfl, g1, hp⟩ := hp
    obtain rfl := g1
    obtain ⟨a2, b2, rfl, g2, hp⟩ := hp
    obtain rfl := g2
    obtain ⟨a3, b3, rfl, g3, hp⟩ := hp
    obtain rfl := g3
    obtain ⟨a4, b4, rfl, g4, hp⟩ := hp
    obtain rfl := g4
    obtain ⟨a5, b5, rfl, g5, hp⟩ := hp
    obtain rfl := g5
    obtain ⟨a6, b6, rfl, g6, hp⟩ := hp
    obtain ⟨v6, rfl, hb6, ho6⟩ := g6
    obtain ⟨a7, b7, rfl, g7, hp⟩ := hp
    obtain ⟨v7, rfl, hb7, ho7⟩ := g7
    obtain ⟨a8, b8, rfl, g8, hp⟩ := hp
    obtain ⟨v8, rfl, hb8⟩ := g8
    obtain rfl : _ = [] := hp
    exact msgValue_13 F y1 y2 y3 y4 y5 y6.1 y6.2 v6 y7 v7 y8 v8 w (show PtOk (.s y1) from hok _ (by simp)) (show PtOk (.n y2) from hok _ (by simp)) (show PtOk (.n y3) from hok _ (by simp)) hb6 (show PtOk (.i y6) from hok _ (by simp)) hb7 (show PtOk (.b y7) from hok _ (by simp)) hb8 (show PtOk (.x y8) from hok _ (by simp))
  · have k0 : pts.map kdOf = [.s, .i, .b] := hk
    clear hk
    obtain ⟨p1, r1, rfl, e1, k1⟩ := map_cons_ex k0
    obtain ⟨y1, rfl⟩ := kd_s e1
    obtain ⟨p2, r2, rfl, e2, k2⟩ := map_cons_ex k1
    obtain ⟨y2, rfl⟩ := kd_i e2
    obtain ⟨p3, r3, rfl, e3, k3⟩ := map_cons_ex k2
    obtain ⟨y3, rfl⟩ := kd_b e3
    obtain rfl := map_nil_ex k3
    obtain ⟨cs, rfl, hp⟩ := hv
    obtain ⟨a1, b1, rfl, g1, hp⟩ := hp
    obtain rfl := g1
    obtain ⟨a2, b2, rfl, g2, hp⟩ := hp
    obtain ⟨v2, rfl, hb2, ho2⟩ := g2
    obtain ⟨a3, b3, rfl, g3, hp⟩ := hp
    obtain ⟨v3, rfl, hb3, ho3⟩ := g3
    obtain rfl : _ = [] := hp
    exact msgValue_14 F y1 y2.1 y2.2 v2 y3 v3 w (show PtOk (.s y1) from hok _ (by simp)) hb2 (show PtOk (.i y2) from hok _ (by simp)) hb3 (show PtOk (.b y3) from hok _ (by simp))
  · have k0 : pts.map kdOf = [.s, .s, .n] := hk
    clear hk
    obtain ⟨p1, r1, rfl, e1, k1⟩ := map_cons_ex k0
    obtain ⟨y1, rfl⟩ := kd_s e1
    obtain ⟨p2, r2, rfl, e2, k2⟩ := map_cons_ex k1
    obtain ⟨y2, rfl⟩ := kd_s e2
    obtain ⟨p3, r3, rfl, e3, k3⟩ := map_cons_ex k2
    obtain ⟨y3, rfl⟩ := kd_n e3
    obtain rfl := map_nil_ex k3
    obtain ⟨cs, rfl, hp⟩ := hv
    obtain ⟨a1, b1, rfl, g1, hp⟩ := hp
    obtain rfl := g1
    obtain ⟨a2, b2, rfl, g2, hp⟩ := hp
    obtain rfl := g2
    obtain ⟨a3, b3, rfl, g3, hp⟩ := hp
    obtain rfl := g3
    obtain rfl : _ = [] := hp
    exact msgValue_15 F y1 y2 y3 w (show PtOk (.s y1) from hok _ (by simp)) (show PtOk (.s y2) from hok _ (by simp)) (show PtOk (.n y3) from hok _ (by simp))
  · have k0 : pts.map kdOf = [.s, .s, .n, .i] := hk
    clear hk
    obtain ⟨p1, r1, rfl, e1, k1⟩ := map_cons_ex k0
    obtain ⟨y1, rfl⟩ := kd_s e1
    obtain ⟨p2, r2, rfl, e2, k2⟩ := map_cons_ex k1
    obtain ⟨y2, rfl⟩ := kd_s e2
    obtain ⟨p3, r3, rfl, e3, k3⟩ := map_cons_ex k2
    obtain ⟨y3, rfl⟩ := kd_n e3
    obtain ⟨p4, r4, rfl, e4, k4⟩ := map_cons_ex k3
    obtain ⟨y4, rfl⟩ := kd_i e4
    obtain rfl := map_nil_ex k4
    obtain ⟨cs, rfl, hp⟩ := hv
    obtain ⟨a1, b1, rfl, g1, hp⟩ := hp
    obtain rfl := g1
    obtain ⟨a2, b2, rfl, g2, hp⟩ := hp
    obtain rfl := g2
    obtain ⟨a3, b3, rfl, g3, hp⟩ := hp
    obtain rfl := g3
    obtain ⟨a4, b4, rfl, g4, hp⟩ := hp
    obtain ⟨v4, rfl, hb4, ho4⟩ := g4
    obtain rfl : _ = [] := hp
    exact msgValue_16 F y1 y2 y3 y4.1 y4.2 v4 w (show PtOk (.s y1) from hok _ (by simp)) (show PtOk (.s y2) from hok _ (by simp)) (show PtOk (.n y3) from hok _ (by simp)) hb4 (show PtOk (.i y4) from hok _ (by simp))
  · have k0 : pts.map kdOf = [.s, .s, .n, .i, .b] := hk
    clear hk
    obtain ⟨p1, r1, rfl, e1, k1⟩ := map_cons_ex k0
    obtain ⟨y1, rfl⟩ := kd_s e1
    obtain ⟨p2, r2, rfl, e2, k2⟩ := map_cons_ex k1
    obtain ⟨y2, rfl⟩ := kd_s e2
    obtain ⟨p3, r3, rfl, e3, k3⟩ := map_cons_ex k2
    obtain ⟨y3, rfl⟩ := kd_n e3
    obtain ⟨p4, r4, rfl, e4, k4⟩ := map_cons_ex k3
    obtain ⟨y4, rfl⟩ := kd_i e4
    obtain ⟨p5, r5, rfl, e5, k5⟩ := map_cons_ex k4
    obtain ⟨y5, rfl⟩ := kd_b e5
    obtain rfl := map_nil_ex k5
    obtain ⟨cs, rfl, hp⟩ := hv
    obtain ⟨a1, b1, rfl, g1, hp⟩ := hp
    obtain rfl := g1
    obtain ⟨a2, b2, rfl, g2, hp⟩ := hp
    obtain rfl := g2
    obtain ⟨a3, b3, rfl, g3, hp⟩ := hp
    obtain rfl := g3
    obtain ⟨a4, b4, rfl, g4, hp⟩ := hp
    obtain ⟨v4, rfl, hb4, ho4⟩ := g4
    obtain ⟨a5, b5, rfl, g5, hp⟩ := hp
    obtain ⟨v5, rfl, hb5, ho5⟩ := g5
    obtain rfl : _ = [] := hp
    exact msgValue_17 F y1 y2 y3 y4.1 y4.2 v4 y5 v5 w (show PtOk (.s y1) from hok _ (by simp)) (show PtOk (.s y2) from hok _ (by simp)) (show PtOk (.n y3) from hok _ (by simp)) hb4 (show PtOk (.i y4) from hok _ (by simp)) hb5 (show PtOk (.b y5) from hok _ (by simp))
  · have k0 : pts.map kdOf = [.s, .s, .n, .b] := hk
    clear hk
    obtain ⟨p1, r1, rfl, e1, k1⟩ := map_cons_ex k0
    obtain ⟨y1, rfl⟩ := kd_s e1
    obtain ⟨p2, r2, rfl, e2, k2⟩ := map_cons_ex k1
    obtain ⟨y2, rfl⟩ := kd_s e2
    obtain ⟨p3, r3, rfl, e3, k3⟩ := map_cons_ex k2
    obtain ⟨y3, rfl⟩ := kd_n e3
    obtain ⟨p4, r4, rfl, e4, k4⟩ := map_cons_ex k3
    obtain ⟨y4, rfl⟩ := kd_b e4
    obtain rfl := map_nil_ex k4
    obtain ⟨cs, rfl, hp⟩ := hv
    obtain ⟨a1, b1, rfl, g1, hp⟩ := hp
    obtain rfl := g1
    obtain ⟨a2, b2, rfl, g2, hp⟩ := hp
    obtain rfl := g2
    obtain ⟨a3, b3, rfl, g3, hp⟩ := hp
    obtain rfl := g3
    obtain ⟨a4, b4, rfl, g4, hp⟩ := hp
    obtain ⟨v4, rfl, hb4, ho4⟩ := g4
    obtain rfl : _ = [] := hp
    exact msgValue_18 F y1 y2 y3 y4 v4 w (show PtOk (.s y1) from hok _ (by simp)) (show PtOk (.s y2) from hok _ (by simp)) (show PtOk (.n y3) from hok _ (by simp)) hb4 (show PtOk (.b y4) from hok _ (by simp))
  · have k0 : pts.map kdOf = [.s, .s, .n, .n, .n, .b] := hk
    clear hk
    obtain ⟨p1, r1, rfl, e1, k1⟩ := map_cons_ex k0
    obtain ⟨y1, rfl⟩ := kd_s e1
    obtain ⟨p2, r2, rfl, e2, k2⟩ := map_cons_ex k1
    obtain ⟨y2, rfl⟩ := kd_s e2
    obtain ⟨p3, r3, rfl, e3, k3⟩ := map_cons_ex k2
    obtain ⟨y3, rfl⟩ := kd_n e3
    obtain ⟨p4, r4, rfl, e4, k4⟩ := map_cons_ex k3
    obtain ⟨y4, rfl⟩ := kd_n e4
    obtain ⟨p5, r5, rfl, e5, k5⟩ := map_cons_ex k4
    obtain ⟨y5, rfl⟩ := kd_n e5
    obtain ⟨p6, r6, rfl, e6, k6⟩ := map_cons_ex k5
    obtain ⟨y6, rfl⟩ := kd_b e6
    obtain rfl := map_nil_ex k6
    obtain ⟨cs, rfl, hp⟩ := hv
    obtain ⟨a1, b1, rfl, g1, hp⟩ := hp
    obtain rfl := g1
    obtain ⟨a2, b2, rfl, g2, hp⟩ := hp
    obtain rfl := g2
    obtain ⟨a3, b3, rfl, g3, hp⟩ := hp
    obtain rfl := g3
    obtain ⟨a4, b4, rfl, g4, hp⟩ := hp
    obtain rfl := g4
    obtain ⟨a5, b5, rfl, g5, hp⟩ := hp
    obtain rfl := g5
    obtain ⟨a6, b6, rfl, g6, hp⟩ := hp
    obtain ⟨v6, rfl, hb6, ho6⟩ := g6
    obtain rfl : _ = [] := hp
    exact msgValue_19 F y1 y2 y3 y4 y5 y6 v6 w (show PtOk (.s y1) from hok _ (by simp)) (show PtOk (.s y2) from hok _ (by simp)) (show PtOk (.n y3) from hok _ (by simp)) (show PtOk (.n y4) from hok _ (by simp)) (show PtOk (.n y5) from hok _ (by simp)) hb6 (show PtOk (.b y6) from hok _ (by simp))
  · have k0 : pts.map kdOf = [.s, .n, .n, .t, .i, .b] := hk
    clear hk
    obtain ⟨p1, r1, rfl, e1, k1⟩ := map_cons_ex k0
    obtain ⟨y1, rfl⟩ := kd_s e1
    obtain ⟨p2, r2, rfl, e2, k2⟩ := map_cons_ex k1
    obtain ⟨y2, rfl⟩ := kd_n e2
    obtain ⟨p3, r3, rfl, e3, k3⟩ := map_cons_ex k2
    obtain ⟨y3, rfl⟩ := kd_n e3
    obtain ⟨p4, r4, rfl, e4, k4⟩ := map_cons_ex k3
    obtain ⟨y4, rfl⟩ := kd_t e4
    obtain ⟨p5, r5, rfl, e5, k5⟩ := map_cons_ex k4
    obtain ⟨y5, rfl⟩ := kd_i e5
    obtain ⟨p6, r6, rfl, e6, k6⟩ := map_cons_ex k5
    obtain ⟨y6, rfl⟩ := kd_b e6
    obtain rfl := map_nil_ex k6
    obtain ⟨cs, rfl, hp⟩ := hv
    obtain ⟨a1, b1, rfl, g1, hp⟩ := hp
    obtain rfl := g1
    obtain ⟨a2, b2, rfl, g2, hp⟩ := hp
    obtain rfl := g2
    obtain ⟨a3, b3, rfl, g3, hp⟩ := hp
    obtain rfl := g3
    obtain ⟨a4, b4, rfl, g4, hp⟩ := hp
    obtain rfl := g4
    obtain ⟨a5, b5, rfl, g5, hp⟩ := hp
    obtain ⟨v5, rfl, hb5, ho5⟩ := g5
    obtain ⟨a6, b6, rfl, g6, hp⟩ := hp
    obtain ⟨v6, rfl, hb6, ho6⟩ := g6
    obtain rfl : _ = [] := hp
    exact msgValue_20 F y1 y2 y3 y4 y5.1 y5.2 v5 y6 v6 w (show PtOk (.s y1) from hok _ (by simp)) (show PtOk (.n y2) from hok _ (by simp)) (show PtOk (.n y3) from hok _ (by simp)) hb5 (show PtOk (.i y5) from hok _ (by simp)) hb6 (show PtOk (.b y6) from hok _ (by simp))
  · have k0 : pts.map kdOf = [.s, .b] := hk
    clear hk
    obtain ⟨p1, r1, rfl, e1, k1⟩ := map_cons_ex k0
    obtain ⟨y1, rfl⟩ := kd_s e1
    obtain ⟨p2, r2, rfl, e2, k2⟩ := map_cons_ex k1
    obtain ⟨y2, rfl⟩ := kd_b e2
    obtain rfl := map_nil_ex k2
    obtain ⟨cs, rfl, hp⟩ := hv
    obtain ⟨a1, b1, rfl, g1, hp⟩ := hp
    obtain rfl := g1
    obtain ⟨a2, b2, rfl, g2, hp⟩ := hp
    obtain ⟨v2, rfl, hb2, ho2⟩ := g2
    obtain rfl : _ = [] := hp
    exact msgValue_21 F y1 y2 v2 w (show PtOk (.s y1) from hok _ (by simp)) hb2 (show PtOk (.b y2) from hok _ (by simp))
  · have k0 : pts.map kdOf = [.s, .n, .n] := hk
    clear hk
    obtain ⟨p1, r1, rfl, e1, k1⟩ := map_cons_ex k0
    obtain ⟨y1, rfl⟩ := kd_s e1
    obtain ⟨p2, r2, rfl, e2, k2⟩ := map_cons_ex k1
    obtain ⟨y2, rfl⟩ := kd_n e2
    obtain ⟨p3, r3, rfl, e3, k3⟩ := map_cons_ex k2
    obtain ⟨y3, rfl⟩ := kd_n e3
    obtain rfl := map_nil_ex k3
    obtain ⟨cs, rfl, hp⟩ := hv
    obtain ⟨a1, b1, rfl, g1, hp⟩ := hp
    obtain rfl := g1
    obtain ⟨a2, b2, rfl, g2, hp⟩ := hp
    obtain rfl := g2
    obtain ⟨a3, b3, rfl, g3, hp⟩ := hp
    obtain rfl := g3
    obtain rfl : _ = [] := hp
    exact msgValue_22 F y1 y2 y3 w (show PtOk (.s y1) from hok _ (by simp)) (show PtOk (.n y2) from hok _ (by simp)) (show PtOk (.n y3) from hok _ (by simp))
def NoMsg (v : Value) : Prop := NotT 54 v ∧ NotT 56 v ∧ NotT 59 v ∧ NotT 60 v ∧ NotT 62 v ∧ NotT 64 v ∧ NotT 66 v ∧ NotT 68 v ∧ NotT 70 v ∧ NotT 72 v ∧ NotT 74 v ∧ NotT 76 v
set_option maxHeartbeats 4000000 in
set_option maxRecDepth 100000 in
theorem msgValue_none (v : Value) (w : World) (h : NoMsg v) : Calls Try.prog 10 #[v] w (VlRes w .zero false) := by
  obtain ⟨h11, h12, h13, h14, h15, h16, h17, h18, h19, h20, h21, h22⟩ := h
  obtain ⟨z11, hta11⟩ : ∃ z, ∀ W, (Instr.typeAssert v 20 54 true).run Try.prog W = .ok (.tuple #[z, .bool false]) W := ⟨_, fun W => ta_not _ _ _ _ (by kernel_rfl) zero_11 h11 W⟩
  obtain ⟨z12, hta12⟩ : ∃ z, ∀ W, (Instr.typeAssert v 20 56 true).run Try.prog W = .ok (.tuple #[z, .bool false]) W := ⟨_, fun W => ta_not _ _ _ _ (by kernel_rfl) zero_12 h12 W⟩
  obtain ⟨z13, hta13⟩ : ∃ z, ∀ W, (Instr.typeAssert v 20 59 true).run Try.prog W = .ok (.tuple #[z, .bool false]) W := ⟨_, fun W => ta_not _ _ _ _ (by kernel_rfl) zero_13 h13 W⟩
  obtain ⟨z14, hta14⟩ : ∃ z, ∀ W, (Instr.typeAssert v 20 60 true).run Try.prog W = .ok (.tuple #[z, .bool false]) W := ⟨_, fun W => ta_not _ _ _ _ (by kernel_rfl) zero_14 h14 W⟩
  obtain ⟨z15, hta15⟩ : ∃ z, ∀ W, (Instr.typeAssert v 20 62 true).run Try.prog W = .ok (.tuple #[z, .bool false]) W := ⟨_, fun W => ta_not _ _ _ _ (by kernel_rfl) zero_15 h15 W⟩
  obtain ⟨z16, hta16⟩ : ∃ z, ∀ W, (Instr.typeAssert v 20 64 true).run Try.prog W = .ok (.tuple #[z, .bool false]) W := ⟨_, fun W => ta_not _ _ _ _ (by kernel_rfl) zero_16 h16 W⟩
  obtain ⟨z17, hta17⟩ : ∃ z, ∀ W, (Instr.typeAssert v 20 66 true).run Try.prog W = .ok (.tuple #[z, .bool false]) W := ⟨_, fun W => ta_not _ _ _ _ (by kernel_rfl) zero_17 h17 W⟩
  obtain ⟨z18, hta18⟩ : ∃ z, ∀ W, (Instr.typeAssert v 20 68 true).run Try.prog W = .ok (.tuple #[z, .bool false]) W := ⟨_, fun W => ta_not _ _ _ _ (by kernel_rfl) zero_18 h18 W⟩
  obtain ⟨z19, hta19⟩ : ∃ z, ∀ W, (Instr.typeAssert v 20 70 true).run Try.prog W = .ok (.tuple #[z, .bool false]) W := ⟨_, fun W => ta_not _ _ _ _ (by kernel_rfl) zero_19 h19 W⟩
  obtain ⟨z20, hta20⟩ : ∃ z, ∀ W, (Instr.typeAssert v 20 72 true).run Try.prog W = .ok (.tuple #[z, .bool false]) W := ⟨_, fun W => ta_not _ _ _ _ (by kernel_rfl) zero_20 h20 W⟩
  obtain ⟨z21, hta21⟩ : ∃ z, ∀ W, (Instr.typeAssert v 20 74 true).run Try.prog W = .ok (.tuple #[z, .bool false]) W := ⟨_, fun W => ta_not _ _ _ _ (by kernel_rfl) zero_21 h21 W⟩
  obtain ⟨z22, hta22⟩ : ∃ z, ∀ W, (Instr.typeAssert v 20 76 true).run Try.prog W = .ok (.tuple #[z, .bool false]) W := ⟨_, fun W => ta_not _ _ _ _ (by kernel_rfl) zero_22 h22 W⟩
  clear h11 h12 h13 h14 h15 h16 h17 h18 h19 h20 h21 h22
  go_enter Try.func10, Try.ntmps10
  go_wp2_with fail
  have hb := Blk.new w zs5 38
  exact bodyPost_ret (results_agg_tmp rfl aggDer rfl (cs := zs5) rfl hb.cellsAll) rfl ⟨zs5, rfl, TvF.zero _ _, (Below.refl _ _).alloc (Nat.le_refl _) _⟩
def kdcB : List UInt8 := [107, 100, 99]
def ToRes (w : World) (l : List UInt8) (e : Ending) (w' : World) : Prop := e = .returned (.string (tx l)) ∧ Below w.heap.size w w'
set_option maxHeartbeats 1000000 in
set_option maxRecDepth 100000 in
theorem msgTo_11 (y1 : List UInt8) (y2 : Int) (y3 : Int) (a4 : Option Addr) (n4 c4 : Nat) (w : World) : Calls Try.prog 14 #[.iface 54 (.agg #[.string (tx y1), .int .i64 y2, .int .i64 y3, .slice a4 n4 c4])] w (ToRes w kdcB) := by
  obtain ⟨z12, hta12⟩ := tan 56 54 (.agg #[.string (tx y1), .int .i64 y2, .int .i64 y3, .slice a4 n4 c4]) zero_12 (by kernel_rfl) (by decide)
  obtain ⟨z13, hta13⟩ := tan 59 54 (.agg #[.string (tx y1), .int .i64 y2, .int .i64 y3, .slice a4 n4 c4]) zero_13 (by kernel_rfl) (by decide)
  obtain ⟨z14, hta14⟩ := tan 60 54 (.agg #[.string (tx y1), .int .i64 y2, .int .i64 y3, .slice a4 n4 c4]) zero_14 (by kernel_rfl) (by decide)
  obtain ⟨z15, hta15⟩ := tan 62 54 (.agg #[.string (tx y1), .int .i64 y2, .int .i64 y3, .slice a4 n4 c4]) zero_15 (by kernel_rfl) (by decide)
  obtain ⟨z16, hta16⟩ := tan 64 54 (.agg #[.string (tx y1), .int .i64 y2, .int .i64 y3, .slice a4 n4 c4]) zero_16 (by kernel_rfl) (by decide)
  obtain ⟨z17, hta17⟩ := tan 66 54 (.agg #[.string (tx y1), .int .i64 y2, .int .i64 y3, .slice a4 n4 c4]) zero_17 (by kernel_rfl) (by decide)
  obtain ⟨z18, hta18⟩ := tan 68 54 (.agg #[.string (tx y1), .int .i64 y2, .int .i64 y3, .slice a4 n4 c4]) zero_18 (by kernel_rfl) (by decide)
  obtain ⟨z19, hta19⟩ := tan 70 54 (.agg #[.string (tx y1), .int .i64 y2, .int .i64 y3, .slice a4 n4 c4]) zero_19 (by kernel_rfl) (by decide)
  obtain ⟨z20, hta20⟩ := tan 72 54 (.agg #[.string (tx y1), .int .i64 y2, .int .i64 y3, .slice a4 n4 c4]) zero_20 (by kernel_rfl) (by decide)
  obtain ⟨z21, hta21⟩ := tan 74 54 (.agg #[.string (tx y1), .int .i64 y2, .int .i64 y3, .slice a4 n4 c4]) zero_21 (by kernel_rfl) (by decide)
  obtain ⟨z22, hta22⟩ := tan 76 54 (.agg #[.string (tx y1), .int .i64 y2, .int .i64 y3, .slice a4 n4 c4]) zero_22 (by kernel_rfl) (by decide)
  have hta : ∀ W, (Instr.typeAssert (.iface 54 (.agg #[.string (tx y1), .int .i64 y2, .int .i64 y3, .slice a4 n4 c4])) 20 54 true).run Try.prog W = .ok (.tuple #[.agg #[.string (tx y1), .int .i64 y2, .int .i64 y3, .slice a4 n4 c4], .bool true]) W := fun W => ta_is _ _ _ (by kernel_rfl) W
  go_enter Try.func14, Try.ntmps14
  go_wp2_with fail
  go_ret
  exact ⟨rfl, Below.refl _ _⟩
set_option maxHeartbeats 1000000 in
set_option maxRecDepth 100000 in
theorem msgTo_15 (y1 : List UInt8) (y2 : List UInt8) (y3 : Int) (w : World) : Calls Try.prog 14 #[.iface 62 (.agg #[.string (tx y1), .string (tx y2), .int .i64 y3])] w (ToRes w y2) := by
  obtain ⟨z11, hta11⟩ := tan 54 62 (.agg #[.string (tx y1), .string (tx y2), .int .i64 y3]) zero_11 (by kernel_rfl) (by decide)
  obtain ⟨z12, hta12⟩ := tan 56 62 (.agg #[.string (tx y1), .string (tx y2), .int .i64 y3]) zero_12 (by kernel_rfl) (by decide)
  obtain ⟨z13, hta13⟩ := tan 59 62 (.agg #[.string (tx y1), .string (tx y2), .int .i64 y3]) zero_13 (by kernel_rfl) (by decide)
  obtain ⟨z14, hta14⟩ := tan 60 62 (.agg #[.string (tx y1), .string (tx y2), .int .i64 y3]) zero_14 (by kernel_rfl) (by decide)
  obtain ⟨z16, hta16⟩ := tan 64 62 (.agg #[.string (tx y1), .string (tx y2), .int .i64 y3]) zero_16 (by kernel_rfl) (by decide)
  obtain ⟨z17, hta17⟩ := tan 66 62 (.agg #[.string (tx y1), .string (tx y2), .int .i64 y3]) zero_17 (by kernel_rfl) (by decide)
  obtain ⟨z18, hta18⟩ := tan 68 62 (.agg #[.string (tx y1), .string (tx y2), .int .i64 y3]) zero_18 (by kernel_rfl) (by decide)
  obtain ⟨z19, hta19⟩ := tan 70 62 (.agg #[.string (tx y1), .string (tx y2), .int .i64 y3]) zero_19 (by kernel_rfl) (by decide)
  obtain ⟨z20, hta20⟩ := tan 72 62 (.agg #[.string (tx y1), .string (tx y2), .int .i64 y3]) zero_20 (by kernel_rfl) (by decide)
  obtain ⟨z21, hta21⟩ := tan 74 62 (.agg #[.string (tx y1), .string (tx y2), .int .i64 y3]) zero_21 (by kernel_rfl) (by decide)
  obtain ⟨z22, hta22⟩ := tan 76 62 (.agg #[.string (tx y1), .string (tx y2), .int .i64 y3]) zero_22 (by kernel_rfl) (by decide)
  have hta : ∀ W, (Instr.typeAssert (.iface 62 (.agg #[.string (tx y1), .string (tx y2), .int .i64 y3])) 20 62 true).run Try.prog W = .ok (.tuple #[.agg #[.string (tx y1), .string (tx y2), .int .i64 y3], .bool true]) W := fun W => ta_is _ _ _ (by kernel_rfl) W
  go_enter Try.func14, Try.ntmps14
  go_wp2_with fail
  go_ret
  exact ⟨rfl, (Below.refl _ _).alloc (Nat.le_refl _) _⟩
set_option maxHeartbeats 1000000 in
set_option maxRecDepth 100000 in
theorem msgTo_none (v : Value) (w : World) (h : NoMsg v) : Calls Try.prog 14 #[v] w (ToRes w []) := by
  obtain ⟨h11, h12, h13, h14, h15, h16, h17, h18, h19, h20, h21, h22⟩ := h
  obtain ⟨z11, hta11⟩ : ∃ z, ∀ W, (Instr.typeAssert v 20 54 true).run Try.prog W = .ok (.tuple #[z, .bool false]) W := ⟨_, fun W => ta_not _ _ _ _ (by kernel_rfl) zero_11 h11 W⟩
  obtain ⟨z12, hta12⟩ : ∃ z, ∀ W, (Instr.typeAssert v 20 56 true).run Try.prog W = .ok (.tuple #[z, .bool false]) W := ⟨_, fun W => ta_not _ _ _ _ (by kernel_rfl) zero_12 h12 W⟩
  obtain ⟨z13, hta13⟩ : ∃ z, ∀ W, (Instr.typeAssert v 20 59 true).run Try.prog W = .ok (.tuple #[z, .bool false]) W := ⟨_, fun W => ta_not _ _ _ _ (by kernel_rfl) zero_13 h13 W⟩
  obtain ⟨z14, hta14⟩ : ∃ z, ∀ W, (Instr.typeAssert v 20 60 true).run Try.prog W = .ok (.tuple #[z, .bool false]) W := ⟨_, fun W => ta_not _ _ _ _ (by kernel_rfl) zero_14 h14 W⟩
  obtain ⟨z15, hta15⟩ : ∃ z, ∀ W, (Instr.typeAssert v 20 62 true).run Try.prog W = .ok (.tuple #[z, .bool false]) W := ⟨_, fun W => ta_not _ _ _ _ (by kernel_rfl) zero_15 h15 W⟩
  obtain ⟨z16, hta16⟩ : ∃ z, ∀ W, (Instr.typeAssert v 20 64 true).run Try.prog W = .ok (.tuple #[z, .bool false]) W := ⟨_, fun W => ta_not _ _ _ _ (by kernel_rfl) zero_16 h16 W⟩
  obtain ⟨z17, hta17⟩ : ∃ z, ∀ W, (Instr.typeAssert v 20 66 true).run Try.prog W = .ok (.tuple #[z, .bool false]) W := ⟨_, fun W => ta_not _ _ _ _ (by kernel_rfl) zero_17 h17 W⟩
  obtain ⟨z18, hta18⟩ : ∃ z, ∀ W, (Instr.typeAssert v 20 68 true).run Try.prog W = .ok (.tuple #[z, .bool false]) W := ⟨_, fun W => ta_not _ _ _ _ (by kernel_rfl) zero_18 h18 W⟩
  obtain ⟨z19, hta19⟩ : ∃ z, ∀ W, (Instr.typeAssert v 20 70 true).run Try.prog W = .ok (.tuple #[z, .bool false]) W := ⟨_, fun W => ta_not _ _ _ _ (by kernel_rfl) zero_19 h19 W⟩
  obtain ⟨z20, hta20⟩ : ∃ z, ∀ W, (Instr.typeAssert v 20 72 true).run Try.prog W = .ok (.tuple #[z, .bool false]) W := ⟨_, fun W => ta_not _ _ _ _ (by kernel_rfl) zero_20 h20 W⟩
  obtain ⟨z21, hta21⟩ : ∃ z, ∀ W, (Instr.typeAssert v 20 74 true).run Try.prog W = .ok (.tuple #[z, .bool false]) W := ⟨_, fun W => ta_not _ _ _ _ (by kernel_rfl) zero_21 h21 W⟩
  obtain ⟨z22, hta22⟩ : ∃ z, ∀ W, (Instr.typeAssert v 20 76 true).run Try.prog W = .ok (.tuple #[z, .bool false]) W := ⟨_, fun W => ta_not _ _ _ _ (by kernel_rfl) zero_22 h22 W⟩
  clear h11 h12 h13 h14 h15 h16 h17 h18 h19 h20 h21 h22
  go_enter Try.func14, Try.ntmps14
  go_wp2_with fail
  go_ret
  exact ⟨rfl, Below.refl _ _⟩
def OutM (w : World) (F : Nat → Prop) (x : Tv) (o : Value) (rem : List Tv) (bad bad2 : Bool) : Prop :=
  if (shapeS x.tag).isEmpty = true then o = .nilIface else ∃ pts, runS (shapeS x.tag) (x.l, false, false) = (pts, rem, bad, bad2) ∧ MsgV w F x.tag pts o
def OfM (w : World) (F : Nat → Prop) (x : Tv) (e : Ending) (w' : World) : Prop :=
  ∃ r, e = .returned (.tuple #[r, .bool (ofS x).isSome]) ∧ Below w.heap.size w w' ∧ (match ofS x with | some l => MsgV w' F x.tag l r | none => r = .nilIface)
theorem OutM.ofS {w : World} {F : Nat → Prop} {x : Tv} {o : Value} {rem : List Tv} {bad bad2 : Bool} (h : OutM w F x o rem bad bad2) :
    (∃ pts, Go.Proofs.Ytpjkidcfidmfaaa.ofS x = some pts ∧ MsgV w F x.tag pts o) ∨ (¬ (x.kind = 2 ∧ o ≠ .nilIface ∧ bad2 = false ∧ (!bad && rem.isEmpty) = true) ∧ Go.Proofs.Ytpjkidcfidmfaaa.ofS x = none) := by
  unfold OutM at h
  split at h
  · rename_i he
    refine .inr ⟨fun hc => hc.2.1 h, ?_⟩
    unfold Go.Proofs.Ytpjkidcfidmfaaa.ofS
    rw [if_neg (fun hc => by rw [he] at hc; simp at hc)]
  · rename_i he
    obtain ⟨pts, hr, hm⟩ := h
    by_cases hc : x.kind = 2 ∧ bad2 = false ∧ bad = false ∧ rem.isEmpty = true
    · refine .inl ⟨pts, ?_, hm⟩
      unfold Go.Proofs.Ytpjkidcfidmfaaa.ofS
      rw [if_pos ⟨hc.1, by simpa using he, by rw [hr]; exact hc.2.1, by rw [hr]; exact hc.2.2.1, by rw [hr]; exact hc.2.2.2⟩, hr]
    · refine .inr ⟨fun h2 => hc ⟨h2.1, h2.2.2.1, by have := h2.2.2.2; simp only [Bool.and_eq_true, Bool.not_eq_true'] at this; exact this⟩, ?_⟩
      unfold Go.Proofs.Ytpjkidcfidmfaaa.ofS
      rw [if_neg (fun h2 => hc ⟨h2.1, by have := h2.2.2.1; rw [hr] at this; exact this, by have := h2.2.2.2.1; rw [hr] at this; exact this, by have := h2.2.2.2.2; rw [hr] at this; exact this⟩)]
theorem OutM.shape {w : World} {F : Nat → Prop} {x : Tv} {o : Value} {rem : List Tv} {bad bad2 : Bool} (h : OutM w F x o rem bad bad2) : o = .nilIface ∨ ∃ U y, o = .iface U y := by
  unfold OutM at h
  split at h
  · exact .inl h
  · obtain ⟨pts, _, cs, e, _⟩ := h
    exact .inr ⟨_, _, e⟩
theorem OutM.no {w wx : World} {F : Nat → Prop} {x : Tv} {o : Value} {rem : List Tv} {bad bad2 : Bool} (ho : OutM wx F x o rem bad bad2) (hb : BelowO w wx) (hn : ¬ (x.kind = 2 ∧ o ≠ .nilIface ∧ bad2 = false ∧ (!bad && rem.isEmpty) = true)) :
    OfM w F x (.returned (.tuple #[.nilIface, .bool false])) wx := by
  rcases ho.ofS with ⟨pts, e, hm⟩ | ⟨_, e⟩
  · exfalso
    refine hn ?_
    unfold Go.Proofs.Ytpjkidcfidmfaaa.ofS at e
    split at e
    · rename_i hc
      have ho' := ho
      unfold OutM at ho'
      rw [if_neg (by rw [hc.2.1]; decide)] at ho'
      obtain ⟨pts', hr, cs', e', _⟩ := ho'
      rw [hr] at hc
      exact ⟨hc.1, by rw [e']; simp, hc.2.2.1, by have h1 : bad = false := hc.2.2.2.1; have h2 : rem.isEmpty = true := hc.2.2.2.2; rw [h1, h2]; rfl⟩
    · cases e
  · exact ⟨_, by rw [e]; rfl, hb, by rw [e]⟩
theorem OutM.yes {w wx : World} {F : Nat → Prop} {x : Tv} {o : Value} {rem : List Tv} {bad bad2 : Bool} (ho : OutM wx F x o rem bad bad2) (hb : BelowO w wx) (h1 : x.kind = 2) (h2 : o ≠ .nilIface) (h3 : bad2 = false) (h4 : (!bad && rem.isEmpty) = true) :
    OfM w F x (.returned (.tuple #[o, .bool true])) wx := by
  rcases ho.ofS with ⟨pts, e, hm⟩ | ⟨hn, e⟩
  · exact ⟨o, by rw [e]; rfl, hb, by rw [e]; exact hm⟩
  · exact absurd ⟨h1, h2, h3, h4⟩ hn
set_option maxHeartbeats 16000000 in
set_option maxRecDepth 100000 in
theorem msgOf_0 (x : Tv) (F : Nat → Prop) (cs : List Value) (w : World) (h : TvF w F x cs) (hF : ∀ b, F b → b < w.heap.size) (hL : Lw x) (htag : x.tag ≠ 11 ∧ x.tag ≠ 12 ∧ x.tag ≠ 13 ∧ x.tag ≠ 14 ∧ x.tag ≠ 15 ∧ x.tag ≠ 16 ∧ x.tag ≠ 17 ∧ x.tag ≠ 18 ∧ x.tag ≠ 19 ∧ x.tag ≠ 20 ∧ x.tag ≠ 21 ∧ x.tag ≠ 22) :
    Calls Try.prog 19 #[.agg cs.toArray] w (OfM w F x) := by
  have HTG := hqZ htag
  clear htag
  have HLN := hqZ h.length
  have HQ0 := hqZ (Blk.new w cs 38)
  have hB0 : Below w.heap.size w (w.alloc (.cells cs.toArray 38)) := (Below.refl _ _).alloc (Nat.le_refl _) _
  have HB0 := hqZ hB0
  have HTK := hqZ (take_any x F cs _ (h.below hB0) (fun b hb => by have := hF b hb; simp; omega))
  have HL : Hid (∀ y ∈ x.l, y.l.length ≤ 1954687338211) := hqZ (fun y hy => by
    obtain ⟨k, t, n, b, l⟩ := x
    have h1 := LsW.mem hL.2 y hy
    obtain ⟨k2, t2, n2, b2, l2⟩ := y
    exact h1.1)
  have HF := hqZ hF
  obtain ⟨q, hq⟩ : ∃ q, q = w.heap.size := ⟨_, rfl⟩
  have HQ : Hid (∀ W, Below q w W → BelowO w W) := hqZ (fun W h => by rw [hq] at h; exact h)
  have hopen := h.open_
  clear h hB0 hL
  go_enter Try.func19, Try.ntmps19
  go_wp2_with ((with_reducible show wpList _ _ _ (⟨some 6, _, _, _, _, _⟩ :: _) _ _); refine wpList_ldAgg rfl (.tmp 1) aggDer rfl rfl (cs := cs) HLN.out HQ0.out.cellsAll ?_)
  refine HTK.out.mono ?_
  rintro e w0 ⟨p, rfl, ht, hb, hp⟩
  obtain ⟨bv, lv, rows, rfl, hb1, hb2, hb3, hb4, hb5⟩ := hopen
  obtain ⟨pm, hpm⟩ : ∃ pm, pm = w0.heap.size := ⟨_, rfl⟩
  have hA0 : Below w0.heap.size w0 (w0.alloc (.cells [.pointer (some ⟨p, 0, none⟩), .bool false].toArray 104)) := (Below.refl _ _).alloc (Nat.le_refl _) _
  have hpl := ht.lt
  have hz0 : w.heap.size ≤ w0.heap.size := by have := hb.size; simp at this; omega
  have ht0 : Tkn (w0.alloc (.cells [.pointer (some ⟨p, 0, none⟩), .bool false].toArray 104)) F pm p x.l false false := by
    refine ⟨by rw [hpm]; exact Blk.new _ _ _, ht.below hA0, by omega, fun h => ?_, fun b hb => ?_⟩
    · have := HF.out _ h; omega
    · have := HF.out _ hb; simp; omega
  have hq0 := (HQ0.out.below hb (by simp)).alloc (.cells [.pointer (some ⟨p, 0, none⟩), .bool false].toArray 104)
  have hbt : Below w.heap.size w (w0.alloc (.cells [.pointer (some ⟨p, 0, none⟩), .bool false].toArray 104)) := (HB0.out.trans (hb.mono (by simp))).trans (hA0.mono hz0)
  obtain ⟨wt, hwt⟩ : ∃ wt, wt = w0.alloc (.cells [.pointer (some ⟨p, 0, none⟩), .bool false].toArray 104) := ⟨_, rfl⟩
  rw [← hwt] at ht0 hq0 hbt
  have HT := hqZ ht0
  have HBT := hqZ hbt
  have HQT := hqZ hq0
  have HP : Hid (w.heap.size < p ∧ w.heap.size < pm ∧ w.heap.size < wt.heap.size) := hqZ (by simp at hp; have := ht0.lt; exact ⟨by omega, by omega, by omega⟩)
  have cT : wt.cell? ⟨w.heap.size, 1, none⟩ = some (.int .i64 x.tag) := HQT.out.cell 1
  have HKb : Hid (∀ W, Keeps (Sm pm p wt.heap.size) wt W → Below w.heap.size w W ∧ Blk W w.heap.size [.int .i64 x.kind, .int .i64 x.tag, .int .u64 (x.n : Int), bv, lv] 38) := hqZ (fun W hk =>
    ⟨HBT.out.trans (hk.below (fun b hb => by have := HP.out; rcases hb with h | h | h <;> omega)), HQT.out.keep hk (fun h => by have := HP.out; rcases h with h | h | h <;> omega)⟩)
  clear ht hb hp hb1 hb2 hb3 hb4 hb5 HQ0 HB0 HTK hA0 hpl hz0 ht0 hq0 hbt
  go_upto_region 2 with fail
  show Code.wp _ _ _ _ (w0.alloc (.cells [.pointer (some ⟨p, 0, none⟩), .bool false].toArray 104))
  rw [← hwt, ← hpm]
  clear hwt hpm
  rw [← hq] at *
  clear hq
  obtain ⟨t, hxt⟩ : ∃ t, t = x.tag := ⟨_, rfl⟩
  obtain ⟨l, hxl⟩ : ∃ l, l = x.l := ⟨_, rfl⟩
  have HXT := hqZ hxt
  have HXL := hqZ hxl
  rw [← hxt] at cT HKb HQT ⊢
  rw [← hxl] at HT HL
  clear hxt hxl
  have ho : OutM wt F x .nilIface l false false := by
    unfold OutM
    rw [if_pos]
    unfold shapeS
    obtain ⟨h11, h12, h13, h14, h15, h16, h17, h18, h19, h20, h21, h22⟩ := HTG.out
    rw [if_neg h11]; rw [if_neg h12]; rw [if_neg h13]; rw [if_neg h14]; rw [if_neg h15]; rw [if_neg h16]; rw [if_neg h17]; rw [if_neg h18]; rw [if_neg h19]; rw [if_neg h20]; rw [if_neg h21]; rw [if_neg h22]
    rfl
  have htag := HTG.out
  rw [← HXT.out] at htag
  obtain ⟨h11, h12, h13, h14, h15, h16, h17, h18, h19, h20, h21, h22⟩ := htag
  have e11 : (t == 11) = false := by simpa using h11
  have e12 : (t == 12) = false := by simpa using h12
  have e13 : (t == 13) = false := by simpa using h13
  have e14 : (t == 14) = false := by simpa using h14
  have e15 : (t == 15) = false := by simpa using h15
  have e16 : (t == 16) = false := by simpa using h16
  have e17 : (t == 17) = false := by simpa using h17
  have e18 : (t == 18) = false := by simpa using h18
  have e19 : (t == 19) = false := by simpa using h19
  have e20 : (t == 20) = false := by simpa using h20
  have e21 : (t == 21) = false := by simpa using h21
  have e22 : (t == 22) = false := by simpa using h22
  clear h11 h12 h13 h14 h15 h16 h17 h18 h19 h20 h21 h22
  have ht := HT.out
  have hk : Keeps (Sm pm p wt.heap.size) wt wt := Keeps.refl _ _
  obtain ⟨hb, hq⟩ := HKb.out _ hk
  have c0 : wt.cell? ⟨q, 0, none⟩ = some (.int .i64 x.kind) := hq.cell 0
  have m0 := ht.ptr
  have m1 : wt.cell? ⟨pm, 1, none⟩ = some (.bool false) := ht.1.cell 1
  have HX := hqZ (OutM.no ho (HQ.out _ hb))
  clear ht hk ho hb hq
  by_cases hk2 : x.kind = 2
  · have HK2 := hqZ hk2
    have hkb : (x.kind != 2) = false := by simpa using hk2
    clear hk2
    go_wp2_with fail
    go_ret2
    exact HX.out (fun h => h.2.1 rfl)
  · have hkb : (x.kind != 2) = true := by simpa using hk2
    have HK2 := hqZ hk2
    clear hk2
    go_wp2_with fail
    go_ret2
    exact HX.out (fun h => HK2.out h.1)
set_option maxHeartbeats 16000000 in
set_option maxRecDepth 100000 in
theorem msgOf_11 (x : Tv) (F : Nat → Prop) (cs : List Value) (w : World) (h : TvF w F x cs) (hF : ∀ b, F b → b < w.heap.size) (hL : Lw x) (htag : x.tag = 11) :
    Calls Try.prog 19 #[.agg cs.toArray] w (OfM w F x) := by
  have HTG := hqZ htag
  clear htag
  have HLN := hqZ h.length
  have HQ0 := hqZ (Blk.new w cs 38)
  have hB0 : Below w.heap.size w (w.alloc (.cells cs.toArray 38)) := (Below.refl _ _).alloc (Nat.le_refl _) _
  have HB0 := hqZ hB0
  have HTK := hqZ (take_any x F cs _ (h.below hB0) (fun b hb => by have := hF b hb; simp; omega))
  have HL : Hid (∀ y ∈ x.l, y.l.length ≤ 1954687338211) := hqZ (fun y hy => by
    obtain ⟨k, t, n, b, l⟩ := x
    have h1 := LsW.mem hL.2 y hy
    obtain ⟨k2, t2, n2, b2, l2⟩ := y
    exact h1.1)
  have HF := hqZ hF
  obtain ⟨q, hq⟩ : ∃ q, q = w.heap.size := ⟨_, rfl⟩
  have HQ : Hid (∀ W, Below q w W → BelowO w W) := hqZ (fun W h => by rw [hq] at h; exact h)
  have hopen := h.open_
  clear h hB0 hL
  go_enter Try.func19, Try.ntmps19
  go_wp2_with ((with_reducible show wpList _ _ _ (⟨some 6, _, _, _, _, _⟩ :: _) _ _); refine wpList_ldAgg rfl (.tmp 1) aggDer rfl rfl (cs := cs) HLN.out HQ0.out.cellsAll ?_)
  refine HTK.out.mono ?_
  rintro e w0 ⟨p, rfl, ht, hb, hp⟩
  obtain ⟨bv, lv, rows, rfl, hb1, hb2, hb3, hb4, hb5⟩ := hopen
  obtain ⟨pm, hpm⟩ : ∃ pm, pm = w0.heap.size := ⟨_, rfl⟩
  have hA0 : Below w0.heap.size w0 (w0.alloc (.cells [.pointer (some ⟨p, 0, none⟩), .bool false].toArray 104)) := (Below.refl _ _).alloc (Nat.le_refl _) _
  have hpl := ht.lt
  have hz0 : w.heap.size ≤ w0.heap.size := by have := hb.size; simp at this; omega
  have ht0 : Tkn (w0.alloc (.cells [.pointer (some ⟨p, 0, none⟩), .bool false].toArray 104)) F pm p x.l false false := by
    refine ⟨by rw [hpm]; exact Blk.new _ _ _, ht.below hA0, by omega, fun h => ?_, fun b hb => ?_⟩
    · have := HF.out _ h; omega
    · have := HF.out _ hb; simp; omega
  have hq0 := (HQ0.out.below hb (by simp)).alloc (.cells [.pointer (some ⟨p, 0, none⟩), .bool false].toArray 104)
  have hbt : Below w.heap.size w (w0.alloc (.cells [.pointer (some ⟨p, 0, none⟩), .bool false].toArray 104)) := (HB0.out.trans (hb.mono (by simp))).trans (hA0.mono hz0)
  obtain ⟨wt, hwt⟩ : ∃ wt, wt = w0.alloc (.cells [.pointer (some ⟨p, 0, none⟩), .bool false].toArray 104) := ⟨_, rfl⟩
  rw [← hwt] at ht0 hq0 hbt
  have HT := hqZ ht0
  have HBT := hqZ hbt
  have HQT := hqZ hq0
  have HP : Hid (w.heap.size < p ∧ w.heap.size < pm ∧ w.heap.size < wt.heap.size) := hqZ (by simp at hp; have := ht0.lt; exact ⟨by omega, by omega, by omega⟩)
  have cT : wt.cell? ⟨w.heap.size, 1, none⟩ = some (.int .i64 x.tag) := HQT.out.cell 1
  have HKb : Hid (∀ W, Keeps (Sm pm p wt.heap.size) wt W → Below w.heap.size w W ∧ Blk W w.heap.size [.int .i64 x.kind, .int .i64 x.tag, .int .u64 (x.n : Int), bv, lv] 38) := hqZ (fun W hk =>
    ⟨HBT.out.trans (hk.below (fun b hb => by have := HP.out; rcases hb with h | h | h <;> omega)), HQT.out.keep hk (fun h => by have := HP.out; rcases h with h | h | h <;> omega)⟩)
  clear ht hb hp hb1 hb2 hb3 hb4 hb5 HQ0 HB0 HTK hA0 hpl hz0 ht0 hq0 hbt
  go_upto_region 2 with fail
  show Code.wp _ _ _ _ (w0.alloc (.cells [.pointer (some ⟨p, 0, none⟩), .bool false].toArray 104))
  rw [← hwt, ← hpm]
  clear hwt hpm
  rw [← hq] at *
  clear hq
  have hxt : 11 = x.tag := HTG.out.symm
  obtain ⟨l, hxl⟩ : ∃ l, l = x.l := ⟨_, rfl⟩
  have HXT := hqZ hxt
  have HXL := hqZ hxl
  rw [← hxt] at cT HKb HQT ⊢
  rw [← hxl] at HT HL
  clear hxt hxl HTG
  have HOM : Hid (∀ W o pts rem bad bad2, (shapeS x.tag).isEmpty = false → runS (shapeS x.tag) (x.l, false, false) = (pts, rem, bad, bad2) → MsgV W F x.tag pts o → OutM W F x o rem bad bad2) := hqZ (fun W o pts rem bad bad2 h0 h1 h2 => by unfold OutM; rw [if_neg (by rw [h0]; decide)]; exact ⟨pts, h1, h2⟩)
  rw [← HXT.out] at HOM
  rw [← HXL.out] at HOM
  clear HXT HXL
  go_upto_region 5 with fail
  refine wp_region_held (S := fun W : World => W.cell? ⟨pm, 0, none⟩ = some (.pointer (some ⟨p, 0, none⟩))) (by kernel_rfl) ?_
  change wpAnyH _ _ _ _ _ _ _ _ (World.drew _)
  have HS : (World.drew wt).cell? ⟨pm, 0, none⟩ = some (.pointer (some ⟨p, 0, none⟩)) := HT.out.ptr
  have HT0 := hqZ HT.out.drew
  have HK0 : Hid (Keeps (Sm pm p wt.heap.size) wt wt.drew) := hqZ (Keeps.refl _ _).drew
  have HR0 : Hid (runS (shapeS 11) (l, false, false) = runS [.s, .n, .n, .b] (l, false, false)) := hqZ rfl
  have HP0 : Hid (PtsV wt.drew F [] []) := hqZ rfl
  generalize World.drew wt = wd at HS HT0 HK0 HP0 ⊢
  refine tkH 0 14 none (.pointer (some ⟨pm, 0, none⟩)) rfl (by kernel_rfl) (fun _ _ _ h => h) (by rfl) (by intro W hW; go_simp) HS ?_
  simp only [Act.put, zq1, zq2, zq3]
  refine tkH 1 15 none (.pointer (some ⟨pm, 0, none⟩)) rfl (by kernel_rfl) (fun _ _ _ h => h) (by rfl) (by intro W hW; go_simp) HS ?_
  simp only [Act.put, zq1, zq2, zq3]
  refine tkH 2 16 none (.pointer (some ⟨pm, 0, none⟩)) rfl (by kernel_rfl) (fun _ _ _ h => h) (by rfl) (by intro W hW; go_simp) HS ?_
  simp only [Act.put, zq1, zq2, zq3]
  refine tkH 3 17 none (.pointer (some ⟨p, 0, none⟩)) rfl (by kernel_rfl) (fun _ _ _ h => h) (by rfl) (by intro W hW; have hc0 : W.cell? ⟨pm, 0, none⟩ = some (.pointer (some ⟨p, 0, none⟩)) := hW; go_simp) HS ?_
  simp only [Act.put, zq1, zq2, zq3]
  refine tkH 5 19 none (.pointer (some ⟨pm, 0, none⟩)) rfl (by kernel_rfl) (fun _ _ _ h => h) (by rfl) (by intro W hW; go_simp) HS ?_
  simp only [Act.put, zq1, zq2, zq3]
  refine tkH 6 20 none (.pointer (some ⟨pm, 0, none⟩)) rfl (by kernel_rfl) (fun _ _ _ h => h) (by rfl) (by intro W hW; go_simp) HS ?_
  simp only [Act.put, zq1, zq2, zq3]
  refine tkH 7 21 none (.pointer (some ⟨pm, 0, none⟩)) rfl (by kernel_rfl) (fun _ _ _ h => h) (by rfl) (by intro W hW; go_simp) HS ?_
  simp only [Act.put, zq1, zq2, zq3]
  refine tkH 8 22 none (.pointer (some ⟨p, 0, none⟩)) rfl (by kernel_rfl) (fun _ _ _ h => h) (by rfl) (by intro W hW; have hc0 : W.cell? ⟨pm, 0, none⟩ = some (.pointer (some ⟨p, 0, none⟩)) := hW; go_simp) HS ?_
  simp only [Act.put, zq1, zq2, zq3]
  refine tkH 10 24 none (.pointer (some ⟨pm, 0, none⟩)) rfl (by kernel_rfl) (fun _ _ _ h => h) (by rfl) (by intro W hW; go_simp) HS ?_
  simp only [Act.put, zq1, zq2, zq3]
  refine tkH 11 25 none (.pointer (some ⟨pm, 0, none⟩)) rfl (by kernel_rfl) (fun _ _ _ h => h) (by rfl) (by intro W hW; go_simp) HS ?_
  simp only [Act.put, zq1, zq2, zq3]
  refine tkH 12 26 none (.pointer (some ⟨pm, 0, none⟩)) rfl (by kernel_rfl) (fun _ _ _ h => h) (by rfl) (by intro W hW; go_simp) HS ?_
  simp only [Act.put, zq1, zq2, zq3]
  refine tkH 13 27 none (.pointer (some ⟨p, 0, none⟩)) rfl (by kernel_rfl) (fun _ _ _ h => h) (by rfl) (by intro W hW; have hc0 : W.cell? ⟨pm, 0, none⟩ = some (.pointer (some ⟨p, 0, none⟩)) := hW; go_simp) HS ?_
  simp only [Act.put, zq1, zq2, zq3]
  refine tkH 15 29 none (.pointer (some ⟨pm, 0, none⟩)) rfl (by kernel_rfl) (fun _ _ _ h => h) (by rfl) (by intro W hW; go_simp) HS ?_
  simp only [Act.put, zq1, zq2, zq3]
  refine tkH 16 30 none (.pointer (some ⟨pm, 0, none⟩)) rfl (by kernel_rfl) (fun _ _ _ h => h) (by rfl) (by intro W hW; go_simp) HS ?_
  simp only [Act.put, zq1, zq2, zq3]
  refine tkH 17 31 none (.pointer (some ⟨pm, 0, none⟩)) rfl (by kernel_rfl) (fun _ _ _ h => h) (by rfl) (by intro W hW; go_simp) HS ?_
  simp only [Act.put, zq1, zq2, zq3]
  refine tkH 18 32 none (.pointer (some ⟨p, 0, none⟩)) rfl (by kernel_rfl) (fun _ _ _ h => h) (by rfl) (by intro W hW; have hc0 : W.cell? ⟨pm, 0, none⟩ = some (.pointer (some ⟨p, 0, none⟩)) := hW; go_simp) HS ?_
  simp only [Act.put, zq1, zq2, zq3]
  refine anyH_ready (rs := [4]) (by decide +kernel) (by simp) ?_
  refine AllReadyH.cons (o := { dst := some 18, op := .call { callee := .value (.func 35), args := #[.tmp 17], argTypes := #[101] }, type := _, pos := _, after := _, guard := none }) rfl (fun K hK => ?_) AllReadyH.nil
  go_simp
  refine (nameK_any l false false pm p F wd HT0.out).mono ?_
  rintro e v1 ⟨rfl, ht, hk⟩
  have HR1 : Hid (runS (shapeS 11) (l, false, false) = (.s (nameS l false).1 :: (runS [.n, .n, .b] ((nameS l false).2.1, (nameS l false).2.2, false)).1, (runS [.n, .n, .b] ((nameS l false).2.1, (nameS l false).2.2, false)).2)) := hqZ (HR0.out.trans rfl)
  have HP1 : Hid (PtsV v1 F ([] ++ [.s (nameS l false).1]) ([] ++ [.string (tx (nameS l false).1)])) := hqZ ((HP0.out.keep hk HT0.out.hs (by rfl)).snoc (p := .s (nameS l false).1) rfl)
  have HT1 := hqZ ht
  have HK1 := hqZ (keepsM rfl HK0.out (HK0.out.size) hk)
  clear ht hk HT0 HK0 HR0 HP0
  generalize nameS l false = st at *
  obtain ⟨x1, l1, b1⟩ := st
  simp only at *
  have HS := HT1.out.ptr
  refine hK _ _ HS ?_
  clear hK K
  try simp only [Act.put, zq1, zq2, zq3]
  refine anyH_ready (rs := [9]) (by decide +kernel) (by simp) ?_
  refine AllReadyH.cons (o := { dst := some 23, op := .call { callee := .value (.func 36), args := #[.tmp 22], argTypes := #[101] }, type := _, pos := _, after := _, guard := none }) rfl (fun K hK => ?_) AllReadyH.nil
  go_simp
  refine (numK_any l1 b1 false pm p F v1 HT1.out).mono ?_
  rintro e v2 ⟨rfl, ht, hk⟩
  have HR2 : Hid (runS (shapeS 11) (l, false, false) = (.s x1 :: .n (numS l1 b1).1 :: (runS [.n, .b] ((numS l1 b1).2.1, (numS l1 b1).2.2, false)).1, (runS [.n, .b] ((numS l1 b1).2.1, (numS l1 b1).2.2, false)).2)) := hqZ (HR1.out.trans rfl)
  have HP2 : Hid (PtsV v2 F ([.s x1] ++ [.n (numS l1 b1).1]) ([.string (tx x1)] ++ [.int .i64 (numS l1 b1).1])) := hqZ ((HP1.out.keep hk HT1.out.hs (by rfl)).snoc (p := .n (numS l1 b1).1) rfl)
  have HT2 := hqZ ht
  have HK2 := hqZ (keepsM rfl HK1.out (HK1.out.size) hk)
  clear ht hk HT1 HK1 HR1 HP1
  generalize numS l1 b1 = st at *
  obtain ⟨x2, l2, b2⟩ := st
  simp only at *
  have HS := HT2.out.ptr
  refine hK _ _ HS ?_
  clear hK K
  try simp only [Act.put, zq1, zq2, zq3]
  refine anyH_ready (rs := [14]) (by decide +kernel) (by simp) ?_
  refine AllReadyH.cons (o := { dst := some 28, op := .call { callee := .value (.func 36), args := #[.tmp 27], argTypes := #[101] }, type := _, pos := _, after := _, guard := none }) rfl (fun K hK => ?_) AllReadyH.nil
  go_simp
  refine (numK_any l2 b2 false pm p F v2 HT2.out).mono ?_
  rintro e v3 ⟨rfl, ht, hk⟩
  have HR3 : Hid (runS (shapeS 11) (l, false, false) = (.s x1 :: .n x2 :: .n (numS l2 b2).1 :: (runS [.b] ((numS l2 b2).2.1, (numS l2 b2).2.2, false)).1, (runS [.b] ((numS l2 b2).2.1, (numS l2 b2).2.2, false)).2)) := hqZ (HR2.out.trans rfl)
  have HP3 : Hid (PtsV v3 F ([.s x1, .n x2] ++ [.n (numS l2 b2).1]) ([.string (tx x1), .int .i64 x2] ++ [.int .i64 (numS l2 b2).1])) := hqZ ((HP2.out.keep hk HT2.out.hs (by rfl)).snoc (p := .n (numS l2 b2).1) rfl)
  have HT3 := hqZ ht
  have HK3 := hqZ (keepsM rfl HK2.out (HK2.out.size) hk)
  clear ht hk HT2 HK2 HR2 HP2
  generalize numS l2 b2 = st at *
  obtain ⟨x3, l3, b3⟩ := st
  simp only at *
  have HS := HT3.out.ptr
  refine hK _ _ HS ?_
  clear hK K
  try simp only [Act.put, zq1, zq2, zq3]
  refine anyH_ready (rs := [19]) (by decide +kernel) (by simp) ?_
  refine AllReadyH.cons (o := { dst := some 33, op := .call { callee := .value (.func 37), args := #[.tmp 32], argTypes := #[101] }, type := _, pos := _, after := _, guard := none }) rfl (fun K hK => ?_) AllReadyH.nil
  go_simp
  refine (bytesK_any l3 b3 false pm p F v3 HT3.out).mono ?_
  rintro e v4 ⟨vb, ⟨rfl, ht, hk⟩, hb, ho⟩
  have HR4 : Hid (runS (shapeS 11) (l, false, false) = (.s x1 :: .n x2 :: .n x3 :: .b (bytesS l3 b3).1 :: (runS [] ((bytesS l3 b3).2.1, (bytesS l3 b3).2.2, false)).1, (runS [] ((bytesS l3 b3).2.1, (bytesS l3 b3).2.2, false)).2)) := hqZ (HR3.out.trans rfl)
  obtain ⟨ab4, cb4, rfl, hcb4, hmb4⟩ := hb.form
  have HP4 : Hid (PtsV v4 F ([.s x1, .n x2, .n x3] ++ [.b (bytesS l3 b3).1]) ([.string (tx x1), .int .i64 x2, .int .i64 x3] ++ [.slice ab4 (bytesS l3 b3).1.length cb4])) := hqZ ((HP3.out.keep hk HT3.out.hs (by rfl)).snoc (p := .b (bytesS l3 b3).1) ⟨_, rfl, hb, ho⟩)
  have HT4 := hqZ ht
  have HK4 := hqZ (keepsM rfl HK3.out (HK3.out.size) hk)
  clear ht hk hb ho HT3 HK3 HR3 HP3
  generalize bytesS l3 b3 = st at *
  obtain ⟨x4, l4, b4⟩ := st
  simp only at *
  generalize hz4 : x4.length = z4 at *
  have HS := HT4.out.ptr
  refine hK _ _ HS ?_
  clear hK K
  try simp only [Act.put, zq1, zq2, zq3]
  refine tkH 20 34 none (.agg #[.string (tx x1), .int .i64 x2, .int .i64 x3, .slice ab4 z4 cb4]) rfl (by kernel_rfl) (fun _ _ _ h => h) (by rfl) (by intro W hW; go_simp) HS ?_
  simp only [Act.put, zq1, zq2, zq3]
  refine tkH 21 35 none (.iface 54 (.agg #[.string (tx x1), .int .i64 x2, .int .i64 x3, .slice ab4 z4 cb4])) rfl (by kernel_rfl) (fun _ _ _ h => h) (by rfl) (by intro W hW; go_simp) HS ?_
  simp only [Act.put, zq1, zq2, zq3]
  refine tkH 22 5 none (.iface 54 (.agg #[.string (tx x1), .int .i64 x2, .int .i64 x3, .slice ab4 z4 cb4])) rfl (by kernel_rfl) (fun _ _ _ h => h) (by rfl) (by intro W hW; go_simp) HS ?_
  simp only [Act.put, zq1, zq2, zq3]
  refine wpAnyH_done (by decide +kernel) ?_ _
  have ho := HOM.out _ _ _ _ _ _ (by decide) HR4.out ⟨_, rfl, HP4.out⟩
  have ht := HT4.out
  have hk := HK4.out
  obtain ⟨hb, hq⟩ := HKb.out _ hk
  have c0 : v4.cell? ⟨q, 0, none⟩ = some (.int .i64 x.kind) := hq.cell 0
  have m0 := ht.ptr
  have m1 : v4.cell? ⟨pm, 1, none⟩ = some (.bool false) := ht.1.cell 1
  have HX := hqZ (OutM.no ho (HQ.out _ hb))
  have HY := hqZ (OutM.yes ho (HQ.out _ hb))
  have HD := hqZ (done_any l4 b4 p F v4 ht.2.1)
  clear ht hk ho hb hq
  by_cases hk2 : x.kind = 2
  · have HK2 := hqZ hk2
    have hkb : (x.kind != 2) = false := by simpa using hk2
    clear hk2
    generalize hdn : (!b4 && l4.isEmpty) = dn at *
    clear hdn
    go_wp2_with fail
    refine HD.out.mono ?_
    rintro e w2 ⟨rfl, rfl⟩
    cases dn with
    | true =>
      go_wp2_with fail
      go_ret2
      exact HY.out HK2.out (by simp) (by first | rfl | trivial) (by first | rfl | trivial)
    | false =>
      go_wp2_with fail
      go_ret2
      exact HX.out (fun h => by simp at h)
  · have hkb : (x.kind != 2) = true := by simpa using hk2
    have HK2 := hqZ hk2
    clear hk2
    go_wp2_with fail
    go_ret2
    exact HX.out (fun h => HK2.out h.1)
set_option maxHeartbeats 16000000 in
set_option maxRecDepth 100000 in
theorem msgOf_12 (x : Tv) (F : Nat → Prop) (cs : List Value) (w : World) (h : TvF w F x cs) (hF : ∀ b, F b → b < w.heap.size) (hL : Lw x) (htag : x.tag = 12) :
    Calls Try.prog 19 #[.agg cs.toArray] w (OfM w F x) := by
  have HTG := hqZ htag
  clear htag
  have HLN := hqZ h.length
  have HQ0 := hqZ (Blk.new w cs 38)
  have hB0 : Below w.heap.size w (w.alloc (.cells cs.toArray 38)) := (Below.refl _ _).alloc (Nat.le_refl _) _
  have HB0 := hqZ hB0
  have HTK := hqZ (take_any x F cs _ (h.below hB0) (fun b hb => by have := hF b hb; simp; omega))
  have HL : Hid (∀ y ∈ x.l, y.l.length ≤ 1954687338211) := hqZ (fun y hy => by
    obtain ⟨k, t, n, b, l⟩ := x
    have h1 := LsW.mem hL.2 y hy
    obtain ⟨k2, t2, n2, b2, l2⟩ := y
    exact h1.1)
  have HF := hqZ hF
  obtain ⟨q, hq⟩ : ∃ q, q = w.heap.size := ⟨_, rfl⟩
  have HQ : Hid (∀ W, Below q w W → BelowO w W) := hqZ (fun W h => by rw [hq] at h; exact h)
  have hopen := h.open_
  clear h hB0 hL
  go_enter Try.func19, Try.ntmps19
  go_wp2_with ((with_reducible show wpList _ _ _ (⟨some 6, _, _, _, _, _⟩ :: _) _ _); refine wpList_ldAgg rfl (.tmp 1) aggDer rfl rfl (cs := cs) HLN.out HQ0.out.cellsAll ?_)
  refine HTK.out.mono ?_
  rintro e w0 ⟨p, rfl, ht, hb, hp⟩
  obtain ⟨bv, lv, rows, rfl, hb1, hb2, hb3, hb4, hb5⟩ := hopen
  obtain ⟨pm, hpm⟩ : ∃ pm, pm = w0.heap.size := ⟨_, rfl⟩
  have hA0 : Below w0.heap.size w0 (w0.alloc (.cells [.pointer (some ⟨p, 0, none⟩), .bool false].toArray 104)) := (Below.refl _ _).alloc (Nat.le_refl _) _
  have hpl := ht.lt
  have hz0 : w.heap.size ≤ w0.heap.size := by have := hb.size; simp at this; omega
  have ht0 : Tkn (w0.alloc (.cells [.pointer (some ⟨p, 0, none⟩), .bool false].toArray 104)) F pm p x.l false false := by
    refine ⟨by rw [hpm]; exact Blk.new _ _ _, ht.below hA0, by omega, fun h => ?_, fun b hb => ?_⟩
    · have := HF.out _ h; omega
    · have := HF.out _ hb; simp; omega
  have hq0 := (HQ0.out.below hb (by simp)).alloc (.cells [.pointer (some ⟨p, 0, none⟩), .bool false].toArray 104)
  have hbt : Below w.heap.size w (w0.alloc (.cells [.pointer (some ⟨p, 0, none⟩), .bool false].toArray 104)) := (HB0.out.trans (hb.mono (by simp))).trans (hA0.mono hz0)
  obtain ⟨wt, hwt⟩ : ∃ wt, wt = w0.alloc (.cells [.pointer (some ⟨p, 0, none⟩), .bool false].toArray 104) := ⟨_, rfl⟩
  rw [← hwt] at ht0 hq0 hbt
  have HT := hqZ ht0
  have HBT := hqZ hbt
  have HQT := hqZ hq0
  have HP : Hid (w.heap.size < p ∧ w.heap.size < pm ∧ w.heap.size < wt.heap.size) := hqZ (by simp at hp; have := ht0.lt; exact ⟨by omega, by omega, by omega⟩)
  have cT : wt.cell? ⟨w.heap.size, 1, none⟩ = some (.int .i64 x.tag) := HQT.out.cell 1
  have HKb : Hid (∀ W, Keeps (Sm pm p wt.heap.size) wt W → Below w.heap.size w W ∧ Blk W w.heap.size [.int .i64 x.kind, .int .i64 x.tag, .int .u64 (x.n : Int), bv, lv] 38) := hqZ (fun W hk =>
    ⟨HBT.out.trans (hk.below (fun b hb => by have := HP.out; rcases hb with h | h | h <;> omega)), HQT.out.keep hk (fun h => by have := HP.out; rcases h with h | h | h <;> omega)⟩)
  clear ht hb hp hb1 hb2 hb3 hb4 hb5 HQ0 HB0 HTK hA0 hpl hz0 ht0 hq0 hbt
  go_upto_region 2 with fail
  show Code.wp _ _ _ _ (w0.alloc (.cells [.pointer (some ⟨p, 0, none⟩), .bool false].toArray 104))
  rw [← hwt, ← hpm]
  clear hwt hpm
  rw [← hq] at *
  clear hq
  have hxt : 12 = x.tag := HTG.out.symm
  obtain ⟨l, hxl⟩ : ∃ l, l = x.l := ⟨_, rfl⟩
  have HXT := hqZ hxt
  have HXL := hqZ hxl
  rw [← hxt] at cT HKb HQT ⊢
  rw [← hxl] at HT HL
  clear hxt hxl HTG
  have HOM : Hid (∀ W o pts rem bad bad2, (shapeS x.tag).isEmpty = false → runS (shapeS x.tag) (x.l, false, false) = (pts, rem, bad, bad2) → MsgV W F x.tag pts o → OutM W F x o rem bad bad2) := hqZ (fun W o pts rem bad bad2 h0 h1 h2 => by unfold OutM; rw [if_neg (by rw [h0]; decide)]; exact ⟨pts, h1, h2⟩)
  rw [← HXT.out] at HOM
  rw [← HXL.out] at HOM
  clear HXT HXL
  go_upto_region 7 with fail
  refine wp_region_held (S := fun W : World => W.cell? ⟨pm, 0, none⟩ = some (.pointer (some ⟨p, 0, none⟩))) (by kernel_rfl) ?_
  change wpAnyH _ _ _ _ _ _ _ _ (World.drew _)
  have HS : (World.drew wt).cell? ⟨pm, 0, none⟩ = some (.pointer (some ⟨p, 0, none⟩)) := HT.out.ptr
  have HT0 := hqZ HT.out.drew
  have HK0 : Hid (Keeps (Sm pm p wt.heap.size) wt wt.drew) := hqZ (Keeps.refl _ _).drew
  have HR0 : Hid (runS (shapeS 12) (l, false, false) = runS [.s, .i, .b] (l, false, false)) := hqZ rfl
  have HP0 : Hid (PtsV wt.drew F [] []) := hqZ rfl
  generalize World.drew wt = wd at HS HT0 HK0 HP0 ⊢
  refine tkH 0 38 none (.pointer (some ⟨pm, 0, none⟩)) rfl (by kernel_rfl) (fun _ _ _ h => h) (by rfl) (by intro W hW; go_simp) HS ?_
  simp only [Act.put, zq1, zq2, zq3]
  refine tkH 1 39 none (.pointer (some ⟨pm, 0, none⟩)) rfl (by kernel_rfl) (fun _ _ _ h => h) (by rfl) (by intro W hW; go_simp) HS ?_
  simp only [Act.put, zq1, zq2, zq3]
  refine tkH 2 40 none (.pointer (some ⟨pm, 0, none⟩)) rfl (by kernel_rfl) (fun _ _ _ h => h) (by rfl) (by intro W hW; go_simp) HS ?_
  simp only [Act.put, zq1, zq2, zq3]
  refine tkH 3 41 none (.pointer (some ⟨p, 0, none⟩)) rfl (by kernel_rfl) (fun _ _ _ h => h) (by rfl) (by intro W hW; have hc0 : W.cell? ⟨pm, 0, none⟩ = some (.pointer (some ⟨p, 0, none⟩)) := hW; go_simp) HS ?_
  simp only [Act.put, zq1, zq2, zq3]
  refine tkH 5 43 none (.pointer (some ⟨pm, 0, none⟩)) rfl (by kernel_rfl) (fun _ _ _ h => h) (by rfl) (by intro W hW; go_simp) HS ?_
  simp only [Act.put, zq1, zq2, zq3]
  refine tkH 7 45 none (.pointer (some ⟨pm, 0, none⟩)) rfl (by kernel_rfl) (fun _ _ _ h => h) (by rfl) (by intro W hW; go_simp) HS ?_
  simp only [Act.put, zq1, zq2, zq3]
  refine tkH 8 46 none (.pointer (some ⟨pm, 0, none⟩)) rfl (by kernel_rfl) (fun _ _ _ h => h) (by rfl) (by intro W hW; go_simp) HS ?_
  simp only [Act.put, zq1, zq2, zq3]
  refine tkH 9 47 none (.pointer (some ⟨pm, 0, none⟩)) rfl (by kernel_rfl) (fun _ _ _ h => h) (by rfl) (by intro W hW; go_simp) HS ?_
  simp only [Act.put, zq1, zq2, zq3]
  refine tkH 10 48 none (.pointer (some ⟨p, 0, none⟩)) rfl (by kernel_rfl) (fun _ _ _ h => h) (by rfl) (by intro W hW; have hc0 : W.cell? ⟨pm, 0, none⟩ = some (.pointer (some ⟨p, 0, none⟩)) := hW; go_simp) HS ?_
  simp only [Act.put, zq1, zq2, zq3]
  refine anyH_ready (rs := [4]) (by decide +kernel) (by simp) ?_
  refine AllReadyH.cons (o := { dst := some 42, op := .call { callee := .value (.func 35), args := #[.tmp 41], argTypes := #[101] }, type := _, pos := _, after := _, guard := none }) rfl (fun K hK => ?_) AllReadyH.nil
  go_simp
  refine (nameK_any l false false pm p F wd HT0.out).mono ?_
  rintro e v1 ⟨rfl, ht, hk⟩
  have HR1 : Hid (runS (shapeS 12) (l, false, false) = (.s (nameS l false).1 :: (runS [.i, .b] ((nameS l false).2.1, (nameS l false).2.2, false)).1, (runS [.i, .b] ((nameS l false).2.1, (nameS l false).2.2, false)).2)) := hqZ (HR0.out.trans rfl)
  have HP1 : Hid (PtsV v1 F ([] ++ [.s (nameS l false).1]) ([] ++ [.string (tx (nameS l false).1)])) := hqZ ((HP0.out.keep hk HT0.out.hs (by rfl)).snoc (p := .s (nameS l false).1) rfl)
  have HT1 := hqZ ht
  have HK1 := hqZ (keepsM rfl HK0.out (HK0.out.size) hk)
  clear ht hk HT0 HK0 HR0 HP0
  generalize nameS l false = st at *
  obtain ⟨x1, l1, b1⟩ := st
  simp only at *
  have HS := HT1.out.ptr
  refine hK _ _ HS ?_
  clear hK K
  try simp only [Act.put, zq1, zq2, zq3]
  refine anyH_ready (rs := [6]) (by decide +kernel) (by simp) ?_
  refine AllReadyH.cons (o := { dst := some 44, op := .call { callee := .value (.func 38), args := #[.tmp 43], argTypes := #[100] }, type := _, pos := _, after := _, guard := none }) rfl (fun K hK => ?_) AllReadyH.nil
  go_simp
  refine (ticket_any l1 b1 false pm p F v1 HT1.out).mono ?_
  rintro e v2 ⟨vb, ⟨rfl, ht, hk⟩, bv2, rfl, hb, ho⟩
  have HR2 : Hid (runS (shapeS 12) (l, false, false) = (.s x1 :: .i (tickS l1 b1 false).1 :: (runS [.b] (tickS l1 b1 false).2).1, (runS [.b] (tickS l1 b1 false).2).2)) := hqZ (HR1.out.trans rfl)
  obtain ⟨ab2, cb2, rfl, hcb2, hmb2⟩ := hb.form
  have HP2 : Hid (PtsV v2 F ([.s x1] ++ [.i (tickS l1 b1 false).1]) ([.string (tx x1)] ++ [.string (tx (tickS l1 b1 false).1.1), .slice ab2 (tickS l1 b1 false).1.2.length cb2])) := hqZ ((HP1.out.keep hk HT1.out.hs (by rfl)).snoc (p := .i (tickS l1 b1 false).1) ⟨_, rfl, hb, ho⟩)
  have HT2 := hqZ ht
  have HK2 := hqZ (keepsM rfl HK1.out (HK1.out.size) hk)
  clear ht hk hb ho HT1 HK1 HR1 HP1
  generalize tickS l1 b1 false = st at *
  obtain ⟨x2, l2, b2, c2⟩ := st
  simp only at *
  obtain ⟨y2, x2⟩ := x2
  simp only at *
  generalize hz2 : x2.length = z2 at *
  generalize hy2 : tx y2 = ty2 at *
  have HS := HT2.out.ptr
  refine hK _ _ HS ?_
  clear hK K
  try simp only [Act.put, zq1, zq2, zq3]
  refine anyH_ready (rs := [11]) (by decide +kernel) (by simp) ?_
  refine AllReadyH.cons (o := { dst := some 49, op := .call { callee := .value (.func 37), args := #[.tmp 48], argTypes := #[101] }, type := _, pos := _, after := _, guard := none }) rfl (fun K hK => ?_) AllReadyH.nil
  go_simp
  refine (bytesK_any l2 b2 c2 pm p F v2 HT2.out).mono ?_
  rintro e v3 ⟨vb, ⟨rfl, ht, hk⟩, hb, ho⟩
  have HR3 : Hid (runS (shapeS 12) (l, false, false) = (.s x1 :: .i (y2, x2) :: .b (bytesS l2 b2).1 :: (runS [] ((bytesS l2 b2).2.1, (bytesS l2 b2).2.2, c2)).1, (runS [] ((bytesS l2 b2).2.1, (bytesS l2 b2).2.2, c2)).2)) := hqZ (HR2.out.trans rfl)
  obtain ⟨ab3, cb3, rfl, hcb3, hmb3⟩ := hb.form
  have HP3 : Hid (PtsV v3 F ([.s x1, .i (y2, x2)] ++ [.b (bytesS l2 b2).1]) ([.string (tx x1), .string ty2, .slice ab2 z2 cb2] ++ [.slice ab3 (bytesS l2 b2).1.length cb3])) := hqZ ((HP2.out.keep hk HT2.out.hs (by rfl)).snoc (p := .b (bytesS l2 b2).1) ⟨_, rfl, hb, ho⟩)
  have HT3 := hqZ ht
  have HK3 := hqZ (keepsM rfl HK2.out (HK2.out.size) hk)
  clear ht hk hb ho HT2 HK2 HR2 HP2
  generalize bytesS l2 b2 = st at *
  obtain ⟨x3, l3, b3⟩ := st
  simp only at *
  generalize hz3 : x3.length = z3 at *
  have HS := HT3.out.ptr
  refine hK _ _ HS ?_
  clear hK K
  try simp only [Act.put, zq1, zq2, zq3]
  refine tkH 12 50 none (.agg #[.string (tx x1), .string ty2, .slice ab2 z2 cb2, .slice ab3 z3 cb3]) rfl (by kernel_rfl) (fun _ _ _ h => h) (by rfl) (by intro W hW; go_simp) HS ?_
  simp only [Act.put, zq1, zq2, zq3]
  refine tkH 13 51 none (.iface 56 (.agg #[.string (tx x1), .string ty2, .slice ab2 z2 cb2, .slice ab3 z3 cb3])) rfl (by kernel_rfl) (fun _ _ _ h => h) (by rfl) (by intro W hW; go_simp) HS ?_
  simp only [Act.put, zq1, zq2, zq3]
  refine tkH 14 5 none (.iface 56 (.agg #[.string (tx x1), .string ty2, .slice ab2 z2 cb2, .slice ab3 z3 cb3])) rfl (by kernel_rfl) (fun _ _ _ h => h) (by rfl) (by intro W hW; go_simp) HS ?_
  simp only [Act.put, zq1, zq2, zq3]
  refine wpAnyH_done (by decide +kernel) ?_ _
  have ho := HOM.out _ _ _ _ _ _ (by decide) HR3.out ⟨_, rfl, HP3.out⟩
  have ht := HT3.out
  have hk := HK3.out
  obtain ⟨hb, hq⟩ := HKb.out _ hk
  have c0 : v3.cell? ⟨q, 0, none⟩ = some (.int .i64 x.kind) := hq.cell 0
  have m0 := ht.ptr
  have m1 : v3.cell? ⟨pm, 1, none⟩ = some (.bool c2) := ht.1.cell 1
  have HX := hqZ (OutM.no ho (HQ.out _ hb))
  have HY := hqZ (OutM.yes ho (HQ.out _ hb))
  have HD := hqZ (done_any l3 b3 p F v3 ht.2.1)
  clear ht hk ho hb hq
  by_cases hk2 : x.kind = 2
  · have HK2 := hqZ hk2
    have hkb : (x.kind != 2) = false := by simpa using hk2
    clear hk2
    generalize hdn : (!b3 && l3.isEmpty) = dn at *
    clear hdn
    cases c2 with
    | true =>
      go_wp2_with fail
      go_ret2
      exact HX.out (fun h => by simp at h)
    | false =>
      go_wp2_with fail
      refine HD.out.mono ?_
      rintro e w2 ⟨rfl, rfl⟩
      cases dn with
      | true =>
        go_wp2_with fail
        go_ret2
        exact HY.out HK2.out (by simp) (by first | rfl | trivial) (by first | rfl | trivial)
      | false =>
        go_wp2_with fail
        go_ret2
        exact HX.out (fun h => by simp at h)
  · have hkb : (x.kind != 2) = true := by simpa using hk2
    have HK2 := hqZ hk2
    clear hk2
    go_wp2_with fail
    go_ret2
    exact HX.out (fun h => HK2.out h.1)
set_option maxHeartbeats 16000000 in
set_option maxRecDepth 100000 in
theorem msgOf_14 (x : Tv) (F : Nat → Prop) (cs : List Value) (w : World) (h : TvF w F x cs) (hF : ∀ b, F b → b < w.heap.size) (hL : Lw x) (htag : x.tag = 14) :
    Calls Try.prog 19 #[.agg cs.toArray] w (OfM w F x) := by
  have HTG := hqZ htag
  clear htag
  have HLN := hqZ h.length
  have HQ0 := hqZ (Blk.new w cs 38)
  have hB0 : Below w.heap.size w (w.alloc (.cells cs.toArray 38)) := (Below.refl _ _).alloc (Nat.le_refl _) _
  have HB0 := hqZ hB0
  have HTK := hqZ (take_any x F cs _ (h.below hB0) (fun b hb => by have := hF b hb; simp; omega))
  have HL : Hid (∀ y ∈ x.l, y.l.length ≤ 1954687338211) := hqZ (fun y hy => by
    obtain ⟨k, t, n, b, l⟩ := x
    have h1 := LsW.mem hL.2 y hy
    obtain ⟨k2, t2, n2, b2, l2⟩ := y
    exact h1.1)
  have HF := hqZ hF
  obtain ⟨q, hq⟩ : ∃ q, q = w.heap.size := ⟨_, rfl⟩
  have HQ : Hid (∀ W, Below q w W → BelowO w W) := hqZ (fun W h => by rw [hq] at h; exact h)
  have hopen := h.open_
  clear h hB0 hL
  go_enter Try.func19, Try.ntmps19
  go_wp2_with ((with_reducible show wpList _ _ _ (⟨some 6, _, _, _, _, _⟩ :: _) _ _); refine wpList_ldAgg rfl (.tmp 1) aggDer rfl rfl (cs := cs) HLN.out HQ0.out.cellsAll ?_)
  refine HTK.out.mono ?_
  rintro e w0 ⟨p, rfl, ht, hb, hp⟩
  obtain ⟨bv, lv, rows, rfl, hb1, hb2, hb3, hb4, hb5⟩ := hopen
  obtain ⟨pm, hpm⟩ : ∃ pm, pm = w0.heap.size := ⟨_, rfl⟩
  have hA0 : Below w0.heap.size w0 (w0.alloc (.cells [.pointer (some ⟨p, 0, none⟩), .bool false].toArray 104)) := (Below.refl _ _).alloc (Nat.le_refl _) _
  have hpl := ht.lt
  have hz0 : w.heap.size ≤ w0.heap.size := by have := hb.size; simp at this; omega
  have ht0 : Tkn (w0.alloc (.cells [.pointer (some ⟨p, 0, none⟩), .bool false].toArray 104)) F pm p x.l false false := by
    refine ⟨by rw [hpm]; exact Blk.new _ _ _, ht.below hA0, by omega, fun h => ?_, fun b hb => ?_⟩
    · have := HF.out _ h; omega
    · have := HF.out _ hb; simp; omega
  have hq0 := (HQ0.out.below hb (by simp)).alloc (.cells [.pointer (some ⟨p, 0, none⟩), .bool false].toArray 104)
  have hbt : Below w.heap.size w (w0.alloc (.cells [.pointer (some ⟨p, 0, none⟩), .bool false].toArray 104)) := (HB0.out.trans (hb.mono (by simp))).trans (hA0.mono hz0)
  obtain ⟨wt, hwt⟩ : ∃ wt, wt = w0.alloc (.cells [.pointer (some ⟨p, 0, none⟩), .bool false].toArray 104) := ⟨_, rfl⟩
  rw [← hwt] at ht0 hq0 hbt
  have HT := hqZ ht0
  have HBT := hqZ hbt
  have HQT := hqZ hq0
  have HP : Hid (w.heap.size < p ∧ w.heap.size < pm ∧ w.heap.size < wt.heap.size) := hqZ (by simp at hp; have := ht0.lt; exact ⟨by omega, by omega, by omega⟩)
  have cT : wt.cell? ⟨w.heap.size, 1, none⟩ = some (.int .i64 x.tag) := HQT.out.cell 1
  have HKb : Hid (∀ W, Keeps (Sm pm p wt.heap.size) wt W → Below w.heap.size w W ∧ Blk W w.heap.size [.int .i64 x.kind, .int .i64 x.tag, .int .u64 (x.n : Int), bv, lv] 38) := hqZ (fun W hk =>
    ⟨HBT.out.trans (hk.below (fun b hb => by have := HP.out; rcases hb with h | h | h <;> omega)), HQT.out.keep hk (fun h => by have := HP.out; rcases h with h | h | h <;> omega)⟩)
  clear ht hb hp hb1 hb2 hb3 hb4 hb5 HQ0 HB0 HTK hA0 hpl hz0 ht0 hq0 hbt
  go_upto_region 2 with fail
  show Code.wp _ _ _ _ (w0.alloc (.cells [.pointer (some ⟨p, 0, none⟩), .bool false].toArray 104))
  rw [← hwt, ← hpm]
  clear hwt hpm
  rw [← hq] at *
  clear hq
  have hxt : 14 = x.tag := HTG.out.symm
  obtain ⟨l, hxl⟩ : ∃ l, l = x.l := ⟨_, rfl⟩
  have HXT := hqZ hxt
  have HXL := hqZ hxl
  rw [← hxt] at cT HKb HQT ⊢
  rw [← hxl] at HT HL
  clear hxt hxl HTG
  have HOM : Hid (∀ W o pts rem bad bad2, (shapeS x.tag).isEmpty = false → runS (shapeS x.tag) (x.l, false, false) = (pts, rem, bad, bad2) → MsgV W F x.tag pts o → OutM W F x o rem bad bad2) := hqZ (fun W o pts rem bad bad2 h0 h1 h2 => by unfold OutM; rw [if_neg (by rw [h0]; decide)]; exact ⟨pts, h1, h2⟩)
  rw [← HXT.out] at HOM
  rw [← HXL.out] at HOM
  clear HXT HXL
  go_upto_region 11 with fail
  refine wp_region_held (S := fun W : World => W.cell? ⟨pm, 0, none⟩ = some (.pointer (some ⟨p, 0, none⟩))) (by kernel_rfl) ?_
  change wpAnyH _ _ _ _ _ _ _ _ (World.drew _)
  have HS : (World.drew wt).cell? ⟨pm, 0, none⟩ = some (.pointer (some ⟨p, 0, none⟩)) := HT.out.ptr
  have HT0 := hqZ HT.out.drew
  have HK0 : Hid (Keeps (Sm pm p wt.heap.size) wt wt.drew) := hqZ (Keeps.refl _ _).drew
  have HR0 : Hid (runS (shapeS 14) (l, false, false) = runS [.s, .i, .b] (l, false, false)) := hqZ rfl
  have HP0 : Hid (PtsV wt.drew F [] []) := hqZ rfl
  generalize World.drew wt = wd at HS HT0 HK0 HP0 ⊢
  refine tkH 0 92 none (.pointer (some ⟨pm, 0, none⟩)) rfl (by kernel_rfl) (fun _ _ _ h => h) (by rfl) (by intro W hW; go_simp) HS ?_
  simp only [Act.put, zq1, zq2, zq3]
  refine tkH 1 93 none (.pointer (some ⟨pm, 0, none⟩)) rfl (by kernel_rfl) (fun _ _ _ h => h) (by rfl) (by intro W hW; go_simp) HS ?_
  simp only [Act.put, zq1, zq2, zq3]
  refine tkH 2 94 none (.pointer (some ⟨pm, 0, none⟩)) rfl (by kernel_rfl) (fun _ _ _ h => h) (by rfl) (by intro W hW; go_simp) HS ?_
  simp only [Act.put, zq1, zq2, zq3]
  refine tkH 3 95 none (.pointer (some ⟨p, 0, none⟩)) rfl (by kernel_rfl) (fun _ _ _ h => h) (by rfl) (by intro W hW; have hc0 : W.cell? ⟨pm, 0, none⟩ = some (.pointer (some ⟨p, 0, none⟩)) := hW; go_simp) HS ?_
  simp only [Act.put, zq1, zq2, zq3]
  refine tkH 5 97 none (.pointer (some ⟨pm, 0, none⟩)) rfl (by kernel_rfl) (fun _ _ _ h => h) (by rfl) (by intro W hW; go_simp) HS ?_
  simp only [Act.put, zq1, zq2, zq3]
  refine tkH 7 99 none (.pointer (some ⟨pm, 0, none⟩)) rfl (by kernel_rfl) (fun _ _ _ h => h) (by rfl) (by intro W hW; go_simp) HS ?_
  simp only [Act.put, zq1, zq2, zq3]
  refine tkH 8 100 none (.pointer (some ⟨pm, 0, none⟩)) rfl (by kernel_rfl) (fun _ _ _ h => h) (by rfl) (by intro W hW; go_simp) HS ?_
  simp only [Act.put, zq1, zq2, zq3]
  refine tkH 9 101 none (.pointer (some ⟨pm, 0, none⟩)) rfl (by kernel_rfl) (fun _ _ _ h => h) (by rfl) (by intro W hW; go_simp) HS ?_
  simp only [Act.put, zq1, zq2, zq3]
  refine tkH 10 102 none (.pointer (some ⟨p, 0, none⟩)) rfl (by kernel_rfl) (fun _ _ _ h => h) (by rfl) (by intro W hW; have hc0 : W.cell? ⟨pm, 0, none⟩ = some (.pointer (some ⟨p, 0, none⟩)) := hW; go_simp) HS ?_
  simp only [Act.put, zq1, zq2, zq3]
  refine anyH_ready (rs := [4]) (by decide +kernel) (by simp) ?_
  refine AllReadyH.cons (o := { dst := some 96, op := .call { callee := .value (.func 35), args := #[.tmp 95], argTypes := #[101] }, type := _, pos := _, after := _, guard := none }) rfl (fun K hK => ?_) AllReadyH.nil
  go_simp
  refine (nameK_any l false false pm p F wd HT0.out).mono ?_
  rintro e v1 ⟨rfl, ht, hk⟩
  have HR1 : Hid (runS (shapeS 14) (l, false, false) = (.s (nameS l false).1 :: (runS [.i, .b] ((nameS l false).2.1, (nameS l false).2.2, false)).1, (runS [.i, .b] ((nameS l false).2.1, (nameS l false).2.2, false)).2)) := hqZ (HR0.out.trans rfl)
  have HP1 : Hid (PtsV v1 F ([] ++ [.s (nameS l false).1]) ([] ++ [.string (tx (nameS l false).1)])) := hqZ ((HP0.out.keep hk HT0.out.hs (by rfl)).snoc (p := .s (nameS l false).1) rfl)
  have HT1 := hqZ ht
  have HK1 := hqZ (keepsM rfl HK0.out (HK0.out.size) hk)
  clear ht hk HT0 HK0 HR0 HP0
  generalize nameS l false = st at *
  obtain ⟨x1, l1, b1⟩ := st
  simp only at *
  have HS := HT1.out.ptr
  refine hK _ _ HS ?_
  clear hK K
  try simp only [Act.put, zq1, zq2, zq3]
  refine anyH_ready (rs := [6]) (by decide +kernel) (by simp) ?_
  refine AllReadyH.cons (o := { dst := some 98, op := .call { callee := .value (.func 38), args := #[.tmp 97], argTypes := #[100] }, type := _, pos := _, after := _, guard := none }) rfl (fun K hK => ?_) AllReadyH.nil
  go_simp
  refine (ticket_any l1 b1 false pm p F v1 HT1.out).mono ?_
  rintro e v2 ⟨vb, ⟨rfl, ht, hk⟩, bv2, rfl, hb, ho⟩
  have HR2 : Hid (runS (shapeS 14) (l, false, false) = (.s x1 :: .i (tickS l1 b1 false).1 :: (runS [.b] (tickS l1 b1 false).2).1, (runS [.b] (tickS l1 b1 false).2).2)) := hqZ (HR1.out.trans rfl)
  obtain ⟨ab2, cb2, rfl, hcb2, hmb2⟩ := hb.form
  have HP2 : Hid (PtsV v2 F ([.s x1] ++ [.i (tickS l1 b1 false).1]) ([.string (tx x1)] ++ [.string (tx (tickS l1 b1 false).1.1), .slice ab2 (tickS l1 b1 false).1.2.length cb2])) := hqZ ((HP1.out.keep hk HT1.out.hs (by rfl)).snoc (p := .i (tickS l1 b1 false).1) ⟨_, rfl, hb, ho⟩)
  have HT2 := hqZ ht
  have HK2 := hqZ (keepsM rfl HK1.out (HK1.out.size) hk)
  clear ht hk hb ho HT1 HK1 HR1 HP1
  generalize tickS l1 b1 false = st at *
  obtain ⟨x2, l2, b2, c2⟩ := st
  simp only at *
  obtain ⟨y2, x2⟩ := x2
  simp only at *
  generalize hz2 : x2.length = z2 at *
  generalize hy2 : tx y2 = ty2 at *
  have HS := HT2.out.ptr
  refine hK _ _ HS ?_
  clear hK K
  try simp only [Act.put, zq1, zq2, zq3]
  refine anyH_ready (rs := [11]) (by decide +kernel) (by simp) ?_
  refine AllReadyH.cons (o := { dst := some 103, op := .call { callee := .value (.func 37), args := #[.tmp 102], argTypes := #[101] }, type := _, pos := _, after := _, guard := none }) rfl (fun K hK => ?_) AllReadyH.nil
  go_simp
  refine (bytesK_any l2 b2 c2 pm p F v2 HT2.out).mono ?_
  rintro e v3 ⟨vb, ⟨rfl, ht, hk⟩, hb, ho⟩
  have HR3 : Hid (runS (shapeS 14) (l, false, false) = (.s x1 :: .i (y2, x2) :: .b (bytesS l2 b2).1 :: (runS [] ((bytesS l2 b2).2.1, (bytesS l2 b2).2.2, c2)).1, (runS [] ((bytesS l2 b2).2.1, (bytesS l2 b2).2.2, c2)).2)) := hqZ (HR2.out.trans rfl)
  obtain ⟨ab3, cb3, rfl, hcb3, hmb3⟩ := hb.form
  have HP3 : Hid (PtsV v3 F ([.s x1, .i (y2, x2)] ++ [.b (bytesS l2 b2).1]) ([.string (tx x1), .string ty2, .slice ab2 z2 cb2] ++ [.slice ab3 (bytesS l2 b2).1.length cb3])) := hqZ ((HP2.out.keep hk HT2.out.hs (by rfl)).snoc (p := .b (bytesS l2 b2).1) ⟨_, rfl, hb, ho⟩)
  have HT3 := hqZ ht
  have HK3 := hqZ (keepsM rfl HK2.out (HK2.out.size) hk)
  clear ht hk hb ho HT2 HK2 HR2 HP2
  generalize bytesS l2 b2 = st at *
  obtain ⟨x3, l3, b3⟩ := st
  simp only at *
  generalize hz3 : x3.length = z3 at *
  have HS := HT3.out.ptr
  refine hK _ _ HS ?_
  clear hK K
  try simp only [Act.put, zq1, zq2, zq3]
  refine tkH 12 104 none (.agg #[.string (tx x1), .string ty2, .slice ab2 z2 cb2, .slice ab3 z3 cb3]) rfl (by kernel_rfl) (fun _ _ _ h => h) (by rfl) (by intro W hW; go_simp) HS ?_
  simp only [Act.put, zq1, zq2, zq3]
  refine tkH 13 105 none (.iface 60 (.agg #[.string (tx x1), .string ty2, .slice ab2 z2 cb2, .slice ab3 z3 cb3])) rfl (by kernel_rfl) (fun _ _ _ h => h) (by rfl) (by intro W hW; go_simp) HS ?_
  simp only [Act.put, zq1, zq2, zq3]
  refine tkH 14 5 none (.iface 60 (.agg #[.string (tx x1), .string ty2, .slice ab2 z2 cb2, .slice ab3 z3 cb3])) rfl (by kernel_rfl) (fun _ _ _ h => h) (by rfl) (by intro W hW; go_simp) HS ?_
  simp only [Act.put, zq1, zq2, zq3]
  refine wpAnyH_done (by decide +kernel) ?_ _
  have ho := HOM.out _ _ _ _ _ _ (by decide) HR3.out ⟨_, rfl, HP3.out⟩
  have ht := HT3.out
  have hk := HK3.out
  obtain ⟨hb, hq⟩ := HKb.out _ hk
  have c0 : v3.cell? ⟨q, 0, none⟩ = some (.int .i64 x.kind) := hq.cell 0
  have m0 := ht.ptr
  have m1 : v3.cell? ⟨pm, 1, none⟩ = some (.bool c2) := ht.1.cell 1
  have HX := hqZ (OutM.no ho (HQ.out _ hb))
  have HY := hqZ (OutM.yes ho (HQ.out _ hb))
  have HD := hqZ (done_any l3 b3 p F v3 ht.2.1)
  clear ht hk ho hb hq
  by_cases hk2 : x.kind = 2
  · have HK2 := hqZ hk2
    have hkb : (x.kind != 2) = false := by simpa using hk2
    clear hk2
    generalize hdn : (!b3 && l3.isEmpty) = dn at *
    clear hdn
    cases c2 with
    | true =>
      go_wp2_with fail
      go_ret2
      exact HX.out (fun h => by simp at h)
    | false =>
      go_wp2_with fail
      refine HD.out.mono ?_
      rintro e w2 ⟨rfl, rfl⟩
      cases dn with
      | true =>
        go_wp2_with fail
        go_ret2
        exact HY.out HK2.out (by simp) (by first | rfl | trivial) (by first | rfl | trivial)
      | false =>
        go_wp2_with fail
        go_ret2
        exact HX.out (fun h => by simp at h)
  · have hkb : (x.kind != 2) = true := by simpa using hk2
    have HK2 := hqZ hk2
    clear hk2
    go_wp2_with fail
    go_ret2
    exact HX.out (fun h => HK2.out h.1)
end Go.Proofs.Ytpjkidcfidmfaaa
