/- Texts of this proof, one behind the other: MVCx, MPure, DerCount, MPure2, Runes, Ref09, Ref09b, Ref09c, MRef1, MRef2. -/
import Derived.Test.YtofmkkcbfeadgaaRpA6
import Derived.Laws.Cover4
import Derived.Lib.MapLaws
import Derived.Lib.TrimUEq
import Derived.Lib.QuoteLoop
import Derived.Stop.FmtQuoteTie
namespace Go.Proofs.Ytofmkkcbfeadgaa
set_option linter.unusedSimpArgs false
set_option linter.unusedVariables false
open Go.RowKit
/-- A number of 64 bits, without a sign. -/
def maxU : Nat := 18446744073709551615
def numU : Int → Nat
  | .ofNat n => n
  | .negSucc n => maxU - n
def ptTv : Pt → Tv
  | .s l => .mk 1 0 0 l []
  | .n x => .mk 0 0 (numU x) [] []
  | .b l => .mk 1 0 0 l []
  | .t b => .mk 0 0 (if b then 1 else 0) [] []
  | .i t => tkTv t
  | .x l => tksTv l
def ptB : Pt → Bool
  | .s l => rightB (tx l)
  | .n x => timeB x
  | .b _ => true
  | .t _ => true
  | .i t => rT t
  | .x l => tksB l
theorem numU_pos (n : Nat) : numU (n : Int) = n := rfl
theorem numU_neg (x : Int) (m : Nat) (h : x < 0) (hm : x + (maxU + 1 : Nat) = m) : numU x = m := by
  cases x with
  | ofNat n => exact absurd h (by simp)
  | negSucc n =>
    show maxU - n = m
    have : maxU = 18446744073709551615 := rfl
    omega
theorem mnumI_any (x : Int) (w : World) (h1 : -9223372036854775808 ≤ x) (h2 : x ≤ 9223372036854775807) : Calls Try.prog 34 #[.int .i64 x] w (MkRes w (.mk 0 0 (numU x) [] [])) := by
  rcases (by omega : x < 0 ∨ 0 ≤ x) with h | h
  · obtain ⟨m, hm⟩ : ∃ m : Nat, x + 18446744073709551616 = m := ⟨_, (Int.toNat_of_nonneg (by omega)).symm⟩
    rw [numU_neg x m h (by unfold maxU; omega)]
    exact mnum_neg x m w h h1 hm
  · obtain ⟨n, rfl⟩ := Int.eq_ofNat_of_zero_le h
    rw [numU_pos]
    exact mnum_any n w (by omega)
theorem exec_ldAgg {P : Program} {o : Oper} {a : Act} {W : World} {ty : TypeId} {m b off : Nat} {x : Operand} {cs : List Value} (ho : o.op = .load ty x) (hT : AggTy P ty m) (hx : a.eval x = .pointer (some ⟨b, off, none⟩)) (hm : cs.length = m) (hc : CellsAt W b off cs) :
    (execOp a.eval o).run P W = .ok (.value (.agg cs.toArray)) W := by
  have h := run_ldAgg hT hm hc
  unfold execOp
  simp only [ho, hx, Instr.loadAt, Instr.sureAddr, Sem.run_bind, Sem.run_pure, Result.andThen_ok, h]
/-- All that is held: the result's block q, other blocks, values made, rows that came in. -/
structure VC (w : World) (q : Nat) (blks : List (Nat × List Value × TypeId)) (trees : List (Tv × List Value)) (rows : List (Value × List UInt8)) (W : World) : Prop where
  below : Below w.heap.size w W
  hq : q = w.heap.size
  lt : q < W.heap.size
  zq : Blk W q zs5 70
  blk : ∀ b ∈ blks, Blk W b.1 b.2.1 b.2.2 ∧ q < b.1
  tree : ∀ t ∈ trees, TvF W (fun b => q < b) t.1 t.2
  row : ∀ r ∈ rows, Bs W r.1 r.2 ∧ (0 < r.2.length → ∀ y, r.1.ownBlock = some y → y < q)
section
variable {w : World} {q : Nat} {blks : List (Nat × List Value × TypeId)} {trees : List (Tv × List Value)} {rows : List (Value × List UInt8)} {W W' : World}
theorem VC.step (h : VC w q blks trees rows W) (hb : Below W.heap.size W W') : VC w q blks trees rows W' :=
  ⟨h.below.trans (hb.mono h.below.size), h.hq, Nat.lt_of_lt_of_le h.lt hb.size, h.zq.below hb h.lt, fun b hm => ⟨(h.blk b hm).1.below hb (h.blk b hm).1.lt, (h.blk b hm).2⟩, fun t hm => (h.tree t hm).below hb, fun r hm => ⟨(h.row r hm).1.below hb, (h.row r hm).2⟩⟩
theorem VC.drew (h : VC w q blks trees rows W) : VC w q blks trees rows W.drew := h.step ((Below.refl _ _).drew)
theorem VC.blkAt (h : VC w q blks trees rows W) (i : Nat) {b : Nat} {cs : List Value} {T : TypeId} (hi : blks[i]? = some (b, cs, T)) : Blk W b cs T := (h.blk _ (List.mem_of_getElem? hi)).1
theorem VC.addBlk (h : VC w q blks trees rows W) {b : Nat} {cs : List Value} {T : TypeId} (hb : Blk W b cs T) (hq : q < b) : VC w q (blks ++ [(b, cs, T)]) trees rows W :=
  ⟨h.below, h.hq, h.lt, h.zq, fun x hm => by
    rcases List.mem_append.1 hm with hm | hm
    · exact h.blk x hm
    · rw [List.mem_singleton.1 hm]; exact ⟨hb, hq⟩, h.tree, h.row⟩
/-- The start: the result's block, and the message's. -/
theorem VC.start (hr : ∀ r ∈ rows, Bs w r.1 r.2) (cs : List Value) (T : TypeId) : VC w w.heap.size [(w.heap.size + 1, cs, T)] [] rows ((w.alloc (.cells zs5.toArray 70)).alloc (.cells cs.toArray T)) := by
  have h1 : (w.alloc (.cells zs5.toArray 70)).heap.size = w.heap.size + 1 := by simp
  have hb1 : Below w.heap.size w (w.alloc (.cells zs5.toArray 70)) := (Below.refl _ _).alloc (Nat.le_refl _) _
  have hb2 : Below w.heap.size w ((w.alloc (.cells zs5.toArray 70)).alloc (.cells cs.toArray T)) := hb1.alloc (by omega) _
  refine ⟨hb2, rfl, by simp <;> omega, (Blk.new _ _ _).alloc _, fun b hm => ?_, fun t hm => by simp at hm, fun r hm => ⟨(hr r hm).below hb2, fun hn y hy => Sl.own_lt (hr r hm) (by decide) hn y hy⟩⟩
  rw [List.mem_singleton.1 hm]
  exact ⟨by have := Blk.new (w.alloc (.cells zs5.toArray 70)) cs T; rw [h1] at this; exact this, by omega⟩
/-- The same, but for the result's block. -/
structure VR (w : World) (q : Nat) (blks : List (Nat × List Value × TypeId)) (trees : List (Tv × List Value)) (rows : List (Value × List UInt8)) (W : World) : Prop where
  below : Below w.heap.size w W
  lt : q < W.heap.size
  len : LenV q W
  blk : ∀ b ∈ blks, Blk W b.1 b.2.1 b.2.2
  tree : ∀ t ∈ trees, TvF W (fun b => q < b) t.1 t.2
  row : ∀ r ∈ rows, Bs W r.1 r.2
theorem VC.gv (h : VC w q blks trees rows W) {X : Tv} (g : GV (fun b => q < b) q X W W') : VR w q blks trees rows W' := by
  have hz := g.1.size
  have hlt := h.lt
  refine ⟨h.below.trans (g.1.below (by have := h.hq; rintro b (e | e) <;> omega)), by omega, g.2.2 ⟨_, h.zq, rfl⟩, fun b hm => ?_, fun t hm => ?_, fun r hm => ?_⟩
  · have := h.blk b hm
    exact this.1.keep g.1 (by have := this.1.lt; rintro (e | e) <;> omega)
  · exact (h.tree t hm).keep g.1 (GV.not (Nat.lt_irrefl q))
  · have := h.row r hm
    exact this.1.keepF g.1 (F := fun y => y < q) this.2 (fun b hb hl e => by
      have hb : b < q := hb
      rcases e with e | e <;> omega)
theorem VR.blkAt (h : VR w q blks trees rows W) (i : Nat) {b : Nat} {cs : List Value} {T : TypeId} (hi : blks[i]? = some (b, cs, T)) : Blk W b cs T := h.blk _ (List.mem_of_getElem? hi)
end
def isS (x : Tv) : Bool := decide (x.kind = 1 ∧ x.tag = 0) && rightB (tx x.b)
def isB (x : Tv) : Bool := decide (x.kind = 1 ∧ x.tag = 0)
def tkR (x : Tv) : Bool := decide (x.kind = 2 ∧ x.tag = 1) && (match x.l with | [a, b] => isS a && isB b | _ => false)
def fitK (k : Kd) (x : Tv) : Bool :=
  match k with
  | .s => isS x
  | .n => decide (x.kind = 0 ∧ x.tag = 0) && decide (x.n ≤ maxT)
  | .b => isB x
  | .t => decide (x.kind = 0 ∧ x.tag = 0) && decide (x.n ≤ 1)
  | .i => tkR x
  | .x => decide (x.kind = 2 ∧ x.tag = 0) && (decide (x.l.length ≤ 1) && x.l.all tkR)
def fitsK : List Kd → List Tv → Bool
  | [], [] => true
  | k :: ks, x :: l => fitK k x && fitsK ks l
  | _, _ => false
def msgR (x : Tv) : Bool := decide (x.kind = 2) && (!(shapeS x.tag).isEmpty && fitsK (shapeS x.tag) x.l)
def ptOf (k : Kd) (x : Tv) : Pt :=
  match k with
  | .s => .s x.b
  | .n => .n x.n
  | .b => .b x.b
  | .t => .t (x.n == 1)
  | .i => .i (tkOf x)
  | .x => .x (x.l.map tkOf)
def ptsOf : List Kd → List Tv → List Pt
  | k :: ks, x :: l => ptOf k x :: ptsOf ks l
  | _, _ => []
theorem nextS_yes {k : Int} {x : Tv} {r : List Tv} {b : Bool} (h : x.kind = k ∧ x.tag = 0) : nextS k (x :: r) b = (x, r, b) := if_pos h
theorem nextS_no {k : Int} {x : Tv} {r : List Tv} {b : Bool} (h : ¬ (x.kind = k ∧ x.tag = 0)) : nextS k (x :: r) b = (.zero, [], true) := if_neg h
theorem partS_yes {k : Int} {x : Tv} {r : List Tv} {b : Bool} (h : x.kind = 2 ∧ x.tag = k) : partS k (x :: r) b = (x, r, b) := if_pos h
theorem partS_no {k : Int} {x : Tv} {r : List Tv} {b : Bool} (h : ¬ (x.kind = 2 ∧ x.tag = k)) : partS k (x :: r) b = (.zero, [], true) := if_neg h
theorem nextS_bad (k : Int) (rem : List Tv) : (nextS k rem true).2.2 = true := by
  unfold nextS
  cases rem with
  | nil => rfl
  | cons x r =>
    simp only
    split <;> rfl
theorem partS_bad (k : Int) (rem : List Tv) : (partS k rem true).2.2 = true := by
  unfold partS
  cases rem with
  | nil => rfl
  | cons x r =>
    simp only
    split <;> rfl
theorem stepS_bad (k : Kd) (rem : List Tv) (b2 : Bool) : (stepS k (rem, true, b2)).2.2.1 = true := by
  cases k
  · simp only [stepS, nameS]; split <;> first | exact nextS_bad _ _ | rfl
  · simp only [stepS, numS]; split <;> first | exact nextS_bad _ _ | rfl
  · simp only [stepS, bytesS]; exact nextS_bad _ _
  · simp only [stepS, truthS]; split <;> first | exact nextS_bad _ _ | rfl
  · simp only [stepS, tickS]; split <;> exact partS_bad _ _
  · simp only [stepS, extraS]; exact partS_bad _ _
theorem stepS_bad2 (k : Kd) (rem : List Tv) (b : Bool) : (stepS k (rem, b, true)).2.2.2 = true := by
  cases k
  · rfl
  · rfl
  · rfl
  · rfl
  · simp only [stepS, tickS]; split <;> rfl
  · simp only [stepS, extraS]; split
    · split <;> rfl
    · rfl
theorem runS_bad : ∀ (ks : List Kd) (rem : List Tv) (b2 : Bool), (runS ks (rem, true, b2)).2.2.1 = true
  | [], _, _ => rfl
  | k :: ks, rem, b2 => by
    have h := stepS_bad k rem b2
    show (runS ks (stepS k (rem, true, b2)).2).2.2.1 = true
    obtain ⟨r, b, c, e⟩ : ∃ r b c, (stepS k (rem, true, b2)).2 = (r, b, c) := ⟨_, _, _, rfl⟩
    rw [e] at h ⊢
    simp only at h
    subst h
    exact runS_bad ks r c
theorem runS_bad2 : ∀ (ks : List Kd) (rem : List Tv) (b : Bool), (runS ks (rem, b, true)).2.2.2 = true
  | [], _, _ => rfl
  | k :: ks, rem, b => by
    have h := stepS_bad2 k rem b
    show (runS ks (stepS k (rem, b, true)).2).2.2.2 = true
    obtain ⟨r, b', c, e⟩ : ∃ r b' c, (stepS k (rem, b, true)).2 = (r, b', c) := ⟨_, _, _, rfl⟩
    rw [e] at h ⊢
    simp only at h
    subst h
    exact runS_bad2 ks r b'
theorem nameS_yes {x : Tv} {r : List Tv} {b : Bool} (h : x.kind = 1 ∧ x.tag = 0) : nameS (x :: r) b = (x.b, r, if rightB (tx x.b) = true then b else true) := by unfold nameS; rw [nextS_yes h]
theorem nameS_no {x : Tv} {r : List Tv} {b : Bool} (h : ¬ (x.kind = 1 ∧ x.tag = 0)) : (nameS (x :: r) b).2 = ([], true) := by simp [nameS, nextS_no h]
theorem nameS_nil {b : Bool} : (nameS [] b).2 = ([], true) := by
  show (([] : List Tv), if rightB (tx Tv.zero.b) = true then true else true) = ([], true)
  cases rightB (tx Tv.zero.b) <;> rfl
theorem bytesS_yes {x : Tv} {r : List Tv} {b : Bool} (h : x.kind = 1 ∧ x.tag = 0) : bytesS (x :: r) b = (x.b, r, b) := by unfold bytesS; rw [nextS_yes h]
theorem bytesS_no {x : Tv} {r : List Tv} {b : Bool} (h : ¬ (x.kind = 1 ∧ x.tag = 0)) : (bytesS (x :: r) b).2 = ([], true) := by simp [bytesS, nextS_no h]
theorem bytesS_nil {b : Bool} : (bytesS [] b).2 = ([], true) := by simp [bytesS, nextS]
theorem ticketS_eq (x : Tv) : ticketS x = if tkR x = true then (match x.l with | [a, b] => some (a.b, b.b) | _ => none) else none := by
  unfold ticketS tkR
  by_cases h : x.kind = 2 ∧ x.tag = 1
  · rw [show decide (x.kind = 2 ∧ x.tag = 1) = true from decide_eq_true h, Bool.true_and]
    generalize x.l = l
    match l with
    | [] => rw [if_neg (by rw [nameS_nil, bytesS_nil]; simp)]; simp
    | [a] =>
      rw [if_neg ?_]
      · simp
      · by_cases ha : a.kind = 1 ∧ a.tag = 0
        · rw [nameS_yes ha, bytesS_nil]; simp
        · rw [nameS_no ha, bytesS_nil]; simp
    | [a, b] =>
      simp only
      by_cases ha : a.kind = 1 ∧ a.tag = 0
      · by_cases hb : b.kind = 1 ∧ b.tag = 0
        · by_cases hr : rightB (tx a.b) = true
          · rw [nameS_yes ha, if_pos hr, bytesS_yes hb, if_pos ⟨h.1, h.2, rfl, rfl⟩, if_pos (by simp [isS, isB, ha, hb, hr])]
          · rw [nameS_yes ha, if_neg hr, bytesS_yes hb, if_neg (by simp), if_neg (by simp [isS, hr])]
        · rw [nameS_yes ha, bytesS_no hb, if_neg (by simp), if_neg (by simp [isB, hb])]
      · rw [nameS_no ha, bytesS_nil, if_neg (by simp), if_neg (by simp [isS, ha])]
    | a :: b :: c :: l =>
      simp only
      rw [if_neg ?_, if_neg (by simp)]
      by_cases ha : a.kind = 1 ∧ a.tag = 0
      · by_cases hb : b.kind = 1 ∧ b.tag = 0
        · rw [nameS_yes ha, bytesS_yes hb]; simp
        · rw [nameS_yes ha, bytesS_no hb]; simp
      · rw [nameS_no ha, bytesS_nil]; simp
  · rw [if_neg (fun hc => h ⟨hc.1, hc.2.1⟩), decide_eq_false h, Bool.false_and, if_neg (by simp)]
theorem ticketS_isSome (x : Tv) : (ticketS x).isSome = tkR x := by
  rw [ticketS_eq]
  by_cases h : tkR x = true
  · rw [if_pos h, h]
    unfold tkR at h
    match hl : x.l with
    | [a, b] => rfl
    | [] => rw [hl] at h; simp at h
    | [a] => rw [hl] at h; simp at h
    | a :: b :: c :: l => rw [hl] at h; simp at h
  · rw [if_neg h]
    simp at h
    rw [h]; rfl
theorem allT_eq (l : List Tv) : allT l = l.all tkR := by
  unfold allT
  congr 1
  funext x
  exact ticketS_isSome x
/-- A step at a value that fits. -/
theorem stepS_fit {k : Kd} {x : Tv} {r : List Tv} (h : fitK k x = true) : stepS k (x :: r, false, false) = (ptOf k x, r, false, false) := by
  cases k
  · simp only [fitK, isS, Bool.and_eq_true, decide_eq_true_eq] at h
    simp only [stepS, nameS, nextS_yes h.1, h.2, if_true]; rfl
  · simp only [fitK, Bool.and_eq_true, decide_eq_true_eq] at h
    simp only [stepS, numS, nextS_yes h.1]
    rw [if_neg (by omega)]; rfl
  · simp only [fitK, isB, decide_eq_true_eq] at h
    simp only [stepS, bytesS, nextS_yes h]; rfl
  · simp only [fitK, Bool.and_eq_true, decide_eq_true_eq] at h
    simp only [stepS, truthS, nextS_yes h.1]
    rw [if_neg (by omega)]; rfl
  · simp only [fitK] at h
    have h1 : x.kind = 2 ∧ x.tag = 1 := by unfold tkR at h; simp only [Bool.and_eq_true, decide_eq_true_eq] at h; exact h.1
    have hs : (ticketS x).isSome = true := by rw [ticketS_isSome]; exact h
    obtain ⟨t, ht⟩ := Option.isSome_iff_exists.1 hs
    simp only [stepS, tickS, partS_yes h1, ht, ptOf, tkOf]; rfl
  · simp only [fitK, Bool.and_eq_true, decide_eq_true_eq] at h
    simp only [stepS, extraS, partS_yes h.1, allT_eq, h.2.2, if_true]
    rw [if_neg (by omega)]; rfl
theorem stepS_no {k : Kd} {x : Tv} {r : List Tv} (h : fitK k x = false) : (stepS k (x :: r, false, false)).2.2.1 = true ∨ (stepS k (x :: r, false, false)).2.2.2 = true := by
  cases k
  · left
    simp only [fitK, isS] at h
    by_cases hk : x.kind = 1 ∧ x.tag = 0
    · rw [decide_eq_true hk, Bool.true_and] at h
      simp only [stepS, nameS, nextS_yes hk, h]; rfl
    · show (nameS (x :: r) false).2.2 = true; rw [nameS_no hk]
  · left
    simp only [fitK] at h
    by_cases hk : x.kind = 0 ∧ x.tag = 0
    · rw [decide_eq_true hk, Bool.true_and] at h
      simp only [stepS, numS, nextS_yes hk]
      rw [if_pos (by simp at h; omega)]
    · show (numS (x :: r) false).2.2 = true; simp [numS, nextS_no hk]; split <;> rfl
  · left
    simp only [fitK, isB, decide_eq_false_iff_not] at h
    simp only [stepS, bytesS, nextS_no h]
  · left
    simp only [fitK] at h
    by_cases hk : x.kind = 0 ∧ x.tag = 0
    · rw [decide_eq_true hk, Bool.true_and] at h
      simp only [stepS, truthS, nextS_yes hk]
      rw [if_pos (by simp at h; omega)]
    · show (truthS (x :: r) false).2.2 = true; simp [truthS, nextS_no hk]
  · simp only [fitK] at h
    by_cases hk : x.kind = 2 ∧ x.tag = 1
    · right
      have hs : ticketS x = none := by
        have := ticketS_isSome x
        rw [h] at this
        simpa using this
      simp only [stepS, tickS, partS_yes hk, hs]
    · left
      simp only [stepS, tickS, partS_no hk]; split <;> rfl
  · simp only [fitK] at h
    by_cases hk : x.kind = 2 ∧ x.tag = 0
    · right
      rw [decide_eq_true hk, Bool.true_and] at h
      simp only [stepS, extraS, partS_yes hk, allT_eq]
      split
      · rename_i ha
        rw [ha, Bool.and_true] at h
        rw [if_pos (by simp at h; omega)]
      · rfl
    · left
      simp only [stepS, extraS, partS_no hk]
theorem stepS_nil (k : Kd) : (stepS k ([], false, false)).2.2.1 = true := by
  cases k
  · show (nameS [] false).2.2 = true; rw [nameS_nil]
  · show (numS [] false).2.2 = true
    show (if maxT < Tv.zero.n then ((0 : Nat), ([] : List Tv), true) else (Tv.zero.n, [], true)).2.2 = true
    rw [if_neg (by show ¬ maxT < 0; omega)]
  · rfl
  · show (if 1 < Tv.zero.n then true else true) = true
    rw [if_neg (by show ¬ 1 < 0; omega)]
  · show (tickS [] false false).2.2.1 = true; simp only [tickS, partS]; split <;> rfl
  · rfl
theorem runS_fits : ∀ (ks : List Kd) (l : List Tv), fitsK ks l = true → runS ks (l, false, false) = (ptsOf ks l, [], false, false)
  | [], [], _ => rfl
  | [], _ :: _, h => by simp [fitsK] at h
  | _ :: _, [], h => by simp [fitsK] at h
  | k :: ks, x :: l, h => by
    simp only [fitsK, Bool.and_eq_true] at h
    simp only [runS, stepS_fit h.1, runS_fits ks l h.2, ptsOf]
theorem runS_not : ∀ (ks : List Kd) (l : List Tv), fitsK ks l = false → ¬ ((runS ks (l, false, false)).2.2.2 = false ∧ (runS ks (l, false, false)).2.2.1 = false ∧ (runS ks (l, false, false)).2.1.isEmpty = true)
  | [], [], h => by simp [fitsK] at h
  | [], x :: l, _ => by simp [runS]
  | k :: ks, [], _ => by
    intro hc
    have h1 : (runS ks (stepS k ([], false, false)).2).2.2.1 = false := hc.2.1
    obtain ⟨r, b, c, e⟩ : ∃ r b c, (stepS k ([], false, false)).2 = (r, b, c) := ⟨_, _, _, rfl⟩
    have h2 := stepS_nil k
    rw [e] at h1 h2
    simp only at h2
    subst h2
    rw [runS_bad] at h1
    cases h1
  | k :: ks, x :: l, h => by
    intro hc
    simp only [fitsK] at h
    by_cases hf : fitK k x = true
    · rw [hf, Bool.true_and] at h
      simp only [runS, stepS_fit hf] at hc
      exact runS_not ks l h hc
    · simp at hf
      have h1 : (runS ks (stepS k (x :: l, false, false)).2).2.2.1 = false := hc.2.1
      have h0 : (runS ks (stepS k (x :: l, false, false)).2).2.2.2 = false := hc.1
      obtain ⟨r, b, c, e⟩ : ∃ r b c, (stepS k (x :: l, false, false)).2 = (r, b, c) := ⟨_, _, _, rfl⟩
      have h2 := stepS_no (r := l) hf
      rw [e] at h0 h1 h2
      simp only at h2
      rcases h2 with h2 | h2
      · subst h2
        rw [runS_bad] at h1
        cases h1
      · subst h2
        rw [runS_bad2] at h0
        cases h0
theorem ofS_eq (x : Tv) : ofS x = if msgR x = true then some (ptsOf (shapeS x.tag) x.l) else none := by
  unfold ofS msgR
  by_cases hk : x.kind = 2
  · by_cases he : (shapeS x.tag).isEmpty = false
    · by_cases hf : fitsK (shapeS x.tag) x.l = true
      · rw [runS_fits _ _ hf, if_pos ⟨hk, he, rfl, rfl, rfl⟩, if_pos (by simp [hk, he, hf])]
      · simp at hf
        rw [if_neg (fun hc => runS_not _ _ hf ⟨hc.2.2.1, hc.2.2.2.1, hc.2.2.2.2⟩), if_neg (by simp [hf])]
    · rw [if_neg (fun hc => he hc.2.1), if_neg (by simp at he; simp [he])]
  · rw [if_neg (fun hc => hk hc.1), if_neg (by simp [hk])]
mutual
/-- No bytes are longer than memory has room for. -/
def Bw : Tv → Prop
  | .mk _ _ _ b l => b.length ≤ 140737488351232 ∧ BsW l
def BsW : List Tv → Prop
  | [] => True
  | x :: l => Bw x ∧ BsW l
end
theorem BsW.mem : ∀ {l : List Tv}, BsW l → ∀ x ∈ l, Bw x
  | [], _, x, hx => by simp at hx
  | y :: l, h, x, hx => by
    rcases List.mem_cons.1 hx with e | hx
    · rw [e]; exact h.1
    · exact h.2.mem x hx
theorem BsW.of : ∀ {l : List Tv}, (∀ x ∈ l, Bw x) → BsW l
  | [], _ => trivial
  | y :: l, h => ⟨h y (by simp), BsW.of (fun x hx => h x (by simp [hx]))⟩
def kdOf : Pt → Kd
  | .s _ => .s
  | .n _ => .n
  | .b _ => .b
  | .t _ => .t
  | .i _ => .i
  | .x _ => .x
theorem kd_ptOf (k : Kd) (x : Tv) : kdOf (ptOf k x) = k := by cases k <;> rfl
theorem kd_ptsOf : ∀ (ks : List Kd) (l : List Tv), fitsK ks l = true → (ptsOf ks l).map kdOf = ks
  | [], [], _ => rfl
  | [], _ :: _, h => by simp [fitsK] at h
  | _ :: _, [], h => by simp [fitsK] at h
  | k :: ks, x :: l, h => by
    simp only [fitsK, Bool.and_eq_true] at h
    simp only [ptsOf, List.map_cons, kd_ptOf, kd_ptsOf ks l h.2]
theorem right0 {d : Nat} {k t : Int} {n : Nat} {b : List UInt8} {l : List Tv} (h : rightS (d + 1) (.mk k t n b l) = true) (hk : k = 0) : b = [] ∧ l = [] := by
  subst hk
  simp only [rightS, Bool.and_eq_true, if_true, decide_eq_true_eq] at h
  exact ⟨h.2.1, List.eq_nil_of_length_eq_zero h.2.2⟩
theorem right1 {d : Nat} {k t : Int} {n : Nat} {b : List UInt8} {l : List Tv} (h : rightS (d + 1) (.mk k t n b l) = true) (hk : k = 1) : n = 0 ∧ l = [] := by
  subst hk
  have h : (decide (0 ≤ t) && decide (t ≤ 30) && (decide (n = 0) && decide (l.length = 0))) = true := h
  simp only [Bool.and_eq_true, decide_eq_true_eq] at h
  have h2 := h.2
  exact ⟨h2.1, List.eq_nil_of_length_eq_zero h2.2⟩
theorem right2 {d : Nat} {k t : Int} {n : Nat} {b : List UInt8} {l : List Tv} (h : rightS (d + 1) (.mk k t n b l) = true) (hk : k = 2) : n = 0 ∧ b = [] ∧ l.all (rightS d) = true ∧ 0 ≤ t ∧ t ≤ 30 := by
  subst hk
  have h : (decide (0 ≤ t) && decide (t ≤ 30) && (l.all (rightS d) && decide (n = 0) && decide (b = []))) = true := h
  simp only [Bool.and_eq_true, decide_eq_true_eq] at h
  have h2 := h.2
  exact ⟨h2.1.2, h2.2, h2.1.1, h.1.1, h.1.2⟩
theorem rightS_pos {d : Nat} {x : Tv} (h : rightS d x = true) : ∃ e, d = e + 1 := by
  cases d with
  | zero => simp [rightS] at h
  | succ d => exact ⟨d, rfl⟩
theorem isS_back {d : Nat} {x : Tv} (h : isS x = true) (hr : rightS d x = true) : x = .mk 1 0 0 x.b [] ∧ rightB (tx x.b) = true := by
  obtain ⟨e, rfl⟩ := rightS_pos hr
  obtain ⟨k, t, n, b, l⟩ := x
  have h : (decide (k = 1 ∧ t = 0) && rightB (tx b)) = true := h
  simp only [Bool.and_eq_true, decide_eq_true_eq] at h
  obtain ⟨⟨rfl, rfl⟩, h2⟩ := h
  obtain ⟨rfl, rfl⟩ := right1 hr rfl
  exact ⟨rfl, h2⟩
theorem isB_back {d : Nat} {x : Tv} (h : isB x = true) (hr : rightS d x = true) : x = .mk 1 0 0 x.b [] := by
  obtain ⟨e, rfl⟩ := rightS_pos hr
  obtain ⟨k, t, n, b, l⟩ := x
  have h : k = 1 ∧ t = 0 := of_decide_eq_true h
  obtain ⟨rfl, rfl⟩ := h
  obtain ⟨rfl, rfl⟩ := right1 hr rfl
  rfl
theorem tkR_back {d : Nat} {x : Tv} (h : tkR x = true) (hr : rightS d x = true) : tkTv (tkOf x) = x ∧ rT (tkOf x) = true := by
  have ht := ticketS_eq x
  rw [if_pos h] at ht
  obtain ⟨e, rfl⟩ := rightS_pos hr
  obtain ⟨k, t, n, b, l⟩ := x
  unfold tkR at h
  rw [Bool.and_eq_true] at h
  obtain ⟨hkt, h2⟩ := h
  have hkt : k = 2 ∧ t = 1 := of_decide_eq_true hkt
  obtain ⟨rfl, rfl⟩ := hkt
  simp only [Tv.l] at h2
  obtain ⟨rfl, rfl, hl, _, _⟩ := right2 hr rfl
  match l with
  | [] => simp at h2
  | [a] => simp at h2
  | [a, c] =>
    simp only [Bool.and_eq_true] at h2
    simp only [List.all_cons, List.all_nil, Bool.and_true, Bool.and_eq_true] at hl
    obtain ⟨ha, hra⟩ := isS_back h2.1 hl.1
    have hc := isB_back h2.2 hl.2
    simp only [Tv.l] at ht
    have hto : tkOf (.mk 2 1 0 [] [a, c]) = (a.b, c.b) := by unfold tkOf; rw [ht]; rfl
    rw [hto]
    refine ⟨?_, hra⟩
    show Tv.mk 2 1 0 [] [.mk 1 0 0 a.b [], .mk 1 0 0 c.b []] = _
    rw [← ha, ← hc]
  | a :: b :: c :: l => simp at h2
theorem takeWhile_all {α : Type} (p : α → Bool) : ∀ (l : List α), l.all p = true → l.takeWhile p = l
  | [], _ => rfl
  | x :: l, h => by
    rw [List.all_cons, Bool.and_eq_true] at h
    rw [List.takeWhile_cons, if_pos h.1, takeWhile_all p l h.2]
theorem tkR_backs {d : Nat} : ∀ {l : List Tv}, l.all tkR = true → l.all (rightS d) = true → (l.map tkOf).map tkTv = l ∧ (l.map tkOf).all rT = true
  | [], _, _ => ⟨rfl, rfl⟩
  | x :: l, h, hr => by
    rw [List.all_cons, Bool.and_eq_true] at h hr
    obtain ⟨h1, h2⟩ := tkR_back h.1 hr.1
    obtain ⟨h3, h4⟩ := tkR_backs h.2 hr.2
    exact ⟨by rw [List.map_cons, List.map_cons, h1, h3], by rw [List.map_cons, List.all_cons, h2, h4]; rfl⟩
theorem pt_back {d : Nat} {k : Kd} {x : Tv} (h : fitK k x = true) (hr : rightS d x = true) : ptTv (ptOf k x) = x ∧ ptB (ptOf k x) = true := by
  cases k
  · obtain ⟨h1, h2⟩ := isS_back h hr
    exact ⟨h1.symm, h2⟩
  · obtain ⟨e, rfl⟩ := rightS_pos hr
    obtain ⟨k, t, n, b, l⟩ := x
    have h : (decide (k = 0 ∧ t = 0) && decide (n ≤ maxT)) = true := h
    simp only [Bool.and_eq_true, decide_eq_true_eq] at h
    obtain ⟨⟨rfl, rfl⟩, h2⟩ := h
    obtain ⟨rfl, rfl⟩ := right0 hr rfl
    refine ⟨rfl, ?_⟩
    show timeB (n : Int) = true
    unfold maxT at h2
    simp [timeB]; omega
  · exact ⟨(isB_back h hr).symm, rfl⟩
  · obtain ⟨e, rfl⟩ := rightS_pos hr
    obtain ⟨k, t, n, b, l⟩ := x
    have h : (decide (k = 0 ∧ t = 0) && decide (n ≤ 1)) = true := h
    simp only [Bool.and_eq_true, decide_eq_true_eq] at h
    obtain ⟨⟨rfl, rfl⟩, h2⟩ := h
    obtain ⟨rfl, rfl⟩ := right0 hr rfl
    refine ⟨?_, rfl⟩
    rcases (by omega : n = 0 ∨ n = 1) with rfl | rfl <;> rfl
  · exact tkR_back h hr
  · obtain ⟨e, rfl⟩ := rightS_pos hr
    obtain ⟨k, t, n, b, l⟩ := x
    have h : (decide (k = 2 ∧ t = 0) && (decide (l.length ≤ 1) && l.all tkR)) = true := h
    simp only [Bool.and_eq_true, decide_eq_true_eq] at h
    obtain ⟨⟨rfl, rfl⟩, h2, h3⟩ := h
    obtain ⟨rfl, rfl, hl, _, _⟩ := right2 hr rfl
    obtain ⟨h4, h5⟩ := tkR_backs h3 hl
    refine ⟨?_, ?_⟩
    · show Tv.mk 2 0 0 [] (((l.map tkOf).takeWhile rT).map tkTv) = _
      rw [takeWhile_all _ _ h5, h4]
    · show ((l.map tkOf).all rT && decide ((l.map tkOf).length ≤ 1)) = true
      rw [h5, List.length_map, decide_eq_true h2]; rfl
theorem pts_back {d : Nat} : ∀ {ks : List Kd} {l : List Tv}, fitsK ks l = true → l.all (rightS d) = true → (ptsOf ks l).map ptTv = l ∧ (ptsOf ks l).all ptB = true
  | [], [], _, _ => ⟨rfl, rfl⟩
  | [], _ :: _, h, _ => by simp [fitsK] at h
  | _ :: _, [], h, _ => by simp [fitsK] at h
  | k :: ks, x :: l, h, hr => by
    simp only [fitsK, Bool.and_eq_true] at h
    rw [List.all_cons, Bool.and_eq_true] at hr
    obtain ⟨h1, h2⟩ := pt_back h.1 hr.1
    obtain ⟨h3, h4⟩ := pts_back h.2 hr.2
    exact ⟨by rw [ptsOf, List.map_cons, h1, h3], by rw [ptsOf, List.all_cons, h2, h4]; rfl⟩
def msgTv (t : Int) (pts : List Pt) : Tv := .mk 2 t 0 [] (pts.map ptTv)
/-- What a message's value is read as has that value. -/
theorem msg_back {d : Nat} {x : Tv} (hr : rightS d x = true) (h : msgR x = true) : msgTv x.tag (ptsOf (shapeS x.tag) x.l) = x ∧ (ptsOf (shapeS x.tag) x.l).all ptB = true ∧ (ptsOf (shapeS x.tag) x.l).map kdOf = shapeS x.tag ∧ (shapeS x.tag).isEmpty = false := by
  obtain ⟨e, rfl⟩ := rightS_pos hr
  obtain ⟨k, t, n, b, l⟩ := x
  have h : (decide (k = 2) && (!(shapeS t).isEmpty && fitsK (shapeS t) l)) = true := h
  simp only [Bool.and_eq_true, decide_eq_true_eq, Bool.not_eq_true'] at h
  obtain ⟨rfl, h2, h3⟩ := h
  obtain ⟨rfl, rfl, hl, _, _⟩ := right2 hr rfl
  obtain ⟨h4, h5⟩ := pts_back h3 hl
  exact ⟨by unfold msgTv; rw [Tv.l, Tv.tag, h4], h5, kd_ptsOf _ _ h3, h2⟩
/-! ### The other way -/
theorem timeB_iff (x : Int) : timeB x = true ↔ 0 ≤ x ∧ x ≤ 1099511627776 := by simp [timeB]
theorem shape_tag {t : Int} (h : (shapeS t).isEmpty = false) : 11 ≤ t ∧ t ≤ 22 := by
  unfold shapeS at h
  refine ⟨Decidable.byContradiction fun hn => ?_, Decidable.byContradiction fun hn => ?_⟩
  all_goals
    rw [if_neg (by omega), if_neg (by omega), if_neg (by omega), if_neg (by omega), if_neg (by omega), if_neg (by omega), if_neg (by omega), if_neg (by omega), if_neg (by omega), if_neg (by omega), if_neg (by omega), if_neg (by omega)] at h
    simp at h
end Go.Proofs.Ytofmkkcbfeadgaa
namespace Go.Proofs.Ytofmkkcbfeadgaa
set_option linter.unusedSimpArgs false
set_option linter.unusedVariables false
open Go.RowKit Go.Lib
/-- The runes of a row of bytes. -/
def ruF : Nat → List UInt8 → List Int
  | 0, _ => []
  | f + 1, l => if l = [] then [] else ((decodeL l).1 : Int) :: ruF f (l.drop (decodeL l).2)
def ru (l : List UInt8) : List Int := ruF l.length l
theorem width_posL (l : List UInt8) (h : l ≠ []) : 1 ≤ (decodeL l).2 := by
  have hl : 0 < l.length := List.length_pos_iff.2 h
  exact Lib.decode_width_pos ⟨l.toArray⟩ 0 (by simpa [ByteArray.size] using hl)
theorem ruF_more : ∀ (f f' : Nat) (l : List UInt8), l.length ≤ f → l.length ≤ f' → ruF f l = ruF f' l
  | 0, 0, _, _, _ => rfl
  | 0, f' + 1, l, h, _ => by rw [ruF, ruF, if_pos (List.eq_nil_of_length_eq_zero (by omega))]
  | f + 1, 0, l, _, h => by rw [ruF, ruF, if_pos (List.eq_nil_of_length_eq_zero (by omega))]
  | f + 1, f' + 1, l, h, h' => by
    rw [ruF, ruF]
    split
    · rfl
    · next hne =>
      have := width_posL l hne
      rw [ruF_more f f' _ (by rw [List.length_drop]; omega) (by rw [List.length_drop]; omega)]
theorem ru_nil : ru [] = [] := rfl
theorem ru_step (l : List UInt8) (h : l ≠ []) : ru l = ((decodeL l).1 : Int) :: ru (l.drop (decodeL l).2) := by
  have hl : 0 < l.length := List.length_pos_iff.2 h
  have := width_posL l h
  obtain ⟨f, hf⟩ : ∃ f, l.length = f + 1 := ⟨l.length - 1, by omega⟩
  unfold ru
  rw [hf, ruF, if_neg h, ruF_more f _ _ (by rw [List.length_drop]; omega) (Nat.le_refl _)]
theorem size_toList (s : ByteArray) : s.data.toList.length = s.size := Array.length_toList
theorem rs_ru (s : ByteArray) : ∀ (f p : Nat), s.size ≤ p + f → (rs s p).map Prod.snd = ru (s.data.toList.drop p)
  | 0, p, h => by
    rw [rs_end s p (by omega), List.drop_of_length_le (by rw [size_toList]; omega)]
    rfl
  | f + 1, p, h => by
    by_cases hp : p < s.size
    · have hne : s.data.toList.drop p ≠ [] := by
        intro e
        have := congrArg List.length e
        rw [List.length_drop, size_toList] at this
        simp at this
        omega
      have := Lib.decode_width_pos s p hp
      rw [rs_step s p hp, List.map_cons, rs_ru s f _ (by omega), ru_step _ hne, decodeL_drop, List.drop_drop]
    · rw [rs_end s p hp, List.drop_of_length_le (by rw [size_toList]; omega)]
      rfl
/-- A rune that is well formed. -/
def okR (r : Int) : Prop := (0 ≤ r ∧ r < 55296) ∨ (57344 ≤ r ∧ r ≤ 1114111)
theorem ru_ok (l : List UInt8) : ∀ r ∈ ru l, okR r := by
  suffices ∀ (f : Nat) (l : List UInt8), l.length ≤ f → ∀ r ∈ ru l, okR r from this l.length l (Nat.le_refl _)
  intro f
  induction f with
  | zero =>
    intro l h r hr
    rw [List.eq_nil_of_length_eq_zero (by omega : l.length = 0), ru_nil] at hr
    cases hr
  | succ f ih =>
    intro l h r hr
    by_cases hne : l = []
    · rw [hne, ru_nil] at hr; cases hr
    · have := width_posL l hne
      rw [ru_step l hne] at hr
      rcases List.mem_cons.1 hr with rfl | hr
      · have h := Go.Lib.decodeN_valid l.length (l.getD 0 0).toNat (l.getD 1 0).toNat (l.getD 2 0).toNat (l.getD 3 0).toNat (UInt8.toNat_lt _)
        rw [← decodeL_N] at h
        unfold okR
        omega
      · exact ih _ (by rw [List.length_drop]; omega) r hr
theorem numB_iff (r : Int) : numB r = true ↔ (48 ≤ r ∧ r ≤ 57 ∨ 45 ≤ r ∧ r ≤ 45) := by
  simp only [numB, inB, numL, List.any_cons, List.any_nil, Sp.has, Bool.or_false, Bool.or_eq_true, Bool.and_eq_true, decide_eq_true_eq]
/-- The document's rune: -1, and one byte: none that is well formed. -/
def refR (d : Nat × Nat) : Int × Nat := if d.1 = 65533 ∧ d.2 = 1 then (-1, 1) else (d.1, d.2)
theorem refR_wide (x k : Nat) (h : k ≠ 1) : refR (x, k) = ((x : Int), k) := by
  unfold refR
  rw [if_neg (fun e => h e.2)]
theorem ref_one (n b0 b1 b2 b3 : Nat) (h : b0 < 128) : refR (decodeN n b0 b1 b2 b3) = ((b0 : Int), 1) := by
  unfold decodeN
  rw [if_pos h]
  unfold refR
  rw [if_neg (by simp only; omega)]
theorem ref_bad (n b0 b1 b2 b3 : Nat) (h : 128 ≤ b0) (h' : b0 < 194 ∨ 244 < b0) (h2 : b0 < 256) : refR (decodeN n b0 b1 b2 b3) = (-1, 1) := by
  have : decodeN n b0 b1 b2 b3 = (65533, 1) := by
    unfold decodeN
    repeat' split
    all_goals first | rfl | (exfalso; omega)
  rw [this]
  rfl
theorem ref_two_no (n b0 b1 b2 b3 : Nat) (h : 194 ≤ b0 ∧ b0 ≤ 223) (hb1 : b1 < 256) (hn : n < 2 ∨ b1 < 128 ∨ 191 < b1) : refR (decodeN n b0 b1 b2 b3) = (-1, 1) := by
  have : decodeN n b0 b1 b2 b3 = (65533, 1) := by
    unfold decodeN
    repeat' split
    all_goals first | rfl | (exfalso; omega)
  rw [this]
  rfl
theorem ref_two (n b0 b1 b2 b3 : Nat) (h : 194 ≤ b0 ∧ b0 ≤ 223) (hn : 2 ≤ n) (hb1 : 128 ≤ b1 ∧ b1 ≤ 191) : refR (decodeN n b0 b1 b2 b3) = ((((b0 - 192) * 64 + (b1 - 128) : Nat) : Int), 2) := by
  have : decodeN n b0 b1 b2 b3 = ((b0 - 192) * 64 + (b1 - 128), 2) := by
    unfold decodeN
    rw [if_neg (by omega), if_pos (by omega), if_pos (by omega)]
    exact congrArg (fun y => (y, 2)) (by omega)
  rw [this]
  exact refR_wide _ _ (by decide)
theorem ref_three_no (n b0 b1 b2 b3 : Nat) (h : 224 ≤ b0 ∧ b0 ≤ 239) (hb1 : b1 < 256) (hb2 : b2 < 256) (hn : n < 3 ∨ b1 < 128 ∨ 191 < b1 ∨ b2 < 128 ∨ 191 < b2) : refR (decodeN n b0 b1 b2 b3) = (-1, 1) := by
  have : decodeN n b0 b1 b2 b3 = (65533, 1) := by
    unfold decodeN
    repeat' split
    all_goals first | rfl | (exfalso; omega)
  rw [this]
  rfl
theorem ref_three (n b0 b1 b2 b3 : Nat) (h : 224 ≤ b0 ∧ b0 ≤ 239) (hn : 3 ≤ n) (hb1 : 128 ≤ b1 ∧ b1 ≤ 191) (hb2 : 128 ≤ b2 ∧ b2 ≤ 191) (x : Nat) (hx : x = ((b0 - 224) * 64 + (b1 - 128)) * 64 + (b2 - 128)) :
    refR (decodeN n b0 b1 b2 b3) = if x < 2048 ∨ 1114111 < x ∨ (55296 ≤ x ∧ x ≤ 57343) then (-1, 1) else ((x : Int), 3) := by
  have hv : b0 % 16 * 4096 + b1 % 64 * 64 + b2 % 64 = x := by omega
  unfold decodeN
  rw [if_neg (by omega), if_neg (by omega), if_pos (by omega), hv]
  by_cases hb : x < 2048 ∨ 1114111 < x ∨ (55296 ≤ x ∧ x ≤ 57343)
  · rw [if_pos hb, if_neg (by omega)]; rfl
  · rw [if_neg hb, if_pos (by omega)]; exact refR_wide _ _ (by decide)
theorem ref_four_no (n b0 b1 b2 b3 : Nat) (h : 240 ≤ b0 ∧ b0 ≤ 244) (hb1 : b1 < 256) (hb2 : b2 < 256) (hb3 : b3 < 256) (hn : n < 4 ∨ b1 < 128 ∨ 191 < b1 ∨ b2 < 128 ∨ 191 < b2 ∨ b3 < 128 ∨ 191 < b3) : refR (decodeN n b0 b1 b2 b3) = (-1, 1) := by
  have : decodeN n b0 b1 b2 b3 = (65533, 1) := by
    unfold decodeN
    repeat' split
    all_goals first | rfl | (exfalso; omega)
  rw [this]
  rfl
theorem ref_four (n b0 b1 b2 b3 : Nat) (h : 240 ≤ b0 ∧ b0 ≤ 244) (hn : 4 ≤ n) (hb1 : 128 ≤ b1 ∧ b1 ≤ 191) (hb2 : 128 ≤ b2 ∧ b2 ≤ 191) (hb3 : 128 ≤ b3 ∧ b3 ≤ 191) (x : Nat) (hx : x = (((b0 - 240) * 64 + (b1 - 128)) * 64 + (b2 - 128)) * 64 + (b3 - 128)) :
    refR (decodeN n b0 b1 b2 b3) = if x < 65536 ∨ 1114111 < x ∨ (55296 ≤ x ∧ x ≤ 57343) then (-1, 1) else ((x : Int), 4) := by
  have hv : b0 % 8 * 262144 + b1 % 64 * 4096 + b2 % 64 * 64 + b3 % 64 = x := by omega
  unfold decodeN
  rw [if_neg (by omega), if_neg (by omega), if_neg (by omega), if_pos (by omega), hv]
  by_cases hb : x < 65536 ∨ 1114111 < x ∨ (55296 ≤ x ∧ x ≤ 57343)
  · rw [if_pos hb, if_neg (by omega)]; rfl
  · rw [if_neg hb, if_pos (by omega)]; exact refR_wide _ _ (by decide)
set_option maxHeartbeats 4000000 in
set_option maxRecDepth 100000 in
theorem refRune_any (s : ByteArray) (w : World) (hs : s.size ≤ maxLen) (h0 : 0 < s.size) :
    Calls Try.prog 52 #[.string s] w fun e w' => e = .returned (.tuple #[.int .i64 (refR (Utf8.decode s 0)).1, .int .i64 (refR (Utf8.decode s 0)).2]) ∧ w = w' := by
  unfold maxLen at hs
  have hb : ∀ (k : Nat) (h : k < s.size), (s.get! k).toNat < 256 ∧ wrap64 ((s[k]'h).toNat : Int) = ((s.get! k).toNat : Int) := by
    intro k h
    have h1 := (s.get! k).toNat_lt
    have h2 := get_at s k h
    rw [Nat.add_zero] at h2
    rw [← h2]
    refine ⟨h1, ?_⟩
    rw [wrap64]
    omega
  have hdec : refR (Utf8.decode s 0) = refR (decodeN s.size (s.get! 0).toNat (s.get! 1).toNat (s.get! 2).toNat (s.get! 3).toNat) := by
    rw [decode_at s 0, Nat.sub_zero]
  rw [hdec]
  obtain ⟨hx0, hy0⟩ := hb 0 h0
  have hx1 := (s.get! 1).toNat_lt
  have hx2 := (s.get! 2).toNat_lt
  have hx3 := (s.get! 3).toNat_lt
  have HB := hI hb
  clear hb hdec
  generalize hb0 : (s.get! 0).toNat = b0 at *
  generalize hb1 : (s.get! 1).toNat = b1 at *
  generalize hb2 : (s.get! 2).toNat = b2 at *
  generalize hb3 : (s.get! 3).toNat = b3 at *
  have HB1 := hI hb1
  have HB2 := hI hb2
  have HB3 := hI hb3
  clear hb0 hb1 hb2 hb3
  have HX1 := hI hx1
  have HX2 := hI hx2
  have HX3 := hI hx3
  clear hx1 hx2 hx3
  obtain ⟨D, hD⟩ : ∃ D, D = refR (decodeN s.size b0 b1 b2 b3) := ⟨_, rfl⟩
  rw [← hD]
  have HD := hI hD
  clear hD
  go_enter Try.func52, Try.ntmps52
  rcases (by omega : b0 < 128 ∨ (128 ≤ b0 ∧ b0 < 194) ∨ (194 ≤ b0 ∧ b0 ≤ 223) ∨ (224 ≤ b0 ∧ b0 ≤ 239) ∨ (240 ≤ b0 ∧ b0 ≤ 244) ∨ 244 < b0) with k | ⟨k, k'⟩ | ⟨k, k'⟩ | ⟨k, k'⟩ | ⟨k, k'⟩ | k
  · have hD := HD.out.trans (ref_one _ _ _ _ _ k)
    have HD' := hI hD
    have k1 : (b0 : Int) < 128 := by omega
    clear hD k HD
    go_wp2_with fail
    go_ret2
    rw [HD'.out]
    show Ending.returned (.tuple #[.int .i64 (wrap64 ((s[0]'h0).toNat : Int)), .int .i64 1]) = _ ∧ _
    rw [hy0]
    exact ⟨rfl, rfl⟩
  · have hD := HD.out.trans (ref_bad _ _ _ _ _ (by omega) (by omega) hx0)
    have HD' := hI hD
    have k1 : ¬ (b0 : Int) < 128 := by omega
    have k2 : ¬ (194 : Int) ≤ (b0 : Int) := by omega
    have k3 : ¬ (224 : Int) ≤ (b0 : Int) := by omega
    have k4 : ¬ (240 : Int) ≤ (b0 : Int) := by omega
    clear hD k k' HD
    go_wp2_with fail
    go_ret2
    rw [HD'.out]
    exact ⟨rfl, rfl⟩
  · have K := hI (And.intro k k')
    have k1 : ¬ (b0 : Int) < 128 := by omega
    have k2 : (194 : Int) ≤ (b0 : Int) := by omega
    have k3 : (b0 : Int) ≤ 223 := by omega
    obtain ⟨L, hL, hL2⟩ : ∃ L : Nat, L = b0 - 192 ∧ ((b0 : Int) - 192 = (L : Int)) := ⟨_, rfl, by omega⟩
    have hL3 : L < 32 := by omega
    have HL := hI hL
    clear hL k k'
    by_cases hn : s.size < 2
    · have HD' := hI (HD.out.trans (ref_two_no _ _ _ _ _ ⟨K.out.1, K.out.2⟩ HX1.out (.inl hn)))
      have hn1 : (s.size : Int) < 2 := by omega
      clear hn HD
      go_wp2_with fail
      go_ret2
      rw [HD'.out]
      exact ⟨rfl, rfl⟩
    · have hn1 : ¬ (s.size : Int) < 2 := by omega
      go_wp2_with fail
      go_loopw [4, 7] (fun av kv wr => ∃ k a : Nat, av = .int .i64 a ∧ kv = .int .i64 k ∧ wr = w ∧ ((k = 1 ∧ a = L) ∨ (k = 2 ∧ 128 ≤ b1 ∧ b1 ≤ 191 ∧ a = (L * 64 + (b1 - 128))))) (fun _ kv _ => 2 - (intOf kv).toNat)
      case atStart => exact ⟨1, L, by go_num, rfl, rfl, .inl ⟨rfl, rfl⟩⟩
      case round =>
        obtain ⟨k, a, rfl, rfl, rfl, hk⟩ := hrel
        rcases hk with ⟨rfl, hak⟩ | ⟨rfl, c1, d1, hak⟩
        · obtain ⟨hw, hy⟩ := HB.out 1 (by omega)
          rw [HB1.out] at hw hy
          have hlt : 1 < s.size := by omega
          have haa : a < 32 := by omega
          have HAK := hI hak
          clear hak
          rcases (by omega : b1 < 128 ∨ 191 < b1 ∨ (128 ≤ b1 ∧ b1 ≤ 191)) with q | q | ⟨q, q'⟩
          · have HD' := hI (HD.out.trans (ref_two_no _ _ _ _ _ ⟨K.out.1, K.out.2⟩ HX1.out (.inr (by omega))))
            have q1 : (b1 : Int) < 128 := by omega
            clear q HD
            go_wp2_with fail
            go_ret2
            rw [HD'.out]
            exact ⟨rfl, rfl⟩
          · have HD' := hI (HD.out.trans (ref_two_no _ _ _ _ _ ⟨K.out.1, K.out.2⟩ HX1.out (.inr (by omega))))
            have q1 : ¬ (b1 : Int) < 128 := by omega
            have q2 : (191 : Int) < (b1 : Int) := by omega
            clear q HD
            go_wp2_with fail
            go_ret2
            rw [HD'.out]
            exact ⟨rfl, rfl⟩
          · have q1 : ¬ (b1 : Int) < 128 := by omega
            have q2 : ¬ (191 : Int) < (b1 : Int) := by omega
            go_wp2_with fail
            go_roundw
            case rel =>
              have hak := HAK.out
              exact ⟨2, a * 64 + (b1 - 128), by go_num, by go_num, by first | rfl | trivial, .inr (⟨by omega, q, q', by omega⟩)⟩
            case measure => simp [intOf]
        · have haa : a < 2048 := by omega
          have hl : a = (b0 - 192) * 64 + (b1 - 128) := by have := HL.out; omega
          have HD' := hI (HD.out.trans (ref_two _ _ _ _ _ ⟨K.out.1, K.out.2⟩ (by omega) ⟨c1, d1⟩))
          rw [← hl] at HD'
          have g1 : ¬ (a : Int) < 128 := by have := K.out; omega
          have g2 : ¬ (1114111 : Int) < (a : Int) := by omega
          have g3 : ¬ (55296 : Int) ≤ (a : Int) := by omega
          clear hl hak HD c1 d1
          go_wp2_with fail
          go_ret2
          rw [HD'.out]
          exact ⟨rfl, rfl⟩
  · have K := hI (And.intro k k')
    have k1 : ¬ (b0 : Int) < 128 := by omega
    have k2 : (194 : Int) ≤ (b0 : Int) := by omega
    have k3 : ¬ (b0 : Int) ≤ 223 := by omega
    have k4 : (224 : Int) ≤ (b0 : Int) := by omega
    have k5 : (b0 : Int) ≤ 239 := by omega
    obtain ⟨L, hL, hL2⟩ : ∃ L : Nat, L = b0 - 224 ∧ ((b0 : Int) - 224 = (L : Int)) := ⟨_, rfl, by omega⟩
    have hL3 : L < 32 := by omega
    have HL := hI hL
    clear hL k k'
    by_cases hn : s.size < 3
    · have HD' := hI (HD.out.trans (ref_three_no _ _ _ _ _ ⟨K.out.1, K.out.2⟩ HX1.out HX2.out (.inl hn)))
      have hn1 : (s.size : Int) < 3 := by omega
      clear hn HD
      go_wp2_with fail
      go_ret2
      rw [HD'.out]
      exact ⟨rfl, rfl⟩
    · have hn1 : ¬ (s.size : Int) < 3 := by omega
      go_wp2_with fail
      go_loopw [4, 7] (fun av kv wr => ∃ k a : Nat, av = .int .i64 a ∧ kv = .int .i64 k ∧ wr = w ∧ ((k = 1 ∧ a = L) ∨ (k = 2 ∧ 128 ≤ b1 ∧ b1 ≤ 191 ∧ a = (L * 64 + (b1 - 128))) ∨ (k = 3 ∧ 128 ≤ b1 ∧ b1 ≤ 191 ∧ 128 ≤ b2 ∧ b2 ≤ 191 ∧ a = ((L * 64 + (b1 - 128)) * 64 + (b2 - 128))))) (fun _ kv _ => 3 - (intOf kv).toNat)
      case atStart => exact ⟨1, L, by go_num, rfl, rfl, .inl ⟨rfl, rfl⟩⟩
      case round =>
        obtain ⟨k, a, rfl, rfl, rfl, hk⟩ := hrel
        rcases hk with ⟨rfl, hak⟩ | ⟨rfl, c1, d1, hak⟩ | ⟨rfl, c1, d1, c2, d2, hak⟩
        · obtain ⟨hw, hy⟩ := HB.out 1 (by omega)
          rw [HB1.out] at hw hy
          have hlt : 1 < s.size := by omega
          have haa : a < 32 := by omega
          have HAK := hI hak
          clear hak
          rcases (by omega : b1 < 128 ∨ 191 < b1 ∨ (128 ≤ b1 ∧ b1 ≤ 191)) with q | q | ⟨q, q'⟩
          · have HD' := hI (HD.out.trans (ref_three_no _ _ _ _ _ ⟨K.out.1, K.out.2⟩ HX1.out HX2.out (.inr (by omega))))
            have q1 : (b1 : Int) < 128 := by omega
            clear q HD
            go_wp2_with fail
            go_ret2
            rw [HD'.out]
            exact ⟨rfl, rfl⟩
          · have HD' := hI (HD.out.trans (ref_three_no _ _ _ _ _ ⟨K.out.1, K.out.2⟩ HX1.out HX2.out (.inr (by omega))))
            have q1 : ¬ (b1 : Int) < 128 := by omega
            have q2 : (191 : Int) < (b1 : Int) := by omega
            clear q HD
            go_wp2_with fail
            go_ret2
            rw [HD'.out]
            exact ⟨rfl, rfl⟩
          · have q1 : ¬ (b1 : Int) < 128 := by omega
            have q2 : ¬ (191 : Int) < (b1 : Int) := by omega
            go_wp2_with fail
            go_roundw
            case rel =>
              have hak := HAK.out
              exact ⟨2, a * 64 + (b1 - 128), by go_num, by go_num, by first | rfl | trivial, .inr (.inl ⟨by omega, q, q', by omega⟩)⟩
            case measure => simp [intOf]
        · obtain ⟨hw, hy⟩ := HB.out 2 (by omega)
          rw [HB2.out] at hw hy
          have hlt : 2 < s.size := by omega
          have haa : a < 2048 := by omega
          have HAK := hI hak
          clear hak
          rcases (by omega : b2 < 128 ∨ 191 < b2 ∨ (128 ≤ b2 ∧ b2 ≤ 191)) with q | q | ⟨q, q'⟩
          · have HD' := hI (HD.out.trans (ref_three_no _ _ _ _ _ ⟨K.out.1, K.out.2⟩ HX1.out HX2.out (.inr (by omega))))
            have q1 : (b2 : Int) < 128 := by omega
            clear q HD
            go_wp2_with fail
            go_ret2
            rw [HD'.out]
            exact ⟨rfl, rfl⟩
          · have HD' := hI (HD.out.trans (ref_three_no _ _ _ _ _ ⟨K.out.1, K.out.2⟩ HX1.out HX2.out (.inr (by omega))))
            have q1 : ¬ (b2 : Int) < 128 := by omega
            have q2 : (191 : Int) < (b2 : Int) := by omega
            clear q HD
            go_wp2_with fail
            go_ret2
            rw [HD'.out]
            exact ⟨rfl, rfl⟩
          · have q1 : ¬ (b2 : Int) < 128 := by omega
            have q2 : ¬ (191 : Int) < (b2 : Int) := by omega
            go_wp2_with fail
            go_roundw
            case rel =>
              have hak := HAK.out
              exact ⟨3, a * 64 + (b2 - 128), by go_num, by go_num, by first | rfl | trivial, .inr (.inr (⟨by omega, c1, d1, q, q', by omega⟩))⟩
            case measure => simp [intOf]
        · have haa : a < 131072 := by omega
          have hl : a = ((b0 - 224) * 64 + (b1 - 128)) * 64 + (b2 - 128) := by have := HL.out; omega
          have hD' := HD.out.trans (ref_three _ _ _ _ _ ⟨K.out.1, K.out.2⟩ (by omega) ⟨c1, d1⟩ ⟨c2, d2⟩ a hl)
          clear hl hak HD c1 d1 c2 d2
          rcases (by omega : a < 2048 ∨ (2048 ≤ a ∧ 1114111 < a) ∨ (2048 ≤ a ∧ 55296 ≤ a ∧ a ≤ 57343) ∨ (2048 ≤ a ∧ a < 55296) ∨ (2048 ≤ a ∧ 57343 < a ∧ a ≤ 1114111)) with q | ⟨q, q'⟩ | ⟨q, q', q''⟩ | ⟨q, q'⟩ | ⟨q, q', q''⟩
          · rw [if_pos (by omega)] at hD'
            have HD' := hI hD'
            have g1 : (a : Int) < 2048 := by omega
            clear hD'
            go_wp2_with fail
            go_ret2
            rw [HD'.out]
            exact ⟨rfl, rfl⟩
          · rw [if_pos (by omega)] at hD'
            have HD' := hI hD'
            have g1 : ¬ (a : Int) < 2048 := by omega
            have g2 : (1114111 : Int) < (a : Int) := by omega
            clear hD'
            go_wp2_with fail
            go_ret2
            rw [HD'.out]
            exact ⟨rfl, rfl⟩
          · rw [if_pos (by omega)] at hD'
            have HD' := hI hD'
            have g1 : ¬ (a : Int) < 2048 := by omega
            have g2 : ¬ (1114111 : Int) < (a : Int) := by omega
            have g3 : (55296 : Int) ≤ (a : Int) := by omega
            have g4 : (a : Int) ≤ 57343 := by omega
            clear hD'
            go_wp2_with fail
            go_ret2
            rw [HD'.out]
            exact ⟨rfl, rfl⟩
          · rw [if_neg (by omega)] at hD'
            have HD' := hI hD'
            have g1 : ¬ (a : Int) < 2048 := by omega
            have g2 : ¬ (1114111 : Int) < (a : Int) := by omega
            have g3 : ¬ (55296 : Int) ≤ (a : Int) := by omega
            clear hD'
            go_wp2_with fail
            go_ret2
            rw [HD'.out]
            exact ⟨rfl, rfl⟩
          · rw [if_neg (by omega)] at hD'
            have HD' := hI hD'
            have g1 : ¬ (a : Int) < 2048 := by omega
            have g2 : ¬ (1114111 : Int) < (a : Int) := by omega
            have g3 : (55296 : Int) ≤ (a : Int) := by omega
            have g4 : ¬ (a : Int) ≤ 57343 := by omega
            clear hD'
            go_wp2_with fail
            go_ret2
            rw [HD'.out]
            exact ⟨rfl, rfl⟩
  · have K := hI (And.intro k k')
    have k1 : ¬ (b0 : Int) < 128 := by omega
    have k2 : (194 : Int) ≤ (b0 : Int) := by omega
    have k3 : ¬ (b0 : Int) ≤ 223 := by omega
    have k4 : (224 : Int) ≤ (b0 : Int) := by omega
    have k5 : ¬ (b0 : Int) ≤ 239 := by omega
    have k6 : (240 : Int) ≤ (b0 : Int) := by omega
    have k7 : (b0 : Int) ≤ 244 := by omega
    obtain ⟨L, hL, hL2⟩ : ∃ L : Nat, L = b0 - 240 ∧ ((b0 : Int) - 240 = (L : Int)) := ⟨_, rfl, by omega⟩
    have hL3 : L < 32 := by omega
    have HL := hI hL
    clear hL k k'
    by_cases hn : s.size < 4
    · have HD' := hI (HD.out.trans (ref_four_no _ _ _ _ _ ⟨K.out.1, K.out.2⟩ HX1.out HX2.out HX3.out (.inl hn)))
      have hn1 : (s.size : Int) < 4 := by omega
      clear hn HD
      go_wp2_with fail
      go_ret2
      rw [HD'.out]
      exact ⟨rfl, rfl⟩
    · have hn1 : ¬ (s.size : Int) < 4 := by omega
      go_wp2_with fail
      go_loopw [4, 7] (fun av kv wr => ∃ k a : Nat, av = .int .i64 a ∧ kv = .int .i64 k ∧ wr = w ∧ ((k = 1 ∧ a = L) ∨ (k = 2 ∧ 128 ≤ b1 ∧ b1 ≤ 191 ∧ a = (L * 64 + (b1 - 128))) ∨ (k = 3 ∧ 128 ≤ b1 ∧ b1 ≤ 191 ∧ 128 ≤ b2 ∧ b2 ≤ 191 ∧ a = ((L * 64 + (b1 - 128)) * 64 + (b2 - 128))) ∨ (k = 4 ∧ 128 ≤ b1 ∧ b1 ≤ 191 ∧ 128 ≤ b2 ∧ b2 ≤ 191 ∧ 128 ≤ b3 ∧ b3 ≤ 191 ∧ a = (((L * 64 + (b1 - 128)) * 64 + (b2 - 128)) * 64 + (b3 - 128))))) (fun _ kv _ => 4 - (intOf kv).toNat)
      case atStart => exact ⟨1, L, by go_num, rfl, rfl, .inl ⟨rfl, rfl⟩⟩
      case round =>
        obtain ⟨k, a, rfl, rfl, rfl, hk⟩ := hrel
        rcases hk with ⟨rfl, hak⟩ | ⟨rfl, c1, d1, hak⟩ | ⟨rfl, c1, d1, c2, d2, hak⟩ | ⟨rfl, c1, d1, c2, d2, c3, d3, hak⟩
        · obtain ⟨hw, hy⟩ := HB.out 1 (by omega)
          rw [HB1.out] at hw hy
          have hlt : 1 < s.size := by omega
          have haa : a < 32 := by omega
          have HAK := hI hak
          clear hak
          rcases (by omega : b1 < 128 ∨ 191 < b1 ∨ (128 ≤ b1 ∧ b1 ≤ 191)) with q | q | ⟨q, q'⟩
          · have HD' := hI (HD.out.trans (ref_four_no _ _ _ _ _ ⟨K.out.1, K.out.2⟩ HX1.out HX2.out HX3.out (.inr (by omega))))
            have q1 : (b1 : Int) < 128 := by omega
            clear q HD
            go_wp2_with fail
            go_ret2
            rw [HD'.out]
            exact ⟨rfl, rfl⟩
          · have HD' := hI (HD.out.trans (ref_four_no _ _ _ _ _ ⟨K.out.1, K.out.2⟩ HX1.out HX2.out HX3.out (.inr (by omega))))
            have q1 : ¬ (b1 : Int) < 128 := by omega
            have q2 : (191 : Int) < (b1 : Int) := by omega
            clear q HD
            go_wp2_with fail
            go_ret2
            rw [HD'.out]
            exact ⟨rfl, rfl⟩
          · have q1 : ¬ (b1 : Int) < 128 := by omega
            have q2 : ¬ (191 : Int) < (b1 : Int) := by omega
            go_wp2_with fail
            go_roundw
            case rel =>
              have hak := HAK.out
              exact ⟨2, a * 64 + (b1 - 128), by go_num, by go_num, by first | rfl | trivial, .inr (.inl ⟨by omega, q, q', by omega⟩)⟩
            case measure => simp [intOf]
        · obtain ⟨hw, hy⟩ := HB.out 2 (by omega)
          rw [HB2.out] at hw hy
          have hlt : 2 < s.size := by omega
          have haa : a < 2048 := by omega
          have HAK := hI hak
          clear hak
          rcases (by omega : b2 < 128 ∨ 191 < b2 ∨ (128 ≤ b2 ∧ b2 ≤ 191)) with q | q | ⟨q, q'⟩
          · have HD' := hI (HD.out.trans (ref_four_no _ _ _ _ _ ⟨K.out.1, K.out.2⟩ HX1.out HX2.out HX3.out (.inr (by omega))))
            have q1 : (b2 : Int) < 128 := by omega
            clear q HD
            go_wp2_with fail
            go_ret2
            rw [HD'.out]
            exact ⟨rfl, rfl⟩
          · have HD' := hI (HD.out.trans (ref_four_no _ _ _ _ _ ⟨K.out.1, K.out.2⟩ HX1.out HX2.out HX3.out (.inr (by omega))))
            have q1 : ¬ (b2 : Int) < 128 := by omega
            have q2 : (191 : Int) < (b2 : Int) := by omega
            clear q HD
            go_wp2_with fail
            go_ret2
            rw [HD'.out]
            exact ⟨rfl, rfl⟩
          · have q1 : ¬ (b2 : Int) < 128 := by omega
            have q2 : ¬ (191 : Int) < (b2 : Int) := by omega
            go_wp2_with fail
            go_roundw
            case rel =>
              have hak := HAK.out
              exact ⟨3, a * 64 + (b2 - 128), by go_num, by go_num, by first | rfl | trivial, .inr (.inr (.inl ⟨by omega, c1, d1, q, q', by omega⟩))⟩
            case measure => simp [intOf]
        · obtain ⟨hw, hy⟩ := HB.out 3 (by omega)
          rw [HB3.out] at hw hy
          have hlt : 3 < s.size := by omega
          have haa : a < 131072 := by omega
          have HAK := hI hak
          clear hak
          rcases (by omega : b3 < 128 ∨ 191 < b3 ∨ (128 ≤ b3 ∧ b3 ≤ 191)) with q | q | ⟨q, q'⟩
          · have HD' := hI (HD.out.trans (ref_four_no _ _ _ _ _ ⟨K.out.1, K.out.2⟩ HX1.out HX2.out HX3.out (.inr (by omega))))
            have q1 : (b3 : Int) < 128 := by omega
            clear q HD
            go_wp2_with fail
            go_ret2
            rw [HD'.out]
            exact ⟨rfl, rfl⟩
          · have HD' := hI (HD.out.trans (ref_four_no _ _ _ _ _ ⟨K.out.1, K.out.2⟩ HX1.out HX2.out HX3.out (.inr (by omega))))
            have q1 : ¬ (b3 : Int) < 128 := by omega
            have q2 : (191 : Int) < (b3 : Int) := by omega
            clear q HD
            go_wp2_with fail
            go_ret2
            rw [HD'.out]
            exact ⟨rfl, rfl⟩
          · have q1 : ¬ (b3 : Int) < 128 := by omega
            have q2 : ¬ (191 : Int) < (b3 : Int) := by omega
            go_wp2_with fail
            go_roundw
            case rel =>
              have hak := HAK.out
              exact ⟨4, a * 64 + (b3 - 128), by go_num, by go_num, by first | rfl | trivial, .inr (.inr (.inr (⟨by omega, c1, d1, c2, d2, q, q', by omega⟩)))⟩
            case measure => simp [intOf]
        · have haa : a < 8388608 := by omega
          have hl : a = (((b0 - 240) * 64 + (b1 - 128)) * 64 + (b2 - 128)) * 64 + (b3 - 128) := by have := HL.out; omega
          have hD' := HD.out.trans (ref_four _ _ _ _ _ ⟨K.out.1, K.out.2⟩ (by omega) ⟨c1, d1⟩ ⟨c2, d2⟩ ⟨c3, d3⟩ a hl)
          clear hl hak HD c1 d1 c2 d2 c3 d3
          rcases (by omega : a < 65536 ∨ (65536 ≤ a ∧ 1114111 < a) ∨ (65536 ≤ a ∧ 55296 ≤ a ∧ a ≤ 57343) ∨ (65536 ≤ a ∧ a < 55296) ∨ (65536 ≤ a ∧ 57343 < a ∧ a ≤ 1114111)) with q | ⟨q, q'⟩ | ⟨q, q', q''⟩ | ⟨q, q'⟩ | ⟨q, q', q''⟩
          · rw [if_pos (by omega)] at hD'
            have HD' := hI hD'
            have g1 : (a : Int) < 65536 := by omega
            clear hD'
            go_wp2_with fail
            go_ret2
            rw [HD'.out]
            exact ⟨rfl, rfl⟩
          · rw [if_pos (by omega)] at hD'
            have HD' := hI hD'
            have g1 : ¬ (a : Int) < 65536 := by omega
            have g2 : (1114111 : Int) < (a : Int) := by omega
            clear hD'
            go_wp2_with fail
            go_ret2
            rw [HD'.out]
            exact ⟨rfl, rfl⟩
          · rw [if_pos (by omega)] at hD'
            have HD' := hI hD'
            have g1 : ¬ (a : Int) < 65536 := by omega
            have g2 : ¬ (1114111 : Int) < (a : Int) := by omega
            have g3 : (55296 : Int) ≤ (a : Int) := by omega
            have g4 : (a : Int) ≤ 57343 := by omega
            clear hD'
            go_wp2_with fail
            go_ret2
            rw [HD'.out]
            exact ⟨rfl, rfl⟩
          · rw [if_neg (by omega)] at hD'
            have HD' := hI hD'
            have g1 : ¬ (a : Int) < 65536 := by omega
            have g2 : ¬ (1114111 : Int) < (a : Int) := by omega
            have g3 : ¬ (55296 : Int) ≤ (a : Int) := by omega
            clear hD'
            go_wp2_with fail
            go_ret2
            rw [HD'.out]
            exact ⟨rfl, rfl⟩
          · rw [if_neg (by omega)] at hD'
            have HD' := hI hD'
            have g1 : ¬ (a : Int) < 65536 := by omega
            have g2 : ¬ (1114111 : Int) < (a : Int) := by omega
            have g3 : (55296 : Int) ≤ (a : Int) := by omega
            have g4 : ¬ (a : Int) ≤ 57343 := by omega
            clear hD'
            go_wp2_with fail
            go_ret2
            rw [HD'.out]
            exact ⟨rfl, rfl⟩
  · have hD := HD.out.trans (ref_bad _ _ _ _ _ (by omega) (by omega) hx0)
    have HD' := hI hD
    have k1 : ¬ (b0 : Int) < 128 := by omega
    have k2 : (194 : Int) ≤ (b0 : Int) := by omega
    have k2' : ¬ (b0 : Int) ≤ 223 := by omega
    have k3 : (224 : Int) ≤ (b0 : Int) := by omega
    have k3' : ¬ (b0 : Int) ≤ 239 := by omega
    have k4 : (240 : Int) ≤ (b0 : Int) := by omega
    have k4' : ¬ (b0 : Int) ≤ 244 := by omega
    clear hD k HD
    go_wp2_with fail
    go_ret2
    rw [HD'.out]
    exact ⟨rfl, rfl⟩
theorem decode_from (s : ByteArray) (p : Nat) : Utf8.decode (s.extract p s.size) 0 = Utf8.decode s p := by
  rw [← decodeL_drop s p, ← decodeL_drop (s.extract p s.size) 0, List.drop_zero]
  congr 1
  rw [ByteArray.data_extract, Array.toList_extract, List.extract_eq_take_drop, List.take_of_length_le]
  rw [List.length_drop, size_toList]
  exact Nat.le_refl _
theorem refR_wd (s : ByteArray) (p : Nat) : (refR (Utf8.decode s p)).2 = (Utf8.decode s p).2 := by
  unfold refR
  split
  · next h => exact h.2.symm
  · rfl
theorem refR_r (s : ByteArray) (p : Nat) : ((refR (Utf8.decode s p)).1 = -1 ∧ (Utf8.decode s p).1 = 65533) ∨ (refR (Utf8.decode s p)).1 = ((Utf8.decode s p).1 : Int) := by
  unfold refR
  split
  · next h => exact .inl ⟨rfl, h.1⟩
  · exact .inr rfl
/-- The rune that the document reads at a place of a text. -/
theorem refRune_at (s : ByteArray) (p : Nat) (w : World) (hs : s.size ≤ maxLen) (hp : p < s.size) :
    ∃ (r : Int) (wd : Nat), wd = (Utf8.decode s p).2 ∧ 1 ≤ wd ∧ p + wd ≤ s.size ∧ ((r = -1 ∧ (Utf8.decode s p).1 = 65533) ∨ r = ((Utf8.decode s p).1 : Int)) ∧ -1 ≤ r ∧ r ≤ 1114111 ∧ refR (Utf8.decode s p) = (r, wd) ∧
    Calls Try.prog 52 #[.string (s.extract p s.size)] w fun e w' => e = .returned (.tuple #[.int .i64 r, .int .i64 wd]) ∧ w = w' := by
  have h := refRune_any (s.extract p s.size) w (by rw [ByteArray.size_extract]; omega) (by rw [ByteArray.size_extract]; omega)
  rw [decode_from] at h
  have h1 := refR_r s p
  have h2 := refR_wd s p
  have h3 := Lib.decode_width_pos s p hp
  have h4 : p + (Utf8.decode s p).2 ≤ s.size := by
    have hne : s.data.toList.drop p ≠ [] := by
      intro e
      have := congrArg List.length e
      rw [List.length_drop, size_toList] at this
      simp at this
      omega
    have := decodeL_le _ hne
    rw [decodeL_drop, List.length_drop, size_toList] at this
    omega
  have h5 : (Utf8.decode s p).1 ≤ 1114111 := by
    have hr : ((Utf8.decode s p).1 : Int) ∈ ru (s.data.toList.drop p) := by
      rw [← rs_ru s s.size p (by omega), rs_step s p hp]
      simp
    have := ru_ok _ _ hr
    unfold okR at this
    omega
  obtain ⟨⟨r, wd⟩, hd⟩ : ∃ d, refR (Utf8.decode s p) = d := ⟨_, rfl⟩
  rw [hd] at h h1 h2
  simp only at h h1 h2
  exact ⟨r, wd, h2, by omega, by omega, h1, by omega, by omega, hd, h⟩
set_option maxHeartbeats 2000000 in
set_option maxRecDepth 100000 in
theorem refRight_any (s : ByteArray) (w : World) (hs : s.size ≤ maxLen) :
    Calls Try.prog 31 #[.string s] w fun e w' => e = .returned (.bool (rightB s)) ∧ w = w' := by
  have hs' := hs
  unfold maxLen at hs
  go_enter Try.func31, Try.ntmps31
  go_wp2_with fail
  go_loopw [3, 4] (fun n i wr => ∃ (pos q : Nat), n = .int .i64 q ∧ i = .int .i64 pos ∧ q ≤ pos ∧ pos ≤ s.size ∧ wr = w ∧ rightF (rs s pos) q = rightB s) (fun _ i _ => s.size - (intOf i).toNat)
  case atStart => exact ⟨0, 0, rfl, rfl, Nat.le_refl _, Nat.zero_le _, rfl, rfl⟩
  case round =>
    obtain ⟨pos, q, rfl, rfl, hq, hps, rfl, hR⟩ := hrel
    have HR := hI hR
    clear hR
    by_cases hp : pos < s.size
    · have hp1 : (pos : Int) < (s.size : Int) := by omega
      obtain ⟨r, wd, hwd, h1, h2, hr, hr0, hr1, _, hc⟩ := refRune_at s pos wr hs' hp
      have hstep := rs_step s pos hp
      rw [← hwd] at hstep
      obtain ⟨c, hcc⟩ : ∃ c : Int, c = ((Utf8.decode s pos).1 : Int) := ⟨_, rfl⟩
      have hr' : letB r = letB c ∧ (letB c = false → numB c = (decide (48 ≤ r ∧ r ≤ 57) || decide (r = 45))) := by
        rcases hr with ⟨rfl, h⟩ | h
        · rw [hcc, h]
          exact ⟨by decide +kernel, fun _ => by decide +kernel⟩
        · have : r = c := by omega
          subst this
          refine ⟨rfl, fun _ => ?_⟩
          rw [Bool.eq_iff_iff, numB_iff]
          simp only [Bool.or_eq_true, decide_eq_true_eq]
          omega
      rw [← hcc] at hstep
      have HS := hI hstep
      have HC := hI hr'
      have hsl : ∀ W, (Instr.slice 9 (.string s) (some (.int .i64 pos)) none none).run Try.prog W = .ok (.string (s.extract pos s.size)) W := fun W => run_slice_string_l W _ s Try.underlying9 .i64 pos (by omega) (by omega)
      clear hwd hr hstep hcc hr'
      go_wp2_with fail
      refine hc.mono ?_
      rintro e w' ⟨rfl, rfl⟩
      clear hc
      go_wp2_with fail
      obtain ⟨L, hL⟩ : ∃ L, L = letB c := ⟨_, rfl⟩
      have hl := refLetter_any r 0 wr (by omega) (by omega) (by omega) (by omega)
      rw [Int.add_zero, HC.out.1, ← hL] at hl
      have HL := hI hL
      refine hl.mono ?_
      rintro e w' ⟨rfl, rfl⟩
      clear hl hL hsl
      cases L with
      | true =>
        have HF : Hid (rightF (rs s (pos + wd)) (q + 1) = rightB s) := hI (by
          rw [← HR.out, HS.out, rightF, ← HL.out, if_pos rfl])
        go_wp2_with fail
        go_roundw
        case rel => exact ⟨pos + wd, q + 1, by go_num, by go_num, by omega, by omega, by first | rfl | trivial, HF.out⟩
        case measure => simp [intOf]; omega
      | false =>
        have HN := hI (HC.out.2 HL.out.symm)
        by_cases hp0 : pos = 0
        · subst hp0
          have HF : Hid (rightB s = false) := hI (by
            rw [← HR.out, HS.out, rightF, ← HL.out]
            simp)
          go_wp2_with fail
          go_ret
          rw [HF.out]
          exact ⟨rfl, rfl⟩
        · have hp2 : ((pos : Int) == 0) = false := by simp; omega
          have HP0 := hI hp0
          clear hp0
          rcases (by omega : r = 45 ∨ (r ≠ 45 ∧ r < 48) ∨ (r ≠ 45 ∧ 48 ≤ r ∧ 57 < r) ∨ (r ≠ 45 ∧ 48 ≤ r ∧ r ≤ 57)) with g | ⟨g, g'⟩ | ⟨g, g', g''⟩ | ⟨g, g', g''⟩
          · subst g
            have HF : Hid (rightF (rs s (pos + wd)) (q + 1) = rightB s) := hI (by
              rw [← HR.out, HS.out, rightF, ← HL.out, HN.out]
              simp [HP0.out])
            go_wp2_with fail
            go_roundw
            case rel => exact ⟨pos + wd, q + 1, by go_num, by go_num, by omega, by omega, by first | rfl | trivial, HF.out⟩
            case measure => simp [intOf]; omega
          · have g1 : (r != 45) = true := by simpa using g
            have HF : Hid (rightB s = false) := hI (by
              rw [← HR.out, HS.out, rightF, ← HL.out, HN.out, decide_eq_false (by omega : ¬ (48 ≤ r ∧ r ≤ 57)), decide_eq_false g]
              simp)
            go_wp2_with fail
            go_ret
            rw [HF.out]
            exact ⟨rfl, rfl⟩
          · have g1 : (r != 45) = true := by simpa using g
            have g2 : ¬ r < 48 := by omega
            have HF : Hid (rightB s = false) := hI (by
              rw [← HR.out, HS.out, rightF, ← HL.out, HN.out, decide_eq_false (by omega : ¬ (48 ≤ r ∧ r ≤ 57)), decide_eq_false g]
              simp)
            go_wp2_with fail
            go_ret
            rw [HF.out]
            exact ⟨rfl, rfl⟩
          · have g1 : (r != 45) = true := by simpa using g
            have g2 : ¬ r < 48 := by omega
            have g3 : ¬ 57 < r := by omega
            have HF : Hid (rightF (rs s (pos + wd)) (q + 1) = rightB s) := hI (by
              rw [← HR.out, HS.out, rightF, ← HL.out, HN.out, decide_eq_true (And.intro g' g'')]
              simp [HP0.out])
            go_wp2_with fail
            go_roundw
            case rel => exact ⟨pos + wd, q + 1, by go_num, by go_num, by omega, by omega, by first | rfl | trivial, HF.out⟩
            case measure => simp [intOf]; omega
    · have hp1 : ¬ (pos : Int) < (s.size : Int) := by omega
      have HF : Hid (rightB s = (decide (1 ≤ q) && decide (q ≤ 16))) := hI (by rw [← HR.out, rs_end s pos hp, rightF])
      rcases (by omega : q < 1 ∨ (1 ≤ q ∧ q ≤ 16) ∨ 16 < q) with h | ⟨h, h'⟩ | h
      · have h1 : ¬ (1 : Int) ≤ (q : Int) := by omega
        have HG := hI (HF.out.trans (show _ = false by rw [decide_eq_false (by omega : ¬ 1 ≤ q)]; rfl))
        clear h
        go_wp2_with fail
        go_ret
        rw [HG.out]
        exact ⟨rfl, rfl⟩
      · have h1 : (1 : Int) ≤ (q : Int) := by omega
        have h2 : (q : Int) ≤ 16 := by omega
        have HG := hI (HF.out.trans (show _ = true by rw [decide_eq_true h, decide_eq_true h']; rfl))
        clear h h'
        go_wp2_with fail
        go_ret
        rw [HG.out]
        exact ⟨rfl, rfl⟩
      · have h1 : (1 : Int) ≤ (q : Int) := by omega
        have h2 : ¬ (q : Int) ≤ 16 := by omega
        have HG := hI (HF.out.trans (show _ = false by rw [decide_eq_false (by omega : ¬ q ≤ 16)]; simp))
        clear h
        go_wp2_with fail
        go_ret
        rw [HG.out]
        exact ⟨rfl, rfl⟩
end Go.Proofs.Ytofmkkcbfeadgaa
namespace Go.Proofs.Ytofmkkcbfeadgaa
set_option linter.unusedSimpArgs false
set_option linter.unusedVariables false
open Go.RowKit
def kdC : Kd → UInt8
  | .s => 115
  | .n => 110
  | .b => 98
  | .t => 116
  | .i => 105
  | .x => 120
/-- A message's shape as a text. -/
def shapeC (t : Int) : List UInt8 := if (shapeS t).isEmpty = true then [63] else (shapeS t).map kdC
theorem shape_none {t : Int} (h : t < 11 ∨ 22 < t) : shapeS t = [] := by
  unfold shapeS
  rw [if_neg (by omega), if_neg (by omega), if_neg (by omega), if_neg (by omega), if_neg (by omega), if_neg (by omega), if_neg (by omega), if_neg (by omega), if_neg (by omega), if_neg (by omega), if_neg (by omega), if_neg (by omega)]
set_option maxHeartbeats 4000000 in
set_option maxRecDepth 100000 in
theorem refShape_any (t : Int) (w : World) : Calls Try.prog 19 #[.int .i64 t] w fun e w' => e = .returned (.string (tx (shapeC t))) ∧ w = w' := by
  rcases (by omega : t = 11 ∨ t = 12 ∨ t = 13 ∨ t = 14 ∨ t = 15 ∨ t = 16 ∨ t = 17 ∨ t = 18 ∨ t = 19 ∨ t = 20 ∨ t = 21 ∨ t = 22 ∨ (t < 11 ∨ 22 < t)) with rfl | rfl | rfl | rfl | rfl | rfl | rfl | rfl | rfl | rfl | rfl | rfl | h
  · go_enter Try.func19, Try.ntmps19
    go_wp2_with fail
    go_ret
    exact ⟨rfl, rfl⟩
  · go_enter Try.func19, Try.ntmps19
    go_wp2_with fail
    go_ret
    exact ⟨rfl, rfl⟩
  · go_enter Try.func19, Try.ntmps19
    go_wp2_with fail
    go_ret
    exact ⟨rfl, rfl⟩
  · go_enter Try.func19, Try.ntmps19
    go_wp2_with fail
    go_ret
    exact ⟨rfl, rfl⟩
  · go_enter Try.func19, Try.ntmps19
    go_wp2_with fail
    go_ret
    exact ⟨rfl, rfl⟩
  · go_enter Try.func19, Try.ntmps19
    go_wp2_with fail
    go_ret
    exact ⟨rfl, rfl⟩
  · go_enter Try.func19, Try.ntmps19
    go_wp2_with fail
    go_ret
    exact ⟨rfl, rfl⟩
  · go_enter Try.func19, Try.ntmps19
    go_wp2_with fail
    go_ret
    exact ⟨rfl, rfl⟩
  · go_enter Try.func19, Try.ntmps19
    go_wp2_with fail
    go_ret
    exact ⟨rfl, rfl⟩
  · go_enter Try.func19, Try.ntmps19
    go_wp2_with fail
    go_ret
    exact ⟨rfl, rfl⟩
  · go_enter Try.func19, Try.ntmps19
    go_wp2_with fail
    go_ret
    exact ⟨rfl, rfl⟩
  · go_enter Try.func19, Try.ntmps19
    go_wp2_with fail
    go_ret
    exact ⟨rfl, rfl⟩
  · have HE : Hid (shapeC t = [63]) := hI (by unfold shapeC; rw [shape_none h]; rfl)
    have e11 : (t == 11) = false := by simp; omega
    have e12 : (t == 12) = false := by simp; omega
    have e13 : (t == 13) = false := by simp; omega
    have e14 : (t == 14) = false := by simp; omega
    have e15 : (t == 15) = false := by simp; omega
    have e16 : (t == 16) = false := by simp; omega
    have e17 : (t == 17) = false := by simp; omega
    have e18 : (t == 18) = false := by simp; omega
    have e19 : (t == 19) = false := by simp; omega
    have e20 : (t == 20) = false := by simp; omega
    have e21 : (t == 21) = false := by simp; omega
    have e22 : (t == 22) = false := by simp; omega
    clear h
    go_enter Try.func19, Try.ntmps19
    go_wp2_with fail
    go_ret
    rw [HE.out]
    exact ⟨rfl, rfl⟩
set_option maxHeartbeats 1000000 in
set_option maxRecDepth 100000 in
theorem refShape10_any (w : World) : Calls Try.prog 51 #[.int .i64 1] w fun e w' => e = .returned (.string (tx [115, 98])) ∧ w = w' := by
  go_enter Try.func51, Try.ntmps51
  go_wp2_with fail
  go_ret
  exact ⟨rfl, rfl⟩
/-- The parts that layer 10 knows. -/
def lowK : Kd → Bool
  | .i => false
  | .x => false
  | _ => true
set_option maxHeartbeats 2000000 in
set_option maxRecDepth 100000 in
theorem refFits_n (x : Tv) (F : Nat → Prop) (cs : List Value) (w : World) (h : TvF w F x cs) : Calls Try.prog 21 #[.agg cs.toArray, .int .u8 110] w fun e w' => e = .returned (.bool (fitK .n x)) ∧ Below w.heap.size w w' := by
  obtain ⟨bv, lv, rows, rfl, hb1, hb2, hb3, hb4, hb5⟩ := h.open_
  obtain ⟨al, cl, rfl, hcl, hml⟩ := hb3.form
  obtain ⟨ab, cb, rfl, hcb, hmb⟩ := hb1.form
  have HBS := hI hb1
  clear h hb1 hb2 hb3 hb4 hb5
  obtain ⟨r, hr⟩ : ∃ r, r = fitK .n x := ⟨_, rfl⟩
  rw [← hr]
  have HR := hI hr
  clear hr
  by_cases ht : x.tag = 0
  · have HT := hI ht
    have ht1 : (x.tag != 0) = false := by simpa using ht
    clear ht
    by_cases hk : x.kind = 0
    · have HK := hI hk
      have hk1 : (x.kind == 0) = true := by simpa using hk
      clear hk
      obtain ⟨d, hd⟩ : ∃ d, d = decide (x.n ≤ maxT) := ⟨_, rfl⟩
      have hn : decide ((x.n : Int) ≤ 1099511627776) = d := by rw [hd, decide_eq_decide]; unfold maxT; omega
      have HD := hI hd
      clear hd
      go_enter Try.func21, Try.ntmps21
      go_wp2_with fail
      go_ret
      rw [show r = d by rw [HR.out, HD.out]; simp [fitK, HK.out, HT.out]]
      exact ⟨rfl, (Below.refl _ _).alloc (Nat.le_refl _) _⟩
    · have HK := hI hk
      have hk1 : (x.kind == 0) = false := by simpa using hk
      clear hk
      go_enter Try.func21, Try.ntmps21
      go_wp2_with fail
      go_ret
      rw [show r = false by rw [HR.out]; simp [fitK, isS, isB, HK.out]]
      exact ⟨rfl, (Below.refl _ _).alloc (Nat.le_refl _) _⟩
  · have HT := hI ht
    have ht1 : (x.tag != 0) = true := by simpa using ht
    clear ht
    go_enter Try.func21, Try.ntmps21
    go_wp2_with fail
    go_ret
    rw [show r = false by rw [HR.out]; simp [fitK, isS, isB, HT.out]]
    exact ⟨rfl, (Below.refl _ _).alloc (Nat.le_refl _) _⟩
set_option maxHeartbeats 2000000 in
set_option maxRecDepth 100000 in
theorem refFits_t (x : Tv) (F : Nat → Prop) (cs : List Value) (w : World) (h : TvF w F x cs) : Calls Try.prog 21 #[.agg cs.toArray, .int .u8 116] w fun e w' => e = .returned (.bool (fitK .t x)) ∧ Below w.heap.size w w' := by
  obtain ⟨bv, lv, rows, rfl, hb1, hb2, hb3, hb4, hb5⟩ := h.open_
  obtain ⟨al, cl, rfl, hcl, hml⟩ := hb3.form
  obtain ⟨ab, cb, rfl, hcb, hmb⟩ := hb1.form
  have HBS := hI hb1
  clear h hb1 hb2 hb3 hb4 hb5
  obtain ⟨r, hr⟩ : ∃ r, r = fitK .t x := ⟨_, rfl⟩
  rw [← hr]
  have HR := hI hr
  clear hr
  by_cases ht : x.tag = 0
  · have HT := hI ht
    have ht1 : (x.tag != 0) = false := by simpa using ht
    clear ht
    by_cases hk : x.kind = 0
    · have HK := hI hk
      have hk1 : (x.kind == 0) = true := by simpa using hk
      clear hk
      obtain ⟨d, hd⟩ : ∃ d, d = decide (x.n ≤ 1) := ⟨_, rfl⟩
      have hn : decide ((x.n : Int) ≤ 1) = d := by rw [hd, decide_eq_decide]; omega
      have HD := hI hd
      clear hd
      go_enter Try.func21, Try.ntmps21
      go_wp2_with fail
      go_ret
      rw [show r = d by rw [HR.out, HD.out]; simp [fitK, HK.out, HT.out]]
      exact ⟨rfl, (Below.refl _ _).alloc (Nat.le_refl _) _⟩
    · have HK := hI hk
      have hk1 : (x.kind == 0) = false := by simpa using hk
      clear hk
      go_enter Try.func21, Try.ntmps21
      go_wp2_with fail
      go_ret
      rw [show r = false by rw [HR.out]; simp [fitK, isS, isB, HK.out]]
      exact ⟨rfl, (Below.refl _ _).alloc (Nat.le_refl _) _⟩
  · have HT := hI ht
    have ht1 : (x.tag != 0) = true := by simpa using ht
    clear ht
    go_enter Try.func21, Try.ntmps21
    go_wp2_with fail
    go_ret
    rw [show r = false by rw [HR.out]; simp [fitK, isS, isB, HT.out]]
    exact ⟨rfl, (Below.refl _ _).alloc (Nat.le_refl _) _⟩
set_option maxHeartbeats 2000000 in
set_option maxRecDepth 100000 in
theorem refFits_b (x : Tv) (F : Nat → Prop) (cs : List Value) (w : World) (h : TvF w F x cs) : Calls Try.prog 21 #[.agg cs.toArray, .int .u8 98] w fun e w' => e = .returned (.bool (fitK .b x)) ∧ Below w.heap.size w w' := by
  obtain ⟨bv, lv, rows, rfl, hb1, hb2, hb3, hb4, hb5⟩ := h.open_
  obtain ⟨al, cl, rfl, hcl, hml⟩ := hb3.form
  obtain ⟨ab, cb, rfl, hcb, hmb⟩ := hb1.form
  have HBS := hI hb1
  clear h hb1 hb2 hb3 hb4 hb5
  obtain ⟨r, hr⟩ : ∃ r, r = fitK .b x := ⟨_, rfl⟩
  rw [← hr]
  have HR := hI hr
  clear hr
  by_cases ht : x.tag = 0
  · have HT := hI ht
    have ht1 : (x.tag != 0) = false := by simpa using ht
    clear ht
    by_cases hk : x.kind = 1
    · have HK := hI hk
      have hk1 : (x.kind == 1) = true := by simpa using hk
      clear hk
      go_enter Try.func21, Try.ntmps21
      go_wp2_with fail
      go_ret
      rw [show r = true by rw [HR.out]; simp [fitK, isB, HK.out, HT.out]]
      exact ⟨rfl, (Below.refl _ _).alloc (Nat.le_refl _) _⟩
    · have HK := hI hk
      have hk1 : (x.kind == 1) = false := by simpa using hk
      clear hk
      go_enter Try.func21, Try.ntmps21
      go_wp2_with fail
      go_ret
      rw [show r = false by rw [HR.out]; simp [fitK, isS, isB, HK.out]]
      exact ⟨rfl, (Below.refl _ _).alloc (Nat.le_refl _) _⟩
  · have HT := hI ht
    have ht1 : (x.tag != 0) = true := by simpa using ht
    clear ht
    go_enter Try.func21, Try.ntmps21
    go_wp2_with fail
    go_ret
    rw [show r = false by rw [HR.out]; simp [fitK, isS, isB, HT.out]]
    exact ⟨rfl, (Below.refl _ _).alloc (Nat.le_refl _) _⟩
set_option maxHeartbeats 2000000 in
set_option maxRecDepth 100000 in
theorem refFits_s (x : Tv) (F : Nat → Prop) (cs : List Value) (w : World) (h : TvF w F x cs) : Calls Try.prog 21 #[.agg cs.toArray, .int .u8 115] w fun e w' => e = .returned (.bool (fitK .s x)) ∧ Below w.heap.size w w' := by
  obtain ⟨bv, lv, rows, rfl, hb1, hb2, hb3, hb4, hb5⟩ := h.open_
  obtain ⟨al, cl, rfl, hcl, hml⟩ := hb3.form
  obtain ⟨ab, cb, rfl, hcb, hmb⟩ := hb1.form
  have HBS := hI hb1
  clear h hb1 hb2 hb3 hb4 hb5
  obtain ⟨r, hr⟩ : ∃ r, r = fitK .s x := ⟨_, rfl⟩
  rw [← hr]
  have HR := hI hr
  clear hr
  by_cases ht : x.tag = 0
  · have HT := hI ht
    have ht1 : (x.tag != 0) = false := by simpa using ht
    clear ht
    by_cases hk : x.kind = 1
    · have HK := hI hk
      have hk1 : (x.kind == 1) = true := by simpa using hk
      clear hk
      obtain ⟨w1, hw1⟩ : ∃ w1, w1 = w.alloc (.cells #[.int .i64 x.kind, .int .i64 x.tag, .int .u64 (x.n : Int), .slice ab x.b.length cb, .slice al x.l.length cl] 37) := ⟨_, rfl⟩
      have HB1 : Hid (Bs w1 (.slice ab x.b.length cb) x.b) := hI (by rw [hw1]; exact HBS.out.alloc _)
      have HW1 : Hid (Below w.heap.size w w1) := hI (by rw [hw1]; exact (Below.refl _ _).alloc (Nat.le_refl _) _)
      have HRR := hI (refRight_any (tx x.b) w1 (by rw [tx_size]; omega))
      obtain ⟨d, hd⟩ : ∃ d, d = rightB (tx x.b) := ⟨_, rfl⟩
      rw [← hd] at HRR
      have HD := hI hd
      clear hd
      go_enter Try.func21, Try.ntmps21
      go_upto_region 9 with fail
      show Code.wp _ _ _ _ (w.alloc (.cells #[.int .i64 x.kind, .int .i64 x.tag, .int .u64 (x.n : Int), .slice ab x.b.length cb, .slice al x.l.length cl] 37))
      have c0 : w1.cell? ⟨w.heap.size, 0, none⟩ = some (.int .i64 x.kind) := by rw [hw1]; exact (Blk.new w [.int .i64 x.kind, .int .i64 x.tag, .int .u64 (x.n : Int), .slice ab x.b.length cb, .slice al x.l.length cl] 37).cell 0
      have c3 : w1.cell? ⟨w.heap.size, 3, none⟩ = some (.slice ab x.b.length cb) := by rw [hw1]; exact (Blk.new w [.int .i64 x.kind, .int .i64 x.tag, .int .u64 (x.n : Int), .slice ab x.b.length cb, .slice al x.l.length cl] 37).cell 3
      rw [← hw1]
      clear hw1
      have hcv := run_convS w1 _ x.b HB1.out
      go_wp2_with fail
      refine HRR.out.mono ?_
      rintro e w2 ⟨rfl, rfl⟩
      go_wp2_with fail
      go_ret
      rw [show r = d by rw [HR.out, HD.out]; simp [fitK, isS, HK.out, HT.out]]
      exact ⟨rfl, HW1.out⟩
    · have HK := hI hk
      have hk1 : (x.kind == 1) = false := by simpa using hk
      clear hk
      go_enter Try.func21, Try.ntmps21
      go_wp2_with fail
      go_ret
      rw [show r = false by rw [HR.out]; simp [fitK, isS, isB, HK.out]]
      exact ⟨rfl, (Below.refl _ _).alloc (Nat.le_refl _) _⟩
  · have HT := hI ht
    have ht1 : (x.tag != 0) = true := by simpa using ht
    clear ht
    go_enter Try.func21, Try.ntmps21
    go_wp2_with fail
    go_ret
    rw [show r = false by rw [HR.out]; simp [fitK, isS, isB, HT.out]]
    exact ⟨rfl, (Below.refl _ _).alloc (Nat.le_refl _) _⟩
theorem refFits_any (k : Kd) (hk : lowK k = true) (x : Tv) (F : Nat → Prop) (cs : List Value) (w : World) (h : TvF w F x cs) : Calls Try.prog 21 #[.agg cs.toArray, .int .u8 ((kdC k).toNat : Int)] w fun e w' => e = .returned (.bool (fitK k x)) ∧ Below w.heap.size w w' := by
  cases k
  · exact refFits_s x F cs w h
  · exact refFits_n x F cs w h
  · exact refFits_b x F cs w h
  · exact refFits_t x F cs w h
  · cases hk
  · cases hk
theorem tx_toList (l : List UInt8) : (tx l).toList = l := by rw [ByteArray.toList_eq]; rfl
theorem run_idxS (l : List UInt8) (k : Nat) (h : k < l.length) (W : World) : (Instr.index 9 (.string (tx l)) (.int .i64 (k : Int))).run Try.prog W = .ok (.int .u8 (l[k].toNat : Int)) W := by
  have hs : (tx l)[k]? = some l[k] := by
    have h1 : k < (tx l).size := by rw [tx_size]; exact h
    rw [getElem?_pos (tx l) k h1]
    rfl
  unfold Instr.index
  rw [Sem.run_bind]
  simp only [asIntOf, Sem.run_pure, Result.andThen_ok, Sem.run_bind, run_underlying Try.underlying9]
  rw [if_pos (by omega), Int.toNat_natCast, hs]
  simp
theorem fitsK_drop (ks : List Kd) (l : List Tv) (k : Nat) (h1 : k < ks.length) (h2 : k < l.length) : fitsK (ks.drop k) (l.drop k) = (fitK ks[k] l[k] && fitsK (ks.drop (k + 1)) (l.drop (k + 1))) := by
  rw [List.drop_eq_getElem_cons h1, List.drop_eq_getElem_cons h2]
  rfl
theorem fitsK_len : ∀ {ks : List Kd} {l : List Tv}, fitsK ks l = true → l.length = ks.length
  | [], [], _ => rfl
  | [], _ :: _, h => by simp [fitsK] at h
  | _ :: _, [], h => by simp [fitsK] at h
  | k :: ks, x :: l, h => by
    simp only [fitsK, Bool.and_eq_true] at h
    rw [List.length_cons, List.length_cons, fitsK_len h.2]
theorem tkR_fits (x : Tv) : tkR x = (decide (x.kind = 2 ∧ x.tag = 1) && fitsK [.s, .b] x.l) := by
  unfold tkR
  congr 1
  generalize x.l = l
  match l with
  | [] => rfl
  | [a] => simp [fitsK]
  | [a, b] => simp [fitsK, fitK]
  | a :: b :: c :: l => simp [fitsK]
set_option maxHeartbeats 4000000 in
set_option maxRecDepth 100000 in
theorem refRight10_any (x : Tv) (ht : x.tag = 1) (F : Nat → Prop) (cs : List Value) (w : World) (h : TvF w F x cs) : Calls Try.prog 30 #[.agg cs.toArray] w fun e w' => e = .returned (.bool (tkR x)) ∧ Below w.heap.size w w' := by
  obtain ⟨bv, lv, rows, rfl, hb1, hb2, hb3, hb4, hb5⟩ := h.open_
  obtain ⟨al, cl, rfl, hcl, hml⟩ := hb3.form
  obtain ⟨ab, cb, rfl, hcb, hmb⟩ := hb1.form
  unfold maxLen at hml
  have HSL := hI hb3
  have HTV := hI hb5
  clear h hb1 hb2 hb3 hb4 hb5
  obtain ⟨r, hr⟩ : ∃ r, r = tkR x := ⟨_, rfl⟩
  rw [← hr]
  have HR : Hid (r = (decide (x.kind = 2 ∧ x.tag = 1) && fitsK [.s, .b] x.l)) := hI (by rw [hr, tkR_fits])
  have HT := hI ht
  rw [ht]
  clear hr ht
  obtain ⟨n, hn⟩ : ∃ n, n = x.l.length := ⟨_, rfl⟩
  obtain ⟨q, hq⟩ : ∃ q, q = w.heap.size := ⟨_, rfl⟩
  obtain ⟨w1, hw1⟩ : ∃ w1, w1 = w.alloc (.cells #[.int .i64 x.kind, .int .i64 1, .int .u64 (x.n : Int), .slice ab x.b.length cb, .slice al x.l.length cl] 37) := ⟨_, rfl⟩
  have HB1 : Hid (Below w.heap.size w w1) := hI (by rw [hw1]; exact (Below.refl _ _).alloc (Nat.le_refl _) _)
  have HQ1 : Hid (Blk w1 q [.int .i64 x.kind, .int .i64 1, .int .u64 (x.n : Int), .slice ab x.b.length cb, .slice al x.l.length cl] 37) := hI (by rw [hw1, hq]; exact Blk.new _ _ _)
  have hq4 : w1.cell? ⟨q, 4, none⟩ = some (.slice al x.l.length cl) := HQ1.out.cell 4
  have hq0 : w1.cell? ⟨q, 0, none⟩ = some (.int .i64 x.kind) := HQ1.out.cell 0
  have hsz : (tx [115, 98]).size = 2 := rfl
  have hsq : ((tx [115, 98]).toList == [63]) = false := by rw [tx_toList]; decide
  have HSH := hI (refShape10_any w1)
  by_cases hk : x.kind = 2
  · have HK := hI hk
    have hk1 : (x.kind != 2) = false := by simpa using hk
    clear hk
    by_cases hl : x.l.length = 2
    · have HL := hI hl
      have hl1 : ((x.l.length : Int) != 2) = false := by simp; omega
      have HRR : Hid (r = fitsK [.s, .b] x.l) := hI (by rw [HR.out, HK.out, HT.out]; rfl)
      clear hl
      go_enter Try.func30, Try.ntmps30
      go_upto_region 1 with fail
      show Code.wp _ _ _ _ (w.alloc (.cells #[.int .i64 x.kind, .int .i64 1, .int .u64 (x.n : Int), .slice ab x.b.length cb, .slice al x.l.length cl] 37))
      have hq1 : w1.cell? ⟨q, 1, none⟩ = some (.int .i64 1) := HQ1.out.cell 1
      rw [← hw1, ← hq]
      clear hw1 hq hn
      go_wp2_with fail
      refine HSH.out.mono ?_
      rintro e w2 ⟨rfl, rfl⟩
      go_wp2_with fail
      go_loopw [4] (fun i wr => ∃ k : Nat, k ≤ 2 ∧ i = .int .i64 k ∧ Below w1.heap.size w1 wr ∧ fitsK ([Kd.s, Kd.b].drop k) (x.l.drop k) = r) (fun i _ => 2 - (intOf i).toNat)
      case atStart => exact ⟨0, by omega, rfl, Below.refl _ _, HRR.out.symm⟩
      case round =>
        obtain ⟨k, hk, rfl, hB, hF⟩ := hrel
        have HB := hI hB
        have HF := hI hF
        clear hB hF
        have hbz := HB.out.size
        have hqw := HQ1.out.lt
        by_cases hlt : k < 2
        · have hlt1 : (k : Int) < 2 := by omega
          have hlx : k < x.l.length := by rw [HL.out]; exact hlt
          have hlx1 : (k : Int) < (x.l.length : Int) := by omega
          obtain ⟨bl, ol, rfl, _⟩ := HSL.out.addr (by rw [HSL.out.1]; omega)
          obtain ⟨re, hre, hrc⟩ := HTV.out.cells HSL.out k hlx
          have hbw : Below w.heap.size w wr := HB1.out.trans (HB.out.mono HB1.out.size)
          have hbd : Below wr.heap.size wr wr.drew := (Below.refl _ _).drew
          have HCRW : Hid (∀ W, Below wr.heap.size wr W → CellsAt W bl (ol + k * 5) re) := hI (fun W hW i u hi => below_cell hW (below_cell hbw (hrc i u hi)))
          have HQW : Hid (∀ W, Below wr.heap.size wr W → Blk W q [.int .i64 x.kind, .int .i64 1, .int .u64 (x.n : Int), .slice ab x.b.length cb, .slice (some ⟨bl, ol, none⟩) x.l.length cl] 37) := hI (fun W hW => (HQ1.out.below HB.out hqw).below hW (by omega))
          have HRL := hI hre.length
          have hsx : ∀ W, (Instr.index 9 (.string (tx [115, 98])) (.int .i64 (k : Int))).run Try.prog W = .ok (.int .u8 ((kdC ([Kd.s, Kd.b][k])).toNat : Int)) W := fun W => by
            rw [run_idxS [115, 98] k hlt W]
            rcases (by omega : k = 0 ∨ k = 1) with rfl | rfl <;> rfl
          have hlow : lowK ([Kd.s, Kd.b][k]) = true := by rcases (by omega : k = 0 ∨ k = 1) with rfl | rfl <;> rfl
          have HFT := hI (refFits_any ([Kd.s, Kd.b][k]) hlow x.l[k] F re wr.drew ((hre.below hbw).below hbd))
          have HFD : Hid ((fitK ([Kd.s, Kd.b][k]) x.l[k] && fitsK ([Kd.s, Kd.b].drop (k + 1)) (x.l.drop (k + 1))) = r) := hI (by rw [← fitsK_drop [Kd.s, Kd.b] x.l k hlt hlx]; exact HF.out)
          clear hre hrc hbw hbd hlow HF
          generalize fitK ([Kd.s, Kd.b][k]) x.l[k] = d at *
          clear hlx
          generalize ((kdC ([Kd.s, Kd.b][k])).toNat : Int) = c at *
          generalize hnn : x.l.length = nn at *
          have hlx1 : (k : Int) < (nn : Int) := by omega
          go_upto_region 7 with fail
          obtain ⟨wd, hwd⟩ : ∃ wd, wd = World.drew wr := ⟨_, rfl⟩
          have HS0 : Hid (Below wr.heap.size wr wd) := hI (by rw [hwd]; exact (Below.refl _ _).drew)
          rw [← hwd] at HFT
          refine wp_region_held (S := fun W => Below wr.heap.size wr W) (by kernel_rfl) ?_
          change wpAnyH _ _ _ _ _ _ _ _ (World.drew _)
          rw [← hwd]
          clear hwd
          refine tkH 0 29 none (.pointer (some ⟨q, 4, none⟩)) rfl (by kernel_rfl) (fun _ _ _ h => h) (by rfl) (by intro W hW; go_simp) HS0.out ?_
          simp only [Act.put, q1, q2, q3]
          refine tkH 1 30 none (.slice (some ⟨bl, ol, none⟩) nn cl) rfl (by kernel_rfl) (fun _ _ _ h => h) (by rfl) (by intro W hW; have hc : W.cell? ⟨q, 4, none⟩ = some (.slice (some ⟨bl, ol, none⟩) nn cl) := (HQW.out W hW).cell 4; go_simp) HS0.out ?_
          simp only [Act.put, q1, q2, q3]
          refine tkH 2 31 none (.int .i64 k) rfl (by kernel_rfl) (fun _ _ _ h => h) (by rfl) (by intro W hW; go_simp) HS0.out ?_
          simp only [Act.put, q1, q2, q3]
          refine tkH 3 32 none (.pointer (some ⟨bl, ol + k * 5, none⟩)) rfl (by kernel_rfl) (fun _ _ _ h => h) (by rfl) (by intro W hW; go_simp) HS0.out ?_
          simp only [Act.put, q1, q2, q3]
          refine tkH 4 33 none (.agg re.toArray) rfl (by kernel_rfl) (fun _ _ _ h => h) (by rfl) (by intro W hW; exact exec_ldAgg rfl aggRef rfl HRL.out (HCRW.out W hW)) HS0.out ?_
          simp only [Act.put, q1, q2, q3]
          refine tkH 5 34 none (.string (tx [115, 98])) rfl (by kernel_rfl) (fun _ _ _ h => h) (by rfl) (by intro W hW; go_simp) HS0.out ?_
          simp only [Act.put, q1, q2, q3]
          refine tkH 6 35 none (.int .i64 k) rfl (by kernel_rfl) (fun _ _ _ h => h) (by rfl) (by intro W hW; go_simp) HS0.out ?_
          simp only [Act.put, q1, q2, q3]
          refine tkH 7 36 none (.int .u8 c) rfl (by kernel_rfl) (fun _ _ _ h => h) (by rfl) (by intro W hW; have hc := hsx W; go_simp) HS0.out ?_
          simp only [Act.put, q1, q2, q3]
          refine anyH_ready (rs := [8]) (by decide +kernel) (by simp) ?_
          refine AllReadyH.cons (o := { dst := some 37, op := .call { callee := .value (.func 21), args := #[.tmp 33, .tmp 36], argTypes := #[37, 5] }, type := _, pos := _, after := _, guard := none }) rfl (fun K hK => ?_) AllReadyH.nil
          go_simp
          refine HFT.out.mono ?_
          rintro e w3 ⟨rfl, hb⟩
          have HS0 : Hid (Below wr.heap.size wr w3) := hI (HS0.out.trans (hb.mono HS0.out.size))
          clear hb HFT
          refine hK _ _ HS0.out ?_
          clear hK K
          try simp only [Act.put, q1, q2, q3]
          refine tkH 9 38 none (.bool (!d)) rfl (by kernel_rfl) (fun _ _ _ h => h) (by rfl) (by intro W hW; go_simp) HS0.out ?_
          simp only [Act.put, q1, q2, q3]
          refine wpAnyH_done (by decide +kernel) ?_ _
          cases d with
          | true =>
            go_wp2_with fail
            go_roundw
            case rel => exact ⟨k + 1, by omega, by go_num, HS0.out.mono HB.out.size |> HB.out.trans, by have := HFD.out; rwa [Bool.true_and] at this⟩
            case measure => simp [intOf]; omega
          | false =>
            go_wp2_with fail
            go_ret
            rw [show r = false by have := HFD.out; rw [Bool.false_and] at this; exact this.symm]
            exact ⟨rfl, HB1.out.trans ((HB.out.trans (HS0.out.mono HB.out.size)).mono HB1.out.size)⟩
        · obtain rfl : k = 2 := by omega
          have HFD : Hid (r = true) := hI (by
            have h := HF.out
            rw [show [Kd.s, Kd.b].drop 2 = [] from rfl, show x.l.drop 2 = [] from List.drop_of_length_le (by rw [HL.out]; exact Nat.le_refl _)] at h
            exact h.symm)
          clear HF
          go_wp2_with fail
          go_ret
          rw [HFD.out]
          exact ⟨rfl, HB1.out.trans (HB.out.mono HB1.out.size)⟩
    · have HL := hI hl
      have hl1 : ((x.l.length : Int) != 2) = true := by simp; omega
      have HRR : Hid (r = false) := hI (by
        rw [HR.out]
        cases hf : fitsK [.s, .b] x.l with
        | false => simp
        | true => exact absurd (fitsK_len hf) hl)
      clear hl
      go_enter Try.func30, Try.ntmps30
      go_upto_region 1 with fail
      show Code.wp _ _ _ _ (w.alloc (.cells #[.int .i64 x.kind, .int .i64 1, .int .u64 (x.n : Int), .slice ab x.b.length cb, .slice al x.l.length cl] 37))
      have hq1 : w1.cell? ⟨q, 1, none⟩ = some (.int .i64 1) := HQ1.out.cell 1
      rw [← hw1, ← hq]
      clear hw1 hq hn
      go_wp2_with fail
      refine HSH.out.mono ?_
      rintro e w2 ⟨rfl, rfl⟩
      go_wp2_with fail
      go_ret
      rw [HRR.out]
      exact ⟨rfl, HB1.out⟩
  · have HK := hI hk
    have hk1 : (x.kind != 2) = true := by simpa using hk
    have HRR : Hid (r = false) := hI (by rw [HR.out]; simp [hk])
    clear hk
    go_enter Try.func30, Try.ntmps30
    go_upto_region 1 with fail
    show Code.wp _ _ _ _ (w.alloc (.cells #[.int .i64 x.kind, .int .i64 1, .int .u64 (x.n : Int), .slice ab x.b.length cb, .slice al x.l.length cl] 37))
    have hq1 : w1.cell? ⟨q, 1, none⟩ = some (.int .i64 1) := HQ1.out.cell 1
    rw [← hw1, ← hq]
    clear hw1 hq hn
    go_wp2_with fail
    refine HSH.out.mono ?_
    rintro e w2 ⟨rfl, rfl⟩
    go_wp2_with fail
    go_ret
    rw [HRR.out]
    exact ⟨rfl, HB1.out⟩
end Go.Proofs.Ytofmkkcbfeadgaa
