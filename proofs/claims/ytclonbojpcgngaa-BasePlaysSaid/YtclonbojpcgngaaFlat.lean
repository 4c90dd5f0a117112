/- Rows of structs, no program: their cells one behind the other; a row's element is set, left out. -/
import Derived.Test.YtclonbojpcgngaaBase
import Derived.Great.BuildSlice
namespace Go.Proofs.Ytclonbojpcgngaa
set_option linter.unusedSimpArgs false
set_option linter.unusedVariables false
open Go.RowKit

theorem flat_length {α : Type} {n : Nat} (f : α → List Value) : ∀ (l : List α), (∀ x ∈ l, (f x).length = n) → ((l.map f).flatten).length = l.length * n
  | [], _ => by simp
  | x :: l, h => by
    rw [List.map_cons, List.flatten_cons, List.length_append, flat_length f l (fun y hy => h y (by simp [hy])), h x (by simp), List.length_cons, Nat.add_mul]
    omega

theorem flat_take {α : Type} {n : Nat} (f : α → List Value) : ∀ (l : List α), (∀ x ∈ l, (f x).length = n) → ∀ k, ((l.map f).flatten).take (k * n) = ((l.take k).map f).flatten
  | [], _, k => by simp
  | x :: l, h, 0 => by simp
  | x :: l, h, k + 1 => by
    have hx := h x (by simp)
    rw [List.map_cons, List.flatten_cons, List.take_succ_cons, List.map_cons, List.flatten_cons, ← flat_take f l (fun y hy => h y (by simp [hy])) k, show (k + 1) * n = (f x).length + k * n by rw [Nat.add_mul]; omega, List.take_length_add_append]

theorem flat_drop {α : Type} {n : Nat} (f : α → List Value) : ∀ (l : List α), (∀ x ∈ l, (f x).length = n) → ∀ k, ((l.map f).flatten).drop (k * n) = ((l.drop k).map f).flatten
  | [], _, k => by simp
  | x :: l, h, 0 => by simp
  | x :: l, h, k + 1 => by
    have hx := h x (by simp)
    rw [List.map_cons, List.flatten_cons, List.drop_succ_cons, ← flat_drop f l (fun y hy => h y (by simp [hy])) k, show (k + 1) * n = (f x).length + k * n by rw [Nat.add_mul]; omega, List.drop_length_add_append]

theorem flat_set {α : Type} {n : Nat} (f : α → List Value) (l : List α) (h : ∀ x ∈ l, (f x).length = n) (k : Nat) (y : α) :
    ((l.map f).flatten).take (k * n) ++ f y ++ ((l.map f).flatten).drop (k * n + n) = ((l.take k ++ y :: l.drop (k + 1)).map f).flatten := by
  rw [flat_take f l h k, show k * n + n = (k + 1) * n by rw [Nat.add_mul]; omega, flat_drop f l h (k + 1)]
  simp

theorem flat_out {α : Type} {n : Nat} (f : α → List Value) (l : List α) (h : ∀ x ∈ l, (f x).length = n) (k : Nat) :
    ((l.map f).flatten).take (k * n) ++ ((l.map f).flatten).drop ((k + 1) * n) = ((l.take k ++ l.drop (k + 1)).map f).flatten := by
  rw [flat_take f l h k, flat_drop f l h (k + 1)]
  simp

theorem flat_snoc {α : Type} (f : α → List Value) (l : List α) (y : α) : ((l ++ [y]).map f).flatten = (l.map f).flatten ++ f y := by simp

theorem split_at {α : Type} {l : List α} {k : Nat} {x : α} (h : l[k]? = some x) : l = l.take k ++ x :: l.drop (k + 1) ∧ k < l.length := by
  obtain ⟨hk, he⟩ := List.getElem?_eq_some_iff.1 h
  refine ⟨?_, hk⟩
  conv => lhs; rw [← List.take_append_drop k l, List.drop_eq_getElem_cons hk, he]

/-- A row of the call's own, opened: an element may be stored anew. -/
theorem Own.open_ {w : World} {B : Nat} {e : TypeId} {sz g cap n : Nat} {cs : List Value} (h : Own w B e sz (.slice (some ⟨g, 0, none⟩) n cap) n cs) (hn : 0 < n) :
    ∃ cur : List Value, Blk w g cur e ∧ B ≤ g ∧ n * sz ≤ cur.length ∧ ∀ (w' : World) (j : Nat) (vs : List Value), j < n → vs.length = sz → (∀ u ∈ vs, u.oneCell' = true) → Blk w' g (cur.take (j * sz) ++ vs ++ cur.drop (j * sz + sz)) e →
      Own w' B e sz (.slice (some ⟨g, 0, none⟩) n cap) n (cs.take (j * sz) ++ vs ++ cs.drop (j * sz + sz)) := by
  obtain ⟨h0, h1, ⟨a, hv, h2⟩ | ⟨g', cap', cur, hv, h2, h3, h4, h5, h6, h7⟩⟩ := h
  · omega
  · simp only [Value.slice.injEq, Option.some.injEq, Addr.mk.injEq, and_true, true_and] at hv
    obtain ⟨rfl, rfl⟩ := hv
    have hfit : n * sz ≤ cap * sz := Nat.mul_le_mul_right _ h4
    refine ⟨cur.toList, by simpa [Blk] using h3, h2, by simpa [h6] using hfit, fun w' j vs hj hvs hv1 hb => ?_⟩
    have hjn : j * sz + sz ≤ n * sz := by
      have := Nat.mul_le_mul_right sz (show j + 1 ≤ n by omega)
      rwa [Nat.add_mul, Nat.one_mul] at this
    have hcl : cur.toList.length = cap * sz := by simpa using h6
    refine ⟨?_, fun u hu => ?_, .inr ⟨g, cap, _, rfl, h2, hb, h4, h5, ?_, ?_⟩⟩
    · simp only [List.length_append, List.length_take, List.length_drop, h0, hvs]
      omega
    · rcases List.mem_append.1 hu with hu | hu
      · rcases List.mem_append.1 hu with hu | hu
        · exact h1 u (List.mem_of_mem_take hu)
        · exact hv1 u hu
      · exact h1 u (List.mem_of_mem_drop hu)
    · simp only [List.size_toArray, List.length_append, List.length_take, List.length_drop, hcl, hvs]
      omega
    · subst h7
      simp only []
      apply List.ext_getElem?
      intro i
      simp only [List.getElem?_take, List.getElem?_append, List.length_append, List.length_take, hcl, hvs, List.getElem?_drop]
      by_cases hi : i < n * sz
      · rw [if_pos hi]
        by_cases h8 : i < j * sz
        · have e1 : i < min (j * sz) (cap * sz) + sz := by omega
          have e2 : i < min (j * sz) (cap * sz) := by omega
          have e3 : i < min (j * sz) (min (n * sz) (cap * sz)) + sz := by omega
          have e4 : i < min (j * sz) (min (n * sz) (cap * sz)) := by omega
          simp only [e1, e2, e3, e4, if_true, h8, hi]
        · have e0 : min (j * sz) (cap * sz) = j * sz := by omega
          have e0' : min (j * sz) (min (n * sz) (cap * sz)) = j * sz := by omega
          rw [e0, e0']
          by_cases h9 : i < j * sz + sz
          · simp only [h9, h8, if_true, if_false]
          · have e5 : j * sz + sz + (i - (j * sz + sz)) < n * sz := by omega
            simp only [h9, if_false, e5, if_true]
      · rw [if_neg hi]
        have e0' : min (j * sz) (min (n * sz) (cap * sz)) = j * sz := by omega
        rw [e0']
        have e1 : ¬ i < j * sz + sz := by omega
        have e5 : ¬ j * sz + sz + (i - (j * sz + sz)) < n * sz := by omega
        simp only [e1, if_false, e5]

/-- A slice of a row that reads: its elements from j on, m of them. -/
theorem Sl.sub {w : World} {sz b o n cap : Nat} {cs : List Value} (h : Sl w sz (.slice (some ⟨b, o, none⟩) n cap) n cs) (j m cap' : Nat) (hj : j + m ≤ n) (hc : m ≤ cap') (hm : cap' ≤ maxLen) :
    Sl w sz (.slice (some ⟨b, o + j * sz, none⟩) m cap') m ((cs.drop (j * sz)).take (m * sz)) := by
  obtain ⟨h1, h2, a, c, e, h3, h4, h5, h6⟩ := h
  simp only [Value.slice.injEq, true_and] at e
  obtain ⟨rfl, rfl⟩ := e
  have hl : j * sz + m * sz ≤ n * sz := by rw [← Nat.add_mul]; exact Nat.mul_le_mul_right _ hj
  refine ⟨by simp only [List.length_take, List.length_drop, h1]; omega, fun u hu => h2 u (List.mem_of_mem_drop (List.mem_of_mem_take hu)), _, cap', rfl, hc, hm, by simp, ?_⟩
  rcases h6 with h6 | ⟨b', o', e, h6⟩
  · subst h6
    exact .inl (by simp)
  · simp only [Option.some.injEq, Addr.mk.injEq, and_true] at e
    obtain ⟨rfl, rfl⟩ := e
    refine .inr ⟨b, _, rfl, fun i u hi => ?_⟩
    rw [List.getElem?_take] at hi
    split at hi
    · rw [List.getElem?_drop] at hi
      rw [Nat.add_assoc]
      exact h6 _ u hi
    · simp at hi

/-- 's[:j]' of a row that begins at its block's head. -/
theorem run_sliceL {P : Program} {t e : TypeId} {sz : Nat} (ht : P.underlying t = some (.slice e)) (hs : ∀ w, (sizeOf e).run P w = .ok sz w) (g n cap j : Nat) (hj : j ≤ cap) (W : World) :
    (Instr.sliceAt t (.slice (some ⟨g, 0, none⟩) n cap) none (some (.int .i64 j)) none).run P W = .ok (.slice (some ⟨g, 0, none⟩) j cap) W := by
  have h2 : ¬ ((j : Int) < 0) := by omega
  have h3 : ¬ (cap < j) := by omega
  simp [Instr.sliceAt, Instr.slice, Instr.sliceBounds, Instr.sliceBound, run_underlying ht, asIntOf, hs, h2, h3, hj]
  exact fun _ => by rw [Addr.add_lit]

/-- Where 's[i:]' begins: at the very end of the capacity the address stays. -/
def cutAt (g cap i sz : Nat) : Option Addr := if cap = i then some ⟨g, 0, none⟩ else some ⟨g, i * sz, none⟩

theorem run_sliceR {P : Program} {t e : TypeId} {sz : Nat} (ht : P.underlying t = some (.slice e)) (hs : ∀ w, (sizeOf e).run P w = .ok sz w) (g n cap i : Nat) (hi : i ≤ n) (hc : n ≤ cap) (W : World) :
    (Instr.sliceAt t (.slice (some ⟨g, 0, none⟩) n cap) (some (.int .i64 i)) none none).run P W = .ok (.slice (cutAt g cap i sz) (n - i) (cap - i)) W := by
  have h2 : ¬ ((i : Int) < 0) := by omega
  have h3 : ¬ (n < i) := by omega
  by_cases h : cap = i
  · subst h
    simp [Instr.sliceAt, Instr.slice, Instr.sliceBounds, Instr.sliceBound, run_underlying ht, asIntOf, hs, h2, h3, hi, cutAt]
  · have h5 : ¬ cap - i = 0 := by omega
    have h6 : ¬ cap ≤ i := by omega
    simp [Instr.sliceAt, Instr.slice, Instr.sliceBounds, Instr.sliceBound, run_underlying ht, asIntOf, hs, h2, h3, hi, cutAt, h, h5, h6, Addr.add_lit]

theorem Sl.left {w : World} {sz g n cap : Nat} {cs : List Value} (h : Sl w sz (.slice (some ⟨g, 0, none⟩) n cap) n cs) (j : Nat) (hj : j ≤ n) :
    Sl w sz (.slice (some ⟨g, 0, none⟩) j cap) j (cs.take (j * sz)) := by
  obtain ⟨a, c, e, h3, h4⟩ := h.form
  simp only [Value.slice.injEq, true_and] at e
  obtain ⟨rfl, rfl⟩ := e
  have := h.sub 0 j cap (by omega) (by omega) h4
  simpa using this

theorem Sl.right {w : World} {sz g n cap : Nat} {cs : List Value} (h : Sl w sz (.slice (some ⟨g, 0, none⟩) n cap) n cs) (i : Nat) (hi : i ≤ n) :
    Sl w sz (.slice (cutAt g cap i sz) (n - i) (cap - i)) (n - i) (cs.drop (i * sz)) := by
  obtain ⟨a, c, e, h3, h4⟩ := h.form
  have hl := h.1
  simp only [Value.slice.injEq, true_and] at e
  obtain ⟨rfl, rfl⟩ := e
  unfold cutAt
  split
  · rename_i hc
    have hn : n - i = 0 := by omega
    rw [hn, show cap - i = 0 by omega, List.drop_of_length_le (by rw [hl]; exact Nat.mul_le_mul_right _ (by omega))]
    exact Sl.nil _ _ _
  · have := h.sub i (n - i) (cap - i) (by omega) (by omega) (by omega)
    rw [List.take_of_length_le (by rw [List.length_drop, hl, Nat.sub_mul]; exact Nat.le_refl _)] at this
    simpa using this

/-- append, with the block of what it gives: it is there. -/
theorem run_app2 {P : Program} {w : World} {t ty e : TypeId} {size bytes : Nat} {z : Value} (hE : Elem P t e size bytes z) {B : Nat}
    {v : Value} {n : Nat} {cs : List Value} (hown : Own w B e size v n cs) (hlt : ∀ b, v.ownBlock = some b → b < w.heap.size) {x : Value} {m : Nat} {ds : List Value} (hsl : Sl w size x m ds)
    (h63 : n + m ≤ maxLen) (hbytes : (n + m) * bytes ≤ 140737488355328) (hbase : B ≤ w.heap.size) :
    ∃ v' w', (Builtin.append_ #[t, t] ty #[v, x]).run P w = .ok v' w' ∧ Own w' B e size v' (n + m) (cs ++ ds) ∧ Keeps (fun k => v.ownBlock = some k ∧ B ≤ k ∨ w.heap.size ≤ k) w w' ∧ (∀ b, v'.ownBlock = some b → (v.ownBlock = some b ∨ w.heap.size ≤ b) ∧ b < w'.heap.size) := by
  obtain ⟨v', w', hr, h1, h2, h3⟩ := run_app (ty := ty) hE hown hsl h63 hbytes hbase
  refine ⟨v', w', hr, h1, h2, fun b hb => ⟨h3 b hb, ?_⟩⟩
  by_cases h0 : 0 < n + m
  · obtain ⟨h4, h5, ⟨a, e1, e2⟩ | ⟨g, cap, cur, e1, e2, e3, _⟩⟩ := h1
    · omega
    · rw [e1] at hb
      simp [Value.ownBlock] at hb
      subst hb
      exact block_lt e3
  · obtain rfl : m = 0 := by omega
    obtain ⟨ht, i, hi, hz, hsize, hby, hzs, hsz⟩ := hE
    obtain ⟨hdl, hd1, a, c, rfl, hmc, hcm, hanone, hat⟩ := hsl
    have hfc : (Builtin.firstCells size 0 (.slice a 0 c)).run P w = .ok #[] w := by
      cases a <;> simp [Builtin.firstCells, loadCells, loadCellsFrom]
    have hr' : (Builtin.append_ #[t, t] ty #[v, .slice a 0 c]).run P w = .ok v w := by
      obtain ⟨_, _, ⟨a0, rfl, rfl⟩ | ⟨g, cap, cur, rfl, _, _, hnc, _⟩⟩ := hown
      · cases a0 <;> simp [Builtin.append_, run_underlying ht, sizeOf, typeInfo, hi, Builtin.lenOf, hsize, hfc, storeCells]
      · simp [Builtin.append_, run_underlying ht, sizeOf, typeInfo, hi, Builtin.lenOf, hsize, hfc, hnc, storeCells]
    rw [hr] at hr'
    simp only [Result.ok.injEq] at hr'
    obtain ⟨rfl, rfl⟩ := hr'
    exact hlt b hb

theorem step_app2 {P : Program} {ops : Array Oper} {o : Oper} {a : Act} {w : World} {K : Act → World → Prop} {Q : Exit → Act → World → Prop} {E : Prop} (hgd : o.guard = none) (s x : Operand) {t e : TypeId} {size bytes : Nat} {z : Value}
    (hE : Elem P t e size bytes z) (ho : o.op = .call { callee := .builtin .append, args := #[s, x], argTypes := #[t, t] }) (B : Nat) {v : Value} (hv : a.eval s = v)
    {n : Nat} {cs : List Value} (hown : Own w B e size v n cs) (hlt : ∀ b, v.ownBlock = some b → b < w.heap.size) {u : Value} (hu : a.eval x = u) {m : Nat} {ds : List Value} (hsl : Sl w size u m ds)
    (h63 : n + m ≤ maxLen) (hbytes : (n + m) * bytes ≤ 140737488355328) (hbase : B ≤ w.heap.size)
    (h : ∀ v' w', Own w' B e size v' (n + m) (cs ++ ds) → Keeps (fun k => v.ownBlock = some k ∧ B ≤ k ∨ w.heap.size ≤ k) w w' → (∀ b, v'.ownBlock = some b → (v.ownBlock = some b ∨ w.heap.size ≤ b) ∧ b < w'.heap.size) → K (a.put o.dst v') w') :
    if Region.wanted o (yielded ops a.tmps) = true then Oper.wp P o a w K Q else E := by
  have hw : Region.wanted o (yielded ops a.tmps) = true := by simp [Region.wanted, hgd]
  rw [if_pos hw]
  obtain ⟨v', w', hr, h2, h3, h4⟩ := run_app2 (P := P) (ty := o.type) hE hown hlt hsl h63 hbytes hbase
  unfold Oper.wp execOp
  simp only [ho, resolve, invoke, builtin, Sem.run_bind, Sem.run_pure, Result.andThen_ok, List.map_toArray, List.map_cons, List.map_nil, hv, hu, hr]
  exact h v' w' h2 h3 h4

theorem wpList_app2 {P : Program} {w : World} {ops : Array Oper} {rest : List Oper} {o : Oper} {a : Act} {Q : Exit → Act → World → Prop} (hgd : Region.wanted o (yielded ops a.tmps) = true) (s x : Operand) {t e : TypeId} {size bytes : Nat} {z : Value}
    (hE : Elem P t e size bytes z) (ho : o.op = .call { callee := .builtin .append, args := #[s, x], argTypes := #[t, t] }) (B : Nat)
    {n : Nat} {cs : List Value} (hown : Own w B e size (a.eval s) n cs) (hlt : ∀ b, (a.eval s).ownBlock = some b → b < w.heap.size) {m : Nat} {ds : List Value} (hsl : Sl w size (a.eval x) m ds)
    (h63 : n + m ≤ maxLen) (hbytes : (n + m) * bytes ≤ 140737488355328) (hbase : B ≤ w.heap.size)
    (h : ∀ v' w', Own w' B e size v' (n + m) (cs ++ ds) → Keeps (fun k => (a.eval s).ownBlock = some k ∧ B ≤ k ∨ w.heap.size ≤ k) w w' → (∀ b, v'.ownBlock = some b → ((a.eval s).ownBlock = some b ∨ w.heap.size ≤ b) ∧ b < w'.heap.size) → wpList P ops Q rest (a.put o.dst v') w') : wpList P ops Q (o :: rest) a w := by
  obtain ⟨v', w', hr, h2, h3, h4⟩ := run_app2 (P := P) (ty := o.type) hE hown hlt hsl h63 hbytes hbase
  refine wpList_want hgd fun K hK => ?_
  unfold Oper.wp execOp
  simp only [ho, resolve, invoke, builtin, Sem.run_bind, Sem.run_pure, Result.andThen_ok, List.map_toArray, List.map_cons, List.map_nil, hr]
  exact hK _ _ (h v' w' h2 h3 h4)

theorem foldl_set_get : ∀ (l : List Value) (i : Nat) (cs : Array Value) (k : Nat), i + l.length ≤ cs.size →
    ((l.zipIdx i).foldl (fun cs (x : Value × Nat) => cs.setIfInBounds (0 + x.2) x.1) cs)[k]? = if i ≤ k ∧ k < i + l.length then l[k - i]? else cs[k]?
  | [], i, cs, k, _ => by simp; omega
  | x :: l, i, cs, k, h => by
    simp only [List.length_cons] at h
    rw [List.zipIdx_cons, List.foldl_cons, foldl_set_get l (i + 1) _ k (by simp; omega)]
    simp only [List.length_cons, Nat.zero_add]
    by_cases hk : k = i
    · subst hk
      rw [if_neg (by omega), if_pos (by omega), Nat.sub_self]
      simp [Array.getElem?_setIfInBounds, show k < cs.size by omega]
    · by_cases h2 : i + 1 ≤ k ∧ k < i + 1 + l.length
      · rw [if_pos h2, if_pos (by omega), show k - i = (k - (i + 1)) + 1 by omega, List.getElem?_cons_succ]
      · rw [if_neg h2, if_neg (by omega)]
        simp [Array.getElem?_setIfInBounds, Ne.symm hk]

theorem fill_one (X : Array Value) (size : Nat) (cells : Array Value) (hX : X.size = size) (hc : cells.size = size) : Instr.fill (fun i => some (i * size, size)) cells [(0, .agg X)] = some X := by
  have hf : (X.zipIdx.foldl (fun cs (x : Value × Nat) => cs.setIfInBounds (0 + x.2) x.1) cells) = X := by
    rw [← Array.foldl_toList, Array.toList_zipIdx]
    apply Array.ext_getElem?
    intro k
    rw [foldl_set_get X.toList 0 cells k (by simp; omega)]
    by_cases hk : k < X.size
    · rw [if_pos (by simp; omega)]; simp
    · rw [if_neg (by simp; omega), Array.getElem?_eq_none (by omega), Array.getElem?_eq_none (by omega)]
  unfold Instr.fill
  simp only [Value.cells, Nat.zero_mul, Nat.zero_add]
  rw [if_neg (by simp [hX, hc])]
  unfold Instr.fill
  have e : (X.zipIdx.foldl (fun cs x => match x with | (c, j) => cs.setIfInBounds (0 + j) c) cells) = X := hf
  simp only [Nat.zero_add] at e
  exact congrArg some e

/-- A slice literal of one struct or array. -/
theorem wpList_bs1 {P : Program} {ops : Array Oper} {rest : List Oper} {o : Oper} {a : Act} {w : World} {Q : Exit → Act → World → Prop} (hg : o.guard = none) (x : Operand) {t e : TypeId} {size bytes : Nat} {z : Value} (hE : Elem P t e size bytes z) (ho : o.op = .buildSlice t 1 #[(0, x)])
    {X : Array Value} (hx : a.eval x = .agg X) (hX : X.size = size) (hs : size ≤ 16777216)
    (h : wpList P ops Q rest (a.put o.dst (.slice (some ⟨w.heap.size, 0, none⟩) 1 1)) (w.alloc (.cells X e))) : wpList P ops Q (o :: rest) a w := by
  obtain ⟨ht, i, hi, hz, hsize, hby, hzs, hsz⟩ := hE
  refine wpList_buildSlice hg t e 1 #[(0, x)] ho X i z ht hi hz (by omega) (by omega) ?_ h
  rw [hsize]
  simp only [List.map_toArray, List.map_cons, List.map_nil, hx]
  exact fill_one X size _ hX (by simp)


/-- A slice literal of one struct, as one step of a region that draws its order. -/
theorem step_bs1 {P : Program} {ops : Array Oper} {o : Oper} {a : Act} {w : World} {K : Act → World → Prop} {Q : Exit → Act → World → Prop} {E : Prop} (hgd : o.guard = none) (x : Operand) {t e : TypeId} {size bytes : Nat} {z : Value} (hE : Elem P t e size bytes z) (ho : o.op = .buildSlice t 1 #[(0, x)])
    {X : Array Value} (hx : a.eval x = .agg X) (hX : X.size = size) (hs : size ≤ 16777216)
    (h : K (a.put o.dst (.slice (some ⟨w.heap.size, 0, none⟩) 1 1)) (w.alloc (.cells X e))) :
    if Region.wanted o (yielded ops a.tmps) = true then Oper.wp P o a w K Q else E := by
  have hw : Region.wanted o (yielded ops a.tmps) = true := by simp [Region.wanted, hgd]
  rw [if_pos hw]
  obtain ⟨ht, i, hi, hz, hsize, hby, hzs, hsz⟩ := hE
  refine wp_buildSlice t e 1 #[(0, x)] ho X i z ht hi hz (by omega) (by omega) ?_ h
  rw [hsize]
  simp only [List.map_toArray, List.map_cons, List.map_nil, hx]
  exact fill_one X size _ hX (by simp)

theorem flatC_at {α : Type} {n : Nat} (f : α → List Value) : ∀ (l : List α), (∀ x ∈ l, (f x).length = n) → ∀ (k j : Nat) (h : k < l.length), j < n → ((l.map f).flatten)[k * n + j]? = (f l[k])[j]?
  | [], _, k, j, h, _ => by simp at h
  | x :: l, hf, 0, j, h, hj => by
    simp only [List.map_cons, List.flatten_cons, Nat.zero_mul, Nat.zero_add, List.getElem_cons_zero]
    rw [List.getElem?_append_left (by rw [hf x (by simp)]; exact hj)]
  | x :: l, hf, k + 1, j, h, hj => by
    simp only [List.map_cons, List.flatten_cons, List.getElem_cons_succ]
    rw [List.getElem?_append_right (by rw [hf x (by simp), Nat.add_mul]; omega), hf x (by simp), show (k + 1) * n + j - n = k * n + j by rw [Nat.add_mul]; omega]
    exact flatC_at f l (fun y hy => hf y (by simp [hy])) k j (by simpa using h) hj

end Go.Proofs.Ytclonbojpcgngaa
