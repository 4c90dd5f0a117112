/- The law RelayPlays returns true for all rows of steps: no conditions. -/
import Derived.Test.YtofmkkcbfeadgaaRpA13
import Derived.OpenShut
import Derived.Deep.Slices
import Derived.ChangeArms
import Derived.WideShapes
namespace Go.Proofs.Ytofmkkcbfeadgaa
set_option linter.unusedSimpArgs false
set_option linter.unusedVariables false
open Go.RowKit
def flatFs (rec : TypeId → Option (List TypeId)) (cells : TypeId → Nat) : List Field → Nat → Option (List TypeId × Nat)
  | [], o => some ([], o)
  | f :: fs, o =>
    match rec f.type with
    | some l => if f.offset = o ∧ l.length = cells f.type then (flatFs rec cells fs (o + l.length)).map fun x => (l ++ x.1, x.2) else none
    | none => none
/-- The types of a type's cells, structs and arrays taken apart. -/
def flatTy (P : Program) : Nat → TypeId → Option (List TypeId)
  | 0, _ => none
  | fuel + 1, t =>
    match P.underlying t with
    | some (.struct fs) => match flatFs (flatTy P fuel) P.cellsOf fs.toList 0 with
      | some (l, o) => if o = P.cellsOf t then some l else none
      | none => none
    | some (.array n e) => match flatTy P fuel e with
      | some l => if l.length = P.cellsOf e ∧ n * l.length = P.cellsOf t then some ((List.range n).flatMap fun _ => l) else none
      | none => none
    | some _ => some [t]
    | none => none
theorem flatFs_ok {rec : TypeId → Option (List TypeId)} {cells : TypeId → Nat} : ∀ {fs : List Field} {o : Nat} {L : List TypeId} {o' : Nat}, flatFs rec cells fs o = some (L, o') →
    o' = o + L.length ∧ ∀ j t', L[j]? = some t' → ∃ f ∈ fs, ∃ l k, rec f.type = some l ∧ l[k]? = some t' ∧ f.offset + k = o + j ∧ l.length = cells f.type ∧ f.offset + l.length ≤ o'
  | [], o, L, o', h => by
    simp only [flatFs, Option.some.injEq, Prod.mk.injEq] at h
    obtain ⟨rfl, rfl⟩ := h
    exact ⟨rfl, fun j t' h => by simp at h⟩
  | f :: fs, o, L, o', h => by
    simp only [flatFs] at h
    split at h
    · rename_i l hl
      split at h
      · rename_i hc
        obtain ⟨⟨L1, o1⟩, h1, h2⟩ := Option.map_eq_some_iff.1 h
        simp only [Prod.mk.injEq] at h2
        obtain ⟨rfl, rfl⟩ := h2
        obtain ⟨e1, e2⟩ := flatFs_ok h1
        refine ⟨by simp; omega, fun j t' hj => ?_⟩
        by_cases hjl : j < l.length
        · rw [List.getElem?_append_left hjl] at hj
          exact ⟨f, by simp, l, j, hl, hj, by omega, hc.2, by omega⟩
        · rw [List.getElem?_append_right (by omega)] at hj
          obtain ⟨f', hf', l', k, q1, q2, q3, q4, q5⟩ := e2 _ _ hj
          exact ⟨f', by simp [hf'], l', k, q1, q2, by omega, q4, by omega⟩
      · simp at h
    · simp at h
section
variable {H : Type} {enc : TypeId × Value → H} {P : Program} {w : World} {base : Nat} {spare : Nat → Bool} {held : Bool}
/-- A cell of a type that is neither a struct nor an array reads by itself. -/
def Leaf (enc : TypeId × Value → H) (P : Program) (w : World) (base : Nat) (spare : Nat → Bool) (held : Bool) (t : TypeId) (c : Value) : Prop :=
  (∃ d, P.underlying t = some d ∧ (∀ fs, d ≠ .struct fs) ∧ ∀ n e, d ≠ .array n e) ∧ ∃ n y, DataW.trod enc P w base spare held n t [c] = some y
def Leaves (enc : TypeId × Value → H) (P : Program) (w : World) (base : Nat) (spare : Nat → Bool) (held : Bool) (ts : List TypeId) (cs : List Value) : Prop :=
  cs.length = ts.length ∧ ∀ (j : Nat) t' c, ts[j]? = some t' → cs[j]? = some c → Leaf enc P w base spare held t' c
theorem getElem?_slice {α : Type} (l : List α) (o n k : Nat) (hk : k < n) : ((l.drop o).take n)[k]? = l[o + k]? := by
  rw [List.getElem?_take, if_pos hk, List.getElem?_drop]
theorem length_flatMap_const {α : Type} (l : List α) : ∀ n : Nat, ((List.range n).flatMap fun _ => l).length = n * l.length := by
  intro n
  induction n with
  | zero => simp
  | succ n ih =>
    rw [List.range_succ, List.flatMap_append, List.length_append, ih, Nat.add_mul]
    simp
theorem flatMap_const_get {α : Type} (l : List α) : ∀ (n j : Nat) (x : α), ((List.range n).flatMap fun _ => l)[j]? = some x → ∃ i k, i < n ∧ k < l.length ∧ j = i * l.length + k ∧ l[k]? = some x := by
  intro n
  induction n with
  | zero => intro j x h; simp at h
  | succ n ih =>
    intro j x h
    rw [List.range_succ, List.flatMap_append] at h
    simp only [List.flatMap_cons, List.flatMap_nil, List.append_nil] at h
    have hlen := length_flatMap_const l n
    by_cases hj : j < n * l.length
    · rw [List.getElem?_append_left (by omega)] at h
      obtain ⟨i, k, h1, h2, h3, h4⟩ := ih j x h
      exact ⟨i, k, by omega, h2, h3, h4⟩
    · rw [List.getElem?_append_right (by omega), hlen] at h
      exact ⟨n, j - n * l.length, by omega, (List.getElem?_eq_some_iff.1 h).1, by omega, h⟩
theorem trod_leaves : ∀ (m : Nat) (t : TypeId) (ts : List TypeId) (n : Nat) (cs : List Value) (x : DataW H × List MemPlace), flatTy P m t = some ts → P.cellsOf t = ts.length → cs.length = P.cellsOf t →
    DataW.trod enc P w base spare held n t cs = some x → Leaves enc P w base spare held ts cs := by
  intro m
  induction m with
  | zero => intro t ts n cs x h; simp [flatTy] at h
  | succ m ih =>
    intro t ts n cs x hf hts hcs h
    refine ⟨by omega, fun j t' c hj hc => ?_⟩
    rw [flatTy] at hf
    split at hf
    · rename_i fs hu
      split at hf
      · rename_i l o hfl
        split at hf
        · rename_i ho
          obtain rfl : l = ts := by simpa using hf
          obtain ⟨e1, e2⟩ := flatFs_ok hfl
          obtain ⟨f, hfm, l', k, q1, q2, q3, q4, q5⟩ := e2 j t' hj
          obtain ⟨xs, n', rfl, _, _, hxl, hfield⟩ := DataW.trod_struct hu h
          obtain ⟨i, hi⟩ := List.mem_iff_getElem?.1 hfm
          have hi' : fs[i]? = some f := by simpa using hi
          have hlt : i < xs.length := by
            have := (Array.getElem?_eq_some_iff.1 hi').1
            omega
          have ht := hfield i f hi'
          rw [List.getElem?_eq_getElem hlt] at ht
          have hk : k < l'.length := (List.getElem?_eq_some_iff.1 q2).1
          have hjl : j < cs.length := (List.getElem?_eq_some_iff.1 hc).1
          have hlen : ((cs.drop f.offset).take (P.cellsOf f.type)).length = P.cellsOf f.type := by
            rw [List.length_take, List.length_drop]
            omega
          have r := ih f.type l' n' _ _ q1 (by omega) hlen ht
          exact r.2 k t' c q2 (by rw [getElem?_slice _ _ _ _ (by omega), q3]; simpa using hc)
        · simp at hf
      · simp at hf
    · rename_i nn e hu
      split at hf
      · rename_i l hl
        split at hf
        · rename_i ho
          obtain rfl : ((List.range nn).flatMap fun _ => l) = ts := by simpa using hf
          obtain ⟨i, k, q1, q2, q3, q4⟩ := flatMap_const_get l nn j t' hj
          obtain ⟨xs, n', rfl, _, _, hxl, hel⟩ := DataW.trod_array hu h
          have hlt : i < xs.length := by omega
          have ht := hel i q1
          rw [List.getElem?_eq_getElem hlt] at ht
          have hmul : i * P.cellsOf e + P.cellsOf e ≤ P.cellsOf t := by
            rw [← ho.2, ← ho.1, ← Nat.succ_mul]
            exact Nat.mul_le_mul_right _ q1
          have hlen : ((cs.drop (i * P.cellsOf e)).take (P.cellsOf e)).length = P.cellsOf e := by
            rw [List.length_take, List.length_drop]
            omega
          have r := ih e l n' _ _ hl (by omega) hlen ht
          exact r.2 k t' c q4 (by rw [getElem?_slice _ _ _ _ (by omega), ← ho.1, ← q3]; exact hc)
        · simp at hf
      · simp at hf
    · rename_i d hd1 hd2 hu
      obtain rfl : [t] = ts := by simpa using hf
      have h1 : cs.length = 1 := by simpa [hts] using hcs
      match cs, h1 with
      | [c0], _ =>
        cases j with
        | zero =>
          simp only [List.getElem?_cons_zero, Option.some.injEq] at hj hc
          subst hj hc
          exact ⟨⟨d, hu, fun fs e => hd1 fs e, fun n e he => hd2 n e he⟩, n, x, h⟩
        | succ j => simp at hj
    · simp at hf
theorem Leaf.int {k : IntKind} {t : TypeId} {c : Value} (ht : P.underlying t = some (.int k)) (h : Leaf enc P w base spare held t c) : ∃ n, c = .int k n ∧ (Lit.int k n).wf = true := by
  obtain ⟨_, n, y, hy⟩ := h
  obtain ⟨m, e, _, hw⟩ := DataW.trod_int ht hy
  exact ⟨m, by simpa using e, hw⟩
theorem Leaf.bool {t : TypeId} {c : Value} (ht : P.underlying t = some .bool) (h : Leaf enc P w base spare held t c) : ∃ b, c = .bool b := by
  obtain ⟨_, n, y, hy⟩ := h
  obtain ⟨m, e, _⟩ := DataW.trod_bool ht hy
  exact ⟨m, by simpa using e⟩
theorem Leaf.string {t : TypeId} {c : Value} (ht : P.underlying t = some .string) (h : Leaf enc P w base spare held t c) : ∃ s : ByteArray, c = .string s ∧ s.size ≤ maxLen := by
  obtain ⟨_, n, y, hy⟩ := h
  obtain ⟨m, e, _, hw⟩ := DataW.trod_string ht hy
  exact ⟨m, by simpa using e, hw⟩
theorem Leaf.one {t : TypeId} {c : Value} (h : Leaf enc P w base spare held t c) : c.oneCell' = true := by
  obtain ⟨⟨d, hu, h1, h2⟩, n, y, hy⟩ := h
  cases n with
  | zero => simp [DataW.trod] at hy
  | succ n =>
    cases c with
    | agg cs => 
      unfold DataW.trod at hy
      rw [hu] at hy
      split at hy <;> simp_all
    | tuple vs =>
      unfold DataW.trod at hy
      rw [hu] at hy
      split at hy <;> simp_all
    | _ => rfl
theorem Leaves.one {ts : List TypeId} {cs : List Value} (h : Leaves enc P w base spare held ts cs) : ∀ u ∈ cs, u.oneCell' = true := by
  intro u hu
  obtain ⟨j, hj⟩ := List.mem_iff_getElem?.1 hu
  have hl : j < cs.length := (List.getElem?_eq_some_iff.1 hj).1
  have : j < ts.length := by have := h.1; omega
  exact (h.2 j ts[j] u (List.getElem?_eq_getElem this) hj).one
theorem Leaves.cons {t : TypeId} {ts : List TypeId} {cs : List Value} (h : Leaves enc P w base spare held (t :: ts) cs) : ∃ c cs', cs = c :: cs' ∧ Leaf enc P w base spare held t c ∧ Leaves enc P w base spare held ts cs' := by
  obtain ⟨h1, h2⟩ := h
  cases cs with
  | nil => simp at h1
  | cons c cs' => exact ⟨c, cs', rfl, h2 0 t c rfl rfl, by simpa using h1, fun j t' c' hj hc => h2 (j + 1) t' c' (by simpa using hj) (by simpa using hc)⟩
theorem Leaves.nil {cs : List Value} (h : Leaves enc P w base spare held [] cs) : cs = [] := by simpa using h.1
theorem addr_of_cell {a : Addr} {u : Value} (h : w.cell? a = some u) : a = ⟨a.block, a.off, none⟩ := by
  obtain ⟨b, o, s⟩ := a
  cases s with
  | none => rfl
  | some n => simp [World.cell?] at h; split at h <;> simp at h
/-- A slice of structs (or of whatever), each element's cells by their types. -/
theorem open_elems {t e : TypeId} {v : Value} {d : DataW H} {ps : List MemPlace} {m : Nat} {ts : List TypeId} (ht : P.underlying t = some (.slice e)) (hf : flatTy P m e = some ts) (hc : P.cellsOf e = ts.length) (hpos : 0 < ts.length)
    (hv : ∃ a len cap, v = .slice a len cap) (h : DataW.Trod enc P w base spare held t v d ps) :
    ∃ (n : Nat) (xs : List (List Value)), xs.length = n ∧ (∀ x ∈ xs, Leaves enc P w base spare held ts x) ∧ Sl w ts.length v n xs.flatten := by
  obtain ⟨a, len, cap, rfl⟩ := hv
  obtain ⟨fuel, hy⟩ := h
  rcases Deep.open_slice ht hy with ⟨h1, _⟩ | ⟨a', len', cap', m', n', D, Pl, h1, hb, hl, hm, hm', hx, hel⟩
  · simp only [Value.cells, List.cons.injEq, and_true, Value.slice.injEq] at h1
    obtain ⟨rfl, rfl, rfl⟩ := h1
    exact ⟨0, [], rfl, by simp, Sl.nil _ _ _⟩
  · simp only [Value.cells, List.cons.injEq, and_true, Value.slice.injEq] at h1
    obtain ⟨rfl, rfl, rfl⟩ := h1
    have hlm : len ≤ m' := by rw [hm']; split <;> omega
    have key : ∀ i, ∃ cs', i < len → cs'.length = ts.length ∧ Leaves enc P w base spare held ts cs' ∧ ∀ j u, cs'[j]? = some u → w.cell? (a'.add (i * ts.length + j)) = some u := by
      intro i
      by_cases hi : i < len
      · obtain ⟨cs', h2, h3⟩ := hel i (by omega)
        obtain ⟨_, h4, h5⟩ := World.cells?_some h2
        rw [hc] at h4
        refine ⟨cs', fun _ => ⟨h4, trod_leaves m e ts n' cs' _ hf hc (by omega) h3, fun j u hj => ?_⟩⟩
        have hjl := (List.getElem?_eq_some_iff.1 hj).1
        have := h5 j (by omega)
        rw [Deep.add_add, hc] at this
        rw [this, hj]
      · exact ⟨[], fun h => absurd h hi⟩
    obtain ⟨f, hf'⟩ : ∃ f : Nat → List Value, ∀ i, i < len → (f i).length = ts.length ∧ Leaves enc P w base spare held ts (f i) ∧ ∀ j u, (f i)[j]? = some u → w.cell? (a'.add (i * ts.length + j)) = some u :=
      ⟨fun i => (key i).choose, fun i hi => (key i).choose_spec hi⟩
    refine ⟨len, (List.range len).map f, by simp, ?_, ?_⟩
    · intro x hx
      obtain ⟨i, hi, rfl⟩ := List.mem_map.1 hx
      exact (hf' i (List.mem_range.1 hi)).2.1
    · have hlen : ∀ k, k ≤ len → (((List.range k).map f).flatten).length = k * ts.length := by
        intro k
        induction k with
        | zero => simp
        | succ k ih =>
          intro hk
          rw [List.range_succ, List.map_append, List.flatten_append, List.length_append, ih (by omega)]
          simp only [List.map_cons, List.map_nil, List.flatten_cons, List.flatten_nil, List.append_nil, (hf' k (by omega)).1, Nat.add_mul, Nat.one_mul]
      have hget : ∀ k, k ≤ len → ∀ j u, (((List.range k).map f).flatten)[j]? = some u → w.cell? (a'.add j) = some u := by
        intro k
        induction k with
        | zero => intro _ j u h; simp at h
        | succ k ih =>
          intro hk j u h
          rw [List.range_succ, List.map_append, List.flatten_append] at h
          simp only [List.map_cons, List.map_nil, List.flatten_cons, List.flatten_nil, List.append_nil] at h
          by_cases hj : j < k * ts.length
          · rw [List.getElem?_append_left (by rw [hlen k (by omega)]; exact hj)] at h
            exact ih (by omega) j u h
          · rw [List.getElem?_append_right (by rw [hlen k (by omega)]; omega), hlen k (by omega)] at h
            have := (hf' k (by omega)).2.2 _ u h
            rwa [show k * ts.length + (j - k * ts.length) = j by omega] at this
      refine ⟨hlen len (Nat.le_refl _), ?_, some a', cap, rfl, hl, hm, fun h => by simp at h, ?_⟩
      · intro u hu
        obtain ⟨x, hx, hu⟩ := List.mem_flatten.1 hu
        obtain ⟨i, hi, rfl⟩ := List.mem_map.1 hx
        exact (hf' i (List.mem_range.1 hi)).2.1.one u hu
      · by_cases h0 : len = 0
        · subst h0; exact .inl rfl
        · have hpos' : 0 < ((List.range len).map f).flatten.length := by rw [hlen len (Nat.le_refl _)]; exact Nat.mul_pos (by omega) hpos
          have hc0 := hget len (Nat.le_refl _) 0 _ (List.getElem?_eq_getElem hpos')
          have ea : a' = ⟨a'.block, a'.off, none⟩ := by
            have := addr_of_cell hc0
            simpa [Addr.add] using this
          refine .inr ⟨a'.block, a'.off, by rw [← ea], fun j u hj => ?_⟩
          have := hget len (Nat.le_refl _) j u hj
          rw [ea, Addr.add_lit] at this
          exact this
/-- Each of some lists is one of a function's values: then they are a list's. -/
theorem exists_map {α β : Type} (f : α → β) : ∀ (xs : List β), (∀ x ∈ xs, ∃ a, x = f a) → ∃ l : List α, xs = l.map f
  | [], _ => ⟨[], rfl⟩
  | x :: xs, h => by
    obtain ⟨a, rfl⟩ := h x (by simp)
    obtain ⟨l, rfl⟩ := exists_map f xs (fun y hy => h y (by simp [hy]))
    exact ⟨a :: l, rfl⟩
theorem exists_map' {α β : Type} (p : α → Prop) (f : α → β) : ∀ (xs : List β), (∀ x ∈ xs, ∃ a, x = f a ∧ p a) → ∃ l : List α, xs = l.map f ∧ ∀ a ∈ l, p a
  | [], _ => ⟨[], rfl, by simp⟩
  | x :: xs, h => by
    obtain ⟨a, rfl, ha⟩ := h x (by simp)
    obtain ⟨l, rfl, hl⟩ := exists_map' p f xs (fun y hy => h y (by simp [hy]))
    exact ⟨a :: l, rfl, by simpa using ⟨ha, hl⟩⟩
end
end Go.Proofs.Ytofmkkcbfeadgaa
namespace Go.Proofs.Ytofmkkcbfeadgaa
set_option linter.unusedSimpArgs false
set_option linter.unusedVariables false
open Go.ChangeShapes Go.WideShapes Go.RowKit Go.OpenShut
variable {H : Type} {enc : TypeId × Value → H} {w : World} {base : Nat} {spare : Nat → Bool} {held : Bool}
theorem byte_of_wf {n : Int} (h : (Lit.int .u8 n).wf = true) : ∃ x : UInt8, (Value.int .u8 n) = bV x := by
  have h := bounds_u8 h
  refine ⟨UInt8.ofNat n.toNat, ?_⟩
  rw [bV, UInt8.toNat_ofNat']
  congr 1
  omega
theorem flat_bV : ∀ l : List UInt8, (l.map fun x => [bV x]).flatten = bCells l
  | [] => rfl
  | x :: l => by rw [List.map_cons, List.flatten_cons, flat_bV l]; rfl
variable {H : Type} {enc : TypeId × Value → H} {w : World} {base : Nat} {spare : Nat → Bool} {held : Bool}
set_option maxRecDepth 100000 in
theorem leaf_box {c : Value} (h : Leaf enc Try.prog w base spare held 27 c) : ∃ l : List UInt8, Bs w c l := by
  obtain ⟨_, fuel, y, hy⟩ := h
  have hf : flatTy Try.prog 4 5 = some [5] := by kernel_rfl
  rcases Deep.open_slice Try.underlying27 hy with ⟨h1, _⟩ | ⟨a', len, cap, m', n', D, Pl, h1, _, hl, hm, hm', hx, hel⟩
  · simp only [List.cons.injEq, and_true] at h1
    subst h1
    exact ⟨[], Sl.nil _ _ _⟩
  · simp only [List.cons.injEq, and_true] at h1
    subst h1
    obtain ⟨n, xs, hn, hxs, hs⟩ := open_elems (v := .slice (some a') len cap) (d := y.1) (ps := y.2) Try.underlying27 hf (by kernel_rfl) (by decide) ⟨_, _, _, rfl⟩ ⟨fuel, hy⟩
    obtain ⟨l, rfl⟩ := exists_map (fun x : UInt8 => [bV x]) xs (fun x hxm => by
      obtain ⟨c0, x, rfl, k0, hL⟩ := (hxs x hxm).cons
      obtain rfl := hL.nil
      obtain ⟨y0, rfl, hw⟩ := k0.int Try.underlying5
      obtain ⟨z, hz⟩ := byte_of_wf hw
      exact ⟨z, by rw [hz]⟩)
    rw [flat_bV] at hs
    rw [List.length_map] at hn
    subst hn
    exact ⟨l, hs⟩
variable {H : Type} {enc : TypeId × Value → H} {w : World} {base : Nat} {spare : Nat → Bool} {held : Bool}
set_option maxRecDepth 100000 in
theorem open_rsts {v : Value} {d : DataW H} {ps : List MemPlace} {r : Reach} {b0 : Nat} (hval : Value.okWide Try.prog w r b0 22 v)
    (h : DataW.Trod enc Try.prog w base spare held 22 v d ps) : ∃ l : List Rst, Sl w 3 v l.length (l.map Rst.cells).flatten ∧ ∀ x ∈ l, x.In w := by
  have hf : flatTy Try.prog 8 29 = some [3, 9, 27] := by kernel_rfl
  obtain ⟨n, xs, hn, hx, hs⟩ := open_elems Try.underlying22 hf (by kernel_rfl) (by decide) (okWide_slice Try.underlying22 hval) h
  obtain ⟨l, rfl, hl⟩ := exists_map' (fun x : Rst => x.In w) Rst.cells xs (fun x hxm => by
    obtain ⟨c0, x0, rfl, k0, hL⟩ := (hx x hxm).cons
    obtain ⟨c1, x1, rfl, k1, hL⟩ := hL.cons
    obtain ⟨c2, x2, rfl, k2, hL⟩ := hL.cons
    obtain rfl := hL.nil
    obtain ⟨f0, rfl, _⟩ := k0.int Try.underlying3
    obtain ⟨s, rfl, hs⟩ := k1.string Try.underlying9
    obtain ⟨b, hb⟩ := leaf_box k2
    exact ⟨⟨f0, s, c2, b⟩, rfl, hs, hb⟩)
  rw [List.length_map] at hn
  subst hn
  exact ⟨l, hs, hl⟩
set_option maxRecDepth 100000 in
theorem rplays_walk (v : Value) (l : List Rst) (w : World) (h : Sl w 3 v l.length (l.map Rst.cells).flatten) (hn : ∀ x ∈ l, x.In w) :
    Calls Try.prog 3 #[v] w fun e w' => e = .returned (.bool true) ∧ Below w.heap.size w w' := by
  by_cases hl : l.length ≤ 150
  · exact rplays_go v l w h hn hl
  · obtain ⟨al, cl, rfl, hcl, hml⟩ := h.form
    unfold maxLen at hml
    have hl' : (150 : Int) < l.length := by omega
    clear h hn
    go_enter Try.func3, Try.ntmps3
    go_wp2_with fail
    refine (alive23_any _).mono ?_
    rintro e w1 ⟨rfl, hb⟩
    have HB := hI hb
    clear hb
    go_wp2_with fail
    go_ret
    exact ⟨rfl, HB.out⟩
end Go.Proofs.Ytofmkkcbfeadgaa
namespace Go.Proofs.Ytofmkkcbfeadgaa.relayPlays
open Go.ChangeShapes Go.WideShapes Go.ChangeAt Go.RowKit
open Go.ChangeMaps (open_string shut_string)
set_option linter.unusedVariables false
set_option maxRecDepth 100000 in
theorem contract (H : Type) (enc : TypeId × Value → H) (W : World) (base : Nat) (args : Array Value) (ds gs : List (DataW H)) (before : List MemPlace)
    (hval0 : ∀ (j : Nat) t v, Try.f3.params[j]? = some t → args[j]? = some v → Value.okWide Try.prog W .any base t v)
    (hW : DataW.Whole enc Try.prog Try.f3.params.toList Rows.relayPlaysSpec.vars false W args.toList ds gs before) :
    Calls Try.prog 3 args W fun e W' => ∃ v, e = .returned v ∧ Rows.relayPlaysSpec.post enc Try.prog Try.f3 false true false false W args v W' := by
  have hval := hval0
  have hW' := hW
  obtain ⟨p, q, hA0, hV, rfl, hfz, hnd⟩ := hW
  have hA : DataW.TrodAll enc Try.prog W 0 (fun _ => true) true Try.f3.params.toList args.toList ds p := hA0
  rw [Try.params3] at hA hval
  obtain ⟨v0, vs0, d0, ds0, p0, q0, hargs, rfl, rfl, h0, r0⟩ := trodAll_cons hA
  obtain ⟨rfl, rfl, rfl⟩ := trodAll_nil r0
  obtain rfl : args = #[v0] := by cases args; simp_all
  obtain ⟨rfl, rfl⟩ := trodVars_none hV
  have hcall : Calls Try.prog 3 #[v0] W fun e W' => e = .returned (.bool true) ∧ Below W.heap.size W W' := by
    obtain ⟨l, hs, hin⟩ := open_rsts (hval 0 _ v0 rfl rfl) h0
    exact rplays_walk v0 l W hs hin
  refine hcall.mono fun e W' ⟨he, bel⟩ => ?_
  subst he
  exact ⟨_, rfl, _, _, _, [], _, [], hW', trodAll_mk1 (shut_bool Try.underlying4 _), trodAll_below rowLaidOut bel (by kernel_rfl) hA0, rfl, bel.frame _, fun h => by cases h⟩
set_option maxRecDepth 100000 in
theorem lifted (os : Os) (started : os.Started) (H : Type) (enc : TypeId × Value → H) :
    ReturnsInHanded {} Try.checked os 3 .any (Rows.relayPlaysSpec.pre6 enc Try.prog Try.f3 Rows.relayPlaysRow.domain false) (Rows.relayPlaysSpec.post enc Try.prog Try.f3 false true false false) := by
  refine returnsInHanded_of_change (C := Try.checked) rowOwn started (by kernel_rfl) Try.func3
    (ChangeSpec.witness6 (enc := enc) (C := Try.checked) false ⟨#[], #[.slice none 0 0], []⟩ 8 (by kernel_rfl) (by kernel_rfl) (by kernel_rfl) (by kernel_rfl)) ?_
  intro W base args ds gs before hval hW _ _
  exact contract H enc W base args ds gs before hval hW
theorem over : Rows.relayPlaysRow.holds Try.pinned (OpenSpec.ofChange Rows.relayPlaysSpec) :=
  OpenClaim.holds_of_wide 3 Try.f3 rfl rfl rfl rfl rfl rfl rfl ⟨rfl, rfl, rfl, rfl, rfl⟩ rfl rfl rfl rfl rfl (by kernel_rfl) Try.func3 (by kernel_rfl)
    (of_decide_eq_true (by kernel_rfl)) (by unfold Func.isWrapper; first | (rw [if_pos (by decide +kernel)]; kernel_rfl) | (rw [if_neg (by decide +kernel)]; exact ⟨rfl, rfl⟩))
    (fun os started H enc _ => lifted os started H enc)
/-- THE STATEMENT. -/
theorem proved : Rows.RelayPlaysSaid := over
end Go.Proofs.Ytofmkkcbfeadgaa.relayPlays
