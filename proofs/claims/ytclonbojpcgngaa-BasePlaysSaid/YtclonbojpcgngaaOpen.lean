/- Arguments that are slices of structs, opened: what can be read as data has cells of the right forms. No program. -/
import Derived.Test.YtclonbojpcgngaaBase
import Derived.OpenShut
import Derived.Deep.Slices
import Derived.ChangeArms
import Derived.WideShapes
namespace Go.Proofs.Ytclonbojpcgngaa
set_option linter.unusedSimpArgs false
set_option linter.unusedVariables false
open Go.RowKit

def flatFs (rec : TypeId → Option (List TypeId)) (cells : TypeId → Nat) : List Field → Nat → Option (List TypeId × Nat)
  | [], o => some ([], o)
  | f :: fs, o =>
    match rec f.type with
    | some l => if f.offset = o ∧ l.length = cells f.type then (flatFs rec cells fs (o + l.length)).map fun x => (l ++ x.1, x.2) else none
    | none => none

/-- The types of a type's cells, structs and arrays taken apart. -/
def flatTy (P : Program) : Nat → TypeId → Option (List TypeId)
  | 0, _ => none
  | fuel + 1, t =>
    match P.underlying t with
    | some (.struct fs) => match flatFs (flatTy P fuel) P.cellsOf fs.toList 0 with
      | some (l, o) => if o = P.cellsOf t then some l else none
      | none => none
    | some (.array n e) => match flatTy P fuel e with
      | some l => if l.length = P.cellsOf e ∧ n * l.length = P.cellsOf t then some ((List.range n).flatMap fun _ => l) else none
      | none => none
    | some _ => some [t]
    | none => none

theorem flatFs_ok {rec : TypeId → Option (List TypeId)} {cells : TypeId → Nat} : ∀ {fs : List Field} {o : Nat} {L : List TypeId} {o' : Nat}, flatFs rec cells fs o = some (L, o') →
    o' = o + L.length ∧ ∀ j t', L[j]? = some t' → ∃ f ∈ fs, ∃ l k, rec f.type = some l ∧ l[k]? = some t' ∧ f.offset + k = o + j ∧ l.length = cells f.type ∧ f.offset + l.length ≤ o'
  | [], o, L, o', h => by
    simp only [flatFs, Option.some.injEq, Prod.mk.injEq] at h
    obtain ⟨rfl, rfl⟩ := h
    exact ⟨rfl, fun j t' h => by simp at h⟩
  | f :: fs, o, L, o', h => by
    simp only [flatFs] at h
    split at h
    · rename_i l hl
      split at h
      · rename_i hc
        obtain ⟨⟨L1, o1⟩, h1, h2⟩ := Option.map_eq_some_iff.1 h
        simp only [Prod.mk.injEq] at h2
        obtain ⟨rfl, rfl⟩ := h2
        obtain ⟨e1, e2⟩ := flatFs_ok h1
        refine ⟨by simp; omega, fun j t' hj => ?_⟩
        by_cases hjl : j < l.length
        · rw [List.getElem?_append_left hjl] at hj
          exact ⟨f, by simp, l, j, hl, hj, by omega, hc.2, by omega⟩
        · rw [List.getElem?_append_right (by omega)] at hj
          obtain ⟨f', hf', l', k, q1, q2, q3, q4, q5⟩ := e2 _ _ hj
          exact ⟨f', by simp [hf'], l', k, q1, q2, by omega, q4, by omega⟩
      · simp at h
    · simp at h

section
variable {H : Type} {enc : TypeId × Value → H} {P : Program} {w : World} {base : Nat} {spare : Nat → Bool} {held : Bool}

/-- A cell of a type that is neither a struct nor an array reads by itself. -/
def Leaf (enc : TypeId × Value → H) (P : Program) (w : World) (base : Nat) (spare : Nat → Bool) (held : Bool) (t : TypeId) (c : Value) : Prop :=
  (∃ d, P.underlying t = some d ∧ (∀ fs, d ≠ .struct fs) ∧ ∀ n e, d ≠ .array n e) ∧ ∃ n y, DataW.trod enc P w base spare held n t [c] = some y

def Leaves (enc : TypeId × Value → H) (P : Program) (w : World) (base : Nat) (spare : Nat → Bool) (held : Bool) (ts : List TypeId) (cs : List Value) : Prop :=
  cs.length = ts.length ∧ ∀ (j : Nat) t' c, ts[j]? = some t' → cs[j]? = some c → Leaf enc P w base spare held t' c

theorem getElem?_slice {α : Type} (l : List α) (o n k : Nat) (hk : k < n) : ((l.drop o).take n)[k]? = l[o + k]? := by
  rw [List.getElem?_take, if_pos hk, List.getElem?_drop]

theorem length_flatMap_const {α : Type} (l : List α) : ∀ n : Nat, ((List.range n).flatMap fun _ => l).length = n * l.length := by
  intro n
  induction n with
  | zero => simp
  | succ n ih =>
    rw [List.range_succ, List.flatMap_append, List.length_append, ih, Nat.add_mul]
    simp

theorem flatMap_const_get {α : Type} (l : List α) : ∀ (n j : Nat) (x : α), ((List.range n).flatMap fun _ => l)[j]? = some x → ∃ i k, i < n ∧ k < l.length ∧ j = i * l.length + k ∧ l[k]? = some x := by
  intro n
  induction n with
  | zero => intro j x h; simp at h
  | succ n ih =>
    intro j x h
    rw [List.range_succ, List.flatMap_append] at h
    simp only [List.flatMap_cons, List.flatMap_nil, List.append_nil] at h
    have hlen := length_flatMap_const l n
    by_cases hj : j < n * l.length
    · rw [List.getElem?_append_left (by omega)] at h
      obtain ⟨i, k, h1, h2, h3, h4⟩ := ih j x h
      exact ⟨i, k, by omega, h2, h3, h4⟩
    · rw [List.getElem?_append_right (by omega), hlen] at h
      exact ⟨n, j - n * l.length, by omega, (List.getElem?_eq_some_iff.1 h).1, by omega, h⟩

theorem trod_leaves : ∀ (m : Nat) (t : TypeId) (ts : List TypeId) (n : Nat) (cs : List Value) (x : DataW H × List MemPlace), flatTy P m t = some ts → P.cellsOf t = ts.length → cs.length = P.cellsOf t →
    DataW.trod enc P w base spare held n t cs = some x → Leaves enc P w base spare held ts cs := by
  intro m
  induction m with
  | zero => intro t ts n cs x h; simp [flatTy] at h
  | succ m ih =>
    intro t ts n cs x hf hts hcs h
    refine ⟨by omega, fun j t' c hj hc => ?_⟩
    rw [flatTy] at hf
    split at hf
    · rename_i fs hu
      split at hf
      · rename_i l o hfl
        split at hf
        · rename_i ho
          obtain rfl : l = ts := by simpa using hf
          obtain ⟨e1, e2⟩ := flatFs_ok hfl
          obtain ⟨f, hfm, l', k, q1, q2, q3, q4, q5⟩ := e2 j t' hj
          obtain ⟨xs, n', rfl, _, _, hxl, hfield⟩ := DataW.trod_struct hu h
          obtain ⟨i, hi⟩ := List.mem_iff_getElem?.1 hfm
          have hi' : fs[i]? = some f := by simpa using hi
          have hlt : i < xs.length := by
            have := (Array.getElem?_eq_some_iff.1 hi').1
            omega
          have ht := hfield i f hi'
          rw [List.getElem?_eq_getElem hlt] at ht
          have hk : k < l'.length := (List.getElem?_eq_some_iff.1 q2).1
          have hjl : j < cs.length := (List.getElem?_eq_some_iff.1 hc).1
          have hlen : ((cs.drop f.offset).take (P.cellsOf f.type)).length = P.cellsOf f.type := by
            rw [List.length_take, List.length_drop]
            omega
          have r := ih f.type l' n' _ _ q1 (by omega) hlen ht
          exact r.2 k t' c q2 (by rw [getElem?_slice _ _ _ _ (by omega), q3]; simpa using hc)
        · simp at hf
      · simp at hf
    · rename_i nn e hu
      split at hf
      · rename_i l hl
        split at hf
        · rename_i ho
          obtain rfl : ((List.range nn).flatMap fun _ => l) = ts := by simpa using hf
          obtain ⟨i, k, q1, q2, q3, q4⟩ := flatMap_const_get l nn j t' hj
          obtain ⟨xs, n', rfl, _, _, hxl, hel⟩ := DataW.trod_array hu h
          have hlt : i < xs.length := by omega
          have ht := hel i q1
          rw [List.getElem?_eq_getElem hlt] at ht
          have hmul : i * P.cellsOf e + P.cellsOf e ≤ P.cellsOf t := by
            rw [← ho.2, ← ho.1, ← Nat.succ_mul]
            exact Nat.mul_le_mul_right _ q1
          have hlen : ((cs.drop (i * P.cellsOf e)).take (P.cellsOf e)).length = P.cellsOf e := by
            rw [List.length_take, List.length_drop]
            omega
          have r := ih e l n' _ _ hl (by omega) hlen ht
          exact r.2 k t' c q4 (by rw [getElem?_slice _ _ _ _ (by omega), ← ho.1, ← q3]; exact hc)
        · simp at hf
      · simp at hf
    · rename_i d hd1 hd2 hu
      obtain rfl : [t] = ts := by simpa using hf
      have h1 : cs.length = 1 := by simpa [hts] using hcs
      match cs, h1 with
      | [c0], _ =>
        cases j with
        | zero =>
          simp only [List.getElem?_cons_zero, Option.some.injEq] at hj hc
          subst hj hc
          exact ⟨⟨d, hu, fun fs e => hd1 fs e, fun n e he => hd2 n e he⟩, n, x, h⟩
        | succ j => simp at hj
    · simp at hf

theorem Leaf.int {k : IntKind} {t : TypeId} {c : Value} (ht : P.underlying t = some (.int k)) (h : Leaf enc P w base spare held t c) : ∃ n, c = .int k n ∧ (Lit.int k n).wf = true := by
  obtain ⟨_, n, y, hy⟩ := h
  obtain ⟨m, e, _, hw⟩ := DataW.trod_int ht hy
  exact ⟨m, by simpa using e, hw⟩

theorem Leaf.bool {t : TypeId} {c : Value} (ht : P.underlying t = some .bool) (h : Leaf enc P w base spare held t c) : ∃ b, c = .bool b := by
  obtain ⟨_, n, y, hy⟩ := h
  obtain ⟨m, e, _⟩ := DataW.trod_bool ht hy
  exact ⟨m, by simpa using e⟩

theorem Leaf.string {t : TypeId} {c : Value} (ht : P.underlying t = some .string) (h : Leaf enc P w base spare held t c) : ∃ s : ByteArray, c = .string s ∧ s.size ≤ maxLen := by
  obtain ⟨_, n, y, hy⟩ := h
  obtain ⟨m, e, _, hw⟩ := DataW.trod_string ht hy
  exact ⟨m, by simpa using e, hw⟩

theorem Leaf.one {t : TypeId} {c : Value} (h : Leaf enc P w base spare held t c) : c.oneCell' = true := by
  obtain ⟨⟨d, hu, h1, h2⟩, n, y, hy⟩ := h
  cases n with
  | zero => simp [DataW.trod] at hy
  | succ n =>
    cases c with
    | agg cs => 
      unfold DataW.trod at hy
      rw [hu] at hy
      split at hy <;> simp_all
    | tuple vs =>
      unfold DataW.trod at hy
      rw [hu] at hy
      split at hy <;> simp_all
    | _ => rfl

theorem Leaves.one {ts : List TypeId} {cs : List Value} (h : Leaves enc P w base spare held ts cs) : ∀ u ∈ cs, u.oneCell' = true := by
  intro u hu
  obtain ⟨j, hj⟩ := List.mem_iff_getElem?.1 hu
  have hl : j < cs.length := (List.getElem?_eq_some_iff.1 hj).1
  have : j < ts.length := by have := h.1; omega
  exact (h.2 j ts[j] u (List.getElem?_eq_getElem this) hj).one

theorem Leaves.cons {t : TypeId} {ts : List TypeId} {cs : List Value} (h : Leaves enc P w base spare held (t :: ts) cs) : ∃ c cs', cs = c :: cs' ∧ Leaf enc P w base spare held t c ∧ Leaves enc P w base spare held ts cs' := by
  obtain ⟨h1, h2⟩ := h
  cases cs with
  | nil => simp at h1
  | cons c cs' => exact ⟨c, cs', rfl, h2 0 t c rfl rfl, by simpa using h1, fun j t' c' hj hc => h2 (j + 1) t' c' (by simpa using hj) (by simpa using hc)⟩

theorem Leaves.nil {cs : List Value} (h : Leaves enc P w base spare held [] cs) : cs = [] := by simpa using h.1

theorem addr_of_cell {a : Addr} {u : Value} (h : w.cell? a = some u) : a = ⟨a.block, a.off, none⟩ := by
  obtain ⟨b, o, s⟩ := a
  cases s with
  | none => rfl
  | some n => simp [World.cell?] at h; split at h <;> simp at h

/-- A slice of structs (or of whatever), each element's cells by their types. -/
theorem open_elems {t e : TypeId} {v : Value} {d : DataW H} {ps : List MemPlace} {m : Nat} {ts : List TypeId} (ht : P.underlying t = some (.slice e)) (hf : flatTy P m e = some ts) (hc : P.cellsOf e = ts.length) (hpos : 0 < ts.length)
    (hv : ∃ a len cap, v = .slice a len cap) (h : DataW.Trod enc P w base spare held t v d ps) :
    ∃ (n : Nat) (xs : List (List Value)), xs.length = n ∧ (∀ x ∈ xs, Leaves enc P w base spare held ts x) ∧ Sl w ts.length v n xs.flatten := by
  obtain ⟨a, len, cap, rfl⟩ := hv
  obtain ⟨fuel, hy⟩ := h
  rcases Deep.open_slice ht hy with ⟨h1, _⟩ | ⟨a', len', cap', m', n', D, Pl, h1, hb, hl, hm, hm', hx, hel⟩
  · simp only [Value.cells, List.cons.injEq, and_true, Value.slice.injEq] at h1
    obtain ⟨rfl, rfl, rfl⟩ := h1
    exact ⟨0, [], rfl, by simp, Sl.nil _ _ _⟩
  · simp only [Value.cells, List.cons.injEq, and_true, Value.slice.injEq] at h1
    obtain ⟨rfl, rfl, rfl⟩ := h1
    have hlm : len ≤ m' := by rw [hm']; split <;> omega
    have key : ∀ i, ∃ cs', i < len → cs'.length = ts.length ∧ Leaves enc P w base spare held ts cs' ∧ ∀ j u, cs'[j]? = some u → w.cell? (a'.add (i * ts.length + j)) = some u := by
      intro i
      by_cases hi : i < len
      · obtain ⟨cs', h2, h3⟩ := hel i (by omega)
        obtain ⟨_, h4, h5⟩ := World.cells?_some h2
        rw [hc] at h4
        refine ⟨cs', fun _ => ⟨h4, trod_leaves m e ts n' cs' _ hf hc (by omega) h3, fun j u hj => ?_⟩⟩
        have hjl := (List.getElem?_eq_some_iff.1 hj).1
        have := h5 j (by omega)
        rw [Deep.add_add, hc] at this
        rw [this, hj]
      · exact ⟨[], fun h => absurd h hi⟩
    obtain ⟨f, hf'⟩ : ∃ f : Nat → List Value, ∀ i, i < len → (f i).length = ts.length ∧ Leaves enc P w base spare held ts (f i) ∧ ∀ j u, (f i)[j]? = some u → w.cell? (a'.add (i * ts.length + j)) = some u :=
      ⟨fun i => (key i).choose, fun i hi => (key i).choose_spec hi⟩
    refine ⟨len, (List.range len).map f, by simp, ?_, ?_⟩
    · intro x hx
      obtain ⟨i, hi, rfl⟩ := List.mem_map.1 hx
      exact (hf' i (List.mem_range.1 hi)).2.1
    · have hlen : ∀ k, k ≤ len → (((List.range k).map f).flatten).length = k * ts.length := by
        intro k
        induction k with
        | zero => simp
        | succ k ih =>
          intro hk
          rw [List.range_succ, List.map_append, List.flatten_append, List.length_append, ih (by omega)]
          simp only [List.map_cons, List.map_nil, List.flatten_cons, List.flatten_nil, List.append_nil, (hf' k (by omega)).1, Nat.add_mul, Nat.one_mul]
      have hget : ∀ k, k ≤ len → ∀ j u, (((List.range k).map f).flatten)[j]? = some u → w.cell? (a'.add j) = some u := by
        intro k
        induction k with
        | zero => intro _ j u h; simp at h
        | succ k ih =>
          intro hk j u h
          rw [List.range_succ, List.map_append, List.flatten_append] at h
          simp only [List.map_cons, List.map_nil, List.flatten_cons, List.flatten_nil, List.append_nil] at h
          by_cases hj : j < k * ts.length
          · rw [List.getElem?_append_left (by rw [hlen k (by omega)]; exact hj)] at h
            exact ih (by omega) j u h
          · rw [List.getElem?_append_right (by rw [hlen k (by omega)]; omega), hlen k (by omega)] at h
            have := (hf' k (by omega)).2.2 _ u h
            rwa [show k * ts.length + (j - k * ts.length) = j by omega] at this
      refine ⟨hlen len (Nat.le_refl _), ?_, some a', cap, rfl, hl, hm, fun h => by simp at h, ?_⟩
      · intro u hu
        obtain ⟨x, hx, hu⟩ := List.mem_flatten.1 hu
        obtain ⟨i, hi, rfl⟩ := List.mem_map.1 hx
        exact (hf' i (List.mem_range.1 hi)).2.1.one u hu
      · by_cases h0 : len = 0
        · subst h0; exact .inl rfl
        · have hpos' : 0 < ((List.range len).map f).flatten.length := by rw [hlen len (Nat.le_refl _)]; exact Nat.mul_pos (by omega) hpos
          have hc0 := hget len (Nat.le_refl _) 0 _ (List.getElem?_eq_getElem hpos')
          have ea : a' = ⟨a'.block, a'.off, none⟩ := by
            have := addr_of_cell hc0
            simpa [Addr.add] using this
          refine .inr ⟨a'.block, a'.off, by rw [← ea], fun j u hj => ?_⟩
          have := hget len (Nat.le_refl _) j u hj
          rw [ea, Addr.add_lit] at this
          exact this

/-- Each of some lists is one of a function's values: then they are a list's. -/
theorem exists_map {α β : Type} (f : α → β) : ∀ (xs : List β), (∀ x ∈ xs, ∃ a, x = f a) → ∃ l : List α, xs = l.map f
  | [], _ => ⟨[], rfl⟩
  | x :: xs, h => by
    obtain ⟨a, rfl⟩ := h x (by simp)
    obtain ⟨l, rfl⟩ := exists_map f xs (fun y hy => h y (by simp [hy]))
    exact ⟨a :: l, rfl⟩
theorem exists_map' {α β : Type} (p : α → Prop) (f : α → β) : ∀ (xs : List β), (∀ x ∈ xs, ∃ a, x = f a ∧ p a) → ∃ l : List α, xs = l.map f ∧ ∀ a ∈ l, p a
  | [], _ => ⟨[], rfl, by simp⟩
  | x :: xs, h => by
    obtain ⟨a, rfl, ha⟩ := h x (by simp)
    obtain ⟨l, rfl, hl⟩ := exists_map' p f xs (fun y hy => h y (by simp [hy]))
    exact ⟨a :: l, rfl, by simpa using ⟨ha, hl⟩⟩
end
end Go.Proofs.Ytclonbojpcgngaa
