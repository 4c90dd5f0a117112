/- Arguments that are slices of structs, opened, with what is known of their bulk: each slice within them is no longer than the row's bound. No program. -/
import Derived.Test.YtdmjliehobgknaaOpenB
import Derived.SizedLaws
namespace Go.Proofs.Ytdmjliehobgknaa
set_option linter.unusedSimpArgs false
set_option linter.unusedVariables false
open Go.RowKit

section
variable {H : Type} {enc : TypeId × Value → H} {P : Program} {w : World} {base : Nat} {spare : Nat → Bool} {held : Bool}

theorem weightsAll_mem {e : TypeId} : ∀ {ds : List (DataW H)} {d : DataW H}, d ∈ ds → ∀ {n : Nat}, n ∈ d.weights P e → n ∈ DataW.weightsAll P e ds
  | [], _, h, _, _ => by simp at h
  | d0 :: ds, d, h, n, hn => by
    simp only [DataW.weightsAll, List.mem_append]
    rcases List.mem_cons.1 h with rfl | h
    · exact .inl hn
    · exact .inr (weightsAll_mem h hn)

/-- A cell that reads by itself, and whose weights are within S. -/
def LeafW (S : Nat → Prop) (enc : TypeId × Value → H) (P : Program) (w : World) (base : Nat) (spare : Nat → Bool) (held : Bool) (t : TypeId) (c : Value) : Prop :=
  Leaf enc P w base spare held t c ∧ ∃ n y, DataW.trod enc P w base spare held n t [c] = some y ∧ ∀ m ∈ y.1.weights P t, S m

def LeavesW (S : Nat → Prop) (enc : TypeId × Value → H) (P : Program) (w : World) (base : Nat) (spare : Nat → Bool) (held : Bool) (ts : List TypeId) (cs : List Value) : Prop :=
  cs.length = ts.length ∧ ∀ (j : Nat) t' c, ts[j]? = some t' → cs[j]? = some c → LeafW S enc P w base spare held t' c

theorem LeavesW.leaves {S : Nat → Prop} {ts : List TypeId} {cs : List Value} (h : LeavesW S enc P w base spare held ts cs) : Leaves enc P w base spare held ts cs :=
  ⟨h.1, fun j t' c hj hc => (h.2 j t' c hj hc).1⟩

theorem LeavesW.cons {S : Nat → Prop} {t : TypeId} {ts : List TypeId} {cs : List Value} (h : LeavesW S enc P w base spare held (t :: ts) cs) : ∃ c cs', cs = c :: cs' ∧ LeafW S enc P w base spare held t c ∧ LeavesW S enc P w base spare held ts cs' := by
  obtain ⟨h1, h2⟩ := h
  cases cs with
  | nil => simp at h1
  | cons c cs' => exact ⟨c, cs', rfl, h2 0 t c rfl rfl, by simpa using h1, fun j t' c' hj hc => h2 (j + 1) t' c' (by simpa using hj) (by simpa using hc)⟩

theorem trod_leavesW {S : Nat → Prop} : ∀ (m : Nat) (t : TypeId) (ts : List TypeId) (n : Nat) (cs : List Value) (x : DataW H × List MemPlace), flatTy P m t = some ts → P.cellsOf t = ts.length → cs.length = P.cellsOf t →
    DataW.trod enc P w base spare held n t cs = some x → (∀ m ∈ x.1.weights P t, S m) → LeavesW S enc P w base spare held ts cs := by
  intro m
  induction m with
  | zero => intro t ts n cs x h; simp [flatTy] at h
  | succ m ih =>
    intro t ts n cs x hf hts hcs h hS
    refine ⟨by omega, fun j t' c hj hc => ?_⟩
    rw [flatTy] at hf
    split at hf
    · rename_i fs hu
      split at hf
      · rename_i l o hfl
        split at hf
        · rename_i ho
          obtain rfl : l = ts := by simpa using hf
          obtain ⟨e1, e2⟩ := flatFs_ok hfl
          obtain ⟨f, hfm, l', k, q1, q2, q3, q4, q5⟩ := e2 j t' hj
          obtain ⟨xs, n', rfl, rfl, _, hxl, hfield⟩ := DataW.trod_struct hu h
          obtain ⟨i, hi⟩ := List.mem_iff_getElem?.1 hfm
          have hi' : fs[i]? = some f := by simpa using hi
          have hlt : i < xs.length := by
            have := (Array.getElem?_eq_some_iff.1 hi').1
            omega
          have ht := hfield i f hi'
          rw [List.getElem?_eq_getElem hlt] at ht
          have hk : k < l'.length := (List.getElem?_eq_some_iff.1 q2).1
          have hjl : j < cs.length := (List.getElem?_eq_some_iff.1 hc).1
          have hlen : ((cs.drop f.offset).take (P.cellsOf f.type)).length = P.cellsOf f.type := by
            rw [List.length_take, List.length_drop]
            omega
          have r := ih f.type l' n' _ _ q1 (by omega) hlen ht (fun m hm => hS m (by
            show m ∈ DataW.weights P t (.agg (xs.map (·.1)))
            simp only [DataW.weights, hu]
            exact DataW.weights_mem_each (j := i) (by simp [hi]) (by simp [List.getElem?_eq_getElem hlt]) m hm))
          exact r.2 k t' c q2 (by rw [getElem?_slice _ _ _ _ (by omega), q3]; simpa using hc)
        · simp at hf
      · simp at hf
    · rename_i nn e hu
      split at hf
      · rename_i l hl
        split at hf
        · rename_i ho
          obtain rfl : ((List.range nn).flatMap fun _ => l) = ts := by simpa using hf
          obtain ⟨i, k, q1, q2, q3, q4⟩ := flatMap_const_get l nn j t' hj
          obtain ⟨xs, n', rfl, rfl, _, hxl, hel⟩ := DataW.trod_array hu h
          have hlt : i < xs.length := by omega
          have ht := hel i q1
          rw [List.getElem?_eq_getElem hlt] at ht
          have hmul : i * P.cellsOf e + P.cellsOf e ≤ P.cellsOf t := by
            rw [← ho.2, ← ho.1, ← Nat.succ_mul]
            exact Nat.mul_le_mul_right _ q1
          have hlen : ((cs.drop (i * P.cellsOf e)).take (P.cellsOf e)).length = P.cellsOf e := by
            rw [List.length_take, List.length_drop]
            omega
          have r := ih e l n' _ _ hl (by omega) hlen ht (fun m hm => hS m (by
            show m ∈ DataW.weights P t (.agg (xs.map (·.1)))
            simp only [DataW.weights, hu]
            exact weightsAll_mem (List.mem_map.2 ⟨_, List.getElem_mem hlt, rfl⟩) hm))
          exact r.2 k t' c q4 (by rw [getElem?_slice _ _ _ _ (by omega), ← ho.1, ← q3]; exact hc)
        · simp at hf
      · simp at hf
    · rename_i d hd1 hd2 hu
      obtain rfl : [t] = ts := by simpa using hf
      have h1 : cs.length = 1 := by simpa [hts] using hcs
      match cs, h1 with
      | [c0], _ =>
        cases j with
        | zero =>
          simp only [List.getElem?_cons_zero, Option.some.injEq] at hj hc
          subst hj hc
          exact ⟨⟨⟨d, hu, fun fs e => hd1 fs e, fun n e he => hd2 n e he⟩, n, x, h⟩, n, x, h, hS⟩
        | succ j => simp at hj
    · simp at hf


/-- A slice of structs (or of whatever), each element's cells by their types. -/
theorem open_elemsW {S : Nat → Prop} {t e : TypeId} {v : Value} {d : DataW H} {ps : List MemPlace} {m : Nat} {ts : List TypeId} (ht : P.underlying t = some (.slice e)) (hf : flatTy P m e = some ts) (hc : P.cellsOf e = ts.length) (hpos : 0 < ts.length)
    (hv : ∃ a len cap, v = .slice a len cap) (h : DataW.Trod enc P w base spare held t v d ps) (hS : ∀ m ∈ d.weights P t, S m) :
    ∃ (n : Nat) (xs : List (List Value)), xs.length = n ∧ (∀ x ∈ xs, LeavesW S enc P w base spare held ts x) ∧ Sl w ts.length v n xs.flatten := by
  obtain ⟨a, len, cap, rfl⟩ := hv
  obtain ⟨fuel, hy⟩ := h
  rcases Deep.open_slice ht hy with ⟨h1, hdn⟩ | ⟨a', len', cap', m', n', D, Pl, h1, hb, hl, hm, hm', hx, hel⟩
  · simp only [Value.cells, List.cons.injEq, and_true, Value.slice.injEq] at h1
    obtain ⟨rfl, rfl, rfl⟩ := h1
    exact ⟨0, [], rfl, by simp, Sl.nil _ _ _⟩
  · simp only [Value.cells, List.cons.injEq, and_true, Value.slice.injEq] at h1
    obtain ⟨rfl, rfl, rfl⟩ := h1
    have hlm : len ≤ m' := by rw [hm']; split <;> omega
    have hSD : ∀ i, i < len → ∀ m ∈ (D i).weights P e, S m := by
      intro i hi m hm
      have hd : d = .slice ((List.range len).map D) ((List.range (m' - len)).map fun j => D (len + j)) := congrArg Prod.fst hx
      refine hS m ?_
      rw [hd]
      simp only [DataW.weights, ht, List.mem_cons, List.mem_append]
      exact .inr (.inl (weightsAll_mem (List.mem_map.2 ⟨i, List.mem_range.2 hi, rfl⟩) hm))
    have key : ∀ i, ∃ cs', i < len → cs'.length = ts.length ∧ LeavesW S enc P w base spare held ts cs' ∧ ∀ j u, cs'[j]? = some u → w.cell? (a'.add (i * ts.length + j)) = some u := by
      intro i
      by_cases hi : i < len
      · obtain ⟨cs', h2, h3⟩ := hel i (by omega)
        obtain ⟨_, h4, h5⟩ := World.cells?_some h2
        rw [hc] at h4
        refine ⟨cs', fun _ => ⟨h4, trod_leavesW m e ts n' cs' _ hf hc (by omega) h3 (hSD i hi), fun j u hj => ?_⟩⟩
        have hjl := (List.getElem?_eq_some_iff.1 hj).1
        have := h5 j (by omega)
        rw [Deep.add_add, hc] at this
        rw [this, hj]
      · exact ⟨[], fun h => absurd h hi⟩
    obtain ⟨f, hf'⟩ : ∃ f : Nat → List Value, ∀ i, i < len → (f i).length = ts.length ∧ LeavesW S enc P w base spare held ts (f i) ∧ ∀ j u, (f i)[j]? = some u → w.cell? (a'.add (i * ts.length + j)) = some u :=
      ⟨fun i => (key i).choose, fun i hi => (key i).choose_spec hi⟩
    refine ⟨len, (List.range len).map f, by simp, ?_, ?_⟩
    · intro x hx
      obtain ⟨i, hi, rfl⟩ := List.mem_map.1 hx
      exact (hf' i (List.mem_range.1 hi)).2.1
    · have hlen : ∀ k, k ≤ len → (((List.range k).map f).flatten).length = k * ts.length := by
        intro k
        induction k with
        | zero => simp
        | succ k ih =>
          intro hk
          rw [List.range_succ, List.map_append, List.flatten_append, List.length_append, ih (by omega)]
          simp only [List.map_cons, List.map_nil, List.flatten_cons, List.flatten_nil, List.append_nil, (hf' k (by omega)).1, Nat.add_mul, Nat.one_mul]
      have hget : ∀ k, k ≤ len → ∀ j u, (((List.range k).map f).flatten)[j]? = some u → w.cell? (a'.add j) = some u := by
        intro k
        induction k with
        | zero => intro _ j u h; simp at h
        | succ k ih =>
          intro hk j u h
          rw [List.range_succ, List.map_append, List.flatten_append] at h
          simp only [List.map_cons, List.map_nil, List.flatten_cons, List.flatten_nil, List.append_nil] at h
          by_cases hj : j < k * ts.length
          · rw [List.getElem?_append_left (by rw [hlen k (by omega)]; exact hj)] at h
            exact ih (by omega) j u h
          · rw [List.getElem?_append_right (by rw [hlen k (by omega)]; omega), hlen k (by omega)] at h
            have := (hf' k (by omega)).2.2 _ u h
            rwa [show k * ts.length + (j - k * ts.length) = j by omega] at this
      refine ⟨hlen len (Nat.le_refl _), ?_, some a', cap, rfl, hl, hm, fun h => by simp at h, ?_⟩
      · intro u hu
        obtain ⟨x, hx, hu⟩ := List.mem_flatten.1 hu
        obtain ⟨i, hi, rfl⟩ := List.mem_map.1 hx
        exact (hf' i (List.mem_range.1 hi)).2.1.leaves.one u hu
      · by_cases h0 : len = 0
        · subst h0; exact .inl rfl
        · have hpos' : 0 < ((List.range len).map f).flatten.length := by rw [hlen len (Nat.le_refl _)]; exact Nat.mul_pos (by omega) hpos
          have hc0 := hget len (Nat.le_refl _) 0 _ (List.getElem?_eq_getElem hpos')
          have ea : a' = ⟨a'.block, a'.off, none⟩ := by
            have := addr_of_cell hc0
            simpa [Addr.add] using this
          refine .inr ⟨a'.block, a'.off, by rw [← ea], fun j u hj => ?_⟩
          have := hget len (Nat.le_refl _) j u hj
          rw [ea, Addr.add_lit] at this
          exact this

end
end Go.Proofs.Ytdmjliehobgknaa
