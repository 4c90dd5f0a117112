/- An argument that is a value of der: a tree, opened. -/
import Derived.Test.YtdmjliehobgknaaOpenBox
import Derived.Test.YtdmjliehobgknaaDerCount
namespace Go.Proofs.Ytdmjliehobgknaa
set_option linter.unusedSimpArgs false
set_option linter.unusedVariables false
open Go.ChangeShapes Go.WideShapes Go.RowKit Go.OpenShut
variable {H : Type} {enc : TypeId × Value → H} {w : World} {base : Nat} {spare : Nat → Bool} {held : Bool}

theorem tvs_assemble {F : Nat → Prop} (f : Nat → List Value) (g : Nat → Tv) : ∀ len : Nat, (∀ i, i < len → TvF w F (g i) (f i)) → TvsF w F ((List.range len).map g) (((List.range len).map f).flatten)
  | 0, _ => rfl
  | len + 1, h => by
    rw [List.range_succ, List.map_append, List.map_append, List.flatten_append]
    have := (tvs_assemble f g len (fun i hi => h i (by omega))).snoc (h len (by omega))
    simpa using this

theorem sl_of_cells {P : Program} {sz len cap : Nat} {a' : Addr} (f : Nat → List Value) (hpos : 0 < sz) (hl : len ≤ cap) (hm : cap ≤ maxLen) (h1 : ∀ i, i < len → (f i).length = sz) (hone : ∀ i, i < len → ∀ u ∈ f i, u.oneCell' = true)
    (hc : ∀ i, i < len → ∀ j u, (f i)[j]? = some u → w.cell? (a'.add (i * sz + j)) = some u) : Sl w sz (.slice (some a') len cap) len (((List.range len).map f).flatten) := by
  have hlen : ∀ k, k ≤ len → (((List.range k).map f).flatten).length = k * sz := by
    intro k
    induction k with
    | zero => simp
    | succ k ih =>
      intro hk
      rw [List.range_succ, List.map_append, List.flatten_append, List.length_append, ih (by omega)]
      simp only [List.map_cons, List.map_nil, List.flatten_cons, List.flatten_nil, List.append_nil, h1 k (by omega), Nat.add_mul, Nat.one_mul]
  have hget : ∀ k, k ≤ len → ∀ j u, (((List.range k).map f).flatten)[j]? = some u → w.cell? (a'.add j) = some u := by
    intro k
    induction k with
    | zero => intro _ j u h; simp at h
    | succ k ih =>
      intro hk j u h
      rw [List.range_succ, List.map_append, List.flatten_append] at h
      simp only [List.map_cons, List.map_nil, List.flatten_cons, List.flatten_nil, List.append_nil] at h
      by_cases hj : j < k * sz
      · rw [List.getElem?_append_left (by rw [hlen k (by omega)]; exact hj)] at h
        exact ih (by omega) j u h
      · rw [List.getElem?_append_right (by rw [hlen k (by omega)]; omega), hlen k (by omega)] at h
        have := hc k (by omega) _ u h
        rwa [show k * sz + (j - k * sz) = j by omega] at this
  refine ⟨hlen len (Nat.le_refl _), ?_, some a', cap, rfl, hl, hm, fun h => by simp at h, ?_⟩
  · intro u hu
    obtain ⟨x, hx, hu⟩ := List.mem_flatten.1 hu
    obtain ⟨i, hi, rfl⟩ := List.mem_map.1 hx
    exact hone i (List.mem_range.1 hi) u hu
  · by_cases h0 : len = 0
    · subst h0; exact .inl rfl
    · have hpos' : 0 < ((List.range len).map f).flatten.length := by rw [hlen len (Nat.le_refl _)]; exact Nat.mul_pos (by omega) hpos
      have hc0 := hget len (Nat.le_refl _) 0 _ (List.getElem?_eq_getElem hpos')
      have ea : a' = ⟨a'.block, a'.off, none⟩ := by
        have := addr_of_cell hc0
        simpa [Addr.add] using this
      refine .inr ⟨a'.block, a'.off, by rw [← ea], fun j u hj => ?_⟩
      have := hget len (Nat.le_refl _) j u hj
      rw [ea, Addr.add_lit] at this
      exact this

theorem der_cells : Try.prog.cellsOf 47 = 5 := by kernel_rfl
theorem der_bytes : Try.prog.bytesOf 47 = 72 := by kernel_rfl

set_option maxHeartbeats 4000000 in
set_option maxRecDepth 100000 in
theorem open_tvN : ∀ (n : Nat) (cs : List Value) (y : DataW H × List MemPlace), cs.length = 5 → DataW.trod enc Try.prog w base spare held n 47 cs = some y → (∀ m ∈ y.1.weights Try.prog 47, m ≤ reachBytes) →
    ∃ x : Tv, TvF w (fun _ => True) x cs ∧ Nw x ∧ Lw x ∧ Bw x := by
  intro n
  induction n using Nat.strongRecOn with
  | _ n ih =>
    intro cs y hcl h hS
    have hu := Try.underlying47
    obtain ⟨xs, n', hn, hy, _, hxl, hfield⟩ := DataW.trod_struct hu h
    match cs, hcl with
    | [c0, c1, c2, c3, c4], _ =>
      have k0 : Try.prog.cellsOf 3 = 1 := by kernel_rfl
      have k2 : Try.prog.cellsOf 44 = 1 := by kernel_rfl
      have k3 : Try.prog.cellsOf 22 = 1 := by kernel_rfl
      have k4 : Try.prog.cellsOf 45 = 1 := by kernel_rfl
      have f0 : DataW.trod enc Try.prog w base spare held n' 3 ((([c0, c1, c2, c3, c4] : List Value).drop 0).take (Try.prog.cellsOf 3)) = xs[0]? := hfield 0 _ rfl
      rw [k0] at f0
      have f1 : DataW.trod enc Try.prog w base spare held n' 3 ((([c0, c1, c2, c3, c4] : List Value).drop 1).take (Try.prog.cellsOf 3)) = xs[1]? := hfield 1 _ rfl
      rw [k0] at f1
      have f2 : DataW.trod enc Try.prog w base spare held n' 44 ((([c0, c1, c2, c3, c4] : List Value).drop 2).take (Try.prog.cellsOf 44)) = xs[2]? := hfield 2 _ rfl
      rw [k2] at f2
      have f3 : DataW.trod enc Try.prog w base spare held n' 22 ((([c0, c1, c2, c3, c4] : List Value).drop 3).take (Try.prog.cellsOf 22)) = xs[3]? := hfield 3 _ rfl
      rw [k3] at f3
      have f4 : DataW.trod enc Try.prog w base spare held n' 45 ((([c0, c1, c2, c3, c4] : List Value).drop 4).take (Try.prog.cellsOf 45)) = xs[4]? := hfield 4 _ rfl
      rw [k4] at f4
      have hx5 : xs.length = 5 := hxl
      match xs, hx5 with
      | [x0, x1, x2, x3, x4], _ =>
        have g0 : DataW.trod enc Try.prog w base spare held n' 3 [c0] = some x0 := f0
        have g1 : DataW.trod enc Try.prog w base spare held n' 3 [c1] = some x1 := f1
        have g2 : DataW.trod enc Try.prog w base spare held n' 44 [c2] = some x2 := f2
        have g3 : DataW.trod enc Try.prog w base spare held n' 22 [c3] = some x3 := f3
        have g4 : DataW.trod enc Try.prog w base spare held n' 45 [c4] = some x4 := f4
        clear f0 f1 f2 f3 f4 hfield
        have hSy : ∀ (j : Nat) t (d : DataW H × List MemPlace), ([3, 3, 44, 22, 45] : List TypeId)[j]? = some t → ([x0, x1, x2, x3, x4] : List (DataW H × List MemPlace))[j]? = some d → ∀ m ∈ d.1.weights Try.prog t, m ≤ reachBytes := by
          intro j t d ht hd m hm
          refine hS m ?_
          rw [hy]
          show m ∈ DataW.weights Try.prog 47 (.agg ([x0, x1, x2, x3, x4].map (·.1)))
          simp only [DataW.weights, hu]
          exact DataW.weights_mem_each (j := j) (by simpa using ht) (by rw [List.getElem?_map, hd]; rfl) m hm
        obtain ⟨kd, rfl, _⟩ := Leaf.int (enc := enc) (w := w) (base := base) (spare := spare) (held := held) Try.underlying3 ⟨⟨_, Try.underlying3, fun fs e => by simp at e, fun n e he => by simp at he⟩, n', x0, g0⟩
        obtain ⟨tg, rfl, _⟩ := Leaf.int (enc := enc) (w := w) (base := base) (spare := spare) (held := held) Try.underlying3 ⟨⟨_, Try.underlying3, fun fs e => by simp at e, fun n e he => by simp at he⟩, n', x1, g1⟩
        obtain ⟨nn, rfl, hnw⟩ := Leaf.int (enc := enc) (w := w) (base := base) (spare := spare) (held := held) Try.underlying44 ⟨⟨_, Try.underlying44, fun fs e => by simp at e, fun n e he => by simp at he⟩, n', x2, g2⟩
        obtain ⟨N, rfl, hN⟩ := nat_of_wf hnw
        obtain ⟨b, hb, hbl⟩ := open_box (enc := enc) (w := w) (base := base) (spare := spare) (held := held) (c := c3) ⟨⟨⟨_, Try.underlying22, fun fs e => by simp at e, fun n e he => by simp at he⟩, n', x3, g3⟩, n', x3, g3, hSy 3 _ x3 rfl rfl⟩
        rcases DataW.trod_slice Try.underlying45 g4 with ⟨h1, _⟩ | ⟨a, len, cap, elems, rest, n2, hn2, h1, hx4, hbase, hl, hm, hlen, hel, _⟩
        · simp only [List.cons.injEq, and_true] at h1
          subst h1
          exact ⟨.mk kd tg N b [], TvF.mk hb (fun _ _ => trivial) (Sl.nil _ _ _) (fun _ _ => trivial) rfl, ⟨hN, trivial⟩, ⟨by simp, trivial⟩, ⟨hbl, trivial⟩⟩
        · simp only [List.cons.injEq, and_true] at h1
          subst h1
          have hw4 := hSy 4 _ x4 rfl rfl
          rw [hx4] at hw4
          simp only [DataW.weights, Try.underlying45] at hw4
          have hbig := hw4 _ (List.mem_cons_self)
          have key : ∀ i, ∃ (cs' : List Value) (x : Tv), i < len → cs'.length = 5 ∧ (∀ j u, cs'[j]? = some u → w.cell? (a.add (i * 5 + j)) = some u) ∧ TvF w (fun _ => True) x cs' ∧ Nw x ∧ Lw x ∧ Bw x := by
            intro i
            by_cases hi : i < len
            · have hil : i < elems.length := by omega
              have h2 := hel i hi
              rw [List.getElem?_eq_getElem hil, der_cells] at h2
              obtain ⟨cs', h3, h4⟩ := Option.bind_eq_some_iff.1 h2
              obtain ⟨_, h5, h6⟩ := World.cells?_some h3
              obtain ⟨x, g5, g6, g7⟩ := ih n2 (by omega) cs' _ h5 h4 (fun m hm => hw4 m (by
                refine List.mem_cons_of_mem _ (List.mem_append_left _ ?_)
                exact weightsAll_mem (List.mem_map.2 ⟨_, List.getElem_mem hil, rfl⟩) hm))
              refine ⟨cs', x, fun _ => ⟨h5, fun j u hj => ?_, g5, g6, g7⟩⟩
              have hjl := (List.getElem?_eq_some_iff.1 hj).1
              have := h6 j (by omega)
              rw [Deep.add_add] at this
              rw [this, hj]
            · exact ⟨[], Tv.zero, fun h => absurd h hi⟩
          obtain ⟨f, g, hfg⟩ : ∃ (f : Nat → List Value) (g : Nat → Tv), ∀ i, i < len → (f i).length = 5 ∧ (∀ j u, (f i)[j]? = some u → w.cell? (a.add (i * 5 + j)) = some u) ∧ TvF w (fun _ => True) (g i) (f i) ∧ Nw (g i) ∧ Lw (g i) ∧ Bw (g i) :=
            ⟨fun i => (key i).choose, fun i => (key i).choose_spec.choose, fun i hi => (key i).choose_spec.choose_spec hi⟩
          have hsl := sl_of_cells (w := w) (P := Try.prog) f (by decide : 0 < 5) hl hm (fun i hi => (hfg i hi).1) (fun i hi => (hfg i hi).2.2.1.one) (fun i hi => (hfg i hi).2.1)
          have hll : ((List.range len).map g).length = len := by simp
          refine ⟨.mk kd tg N b ((List.range len).map g), ⟨_, _, _, rfl, hb, fun _ _ _ => trivial, by rw [hll]; exact hsl, fun _ _ _ => trivial, tvs_assemble f g len (fun i hi => (hfg i hi).2.2.1)⟩, ⟨hN, NsW.of (fun x hx => ?_)⟩, ⟨?_, LsW.of (fun x hx => ?_)⟩, ⟨hbl, BsW.of (fun x hx => ?_)⟩⟩
          · obtain ⟨i, hi, rfl⟩ := List.mem_map.1 hx
            exact (hfg i (List.mem_range.1 hi)).2.2.2.1
          · rw [hll]
            rw [List.length_map, List.length_map, hlen, der_bytes] at hbig
            have hr : reachBytes = 140737488351232 := rfl
            rw [hr] at hbig
            omega
          · obtain ⟨i, hi, rfl⟩ := List.mem_map.1 hx
            exact (hfg i (List.mem_range.1 hi)).2.2.2.2.1
          · obtain ⟨i, hi, rfl⟩ := List.mem_map.1 hx
            exact (hfg i (List.mem_range.1 hi)).2.2.2.2.2

set_option maxRecDepth 100000 in
theorem open_tv {v : Value} {d : DataW H} {ps : List MemPlace} {r : Reach} {b0 : Nat} (hval : Value.okWide Try.prog w r b0 47 v)
    (h : DataW.Trod enc Try.prog w base spare held 47 v d ps) (hS : ∀ m ∈ d.weights Try.prog 47, m ≤ reachBytes) :
    ∃ (x : Tv) (cs : List Value), v = .agg cs.toArray ∧ TvF w (fun _ => True) x cs ∧ Nw x ∧ Lw x ∧ Bw x := by
  obtain ⟨cs, rfl, hcs⟩ := okWide_struct Try.underlying47 hval
  obtain ⟨m, hy⟩ := h
  obtain ⟨x, h1, h2⟩ := open_tvN m cs.toList _ (by simpa [der_cells] using hcs) hy hS
  exact ⟨x, cs.toList, by simp, h1, h2⟩
end Go.Proofs.Ytdmjliehobgknaa
