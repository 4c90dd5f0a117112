/- A slice literal of structs. No program's function is walked here. -/
import Derived.Test.YtdmjliehobgknaaFlat
import Derived.Great.FillDense
namespace Go.Proofs.Ytdmjliehobgknaa
set_option linter.unusedSimpArgs false
set_option linter.unusedVariables false

theorem parts_eval (a : Act) (xs : List Operand) : ((xs.zipIdx 0).map fun x => ((x.2, x.1) : Nat × Operand)).map (fun p => (p.1, a.eval p.2)) = ((xs.map a.eval).zipIdx 0).map fun x => (x.2, x.1) := by
  apply List.ext_getElem
  · simp
  · intro i h1 h2
    simp

/-- A slice literal of structs or arrays, in a plain region. -/
theorem wpList_bsN {P : Program} {ops : Array Oper} {rest : List Oper} {o : Oper} {a : Act} {w : World} {Q : Exit → Act → World → Prop} (hg : o.guard = none) (xs : List Operand) {t e : TypeId} {size bytes : Nat} {z : Value} (hE : Elem P t e size bytes z) {parts : Array (Nat × Operand)} {n : Nat} (ho : o.op = .buildSlice t n parts)
    (hp : parts.toList = (xs.zipIdx 0).map fun x => (x.2, x.1)) (hn : xs.length = n) {cs : List (List Value)} (hev : xs.map a.eval = cs.map fun c => .agg c.toArray) (h1 : ∀ c ∈ cs, c.length = size) (hpos : 0 < n) (hs : n * size ≤ 16777216)
    (h : wpList P ops Q rest (a.put o.dst (.slice (some ⟨w.heap.size, 0, none⟩) n n)) (w.alloc (.cells cs.flatten.toArray e))) : wpList P ops Q (o :: rest) a w := by
  obtain ⟨ht, i, hi, hz, hsize, hby, hzs, hsz⟩ := hE
  have hcl : cs.length = n := by
    have := congrArg List.length hev
    simp at this
    omega
  have hmul := Nat.mul_pos hpos hsz
  refine wpList_buildSlice hg t e n parts ho _ i z ht hi hz (by rw [hsize]; omega) (by rw [hsize]; omega) ?_ h
  have e1 : (parts.map fun (i, x) => (i, a.eval x)).toList = ((cs.map fun c => Value.agg c.toArray).zipIdx 0).map fun x => (x.2, x.1) := by
    rw [Array.toList_map, hp, ← hev]
    exact parts_eval a xs
  rw [e1, hsize]
  have e2 : cs.flatten.toArray = ((cs.map fun c => Value.agg c.toArray).flatMap fun v => v.cells.toList).toArray := by
    congr 1
    clear hev e1 h1 hcl h
    induction cs with
    | nil => rfl
    | cons c cs ih => simp [Value.cells] at ih ⊢; exact ih
  rw [e2]
  exact Great.fill_whole hsz _ _ (by
    intro v hv
    obtain ⟨c, hc, rfl⟩ := List.mem_map.1 hv
    simp [Value.cells, h1 c hc]) (by simp [hcl])

/-- A slice literal of structs or arrays, as one step of a region that draws its order. -/
theorem step_bsN {P : Program} {ops : Array Oper} {o : Oper} {a : Act} {w : World} {K : Act → World → Prop} {Q : Exit → Act → World → Prop} {E : Prop} (hgd : o.guard = none) (xs : List Operand) {t e : TypeId} {size bytes : Nat} {z : Value} (hE : Elem P t e size bytes z) {parts : Array (Nat × Operand)} {n : Nat} (ho : o.op = .buildSlice t n parts)
    (hp : parts.toList = (xs.zipIdx 0).map fun x => (x.2, x.1)) (hn : xs.length = n) {cs : List (List Value)} (hev : xs.map a.eval = cs.map fun c => .agg c.toArray) (h1 : ∀ c ∈ cs, c.length = size) (hpos : 0 < n) (hs : n * size ≤ 16777216)
    (h : K (a.put o.dst (.slice (some ⟨w.heap.size, 0, none⟩) n n)) (w.alloc (.cells cs.flatten.toArray e))) :
    if Region.wanted o (yielded ops a.tmps) = true then Oper.wp P o a w K Q else E := by
  have hw : Region.wanted o (yielded ops a.tmps) = true := by simp [Region.wanted, hgd]
  rw [if_pos hw]
  obtain ⟨ht, i, hi, hz, hsize, hby, hzs, hsz⟩ := hE
  have hcl : cs.length = n := by
    have := congrArg List.length hev
    simp at this
    omega
  have hmul := Nat.mul_pos hpos hsz
  refine wp_buildSlice t e n parts ho _ i z ht hi hz (by rw [hsize]; omega) (by rw [hsize]; omega) ?_ h
  have e1 : (parts.map fun (i, x) => (i, a.eval x)).toList = ((cs.map fun c => Value.agg c.toArray).zipIdx 0).map fun x => (x.2, x.1) := by
    rw [Array.toList_map, hp, ← hev]
    exact parts_eval a xs
  rw [e1, hsize]
  have e2 : cs.flatten.toArray = ((cs.map fun c => Value.agg c.toArray).flatMap fun v => v.cells.toList).toArray := by
    congr 1
    clear hev e1 h1 hcl h
    induction cs with
    | nil => rfl
    | cons c cs ih => simp [Value.cells] at ih ⊢; exact ih
  rw [e2]
  exact Great.fill_whole hsz _ _ (by
    intro v hv
    obtain ⟨c, hc, rfl⟩ := List.mem_map.1 hv
    simp [Value.cells, h1 c hc]) (by simp [hcl])
end Go.Proofs.Ytdmjliehobgknaa
