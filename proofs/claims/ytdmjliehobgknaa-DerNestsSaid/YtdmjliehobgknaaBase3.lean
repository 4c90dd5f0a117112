/- append to a slice of the call's own that is not empty: what stood in its row stands there. -/
import Derived.Test.YtdmjliehobgknaaBase
namespace Go.Proofs.Ytdmjliehobgknaa
set_option linter.unusedSimpArgs false
set_option linter.unusedVariables false
open Go.RowKit

theorem run_app_in {P : Program} {w : World} {t ty e : TypeId} {size bytes : Nat} {z : Value} (hE : Elem P t e size bytes z) {B : Nat}
    {g n cap : Nat} {cs : List Value} (hown : Own w B e size (.slice (some ⟨g, 0, none⟩) n cap) n cs) (hn : 0 < n) {x : Value} {m : Nat} {ds : List Value} (hsl : Sl w size x m ds)
    (h63 : n + m ≤ maxLen) (hbytes : (n + m) * bytes ≤ 140737488355328) (hbase : B ≤ w.heap.size) :
    ∃ v' w', (Builtin.append_ #[t, t] ty #[.slice (some ⟨g, 0, none⟩) n cap, x]).run P w = .ok v' w' ∧ Own w' B e size v' (n + m) (cs ++ ds) ∧ Keeps (fun k => k = g ∨ w.heap.size ≤ k) w w' ∧
      (∀ b, v'.ownBlock = some b → b = g ∨ w.heap.size ≤ b) ∧ (∀ j u, cs[j]? = some u → w'.cell? ⟨g, j, none⟩ = some u) := by
  have hE0 := hE
  have hown0 := hown
  have hsl0 := hsl
  have hwas : ∀ j u, cs[j]? = some u → w.cell? ⟨g, j, none⟩ = some u := by
    obtain ⟨h1, _, h2 | ⟨g', cap', cur, e1, hB, h3, h4, h5, h6, h7⟩⟩ := hown
    · omega
    · simp only [Value.slice.injEq, Option.some.injEq, Addr.mk.injEq, and_true, true_and] at e1
      obtain ⟨rfl, rfl⟩ := e1
      intro j u hj
      have hjl : j < n * size := by have := (List.getElem?_eq_some_iff.1 hj).1; omega
      rw [← h7, List.getElem?_take, if_pos hjl] at hj
      rw [cell_of_row w g j cur e (0, 0) h3, ← Array.getElem?_toList]
      exact hj
  have hlt : cs ≠ [] → g < w.heap.size := by
    intro h
    have hp : 0 < cs.length := List.length_pos_iff.2 h
    exact World.block_lt_of_cell? w _ (hwas 0 _ (List.getElem?_eq_getElem hp))
  obtain ⟨ht, i, hi, hz, hsize, hby, hzs, hsz⟩ := hE
  obtain ⟨hdl, hd1, a, c, rfl, hmc, hcm, hanone, hat⟩ := hsl
  obtain ⟨hcl, hc1, hform⟩ := hown
  by_cases hm0 : m = 0
  · subst hm0
    obtain rfl : ds = [] := List.eq_nil_of_length_eq_zero (by simpa using hdl)
    have hfc : (Builtin.firstCells size 0 (.slice a 0 c)).run P w = .ok #[] w := by
      cases a <;> simp [Builtin.firstCells, loadCells, loadCellsFrom]
    have hnc : n ≤ cap := by
      obtain ⟨_, _, e1, h1, _⟩ := hown0.sl.form
      simp only [Value.slice.injEq] at e1
      omega
    refine ⟨.slice (some ⟨g, 0, none⟩) n cap, w, ?_, ⟨by simpa using hcl, by simpa using hc1, by simpa using hform⟩, Keeps.refl _ _, fun b h => .inl ?_, hwas⟩
    · simp [Builtin.append_, run_underlying ht, sizeOf, typeInfo, hi, Builtin.lenOf, hsize, hfc, hnc, storeCells]
    · simpa [Value.ownBlock, eq_comm] using h
  · have hdpos : 0 < ds.length := by rw [hdl]; exact Nat.mul_pos (by omega) hsz
    have hall : ∀ u ∈ cs ++ ds, u.oneCell' = true := by
      intro u hu
      rcases List.mem_append.1 hu with h | h
      · exact hc1 u h
      · exact hd1 u h
    obtain ⟨b, off, rfl, hcell⟩ : ∃ b off, a = some ⟨b, off, none⟩ ∧ ∀ j u, ds[j]? = some u → w.cell? ⟨b, off + j, none⟩ = some u := by
      rcases hat with h | h
      · subst h; simp at hdpos
      · exact h
    have hnews : ∀ j u, ds[j]? = some u → w.cell? ((⟨b, off, none⟩ : Addr).add j) = some u := fun j u hj => by rw [Addr.add_lit]; exact hcell j u hj
    have hcpos : cs ≠ [] := by
      intro h
      rw [h] at hcl
      have := Nat.mul_pos hn hsz
      simp at hcl
      omega
    have hgl := hlt hcpos
    rcases hform with ⟨a0, e0, h0⟩ | ⟨g', cap', cur, e1, hbg, hg, hnc, hcm', hcs, htake⟩
    · omega
    · simp only [Value.slice.injEq, Option.some.injEq, Addr.mk.injEq, and_true, true_and] at e1
      obtain ⟨rfl, rfl⟩ := e1
      by_cases hroom : n + m ≤ cap
      · obtain ⟨w', hr, h1, h2⟩ := run_append_fits (P := P) w B t ty e i size ht hi hsize g n cap cs ⟨hcl, .inr ⟨g, cap, cur, rfl, hbg, hg, hnc, hcm', hcs, htake⟩⟩ ⟨b, off, none⟩ m c ds hdl hnews hd1 hroom
        have ho : Own w' B e size (.slice (some ⟨g, 0, none⟩) (n + m) cap) (n + m) (cs ++ ds) := Own.of_row h1 hall
        refine ⟨_, w', hr, ho, (Keeps.refl _ _).grown h2 (fun k hk => Or.inr hk) (fun k hk => by simp only [Option.some.injEq] at hk; exact .inl hk.symm), fun b hb => .inl (by simpa [Value.ownBlock, eq_comm] using hb), fun j u hj => ?_⟩
        obtain ⟨b2, o2, e2, hc2⟩ := ho.sl.addr (by simp; omega)
        simp only [Option.some.injEq, Addr.mk.injEq, and_true] at e2
        obtain ⟨rfl, rfl⟩ := e2
        have hj' := (List.getElem?_eq_some_iff.1 hj).1
        have := hc2 j u (by rw [List.getElem?_append_left hj']; exact hj)
        rwa [Nat.zero_add] at this
      · have holds : ∀ j u, cs[j]? = some u → w.cell? ((⟨g, 0, none⟩ : Addr).add j) = some u := by
          intro j u hj
          rw [Addr.add_lit, Nat.zero_add]
          exact hwas j u hj
        obtain ⟨v', w', hr, h1, h2⟩ := run_append_arg_grows (P := P) w t ty e i z size bytes ht hi hz hsize hby hzs hsz ⟨g, 0, none⟩ n cap cs hcl holds ⟨b, off, none⟩ m c ds hdl hnews (by omega) h63 hbytes
        have hk : Keeps (fun k => w.heap.size ≤ k) w w' := (Keeps.refl _ _).grown h2 (fun k hk => hk) (by simp)
        exact ⟨v', w', hr, (Own.of_row h1 hall).base hbase, hk.mono (fun k hk => .inr hk), fun b hb => .inr (h1.lt b hb).1, fun j u hj => (hk.cell (p := ⟨g, j, none⟩) (by simp; omega)).trans (hwas j u hj)⟩

/-- append, as one step of a region that draws its order. -/
theorem step_app_in {P : Program} {ops : Array Oper} {o : Oper} {a : Act} {w : World} {K : Act → World → Prop} {Q : Exit → Act → World → Prop} {E : Prop} (hgd : o.guard = none) (s x : Operand) {t e : TypeId} {size bytes : Nat} {z : Value}
    (hE : Elem P t e size bytes z) (ho : o.op = .call { callee := .builtin .append, args := #[s, x], argTypes := #[t, t] }) (B : Nat) {g n cap : Nat} (hv : a.eval s = .slice (some ⟨g, 0, none⟩) n cap)
    {cs : List Value} (hown : Own w B e size (.slice (some ⟨g, 0, none⟩) n cap) n cs) (hn : 0 < n) {u : Value} (hu : a.eval x = u) {m : Nat} {ds : List Value} (hsl : Sl w size u m ds)
    (h63 : n + m ≤ maxLen) (hbytes : (n + m) * bytes ≤ 140737488355328) (hbase : B ≤ w.heap.size)
    (h : ∀ v' w', Own w' B e size v' (n + m) (cs ++ ds) → Keeps (fun k => k = g ∨ w.heap.size ≤ k) w w' → (∀ b, v'.ownBlock = some b → b = g ∨ w.heap.size ≤ b) → (∀ j u, cs[j]? = some u → w'.cell? ⟨g, j, none⟩ = some u) → K (a.put o.dst v') w') :
    if Region.wanted o (yielded ops a.tmps) = true then Oper.wp P o a w K Q else E := by
  have hw : Region.wanted o (yielded ops a.tmps) = true := by simp [Region.wanted, hgd]
  rw [if_pos hw]
  obtain ⟨v', w', hr, h2, h3, h4, h5⟩ := run_app_in (P := P) (ty := o.type) hE hown hn hsl h63 hbytes hbase
  unfold Oper.wp execOp
  simp only [ho, resolve, invoke, builtin, Sem.run_bind, Sem.run_pure, Result.andThen_ok, List.map_toArray, List.map_cons, List.map_nil, hv, hu, hr]
  exact h v' w' h2 h3 h4 h5

/-- A struct or array is read, as one step of a region that draws its order. -/
theorem step_ldAgg {P : Program} {ops : Array Oper} {o : Oper} {a : Act} {w : World} {K : Act → World → Prop} {Q : Exit → Act → World → Prop} {E : Prop} (hgd : o.guard = none) (x : Operand) {ty : TypeId} {m : Nat} (hT : AggTy P ty m) (ho : o.op = .load ty x)
    {b off : Nat} (hx : a.eval x = .pointer (some ⟨b, off, none⟩)) {cs : List Value} (hm : cs.length = m) (hc : CellsAt w b off cs)
    (h : K (a.put o.dst (.agg cs.toArray)) w) : if Region.wanted o (yielded ops a.tmps) = true then Oper.wp P o a w K Q else E := by
  have hw : Region.wanted o (yielded ops a.tmps) = true := by simp [Region.wanted, hgd]
  rw [if_pos hw]
  unfold Oper.wp execOp
  simp only [ho, hx, Instr.loadAt, Instr.sureAddr, Sem.run_bind, Sem.run_pure, Result.andThen_ok, run_ldAgg hT hm hc]
  exact h

/-- A struct or array is written, as one step of a region that draws its order. -/
theorem step_stAgg {P : Program} {ops : Array Oper} {o : Oper} {a : Act} {w : World} {K : Act → World → Prop} {Q : Exit → Act → World → Prop} {E : Prop} (hgd : o.guard = none) (x y : Operand) {ty : TypeId} {m : Nat} (hT : AggTy P ty m) (ho : o.op = .store ty x y)
    {g off : Nat} (hx : a.eval x = .pointer (some ⟨g, off, none⟩)) {vs : List Value} (hy : a.eval y = .agg vs.toArray) (hm : vs.length = m) {cur : List Value} {T : TypeId} (hb : Blk w g cur T) (hfit : off + m ≤ cur.length) (h1 : ∀ v ∈ vs, v.oneCell' = true)
    (h : ∀ w', Blk w' g (cur.take off ++ vs ++ cur.drop (off + m)) T → Keeps (fun k => k = g) w w' → K (a.put o.dst undef) w') : if Region.wanted o (yielded ops a.tmps) = true then Oper.wp P o a w K Q else E := by
  have hw : Region.wanted o (yielded ops a.tmps) = true := by simp [Region.wanted, hgd]
  rw [if_pos hw]
  obtain ⟨w', hr, h2, h3⟩ := run_stAgg hT hm hb hfit h1
  unfold Oper.wp execOp
  simp only [ho, hx, hy, Instr.storeAt, Instr.sureAddr, Sem.run_bind, Sem.run_pure, Result.andThen_ok, hr]
  exact h w' h2 h3
end Go.Proofs.Ytdmjliehobgknaa
