/- copy and clear over elements of any size. No program. -/
import Derived.Test.YtclonbojpcgngaaFlat
import Derived.Laws.CopyRow
namespace Go.Proofs.Ytclonbojpcgngaa
set_option linter.unusedSimpArgs false
set_option linter.unusedVariables false
open Go.RowKit

theorem run_cpZ {P : Program} {w : World} {dT sT ty e : TypeId} {sz bytes : Nat} {z : Value} (hE : Elem P dT e sz bytes z) {g o dLen dCap : Nat} {cur : List Value} {T : TypeId} (hb : Blk w g cur T)
    {a : Addr} {n cap : Nat} {cs : List Value} (hcs : cs.length = min n dLen * sz) (hc1 : ∀ u ∈ cs, u.oneCell' = true) (hsrc : ∀ j u, cs[j]? = some u → w.cell? (a.add j) = some u) (hfit : o + cs.length ≤ cur.length) :
    (Builtin.copy_ #[dT, sT] ty #[.slice (some ⟨g, o, none⟩) dLen dCap, .slice (some a) n cap]).run P w = .ok (.int .i64 (min n dLen : Nat)) (w.setRow g (cur.take o ++ cs ++ cur.drop (o + cs.length)).toArray) := by
  obtain ⟨ht, i, hi, hz, hsize, hby, hzs, hsz⟩ := hE
  have hl := run_loadCells_list (P := P) w a cs hsrc
  have hst := run_storeCells_at P g o T cs 0 cur.toArray w hb (by simpa using hfit) hc1
  have hm : Nat.min n dLen * sz = cs.length := hcs.symm
  simp [Builtin.copy_, run_underlying ht, Builtin.lenOf, Builtin.firstCells, sizeOf, typeInfo, hi, hsize, hm, hl, hst, goInt]

theorem copied {w : World} {g : Nat} {cur : List Value} {T : TypeId} (hb : Blk w g cur T) (cs : List Value) : Blk (w.setRow g cs.toArray) g cs T ∧ Keeps (fun k => k = g) w (w.setRow g cs.toArray) := by
  refine ⟨?_, Keeps.oneRow _ _ _⟩
  unfold Blk
  rw [setRow_heap w g cur.toArray _ T _ hb]

/-- copy of elements that stand in memory, into a block. -/
theorem wpList_cpZ {P : Program} {w : World} {ops : Array Oper} {rest : List Oper} {o : Oper} {a : Act} {Q : Exit → Act → World → Prop} (hgd : Region.wanted o (yielded ops a.tmps) = true) (d s : Operand) {dT sT e : TypeId} {sz bytes : Nat} {z : Value}
    (hE : Elem P dT e sz bytes z) (ho : o.op = .call { callee := .builtin .copy, args := #[d, s], argTypes := #[dT, sT] }) {g off dLen dCap : Nat} (hd : a.eval d = .slice (some ⟨g, off, none⟩) dLen dCap)
    {cur : List Value} {T : TypeId} (hb : Blk w g cur T) {ad : Addr} {n cap : Nat} (hu : a.eval s = .slice (some ad) n cap) {cs : List Value} (hcs : cs.length = min n dLen * sz) (hc1 : ∀ u ∈ cs, u.oneCell' = true)
    (hsrc : ∀ j u, cs[j]? = some u → w.cell? (ad.add j) = some u) (hfit : off + cs.length ≤ cur.length)
    (h : ∀ w', Blk w' g (cur.take off ++ cs ++ cur.drop (off + cs.length)) T → Keeps (fun k => k = g) w w' → wpList P ops Q rest (a.put o.dst (.int .i64 (min n dLen : Nat))) w') : wpList P ops Q (o :: rest) a w := by
  have hr := run_cpZ (P := P) (sT := sT) (ty := o.type) (dCap := dCap) (cap := cap) hE hb hcs hc1 hsrc hfit
  refine wpList_want hgd fun K hK => ?_
  unfold Oper.wp execOp
  simp only [ho, resolve, invoke, builtin, Sem.run_bind, Sem.run_pure, Result.andThen_ok, List.map_toArray, List.map_cons, List.map_nil, hd, hu, hr]
  exact hK _ _ (h _ (copied hb _).1 (copied hb _).2)

/-- .. as one step of a region that draws its order. -/
theorem step_cpZ {P : Program} {ops : Array Oper} {o : Oper} {a : Act} {w : World} {K : Act → World → Prop} {Q : Exit → Act → World → Prop} {E : Prop} (hgd : o.guard = none) (d s : Operand) {dT sT e : TypeId} {sz bytes : Nat} {z : Value}
    (hE : Elem P dT e sz bytes z) (ho : o.op = .call { callee := .builtin .copy, args := #[d, s], argTypes := #[dT, sT] }) {g off dLen dCap : Nat} (hd : a.eval d = .slice (some ⟨g, off, none⟩) dLen dCap)
    {cur : List Value} {T : TypeId} (hb : Blk w g cur T) {ad : Addr} {n cap : Nat} (hu : a.eval s = .slice (some ad) n cap) {cs : List Value} (hcs : cs.length = min n dLen * sz) (hc1 : ∀ u ∈ cs, u.oneCell' = true)
    (hsrc : ∀ j u, cs[j]? = some u → w.cell? (ad.add j) = some u) (hfit : off + cs.length ≤ cur.length)
    (h : ∀ w', Blk w' g (cur.take off ++ cs ++ cur.drop (off + cs.length)) T → Keeps (fun k => k = g) w w' → K (a.put o.dst (.int .i64 (min n dLen : Nat))) w') :
    if Region.wanted o (yielded ops a.tmps) = true then Oper.wp P o a w K Q else E := by
  have hw : Region.wanted o (yielded ops a.tmps) = true := by simp [Region.wanted, hgd]
  rw [if_pos hw]
  have hr := run_cpZ (P := P) (sT := sT) (ty := o.type) (dCap := dCap) (cap := cap) hE hb hcs hc1 hsrc hfit
  unfold Oper.wp execOp
  simp only [ho, resolve, invoke, builtin, Sem.run_bind, Sem.run_pure, Result.andThen_ok, List.map_toArray, List.map_cons, List.map_nil, hd, hu, hr]
  exact h _ (copied hb _).1 (copied hb _).2

theorem zeroCells_len (z : Array Value) (n : Nat) : (Builtin.zeroCells z n).toList.length = n * z.size := by simp [Builtin.zeroCells]
theorem zeroCells_mem {z : Array Value} {n : Nat} {c : Value} (h : c ∈ (Builtin.zeroCells z n).toList) : c ∈ z.toList := by
  simp only [Builtin.zeroCells, Array.toList_map, List.mem_map] at h
  obtain ⟨i, hi, rfl⟩ := h
  have hi' : i < n * z.size := by simpa using hi
  have hz : 0 < z.size := by
    rcases Nat.eq_zero_or_pos z.size with h0 | h0
    · rw [h0] at hi'; omega
    · exact h0
  rw [getElem!_pos z _ (Nat.mod_lt _ hz)]
  simp

/-- clear of elements in a block: what stands ahead of them is as it was. -/
theorem wpList_clrZ {P : Program} {w : World} {ops : Array Oper} {rest : List Oper} {o : Oper} {a : Act} {Q : Exit → Act → World → Prop} (hgd : Region.wanted o (yielded ops a.tmps) = true) (d : Operand) {t e : TypeId} {sz bytes : Nat} {z : Value}
    (hE : Elem P t e sz bytes z) (hz1 : ∀ c ∈ z.cells.toList, c.oneCell' = true) (ho : o.op = .call { callee := .builtin .clear, args := #[d], argTypes := #[t] }) {g off n cap : Nat} (hd : a.eval d = .slice (some ⟨g, off, none⟩) (n + 1) cap)
    {cur : List Value} {T : TypeId} (hb : Blk w g cur T) (hfit : off + (n + 1) * sz ≤ cur.length)
    (h : ∀ w' zs, zs.length = (n + 1) * sz → Blk w' g (cur.take off ++ zs ++ cur.drop (off + (n + 1) * sz)) T → Keeps (fun k => k = g) w w' → wpList P ops Q rest (a.put o.dst (.tuple #[])) w') : wpList P ops Q (o :: rest) a w := by
  obtain ⟨ht, i, hi, hz, hsize, hby, hzs, hsz⟩ := hE
  have hzl := zeroCells_len z.cells (n + 1)
  rw [hzs] at hzl
  have hst := run_storeCells_at P g off T (Builtin.zeroCells z.cells (n + 1)).toList 0 cur.toArray w hb (by rw [hzl]; simpa using hfit) (fun v hv => hz1 v (zeroCells_mem hv))
  refine wpList_want hgd fun K hK => ?_
  unfold Oper.wp execOp
  simp only [ho, resolve, invoke, builtin, Sem.run_bind, Sem.run_pure, Result.andThen_ok, List.map_toArray, List.map_cons, List.map_nil, hd]
  have hr : (Builtin.clear_ #[t] o.type #[.slice (some ⟨g, off, none⟩) (n + 1) cap]).run P w = .ok (.tuple #[]) (w.setRow g (cur.take off ++ (Builtin.zeroCells z.cells (n + 1)).toList ++ cur.drop (off + (n + 1) * sz)).toArray) := by
    simp only [Nat.add_zero, hzl] at hst
    simp only [Builtin.clear_]
    simp [run_underlying ht, zeroValue, typeInfo, hi, hz, hst]
  rw [hr]
  exact hK _ _ (h _ _ hzl (copied hb _).1 (copied hb _).2)

/-- 's[lo:hi]', lo ahead of the capacity's end. -/
theorem run_sliceM {P : Program} {t e : TypeId} {sz : Nat} (ht : P.underlying t = some (.slice e)) (hs : ∀ w, (sizeOf e).run P w = .ok sz w) (g n cap lo hi : Nat) (h1 : lo ≤ hi) (h2 : hi ≤ cap) (h3 : lo < cap) (W : World) :
    (Instr.sliceAt t (.slice (some ⟨g, 0, none⟩) n cap) (some (.int .i64 lo)) (some (.int .i64 hi)) none).run P W = .ok (.slice (some ⟨g, lo * sz, none⟩) (hi - lo) (cap - lo)) W := by
  have k2 : ¬ ((lo : Int) < 0) := by omega
  have k3 : ¬ ((hi : Int) < 0) := by omega
  have k4 : ¬ (cap < hi) := by omega
  have k5 : ¬ (hi < lo) := by omega
  have k6 : ¬ cap - lo = 0 := by omega
  have k7 : ¬ cap ≤ lo := by omega
  simp [Instr.sliceAt, Instr.slice, Instr.sliceBounds, Instr.sliceBound, run_underlying ht, asIntOf, hs, k2, k3, k4, k5, k6, k7, h1, h2, Addr.add_lit]
  exact fun h => by omega
/-- 's[lo:hi:mx]' stands. -/
theorem run_slice3 {P : Program} {t e : TypeId} {sz : Nat} (ht : P.underlying t = some (.slice e)) (hs : ∀ w, (sizeOf e).run P w = .ok sz w) (g n cap lo hi mx : Nat) (h1 : lo ≤ hi) (h2 : hi ≤ mx) (h3 : mx ≤ cap) (h4 : lo < mx) (W : World) :
    (Instr.sliceAt t (.slice (some ⟨g, 0, none⟩) n cap) (some (.int .i64 lo)) (some (.int .i64 hi)) (some (.int .i64 mx))).run P W = .ok (.slice (some ⟨g, lo * sz, none⟩) (hi - lo) (mx - lo)) W := by
  have k2 : ¬ ((lo : Int) < 0) := by omega
  have k3 : ¬ ((hi : Int) < 0) := by omega
  have k8 : ¬ ((mx : Int) < 0) := by omega
  have k4 : ¬ (mx < hi) := by omega
  have k5 : ¬ (hi < lo) := by omega
  have k9 : ¬ (cap < mx) := by omega
  have k6 : ¬ mx - lo = 0 := by omega
  have k7 : ¬ mx ≤ lo := by omega
  simp [Instr.sliceAt, Instr.slice, Instr.sliceBounds, Instr.sliceBound, run_underlying ht, asIntOf, hs, k2, k3, k4, k5, k6, k7, k8, k9, h1, h2, h3, Addr.add_lit]
  exact fun h => by omega

/-- append whose run is known, as one step of a region that draws its order. -/
theorem step_app_run {P : Program} {ops : Array Oper} {o : Oper} {a : Act} {w : World} {K : Act → World → Prop} {Q : Exit → Act → World → Prop} {E : Prop} (hgd : o.guard = none) (s x : Operand) {t t' : TypeId}
    (ho : o.op = .call { callee := .builtin .append, args := #[s, x], argTypes := #[t, t'] }) {v u : Value} (hv : a.eval s = v) (hu : a.eval x = u) {v' : Value} {w' : World} (hr : (Builtin.append_ #[t, t'] o.type #[v, u]).run P w = .ok v' w') (h : K (a.put o.dst v') w') :
    if Region.wanted o (yielded ops a.tmps) = true then Oper.wp P o a w K Q else E := by
  have hw : Region.wanted o (yielded ops a.tmps) = true := by simp [Region.wanted, hgd]
  rw [if_pos hw]
  unfold Oper.wp execOp
  simp only [ho, resolve, invoke, builtin, Sem.run_bind, Sem.run_pure, Result.andThen_ok, List.map_toArray, List.map_cons, List.map_nil, hv, hu, hr]
  exact h

theorem exec_slice {P : Program} {o : Oper} {a : Act} {W : World} {t : TypeId} {x : Operand} {lo hi mx : Option Operand} (ho : o.op = .slice t x lo hi mx) {v : Value} (hr : (Instr.sliceAt t (a.eval x) (lo.map a.eval) (hi.map a.eval) (mx.map a.eval)).run P W = .ok v W) :
    (execOp a.eval o).run P W = .ok (.value v) W := by
  unfold execOp
  simp only [ho, Sem.run_bind, Sem.run_pure, hr, Result.andThen_ok]
end Go.Proofs.Ytclonbojpcgngaa
