/- Slices of the call's own that begin anywhere in their block: cut in front, appended to behind. -/
import Derived.Test.YtclonbojpcgngaaBase
namespace Go.Proofs.Ytclonbojpcgngaa
set_option linter.unusedSimpArgs false
set_option linter.unusedVariables false
open Go.RowKit

/-- A slice of one cell each that the call owns, from some place of its block on to the block's end: it may be appended to. -/
def OwnO (w : World) (B : Nat) (e : TypeId) (v : Value) (n : Nat) (cs : List Value) : Prop :=
  cs.length = n ∧ (∀ u ∈ cs, u.oneCell' = true) ∧
  ((∃ a, v = .slice a 0 0 ∧ n = 0) ∨
   ∃ g o cap cur, v = .slice (some ⟨g, o, none⟩) n cap ∧ B ≤ g ∧ w.heap[g]? = some (.cells cur e (0, 0)) ∧ n ≤ cap ∧ cap ≤ maxLen ∧ cur.size = o + cap ∧ (cur.toList.drop o).take n = cs)

theorem OwnO.of_own {w : World} {B : Nat} {e : TypeId} {v : Value} {n : Nat} {cs : List Value} (h : Own w B e 1 v n cs) : OwnO w B e v n cs := by
  obtain ⟨h0, h1, h2 | ⟨g, cap, cur, hv, h2, h3, h4, h5, h6, h7⟩⟩ := h
  · exact ⟨by omega, h1, .inl h2⟩
  · exact ⟨by omega, h1, .inr ⟨g, 0, cap, cur, hv, h2, h3, h4, h5, by omega, by simpa using h7⟩⟩

theorem OwnO.sl {w : World} {B : Nat} {e : TypeId} {v : Value} {n : Nat} {cs : List Value} (h : OwnO w B e v n cs) : Sl w 1 v n cs := by
  obtain ⟨h0, h1, ⟨a, rfl, rfl⟩ | ⟨g, o, cap, cur, rfl, h2, h3, h4, h5, h6, h7⟩⟩ := h
  · exact ⟨by omega, h1, a, 0, rfl, Nat.le_refl _, Nat.zero_le _, fun _ => rfl, .inl (List.eq_nil_of_length_eq_zero (by omega))⟩
  · refine ⟨by omega, h1, _, cap, rfl, h4, h5, fun h => by simp at h, .inr ⟨g, o, rfl, fun j u hj => ?_⟩⟩
    have hjl : j < n := by have := (List.getElem?_eq_some_iff.1 hj).1; omega
    rw [← h7, List.getElem?_take, if_pos hjl, List.getElem?_drop] at hj
    rw [cell_of_row w g (o + j) cur e (0, 0) h3, ← Array.getElem?_toList]
    exact hj

theorem OwnO.base {w : World} {B B' : Nat} {e : TypeId} {v : Value} {n : Nat} {cs : List Value} (h : OwnO w B e v n cs) (hB : B' ≤ B) : OwnO w B' e v n cs := by
  obtain ⟨h0, h1, h2 | ⟨g, o, cap, cur, hv, h2, hr⟩⟩ := h
  · exact ⟨h0, h1, .inl h2⟩
  · exact ⟨h0, h1, .inr ⟨g, o, cap, cur, hv, by omega, hr⟩⟩

theorem OwnO.keep {w w' : World} {B : Nat} {e : TypeId} {v : Value} {n : Nat} {cs : List Value} {S : Nat → Prop} (h : OwnO w B e v n cs) (hk : Keeps S w w') (hb : ∀ b, v.ownBlock = some b → ¬ S b) : OwnO w' B e v n cs := by
  obtain ⟨h0, h1, h2 | ⟨g, o, cap, cur, rfl, h2, h3, hr⟩⟩ := h
  · exact ⟨h0, h1, .inl h2⟩
  · exact ⟨h0, h1, .inr ⟨g, o, cap, cur, rfl, h2, (hk.block g (hb g rfl)).trans h3, hr⟩⟩

theorem OwnO.below {w w' : World} {B : Nat} {e : TypeId} {v : Value} {n : Nat} {cs : List Value} (h : OwnO w B e v n cs) (hk : Below w.heap.size w w') : OwnO w' B e v n cs := by
  obtain ⟨h0, h1, h2 | ⟨g, o, cap, cur, rfl, h2, h3, hr⟩⟩ := h
  · exact ⟨h0, h1, .inl h2⟩
  · exact ⟨h0, h1, .inr ⟨g, o, cap, cur, rfl, h2, (hk.block g (block_lt h3)).trans h3, hr⟩⟩

theorem OwnO.alloc {w : World} {B : Nat} {e : TypeId} {v : Value} {n : Nat} {cs : List Value} (h : OwnO w B e v n cs) (o : Obj) : OwnO (w.alloc o) B e v n cs := h.below ((Below.refl _ _).alloc (Nat.le_refl _) _)

theorem OwnO.drew {w : World} {B : Nat} {e : TypeId} {v : Value} {n : Nat} {cs : List Value} (h : OwnO w B e v n cs) : OwnO w.drew B e v n cs := h

theorem OwnO.drewN {w : World} {B : Nat} {e : TypeId} {v : Value} {n : Nat} {cs : List Value} (h : OwnO w B e v n cs) (q : Nat) : OwnO (w.drewN q) B e v n cs := h

theorem OwnO.nil (w : World) (B : Nat) (e : TypeId) (a : Option Addr) : OwnO w B e (.slice a 0 0) 0 [] := ⟨rfl, by simp, .inl ⟨a, rfl, rfl⟩⟩

theorem OwnO.form {w : World} {B : Nat} {e : TypeId} {v : Value} {n : Nat} {cs : List Value} (h : OwnO w B e v n cs) (hn : 0 < n) : ∃ g o cap, v = .slice (some ⟨g, o, none⟩) n cap ∧ B ≤ g ∧ n ≤ cap ∧ cap ≤ maxLen := by
  obtain ⟨h0, h1, ⟨a, rfl, rfl⟩ | ⟨g, o, cap, cur, rfl, h2, h3, h4, h5, h6, h7⟩⟩ := h
  · omega
  · exact ⟨g, o, cap, rfl, h2, h4, h5⟩

/-- Cut in front. -/
theorem OwnO.cut {w : World} {B : Nat} {e : TypeId} {g o n cap : Nat} {cs : List Value} (h : OwnO w B e (.slice (some ⟨g, o, none⟩) n cap) n cs) (k : Nat) (hk : k ≤ n) :
    OwnO w B e (.slice (some ⟨g, o + k, none⟩) (n - k) (cap - k)) (n - k) (cs.drop k) := by
  obtain ⟨h0, h1, ⟨a, hv, rfl⟩ | ⟨g', o', cap', cur, hv, h2, h3, h4, h5, h6, h7⟩⟩ := h
  · simp only [Value.slice.injEq] at hv
    obtain ⟨rfl, _, rfl⟩ := hv
    exact ⟨by simp; omega, fun u hu => h1 u (List.mem_of_mem_drop hu), .inl ⟨some ⟨g, o + k, none⟩, by simp, by omega⟩⟩
  · simp only [Value.slice.injEq, Option.some.injEq, Addr.mk.injEq, and_true, true_and] at hv
    obtain ⟨⟨rfl, rfl⟩, rfl⟩ := hv
    refine ⟨by simp; omega, fun u hu => h1 u (List.mem_of_mem_drop hu), .inr ⟨g, o + k, cap - k, cur, rfl, h2, h3, by omega, by omega, by omega, ?_⟩⟩
    rw [← h7, List.drop_take, List.drop_drop]

theorem run_append_roomO {P : Program} (w : World) (t ty e : TypeId) (i : TypeInfo) (ht : P.underlying t = some (.slice e)) (hi : P.info? e = some i)
    (g o sLen sCap : Nat) (cur : Array Value) (hg : w.heap[g]? = some (.cells cur e (0, 0)))
    (a : Addr) (m c : Nat) (news : List Value) (hl : news.length = m * i.size) (hnews : ∀ j u, news[j]? = some u → w.cell? (a.add j) = some u) (h1 : ∀ u ∈ news, u.oneCell' = true)
    (hroom : sLen + m ≤ sCap) (hfit : o + sLen * i.size + news.length ≤ cur.size) :
    (Builtin.append_ #[t, t] ty #[.slice (some ⟨g, o, none⟩) sLen sCap, .slice (some a) m c]).run P w =
      .ok (.slice (some ⟨g, o, none⟩) (sLen + m) sCap) (w.setRow g (cur.toList.take (o + sLen * i.size) ++ news ++ cur.toList.drop (o + sLen * i.size + news.length)).toArray) := by
  have hf := run_firstCells_some (P := P) w i.size m a m c news hl hnews
  have hst := run_storeCells_at P g (o + sLen * i.size) e news 0 cur w hg (by simpa using hfit) h1
  simp only [Nat.add_zero] at hst
  simp [Builtin.append_, run_underlying ht, sizeOf, typeInfo, hi, Builtin.lenOf, hroom, hf, Addr.add_lit, hst]

theorem run_appO {P : Program} {w : World} {t ty e : TypeId} {bytes : Nat} {z : Value} (hE : Elem P t e 1 bytes z) {B : Nat}
    {v : Value} {n : Nat} {cs : List Value} (hown : OwnO w B e v n cs) {x : Value} {m : Nat} {ds : List Value} (hsl : Sl w 1 x m ds)
    (h63 : n + m ≤ maxLen) (hbytes : (n + m) * bytes ≤ 140737488355328) (hbase : B ≤ w.heap.size) :
    ∃ v' w', (Builtin.append_ #[t, t] ty #[v, x]).run P w = .ok v' w' ∧ OwnO w' B e v' (n + m) (cs ++ ds) ∧ Keeps (fun k => v.ownBlock = some k ∧ B ≤ k ∨ w.heap.size ≤ k) w w' ∧ (∀ b, v'.ownBlock = some b → v.ownBlock = some b ∨ w.heap.size ≤ b) := by
  have hE' := hE
  obtain ⟨ht, i, hi, hz, hsize, hby, hzs, hsz⟩ := hE
  obtain ⟨hcl, hc1, ⟨a0, rfl, rfl⟩ | ⟨g, o, cap, cur, rfl, hbg, hg, hnc, hcm', hcs, htake⟩⟩ := hown
  · obtain rfl : cs = [] := List.eq_nil_of_length_eq_zero (by omega)
    obtain ⟨v', w', h1, h2, h3, h4⟩ := run_app (ty := ty) hE' (Own.nil w B e 1 a0) hsl h63 hbytes hbase
    exact ⟨v', w', h1, OwnO.of_own h2, h3, h4⟩
  · obtain ⟨hdl, hd1, a, c, rfl, hmc, hcm, hanone, hat⟩ := hsl
    have hall : ∀ u ∈ cs ++ ds, u.oneCell' = true := by
      intro u hu
      rcases List.mem_append.1 hu with h | h
      · exact hc1 u h
      · exact hd1 u h
    by_cases hm0 : m = 0
    · subst hm0
      obtain rfl : ds = [] := List.eq_nil_of_length_eq_zero (by omega)
      have hfc : (Builtin.firstCells 1 0 (.slice a 0 c)).run P w = .ok #[] w := by
        cases a <;> simp [Builtin.firstCells, loadCells, loadCellsFrom]
      refine ⟨_, w, ?_, ⟨by simpa using hcl, by simpa using hc1, .inr ⟨g, o, cap, cur, rfl, hbg, hg, by simpa using hnc, hcm', hcs, by simpa using htake⟩⟩, Keeps.refl _ _, fun b h => .inl h⟩
      simp [Builtin.append_, run_underlying ht, sizeOf, typeInfo, hi, Builtin.lenOf, hsize, hfc, hnc, storeCells]
    · obtain ⟨b, off, rfl, hcell⟩ : ∃ b off, a = some ⟨b, off, none⟩ ∧ ∀ j u, ds[j]? = some u → w.cell? ⟨b, off + j, none⟩ = some u := by
        rcases hat with h | h
        · subst h; simp at hdl; omega
        · exact h
      have hnews : ∀ j u, ds[j]? = some u → w.cell? ((⟨b, off, none⟩ : Addr).add j) = some u := fun j u hj => by rw [Addr.add_lit]; exact hcell j u hj
      by_cases hroom : n + m ≤ cap
      · have hr := run_append_roomO (P := P) (ty := ty) w t e i ht hi g o n cap cur hg ⟨b, off, none⟩ m c ds (by rw [hsize]; exact hdl) hnews hd1 hroom (by rw [hsize]; omega)
        rw [hsize] at hr
        refine ⟨_, _, hr, ⟨by simp; omega, hall, .inr ⟨g, o, cap, _, rfl, hbg, setRow_heap w g cur _ e _ hg, by omega, hcm', ?_, ?_⟩⟩, (Keeps.refl _ _).setRow (.inl ⟨rfl, hbg⟩) _, fun b h => .inl h⟩
        · simp only [List.size_toArray, List.length_append, List.length_take, List.length_drop, Array.length_toList]
          omega
        · have e1 : (cur.toList.take (o + n * 1)).drop o = cs := by
            rw [← htake, List.drop_take, show o + n * 1 - o = n by omega]
          have e2 : o ≤ (cur.toList.take (o + n * 1)).length := by simp; omega
          simp only [List.append_assoc]
          rw [List.drop_append_of_le_length e2, e1, ← List.append_assoc, List.take_append_of_le_length (by simp; omega), List.take_of_length_le (by simp; omega)]
      · have holds : ∀ j u, cs[j]? = some u → w.cell? ((⟨g, o, none⟩ : Addr).add j) = some u := by
          intro j u hj
          have hjl : j < n := by have := (List.getElem?_eq_some_iff.1 hj).1; omega
          rw [← htake, List.getElem?_take, if_pos hjl, List.getElem?_drop] at hj
          rw [Addr.add_lit, cell_of_row w g (o + j) cur e (0, 0) hg, ← Array.getElem?_toList]
          exact hj
        obtain ⟨v', w', hr, h1, h2⟩ := run_append_arg_grows (P := P) w t ty e i z 1 bytes ht hi hz hsize hby hzs hsz ⟨g, o, none⟩ n cap cs (by omega) holds ⟨b, off, none⟩ m c ds hdl hnews (by omega) h63 hbytes
        exact ⟨v', w', hr, OwnO.of_own ((Own.of_row h1 hall).base hbase), (Keeps.refl _ _).grown h2 (fun k hk => Or.inr hk) (by simp), fun b hb => .inr (h1.lt b hb).1⟩

theorem wpList_appO {P : Program} {w : World} {ops : Array Oper} {rest : List Oper} {o : Oper} {a : Act} {Q : Exit → Act → World → Prop} (hgd : Region.wanted o (yielded ops a.tmps) = true) (s x : Operand) {t e : TypeId} {bytes : Nat} {z : Value}
    (hE : Elem P t e 1 bytes z) (ho : o.op = .call { callee := .builtin .append, args := #[s, x], argTypes := #[t, t] }) (B : Nat)
    {n : Nat} {cs : List Value} (hown : OwnO w B e (a.eval s) n cs) {m : Nat} {ds : List Value} (hsl : Sl w 1 (a.eval x) m ds)
    (h63 : n + m ≤ maxLen) (hbytes : (n + m) * bytes ≤ 140737488355328) (hbase : B ≤ w.heap.size)
    (h : ∀ v' w', OwnO w' B e v' (n + m) (cs ++ ds) → Keeps (fun k => (a.eval s).ownBlock = some k ∧ B ≤ k ∨ w.heap.size ≤ k) w w' → (∀ b, v'.ownBlock = some b → (a.eval s).ownBlock = some b ∨ w.heap.size ≤ b) → wpList P ops Q rest (a.put o.dst v') w') : wpList P ops Q (o :: rest) a w := by
  obtain ⟨v', w', hr, h2, h3, h4⟩ := run_appO (P := P) (ty := o.type) hE hown hsl h63 hbytes hbase
  refine wpList_want hgd fun K hK => ?_
  unfold Oper.wp execOp
  simp only [ho, resolve, invoke, builtin, Sem.run_bind, Sem.run_pure, Result.andThen_ok, List.map_toArray, List.map_cons, List.map_nil, hr]
  exact hK _ _ (h v' w' h2 h3 h4)

theorem step_appO {P : Program} {ops : Array Oper} {o : Oper} {a : Act} {w : World} {K : Act → World → Prop} {Q : Exit → Act → World → Prop} {E : Prop} (hgd : o.guard = none) (s x : Operand) {t e : TypeId} {bytes : Nat} {z : Value}
    (hE : Elem P t e 1 bytes z) (ho : o.op = .call { callee := .builtin .append, args := #[s, x], argTypes := #[t, t] }) (B : Nat) {v : Value} (hv : a.eval s = v)
    {n : Nat} {cs : List Value} (hown : OwnO w B e v n cs) {u : Value} (hu : a.eval x = u) {m : Nat} {ds : List Value} (hsl : Sl w 1 u m ds)
    (h63 : n + m ≤ maxLen) (hbytes : (n + m) * bytes ≤ 140737488355328) (hbase : B ≤ w.heap.size)
    (h : ∀ v' w', OwnO w' B e v' (n + m) (cs ++ ds) → Keeps (fun k => v.ownBlock = some k ∧ B ≤ k ∨ w.heap.size ≤ k) w w' → (∀ b, v'.ownBlock = some b → v.ownBlock = some b ∨ w.heap.size ≤ b) → K (a.put o.dst v') w') :
    if Region.wanted o (yielded ops a.tmps) = true then Oper.wp P o a w K Q else E := by
  have hw : Region.wanted o (yielded ops a.tmps) = true := by simp [Region.wanted, hgd]
  rw [if_pos hw]
  obtain ⟨v', w', hr, h2, h3, h4⟩ := run_appO (P := P) (ty := o.type) hE hown hsl h63 hbytes hbase
  unfold Oper.wp execOp
  simp only [ho, resolve, invoke, builtin, Sem.run_bind, Sem.run_pure, Result.andThen_ok, List.map_toArray, List.map_cons, List.map_nil, hv, hu, hr]
  exact h v' w' h2 h3 h4

/-- append to nil: what comes lies in a block that is new. -/
theorem run_app_nil {P : Program} {w : World} {t ty e : TypeId} {size bytes : Nat} {z : Value} (hE : Elem P t e size bytes z) {x : Value} {m : Nat} {ds : List Value} (hsl : Sl w size x m ds) (h63 : m ≤ maxLen) (hbytes : m * bytes ≤ 140737488355328) :
    ∃ v' w', (Builtin.append_ #[t, t] ty #[.slice none 0 0, x]).run P w = .ok v' w' ∧ Own w' w.heap.size e size v' m ds ∧ Keeps (fun k => w.heap.size ≤ k) w w' ∧ (∀ b, v'.ownBlock = some b → w.heap.size ≤ b ∧ b < w'.heap.size) := by
  obtain ⟨ht, i, hi, hz, hsize, hby, hzs, hsz⟩ := hE
  obtain ⟨hdl, hd1, a, c, rfl, hmc, hcm, hanone, hat⟩ := hsl
  by_cases hm0 : m = 0
  · subst hm0
    obtain rfl : ds = [] := List.eq_nil_of_length_eq_zero (by rw [hdl, Nat.zero_mul])
    have hfc : (Builtin.firstCells size 0 (.slice a 0 c)).run P w = .ok #[] w := by
      cases a <;> simp [Builtin.firstCells, loadCells, loadCellsFrom]
    refine ⟨.slice none 0 0, w, ?_, Own.nil _ _ _ _ _, Keeps.refl _ _, by simp [Value.ownBlock]⟩
    simp [Builtin.append_, run_underlying ht, sizeOf, typeInfo, hi, Builtin.lenOf, hsize, hfc, storeCells]
  · have hdpos : 0 < ds.length := by rw [hdl]; exact Nat.mul_pos (by omega) hsz
    obtain ⟨b, off, rfl, hcell⟩ : ∃ b off, a = some ⟨b, off, none⟩ ∧ ∀ j u, ds[j]? = some u → w.cell? ⟨b, off + j, none⟩ = some u := by
      rcases hat with h | h
      · subst h; simp at hdpos
      · exact h
    have hnews : ∀ j u, ds[j]? = some u → w.cell? ((⟨b, off, none⟩ : Addr).add j) = some u := fun j u hj => by rw [Addr.add_lit]; exact hcell j u hj
    obtain ⟨v', w', hr, h1, h2, _⟩ := run_append_own (P := P) w w.heap.size t ty e i z size bytes ht hi hz hsize hby hzs hsz (.slice none 0 0) 0 [] (World.ownsRow_nil w _ e size) ⟨b, off, none⟩ m c ds hdl hnews hd1 (by omega) (by rw [Nat.zero_add]; exact hbytes) (Nat.le_refl _)
    have h1' : w'.ownsRow w.heap.size e size v' m ds := by simpa using h1
    exact ⟨v', w', hr, Own.of_row h1' hd1, (Keeps.refl _ _).grown h2 (fun k hk => hk) (fun k hk => by cases hk), fun b hb => h1'.lt b hb⟩

theorem step_app_nil {P : Program} {ops : Array Oper} {o : Oper} {a : Act} {w : World} {K : Act → World → Prop} {Q : Exit → Act → World → Prop} {E : Prop} (hgd : o.guard = none) (s x : Operand) {t e : TypeId} {size bytes : Nat} {z : Value}
    (hE : Elem P t e size bytes z) (ho : o.op = .call { callee := .builtin .append, args := #[s, x], argTypes := #[t, t] }) (hv : a.eval s = .slice none 0 0)
    {u : Value} (hu : a.eval x = u) {m : Nat} {ds : List Value} (hsl : Sl w size u m ds) (h63 : m ≤ maxLen) (hbytes : m * bytes ≤ 140737488355328)
    (h : ∀ v' w', Own w' w.heap.size e size v' m ds → Keeps (fun k => w.heap.size ≤ k) w w' → (∀ b, v'.ownBlock = some b → w.heap.size ≤ b ∧ b < w'.heap.size) → K (a.put o.dst v') w') :
    if Region.wanted o (yielded ops a.tmps) = true then Oper.wp P o a w K Q else E := by
  have hw : Region.wanted o (yielded ops a.tmps) = true := by simp [Region.wanted, hgd]
  rw [if_pos hw]
  obtain ⟨v', w', hr, h2, h3, h4⟩ := run_app_nil (P := P) (ty := o.type) hE hsl h63 hbytes
  unfold Oper.wp execOp
  simp only [ho, resolve, invoke, builtin, Sem.run_bind, Sem.run_pure, Result.andThen_ok, List.map_toArray, List.map_cons, List.map_nil, hv, hu, hr]
  exact h v' w' h2 h3 h4

/-- copy, as one step of a region that draws its order. -/
theorem step_cp {P : Program} {ops : Array Oper} {o : Oper} {a : Act} {w : World} {K : Act → World → Prop} {Q : Exit → Act → World → Prop} {E : Prop} (hgd : o.guard = none) (d s : Operand) {dT sT e : TypeId} {bytes : Nat} {z : Value}
    (hE : Elem P dT e 1 bytes z) (ho : o.op = .call { callee := .builtin .copy, args := #[d, s], argTypes := #[dT, sT] }) {g off dLen dCap : Nat} {cur : List Value} {T : TypeId} (hb : Blk w g cur T)
    (hd : a.eval d = .slice (some ⟨g, off, none⟩) dLen dCap) {u : Value} (hu : a.eval s = u) {n : Nat} {cs : List Value} (hsl : Sl w 1 u n cs) (hfit : off + min n dLen ≤ cur.length)
    (h : ∀ w', Blk w' g (cur.take off ++ cs.take (min n dLen) ++ cur.drop (off + min n dLen)) T → Keeps (fun k => k = g) w w' → K (a.put o.dst (.int .i64 (min n dLen : Nat))) w') :
    if Region.wanted o (yielded ops a.tmps) = true then Oper.wp P o a w K Q else E := by
  have hw : Region.wanted o (yielded ops a.tmps) = true := by simp [Region.wanted, hgd]
  rw [if_pos hw]
  obtain ⟨w', hr, h2, h3⟩ := run_cp (P := P) (sT := sT) (ty := o.type) hE hb (dLen := dLen) (dCap := dCap) hsl hfit
  unfold Oper.wp execOp
  simp only [ho, resolve, invoke, builtin, Sem.run_bind, Sem.run_pure, Result.andThen_ok, List.map_toArray, List.map_cons, List.map_nil, hd, hu, hr]
  exact h w' h2 h3
end Go.Proofs.Ytclonbojpcgngaa
