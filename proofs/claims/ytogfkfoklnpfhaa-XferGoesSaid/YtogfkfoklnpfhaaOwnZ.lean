/- Slices of the call's own that begin anywhere in their block, of elements of any size: cut in front, appended to behind. No program. -/
import Derived.Test.YtogfkfoklnpfhaaRes
import Derived.Test.YtogfkfoklnpfhaaBase2
namespace Go.Proofs.Ytogfkfoklnpfhaa
set_option linter.unusedSimpArgs false
set_option linter.unusedVariables false
open Go.RowKit

def OwnZ (w : World) (B : Nat) (e : TypeId) (sz : Nat) (v : Value) (n : Nat) (cs : List Value) : Prop :=
  cs.length = n * sz ∧ (∀ u ∈ cs, u.oneCell' = true) ∧
  ((∃ a, v = .slice a 0 0 ∧ n = 0) ∨
   ∃ g o cap cur, v = .slice (some ⟨g, o, none⟩) n cap ∧ B ≤ g ∧ w.heap[g]? = some (.cells cur e (0, 0)) ∧ n ≤ cap ∧ cap ≤ maxLen ∧ cur.size = o + cap * sz ∧ (cur.toList.drop o).take (n * sz) = cs)

theorem OwnZ.of_own {w : World} {B : Nat} {e : TypeId} {sz : Nat} {v : Value} {n : Nat} {cs : List Value} (h : Own w B e sz v n cs) : OwnZ w B e sz v n cs := by
  obtain ⟨h0, h1, h2 | ⟨g, cap, cur, hv, h2, h3, h4, h5, h6, h7⟩⟩ := h
  · exact ⟨h0, h1, .inl h2⟩
  · exact ⟨h0, h1, .inr ⟨g, 0, cap, cur, hv, h2, h3, h4, h5, by omega, by simpa using h7⟩⟩

theorem OwnZ.sl {w : World} {B : Nat} {e : TypeId} {sz : Nat} {v : Value} {n : Nat} {cs : List Value} (h : OwnZ w B e sz v n cs) : Sl w sz v n cs := by
  obtain ⟨h0, h1, ⟨a, rfl, rfl⟩ | ⟨g, o, cap, cur, rfl, h2, h3, h4, h5, h6, h7⟩⟩ := h
  · exact ⟨h0, h1, a, 0, rfl, Nat.le_refl _, Nat.zero_le _, fun _ => rfl, .inl (List.eq_nil_of_length_eq_zero (by simpa using h0))⟩
  · refine ⟨h0, h1, _, cap, rfl, h4, h5, fun h => by simp at h, .inr ⟨g, o, rfl, fun j u hj => ?_⟩⟩
    have hjl : j < n * sz := by have := (List.getElem?_eq_some_iff.1 hj).1; omega
    rw [← h7, List.getElem?_take, if_pos hjl, List.getElem?_drop] at hj
    rw [cell_of_row w g (o + j) cur e (0, 0) h3, ← Array.getElem?_toList]
    exact hj

theorem OwnZ.base {w : World} {B B' : Nat} {e : TypeId} {sz : Nat} {v : Value} {n : Nat} {cs : List Value} (h : OwnZ w B e sz v n cs) (hB : B' ≤ B) : OwnZ w B' e sz v n cs := by
  obtain ⟨h0, h1, h2 | ⟨g, o, cap, cur, hv, h2, hr⟩⟩ := h
  · exact ⟨h0, h1, .inl h2⟩
  · exact ⟨h0, h1, .inr ⟨g, o, cap, cur, hv, by omega, hr⟩⟩

theorem OwnZ.keep {w w' : World} {B : Nat} {e : TypeId} {sz : Nat} {v : Value} {n : Nat} {cs : List Value} {S : Nat → Prop} (h : OwnZ w B e sz v n cs) (hk : Keeps S w w') (hb : ∀ b, v.ownBlock = some b → ¬ S b) : OwnZ w' B e sz v n cs := by
  obtain ⟨h0, h1, h2 | ⟨g, o, cap, cur, rfl, h2, h3, hr⟩⟩ := h
  · exact ⟨h0, h1, .inl h2⟩
  · exact ⟨h0, h1, .inr ⟨g, o, cap, cur, rfl, h2, (hk.block g (hb g rfl)).trans h3, hr⟩⟩

theorem OwnZ.nil (w : World) (B : Nat) (e : TypeId) (sz : Nat) (a : Option Addr) : OwnZ w B e sz (.slice a 0 0) 0 [] := ⟨by simp, by simp, .inl ⟨a, rfl, rfl⟩⟩

theorem OwnZ.form {w : World} {B : Nat} {e : TypeId} {sz : Nat} {v : Value} {n : Nat} {cs : List Value} (h : OwnZ w B e sz v n cs) (hn : 0 < n) : ∃ g o cap, v = .slice (some ⟨g, o, none⟩) n cap ∧ B ≤ g ∧ n ≤ cap ∧ cap ≤ maxLen ∧ g < w.heap.size := by
  obtain ⟨h0, h1, ⟨a, rfl, rfl⟩ | ⟨g, o, cap, cur, rfl, h2, h3, h4, h5, h6, h7⟩⟩ := h
  · omega
  · exact ⟨g, o, cap, rfl, h2, h4, h5, block_lt h3⟩

/-- Where 's[i:]' begins: at the very end of the capacity the address stays. -/
def cutZ (g o cap i sz : Nat) : Option Addr := if cap = i then some ⟨g, o, none⟩ else some ⟨g, o + i * sz, none⟩
theorem cutZ_own (g o cap i sz n c : Nat) : (Value.slice (cutZ g o cap i sz) n c).ownBlock = some g := by
  unfold cutZ
  split <;> rfl

/-- Cut in front. -/
theorem OwnZ.cut {w : World} {B : Nat} {e : TypeId} {sz g o n cap : Nat} {cs : List Value} (h : OwnZ w B e sz (.slice (some ⟨g, o, none⟩) n cap) n cs) (k : Nat) (hk : k ≤ n) :
    OwnZ w B e sz (.slice (cutZ g o cap k sz) (n - k) (cap - k)) (n - k) (cs.drop (k * sz)) := by
  obtain ⟨h0, h1, ⟨a, hv, rfl⟩ | ⟨g', o', cap', cur, hv, h2, h3, h4, h5, h6, h7⟩⟩ := h
  · simp only [Value.slice.injEq] at hv
    obtain ⟨rfl, _, rfl⟩ := hv
    exact ⟨by simp [h0, Nat.sub_mul], fun u hu => h1 u (List.mem_of_mem_drop hu), .inl ⟨_, by rw [Nat.zero_sub], by omega⟩⟩
  · simp only [Value.slice.injEq, Option.some.injEq, Addr.mk.injEq, and_true, true_and] at hv
    obtain ⟨⟨rfl, rfl⟩, rfl⟩ := hv
    refine ⟨by simp [h0, Nat.sub_mul], fun u hu => h1 u (List.mem_of_mem_drop hu), ?_⟩
    unfold cutZ
    by_cases hc : cap = k
    · subst hc
      exact .inl ⟨_, by rw [if_pos rfl, Nat.sub_self, show n - cap = 0 by omega], by omega⟩
    · have hm : k * sz ≤ n * sz := Nat.mul_le_mul_right _ hk
      have hm2 : n * sz ≤ cap * sz := Nat.mul_le_mul_right _ h4
      refine .inr ⟨g, o + k * sz, cap - k, cur, by rw [if_neg hc], h2, h3, by omega, by omega, by rw [Nat.sub_mul]; omega, ?_⟩
      rw [← h7, List.drop_take, List.drop_drop, Nat.sub_mul]

theorem run_sliceZ {P : Program} {t e : TypeId} {sz : Nat} (ht : P.underlying t = some (.slice e)) (hs : ∀ w, (sizeOf e).run P w = .ok sz w) (g o n cap i : Nat) (hi : i ≤ n) (hc : n ≤ cap) (W : World) :
    (Instr.sliceAt t (.slice (some ⟨g, o, none⟩) n cap) (some (.int .i64 i)) none none).run P W = .ok (.slice (cutZ g o cap i sz) (n - i) (cap - i)) W := by
  have h2 : ¬ ((i : Int) < 0) := by omega
  have h3 : ¬ (n < i) := by omega
  by_cases h : cap = i
  · subst h
    simp [Instr.sliceAt, Instr.slice, Instr.sliceBounds, Instr.sliceBound, run_underlying ht, asIntOf, hs, h2, h3, hi, cutZ]
  · have h5 : ¬ cap - i = 0 := by omega
    have h6 : ¬ cap ≤ i := by omega
    simp [Instr.sliceAt, Instr.slice, Instr.sliceBounds, Instr.sliceBound, run_underlying ht, asIntOf, hs, h2, h3, hi, cutZ, h, h5, h6, Addr.add_lit]

theorem run_appZ {P : Program} {w : World} {t ty e : TypeId} {size bytes : Nat} {z : Value} (hE : Elem P t e size bytes z) {B : Nat}
    {v : Value} {n : Nat} {cs : List Value} (hown : OwnZ w B e size v n cs) {x : Value} {m : Nat} {ds : List Value} (hsl : Sl w size x m ds) (hm0 : 0 < m)
    (h63 : n + m ≤ maxLen) (hbytes : (n + m) * bytes ≤ 140737488355328) (hbase : B ≤ w.heap.size) :
    ∃ v' w', (Builtin.append_ #[t, t] ty #[v, x]).run P w = .ok v' w' ∧ OwnZ w' B e size v' (n + m) (cs ++ ds) ∧ Keeps (fun k => v.ownBlock = some k ∧ B ≤ k ∨ w.heap.size ≤ k) w w' ∧ (∀ b, v'.ownBlock = some b → (v.ownBlock = some b ∨ w.heap.size ≤ b) ∧ b < w'.heap.size) := by
  suffices hh : ∃ v' w', (Builtin.append_ #[t, t] ty #[v, x]).run P w = .ok v' w' ∧ OwnZ w' B e size v' (n + m) (cs ++ ds) ∧ Keeps (fun k => v.ownBlock = some k ∧ B ≤ k ∨ w.heap.size ≤ k) w w' ∧ (∀ b, v'.ownBlock = some b → v.ownBlock = some b ∨ w.heap.size ≤ b) by
    obtain ⟨v', w', h1, h2, h3, h4⟩ := hh
    refine ⟨v', w', h1, h2, h3, fun b hb => ⟨h4 b hb, ?_⟩⟩
    obtain ⟨g, o, cap, rfl, _, _, _, hl⟩ := h2.form (by omega)
    simp [Value.ownBlock] at hb
    omega
  have hE' := hE
  obtain ⟨ht, i, hi, hz, hsize, hby, hzs, hsz⟩ := hE
  obtain ⟨hcl, hc1, ⟨a0, rfl, rfl⟩ | ⟨g, o, cap, cur, rfl, hbg, hg, hnc, hcm', hcs, htake⟩⟩ := hown
  · obtain rfl : cs = [] := List.eq_nil_of_length_eq_zero (by simpa using hcl)
    obtain ⟨v', w', h1, h2, h3, h4⟩ := run_app (ty := ty) hE' (Own.nil w B e size a0) hsl h63 hbytes hbase
    exact ⟨v', w', h1, OwnZ.of_own h2, h3, h4⟩
  · obtain ⟨hdl, hd1, a, c, rfl, hmc, hcm, hanone, hat⟩ := hsl
    have hall : ∀ u ∈ cs ++ ds, u.oneCell' = true := by
      intro u hu
      rcases List.mem_append.1 hu with h | h
      · exact hc1 u h
      · exact hd1 u h
    have hdp : 0 < ds.length := by rw [hdl]; exact Nat.mul_pos hm0 hsz
    obtain ⟨b, off, rfl, hcell⟩ : ∃ b off, a = some ⟨b, off, none⟩ ∧ ∀ j u, ds[j]? = some u → w.cell? ⟨b, off + j, none⟩ = some u := by
      rcases hat with h | h
      · subst h; simp at hdp
      · exact h
    have hnews : ∀ j u, ds[j]? = some u → w.cell? ((⟨b, off, none⟩ : Addr).add j) = some u := fun j u hj => by rw [Addr.add_lit]; exact hcell j u hj
    by_cases hroom : n + m ≤ cap
    · have hmul : (n + m) * size ≤ cap * size := Nat.mul_le_mul_right _ hroom
      rw [Nat.add_mul] at hmul
      have hr := run_append_roomO (P := P) (ty := ty) w t e i ht hi g o n cap cur hg ⟨b, off, none⟩ m c ds (by rw [hsize]; exact hdl) hnews hd1 hroom (by rw [hsize]; omega)
      rw [hsize] at hr
      refine ⟨_, _, hr, ⟨by simp [hcl, hdl, Nat.add_mul], hall, .inr ⟨g, o, cap, _, rfl, hbg, setRow_heap w g cur _ e _ hg, by omega, hcm', ?_, ?_⟩⟩, (Keeps.refl _ _).setRow (.inl ⟨rfl, hbg⟩) _, fun b h => .inl h⟩
      · simp only [List.size_toArray, List.length_append, List.length_take, List.length_drop, Array.length_toList]
        omega
      · have e1 : (cur.toList.take (o + n * size)).drop o = cs := by
          rw [← htake, List.drop_take, show o + n * size - o = n * size by omega]
        have e2 : o ≤ (cur.toList.take (o + n * size)).length := by simp; omega
        simp only [List.append_assoc]
        rw [List.drop_append_of_le_length e2, e1, ← List.append_assoc, List.take_append_of_le_length (by simp [hcl, hdl, Nat.add_mul]), List.take_of_length_le (by simp [hcl, hdl, Nat.add_mul])]
    · have holds : ∀ j u, cs[j]? = some u → w.cell? ((⟨g, o, none⟩ : Addr).add j) = some u := by
        intro j u hj
        have hjl : j < n * size := by have := (List.getElem?_eq_some_iff.1 hj).1; omega
        rw [← htake, List.getElem?_take, if_pos hjl, List.getElem?_drop] at hj
        rw [Addr.add_lit, cell_of_row w g (o + j) cur e (0, 0) hg, ← Array.getElem?_toList]
        exact hj
      obtain ⟨v', w', hr, h1, h2⟩ := run_append_arg_grows (P := P) w t ty e i z size bytes ht hi hz hsize hby hzs hsz ⟨g, o, none⟩ n cap cs hcl holds ⟨b, off, none⟩ m c ds hdl hnews (by omega) h63 hbytes
      exact ⟨v', w', hr, OwnZ.of_own ((Own.of_row h1 hall).base hbase), (Keeps.refl _ _).grown h2 (fun k hk => Or.inr hk) (by simp), fun b hb => .inr (h1.lt b hb).1⟩

theorem wpList_appZ {P : Program} {w : World} {ops : Array Oper} {rest : List Oper} {o : Oper} {a : Act} {Q : Exit → Act → World → Prop} (hgd : Region.wanted o (yielded ops a.tmps) = true) (s x : Operand) {t e : TypeId} {size bytes : Nat} {z : Value}
    (hE : Elem P t e size bytes z) (ho : o.op = .call { callee := .builtin .append, args := #[s, x], argTypes := #[t, t] }) (B : Nat)
    {n : Nat} {cs : List Value} (hown : OwnZ w B e size (a.eval s) n cs) {m : Nat} {ds : List Value} (hsl : Sl w size (a.eval x) m ds) (hm0 : 0 < m)
    (h63 : n + m ≤ maxLen) (hbytes : (n + m) * bytes ≤ 140737488355328) (hbase : B ≤ w.heap.size)
    (h : ∀ v' w', OwnZ w' B e size v' (n + m) (cs ++ ds) → Keeps (fun k => (a.eval s).ownBlock = some k ∧ B ≤ k ∨ w.heap.size ≤ k) w w' → (∀ b, v'.ownBlock = some b → ((a.eval s).ownBlock = some b ∨ w.heap.size ≤ b) ∧ b < w'.heap.size) → wpList P ops Q rest (a.put o.dst v') w') : wpList P ops Q (o :: rest) a w := by
  obtain ⟨v', w', hr, h2, h3, h4⟩ := run_appZ (P := P) (ty := o.type) hE hown hsl hm0 h63 hbytes hbase
  refine wpList_want hgd fun K hK => ?_
  unfold Oper.wp execOp
  simp only [ho, resolve, invoke, builtin, Sem.run_bind, Sem.run_pure, Result.andThen_ok, List.map_toArray, List.map_cons, List.map_nil, hr]
  exact hK _ _ (h v' w' h2 h3 h4)

/-- A slice of the call's own that begins anywhere: it may be cut in front and appended to. -/
def Res.ownZ (e : TypeId) (sz : Nat) (v : Value) (n : Nat) (cs : List Value) : Res where
  holds W F := OwnZ W 0 e sz v n cs ∧ (∀ b, v.ownBlock = some b → b < W.heap.size) ∧ ∀ b, F b ↔ v.ownBlock = some b
  frame := by
    rintro W W' F S ⟨h, hl, hf⟩ hk hs
    exact ⟨h.keep hk (fun b hb => hs b ((hf b).2 hb)), fun b hb => Nat.lt_of_lt_of_le (hl b hb) hk.size, hf⟩
  lt := by
    rintro W F b ⟨h, hl, hf⟩ hb
    exact hl b ((hf b).1 hb)

theorem Hold.ownZOf {W : World} {l : List Res} (h : Hold W l) {e : TypeId} {sz n : Nat} {v : Value} {cs : List Value} (hm : Res.ownZ e sz v n cs ∈ l) : OwnZ W 0 e sz v n cs := by
  obtain ⟨F, hr⟩ := h.get hm
  exact hr.1
theorem Hold.ownToZ {W : World} {e : TypeId} {sz n : Nat} {v : Value} {cs : List Value} {l : List Res} (h : Hold W (.own e sz v n cs :: l)) : Hold W (.ownZ e sz v n cs :: l) :=
  h.weaken fun F hF => ⟨F, ⟨OwnZ.of_own hF.1, hF.2⟩, fun _ h => h⟩
theorem Hold.appendZ {W W' : World} {l : List Res} {e : TypeId} {sz n : Nat} {v : Value} {cs : List Value} (h : Hold W (.ownZ e sz v n cs :: l)) {v' : Value} {n' : Nat} {cs' : List Value} {B : Nat} (hr : OwnZ W' B e sz v' n' cs')
    (hk : Keeps (fun k => v.ownBlock = some k ∧ B ≤ k ∨ W.heap.size ≤ k) W W') (hv : ∀ b, v'.ownBlock = some b → (v.ownBlock = some b ∨ W.heap.size ≤ b) ∧ b < W'.heap.size) : Hold W' (.ownZ e sz v' n' cs' :: l) := by
  refine h.turn fun F hF => ⟨fun k => v'.ownBlock = some k, ⟨hr.base (Nat.zero_le _), fun b hb => (hv b hb).2, fun _ => Iff.rfl⟩, fun b hb => ?_, hk.mono fun k hk => ?_⟩
  · rcases (hv b hb).1 with h | h
    · exact .inl ((hF.2.2 b).2 h)
    · exact .inr h
  · rcases hk with h | h
    · exact .inl ((hF.2.2 k).2 h.1)
    · exact .inr h
theorem Hold.cutZ {W : World} {l : List Res} {e : TypeId} {sz g o n cap : Nat} {cs : List Value} (h : Hold W (.ownZ e sz (.slice (some ⟨g, o, none⟩) n cap) n cs :: l)) (k : Nat) (hk : k ≤ n) :
    Hold W (.ownZ e sz (.slice (Go.Proofs.Ytogfkfoklnpfhaa.cutZ g o cap k sz) (n - k) (cap - k)) (n - k) (cs.drop (k * sz)) :: l) :=
  h.weaken fun F hF => ⟨F, ⟨hF.1.cut k hk, fun b hb => hF.2.1 b (by rw [cutZ_own] at hb; simpa [Value.ownBlock] using hb), fun b => by rw [cutZ_own]; simpa [Value.ownBlock] using hF.2.2 b⟩, fun _ h => h⟩
end Go.Proofs.Ytogfkfoklnpfhaa
