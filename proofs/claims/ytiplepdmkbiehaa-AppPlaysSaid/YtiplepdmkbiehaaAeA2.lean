/- Texts of this proof, one behind the other: OwnZ, OctetPut, KeyT, Mark, OctetEq, DigIdx, TabR, Digest, XferR, XferI, XferO. -/
import Derived.Test.YtiplepdmkbiehaaAeA1
import Derived.Outline
import Derived.Stop.BytesEq
import Derived.WalkSpells
namespace Go.Proofs.Ytiplepdmkbiehaa
set_option linter.unusedSimpArgs false
set_option linter.unusedVariables false
open Go.RowKit
def OwnZ (w : World) (B : Nat) (e : TypeId) (sz : Nat) (v : Value) (n : Nat) (cs : List Value) : Prop :=
  cs.length = n * sz ∧ (∀ u ∈ cs, u.oneCell' = true) ∧
  ((∃ a, v = .slice a 0 0 ∧ n = 0) ∨
   ∃ g o cap cur, v = .slice (some ⟨g, o, none⟩) n cap ∧ B ≤ g ∧ w.heap[g]? = some (.cells cur e (0, 0)) ∧ n ≤ cap ∧ cap ≤ maxLen ∧ cur.size = o + cap * sz ∧ (cur.toList.drop o).take (n * sz) = cs)
theorem OwnZ.of_own {w : World} {B : Nat} {e : TypeId} {sz : Nat} {v : Value} {n : Nat} {cs : List Value} (h : Own w B e sz v n cs) : OwnZ w B e sz v n cs := by
  obtain ⟨h0, h1, h2 | ⟨g, cap, cur, hv, h2, h3, h4, h5, h6, h7⟩⟩ := h
  · exact ⟨h0, h1, .inl h2⟩
  · exact ⟨h0, h1, .inr ⟨g, 0, cap, cur, hv, h2, h3, h4, h5, by omega, by simpa using h7⟩⟩
theorem OwnZ.sl {w : World} {B : Nat} {e : TypeId} {sz : Nat} {v : Value} {n : Nat} {cs : List Value} (h : OwnZ w B e sz v n cs) : Sl w sz v n cs := by
  obtain ⟨h0, h1, ⟨a, rfl, rfl⟩ | ⟨g, o, cap, cur, rfl, h2, h3, h4, h5, h6, h7⟩⟩ := h
  · exact ⟨h0, h1, a, 0, rfl, Nat.le_refl _, Nat.zero_le _, fun _ => rfl, .inl (List.eq_nil_of_length_eq_zero (by simpa using h0))⟩
  · refine ⟨h0, h1, _, cap, rfl, h4, h5, fun h => by simp at h, .inr ⟨g, o, rfl, fun j u hj => ?_⟩⟩
    have hjl : j < n * sz := by have := (List.getElem?_eq_some_iff.1 hj).1; omega
    rw [← h7, List.getElem?_take, if_pos hjl, List.getElem?_drop] at hj
    rw [cell_of_row w g (o + j) cur e (0, 0) h3, ← Array.getElem?_toList]
    exact hj
theorem OwnZ.base {w : World} {B B' : Nat} {e : TypeId} {sz : Nat} {v : Value} {n : Nat} {cs : List Value} (h : OwnZ w B e sz v n cs) (hB : B' ≤ B) : OwnZ w B' e sz v n cs := by
  obtain ⟨h0, h1, h2 | ⟨g, o, cap, cur, hv, h2, hr⟩⟩ := h
  · exact ⟨h0, h1, .inl h2⟩
  · exact ⟨h0, h1, .inr ⟨g, o, cap, cur, hv, by omega, hr⟩⟩
theorem OwnZ.keep {w w' : World} {B : Nat} {e : TypeId} {sz : Nat} {v : Value} {n : Nat} {cs : List Value} {S : Nat → Prop} (h : OwnZ w B e sz v n cs) (hk : Keeps S w w') (hb : ∀ b, v.ownBlock = some b → ¬ S b) : OwnZ w' B e sz v n cs := by
  obtain ⟨h0, h1, h2 | ⟨g, o, cap, cur, rfl, h2, h3, hr⟩⟩ := h
  · exact ⟨h0, h1, .inl h2⟩
  · exact ⟨h0, h1, .inr ⟨g, o, cap, cur, rfl, h2, (hk.block g (hb g rfl)).trans h3, hr⟩⟩
theorem OwnZ.nil (w : World) (B : Nat) (e : TypeId) (sz : Nat) (a : Option Addr) : OwnZ w B e sz (.slice a 0 0) 0 [] := ⟨by simp, by simp, .inl ⟨a, rfl, rfl⟩⟩
theorem OwnZ.form {w : World} {B : Nat} {e : TypeId} {sz : Nat} {v : Value} {n : Nat} {cs : List Value} (h : OwnZ w B e sz v n cs) (hn : 0 < n) : ∃ g o cap, v = .slice (some ⟨g, o, none⟩) n cap ∧ B ≤ g ∧ n ≤ cap ∧ cap ≤ maxLen ∧ g < w.heap.size := by
  obtain ⟨h0, h1, ⟨a, rfl, rfl⟩ | ⟨g, o, cap, cur, rfl, h2, h3, h4, h5, h6, h7⟩⟩ := h
  · omega
  · exact ⟨g, o, cap, rfl, h2, h4, h5, block_lt h3⟩
/-- Where 's[i:]' begins: at the very end of the capacity the address stays. -/
def cutZ (g o cap i sz : Nat) : Option Addr := if cap = i then some ⟨g, o, none⟩ else some ⟨g, o + i * sz, none⟩
theorem cutZ_own (g o cap i sz n c : Nat) : (Value.slice (cutZ g o cap i sz) n c).ownBlock = some g := by
  unfold cutZ
  split <;> rfl
/-- Cut in front. -/
theorem OwnZ.cut {w : World} {B : Nat} {e : TypeId} {sz g o n cap : Nat} {cs : List Value} (h : OwnZ w B e sz (.slice (some ⟨g, o, none⟩) n cap) n cs) (k : Nat) (hk : k ≤ n) :
    OwnZ w B e sz (.slice (cutZ g o cap k sz) (n - k) (cap - k)) (n - k) (cs.drop (k * sz)) := by
  obtain ⟨h0, h1, ⟨a, hv, rfl⟩ | ⟨g', o', cap', cur, hv, h2, h3, h4, h5, h6, h7⟩⟩ := h
  · simp only [Value.slice.injEq] at hv
    obtain ⟨rfl, _, rfl⟩ := hv
    exact ⟨by simp [h0, Nat.sub_mul], fun u hu => h1 u (List.mem_of_mem_drop hu), .inl ⟨_, by rw [Nat.zero_sub], by omega⟩⟩
  · simp only [Value.slice.injEq, Option.some.injEq, Addr.mk.injEq, and_true, true_and] at hv
    obtain ⟨⟨rfl, rfl⟩, rfl⟩ := hv
    refine ⟨by simp [h0, Nat.sub_mul], fun u hu => h1 u (List.mem_of_mem_drop hu), ?_⟩
    unfold cutZ
    by_cases hc : cap = k
    · subst hc
      exact .inl ⟨_, by rw [if_pos rfl, Nat.sub_self, show n - cap = 0 by omega], by omega⟩
    · have hm : k * sz ≤ n * sz := Nat.mul_le_mul_right _ hk
      have hm2 : n * sz ≤ cap * sz := Nat.mul_le_mul_right _ h4
      refine .inr ⟨g, o + k * sz, cap - k, cur, by rw [if_neg hc], h2, h3, by omega, by omega, by rw [Nat.sub_mul]; omega, ?_⟩
      rw [← h7, List.drop_take, List.drop_drop, Nat.sub_mul]
theorem run_sliceZ {P : Program} {t e : TypeId} {sz : Nat} (ht : P.underlying t = some (.slice e)) (hs : ∀ w, (sizeOf e).run P w = .ok sz w) (g o n cap i : Nat) (hi : i ≤ n) (hc : n ≤ cap) (W : World) :
    (Instr.sliceAt t (.slice (some ⟨g, o, none⟩) n cap) (some (.int .i64 i)) none none).run P W = .ok (.slice (cutZ g o cap i sz) (n - i) (cap - i)) W := by
  have h2 : ¬ ((i : Int) < 0) := by omega
  have h3 : ¬ (n < i) := by omega
  by_cases h : cap = i
  · subst h
    simp [Instr.sliceAt, Instr.slice, Instr.sliceBounds, Instr.sliceBound, run_underlying ht, asIntOf, hs, h2, h3, hi, cutZ]
  · have h5 : ¬ cap - i = 0 := by omega
    have h6 : ¬ cap ≤ i := by omega
    simp [Instr.sliceAt, Instr.slice, Instr.sliceBounds, Instr.sliceBound, run_underlying ht, asIntOf, hs, h2, h3, hi, cutZ, h, h5, h6, Addr.add_lit]
theorem run_appZ {P : Program} {w : World} {t ty e : TypeId} {size bytes : Nat} {z : Value} (hE : Elem P t e size bytes z) {B : Nat}
    {v : Value} {n : Nat} {cs : List Value} (hown : OwnZ w B e size v n cs) {x : Value} {m : Nat} {ds : List Value} (hsl : Sl w size x m ds) (hm0 : 0 < m)
    (h63 : n + m ≤ maxLen) (hbytes : (n + m) * bytes ≤ 140737488355328) (hbase : B ≤ w.heap.size) :
    ∃ v' w', (Builtin.append_ #[t, t] ty #[v, x]).run P w = .ok v' w' ∧ OwnZ w' B e size v' (n + m) (cs ++ ds) ∧ Keeps (fun k => v.ownBlock = some k ∧ B ≤ k ∨ w.heap.size ≤ k) w w' ∧ (∀ b, v'.ownBlock = some b → (v.ownBlock = some b ∨ w.heap.size ≤ b) ∧ b < w'.heap.size) := by
  suffices hh : ∃ v' w', (Builtin.append_ #[t, t] ty #[v, x]).run P w = .ok v' w' ∧ OwnZ w' B e size v' (n + m) (cs ++ ds) ∧ Keeps (fun k => v.ownBlock = some k ∧ B ≤ k ∨ w.heap.size ≤ k) w w' ∧ (∀ b, v'.ownBlock = some b → v.ownBlock = some b ∨ w.heap.size ≤ b) by
    obtain ⟨v', w', h1, h2, h3, h4⟩ := hh
    refine ⟨v', w', h1, h2, h3, fun b hb => ⟨h4 b hb, ?_⟩⟩
    obtain ⟨g, o, cap, rfl, _, _, _, hl⟩ := h2.form (by omega)
    simp [Value.ownBlock] at hb
    omega
  have hE' := hE
  obtain ⟨ht, i, hi, hz, hsize, hby, hzs, hsz⟩ := hE
  obtain ⟨hcl, hc1, ⟨a0, rfl, rfl⟩ | ⟨g, o, cap, cur, rfl, hbg, hg, hnc, hcm', hcs, htake⟩⟩ := hown
  · obtain rfl : cs = [] := List.eq_nil_of_length_eq_zero (by simpa using hcl)
    obtain ⟨v', w', h1, h2, h3, h4⟩ := run_app (ty := ty) hE' (Own.nil w B e size a0) hsl h63 hbytes hbase
    exact ⟨v', w', h1, OwnZ.of_own h2, h3, h4⟩
  · obtain ⟨hdl, hd1, a, c, rfl, hmc, hcm, hanone, hat⟩ := hsl
    have hall : ∀ u ∈ cs ++ ds, u.oneCell' = true := by
      intro u hu
      rcases List.mem_append.1 hu with h | h
      · exact hc1 u h
      · exact hd1 u h
    have hdp : 0 < ds.length := by rw [hdl]; exact Nat.mul_pos hm0 hsz
    obtain ⟨b, off, rfl, hcell⟩ : ∃ b off, a = some ⟨b, off, none⟩ ∧ ∀ j u, ds[j]? = some u → w.cell? ⟨b, off + j, none⟩ = some u := by
      rcases hat with h | h
      · subst h; simp at hdp
      · exact h
    have hnews : ∀ j u, ds[j]? = some u → w.cell? ((⟨b, off, none⟩ : Addr).add j) = some u := fun j u hj => by rw [Addr.add_lit]; exact hcell j u hj
    by_cases hroom : n + m ≤ cap
    · have hmul : (n + m) * size ≤ cap * size := Nat.mul_le_mul_right _ hroom
      rw [Nat.add_mul] at hmul
      have hr := run_append_roomO (P := P) (ty := ty) w t e i ht hi g o n cap cur hg ⟨b, off, none⟩ m c ds (by rw [hsize]; exact hdl) hnews hd1 hroom (by rw [hsize]; omega)
      rw [hsize] at hr
      refine ⟨_, _, hr, ⟨by simp [hcl, hdl, Nat.add_mul], hall, .inr ⟨g, o, cap, _, rfl, hbg, setRow_heap w g cur _ e _ hg, by omega, hcm', ?_, ?_⟩⟩, (Keeps.refl _ _).setRow (.inl ⟨rfl, hbg⟩) _, fun b h => .inl h⟩
      · simp only [List.size_toArray, List.length_append, List.length_take, List.length_drop, Array.length_toList]
        omega
      · have e1 : (cur.toList.take (o + n * size)).drop o = cs := by
          rw [← htake, List.drop_take, show o + n * size - o = n * size by omega]
        have e2 : o ≤ (cur.toList.take (o + n * size)).length := by simp; omega
        simp only [List.append_assoc]
        rw [List.drop_append_of_le_length e2, e1, ← List.append_assoc, List.take_append_of_le_length (by simp [hcl, hdl, Nat.add_mul]), List.take_of_length_le (by simp [hcl, hdl, Nat.add_mul])]
    · have holds : ∀ j u, cs[j]? = some u → w.cell? ((⟨g, o, none⟩ : Addr).add j) = some u := by
        intro j u hj
        have hjl : j < n * size := by have := (List.getElem?_eq_some_iff.1 hj).1; omega
        rw [← htake, List.getElem?_take, if_pos hjl, List.getElem?_drop] at hj
        rw [Addr.add_lit, cell_of_row w g (o + j) cur e (0, 0) hg, ← Array.getElem?_toList]
        exact hj
      obtain ⟨v', w', hr, h1, h2⟩ := run_append_arg_grows (P := P) w t ty e i z size bytes ht hi hz hsize hby hzs hsz ⟨g, o, none⟩ n cap cs hcl holds ⟨b, off, none⟩ m c ds hdl hnews (by omega) h63 hbytes
      exact ⟨v', w', hr, OwnZ.of_own ((Own.of_row h1 hall).base hbase), (Keeps.refl _ _).grown h2 (fun k hk => Or.inr hk) (by simp), fun b hb => .inr (h1.lt b hb).1⟩
theorem wpList_appZ {P : Program} {w : World} {ops : Array Oper} {rest : List Oper} {o : Oper} {a : Act} {Q : Exit → Act → World → Prop} (hgd : Region.wanted o (yielded ops a.tmps) = true) (s x : Operand) {t e : TypeId} {size bytes : Nat} {z : Value}
    (hE : Elem P t e size bytes z) (ho : o.op = .call { callee := .builtin .append, args := #[s, x], argTypes := #[t, t] }) (B : Nat)
    {n : Nat} {cs : List Value} (hown : OwnZ w B e size (a.eval s) n cs) {m : Nat} {ds : List Value} (hsl : Sl w size (a.eval x) m ds) (hm0 : 0 < m)
    (h63 : n + m ≤ maxLen) (hbytes : (n + m) * bytes ≤ 140737488355328) (hbase : B ≤ w.heap.size)
    (h : ∀ v' w', OwnZ w' B e size v' (n + m) (cs ++ ds) → Keeps (fun k => (a.eval s).ownBlock = some k ∧ B ≤ k ∨ w.heap.size ≤ k) w w' → (∀ b, v'.ownBlock = some b → ((a.eval s).ownBlock = some b ∨ w.heap.size ≤ b) ∧ b < w'.heap.size) → wpList P ops Q rest (a.put o.dst v') w') : wpList P ops Q (o :: rest) a w := by
  obtain ⟨v', w', hr, h2, h3, h4⟩ := run_appZ (P := P) (ty := o.type) hE hown hsl hm0 h63 hbytes hbase
  refine wpList_want hgd fun K hK => ?_
  unfold Oper.wp execOp
  simp only [ho, resolve, invoke, builtin, Sem.run_bind, Sem.run_pure, Result.andThen_ok, List.map_toArray, List.map_cons, List.map_nil, hr]
  exact hK _ _ (h v' w' h2 h3 h4)
/-- A slice of the call's own that begins anywhere: it may be cut in front and appended to. -/
def Res.ownZ (e : TypeId) (sz : Nat) (v : Value) (n : Nat) (cs : List Value) : Res where
  holds W F := OwnZ W 0 e sz v n cs ∧ (∀ b, v.ownBlock = some b → b < W.heap.size) ∧ ∀ b, F b ↔ v.ownBlock = some b
  frame := by
    rintro W W' F S ⟨h, hl, hf⟩ hk hs
    exact ⟨h.keep hk (fun b hb => hs b ((hf b).2 hb)), fun b hb => Nat.lt_of_lt_of_le (hl b hb) hk.size, hf⟩
  lt := by
    rintro W F b ⟨h, hl, hf⟩ hb
    exact hl b ((hf b).1 hb)
theorem Hold.ownZOf {W : World} {l : List Res} (h : Hold W l) {e : TypeId} {sz n : Nat} {v : Value} {cs : List Value} (hm : Res.ownZ e sz v n cs ∈ l) : OwnZ W 0 e sz v n cs := by
  obtain ⟨F, hr⟩ := h.get hm
  exact hr.1
theorem Hold.ownToZ {W : World} {e : TypeId} {sz n : Nat} {v : Value} {cs : List Value} {l : List Res} (h : Hold W (.own e sz v n cs :: l)) : Hold W (.ownZ e sz v n cs :: l) :=
  h.weaken fun F hF => ⟨F, ⟨OwnZ.of_own hF.1, hF.2⟩, fun _ h => h⟩
theorem Hold.appendZ {W W' : World} {l : List Res} {e : TypeId} {sz n : Nat} {v : Value} {cs : List Value} (h : Hold W (.ownZ e sz v n cs :: l)) {v' : Value} {n' : Nat} {cs' : List Value} {B : Nat} (hr : OwnZ W' B e sz v' n' cs')
    (hk : Keeps (fun k => v.ownBlock = some k ∧ B ≤ k ∨ W.heap.size ≤ k) W W') (hv : ∀ b, v'.ownBlock = some b → (v.ownBlock = some b ∨ W.heap.size ≤ b) ∧ b < W'.heap.size) : Hold W' (.ownZ e sz v' n' cs' :: l) := by
  refine h.turn fun F hF => ⟨fun k => v'.ownBlock = some k, ⟨hr.base (Nat.zero_le _), fun b hb => (hv b hb).2, fun _ => Iff.rfl⟩, fun b hb => ?_, hk.mono fun k hk => ?_⟩
  · rcases (hv b hb).1 with h | h
    · exact .inl ((hF.2.2 b).2 h)
    · exact .inr h
  · rcases hk with h | h
    · exact .inl ((hF.2.2 k).2 h.1)
    · exact .inr h
theorem Hold.cutZ {W : World} {l : List Res} {e : TypeId} {sz g o n cap : Nat} {cs : List Value} (h : Hold W (.ownZ e sz (.slice (some ⟨g, o, none⟩) n cap) n cs :: l)) (k : Nat) (hk : k ≤ n) :
    Hold W (.ownZ e sz (.slice (Go.Proofs.Ytiplepdmkbiehaa.cutZ g o cap k sz) (n - k) (cap - k)) (n - k) (cs.drop (k * sz)) :: l) :=
  h.weaken fun F hF => ⟨F, ⟨hF.1.cut k hk, fun b hb => hF.2.1 b (by rw [cutZ_own] at hb; simpa [Value.ownBlock] using hb), fun b => by rw [cutZ_own]; simpa [Value.ownBlock] using hF.2.2 b⟩, fun _ h => h⟩
/-- The eight bytes of a number. -/
def putB (n : Nat) : List UInt8 := (List.range 8).map fun i => UInt8.ofNat (n / 2 ^ (56 - 8 * i) % 256)
theorem putB_length (n : Nat) : (putB n).length = 8 := by simp [putB]
theorem putB_get (n k : Nat) (h : k < 8) : (putB n)[k]? = some (UInt8.ofNat (n / 2 ^ (56 - 8 * k) % 256)) := by simp [putB, h]
set_option maxRecDepth 100000 in
theorem put_any (n : Nat) (w : World) :
    Calls Try.prog 81 #[.int .u64 n] w fun e w' => e = .returned (.slice (some ⟨w.heap.size, 0, none⟩) 8 8) ∧ OwnBs w' w.heap.size (.slice (some ⟨w.heap.size, 0, none⟩) 8 8) (putB n) ∧ Below w.heap.size w w' ∧ Blk w' w.heap.size (bCells (putB n)) 5 := by
  have hmk := fun w => mkBytes w 8 8 rfl (by decide)
  simp only [List.replicate, List.toArray] at hmk
  have hpl := putB_length n
  go_enter Try.func81, Try.ntmps81
  go_wp2
  go_loopw [8] (fun i wr => ∃ k : Nat, k ≤ 8 ∧ i = .int .i64 k ∧ Blk wr w.heap.size ((bCells (putB n)).take k ++ List.replicate (8 - k) (.int .u8 0)) 5 ∧ Below w.heap.size w wr) (fun i _ => 8 - (intOf i).toNat)
  case atStart => exact ⟨0, by omega, rfl, Blk.new w (List.replicate 8 (.int .u8 0)) _, (Below.refl _ _).alloc (Nat.le_refl _) _⟩
  case round =>
    obtain ⟨k, hk, rfl, hb, hbel⟩ := hrel
    have HB := hI hb
    by_cases hlt : k < 8
    · have h1 : (k : Int) < 8 := by omega
      have hf := hb.frozen k
      have hc : wr.cell? ⟨w.heap.size, k, none⟩ = some (.int .u8 0) := by
        rw [hb.cell, List.getElem?_append_right (by simp [bCells_length]; omega)]
        rw [List.length_take, bCells_length, hpl, show k - min k 8 = 0 by omega, show 8 - k = (7 - k) + 1 by omega]
        rfl
      have hst : Hid (Blk (wr.setCell ⟨w.heap.size, k, none⟩ (.int .u8 ((n : Int) / 2 ^ (56 - 8 * k) % 256))) w.heap.size ((bCells (putB n)).take (k + 1) ++ List.replicate (8 - (k + 1)) (.int .u8 0)) 5) := by
        have := hb.set k (.int .u8 ((n : Int) / 2 ^ (56 - 8 * k) % 256))
        refine hI ?_
        have e : ((bCells (putB n)).take k ++ List.replicate (8 - k) (Value.int .u8 0)).set k (.int .u8 ((n : Int) / 2 ^ (56 - 8 * k) % 256)) = (bCells (putB n)).take (k + 1) ++ List.replicate (8 - (k + 1)) (.int .u8 0) := by
          have hkl : k < (bCells (putB n)).length := by rw [bCells_length]; omega
          rw [List.set_append_right _ _ (by simp [bCells_length]; omega), List.take_succ_eq_append_getElem hkl]
          have hg : (bCells (putB n))[k] = .int .u8 ((n : Int) / 2 ^ (56 - 8 * k) % 256) := by
            have h2 := bCells_get (putB n) k (by omega)
            rw [List.getElem?_eq_getElem hkl, Option.some.injEq] at h2
            have h3 := putB_get n k hlt
            rw [List.getElem?_eq_getElem (by omega), Option.some.injEq] at h3
            rw [h2, h3, bV_ofNat _ (Nat.mod_lt _ (by decide))]
            simp
          rw [hg, List.append_assoc]
          congr 1
          rw [show k - ((bCells (putB n)).take k).length = 0 by simp [bCells_length]; omega, show 8 - k = (8 - (k + 1)) + 1 by omega]
          rfl
        rw [← e]
        exact this
      clear hb
      go_wp2
      go_roundw
      case rel => exact ⟨k + 1, by omega, by go_num, hst.out, hbel.setCell (Nat.le_refl _) _⟩
      case measure => simp [intOf]; omega
    · obtain rfl : k = 8 := by omega
      have hb8 : Blk wr w.heap.size (bCells (putB n)) 5 := by
        have := hb
        rw [List.take_of_length_le (by rw [bCells_length]; omega)] at this
        simpa using this
      have HB8 := hI hb8
      clear hb hb8
      go_wp2
      go_ret
      have ho := HB8.out.own (B := w.heap.size) (Nat.le_refl _) (bCells_one _) (by rw [bCells_length, hpl]; decide)
      rw [bCells_length, hpl] at ho
      refine ⟨rfl, ?_, hbel, HB8.out⟩
      unfold OwnBs
      rw [hpl]
      exact ho
/-- A key, as an array. -/
def keyV (k : List UInt8) : Value := .agg (bCells k).toArray
theorem aggKey : AggTy Try.prog 160 16 := AggTy.mk Try.underlying160 rfl (by kernel_rfl)
def zs16 : List Value := [.int .u8 0, .int .u8 0, .int .u8 0, .int .u8 0, .int .u8 0, .int .u8 0, .int .u8 0, .int .u8 0, .int .u8 0, .int .u8 0, .int .u8 0, .int .u8 0, .int .u8 0, .int .u8 0, .int .u8 0, .int .u8 0]
/-- A mark: sixteen bytes of a kind and a number. -/
def markB (k : UInt8) (n : Nat) : List UInt8 := [255, 254, k, 0, 0, 0, 0, 0] ++ putB n
theorem markB_length (k : UInt8) (n : Nat) : (markB k n).length = 16 := by simp [markB, putB_length]
theorem conv_u64 (n : Nat) (hn : n < 9223372036854775808) (w : World) : IntKind.u64.wrap (n : Int) = n := by
  rw [IntKind.wrap_u64]
  omega
def MarkRes (w : World) (k : UInt8) (n : Nat) (e : Ending) (w' : World) : Prop := e = .returned (keyV (markB k n)) ∧ Below w.heap.size w w'
set_option maxRecDepth 100000 in
set_option maxHeartbeats 1000000 in
theorem mark_any (k : UInt8) (n : Nat) (hn : n < 9223372036854775808) (w : World) :
    Calls Try.prog 102 #[.int .u8 k.toNat, .int .i64 n] w (MarkRes w k n) := by
  have B0 := hI (((Blk.new w zs16 160).alloc (.cells zs16.toArray 160)).alloc (.cells #[.int .u8 255, .int .u8 254, .int .u8 k.toNat] 5))
  have B1 : Hid (Blk (((w.alloc (.cells zs16.toArray 160)).alloc (.cells zs16.toArray 160)).alloc (.cells #[.int .u8 255, .int .u8 254, .int .u8 k.toNat] 5)) (w.heap.size + 1) zs16 160) := hI ((Blk.at_ (cs := zs16.toArray) (by simp)).alloc _)
  have HS : Hid (Bs (((w.alloc (.cells zs16.toArray 160)).alloc (.cells zs16.toArray 160)).alloc (.cells #[.int .u8 255, .int .u8 254, .int .u8 k.toNat] 5)) (.slice (some ⟨w.heap.size + 1 + 1, 0, none⟩) 3 3) [255, 254, k]) := hI (Bs.lit [255, 254, k] (by simp) rfl (by simp [maxLen]))
  have HB : Hid (Below w.heap.size w (((w.alloc (.cells zs16.toArray 160)).alloc (.cells zs16.toArray 160)).alloc (.cells #[.int .u8 255, .int .u8 254, .int .u8 k.toNat] 5))) := hI ((((Below.refl _ _).alloc (Nat.le_refl _) _).alloc (by simp) _).alloc (by simp; omega) _)
  have HN := hI hn
  have HW := hI (conv_u64 n hn w)
  clear hn
  go_enter Try.func102, Try.ntmps102
  go_wp2_with ((with_reducible show wpList _ _ _ (⟨some 9, _, _, _, _, _⟩ :: _) _ _); refine wpList_cp rfl (.tmp 6) (.tmp 8) elBytes rfl rfl B1.out rfl HS.out (by simp [zs16]) ?_)
  intro w1 h1 k1
  have h1' : Blk w1 (w.heap.size + 1) (bCells [255, 254, k, 0, 0, 0, 0, 0, 0, 0, 0, 0, 0, 0, 0, 0]) 160 := by simpa [zs16, bCells, bV] using h1
  have B0' := hI ((B0.out.keep k1 (by omega)).drew)
  have H1 := hI h1'.drew
  have hsz : w.heap.size + 1 < w1.heap.size := h1'.lt
  have HB1 : Hid (Below w.heap.size w w1.drew) := hI ((HB.out.trans (k1.below (by omega))).drew)
  clear h1 h1' k1 B0 B1 HS HB
  go_wp2_with fail
  refine wp_region_any (by kernel_rfl) ?_
  change wpAny _ _ _ _ _ _ _ (World.drew _)
  refine wpAny_take (i := 0) (oi := { dst := some 10, op := _, type := _, pos := _, after := _, guard := none }) (v := .slice (some ⟨w.heap.size + 1, 8, none⟩) 8 8) rfl (by kernel_rfl) (by kernel_rfl) (by kernel_rfl) (fun _ _ _ h => h) (Or.inl ⟨by rfl, by intro w; go_simp⟩) ?_
  simp only [Act.put, List.setIfInBounds_toArray, List.set_cons_zero, List.set_cons_succ]
  refine wpAny_take (i := 1) (oi := { dst := some 11, op := _, type := _, pos := _, after := _, guard := none }) (v := .int .i64 n) rfl (by kernel_rfl) (by kernel_rfl) (by kernel_rfl) (fun _ _ _ h => h) (Or.inl ⟨by rfl, by intro w; go_simp⟩) ?_
  simp only [Act.put, List.setIfInBounds_toArray, List.set_cons_zero, List.set_cons_succ]
  refine wpAny_take (i := 2) (oi := { dst := some 12, op := _, type := _, pos := _, after := _, guard := none }) (v := .int .u64 n) rfl (by kernel_rfl) (by kernel_rfl) (by kernel_rfl) (fun _ _ _ h => h) (Or.inl ⟨by rfl, by intro w; go_simp; exact HW.out⟩) ?_
  simp only [Act.put, List.setIfInBounds_toArray, List.set_cons_zero, List.set_cons_succ]
  refine wpAny_ready (rs := [3]) (by decide +kernel) (by simp) ?_
  refine AllReady.cons (o := { dst := some 13, op := .call { callee := .value (.func 81), args := #[.tmp 12], argTypes := #[73] }, type := _, pos := _, after := _, guard := none }) rfl (fun K hK => ?_) AllReady.nil
  go_simp
  refine (put_any n _).mono ?_
  rintro e w2 ⟨rfl, ho, hb, _⟩
  have hz2 := hb.size
  try simp at hz2
  have B0' := hI (B0'.out.below hb (by simp; omega))
  have H1 := hI (H1.out.below hb (by simp; omega))
  have HB1 : Hid (Below w.heap.size w w2) := hI (HB1.out.trans (hb.mono (by simp; omega)))
  have HP := hI ho.bs
  clear ho hb
  refine hK _ _ ?_
  clear hK K
  try simp only [Act.put, List.setIfInBounds_toArray, List.set_cons_zero, List.set_cons_succ]
  refine wpAny_ready (rs := [4]) (by decide +kernel) (by simp) ?_
  refine AllReady.cons (o := { dst := some 14, op := .call { callee := .builtin .copy, args := #[.tmp 10, .tmp 13], argTypes := #[40, 40] }, type := _, pos := _, after := _, guard := none }) rfl (fun K hK => ?_) AllReady.nil
  refine step_cp rfl (.tmp 10) (.tmp 13) elBytes rfl H1.out rfl rfl HP.out (by rw [putB_length]; simp [bCells]) ?_
  intro w3 h3 k3
  have h3' : Blk w3 (w.heap.size + 1) (bCells (markB k n)) 160 := by
    have e : (bCells (putB n)).take (min (putB n).length 8) = bCells (putB n) := List.take_of_length_le (by rw [bCells_length, putB_length]; decide)
    rw [e, putB_length] at h3
    rw [markB, bCells_append]
    simpa [bCells] using h3
  have B0' := hI (B0'.out.keep k3 (by omega))
  have H1 := hI h3'
  have HB1 : Hid (Below w.heap.size w w3) := hI (HB1.out.trans (k3.below (by omega)))
  have hz3 := k3.size
  clear h3 h3' k3
  refine hK _ _ ?_
  clear hK K
  try simp only [Act.put, List.setIfInBounds_toArray, List.set_cons_zero, List.set_cons_succ]
  refine wpAny_done (by decide +kernel) ?_ _
  have HBL : Hid ((bCells (markB k n)).length = 16) := hI (by rw [bCells_length, markB_length])
  go_wp2_with (first | ((with_reducible show wpList _ _ _ (⟨some 15, _, _, _, _, _⟩ :: _) _ _); refine wpList_ldAgg rfl (.tmp 5) aggKey rfl rfl (cs := bCells (markB k n)) HBL.out H1.out.cellsAll ?_) | ((with_reducible show wpList _ _ _ (⟨none, .store _ (.tmp 4) (.tmp 15), _, _, _, _⟩ :: _) _ _); refine wpList_stAgg rfl (.tmp 4) (.tmp 15) aggKey rfl rfl (vs := bCells (markB k n)) rfl HBL.out B0'.out (Nat.le_refl _) (bCells_one _) ?_))
  intro w5 h5 k5
  have h5' : Blk w5 w.heap.size (bCells (markB k n)) 160 := by simpa [zs16] using h5
  have H5 := hI h5'
  have HB5 : Hid (Below w.heap.size w w5) := hI (HB1.out.trans (k5.below (by omega)))
  clear h5 h5' k5
  go_wp2_with fail
  exact bodyPost_ret (results_agg rfl aggKey rfl (cs := bCells (markB k n)) HBL.out H5.out.cellsAll) rfl ⟨rfl, HB5.out⟩
def CloneRes (w : World) (b : List UInt8) (e : Ending) (w' : World) : Prop :=
  ∃ v, e = .returned v ∧ OwnBs w' w.heap.size v b ∧ (∀ i, v.ownBlock = some i → w.heap.size ≤ i ∧ i < w'.heap.size) ∧ Below w.heap.size w w'
set_option maxRecDepth 100000 in
set_option maxHeartbeats 1000000 in
theorem clone_any (v : Value) (b : List UInt8) (w : World) (h : Bs w v b) (hl : b.length ≤ 1099511627776) :
    Calls Try.prog 101 #[v] w (CloneRes w b) := by
  obtain ⟨a, c, rfl, hc, hm⟩ := h.form
  have q22 : ∀ (w : World) (a : Option Addr) (n c n' c' : Nat), (binOp .eql 40 (.slice a n c) (.slice none n' c')).run Try.prog w = .ok (.bool a.isNone) w := fun w a n c n' c' => Lib.run_eql_slice_nil w _ _ a n c n' c' Try.underlying40
  have HS : Hid (Bs (w.alloc (.cells #[] 5)) (.slice a b.length c) b) := hI (h.alloc _)
  have HLIT : Hid (∀ i, (Value.slice (some ⟨w.heap.size, 0, none⟩) 0 0).ownBlock = some i → i < (w.alloc (.cells #[] 5)).heap.size) := hI (fun i hi => by simp [Value.ownBlock] at hi; simp; omega)
  by_cases ha : a = none
  · subst ha
    obtain rfl : b = [] := by
      obtain ⟨_, _, a', c', e, h3, _, h5, _⟩ := h
      simp only [Value.slice.injEq, true_and] at e
      obtain ⟨rfl, rfl⟩ := e
      have := h5 rfl
      exact List.eq_nil_of_length_eq_zero (by omega)
    clear h
    go_enter Try.func101, Try.ntmps101
    go_wp2_with fail
    go_ret
    exact ⟨_, rfl, Own.nil _ _ _ _ _, fun i hi => by simp [Value.ownBlock] at hi, Below.refl _ _⟩
  · obtain ⟨⟨p, o, sp⟩, rfl⟩ := Option.ne_none_iff_exists'.1 ha
    clear h ha
    go_enter Try.func101, Try.ntmps101
    go_wp2_with ((with_reducible show wpList _ _ _ (⟨some 7, _, _, _, _, _⟩ :: _) _ _); refine wpList_app2 rfl (.tmp 5) (.tmp 6) elBytes rfl w.heap.size (Own.nil _ _ _ _ _) HLIT.out HS.out (by unfold maxLen; omega) (by omega) (by simp) ?_)
    intro v1 w1 ho hk hv
    have hb1 : Below w.heap.size w w1 := ((Below.refl _ _).alloc (Nat.le_refl _) _).trans (hk.below (by
      rintro i (h | h)
      · exact h.2
      · try simp at h
        omega))
    have HO : Hid (OwnBs w1 w.heap.size v1 b) := hI (by unfold OwnBs; simpa using ho)
    have HV : Hid (∀ i, v1.ownBlock = some i → w.heap.size ≤ i ∧ i < w1.heap.size) := hI (fun i hi => ⟨by
      rcases (hv i hi).1 with h | h
      · simp [Value.ownBlock] at h; omega
      · try simp at h
        omega, (hv i hi).2⟩)
    have HB := hI hb1
    obtain ⟨a1, c1, rfl, _, _⟩ := ho.sl.form
    clear ho hk hv hb1
    go_wp2_with fail
    go_ret
    exact ⟨_, rfl, HO.out, HV.out, HB.out⟩
theorem octetAt_out (a : Option Addr) (len cap : Nat) (i : Int) (w : World) (h : (len : Int) ≤ i) :
    Calls Try.prog 79 #[.slice a len cap, .int .i64 i] w fun e w' => e = .returned (.int .u8 0) ∧ w = w' := by
  go_enter Try.func79, Try.ntmps79
  go_wp2
  go_ret
  exact ⟨rfl, rfl⟩
theorem octetAt_in (b off : Nat) (len cap : Nat) (i : Int) (x : Int) (w : World) (h0 : 0 ≤ i) (h : i < len) (hc : w.cell? ⟨b, off + i.toNat, none⟩ = some (.int .u8 x)) :
    Calls Try.prog 79 #[.slice (some ⟨b, off, none⟩) len cap, .int .i64 i] w fun e w' => e = .returned (.int .u8 x) ∧ w = w' := by
  go_enter Try.func79, Try.ntmps79
  go_wp2
  go_ret
  exact ⟨rfl, rfl⟩
theorem octetAt_any (v : Value) (l : List UInt8) (i : Nat) (w : World) (h : Bs w v l) :
    Calls Try.prog 79 #[v, .int .i64 i] w fun e w' => e = .returned (bV (l.getD i 0)) ∧ w = w' := by
  obtain ⟨a, cap, rfl, _⟩ := h.form
  by_cases hi : i < l.length
  · obtain ⟨b, off, rfl, hc⟩ := h.addr (by simp [bCells]; omega)
    have hc' := hc i (bV (l.getD i 0)) (by simp [bCells, hi])
    exact octetAt_in b off _ _ i _ w (by omega) (by omega) (by simpa [bV] using hc')
  · have : l.getD i 0 = 0 := by simp [List.getD, List.getElem?_eq_none (Nat.le_of_not_lt hi)]
    rw [this]
    exact octetAt_out _ _ _ _ _ (by omega)
theorem bV_zero (x : UInt8) : (x.toNat : Int) = 0 ↔ x = 0 := by
  constructor
  · intro h
    exact UInt8.toNat_inj.1 (by simpa using h)
  · rintro rfl; rfl
theorem u8_step (D x y : UInt8) : Value.int .u8 (bits .or .u8 (D.toNat : Int) (bits .xor .u8 (x.toNat : Int) (y.toNat : Int))) = .int .u8 ((D ||| (x ^^^ y)).toNat) := by
  rw [u8_xor_nat _ _ x.toNat_lt y.toNat_lt, ← UInt8.toNat_xor, u8_or_nat _ _ D.toNat_lt (UInt8.toNat_lt _), ← UInt8.toNat_or]
theorem u8_or_zero (a b : UInt8) : a ||| b = 0 ↔ a = 0 ∧ b = 0 := by
  constructor
  · intro h
    have h1 : a.toNat ||| b.toNat = 0 := by rw [← UInt8.toNat_or, h]; rfl
    have h2 := Nat.or_eq_zero_iff.1 h1
    exact ⟨UInt8.toNat_inj.1 h2.1, UInt8.toNat_inj.1 h2.2⟩
  · rintro ⟨rfl, rfl⟩; rfl
theorem u8_xor_zero (a b : UInt8) : a ^^^ b = 0 ↔ a = b := by
  constructor
  · intro h
    have h1 : (a ^^^ b) ^^^ b = 0 ^^^ b := by rw [h]
    simpa [UInt8.xor_assoc] using h1
  · rintro rfl; simp
theorem getD_ext {a b : List UInt8} (hl : a.length = b.length) : (∀ j, j < max a.length b.length → a.getD j 0 = b.getD j 0) ↔ a = b := by
  constructor
  · intro h
    apply List.ext_getElem hl
    intro i h1 h2
    have := h i (by omega)
    simpa [h1, h2] using this
  · rintro rfl _ _; rfl
set_option maxRecDepth 100000 in
theorem equal_any (v u : Value) (a b : List UInt8) (w : World) (ha : Bs w v a) (hb : Bs w u b) :
    Calls Try.prog 70 #[v, u] w fun e w' => e = .returned (.bool (decide (a = b))) ∧ w = w' := by
  have HA := hI ha
  have HB := hI hb
  obtain ⟨ad, cap, rfl, hcap, hcm⟩ := ha.form
  obtain ⟨bd, cap', rfl, hcap', hcm'⟩ := hb.form
  clear ha hb
  unfold maxLen at hcm hcm'
  go_enter Try.func70, Try.ntmps70
  go_wp2_with fail
  all_goals
    go_loop [5, 12] (fun d i => ∃ (k : Nat) (D : UInt8), k ≤ max a.length b.length ∧ i = .int .i64 k ∧ d = .int .u8 D.toNat ∧ (D = 0 ↔ ∀ j, j < k → a.getD j 0 = b.getD j 0)) (fun _ i => max a.length b.length - (intOf i).toNat)
    case atStart => exact ⟨0, 0, Nat.zero_le _, rfl, rfl, by simp⟩
    case round =>
      obtain ⟨k, D, hk, rfl, rfl, hD⟩ := hrel
      have HD := hI hD
      clear hD
      by_cases hlt : k < max a.length b.length
      · obtain ⟨X, hX⟩ : ∃ X, a.getD k 0 = X := ⟨_, rfl⟩
        obtain ⟨Y, hY⟩ : ∃ Y, b.getD k 0 = Y := ⟨_, rfl⟩
        have cA := octetAt_any _ a k w HA.out
        have cB := octetAt_any _ b k w HB.out
        rw [hX] at cA
        rw [hY] at cB
        have CA := hI cA
        have CB := hI cB
        have HX := hI hX
        have HY := hI hY
        have HS := hI (u8_step D X Y)
        clear cA cB hX hY
        go_wp2_with fail
        refine CA.out.mono ?_
        rintro e w' ⟨rfl, rfl⟩
        go_wp2_with fail
        refine CB.out.mono ?_
        rintro e w' ⟨rfl, rfl⟩
        unfold bV
        go_wp2_with fail
        go_round
        case rel =>
          refine ⟨k + 1, D ||| (X ^^^ Y), by omega, by go_num, HS.out, ?_⟩
          · rw [u8_or_zero, u8_xor_zero, HD.out, ← HX.out, ← HY.out]
            constructor
            · rintro ⟨h1, h2⟩ j hj
              rcases Nat.lt_or_ge j k with h3 | h3
              · exact h1 j h3
              · obtain rfl : j = k := by omega
                exact h2
            · intro h
              exact ⟨fun j hj => h j (by omega), h k (by omega)⟩
        case measure => simp [intOf]; omega
      · obtain rfl : k = max a.length b.length := by omega
        have hfin : (decide (a = b)) = (decide (D = 0) && decide (a.length = b.length)) := by
          rw [Bool.eq_iff_iff, Bool.and_eq_true, decide_eq_true_eq, decide_eq_true_eq, decide_eq_true_eq]
          constructor
          · rintro rfl
            exact ⟨HD.out.2 (fun _ _ => rfl), rfl⟩
          · rintro ⟨h1, h2⟩
            exact (getD_ext h2).1 (HD.out.1 h1)
        have HF := hI hfin
        clear hfin
        by_cases h0 : D = 0
        · have h0' : ((D.toNat : Int) == 0) = true := by rw [h0]; rfl
          by_cases hl : a.length = b.length
          · have hl' : ((a.length : Int) == (b.length : Int)) = true := by simp [hl]
            have HR : Hid (decide (a = b) = true) := hI (by rw [HF.out, h0, hl]; simp)
            clear h0 hl
            go_wp2_with fail
            go_ret
            rw [HR.out]
            exact ⟨rfl, rfl⟩
          · have hl' : ((a.length : Int) == (b.length : Int)) = false := by rw [beq_eq_false_iff_ne]; omega
            have HR : Hid (decide (a = b) = false) := hI (by rw [HF.out]; simp [hl])
            clear h0 hl
            go_wp2_with fail
            go_ret
            rw [HR.out]
            exact ⟨rfl, rfl⟩
        · have h0' : ((D.toNat : Int) == 0) = false := by
            rw [beq_eq_false_iff_ne]
            intro e
            exact h0 ((bV_zero _).1 e)
          have HR : Hid (decide (a = b) = false) := hI (by rw [HF.out]; simp [h0])
          clear h0
          go_wp2_with fail
          go_ret
          rw [HR.out]
          exact ⟨rfl, rfl⟩
set_option maxRecDepth 100000 in
theorem digClos_any (v u : Value) (a b : List UInt8) (q : Nat) (w : World) (ha : Bs w v a) (hb : Bs w u b) (hq : w.cell? ⟨q, 0, none⟩ = some u) :
    Calls Try.prog 100 #[v, .pointer (some ⟨q, 0, none⟩)] w fun e w' => e = .returned (.bool (decide (a = b))) ∧ w = w' := by
  have HE := hI (equal_any v u a b w ha hb)
  obtain ⟨a1, c1, rfl, _, _⟩ := ha.form
  obtain ⟨a2, c2, rfl, _, _⟩ := hb.form
  clear ha hb
  go_enter Try.func100, Try.ntmps100
  go_wp2_with fail
  refine HE.out.mono ?_
  rintro e w' ⟨rfl, rfl⟩
  go_wp2_with fail
  go_ret
  exact ⟨rfl, rfl⟩
def IdxRes (w : World) (sums : List (List UInt8)) (b : List UInt8) (e : Ending) (w' : World) : Prop :=
  e = .returned (.int .i64 (if b ∈ sums then (sums.idxOf b : Int) else -1)) ∧ w = w'
set_option maxRecDepth 100000 in
set_option maxHeartbeats 1000000 in
theorem digIndex_any (sv u : Value) (vs : List Value) (sums : List (List UInt8)) (b : List UInt8) (q : Nat) (w : World) (hs : Sl w 1 sv sums.length vs) (hr : ∀ (j : Nat) v r, vs[j]? = some v → sums[j]? = some r → Bs w v r) (hb : Bs w u b) (hq : w.cell? ⟨q, 0, none⟩ = some u) :
    Calls Try.prog 99 #[sv, .func (Fn.func 100) #[] #[.pointer (some ⟨q, 0, none⟩)]] w (IdxRes w sums b) := by
  obtain ⟨a, c, rfl, hc, hm⟩ := hs.form
  have HS := hI hs
  have HR := hI hr
  have HB := hI hb
  have HQ := hI hq
  unfold maxLen at hm
  clear hs hr hb hq
  go_enter Try.func99, Try.ntmps99
  go_wp2_with fail
  go_loop [5, 8] (fun _ i => ∃ k : Nat, k ≤ sums.length ∧ i = .int .i64 k ∧ b ∉ sums.take k) (fun _ i => sums.length - (intOf i).toNat)
  case atStart => exact ⟨0, Nat.zero_le _, rfl, by simp⟩
  case round =>
    obtain ⟨k, hk, rfl, hn⟩ := hrel
    have HN := hI hn
    clear hn
    by_cases hlt : k < sums.length
    · obtain ⟨g, o, rfl, hcell⟩ := HS.out.addr (by rw [HS.out.1]; omega)
      have hkl : k < vs.length := by rw [HS.out.1]; omega
      obtain ⟨v, hv⟩ : ∃ v, vs[k]? = some v := ⟨_, List.getElem?_eq_getElem hkl⟩
      have hck : w.cell? ⟨g, o + k, none⟩ = some v := hcell k v hv
      have hrow := HR.out k v sums[k] hv (List.getElem?_eq_getElem hlt)
      have HC := hI (digClos_any v u sums[k] b q w hrow HB.out HQ.out)
      obtain ⟨a1, c1, rfl, _, _⟩ := hrow.form
      clear hcell hrow hv
      by_cases he : sums[k] = b
      · have HF : Hid ((if b ∈ sums then (sums.idxOf b : Int) else -1) = k) := hI (by
          have hm : b ∈ sums := he ▸ List.getElem_mem hlt
          rw [if_pos hm]
          have hnb := HN.out
          have : sums.idxOf b = k := by
            have e1 : sums = sums.take k ++ sums.drop k := (List.take_append_drop _ _).symm
            rw [e1, List.idxOf_append, if_neg hnb, List.drop_eq_getElem_cons hlt, he, List.idxOf_cons_self]
            simp; omega
          rw [this])
        have HE : Hid (decide (sums[k] = b) = true) := hI (by simpa using he)
        rw [HE.out] at HC
        clear he
        go_wp2_with fail
        refine HC.out.mono ?_
        rintro e w' ⟨rfl, rfl⟩
        go_wp2_with fail
        go_ret
        exact ⟨by rw [HF.out]; rfl, rfl⟩
      · have HE : Hid (decide (sums[k] = b) = false) := hI (by simpa using he)
        rw [HE.out] at HC
        have HT : Hid (b ∉ sums.take (k + 1)) := hI (not_mem_take_succ b sums k hlt HN.out he)
        clear he
        go_wp2_with fail
        refine HC.out.mono ?_
        rintro e w' ⟨rfl, rfl⟩
        go_wp2_with fail
        go_round
        case rel => exact ⟨k + 1, by omega, by go_num, HT.out⟩
        case measure => simp [intOf]; omega
    · obtain rfl : k = sums.length := by omega
      have HF : Hid ((if b ∈ sums then (sums.idxOf b : Int) else -1) = -1) := hI (by
        have hnb := HN.out
        rw [List.take_length] at hnb
        rw [if_neg hnb])
      go_wp2_with fail
      go_ret
      exact ⟨by rw [HF.out]; rfl, rfl⟩
theorem elRows : Elem Try.prog 29 40 1 24 (.slice none 0 0) := by
  refine Elem.mk Try.underlying29 ?_ rfl (by decide)
  kernel_rfl
/-- Rows of bytes, each of its own blocks. -/
def sumsR : List Value → List (List UInt8) → Res
  | [], [] => .emp
  | v :: vs, r :: rs => (Res.row v r).star (sumsR vs rs)
  | _, _ => .pure False
theorem sumsR_at {W : World} : ∀ {vs : List Value} {rs : List (List UInt8)} {l : List Res}, Hold W (sumsR vs rs :: l) → ∀ (j : Nat) {v : Value} {r : List UInt8}, vs[j]? = some v → rs[j]? = some r → Bs W v r
  | [], _, _, _, j, _, _, hv, _ => by simp at hv
  | _ :: _, [], _, _, j, _, _, _, hr => by simp at hr
  | u :: vs, s :: rs, l, h, 0, v, r, hv, hr => by
    have h := Hold.star.1 h
    simp at hv hr
    subst hv hr
    exact h.rowOf (by simp)
  | u :: vs, s :: rs, l, h, j + 1, v, r, hv, hr => by
    have h := Hold.star.1 h
    exact sumsR_at h.tail j (by simpa using hv) (by simpa using hr)
theorem sumsR_snoc {W : World} : ∀ {vs : List Value} {rs : List (List UInt8)} {v : Value} {r : List UInt8} {l : List Res}, Hold W (sumsR vs rs :: .row v r :: l) → Hold W (sumsR (vs ++ [v]) (rs ++ [r]) :: l)
  | [], [], v, r, l, h => Hold.star.2 (h.perm (.swap _ _ _))
  | [], _ :: _, _, _, _, h => (Hold.pure.1 h).1.elim
  | _ :: _, [], _, _, _, h => (Hold.pure.1 h).1.elim
  | u :: vs, s :: rs, v, r, l, h => by
    have h := (Hold.star.1 h).push3
    exact Hold.star.2 (sumsR_snoc h).swap
/-- The table: its rows of bytes; what else it has stays. -/
def tabR (p : Nat) (kv bv mp : Value) (sums : List (List UInt8)) : Res :=
  .ex fun sv => .ex fun vs => .all [.blk p [kv, bv, sv, mp] 99, .own 40 1 sv sums.length vs, sumsR vs sums]
theorem tabR_open {W : World} {p : Nat} {kv bv mp : Value} {sums : List (List UInt8)} {l : List Res} (h : Hold W (tabR p kv bv mp sums :: l)) :
    ∃ sv vs, Hold W (.blk p [kv, bv, sv, mp] 99 :: .own 40 1 sv sums.length vs :: sumsR vs sums :: l) := by
  obtain ⟨sv, h⟩ := Hold.ex.1 h
  obtain ⟨vs, h⟩ := Hold.ex.1 h
  exact ⟨sv, vs, Hold.app.1 h⟩
theorem tabR_shut {W : World} {p : Nat} {kv bv sv mp : Value} {vs : List Value} {sums : List (List UInt8)} {l : List Res} (h : Hold W (.blk p [kv, bv, sv, mp] 99 :: .own 40 1 sv sums.length vs :: sumsR vs sums :: l)) :
    Hold W (tabR p kv bv mp sums :: l) :=
  Hold.ex.2 ⟨sv, Hold.ex.2 ⟨vs, Hold.app.2 h⟩⟩
/-- The rows behind a digest, and the mark that it is. -/
def digT (sums : List (List UInt8)) (b : List UInt8) : List (List UInt8) := if b ∈ sums then sums else sums ++ [b]
def digM (sums : List (List UInt8)) (b : List UInt8) : List UInt8 := markB 100 ((digT sums b).idxOf b + 1)
def DigRes (p : Nat) (kv bv mp : Value) (sums : List (List UInt8)) (b : List UInt8) (l : List Res) (e : Ending) (w' : World) : Prop :=
  ∃ q, e = .returned (.slice (some ⟨q, 0, none⟩) 16 16) ∧ Hold w' (tabR p kv bv mp (digT sums b) :: .row (.slice (some ⟨q, 0, none⟩) 16 16) (digM sums b) :: l)
theorem mark100 (k : Nat) (hk : k < 1099511627777) (w : World) : Calls Try.prog 102 #[.int .u8 100, .int .i64 ((k : Int) + 1)] w (MarkRes w 100 (k + 1)) := mark_any 100 (k + 1) (by omega) w
set_option maxRecDepth 100000 in
set_option maxHeartbeats 4000000 in
theorem digest_any (p : Nat) (kv bv mp : Value) (sums : List (List UInt8)) (v : Value) (b : List UInt8) (l : List Res) (w : World) (h : Hold w (tabR p kv bv mp sums :: l)) (hb : Bs w v b) (hbl : b.length ≤ 1099511627776) (hn : sums.length < 1099511627776) :
    Calls Try.prog 98 #[.pointer (some ⟨p, 0, none⟩), v] w (DigRes p kv bv mp sums b l) := by
  obtain ⟨sv, vs, h⟩ := tabR_open h
  obtain ⟨av, cv, rfl, hcv, hmv⟩ := hb.form
  obtain ⟨a0, c0, rfl, hc0, hm0⟩ := (h.ownOf (e := 40) (sz := 1) (v := sv) (n := sums.length) (cs := vs) (by simp)).1.sl.form
  unfold maxLen at hm0
  have hp := (h.blkOf (p := p) (cs := [kv, bv, .slice a0 sums.length c0, mp]) (T := 99) (by simp)).lt
  have HC : Hid (Hold (w.alloc (.cells #[.slice av b.length cv] 40)) (.blk w.heap.size [.slice av b.length cv] 40 :: .blk p [kv, bv, .slice a0 sums.length c0, mp] 99 :: .own 40 1 (.slice a0 sums.length c0) sums.length vs :: sumsR vs sums :: l)) := hI (h.addBlk [.slice av b.length cv] 40)
  have c2 : w.cell? ⟨p, 2, none⟩ = some (.slice a0 sums.length c0) := (h.blkOf (p := p) (cs := [kv, bv, .slice a0 sums.length c0, mp]) (T := 99) (by simp)).cell 2
  have HSV : Hid (Sl w 1 (.slice a0 sums.length c0) sums.length vs) := hI ((h.ownOf (e := 40) (sz := 1) (v := .slice a0 sums.length c0) (n := sums.length) (cs := vs) (by simp)).1.sl)
  have HIX := hI (digIndex_any (.slice a0 sums.length c0) (.slice av b.length cv) vs sums b w.heap.size _ ((h.ownOf (e := 40) (sz := 1) (v := .slice a0 sums.length c0) (n := sums.length) (cs := vs) (by simp)).1.sl.alloc _) (fun j u r hu hr => (sumsR_at h.tail.tail j hu hr).alloc _) (hb.alloc (.cells #[.slice av b.length cv] 40)) ((Blk.new w [.slice av b.length cv] 40).cell 0))
  have HBS := hI (hb.alloc (.cells #[.slice av b.length cv] 40))
  unfold maxLen at hmv
  clear h hb
  go_enter Try.func98, Try.ntmps98
  go_wp2_with fail
  refine HIX.out.mono ?_
  rintro e w1 ⟨rfl, rfl⟩
  clear HIX
  by_cases hm : b ∈ sums
  · have HT : Hid (digT sums b = sums) := hI (by rw [digT, if_pos hm])
    have HI : Hid ((if b ∈ sums then (sums.idxOf b : Int) else -1) = (sums.idxOf b : Nat)) := hI (by rw [if_pos hm])
    have hk : sums.idxOf b < sums.length := List.idxOf_lt_length_of_mem hm
    have HM : Hid (digM sums b = markB 100 (sums.idxOf b + 1)) := hI (by rw [digM, HT.out])
    rw [HI.out]
    obtain ⟨k, hkk⟩ : ∃ k, k = sums.idxOf b := ⟨_, rfl⟩
    rw [← hkk] at HM hk ⊢
    have hk2 : k < 1099511627777 := by omega
    have HC := hI HC.out.tail
    clear hm hkk HI
    go_wp2_with fail
    refine (mark100 k (by omega) _).mono ?_
    rintro e w7 ⟨rfl, hb⟩
    have HN := hI (Blk.new w7 zs16 160)
    have HC := hI (HC.out.step hb)
    have HKL : Hid ((bCells (markB 100 (k + 1))).length = 16) := hI (by rw [bCells_length, markB_length])
    unfold keyV
    clear hb
    go_wp2_with ((with_reducible show wpList _ _ _ (⟨none, .store _ (.tmp 6) (.tmp 34), _, _, _, _⟩ :: _) _ _); refine wpList_stAgg rfl (.tmp 6) (.tmp 34) aggKey rfl rfl (vs := bCells (markB 100 (k + 1))) rfl HKL.out HN.out (Nat.le_refl _) (bCells_one _) ?_)
    intro w8 h8 k8
    have hb8 : Below w7.heap.size w7 w8 := ((Below.refl _ _).alloc (Nat.le_refl _) _).trans (k8.below (by omega))
    have h8' : Blk w8 w7.heap.size (bCells (markB 100 (k + 1))) 160 := by simpa [zs16] using h8
    have hrow : Bs w8 (.slice (some ⟨w7.heap.size, 0, none⟩) 16 16) (markB 100 (k + 1)) := by
      have := h8'.bs (off := 0) (n := 16) (cap := 16) (by rw [markB_length]; decide) (Nat.le_refl _) (by unfold maxLen; decide)
      exact Sl.bs this (by simp [List.take_of_length_le, markB_length]) (markB_length _ _)
    have HC := hI (HC.out.addRow hb8 hrow (fun k _ hk => by simp [Value.ownBlock] at hk; omega))
    clear h8 h8' k8 hb8 hrow HN HKL
    go_wp2_with fail
    go_ret
    refine ⟨w7.heap.size, rfl, ?_⟩
    rw [HT.out, HM.out]
    exact tabR_shut (sv := .slice a0 sums.length c0) (vs := vs) HC.out.push4
  · have HI : Hid ((if b ∈ sums then (sums.idxOf b : Int) else -1) = -1) := hI (by rw [if_neg hm])
    have HT : Hid (digT sums b = sums ++ [b]) := hI (by rw [digT, if_neg hm])
    have HM : Hid (digM sums b = markB 100 (sums.length + 1)) := hI (by
      rw [digM, HT.out, List.idxOf_append, if_neg hm, List.idxOf_cons_self, Nat.zero_add])
    rw [HI.out]
    clear hm HI
    have HC := hI HC.out.drew
    have HBS := hI (Bs.below HBS.out ((Below.refl _ _).drew))
    obtain ⟨q, hq⟩ : ∃ q, q = w.heap.size := ⟨_, rfl⟩
    rw [← hq] at HC hp
    clear HSV c2
    go_wp2_with fail
    rw [← hq]
    clear hq
    refine wp_region_any (by kernel_rfl) ?_
    change wpAny _ _ _ _ _ _ _ (World.drew _)
    refine wpAny_take (i := 0) (oi := { dst := some 15, op := _, type := _, pos := _, after := _, guard := none }) (v := .pointer (some ⟨p, 0, none⟩)) rfl (by kernel_rfl) (by kernel_rfl) (by kernel_rfl) (fun _ _ _ h => h) (Or.inl ⟨by rfl, by intro w; go_simp⟩) ?_
    simp only [Act.put, List.setIfInBounds_toArray, List.set_cons_zero, List.set_cons_succ]
    refine wpAny_take (i := 1) (oi := { dst := some 16, op := _, type := _, pos := _, after := _, guard := none }) (v := .pointer (some ⟨p, 0, none⟩)) rfl (by kernel_rfl) (by kernel_rfl) (by kernel_rfl) (fun _ _ _ h => h) (Or.inl ⟨by rfl, by intro w; go_simp⟩) ?_
    simp only [Act.put, List.setIfInBounds_toArray, List.set_cons_zero, List.set_cons_succ]
    refine wpAny_take (i := 2) (oi := { dst := some 17, op := _, type := _, pos := _, after := _, guard := none }) (v := .pointer (some ⟨p, 0, none⟩)) rfl (by kernel_rfl) (by kernel_rfl) (by kernel_rfl) (fun _ _ _ h => h) (Or.inl ⟨by rfl, by intro w; go_simp⟩) ?_
    simp only [Act.put, List.setIfInBounds_toArray, List.set_cons_zero, List.set_cons_succ]
    refine wpAny_take (i := 3) (oi := { dst := some 18, op := _, type := _, pos := _, after := _, guard := none }) (v := .pointer (some ⟨p, 2, none⟩)) rfl (by kernel_rfl) (by kernel_rfl) (by kernel_rfl) (fun _ _ _ h => h) (Or.inl ⟨by rfl, by intro w; go_simp⟩) ?_
    simp only [Act.put, List.setIfInBounds_toArray, List.set_cons_zero, List.set_cons_succ]
    refine wpAny_ready (rs := [4, 5]) (by decide +kernel) (by simp) ?_
    refine AllReady.cons (o := { dst := some 19, op := .load 29 (.tmp 18), type := _, pos := _, after := _, guard := none }) rfl (fun K hK => ?_) (AllReady.cons (o := { dst := some 20, op := .load 40 (.tmp 3), type := _, pos := _, after := _, guard := none }) rfl (fun K hK => ?_) AllReady.nil)
    · have cc := (HC.out.blkOf (p := p) (cs := [kv, bv, .slice a0 sums.length c0, mp]) (T := 99) (by simp)).cell 2
      go_simp
      refine hK _ _ ?_
      clear hK K
      try simp only [Act.put, List.setIfInBounds_toArray, List.set_cons_zero, List.set_cons_succ]
      refine wpAny_ready (rs := [5]) (by decide +kernel) (by simp) ?_
      refine AllReady.cons (o := { dst := some 20, op := .load 40 (.tmp 3), type := _, pos := _, after := _, guard := none }) rfl (fun K hK => ?_) AllReady.nil
      have cc := (HC.out.blkOf (p := q) (cs := [.slice av b.length cv]) (T := 40) (by simp)).cell 0
      go_simp
      refine hK _ _ ?_
      clear hK K
      try simp only [Act.put, List.setIfInBounds_toArray, List.set_cons_zero, List.set_cons_succ]
      refine wpAny_ready (rs := [6]) (by decide +kernel) (by simp) ?_
      refine AllReady.cons (o := { dst := some 21, op := .call { callee := .value (.func 101), args := #[.tmp 20], argTypes := #[40] }, type := _, pos := _, after := _, guard := none }) rfl (fun K hK => ?_) AllReady.nil
      go_simp
      refine (clone_any _ b _ HBS.out (by omega)).mono ?_
      rintro e w3 ⟨cl, rfl, ho, hv, hb⟩
      obtain ⟨a6, c6, rfl, _, _⟩ := ho.sl.form
      have HC := hI (HC.out.addOwnB hb ho hv).ownRow
      clear ho hv hb
      refine hK _ _ ?_
      clear hK K
      try simp only [Act.put, List.setIfInBounds_toArray, List.set_cons_zero, List.set_cons_succ]
      refine wpAny_ready (rs := [7]) (by decide +kernel) (by simp) ?_
      refine AllReady.cons (o := { dst := some 22, op := .buildSlice 29 1 #[(0, .tmp 21)], type := _, pos := _, after := _, guard := none }) rfl (fun K hK => ?_) AllReady.nil
      go_simp
      have HC := hI (HC.out.addBlk [.slice a6 b.length c6] 40)
      refine hK _ _ ?_
      clear hK K
      try simp only [Act.put, List.setIfInBounds_toArray, List.set_cons_zero, List.set_cons_succ]
      refine wpAny_ready (rs := [8]) (by decide +kernel) (by simp) ?_
      refine AllReady.cons (o := { dst := some 23, op := .call { callee := .builtin .append, args := #[.tmp 19, .tmp 22], argTypes := #[29, 29] }, type := _, pos := _, after := _, guard := none }) rfl (fun K hK => ?_) AllReady.nil
      have hown := HC.out.ownOf (e := 40) (sz := 1) (v := .slice a0 sums.length c0) (n := sums.length) (cs := vs) (by simp)
      have hsl : Sl _ 1 (.slice (some ⟨w3.heap.size, 0, none⟩) 1 1) 1 [.slice a6 b.length c6] := ((HC.out.blkOf (p := w3.heap.size) (cs := [.slice a6 b.length c6]) (T := 40) (by simp)).own (Nat.zero_le _) (by simp [Value.oneCell']) (by unfold maxLen; simp)).sl
      refine step_app2 rfl (.tmp 19) (.tmp 22) elRows rfl 0 (v := .slice a0 sums.length c0) (by simp [Act.eval]) hown.1 hown.2 (u := .slice (some ⟨w3.heap.size, 0, none⟩) 1 1) (by simp [Act.eval]) hsl (by unfold maxLen; omega) (by omega) (Nat.zero_le _) ?_
      intro v4 w4 ho hk hv
      obtain ⟨a4, c4, rfl, _, _⟩ := ho.sl.form
      have HC := hI (HC.out.pull5.append ho hk hv)
      clear ho hk hv hown hsl
      refine hK _ _ ?_
      clear hK K
      try simp only [Act.put, List.setIfInBounds_toArray, List.set_cons_zero, List.set_cons_succ]
      refine wpAny_take (i := 9) (oi := { dst := some 24, op := _, type := _, pos := _, after := _, guard := none }) (v := .pointer (some ⟨p, 0, none⟩)) rfl (by kernel_rfl) (by kernel_rfl) (by kernel_rfl) (fun _ _ _ h => h) (Or.inl ⟨by rfl, by intro w; go_simp⟩) ?_
      simp only [Act.put, List.setIfInBounds_toArray, List.set_cons_zero, List.set_cons_succ]
      refine wpAny_take (i := 10) (oi := { dst := some 25, op := _, type := _, pos := _, after := _, guard := none }) (v := .pointer (some ⟨p, 2, none⟩)) rfl (by kernel_rfl) (by kernel_rfl) (by kernel_rfl) (fun _ _ _ h => h) (Or.inl ⟨by rfl, by intro w; go_simp⟩) ?_
      simp only [Act.put, List.setIfInBounds_toArray, List.set_cons_zero, List.set_cons_succ]
      refine wpAny_ready (rs := [11]) (by decide +kernel) (by simp) ?_
      refine AllReady.cons (o := { dst := none, op := .store 29 (.tmp 25) (.tmp 23), type := _, pos := _, after := _, guard := none }) rfl (fun K hK => ?_) AllReady.nil
      have hblk := HC.out.blkOf (p := p) (cs := [kv, bv, .slice a0 sums.length c0, mp]) (T := 99) (by simp)
      have cc := hblk.cell 2
      have cf := hblk.frozen 2
      have ch := hblk.lt
      have HC := hI (HC.out.pull5.set 2 (.slice a4 (sums.length + 1) c4))
      clear hblk
      go_simp
      refine hK _ _ ?_
      clear hK K
      try simp only [Act.put, List.setIfInBounds_toArray, List.set_cons_zero, List.set_cons_succ]
      refine wpAny_done (by decide +kernel) ?_ _
      have HC := hI (sumsR_snoc (HC.out.front (m := [.blk p [kv, bv, .slice a4 (sums.length + 1) c4, mp] 99, .own 40 1 (.slice a4 (sums.length + 1) c4) (sums.length + 1) (vs ++ [.slice a6 b.length c6]), .blk w3.heap.size [.slice a6 b.length c6] 40, .row (.slice a6 b.length c6) b, .blk q [.slice av b.length cv] 40, sumsR vs sums]) [2, 4, 5, 3, 0, 1] 6 (by decide)).tail.tail).push3
      have HE : Hid ((sums ++ [b]).length = sums.length + 1) := hI (by simp)
      go_wp2_with fail
      refine (mark100 sums.length (by omega) _).mono ?_
      rintro e w7 ⟨rfl, hb⟩
      have HN := hI (Blk.new w7 zs16 160)
      have HC := hI (HC.out.step hb)
      have HKL : Hid ((bCells (markB 100 (sums.length + 1))).length = 16) := hI (by rw [bCells_length, markB_length])
      unfold keyV
      clear hb
      go_wp2_with ((with_reducible show wpList _ _ _ (⟨none, .store _ (.tmp 6) (.tmp 34), _, _, _, _⟩ :: _) _ _); refine wpList_stAgg rfl (.tmp 6) (.tmp 34) aggKey rfl rfl (vs := bCells (markB 100 (sums.length + 1))) rfl HKL.out HN.out (Nat.le_refl _) (bCells_one _) ?_)
      intro w8 h8 k8
      have hb8 : Below w7.heap.size w7 w8 := ((Below.refl _ _).alloc (Nat.le_refl _) _).trans (k8.below (by omega))
      have h8' : Blk w8 w7.heap.size (bCells (markB 100 (sums.length + 1))) 160 := by simpa [zs16] using h8
      have hrow : Bs w8 (.slice (some ⟨w7.heap.size, 0, none⟩) 16 16) (markB 100 (sums.length + 1)) := by
        have := h8'.bs (off := 0) (n := 16) (cap := 16) (by rw [markB_length]; decide) (Nat.le_refl _) (by unfold maxLen; decide)
        exact Sl.bs this (by simp [List.take_of_length_le, markB_length]) (markB_length _ _)
      have HC := hI (HC.out.addRow hb8 hrow (fun k _ hk => by simp [Value.ownBlock] at hk; omega))
      clear h8 h8' k8 hb8 hrow HN HKL
      go_wp2_with fail
      go_ret
      refine ⟨w7.heap.size, rfl, ?_⟩
      rw [HT.out, HM.out]
      refine tabR_shut (sv := .slice a4 (sums.length + 1) c4) (vs := vs ++ [.slice a6 b.length c6]) ?_
      rw [HE.out]
      exact HC.out.push4
    · have cc := (HC.out.blkOf (p := q) (cs := [.slice av b.length cv]) (T := 40) (by simp)).cell 0
      go_simp
      refine hK _ _ ?_
      clear hK K
      try simp only [Act.put, List.setIfInBounds_toArray, List.set_cons_zero, List.set_cons_succ]
      refine wpAny_ready (rs := [4, 6]) (by decide +kernel) (by simp) ?_
      refine AllReady.cons (o := { dst := some 19, op := .load 29 (.tmp 18), type := _, pos := _, after := _, guard := none }) rfl (fun K hK => ?_) (AllReady.cons (o := { dst := some 21, op := .call { callee := .value (.func 101), args := #[.tmp 20], argTypes := #[40] }, type := _, pos := _, after := _, guard := none }) rfl (fun K hK => ?_) AllReady.nil)
      · have cc := (HC.out.blkOf (p := p) (cs := [kv, bv, .slice a0 sums.length c0, mp]) (T := 99) (by simp)).cell 2
        go_simp
        refine hK _ _ ?_
        clear hK K
        try simp only [Act.put, List.setIfInBounds_toArray, List.set_cons_zero, List.set_cons_succ]
        refine wpAny_ready (rs := [6]) (by decide +kernel) (by simp) ?_
        refine AllReady.cons (o := { dst := some 21, op := .call { callee := .value (.func 101), args := #[.tmp 20], argTypes := #[40] }, type := _, pos := _, after := _, guard := none }) rfl (fun K hK => ?_) AllReady.nil
        go_simp
        refine (clone_any _ b _ HBS.out (by omega)).mono ?_
        rintro e w3 ⟨cl, rfl, ho, hv, hb⟩
        obtain ⟨a6, c6, rfl, _, _⟩ := ho.sl.form
        have HC := hI (HC.out.addOwnB hb ho hv).ownRow
        clear ho hv hb
        refine hK _ _ ?_
        clear hK K
        try simp only [Act.put, List.setIfInBounds_toArray, List.set_cons_zero, List.set_cons_succ]
        refine wpAny_ready (rs := [7]) (by decide +kernel) (by simp) ?_
        refine AllReady.cons (o := { dst := some 22, op := .buildSlice 29 1 #[(0, .tmp 21)], type := _, pos := _, after := _, guard := none }) rfl (fun K hK => ?_) AllReady.nil
        go_simp
        have HC := hI (HC.out.addBlk [.slice a6 b.length c6] 40)
        refine hK _ _ ?_
        clear hK K
        try simp only [Act.put, List.setIfInBounds_toArray, List.set_cons_zero, List.set_cons_succ]
        refine wpAny_ready (rs := [8]) (by decide +kernel) (by simp) ?_
        refine AllReady.cons (o := { dst := some 23, op := .call { callee := .builtin .append, args := #[.tmp 19, .tmp 22], argTypes := #[29, 29] }, type := _, pos := _, after := _, guard := none }) rfl (fun K hK => ?_) AllReady.nil
        have hown := HC.out.ownOf (e := 40) (sz := 1) (v := .slice a0 sums.length c0) (n := sums.length) (cs := vs) (by simp)
        have hsl : Sl _ 1 (.slice (some ⟨w3.heap.size, 0, none⟩) 1 1) 1 [.slice a6 b.length c6] := ((HC.out.blkOf (p := w3.heap.size) (cs := [.slice a6 b.length c6]) (T := 40) (by simp)).own (Nat.zero_le _) (by simp [Value.oneCell']) (by unfold maxLen; simp)).sl
        refine step_app2 rfl (.tmp 19) (.tmp 22) elRows rfl 0 (v := .slice a0 sums.length c0) (by simp [Act.eval]) hown.1 hown.2 (u := .slice (some ⟨w3.heap.size, 0, none⟩) 1 1) (by simp [Act.eval]) hsl (by unfold maxLen; omega) (by omega) (Nat.zero_le _) ?_
        intro v4 w4 ho hk hv
        obtain ⟨a4, c4, rfl, _, _⟩ := ho.sl.form
        have HC := hI (HC.out.pull5.append ho hk hv)
        clear ho hk hv hown hsl
        refine hK _ _ ?_
        clear hK K
        try simp only [Act.put, List.setIfInBounds_toArray, List.set_cons_zero, List.set_cons_succ]
        refine wpAny_take (i := 9) (oi := { dst := some 24, op := _, type := _, pos := _, after := _, guard := none }) (v := .pointer (some ⟨p, 0, none⟩)) rfl (by kernel_rfl) (by kernel_rfl) (by kernel_rfl) (fun _ _ _ h => h) (Or.inl ⟨by rfl, by intro w; go_simp⟩) ?_
        simp only [Act.put, List.setIfInBounds_toArray, List.set_cons_zero, List.set_cons_succ]
        refine wpAny_take (i := 10) (oi := { dst := some 25, op := _, type := _, pos := _, after := _, guard := none }) (v := .pointer (some ⟨p, 2, none⟩)) rfl (by kernel_rfl) (by kernel_rfl) (by kernel_rfl) (fun _ _ _ h => h) (Or.inl ⟨by rfl, by intro w; go_simp⟩) ?_
        simp only [Act.put, List.setIfInBounds_toArray, List.set_cons_zero, List.set_cons_succ]
        refine wpAny_ready (rs := [11]) (by decide +kernel) (by simp) ?_
        refine AllReady.cons (o := { dst := none, op := .store 29 (.tmp 25) (.tmp 23), type := _, pos := _, after := _, guard := none }) rfl (fun K hK => ?_) AllReady.nil
        have hblk := HC.out.blkOf (p := p) (cs := [kv, bv, .slice a0 sums.length c0, mp]) (T := 99) (by simp)
        have cc := hblk.cell 2
        have cf := hblk.frozen 2
        have ch := hblk.lt
        have HC := hI (HC.out.pull5.set 2 (.slice a4 (sums.length + 1) c4))
        clear hblk
        go_simp
        refine hK _ _ ?_
        clear hK K
        try simp only [Act.put, List.setIfInBounds_toArray, List.set_cons_zero, List.set_cons_succ]
        refine wpAny_done (by decide +kernel) ?_ _
        have HC := hI (sumsR_snoc (HC.out.front (m := [.blk p [kv, bv, .slice a4 (sums.length + 1) c4, mp] 99, .own 40 1 (.slice a4 (sums.length + 1) c4) (sums.length + 1) (vs ++ [.slice a6 b.length c6]), .blk w3.heap.size [.slice a6 b.length c6] 40, .row (.slice a6 b.length c6) b, .blk q [.slice av b.length cv] 40, sumsR vs sums]) [2, 4, 5, 3, 0, 1] 6 (by decide)).tail.tail).push3
        have HE : Hid ((sums ++ [b]).length = sums.length + 1) := hI (by simp)
        go_wp2_with fail
        refine (mark100 sums.length (by omega) _).mono ?_
        rintro e w7 ⟨rfl, hb⟩
        have HN := hI (Blk.new w7 zs16 160)
        have HC := hI (HC.out.step hb)
        have HKL : Hid ((bCells (markB 100 (sums.length + 1))).length = 16) := hI (by rw [bCells_length, markB_length])
        unfold keyV
        clear hb
        go_wp2_with ((with_reducible show wpList _ _ _ (⟨none, .store _ (.tmp 6) (.tmp 34), _, _, _, _⟩ :: _) _ _); refine wpList_stAgg rfl (.tmp 6) (.tmp 34) aggKey rfl rfl (vs := bCells (markB 100 (sums.length + 1))) rfl HKL.out HN.out (Nat.le_refl _) (bCells_one _) ?_)
        intro w8 h8 k8
        have hb8 : Below w7.heap.size w7 w8 := ((Below.refl _ _).alloc (Nat.le_refl _) _).trans (k8.below (by omega))
        have h8' : Blk w8 w7.heap.size (bCells (markB 100 (sums.length + 1))) 160 := by simpa [zs16] using h8
        have hrow : Bs w8 (.slice (some ⟨w7.heap.size, 0, none⟩) 16 16) (markB 100 (sums.length + 1)) := by
          have := h8'.bs (off := 0) (n := 16) (cap := 16) (by rw [markB_length]; decide) (Nat.le_refl _) (by unfold maxLen; decide)
          exact Sl.bs this (by simp [List.take_of_length_le, markB_length]) (markB_length _ _)
        have HC := hI (HC.out.addRow hb8 hrow (fun k _ hk => by simp [Value.ownBlock] at hk; omega))
        clear h8 h8' k8 hb8 hrow HN HKL
        go_wp2_with fail
        go_ret
        refine ⟨w7.heap.size, rfl, ?_⟩
        rw [HT.out, HM.out]
        refine tabR_shut (sv := .slice a4 (sums.length + 1) c4) (vs := vs ++ [.slice a6 b.length c6]) ?_
        rw [HE.out]
        exact HC.out.push4
      · go_simp
        refine (clone_any _ b _ HBS.out (by omega)).mono ?_
        rintro e w3 ⟨cl, rfl, ho, hv, hb⟩
        obtain ⟨a6, c6, rfl, _, _⟩ := ho.sl.form
        have HC := hI (HC.out.addOwnB hb ho hv).ownRow
        clear ho hv hb
        refine hK _ _ ?_
        clear hK K
        try simp only [Act.put, List.setIfInBounds_toArray, List.set_cons_zero, List.set_cons_succ]
        refine wpAny_ready (rs := [4, 7]) (by decide +kernel) (by simp) ?_
        refine AllReady.cons (o := { dst := some 19, op := .load 29 (.tmp 18), type := _, pos := _, after := _, guard := none }) rfl (fun K hK => ?_) (AllReady.cons (o := { dst := some 22, op := .buildSlice 29 1 #[(0, .tmp 21)], type := _, pos := _, after := _, guard := none }) rfl (fun K hK => ?_) AllReady.nil)
        · have cc := (HC.out.blkOf (p := p) (cs := [kv, bv, .slice a0 sums.length c0, mp]) (T := 99) (by simp)).cell 2
          go_simp
          refine hK _ _ ?_
          clear hK K
          try simp only [Act.put, List.setIfInBounds_toArray, List.set_cons_zero, List.set_cons_succ]
          refine wpAny_ready (rs := [7]) (by decide +kernel) (by simp) ?_
          refine AllReady.cons (o := { dst := some 22, op := .buildSlice 29 1 #[(0, .tmp 21)], type := _, pos := _, after := _, guard := none }) rfl (fun K hK => ?_) AllReady.nil
          go_simp
          have HC := hI (HC.out.addBlk [.slice a6 b.length c6] 40)
          refine hK _ _ ?_
          clear hK K
          try simp only [Act.put, List.setIfInBounds_toArray, List.set_cons_zero, List.set_cons_succ]
          refine wpAny_ready (rs := [8]) (by decide +kernel) (by simp) ?_
          refine AllReady.cons (o := { dst := some 23, op := .call { callee := .builtin .append, args := #[.tmp 19, .tmp 22], argTypes := #[29, 29] }, type := _, pos := _, after := _, guard := none }) rfl (fun K hK => ?_) AllReady.nil
          have hown := HC.out.ownOf (e := 40) (sz := 1) (v := .slice a0 sums.length c0) (n := sums.length) (cs := vs) (by simp)
          have hsl : Sl _ 1 (.slice (some ⟨w3.heap.size, 0, none⟩) 1 1) 1 [.slice a6 b.length c6] := ((HC.out.blkOf (p := w3.heap.size) (cs := [.slice a6 b.length c6]) (T := 40) (by simp)).own (Nat.zero_le _) (by simp [Value.oneCell']) (by unfold maxLen; simp)).sl
          refine step_app2 rfl (.tmp 19) (.tmp 22) elRows rfl 0 (v := .slice a0 sums.length c0) (by simp [Act.eval]) hown.1 hown.2 (u := .slice (some ⟨w3.heap.size, 0, none⟩) 1 1) (by simp [Act.eval]) hsl (by unfold maxLen; omega) (by omega) (Nat.zero_le _) ?_
          intro v4 w4 ho hk hv
          obtain ⟨a4, c4, rfl, _, _⟩ := ho.sl.form
          have HC := hI (HC.out.pull5.append ho hk hv)
          clear ho hk hv hown hsl
          refine hK _ _ ?_
          clear hK K
          try simp only [Act.put, List.setIfInBounds_toArray, List.set_cons_zero, List.set_cons_succ]
          refine wpAny_take (i := 9) (oi := { dst := some 24, op := _, type := _, pos := _, after := _, guard := none }) (v := .pointer (some ⟨p, 0, none⟩)) rfl (by kernel_rfl) (by kernel_rfl) (by kernel_rfl) (fun _ _ _ h => h) (Or.inl ⟨by rfl, by intro w; go_simp⟩) ?_
          simp only [Act.put, List.setIfInBounds_toArray, List.set_cons_zero, List.set_cons_succ]
          refine wpAny_take (i := 10) (oi := { dst := some 25, op := _, type := _, pos := _, after := _, guard := none }) (v := .pointer (some ⟨p, 2, none⟩)) rfl (by kernel_rfl) (by kernel_rfl) (by kernel_rfl) (fun _ _ _ h => h) (Or.inl ⟨by rfl, by intro w; go_simp⟩) ?_
          simp only [Act.put, List.setIfInBounds_toArray, List.set_cons_zero, List.set_cons_succ]
          refine wpAny_ready (rs := [11]) (by decide +kernel) (by simp) ?_
          refine AllReady.cons (o := { dst := none, op := .store 29 (.tmp 25) (.tmp 23), type := _, pos := _, after := _, guard := none }) rfl (fun K hK => ?_) AllReady.nil
          have hblk := HC.out.blkOf (p := p) (cs := [kv, bv, .slice a0 sums.length c0, mp]) (T := 99) (by simp)
          have cc := hblk.cell 2
          have cf := hblk.frozen 2
          have ch := hblk.lt
          have HC := hI (HC.out.pull5.set 2 (.slice a4 (sums.length + 1) c4))
          clear hblk
          go_simp
          refine hK _ _ ?_
          clear hK K
          try simp only [Act.put, List.setIfInBounds_toArray, List.set_cons_zero, List.set_cons_succ]
          refine wpAny_done (by decide +kernel) ?_ _
          have HC := hI (sumsR_snoc (HC.out.front (m := [.blk p [kv, bv, .slice a4 (sums.length + 1) c4, mp] 99, .own 40 1 (.slice a4 (sums.length + 1) c4) (sums.length + 1) (vs ++ [.slice a6 b.length c6]), .blk w3.heap.size [.slice a6 b.length c6] 40, .row (.slice a6 b.length c6) b, .blk q [.slice av b.length cv] 40, sumsR vs sums]) [2, 4, 5, 3, 0, 1] 6 (by decide)).tail.tail).push3
          have HE : Hid ((sums ++ [b]).length = sums.length + 1) := hI (by simp)
          go_wp2_with fail
          refine (mark100 sums.length (by omega) _).mono ?_
          rintro e w7 ⟨rfl, hb⟩
          have HN := hI (Blk.new w7 zs16 160)
          have HC := hI (HC.out.step hb)
          have HKL : Hid ((bCells (markB 100 (sums.length + 1))).length = 16) := hI (by rw [bCells_length, markB_length])
          unfold keyV
          clear hb
          go_wp2_with ((with_reducible show wpList _ _ _ (⟨none, .store _ (.tmp 6) (.tmp 34), _, _, _, _⟩ :: _) _ _); refine wpList_stAgg rfl (.tmp 6) (.tmp 34) aggKey rfl rfl (vs := bCells (markB 100 (sums.length + 1))) rfl HKL.out HN.out (Nat.le_refl _) (bCells_one _) ?_)
          intro w8 h8 k8
          have hb8 : Below w7.heap.size w7 w8 := ((Below.refl _ _).alloc (Nat.le_refl _) _).trans (k8.below (by omega))
          have h8' : Blk w8 w7.heap.size (bCells (markB 100 (sums.length + 1))) 160 := by simpa [zs16] using h8
          have hrow : Bs w8 (.slice (some ⟨w7.heap.size, 0, none⟩) 16 16) (markB 100 (sums.length + 1)) := by
            have := h8'.bs (off := 0) (n := 16) (cap := 16) (by rw [markB_length]; decide) (Nat.le_refl _) (by unfold maxLen; decide)
            exact Sl.bs this (by simp [List.take_of_length_le, markB_length]) (markB_length _ _)
          have HC := hI (HC.out.addRow hb8 hrow (fun k _ hk => by simp [Value.ownBlock] at hk; omega))
          clear h8 h8' k8 hb8 hrow HN HKL
          go_wp2_with fail
          go_ret
          refine ⟨w7.heap.size, rfl, ?_⟩
          rw [HT.out, HM.out]
          refine tabR_shut (sv := .slice a4 (sums.length + 1) c4) (vs := vs ++ [.slice a6 b.length c6]) ?_
          rw [HE.out]
          exact HC.out.push4
        · go_simp
          have HC := hI (HC.out.addBlk [.slice a6 b.length c6] 40)
          refine hK _ _ ?_
          clear hK K
          try simp only [Act.put, List.setIfInBounds_toArray, List.set_cons_zero, List.set_cons_succ]
          refine wpAny_ready (rs := [4]) (by decide +kernel) (by simp) ?_
          refine AllReady.cons (o := { dst := some 19, op := .load 29 (.tmp 18), type := _, pos := _, after := _, guard := none }) rfl (fun K hK => ?_) AllReady.nil
          have cc := (HC.out.blkOf (p := p) (cs := [kv, bv, .slice a0 sums.length c0, mp]) (T := 99) (by simp)).cell 2
          go_simp
          refine hK _ _ ?_
          clear hK K
          try simp only [Act.put, List.setIfInBounds_toArray, List.set_cons_zero, List.set_cons_succ]
          refine wpAny_ready (rs := [8]) (by decide +kernel) (by simp) ?_
          refine AllReady.cons (o := { dst := some 23, op := .call { callee := .builtin .append, args := #[.tmp 19, .tmp 22], argTypes := #[29, 29] }, type := _, pos := _, after := _, guard := none }) rfl (fun K hK => ?_) AllReady.nil
          have hown := HC.out.ownOf (e := 40) (sz := 1) (v := .slice a0 sums.length c0) (n := sums.length) (cs := vs) (by simp)
          have hsl : Sl _ 1 (.slice (some ⟨w3.heap.size, 0, none⟩) 1 1) 1 [.slice a6 b.length c6] := ((HC.out.blkOf (p := w3.heap.size) (cs := [.slice a6 b.length c6]) (T := 40) (by simp)).own (Nat.zero_le _) (by simp [Value.oneCell']) (by unfold maxLen; simp)).sl
          refine step_app2 rfl (.tmp 19) (.tmp 22) elRows rfl 0 (v := .slice a0 sums.length c0) (by simp [Act.eval]) hown.1 hown.2 (u := .slice (some ⟨w3.heap.size, 0, none⟩) 1 1) (by simp [Act.eval]) hsl (by unfold maxLen; omega) (by omega) (Nat.zero_le _) ?_
          intro v4 w4 ho hk hv
          obtain ⟨a4, c4, rfl, _, _⟩ := ho.sl.form
          have HC := hI (HC.out.pull5.append ho hk hv)
          clear ho hk hv hown hsl
          refine hK _ _ ?_
          clear hK K
          try simp only [Act.put, List.setIfInBounds_toArray, List.set_cons_zero, List.set_cons_succ]
          refine wpAny_take (i := 9) (oi := { dst := some 24, op := _, type := _, pos := _, after := _, guard := none }) (v := .pointer (some ⟨p, 0, none⟩)) rfl (by kernel_rfl) (by kernel_rfl) (by kernel_rfl) (fun _ _ _ h => h) (Or.inl ⟨by rfl, by intro w; go_simp⟩) ?_
          simp only [Act.put, List.setIfInBounds_toArray, List.set_cons_zero, List.set_cons_succ]
          refine wpAny_take (i := 10) (oi := { dst := some 25, op := _, type := _, pos := _, after := _, guard := none }) (v := .pointer (some ⟨p, 2, none⟩)) rfl (by kernel_rfl) (by kernel_rfl) (by kernel_rfl) (fun _ _ _ h => h) (Or.inl ⟨by rfl, by intro w; go_simp⟩) ?_
          simp only [Act.put, List.setIfInBounds_toArray, List.set_cons_zero, List.set_cons_succ]
          refine wpAny_ready (rs := [11]) (by decide +kernel) (by simp) ?_
          refine AllReady.cons (o := { dst := none, op := .store 29 (.tmp 25) (.tmp 23), type := _, pos := _, after := _, guard := none }) rfl (fun K hK => ?_) AllReady.nil
          have hblk := HC.out.blkOf (p := p) (cs := [kv, bv, .slice a0 sums.length c0, mp]) (T := 99) (by simp)
          have cc := hblk.cell 2
          have cf := hblk.frozen 2
          have ch := hblk.lt
          have HC := hI (HC.out.pull5.set 2 (.slice a4 (sums.length + 1) c4))
          clear hblk
          go_simp
          refine hK _ _ ?_
          clear hK K
          try simp only [Act.put, List.setIfInBounds_toArray, List.set_cons_zero, List.set_cons_succ]
          refine wpAny_done (by decide +kernel) ?_ _
          have HC := hI (sumsR_snoc (HC.out.front (m := [.blk p [kv, bv, .slice a4 (sums.length + 1) c4, mp] 99, .own 40 1 (.slice a4 (sums.length + 1) c4) (sums.length + 1) (vs ++ [.slice a6 b.length c6]), .blk w3.heap.size [.slice a6 b.length c6] 40, .row (.slice a6 b.length c6) b, .blk q [.slice av b.length cv] 40, sumsR vs sums]) [2, 4, 5, 3, 0, 1] 6 (by decide)).tail.tail).push3
          have HE : Hid ((sums ++ [b]).length = sums.length + 1) := hI (by simp)
          go_wp2_with fail
          refine (mark100 sums.length (by omega) _).mono ?_
          rintro e w7 ⟨rfl, hb⟩
          have HN := hI (Blk.new w7 zs16 160)
          have HC := hI (HC.out.step hb)
          have HKL : Hid ((bCells (markB 100 (sums.length + 1))).length = 16) := hI (by rw [bCells_length, markB_length])
          unfold keyV
          clear hb
          go_wp2_with ((with_reducible show wpList _ _ _ (⟨none, .store _ (.tmp 6) (.tmp 34), _, _, _, _⟩ :: _) _ _); refine wpList_stAgg rfl (.tmp 6) (.tmp 34) aggKey rfl rfl (vs := bCells (markB 100 (sums.length + 1))) rfl HKL.out HN.out (Nat.le_refl _) (bCells_one _) ?_)
          intro w8 h8 k8
          have hb8 : Below w7.heap.size w7 w8 := ((Below.refl _ _).alloc (Nat.le_refl _) _).trans (k8.below (by omega))
          have h8' : Blk w8 w7.heap.size (bCells (markB 100 (sums.length + 1))) 160 := by simpa [zs16] using h8
          have hrow : Bs w8 (.slice (some ⟨w7.heap.size, 0, none⟩) 16 16) (markB 100 (sums.length + 1)) := by
            have := h8'.bs (off := 0) (n := 16) (cap := 16) (by rw [markB_length]; decide) (Nat.le_refl _) (by unfold maxLen; decide)
            exact Sl.bs this (by simp [List.take_of_length_le, markB_length]) (markB_length _ _)
          have HC := hI (HC.out.addRow hb8 hrow (fun k _ hk => by simp [Value.ownBlock] at hk; omega))
          clear h8 h8' k8 hb8 hrow HN HKL
          go_wp2_with fail
          go_ret
          refine ⟨w7.heap.size, rfl, ?_⟩
          rw [HT.out, HM.out]
          refine tabR_shut (sv := .slice a4 (sums.length + 1) c4) (vs := vs ++ [.slice a6 b.length c6]) ?_
          rw [HE.out]
          exact HC.out.push4
/-- A file that is sent. -/
structure OutF where
  st : Int
  data : List UInt8
  sent : Nat
  ahead : Nat
/-- A file that comes. -/
structure InF where
  st : Int
  size : Int
  sum : List UInt8
  data : List UInt8
def outR (p : Nat) (o : OutF) : Res := .ex fun dv => .all [.blk p [.int .i64 o.st, dv, .int .i64 o.sent, .int .i64 o.ahead] 68, .row dv o.data]
def inR (p : Nat) (i : InF) : Res := .ex fun sv => .ex fun dv => .all [.blk p [.int .i64 i.st, .int .i64 i.size, sv, dv] 89, .row sv i.sum, .ownB dv i.data]
theorem outR_open {W : World} {p : Nat} {o : OutF} {l : List Res} (h : Hold W (outR p o :: l)) :
    ∃ a c, o.data.length ≤ c ∧ c ≤ maxLen ∧ Hold W (.blk p [.int .i64 o.st, .slice a o.data.length c, .int .i64 o.sent, .int .i64 o.ahead] 68 :: .row (.slice a o.data.length c) o.data :: l) := by
  obtain ⟨dv, h⟩ := Hold.ex.1 h
  have h := Hold.app.1 h
  have hr : Bs W dv o.data := h.rowOf (by simp)
  obtain ⟨a, c, rfl, h1, h2⟩ := hr.form
  exact ⟨a, c, h1, h2, h⟩
theorem outR_shut {W : World} {p : Nat} {st : Int} {data : List UInt8} {sent ahead : Nat} {dv : Value} {l : List Res} (h : Hold W (.blk p [.int .i64 st, dv, .int .i64 sent, .int .i64 ahead] 68 :: .row dv data :: l)) :
    Hold W (outR p ⟨st, data, sent, ahead⟩ :: l) := Hold.ex.2 ⟨dv, Hold.app.2 h⟩
theorem inR_open {W : World} {p : Nat} {i : InF} {l : List Res} (h : Hold W (inR p i :: l)) :
    ∃ a c b d, i.sum.length ≤ c ∧ c ≤ maxLen ∧ i.data.length ≤ d ∧ d ≤ maxLen ∧ Hold W (.blk p [.int .i64 i.st, .int .i64 i.size, .slice a i.sum.length c, .slice b i.data.length d] 89 :: .row (.slice a i.sum.length c) i.sum :: .ownB (.slice b i.data.length d) i.data :: l) := by
  obtain ⟨sv, h⟩ := Hold.ex.1 h
  obtain ⟨dv, h⟩ := Hold.ex.1 h
  have h := Hold.app.1 h
  have hr : Bs W sv i.sum := h.rowOf (by simp)
  have ho : OwnBs W 0 dv i.data := (h.ownBOf (by simp)).1
  obtain ⟨a, c, rfl, h1, h2⟩ := hr.form
  obtain ⟨b, d, rfl, h3, h4⟩ := ho.bs.form
  exact ⟨a, c, b, d, h1, h2, h3, h4, h⟩
theorem inR_shut {W : World} {p : Nat} {st size : Int} {sum data : List UInt8} {sv dv : Value} {l : List Res} (h : Hold W (.blk p [.int .i64 st, .int .i64 size, sv, dv] 89 :: .row sv sum :: .ownB dv data :: l)) :
    Hold W (inR p ⟨st, size, sum, data⟩ :: l) := Hold.ex.2 ⟨sv, Hold.ex.2 ⟨dv, Hold.app.2 h⟩⟩
def outTurn (o : OutF) (s : Int) : OutF × Int := if o.st ≠ 0 then (o, 16) else ({ o with st := if s = 1 ∧ o.data.length = 0 then 2 else s }, 0)
def outStop (o : OutF) : Prop := o.st ≠ 1 ∨ o.ahead = 4 ∨ o.sent = o.data.length
instance (o : OutF) : Decidable (outStop o) := by unfold outStop; infer_instance
def outCame (o : OutF) : OutF × Int := if o.st ≠ 1 ∨ o.ahead = 0 then (o, 16) else ({ o with ahead := o.ahead - 1, st := if o.ahead - 1 = 0 ∧ o.sent = o.data.length then 2 else o.st }, 0)
def outBreak (o : OutF) : OutF × Int := if o.st ≠ 0 ∧ o.st ≠ 1 then (o, 16) else ({ o with st := 4 }, 0)
def inRefuse (i : InF) : InF × Int := if i.st ≠ 0 then (i, 16) else ({ i with st := 3 }, 0)
def inBreak (i : InF) : InF × Int := if i.st ≠ 0 ∧ i.st ≠ 1 then (i, 16) else ({ i with st := 4, data := [] }, 0)
/-- Has all come? -/
def inWhole (t : List (List UInt8)) (i : InF) : List (List UInt8) × InF × Int :=
  if (i.data.length : Int) < i.size then (t, i, 0)
  else if digM t i.data = i.sum then (digT t i.data, { i with st := 2 }, 0) else (digT t i.data, { i with st := 4 }, 23)
def inAccept (t : List (List UInt8)) (i : InF) : List (List UInt8) × InF × Int := if i.st ≠ 0 then (t, i, 16) else inWhole t { i with st := 1 }
def inTake (t : List (List UInt8)) (i : InF) (at' : Int) (b : List UInt8) : List (List UInt8) × InF × Int :=
  if i.st ≠ 1 then (t, i, 16)
  else if at' ≠ i.data.length ∨ b.length = 0 then (t, i, 18)
  else if 64 < b.length ∨ i.size - at' < b.length then (t, i, 20)
  else inWhole t { i with data := i.data ++ b }
/-- What a method gives: a number, and a thing that has turned. -/
def NumRes (n : Int) (l : List Res) (e : Ending) (w' : World) : Prop := e = .returned (.int .i64 n) ∧ Hold w' l
def BytesRes (b : List UInt8) (l : List Res) (e : Ending) (w' : World) : Prop := ∃ v, e = .returned v ∧ Hold w' (.row v b :: l)
def MadeRes (r : Nat → Res) (l : List Res) (e : Ending) (w' : World) : Prop := ∃ p, e = .returned (.tuple #[.pointer (some ⟨p, 0, none⟩), .int .i64 0]) ∧ Hold w' (r p :: l)
def ChunkRes (p : Nat) (o : OutF) (l : List Res) (e : Ending) (w' : World) : Prop :=
  ∃ v, e = .returned (.tuple #[.int .i64 o.sent, v, .bool true]) ∧ Hold w' (outR p { o with sent := min (o.sent + 64) o.data.length, ahead := o.ahead + 1 } :: .row v ((o.data.drop o.sent).take (min (o.sent + 64) o.data.length - o.sent)) :: l)
/-- The table as a provider. -/
def provV (q : Nat) : Value := .iface 55 (.pointer (some ⟨q, 0, none⟩))
theorem dig_nil (k : Nat) (a : Addr) (w : World) : (nilAhead (k + 1) 55 (.pointer (some a)) "Digest").run Try.prog w = .ok (some false) w := by kernel_rfl
theorem dig_method (k : Nat) (a : Addr) (w : World) : (method (k + 1) 55 (.pointer (some a)) "Digest").run Try.prog w = .ok (98, .pointer (some a)) w := by kernel_rfl
def WholeRes (p q : Nat) (kv bv mp : Value) (r : List (List UInt8) × InF × Int) (l : List Res) (e : Ending) (w' : World) : Prop :=
  e = .returned (.int .i64 r.2.2) ∧ Hold w' (inR p r.2.1 :: tabR q kv bv mp r.1 :: l)
set_option maxRecDepth 100000 in
set_option maxHeartbeats 4000000 in
theorem whole_any (p q : Nat) (kv bv mp : Value) (sums : List (List UInt8)) (i : InF) (l : List Res) (w : World) (h : Hold w (inR p i :: tabR q kv bv mp sums :: l)) (hd : i.data.length ≤ 2048) (hs : i.sum.length ≤ 1099511627776) (hn : sums.length < 1099511627776) (hz0 : 0 ≤ i.size) (hz1 : i.size ≤ 2048) :
    Calls Try.prog 54 #[.pointer (some ⟨p, 0, none⟩), .iface 55 (.pointer (some ⟨q, 0, none⟩))] w (WholeRes p q kv bv mp (inWhole sums i) l) := by
  have HC0 := hI h
  obtain ⟨st, size, sum, data⟩ := i
  obtain ⟨a, c, b, d, k1, k2, k3, k4, h⟩ := inR_open h
  simp only at k1 k3 h hd hs hz0 hz1
  have hblk := h.blkOf (p := p) (cs := [.int .i64 st, .int .i64 size, .slice a sum.length c, .slice b data.length d]) (T := 89) (by simp)
  have c1 := hblk.cell 1
  have c3 := hblk.cell 3
  simp only [List.getElem?_cons_succ, List.getElem?_cons_zero] at c1 c3
  have hp := hblk.lt
  have HC := hI h
  unfold maxLen at k2 k4
  clear h hblk
  by_cases hlt : (data.length : Int) < size
  · have HE : Hid (inWhole sums ⟨st, size, sum, data⟩ = (sums, ⟨st, size, sum, data⟩, 0)) := hI (by unfold inWhole; rw [if_pos hlt])
    go_enter Try.func54, Try.ntmps54
    go_wp2_with fail
    go_quiet (fail)
    go_wp2_with fail
    go_ret
    rw [HE.out]
    exact ⟨rfl, HC0.out.drewN _⟩
  · have HNL := hI hlt
    have hge : size ≤ (data.length : Int) := by omega
    clear hlt
    go_enter Try.func54, Try.ntmps54
    go_wp2_with fail
    go_quiet (fail)
    go_wp2_with fail
    have HC := hI (HC.out.drewN nq).drew
    generalize w.drewN nq = W at HC ⊢
    obtain ⟨bq, hbq⟩ : ∃ bq, decide (digM sums data = sum) = bq := ⟨_, rfl⟩
    have HBQ := hI hbq
    clear hbq
    clear c1 c3 hp
    refine wp_region_any (by kernel_rfl) ?_
    change wpAny _ _ _ _ _ _ _ (World.drew _)
    refine wpAny_take (i := 0) (oi := { dst := some 15, op := _, type := _, pos := _, after := _, guard := none }) (v := .iface 55 (.pointer (some ⟨q, 0, none⟩))) rfl (by kernel_rfl) (by kernel_rfl) (by kernel_rfl) (fun _ _ _ h => h) (Or.inl ⟨by rfl, by intro w; go_simp⟩) ?_
    simp only [Act.put, List.setIfInBounds_toArray, List.set_cons_zero, List.set_cons_succ]
    refine wpAny_take (i := 1) (oi := { dst := some 16, op := _, type := _, pos := _, after := _, guard := none }) (v := .pointer (some ⟨p, 0, none⟩)) rfl (by kernel_rfl) (by kernel_rfl) (by kernel_rfl) (fun _ _ _ h => h) (Or.inl ⟨by rfl, by intro w; go_simp⟩) ?_
    simp only [Act.put, List.setIfInBounds_toArray, List.set_cons_zero, List.set_cons_succ]
    refine wpAny_take (i := 2) (oi := { dst := some 17, op := _, type := _, pos := _, after := _, guard := none }) (v := .pointer (some ⟨p, 0, none⟩)) rfl (by kernel_rfl) (by kernel_rfl) (by kernel_rfl) (fun _ _ _ h => h) (Or.inl ⟨by rfl, by intro w; go_simp⟩) ?_
    simp only [Act.put, List.setIfInBounds_toArray, List.set_cons_zero, List.set_cons_succ]
    refine wpAny_take (i := 3) (oi := { dst := some 18, op := _, type := _, pos := _, after := _, guard := none }) (v := .pointer (some ⟨p, 3, none⟩)) rfl (by kernel_rfl) (by kernel_rfl) (by kernel_rfl) (fun _ _ _ h => h) (Or.inl ⟨by rfl, by intro w; go_simp⟩) ?_
    simp only [Act.put, List.setIfInBounds_toArray, List.set_cons_zero, List.set_cons_succ]
    refine wpAny_take (i := 5) (oi := { dst := some 20, op := _, type := _, pos := _, after := _, guard := none }) (v := .func (.method "Digest") #[.iface 55 (.pointer (some ⟨q, 0, none⟩))] #[]) rfl (by kernel_rfl) (by kernel_rfl) (by kernel_rfl) (fun _ _ _ h => h) (Or.inl ⟨by rfl, by intro w; go_simp⟩) ?_
    simp only [Act.put, List.setIfInBounds_toArray, List.set_cons_zero, List.set_cons_succ]
    refine wpAny_take (i := 6) (oi := { dst := some 21, op := _, type := _, pos := _, after := _, guard := none }) (v := .func (.method "Digest") #[.iface 55 (.pointer (some ⟨q, 0, none⟩))] #[]) rfl (by kernel_rfl) (by kernel_rfl) (by kernel_rfl) (fun _ _ _ h => h) (Or.inl ⟨by rfl, by intro w; go_simp; simp [dig_nil]⟩) ?_
    simp only [Act.put, List.setIfInBounds_toArray, List.set_cons_zero, List.set_cons_succ]
    refine wpAny_take (i := 7) (oi := { dst := some 22, op := _, type := _, pos := _, after := _, guard := none }) (v := .iface 55 (.pointer (some ⟨q, 0, none⟩))) rfl (by kernel_rfl) (by kernel_rfl) (by kernel_rfl) (fun _ _ _ h => h) (Or.inl ⟨by rfl, by intro w; go_simp⟩) ?_
    simp only [Act.put, List.setIfInBounds_toArray, List.set_cons_zero, List.set_cons_succ]
    refine wpAny_take (i := 9) (oi := { dst := some 24, op := _, type := _, pos := _, after := _, guard := none }) (v := .pointer (some ⟨p, 0, none⟩)) rfl (by kernel_rfl) (by kernel_rfl) (by kernel_rfl) (fun _ _ _ h => h) (Or.inl ⟨by rfl, by intro w; go_simp⟩) ?_
    simp only [Act.put, List.setIfInBounds_toArray, List.set_cons_zero, List.set_cons_succ]
    refine wpAny_take (i := 10) (oi := { dst := some 25, op := _, type := _, pos := _, after := _, guard := none }) (v := .pointer (some ⟨p, 0, none⟩)) rfl (by kernel_rfl) (by kernel_rfl) (by kernel_rfl) (fun _ _ _ h => h) (Or.inl ⟨by rfl, by intro w; go_simp⟩) ?_
    simp only [Act.put, List.setIfInBounds_toArray, List.set_cons_zero, List.set_cons_succ]
    refine wpAny_take (i := 11) (oi := { dst := some 26, op := _, type := _, pos := _, after := _, guard := none }) (v := .pointer (some ⟨p, 2, none⟩)) rfl (by kernel_rfl) (by kernel_rfl) (by kernel_rfl) (fun _ _ _ h => h) (Or.inl ⟨by rfl, by intro w; go_simp⟩) ?_
    simp only [Act.put, List.setIfInBounds_toArray, List.set_cons_zero, List.set_cons_succ]
    refine wpAny_ready (rs := [4, 12]) (by decide +kernel) (by simp) ?_
    refine AllReady.cons (o := { dst := some 19, op := .load 40 (.tmp 18), type := _, pos := _, after := _, guard := none }) rfl (fun K hK => ?_) (AllReady.cons (o := { dst := some 27, op := .load 40 (.tmp 26), type := _, pos := _, after := _, guard := none }) rfl (fun K hK => ?_) AllReady.nil)
    · have cc := (HC.out.blkOf (p := p) (cs := [.int .i64 st, .int .i64 size, .slice a sum.length c, .slice b data.length d]) (T := 89) (by simp)).cell 3
      simp only [List.getElem?_cons_succ, List.getElem?_cons_zero] at cc
      go_simp
      refine hK _ _ ?_
      clear hK K
      try simp only [Act.put, List.setIfInBounds_toArray, List.set_cons_zero, List.set_cons_succ]
      refine wpAny_ready (rs := [8, 12]) (by decide +kernel) (by simp) ?_
      refine AllReady.cons (o := { dst := some 23, op := .call { callee := .invoke (.tmp 22) "Digest", args := #[.tmp 19], argTypes := #[40] }, type := _, pos := _, after := _, guard := none }) rfl (fun K hK => ?_) (AllReady.cons (o := { dst := some 27, op := .load 40 (.tmp 26), type := _, pos := _, after := _, guard := none }) rfl (fun K hK => ?_) AllReady.nil)
      · have hbs : Bs _ (.slice b data.length d) data := (HC.out.ownBOf (v := .slice b data.length d) (b := data) (by simp)).1.bs
        have hdg := hI (digest_any q kv bv mp sums (.slice b data.length d) data _ _ HC.out.pull4 hbs (by omega) hn)
        clear hbs
        go_simp
        refine hdg.out.mono ?_
        rintro e w2 ⟨r, rfl, hc⟩
        have HC := hI (hc.front (m := [tabR q kv bv mp (digT sums data), .row (.slice (some ⟨r, 0, none⟩) 16 16) (digM sums data), .blk p [.int .i64 st, .int .i64 size, .slice a sum.length c, .slice b data.length d] 89, .row (.slice a sum.length c) sum, .ownB (.slice b data.length d) data]) [2, 3, 4, 1, 0] 5 (by decide))
        clear hc hdg
        refine hK _ _ ?_
        clear hK K
        try simp only [Act.put, List.setIfInBounds_toArray, List.set_cons_zero, List.set_cons_succ]
        refine wpAny_ready (rs := [12]) (by decide +kernel) (by simp) ?_
        refine AllReady.cons (o := { dst := some 27, op := .load 40 (.tmp 26), type := _, pos := _, after := _, guard := none }) rfl (fun K hK => ?_) AllReady.nil
        have cc := (HC.out.blkOf (p := p) (cs := [.int .i64 st, .int .i64 size, .slice a sum.length c, .slice b data.length d]) (T := 89) (by simp)).cell 2
        simp only [List.getElem?_cons_succ, List.getElem?_cons_zero] at cc
        go_simp
        refine hK _ _ ?_
        clear hK K
        try simp only [Act.put, List.setIfInBounds_toArray, List.set_cons_zero, List.set_cons_succ]
        refine wpAny_ready (rs := [13]) (by decide +kernel) (by simp) ?_
        refine AllReady.cons (o := { dst := some 28, op := .call { callee := .value (.func 70), args := #[.tmp 23, .tmp 27], argTypes := #[40, 40] }, type := _, pos := _, after := _, guard := none }) rfl (fun K hK => ?_) AllReady.nil
        have hb1 := HC.out.rowOf (v := .slice (some ⟨r, 0, none⟩) 16 16) (b := digM sums data) (by simp)
        have hb2 := HC.out.rowOf (v := .slice a sum.length c) (b := sum) (by simp)
        go_simp
        refine (equal_any _ _ (digM sums data) sum _ hb1 hb2).mono ?_
        rw [HBQ.out]
        rintro e w3 ⟨rfl, rfl⟩
        clear hb1 hb2
        refine hK _ _ ?_
        clear hK K
        try simp only [Act.put, List.setIfInBounds_toArray, List.set_cons_zero, List.set_cons_succ]
        refine wpAny_take (i := 14) (oi := { dst := some 29, op := _, type := _, pos := _, after := _, guard := none }) (v := .bool (!bq)) rfl (by kernel_rfl) (by kernel_rfl) (by kernel_rfl) (fun _ _ _ h => h) (Or.inl ⟨by rfl, by intro w; go_simp⟩) ?_
        simp only [Act.put, List.setIfInBounds_toArray, List.set_cons_zero, List.set_cons_succ]
        refine wpAny_done (by decide +kernel) ?_ _
        have HC := hI (HC.out.front (m := [.blk p [.int .i64 st, .int .i64 size, .slice a sum.length c, .slice b data.length d] 89, .row (.slice a sum.length c) sum, .ownB (.slice b data.length d) data, .row (.slice (some ⟨r, 0, none⟩) 16 16) (digM sums data), tabR q kv bv mp (digT sums data)]) [3, 0, 1, 2, 4] 5 (by decide)).tail
        have HC := hI (show Hold _ (.blk p [.int .i64 st, .int .i64 size, .slice a sum.length c, .slice b data.length d] 89 :: .row (.slice a sum.length c) sum :: .ownB (.slice b data.length d) data :: tabR q kv bv mp (digT sums data) :: l) from HC.out)
        have hblk := HC.out.blkOf (p := p) (cs := [.int .i64 st, .int .i64 size, .slice a sum.length c, .slice b data.length d]) (T := 89) (by simp)
        have cc0 := hblk.cell 0
        simp only [List.getElem?_cons_succ, List.getElem?_cons_zero] at cc0
        have ff0 := hblk.frozen 0
        clear hblk
        cases bq
        · have hq := HBQ.out
          simp only [decide_eq_true_eq, decide_eq_false_iff_not] at hq
          have HE : Hid (inWhole sums ⟨st, size, sum, data⟩ = (digT sums data, ⟨4, size, sum, data⟩, 23)) := hI (by unfold inWhole; rw [if_neg (show ¬ ((data.length : Int) < size) by omega), if_neg hq])
          clear hq
          have HC := hI (HC.out.set 0 (.int .i64 4))
          go_wp2_with fail
          go_ret
          rw [HE.out]
          exact ⟨rfl, inR_shut HC.out⟩
        · have hq := HBQ.out
          simp only [decide_eq_true_eq, decide_eq_false_iff_not] at hq
          have HE : Hid (inWhole sums ⟨st, size, sum, data⟩ = (digT sums data, ⟨2, size, sum, data⟩, 0)) := hI (by unfold inWhole; rw [if_neg (show ¬ ((data.length : Int) < size) by omega), if_pos hq])
          clear hq
          have HC := hI (HC.out.set 0 (.int .i64 2))
          go_wp2_with fail
          go_ret
          rw [HE.out]
          exact ⟨rfl, inR_shut HC.out⟩
      · have cc := (HC.out.blkOf (p := p) (cs := [.int .i64 st, .int .i64 size, .slice a sum.length c, .slice b data.length d]) (T := 89) (by simp)).cell 2
        simp only [List.getElem?_cons_succ, List.getElem?_cons_zero] at cc
        go_simp
        refine hK _ _ ?_
        clear hK K
        try simp only [Act.put, List.setIfInBounds_toArray, List.set_cons_zero, List.set_cons_succ]
        refine wpAny_ready (rs := [8]) (by decide +kernel) (by simp) ?_
        refine AllReady.cons (o := { dst := some 23, op := .call { callee := .invoke (.tmp 22) "Digest", args := #[.tmp 19], argTypes := #[40] }, type := _, pos := _, after := _, guard := none }) rfl (fun K hK => ?_) AllReady.nil
        have hbs : Bs _ (.slice b data.length d) data := (HC.out.ownBOf (v := .slice b data.length d) (b := data) (by simp)).1.bs
        have hdg := hI (digest_any q kv bv mp sums (.slice b data.length d) data _ _ HC.out.pull4 hbs (by omega) hn)
        clear hbs
        go_simp
        refine hdg.out.mono ?_
        rintro e w2 ⟨r, rfl, hc⟩
        have HC := hI (hc.front (m := [tabR q kv bv mp (digT sums data), .row (.slice (some ⟨r, 0, none⟩) 16 16) (digM sums data), .blk p [.int .i64 st, .int .i64 size, .slice a sum.length c, .slice b data.length d] 89, .row (.slice a sum.length c) sum, .ownB (.slice b data.length d) data]) [2, 3, 4, 1, 0] 5 (by decide))
        clear hc hdg
        refine hK _ _ ?_
        clear hK K
        try simp only [Act.put, List.setIfInBounds_toArray, List.set_cons_zero, List.set_cons_succ]
        refine wpAny_ready (rs := [13]) (by decide +kernel) (by simp) ?_
        refine AllReady.cons (o := { dst := some 28, op := .call { callee := .value (.func 70), args := #[.tmp 23, .tmp 27], argTypes := #[40, 40] }, type := _, pos := _, after := _, guard := none }) rfl (fun K hK => ?_) AllReady.nil
        have hb1 := HC.out.rowOf (v := .slice (some ⟨r, 0, none⟩) 16 16) (b := digM sums data) (by simp)
        have hb2 := HC.out.rowOf (v := .slice a sum.length c) (b := sum) (by simp)
        go_simp
        refine (equal_any _ _ (digM sums data) sum _ hb1 hb2).mono ?_
        rw [HBQ.out]
        rintro e w3 ⟨rfl, rfl⟩
        clear hb1 hb2
        refine hK _ _ ?_
        clear hK K
        try simp only [Act.put, List.setIfInBounds_toArray, List.set_cons_zero, List.set_cons_succ]
        refine wpAny_take (i := 14) (oi := { dst := some 29, op := _, type := _, pos := _, after := _, guard := none }) (v := .bool (!bq)) rfl (by kernel_rfl) (by kernel_rfl) (by kernel_rfl) (fun _ _ _ h => h) (Or.inl ⟨by rfl, by intro w; go_simp⟩) ?_
        simp only [Act.put, List.setIfInBounds_toArray, List.set_cons_zero, List.set_cons_succ]
        refine wpAny_done (by decide +kernel) ?_ _
        have HC := hI (HC.out.front (m := [.blk p [.int .i64 st, .int .i64 size, .slice a sum.length c, .slice b data.length d] 89, .row (.slice a sum.length c) sum, .ownB (.slice b data.length d) data, .row (.slice (some ⟨r, 0, none⟩) 16 16) (digM sums data), tabR q kv bv mp (digT sums data)]) [3, 0, 1, 2, 4] 5 (by decide)).tail
        have HC := hI (show Hold _ (.blk p [.int .i64 st, .int .i64 size, .slice a sum.length c, .slice b data.length d] 89 :: .row (.slice a sum.length c) sum :: .ownB (.slice b data.length d) data :: tabR q kv bv mp (digT sums data) :: l) from HC.out)
        have hblk := HC.out.blkOf (p := p) (cs := [.int .i64 st, .int .i64 size, .slice a sum.length c, .slice b data.length d]) (T := 89) (by simp)
        have cc0 := hblk.cell 0
        simp only [List.getElem?_cons_succ, List.getElem?_cons_zero] at cc0
        have ff0 := hblk.frozen 0
        clear hblk
        cases bq
        · have hq := HBQ.out
          simp only [decide_eq_true_eq, decide_eq_false_iff_not] at hq
          have HE : Hid (inWhole sums ⟨st, size, sum, data⟩ = (digT sums data, ⟨4, size, sum, data⟩, 23)) := hI (by unfold inWhole; rw [if_neg (show ¬ ((data.length : Int) < size) by omega), if_neg hq])
          clear hq
          have HC := hI (HC.out.set 0 (.int .i64 4))
          go_wp2_with fail
          go_ret
          rw [HE.out]
          exact ⟨rfl, inR_shut HC.out⟩
        · have hq := HBQ.out
          simp only [decide_eq_true_eq, decide_eq_false_iff_not] at hq
          have HE : Hid (inWhole sums ⟨st, size, sum, data⟩ = (digT sums data, ⟨2, size, sum, data⟩, 0)) := hI (by unfold inWhole; rw [if_neg (show ¬ ((data.length : Int) < size) by omega), if_pos hq])
          clear hq
          have HC := hI (HC.out.set 0 (.int .i64 2))
          go_wp2_with fail
          go_ret
          rw [HE.out]
          exact ⟨rfl, inR_shut HC.out⟩
    · have cc := (HC.out.blkOf (p := p) (cs := [.int .i64 st, .int .i64 size, .slice a sum.length c, .slice b data.length d]) (T := 89) (by simp)).cell 2
      simp only [List.getElem?_cons_succ, List.getElem?_cons_zero] at cc
      go_simp
      refine hK _ _ ?_
      clear hK K
      try simp only [Act.put, List.setIfInBounds_toArray, List.set_cons_zero, List.set_cons_succ]
      refine wpAny_ready (rs := [4]) (by decide +kernel) (by simp) ?_
      refine AllReady.cons (o := { dst := some 19, op := .load 40 (.tmp 18), type := _, pos := _, after := _, guard := none }) rfl (fun K hK => ?_) AllReady.nil
      have cc := (HC.out.blkOf (p := p) (cs := [.int .i64 st, .int .i64 size, .slice a sum.length c, .slice b data.length d]) (T := 89) (by simp)).cell 3
      simp only [List.getElem?_cons_succ, List.getElem?_cons_zero] at cc
      go_simp
      refine hK _ _ ?_
      clear hK K
      try simp only [Act.put, List.setIfInBounds_toArray, List.set_cons_zero, List.set_cons_succ]
      refine wpAny_ready (rs := [8]) (by decide +kernel) (by simp) ?_
      refine AllReady.cons (o := { dst := some 23, op := .call { callee := .invoke (.tmp 22) "Digest", args := #[.tmp 19], argTypes := #[40] }, type := _, pos := _, after := _, guard := none }) rfl (fun K hK => ?_) AllReady.nil
      have hbs : Bs _ (.slice b data.length d) data := (HC.out.ownBOf (v := .slice b data.length d) (b := data) (by simp)).1.bs
      have hdg := hI (digest_any q kv bv mp sums (.slice b data.length d) data _ _ HC.out.pull4 hbs (by omega) hn)
      clear hbs
      go_simp
      refine hdg.out.mono ?_
      rintro e w2 ⟨r, rfl, hc⟩
      have HC := hI (hc.front (m := [tabR q kv bv mp (digT sums data), .row (.slice (some ⟨r, 0, none⟩) 16 16) (digM sums data), .blk p [.int .i64 st, .int .i64 size, .slice a sum.length c, .slice b data.length d] 89, .row (.slice a sum.length c) sum, .ownB (.slice b data.length d) data]) [2, 3, 4, 1, 0] 5 (by decide))
      clear hc hdg
      refine hK _ _ ?_
      clear hK K
      try simp only [Act.put, List.setIfInBounds_toArray, List.set_cons_zero, List.set_cons_succ]
      refine wpAny_ready (rs := [13]) (by decide +kernel) (by simp) ?_
      refine AllReady.cons (o := { dst := some 28, op := .call { callee := .value (.func 70), args := #[.tmp 23, .tmp 27], argTypes := #[40, 40] }, type := _, pos := _, after := _, guard := none }) rfl (fun K hK => ?_) AllReady.nil
      have hb1 := HC.out.rowOf (v := .slice (some ⟨r, 0, none⟩) 16 16) (b := digM sums data) (by simp)
      have hb2 := HC.out.rowOf (v := .slice a sum.length c) (b := sum) (by simp)
      go_simp
      refine (equal_any _ _ (digM sums data) sum _ hb1 hb2).mono ?_
      rw [HBQ.out]
      rintro e w3 ⟨rfl, rfl⟩
      clear hb1 hb2
      refine hK _ _ ?_
      clear hK K
      try simp only [Act.put, List.setIfInBounds_toArray, List.set_cons_zero, List.set_cons_succ]
      refine wpAny_take (i := 14) (oi := { dst := some 29, op := _, type := _, pos := _, after := _, guard := none }) (v := .bool (!bq)) rfl (by kernel_rfl) (by kernel_rfl) (by kernel_rfl) (fun _ _ _ h => h) (Or.inl ⟨by rfl, by intro w; go_simp⟩) ?_
      simp only [Act.put, List.setIfInBounds_toArray, List.set_cons_zero, List.set_cons_succ]
      refine wpAny_done (by decide +kernel) ?_ _
      have HC := hI (HC.out.front (m := [.blk p [.int .i64 st, .int .i64 size, .slice a sum.length c, .slice b data.length d] 89, .row (.slice a sum.length c) sum, .ownB (.slice b data.length d) data, .row (.slice (some ⟨r, 0, none⟩) 16 16) (digM sums data), tabR q kv bv mp (digT sums data)]) [3, 0, 1, 2, 4] 5 (by decide)).tail
      have HC := hI (show Hold _ (.blk p [.int .i64 st, .int .i64 size, .slice a sum.length c, .slice b data.length d] 89 :: .row (.slice a sum.length c) sum :: .ownB (.slice b data.length d) data :: tabR q kv bv mp (digT sums data) :: l) from HC.out)
      have hblk := HC.out.blkOf (p := p) (cs := [.int .i64 st, .int .i64 size, .slice a sum.length c, .slice b data.length d]) (T := 89) (by simp)
      have cc0 := hblk.cell 0
      simp only [List.getElem?_cons_succ, List.getElem?_cons_zero] at cc0
      have ff0 := hblk.frozen 0
      clear hblk
      cases bq
      · have hq := HBQ.out
        simp only [decide_eq_true_eq, decide_eq_false_iff_not] at hq
        have HE : Hid (inWhole sums ⟨st, size, sum, data⟩ = (digT sums data, ⟨4, size, sum, data⟩, 23)) := hI (by unfold inWhole; rw [if_neg (show ¬ ((data.length : Int) < size) by omega), if_neg hq])
        clear hq
        have HC := hI (HC.out.set 0 (.int .i64 4))
        go_wp2_with fail
        go_ret
        rw [HE.out]
        exact ⟨rfl, inR_shut HC.out⟩
      · have hq := HBQ.out
        simp only [decide_eq_true_eq, decide_eq_false_iff_not] at hq
        have HE : Hid (inWhole sums ⟨st, size, sum, data⟩ = (digT sums data, ⟨2, size, sum, data⟩, 0)) := hI (by unfold inWhole; rw [if_neg (show ¬ ((data.length : Int) < size) by omega), if_pos hq])
        clear hq
        have HC := hI (HC.out.set 0 (.int .i64 2))
        go_wp2_with fail
        go_ret
        rw [HE.out]
        exact ⟨rfl, inR_shut HC.out⟩
set_option maxRecDepth 100000 in
set_option maxHeartbeats 1000000 in
theorem offer_any (v : Value) (b : List UInt8) (l : List Res) (w : World) (h : Hold w l) (hb : Bs w v b) (hl : b.length ≤ 2048) :
    Calls Try.prog 24 #[v] w (MadeRes (fun p => outR p ⟨0, b, 0, 0⟩) l) := by
  obtain ⟨a, c, rfl, hc, hm⟩ := hb.form
  have HB := hI hb
  have HC := hI h
  clear h hb
  go_enter Try.func24, Try.ntmps24
  go_wp2_with ((with_reducible show wpList _ _ _ (⟨some 8, _, _, _, _, _⟩ :: _) _ _); refine wpList_app2 rfl (.const (.slice none 0 0)) (.tmp 7) elBytes rfl w.heap.size (Own.nil _ _ _ _ _) (by simp [Act.eval, Value.ownBlock]) HB.out (by unfold maxLen; omega) (by omega) (Nat.le_refl _) ?_)
  intro v1 w1 ho hk hv
  have hb1 : Below w.heap.size w w1 := hk.below (by
    rintro i (h | h)
    · exact h.2
    · exact h)
  have ho' : OwnBs w1 w.heap.size v1 b := by unfold OwnBs; simpa using ho
  obtain ⟨a1, c1, rfl, _, _⟩ := ho'.sl.form
  have HC := hI (((HC.out.addOwnB hb1 ho' (fun i hi => ⟨by
    rcases (hv i hi).1 with h | h
    · simp [Act.eval, Value.ownBlock] at h
    · exact h, (hv i hi).2⟩)).ownRow).addBlk [.int .i64 0, .slice a1 b.length c1, .int .i64 0, .int .i64 0] 68)
  clear ho ho' hk hv hb1 HB
  go_wp2_with fail
  go_ret2
  exact ⟨w1.heap.size, rfl, outR_shut HC.out⟩
set_option maxRecDepth 100000 in
set_option maxHeartbeats 1000000 in
theorem turn_any (p : Nat) (o : OutF) (s : Int) (l : List Res) (w : World) (h : Hold w (outR p o :: l)) (hl : o.data.length ≤ 2048) :
    Calls Try.prog 78 #[.pointer (some ⟨p, 0, none⟩), .int .i64 s] w (NumRes (outTurn o s).2 (outR p (outTurn o s).1 :: l)) := by
  have HC0 := hI h
  obtain ⟨st, data, sent, ahead⟩ := o
  obtain ⟨a, c, h1, h2, h⟩ := outR_open h
  simp only at hl h1 h
  have hblk := h.blkOf (p := p) (cs := _) (T := 68) (List.mem_cons_self)
  have c0 := hblk.cell 0
  have c1 := hblk.cell 1
  have f0 := hblk.frozen 0
  simp only [List.getElem?_cons_succ, List.getElem?_cons_zero] at c0 c1
  have HC := hI h
  clear h hblk
  by_cases h0 : st = 0
  · subst h0
    by_cases hs : s = 1
    · subst hs
      by_cases hd : data.length = 0
      · have HE : Hid (outTurn ⟨0, data, sent, ahead⟩ 1 = (⟨2, data, sent, ahead⟩, 0)) := hI (by simp [outTurn, hd])
        have HC := hI ((HC.out.set 0 (.int .i64 1)).set 0 (.int .i64 2))
        have hd2 : ((data.length : Int) == 0) = true := by simp [hd]
        clear hd
        go_enter Try.func78, Try.ntmps78
        go_wp2_with fail
        go_ret
        rw [HE.out]
        exact ⟨rfl, outR_shut HC.out⟩
      · have HE : Hid (outTurn ⟨0, data, sent, ahead⟩ 1 = (⟨1, data, sent, ahead⟩, 0)) := hI (by simp [outTurn] at hd ⊢; exact hd)
        have HC := hI (HC.out.set 0 (.int .i64 1))
        have hd2 : ((data.length : Int) == 0) = false := by simpa using hd
        clear hd
        go_enter Try.func78, Try.ntmps78
        go_wp2_with fail
        go_ret
        rw [HE.out]
        exact ⟨rfl, outR_shut HC.out⟩
    · have HE : Hid (outTurn ⟨0, data, sent, ahead⟩ s = (⟨s, data, sent, ahead⟩, 0)) := hI (by simp [outTurn, hs])
      have HC := hI (HC.out.set 0 (.int .i64 s))
      have hs2 : (s == 1) = false := by simpa using hs
      clear hs
      go_enter Try.func78, Try.ntmps78
      go_wp2_with fail
      go_ret
      rw [HE.out]
      exact ⟨rfl, outR_shut HC.out⟩
  · have HE : Hid (outTurn ⟨st, data, sent, ahead⟩ s = (⟨st, data, sent, ahead⟩, 16)) := hI (by simp [outTurn, h0])
    have hs2 : (st != 0) = true := by simpa using h0
    clear h0
    go_enter Try.func78, Try.ntmps78
    go_wp2_with fail
    go_ret
    rw [HE.out]
    exact ⟨rfl, HC0.out⟩
set_option maxRecDepth 100000 in
theorem outAccept_any (p : Nat) (o : OutF) (l : List Res) (w : World) (h : Hold w (outR p o :: l)) (hl : o.data.length ≤ 2048) :
    Calls Try.prog 66 #[.pointer (some ⟨p, 0, none⟩)] w (NumRes (outTurn o 1).2 (outR p (outTurn o 1).1 :: l)) := by
  have HT := hI (turn_any p o 1 l w h hl)
  clear h
  go_enter Try.func66, Try.ntmps66
  go_wp2_with fail
  refine HT.out.mono ?_
  rintro e w1 ⟨rfl, hc⟩
  have HC := hI hc
  clear hc
  go_wp2_with fail
  go_ret
  exact ⟨rfl, HC.out⟩
set_option maxRecDepth 100000 in
theorem outRefuse_any (p : Nat) (o : OutF) (l : List Res) (w : World) (h : Hold w (outR p o :: l)) (hl : o.data.length ≤ 2048) :
    Calls Try.prog 65 #[.pointer (some ⟨p, 0, none⟩)] w (NumRes (outTurn o 3).2 (outR p (outTurn o 3).1 :: l)) := by
  have HT := hI (turn_any p o 3 l w h hl)
  clear h
  go_enter Try.func65, Try.ntmps65
  go_wp2_with fail
  refine HT.out.mono ?_
  rintro e w1 ⟨rfl, hc⟩
  have HC := hI hc
  clear hc
  go_wp2_with fail
  go_ret
  exact ⟨rfl, HC.out⟩
set_option maxRecDepth 100000 in
set_option maxHeartbeats 1000000 in
theorem outBreak_any (p : Nat) (o : OutF) (l : List Res) (w : World) (h : Hold w (outR p o :: l)) :
    Calls Try.prog 56 #[.pointer (some ⟨p, 0, none⟩)] w (NumRes (outBreak o).2 (outR p (outBreak o).1 :: l)) := by
  have HC0 := hI h
  obtain ⟨st, data, sent, ahead⟩ := o
  obtain ⟨a, c, h1, h2, h⟩ := outR_open h
  simp only at h1 h
  have hblk := h.blkOf (p := p) (cs := _) (T := 68) (List.mem_cons_self)
  have c0 := hblk.cell 0
  have f0 := hblk.frozen 0
  simp only [List.getElem?_cons_zero] at c0
  have HC := hI (h.set 0 (.int .i64 4))
  clear h hblk
  by_cases h0 : st = 0
  · subst h0
    have HE : Hid (outBreak ⟨0, data, sent, ahead⟩ = (⟨4, data, sent, ahead⟩, 0)) := hI rfl
    go_enter Try.func56, Try.ntmps56
    go_wp2_with fail
    go_ret
    rw [HE.out]
    exact ⟨rfl, outR_shut HC.out⟩
  · have hs0 : (st != 0) = true := by simpa using h0
    by_cases h1 : st = 1
    · subst h1
      have HE : Hid (outBreak ⟨1, data, sent, ahead⟩ = (⟨4, data, sent, ahead⟩, 0)) := hI rfl
      clear h0 hs0
      go_enter Try.func56, Try.ntmps56
      go_wp2_with fail
      go_ret
      rw [HE.out]
      exact ⟨rfl, outR_shut HC.out⟩
    · have HE : Hid (outBreak ⟨st, data, sent, ahead⟩ = (⟨st, data, sent, ahead⟩, 16)) := hI (by simp [outBreak, h0, h1])
      have hs1 : (st != 1) = true := by simpa using h1
      clear h0 h1
      go_enter Try.func56, Try.ntmps56
      go_wp2_with fail
      go_ret
      rw [HE.out]
      exact ⟨rfl, HC0.out⟩
end Go.Proofs.Ytiplepdmkbiehaa
