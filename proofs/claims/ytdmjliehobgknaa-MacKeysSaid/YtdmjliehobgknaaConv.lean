/- A text's bytes: the conversion's row, and append to it. -/
import Derived.Test.YtdmjliehobgknaaSlices
import Derived.Lib.ConvBytes
import Derived.ArgAppend
namespace Go.Proofs.Ytdmjliehobgknaa
set_option linter.unusedSimpArgs false
set_option linter.unusedVariables false
open Go.RowKit

/-- A row that a conversion has laid: its cells, the spare ones too; only behind its end it is marked. -/
def Cv (w : World) (g n cap : Nat) (cs : List Value) : Prop :=
  cs.length = n ∧ (∀ u ∈ cs, u.oneCell' = true) ∧ n ≤ cap ∧ cap ≤ maxLen ∧ ∃ cur : Array Value, w.heap[g]? = some (.cells cur 5 (cur.size, cur.size + 1)) ∧ cur.size = cap ∧ cur.toList.take n = cs

theorem Cv.sl {w : World} {g n cap : Nat} {cs : List Value} (h : Cv w g n cap cs) : Sl w 1 (.slice (some ⟨g, 0, none⟩) n cap) n cs := by
  obtain ⟨h1, h2, h3, h4, cur, h5, h6, h7⟩ := h
  refine ⟨by omega, h2, _, cap, rfl, h3, h4, fun h => by simp at h, .inr ⟨g, 0, rfl, fun j u hj => ?_⟩⟩
  have hjl : j < n := by have := (List.getElem?_eq_some_iff.1 hj).1; omega
  rw [← h7, List.getElem?_take, if_pos hjl] at hj
  rw [Nat.zero_add, cell_of_row w g j cur _ _ h5, ← Array.getElem?_toList]
  exact hj

theorem Cv.below {w w' : World} {g n cap : Nat} {cs : List Value} (h : Cv w g n cap cs) (hk : Below w.heap.size w w') : Cv w' g n cap cs := by
  obtain ⟨h1, h2, h3, h4, cur, h5, h6, h7⟩ := h
  exact ⟨h1, h2, h3, h4, cur, (hk.block g (block_lt h5)).trans h5, h6, h7⟩
theorem Cv.alloc {w : World} {g n cap : Nat} {cs : List Value} (h : Cv w g n cap cs) (o : Obj) : Cv (w.alloc o) g n cap cs := h.below ((Below.refl _ _).alloc (Nat.le_refl _) _)

theorem run_conv (w : World) (s : ByteArray) (hs : s.size ≤ 281474976710656) : ∃ cap w', (convert 9 22 (.string s)).run Try.prog w = .ok (.slice (some ⟨w.heap.size, 0, none⟩) s.size cap) w' ∧
    Cv w' w.heap.size s.size cap (bCells s.data.toList) ∧ Below w.heap.size w w' ∧ w'.heap.size = w.heap.size + 1 := by
  have hge := grownCap_ge w s.size 0 5
  have hle := grownCap_le_maxLen w s.size 0 5 (by unfold maxLen; omega)
  have hl : s.data.toList.length = s.size := rfl
  refine ⟨_, _, Lib.run_convert_string_bytes w 9 22 5 s Try.underlying9 Try.underlying22 Try.underlying5, ⟨by rw [bCells_length, hl], bCells_one _, hge, hle, Lib.bytesCells w 5 s, Lib.bytesWorld_at_new w _ s, ?_, ?_⟩, ⟨?_, ?_, ?_, ?_, fun k hk => Lib.bytesWorld_at_old w _ s k hk⟩, Lib.bytesWorld_size w _ s⟩
  · simp only [Lib.bytesCells, Array.size_append, Array.size_map, Array.size_replicate]
    rw [show s.data.size = s.size from rfl]
    omega
  · simp only [Lib.bytesCells, Array.toList_append, Array.toList_map]
    rw [List.take_append_of_le_length (by simp), List.take_of_length_le (by simp)]
    rfl
  · rfl
  · rfl
  · rfl
  · rw [Lib.bytesWorld_size]; omega

theorem wpList_conv {ops : Array Oper} {rest : List Oper} {o : Oper} {a : Act} {w : World} {Q : Exit → Act → World → Prop} (hgd : Region.wanted o (yielded ops a.tmps) = true) (x : Operand)
    (ho : o.op = .convert 9 22 x) {s : ByteArray} (hx : a.eval x = .string s) (hs : s.size ≤ 281474976710656)
    (h : ∀ cap w', Cv w' w.heap.size s.size cap (bCells s.data.toList) → Below w.heap.size w w' → w'.heap.size = w.heap.size + 1 → wpList Try.prog ops Q rest (a.put o.dst (.slice (some ⟨w.heap.size, 0, none⟩) s.size cap)) w') : wpList Try.prog ops Q (o :: rest) a w := by
  obtain ⟨cap, w', hr, h2, h3, h4⟩ := run_conv w s hs
  refine wpList_want hgd fun K hK => ?_
  unfold Oper.wp execOp
  simp only [ho, hx, Sem.run_bind, Sem.run_pure, Result.andThen_ok, hr]
  exact hK _ _ (h cap w' h2 h3 h4)

theorem below_setCells {B b : Nat} (hb : B ≤ b) : ∀ (vs : List Value) (o : Nat) (w : World), Below B w (w.setCells b o vs)
  | [], _, w => Below.refl _ _
  | v :: vs, o, w => (show Below B w (w.setCell ⟨b, o, none⟩ v) from (Below.refl B w).setCell hb v).trans (below_setCells hb vs (o + 1) _)

/-- append to a conversion's row. -/
theorem run_appC {w : World} {ty : TypeId} {g n cap : Nat} {cs : List Value} (hc : Cv w g n cap cs) {x : Value} {m : Nat} {ds : List Value} (hsl : Sl w 1 x m ds) (hm : 0 < m) (h63 : n + m ≤ 281474976710656) (h47 : n + m ≤ 140737488355328) :
    ∃ v' w', (Builtin.append_ #[22, 22] ty #[.slice (some ⟨g, 0, none⟩) n cap, x]).run Try.prog w = .ok v' w' ∧ Sl w' 1 v' (n + m) (cs ++ ds) ∧ (∀ B, B ≤ g → B ≤ w.heap.size → Below B w w') := by
  obtain ⟨ht, i, hi, hz, hsize, hby, hzs, hsz⟩ := elBytes
  have hsl0 := hc.sl
  obtain ⟨h1, h2, h3, h4, cur, h5, h6, h7⟩ := hc
  obtain ⟨hdl, hd1, a, c, rfl, hmc, hcm, hanone, hat⟩ := hsl
  have hds : ds.length = m := by omega
  have hgl := block_lt h5
  obtain ⟨b, off, rfl, hcell⟩ : ∃ b off, a = some ⟨b, off, none⟩ ∧ ∀ j u, ds[j]? = some u → w.cell? ⟨b, off + j, none⟩ = some u := by
    rcases hat with h | h
    · subst h; simp at hds; omega
    · exact h
  have hnews : ∀ j u, ds[j]? = some u → w.cell? ((⟨b, off, none⟩ : Addr).add j) = some u := fun j u hj => by rw [Addr.add_lit]; exact hcell j u hj
  have hold : ∀ j u, cs[j]? = some u → w.cell? ⟨g, j, none⟩ = some u := by
    intro j u hj
    have hjl : j < n := by have := (List.getElem?_eq_some_iff.1 hj).1; omega
    rw [← h7, List.getElem?_take, if_pos hjl] at hj
    rw [cell_of_row w g j cur _ _ h5, ← Array.getElem?_toList]
    exact hj
  by_cases hroom : n + m ≤ cap
  · have hr := run_append_room_cells (P := Try.prog) w 22 ty 5 i ht hi g 0 n cap ⟨b, off, none⟩ m c ds (by rw [hsize]; omega) hnews hd1 hroom
      (fun j hj => by
        rw [hsize, cell_of_row w g _ cur _ _ h5, Array.getElem?_eq_getElem (by omega)]
        rfl)
      (fun j hj => by
        simp only [World.frozen?, h5]
        rw [hsize]
        simp
        omega)
    rw [hsize, Nat.mul_one, Nat.zero_add] at hr
    refine ⟨_, _, hr, ⟨by simp; omega, ?_, _, cap, rfl, hroom, h4, (fun h => by simp at h), .inr ⟨g, 0, rfl, fun j u hj => ?_⟩⟩, fun B hB _ => below_setCells hB _ _ _⟩
    · intro u hu
      rcases List.mem_append.1 hu with h | h
      · exact h2 u h
      · exact hd1 u h
    · rw [Nat.zero_add]
      by_cases hj' : j < n
      · rw [List.getElem?_append_left (by omega)] at hj
        rw [World.cell?_setCells_out g ds n w ⟨g, j, none⟩ (fun _ _ => .inl hj')]
        exact hold j u hj
      · rw [List.getElem?_append_right (by omega), h1] at hj
        have hjd := (List.getElem?_eq_some_iff.1 hj).1
        have := World.cell?_setCells_in g ds n w (fun k hk => by
          rw [cell_of_row w g _ cur _ _ h5, Array.getElem?_eq_getElem (by omega)]
          rfl) (j - n) hjd
        rw [show n + (j - n) = j by omega] at this
        rw [this]
        rw [List.getElem?_eq_getElem hjd] at hj
        exact hj
  · obtain ⟨v', w', hr, h8, h9⟩ := run_append_arg_grows (P := Try.prog) w 22 ty 5 i _ 1 1 ht hi hz hsize hby hzs hsz ⟨g, 0, none⟩ n cap cs (by omega) (fun j u hj => by rw [Addr.add_lit, Nat.zero_add]; exact hold j u hj) ⟨b, off, none⟩ m c ds (by omega) hnews (by omega) (by unfold maxLen; omega) (by omega)
    have ho : Own w' w.heap.size 5 1 v' (n + m) (cs ++ ds) := Own.of_row h8 (by
      intro u hu
      rcases List.mem_append.1 hu with h | h
      · exact h2 u h
      · exact hd1 u h)
    have hk : Keeps (fun k => w.heap.size ≤ k) w w' := (Keeps.refl _ _).grown h9 (fun k hk => hk) (by simp)
    exact ⟨v', w', hr, ho.sl, fun B _ hB => hk.below (fun k hk => by omega)⟩

theorem wpList_appC {ops : Array Oper} {rest : List Oper} {o : Oper} {a : Act} {w : World} {Q : Exit → Act → World → Prop} (hgd : Region.wanted o (yielded ops a.tmps) = true) (s x : Operand)
    (ho : o.op = .call { callee := .builtin .append, args := #[s, x], argTypes := #[22, 22] }) {g n cap : Nat} (hs : a.eval s = .slice (some ⟨g, 0, none⟩) n cap)
    {cs : List Value} (hc : Cv w g n cap cs) {m : Nat} {ds : List Value} (hsl : Sl w 1 (a.eval x) m ds) (hm : 0 < m) (h63 : n + m ≤ 281474976710656) (h47 : n + m ≤ 140737488355328)
    (h : ∀ v' w', Sl w' 1 v' (n + m) (cs ++ ds) → (∀ B, B ≤ g → B ≤ w.heap.size → Below B w w') → wpList Try.prog ops Q rest (a.put o.dst v') w') : wpList Try.prog ops Q (o :: rest) a w := by
  obtain ⟨v', w', hr, h2, h3⟩ := run_appC (ty := o.type) hc hsl hm h63 h47
  refine wpList_want hgd fun K hK => ?_
  unfold Oper.wp execOp
  simp only [ho, resolve, invoke, builtin, Sem.run_bind, Sem.run_pure, Result.andThen_ok, List.map_toArray, List.map_cons, List.map_nil, hs, hr]
  exact hK _ _ (h v' w' h2 h3)
end Go.Proofs.Ytdmjliehobgknaa
