/- Texts of this proof, one behind the other: OwnZ, MTk, Name, Name2, MTk2, Conv, MMk, MRight. -/
import Derived.Test.YtpjkidcfidmfaaaMgA4
import Derived.Test.YtpjkidcfidmfaaaProg
import Derived.Lib.OthersKept
import Derived.Lib.RuneCount
import Derived.Lib.BufferRead
import Derived.Lib.ConvBytes
import Derived.ArgAppend
/- Slices of the call's own that begin anywhere in their block, of elements of any size: cut in front, appended to behind. No program. -/
namespace Go.Proofs.Ytpjkidcfidmfaaa
set_option linter.unusedSimpArgs false
set_option linter.unusedVariables false
open Go.RowKit
def OwnZ (w : World) (B : Nat) (e : TypeId) (sz : Nat) (v : Value) (n : Nat) (cs : List Value) : Prop :=
  cs.length = n * sz ∧ (∀ u ∈ cs, u.oneCell' = true) ∧
  ((∃ a, v = .slice a 0 0 ∧ n = 0) ∨
   ∃ g o cap cur, v = .slice (some ⟨g, o, none⟩) n cap ∧ B ≤ g ∧ w.heap[g]? = some (.cells cur e (0, 0)) ∧ n ≤ cap ∧ cap ≤ maxLen ∧ cur.size = o + cap * sz ∧ (cur.toList.drop o).take (n * sz) = cs)
theorem OwnZ.sl {w : World} {B : Nat} {e : TypeId} {sz : Nat} {v : Value} {n : Nat} {cs : List Value} (h : OwnZ w B e sz v n cs) : Sl w sz v n cs := by
  obtain ⟨h0, h1, ⟨a, rfl, rfl⟩ | ⟨g, o, cap, cur, rfl, h2, h3, h4, h5, h6, h7⟩⟩ := h
  · exact ⟨h0, h1, a, 0, rfl, Nat.le_refl _, Nat.zero_le _, fun _ => rfl, .inl (List.eq_nil_of_length_eq_zero (by simpa using h0))⟩
  · refine ⟨h0, h1, _, cap, rfl, h4, h5, fun h => by simp at h, .inr ⟨g, o, rfl, fun j u hj => ?_⟩⟩
    have hjl : j < n * sz := by have := (List.getElem?_eq_some_iff.1 hj).1; omega
    rw [← h7, List.getElem?_take, if_pos hjl, List.getElem?_drop] at hj
    rw [cell_of_row w g (o + j) cur e (0, 0) h3, ← Array.getElem?_toList]
    exact hj
theorem OwnZ.base {w : World} {B B' : Nat} {e : TypeId} {sz : Nat} {v : Value} {n : Nat} {cs : List Value} (h : OwnZ w B e sz v n cs) (hB : B' ≤ B) : OwnZ w B' e sz v n cs := by
  obtain ⟨h0, h1, h2 | ⟨g, o, cap, cur, hv, h2, hr⟩⟩ := h
  · exact ⟨h0, h1, .inl h2⟩
  · exact ⟨h0, h1, .inr ⟨g, o, cap, cur, hv, by omega, hr⟩⟩
theorem OwnZ.keep {w w' : World} {B : Nat} {e : TypeId} {sz : Nat} {v : Value} {n : Nat} {cs : List Value} {S : Nat → Prop} (h : OwnZ w B e sz v n cs) (hk : Keeps S w w') (hb : ∀ b, v.ownBlock = some b → ¬ S b) : OwnZ w' B e sz v n cs := by
  obtain ⟨h0, h1, h2 | ⟨g, o, cap, cur, rfl, h2, h3, hr⟩⟩ := h
  · exact ⟨h0, h1, .inl h2⟩
  · exact ⟨h0, h1, .inr ⟨g, o, cap, cur, rfl, h2, (hk.block g (hb g rfl)).trans h3, hr⟩⟩
theorem OwnZ.nil (w : World) (B : Nat) (e : TypeId) (sz : Nat) (a : Option Addr) : OwnZ w B e sz (.slice a 0 0) 0 [] := ⟨by simp, by simp, .inl ⟨a, rfl, rfl⟩⟩
theorem OwnZ.form {w : World} {B : Nat} {e : TypeId} {sz : Nat} {v : Value} {n : Nat} {cs : List Value} (h : OwnZ w B e sz v n cs) (hn : 0 < n) : ∃ g o cap, v = .slice (some ⟨g, o, none⟩) n cap ∧ B ≤ g ∧ n ≤ cap ∧ cap ≤ maxLen ∧ g < w.heap.size := by
  obtain ⟨h0, h1, ⟨a, rfl, rfl⟩ | ⟨g, o, cap, cur, rfl, h2, h3, h4, h5, h6, h7⟩⟩ := h
  · omega
  · exact ⟨g, o, cap, rfl, h2, h4, h5, block_lt h3⟩
/-- Where 's[i:]' begins: at the very end of the capacity the address stays. -/
def cutZ (g o cap i sz : Nat) : Option Addr := if cap = i then some ⟨g, o, none⟩ else some ⟨g, o + i * sz, none⟩
theorem cutZ_own (g o cap i sz n c : Nat) : (Value.slice (cutZ g o cap i sz) n c).ownBlock = some g := by
  unfold cutZ
  split <;> rfl
/-- Cut in front. -/
theorem OwnZ.cut {w : World} {B : Nat} {e : TypeId} {sz g o n cap : Nat} {cs : List Value} (h : OwnZ w B e sz (.slice (some ⟨g, o, none⟩) n cap) n cs) (k : Nat) (hk : k ≤ n) :
    OwnZ w B e sz (.slice (cutZ g o cap k sz) (n - k) (cap - k)) (n - k) (cs.drop (k * sz)) := by
  obtain ⟨h0, h1, ⟨a, hv, rfl⟩ | ⟨g', o', cap', cur, hv, h2, h3, h4, h5, h6, h7⟩⟩ := h
  · simp only [Value.slice.injEq] at hv
    obtain ⟨rfl, _, rfl⟩ := hv
    exact ⟨by simp [h0, Nat.sub_mul], fun u hu => h1 u (List.mem_of_mem_drop hu), .inl ⟨_, by rw [Nat.zero_sub], by omega⟩⟩
  · simp only [Value.slice.injEq, Option.some.injEq, Addr.mk.injEq, and_true, true_and] at hv
    obtain ⟨⟨rfl, rfl⟩, rfl⟩ := hv
    refine ⟨by simp [h0, Nat.sub_mul], fun u hu => h1 u (List.mem_of_mem_drop hu), ?_⟩
    unfold cutZ
    by_cases hc : cap = k
    · subst hc
      exact .inl ⟨_, by rw [if_pos rfl, Nat.sub_self, show n - cap = 0 by omega], by omega⟩
    · have hm : k * sz ≤ n * sz := Nat.mul_le_mul_right _ hk
      have hm2 : n * sz ≤ cap * sz := Nat.mul_le_mul_right _ h4
      refine .inr ⟨g, o + k * sz, cap - k, cur, by rw [if_neg hc], h2, h3, by omega, by omega, by rw [Nat.sub_mul]; omega, ?_⟩
      rw [← h7, List.drop_take, List.drop_drop, Nat.sub_mul]
theorem run_sliceZ {P : Program} {t e : TypeId} {sz : Nat} (ht : P.underlying t = some (.slice e)) (hs : ∀ w, (sizeOf e).run P w = .ok sz w) (g o n cap i : Nat) (hi : i ≤ n) (hc : n ≤ cap) (W : World) :
    (Instr.sliceAt t (.slice (some ⟨g, o, none⟩) n cap) (some (.int .i64 i)) none none).run P W = .ok (.slice (cutZ g o cap i sz) (n - i) (cap - i)) W := by
  have h2 : ¬ ((i : Int) < 0) := by omega
  have h3 : ¬ (n < i) := by omega
  by_cases h : cap = i
  · subst h
    simp [Instr.sliceAt, Instr.slice, Instr.sliceBounds, Instr.sliceBound, run_underlying ht, asIntOf, hs, h2, h3, hi, cutZ]
  · have h5 : ¬ cap - i = 0 := by omega
    have h6 : ¬ cap ≤ i := by omega
    simp [Instr.sliceAt, Instr.slice, Instr.sliceBounds, Instr.sliceBound, run_underlying ht, asIntOf, hs, h2, h3, hi, cutZ, h, h5, h6, Addr.add_lit]
/-- A slice of the call's own that begins anywhere: it may be cut in front and appended to. -/
def Res.ownZ (e : TypeId) (sz : Nat) (v : Value) (n : Nat) (cs : List Value) : Res where
  holds W F := OwnZ W 0 e sz v n cs ∧ (∀ b, v.ownBlock = some b → b < W.heap.size) ∧ ∀ b, F b ↔ v.ownBlock = some b
  frame := by
    rintro W W' F S ⟨h, hl, hf⟩ hk hs
    exact ⟨h.keep hk (fun b hb => hs b ((hf b).2 hb)), fun b hb => Nat.lt_of_lt_of_le (hl b hb) hk.size, hf⟩
  lt := by
    rintro W F b ⟨h, hl, hf⟩ hb
    exact hl b ((hf b).1 hb)
theorem Hold.cutZ {W : World} {l : List Res} {e : TypeId} {sz g o n cap : Nat} {cs : List Value} (h : Hold W (.ownZ e sz (.slice (some ⟨g, o, none⟩) n cap) n cs :: l)) (k : Nat) (hk : k ≤ n) :
    Hold W (.ownZ e sz (.slice (Go.Proofs.Ytpjkidcfidmfaaa.cutZ g o cap k sz) (n - k) (cap - k)) (n - k) (cs.drop (k * sz)) :: l) :=
  h.weaken fun F hF => ⟨F, ⟨hF.1.cut k hk, fun b hb => hF.2.1 b (by rw [cutZ_own] at hb; simpa [Value.ownBlock] using hb), fun b => by rw [cutZ_own]; simpa [Value.ownBlock] using hF.2.2 b⟩, fun _ h => h⟩
end Go.Proofs.Ytpjkidcfidmfaaa
/- Package tick's Taker: its state, in memory and in plain Lean; contracts of Take, next, Part. -/
namespace Go.Proofs.Ytpjkidcfidmfaaa
set_option linter.unusedSimpArgs false
set_option linter.unusedVariables false
open Go.RowKit
/-- The rest of a row behind its first elements. -/
theorem Sl.tailZ {w : World} {sz b o n cap : Nat} {cs : List Value} (h : Sl w sz (.slice (some ⟨b, o, none⟩) n cap) n cs) (i : Nat) (hi : i ≤ n) :
    Sl w sz (.slice (cutZ b o cap i sz) (n - i) (cap - i)) (n - i) (cs.drop (i * sz)) := by
  obtain ⟨a, c, e, h3, h4⟩ := h.form
  have hl := h.1
  simp only [Value.slice.injEq, true_and] at e
  obtain ⟨rfl, rfl⟩ := e
  unfold cutZ
  split
  · rename_i hc
    have hn : n - i = 0 := by omega
    rw [hn, show cap - i = 0 by omega, List.drop_of_length_le (by rw [hl]; exact Nat.mul_le_mul_right _ (by omega))]
    exact Sl.nil _ _ _
  · have := h.sub i (n - i) (cap - i) (by omega) (by omega) (by omega)
    rw [List.take_of_length_le (by rw [List.length_drop, hl, Nat.sub_mul]; exact Nat.le_refl _)] at this
    exact this
theorem wpList_val {P : Program} {ops : Array Oper} {rest : List Oper} {o : Oper} {a : Act} {w : World} {Q : Exit → Act → World → Prop} (hgd : Region.wanted o (yielded ops a.tmps) = true) {v : Value}
    (hr : (execOp a.eval o).run P w = .ok (.value v) w) (h : wpList P ops Q rest (a.put o.dst v) w) : wpList P ops Q (o :: rest) a w := by
  refine wpList_want hgd fun K hK => ?_
  unfold Oper.wp
  rw [hr]
  exact hK _ _ h
theorem exec_sliceL {P : Program} {o : Oper} {a : Act} {W : World} {t : TypeId} {x : Operand} {lo hi mx : Option Operand} (ho : o.op = .slice t x lo hi mx) {v : Value} (hr : (Instr.sliceAt t (a.eval x) (lo.map a.eval) (hi.map a.eval) (mx.map a.eval)).run P W = .ok v W) :
    (execOp a.eval o).run P W = .ok (.value v) W := by
  unfold execOp
  simp only [ho, Sem.run_bind, Sem.run_pure, hr, Result.andThen_ok]
theorem szDer : ∀ w, (sizeOf 38).run Try.prog w = .ok 5 w := by
  intro w
  obtain ⟨_, i, hi, _, hs, _⟩ := elDer
  simp [sizeOf, typeInfo, hi, hs]
/-- A taker at block p: the values that are left, and whether something was wrong. F: the blocks of the values. -/
def Tk (w : World) (F : Nat → Prop) (p : Nat) (rem : List Tv) (bad : Bool) : Prop :=
  ∃ lv rows, Blk w p [lv, .bool bad] 137 ∧ Sl w 5 lv rem.length rows ∧ (0 < rem.length → ∀ x, lv.ownBlock = some x → F x) ∧ TvsF w F rem rows ∧ ¬ F p
theorem Tk.lt {w : World} {F : Nat → Prop} {p : Nat} {rem : List Tv} {bad : Bool} (h : Tk w F p rem bad) : p < w.heap.size := by
  obtain ⟨lv, rows, h1, _⟩ := h
  exact h1.lt
theorem Tk.below {w w' : World} {F : Nat → Prop} {p : Nat} {rem : List Tv} {bad : Bool} (h : Tk w F p rem bad) (hb : Below w.heap.size w w') : Tk w' F p rem bad := by
  obtain ⟨lv, rows, h1, h2, h3, h4, h5⟩ := h
  exact ⟨lv, rows, h1.below hb h1.lt, h2.below hb, h3, h4.below hb, h5⟩
theorem Tk.keep {w w' : World} {F S : Nat → Prop} {p : Nat} {rem : List Tv} {bad : Bool} (h : Tk w F p rem bad) (hk : Keeps S w w') (hs : ∀ b, F b → b < w.heap.size → ¬ S b) (hp : ¬ S p) : Tk w' F p rem bad := by
  obtain ⟨lv, rows, h1, h2, h3, h4, h5⟩ := h
  exact ⟨lv, rows, h1.keep hk hp, h2.keepF hk h3 hs, h3, h4.keep hk hs, h5⟩
/-- The next part, of a kind, without a tag. -/
def nextS (k : Int) (rem : List Tv) (bad : Bool) : Tv × List Tv × Bool :=
  match rem with
  | [] => (.zero, [], true)
  | x :: r => if x.kind = k ∧ x.tag = 0 then (x, r, bad) else (.zero, [], true)
/-- The next part, a list with a tag. -/
def partS (t : Int) (rem : List Tv) (bad : Bool) : Tv × List Tv × Bool :=
  match rem with
  | [] => (.zero, [], true)
  | x :: r => if x.kind = 2 ∧ x.tag = t then (x, r, bad) else (.zero, [], true)
/-- What a taker's step leaves: only its own block is other than before. -/
def NxRes (w : World) (F : Nat → Prop) (p : Nat) (r : Tv × List Tv × Bool) (e : Ending) (w' : World) : Prop :=
  ∃ cs, e = .returned (.agg cs.toArray) ∧ TvF w' F r.1 cs ∧ Tk w' F p r.2.1 r.2.2 ∧ Keeps (fun b => b = p ∨ w.heap.size ≤ b) w w'
set_option maxHeartbeats 4000000 in
set_option maxRecDepth 100000 in
theorem take_any (x : Tv) (F : Nat → Prop) (cs : List Value) (w : World) (h : TvF w F x cs) (hF : ∀ b, F b → b < w.heap.size) :
    Calls Try.prog 34 #[.agg cs.toArray] w fun e w' => ∃ p, e = .returned (.pointer (some ⟨p, 0, none⟩)) ∧ Tk w' F p x.l false ∧ Below w.heap.size w w' ∧ w.heap.size ≤ p := by
  obtain ⟨bv, lv, rows, rfl, h1, h2, h3, h4, h5⟩ := h.open_
  obtain ⟨a, c, rfl, hc, hm⟩ := h3.form
  obtain ⟨a1, c1, rfl, hc1, hm1⟩ := h1.form
  have H3 := Lib.hid h3
  have H4 := Lib.hid h4
  have H5 := Lib.hid h5
  clear h h1 h2 h3 h4 h5
  go_enter Try.func34, Try.ntmps34
  go_wp2_with fail
  go_ret
  have hb : Below w.heap.size w ((w.alloc (.cells [.int .i64 x.kind, .int .i64 x.tag, .int .u64 (x.n : Int), .slice a1 x.b.length c1, .slice a x.l.length c].toArray 38)).alloc (.cells [.slice a x.l.length c, .bool false].toArray 137)) :=
    ((Below.refl _ _).alloc (Nat.le_refl _) _).alloc (by simp) _
  refine ⟨w.heap.size + 1, rfl, ⟨_, rows, Blk.at_ (by simp), H3.out.below hb, H4.out, H5.out.below hb, fun h => ?_⟩, hb, by omega⟩
  have := hF _ h
  omega
set_option maxHeartbeats 4000000 in
set_option maxRecDepth 100000 in
theorem next_any (k : Int) (rem : List Tv) (bad : Bool) (p : Nat) (F : Nat → Prop) (w : World) (h : Tk w F p rem bad) :
    Calls Try.prog 56 #[.pointer (some ⟨p, 0, none⟩), .int .i64 k] w (NxRes w F p (nextS k rem bad)) := by
  obtain ⟨lv, rows, h1, h2, h3, h4, h5⟩ := h
  obtain ⟨a, cap, rfl, hcap, hm⟩ := h2.form
  unfold maxLen at hm
  have hpl := h1.lt
  obtain ⟨W0, hW0⟩ : ∃ W0, W0 = w.alloc (.cells zs5.toArray 38) := ⟨_, rfl⟩
  obtain ⟨q, hq⟩ : ∃ q, q = w.heap.size := ⟨_, rfl⟩
  have hn0 : Blk W0 q zs5 38 := by rw [hW0, hq]; exact Blk.new _ _ _
  have HQS := Lib.hid hq
  have hqp : q ≠ p := by omega
  have HPQ : Hid (p ≠ q) := Lib.hid (by omega)
  have hend : ∀ W : World, Keeps (fun b => b = p ∨ w.heap.size ≤ b) w W → Blk W p [.slice none 0 0, .bool true] 137 → Tk W F p [] true :=
    fun W hk hb => ⟨_, [], hb, Sl.nil _ _ _, by simp, rfl, h5⟩
  have HEND := Lib.hid hend
  have HK0 : Hid (Keeps (fun b => b = p ∨ w.heap.size ≤ b) w W0) := Lib.hid (by rw [hW0]; exact (Keeps.refl _ _).alloc _ (.inr (Nat.le_refl _)))
  have hB0 : Below w.heap.size w W0 := by rw [hW0]; exact (Below.refl _ _).alloc (Nat.le_refl _) _
  replace h1 := h1.below hB0 hpl
  have c0 := h1.cell 0
  have f0 := h1.frozen 0
  have f1 := h1.frozen 1
  have c1 : W0.cell? ⟨p, 1, none⟩ = some (.bool bad) := h1.cell 1
  simp only [List.getElem?_cons_zero] at c0
  have H2 := Lib.hid (h2.below hB0)
  have H3 := Lib.hid h3
  have H4 := Lib.hid h4
  have H2w := Lib.hid h2
  have H5 := Lib.hid h5
  clear hend h3 h5 h4 h2
  cases rem with
  | nil =>
    have HR : Hid (nextS k [] bad = (.zero, [], true)) := Lib.hid rfl
    simp only [List.length_nil] at *
    obtain ⟨W2, hW2⟩ : ∃ W2, W2 = (W0.setCell ⟨p, 1, none⟩ (.bool true)).setCell ⟨p, 0, none⟩ (.slice none 0 0) := ⟨_, rfl⟩
    have HP2 : Hid (Blk W2 p [.slice none 0 0, .bool true] 137) := Lib.hid (by rw [hW2]; exact (h1.set 1 (.bool true)).set 0 (.slice none 0 0))
    have HQ2 : Hid (Blk W2 q zs5 38) := Lib.hid (by rw [hW2]; exact (hn0.set_other (p := ⟨p, 1, none⟩) hqp _).set_other (p := ⟨p, 0, none⟩) hqp _)
    have HK2 : Hid (Keeps (fun b => b = p ∨ w.heap.size ≤ b) w W2) := Lib.hid (by rw [hW2]; exact (HK0.out.setCell (p := ⟨p, 1, none⟩) (.inl rfl) _).setCell (p := ⟨p, 0, none⟩) (.inl rfl) _)
    clear h1 hn0
    go_enter Try.func56, Try.ntmps56
    go_upto_region 1 with fail
    show Code.wp _ _ _ _ (w.alloc (.cells zs5.toArray 38))
    rw [← hW0, ← hq]
    clear hW0 hq
    go_upto_region 3 with fail
    show Code.wp _ _ _ _ ((W0.setCell ⟨p, 1, none⟩ (.bool true)).setCell ⟨p, 0, none⟩ (.slice none 0 0))
    rw [← hW2]
    clear hW2
    go_wp2_with ((with_reducible show wpList _ _ _ (⟨none, .store _ (.tmp 4) (.tmp 39), _, _, _, _⟩ :: _) _ _); refine wpList_stAgg rfl (.tmp 4) (.tmp 39) aggDer rfl rfl (vs := zs5) rfl rfl HQ2.out (Nat.le_refl _) (by intro u hu; simp [zs5] at hu; rcases hu with rfl | rfl | rfl <;> rfl) ?_)
    intro w3 h3 k3
    have H3' : Hid (Blk w3 q zs5 38) := Lib.hid (by simpa [zs5] using h3)
    have HK3 : Hid (Keeps (fun b => b = p ∨ w.heap.size ≤ b) w w3) := Lib.hid (HK2.out.trans (k3.mono (fun b hb => .inr (by rw [hb, HQS.out]; exact Nat.le_refl _))))
    have HP3 := Lib.hid (HP2.out.keep k3 HPQ.out)
    clear h3 k3
    go_wp2_with fail
    rw [HR.out]
    exact bodyPost_ret (results_agg rfl aggDer rfl (cs := zs5) rfl H3'.out.cellsAll) rfl ⟨_, rfl, TvF.zero _ _, HEND.out w3 HK3.out HP3.out, HK3.out⟩
  | cons x r =>
    obtain ⟨r0, rs, e, hx, hr⟩ := H4.out
    subst e
    have hlen : ((x :: r).length : Int) = (r.length : Int) + 1 := by simp
    have hln : (x :: r).length = r.length + 1 := rfl
    obtain ⟨bv, lv2, rows2, e, hb1, hb2, hb3, hb4, hb5⟩ := hx.open_
    obtain ⟨b, off, rfl, hc⟩ := H2.out.addr (by rw [H2.out.1, hln]; omega)
    have cK := hc 0 (.int .i64 x.kind) (by simp [e])
    have cT := hc 1 (.int .i64 x.tag) (by simp [e])
    have hC5 : CellsAt W0 b off r0 := fun j u hj => hc j u (by rw [List.getElem?_append_left (List.getElem?_eq_some_iff.1 hj).1]; exact hj)
    have HC5 := Lib.hid hC5
    have HL5 := Lib.hid hx.length
    have HX := Lib.hid hx
    have HRS := Lib.hid hr
    have HB3 := Lib.hid (H3.out (by simp) b rfl)
    simp only [Nat.add_zero] at cK
    have hlz : ((((x :: r).length : Nat) : Int) == 0) = false := by simp; omega
    have hlp : 0 < (x :: r).length := by simp
    clear hc hC5 hx hr e hb1 hb2 hb3 hb4 hb5
    by_cases hk : x.kind = k
    · by_cases ht : x.tag = 0
      · have HR : Hid (nextS k (x :: r) bad = (x, r, bad)) := Lib.hid (by unfold nextS; exact if_pos ⟨hk, ht⟩)
        rw [hk] at cK
        rw [ht] at cT
        obtain ⟨q1, hq1⟩ : ∃ q1, q1 = W0.heap.size := ⟨_, rfl⟩
        have HG : Hid (Blk (W0.alloc (.cells zs5.toArray 38)) W0.heap.size zs5 38) := Lib.hid (Blk.new _ _ _)
        have HK1 : Hid (Keeps (fun b => b = p ∨ w.heap.size ≤ b) w (W0.alloc (.cells zs5.toArray 38))) := Lib.hid (HK0.out.alloc _ (.inr hB0.size))
        have HP1 : Hid (Blk (W0.alloc (.cells zs5.toArray 38)) p [.slice (some ⟨b, off, none⟩) (x :: r).length cap, .bool bad] 137) := Lib.hid (h1.alloc _)
        have HQ1 : Hid (Blk (W0.alloc (.cells zs5.toArray 38)) q zs5 38) := Lib.hid (hn0.alloc _)
        have hqlt := hn0.lt
        have HNE : Hid (p ≠ W0.heap.size ∧ q ≠ W0.heap.size ∧ w.heap.size ≤ W0.heap.size) := Lib.hid ⟨by have := h1.lt; omega, by omega, hB0.size⟩
        have HON := Lib.hid HX.out.one
        have HSL : Hid (∀ W, (Instr.sliceAt 36 (.slice (some ⟨b, off, none⟩) (r.length + 1) cap) (some (.int .i64 1)) none none).run Try.prog W = .ok (.slice (cutZ b off cap 1 5) r.length (cap - 1)) W) := Lib.hid (fun W => run_sliceZ Try.underlying36 szDer b off (r.length + 1) cap 1 (by omega) (by simpa using hcap) W)
        have HSR : Hid (Sl w 5 (.slice (cutZ b off cap 1 5) r.length (cap - 1)) r.length rs) := Lib.hid (by
          have h := H2w.out.tailZ 1 (by simp)
          rw [Nat.one_mul, List.drop_append_of_le_length (by rw [HL5.out]; exact Nat.le_refl _), List.drop_of_length_le (by rw [HL5.out]; exact Nat.le_refl _), List.nil_append] at h
          exact h)
        have hFR : 0 < r.length → ∀ y, (Value.slice (cutZ b off cap 1 5) r.length (cap - 1)).ownBlock = some y → F y := fun _ y hy => by
          have : b = y := by
            unfold cutZ at hy
            split at hy <;> simpa [Value.ownBlock] using hy
          rw [← this]; exact HB3.out
        have HFR := Lib.hid hFR
        have hBF : F b := HB3.out
        have hbp : b ≠ p := fun e => H5.out (by rw [← e]; exact hBF)
        rw [show (x :: r).length = r.length + 1 from rfl] at c0
        clear hcap hn0 h1 hlz hlen hln hFR hlp hqlt
        go_enter Try.func56, Try.ntmps56
        go_upto_region 1 with fail
        show Code.wp _ _ _ _ (w.alloc (.cells zs5.toArray 38))
        rw [← hW0, ← hq]
        clear hW0 hq
        go_wp2_with (first | ((with_reducible show wpList _ _ _ (⟨some 45, _, _, _, _, _⟩ :: _) _ _); refine wpList_ldAgg rfl (.tmp 44) aggDer rfl rfl (cs := r0) HL5.out HC5.out ?_) | ((with_reducible show wpList _ _ _ (⟨none, .store _ (.tmp 5) (.tmp 45), _, _, _, _⟩ :: _) _ _); refine wpList_stAgg rfl (.tmp 5) (.tmp 45) aggDer rfl rfl (vs := r0) rfl HL5.out HG.out (Nat.le_refl _) HON.out ?_))
        intro w4 h4 k4
        have H4' : Hid (Blk w4 W0.heap.size r0 38) := Lib.hid (by simpa [zs5] using h4)
        have HK4 : Hid (Keeps (fun b => b = p ∨ w.heap.size ≤ b) w w4) := Lib.hid (HK1.out.trans (k4.mono (fun b hb => .inr (by rw [hb]; exact HNE.out.2.2))))
        have hp4 := HP1.out.keep k4 HNE.out.1
        have HQ4 := Lib.hid (HQ1.out.keep k4 HNE.out.2.1)
        have c40 : w4.cell? ⟨p, 0, none⟩ = some (.slice (some ⟨b, off, none⟩) (r.length + 1) cap) := hp4.cell 0
        have f40 := hp4.frozen 0
        obtain ⟨W5, hW5⟩ : ∃ W5, W5 = w4.setCell ⟨p, 0, none⟩ (.slice (cutZ b off cap 1 5) r.length (cap - 1)) := ⟨_, rfl⟩
        have HP5 : Hid (Blk W5 p [.slice (cutZ b off cap 1 5) r.length (cap - 1), .bool bad] 137) := Lib.hid (by rw [hW5]; exact hp4.set 0 _)
        have HK5 : Hid (Keeps (fun b => b = p ∨ w.heap.size ≤ b) w W5) := Lib.hid (by rw [hW5]; exact HK4.out.setCell (p := ⟨p, 0, none⟩) (.inl rfl) _)
        have HQ5 : Hid (Blk W5 q zs5 38) := Lib.hid (by rw [hW5]; exact HQ4.out.set_other (p := ⟨p, 0, none⟩) hqp _)
        have HV5 : Hid (Blk W5 W0.heap.size r0 38) := Lib.hid (by rw [hW5]; exact H4'.out.set_other (p := ⟨p, 0, none⟩) (fun e => HNE.out.1 e.symm) _)
        clear h4 k4 hp4
        rw [← hq1] at *
        go_upto_region 6 with ((with_reducible show wpList _ _ _ (⟨some 51, _, _, _, _, _⟩ :: _) _ _); refine wpList_val rfl (exec_sliceL rfl (HSL.out _)) ?_)
        show Code.wp _ _ _ _ (w4.setCell ⟨p, 0, none⟩ (.slice (cutZ b off cap 1 5) r.length (cap - 1)))
        rw [← hW5]
        clear hW5
        go_wp2_with (first | ((with_reducible show wpList _ _ _ (⟨some 54, _, _, _, _, _⟩ :: _) _ _); refine wpList_ldAgg rfl (.tmp 5) aggDer rfl rfl (cs := r0) HL5.out HV5.out.cellsAll ?_) | ((with_reducible show wpList _ _ _ (⟨none, .store _ (.tmp 4) (.tmp 54), _, _, _, _⟩ :: _) _ _); refine wpList_stAgg rfl (.tmp 4) (.tmp 54) aggDer rfl rfl (vs := r0) rfl HL5.out HQ5.out (Nat.le_refl _) HON.out ?_))
        intro w6 h6 k6
        have H6 : Hid (Blk w6 q r0 38) := Lib.hid (by simpa [zs5] using h6)
        have HK6 : Hid (Keeps (fun b => b = p ∨ w.heap.size ≤ b) w w6) := Lib.hid (HK5.out.trans (k6.mono (fun b hb => .inr (by rw [hb, HQS.out]; exact Nat.le_refl _))))
        have HP6 := Lib.hid (HP5.out.keep k6 HPQ.out)
        clear h6 k6
        go_wp2_with fail
        rw [HR.out]
        have hs : ∀ y, F y → y < w.heap.size → ¬ (y = p ∨ w.heap.size ≤ y) := fun y hy hl h => by
          rcases h with h | h
          · exact H5.out (by rw [← h]; exact hy)
          · omega
        exact bodyPost_ret (results_agg rfl aggDer rfl (cs := r0) HL5.out H6.out.cellsAll) rfl ⟨r0, rfl, HX.out.keep HK6.out hs, ⟨_, rs, HP6.out, HSR.out.keepF HK6.out HFR.out hs, HFR.out, HRS.out.keep HK6.out hs, H5.out⟩, HK6.out⟩
      · have HR : Hid (nextS k (x :: r) bad = (.zero, [], true)) := Lib.hid (by unfold nextS; exact if_neg (fun h => ht h.2))
        have htb : (x.tag != 0) = true := by simpa using ht
        rw [hk] at cK
        generalize x.tag = xt at *
        generalize (x :: r).length = N at *
        clear hlen hln ht
        obtain ⟨W2, hW2⟩ : ∃ W2, W2 = (W0.setCell ⟨p, 1, none⟩ (.bool true)).setCell ⟨p, 0, none⟩ (.slice none 0 0) := ⟨_, rfl⟩
        have HP2 : Hid (Blk W2 p [.slice none 0 0, .bool true] 137) := Lib.hid (by rw [hW2]; exact (h1.set 1 (.bool true)).set 0 (.slice none 0 0))
        have HQ2 : Hid (Blk W2 q zs5 38) := Lib.hid (by rw [hW2]; exact (hn0.set_other (p := ⟨p, 1, none⟩) hqp _).set_other (p := ⟨p, 0, none⟩) hqp _)
        have HK2 : Hid (Keeps (fun b => b = p ∨ w.heap.size ≤ b) w W2) := Lib.hid (by rw [hW2]; exact (HK0.out.setCell (p := ⟨p, 1, none⟩) (.inl rfl) _).setCell (p := ⟨p, 0, none⟩) (.inl rfl) _)
        clear h1 hn0
        go_enter Try.func56, Try.ntmps56
        go_upto_region 1 with fail
        show Code.wp _ _ _ _ (w.alloc (.cells zs5.toArray 38))
        rw [← hW0, ← hq]
        clear hW0 hq
        go_upto_region 3 with fail
        show Code.wp _ _ _ _ ((W0.setCell ⟨p, 1, none⟩ (.bool true)).setCell ⟨p, 0, none⟩ (.slice none 0 0))
        rw [← hW2]
        clear hW2
        go_wp2_with ((with_reducible show wpList _ _ _ (⟨none, .store _ (.tmp 4) (.tmp 39), _, _, _, _⟩ :: _) _ _); refine wpList_stAgg rfl (.tmp 4) (.tmp 39) aggDer rfl rfl (vs := zs5) rfl rfl HQ2.out (Nat.le_refl _) (by intro u hu; simp [zs5] at hu; rcases hu with rfl | rfl | rfl <;> rfl) ?_)
        intro w3 h3 k3
        have H3' : Hid (Blk w3 q zs5 38) := Lib.hid (by simpa [zs5] using h3)
        have HK3 : Hid (Keeps (fun b => b = p ∨ w.heap.size ≤ b) w w3) := Lib.hid (HK2.out.trans (k3.mono (fun b hb => .inr (by rw [hb, HQS.out]; exact Nat.le_refl _))))
        have HP3 := Lib.hid (HP2.out.keep k3 HPQ.out)
        clear h3 k3
        go_wp2_with fail
        rw [HR.out]
        exact bodyPost_ret (results_agg rfl aggDer rfl (cs := zs5) rfl H3'.out.cellsAll) rfl ⟨_, rfl, TvF.zero _ _, HEND.out w3 HK3.out HP3.out, HK3.out⟩
    · have HR : Hid (nextS k (x :: r) bad = (.zero, [], true)) := Lib.hid (by unfold nextS; exact if_neg (fun h => hk h.1))
      have hkb : (x.kind != k) = true := by simpa using hk
      generalize x.kind = xk at *
      generalize (x :: r).length = N at *
      clear hlen hln hk
      obtain ⟨W2, hW2⟩ : ∃ W2, W2 = (W0.setCell ⟨p, 1, none⟩ (.bool true)).setCell ⟨p, 0, none⟩ (.slice none 0 0) := ⟨_, rfl⟩
      have HP2 : Hid (Blk W2 p [.slice none 0 0, .bool true] 137) := Lib.hid (by rw [hW2]; exact (h1.set 1 (.bool true)).set 0 (.slice none 0 0))
      have HQ2 : Hid (Blk W2 q zs5 38) := Lib.hid (by rw [hW2]; exact (hn0.set_other (p := ⟨p, 1, none⟩) hqp _).set_other (p := ⟨p, 0, none⟩) hqp _)
      have HK2 : Hid (Keeps (fun b => b = p ∨ w.heap.size ≤ b) w W2) := Lib.hid (by rw [hW2]; exact (HK0.out.setCell (p := ⟨p, 1, none⟩) (.inl rfl) _).setCell (p := ⟨p, 0, none⟩) (.inl rfl) _)
      clear h1 hn0
      go_enter Try.func56, Try.ntmps56
      go_upto_region 1 with fail
      show Code.wp _ _ _ _ (w.alloc (.cells zs5.toArray 38))
      rw [← hW0, ← hq]
      clear hW0 hq
      go_upto_region 3 with fail
      show Code.wp _ _ _ _ ((W0.setCell ⟨p, 1, none⟩ (.bool true)).setCell ⟨p, 0, none⟩ (.slice none 0 0))
      rw [← hW2]
      clear hW2
      go_wp2_with ((with_reducible show wpList _ _ _ (⟨none, .store _ (.tmp 4) (.tmp 39), _, _, _, _⟩ :: _) _ _); refine wpList_stAgg rfl (.tmp 4) (.tmp 39) aggDer rfl rfl (vs := zs5) rfl rfl HQ2.out (Nat.le_refl _) (by intro u hu; simp [zs5] at hu; rcases hu with rfl | rfl | rfl <;> rfl) ?_)
      intro w3 h3 k3
      have H3' : Hid (Blk w3 q zs5 38) := Lib.hid (by simpa [zs5] using h3)
      have HK3 : Hid (Keeps (fun b => b = p ∨ w.heap.size ≤ b) w w3) := Lib.hid (HK2.out.trans (k3.mono (fun b hb => .inr (by rw [hb, HQS.out]; exact Nat.le_refl _))))
      have HP3 := Lib.hid (HP2.out.keep k3 HPQ.out)
      clear h3 k3
      go_wp2_with fail
      rw [HR.out]
      exact bodyPost_ret (results_agg rfl aggDer rfl (cs := zs5) rfl H3'.out.cellsAll) rfl ⟨_, rfl, TvF.zero _ _, HEND.out w3 HK3.out HP3.out, HK3.out⟩
set_option maxHeartbeats 4000000 in
set_option maxRecDepth 100000 in
theorem part_any (k : Int) (rem : List Tv) (bad : Bool) (p : Nat) (F : Nat → Prop) (w : World) (h : Tk w F p rem bad) :
    Calls Try.prog 58 #[.pointer (some ⟨p, 0, none⟩), .int .i64 k] w (NxRes w F p (partS k rem bad)) := by
  obtain ⟨lv, rows, h1, h2, h3, h4, h5⟩ := h
  obtain ⟨a, cap, rfl, hcap, hm⟩ := h2.form
  unfold maxLen at hm
  have hpl := h1.lt
  obtain ⟨W0, hW0⟩ : ∃ W0, W0 = w.alloc (.cells zs5.toArray 38) := ⟨_, rfl⟩
  obtain ⟨q, hq⟩ : ∃ q, q = w.heap.size := ⟨_, rfl⟩
  have hn0 : Blk W0 q zs5 38 := by rw [hW0, hq]; exact Blk.new _ _ _
  have HQS := Lib.hid hq
  have hqp : q ≠ p := by omega
  have HPQ : Hid (p ≠ q) := Lib.hid (by omega)
  have hend : ∀ W : World, Keeps (fun b => b = p ∨ w.heap.size ≤ b) w W → Blk W p [.slice none 0 0, .bool true] 137 → Tk W F p [] true :=
    fun W hk hb => ⟨_, [], hb, Sl.nil _ _ _, by simp, rfl, h5⟩
  have HEND := Lib.hid hend
  have HK0 : Hid (Keeps (fun b => b = p ∨ w.heap.size ≤ b) w W0) := Lib.hid (by rw [hW0]; exact (Keeps.refl _ _).alloc _ (.inr (Nat.le_refl _)))
  have hB0 : Below w.heap.size w W0 := by rw [hW0]; exact (Below.refl _ _).alloc (Nat.le_refl _) _
  replace h1 := h1.below hB0 hpl
  have c0 := h1.cell 0
  have f0 := h1.frozen 0
  have f1 := h1.frozen 1
  have c1 : W0.cell? ⟨p, 1, none⟩ = some (.bool bad) := h1.cell 1
  simp only [List.getElem?_cons_zero] at c0
  have H2 := Lib.hid (h2.below hB0)
  have H3 := Lib.hid h3
  have H4 := Lib.hid h4
  have H2w := Lib.hid h2
  have H5 := Lib.hid h5
  clear hend h3 h5 h4 h2
  cases rem with
  | nil =>
    have HR : Hid (partS k [] bad = (.zero, [], true)) := Lib.hid rfl
    simp only [List.length_nil] at *
    obtain ⟨W2, hW2⟩ : ∃ W2, W2 = (W0.setCell ⟨p, 1, none⟩ (.bool true)).setCell ⟨p, 0, none⟩ (.slice none 0 0) := ⟨_, rfl⟩
    have HP2 : Hid (Blk W2 p [.slice none 0 0, .bool true] 137) := Lib.hid (by rw [hW2]; exact (h1.set 1 (.bool true)).set 0 (.slice none 0 0))
    have HQ2 : Hid (Blk W2 q zs5 38) := Lib.hid (by rw [hW2]; exact (hn0.set_other (p := ⟨p, 1, none⟩) hqp _).set_other (p := ⟨p, 0, none⟩) hqp _)
    have HK2 : Hid (Keeps (fun b => b = p ∨ w.heap.size ≤ b) w W2) := Lib.hid (by rw [hW2]; exact (HK0.out.setCell (p := ⟨p, 1, none⟩) (.inl rfl) _).setCell (p := ⟨p, 0, none⟩) (.inl rfl) _)
    clear h1 hn0
    go_enter Try.func58, Try.ntmps58
    go_upto_region 1 with fail
    show Code.wp _ _ _ _ (w.alloc (.cells zs5.toArray 38))
    rw [← hW0, ← hq]
    clear hW0 hq
    go_upto_region 3 with fail
    show Code.wp _ _ _ _ ((W0.setCell ⟨p, 1, none⟩ (.bool true)).setCell ⟨p, 0, none⟩ (.slice none 0 0))
    rw [← hW2]
    clear hW2
    go_wp2_with ((with_reducible show wpList _ _ _ (⟨none, .store _ (.tmp 4) (.tmp 39), _, _, _, _⟩ :: _) _ _); refine wpList_stAgg rfl (.tmp 4) (.tmp 39) aggDer rfl rfl (vs := zs5) rfl rfl HQ2.out (Nat.le_refl _) (by intro u hu; simp [zs5] at hu; rcases hu with rfl | rfl | rfl <;> rfl) ?_)
    intro w3 h3 k3
    have H3' : Hid (Blk w3 q zs5 38) := Lib.hid (by simpa [zs5] using h3)
    have HK3 : Hid (Keeps (fun b => b = p ∨ w.heap.size ≤ b) w w3) := Lib.hid (HK2.out.trans (k3.mono (fun b hb => .inr (by rw [hb, HQS.out]; exact Nat.le_refl _))))
    have HP3 := Lib.hid (HP2.out.keep k3 HPQ.out)
    clear h3 k3
    go_wp2_with fail
    rw [HR.out]
    exact bodyPost_ret (results_agg rfl aggDer rfl (cs := zs5) rfl H3'.out.cellsAll) rfl ⟨_, rfl, TvF.zero _ _, HEND.out w3 HK3.out HP3.out, HK3.out⟩
  | cons x r =>
    obtain ⟨r0, rs, e, hx, hr⟩ := H4.out
    subst e
    have hlen : ((x :: r).length : Int) = (r.length : Int) + 1 := by simp
    have hln : (x :: r).length = r.length + 1 := rfl
    obtain ⟨bv, lv2, rows2, e, hb1, hb2, hb3, hb4, hb5⟩ := hx.open_
    obtain ⟨b, off, rfl, hc⟩ := H2.out.addr (by rw [H2.out.1, hln]; omega)
    have cK := hc 0 (.int .i64 x.kind) (by simp [e])
    have cT := hc 1 (.int .i64 x.tag) (by simp [e])
    have hC5 : CellsAt W0 b off r0 := fun j u hj => hc j u (by rw [List.getElem?_append_left (List.getElem?_eq_some_iff.1 hj).1]; exact hj)
    have HC5 := Lib.hid hC5
    have HL5 := Lib.hid hx.length
    have HX := Lib.hid hx
    have HRS := Lib.hid hr
    have HB3 := Lib.hid (H3.out (by simp) b rfl)
    simp only [Nat.add_zero] at cK
    have hlz : ((((x :: r).length : Nat) : Int) == 0) = false := by simp; omega
    have hlp : 0 < (x :: r).length := by simp
    clear hc hC5 hx hr e hb1 hb2 hb3 hb4 hb5
    by_cases hk : x.kind = 2
    · by_cases ht : x.tag = k
      · have HR : Hid (partS k (x :: r) bad = (x, r, bad)) := Lib.hid (by unfold partS; exact if_pos ⟨hk, ht⟩)
        rw [hk] at cK
        rw [ht] at cT
        obtain ⟨q1, hq1⟩ : ∃ q1, q1 = W0.heap.size := ⟨_, rfl⟩
        have HG : Hid (Blk (W0.alloc (.cells zs5.toArray 38)) W0.heap.size zs5 38) := Lib.hid (Blk.new _ _ _)
        have HK1 : Hid (Keeps (fun b => b = p ∨ w.heap.size ≤ b) w (W0.alloc (.cells zs5.toArray 38))) := Lib.hid (HK0.out.alloc _ (.inr hB0.size))
        have HP1 : Hid (Blk (W0.alloc (.cells zs5.toArray 38)) p [.slice (some ⟨b, off, none⟩) (x :: r).length cap, .bool bad] 137) := Lib.hid (h1.alloc _)
        have HQ1 : Hid (Blk (W0.alloc (.cells zs5.toArray 38)) q zs5 38) := Lib.hid (hn0.alloc _)
        have hqlt := hn0.lt
        have HNE : Hid (p ≠ W0.heap.size ∧ q ≠ W0.heap.size ∧ w.heap.size ≤ W0.heap.size) := Lib.hid ⟨by have := h1.lt; omega, by omega, hB0.size⟩
        have HON := Lib.hid HX.out.one
        have HSL : Hid (∀ W, (Instr.sliceAt 36 (.slice (some ⟨b, off, none⟩) (r.length + 1) cap) (some (.int .i64 1)) none none).run Try.prog W = .ok (.slice (cutZ b off cap 1 5) r.length (cap - 1)) W) := Lib.hid (fun W => run_sliceZ Try.underlying36 szDer b off (r.length + 1) cap 1 (by omega) (by simpa using hcap) W)
        have HSR : Hid (Sl w 5 (.slice (cutZ b off cap 1 5) r.length (cap - 1)) r.length rs) := Lib.hid (by
          have h := H2w.out.tailZ 1 (by simp)
          rw [Nat.one_mul, List.drop_append_of_le_length (by rw [HL5.out]; exact Nat.le_refl _), List.drop_of_length_le (by rw [HL5.out]; exact Nat.le_refl _), List.nil_append] at h
          exact h)
        have hFR : 0 < r.length → ∀ y, (Value.slice (cutZ b off cap 1 5) r.length (cap - 1)).ownBlock = some y → F y := fun _ y hy => by
          have : b = y := by
            unfold cutZ at hy
            split at hy <;> simpa [Value.ownBlock] using hy
          rw [← this]; exact HB3.out
        have HFR := Lib.hid hFR
        have hBF : F b := HB3.out
        have hbp : b ≠ p := fun e => H5.out (by rw [← e]; exact hBF)
        rw [show (x :: r).length = r.length + 1 from rfl] at c0
        clear hcap hn0 h1 hlz hlen hln hFR hlp hqlt
        go_enter Try.func58, Try.ntmps58
        go_upto_region 1 with fail
        show Code.wp _ _ _ _ (w.alloc (.cells zs5.toArray 38))
        rw [← hW0, ← hq]
        clear hW0 hq
        go_wp2_with (first | ((with_reducible show wpList _ _ _ (⟨some 45, _, _, _, _, _⟩ :: _) _ _); refine wpList_ldAgg rfl (.tmp 44) aggDer rfl rfl (cs := r0) HL5.out HC5.out ?_) | ((with_reducible show wpList _ _ _ (⟨none, .store _ (.tmp 5) (.tmp 45), _, _, _, _⟩ :: _) _ _); refine wpList_stAgg rfl (.tmp 5) (.tmp 45) aggDer rfl rfl (vs := r0) rfl HL5.out HG.out (Nat.le_refl _) HON.out ?_))
        intro w4 h4 k4
        have H4' : Hid (Blk w4 W0.heap.size r0 38) := Lib.hid (by simpa [zs5] using h4)
        have HK4 : Hid (Keeps (fun b => b = p ∨ w.heap.size ≤ b) w w4) := Lib.hid (HK1.out.trans (k4.mono (fun b hb => .inr (by rw [hb]; exact HNE.out.2.2))))
        have hp4 := HP1.out.keep k4 HNE.out.1
        have HQ4 := Lib.hid (HQ1.out.keep k4 HNE.out.2.1)
        have c40 : w4.cell? ⟨p, 0, none⟩ = some (.slice (some ⟨b, off, none⟩) (r.length + 1) cap) := hp4.cell 0
        have f40 := hp4.frozen 0
        obtain ⟨W5, hW5⟩ : ∃ W5, W5 = w4.setCell ⟨p, 0, none⟩ (.slice (cutZ b off cap 1 5) r.length (cap - 1)) := ⟨_, rfl⟩
        have HP5 : Hid (Blk W5 p [.slice (cutZ b off cap 1 5) r.length (cap - 1), .bool bad] 137) := Lib.hid (by rw [hW5]; exact hp4.set 0 _)
        have HK5 : Hid (Keeps (fun b => b = p ∨ w.heap.size ≤ b) w W5) := Lib.hid (by rw [hW5]; exact HK4.out.setCell (p := ⟨p, 0, none⟩) (.inl rfl) _)
        have HQ5 : Hid (Blk W5 q zs5 38) := Lib.hid (by rw [hW5]; exact HQ4.out.set_other (p := ⟨p, 0, none⟩) hqp _)
        have HV5 : Hid (Blk W5 W0.heap.size r0 38) := Lib.hid (by rw [hW5]; exact H4'.out.set_other (p := ⟨p, 0, none⟩) (fun e => HNE.out.1 e.symm) _)
        clear h4 k4 hp4
        rw [← hq1] at *
        go_upto_region 6 with ((with_reducible show wpList _ _ _ (⟨some 51, _, _, _, _, _⟩ :: _) _ _); refine wpList_val rfl (exec_sliceL rfl (HSL.out _)) ?_)
        show Code.wp _ _ _ _ (w4.setCell ⟨p, 0, none⟩ (.slice (cutZ b off cap 1 5) r.length (cap - 1)))
        rw [← hW5]
        clear hW5
        go_wp2_with (first | ((with_reducible show wpList _ _ _ (⟨some 54, _, _, _, _, _⟩ :: _) _ _); refine wpList_ldAgg rfl (.tmp 5) aggDer rfl rfl (cs := r0) HL5.out HV5.out.cellsAll ?_) | ((with_reducible show wpList _ _ _ (⟨none, .store _ (.tmp 4) (.tmp 54), _, _, _, _⟩ :: _) _ _); refine wpList_stAgg rfl (.tmp 4) (.tmp 54) aggDer rfl rfl (vs := r0) rfl HL5.out HQ5.out (Nat.le_refl _) HON.out ?_))
        intro w6 h6 k6
        have H6 : Hid (Blk w6 q r0 38) := Lib.hid (by simpa [zs5] using h6)
        have HK6 : Hid (Keeps (fun b => b = p ∨ w.heap.size ≤ b) w w6) := Lib.hid (HK5.out.trans (k6.mono (fun b hb => .inr (by rw [hb, HQS.out]; exact Nat.le_refl _))))
        have HP6 := Lib.hid (HP5.out.keep k6 HPQ.out)
        clear h6 k6
        go_wp2_with fail
        rw [HR.out]
        have hs : ∀ y, F y → y < w.heap.size → ¬ (y = p ∨ w.heap.size ≤ y) := fun y hy hl h => by
          rcases h with h | h
          · exact H5.out (by rw [← h]; exact hy)
          · omega
        exact bodyPost_ret (results_agg rfl aggDer rfl (cs := r0) HL5.out H6.out.cellsAll) rfl ⟨r0, rfl, HX.out.keep HK6.out hs, ⟨_, rs, HP6.out, HSR.out.keepF HK6.out HFR.out hs, HFR.out, HRS.out.keep HK6.out hs, H5.out⟩, HK6.out⟩
      · have HR : Hid (partS k (x :: r) bad = (.zero, [], true)) := Lib.hid (by unfold partS; exact if_neg (fun h => ht h.2))
        have htb : (x.tag != k) = true := by simpa using ht
        rw [hk] at cK
        generalize x.tag = xt at *
        generalize (x :: r).length = N at *
        clear hlen hln ht
        obtain ⟨W2, hW2⟩ : ∃ W2, W2 = (W0.setCell ⟨p, 1, none⟩ (.bool true)).setCell ⟨p, 0, none⟩ (.slice none 0 0) := ⟨_, rfl⟩
        have HP2 : Hid (Blk W2 p [.slice none 0 0, .bool true] 137) := Lib.hid (by rw [hW2]; exact (h1.set 1 (.bool true)).set 0 (.slice none 0 0))
        have HQ2 : Hid (Blk W2 q zs5 38) := Lib.hid (by rw [hW2]; exact (hn0.set_other (p := ⟨p, 1, none⟩) hqp _).set_other (p := ⟨p, 0, none⟩) hqp _)
        have HK2 : Hid (Keeps (fun b => b = p ∨ w.heap.size ≤ b) w W2) := Lib.hid (by rw [hW2]; exact (HK0.out.setCell (p := ⟨p, 1, none⟩) (.inl rfl) _).setCell (p := ⟨p, 0, none⟩) (.inl rfl) _)
        clear h1 hn0
        go_enter Try.func58, Try.ntmps58
        go_upto_region 1 with fail
        show Code.wp _ _ _ _ (w.alloc (.cells zs5.toArray 38))
        rw [← hW0, ← hq]
        clear hW0 hq
        go_upto_region 3 with fail
        show Code.wp _ _ _ _ ((W0.setCell ⟨p, 1, none⟩ (.bool true)).setCell ⟨p, 0, none⟩ (.slice none 0 0))
        rw [← hW2]
        clear hW2
        go_wp2_with ((with_reducible show wpList _ _ _ (⟨none, .store _ (.tmp 4) (.tmp 39), _, _, _, _⟩ :: _) _ _); refine wpList_stAgg rfl (.tmp 4) (.tmp 39) aggDer rfl rfl (vs := zs5) rfl rfl HQ2.out (Nat.le_refl _) (by intro u hu; simp [zs5] at hu; rcases hu with rfl | rfl | rfl <;> rfl) ?_)
        intro w3 h3 k3
        have H3' : Hid (Blk w3 q zs5 38) := Lib.hid (by simpa [zs5] using h3)
        have HK3 : Hid (Keeps (fun b => b = p ∨ w.heap.size ≤ b) w w3) := Lib.hid (HK2.out.trans (k3.mono (fun b hb => .inr (by rw [hb, HQS.out]; exact Nat.le_refl _))))
        have HP3 := Lib.hid (HP2.out.keep k3 HPQ.out)
        clear h3 k3
        go_wp2_with fail
        rw [HR.out]
        exact bodyPost_ret (results_agg rfl aggDer rfl (cs := zs5) rfl H3'.out.cellsAll) rfl ⟨_, rfl, TvF.zero _ _, HEND.out w3 HK3.out HP3.out, HK3.out⟩
    · have HR : Hid (partS k (x :: r) bad = (.zero, [], true)) := Lib.hid (by unfold partS; exact if_neg (fun h => hk h.1))
      have hkb : (x.kind != 2) = true := by simpa using hk
      generalize x.kind = xk at *
      generalize (x :: r).length = N at *
      clear hlen hln hk
      obtain ⟨W2, hW2⟩ : ∃ W2, W2 = (W0.setCell ⟨p, 1, none⟩ (.bool true)).setCell ⟨p, 0, none⟩ (.slice none 0 0) := ⟨_, rfl⟩
      have HP2 : Hid (Blk W2 p [.slice none 0 0, .bool true] 137) := Lib.hid (by rw [hW2]; exact (h1.set 1 (.bool true)).set 0 (.slice none 0 0))
      have HQ2 : Hid (Blk W2 q zs5 38) := Lib.hid (by rw [hW2]; exact (hn0.set_other (p := ⟨p, 1, none⟩) hqp _).set_other (p := ⟨p, 0, none⟩) hqp _)
      have HK2 : Hid (Keeps (fun b => b = p ∨ w.heap.size ≤ b) w W2) := Lib.hid (by rw [hW2]; exact (HK0.out.setCell (p := ⟨p, 1, none⟩) (.inl rfl) _).setCell (p := ⟨p, 0, none⟩) (.inl rfl) _)
      clear h1 hn0
      go_enter Try.func58, Try.ntmps58
      go_upto_region 1 with fail
      show Code.wp _ _ _ _ (w.alloc (.cells zs5.toArray 38))
      rw [← hW0, ← hq]
      clear hW0 hq
      go_upto_region 3 with fail
      show Code.wp _ _ _ _ ((W0.setCell ⟨p, 1, none⟩ (.bool true)).setCell ⟨p, 0, none⟩ (.slice none 0 0))
      rw [← hW2]
      clear hW2
      go_wp2_with ((with_reducible show wpList _ _ _ (⟨none, .store _ (.tmp 4) (.tmp 39), _, _, _, _⟩ :: _) _ _); refine wpList_stAgg rfl (.tmp 4) (.tmp 39) aggDer rfl rfl (vs := zs5) rfl rfl HQ2.out (Nat.le_refl _) (by intro u hu; simp [zs5] at hu; rcases hu with rfl | rfl | rfl <;> rfl) ?_)
      intro w3 h3 k3
      have H3' : Hid (Blk w3 q zs5 38) := Lib.hid (by simpa [zs5] using h3)
      have HK3 : Hid (Keeps (fun b => b = p ∨ w.heap.size ≤ b) w w3) := Lib.hid (HK2.out.trans (k3.mono (fun b hb => .inr (by rw [hb, HQS.out]; exact Nat.le_refl _))))
      have HP3 := Lib.hid (HP2.out.keep k3 HPQ.out)
      clear h3 k3
      go_wp2_with fail
      rw [HR.out]
      exact bodyPost_ret (results_agg rfl aggDer rfl (cs := zs5) rfl H3'.out.cellsAll) rfl ⟨_, rfl, TvF.zero _ _, HEND.out w3 HK3.out HP3.out, HK3.out⟩
end Go.Proofs.Ytpjkidcfidmfaaa
/- Contracts of package name, rune by rune: in, Letter, Big; and of the document's Letter. -/
namespace Go.Proofs.Ytpjkidcfidmfaaa
set_option linter.unusedSimpArgs false
set_option linter.unusedVariables false
open Go.RowKit
theorem flatten_at {α : Type} {n : Nat} (f : α → List Value) (hf : ∀ x, (f x).length = n) : ∀ (l : List α) (k j : Nat) (h : k < l.length), j < n → ((l.map f).flatten)[k * n + j]? = (f l[k])[j]?
  | [], k, j, h, _ => by simp at h
  | x :: l, 0, j, h, hj => by
    simp only [List.map_cons, List.flatten_cons, Nat.zero_mul, Nat.zero_add, List.getElem_cons_zero]
    rw [List.getElem?_append_left (by rw [hf]; exact hj)]
  | x :: l, k + 1, j, h, hj => by
    simp only [List.map_cons, List.flatten_cons, List.getElem_cons_succ]
    rw [List.getElem?_append_right (by rw [hf, Nat.add_mul]; omega), hf, show (k + 1) * n + j - n = k * n + j by rw [Nat.add_mul]; omega]
    exact flatten_at f hf l k j (by simpa using h) hj
/-- Runes from one to another one. -/
abbrev Sp := Int × Int
def Sp.cells (x : Sp) : List Value := [.int .i32 x.1, .int .i32 x.2]
def spCells (l : List Sp) : List Value := (l.map Sp.cells).flatten
def Sp.has (r : Int) (x : Sp) : Bool := decide (x.1 ≤ r) && decide (r ≤ x.2)
def inB (r : Int) (l : List Sp) : Bool := l.any (Sp.has r)
set_option maxRecDepth 100000 in
theorem in_any (r : Int) (v : Value) (l : List Sp) (w : World) (h : Sl w 2 v l.length (spCells l)) :
    Calls Try.prog 67 #[.int .i32 r, v] w fun e w' => e = .returned (.bool (inB r l)) ∧ Below w.heap.size w w' := by
  obtain ⟨a, cap, rfl, hcap, hcm⟩ := h.form
  unfold maxLen at hcm
  have HS := Lib.hid h
  have hcl : (spCells l).length = l.length * 2 := h.1
  clear h
  go_enter Try.func67, Try.ntmps67
  go_wp2_with fail
  go_loopw [9] (fun i wr => ∃ k : Nat, k ≤ l.length ∧ i = .int .i64 k ∧ (l.take k).any (Sp.has r) = false ∧ Below w.heap.size w wr) (fun i _ => l.length - (intOf i).toNat)
  case atStart => exact ⟨0, Nat.zero_le _, rfl, rfl, Below.refl _ _⟩
  case round =>
    obtain ⟨k, hk, rfl, hno, hB⟩ := hrel
    have HNO := Lib.hid hno
    have HB := Lib.hid hB
    clear hno hB
    by_cases hlt : k < l.length
    · have hlt1 : (k : Int) < (l.length : Int) := by omega
      obtain ⟨b, off, rfl, hcell⟩ := HS.out.addr (by omega)
      have c0 : wr.cell? ⟨b, off + k * 2, none⟩ = some (.int .i32 l[k].1) := below_cell HB.out (hcell _ _ (flatten_at (n := 2) Sp.cells (fun _ => rfl) l k 0 hlt (by omega)))
      have c1 : wr.cell? ⟨b, off + k * 2 + 1, none⟩ = some (.int .i32 l[k].2) := below_cell HB.out (hcell _ _ (flatten_at (n := 2) Sp.cells (fun _ => rfl) l k 1 hlt (by omega)))
      clear hcell
      have HN : Hid (Sp.has r l[k] = false → (l.take (k + 1)).any (Sp.has r) = false) := Lib.hid (by
        intro h
        rw [List.take_succ_eq_append_getElem hlt, List.any_append, HNO.out]
        simp [h])
      have HY : Hid (Sp.has r l[k] = true → inB r l = true) := Lib.hid (by
        intro h
        exact List.any_eq_true.2 ⟨l[k], List.getElem_mem hlt, h⟩)
      have hB' : ∀ o, Below w.heap.size w (wr.alloc o) := fun o => HB.out.alloc HB.out.size o
      have HBA := Lib.hid hB'
      clear hB'
      have HE : Hid (Sp.has r l[k] = (decide (l[k].1 ≤ r) && decide (r ≤ l[k].2))) := Lib.hid rfl
      generalize l[k] = x at *
      obtain ⟨lo, hi⟩ := x
      by_cases h1 : lo ≤ r
      · by_cases h2 : r ≤ hi
        · go_wp2_with fail
          go_ret
          rw [HY.out (by rw [HE.out]; simp [h1, h2])]
          exact ⟨rfl, HBA.out _⟩
        · go_wp2_with fail
          go_roundw
          case rel => exact ⟨k + 1, by omega, by go_num, HN.out (by rw [HE.out]; simp [h2]), HBA.out _⟩
          case measure => simp [intOf]; omega
      · go_wp2_with fail
        go_roundw
        case rel => exact ⟨k + 1, by omega, by go_num, HN.out (by rw [HE.out]; simp [h1]), HBA.out _⟩
        case measure => simp [intOf]; omega
    · obtain rfl : k = l.length := by omega
      go_wp2_with fail
      go_ret
      have h := HNO.out
      rw [List.take_length] at h
      rw [show inB r l = false from h]
      exact ⟨rfl, HB.out⟩
def letL : List Sp := [(97, 122), (224, 246), (248, 254), (945, 961), (963, 969), (1072, 1103)]
def numL : List Sp := [(48, 57), (45, 45)]
def letB (r : Int) : Bool := inB r letL
def numB (r : Int) : Bool := inB r numL
theorem Sl.spans {w : World} {cs : Array Value} {T : TypeId} {b : Nat} (l : List Sp) (hb : w.heap.size = b) (hc : cs.toList = spCells l) (hl : (spCells l).length = l.length * 2) (h1 : ∀ u ∈ spCells l, u.oneCell' = true) (hn : l.length ≤ maxLen) :
    Sl (w.alloc (.cells cs T)) 2 (.slice (some ⟨b, 0, none⟩) l.length l.length) l.length (spCells l) := by
  have := Sl.lit (w := w) (cs := cs) (T := T) (sz := 2) (n := l.length) hb (by rw [hc]; exact hl) (by rw [hc]; exact h1) hn
  rw [hc] at this
  exact this
theorem letter_any (r : Int) (w : World) :
    Calls Try.prog 66 #[.int .i32 r] w fun e w' => e = .returned (.bool (letB r)) ∧ Below w.heap.size w w' := by
  go_enter Try.func66, Try.ntmps66
  go_wp2_with fail
  refine (in_any r _ letL _ (Sl.spans letL rfl rfl rfl (by decide) (by decide))).mono ?_
  rw [show inB r letL = letB r from rfl]
  rintro e w1 ⟨rfl, hb1⟩
  have HB := Lib.hid (((Below.refl w.heap.size w).alloc (Nat.le_refl _) _).trans (hb1.mono (by simp)))
  clear hb1
  go_wp2_with fail
  go_ret
  exact ⟨rfl, HB.out⟩
set_option maxHeartbeats 2000000 in
theorem refLetter_any (r s : Int) (w : World) (h0 : -2147483648 ≤ r) (h1 : r ≤ 2147483647) (h2 : 0 ≤ s) (h3 : s ≤ 32) :
    Calls Try.prog 61 #[.int .i64 r, .int .i64 s] w fun e w' => e = .returned (.bool (letB (r + s))) ∧ w = w' := by
  obtain ⟨x, hx⟩ : ∃ x, x = r + s := ⟨_, rfl⟩
  have hw : wrap64 (r + s) = x := by rw [wrap64]; omega
  have HX := Lib.hid hx
  rw [← hx]
  clear h0 h1 h2 h3 hx
  go_enter Try.func61, Try.ntmps61
  rcases (by omega : x < 97 ∨ (97 ≤ x ∧ x ≤ 122) ∨ (122 < x ∧ x < 224) ∨ (224 ≤ x ∧ x ≤ 246) ∨ (246 < x ∧ x < 248) ∨ (248 ≤ x ∧ x ≤ 254) ∨ (254 < x ∧ x < 945) ∨ (945 ≤ x ∧ x ≤ 961) ∨ (961 < x ∧ x < 963) ∨ (963 ≤ x ∧ x ≤ 969) ∨ (969 < x ∧ x < 1072) ∨ (1072 ≤ x ∧ x ≤ 1103) ∨ 1103 < x) with
    k | ⟨k, k'⟩ | ⟨k, k'⟩ | ⟨k, k'⟩ | ⟨k, k'⟩ | ⟨k, k'⟩ | ⟨k, k'⟩ | ⟨k, k'⟩ | ⟨k, k'⟩ | ⟨k, k'⟩ | ⟨k, k'⟩ | ⟨k, k'⟩ | k <;>
  · have hb : letB x = (decide (97 ≤ x ∧ x ≤ 122 ∨ 224 ≤ x ∧ x ≤ 246 ∨ 248 ≤ x ∧ x ≤ 254 ∨ 945 ≤ x ∧ x ≤ 961 ∨ 963 ≤ x ∧ x ≤ 969 ∨ 1072 ≤ x ∧ x ≤ 1103)) := by
      simp only [letB, inB, letL, List.any_cons, List.any_nil, Sp.has, Bool.or_false, Bool.decide_or, Bool.decide_and]
    first
    | have HL := Lib.hid (hb.trans (decide_eq_true (by omega)))
    | have HL := Lib.hid (hb.trans (decide_eq_false (by omega)))
    clear hb
    go_wp2_with fail
    go_ret
    rw [HL.out]
    refine ⟨congrArg (fun b => Ending.returned (Value.bool b)) ?_, rfl⟩
    first
    | rfl
    | (simp [decide_eq_false_iff_not]; omega)
end Go.Proofs.Ytpjkidcfidmfaaa
/- Contracts of package name, text by text: Right, Text. -/
namespace Go.Proofs.Ytpjkidcfidmfaaa
set_option linter.unusedSimpArgs false
set_option linter.unusedVariables false
open Go.RowKit
/-- The runes of a text, each with where it begins. -/
def rsF (s : ByteArray) : Nat → Nat → List (Nat × Int)
  | 0, _ => []
  | f + 1, p => if p < s.size then (p, ((Utf8.decode s p).1 : Int)) :: rsF s f (p + (Utf8.decode s p).2) else []
def rs (s : ByteArray) (p : Nat) : List (Nat × Int) := rsF s (s.size - p) p
theorem rsF_more (s : ByteArray) : ∀ (f f' p : Nat), s.size ≤ p + f → s.size ≤ p + f' → rsF s f p = rsF s f' p
  | 0, 0, _, _, _ => rfl
  | 0, f' + 1, p, h, _ => by simp [rsF, show ¬ p < s.size from by omega]
  | f + 1, 0, p, _, h => by simp [rsF, show ¬ p < s.size from by omega]
  | f + 1, f' + 1, p, h, h' => by
    by_cases hp : p < s.size
    · have := Lib.decode_width_pos s p hp
      simp only [rsF, if_pos hp]
      rw [rsF_more s f f' _ (by omega) (by omega)]
    · simp [rsF, hp]
theorem rs_step (s : ByteArray) (p : Nat) (h : p < s.size) : rs s p = (p, ((Utf8.decode s p).1 : Int)) :: rs s (p + (Utf8.decode s p).2) := by
  have := Lib.decode_width_pos s p h
  unfold rs
  obtain ⟨f, hf⟩ : ∃ f, s.size - p = f + 1 := ⟨s.size - p - 1, by omega⟩
  rw [hf]
  simp only [rsF, if_pos h]
  rw [rsF_more s f (s.size - (p + (Utf8.decode s p).2)) _ (by omega) (by omega)]
theorem rs_end (s : ByteArray) (p : Nat) (h : ¬ p < s.size) : rs s p = [] := by
  unfold rs
  rw [show s.size - p = 0 from by omega]
  rfl
/-- An iterator stands at a place. -/
def It (w : World) (k : Nat) (s : ByteArray) (p : Nat) : Prop := w.heap[k]? = some (.stringIter s p)
theorem It.pos {w : World} {k : Nat} {s : ByteArray} {p : Nat} (h : It w k s p) : w.iterPos k = p := by simp [World.iterPos, show w.heap[k]? = _ from h]
theorem It.lt {w : World} {k : Nat} {s : ByteArray} {p : Nat} (h : It w k s p) : k < w.heap.size := block_lt h
theorem It.below {w w' : World} {k B : Nat} {s : ByteArray} {p : Nat} (h : It w k s p) (hb : Below B w w') (hk : k < B) : It w' k s p := (hb.block k hk).trans h
theorem It.keep {w w' : World} {k : Nat} {S : Nat → Prop} {s : ByteArray} {p : Nat} (h : It w k s p) (hb : Keeps S w w') (hk : ¬ S k) : It w' k s p := (hb.block k hk).trans h
/-- One step of an iterator: what it gives, and the world then, as a variable. -/
theorem It.next {P : Program} {w0 wr : World} {k B : Nat} {s : ByteArray} {pos : Nat} (h : It wr k s pos) (hp : pos < s.size) (hB : Below B w0 wr) (hk : B ≤ k) :
    ∃ W, (∀ ty, (Instr.next (.pointer (some ⟨k, 0, none⟩)) true ty).run P wr = .ok (.tuple #[.bool true, .int .i64 pos, .int .i32 (Utf8.decode s pos).1]) W) ∧ It W k s (pos + (Utf8.decode s pos).2) ∧ Below B w0 W ∧ Keeps (fun j => j = k) wr W :=
  ⟨_, fun ty => Lib.run_next_any_at wr k s pos ty h hp, Lib.iterAt_heap wr k s pos _ h, Lib.below_iterAt hB hk s _,
    ⟨rfl, rfl, rfl, by rw [Lib.iterAt_size]; exact Nat.le_refl _, fun j hj => Lib.iterAt_other wr k j s _ hj⟩⟩
def rightF : List (Nat × Int) → Nat → Bool
  | [], n => decide (1 ≤ n) && decide (n ≤ 16)
  | (i, r) :: l, n => if letB r then rightF l (n + 1) else if i = 0 then false else if numB r then rightF l (n + 1) else false
def rightB (s : ByteArray) : Bool := rightF (rs s 0) 0
set_option maxHeartbeats 1000000 in
set_option maxRecDepth 100000 in
theorem right_any (s : ByteArray) (w : World) (hs : s.size ≤ maxLen) :
    Calls Try.prog 48 #[.string s] w fun e w' => e = .returned (.bool (rightB s)) ∧ Below w.heap.size w w' := by
  unfold maxLen at hs
  go_enter Try.func48, Try.ntmps48
  go_wp2_with fail
  go_loopw [3] (fun n wr => ∃ (pos q : Nat), n = .int .i64 q ∧ It wr w.heap.size s pos ∧ q ≤ pos ∧ Below w.heap.size w wr ∧ rightF (rs s pos) q = rightB s) (fun _ wr => s.size - wr.iterPos w.heap.size)
  case atStart => exact ⟨0, 0, rfl, World.iter_heap w s 0, Nat.le_refl _, (Below.refl _ _).alloc (Nat.le_refl _) _, rfl⟩
  case round =>
    obtain ⟨pos, q, rfl, hit, hq, hB, hR⟩ := hrel
    have HP0 := Lib.hid hit.pos
    have HR := Lib.hid hR
    clear hR
    by_cases hp : pos < s.size
    · obtain ⟨W, hnx, hit2, hB2, _⟩ := hit.next (P := Try.prog) hp hB (Nat.le_refl _)
      have hwd := Lib.decode_width_pos s pos hp
      have hstep := rs_step s pos hp
      obtain ⟨c, hc⟩ : ∃ c : Int, c = ((Utf8.decode s pos).1 : Int) := ⟨_, rfl⟩
      obtain ⟨wd, hw⟩ : ∃ wd, wd = (Utf8.decode s pos).2 := ⟨_, rfl⟩
      rw [← hc, ← hw] at hstep
      rw [← hc] at hnx
      rw [← hw] at hit2 hwd
      have HS := Lib.hid hstep
      have HI := Lib.hid hit2
      have HB := Lib.hid hB2
      clear hstep hit2 hB2 hB hit hc hw
      go_wp2_with fail
      refine (letter_any c W).mono ?_
      obtain ⟨L, hL⟩ : ∃ L, L = letB c := ⟨_, rfl⟩
      rw [← hL]
      have HL := Lib.hid hL
      clear hL
      rintro e w1 ⟨rfl, hb1⟩
      have HI1 := Lib.hid (HI.out.below hb1 HI.out.lt)
      have HB1 := Lib.hid (HB.out.trans (hb1.mono HB.out.size))
      clear hb1 HI HB hnx
      cases L with
      | true =>
        have HF : Hid (rightF (rs s (pos + wd)) (q + 1) = rightB s) := Lib.hid (by
          rw [← HR.out, HS.out, rightF, ← HL.out, if_pos rfl])
        go_wp2_with fail
        go_roundw
        case rel => exact ⟨pos + wd, q + 1, by go_num, HI1.out, by omega, HB1.out, HF.out⟩
        case measure => rw [HI1.out.pos, HP0.out]; omega
      | false =>
        by_cases hp0 : pos = 0
        · subst hp0
          have HF : Hid (rightB s = false) := Lib.hid (by
            rw [← HR.out, HS.out, rightF, ← HL.out]
            simp)
          go_wp2_with fail
          go_ret
          rw [HF.out]
          exact ⟨rfl, HB1.out⟩
        · have hp1 : ((pos : Int) == 0) = false := by simp; omega
          have HN0 := Lib.hid hp0
          clear hp0
          go_wp2_with fail
          refine (in_any c _ numL _ (Sl.spans numL rfl rfl rfl (by decide) (by decide))).mono ?_
          obtain ⟨M, hM⟩ : ∃ M, M = numB c := ⟨_, rfl⟩
          rw [show inB c numL = numB c from rfl, ← hM]
          have HM := Lib.hid hM
          clear hM
          rintro e w2 ⟨rfl, hb2⟩
          have HI2 := Lib.hid (It.below (It.below HI1.out ((Below.refl w1.heap.size w1).alloc (Nat.le_refl _) _) HI1.out.lt) hb2 (by have := HI1.out.lt; simp; omega))
          have HB2 := Lib.hid ((HB1.out.alloc HB1.out.size _).trans (hb2.mono (by have := HB1.out.size; simp; omega)))
          clear hb2 HI1 HB1
          cases M with
          | true =>
            have HF : Hid (rightF (rs s (pos + wd)) (q + 1) = rightB s) := Lib.hid (by
              rw [← HR.out, HS.out, rightF, ← HL.out, ← HM.out]
              simp [HN0.out])
            go_wp2_with fail
            go_roundw
            case rel => exact ⟨pos + wd, q + 1, by go_num, HI2.out, by omega, HB2.out, HF.out⟩
            case measure => rw [HI2.out.pos, HP0.out]; omega
          | false =>
            have HF : Hid (rightB s = false) := Lib.hid (by
              rw [← HR.out, HS.out, rightF, ← HL.out, ← HM.out]
              simp)
            go_wp2_with fail
            go_ret
            rw [HF.out]
            exact ⟨rfl, HB2.out⟩
    · have hnx : ∀ ty, (Instr.next (.pointer (some ⟨w.heap.size, 0, none⟩)) true ty).run Try.prog wr = .ok (.tuple #[.bool false]) wr := fun ty => Lib.run_next_end_at wr _ s pos ty hit hp
      have HF : Hid (rightB s = (decide (1 ≤ q) && decide (q ≤ 16))) := Lib.hid (by rw [← HR.out, rs_end s pos hp, rightF])
      have HB := Lib.hid hB
      clear hB hit
      rcases (by omega : q < 1 ∨ (1 ≤ q ∧ q ≤ 16) ∨ 16 < q) with h | ⟨h, h'⟩ | h
      · have h1 : ¬ (1 : Int) ≤ (q : Int) := by omega
        have HG := Lib.hid (HF.out.trans (show _ = false by rw [decide_eq_false (by omega : ¬ 1 ≤ q)]; rfl))
        clear h
        go_wp2_with fail
        go_ret
        rw [HG.out]
        exact ⟨rfl, HB.out⟩
      · have h1 : (1 : Int) ≤ (q : Int) := by omega
        have h2 : (q : Int) ≤ 16 := by omega
        have HG := Lib.hid (HF.out.trans (show _ = true by rw [decide_eq_true h, decide_eq_true h']; rfl))
        clear h h'
        go_wp2_with fail
        go_ret
        rw [HG.out]
        exact ⟨rfl, HB.out⟩
      · have h1 : (1 : Int) ≤ (q : Int) := by omega
        have h2 : ¬ (q : Int) ≤ 16 := by omega
        have HG := Lib.hid (HF.out.trans (show _ = false by rw [decide_eq_false (by omega : ¬ q ≤ 16)]; simp))
        clear h
        go_wp2_with fail
        go_ret
        rw [HG.out]
        exact ⟨rfl, HB.out⟩
end Go.Proofs.Ytpjkidcfidmfaaa
/- Package tick's Taker: Num, Name, Key, Truth, Bytes, Done. -/
namespace Go.Proofs.Ytpjkidcfidmfaaa
set_option linter.unusedSimpArgs false
set_option linter.unusedVariables false
open Go.RowKit
/-- A text of bytes. -/
def tx (l : List UInt8) : ByteArray := ⟨l.toArray⟩
theorem tx_size (l : List UInt8) : (tx l).size = l.length := by simp [tx, ByteArray.size]
theorem run_convS (w : World) (v : Value) (l : List UInt8) (h : Bs w v l) : (convert 22 9 v).run Try.prog w = .ok (.string (tx l)) w := by
  obtain ⟨a, cap, rfl, hcap, hm⟩ := h.form
  by_cases h0 : l.length = 0
  · obtain rfl : l = [] := List.eq_nil_of_length_eq_zero h0
    cases a with
    | none => exact Lib.run_convert_nil_bytes w _ _ _ cap Try.underlying22 Try.underlying5 Try.underlying9
    | some a => exact run_convert_bytes_back w _ _ _ a cap [] Try.underlying22 Try.underlying5 Try.underlying9 (fun j hj => by simp at hj)
  · obtain ⟨b, off, rfl, hc⟩ := h.addr (by rw [bCells_length]; omega)
    refine run_convert_bytes_back w _ _ _ ⟨b, off, none⟩ cap l Try.underlying22 Try.underlying5 Try.underlying9 (fun j hj => ?_)
    rw [Addr.add_lit]
    exact hc j _ (bCells_get l j hj)
theorem fld_n (a b c d e : Value) (w : World) : (Instr.field 38 (.agg #[a, b, c, d, e]) 2).run Try.prog w = .ok c w := by kernel_rfl
theorem fld_b (a b c d e : Value) (w : World) : (Instr.field 38 (.agg #[a, b, c, d, e]) 3).run Try.prog w = .ok d w := by kernel_rfl
theorem fld_l (a b c d e : Value) (w : World) : (Instr.field 38 (.agg #[a, b, c, d, e]) 4).run Try.prog w = .ok e w := by kernel_rfl
def maxT : Nat := 1099511627776
def numS (rem : List Tv) (bad : Bool) : Nat × List Tv × Bool :=
  if maxT < (nextS 0 rem bad).1.n then (0, (nextS 0 rem bad).2.1, true) else ((nextS 0 rem bad).1.n, (nextS 0 rem bad).2)
def nameS (rem : List Tv) (bad : Bool) : List UInt8 × List Tv × Bool :=
  ((nextS 1 rem bad).1.b, (nextS 1 rem bad).2.1, if rightB (tx (nextS 1 rem bad).1.b) = true then (nextS 1 rem bad).2.2 else true)
def keyS (rem : List Tv) (bad : Bool) : List UInt8 × List Tv × Bool :=
  ((keyB (nextS 1 rem bad).1.b).1, (nextS 1 rem bad).2.1, if (keyB (nextS 1 rem bad).1.b).2 = true then (nextS 1 rem bad).2.2 else true)
def truthS (rem : List Tv) (bad : Bool) : Bool × List Tv × Bool :=
  ((nextS 0 rem bad).1.n == 1, (nextS 0 rem bad).2.1, if 1 < (nextS 0 rem bad).1.n then true else (nextS 0 rem bad).2.2)
def bytesS (rem : List Tv) (bad : Bool) : List UInt8 × List Tv × Bool := ((nextS 1 rem bad).1.b, (nextS 1 rem bad).2)
/-- A taker's step that gives a value. -/
def TkRes (w : World) (F : Nat → Prop) (p : Nat) (v : Value) (r : List Tv × Bool) (e : Ending) (w' : World) : Prop :=
  e = .returned v ∧ Tk w' F p r.1 r.2 ∧ Keeps (fun b => b = p ∨ w.heap.size ≤ b) w w'
theorem Tk.bad {w : World} {F : Nat → Prop} {p : Nat} {rem : List Tv} {bad : Bool} (h : Tk w F p rem bad) : Tk (w.setCell ⟨p, 1, none⟩ (.bool true)) F p rem true ∧ Keeps (fun b => b = p ∨ w.heap.size ≤ b) w (w.setCell ⟨p, 1, none⟩ (.bool true)) := by
  have hk : Keeps (fun b => b = p) w (w.setCell ⟨p, 1, none⟩ (.bool true)) := Keeps.one w p 1 _
  obtain ⟨lv, rows, h1, h2, h3, h4, h5⟩ := h
  have hs : ∀ b, F b → b < w.heap.size → ¬ (b = p) := fun b hb _ e => h5 (by rw [← e]; exact hb)
  exact ⟨⟨lv, rows, h1.set 1 (.bool true), h2.keepF hk h3 hs, h3, h4.keep hk hs, h5⟩, hk.mono (fun _ h => .inl h)⟩
theorem Tk.badCell {w : World} {F : Nat → Prop} {p : Nat} {rem : List Tv} {bad : Bool} (h : Tk w F p rem bad) : w.cell? ⟨p, 1, none⟩ = some (.bool bad) ∧ w.frozen? ⟨p, 1, none⟩ = false := by
  obtain ⟨lv, rows, h1, h2, h3, h4, h5⟩ := h
  exact ⟨h1.cell 1, h1.frozen 1⟩
theorem keeps2 {S : Nat → Prop} {p : Nat} {w w1 w2 : World} (hS : ∀ b, S b ↔ (b = p ∨ w.heap.size ≤ b)) (h : Keeps S w w1) (k : Keeps (fun b => b = p ∨ w1.heap.size ≤ b) w1 w2) : Keeps S w w2 :=
  h.trans (k.mono (fun b hb => (hS b).2 (by rcases hb with h' | h'; exact .inl h'; exact .inr (Nat.le_trans h.size h'))))
set_option maxHeartbeats 2000000 in
set_option maxRecDepth 100000 in
theorem num_any (rem : List Tv) (bad : Bool) (p : Nat) (F : Nat → Prop) (w : World) (h : Tk w F p rem bad) :
    Calls Try.prog 36 #[.pointer (some ⟨p, 0, none⟩)] w (TkRes w F p (.int .i64 (numS rem bad).1) (numS rem bad).2) := by
  go_enter Try.func36, Try.ntmps36
  go_wp2_with fail
  refine (next_any 0 rem bad p F w h).mono ?_
  rintro e w1 ⟨cs, rfl, hx, ht, hk⟩
  obtain ⟨bv, lv, rows, rfl, hb1, hb2, hb3, hb4, hb5⟩ := hx.open_
  obtain ⟨al, cl, rfl, hcl, hml⟩ := hb3.form
  obtain ⟨ab, cb0, rfl, hcb, hmb⟩ := hb1.form
  have HT := Lib.hid ht
  have HK := Lib.hid hk
  obtain ⟨cb, fb⟩ := ht.badCell
  have hf2 := fld_n
  have hf3 := fld_b
  have HS : Hid (numS rem bad = if maxT < (nextS 0 rem bad).1.n then (0, (nextS 0 rem bad).2.1, true) else ((nextS 0 rem bad).1.n, (nextS 0 rem bad).2)) := Lib.hid rfl
  generalize nextS 0 rem bad = r at *
  obtain ⟨x, r1, r2⟩ := r
  simp only at *
  clear hx ht hk hb1 hb2 hb3 hb4 hb5
  generalize x.n = n at *
  by_cases hn : maxT < n
  · have hn' : (1099511627776 : Int) < n := by unfold maxT at hn; omega
    have HS' : Hid (numS rem bad = (0, r1, true)) := Lib.hid (by rw [HS.out, if_pos hn])
    clear hn
    go_wp2_with fail
    go_ret
    rw [HS'.out]
    exact ⟨rfl, HT.out.bad.1, keeps2 (fun b => Iff.rfl) HK.out HT.out.bad.2⟩
  · have hn' : ¬ (1099511627776 : Int) < n := by unfold maxT at hn; omega
    have HS' : Hid (numS rem bad = (n, r1, r2)) := Lib.hid (by rw [HS.out, if_neg hn])
    have hw : IntKind.i64.wrap (n : Int) = n := by unfold maxT at hn; simp only [IntKind.wrap_i64]; omega
    clear hn
    go_wp2_with fail
    go_ret
    rw [HS'.out]
    exact ⟨rfl, HT.out, HK.out⟩
set_option maxHeartbeats 2000000 in
set_option maxRecDepth 100000 in
theorem truth_any (rem : List Tv) (bad : Bool) (p : Nat) (F : Nat → Prop) (w : World) (h : Tk w F p rem bad) :
    Calls Try.prog 39 #[.pointer (some ⟨p, 0, none⟩)] w (TkRes w F p (.bool (truthS rem bad).1) (truthS rem bad).2) := by
  go_enter Try.func39, Try.ntmps39
  go_wp2_with fail
  refine (next_any 0 rem bad p F w h).mono ?_
  rintro e w1 ⟨cs, rfl, hx, ht, hk⟩
  obtain ⟨bv, lv, rows, rfl, hb1, hb2, hb3, hb4, hb5⟩ := hx.open_
  obtain ⟨al, cl, rfl, hcl, hml⟩ := hb3.form
  obtain ⟨ab, cb0, rfl, hcb, hmb⟩ := hb1.form
  have HT := Lib.hid ht
  have HK := Lib.hid hk
  obtain ⟨cb, fb⟩ := ht.badCell
  have hf2 := fld_n
  have hf3 := fld_b
  have HS : Hid (truthS rem bad = ((nextS 0 rem bad).1.n == 1, (nextS 0 rem bad).2.1, if 1 < (nextS 0 rem bad).1.n then true else (nextS 0 rem bad).2.2)) := Lib.hid rfl
  generalize nextS 0 rem bad = r at *
  obtain ⟨x, r1, r2⟩ := r
  simp only at *
  clear hx ht hk hb1 hb2 hb3 hb4 hb5
  generalize x.n = n at *
  have hq : Hid (((n : Int) == 1) = (n == 1)) := Lib.hid (by rw [Bool.eq_iff_iff]; simp; omega)
  by_cases hn : 1 < n
  · have hn' : (1 : Int) < n := by omega
    have HS' : Hid (truthS rem bad = (n == 1, r1, true)) := Lib.hid (by rw [HS.out, if_pos hn])
    clear hn
    go_wp2_with fail
    go_ret
    rw [HS'.out, ← hq.out]
    exact ⟨rfl, HT.out.bad.1, keeps2 (fun b => Iff.rfl) HK.out HT.out.bad.2⟩
  · have hn' : ¬ (1 : Int) < n := by omega
    have HS' : Hid (truthS rem bad = (n == 1, r1, r2)) := Lib.hid (by rw [HS.out, if_neg hn])
    clear hn
    go_wp2_with fail
    go_ret
    rw [HS'.out, ← hq.out]
    exact ⟨rfl, HT.out, HK.out⟩
set_option maxHeartbeats 2000000 in
set_option maxRecDepth 100000 in
theorem name_any (rem : List Tv) (bad : Bool) (p : Nat) (F : Nat → Prop) (w : World) (h : Tk w F p rem bad) :
    Calls Try.prog 35 #[.pointer (some ⟨p, 0, none⟩)] w (TkRes w F p (.string (tx (nameS rem bad).1)) (nameS rem bad).2) := by
  go_enter Try.func35, Try.ntmps35
  go_wp2_with fail
  refine (next_any 1 rem bad p F w h).mono ?_
  rintro e w1 ⟨cs, rfl, hx, ht, hk⟩
  obtain ⟨bv, lv, rows, rfl, hb1, hb2, hb3, hb4, hb5⟩ := hx.open_
  obtain ⟨al, cl, rfl, hcl, hml⟩ := hb3.form
  obtain ⟨ab, cb0, rfl, hcb, hmb⟩ := hb1.form
  have HT := Lib.hid ht
  have HK := Lib.hid hk
  obtain ⟨cb, fb⟩ := ht.badCell
  have hf2 := fld_n
  have hf3 := fld_b
  have HS : Hid (nameS rem bad = ((nextS 1 rem bad).1.b, (nextS 1 rem bad).2.1, if rightB (tx (nextS 1 rem bad).1.b) = true then (nextS 1 rem bad).2.2 else true)) := Lib.hid rfl
  generalize nextS 1 rem bad = r at *
  obtain ⟨x, r1, r2⟩ := r
  simp only at *
  have HB := Lib.hid hb1
  have HR := Lib.hid (right_any (tx x.b) w1 (by rw [tx_size]; omega))
  clear hx ht hk hb1 hb2 hb3 hb4 hb5
  generalize x.b = l at *
  have hcv := run_convS w1 _ l HB.out
  go_wp2_with fail
  refine HR.out.mono ?_
  rintro e w2 ⟨rfl, hb2⟩
  have HT2 := Lib.hid (HT.out.below hb2)
  have HK2 : Hid (Keeps (fun b => b = p ∨ w.heap.size ≤ b) w w2) := Lib.hid (HK.out.trans ((Keeps.of_below hb2).mono (fun b hb => .inr (Nat.le_trans HK.out.size hb))))
  obtain ⟨cb, fb⟩ := HT2.out.badCell
  clear hb2 HB HR
  obtain ⟨d, hd⟩ : ∃ d, d = rightB (tx l) := ⟨_, rfl⟩
  rw [← hd] at HS ⊢
  clear hd
  cases d with
  | false =>
    go_wp2_with fail
    go_ret
    rw [HS.out]
    exact ⟨rfl, HT2.out.bad.1, keeps2 (fun b => Iff.rfl) HK2.out HT2.out.bad.2⟩
  | true =>
    go_wp2_with fail
    go_ret
    rw [HS.out]
    exact ⟨rfl, HT2.out, HK2.out⟩
set_option maxHeartbeats 2000000 in
set_option maxRecDepth 100000 in
theorem bytes_any (rem : List Tv) (bad : Bool) (p : Nat) (F : Nat → Prop) (w : World) (h : Tk w F p rem bad) :
    Calls Try.prog 37 #[.pointer (some ⟨p, 0, none⟩)] w fun e w' => ∃ v, TkRes w F p v (bytesS rem bad).2 e w' ∧ Bs w' v (bytesS rem bad).1 ∧ (0 < (bytesS rem bad).1.length → ∀ x, v.ownBlock = some x → F x) := by
  go_enter Try.func37, Try.ntmps37
  go_wp2_with fail
  refine (next_any 1 rem bad p F w h).mono ?_
  rintro e w1 ⟨cs, rfl, hx, ht, hk⟩
  obtain ⟨bv, lv, rows, rfl, hb1, hb2, hb3, hb4, hb5⟩ := hx.open_
  obtain ⟨al, cl, rfl, hcl, hml⟩ := hb3.form
  obtain ⟨ab, cb0, rfl, hcb, hmb⟩ := hb1.form
  have HT := Lib.hid ht
  have HK := Lib.hid hk
  obtain ⟨cb, fb⟩ := ht.badCell
  have hf2 := fld_n
  have hf3 := fld_b
  clear hb3 hb4 hb5
  have HB := Lib.hid hb1
  have HB2 := Lib.hid hb2
  clear hx ht hk hb1 hb2
  go_wp2_with fail
  go_ret
  exact ⟨_, ⟨rfl, HT.out, HK.out⟩, HB.out, HB2.out⟩
set_option maxRecDepth 100000 in
theorem done_any (rem : List Tv) (bad : Bool) (p : Nat) (F : Nat → Prop) (w : World) (h : Tk w F p rem bad) :
    Calls Try.prog 41 #[.pointer (some ⟨p, 0, none⟩)] w fun e w' => e = .returned (.bool (!bad && rem.isEmpty)) ∧ w = w' := by
  obtain ⟨lv, rows, h1, h2, h3, h4, h5⟩ := h
  obtain ⟨a, cap, rfl, hcap, hm⟩ := h2.form
  have c0 := h1.cell 0
  have c1 : w.cell? ⟨p, 1, none⟩ = some (.bool bad) := h1.cell 1
  simp only [List.getElem?_cons_zero] at c0
  have HR : Hid ((((rem.length : Nat) : Int) == 0) = rem.isEmpty) := Lib.hid (by cases rem <;> simp <;> omega)
  clear h1 h2 h3 h4 h5
  cases bad with
  | true =>
    go_enter Try.func41, Try.ntmps41
    go_wp2_with fail
    go_ret
    exact ⟨rfl, rfl⟩
  | false =>
    go_enter Try.func41, Try.ntmps41
    go_wp2_with fail
    go_ret
    rw [HR.out]
    exact ⟨rfl, rfl⟩
set_option maxHeartbeats 2000000 in
set_option maxRecDepth 100000 in
theorem key_tk' (rem : List Tv) (bad : Bool) (p : Nat) (F : Nat → Prop) (w : World) (h : Tk w F p rem bad) (hF : ¬ F w.heap.size) :
    Calls Try.prog 68 #[.pointer (some ⟨p, 0, none⟩)] w (TkRes w F p (keyV (keyS rem bad).1) (keyS rem bad).2) := by
  have hpl := h.lt
  have HQ0 := Lib.hid (Blk.new w zs16 119)
  have hB0 : Below w.heap.size w (w.alloc (.cells zs16.toArray 119)) := (Below.refl _ _).alloc (Nat.le_refl _) _
  have HB0 := Lib.hid hB0
  have HN := Lib.hid (next_any 1 rem bad p F _ (h.below hB0))
  have HF := Lib.hid hF
  clear hF
  have HPN : Hid (p ≠ w.heap.size) := Lib.hid (by omega)
  clear hB0 h
  go_enter Try.func68, Try.ntmps68
  go_wp2_with fail
  refine HN.out.mono ?_
  rintro e w1 ⟨cs, rfl, hx, ht, hk⟩
  obtain ⟨bv, lv, rows, rfl, hb1, hb2, hb3, hb4, hb5⟩ := hx.open_
  obtain ⟨al, cl, rfl, hcl, hml⟩ := hb3.form
  obtain ⟨ab, cb0, rfl, hcb, hmb⟩ := hb1.form
  have hf2 := fld_n
  have hf3 := fld_b
  have HT := Lib.hid ht
  have HK : Hid (Keeps (fun b => b = p ∨ w.heap.size ≤ b) w w1) := Lib.hid (((Keeps.of_below HB0.out).mono (fun b hb => .inr hb)).trans (hk.mono (fun b hb => by rcases hb with h | h; exact .inl h; exact .inr (by simp at h; omega))))
  have HQ1 := Lib.hid (HQ0.out.keep hk (fun h => by rcases h with h | h; exact HPN.out h.symm; simp at h; omega))
  have HZ : Hid (w.heap.size < w1.heap.size) := Lib.hid HQ1.out.lt
  have HS : Hid (keyS rem bad = ((keyB (nextS 1 rem bad).1.b).1, (nextS 1 rem bad).2.1, if (keyB (nextS 1 rem bad).1.b).2 = true then (nextS 1 rem bad).2.2 else true)) := Lib.hid rfl
  generalize nextS 1 rem bad = r at *
  obtain ⟨x, r1, r2⟩ := r
  simp only at *
  have HR := Lib.hid (key_any _ x.b w1 hb1)
  clear hx ht hk hb1 hb2 hb3 hb4 hb5 HQ0 HB0 HN
  generalize x.b = l at *
  go_wp2_with fail
  refine HR.out.mono ?_
  rintro e w2 ⟨rfl, hb2⟩
  have HL : Hid ((keyB l).1.length = 16) := Lib.hid (keyB_length l)
  generalize keyB l = kk at *
  obtain ⟨k, d⟩ := kk
  simp only at *
  obtain ⟨q1, hq1⟩ : ∃ q1, q1 = w2.heap.size := ⟨_, rfl⟩
  have HT2 := Lib.hid (HT.out.below hb2)
  have HG : Hid (Blk (w2.alloc (.cells zs16.toArray 119)) w2.heap.size zs16 119) := Lib.hid (Blk.new _ _ _)
  have HQ2 : Hid (Blk (w2.alloc (.cells zs16.toArray 119)) w.heap.size zs16 119) := Lib.hid ((HQ1.out.below hb2 HZ.out).alloc _)
  have HK2 : Hid (Keeps (fun b => b = p ∨ w.heap.size ≤ b) w (w2.alloc (.cells zs16.toArray 119))) := Lib.hid ((HK.out.trans ((Keeps.of_below hb2).mono (fun b hb => .inr (Nat.le_trans HK.out.size hb)))).alloc _ (.inr (Nat.le_trans HK.out.size hb2.size)))
  have HNE : Hid (p ≠ w2.heap.size ∧ w.heap.size ≠ w2.heap.size ∧ w.heap.size ≤ w2.heap.size) := Lib.hid (by have := HZ.out; have := hb2.size; exact ⟨by omega, by omega, by omega⟩)
  clear hb2 HR
  go_wp2_with ((with_reducible show wpList _ _ _ (⟨none, .store _ (.tmp 3) (.tmp 10), _, _, _, _⟩ :: _) _ _); refine wpList_stAgg rfl (.tmp 3) (.tmp 10) aggKey rfl rfl (vs := bCells k) rfl (by rw [bCells_length]; exact HL.out) HG.out (by simp [zs16]) (bCells_one k) ?_)
  intro w3 h3 k3
  have H3 : Hid (Blk w3 w2.heap.size (bCells k) 119) := Lib.hid (by simpa [zs16] using h3)
  have HT3 := Lib.hid (HT2.out.below (((Below.refl w2.heap.size w2).alloc (Nat.le_refl _) _).trans (k3.below (fun b hb => Nat.le_of_eq hb.symm))))
  have HQ3 := Lib.hid (HQ2.out.keep k3 HNE.out.2.1)
  have HK3 : Hid (Keeps (fun b => b = p ∨ w.heap.size ≤ b) w w3) := Lib.hid (HK2.out.trans (k3.mono (fun b hb => .inr (by rw [hb]; exact HNE.out.2.2))))
  obtain ⟨cb, fb⟩ := HT3.out.badCell
  clear h3 k3
  clear hq1
  generalize w2.heap.size = q1 at *
  have hend : ∀ W : World, Tk W F p r1 (if d = true then r2 else true) → Blk W w.heap.size zs16 119 → Blk W q1 (bCells k) 119 → Keeps (fun b => b = p ∨ w.heap.size ≤ b) w W → True := fun _ _ _ _ _ => trivial
  clear hend
  cases d with
  | false =>
    have HT4 := Lib.hid HT3.out.bad.1
    have HQ4 := Lib.hid (HQ3.out.set_other (p := ⟨p, 1, none⟩) (fun e => HPN.out e.symm) (.bool true))
    have H4 := Lib.hid (H3.out.set_other (p := ⟨p, 1, none⟩) (fun e => HNE.out.1 e.symm) (.bool true))
    have HK4 := Lib.hid (keeps2 (fun b => Iff.rfl) HK3.out HT3.out.bad.2)
    go_wp2_with (first | ((with_reducible show wpList _ _ _ (⟨some 17, _, _, _, _, _⟩ :: _) _ _); refine wpList_ldAgg rfl (.tmp 3) aggKey rfl rfl (cs := bCells k) (by rw [bCells_length]; exact HL.out) H4.out.cellsAll ?_) | ((with_reducible show wpList _ _ _ (⟨none, .store _ (.tmp 2) (.tmp 17), _, _, _, _⟩ :: _) _ _); refine wpList_stAgg rfl (.tmp 2) (.tmp 17) aggKey rfl rfl (vs := bCells k) rfl (by rw [bCells_length]; exact HL.out) HQ4.out (by simp [zs16]) (bCells_one k) ?_))
    intro w5 h5 k5
    have H5 : Hid (Blk w5 w.heap.size (bCells k) 119) := Lib.hid (by simpa [zs16] using h5)
    have HT5 := Lib.hid (HT4.out.keep k5 (fun b hb hl e => HF.out (by rw [← e]; exact hb)) HPN.out)
    have HK5 : Hid (Keeps (fun b => b = p ∨ w.heap.size ≤ b) w w5) := Lib.hid (HK4.out.trans (k5.mono (fun b hb => .inr (Nat.le_of_eq hb.symm))))
    clear h5 k5
    go_wp2_with fail
    exact bodyPost_ret (results_agg rfl aggKey rfl (cs := bCells k) (by rw [bCells_length]; exact HL.out) H5.out.cellsAll) rfl ⟨by rw [HS.out]; rfl, by rw [HS.out]; exact HT5.out, HK5.out⟩
  | true =>
    go_wp2_with (first | ((with_reducible show wpList _ _ _ (⟨some 17, _, _, _, _, _⟩ :: _) _ _); refine wpList_ldAgg rfl (.tmp 3) aggKey rfl rfl (cs := bCells k) (by rw [bCells_length]; exact HL.out) H3.out.cellsAll ?_) | ((with_reducible show wpList _ _ _ (⟨none, .store _ (.tmp 2) (.tmp 17), _, _, _, _⟩ :: _) _ _); refine wpList_stAgg rfl (.tmp 2) (.tmp 17) aggKey rfl rfl (vs := bCells k) rfl (by rw [bCells_length]; exact HL.out) HQ3.out (by simp [zs16]) (bCells_one k) ?_))
    intro w5 h5 k5
    have H5 : Hid (Blk w5 w.heap.size (bCells k) 119) := Lib.hid (by simpa [zs16] using h5)
    have HT5 := Lib.hid (HT3.out.keep k5 (fun b hb hl e => HF.out (by rw [← e]; exact hb)) HPN.out)
    have HK5 : Hid (Keeps (fun b => b = p ∨ w.heap.size ≤ b) w w5) := Lib.hid (HK3.out.trans (k5.mono (fun b hb => .inr (Nat.le_of_eq hb.symm))))
    clear h5 k5
    go_wp2_with fail
    exact bodyPost_ret (results_agg rfl aggKey rfl (cs := bCells k) (by rw [bCells_length]; exact HL.out) H5.out.cellsAll) rfl ⟨by rw [HS.out]; rfl, by rw [HS.out]; exact HT5.out, HK5.out⟩
theorem Tk.tight {w : World} {F : Nat → Prop} {p : Nat} {rem : List Tv} {bad : Bool} (h : Tk w F p rem bad) : Tk w (fun y => F y ∧ y < w.heap.size) p rem bad := by
  obtain ⟨lv, rows, h1, h2, h3, h4, h5⟩ := h
  exact ⟨lv, rows, h1, h2, fun hp x hx => ⟨h3 hp x hx, Sl.own_lt h2 (by decide) hp x hx⟩, h4.tight, fun h => h5 h.1⟩
theorem Tk.mono {w : World} {F G : Nat → Prop} {p : Nat} {rem : List Tv} {bad : Bool} (h : Tk w F p rem bad) (hg : ∀ b, F b → G b) (hp : ¬ G p) : Tk w G p rem bad := by
  obtain ⟨lv, rows, h1, h2, h3, h4, h5⟩ := h
  exact ⟨lv, rows, h1, h2, fun hp x hx => hg x (h3 hp x hx), h4.mono hg, hp⟩
theorem Tk.notF {w : World} {F : Nat → Prop} {p : Nat} {rem : List Tv} {bad : Bool} (h : Tk w F p rem bad) : ¬ F p := by
  obtain ⟨lv, rows, h1, h2, h3, h4, h5⟩ := h
  exact h5
theorem key_tk (rem : List Tv) (bad : Bool) (p : Nat) (F : Nat → Prop) (w : World) (h : Tk w F p rem bad) :
    Calls Try.prog 68 #[.pointer (some ⟨p, 0, none⟩)] w (TkRes w F p (keyV (keyS rem bad).1) (keyS rem bad).2) :=
  (key_tk' rem bad p _ w h.tight (fun h => Nat.lt_irrefl _ h.2)).mono fun _ _ ⟨h1, h2, h3⟩ => ⟨h1, h2.mono (fun _ h => h.1) h.notF, h3⟩
end Go.Proofs.Ytpjkidcfidmfaaa
/- A text's bytes: the conversion's row, and append to it. -/
namespace Go.Proofs.Ytpjkidcfidmfaaa
set_option linter.unusedSimpArgs false
set_option linter.unusedVariables false
open Go.RowKit
/-- A row that a conversion has laid: its cells, the spare ones too; only behind its end it is marked. -/
def Cv (w : World) (g n cap : Nat) (cs : List Value) : Prop :=
  cs.length = n ∧ (∀ u ∈ cs, u.oneCell' = true) ∧ n ≤ cap ∧ cap ≤ maxLen ∧ ∃ cur : Array Value, w.heap[g]? = some (.cells cur 5 (cur.size, cur.size + 1)) ∧ cur.size = cap ∧ cur.toList.take n = cs
theorem Cv.sl {w : World} {g n cap : Nat} {cs : List Value} (h : Cv w g n cap cs) : Sl w 1 (.slice (some ⟨g, 0, none⟩) n cap) n cs := by
  obtain ⟨h1, h2, h3, h4, cur, h5, h6, h7⟩ := h
  refine ⟨by omega, h2, _, cap, rfl, h3, h4, fun h => by simp at h, .inr ⟨g, 0, rfl, fun j u hj => ?_⟩⟩
  have hjl : j < n := by have := (List.getElem?_eq_some_iff.1 hj).1; omega
  rw [← h7, List.getElem?_take, if_pos hjl] at hj
  rw [Nat.zero_add, cell_of_row w g j cur _ _ h5, ← Array.getElem?_toList]
  exact hj
theorem Cv.below {w w' : World} {g n cap : Nat} {cs : List Value} (h : Cv w g n cap cs) (hk : Below w.heap.size w w') : Cv w' g n cap cs := by
  obtain ⟨h1, h2, h3, h4, cur, h5, h6, h7⟩ := h
  exact ⟨h1, h2, h3, h4, cur, (hk.block g (block_lt h5)).trans h5, h6, h7⟩
theorem Cv.alloc {w : World} {g n cap : Nat} {cs : List Value} (h : Cv w g n cap cs) (o : Obj) : Cv (w.alloc o) g n cap cs := h.below ((Below.refl _ _).alloc (Nat.le_refl _) _)
theorem run_conv (w : World) (s : ByteArray) (hs : s.size ≤ 281474976710656) : ∃ cap w', (convert 9 22 (.string s)).run Try.prog w = .ok (.slice (some ⟨w.heap.size, 0, none⟩) s.size cap) w' ∧
    Cv w' w.heap.size s.size cap (bCells s.data.toList) ∧ Below w.heap.size w w' ∧ w'.heap.size = w.heap.size + 1 := by
  have hge := grownCap_ge w s.size 0 5
  have hle := grownCap_le_maxLen w s.size 0 5 (by unfold maxLen; omega)
  have hl : s.data.toList.length = s.size := rfl
  refine ⟨_, _, Lib.run_convert_string_bytes w 9 22 5 s Try.underlying9 Try.underlying22 Try.underlying5, ⟨by rw [bCells_length, hl], bCells_one _, hge, hle, Lib.bytesCells w 5 s, Lib.bytesWorld_at_new w _ s, ?_, ?_⟩, ⟨?_, ?_, ?_, ?_, fun k hk => Lib.bytesWorld_at_old w _ s k hk⟩, Lib.bytesWorld_size w _ s⟩
  · simp only [Lib.bytesCells, Array.size_append, Array.size_map, Array.size_replicate]
    rw [show s.data.size = s.size from rfl]
    omega
  · simp only [Lib.bytesCells, Array.toList_append, Array.toList_map]
    rw [List.take_append_of_le_length (by simp), List.take_of_length_le (by simp)]
    rfl
  · rfl
  · rfl
  · rfl
  · rw [Lib.bytesWorld_size]; omega
theorem wpList_conv {ops : Array Oper} {rest : List Oper} {o : Oper} {a : Act} {w : World} {Q : Exit → Act → World → Prop} (hgd : Region.wanted o (yielded ops a.tmps) = true) (x : Operand)
    (ho : o.op = .convert 9 22 x) {s : ByteArray} (hx : a.eval x = .string s) (hs : s.size ≤ 281474976710656)
    (h : ∀ cap w', Cv w' w.heap.size s.size cap (bCells s.data.toList) → Below w.heap.size w w' → w'.heap.size = w.heap.size + 1 → wpList Try.prog ops Q rest (a.put o.dst (.slice (some ⟨w.heap.size, 0, none⟩) s.size cap)) w') : wpList Try.prog ops Q (o :: rest) a w := by
  obtain ⟨cap, w', hr, h2, h3, h4⟩ := run_conv w s hs
  refine wpList_want hgd fun K hK => ?_
  unfold Oper.wp execOp
  simp only [ho, hx, Sem.run_bind, Sem.run_pure, Result.andThen_ok, hr]
  exact hK _ _ (h cap w' h2 h3 h4)
end Go.Proofs.Ytpjkidcfidmfaaa
/- Makers of values for messages: Raw with its row's place, text, num, truth (of msg and of tick). -/
namespace Go.Proofs.Ytpjkidcfidmfaaa
set_option linter.unusedSimpArgs false
set_option linter.unusedVariables false
open Go.RowKit
/-- A value is made: all its rows are new. -/
def MkRes (w : World) (x : Tv) (e : Ending) (w' : World) : Prop :=
  ∃ cs, e = .returned (.agg cs.toArray) ∧ TvF w' (fun b => w.heap.size ≤ b) x cs ∧ Below w.heap.size w w'
theorem mk5 {w w' : World} {k t : Int} {n : Nat} {b : List UInt8} {bv : Value} (hb : Bs w' bv b) (ho : ∀ x, bv.ownBlock = some x → w.heap.size ≤ x) (hk : Below w.heap.size w w') :
    MkRes w (.mk k t n b []) (.returned (.agg #[.int .i64 k, .int .i64 t, .int .u64 (n : Int), bv, .slice none 0 0])) w' :=
  ⟨_, rfl, TvF.mk hb ho (Sl.nil _ _ _) (by simp [Value.ownBlock]) rfl, hk⟩
set_option maxRecDepth 100000 in
theorem rawNew_any (v : Value) (b : List UInt8) (w : World) (h : Bs w v b) (hl : b.length ≤ 1099511627776) :
    Calls Try.prog 28 #[v] w (MkRes w (.mk 1 0 0 b [])) := by
  obtain ⟨a, c, rfl, hc, hm⟩ := h.form
  have HA := Lib.hid (h.alloc (.cells zs5.toArray 38))
  have HN := Lib.hid (Blk.new w zs5 38)
  have HB0 : Hid (Below w.heap.size w (w.alloc (.cells zs5.toArray 38))) := Lib.hid ((Below.refl _ _).alloc (Nat.le_refl _) _)
  have HSZ : Hid (∀ o, (w.alloc o).heap.size = w.heap.size + 1) := Lib.hid (fun o => by simp)
  clear h
  go_enter Try.func28, Try.ntmps28
  go_wp2_with ((with_reducible show wpList _ _ _ (⟨some 4, _, _, _, _, _⟩ :: _) _ _); refine wpList_app2 rfl (.const (.slice none 0 0)) (.tmp 3) elBytes rfl w.heap.size (Own.nil _ _ _ _ _) (by simp [Act.eval, Value.ownBlock]) HA.out (by unfold maxLen; omega) (by omega) (by simp) ?_)
  intro v1 w1 ho1 hk1 hv1
  have hz1 := hk1.size
  simp at hz1
  have hb1 : Below w.heap.size w w1 := HB0.out.trans (hk1.below (by rintro x (h | h) <;> (try simp [Value.ownBlock] at h) <;> omega))
  have hr1 : Blk w1 w.heap.size zs5 38 := HN.out.keep hk1 (by rintro (h | h) <;> (try simp [Value.ownBlock] at h) <;> omega)
  have hvb : ∀ x, v1.ownBlock = some x → w.heap.size + 1 ≤ x := fun x hx => by
    rcases (hv1 x hx).1 with h | h
    · simp [Value.ownBlock] at h
    · try simp at h
      omega
  obtain ⟨a1, c1, rfl, _⟩ := ho1.sl.form
  have HR1 := Lib.hid hr1
  have HB1 := Lib.hid hb1
  have HS1 : Hid (Bs w1 (.slice a1 b.length c1) b) := Lib.hid ho1.sl
  have HVB := Lib.hid hvb
  clear ho1 hk1 hv1 hb1 hr1 hvb
  go_wp2_with ((with_reducible show wpList _ _ _ (⟨none, .store _ (.tmp 2) (.tmp 5), _, _, _, _⟩ :: _) _ _); refine wpList_stAgg rfl (.tmp 2) (.tmp 5) aggDer rfl rfl (vs := [.int .i64 1, .int .i64 0, .int .u64 0, .slice a1 b.length c1, .slice none 0 0]) rfl rfl HR1.out (Nat.le_refl _) (by intro u hu; simp at hu; rcases hu with rfl | rfl | rfl | rfl | rfl <;> rfl) ?_)
  intro w2 h2 k2
  have h2' : Blk w2 w.heap.size [.int .i64 1, .int .i64 0, .int .u64 0, .slice a1 b.length c1, .slice none 0 0] 38 := by simpa [zs5] using h2
  have H2 := Lib.hid h2'
  have HB2 : Hid (Below w.heap.size w w2) := Lib.hid (HB1.out.trans (k2.below (by omega)))
  have HS2 : Hid (Bs w2 (.slice a1 b.length c1) b) := Lib.hid (Sl.keep HS1.out k2 (fun x hx e => by have := HVB.out x hx; omega))
  clear h2 h2' k2
  go_wp2_with fail
  exact bodyPost_ret (results_agg rfl aggDer rfl (cs := [.int .i64 1, .int .i64 0, .int .u64 0, .slice a1 b.length c1, .slice none 0 0]) rfl H2.out.cellsAll) rfl (mk5 HS2.out (fun x hx => by have := HVB.out x hx; omega) HB2.out)
theorem numNew_any (n : Nat) (w : World) : Calls Try.prog 47 #[.int .u64 n] w (MkRes w (.mk 0 0 n [] [])) :=
  (derNum_any n w).mono fun _ _ ⟨h1, h2⟩ => by
    subst h1
    exact mk5 (Sl.nil _ _ _) (by simp [Value.ownBlock]) h2
set_option maxHeartbeats 1000000 in
set_option maxRecDepth 100000 in
theorem mtext_any (l : List UInt8) (w : World) (hl : l.length ≤ 1099511627776) : Calls Try.prog 26 #[.string (tx l)] w (MkRes w (.mk 1 0 0 l [])) := by
  have HN := Lib.hid (Blk.new w zs5 38)
  have HB0 : Hid (Below w.heap.size w (w.alloc (.cells zs5.toArray 38))) := Lib.hid ((Below.refl _ _).alloc (Nat.le_refl _) _)
  have HSZ : Hid (∀ o, (w.alloc o).heap.size = w.heap.size + 1) := Lib.hid (fun o => by simp)
  have hcv := run_conv (w.alloc (.cells zs5.toArray 38)) (tx l) (by rw [tx_size]; omega)
  have HCV := Lib.hid hcv
  clear hcv
  go_enter Try.func26, Try.ntmps26
  go_wp2_with ((with_reducible show wpList _ _ _ (⟨some 4, _, _, _, _, _⟩ :: _) _ _); refine wpList_conv rfl (.tmp 3) rfl (s := tx l) rfl (by rw [tx_size]; omega) ?_; intro cap w0 hcv hbv hsz)
  have hbs : Bs w0 (.slice (some ⟨w.heap.size + 1, 0, none⟩) (tx l).size cap) l := by
    have := hcv.sl
    rw [HSZ.out] at this
    exact Sl.bs this rfl (tx_size l).symm
  have hz0 := hbv.size
  simp at hz0
  have HBV := Lib.hid hbv
  have HRW := Lib.hid (rawNew_any _ l w0 hbs (by omega))
  clear hcv hbv hsz hbs HCV
  go_wp2_with fail
  refine HRW.out.mono ?_
  rintro e w1 ⟨cs, rfl, h1, h2⟩
  have HL := Lib.hid h1.length
  have HO := Lib.hid h1.one
  have h1' : TvF w1 (fun b => w.heap.size + 1 ≤ b) (.mk 1 0 0 l []) cs := h1.mono (fun b hb => by first | omega | (simp only [HSZ.out] at hb; omega) | (simp at hb; omega))
  have hbw : Below w.heap.size w w1 := (HB0.out.trans (HBV.out.mono (by simp))).trans (h2.mono (by first | omega | (simp; done) | (simp; omega)))
  have hr1 : Blk w1 w.heap.size zs5 38 := (HN.out.below HBV.out (by simp)).below h2 (by omega)
  have HT := Lib.hid h1'
  have HBW := Lib.hid hbw
  have HR := Lib.hid hr1
  clear h1 h1' h2 hbw hr1
  go_wp2_with ((with_reducible show wpList _ _ _ (⟨none, .store _ (.tmp 2) (.tmp 5), _, _, _, _⟩ :: _) _ _); refine wpList_stAgg rfl (.tmp 2) (.tmp 5) aggDer rfl rfl (vs := cs) rfl HL.out HR.out (Nat.le_refl _) HO.out ?_)
  intro w2 h2 k2
  have H2 : Hid (Blk w2 w.heap.size cs 38) := Lib.hid (by simpa [zs5] using h2)
  have HB2 : Hid (Below w.heap.size w w2) := Lib.hid (HBW.out.trans (k2.below (by omega)))
  have HT2 : Hid (TvF w2 (fun b => w.heap.size ≤ b) (.mk 1 0 0 l []) cs) := Lib.hid ((HT.out.keep k2 (fun b hb _ e => by omega)).mono (fun b hb => by omega))
  clear h2 k2
  go_wp2_with fail
  exact bodyPost_ret (results_agg rfl aggDer rfl (cs := cs) HL.out H2.out.cellsAll) rfl ⟨cs, rfl, HT2.out, HB2.out⟩
set_option maxHeartbeats 1000000 in
set_option maxRecDepth 100000 in
theorem mnum_any (n : Nat) (w : World) (hn : n ≤ 9223372036854775807) : Calls Try.prog 27 #[.int .i64 (n : Int)] w (MkRes w (.mk 0 0 n [] [])) := by
  have HN := Lib.hid (Blk.new w zs5 38)
  have HB0 : Hid (Below w.heap.size w (w.alloc (.cells zs5.toArray 38))) := Lib.hid ((Below.refl _ _).alloc (Nat.le_refl _) _)
  have HSZ : Hid (∀ o, (w.alloc o).heap.size = w.heap.size + 1) := Lib.hid (fun o => by simp)
  have HRW := Lib.hid (numNew_any n (w.alloc (.cells zs5.toArray 38)))
  go_enter Try.func27, Try.ntmps27
  go_wp2_with fail
  refine HRW.out.mono ?_
  rintro e w1 ⟨cs, rfl, h1, h2⟩
  have HL := Lib.hid h1.length
  have HO := Lib.hid h1.one
  have h1' : TvF w1 (fun b => w.heap.size + 1 ≤ b) (.mk 0 0 n [] []) cs := h1.mono (fun b hb => by first | omega | (simp only [HSZ.out] at hb; omega) | (simp at hb; omega))
  have hbw : Below w.heap.size w w1 := HB0.out.trans (h2.mono (by first | omega | (simp; done)))
  have hr1 : Blk w1 w.heap.size zs5 38 := HN.out.below h2 (by first | omega | (simp; done))
  have HT := Lib.hid h1'
  have HBW := Lib.hid hbw
  have HR := Lib.hid hr1
  clear h1 h1' h2 hbw hr1
  go_wp2_with ((with_reducible show wpList _ _ _ (⟨none, .store _ (.tmp 2) (.tmp 5), _, _, _, _⟩ :: _) _ _); refine wpList_stAgg rfl (.tmp 2) (.tmp 5) aggDer rfl rfl (vs := cs) rfl HL.out HR.out (Nat.le_refl _) HO.out ?_)
  intro w2 h2 k2
  have H2 : Hid (Blk w2 w.heap.size cs 38) := Lib.hid (by simpa [zs5] using h2)
  have HB2 : Hid (Below w.heap.size w w2) := Lib.hid (HBW.out.trans (k2.below (by omega)))
  have HT2 : Hid (TvF w2 (fun b => w.heap.size ≤ b) (.mk 0 0 n [] []) cs) := Lib.hid ((HT.out.keep k2 (fun b hb _ e => by omega)).mono (fun b hb => by omega))
  clear h2 k2
  go_wp2_with fail
  exact bodyPost_ret (results_agg rfl aggDer rfl (cs := cs) HL.out H2.out.cellsAll) rfl ⟨cs, rfl, HT2.out, HB2.out⟩
set_option maxHeartbeats 1000000 in
set_option maxRecDepth 100000 in
theorem mnum_neg (n : Int) (m : Nat) (w : World) (hn : n < 0) (hm : -9223372036854775808 ≤ n) (hnm : n + 18446744073709551616 = m) : Calls Try.prog 27 #[.int .i64 n] w (MkRes w (.mk 0 0 m [] [])) := by
  have HN := Lib.hid (Blk.new w zs5 38)
  have HB0 : Hid (Below w.heap.size w (w.alloc (.cells zs5.toArray 38))) := Lib.hid ((Below.refl _ _).alloc (Nat.le_refl _) _)
  have HSZ : Hid (∀ o, (w.alloc o).heap.size = w.heap.size + 1) := Lib.hid (fun o => by simp)
  have HRW := Lib.hid (numNew_any m (w.alloc (.cells zs5.toArray 38)))
  have hcvn : ∀ W, (convert 2 27 (.int .i64 n)).run Try.prog W = .ok (.int .u64 (m : Nat)) W := fun W => by
    have hw : IntKind.u64.wrap n = m := by
      have h64 : (2 : Int) ^ IntKind.u64.bits = 18446744073709551616 := by decide
      simp only [IntKind.wrap, IntKind.signed, h64]
      simp only [Bool.false_eq_true, false_and, if_false, Bool.false_and]
      omega
    simp [convert, Conv.intToInt, hw]
  clear hnm
  go_enter Try.func27, Try.ntmps27
  go_wp2_with fail
  refine HRW.out.mono ?_
  rintro e w1 ⟨cs, rfl, h1, h2⟩
  have HL := Lib.hid h1.length
  have HO := Lib.hid h1.one
  have h1' : TvF w1 (fun b => w.heap.size + 1 ≤ b) (.mk 0 0 m [] []) cs := h1.mono (fun b hb => by first | omega | (simp only [HSZ.out] at hb; omega) | (simp at hb; omega))
  have hbw : Below w.heap.size w w1 := HB0.out.trans (h2.mono (by first | omega | (simp; done)))
  have hr1 : Blk w1 w.heap.size zs5 38 := HN.out.below h2 (by first | omega | (simp; done))
  have HT := Lib.hid h1'
  have HBW := Lib.hid hbw
  have HR := Lib.hid hr1
  clear h1 h1' h2 hbw hr1
  go_wp2_with ((with_reducible show wpList _ _ _ (⟨none, .store _ (.tmp 2) (.tmp 5), _, _, _, _⟩ :: _) _ _); refine wpList_stAgg rfl (.tmp 2) (.tmp 5) aggDer rfl rfl (vs := cs) rfl HL.out HR.out (Nat.le_refl _) HO.out ?_)
  intro w2 h2 k2
  have H2 : Hid (Blk w2 w.heap.size cs 38) := Lib.hid (by simpa [zs5] using h2)
  have HB2 : Hid (Below w.heap.size w w2) := Lib.hid (HBW.out.trans (k2.below (by omega)))
  have HT2 : Hid (TvF w2 (fun b => w.heap.size ≤ b) (.mk 0 0 m [] []) cs) := Lib.hid ((HT.out.keep k2 (fun b hb _ e => by omega)).mono (fun b hb => by omega))
  clear h2 k2
  go_wp2_with fail
  exact bodyPost_ret (results_agg rfl aggDer rfl (cs := cs) HL.out H2.out.cellsAll) rfl ⟨cs, rfl, HT2.out, HB2.out⟩
set_option maxHeartbeats 1000000 in
set_option maxRecDepth 100000 in
theorem mtruth_any (t : Bool) (w : World) : Calls Try.prog 32 #[.bool t] w (MkRes w (.mk 0 0 (if t then 1 else 0) [] [])) := by
  have HN := Lib.hid (Blk.new w zs5 38)
  have HB0 : Hid (Below w.heap.size w (w.alloc (.cells zs5.toArray 38))) := Lib.hid ((Below.refl _ _).alloc (Nat.le_refl _) _)
  have HSZ : Hid (∀ o, (w.alloc o).heap.size = w.heap.size + 1) := Lib.hid (fun o => by simp)
  have HRW := Lib.hid (numNew_any (if t then 1 else 0) (w.alloc (.cells zs5.toArray 38)))
  go_enter Try.func32, Try.ntmps32
  cases t
  · go_wp2_with fail
    refine HRW.out.mono ?_
    rintro e w1 ⟨cs, rfl, h1, h2⟩
    have HL := Lib.hid h1.length
    have HO := Lib.hid h1.one
    have h1' : TvF w1 (fun b => w.heap.size + 1 ≤ b) (.mk 0 0 (if false then 1 else 0) [] []) cs := h1.mono (fun b hb => by first | omega | (simp only [HSZ.out] at hb; omega) | (simp at hb; omega))
    have hbw : Below w.heap.size w w1 := HB0.out.trans (h2.mono (by first | omega | (simp; done)))
    have hr1 : Blk w1 w.heap.size zs5 38 := HN.out.below h2 (by first | omega | (simp; done))
    have HT := Lib.hid h1'
    have HBW := Lib.hid hbw
    have HR := Lib.hid hr1
    clear h1 h1' h2 hbw hr1
    go_wp2_with ((with_reducible show wpList _ _ _ (⟨none, .store _ (.tmp 2) (.tmp 5), _, _, _, _⟩ :: _) _ _); refine wpList_stAgg rfl (.tmp 2) (.tmp 5) aggDer rfl rfl (vs := cs) rfl HL.out HR.out (Nat.le_refl _) HO.out ?_)
    intro w2 h2 k2
    have H2 : Hid (Blk w2 w.heap.size cs 38) := Lib.hid (by simpa [zs5] using h2)
    have HB2 : Hid (Below w.heap.size w w2) := Lib.hid (HBW.out.trans (k2.below (by omega)))
    have HT2 : Hid (TvF w2 (fun b => w.heap.size ≤ b) (.mk 0 0 (if false then 1 else 0) [] []) cs) := Lib.hid ((HT.out.keep k2 (fun b hb _ e => by omega)).mono (fun b hb => by omega))
    clear h2 k2
    go_wp2_with fail
    exact bodyPost_ret (results_agg rfl aggDer rfl (cs := cs) HL.out H2.out.cellsAll) rfl ⟨cs, rfl, HT2.out, HB2.out⟩
  · go_wp2_with fail
    refine HRW.out.mono ?_
    rintro e w1 ⟨cs, rfl, h1, h2⟩
    have HL := Lib.hid h1.length
    have HO := Lib.hid h1.one
    have h1' : TvF w1 (fun b => w.heap.size + 1 ≤ b) (.mk 0 0 (if true then 1 else 0) [] []) cs := h1.mono (fun b hb => by first | omega | (simp only [HSZ.out] at hb; omega) | (simp at hb; omega))
    have hbw : Below w.heap.size w w1 := HB0.out.trans (h2.mono (by first | omega | (simp; done)))
    have hr1 : Blk w1 w.heap.size zs5 38 := HN.out.below h2 (by first | omega | (simp; done))
    have HT := Lib.hid h1'
    have HBW := Lib.hid hbw
    have HR := Lib.hid hr1
    clear h1 h1' h2 hbw hr1
    go_wp2_with ((with_reducible show wpList _ _ _ (⟨none, .store _ (.tmp 2) (.tmp 4), _, _, _, _⟩ :: _) _ _); refine wpList_stAgg rfl (.tmp 2) (.tmp 4) aggDer rfl rfl (vs := cs) rfl HL.out HR.out (Nat.le_refl _) HO.out ?_)
    intro w2 h2 k2
    have H2 : Hid (Blk w2 w.heap.size cs 38) := Lib.hid (by simpa [zs5] using h2)
    have HB2 : Hid (Below w.heap.size w w2) := Lib.hid (HBW.out.trans (k2.below (by omega)))
    have HT2 : Hid (TvF w2 (fun b => w.heap.size ≤ b) (.mk 0 0 (if true then 1 else 0) [] []) cs) := Lib.hid ((HT.out.keep k2 (fun b hb _ e => by omega)).mono (fun b hb => by omega))
    clear h2 k2
    go_wp2_with fail
    exact bodyPost_ret (results_agg rfl aggDer rfl (cs := cs) HL.out H2.out.cellsAll) rfl ⟨cs, rfl, HT2.out, HB2.out⟩
set_option maxHeartbeats 1000000 in
set_option maxRecDepth 100000 in
theorem ttext_any (l : List UInt8) (w : World) (hl : l.length ≤ 1099511627776) : Calls Try.prog 49 #[.string (tx l)] w (MkRes w (.mk 1 0 0 l [])) := by
  have HN := Lib.hid (Blk.new w zs5 38)
  have HB0 : Hid (Below w.heap.size w (w.alloc (.cells zs5.toArray 38))) := Lib.hid ((Below.refl _ _).alloc (Nat.le_refl _) _)
  have HSZ : Hid (∀ o, (w.alloc o).heap.size = w.heap.size + 1) := Lib.hid (fun o => by simp)
  have hcv := run_conv (w.alloc (.cells zs5.toArray 38)) (tx l) (by rw [tx_size]; omega)
  have HCV := Lib.hid hcv
  clear hcv
  go_enter Try.func49, Try.ntmps49
  go_wp2_with ((with_reducible show wpList _ _ _ (⟨some 4, _, _, _, _, _⟩ :: _) _ _); refine wpList_conv rfl (.tmp 3) rfl (s := tx l) rfl (by rw [tx_size]; omega) ?_; intro cap w0 hcv hbv hsz)
  have hbs : Bs w0 (.slice (some ⟨w.heap.size + 1, 0, none⟩) (tx l).size cap) l := by
    have := hcv.sl
    rw [HSZ.out] at this
    exact Sl.bs this rfl (tx_size l).symm
  have hz0 := hbv.size
  simp at hz0
  have HBV := Lib.hid hbv
  have HRW := Lib.hid (rawNew_any _ l w0 hbs (by omega))
  clear hcv hbv hsz hbs HCV
  go_wp2_with fail
  refine HRW.out.mono ?_
  rintro e w1 ⟨cs, rfl, h1, h2⟩
  have HL := Lib.hid h1.length
  have HO := Lib.hid h1.one
  have h1' : TvF w1 (fun b => w.heap.size + 1 ≤ b) (.mk 1 0 0 l []) cs := h1.mono (fun b hb => by first | omega | (simp only [HSZ.out] at hb; omega) | (simp at hb; omega))
  have hbw : Below w.heap.size w w1 := (HB0.out.trans (HBV.out.mono (by simp))).trans (h2.mono (by first | omega | (simp; done) | (simp; omega)))
  have hr1 : Blk w1 w.heap.size zs5 38 := (HN.out.below HBV.out (by simp)).below h2 (by omega)
  have HT := Lib.hid h1'
  have HBW := Lib.hid hbw
  have HR := Lib.hid hr1
  clear h1 h1' h2 hbw hr1
  go_wp2_with ((with_reducible show wpList _ _ _ (⟨none, .store _ (.tmp 2) (.tmp 5), _, _, _, _⟩ :: _) _ _); refine wpList_stAgg rfl (.tmp 2) (.tmp 5) aggDer rfl rfl (vs := cs) rfl HL.out HR.out (Nat.le_refl _) HO.out ?_)
  intro w2 h2 k2
  have H2 : Hid (Blk w2 w.heap.size cs 38) := Lib.hid (by simpa [zs5] using h2)
  have HB2 : Hid (Below w.heap.size w w2) := Lib.hid (HBW.out.trans (k2.below (by omega)))
  have HT2 : Hid (TvF w2 (fun b => w.heap.size ≤ b) (.mk 1 0 0 l []) cs) := Lib.hid ((HT.out.keep k2 (fun b hb _ e => by omega)).mono (fun b hb => by omega))
  clear h2 k2
  go_wp2_with fail
  exact bodyPost_ret (results_agg rfl aggDer rfl (cs := cs) HL.out H2.out.cellsAll) rfl ⟨cs, rfl, HT2.out, HB2.out⟩
end Go.Proofs.Ytpjkidcfidmfaaa
/- Contracts: which names and numbers may be (msg.right, tick.right). Printed by tools/genmright.py. -/
namespace Go.Proofs.Ytpjkidcfidmfaaa
set_option linter.unusedSimpArgs false
set_option linter.unusedVariables false
open Go.RowKit
def timeB (x : Int) : Bool := decide (0 ≤ x) && decide (x ≤ 1099511627776)
theorem map_at {α β : Type} (f : α → β) (l : List α) (k : Nat) (h : k < l.length) : (l.map f)[k]? = some (f l[k]) := by simp [h]
set_option maxHeartbeats 2000000 in
set_option maxRecDepth 100000 in
theorem mright_any (ns : List ByteArray) (xs : List Int) (v1 v2 : Value) (w : World) (h1 : Sl w 1 v1 ns.length (ns.map Value.string)) (h2 : Sl w 1 v2 xs.length (xs.map (Value.int .i64))) (hs : ∀ s ∈ ns, s.size ≤ maxLen) :
    Calls Try.prog 29 #[v1, v2] w fun e w' => e = .returned (.bool (ns.all rightB && xs.all timeB)) ∧ Below w.heap.size w w' := by
  obtain ⟨a, cap, rfl, hcap, hcm⟩ := h1.form
  obtain ⟨a2, cap2, rfl, hcap2, hcm2⟩ := h2.form
  unfold maxLen at hcm hcm2
  have HS := Lib.hid h1
  have HS2 := Lib.hid h2
  have HSZ := Lib.hid hs
  clear h1 h2 hs
  go_enter Try.func29, Try.ntmps29
  go_wp2_with fail
  go_loopw [11] (fun i wr => ∃ k : Nat, k ≤ ns.length ∧ i = .int .i64 k ∧ (ns.take k).all rightB = true ∧ Below w.heap.size w wr) (fun i _ => ns.length - (intOf i).toNat)
  case atStart => exact ⟨0, Nat.zero_le _, rfl, rfl, Below.refl _ _⟩
  case round =>
    obtain ⟨k, hk, rfl, hno, hB⟩ := hrel
    have HNO := Lib.hid hno
    have HB := Lib.hid hB
    clear hno hB
    by_cases hlt : k < ns.length
    · have hlt1 : (k : Int) < (ns.length : Int) := by omega
      obtain ⟨b, off, rfl, hcell⟩ := HS.out.addr (by rw [HS.out.1]; omega)
      have c0 : wr.cell? ⟨b, off + k, none⟩ = some (.string ns[k]) := below_cell HB.out (hcell _ _ (map_at Value.string ns k hlt))
      clear hcell
      have HN : Hid (rightB ns[k] = true → (ns.take (k + 1)).all rightB = true) := Lib.hid (by
        intro h
        rw [List.take_succ_eq_append_getElem hlt, List.all_append, HNO.out]
        simp [h])
      have HY : Hid (rightB ns[k] = false → ns.all rightB = false) := Lib.hid (by
        intro h
        exact List.all_eq_false.2 ⟨ns[k], List.getElem_mem hlt, by rw [h]; simp⟩)
      have HRT := Lib.hid (right_any ns[k] wr (HSZ.out _ (List.getElem_mem hlt)))
      generalize ns[k] = s at *
      go_wp2_with fail
      refine HRT.out.mono ?_
      rintro e w1 ⟨rfl, hb⟩
      have HB1 : Hid (Below w.heap.size w w1) := Lib.hid (HB.out.trans (hb.mono HB.out.size))
      clear hb
      cases hr : rightB s with
      | true =>
        have HR := Lib.hid hr
        clear hr
        go_wp2_with fail
        go_roundw
        case rel => exact ⟨k + 1, by omega, by go_num, HN.out HR.out, HB1.out⟩
        case measure => simp [intOf]; omega
      | false =>
        have HR := Lib.hid hr
        clear hr
        go_wp2_with fail
        go_ret
        rw [HY.out HR.out]
        exact ⟨rfl, HB1.out⟩
    · obtain rfl : k = ns.length := by omega
      have HA1 : Hid (ns.all rightB = true) := Lib.hid (by have h := HNO.out; rwa [List.take_length] at h)
      clear HNO
      go_wp2_with fail
      have hsz : w.heap.size ≤ wr.heap.size := HB.out.size
      go_loopw [21] (fun i wr => ∃ k : Nat, k ≤ xs.length ∧ i = .int .i64 k ∧ (xs.take k).all timeB = true ∧ Below w.heap.size w wr) (fun i _ => xs.length - (intOf i).toNat)
      case atStart => exact ⟨0, Nat.zero_le _, rfl, rfl, HB.out⟩
      case round =>
        obtain ⟨k, hk, rfl, hno, hB⟩ := hrel
        have HNO := Lib.hid hno
        have HB := Lib.hid hB
        clear hno hB
        by_cases hlt : k < xs.length
        · have hlt1 : (k : Int) < (xs.length : Int) := by omega
          obtain ⟨b, off, rfl, hcell⟩ := HS2.out.addr (by rw [HS2.out.1]; omega)
          have c0 : wr.cell? ⟨b, off + k, none⟩ = some (.int .i64 xs[k]) := below_cell HB.out (hcell _ _ (map_at (Value.int .i64) xs k hlt))
          clear hcell
          have HN : Hid (timeB xs[k] = true → (xs.take (k + 1)).all timeB = true) := Lib.hid (by
            intro h
            rw [List.take_succ_eq_append_getElem hlt, List.all_append, HNO.out]
            simp [h])
          have HY : Hid (timeB xs[k] = false → xs.all timeB = false) := Lib.hid (by
            intro h
            exact List.all_eq_false.2 ⟨xs[k], List.getElem_mem hlt, by rw [h]; simp⟩)
          have HE : Hid (timeB xs[k] = (decide (0 ≤ xs[k]) && decide (xs[k] ≤ 1099511627776))) := Lib.hid rfl
          generalize xs[k] = x at *
          by_cases h1 : 0 ≤ x
          · by_cases h2 : x ≤ 1099511627776
            · have hx0 : ¬ x < 0 := by omega
              go_wp2_with fail
              go_roundw
              case rel => exact ⟨k + 1, by omega, by go_num, HN.out (by rw [HE.out]; simp [h1, h2]), HB.out⟩
              case measure => simp [intOf]; omega
            · have hx0 : ¬ x < 0 := by omega
              have hx1 : 1099511627776 < x := by omega
              clear h2
              have HF : Hid (xs.all timeB = false) := Lib.hid (HY.out (by rw [HE.out]; simp; omega))
              go_wp2_with fail
              go_ret
              rw [HA1.out, HF.out]
              exact ⟨rfl, HB.out⟩
          · have hx0 : x < 0 := by omega
            clear h1
            have HF : Hid (xs.all timeB = false) := Lib.hid (HY.out (by rw [HE.out]; simp; omega))
            go_wp2_with fail
            go_ret
            rw [HA1.out, HF.out]
            exact ⟨rfl, HB.out⟩
        · obtain rfl : k = xs.length := by omega
          have HA : Hid (xs.all timeB = true) := Lib.hid (by have h := HNO.out; rwa [List.take_length] at h)
          go_wp2_with fail
          go_ret
          rw [HA1.out, HA.out]
          exact ⟨rfl, HB.out⟩
set_option maxHeartbeats 2000000 in
set_option maxRecDepth 100000 in
theorem tright_any (s : ByteArray) (xs : List Int) (v2 : Value) (w : World) (h2 : Sl w 1 v2 xs.length (xs.map (Value.int .i64))) (hs : s.size ≤ maxLen) :
    Calls Try.prog 50 #[.string s, v2] w fun e w' => e = .returned (.bool (rightB s && xs.all timeB)) ∧ Below w.heap.size w w' := by
  obtain ⟨a2, cap2, rfl, hcap2, hcm2⟩ := h2.form
  unfold maxLen at hcm2
  have HS2 := Lib.hid h2
  have HSZ := Lib.hid hs
  clear h2 hs
  go_enter Try.func50, Try.ntmps50
  go_wp2_with fail
  go_loopw [9] (fun i wr => ∃ k : Nat, k ≤ xs.length ∧ i = .int .i64 k ∧ (xs.take k).all timeB = true ∧ Below w.heap.size w wr) (fun i _ => xs.length - (intOf i).toNat)
  case atStart => exact ⟨0, Nat.zero_le _, rfl, rfl, Below.refl _ _⟩
  case round =>
    obtain ⟨k, hk, rfl, hno, hB⟩ := hrel
    have HNO := Lib.hid hno
    have HB := Lib.hid hB
    clear hno hB
    by_cases hlt : k < xs.length
    · have hlt1 : (k : Int) < (xs.length : Int) := by omega
      obtain ⟨b, off, rfl, hcell⟩ := HS2.out.addr (by rw [HS2.out.1]; omega)
      have c0 : wr.cell? ⟨b, off + k, none⟩ = some (.int .i64 xs[k]) := below_cell HB.out (hcell _ _ (map_at (Value.int .i64) xs k hlt))
      clear hcell
      have HN : Hid (timeB xs[k] = true → (xs.take (k + 1)).all timeB = true) := Lib.hid (by
        intro h
        rw [List.take_succ_eq_append_getElem hlt, List.all_append, HNO.out]
        simp [h])
      have HY : Hid (timeB xs[k] = false → xs.all timeB = false) := Lib.hid (by
        intro h
        exact List.all_eq_false.2 ⟨xs[k], List.getElem_mem hlt, by rw [h]; simp⟩)
      have HE : Hid (timeB xs[k] = (decide (0 ≤ xs[k]) && decide (xs[k] ≤ 1099511627776))) := Lib.hid rfl
      generalize xs[k] = x at *
      by_cases h1 : 0 ≤ x
      · by_cases h2 : x ≤ 1099511627776
        · have hx0 : ¬ x < 0 := by omega
          go_wp2_with fail
          go_roundw
          case rel => exact ⟨k + 1, by omega, by go_num, HN.out (by rw [HE.out]; simp [h1, h2]), HB.out⟩
          case measure => simp [intOf]; omega
        · have hx0 : ¬ x < 0 := by omega
          have hx1 : 1099511627776 < x := by omega
          clear h2
          have HF : Hid (xs.all timeB = false) := Lib.hid (HY.out (by rw [HE.out]; simp; omega))
          go_wp2_with fail
          go_ret
          rw [HF.out, Bool.and_false]
          exact ⟨rfl, HB.out⟩
      · have hx0 : x < 0 := by omega
        clear h1
        have HF : Hid (xs.all timeB = false) := Lib.hid (HY.out (by rw [HE.out]; simp; omega))
        go_wp2_with fail
        go_ret
        rw [HF.out, Bool.and_false]
        exact ⟨rfl, HB.out⟩
    · obtain rfl : k = xs.length := by omega
      have HA : Hid (xs.all timeB = true) := Lib.hid (by have h := HNO.out; rwa [List.take_length] at h)
      have HRT := Lib.hid (right_any s wr HSZ.out)
      go_wp2_with fail
      refine HRT.out.mono ?_
      rintro e w1 ⟨rfl, hb⟩
      have HB1 : Hid (Below w.heap.size w w1) := Lib.hid (HB.out.trans (hb.mono HB.out.size))
      clear hb
      go_wp2_with fail
      go_ret
      rw [HA.out, Bool.and_true]
      exact ⟨rfl, HB1.out⟩
end Go.Proofs.Ytpjkidcfidmfaaa
