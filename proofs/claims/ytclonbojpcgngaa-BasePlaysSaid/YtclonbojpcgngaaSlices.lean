/- Slices of bytes: parts of them, blocks that read as bytes, the call's own bytes. -/
import Derived.Test.YtclonbojpcgngaaByteC
import Derived.Outline
namespace Go.Proofs.Ytclonbojpcgngaa
set_option linter.unusedSimpArgs false
set_option linter.unusedVariables false
open Go.RowKit

theorem Bs.lit {w : World} {cs : Array Value} {b : Nat} (l : List UInt8) (hb : w.heap.size = b) (hc : cs.toList = bCells l) (hn : l.length ≤ maxLen) : Bs (w.alloc (.cells cs 5)) (.slice (some ⟨b, 0, none⟩) l.length l.length) l := by
  have := Sl.lit (w := w) (cs := cs) (T := 5) (sz := 1) (n := l.length) hb (by rw [hc, bCells_length]; omega) (by rw [hc]; exact bCells_one _) hn
  rw [hc] at this
  exact this

theorem Bs.below {w w' : World} {v : Value} {l : List UInt8} (h : Bs w v l) (hk : Below w.heap.size w w') : Bs w' v l := Sl.below h hk

theorem Bs.alloc {w : World} {v : Value} {l : List UInt8} (h : Bs w v l) (o : Obj) : Bs (w.alloc o) v l := Sl.alloc h o

theorem OwnBs.bs {w : World} {B : Nat} {v : Value} {l : List UInt8} (h : OwnBs w B v l) : Bs w v l := Own.sl h

theorem below_self {w w' : World} {B : Nat} (h : Below B w w') (hs : w.heap.size ≤ B) : Below w.heap.size w w' := h.mono hs

theorem Blk.bs {w : World} {b : Nat} {l : List UInt8} {T : TypeId} (h : Blk w b (bCells l) T) {off n cap : Nat} (hf : off + n ≤ l.length) (hc : n ≤ cap) (hm : cap ≤ maxLen) :
    Sl w 1 (.slice (some ⟨b, off, none⟩) n cap) n (bCells ((l.drop off).take n)) := by
  have hl : (bCells ((l.drop off).take n)).length = n := by rw [bCells_length, List.length_take, List.length_drop]; omega
  refine ⟨by rw [hl]; omega, bCells_one _, some ⟨b, off, none⟩, cap, rfl, hc, hm, (fun h => by cases h), .inr ⟨b, off, rfl, fun j u hj => ?_⟩⟩
  have hj' : j < n := by have := (List.getElem?_eq_some_iff.1 hj).1; omega
  rw [h.cell]
  simp only [bCells, List.getElem?_map, List.getElem?_take, List.getElem?_drop, hj', if_true] at hj ⊢
  exact hj

theorem Sl.bs {w : World} {v : Value} {n : Nat} {l l' : List UInt8} (h : Sl w 1 v n (bCells l)) (he : l = l') (hn : l'.length = n) : Bs w v l' := by subst he hn; exact h

theorem i64_and1023 (n : Int) : bits .and .i64 n 1023 = n % 1024 := by
  have h127 : (BitVec.ofInt 64 1023).toNat = 2 ^ 10 - 1 := by decide
  have key : (BitVec.ofInt 64 n &&& BitVec.ofInt 64 1023).toNat = (n % ((2 ^ 64 : Nat) : Int)).toNat % 2 ^ 10 := by
    rw [BitVec.toNat_and, BitVec.toNat_ofInt, h127, Nat.and_two_pow_sub_one_eq_mod]
  show IntKind.i64.wrap ((BitVec.ofInt 64 n &&& BitVec.ofInt 64 1023).toNat : Nat) = n % 1024
  rw [key, IntKind.wrap_i64]
  omega

theorem Sl.mid {w : World} {b o cap0 n0 : Nat} {l : List UInt8} (h : Sl w 1 (.slice (some ⟨b, o, none⟩) n0 cap0) n0 (bCells l)) {off n cap : Nat} (hf : off + n ≤ n0) (hc : n ≤ cap) (hm : cap ≤ maxLen) :
    Sl w 1 (.slice (some ⟨b, o + off, none⟩) n cap) n (bCells ((l.drop off).take n)) := by
  have hll : l.length = n0 := by have := h.1; rw [bCells_length] at this; omega
  have hl : (bCells ((l.drop off).take n)).length = n := by rw [bCells_length, List.length_take, List.length_drop]; omega
  refine ⟨by rw [hl]; omega, bCells_one _, some ⟨b, o + off, none⟩, cap, rfl, hc, hm, (fun h => by cases h), ?_⟩
  by_cases hn : n = 0
  · exact .inl (List.eq_nil_of_length_eq_zero (by omega))
  · obtain ⟨b', o', e, hcell⟩ := h.addr (by rw [bCells_length]; omega)
    injection e with e
    injection e with e1 e2 e3
    subst e1 e2
    refine .inr ⟨b, o + off, rfl, fun j u hj => ?_⟩
    have hj' : j < n := by have := (List.getElem?_eq_some_iff.1 hj).1; omega
    rw [Nat.add_assoc]
    refine hcell _ _ ?_
    simp only [bCells, List.getElem?_map, List.getElem?_take, List.getElem?_drop, hj', if_true] at hj ⊢
    exact hj

/-- The block behind bytes of the call's own. -/
theorem OwnBs.blk {w : World} {B : Nat} {v : Value} {l : List UInt8} (h : OwnBs w B v l) (hl : 0 < l.length) :
    ∃ g cap rest, v = .slice (some ⟨g, 0, none⟩) l.length cap ∧ B ≤ g ∧ Blk w g (bCells l ++ rest) 5 ∧ l.length ≤ cap ∧ cap ≤ maxLen := by
  obtain ⟨h0, h1, ⟨a, _, hn⟩ | ⟨g, cap, cur, rfl, h2, h3, h4, h5, h6, h7⟩⟩ := h
  · omega
  · refine ⟨g, cap, cur.toList.drop (l.length * 1), rfl, h2, ?_, h4, h5⟩
    rw [← h7, List.take_append_drop]
    exact h3

theorem Blk.bs_app {w : World} {b : Nat} {l : List UInt8} {rest : List Value} {T : TypeId} (h : Blk w b (bCells l ++ rest) T) {cap : Nat} (hc : l.length ≤ cap) (hm : cap ≤ maxLen) :
    Sl w 1 (.slice (some ⟨b, 0, none⟩) l.length cap) l.length (bCells l) := by
  refine ⟨by rw [bCells_length]; omega, bCells_one _, some ⟨b, 0, none⟩, cap, rfl, hc, hm, (fun h => by cases h), .inr ⟨b, 0, rfl, fun j u hj => ?_⟩⟩
  have hj' := (List.getElem?_eq_some_iff.1 hj).1
  rw [Nat.zero_add, h.cell, List.getElem?_append_left hj']
  exact hj

theorem Bs.none (w : World) (a : Option Addr) (cap : Nat) (h : a = .none → cap = 0) (hm : cap ≤ maxLen) : Bs w (.slice a 0 cap) [] :=
  ⟨by simp [bCells], by simp [bCells], a, cap, rfl, Nat.zero_le _, hm, h, .inl rfl⟩

theorem Sl.lt {w : World} {sz b o n cap : Nat} {cs : List Value} (h : Sl w sz (.slice (some ⟨b, o, none⟩) n cap) n cs) (hpos : 0 < cs.length) : b < w.heap.size := by
  obtain ⟨b', o', e, hc⟩ := h.addr hpos
  injection e with e
  injection e with e1 e2 e3
  subst e1
  obtain ⟨u, hu⟩ : ∃ u, cs[0]? = some u := ⟨_, List.getElem?_eq_getElem hpos⟩
  exact World.block_lt_of_cell? w _ (hc 0 u hu)

theorem Own.form' {w : World} {B : Nat} {e : TypeId} {sz : Nat} {v : Value} {n : Nat} {cs : List Value} (h : Own w B e sz v n cs) (hn : 0 < n) :
    ∃ g cap cur, v = .slice (some ⟨g, 0, none⟩) n cap ∧ B ≤ g ∧ w.heap[g]? = some (.cells cur e (0, 0)) ∧ n ≤ cap ∧ cap ≤ maxLen ∧ cur.size = cap * sz ∧ cur.toList.take (n * sz) = cs := by
  obtain ⟨_, _, ⟨a, _, h0⟩ | h⟩ := h
  · omega
  · exact h

theorem Own.frozen {w : World} {B : Nat} {e : TypeId} {sz g cap n : Nat} {cs : List Value} (h : Own w B e sz (.slice (some ⟨g, 0, none⟩) n cap) n cs) (hn : 0 < n) (i : Nat) : w.frozen? ⟨g, i, none⟩ = false := by
  obtain ⟨g', cap', cur, e, _, h2, _⟩ := h.form' hn
  injection e with e1 e2 e3
  injection e1 with e1
  injection e1 with e1
  subst e1
  simp [World.frozen?, h2]

theorem Own.set {w : World} {B : Nat} {e : TypeId} {sz g cap n : Nat} {cs : List Value} (h : Own w B e sz (.slice (some ⟨g, 0, none⟩) n cap) n cs) (hn : 0 < n) (i : Nat) (u : Value) (hu : u.oneCell' = true) :
    Own (w.setCell ⟨g, i, none⟩ u) B e sz (.slice (some ⟨g, 0, none⟩) n cap) n (cs.set i u) := by
  obtain ⟨g', cap', cur, e, hg, h2, h3, h4, h5, h6⟩ := h.form' hn
  injection e with e1 e2 e3
  injection e1 with e1
  injection e1 with e1
  subst e1 e3
  refine ⟨by rw [List.length_set]; exact h.1, fun x hx => ?_, .inr ⟨g, cap, cur.setIfInBounds i u, rfl, hg, ?_, h3, h4, by rw [Array.size_setIfInBounds]; exact h5, ?_⟩⟩
  · rcases List.mem_or_eq_of_mem_set hx with hx | rfl
    · exact h.2.1 x hx
    · exact hu
  · have hb : Blk w g cur.toList e := by unfold Blk; simpa using h2
    have := hb.set i u
    unfold Blk at this
    rw [this]
    exact congrArg some (congrArg (fun c => Obj.cells c e (0, 0)) (Array.ext' (by simp)))
  · rw [Array.toList_setIfInBounds, ← h6, List.take_set]
/-- Of an empty slice nothing is asked. -/
theorem Sl.keepF {w w' : World} {sz : Nat} {v : Value} {n : Nat} {cs : List Value} {F S : Nat → Prop} (h : Sl w sz v n cs) (hk : Keeps S w w') (hf : 0 < n → ∀ x, v.ownBlock = some x → F x) (hs : ∀ b, F b → b < w.heap.size → ¬ S b) : Sl w' sz v n cs := by
  by_cases hn : 0 < n
  · exact Sl.keep' h hk (fun x hx hl => hs x (hf hn x hx) hl)
  · obtain ⟨h1, h2, a, cap, e, h3, h4, h5, _⟩ := h
    have : cs = [] := List.eq_nil_of_length_eq_zero (by rw [h1, show n = 0 by omega, Nat.zero_mul])
    exact ⟨h1, h2, a, cap, e, h3, h4, h5, .inl this⟩

theorem Sl.own_lt {w : World} {sz : Nat} {v : Value} {n : Nat} {cs : List Value} (h : Sl w sz v n cs) (hsz : 0 < sz) (hn : 0 < n) : ∀ x, v.ownBlock = some x → x < w.heap.size := by
  intro x hx
  obtain ⟨a, c, rfl, _⟩ := h.form
  have hpos : 0 < cs.length := by rw [h.1]; exact Nat.mul_pos hn hsz
  obtain ⟨b, o, rfl, _⟩ := h.addr hpos
  simp [Value.ownBlock] at hx
  subst hx
  exact Sl.lt h hpos

theorem Bs.litM {w : World} {cs : Array Value} {b : Nat} {fz : Nat × Nat} (l : List UInt8) (hb : w.heap.size = b) (hc : cs.toList = bCells l) (hn : l.length ≤ maxLen) : Bs (w.alloc (.cells cs 5 fz)) (.slice (some ⟨b, 0, Option.none⟩) l.length l.length) l := by
  subst hb
  refine ⟨by rw [bCells_length]; omega, bCells_one _, _, _, rfl, Nat.le_refl _, hn, (fun h => by cases h), ?_⟩
  rw [← hc]
  exact At.one (heap_alloc_new w _)

end Go.Proofs.Ytclonbojpcgngaa
