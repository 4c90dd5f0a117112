/- Contracts: the document's files (compeerref21). -/
import Derived.Test.YtogfkfoklnpfhaaXferR
import Derived.Test.YtogfkfoklnpfhaaSame
namespace Go.Proofs.Ytogfkfoklnpfhaa
set_option linter.unusedSimpArgs false
set_option linter.unusedVariables false
open Go.RowKit

/-- A file that comes, as the document has it. -/
structure RefF where
  st : Int
  size : Int
  data : List UInt8
  of : List UInt8

def refWhole (x : RefF) : RefF × Int := if (x.data.length : Int) < x.size then (x, 0) else if x.data = x.of then ({ x with st := 2 }, 0) else ({ x with st := 4 }, 23)
def refAccept (x : RefF) : RefF × Int := if x.st ≠ 0 then (x, 16) else refWhole { x with st := 1 }
def refRefuse (x : RefF) : RefF × Int := if x.st ≠ 0 then (x, 16) else ({ x with st := 3 }, 0)
def refTake (x : RefF) (at' : Int) (b : List UInt8) : RefF × Int :=
  if x.st ≠ 1 then (x, 16)
  else if at' ≠ x.data.length ∨ b.length = 0 then (x, 18)
  else if 64 < b.length ∨ x.size < at' + b.length then (x, 20)
  else refWhole { x with data := x.data ++ b }
def refBreak (x : RefF) : RefF × Int := if 1 < x.st then (x, 16) else ({ x with st := 4, data := [] }, 0)
theorem aggIn21 : AggTy Try.prog 51 4 := AggTy.mk Try.underlying51 rfl (by kernel_rfl)
def Ref21Res (ov : Value) (r : RefF × Int) (l : List Res) (e : Ending) (w' : World) : Prop :=
  ∃ dv, e = .returned (.tuple #[.agg #[.int .i64 r.1.st, .int .i64 r.1.size, dv, ov], .int .i64 r.2]) ∧ Hold w' (.row dv r.1.data :: l)

set_option maxRecDepth 100000 in
set_option maxHeartbeats 4000000 in
theorem refWhole_any (dv ov : Value) (x : RefF) (l : List Res) (w : World) (h : Hold w (.row dv x.data :: l)) (ho : Bs w ov x.of) :
    Calls Try.prog 36 #[.agg #[.int .i64 x.st, .int .i64 x.size, dv, ov]] w (Ref21Res ov (refWhole x) l) := by
  obtain ⟨st, size, data, of⟩ := x
  have hb : Bs w dv data := h.rowOf (by simp)
  obtain ⟨a, c, rfl, h1, h2⟩ := hb.form
  obtain ⟨b, d, rfl, h3, h4⟩ := ho.form
  simp only at h h1 h3 ho hb
  have HH := Lib.hid h
  have HB := Lib.hid hb
  have HO := Lib.hid ho
  unfold maxLen at h2 h4
  have HC : Hid (Hold ((w.alloc (.cells #[.int .i64 st, .int .i64 size, .slice a data.length c, .slice b of.length d] 51)).alloc (.cells #[.int .i64 0, .int .i64 0, .slice none 0 0, .slice none 0 0] 51))
      (.blk (w.heap.size + 1) [.int .i64 0, .int .i64 0, .slice none 0 0, .slice none 0 0] 51 :: .blk w.heap.size [.int .i64 st, .int .i64 size, .slice a data.length c, .slice b of.length d] 51 :: .row (.slice a data.length c) data :: l)) :=
    Lib.hid ((h.addBlk [.int .i64 st, .int .i64 size, .slice a data.length c, .slice b of.length d] 51).addBlkAt [.int .i64 0, .int .i64 0, .slice none 0 0, .slice none 0 0] _ (by simp))
  clear h hb ho
  by_cases hlt : (data.length : Int) < size
  · have HE : Hid (refWhole ⟨st, size, data, of⟩ = (⟨st, size, data, of⟩, 0)) := Lib.hid (by simp [refWhole, hlt])
    go_enter Try.func36, Try.ntmps36
    go_wp2_with fail
    rw [HE.out]
    exact bodyPost_ret (results_agg_tmp rfl aggIn21 rfl (cs := [.int .i64 st, .int .i64 size, .slice a data.length c, .slice b of.length d]) rfl (Blk.at_ (b := w.heap.size + 1) (by simp)).cellsAll) rfl ⟨_, rfl, (HH.out.alloc _).alloc _⟩
  · have HS := Lib.hid (same_b (.slice a data.length c) (.slice b of.length d) data of ((w.alloc (.cells #[.int .i64 st, .int .i64 size, .slice a data.length c, .slice b of.length d] 51)).alloc (.cells #[.int .i64 0, .int .i64 0, .slice none 0 0, .slice none 0 0] 51)) ((HB.out.alloc _).alloc _) ((HO.out.alloc _).alloc _))
    obtain ⟨q, hq⟩ : ∃ q, decide (data = of) = q := ⟨_, rfl⟩
    have HQ := Lib.hid hq
    have hlt2 : size ≤ (data.length : Int) := by omega
    rw [HQ.out] at HS
    clear hq hlt
    go_enter Try.func36, Try.ntmps36
    go_wp2_with fail
    refine HS.out.mono ?_
    rintro e w3 ⟨rfl, hb⟩
    have HC := Lib.hid (HC.out.step hb)
    have hz3 := hb.size
    simp at hz3
    clear hb
    have hk1 := HC.out.blkOf (p := w.heap.size) (cs := [.int .i64 st, .int .i64 size, .slice a data.length c, .slice b of.length d]) (T := 51) (by simp)
    have hk2 := HC.out.blkOf (p := w.heap.size + 1) (cs := [.int .i64 0, .int .i64 0, .slice none 0 0, .slice none 0 0]) (T := 51) (by simp)
    have c0 := hk1.cell 0
    have f0 := hk1.frozen 0
    have d0 := hk2.cell 0
    have g0 := hk2.frozen 0
    have c1 := hk1.cell 1
    have f1 := hk1.frozen 1
    have d1 := hk2.cell 1
    have g1 := hk2.frozen 1
    have c2 := hk1.cell 2
    have f2 := hk1.frozen 2
    have d2 := hk2.cell 2
    have g2 := hk2.frozen 2
    have c3 := hk1.cell 3
    have f3 := hk1.frozen 3
    have d3 := hk2.cell 3
    have g3 := hk2.frozen 3
    simp only [List.getElem?_cons_succ, List.getElem?_cons_zero] at c0 c1 c2 c3 d0 d1 d2 d3
    obtain ⟨p, hp⟩ : ∃ p, p = w.heap.size := ⟨_, rfl⟩
    rw [← hp] at HC c0 c1 c2 c3 d0 d1 d2 d3 f0 f1 f2 f3 g0 g1 g2 g3 ⊢
    clear hk1 hk2 hp hz3
    cases q
    · have hq := HQ.out
      simp only [decide_eq_true_eq, decide_eq_false_iff_not] at hq
      have HE : Hid (refWhole ⟨st, size, data, of⟩ = (⟨4, size, data, of⟩, 23)) := Lib.hid (by unfold refWhole; rw [if_neg (show ¬ ((data.length : Int) < size) by omega), if_neg hq])
      have HC := Lib.hid (((((HC.out.swap.set 0 (.int .i64 4)).swap.set 0 (.int .i64 4)).set 1 (.int .i64 size)).set 2 (.slice a data.length c)).set 3 (.slice b of.length d))
      clear hq
      go_wp2_with fail
      rw [HE.out]
      exact bodyPost_ret (results_agg_tmp rfl aggIn21 rfl (cs := [.int .i64 4, .int .i64 size, .slice a data.length c, .slice b of.length d]) rfl (HC.out.blkOf (p := p + 1) (cs := [.int .i64 4, .int .i64 size, .slice a data.length c, .slice b of.length d]) (T := 51) (List.mem_cons_self)).cellsAll) rfl ⟨_, rfl, HC.out.tail.tail⟩
    · have hq := HQ.out
      simp only [decide_eq_true_eq, decide_eq_false_iff_not] at hq
      have HE : Hid (refWhole ⟨st, size, data, of⟩ = (⟨2, size, data, of⟩, 0)) := Lib.hid (by unfold refWhole; rw [if_neg (show ¬ ((data.length : Int) < size) by omega), if_pos hq])
      have HC := Lib.hid (((((HC.out.swap.set 0 (.int .i64 2)).swap.set 0 (.int .i64 2)).set 1 (.int .i64 size)).set 2 (.slice a data.length c)).set 3 (.slice b of.length d))
      clear hq
      go_wp2_with fail
      rw [HE.out]
      exact bodyPost_ret (results_agg_tmp rfl aggIn21 rfl (cs := [.int .i64 2, .int .i64 size, .slice a data.length c, .slice b of.length d]) rfl (HC.out.blkOf (p := p + 1) (cs := [.int .i64 2, .int .i64 size, .slice a data.length c, .slice b of.length d]) (T := 51) (List.mem_cons_self)).cellsAll) rfl ⟨_, rfl, HC.out.tail.tail⟩
end Go.Proofs.Ytogfkfoklnpfhaa
