/- Contracts: sym.mark, slices.Clone of bytes. (Printed by wip/tools/gensym.py.) -/
import Derived.Test.YtogfkfoklnpfhaaOctetPut
import Derived.Test.YtogfkfoklnpfhaaKeyT
import Derived.Test.YtogfkfoklnpfhaaSlices
import Derived.Test.YtogfkfoklnpfhaaFlat
import Derived.Test.YtogfkfoklnpfhaaBase2
import Derived.WalkSpells
namespace Go.Proofs.Ytogfkfoklnpfhaa
set_option linter.unusedSimpArgs false
set_option linter.unusedVariables false
open Go.RowKit

/-- A mark: sixteen bytes of a kind and a number. -/
def markB (k : UInt8) (n : Nat) : List UInt8 := [255, 254, k, 0, 0, 0, 0, 0] ++ putB n
theorem markB_length (k : UInt8) (n : Nat) : (markB k n).length = 16 := by simp [markB, putB_length]

theorem conv_u64 (n : Nat) (hn : n < 9223372036854775808) (w : World) : IntKind.u64.wrap (n : Int) = n := by
  rw [IntKind.wrap_u64]
  omega

def MarkRes (w : World) (k : UInt8) (n : Nat) (e : Ending) (w' : World) : Prop := e = .returned (keyV (markB k n)) ∧ Below w.heap.size w w'

set_option maxRecDepth 100000 in
set_option maxHeartbeats 1000000 in
theorem mark_any (k : UInt8) (n : Nat) (hn : n < 9223372036854775808) (w : World) :
    Calls Try.prog 33 #[.int .u8 k.toNat, .int .i64 n] w (MarkRes w k n) := by
  have B0 := Lib.hid (((Blk.new w zs16 68).alloc (.cells zs16.toArray 68)).alloc (.cells #[.int .u8 255, .int .u8 254, .int .u8 k.toNat] 5))
  have B1 : Hid (Blk (((w.alloc (.cells zs16.toArray 68)).alloc (.cells zs16.toArray 68)).alloc (.cells #[.int .u8 255, .int .u8 254, .int .u8 k.toNat] 5)) (w.heap.size + 1) zs16 68) := Lib.hid ((Blk.at_ (cs := zs16.toArray) (by simp)).alloc _)
  have HS : Hid (Bs (((w.alloc (.cells zs16.toArray 68)).alloc (.cells zs16.toArray 68)).alloc (.cells #[.int .u8 255, .int .u8 254, .int .u8 k.toNat] 5)) (.slice (some ⟨w.heap.size + 1 + 1, 0, none⟩) 3 3) [255, 254, k]) := Lib.hid (Bs.lit [255, 254, k] (by simp) rfl (by simp [maxLen]))
  have HB : Hid (Below w.heap.size w (((w.alloc (.cells zs16.toArray 68)).alloc (.cells zs16.toArray 68)).alloc (.cells #[.int .u8 255, .int .u8 254, .int .u8 k.toNat] 5))) := Lib.hid ((((Below.refl _ _).alloc (Nat.le_refl _) _).alloc (by simp) _).alloc (by simp; omega) _)
  have HN := Lib.hid hn
  have HW := Lib.hid (conv_u64 n hn w)
  clear hn
  go_enter Try.func33, Try.ntmps33
  go_wp2_with ((with_reducible show wpList _ _ _ (⟨some 9, _, _, _, _, _⟩ :: _) _ _); refine wpList_cp rfl (.tmp 6) (.tmp 8) elBytes rfl rfl B1.out rfl HS.out (by simp [zs16]) ?_)
  intro w1 h1 k1
  have h1' : Blk w1 (w.heap.size + 1) (bCells [255, 254, k, 0, 0, 0, 0, 0, 0, 0, 0, 0, 0, 0, 0, 0]) 68 := by simpa [zs16, bCells, bV] using h1
  have B0' := Lib.hid ((B0.out.keep k1 (by omega)).drew)
  have H1 := Lib.hid h1'.drew
  have hsz : w.heap.size + 1 < w1.heap.size := h1'.lt
  have HB1 : Hid (Below w.heap.size w w1.drew) := Lib.hid ((HB.out.trans (k1.below (by omega))).drew)
  clear h1 h1' k1 B0 B1 HS HB
  go_wp2_with fail
  refine wp_region_any (by kernel_rfl) ?_
  change wpAny _ _ _ _ _ _ _ (World.drew _)
  refine wpAny_take (i := 0) (oi := { dst := some 10, op := _, type := _, pos := _, after := _, guard := none }) (v := .slice (some ⟨w.heap.size + 1, 8, none⟩) 8 8) rfl (by kernel_rfl) (by kernel_rfl) (by kernel_rfl) (fun _ _ _ h => h) (Or.inl ⟨by rfl, by intro w; go_simp⟩) ?_
  simp only [Act.put, List.setIfInBounds_toArray, List.set_cons_zero, List.set_cons_succ]
  refine wpAny_take (i := 1) (oi := { dst := some 11, op := _, type := _, pos := _, after := _, guard := none }) (v := .int .i64 n) rfl (by kernel_rfl) (by kernel_rfl) (by kernel_rfl) (fun _ _ _ h => h) (Or.inl ⟨by rfl, by intro w; go_simp⟩) ?_
  simp only [Act.put, List.setIfInBounds_toArray, List.set_cons_zero, List.set_cons_succ]
  refine wpAny_take (i := 2) (oi := { dst := some 12, op := _, type := _, pos := _, after := _, guard := none }) (v := .int .u64 n) rfl (by kernel_rfl) (by kernel_rfl) (by kernel_rfl) (fun _ _ _ h => h) (Or.inl ⟨by rfl, by intro w; go_simp; exact HW.out⟩) ?_
  simp only [Act.put, List.setIfInBounds_toArray, List.set_cons_zero, List.set_cons_succ]
  refine wpAny_ready (rs := [3]) (by decide +kernel) (by simp) ?_
  refine AllReady.cons (o := { dst := some 13, op := .call { callee := .value (.func 38), args := #[.tmp 12], argTypes := #[75] }, type := _, pos := _, after := _, guard := none }) rfl (fun K hK => ?_) AllReady.nil
  go_simp
  refine (put_any n _).mono ?_
  rintro e w2 ⟨rfl, ho, hb, _⟩
  have hz2 := hb.size
  try simp at hz2
  have B0' := Lib.hid (B0'.out.below hb (by simp; omega))
  have H1 := Lib.hid (H1.out.below hb (by simp; omega))
  have HB1 : Hid (Below w.heap.size w w2) := Lib.hid (HB1.out.trans (hb.mono (by simp; omega)))
  have HP := Lib.hid ho.bs
  clear ho hb
  refine hK _ _ ?_
  clear hK K
  try simp only [Act.put, List.setIfInBounds_toArray, List.set_cons_zero, List.set_cons_succ]
  refine wpAny_ready (rs := [4]) (by decide +kernel) (by simp) ?_
  refine AllReady.cons (o := { dst := some 14, op := .call { callee := .builtin .copy, args := #[.tmp 10, .tmp 13], argTypes := #[22, 22] }, type := _, pos := _, after := _, guard := none }) rfl (fun K hK => ?_) AllReady.nil
  refine step_cp rfl (.tmp 10) (.tmp 13) elBytes rfl H1.out rfl rfl HP.out (by rw [putB_length]; simp [bCells]) ?_
  intro w3 h3 k3
  have h3' : Blk w3 (w.heap.size + 1) (bCells (markB k n)) 68 := by
    have e : (bCells (putB n)).take (min (putB n).length 8) = bCells (putB n) := List.take_of_length_le (by rw [bCells_length, putB_length]; decide)
    rw [e, putB_length] at h3
    rw [markB, bCells_append]
    simpa [bCells] using h3
  have B0' := Lib.hid (B0'.out.keep k3 (by omega))
  have H1 := Lib.hid h3'
  have HB1 : Hid (Below w.heap.size w w3) := Lib.hid (HB1.out.trans (k3.below (by omega)))
  have hz3 := k3.size
  clear h3 h3' k3
  refine hK _ _ ?_
  clear hK K
  try simp only [Act.put, List.setIfInBounds_toArray, List.set_cons_zero, List.set_cons_succ]
  refine wpAny_done (by decide +kernel) ?_ _
  have HBL : Hid ((bCells (markB k n)).length = 16) := Lib.hid (by rw [bCells_length, markB_length])
  go_wp2_with (first | ((with_reducible show wpList _ _ _ (⟨some 15, _, _, _, _, _⟩ :: _) _ _); refine wpList_ldAgg rfl (.tmp 5) aggKey rfl rfl (cs := bCells (markB k n)) HBL.out H1.out.cellsAll ?_) | ((with_reducible show wpList _ _ _ (⟨none, .store _ (.tmp 4) (.tmp 15), _, _, _, _⟩ :: _) _ _); refine wpList_stAgg rfl (.tmp 4) (.tmp 15) aggKey rfl rfl (vs := bCells (markB k n)) rfl HBL.out B0'.out (Nat.le_refl _) (bCells_one _) ?_))
  intro w5 h5 k5
  have h5' : Blk w5 w.heap.size (bCells (markB k n)) 68 := by simpa [zs16] using h5
  have H5 := Lib.hid h5'
  have HB5 : Hid (Below w.heap.size w w5) := Lib.hid (HB1.out.trans (k5.below (by omega)))
  clear h5 h5' k5
  go_wp2_with fail
  exact bodyPost_ret (results_agg rfl aggKey rfl (cs := bCells (markB k n)) HBL.out H5.out.cellsAll) rfl ⟨rfl, HB5.out⟩

def CloneRes (w : World) (b : List UInt8) (e : Ending) (w' : World) : Prop :=
  ∃ v, e = .returned v ∧ OwnBs w' w.heap.size v b ∧ (∀ i, v.ownBlock = some i → w.heap.size ≤ i ∧ i < w'.heap.size) ∧ Below w.heap.size w w'

set_option maxRecDepth 100000 in
set_option maxHeartbeats 1000000 in
theorem clone_any (v : Value) (b : List UInt8) (w : World) (h : Bs w v b) (hl : b.length ≤ 1099511627776) :
    Calls Try.prog 32 #[v] w (CloneRes w b) := by
  obtain ⟨a, c, rfl, hc, hm⟩ := h.form
  have q22 : ∀ (w : World) (a : Option Addr) (n c n' c' : Nat), (binOp .eql 22 (.slice a n c) (.slice none n' c')).run Try.prog w = .ok (.bool a.isNone) w := fun w a n c n' c' => Lib.run_eql_slice_nil w _ _ a n c n' c' Try.underlying22
  have HS : Hid (Bs (w.alloc (.cells #[] 5)) (.slice a b.length c) b) := Lib.hid (h.alloc _)
  have HLIT : Hid (∀ i, (Value.slice (some ⟨w.heap.size, 0, none⟩) 0 0).ownBlock = some i → i < (w.alloc (.cells #[] 5)).heap.size) := Lib.hid (fun i hi => by simp [Value.ownBlock] at hi; simp; omega)
  by_cases ha : a = none
  · subst ha
    obtain rfl : b = [] := by
      obtain ⟨_, _, a', c', e, h3, _, h5, _⟩ := h
      simp only [Value.slice.injEq, true_and] at e
      obtain ⟨rfl, rfl⟩ := e
      have := h5 rfl
      exact List.eq_nil_of_length_eq_zero (by omega)
    clear h
    go_enter Try.func32, Try.ntmps32
    go_wp2_with fail
    go_ret
    exact ⟨_, rfl, Own.nil _ _ _ _ _, fun i hi => by simp [Value.ownBlock] at hi, Below.refl _ _⟩
  · obtain ⟨⟨p, o, sp⟩, rfl⟩ := Option.ne_none_iff_exists'.1 ha
    clear h ha
    go_enter Try.func32, Try.ntmps32
    go_wp2_with ((with_reducible show wpList _ _ _ (⟨some 7, _, _, _, _, _⟩ :: _) _ _); refine wpList_app2 rfl (.tmp 5) (.tmp 6) elBytes rfl w.heap.size (Own.nil _ _ _ _ _) HLIT.out HS.out (by unfold maxLen; omega) (by omega) (by simp) ?_)
    intro v1 w1 ho hk hv
    have hb1 : Below w.heap.size w w1 := ((Below.refl _ _).alloc (Nat.le_refl _) _).trans (hk.below (by
      rintro i (h | h)
      · exact h.2
      · try simp at h
        omega))
    have HO : Hid (OwnBs w1 w.heap.size v1 b) := Lib.hid (by unfold OwnBs; simpa using ho)
    have HV : Hid (∀ i, v1.ownBlock = some i → w.heap.size ≤ i ∧ i < w1.heap.size) := Lib.hid (fun i hi => ⟨by
      rcases (hv i hi).1 with h | h
      · simp [Value.ownBlock] at h; omega
      · try simp at h
        omega, (hv i hi).2⟩)
    have HB := Lib.hid hb1
    obtain ⟨a1, c1, rfl, _, _⟩ := ho.sl.form
    clear ho hk hv hb1
    go_wp2_with fail
    go_ret
    exact ⟨_, rfl, HO.out, HV.out, HB.out⟩
end Go.Proofs.Ytogfkfoklnpfhaa
