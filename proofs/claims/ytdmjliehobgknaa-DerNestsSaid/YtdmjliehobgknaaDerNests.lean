/- The statement DerNests, walked. (Printed by wip/tools/gendernests.py.) -/
import Derived.Test.YtdmjliehobgknaaNest
import Derived.Test.YtdmjliehobgknaaAnyCut
import Derived.Test.YtdmjliehobgknaaDerCount
import Derived.Test.YtdmjliehobgknaaBuildN
import Derived.Test.YtdmjliehobgknaaCy
namespace Go.Proofs.Ytdmjliehobgknaa
set_option linter.unusedSimpArgs false
set_option linter.unusedVariables false
open Go.RowKit

theorem i64_and15 (n : Int) : bits .and .i64 n 15 = n % 16 := by
  have h127 : (BitVec.ofInt 64 15).toNat = 2 ^ 4 - 1 := by decide
  have key : (BitVec.ofInt 64 n &&& BitVec.ofInt 64 15).toNat = (n % ((2 ^ 64 : Nat) : Int)).toNat % 2 ^ 4 := by
    rw [BitVec.toNat_and, BitVec.toNat_ofInt, h127, Nat.and_two_pow_sub_one_eq_mod]
  show IntKind.i64.wrap ((BitVec.ofInt 64 n &&& BitVec.ofInt 64 15).toNat : Nat) = n % 16
  rw [key, IntKind.wrap_i64]
  omega

theorem nest_tree {W : World} {x y : Tv} {cs ds : List Value} (t : Int) (hx : TvF W (fun _ => True) x cs) (hy : TvF W (fun _ => True) y ds) :
    TvF (W.alloc (.cells (cs ++ ds).toArray 47)) (fun _ => True) (nestT t x y) [.int .i64 2, .int .i64 t, .int .u64 0, .slice none 0 0, .slice (some ⟨W.heap.size, 0, none⟩) 2 2] := by
  have hb : Below W.heap.size W (W.alloc (.cells (cs ++ ds).toArray 47)) := (Below.refl _ _).alloc (Nat.le_refl _) _
  refine TvF.mk (rows := cs ++ ds) (Sl.nil _ _ _) (fun _ _ => trivial) (Sl.lit rfl (by simp [hx.length, hy.length]) (by
    intro u hu
    simp at hu
    rcases hu with h | h
    · exact hx.one u h
    · exact hy.one u h) (by unfold maxLen; decide)) (fun _ _ => trivial) ?_
  exact ⟨cs, ds, by simp, hx.below hb, ds, [], by simp, hy.below hb, rfl⟩

theorem nest_size (t : Int) (x y : Tv) (hx : (writeS x).length ≤ 36000) (hy : (writeS y).length ≤ 36000) : (writeS (nestT t x y)).length ≤ 80000 := by
  rw [nest_write, List.length_append, List.length_append]
  have := headS_le 2 t (writeS x ++ writeS y).length
  rw [List.length_append] at this
  omega

theorem nest_nw (t : Int) {x y : Tv} (hx : Nw x) (hy : Nw y) : Nw (nestT t x y) := ⟨by decide, hx, hy, trivial⟩

theorem nest_short (x : Tv) (h : (wrS x).2 ≠ 0) : (wrS x).1 = [] := by
  rcases wrS_cases x with ⟨e, _⟩ | ⟨e, _⟩ | ⟨e, _⟩
  · rw [e]
  · rw [e]
  · rw [e] at h; exact absurd rfl h

theorem nest_first (t : Int) (x y : Tv) : (writeS (nestT t x y))[0]? = some (UInt8.ofNat (128 + t).toNat) := by
  rw [nest_write]
  have h1 := headS_first 2 t (writeS x ++ writeS y).length (writeS x ++ writeS y)
  have h2 := headS_pos 2 t (writeS x ++ writeS y).length
  rw [List.getD_eq_getElem?_getD] at h1
  have h3 : 0 < (headS 2 t (writeS x ++ writeS y).length ++ (writeS x ++ writeS y)).length := by rw [List.length_append]; omega
  rw [List.getElem?_eq_getElem h3] at h1 ⊢
  simp only [Option.getD_some] at h1
  rw [h1]
  rfl

theorem Sl.cellsAt_ {w : World} {b o n cap : Nat} {cs : List Value} (h : Sl w 5 (.slice (some ⟨b, o, none⟩) n cap) n cs) (pre post : List Value) {mid : List Value} {q : Nat} (e : cs = pre ++ mid ++ post) (hq : pre.length = q) : CellsAt w b (o + q) mid := by
  subst hq
  exact h.cellsAt e

theorem byteInt {w : World} {b o n cap : Nat} {l : List UInt8} {x : UInt8} {v : Int} (h : Bs w (.slice (some ⟨b, o, none⟩) n cap) l) (hx : l[0]? = some x) (hv : ((x.toNat : Nat) : Int) = v) : w.cell? ⟨b, o, none⟩ = some (.int .u8 v) := by
  have := h.byteAt 0 hx
  rw [bV, hv] at this
  exact this

set_option maxHeartbeats 4000000 in
set_option maxRecDepth 100000 in
theorem derNests_walk (x y : Tv) (cs ds : List Value) (tg : Int) (w : World) (hx : TvF w (fun _ => True) x cs) (hy : TvF w (fun _ => True) y ds) (nx : Nw x) (ny : Nw y) (lx : Lw x) (ly : Lw y) (bx : Bw x) (by_ : Bw y) :
    Calls Try.prog 12 #[.agg cs.toArray, .agg ds.toArray, .int .i64 tg] w fun e w' => e = .returned (.bool true) ∧ Below w.heap.size w w' := by
  have HCL : Hid (cs.length = 5) := Lib.hid hx.length
  have HDL : Hid (ds.length = 5) := Lib.hid hy.length
  have HLX := Lib.hid lx
  have HLY := Lib.hid ly
  have HBX := Lib.hid bx
  have HBY := Lib.hid by_
  have HNX := Lib.hid nx
  have HNY := Lib.hid ny
  have HC : Hid (Cx w [(w.heap.size, cs, 47), (w.heap.size + 1, ds, 47)] [(x, cs), (y, ds)] [] ((w.alloc (.cells cs.toArray 47)).alloc (.cells ds.toArray 47))) := Lib.hid (by
    refine ⟨fun b hb => ?_, fun t ht => ?_, by simp, ((Below.refl _ _).alloc (Nat.le_refl _) _).alloc (by simp) _⟩
    · simp at hb
      rcases hb with rfl | rfl
      · exact (Blk.new w _ _).alloc _
      · exact Blk.at_ (by simp)
    · simp at ht
      rcases ht with rfl | rfl
      · exact hx.below (((Below.refl _ _).alloc (Nat.le_refl _) _).alloc (by simp) _)
      · exact hy.below (((Below.refl _ _).alloc (Nat.le_refl _) _).alloc (by simp) _))
  clear hx hy lx ly bx by_ nx ny
  go_enter Try.func12, Try.ntmps12
  go_wp2_with fail
  refine (alive02_any _).mono ?_
  rintro e w1 ⟨rfl, hb⟩
  have HC := Lib.hid (HC.out.step hb).drew
  clear hb
  obtain ⟨c1, hc1⟩ : ∃ c, c = countS x 2000 := ⟨_, rfl⟩
  obtain ⟨c2, hc2⟩ : ∃ c, c = countS y 2000 := ⟨_, rfl⟩
  have hp1 : 1 ≤ c1 ∧ c1 ≤ 140737488353233 := by rw [hc1]; exact ⟨countS_pos _ _, countS_le x 2000 (by decide) HBX.out⟩
  have hp2 : 1 ≤ c2 ∧ c2 ≤ 140737488353233 := by rw [hc2]; exact ⟨countS_pos _ _, countS_le y 2000 (by decide) HBY.out⟩
  have HC1 := Lib.hid hc1
  have HC2 := Lib.hid hc2
  have hp1a := hp1.1
  have hp1b := hp1.2
  have hp2a := hp2.1
  have hp2b := hp2.2
  have HWR : Hid (IntKind.i64.wrap (c1 + c2) = c1 + c2) := Lib.hid (by rw [IntKind.wrap_i64]; omega)
  clear hc1 hc2 hp1 hp2
  go_wp2_with fail
  refine wp_region_any (by kernel_rfl) ?_
  change wpAny _ _ _ _ _ _ _ (World.drew _)
  apply tail_cut2 (I := fun W es fs => Cx w [(w.heap.size, cs, 47), (w.heap.size + 1, ds, 47)] [(x, cs), (y, ds)] [] W)
  case' h1 =>
    intro HT
    refine wpAny_ready (rs := [0, 3]) (by decide +kernel) (by simp) ?_
    refine AllReady.cons (o := { dst := some 20, op := .load 47 (.tmp 3), type := _, pos := _, after := _, guard := none }) rfl (fun K hK => ?_) (AllReady.cons (o := { dst := some 23, op := .load 47 (.tmp 4), type := _, pos := _, after := _, guard := none }) rfl (fun K hK => ?_) AllReady.nil)
    · refine step_ldAggG (b := w.heap.size) (off := 0) rfl (.tmp 3) aggDer rfl (by simp [Act.eval]) HCL.out (HC.out.cells (T := 47) (by simp)) ?_
      refine hK _ _ ?_
      clear hK K
      try simp only [Act.put, List.setIfInBounds_toArray, List.set_cons_zero, List.set_cons_succ]
      refine wpAny_ready (rs := [1, 3]) (by decide +kernel) (by simp) ?_
      refine AllReady.cons (o := { dst := some 21, op := .call { callee := .value (.func 29), args := #[.tmp 20], argTypes := #[47] }, type := _, pos := _, after := _, guard := none }) rfl (fun K hK => ?_) (AllReady.cons (o := { dst := some 23, op := .load 47 (.tmp 4), type := _, pos := _, after := _, guard := none }) rfl (fun K hK => ?_) AllReady.nil)
      · go_simp
        refine (plain_any x _ cs _ (HC.out.tree (x, cs) (by simp)) HLX.out).mono ?_
        rintro e w2 ⟨es, rfl, htv, hb⟩
        have HTV := Lib.hid htv
        have HC := Lib.hid (HC.out.step hb)
        clear hb htv
        refine hK _ _ ?_
        clear hK K
        try simp only [Act.put, List.setIfInBounds_toArray, List.set_cons_zero, List.set_cons_succ]
        refine wpAny_ready (rs := [2, 3]) (by decide +kernel) (by simp) ?_
        refine AllReady.cons (o := { dst := some 22, op := .call { callee := .value (.func 30), args := #[.tmp 21, .const (.int .i64 2000)], argTypes := #[50, 3] }, type := _, pos := _, after := _, guard := none }) rfl (fun K hK => ?_) (AllReady.cons (o := { dst := some 23, op := .load 47 (.tmp 4), type := _, pos := _, after := _, guard := none }) rfl (fun K hK => ?_) AllReady.nil)
        · go_simp
          refine (count_any x _ es _ 2000 HTV.out HBX.out (by decide) (by decide)).mono ?_
          rw [← HC1.out]
          rintro e w3 ⟨rfl, hb⟩
          have HC := Lib.hid (HC.out.step hb)
          clear hb
          refine hK _ _ ?_
          clear hK K
          try simp only [Act.put, List.setIfInBounds_toArray, List.set_cons_zero, List.set_cons_succ]
          refine wpAny_ready (rs := [3]) (by decide +kernel) (by simp) ?_
          refine AllReady.cons (o := { dst := some 23, op := .load 47 (.tmp 4), type := _, pos := _, after := _, guard := none }) rfl (fun K hK => ?_) AllReady.nil
          refine step_ldAggG (b := w.heap.size + 1) (off := 0) rfl (.tmp 4) aggDer rfl (by simp [Act.eval]) HDL.out (HC.out.cells (T := 47) (by simp)) ?_
          refine hK _ _ ?_
          clear hK K
          try simp only [Act.put, List.setIfInBounds_toArray, List.set_cons_zero, List.set_cons_succ]
          refine wpAny_ready (rs := [4]) (by decide +kernel) (by simp) ?_
          refine AllReady.cons (o := { dst := some 24, op := .call { callee := .value (.func 29), args := #[.tmp 23], argTypes := #[47] }, type := _, pos := _, after := _, guard := none }) rfl (fun K hK => ?_) AllReady.nil
          go_simp
          refine (plain_any y _ ds _ (HC.out.tree (y, ds) (by simp)) HLY.out).mono ?_
          rintro e w4 ⟨fs, rfl, htv, hb⟩
          have HTV := Lib.hid htv
          have HC := Lib.hid (HC.out.step hb)
          clear hb htv
          refine hK _ _ ?_
          clear hK K
          try simp only [Act.put, List.setIfInBounds_toArray, List.set_cons_zero, List.set_cons_succ]
          refine wpAny_ready (rs := [5]) (by decide +kernel) (by simp) ?_
          refine AllReady.cons (o := { dst := some 25, op := .call { callee := .value (.func 30), args := #[.tmp 24, .const (.int .i64 2000)], argTypes := #[50, 3] }, type := _, pos := _, after := _, guard := none }) rfl (fun K hK => ?_) AllReady.nil
          go_simp
          refine (count_any y _ fs _ 2000 HTV.out HBY.out (by decide) (by decide)).mono ?_
          rw [← HC2.out]
          rintro e w5 ⟨rfl, hb⟩
          have HC := Lib.hid (HC.out.step hb)
          clear hb
          refine hK _ _ ?_
          clear hK K
          try simp only [Act.put, List.setIfInBounds_toArray, List.set_cons_zero, List.set_cons_succ]
          refine any_listed (l' := #[true, true, true, true, true, true, false, false]) (by decide +kernel) ?_
          exact HT _ es fs HC.out
        · refine step_ldAggG (b := w.heap.size + 1) (off := 0) rfl (.tmp 4) aggDer rfl (by simp [Act.eval]) HDL.out (HC.out.cells (T := 47) (by simp)) ?_
          refine hK _ _ ?_
          clear hK K
          try simp only [Act.put, List.setIfInBounds_toArray, List.set_cons_zero, List.set_cons_succ]
          refine wpAny_ready (rs := [2]) (by decide +kernel) (by simp) ?_
          refine AllReady.cons (o := { dst := some 22, op := .call { callee := .value (.func 30), args := #[.tmp 21, .const (.int .i64 2000)], argTypes := #[50, 3] }, type := _, pos := _, after := _, guard := none }) rfl (fun K hK => ?_) AllReady.nil
          go_simp
          refine (count_any x _ es _ 2000 HTV.out HBX.out (by decide) (by decide)).mono ?_
          rw [← HC1.out]
          rintro e w3 ⟨rfl, hb⟩
          have HC := Lib.hid (HC.out.step hb)
          clear hb
          refine hK _ _ ?_
          clear hK K
          try simp only [Act.put, List.setIfInBounds_toArray, List.set_cons_zero, List.set_cons_succ]
          refine wpAny_ready (rs := [4]) (by decide +kernel) (by simp) ?_
          refine AllReady.cons (o := { dst := some 24, op := .call { callee := .value (.func 29), args := #[.tmp 23], argTypes := #[47] }, type := _, pos := _, after := _, guard := none }) rfl (fun K hK => ?_) AllReady.nil
          go_simp
          refine (plain_any y _ ds _ (HC.out.tree (y, ds) (by simp)) HLY.out).mono ?_
          rintro e w4 ⟨fs, rfl, htv, hb⟩
          have HTV := Lib.hid htv
          have HC := Lib.hid (HC.out.step hb)
          clear hb htv
          refine hK _ _ ?_
          clear hK K
          try simp only [Act.put, List.setIfInBounds_toArray, List.set_cons_zero, List.set_cons_succ]
          refine wpAny_ready (rs := [5]) (by decide +kernel) (by simp) ?_
          refine AllReady.cons (o := { dst := some 25, op := .call { callee := .value (.func 30), args := #[.tmp 24, .const (.int .i64 2000)], argTypes := #[50, 3] }, type := _, pos := _, after := _, guard := none }) rfl (fun K hK => ?_) AllReady.nil
          go_simp
          refine (count_any y _ fs _ 2000 HTV.out HBY.out (by decide) (by decide)).mono ?_
          rw [← HC2.out]
          rintro e w5 ⟨rfl, hb⟩
          have HC := Lib.hid (HC.out.step hb)
          clear hb
          refine hK _ _ ?_
          clear hK K
          try simp only [Act.put, List.setIfInBounds_toArray, List.set_cons_zero, List.set_cons_succ]
          refine any_listed (l' := #[true, true, true, true, true, true, false, false]) (by decide +kernel) ?_
          exact HT _ es fs HC.out
      · refine step_ldAggG (b := w.heap.size + 1) (off := 0) rfl (.tmp 4) aggDer rfl (by simp [Act.eval]) HDL.out (HC.out.cells (T := 47) (by simp)) ?_
        refine hK _ _ ?_
        clear hK K
        try simp only [Act.put, List.setIfInBounds_toArray, List.set_cons_zero, List.set_cons_succ]
        refine wpAny_ready (rs := [1]) (by decide +kernel) (by simp) ?_
        refine AllReady.cons (o := { dst := some 21, op := .call { callee := .value (.func 29), args := #[.tmp 20], argTypes := #[47] }, type := _, pos := _, after := _, guard := none }) rfl (fun K hK => ?_) AllReady.nil
        go_simp
        refine (plain_any x _ cs _ (HC.out.tree (x, cs) (by simp)) HLX.out).mono ?_
        rintro e w2 ⟨es, rfl, htv, hb⟩
        have HTV := Lib.hid htv
        have HC := Lib.hid (HC.out.step hb)
        clear hb htv
        refine hK _ _ ?_
        clear hK K
        try simp only [Act.put, List.setIfInBounds_toArray, List.set_cons_zero, List.set_cons_succ]
        refine wpAny_ready (rs := [2]) (by decide +kernel) (by simp) ?_
        refine AllReady.cons (o := { dst := some 22, op := .call { callee := .value (.func 30), args := #[.tmp 21, .const (.int .i64 2000)], argTypes := #[50, 3] }, type := _, pos := _, after := _, guard := none }) rfl (fun K hK => ?_) AllReady.nil
        go_simp
        refine (count_any x _ es _ 2000 HTV.out HBX.out (by decide) (by decide)).mono ?_
        rw [← HC1.out]
        rintro e w3 ⟨rfl, hb⟩
        have HC := Lib.hid (HC.out.step hb)
        clear hb
        refine hK _ _ ?_
        clear hK K
        try simp only [Act.put, List.setIfInBounds_toArray, List.set_cons_zero, List.set_cons_succ]
        refine wpAny_ready (rs := [4]) (by decide +kernel) (by simp) ?_
        refine AllReady.cons (o := { dst := some 24, op := .call { callee := .value (.func 29), args := #[.tmp 23], argTypes := #[47] }, type := _, pos := _, after := _, guard := none }) rfl (fun K hK => ?_) AllReady.nil
        go_simp
        refine (plain_any y _ ds _ (HC.out.tree (y, ds) (by simp)) HLY.out).mono ?_
        rintro e w4 ⟨fs, rfl, htv, hb⟩
        have HTV := Lib.hid htv
        have HC := Lib.hid (HC.out.step hb)
        clear hb htv
        refine hK _ _ ?_
        clear hK K
        try simp only [Act.put, List.setIfInBounds_toArray, List.set_cons_zero, List.set_cons_succ]
        refine wpAny_ready (rs := [5]) (by decide +kernel) (by simp) ?_
        refine AllReady.cons (o := { dst := some 25, op := .call { callee := .value (.func 30), args := #[.tmp 24, .const (.int .i64 2000)], argTypes := #[50, 3] }, type := _, pos := _, after := _, guard := none }) rfl (fun K hK => ?_) AllReady.nil
        go_simp
        refine (count_any y _ fs _ 2000 HTV.out HBY.out (by decide) (by decide)).mono ?_
        rw [← HC2.out]
        rintro e w5 ⟨rfl, hb⟩
        have HC := Lib.hid (HC.out.step hb)
        clear hb
        refine hK _ _ ?_
        clear hK K
        try simp only [Act.put, List.setIfInBounds_toArray, List.set_cons_zero, List.set_cons_succ]
        refine any_listed (l' := #[true, true, true, true, true, true, false, false]) (by decide +kernel) ?_
        exact HT _ es fs HC.out
    · refine step_ldAggG (b := w.heap.size + 1) (off := 0) rfl (.tmp 4) aggDer rfl (by simp [Act.eval]) HDL.out (HC.out.cells (T := 47) (by simp)) ?_
      refine hK _ _ ?_
      clear hK K
      try simp only [Act.put, List.setIfInBounds_toArray, List.set_cons_zero, List.set_cons_succ]
      refine wpAny_ready (rs := [0]) (by decide +kernel) (by simp) ?_
      refine AllReady.cons (o := { dst := some 20, op := .load 47 (.tmp 3), type := _, pos := _, after := _, guard := none }) rfl (fun K hK => ?_) AllReady.nil
      refine step_ldAggG (b := w.heap.size) (off := 0) rfl (.tmp 3) aggDer rfl (by simp [Act.eval]) HCL.out (HC.out.cells (T := 47) (by simp)) ?_
      refine hK _ _ ?_
      clear hK K
      try simp only [Act.put, List.setIfInBounds_toArray, List.set_cons_zero, List.set_cons_succ]
      refine wpAny_ready (rs := [1]) (by decide +kernel) (by simp) ?_
      refine AllReady.cons (o := { dst := some 21, op := .call { callee := .value (.func 29), args := #[.tmp 20], argTypes := #[47] }, type := _, pos := _, after := _, guard := none }) rfl (fun K hK => ?_) AllReady.nil
      go_simp
      refine (plain_any x _ cs _ (HC.out.tree (x, cs) (by simp)) HLX.out).mono ?_
      rintro e w2 ⟨es, rfl, htv, hb⟩
      have HTV := Lib.hid htv
      have HC := Lib.hid (HC.out.step hb)
      clear hb htv
      refine hK _ _ ?_
      clear hK K
      try simp only [Act.put, List.setIfInBounds_toArray, List.set_cons_zero, List.set_cons_succ]
      refine wpAny_ready (rs := [2]) (by decide +kernel) (by simp) ?_
      refine AllReady.cons (o := { dst := some 22, op := .call { callee := .value (.func 30), args := #[.tmp 21, .const (.int .i64 2000)], argTypes := #[50, 3] }, type := _, pos := _, after := _, guard := none }) rfl (fun K hK => ?_) AllReady.nil
      go_simp
      refine (count_any x _ es _ 2000 HTV.out HBX.out (by decide) (by decide)).mono ?_
      rw [← HC1.out]
      rintro e w3 ⟨rfl, hb⟩
      have HC := Lib.hid (HC.out.step hb)
      clear hb
      refine hK _ _ ?_
      clear hK K
      try simp only [Act.put, List.setIfInBounds_toArray, List.set_cons_zero, List.set_cons_succ]
      refine wpAny_ready (rs := [4]) (by decide +kernel) (by simp) ?_
      refine AllReady.cons (o := { dst := some 24, op := .call { callee := .value (.func 29), args := #[.tmp 23], argTypes := #[47] }, type := _, pos := _, after := _, guard := none }) rfl (fun K hK => ?_) AllReady.nil
      go_simp
      refine (plain_any y _ ds _ (HC.out.tree (y, ds) (by simp)) HLY.out).mono ?_
      rintro e w4 ⟨fs, rfl, htv, hb⟩
      have HTV := Lib.hid htv
      have HC := Lib.hid (HC.out.step hb)
      clear hb htv
      refine hK _ _ ?_
      clear hK K
      try simp only [Act.put, List.setIfInBounds_toArray, List.set_cons_zero, List.set_cons_succ]
      refine wpAny_ready (rs := [5]) (by decide +kernel) (by simp) ?_
      refine AllReady.cons (o := { dst := some 25, op := .call { callee := .value (.func 30), args := #[.tmp 24, .const (.int .i64 2000)], argTypes := #[50, 3] }, type := _, pos := _, after := _, guard := none }) rfl (fun K hK => ?_) AllReady.nil
      go_simp
      refine (count_any y _ fs _ 2000 HTV.out HBY.out (by decide) (by decide)).mono ?_
      rw [← HC2.out]
      rintro e w5 ⟨rfl, hb⟩
      have HC := Lib.hid (HC.out.step hb)
      clear hb
      refine hK _ _ ?_
      clear hK K
      try simp only [Act.put, List.setIfInBounds_toArray, List.set_cons_zero, List.set_cons_succ]
      refine any_listed (l' := #[true, true, true, true, true, true, false, false]) (by decide +kernel) ?_
      exact HT _ es fs HC.out
  case' h2 =>
    intro W es fs hW
    have HC := Lib.hid hW
    clear hW
    refine wpAny_take (i := 6) (oi := { dst := some 26, op := _, type := _, pos := _, after := _, guard := none }) (v := .int .i64 (c1 + c2)) rfl (by kernel_rfl) (by kernel_rfl) (by kernel_rfl) (fun _ _ _ h => h) (Or.inl ⟨by rfl, by intro w; go_simp; exact HWR.out⟩) ?_
    simp only [Act.put, List.setIfInBounds_toArray, List.set_cons_zero, List.set_cons_succ]
    refine wpAny_take (i := 7) (oi := { dst := some 27, op := _, type := _, pos := _, after := _, guard := none }) (v := .bool (decide (2000 < c1 + c2))) rfl (by kernel_rfl) (by kernel_rfl) (by kernel_rfl) (fun _ _ _ h => h) (Or.inl ⟨by rfl, by intro w; go_simp⟩) ?_
    simp only [Act.put, List.setIfInBounds_toArray, List.set_cons_zero, List.set_cons_succ]
    refine wpAny_done (by decide +kernel) ?_ _
    by_cases h1 : 2000 < c1 + c2
    · have hd1 : decide (2000 < c1 + c2) = true := by simpa using h1
      go_wp2_with fail
      go_ret
      exact ⟨rfl, HC.out.below⟩
    · have hd1 : decide (2000 < c1 + c2) = false := by simpa using h1
      have hsx : (writeS x).length ≤ 36000 := by
        have := countS_eq x 2000 (by have := HC1.out; omega)
        have hle := writeS_le x
        have := HC1.out
        omega
      have hsy : (writeS y).length ≤ 36000 := by
        have := countS_eq y 2000 (by have := HC2.out; omega)
        have hle := writeS_le y
        have := HC2.out
        omega
      obtain ⟨q, hq⟩ : ∃ q, bits .and .i64 tg 15 = q := ⟨_, rfl⟩
      have hq0 : 0 ≤ q ∧ q ≤ 15 := by rw [← hq, i64_and15]; omega
      obtain ⟨hq0, hq1⟩ := hq0
      obtain ⟨t, ht⟩ : ∃ t, t = 1 + q := ⟨_, rfl⟩
      have ht0 : 1 ≤ t := by omega
      have ht1 : t ≤ 16 := by omega
      have HSX := Lib.hid hsx
      have HSY := Lib.hid hsy
      obtain ⟨a, ea, hwa⟩ : ∃ a e, wrS x = (a, e) := ⟨_, _, rfl⟩
      obtain ⟨b, eb, hwb⟩ : ∃ a e, wrS y = (a, e) := ⟨_, _, rfl⟩
      obtain ⟨z, ez, hwz⟩ : ∃ a e, wrS (nestT t x y) = (a, e) := ⟨_, _, rfl⟩
      obtain ⟨u, eu, hwu⟩ : ∃ a e, wrS (nestT 0 x y) = (a, e) := ⟨_, _, rfl⟩
      have hee : eu = ez := by
        have := nest_same t x y (by omega) (by omega)
        rw [hwz, hwu] at this
        exact this.symm
      subst hee
      have HSN : Hid ((writeS (nestT t x y)).length ≤ 80000) := Lib.hid (nest_size t x y hsx hsy)
      have HSN0 : Hid ((writeS (nestT 0 x y)).length ≤ 80000) := Lib.hid (nest_size 0 x y hsx hsy)
      have HNN : Hid (Nw (nestT t x y)) := Lib.hid (nest_nw t HNX.out HNY.out)
      have HNN0 : Hid (Nw (nestT 0 x y)) := Lib.hid (nest_nw 0 HNX.out HNY.out)
      have HWA := Lib.hid hwa
      have HWB := Lib.hid hwb
      have HWZ := Lib.hid hwz
      have HWU := Lib.hid hwu
      have HCD : Hid (∀ c ∈ [cs, ds], c.length = 5) := Lib.hid (by simp; exact ⟨HCL.out, HDL.out⟩)
      have HQ := Lib.hid hq
      have HT := Lib.hid ht
      clear hwa hwb hwz hwu hsx hsy ht hq
      have hq := HQ.out
      have ht : 1 + q = t := HT.out.symm
      go_wp2_with ((with_reducible show wpList _ _ _ (⟨some 32, _, _, _, _, _⟩ :: _) _ _); refine wpList_ldAgg rfl (.tmp 3) aggDer rfl rfl (cs := cs) HCL.out (HC.out.cells (T := 47) (by simp)) ?_)
      have HWR := Lib.hid (derWriteIt_any x _ cs W (HC.out.tree (x, cs) (by simp)) HNX.out (fun _ => by have := HSX.out; omega))
      rw [HWA.out] at HWR
      refine HWR.out.mono ?_
      rintro e w6 ⟨vw6, rfl, hs, hb⟩
      obtain ⟨aw6, cw6, rfl, hcw6, hmw6⟩ := hs.form
      have HC := Lib.hid ((HC.out.step hb).addRow hs)
      unfold maxLen at hmw6
      clear hb hs HWR
      go_wp2_with ((with_reducible show wpList _ _ _ (⟨some 37, _, _, _, _, _⟩ :: _) _ _); refine wpList_ldAgg rfl (.tmp 4) aggDer rfl rfl (cs := ds) HDL.out (HC.out.cells (T := 47) (by simp)) ?_)
      have HWR := Lib.hid (derWriteIt_any y _ ds w6 (HC.out.tree (y, ds) (by simp)) HNY.out (fun _ => by have := HSY.out; omega))
      rw [HWB.out] at HWR
      refine HWR.out.mono ?_
      rintro e w7 ⟨vw7, rfl, hs, hb⟩
      obtain ⟨aw7, cw7, rfl, hcw7, hmw7⟩ := hs.form
      have HC := Lib.hid ((HC.out.step hb).addRow hs)
      unfold maxLen at hmw7
      clear hb hs HWR
      clear hq ht
      have HN := Lib.hid (nest_tree t (HC.out.tree (x, cs) (by simp)) (HC.out.tree (y, ds) (by simp)))
      have HCN := Lib.hid ((HC.out.alloc (.cells (cs ++ ds).toArray 47)).addTree HN.out)
      have HSQ := Lib.hid (derSeq_any t (.slice (some ⟨w7.heap.size, 0, none⟩) 2 2) 2 2 _ rfl (w7.alloc (.cells (cs ++ ds).toArray 47)))
      clear HN
      go_wp2_with (first | ((with_reducible show wpList _ _ _ (⟨some 43, _, _, _, _, _⟩ :: _) _ _); refine wpList_ldAgg rfl (.tmp 3) aggDer rfl rfl (cs := cs) HCL.out (HC.out.cells (T := 47) (by simp)) ?_) | ((with_reducible show wpList _ _ _ (⟨some 44, _, _, _, _, _⟩ :: _) _ _); refine wpList_ldAgg rfl (.tmp 4) aggDer rfl rfl (cs := ds) HDL.out (HC.out.cells (T := 47) (by simp)) ?_) | ((with_reducible show wpList _ _ _ (⟨some 45, _, _, _, _, _⟩ :: _) _ _); refine wpList_bsN rfl [.tmp 43, .tmp 44] elDer rfl rfl rfl (cs := [cs, ds]) rfl HCD.out (by decide) (by decide) ?_))
      refine HSQ.out.mono ?_
      rintro e w8 ⟨rfl, hb⟩
      have HC := Lib.hid (HCN.out.step hb)
      clear HCN
      have HWR := Lib.hid (derWriteIt_any (nestT t x y) _ _ w8 (HC.out.tree (nestT t x y, [.int .i64 2, .int .i64 t, .int .u64 0, .slice none 0 0, .slice (some ⟨w7.heap.size, 0, none⟩) 2 2]) (by simp)) HNN.out (fun _ => by have := HSN.out; omega))
      rw [HWZ.out] at HWR
      clear hb HSQ
      go_wp2_with fail
      refine HWR.out.mono ?_
      rintro e w9 ⟨vw9, rfl, hs, hb⟩
      obtain ⟨aw9, cw9, rfl, hcw9, hmw9⟩ := hs.form
      have HC := Lib.hid ((HC.out.step hb).addRow hs)
      unfold maxLen at hmw9
      clear hb hs HWR
      have HN := Lib.hid (nest_tree 0 (HC.out.tree (x, cs) (by simp)) (HC.out.tree (y, ds) (by simp)))
      have HCN := Lib.hid ((HC.out.alloc (.cells (cs ++ ds).toArray 47)).addTree HN.out)
      have HSQ := Lib.hid (derSeq_any 0 (.slice (some ⟨w9.heap.size, 0, none⟩) 2 2) 2 2 _ rfl (w9.alloc (.cells (cs ++ ds).toArray 47)))
      clear HN
      go_wp2_with (first | ((with_reducible show wpList _ _ _ (⟨some 51, _, _, _, _, _⟩ :: _) _ _); refine wpList_ldAgg rfl (.tmp 3) aggDer rfl rfl (cs := cs) HCL.out (HC.out.cells (T := 47) (by simp)) ?_) | ((with_reducible show wpList _ _ _ (⟨some 52, _, _, _, _, _⟩ :: _) _ _); refine wpList_ldAgg rfl (.tmp 4) aggDer rfl rfl (cs := ds) HDL.out (HC.out.cells (T := 47) (by simp)) ?_) | ((with_reducible show wpList _ _ _ (⟨some 53, _, _, _, _, _⟩ :: _) _ _); refine wpList_bsN rfl [.tmp 51, .tmp 52] elDer rfl rfl rfl (cs := [cs, ds]) rfl HCD.out (by decide) (by decide) ?_))
      refine HSQ.out.mono ?_
      rintro e w10 ⟨rfl, hb⟩
      have HC := Lib.hid (HCN.out.step hb)
      clear HCN
      have HWR := Lib.hid (derWriteIt_any (nestT 0 x y) _ _ w10 (HC.out.tree (nestT 0 x y, [.int .i64 2, .int .i64 0, .int .u64 0, .slice none 0 0, .slice (some ⟨w9.heap.size, 0, none⟩) 2 2]) (by simp)) HNN0.out (fun _ => by have := HSN0.out; omega))
      rw [HWU.out] at HWR
      clear hb HSQ
      go_wp2_with fail
      refine HWR.out.mono ?_
      rintro e w11 ⟨vw11, rfl, hs, hb⟩
      obtain ⟨aw11, cw11, rfl, hcw11, hmw11⟩ := hs.form
      have HC := Lib.hid ((HC.out.step hb).addRow hs)
      unfold maxLen at hmw11
      clear hb hs HWR
      simp only at hcw11
      by_cases he : eu = 0
      rotate_left
      · have hzl : z = [] := by
          have := nest_short (nestT t x y) (by rw [HWZ.out]; exact he)
          rw [HWZ.out] at this
          exact this
        subst hzl
        have hd2 : (eu != 0) = true := by simpa using he
        have hd3 : (eu == 0) = false := by simpa using he
        clear he
        go_wp2_with fail
        go_ret
        exact ⟨rfl, HC.out.below⟩
      · subst he
        obtain ⟨e1, e2, e3, e4, e5⟩ := nest_ok t x y (by omega) (by omega) (by rw [HWZ.out])
        rw [HWZ.out] at e1
        rw [HWA.out] at e2
        rw [HWB.out] at e3
        simp only [Prod.mk.injEq, and_true] at e1 e2 e3
        obtain ⟨rfl, rfl⟩ : a = writeS x ∧ ea = 0 := e2
        obtain ⟨rfl, rfl⟩ : b = writeS y ∧ eb = 0 := e3
        have hwh := wholeS_write e4 HNN.out e5
        have e6 : rightS 8 (nestT 0 x y) = true := by
          rw [nest_right t x y (by omega) (by omega)] at e4
          rw [nest_right 0 x y (by decide) (by decide)]
          exact e4
        have e7 : u = writeS (nestT 0 x y) := by
          have := wrS_is e6 (by rw [← nest_len t 0 x y]; exact e5)
          rw [HWU.out] at this
          simpa using this
        have hzu : z.length = u.length := by rw [e1, e7]; exact nest_len t 0 x y
        have hz2 : 2 ≤ z.length := by rw [e1]; exact writeS_two _
        have hdr : z.drop 1 = u.drop 1 := by rw [e1, e7]; exact nest_drop t 0 x y
        have hend : z.drop (z.length - (writeS x ++ writeS y).length) = writeS x ++ writeS y := by rw [e1]; exact nest_end t x y
        have hlen : (writeS x).length + (writeS y).length ≤ z.length := by rw [e1, nest_write, List.length_append, List.length_append]; omega
        have hzm : z.length ≤ 4096 := by rw [e1]; exact e5
        have hz0 : z[0]? = some (UInt8.ofNat (128 + t).toNat) := by rw [e1]; exact nest_first t x y
        have hu0 : u[0]? = some (UInt8.ofNat ((128 + 0 : Int)).toNat) := by rw [e7]; exact nest_first 0 x y
        rw [← e1] at hwh
        obtain ⟨a, ha⟩ : ∃ a, a = writeS x := ⟨_, rfl⟩
        obtain ⟨b, hb⟩ : ∃ b, b = writeS y := ⟨_, rfl⟩
        rw [← ha, ← hb] at hend
        rw [← ha, ← hb] at hlen
        rw [← ha] at hcw6 ⊢
        rw [← hb] at hcw7 ⊢
        rw [← ha, ← hb] at HC
        have HZU := Lib.hid hzu
        have HDR := Lib.hid hdr
        have HEND := Lib.hid hend
        have HZ0 := Lib.hid hz0
        have HU0 := Lib.hid hu0
        have HRD := Lib.hid (derWhole_any _ _ w11 (HC.out.row (.slice aw9 z.length cw9, z) (by simp)))
        rw [hwh] at HRD
        clear e1 e4 e5 e6 e7 hwh hzu hdr hend hz0 hu0 HWA HWB HWZ HWU ha hb HSN HSN0
        go_wp2_with fail
        refine HRD.out.mono ?_
        rintro e w12 ⟨gs, rfl, htv, hb⟩
        have HGL : Hid (gs.length = 5) := Lib.hid htv.length
        have HG1 := Lib.hid htv.one
        obtain ⟨bv, lv, rows, hgs, hbv, _, hlv, _, hls⟩ := htv.open_
        simp only [nestT, Tv.kind, Tv.tag, Tv.n, Tv.l, List.length_cons, List.length_nil, Nat.zero_add] at hgs hlv hls
        obtain ⟨r1, rs, rfl, ht1', rs2, rs3, rfl, ht2', rfl⟩ := hls
        rw [List.append_nil] at hlv
        obtain ⟨al, cl, rfl, hcl, hml⟩ := hlv.form
        have hr1l := ht1'.length
        have hr2l := ht2'.length
        obtain ⟨b5, o5, rfl, _⟩ := hlv.addr (by simp [hr1l, hr2l])
        have HR1L := Lib.hid hr1l
        have HR2L := Lib.hid hr2l
        have HN := Lib.hid (Blk.new w12 zs5 47)
        have HC := Lib.hid ((((Cy.of (HC.out.step hb)).addTree ht1').addTree ht2').addSl hlv)
        have HGS := Lib.hid hgs
        clear hb htv HRD hgs hlv ht1' ht2' hr1l hr2l hbv
        go_wp2_with ((with_reducible show wpList _ _ _ (⟨none, .store _ (.tmp 15) (.tmp 71), _, _, _, _⟩ :: _) _ _); refine wpList_stAgg rfl (.tmp 15) (.tmp 71) aggDer rfl rfl (vs := gs) rfl HGL.out HN.out (Nat.le_refl _) HG1.out ?_)
        intro w13 h13 k13
        obtain ⟨hcx, hb13, hz13⟩ := HC.out.cx.lay rfl (by rw [HGL.out]; rfl) h13 k13
        have HC := Lib.hid (Cy.drew ⟨hcx, (HC.out.step hb13).sl⟩)
        obtain ⟨r, hr⟩ : ∃ r, r = w12.heap.size := ⟨_, rfl⟩
        rw [← hr] at HC ⊢
        rw [HGS.out] at HC
        clear h13 k13 hcx hb13 HN hr HGS HGL HG1
        unfold maxLen at hml
        go_wp2_with fail
        refine wp_region_any (by kernel_rfl) ?_
        change wpAny _ _ _ _ _ _ _ (World.drew _)
        apply tail_cut (I := fun W => Cy w _ _ _ _ W)
        case' h1 =>
          intro HT
          refine wpAny_take (i := 0) (oi := { dst := some 73, op := _, type := _, pos := _, after := _, guard := none }) (v := .int .i64 0) rfl (by kernel_rfl) (by kernel_rfl) (by kernel_rfl) (fun _ _ _ h => h) (Or.inl ⟨by rfl, by intro w; go_simp⟩) ?_
          simp only [Act.put, List.setIfInBounds_toArray, List.set_cons_zero, List.set_cons_succ]
          refine wpAny_take (i := 1) (oi := { dst := some 74, op := _, type := _, pos := _, after := _, guard := none }) (v := .bool false) rfl (by kernel_rfl) (by kernel_rfl) (by kernel_rfl) (fun _ _ _ h => h) (Or.inl ⟨by rfl, by intro w; go_simp⟩) ?_
          simp only [Act.put, List.setIfInBounds_toArray, List.set_cons_zero, List.set_cons_succ]
          refine wpAny_take (i := 2) (oi := { dst := some 75, op := _, type := _, pos := _, after := _, guard := none }) (v := .bool false) rfl (by kernel_rfl) (by kernel_rfl) (by kernel_rfl) (fun _ _ _ h => h) (Or.inl ⟨by rfl, by intro w; go_simp⟩) ?_
          simp only [Act.put, List.setIfInBounds_toArray, List.set_cons_zero, List.set_cons_succ]
          refine wpAny_take (i := 3) (oi := { dst := some 76, op := _, type := _, pos := _, after := _, guard := some (2, false) }) (v := .int .i64 0) rfl (by kernel_rfl) (by kernel_rfl) (by kernel_rfl) (fun _ _ _ h => h) (Or.inl ⟨by rfl, by intro w; go_simp⟩) ?_
          simp only [Act.put, List.setIfInBounds_toArray, List.set_cons_zero, List.set_cons_succ]
          refine wpAny_take (i := 4) (oi := { dst := some 77, op := _, type := _, pos := _, after := _, guard := some (2, false) }) (v := .bool false) rfl (by kernel_rfl) (by kernel_rfl) (by kernel_rfl) (fun _ _ _ h => h) (Or.inl ⟨by rfl, by intro w; go_simp⟩) ?_
          simp only [Act.put, List.setIfInBounds_toArray, List.set_cons_zero, List.set_cons_succ]
          refine wpAny_take (i := 5) (oi := { dst := some 78, op := _, type := _, pos := _, after := _, guard := none }) (v := .bool false) rfl (by kernel_rfl) (by kernel_rfl) (by kernel_rfl) (fun _ _ _ h => h) (Or.inl ⟨by rfl, by intro w; go_simp⟩) ?_
          simp only [Act.put, List.setIfInBounds_toArray, List.set_cons_zero, List.set_cons_succ]
          refine wpAny_take (i := 6) (oi := { dst := some 79, op := _, type := _, pos := _, after := _, guard := none }) (v := .bool false) rfl (by kernel_rfl) (by kernel_rfl) (by kernel_rfl) (fun _ _ _ h => h) (Or.inl ⟨by rfl, by intro w; go_simp⟩) ?_
          simp only [Act.put, List.setIfInBounds_toArray, List.set_cons_zero, List.set_cons_succ]
          refine wpAny_take (i := 7) (oi := { dst := some 80, op := _, type := _, pos := _, after := _, guard := some (6, false) }) (v := .int .i64 0) rfl (by kernel_rfl) (by kernel_rfl) (by kernel_rfl) (fun _ _ _ h => h) (Or.inl ⟨by rfl, by intro w; go_simp⟩) ?_
          simp only [Act.put, List.setIfInBounds_toArray, List.set_cons_zero, List.set_cons_succ]
          refine wpAny_take (i := 8) (oi := { dst := some 81, op := _, type := _, pos := _, after := _, guard := some (6, false) }) (v := .bool false) rfl (by kernel_rfl) (by kernel_rfl) (by kernel_rfl) (fun _ _ _ h => h) (Or.inl ⟨by rfl, by intro w; go_simp⟩) ?_
          simp only [Act.put, List.setIfInBounds_toArray, List.set_cons_zero, List.set_cons_succ]
          refine wpAny_take (i := 9) (oi := { dst := some 82, op := _, type := _, pos := _, after := _, guard := none }) (v := .bool false) rfl (by kernel_rfl) (by kernel_rfl) (by kernel_rfl) (fun _ _ _ h => h) (Or.inl ⟨by rfl, by intro w; go_simp⟩) ?_
          simp only [Act.put, List.setIfInBounds_toArray, List.set_cons_zero, List.set_cons_succ]
          refine wpAny_take (i := 10) (oi := { dst := some 83, op := _, type := _, pos := _, after := _, guard := none }) (v := .bool false) rfl (by kernel_rfl) (by kernel_rfl) (by kernel_rfl) (fun _ _ _ h => h) (Or.inl ⟨by rfl, by intro w; go_simp⟩) ?_
          simp only [Act.put, List.setIfInBounds_toArray, List.set_cons_zero, List.set_cons_succ]
          refine wpAny_take (i := 11) (oi := { dst := some 84, op := _, type := _, pos := _, after := _, guard := some (10, false) }) (v := .int .i64 0) rfl (by kernel_rfl) (by kernel_rfl) (by kernel_rfl) (fun _ _ _ h => h) (Or.inl ⟨by rfl, by intro w; go_simp⟩) ?_
          simp only [Act.put, List.setIfInBounds_toArray, List.set_cons_zero, List.set_cons_succ]
          refine wpAny_take (i := 12) (oi := { dst := some 85, op := _, type := _, pos := _, after := _, guard := some (10, false) }) (v := .bool false) rfl (by kernel_rfl) (by kernel_rfl) (by kernel_rfl) (fun _ _ _ h => h) (Or.inl ⟨by rfl, by intro w; go_simp⟩) ?_
          simp only [Act.put, List.setIfInBounds_toArray, List.set_cons_zero, List.set_cons_succ]
          refine wpAny_take (i := 13) (oi := { dst := some 86, op := _, type := _, pos := _, after := _, guard := none }) (v := .bool false) rfl (by kernel_rfl) (by kernel_rfl) (by kernel_rfl) (fun _ _ _ h => h) (Or.inl ⟨by rfl, by intro w; go_simp⟩) ?_
          simp only [Act.put, List.setIfInBounds_toArray, List.set_cons_zero, List.set_cons_succ]
          refine wpAny_take (i := 14) (oi := { dst := some 87, op := _, type := _, pos := _, after := _, guard := none }) (v := .bool false) rfl (by kernel_rfl) (by kernel_rfl) (by kernel_rfl) (fun _ _ _ h => h) (Or.inl ⟨by rfl, by intro w; go_simp⟩) ?_
          simp only [Act.put, List.setIfInBounds_toArray, List.set_cons_zero, List.set_cons_succ]
          refine wpAny_take (i := 15) (oi := { dst := some 88, op := _, type := _, pos := _, after := _, guard := some (14, false) }) (v := .pointer (some ⟨r, 4, none⟩)) rfl (by kernel_rfl) (by kernel_rfl) (by kernel_rfl) (fun _ _ _ h => h) (Or.inl ⟨by rfl, by intro w; go_simp⟩) ?_
          simp only [Act.put, List.setIfInBounds_toArray, List.set_cons_zero, List.set_cons_succ]
          refine wpAny_ready (rs := [16]) (by decide +kernel) (by simp) ?_
          refine AllReady.cons (o := { dst := some 89, op := .load 45 (.tmp 88), type := _, pos := _, after := _, guard := some (14, false) }) rfl (fun K hK => ?_) AllReady.nil
          have cc := HC.out.cell1 (p := r) (cs := [.int .i64 2, .int .i64 t, .int .u64 ((0 : Nat) : Int), bv, .slice (some ⟨b5, o5, none⟩) (1 + 1) cl]) (T := 47) (by simp) 4 (u := .slice (some ⟨b5, o5, none⟩) (1 + 1) cl) rfl
          go_simp
          refine hK _ _ ?_
          clear hK K
          try simp only [Act.put, List.setIfInBounds_toArray, List.set_cons_zero, List.set_cons_succ]
          refine wpAny_take (i := 17) (oi := { dst := some 90, op := _, type := _, pos := _, after := _, guard := some (14, false) }) (v := .int .i64 2) rfl (by kernel_rfl) (by kernel_rfl) (by kernel_rfl) (fun _ _ _ h => h) (Or.inl ⟨by rfl, by intro w; go_simp⟩) ?_
          simp only [Act.put, List.setIfInBounds_toArray, List.set_cons_zero, List.set_cons_succ]
          refine wpAny_take (i := 18) (oi := { dst := some 91, op := _, type := _, pos := _, after := _, guard := some (14, false) }) (v := .bool false) rfl (by kernel_rfl) (by kernel_rfl) (by kernel_rfl) (fun _ _ _ h => h) (Or.inl ⟨by rfl, by intro w; go_simp⟩) ?_
          simp only [Act.put, List.setIfInBounds_toArray, List.set_cons_zero, List.set_cons_succ]
          refine wpAny_take (i := 19) (oi := { dst := some 92, op := _, type := _, pos := _, after := _, guard := none }) (v := .bool false) rfl (by kernel_rfl) (by kernel_rfl) (by kernel_rfl) (fun _ _ _ h => h) (Or.inl ⟨by rfl, by intro w; go_simp⟩) ?_
          simp only [Act.put, List.setIfInBounds_toArray, List.set_cons_zero, List.set_cons_succ]
          refine wpAny_take (i := 20) (oi := { dst := some 93, op := _, type := _, pos := _, after := _, guard := none }) (v := .bool false) rfl (by kernel_rfl) (by kernel_rfl) (by kernel_rfl) (fun _ _ _ h => h) (Or.inl ⟨by rfl, by intro w; go_simp⟩) ?_
          simp only [Act.put, List.setIfInBounds_toArray, List.set_cons_zero, List.set_cons_succ]
          refine wpAny_take (i := 21) (oi := { dst := some 94, op := _, type := _, pos := _, after := _, guard := some (20, false) }) (v := .pointer (some ⟨r, 4, none⟩)) rfl (by kernel_rfl) (by kernel_rfl) (by kernel_rfl) (fun _ _ _ h => h) (Or.inl ⟨by rfl, by intro w; go_simp⟩) ?_
          simp only [Act.put, List.setIfInBounds_toArray, List.set_cons_zero, List.set_cons_succ]
          refine wpAny_ready (rs := [22, 25]) (by decide +kernel) (by simp) ?_
          refine AllReady.cons (o := { dst := some 95, op := .load 45 (.tmp 94), type := _, pos := _, after := _, guard := some (20, false) }) rfl (fun K hK => ?_) (AllReady.cons (o := { dst := some 98, op := .load 47 (.tmp 3), type := _, pos := _, after := _, guard := some (20, false) }) rfl (fun K hK => ?_) AllReady.nil)
          · have cc := HC.out.cell1 (p := r) (cs := [.int .i64 2, .int .i64 t, .int .u64 ((0 : Nat) : Int), bv, .slice (some ⟨b5, o5, none⟩) (1 + 1) cl]) (T := 47) (by simp) 4 (u := .slice (some ⟨b5, o5, none⟩) (1 + 1) cl) rfl
            go_simp
            refine hK _ _ ?_
            clear hK K
            try simp only [Act.put, List.setIfInBounds_toArray, List.set_cons_zero, List.set_cons_succ]
            refine wpAny_take (i := 23) (oi := { dst := some 96, op := _, type := _, pos := _, after := _, guard := some (20, false) }) (v := .pointer (some ⟨b5, o5, none⟩)) rfl (by kernel_rfl) (by kernel_rfl) (by kernel_rfl) (fun _ _ _ h => h) (Or.inl ⟨by rfl, by intro w; go_simp⟩) ?_
            simp only [Act.put, List.setIfInBounds_toArray, List.set_cons_zero, List.set_cons_succ]
            refine wpAny_ready (rs := [24, 25]) (by decide +kernel) (by simp) ?_
            refine AllReady.cons (o := { dst := some 97, op := .load 47 (.tmp 96), type := _, pos := _, after := _, guard := some (20, false) }) rfl (fun K hK => ?_) (AllReady.cons (o := { dst := some 98, op := .load 47 (.tmp 3), type := _, pos := _, after := _, guard := some (20, false) }) rfl (fun K hK => ?_) AllReady.nil)
            · refine step_ldAggG (b := b5) (off := o5) rfl (.tmp 96) aggDer rfl (by simp [Act.eval]) HR1L.out ((HC.out.sl (5, .slice (some ⟨b5, o5, none⟩) (1 + 1) cl, 1 + 1, r1 ++ rs2) (by simp)).cellsAt_ [] rs2 (q := 0) (by simp) rfl) ?_
              refine hK _ _ ?_
              clear hK K
              try simp only [Act.put, List.setIfInBounds_toArray, List.set_cons_zero, List.set_cons_succ]
              refine wpAny_ready (rs := [25]) (by decide +kernel) (by simp) ?_
              refine AllReady.cons (o := { dst := some 98, op := .load 47 (.tmp 3), type := _, pos := _, after := _, guard := some (20, false) }) rfl (fun K hK => ?_) AllReady.nil
              refine step_ldAggG (b := w.heap.size) (off := 0) rfl (.tmp 3) aggDer rfl (by simp [Act.eval]) HCL.out (HC.out.cells (T := 47) (by simp)) ?_
              refine hK _ _ ?_
              clear hK K
              try simp only [Act.put, List.setIfInBounds_toArray, List.set_cons_zero, List.set_cons_succ]
              refine wpAny_ready (rs := [26]) (by decide +kernel) (by simp) ?_
              refine AllReady.cons (o := { dst := some 99, op := .call { callee := .value (.func 36), args := #[.tmp 97, .tmp 98], argTypes := #[47, 47] }, type := _, pos := _, after := _, guard := some (20, false) }) rfl (fun K hK => ?_) AllReady.nil
              go_simp
              refine (derSame_any x x _ _ r1 cs _ (HC.out.tree (x, r1) (by simp)) (HC.out.tree (x, cs) (by simp))).mono ?_
              rw [(tvEq_iff x x).2 rfl]
              rintro e W9 ⟨rfl, hb⟩
              have HC := Lib.hid (HC.out.step hb)
              clear hb
              refine hK _ _ ?_
              clear hK K
              try simp only [Act.put, List.setIfInBounds_toArray, List.set_cons_zero, List.set_cons_succ]
              refine wpAny_take (i := 27) (oi := { dst := some 100, op := _, type := _, pos := _, after := _, guard := some (20, false) }) (v := .bool false) rfl (by kernel_rfl) (by kernel_rfl) (by kernel_rfl) (fun _ _ _ h => h) (Or.inl ⟨by rfl, by intro w; go_simp⟩) ?_
              simp only [Act.put, List.setIfInBounds_toArray, List.set_cons_zero, List.set_cons_succ]
              refine wpAny_take (i := 28) (oi := { dst := some 101, op := _, type := _, pos := _, after := _, guard := none }) (v := .bool false) rfl (by kernel_rfl) (by kernel_rfl) (by kernel_rfl) (fun _ _ _ h => h) (Or.inl ⟨by rfl, by intro w; go_simp⟩) ?_
              simp only [Act.put, List.setIfInBounds_toArray, List.set_cons_zero, List.set_cons_succ]
              refine wpAny_take (i := 29) (oi := { dst := some 102, op := _, type := _, pos := _, after := _, guard := none }) (v := .bool false) rfl (by kernel_rfl) (by kernel_rfl) (by kernel_rfl) (fun _ _ _ h => h) (Or.inl ⟨by rfl, by intro w; go_simp⟩) ?_
              simp only [Act.put, List.setIfInBounds_toArray, List.set_cons_zero, List.set_cons_succ]
              refine wpAny_take (i := 30) (oi := { dst := some 103, op := _, type := _, pos := _, after := _, guard := some (29, false) }) (v := .pointer (some ⟨r, 4, none⟩)) rfl (by kernel_rfl) (by kernel_rfl) (by kernel_rfl) (fun _ _ _ h => h) (Or.inl ⟨by rfl, by intro w; go_simp⟩) ?_
              simp only [Act.put, List.setIfInBounds_toArray, List.set_cons_zero, List.set_cons_succ]
              refine wpAny_ready (rs := [31, 34]) (by decide +kernel) (by simp) ?_
              refine AllReady.cons (o := { dst := some 104, op := .load 45 (.tmp 103), type := _, pos := _, after := _, guard := some (29, false) }) rfl (fun K hK => ?_) (AllReady.cons (o := { dst := some 107, op := .load 47 (.tmp 4), type := _, pos := _, after := _, guard := some (29, false) }) rfl (fun K hK => ?_) AllReady.nil)
              · have cc := HC.out.cell1 (p := r) (cs := [.int .i64 2, .int .i64 t, .int .u64 ((0 : Nat) : Int), bv, .slice (some ⟨b5, o5, none⟩) (1 + 1) cl]) (T := 47) (by simp) 4 (u := .slice (some ⟨b5, o5, none⟩) (1 + 1) cl) rfl
                go_simp
                refine hK _ _ ?_
                clear hK K
                try simp only [Act.put, List.setIfInBounds_toArray, List.set_cons_zero, List.set_cons_succ]
                refine wpAny_take (i := 32) (oi := { dst := some 105, op := _, type := _, pos := _, after := _, guard := some (29, false) }) (v := .pointer (some ⟨b5, o5 + 5, none⟩)) rfl (by kernel_rfl) (by kernel_rfl) (by kernel_rfl) (fun _ _ _ h => h) (Or.inl ⟨by rfl, by intro w; go_simp⟩) ?_
                simp only [Act.put, List.setIfInBounds_toArray, List.set_cons_zero, List.set_cons_succ]
                refine wpAny_ready (rs := [33, 34]) (by decide +kernel) (by simp) ?_
                refine AllReady.cons (o := { dst := some 106, op := .load 47 (.tmp 105), type := _, pos := _, after := _, guard := some (29, false) }) rfl (fun K hK => ?_) (AllReady.cons (o := { dst := some 107, op := .load 47 (.tmp 4), type := _, pos := _, after := _, guard := some (29, false) }) rfl (fun K hK => ?_) AllReady.nil)
                · refine step_ldAggG (b := b5) (off := o5 + 5) rfl (.tmp 105) aggDer rfl (by simp [Act.eval]) HR2L.out ((HC.out.sl (5, .slice (some ⟨b5, o5, none⟩) (1 + 1) cl, 1 + 1, r1 ++ rs2) (by simp)).cellsAt_ r1 [] (q := 5) (by simp) HR1L.out) ?_
                  refine hK _ _ ?_
                  clear hK K
                  try simp only [Act.put, List.setIfInBounds_toArray, List.set_cons_zero, List.set_cons_succ]
                  refine wpAny_ready (rs := [34]) (by decide +kernel) (by simp) ?_
                  refine AllReady.cons (o := { dst := some 107, op := .load 47 (.tmp 4), type := _, pos := _, after := _, guard := some (29, false) }) rfl (fun K hK => ?_) AllReady.nil
                  refine step_ldAggG (b := w.heap.size + 1) (off := 0) rfl (.tmp 4) aggDer rfl (by simp [Act.eval]) HDL.out (HC.out.cells (T := 47) (by simp)) ?_
                  refine hK _ _ ?_
                  clear hK K
                  try simp only [Act.put, List.setIfInBounds_toArray, List.set_cons_zero, List.set_cons_succ]
                  refine wpAny_ready (rs := [35]) (by decide +kernel) (by simp) ?_
                  refine AllReady.cons (o := { dst := some 108, op := .call { callee := .value (.func 36), args := #[.tmp 106, .tmp 107], argTypes := #[47, 47] }, type := _, pos := _, after := _, guard := some (29, false) }) rfl (fun K hK => ?_) AllReady.nil
                  go_simp
                  refine (derSame_any y y _ _ rs2 ds _ (HC.out.tree (y, rs2) (by simp)) (HC.out.tree (y, ds) (by simp))).mono ?_
                  rw [(tvEq_iff y y).2 rfl]
                  rintro e W9 ⟨rfl, hb⟩
                  have HC := Lib.hid (HC.out.step hb)
                  clear hb
                  refine hK _ _ ?_
                  clear hK K
                  try simp only [Act.put, List.setIfInBounds_toArray, List.set_cons_zero, List.set_cons_succ]
                  refine any_listed (l' := #[true, true, true, true, true, true, true, true, true, true, true, true, true, true, true, true, true, true, true, true, true, true, true, true, true, true, true, true, true, true, true, true, true, true, true, true, false, false, false, false, false, false, false, false, false, false, false, false, false, false, false]) (by decide +kernel) ?_
                  exact HT _ HC.out
                · refine step_ldAggG (b := w.heap.size + 1) (off := 0) rfl (.tmp 4) aggDer rfl (by simp [Act.eval]) HDL.out (HC.out.cells (T := 47) (by simp)) ?_
                  refine hK _ _ ?_
                  clear hK K
                  try simp only [Act.put, List.setIfInBounds_toArray, List.set_cons_zero, List.set_cons_succ]
                  refine wpAny_ready (rs := [33]) (by decide +kernel) (by simp) ?_
                  refine AllReady.cons (o := { dst := some 106, op := .load 47 (.tmp 105), type := _, pos := _, after := _, guard := some (29, false) }) rfl (fun K hK => ?_) AllReady.nil
                  refine step_ldAggG (b := b5) (off := o5 + 5) rfl (.tmp 105) aggDer rfl (by simp [Act.eval]) HR2L.out ((HC.out.sl (5, .slice (some ⟨b5, o5, none⟩) (1 + 1) cl, 1 + 1, r1 ++ rs2) (by simp)).cellsAt_ r1 [] (q := 5) (by simp) HR1L.out) ?_
                  refine hK _ _ ?_
                  clear hK K
                  try simp only [Act.put, List.setIfInBounds_toArray, List.set_cons_zero, List.set_cons_succ]
                  refine wpAny_ready (rs := [35]) (by decide +kernel) (by simp) ?_
                  refine AllReady.cons (o := { dst := some 108, op := .call { callee := .value (.func 36), args := #[.tmp 106, .tmp 107], argTypes := #[47, 47] }, type := _, pos := _, after := _, guard := some (29, false) }) rfl (fun K hK => ?_) AllReady.nil
                  go_simp
                  refine (derSame_any y y _ _ rs2 ds _ (HC.out.tree (y, rs2) (by simp)) (HC.out.tree (y, ds) (by simp))).mono ?_
                  rw [(tvEq_iff y y).2 rfl]
                  rintro e W9 ⟨rfl, hb⟩
                  have HC := Lib.hid (HC.out.step hb)
                  clear hb
                  refine hK _ _ ?_
                  clear hK K
                  try simp only [Act.put, List.setIfInBounds_toArray, List.set_cons_zero, List.set_cons_succ]
                  refine any_listed (l' := #[true, true, true, true, true, true, true, true, true, true, true, true, true, true, true, true, true, true, true, true, true, true, true, true, true, true, true, true, true, true, true, true, true, true, true, true, false, false, false, false, false, false, false, false, false, false, false, false, false, false, false]) (by decide +kernel) ?_
                  exact HT _ HC.out
              · refine step_ldAggG (b := w.heap.size + 1) (off := 0) rfl (.tmp 4) aggDer rfl (by simp [Act.eval]) HDL.out (HC.out.cells (T := 47) (by simp)) ?_
                refine hK _ _ ?_
                clear hK K
                try simp only [Act.put, List.setIfInBounds_toArray, List.set_cons_zero, List.set_cons_succ]
                refine wpAny_ready (rs := [31]) (by decide +kernel) (by simp) ?_
                refine AllReady.cons (o := { dst := some 104, op := .load 45 (.tmp 103), type := _, pos := _, after := _, guard := some (29, false) }) rfl (fun K hK => ?_) AllReady.nil
                have cc := HC.out.cell1 (p := r) (cs := [.int .i64 2, .int .i64 t, .int .u64 ((0 : Nat) : Int), bv, .slice (some ⟨b5, o5, none⟩) (1 + 1) cl]) (T := 47) (by simp) 4 (u := .slice (some ⟨b5, o5, none⟩) (1 + 1) cl) rfl
                go_simp
                refine hK _ _ ?_
                clear hK K
                try simp only [Act.put, List.setIfInBounds_toArray, List.set_cons_zero, List.set_cons_succ]
                refine wpAny_take (i := 32) (oi := { dst := some 105, op := _, type := _, pos := _, after := _, guard := some (29, false) }) (v := .pointer (some ⟨b5, o5 + 5, none⟩)) rfl (by kernel_rfl) (by kernel_rfl) (by kernel_rfl) (fun _ _ _ h => h) (Or.inl ⟨by rfl, by intro w; go_simp⟩) ?_
                simp only [Act.put, List.setIfInBounds_toArray, List.set_cons_zero, List.set_cons_succ]
                refine wpAny_ready (rs := [33]) (by decide +kernel) (by simp) ?_
                refine AllReady.cons (o := { dst := some 106, op := .load 47 (.tmp 105), type := _, pos := _, after := _, guard := some (29, false) }) rfl (fun K hK => ?_) AllReady.nil
                refine step_ldAggG (b := b5) (off := o5 + 5) rfl (.tmp 105) aggDer rfl (by simp [Act.eval]) HR2L.out ((HC.out.sl (5, .slice (some ⟨b5, o5, none⟩) (1 + 1) cl, 1 + 1, r1 ++ rs2) (by simp)).cellsAt_ r1 [] (q := 5) (by simp) HR1L.out) ?_
                refine hK _ _ ?_
                clear hK K
                try simp only [Act.put, List.setIfInBounds_toArray, List.set_cons_zero, List.set_cons_succ]
                refine wpAny_ready (rs := [35]) (by decide +kernel) (by simp) ?_
                refine AllReady.cons (o := { dst := some 108, op := .call { callee := .value (.func 36), args := #[.tmp 106, .tmp 107], argTypes := #[47, 47] }, type := _, pos := _, after := _, guard := some (29, false) }) rfl (fun K hK => ?_) AllReady.nil
                go_simp
                refine (derSame_any y y _ _ rs2 ds _ (HC.out.tree (y, rs2) (by simp)) (HC.out.tree (y, ds) (by simp))).mono ?_
                rw [(tvEq_iff y y).2 rfl]
                rintro e W9 ⟨rfl, hb⟩
                have HC := Lib.hid (HC.out.step hb)
                clear hb
                refine hK _ _ ?_
                clear hK K
                try simp only [Act.put, List.setIfInBounds_toArray, List.set_cons_zero, List.set_cons_succ]
                refine any_listed (l' := #[true, true, true, true, true, true, true, true, true, true, true, true, true, true, true, true, true, true, true, true, true, true, true, true, true, true, true, true, true, true, true, true, true, true, true, true, false, false, false, false, false, false, false, false, false, false, false, false, false, false, false]) (by decide +kernel) ?_
                exact HT _ HC.out
            · refine step_ldAggG (b := w.heap.size) (off := 0) rfl (.tmp 3) aggDer rfl (by simp [Act.eval]) HCL.out (HC.out.cells (T := 47) (by simp)) ?_
              refine hK _ _ ?_
              clear hK K
              try simp only [Act.put, List.setIfInBounds_toArray, List.set_cons_zero, List.set_cons_succ]
              refine wpAny_ready (rs := [24]) (by decide +kernel) (by simp) ?_
              refine AllReady.cons (o := { dst := some 97, op := .load 47 (.tmp 96), type := _, pos := _, after := _, guard := some (20, false) }) rfl (fun K hK => ?_) AllReady.nil
              refine step_ldAggG (b := b5) (off := o5) rfl (.tmp 96) aggDer rfl (by simp [Act.eval]) HR1L.out ((HC.out.sl (5, .slice (some ⟨b5, o5, none⟩) (1 + 1) cl, 1 + 1, r1 ++ rs2) (by simp)).cellsAt_ [] rs2 (q := 0) (by simp) rfl) ?_
              refine hK _ _ ?_
              clear hK K
              try simp only [Act.put, List.setIfInBounds_toArray, List.set_cons_zero, List.set_cons_succ]
              refine wpAny_ready (rs := [26]) (by decide +kernel) (by simp) ?_
              refine AllReady.cons (o := { dst := some 99, op := .call { callee := .value (.func 36), args := #[.tmp 97, .tmp 98], argTypes := #[47, 47] }, type := _, pos := _, after := _, guard := some (20, false) }) rfl (fun K hK => ?_) AllReady.nil
              go_simp
              refine (derSame_any x x _ _ r1 cs _ (HC.out.tree (x, r1) (by simp)) (HC.out.tree (x, cs) (by simp))).mono ?_
              rw [(tvEq_iff x x).2 rfl]
              rintro e W9 ⟨rfl, hb⟩
              have HC := Lib.hid (HC.out.step hb)
              clear hb
              refine hK _ _ ?_
              clear hK K
              try simp only [Act.put, List.setIfInBounds_toArray, List.set_cons_zero, List.set_cons_succ]
              refine wpAny_take (i := 27) (oi := { dst := some 100, op := _, type := _, pos := _, after := _, guard := some (20, false) }) (v := .bool false) rfl (by kernel_rfl) (by kernel_rfl) (by kernel_rfl) (fun _ _ _ h => h) (Or.inl ⟨by rfl, by intro w; go_simp⟩) ?_
              simp only [Act.put, List.setIfInBounds_toArray, List.set_cons_zero, List.set_cons_succ]
              refine wpAny_take (i := 28) (oi := { dst := some 101, op := _, type := _, pos := _, after := _, guard := none }) (v := .bool false) rfl (by kernel_rfl) (by kernel_rfl) (by kernel_rfl) (fun _ _ _ h => h) (Or.inl ⟨by rfl, by intro w; go_simp⟩) ?_
              simp only [Act.put, List.setIfInBounds_toArray, List.set_cons_zero, List.set_cons_succ]
              refine wpAny_take (i := 29) (oi := { dst := some 102, op := _, type := _, pos := _, after := _, guard := none }) (v := .bool false) rfl (by kernel_rfl) (by kernel_rfl) (by kernel_rfl) (fun _ _ _ h => h) (Or.inl ⟨by rfl, by intro w; go_simp⟩) ?_
              simp only [Act.put, List.setIfInBounds_toArray, List.set_cons_zero, List.set_cons_succ]
              refine wpAny_take (i := 30) (oi := { dst := some 103, op := _, type := _, pos := _, after := _, guard := some (29, false) }) (v := .pointer (some ⟨r, 4, none⟩)) rfl (by kernel_rfl) (by kernel_rfl) (by kernel_rfl) (fun _ _ _ h => h) (Or.inl ⟨by rfl, by intro w; go_simp⟩) ?_
              simp only [Act.put, List.setIfInBounds_toArray, List.set_cons_zero, List.set_cons_succ]
              refine wpAny_ready (rs := [31, 34]) (by decide +kernel) (by simp) ?_
              refine AllReady.cons (o := { dst := some 104, op := .load 45 (.tmp 103), type := _, pos := _, after := _, guard := some (29, false) }) rfl (fun K hK => ?_) (AllReady.cons (o := { dst := some 107, op := .load 47 (.tmp 4), type := _, pos := _, after := _, guard := some (29, false) }) rfl (fun K hK => ?_) AllReady.nil)
              · have cc := HC.out.cell1 (p := r) (cs := [.int .i64 2, .int .i64 t, .int .u64 ((0 : Nat) : Int), bv, .slice (some ⟨b5, o5, none⟩) (1 + 1) cl]) (T := 47) (by simp) 4 (u := .slice (some ⟨b5, o5, none⟩) (1 + 1) cl) rfl
                go_simp
                refine hK _ _ ?_
                clear hK K
                try simp only [Act.put, List.setIfInBounds_toArray, List.set_cons_zero, List.set_cons_succ]
                refine wpAny_take (i := 32) (oi := { dst := some 105, op := _, type := _, pos := _, after := _, guard := some (29, false) }) (v := .pointer (some ⟨b5, o5 + 5, none⟩)) rfl (by kernel_rfl) (by kernel_rfl) (by kernel_rfl) (fun _ _ _ h => h) (Or.inl ⟨by rfl, by intro w; go_simp⟩) ?_
                simp only [Act.put, List.setIfInBounds_toArray, List.set_cons_zero, List.set_cons_succ]
                refine wpAny_ready (rs := [33, 34]) (by decide +kernel) (by simp) ?_
                refine AllReady.cons (o := { dst := some 106, op := .load 47 (.tmp 105), type := _, pos := _, after := _, guard := some (29, false) }) rfl (fun K hK => ?_) (AllReady.cons (o := { dst := some 107, op := .load 47 (.tmp 4), type := _, pos := _, after := _, guard := some (29, false) }) rfl (fun K hK => ?_) AllReady.nil)
                · refine step_ldAggG (b := b5) (off := o5 + 5) rfl (.tmp 105) aggDer rfl (by simp [Act.eval]) HR2L.out ((HC.out.sl (5, .slice (some ⟨b5, o5, none⟩) (1 + 1) cl, 1 + 1, r1 ++ rs2) (by simp)).cellsAt_ r1 [] (q := 5) (by simp) HR1L.out) ?_
                  refine hK _ _ ?_
                  clear hK K
                  try simp only [Act.put, List.setIfInBounds_toArray, List.set_cons_zero, List.set_cons_succ]
                  refine wpAny_ready (rs := [34]) (by decide +kernel) (by simp) ?_
                  refine AllReady.cons (o := { dst := some 107, op := .load 47 (.tmp 4), type := _, pos := _, after := _, guard := some (29, false) }) rfl (fun K hK => ?_) AllReady.nil
                  refine step_ldAggG (b := w.heap.size + 1) (off := 0) rfl (.tmp 4) aggDer rfl (by simp [Act.eval]) HDL.out (HC.out.cells (T := 47) (by simp)) ?_
                  refine hK _ _ ?_
                  clear hK K
                  try simp only [Act.put, List.setIfInBounds_toArray, List.set_cons_zero, List.set_cons_succ]
                  refine wpAny_ready (rs := [35]) (by decide +kernel) (by simp) ?_
                  refine AllReady.cons (o := { dst := some 108, op := .call { callee := .value (.func 36), args := #[.tmp 106, .tmp 107], argTypes := #[47, 47] }, type := _, pos := _, after := _, guard := some (29, false) }) rfl (fun K hK => ?_) AllReady.nil
                  go_simp
                  refine (derSame_any y y _ _ rs2 ds _ (HC.out.tree (y, rs2) (by simp)) (HC.out.tree (y, ds) (by simp))).mono ?_
                  rw [(tvEq_iff y y).2 rfl]
                  rintro e W9 ⟨rfl, hb⟩
                  have HC := Lib.hid (HC.out.step hb)
                  clear hb
                  refine hK _ _ ?_
                  clear hK K
                  try simp only [Act.put, List.setIfInBounds_toArray, List.set_cons_zero, List.set_cons_succ]
                  refine any_listed (l' := #[true, true, true, true, true, true, true, true, true, true, true, true, true, true, true, true, true, true, true, true, true, true, true, true, true, true, true, true, true, true, true, true, true, true, true, true, false, false, false, false, false, false, false, false, false, false, false, false, false, false, false]) (by decide +kernel) ?_
                  exact HT _ HC.out
                · refine step_ldAggG (b := w.heap.size + 1) (off := 0) rfl (.tmp 4) aggDer rfl (by simp [Act.eval]) HDL.out (HC.out.cells (T := 47) (by simp)) ?_
                  refine hK _ _ ?_
                  clear hK K
                  try simp only [Act.put, List.setIfInBounds_toArray, List.set_cons_zero, List.set_cons_succ]
                  refine wpAny_ready (rs := [33]) (by decide +kernel) (by simp) ?_
                  refine AllReady.cons (o := { dst := some 106, op := .load 47 (.tmp 105), type := _, pos := _, after := _, guard := some (29, false) }) rfl (fun K hK => ?_) AllReady.nil
                  refine step_ldAggG (b := b5) (off := o5 + 5) rfl (.tmp 105) aggDer rfl (by simp [Act.eval]) HR2L.out ((HC.out.sl (5, .slice (some ⟨b5, o5, none⟩) (1 + 1) cl, 1 + 1, r1 ++ rs2) (by simp)).cellsAt_ r1 [] (q := 5) (by simp) HR1L.out) ?_
                  refine hK _ _ ?_
                  clear hK K
                  try simp only [Act.put, List.setIfInBounds_toArray, List.set_cons_zero, List.set_cons_succ]
                  refine wpAny_ready (rs := [35]) (by decide +kernel) (by simp) ?_
                  refine AllReady.cons (o := { dst := some 108, op := .call { callee := .value (.func 36), args := #[.tmp 106, .tmp 107], argTypes := #[47, 47] }, type := _, pos := _, after := _, guard := some (29, false) }) rfl (fun K hK => ?_) AllReady.nil
                  go_simp
                  refine (derSame_any y y _ _ rs2 ds _ (HC.out.tree (y, rs2) (by simp)) (HC.out.tree (y, ds) (by simp))).mono ?_
                  rw [(tvEq_iff y y).2 rfl]
                  rintro e W9 ⟨rfl, hb⟩
                  have HC := Lib.hid (HC.out.step hb)
                  clear hb
                  refine hK _ _ ?_
                  clear hK K
                  try simp only [Act.put, List.setIfInBounds_toArray, List.set_cons_zero, List.set_cons_succ]
                  refine any_listed (l' := #[true, true, true, true, true, true, true, true, true, true, true, true, true, true, true, true, true, true, true, true, true, true, true, true, true, true, true, true, true, true, true, true, true, true, true, true, false, false, false, false, false, false, false, false, false, false, false, false, false, false, false]) (by decide +kernel) ?_
                  exact HT _ HC.out
              · refine step_ldAggG (b := w.heap.size + 1) (off := 0) rfl (.tmp 4) aggDer rfl (by simp [Act.eval]) HDL.out (HC.out.cells (T := 47) (by simp)) ?_
                refine hK _ _ ?_
                clear hK K
                try simp only [Act.put, List.setIfInBounds_toArray, List.set_cons_zero, List.set_cons_succ]
                refine wpAny_ready (rs := [31]) (by decide +kernel) (by simp) ?_
                refine AllReady.cons (o := { dst := some 104, op := .load 45 (.tmp 103), type := _, pos := _, after := _, guard := some (29, false) }) rfl (fun K hK => ?_) AllReady.nil
                have cc := HC.out.cell1 (p := r) (cs := [.int .i64 2, .int .i64 t, .int .u64 ((0 : Nat) : Int), bv, .slice (some ⟨b5, o5, none⟩) (1 + 1) cl]) (T := 47) (by simp) 4 (u := .slice (some ⟨b5, o5, none⟩) (1 + 1) cl) rfl
                go_simp
                refine hK _ _ ?_
                clear hK K
                try simp only [Act.put, List.setIfInBounds_toArray, List.set_cons_zero, List.set_cons_succ]
                refine wpAny_take (i := 32) (oi := { dst := some 105, op := _, type := _, pos := _, after := _, guard := some (29, false) }) (v := .pointer (some ⟨b5, o5 + 5, none⟩)) rfl (by kernel_rfl) (by kernel_rfl) (by kernel_rfl) (fun _ _ _ h => h) (Or.inl ⟨by rfl, by intro w; go_simp⟩) ?_
                simp only [Act.put, List.setIfInBounds_toArray, List.set_cons_zero, List.set_cons_succ]
                refine wpAny_ready (rs := [33]) (by decide +kernel) (by simp) ?_
                refine AllReady.cons (o := { dst := some 106, op := .load 47 (.tmp 105), type := _, pos := _, after := _, guard := some (29, false) }) rfl (fun K hK => ?_) AllReady.nil
                refine step_ldAggG (b := b5) (off := o5 + 5) rfl (.tmp 105) aggDer rfl (by simp [Act.eval]) HR2L.out ((HC.out.sl (5, .slice (some ⟨b5, o5, none⟩) (1 + 1) cl, 1 + 1, r1 ++ rs2) (by simp)).cellsAt_ r1 [] (q := 5) (by simp) HR1L.out) ?_
                refine hK _ _ ?_
                clear hK K
                try simp only [Act.put, List.setIfInBounds_toArray, List.set_cons_zero, List.set_cons_succ]
                refine wpAny_ready (rs := [35]) (by decide +kernel) (by simp) ?_
                refine AllReady.cons (o := { dst := some 108, op := .call { callee := .value (.func 36), args := #[.tmp 106, .tmp 107], argTypes := #[47, 47] }, type := _, pos := _, after := _, guard := some (29, false) }) rfl (fun K hK => ?_) AllReady.nil
                go_simp
                refine (derSame_any y y _ _ rs2 ds _ (HC.out.tree (y, rs2) (by simp)) (HC.out.tree (y, ds) (by simp))).mono ?_
                rw [(tvEq_iff y y).2 rfl]
                rintro e W9 ⟨rfl, hb⟩
                have HC := Lib.hid (HC.out.step hb)
                clear hb
                refine hK _ _ ?_
                clear hK K
                try simp only [Act.put, List.setIfInBounds_toArray, List.set_cons_zero, List.set_cons_succ]
                refine any_listed (l' := #[true, true, true, true, true, true, true, true, true, true, true, true, true, true, true, true, true, true, true, true, true, true, true, true, true, true, true, true, true, true, true, true, true, true, true, true, false, false, false, false, false, false, false, false, false, false, false, false, false, false, false]) (by decide +kernel) ?_
                exact HT _ HC.out
          · refine step_ldAggG (b := w.heap.size) (off := 0) rfl (.tmp 3) aggDer rfl (by simp [Act.eval]) HCL.out (HC.out.cells (T := 47) (by simp)) ?_
            refine hK _ _ ?_
            clear hK K
            try simp only [Act.put, List.setIfInBounds_toArray, List.set_cons_zero, List.set_cons_succ]
            refine wpAny_ready (rs := [22]) (by decide +kernel) (by simp) ?_
            refine AllReady.cons (o := { dst := some 95, op := .load 45 (.tmp 94), type := _, pos := _, after := _, guard := some (20, false) }) rfl (fun K hK => ?_) AllReady.nil
            have cc := HC.out.cell1 (p := r) (cs := [.int .i64 2, .int .i64 t, .int .u64 ((0 : Nat) : Int), bv, .slice (some ⟨b5, o5, none⟩) (1 + 1) cl]) (T := 47) (by simp) 4 (u := .slice (some ⟨b5, o5, none⟩) (1 + 1) cl) rfl
            go_simp
            refine hK _ _ ?_
            clear hK K
            try simp only [Act.put, List.setIfInBounds_toArray, List.set_cons_zero, List.set_cons_succ]
            refine wpAny_take (i := 23) (oi := { dst := some 96, op := _, type := _, pos := _, after := _, guard := some (20, false) }) (v := .pointer (some ⟨b5, o5, none⟩)) rfl (by kernel_rfl) (by kernel_rfl) (by kernel_rfl) (fun _ _ _ h => h) (Or.inl ⟨by rfl, by intro w; go_simp⟩) ?_
            simp only [Act.put, List.setIfInBounds_toArray, List.set_cons_zero, List.set_cons_succ]
            refine wpAny_ready (rs := [24]) (by decide +kernel) (by simp) ?_
            refine AllReady.cons (o := { dst := some 97, op := .load 47 (.tmp 96), type := _, pos := _, after := _, guard := some (20, false) }) rfl (fun K hK => ?_) AllReady.nil
            refine step_ldAggG (b := b5) (off := o5) rfl (.tmp 96) aggDer rfl (by simp [Act.eval]) HR1L.out ((HC.out.sl (5, .slice (some ⟨b5, o5, none⟩) (1 + 1) cl, 1 + 1, r1 ++ rs2) (by simp)).cellsAt_ [] rs2 (q := 0) (by simp) rfl) ?_
            refine hK _ _ ?_
            clear hK K
            try simp only [Act.put, List.setIfInBounds_toArray, List.set_cons_zero, List.set_cons_succ]
            refine wpAny_ready (rs := [26]) (by decide +kernel) (by simp) ?_
            refine AllReady.cons (o := { dst := some 99, op := .call { callee := .value (.func 36), args := #[.tmp 97, .tmp 98], argTypes := #[47, 47] }, type := _, pos := _, after := _, guard := some (20, false) }) rfl (fun K hK => ?_) AllReady.nil
            go_simp
            refine (derSame_any x x _ _ r1 cs _ (HC.out.tree (x, r1) (by simp)) (HC.out.tree (x, cs) (by simp))).mono ?_
            rw [(tvEq_iff x x).2 rfl]
            rintro e W9 ⟨rfl, hb⟩
            have HC := Lib.hid (HC.out.step hb)
            clear hb
            refine hK _ _ ?_
            clear hK K
            try simp only [Act.put, List.setIfInBounds_toArray, List.set_cons_zero, List.set_cons_succ]
            refine wpAny_take (i := 27) (oi := { dst := some 100, op := _, type := _, pos := _, after := _, guard := some (20, false) }) (v := .bool false) rfl (by kernel_rfl) (by kernel_rfl) (by kernel_rfl) (fun _ _ _ h => h) (Or.inl ⟨by rfl, by intro w; go_simp⟩) ?_
            simp only [Act.put, List.setIfInBounds_toArray, List.set_cons_zero, List.set_cons_succ]
            refine wpAny_take (i := 28) (oi := { dst := some 101, op := _, type := _, pos := _, after := _, guard := none }) (v := .bool false) rfl (by kernel_rfl) (by kernel_rfl) (by kernel_rfl) (fun _ _ _ h => h) (Or.inl ⟨by rfl, by intro w; go_simp⟩) ?_
            simp only [Act.put, List.setIfInBounds_toArray, List.set_cons_zero, List.set_cons_succ]
            refine wpAny_take (i := 29) (oi := { dst := some 102, op := _, type := _, pos := _, after := _, guard := none }) (v := .bool false) rfl (by kernel_rfl) (by kernel_rfl) (by kernel_rfl) (fun _ _ _ h => h) (Or.inl ⟨by rfl, by intro w; go_simp⟩) ?_
            simp only [Act.put, List.setIfInBounds_toArray, List.set_cons_zero, List.set_cons_succ]
            refine wpAny_take (i := 30) (oi := { dst := some 103, op := _, type := _, pos := _, after := _, guard := some (29, false) }) (v := .pointer (some ⟨r, 4, none⟩)) rfl (by kernel_rfl) (by kernel_rfl) (by kernel_rfl) (fun _ _ _ h => h) (Or.inl ⟨by rfl, by intro w; go_simp⟩) ?_
            simp only [Act.put, List.setIfInBounds_toArray, List.set_cons_zero, List.set_cons_succ]
            refine wpAny_ready (rs := [31, 34]) (by decide +kernel) (by simp) ?_
            refine AllReady.cons (o := { dst := some 104, op := .load 45 (.tmp 103), type := _, pos := _, after := _, guard := some (29, false) }) rfl (fun K hK => ?_) (AllReady.cons (o := { dst := some 107, op := .load 47 (.tmp 4), type := _, pos := _, after := _, guard := some (29, false) }) rfl (fun K hK => ?_) AllReady.nil)
            · have cc := HC.out.cell1 (p := r) (cs := [.int .i64 2, .int .i64 t, .int .u64 ((0 : Nat) : Int), bv, .slice (some ⟨b5, o5, none⟩) (1 + 1) cl]) (T := 47) (by simp) 4 (u := .slice (some ⟨b5, o5, none⟩) (1 + 1) cl) rfl
              go_simp
              refine hK _ _ ?_
              clear hK K
              try simp only [Act.put, List.setIfInBounds_toArray, List.set_cons_zero, List.set_cons_succ]
              refine wpAny_take (i := 32) (oi := { dst := some 105, op := _, type := _, pos := _, after := _, guard := some (29, false) }) (v := .pointer (some ⟨b5, o5 + 5, none⟩)) rfl (by kernel_rfl) (by kernel_rfl) (by kernel_rfl) (fun _ _ _ h => h) (Or.inl ⟨by rfl, by intro w; go_simp⟩) ?_
              simp only [Act.put, List.setIfInBounds_toArray, List.set_cons_zero, List.set_cons_succ]
              refine wpAny_ready (rs := [33, 34]) (by decide +kernel) (by simp) ?_
              refine AllReady.cons (o := { dst := some 106, op := .load 47 (.tmp 105), type := _, pos := _, after := _, guard := some (29, false) }) rfl (fun K hK => ?_) (AllReady.cons (o := { dst := some 107, op := .load 47 (.tmp 4), type := _, pos := _, after := _, guard := some (29, false) }) rfl (fun K hK => ?_) AllReady.nil)
              · refine step_ldAggG (b := b5) (off := o5 + 5) rfl (.tmp 105) aggDer rfl (by simp [Act.eval]) HR2L.out ((HC.out.sl (5, .slice (some ⟨b5, o5, none⟩) (1 + 1) cl, 1 + 1, r1 ++ rs2) (by simp)).cellsAt_ r1 [] (q := 5) (by simp) HR1L.out) ?_
                refine hK _ _ ?_
                clear hK K
                try simp only [Act.put, List.setIfInBounds_toArray, List.set_cons_zero, List.set_cons_succ]
                refine wpAny_ready (rs := [34]) (by decide +kernel) (by simp) ?_
                refine AllReady.cons (o := { dst := some 107, op := .load 47 (.tmp 4), type := _, pos := _, after := _, guard := some (29, false) }) rfl (fun K hK => ?_) AllReady.nil
                refine step_ldAggG (b := w.heap.size + 1) (off := 0) rfl (.tmp 4) aggDer rfl (by simp [Act.eval]) HDL.out (HC.out.cells (T := 47) (by simp)) ?_
                refine hK _ _ ?_
                clear hK K
                try simp only [Act.put, List.setIfInBounds_toArray, List.set_cons_zero, List.set_cons_succ]
                refine wpAny_ready (rs := [35]) (by decide +kernel) (by simp) ?_
                refine AllReady.cons (o := { dst := some 108, op := .call { callee := .value (.func 36), args := #[.tmp 106, .tmp 107], argTypes := #[47, 47] }, type := _, pos := _, after := _, guard := some (29, false) }) rfl (fun K hK => ?_) AllReady.nil
                go_simp
                refine (derSame_any y y _ _ rs2 ds _ (HC.out.tree (y, rs2) (by simp)) (HC.out.tree (y, ds) (by simp))).mono ?_
                rw [(tvEq_iff y y).2 rfl]
                rintro e W9 ⟨rfl, hb⟩
                have HC := Lib.hid (HC.out.step hb)
                clear hb
                refine hK _ _ ?_
                clear hK K
                try simp only [Act.put, List.setIfInBounds_toArray, List.set_cons_zero, List.set_cons_succ]
                refine any_listed (l' := #[true, true, true, true, true, true, true, true, true, true, true, true, true, true, true, true, true, true, true, true, true, true, true, true, true, true, true, true, true, true, true, true, true, true, true, true, false, false, false, false, false, false, false, false, false, false, false, false, false, false, false]) (by decide +kernel) ?_
                exact HT _ HC.out
              · refine step_ldAggG (b := w.heap.size + 1) (off := 0) rfl (.tmp 4) aggDer rfl (by simp [Act.eval]) HDL.out (HC.out.cells (T := 47) (by simp)) ?_
                refine hK _ _ ?_
                clear hK K
                try simp only [Act.put, List.setIfInBounds_toArray, List.set_cons_zero, List.set_cons_succ]
                refine wpAny_ready (rs := [33]) (by decide +kernel) (by simp) ?_
                refine AllReady.cons (o := { dst := some 106, op := .load 47 (.tmp 105), type := _, pos := _, after := _, guard := some (29, false) }) rfl (fun K hK => ?_) AllReady.nil
                refine step_ldAggG (b := b5) (off := o5 + 5) rfl (.tmp 105) aggDer rfl (by simp [Act.eval]) HR2L.out ((HC.out.sl (5, .slice (some ⟨b5, o5, none⟩) (1 + 1) cl, 1 + 1, r1 ++ rs2) (by simp)).cellsAt_ r1 [] (q := 5) (by simp) HR1L.out) ?_
                refine hK _ _ ?_
                clear hK K
                try simp only [Act.put, List.setIfInBounds_toArray, List.set_cons_zero, List.set_cons_succ]
                refine wpAny_ready (rs := [35]) (by decide +kernel) (by simp) ?_
                refine AllReady.cons (o := { dst := some 108, op := .call { callee := .value (.func 36), args := #[.tmp 106, .tmp 107], argTypes := #[47, 47] }, type := _, pos := _, after := _, guard := some (29, false) }) rfl (fun K hK => ?_) AllReady.nil
                go_simp
                refine (derSame_any y y _ _ rs2 ds _ (HC.out.tree (y, rs2) (by simp)) (HC.out.tree (y, ds) (by simp))).mono ?_
                rw [(tvEq_iff y y).2 rfl]
                rintro e W9 ⟨rfl, hb⟩
                have HC := Lib.hid (HC.out.step hb)
                clear hb
                refine hK _ _ ?_
                clear hK K
                try simp only [Act.put, List.setIfInBounds_toArray, List.set_cons_zero, List.set_cons_succ]
                refine any_listed (l' := #[true, true, true, true, true, true, true, true, true, true, true, true, true, true, true, true, true, true, true, true, true, true, true, true, true, true, true, true, true, true, true, true, true, true, true, true, false, false, false, false, false, false, false, false, false, false, false, false, false, false, false]) (by decide +kernel) ?_
                exact HT _ HC.out
            · refine step_ldAggG (b := w.heap.size + 1) (off := 0) rfl (.tmp 4) aggDer rfl (by simp [Act.eval]) HDL.out (HC.out.cells (T := 47) (by simp)) ?_
              refine hK _ _ ?_
              clear hK K
              try simp only [Act.put, List.setIfInBounds_toArray, List.set_cons_zero, List.set_cons_succ]
              refine wpAny_ready (rs := [31]) (by decide +kernel) (by simp) ?_
              refine AllReady.cons (o := { dst := some 104, op := .load 45 (.tmp 103), type := _, pos := _, after := _, guard := some (29, false) }) rfl (fun K hK => ?_) AllReady.nil
              have cc := HC.out.cell1 (p := r) (cs := [.int .i64 2, .int .i64 t, .int .u64 ((0 : Nat) : Int), bv, .slice (some ⟨b5, o5, none⟩) (1 + 1) cl]) (T := 47) (by simp) 4 (u := .slice (some ⟨b5, o5, none⟩) (1 + 1) cl) rfl
              go_simp
              refine hK _ _ ?_
              clear hK K
              try simp only [Act.put, List.setIfInBounds_toArray, List.set_cons_zero, List.set_cons_succ]
              refine wpAny_take (i := 32) (oi := { dst := some 105, op := _, type := _, pos := _, after := _, guard := some (29, false) }) (v := .pointer (some ⟨b5, o5 + 5, none⟩)) rfl (by kernel_rfl) (by kernel_rfl) (by kernel_rfl) (fun _ _ _ h => h) (Or.inl ⟨by rfl, by intro w; go_simp⟩) ?_
              simp only [Act.put, List.setIfInBounds_toArray, List.set_cons_zero, List.set_cons_succ]
              refine wpAny_ready (rs := [33]) (by decide +kernel) (by simp) ?_
              refine AllReady.cons (o := { dst := some 106, op := .load 47 (.tmp 105), type := _, pos := _, after := _, guard := some (29, false) }) rfl (fun K hK => ?_) AllReady.nil
              refine step_ldAggG (b := b5) (off := o5 + 5) rfl (.tmp 105) aggDer rfl (by simp [Act.eval]) HR2L.out ((HC.out.sl (5, .slice (some ⟨b5, o5, none⟩) (1 + 1) cl, 1 + 1, r1 ++ rs2) (by simp)).cellsAt_ r1 [] (q := 5) (by simp) HR1L.out) ?_
              refine hK _ _ ?_
              clear hK K
              try simp only [Act.put, List.setIfInBounds_toArray, List.set_cons_zero, List.set_cons_succ]
              refine wpAny_ready (rs := [35]) (by decide +kernel) (by simp) ?_
              refine AllReady.cons (o := { dst := some 108, op := .call { callee := .value (.func 36), args := #[.tmp 106, .tmp 107], argTypes := #[47, 47] }, type := _, pos := _, after := _, guard := some (29, false) }) rfl (fun K hK => ?_) AllReady.nil
              go_simp
              refine (derSame_any y y _ _ rs2 ds _ (HC.out.tree (y, rs2) (by simp)) (HC.out.tree (y, ds) (by simp))).mono ?_
              rw [(tvEq_iff y y).2 rfl]
              rintro e W9 ⟨rfl, hb⟩
              have HC := Lib.hid (HC.out.step hb)
              clear hb
              refine hK _ _ ?_
              clear hK K
              try simp only [Act.put, List.setIfInBounds_toArray, List.set_cons_zero, List.set_cons_succ]
              refine any_listed (l' := #[true, true, true, true, true, true, true, true, true, true, true, true, true, true, true, true, true, true, true, true, true, true, true, true, true, true, true, true, true, true, true, true, true, true, true, true, false, false, false, false, false, false, false, false, false, false, false, false, false, false, false]) (by decide +kernel) ?_
              exact HT _ HC.out
        case' h2 =>
          intro W hW
          have HC := Lib.hid hW
          clear hW
          refine wpAny_take (i := 36) (oi := { dst := some 109, op := _, type := _, pos := _, after := _, guard := some (29, false) }) (v := .bool false) rfl (by kernel_rfl) (by kernel_rfl) (by kernel_rfl) (fun _ _ _ h => h) (Or.inl ⟨by rfl, by intro w; go_simp⟩) ?_
          simp only [Act.put, List.setIfInBounds_toArray, List.set_cons_zero, List.set_cons_succ]
          refine wpAny_take (i := 37) (oi := { dst := some 110, op := _, type := _, pos := _, after := _, guard := none }) (v := .bool false) rfl (by kernel_rfl) (by kernel_rfl) (by kernel_rfl) (fun _ _ _ h => h) (Or.inl ⟨by rfl, by intro w; go_simp⟩) ?_
          simp only [Act.put, List.setIfInBounds_toArray, List.set_cons_zero, List.set_cons_succ]
          refine wpAny_take (i := 38) (oi := { dst := some 111, op := _, type := _, pos := _, after := _, guard := none }) (v := .bool false) rfl (by kernel_rfl) (by kernel_rfl) (by kernel_rfl) (fun _ _ _ h => h) (Or.inl ⟨by rfl, by intro w; go_simp⟩) ?_
          simp only [Act.put, List.setIfInBounds_toArray, List.set_cons_zero, List.set_cons_succ]
          refine wpAny_take (i := 39) (oi := { dst := some 112, op := _, type := _, pos := _, after := _, guard := some (38, false) }) (v := .pointer (some ⟨r, 1, none⟩)) rfl (by kernel_rfl) (by kernel_rfl) (by kernel_rfl) (fun _ _ _ h => h) (Or.inl ⟨by rfl, by intro w; go_simp⟩) ?_
          simp only [Act.put, List.setIfInBounds_toArray, List.set_cons_zero, List.set_cons_succ]
          refine wpAny_take (i := 41) (oi := { dst := some 114, op := _, type := _, pos := _, after := _, guard := some (38, false) }) (v := .int .i64 t) rfl (by kernel_rfl) (by kernel_rfl) (by kernel_rfl) (fun _ _ _ h => h) (Or.inl ⟨by rfl, by intro w; go_simp⟩) ?_
          simp only [Act.put, List.setIfInBounds_toArray, List.set_cons_zero, List.set_cons_succ]
          refine wpAny_ready (rs := [40]) (by decide +kernel) (by simp) ?_
          refine AllReady.cons (o := { dst := some 113, op := .load 3 (.tmp 112), type := _, pos := _, after := _, guard := some (38, false) }) rfl (fun K hK => ?_) AllReady.nil
          have cc := HC.out.cell1 (p := r) (cs := [.int .i64 2, .int .i64 t, .int .u64 ((0 : Nat) : Int), bv, .slice (some ⟨b5, o5, none⟩) (1 + 1) cl]) (T := 47) (by simp) 1 (u := .int .i64 t) rfl
          go_simp
          refine hK _ _ ?_
          clear hK K
          try simp only [Act.put, List.setIfInBounds_toArray, List.set_cons_zero, List.set_cons_succ]
          refine wpAny_take (i := 42) (oi := { dst := some 115, op := _, type := _, pos := _, after := _, guard := some (38, false) }) (v := .bool false) rfl (by kernel_rfl) (by kernel_rfl) (by kernel_rfl) (fun _ _ _ h => h) (Or.inl ⟨by rfl, by intro w; go_simp⟩) ?_
          simp only [Act.put, List.setIfInBounds_toArray, List.set_cons_zero, List.set_cons_succ]
          refine wpAny_take (i := 43) (oi := { dst := some 116, op := _, type := _, pos := _, after := _, guard := none }) (v := .bool false) rfl (by kernel_rfl) (by kernel_rfl) (by kernel_rfl) (fun _ _ _ h => h) (Or.inl ⟨by rfl, by intro w; go_simp⟩) ?_
          simp only [Act.put, List.setIfInBounds_toArray, List.set_cons_zero, List.set_cons_succ]
          refine wpAny_take (i := 44) (oi := { dst := some 117, op := _, type := _, pos := _, after := _, guard := none }) (v := .bool false) rfl (by kernel_rfl) (by kernel_rfl) (by kernel_rfl) (fun _ _ _ h => h) (Or.inl ⟨by rfl, by intro w; go_simp⟩) ?_
          simp only [Act.put, List.setIfInBounds_toArray, List.set_cons_zero, List.set_cons_succ]
          refine wpAny_take (i := 45) (oi := { dst := some 118, op := _, type := _, pos := _, after := _, guard := some (44, false) }) (v := .slice aw9 z.length cw9) rfl (by kernel_rfl) (by kernel_rfl) (by kernel_rfl) (fun _ _ _ h => h) (Or.inl ⟨by rfl, by intro w; go_simp⟩) ?_
          simp only [Act.put, List.setIfInBounds_toArray, List.set_cons_zero, List.set_cons_succ]
          refine wpAny_take (i := 46) (oi := { dst := some 119, op := _, type := _, pos := _, after := _, guard := some (44, false) }) (v := .int .i64 z.length) rfl (by kernel_rfl) (by kernel_rfl) (by kernel_rfl) (fun _ _ _ h => h) (Or.inl ⟨by rfl, by intro w; go_simp⟩) ?_
          simp only [Act.put, List.setIfInBounds_toArray, List.set_cons_zero, List.set_cons_succ]
          refine wpAny_take (i := 47) (oi := { dst := some 120, op := _, type := _, pos := _, after := _, guard := some (44, false) }) (v := .slice aw11 u.length cw11) rfl (by kernel_rfl) (by kernel_rfl) (by kernel_rfl) (fun _ _ _ h => h) (Or.inl ⟨by rfl, by intro w; go_simp⟩) ?_
          simp only [Act.put, List.setIfInBounds_toArray, List.set_cons_zero, List.set_cons_succ]
          refine wpAny_take (i := 48) (oi := { dst := some 121, op := _, type := _, pos := _, after := _, guard := some (44, false) }) (v := .int .i64 u.length) rfl (by kernel_rfl) (by kernel_rfl) (by kernel_rfl) (fun _ _ _ h => h) (Or.inl ⟨by rfl, by intro w; go_simp⟩) ?_
          simp only [Act.put, List.setIfInBounds_toArray, List.set_cons_zero, List.set_cons_succ]
          refine wpAny_take (i := 49) (oi := { dst := some 122, op := _, type := _, pos := _, after := _, guard := some (44, false) }) (v := .bool false) rfl (by kernel_rfl) (by kernel_rfl) (by kernel_rfl) (fun _ _ _ h => h) (Or.inl ⟨by rfl, by intro w; go_simp; have := HZU.out; omega⟩) ?_
          simp only [Act.put, List.setIfInBounds_toArray, List.set_cons_zero, List.set_cons_succ]
          refine wpAny_take (i := 50) (oi := { dst := some 123, op := _, type := _, pos := _, after := _, guard := none }) (v := .bool false) rfl (by kernel_rfl) (by kernel_rfl) (by kernel_rfl) (fun _ _ _ h => h) (Or.inl ⟨by rfl, by intro w; go_simp⟩) ?_
          simp only [Act.put, List.setIfInBounds_toArray, List.set_cons_zero, List.set_cons_succ]
          refine wpAny_done (by decide +kernel) ?_ _
          have HRA : Hid (Bs (W.alloc (.cells #[] 5)) (.slice aw6 a.length cw6) a) := Lib.hid ((HC.out.row (.slice aw6 a.length cw6, a) (by simp)).alloc (.cells #[] 5))
          have HLIT : Hid (∀ i, (Value.slice (some ⟨W.heap.size, 0, none⟩) 0 0).ownBlock = some i → i < (W.alloc (.cells #[] 5)).heap.size) := Lib.hid (fun i hi => by simp [Value.ownBlock] at hi; simp; omega)
          go_wp2_with ((with_reducible show wpList _ _ _ (⟨some 126, _, _, _, _, _⟩ :: _) _ _); refine wpList_app2 rfl (.tmp 124) (.tmp 125) elBytes rfl W.heap.size (Own.nil _ _ _ _ _) HLIT.out HRA.out (by unfold maxLen; omega) (by omega) (by simp) ?_)
          intro v14 w14 ho14 hk14 hv14
          obtain ⟨a14, c14, rfl, hc14, hm14⟩ := ho14.sl.form
          have hz14 := hk14.size
          simp at hz14
          have hb14 : Below W.heap.size W w14 := ((Below.refl _ _).alloc (Nat.le_refl _) _).trans (hk14.below (by
            rintro i (h | h)
            · exact h.2
            · try simp at h
              omega))
          have HB14 := Lib.hid hb14
          have HO14 : Hid (Own w14 W.heap.size 5 1 (.slice a14 a.length c14) a.length (bCells a)) := Lib.hid (by simpa using ho14)
          have HV14 : Hid (∀ i, (Value.slice a14 a.length c14).ownBlock = some i → i < w14.heap.size) := Lib.hid (fun i hi => (hv14 i (by simpa using hi)).2)
          have HRB : Hid (Bs w14 (.slice aw7 b.length cw7) b) := Lib.hid ((HC.out.row (.slice aw7 b.length cw7, b) (by simp)).below hb14)
          clear ho14 hk14 hv14 hb14 HRA
          go_wp2_with ((with_reducible show wpList _ _ _ (⟨some 128, _, _, _, _, _⟩ :: _) _ _); refine wpList_app2 rfl (.tmp 126) (.tmp 127) elBytes rfl W.heap.size HO14.out HV14.out HRB.out (by unfold maxLen; omega) (by omega) (by omega) ?_)
          intro v15 w15 ho15 hk15 hv15
          obtain ⟨a15, c15, rfl, hc15, hm15⟩ := ho15.sl.form
          have hb15 : Below W.heap.size w14 w15 := hk15.below (by
            rintro i (h | h)
            · exact h.2
            · try simp at h
              omega)
          have hbs15 : Bs w15 (.slice a15 (a.length + b.length) c15) (a ++ b) := by
            have := ho15.sl
            unfold Bs
            rw [bCells_append, List.length_append]
            exact this
          have HC := Lib.hid (((HC.out.step (HB14.out.trans hb15)).addRow hbs15).drew)
          clear ho15 hk15 hv15 hb15 hbs15 HO14 HV14 HRB HB14 HLIT
          obtain ⟨bz, oz, hbz, _⟩ := Sl.addr (HC.out.row (.slice aw9 z.length cw9, z) (by simp)) (by simp [bCells]; omega)
          obtain ⟨bu, ou, hbu, _⟩ := Sl.addr (HC.out.row (.slice aw11 u.length cw11, u) (by simp)) (by have := HZU.out; simp [bCells]; omega)
          subst hbz hbu
          obtain ⟨k, hk⟩ : ∃ k, k = z.length - (a.length + b.length) := ⟨_, rfl⟩
          have hkz : k ≤ z.length := by omega
          have hki : ((k : Nat) : Int) = (z.length : Int) - ((a.length : Int) + (b.length : Int)) := by omega
          have hrun : ∀ W, (Instr.sliceAt 22 (.slice (some ⟨bz, oz, none⟩) z.length cw9) (some (.int .i64 ((z.length : Int) - ((a.length : Int) + (b.length : Int))))) none none).run Try.prog W = .ok (.slice (cutA (some ⟨bz, oz, none⟩) cw9 k) (z.length - k) (cw9 - k)) W := by
            intro W
            rw [← hki]
            exact run_cut1 _ z.length cw9 k hkz W
          have hrun1 : ∀ W, (Instr.sliceAt 22 (.slice (some ⟨bz, oz, none⟩) z.length cw9) (some (.int .i64 1)) none none).run Try.prog W = .ok (.slice (cutA (some ⟨bz, oz, none⟩) cw9 1) (z.length - 1) (cw9 - 1)) W := fun W => run_cut1 _ z.length cw9 1 (by omega) W
          have hrun2 : ∀ W, (Instr.sliceAt 22 (.slice (some ⟨bu, ou, none⟩) u.length cw11) (some (.int .i64 1)) none none).run Try.prog W = .ok (.slice (cutA (some ⟨bu, ou, none⟩) cw11 1) (u.length - 1) (cw11 - 1)) W := fun W => run_cut1 _ u.length cw11 1 (by have := HZU.out; omega) W
          have HE1 : Hid ((z.drop k).take (z.length - k) = a ++ b) := Lib.hid (by
            have h := HEND.out
            rw [List.length_append, ← hk] at h
            rw [h, List.take_of_length_le (by simp; omega)])
          have HE2 : Hid ((z.drop 1).take (z.length - 1) = (u.drop 1).take (u.length - 1)) := Lib.hid (by rw [HDR.out, HZU.out])
          have HCT : Hid ((((UInt8.ofNat (128 + t).toNat).toNat : Nat) : Int) = 128 + t) := Lib.hid (by simp; omega)
          have HC0 : Hid ((((UInt8.ofNat ((128 + 0 : Int)).toNat).toNat : Nat) : Int) = 128) := Lib.hid (by decide)
          have hul : 2 ≤ u.length := by have := HZU.out; omega
          clear hki hk
          go_wp2_with fail
          refine wp_region_any (by kernel_rfl) ?_
          change wpAny _ _ _ _ _ _ _ (World.drew _)
          refine wpAny_take (i := 0) (oi := { dst := some 129, op := _, type := _, pos := _, after := _, guard := none }) (v := .slice (some ⟨bz, oz, none⟩) z.length cw9) rfl (by kernel_rfl) (by kernel_rfl) (by kernel_rfl) (fun _ _ _ h => h) (Or.inl ⟨by rfl, by intro w; go_simp⟩) ?_
          simp only [Act.put, List.setIfInBounds_toArray, List.set_cons_zero, List.set_cons_succ]
          refine wpAny_take (i := 1) (oi := { dst := some 130, op := _, type := _, pos := _, after := _, guard := none }) (v := .slice (some ⟨bz, oz, none⟩) z.length cw9) rfl (by kernel_rfl) (by kernel_rfl) (by kernel_rfl) (fun _ _ _ h => h) (Or.inl ⟨by rfl, by intro w; go_simp⟩) ?_
          simp only [Act.put, List.setIfInBounds_toArray, List.set_cons_zero, List.set_cons_succ]
          refine wpAny_take (i := 2) (oi := { dst := some 131, op := _, type := _, pos := _, after := _, guard := none }) (v := .int .i64 z.length) rfl (by kernel_rfl) (by kernel_rfl) (by kernel_rfl) (fun _ _ _ h => h) (Or.inl ⟨by rfl, by intro w; go_simp⟩) ?_
          simp only [Act.put, List.setIfInBounds_toArray, List.set_cons_zero, List.set_cons_succ]
          refine wpAny_take (i := 3) (oi := { dst := some 132, op := _, type := _, pos := _, after := _, guard := none }) (v := .slice a15 (a.length + b.length) c15) rfl (by kernel_rfl) (by kernel_rfl) (by kernel_rfl) (fun _ _ _ h => h) (Or.inl ⟨by rfl, by intro w; go_simp⟩) ?_
          simp only [Act.put, List.setIfInBounds_toArray, List.set_cons_zero, List.set_cons_succ]
          refine wpAny_take (i := 4) (oi := { dst := some 133, op := _, type := _, pos := _, after := _, guard := none }) (v := .int .i64 ((a.length : Int) + (b.length : Int))) rfl (by kernel_rfl) (by kernel_rfl) (by kernel_rfl) (fun _ _ _ h => h) (Or.inl ⟨by rfl, by intro w; go_simp⟩) ?_
          simp only [Act.put, List.setIfInBounds_toArray, List.set_cons_zero, List.set_cons_succ]
          refine wpAny_take (i := 5) (oi := { dst := some 134, op := _, type := _, pos := _, after := _, guard := none }) (v := .int .i64 ((z.length : Int) - ((a.length : Int) + (b.length : Int)))) rfl (by kernel_rfl) (by kernel_rfl) (by kernel_rfl) (fun _ _ _ h => h) (Or.inl ⟨by rfl, by intro w; go_simp; rw [IntKind.wrap_i64]; omega⟩) ?_
          simp only [Act.put, List.setIfInBounds_toArray, List.set_cons_zero, List.set_cons_succ]
          refine wpAny_take (i := 6) (oi := { dst := some 135, op := _, type := _, pos := _, after := _, guard := none }) (v := .slice (cutA (some ⟨bz, oz, none⟩) cw9 k) (z.length - k) (cw9 - k)) rfl (by kernel_rfl) (by kernel_rfl) (by kernel_rfl) (fun _ _ _ h => h) (Or.inl ⟨by rfl, by intro w; go_simp⟩) ?_
          simp only [Act.put, List.setIfInBounds_toArray, List.set_cons_zero, List.set_cons_succ]
          refine wpAny_take (i := 7) (oi := { dst := some 136, op := _, type := _, pos := _, after := _, guard := none }) (v := .slice a15 (a.length + b.length) c15) rfl (by kernel_rfl) (by kernel_rfl) (by kernel_rfl) (fun _ _ _ h => h) (Or.inl ⟨by rfl, by intro w; go_simp⟩) ?_
          simp only [Act.put, List.setIfInBounds_toArray, List.set_cons_zero, List.set_cons_succ]
          refine wpAny_ready (rs := [8]) (by decide +kernel) (by simp) ?_
          refine AllReady.cons (o := { dst := some 137, op := .call { callee := .value (.func 14), args := #[.tmp 135, .tmp 136], argTypes := #[22, 22] }, type := _, pos := _, after := _, guard := none }) rfl (fun K hK => ?_) AllReady.nil
          go_simp
          have hcut := (HC.out.row (.slice (some ⟨bz, oz, none⟩) z.length cw9, z) (by simp)).cut k z.length hkz (Nat.le_refl _)
          rw [HE1.out] at hcut
          refine (same_b _ _ (a ++ b) (a ++ b) _ hcut (HC.out.row (.slice a15 (a.length + b.length) c15, a ++ b) (by simp))).mono ?_
          rw [show decide (a ++ b = a ++ b) = true by simp]
          rintro e W10 ⟨rfl, hb⟩
          have HC := Lib.hid (HC.out.step hb)
          clear hb hcut
          refine hK _ _ ?_
          clear hK K
          try simp only [Act.put, List.setIfInBounds_toArray, List.set_cons_zero, List.set_cons_succ]
          refine wpAny_take (i := 9) (oi := { dst := some 138, op := _, type := _, pos := _, after := _, guard := none }) (v := .bool true) rfl (by kernel_rfl) (by kernel_rfl) (by kernel_rfl) (fun _ _ _ h => h) (Or.inl ⟨by rfl, by intro w; go_simp⟩) ?_
          simp only [Act.put, List.setIfInBounds_toArray, List.set_cons_zero, List.set_cons_succ]
          refine wpAny_take (i := 10) (oi := { dst := some 139, op := _, type := _, pos := _, after := _, guard := some (9, true) }) (v := .slice (some ⟨bz, oz, none⟩) z.length cw9) rfl (by kernel_rfl) (by kernel_rfl) (by kernel_rfl) (fun _ _ _ h => h) (Or.inl ⟨by rfl, by intro w; go_simp⟩) ?_
          simp only [Act.put, List.setIfInBounds_toArray, List.set_cons_zero, List.set_cons_succ]
          refine wpAny_take (i := 11) (oi := { dst := some 140, op := _, type := _, pos := _, after := _, guard := some (9, true) }) (v := .slice (cutA (some ⟨bz, oz, none⟩) cw9 1) (z.length - 1) (cw9 - 1)) rfl (by kernel_rfl) (by kernel_rfl) (by kernel_rfl) (fun _ _ _ h => h) (Or.inl ⟨by rfl, by intro w; go_simp⟩) ?_
          simp only [Act.put, List.setIfInBounds_toArray, List.set_cons_zero, List.set_cons_succ]
          refine wpAny_take (i := 12) (oi := { dst := some 141, op := _, type := _, pos := _, after := _, guard := some (9, true) }) (v := .slice (some ⟨bu, ou, none⟩) u.length cw11) rfl (by kernel_rfl) (by kernel_rfl) (by kernel_rfl) (fun _ _ _ h => h) (Or.inl ⟨by rfl, by intro w; go_simp⟩) ?_
          simp only [Act.put, List.setIfInBounds_toArray, List.set_cons_zero, List.set_cons_succ]
          refine wpAny_take (i := 13) (oi := { dst := some 142, op := _, type := _, pos := _, after := _, guard := some (9, true) }) (v := .slice (cutA (some ⟨bu, ou, none⟩) cw11 1) (u.length - 1) (cw11 - 1)) rfl (by kernel_rfl) (by kernel_rfl) (by kernel_rfl) (fun _ _ _ h => h) (Or.inl ⟨by rfl, by intro w; go_simp⟩) ?_
          simp only [Act.put, List.setIfInBounds_toArray, List.set_cons_zero, List.set_cons_succ]
          refine wpAny_ready (rs := [14]) (by decide +kernel) (by simp) ?_
          refine AllReady.cons (o := { dst := some 143, op := .call { callee := .value (.func 14), args := #[.tmp 140, .tmp 142], argTypes := #[22, 22] }, type := _, pos := _, after := _, guard := some (9, true) }) rfl (fun K hK => ?_) AllReady.nil
          go_simp
          have hcut := (HC.out.row (.slice (some ⟨bz, oz, none⟩) z.length cw9, z) (by simp)).cut 1 z.length (by omega) (Nat.le_refl _)
          have hcut2 := (HC.out.row (.slice (some ⟨bu, ou, none⟩) u.length cw11, u) (by simp)).cut 1 u.length (by omega) (Nat.le_refl _)
          rw [HE2.out] at hcut
          refine (same_b _ _ ((u.drop 1).take (u.length - 1)) ((u.drop 1).take (u.length - 1)) _ hcut hcut2).mono ?_
          rw [show decide ((u.drop 1).take (u.length - 1) = (u.drop 1).take (u.length - 1)) = true by simp]
          rintro e W11 ⟨rfl, hb⟩
          have HC := Lib.hid (HC.out.step hb)
          clear hb hcut hcut2
          refine hK _ _ ?_
          clear hK K
          try simp only [Act.put, List.setIfInBounds_toArray, List.set_cons_zero, List.set_cons_succ]
          refine wpAny_take (i := 15) (oi := { dst := some 144, op := _, type := _, pos := _, after := _, guard := none }) (v := .bool true) rfl (by kernel_rfl) (by kernel_rfl) (by kernel_rfl) (fun _ _ _ h => h) (Or.inl ⟨by rfl, by intro w; go_simp⟩) ?_
          simp only [Act.put, List.setIfInBounds_toArray, List.set_cons_zero, List.set_cons_succ]
          refine wpAny_take (i := 16) (oi := { dst := some 145, op := _, type := _, pos := _, after := _, guard := none }) (v := .bool true) rfl (by kernel_rfl) (by kernel_rfl) (by kernel_rfl) (fun _ _ _ h => h) (Or.inl ⟨by rfl, by intro w; go_simp⟩) ?_
          simp only [Act.put, List.setIfInBounds_toArray, List.set_cons_zero, List.set_cons_succ]
          refine wpAny_take (i := 17) (oi := { dst := some 146, op := _, type := _, pos := _, after := _, guard := some (16, true) }) (v := .slice (some ⟨bz, oz, none⟩) z.length cw9) rfl (by kernel_rfl) (by kernel_rfl) (by kernel_rfl) (fun _ _ _ h => h) (Or.inl ⟨by rfl, by intro w; go_simp⟩) ?_
          simp only [Act.put, List.setIfInBounds_toArray, List.set_cons_zero, List.set_cons_succ]
          refine wpAny_take (i := 18) (oi := { dst := some 147, op := _, type := _, pos := _, after := _, guard := some (16, true) }) (v := .pointer (some ⟨bz, oz, none⟩)) rfl (by kernel_rfl) (by kernel_rfl) (by kernel_rfl) (fun _ _ _ h => h) (Or.inl ⟨by rfl, by intro w; go_simp; intro h; rw [h] at hz2; simp at hz2⟩) ?_
          simp only [Act.put, List.setIfInBounds_toArray, List.set_cons_zero, List.set_cons_succ]
          refine wpAny_take (i := 21) (oi := { dst := some 150, op := _, type := _, pos := _, after := _, guard := some (16, true) }) (v := .slice (some ⟨bu, ou, none⟩) u.length cw11) rfl (by kernel_rfl) (by kernel_rfl) (by kernel_rfl) (fun _ _ _ h => h) (Or.inl ⟨by rfl, by intro w; go_simp⟩) ?_
          simp only [Act.put, List.setIfInBounds_toArray, List.set_cons_zero, List.set_cons_succ]
          refine wpAny_take (i := 22) (oi := { dst := some 151, op := _, type := _, pos := _, after := _, guard := some (16, true) }) (v := .pointer (some ⟨bu, ou, none⟩)) rfl (by kernel_rfl) (by kernel_rfl) (by kernel_rfl) (fun _ _ _ h => h) (Or.inl ⟨by rfl, by intro w; go_simp; intro h; rw [h] at hul; simp at hul⟩) ?_
          simp only [Act.put, List.setIfInBounds_toArray, List.set_cons_zero, List.set_cons_succ]
          refine wpAny_take (i := 25) (oi := { dst := some 154, op := _, type := _, pos := _, after := _, guard := some (16, true) }) (v := .int .i64 t) rfl (by kernel_rfl) (by kernel_rfl) (by kernel_rfl) (fun _ _ _ h => h) (Or.inl ⟨by rfl, by intro w; go_simp⟩) ?_
          simp only [Act.put, List.setIfInBounds_toArray, List.set_cons_zero, List.set_cons_succ]
          refine wpAny_ready (rs := [19, 23]) (by decide +kernel) (by simp) ?_
          refine AllReady.cons (o := { dst := some 148, op := .load 5 (.tmp 147), type := _, pos := _, after := _, guard := some (16, true) }) rfl (fun K hK => ?_) (AllReady.cons (o := { dst := some 152, op := .load 5 (.tmp 151), type := _, pos := _, after := _, guard := some (16, true) }) rfl (fun K hK => ?_) AllReady.nil)
          · have cc1 := byteInt (HC.out.row (.slice (some ⟨bz, oz, none⟩) z.length cw9, z) (by simp)) HZ0.out HCT.out
            go_simp
            refine hK _ _ ?_
            clear hK K
            try simp only [Act.put, List.setIfInBounds_toArray, List.set_cons_zero, List.set_cons_succ]
            refine wpAny_take (i := 20) (oi := { dst := some 149, op := _, type := _, pos := _, after := _, guard := some (16, true) }) (v := .int .i64 (128 + t)) rfl (by kernel_rfl) (by kernel_rfl) (by kernel_rfl) (fun _ _ _ h => h) (Or.inl ⟨by rfl, by intro w; go_simp; rw [IntKind.wrap_i64]; omega⟩) ?_
            simp only [Act.put, List.setIfInBounds_toArray, List.set_cons_zero, List.set_cons_succ]
            refine wpAny_ready (rs := [23]) (by decide +kernel) (by simp) ?_
            refine AllReady.cons (o := { dst := some 152, op := .load 5 (.tmp 151), type := _, pos := _, after := _, guard := some (16, true) }) rfl (fun K hK => ?_) AllReady.nil
            have cc2 := byteInt (HC.out.row (.slice (some ⟨bu, ou, none⟩) u.length cw11, u) (by simp)) HU0.out HC0.out
            go_simp
            refine hK _ _ ?_
            clear hK K
            try simp only [Act.put, List.setIfInBounds_toArray, List.set_cons_zero, List.set_cons_succ]
            refine wpAny_take (i := 24) (oi := { dst := some 153, op := _, type := _, pos := _, after := _, guard := some (16, true) }) (v := .int .i64 128) rfl (by kernel_rfl) (by kernel_rfl) (by kernel_rfl) (fun _ _ _ h => h) (Or.inl ⟨by rfl, by intro w; go_simp; decide⟩) ?_
            simp only [Act.put, List.setIfInBounds_toArray, List.set_cons_zero, List.set_cons_succ]
            refine wpAny_take (i := 26) (oi := { dst := some 155, op := _, type := _, pos := _, after := _, guard := some (16, true) }) (v := .int .i64 (128 + t)) rfl (by kernel_rfl) (by kernel_rfl) (by kernel_rfl) (fun _ _ _ h => h) (Or.inl ⟨by rfl, by intro w; go_simp; rw [IntKind.wrap_i64]; omega⟩) ?_
            simp only [Act.put, List.setIfInBounds_toArray, List.set_cons_zero, List.set_cons_succ]
            refine wpAny_take (i := 27) (oi := { dst := some 156, op := _, type := _, pos := _, after := _, guard := some (16, true) }) (v := .bool true) rfl (by kernel_rfl) (by kernel_rfl) (by kernel_rfl) (fun _ _ _ h => h) (Or.inl ⟨by rfl, by intro w; go_simp⟩) ?_
            simp only [Act.put, List.setIfInBounds_toArray, List.set_cons_zero, List.set_cons_succ]
            refine wpAny_take (i := 28) (oi := { dst := some 157, op := _, type := _, pos := _, after := _, guard := none }) (v := .bool true) rfl (by kernel_rfl) (by kernel_rfl) (by kernel_rfl) (fun _ _ _ h => h) (Or.inl ⟨by rfl, by intro w; go_simp⟩) ?_
            simp only [Act.put, List.setIfInBounds_toArray, List.set_cons_zero, List.set_cons_succ]
            refine wpAny_take (i := 29) (oi := { dst := some 6, op := _, type := _, pos := _, after := _, guard := none }) (v := .bool true) rfl (by kernel_rfl) (by kernel_rfl) (by kernel_rfl) (fun _ _ _ h => h) (Or.inl ⟨by rfl, by intro w; go_simp⟩) ?_
            simp only [Act.put, List.setIfInBounds_toArray, List.set_cons_zero, List.set_cons_succ]
            refine wpAny_done (by decide +kernel) ?_ _
            go_wp2_with fail
            go_ret
            exact ⟨rfl, HC.out.below⟩
          · have cc2 := byteInt (HC.out.row (.slice (some ⟨bu, ou, none⟩) u.length cw11, u) (by simp)) HU0.out HC0.out
            go_simp
            refine hK _ _ ?_
            clear hK K
            try simp only [Act.put, List.setIfInBounds_toArray, List.set_cons_zero, List.set_cons_succ]
            refine wpAny_take (i := 24) (oi := { dst := some 153, op := _, type := _, pos := _, after := _, guard := some (16, true) }) (v := .int .i64 128) rfl (by kernel_rfl) (by kernel_rfl) (by kernel_rfl) (fun _ _ _ h => h) (Or.inl ⟨by rfl, by intro w; go_simp; decide⟩) ?_
            simp only [Act.put, List.setIfInBounds_toArray, List.set_cons_zero, List.set_cons_succ]
            refine wpAny_take (i := 26) (oi := { dst := some 155, op := _, type := _, pos := _, after := _, guard := some (16, true) }) (v := .int .i64 (128 + t)) rfl (by kernel_rfl) (by kernel_rfl) (by kernel_rfl) (fun _ _ _ h => h) (Or.inl ⟨by rfl, by intro w; go_simp; rw [IntKind.wrap_i64]; omega⟩) ?_
            simp only [Act.put, List.setIfInBounds_toArray, List.set_cons_zero, List.set_cons_succ]
            refine wpAny_ready (rs := [19]) (by decide +kernel) (by simp) ?_
            refine AllReady.cons (o := { dst := some 148, op := .load 5 (.tmp 147), type := _, pos := _, after := _, guard := some (16, true) }) rfl (fun K hK => ?_) AllReady.nil
            have cc1 := byteInt (HC.out.row (.slice (some ⟨bz, oz, none⟩) z.length cw9, z) (by simp)) HZ0.out HCT.out
            go_simp
            refine hK _ _ ?_
            clear hK K
            try simp only [Act.put, List.setIfInBounds_toArray, List.set_cons_zero, List.set_cons_succ]
            refine wpAny_take (i := 20) (oi := { dst := some 149, op := _, type := _, pos := _, after := _, guard := some (16, true) }) (v := .int .i64 (128 + t)) rfl (by kernel_rfl) (by kernel_rfl) (by kernel_rfl) (fun _ _ _ h => h) (Or.inl ⟨by rfl, by intro w; go_simp; rw [IntKind.wrap_i64]; omega⟩) ?_
            simp only [Act.put, List.setIfInBounds_toArray, List.set_cons_zero, List.set_cons_succ]
            refine wpAny_take (i := 27) (oi := { dst := some 156, op := _, type := _, pos := _, after := _, guard := some (16, true) }) (v := .bool true) rfl (by kernel_rfl) (by kernel_rfl) (by kernel_rfl) (fun _ _ _ h => h) (Or.inl ⟨by rfl, by intro w; go_simp⟩) ?_
            simp only [Act.put, List.setIfInBounds_toArray, List.set_cons_zero, List.set_cons_succ]
            refine wpAny_take (i := 28) (oi := { dst := some 157, op := _, type := _, pos := _, after := _, guard := none }) (v := .bool true) rfl (by kernel_rfl) (by kernel_rfl) (by kernel_rfl) (fun _ _ _ h => h) (Or.inl ⟨by rfl, by intro w; go_simp⟩) ?_
            simp only [Act.put, List.setIfInBounds_toArray, List.set_cons_zero, List.set_cons_succ]
            refine wpAny_take (i := 29) (oi := { dst := some 6, op := _, type := _, pos := _, after := _, guard := none }) (v := .bool true) rfl (by kernel_rfl) (by kernel_rfl) (by kernel_rfl) (fun _ _ _ h => h) (Or.inl ⟨by rfl, by intro w; go_simp⟩) ?_
            simp only [Act.put, List.setIfInBounds_toArray, List.set_cons_zero, List.set_cons_succ]
            refine wpAny_done (by decide +kernel) ?_ _
            go_wp2_with fail
            go_ret
            exact ⟨rfl, HC.out.below⟩
end Go.Proofs.Ytdmjliehobgknaa
