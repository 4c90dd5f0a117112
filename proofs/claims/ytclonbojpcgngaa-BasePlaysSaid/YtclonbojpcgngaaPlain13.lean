/- Contract: law 13's plain; users held against each other. -/
import Derived.Test.YtclonbojpcgngaaBNames
import Derived.Test.YtclonbojpcgngaaKeyT
import Derived.Laws.StructEq
import Derived.Deep.DeepCutAuto
namespace Go.Proofs.Ytclonbojpcgngaa
set_option linter.unusedSimpArgs false
set_option linter.unusedVariables false
open Go.RowKit

theorem sixteen {l : List UInt8} (h : l.length = 16) : ∃ a0 a1 a2 a3 a4 a5 a6 a7 a8 a9 a10 a11 a12 a13 a14 a15, l = [a0, a1, a2, a3, a4, a5, a6, a7, a8, a9, a10, a11, a12, a13, a14, a15] := by
  obtain ⟨a0, l, rfl⟩ := List.exists_cons_of_length_eq_add_one h
  obtain ⟨a1, l, rfl⟩ := List.exists_cons_of_length_eq_add_one (by simpa using h : l.length = 14 + 1)
  obtain ⟨a2, l, rfl⟩ := List.exists_cons_of_length_eq_add_one (by simpa using h : l.length = 13 + 1)
  obtain ⟨a3, l, rfl⟩ := List.exists_cons_of_length_eq_add_one (by simpa using h : l.length = 12 + 1)
  obtain ⟨a4, l, rfl⟩ := List.exists_cons_of_length_eq_add_one (by simpa using h : l.length = 11 + 1)
  obtain ⟨a5, l, rfl⟩ := List.exists_cons_of_length_eq_add_one (by simpa using h : l.length = 10 + 1)
  obtain ⟨a6, l, rfl⟩ := List.exists_cons_of_length_eq_add_one (by simpa using h : l.length = 9 + 1)
  obtain ⟨a7, l, rfl⟩ := List.exists_cons_of_length_eq_add_one (by simpa using h : l.length = 8 + 1)
  obtain ⟨a8, l, rfl⟩ := List.exists_cons_of_length_eq_add_one (by simpa using h : l.length = 7 + 1)
  obtain ⟨a9, l, rfl⟩ := List.exists_cons_of_length_eq_add_one (by simpa using h : l.length = 6 + 1)
  obtain ⟨a10, l, rfl⟩ := List.exists_cons_of_length_eq_add_one (by simpa using h : l.length = 5 + 1)
  obtain ⟨a11, l, rfl⟩ := List.exists_cons_of_length_eq_add_one (by simpa using h : l.length = 4 + 1)
  obtain ⟨a12, l, rfl⟩ := List.exists_cons_of_length_eq_add_one (by simpa using h : l.length = 3 + 1)
  obtain ⟨a13, l, rfl⟩ := List.exists_cons_of_length_eq_add_one (by simpa using h : l.length = 2 + 1)
  obtain ⟨a14, l, rfl⟩ := List.exists_cons_of_length_eq_add_one (by simpa using h : l.length = 1 + 1)
  obtain ⟨a15, l, rfl⟩ := List.exists_cons_of_length_eq_add_one (by simpa using h : l.length = 0 + 1)
  obtain rfl : l = [] := List.eq_nil_of_length_eq_zero (by simpa using h)
  exact ⟨_, _, _, _, _, _, _, _, _, _, _, _, _, _, _, _, rfl⟩

theorem aggRU : AggTy Try.prog 36 20 := AggTy.mk Try.underlying36 rfl (by kernel_rfl)
set_option maxRecDepth 100000 in
theorem plain_built (u : Us) : Try.prog.built 36 [(0, .string u.name), (1, .agg (bCells u.key).toArray), (2, .int .i64 u.life), (3, .int .i64 u.renew), (4, .bool u.mesh)] = some u.cells.toArray := by
  obtain ⟨name, key, kl, life, renew, mesh⟩ := u
  obtain ⟨a0, a1, a2, a3, a4, a5, a6, a7, a8, a9, a10, a11, a12, a13, a14, a15, rfl⟩ := sixteen kl
  kernel_rfl

set_option maxRecDepth 100000 in
set_option maxHeartbeats 4000000 in
theorem run_neqU (T : TypeId) (hT : T = 30 ∨ T = 36) (u : Us) (w : World) : (binOp .neq T (.agg u.cells.toArray) (.agg u.cells.toArray)).run Try.prog w = .ok (.bool false) w := by
  have hk1 := run_equalIn_bytes (P := Try.prog) w 9997 28 5 16 Try.underlying28 Try.underlying5 (fun w => by kernel_rfl) u.key u.key u.kl u.kl
  have hk2 := run_equalIn_bytes (P := Try.prog) w 9997 27 5 16 Try.underlying27 Try.underlying5 (fun w => by kernel_rfl) u.key u.key u.kl u.kl
  obtain ⟨name, key, kl, life, renew, mesh⟩ := u
  obtain ⟨a0, a1, a2, a3, a4, a5, a6, a7, a8, a9, a10, a11, a12, a13, a14, a15, rfl⟩ := sixteen kl
  have e1 : (Op.equalIn 9999 28 (.agg #[.int .u8 a0.toNat, .int .u8 a1.toNat, .int .u8 a2.toNat, .int .u8 a3.toNat, .int .u8 a4.toNat, .int .u8 a5.toNat, .int .u8 a6.toNat, .int .u8 a7.toNat, .int .u8 a8.toNat, .int .u8 a9.toNat, .int .u8 a10.toNat, .int .u8 a11.toNat, .int .u8 a12.toNat, .int .u8 a13.toNat, .int .u8 a14.toNat, .int .u8 a15.toNat]) (.agg #[.int .u8 a0.toNat, .int .u8 a1.toNat, .int .u8 a2.toNat, .int .u8 a3.toNat, .int .u8 a4.toNat, .int .u8 a5.toNat, .int .u8 a6.toNat, .int .u8 a7.toNat, .int .u8 a8.toNat, .int .u8 a9.toNat, .int .u8 a10.toNat, .int .u8 a11.toNat, .int .u8 a12.toNat, .int .u8 a13.toNat, .int .u8 a14.toNat, .int .u8 a15.toNat])).run Try.prog w = .ok true w := by simpa [Extern.Stop.cell] using hk1
  have e2 : (Op.equalIn 9999 27 (.agg #[.int .u8 a0.toNat, .int .u8 a1.toNat, .int .u8 a2.toNat, .int .u8 a3.toNat, .int .u8 a4.toNat, .int .u8 a5.toNat, .int .u8 a6.toNat, .int .u8 a7.toNat, .int .u8 a8.toNat, .int .u8 a9.toNat, .int .u8 a10.toNat, .int .u8 a11.toNat, .int .u8 a12.toNat, .int .u8 a13.toNat, .int .u8 a14.toNat, .int .u8 a15.toNat]) (.agg #[.int .u8 a0.toNat, .int .u8 a1.toNat, .int .u8 a2.toNat, .int .u8 a3.toNat, .int .u8 a4.toNat, .int .u8 a5.toNat, .int .u8 a6.toNat, .int .u8 a7.toNat, .int .u8 a8.toNat, .int .u8 a9.toNat, .int .u8 a10.toNat, .int .u8 a11.toNat, .int .u8 a12.toNat, .int .u8 a13.toNat, .int .u8 a14.toNat, .int .u8 a15.toNat])).run Try.prog w = .ok true w := by simpa [Extern.Stop.cell] using hk2
  rcases hT with rfl | rfl
  · have h1 := Try.stoodInHeld30
    unfold binOp
    simp [go_sem, Us.cells, bCells, bV, Op.equal, Op.maxDepth, run_equalIn_struct _ _ 30 _ _ Try.underlying30 h1, e1, e2]
  · have h1 := Try.stoodInHeld36
    unfold binOp
    simp [go_sem, Us.cells, bCells, bV, Op.equal, Op.maxDepth, run_equalIn_struct _ _ 36 _ _ Try.underlying36 h1, e1, e2]

theorem wpList_bld5 {P : Program} {ops : Array Oper} {rest : List Oper} {o : Oper} {a : Act} {w : World} {Q : Exit → Act → World → Prop} (hgd : Region.wanted o (yielded ops a.tmps) = true) {ty : TypeId} (x0 x1 x2 x3 x4 : Operand) (ho : o.op = .build ty #[(0, x0), (1, x1), (2, x2), (3, x3), (4, x4)])
    {v0 v1 v2 v3 v4 : Value} (h0 : a.eval x0 = v0) (h1 : a.eval x1 = v1) (h2 : a.eval x2 = v2) (h3 : a.eval x3 = v3) (h4 : a.eval x4 = v4) {cells : Array Value} (hb : P.built ty [(0, v0), (1, v1), (2, v2), (3, v3), (4, v4)] = some cells)
    (h : wpList P ops Q rest (a.put o.dst (.agg cells)) w) : wpList P ops Q (o :: rest) a w := by
  refine wpList_want hgd fun K hK => ?_
  have hr := run_build (P := P) w ty #[(0, v0), (1, v1), (2, v2), (3, v3), (4, v4)] cells hb
  unfold Oper.wp execOp
  simp only [ho, Sem.run_bind, Sem.run_pure, Result.andThen_ok, List.map_toArray, List.map_cons, List.map_nil, h0, h1, h2, h3, h4, hr]
  exact hK _ _ h

theorem Us.keyC (u : Us) : (u.cells.drop 1).take 16 = bCells u.key := by
  rw [Us.cells, List.drop_succ_cons, List.drop_zero, List.take_append_of_le_length (by rw [bCells_length, u.kl]; omega), List.take_of_length_le (by rw [bCells_length, u.kl]; omega)]
theorem agg_key : AggTy Try.prog 28 16 := AggTy.mk Try.underlying28 rfl (by kernel_rfl)

set_option maxRecDepth 100000 in
set_option maxHeartbeats 1000000 in
theorem plain_any (u : Us) (w : World) : Calls Try.prog 9 #[.agg u.cells.toArray] w fun e w' => e = .returned (.agg u.cells.toArray) ∧ Below w.heap.size w w' := by
  obtain ⟨q, hq⟩ : ∃ q, q = w.heap.size := ⟨_, rfl⟩
  have h1 := (Hold.start w).addBlkAt u.cells 30 hq.symm
  have HC := Lib.hid (h1.addBlkAt zsU 36 (b := q + 1) (by simp [hq]))
  have hbq := HC.out.blkOf (p := q) (cs := u.cells) (T := 30) (by simp)
  have HN := Lib.hid (HC.out.blkOf (p := q + 1) (cs := zsU) (T := 36) (by simp))
  have hck := hbq.cellsAt 1 16
  rw [u.keyC] at hck
  have HCK := Lib.hid hck
  have c0 := hbq.cell 0
  have c17 := hbq.cell 17
  have c18 := hbq.cell 18
  have c19 := hbq.cell 19
  rw [u.c0] at c0
  rw [u.c17] at c17
  rw [u.c18] at c18
  rw [u.c19] at c19
  have HKL : Hid ((bCells u.key).length = 16) := Lib.hid (by rw [bCells_length, u.kl])
  have HQ := Lib.hid hq
  obtain ⟨W1, hW1⟩ : ∃ W1, W1 = (w.alloc (.cells u.cells.toArray 30)).alloc (.cells zsU.toArray 36) := ⟨_, rfl⟩
  rw [← hW1] at HC HN HCK c0 c17 c18 c19
  clear h1 hbq hck
  go_enter Try.func9, Try.ntmps9
  go_upto_region 1 with fail
  show Code.wp _ _ _ _ ((w.alloc (.cells u.cells.toArray 30)).alloc (.cells zsU.toArray 36))
  rw [← hW1, ← hq]
  clear hW1 hq
  go_wp2_with (first | ((with_reducible show wpList _ _ _ (⟨some 6, _, _, _, _, _⟩ :: _) _ _); refine wpList_ldAgg rfl (.tmp 5) agg_key rfl rfl (cs := bCells u.key) HKL.out HCK.out ?_) | ((with_reducible show wpList _ _ _ (⟨some 13, _, _, _, _, _⟩ :: _) _ _); refine wpList_bld5 rfl (.tmp 4) (.tmp 6) (.tmp 8) (.tmp 10) (.tmp 12) rfl rfl rfl rfl rfl rfl (plain_built u) ?_) | ((with_reducible show wpList _ _ _ (⟨none, .store _ (.tmp 2) (.tmp 13), _, _, _, _⟩ :: _) _ _); refine wpList_stAgg rfl (.tmp 2) (.tmp 13) aggRU rfl rfl (vs := u.cells) rfl u.cells_length HN.out (Nat.le_refl _) u.cells_one ?_))
  intro w2 h2 k2
  have H2 : Hid (Blk w2 (q + 1) u.cells 36) := Lib.hid (by simpa [zsU] using h2)
  have HB := Lib.hid ((HC.out.baseOf (w0 := w) (by simp)).trans (k2.below (fun k hk => by rw [hk, HQ.out]; exact Nat.le_succ _)))
  clear h2 k2
  go_wp2_with fail
  exact bodyPost_ret (results_agg rfl aggRU rfl (cs := u.cells) u.cells_length H2.out.cellsAll) rfl ⟨rfl, HB.out⟩
end Go.Proofs.Ytclonbojpcgngaa
