/- A region of which all but the tail only reads: a struct is loaded. No program. -/
import Derived.Test.YtdmjliehobgknaaBase
import Derived.StillTailTactics
namespace Go.Proofs.Ytdmjliehobgknaa
set_option linter.unusedSimpArgs false
set_option linter.unusedVariables false
open Go.RowKit

theorem wpStill_ldAgg {P : Program} {ops : Array Oper} {rest : List Oper} {o : Oper} {a : Act} {w : World} {Q : Act → Prop} (hgd : Region.wanted o (yielded ops a.tmps) = true) (x : Operand) {ty : TypeId} {m : Nat} (hT : AggTy P ty m) (ho : o.op = .load ty x)
    {b off : Nat} (hx : a.eval x = .pointer (some ⟨b, off, none⟩)) {cs : List Value} (hm : cs.length = m) (hc : CellsAt w b off cs)
    (h : wpStill P ops w Q rest (a.put o.dst (.agg cs.toArray))) : wpStill P ops w Q (o :: rest) a := by
  refine wpStill_step fun K hK => ?_
  rw [if_pos hgd]
  unfold Oper.still
  simp only [execOp, ho, hx, Instr.loadAt, Instr.sureAddr, Sem.run_bind, Sem.run_pure, Result.andThen_ok, run_ldAgg hT hm hc]
  exact ⟨rfl, hK _ h⟩
end Go.Proofs.Ytdmjliehobgknaa
