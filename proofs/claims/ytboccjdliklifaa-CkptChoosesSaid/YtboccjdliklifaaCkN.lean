/- '==' of two checkpoints in a walk. No condition. -/
import Derived.Test.YtboccjdliklifaaCkM
import Derived.Test.YtboccjdliklifaaCkL
import Derived.Test.YtboccjdliklifaaQuiet
namespace Go.Proofs.Ytboccjdliklifaa
open Go.RowKit
def CkLen (c : Ck) : Prop := c.map.length = 4 ∧ c.used.length = 8
theorem eql_ck {ops : Array Oper} {rest : List Oper} {o : Oper} {a : Act} {w : World} {Q : Exit → Act → World → Prop} (x y : Operand) (ty : TypeId) (ho : o.op = .binOp .eql 28 x y ty) (hgd : Region.wanted o (yielded ops a.tmps) = true)
    (c m : Ck) (r : Bool) (hx : a.eval x = .agg (ckC c).toArray) (hy : a.eval y = .agg (ckC m).toArray) (hc : CkLen c) (hm : CkLen m) (hr : decide (c = m) = r) (h : wpList Try.prog ops Q rest (a.put o.dst (.bool r)) w) : wpList Try.prog ops Q (o :: rest) a w := by
  rw [wpList, if_pos hgd]
  refine .inl ?_
  unfold Oper.wp
  simp only [execOp, ho, hx, hy, Sem.run_bind, run_eqGuard_agg (P := Try.prog) w .eql 28 x y (ckC c).toArray (ckC m).toArray (by kernel_rfl), Result.andThen_ok, run_eql_struct w, ck_eq hc.1 hc.2 hm.1 hm.2 w, Sem.run_pure, hr]
  exact h
theorem neq_ck {ops : Array Oper} {rest : List Oper} {o : Oper} {a : Act} {w : World} {Q : Exit → Act → World → Prop} (x y : Operand) (ty : TypeId) (ho : o.op = .binOp .neq 28 x y ty) (hgd : Region.wanted o (yielded ops a.tmps) = true)
    (c m : Ck) (r : Bool) (hx : a.eval x = .agg (ckC c).toArray) (hy : a.eval y = .agg (ckC m).toArray) (hc : CkLen c) (hm : CkLen m) (hr : decide (c = m) = r) (h : wpList Try.prog ops Q rest (a.put o.dst (.bool !r)) w) : wpList Try.prog ops Q (o :: rest) a w := by
  rw [wpList, if_pos hgd]
  refine .inl ?_
  unfold Oper.wp
  simp only [execOp, ho, hx, hy, Sem.run_bind, run_eqGuard_agg (P := Try.prog) w .neq 28 x y (ckC c).toArray (ckC m).toArray (by kernel_rfl), Result.andThen_ok, run_neq_struct w, ck_eq hc.1 hc.2 hm.1 hm.2 w, Sem.run_pure, hr]
  exact h
end Go.Proofs.Ytboccjdliklifaa
