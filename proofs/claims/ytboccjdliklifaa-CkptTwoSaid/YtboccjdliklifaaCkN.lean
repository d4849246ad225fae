/- '==' of two checkpoints in a walk. No condition. -/
import Derived.Test.YtboccjdliklifaaCkM
import Derived.Test.YtboccjdliklifaaCkL
import Derived.Test.YtboccjdliklifaaQuiet
namespace Go.Proofs.Ytboccjdliklifaa
open Go.RowKit
def CkLen (c : Ck) : Prop := c.map.length = 4 ∧ c.used.length = 8
theorem eql_ck {ops : Array Oper} {rest : List Oper} {o : Oper} {a : Act} {w : World} {Q : Exit → Act → World → Prop} (x y : Operand) (ty : TypeId) (ho : o.op = .binOp .eql 28 x y ty) (hgd : Region.wanted o (yielded ops a.tmps) = true)
    (c m : Ck) (r : Bool) (hx : a.eval x = .agg (ckC c).toArray) (hy : a.eval y = .agg (ckC m).toArray) (hc : CkLen c) (hm : CkLen m) (hr : decide (c = m) = r) (h : wpList Try.prog ops Q rest (a.put o.dst (.bool r)) w) : wpList Try.prog ops Q (o :: rest) a w := by
  rw [wpList, if_pos hgd]
  refine .inl ?_
  unfold Oper.wp
  simp only [execOp, ho, hx, hy, Sem.run_bind, run_eqGuard_agg (P := Try.prog) w .eql 28 x y (ckC c).toArray (ckC m).toArray (by kernel_rfl), Result.andThen_ok, run_eql_struct w, ck_eq hc.1 hc.2 hm.1 hm.2 w, Sem.run_pure, hr]
  exact h
theorem neq_ck {ops : Array Oper} {rest : List Oper} {o : Oper} {a : Act} {w : World} {Q : Exit → Act → World → Prop} (x y : Operand) (ty : TypeId) (ho : o.op = .binOp .neq 28 x y ty) (hgd : Region.wanted o (yielded ops a.tmps) = true)
    (c m : Ck) (r : Bool) (hx : a.eval x = .agg (ckC c).toArray) (hy : a.eval y = .agg (ckC m).toArray) (hc : CkLen c) (hm : CkLen m) (hr : decide (c = m) = r) (h : wpList Try.prog ops Q rest (a.put o.dst (.bool !r)) w) : wpList Try.prog ops Q (o :: rest) a w := by
  rw [wpList, if_pos hgd]
  refine .inl ?_
  unfold Oper.wp
  simp only [execOp, ho, hx, hy, Sem.run_bind, run_eqGuard_agg (P := Try.prog) w .neq 28 x y (ckC c).toArray (ckC m).toArray (by kernel_rfl), Result.andThen_ok, run_neq_struct w, ck_eq hc.1 hc.2 hm.1 hm.2 w, Sem.run_pure, hr]
  exact h
section
variable {ops : Array Oper} {W : World} {Q : Act → Prop} {o : Oper} {rest : List Oper} {a : Act}
theorem quiet_load_ck (x : Operand) (ho : o.op = .load 28 x) (hw : Region.wanted o (yielded ops a.tmps) = true) (g : Nat) (hx : a.eval x = .pointer (some ⟨g, 0, none⟩)) (m : Ck) (hB : Blk W g 28 (ckC m).toArray) (hz : (ckC m).length = 19)
    (k : wpQuiet Try.prog ops (fun w' => ∃ x : Ext W, w' = x.w) Q rest (a.put o.dst (.agg (ckC m).toArray))) : wpQuiet Try.prog ops (fun w' => ∃ x : Ext W, w' = x.w) Q (o :: rest) a :=
  quiet_load_at hw _ x ho Try.wideCk g 0 hx (ckC m) hz (by rintro _ ⟨x, rfl⟩ j u hu; rw [Nat.zero_add]; exact (hB.below x.h hB.lt).cell_ j u (by simpa using hu)) k
theorem quiet_eql_ck {C : World → Prop} (x y : Operand) (ty : TypeId) (ho : o.op = .binOp .eql 28 x y ty) (hw : Region.wanted o (yielded ops a.tmps) = true)
    (c m : Ck) (r : Bool) (hx : a.eval x = .agg (ckC c).toArray) (hy : a.eval y = .agg (ckC m).toArray) (hc : CkLen c) (hm : CkLen m) (hr : decide (c = m) = r)
    (k : wpQuiet Try.prog ops C Q rest (a.put o.dst (.bool r))) : wpQuiet Try.prog ops C Q (o :: rest) a :=
  quiet_eql hw _ x y ty ho (by kernel_rfl) (ckC c).toArray (ckC m).toArray hx hy r (fun w => by rw [ck_eq hc.1 hc.2 hm.1 hm.2 w, hr]) k
theorem quiet_neq_ck {C : World → Prop} (x y : Operand) (ty : TypeId) (ho : o.op = .binOp .neq 28 x y ty) (hw : Region.wanted o (yielded ops a.tmps) = true)
    (c m : Ck) (r : Bool) (hx : a.eval x = .agg (ckC c).toArray) (hy : a.eval y = .agg (ckC m).toArray) (hc : CkLen c) (hm : CkLen m) (hr : decide (c = m) = r)
    (k : wpQuiet Try.prog ops C Q rest (a.put o.dst (.bool !r))) : wpQuiet Try.prog ops C Q (o :: rest) a :=
  quiet_neq hw _ x y ty ho (by kernel_rfl) (ckC c).toArray (ckC m).toArray hx hy r (fun w => by rw [ck_eq hc.1 hc.2 hm.1 hm.2 w, hr]) k
end
end Go.Proofs.Ytboccjdliklifaa
