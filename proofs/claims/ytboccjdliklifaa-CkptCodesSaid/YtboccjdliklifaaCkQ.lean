/- Checkpoints in a drawn region that only reads. No condition. -/
import Derived.Test.YtboccjdliklifaaCkN
namespace Go.Proofs.Ytboccjdliklifaa
open Go.RowKit
section
variable {ops : Array Oper} {W : World} {Q : Act → Prop} {o : Oper} {rest : List Oper} {a : Act}
theorem quiet_load_ck (x : Operand) (ho : o.op = .load 28 x) (hw : Region.wanted o (yielded ops a.tmps) = true) (g : Nat) (hx : a.eval x = .pointer (some ⟨g, 0, none⟩)) (m : Ck) (hB : Blk W g 28 (ckC m).toArray) (hz : (ckC m).length = 19)
    (k : wpQuiet Try.prog ops (fun w' => ∃ x : Ext W, w' = x.w) Q rest (a.put o.dst (.agg (ckC m).toArray))) : wpQuiet Try.prog ops (fun w' => ∃ x : Ext W, w' = x.w) Q (o :: rest) a :=
  quiet_load_at hw _ x ho Try.wideCk g 0 hx (ckC m) hz (by rintro _ ⟨x, rfl⟩ j u hu; rw [Nat.zero_add]; exact (hB.below x.h hB.lt).cell_ j u (by simpa using hu)) k
theorem quiet_eql_ck {C : World → Prop} (x y : Operand) (ty : TypeId) (ho : o.op = .binOp .eql 28 x y ty) (hw : Region.wanted o (yielded ops a.tmps) = true)
    (c m : Ck) (r : Bool) (hx : a.eval x = .agg (ckC c).toArray) (hy : a.eval y = .agg (ckC m).toArray) (hc : CkLen c) (hm : CkLen m) (hr : decide (c = m) = r)
    (k : wpQuiet Try.prog ops C Q rest (a.put o.dst (.bool r))) : wpQuiet Try.prog ops C Q (o :: rest) a :=
  quiet_eql hw _ x y ty ho (by kernel_rfl) (ckC c).toArray (ckC m).toArray hx hy r (fun w => by rw [ck_eq hc.1 hc.2 hm.1 hm.2 w, hr]) k
theorem quiet_neq_ck {C : World → Prop} (x y : Operand) (ty : TypeId) (ho : o.op = .binOp .neq 28 x y ty) (hw : Region.wanted o (yielded ops a.tmps) = true)
    (c m : Ck) (r : Bool) (hx : a.eval x = .agg (ckC c).toArray) (hy : a.eval y = .agg (ckC m).toArray) (hc : CkLen c) (hm : CkLen m) (hr : decide (c = m) = r)
    (k : wpQuiet Try.prog ops C Q rest (a.put o.dst (.bool !r))) : wpQuiet Try.prog ops C Q (o :: rest) a :=
  quiet_neq hw _ x y ty ho (by kernel_rfl) (ckC c).toArray (ckC m).toArray hx hy r (fun w => by rw [ck_eq hc.1 hc.2 hm.1 hm.2 w, hr]) k
end
end Go.Proofs.Ytboccjdliklifaa
