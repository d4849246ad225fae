/- Operations on variables of many cells, in a drawn region that makes variables. No condition. -/
import Derived.Test.YtobiepjnnglglaaVar
import Derived.Test.YtobiepjnnglglaaRun
import Derived.Test.YtobiepjnnglglaaQuiet
namespace Go.Proofs.Ytobiepjnnglglaa
open Go.RowKit
section
variable {P : Program} {w : World} {ops : Array Oper} {rest : List Oper} {o : Oper} {a : Act} {Q : Exit → Act → World → Prop}
/-- a value of many cells is read, from a place on -/
theorem wpList_load_at (x : Operand) {ty : TypeId} (ho : o.op = .load ty x) (hgd : o.guard = none) {z : Nat} (W : Wide P ty z) (g off : Nat) (hx : a.eval x = .pointer (some ⟨g, off, none⟩)) (cs : List Value) (hz : cs.length = z)
    (hc : ∀ j u, cs[j]? = some u → w.cell? ⟨g, off + j, none⟩ = some u) (k : wpList P ops Q rest (a.put o.dst (.agg cs.toArray)) w) : wpList P ops Q (o :: rest) a w :=
  wpList_run hgd _ (by simp only [execOp, ho, hx, Instr.loadAt, Instr.sureAddr, Sem.run_bind, Sem.run_pure, Result.andThen_ok, run_loadVar_at W hz hc]) k
/-- a value of many cells is written into a variable -/
theorem wpList_store_at (x y : Operand) {ty : TypeId} (ho : o.op = .store ty x y) (hgd : o.guard = none) (g : Nat) (t : TypeId) (old new : Array Value) (hx : a.eval x = .pointer (some ⟨g, 0, none⟩)) (hy : a.eval y = .agg new)
    (hB : Blk w g t old) (hi : (P.info? ty).map (·.size) = some new.size) (hold : old.size = new.size) (h1 : new.all (·.oneCell') = true) (h : wpList P ops Q rest (a.put o.dst undef) (w.setRow g new)) : wpList P ops Q (o :: rest) a w :=
  wpList_store_row hgd _ x y ho g new hx hy t old hB hi hold h1 h
end
end Go.Proofs.Ytobiepjnnglglaa
