/- Operations of a plain region that read arrays: rules of the walk. No condition. -/
import Derived.Test.YtobiepjnnglglaaArr
namespace Go.Proofs.Ytobiepjnnglglaa
open Go.RowKit

section
variable {P : Program} {w : World} {ops : Array Oper} {rest : List Oper} {o : Oper} {a : Act} {Q : Exit → Act → World → Prop}
theorem wpList_run (hgd : o.guard = none) (v : Value) (h : (execOp a.eval o).run P w = .ok (.value v) w) (k : wpList P ops Q rest (a.put o.dst v) w) : wpList P ops Q (o :: rest) a w :=
  wpList_plain hgd fun K hK => by unfold Oper.wp; rw [h]; exact hK _ _ k
theorem exec_slice_array (t : TypeId) (x lo : Operand) (ho : o.op = .slice t x (some lo) none none) {n z : Nat} {e : TypeId} (ht : P.underlying t = some (.array n e)) (W : Wide P e z)
    (g : Nat) (hx : a.eval x = .pointer (some ⟨g, 0, none⟩)) (kk : IntKind) (l : Nat) (hl : a.eval lo = .int kk (l : Int)) (hn : l < n) :
    (execOp a.eval o).run P w = .ok (.value (.slice (some ⟨g, l * z, none⟩) (n - l) (n - l))) w := by
  have h1 : (0 : Int) ≤ (l : Int) ∧ (l : Int) ≤ (n : Int) := by omega
  have h2 : ¬ n = l := by omega
  simp only [execOp, ho, hx, hl, Option.map_some, Option.map_none, Instr.sliceAt, Sem.run_bind, run_underlying ht w, Result.andThen_ok, Instr.sureAddr, Sem.run_pure, Instr.sliceBounds, Instr.sliceBound, asIntOf, h1, and_self, if_true, Option.isSome_none, Bool.false_eq_true, if_false, Int.toNat_natCast, W.sizeOf w, h2]
  by_cases h0 : l * z = 0 <;> simp [Addr.add, h0]
theorem exec_slice_h (t : TypeId) (x hi : Operand) (ho : o.op = .slice t x none (some hi) none) {e : TypeId} {z : Nat} (ht : P.underlying t = some (.slice e)) (W : Wide P e z)
    (A : Addr) (len cap : Nat) (hx : a.eval x = .slice (some A) len cap) (kk : IntKind) (h : Nat) (hh : a.eval hi = .int kk (h : Int)) (hn : h ≤ cap) :
    (execOp a.eval o).run P w = .ok (.value (.slice (some A) h cap)) w := by
  have h1 : (0 : Int) ≤ (h : Int) ∧ (h : Int) ≤ (cap : Int) := by omega
  simp only [execOp, ho, hx, hh, Option.map_some, Option.map_none, Instr.sliceAt, Instr.slice, Sem.run_bind, run_underlying ht w, Result.andThen_ok, Sem.run_pure, Instr.sliceBounds, Instr.sliceBound, asIntOf, h1, and_self, if_true, Option.isSome_none, Bool.false_eq_true, if_false, Int.toNat_natCast, W.sizeOf w, Nat.zero_mul, Nat.sub_zero]
  by_cases h0 : cap = 0 <;> simp [Addr.add, h0]
/-- 'x[l:]' of an array variable -/
theorem wpList_slice_array (t : TypeId) (x lo : Operand) (ho : o.op = .slice t x (some lo) none none) (hgd : o.guard = none) {n z : Nat} {e : TypeId} (ht : P.underlying t = some (.array n e)) (W : Wide P e z)
    (g : Nat) (hx : a.eval x = .pointer (some ⟨g, 0, none⟩)) (kk : IntKind) (l : Nat) (hl : a.eval lo = .int kk (l : Int)) (hn : l < n)
    (k : wpList P ops Q rest (a.put o.dst (.slice (some ⟨g, l * z, none⟩) (n - l) (n - l))) w) : wpList P ops Q (o :: rest) a w :=
  wpList_run hgd _ (exec_slice_array t x lo ho ht W g hx kk l hl hn) k
/-- 'x[:h]' of a slice -/
theorem wpList_slice_h (t : TypeId) (x hi : Operand) (ho : o.op = .slice t x none (some hi) none) (hgd : o.guard = none) {e : TypeId} {z : Nat} (ht : P.underlying t = some (.slice e)) (W : Wide P e z)
    (A : Addr) (len cap : Nat) (hx : a.eval x = .slice (some A) len cap) (kk : IntKind) (h : Nat) (hh : a.eval hi = .int kk (h : Int)) (hn : h ≤ cap)
    (k : wpList P ops Q rest (a.put o.dst (.slice (some A) h cap)) w) : wpList P ops Q (o :: rest) a w :=
  wpList_run hgd _ (exec_slice_h t x hi ho ht W A len cap hx kk h hh hn) k
end
end Go.Proofs.Ytobiepjnnglglaa
