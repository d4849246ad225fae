/- Operations of a drawn region that read arrays: rules of the quiet walk. No condition. -/
import Derived.Test.YtobiepjnnglglaaArr
namespace Go.Proofs.Ytobiepjnnglglaa
open Go.RowKit

section
variable {P : Program} {ops : Array Oper} {C : World → Prop} {Q : Act → Prop} {o : Oper} {rest : List Oper} {a : Act}
theorem quiet_run (hw : Region.wanted o (yielded ops a.tmps) = true) (v : Value) (h : ∀ w, C w → (execOp a.eval o).run P w = .ok (.value v) w) (k : wpQuiet P ops C Q rest (a.put o.dst v)) : wpQuiet P ops C Q (o :: rest) a := by
  rw [wpQuiet, if_pos hw]
  exact ⟨v, fun w hc => by unfold Oper.quietAt; rw [h w hc]; exact ⟨rfl, rfl⟩, k⟩
/-- 'x[l:]' of an array variable -/
theorem quiet_slice_array (hw : Region.wanted o (yielded ops a.tmps) = true) (t : TypeId) (x lo : Operand) (ho : o.op = .slice t x (some lo) none none) {n z : Nat} {e : TypeId} (ht : P.underlying t = some (.array n e)) (W : Wide P e z)
    (g : Nat) (hx : a.eval x = .pointer (some ⟨g, 0, none⟩)) (kk : IntKind) (l : Nat) (hl : a.eval lo = .int kk (l : Int)) (hn : l < n)
    (k : wpQuiet P ops C Q rest (a.put o.dst (.slice (some ⟨g, l * z, none⟩) (n - l) (n - l)))) : wpQuiet P ops C Q (o :: rest) a := by
  refine quiet_run hw _ (fun w _ => ?_) k
  have h1 : (0 : Int) ≤ (l : Int) ∧ (l : Int) ≤ (n : Int) := by omega
  have h2 : ¬ n = l := by omega
  simp only [execOp, ho, hx, hl, Option.map_some, Option.map_none, Instr.sliceAt, Sem.run_bind, run_underlying ht w, Result.andThen_ok, Instr.sureAddr, Sem.run_pure, Instr.sliceBounds, Instr.sliceBound, asIntOf, h1, and_self, if_true, Option.isSome_none, Bool.false_eq_true, if_false, Int.toNat_natCast, W.sizeOf w, h2]
  by_cases h0 : l * z = 0 <;> simp [Addr.add, h0]
/-- 'x[:h]' of a slice -/
theorem quiet_slice_h (hw : Region.wanted o (yielded ops a.tmps) = true) (t : TypeId) (x hi : Operand) (ho : o.op = .slice t x none (some hi) none) {e : TypeId} {z : Nat} (ht : P.underlying t = some (.slice e)) (W : Wide P e z)
    (A : Addr) (len cap : Nat) (hx : a.eval x = .slice (some A) len cap) (kk : IntKind) (h : Nat) (hh : a.eval hi = .int kk (h : Int)) (hn : h ≤ cap)
    (k : wpQuiet P ops C Q rest (a.put o.dst (.slice (some A) h cap))) : wpQuiet P ops C Q (o :: rest) a := by
  refine quiet_run hw _ (fun w _ => ?_) k
  have h1 : (0 : Int) ≤ (h : Int) ∧ (h : Int) ≤ (cap : Int) := by omega
  simp only [execOp, ho, hx, hh, Option.map_some, Option.map_none, Instr.sliceAt, Instr.slice, Sem.run_bind, run_underlying ht w, Result.andThen_ok, Sem.run_pure, Instr.sliceBounds, Instr.sliceBound, asIntOf, h1, and_self, if_true, Option.isSome_none, Bool.false_eq_true, if_false, Int.toNat_natCast, W.sizeOf w, Nat.zero_mul, Nat.sub_zero]
  by_cases h0 : cap = 0 <;> simp [Addr.add, h0]
/-- a slice as an array -/
theorem quiet_toArray (hw : Region.wanted o (yielded ops a.tmps) = true) (t : TypeId) (x : Operand) (ho : o.op = .sliceToArrayPointer t x) {n : Nat} {e : TypeId} (ht : P.underlying t = some (.array n e))
    (A : Option Addr) (len cap : Nat) (hx : a.eval x = .slice A len cap) (hn : n ≤ len) (k : wpQuiet P ops C Q rest (a.put o.dst (.pointer A))) : wpQuiet P ops C Q (o :: rest) a := by
  refine quiet_run hw _ (fun w _ => ?_) k
  have h1 : ¬ len < n := by omega
  simp [execOp, ho, hx, Instr.arrayAt, Sem.run_bind, run_underlying ht w, h1, Result.andThen]
theorem run_loadVar_at {w : World} {g off : Nat} {ty : TypeId} {cs : List Value} {z : Nat} (W : Wide P ty z) (hz : cs.length = z) (hc : ∀ j u, cs[j]? = some u → w.cell? ⟨g, off + j, none⟩ = some u) :
    (loadVar ty ⟨g, off, none⟩).run P w = .ok (.agg cs.toArray) w := by
  have hl : (loadCells ⟨g, off, none⟩ cs.length).run P w = .ok cs.toArray w :=
    run_loadCells_list (P := P) w ⟨g, off, none⟩ cs (fun j v hv => by
      have hadd : (⟨g, off, none⟩ : Addr).add j = ⟨g, off + j, none⟩ := by unfold Addr.add; split <;> simp_all
      rw [hadd]; exact hc j v hv)
  rw [hz] at hl
  unfold loadVar
  simp only [Sem.run_bind, W.isAgg w, Result.andThen_ok, if_true, W.sizeOf w, hl, Sem.run_pure]
/-- an array is read, from a place on -/
theorem quiet_load_at (hw : Region.wanted o (yielded ops a.tmps) = true) (ty : TypeId) (x : Operand) (ho : o.op = .load ty x) {z : Nat} (W : Wide P ty z) (g off : Nat) (hx : a.eval x = .pointer (some ⟨g, off, none⟩)) (cs : List Value) (hz : cs.length = z)
    (hc : ∀ w, C w → ∀ j u, cs[j]? = some u → w.cell? ⟨g, off + j, none⟩ = some u) (k : wpQuiet P ops C Q rest (a.put o.dst (.agg cs.toArray))) : wpQuiet P ops C Q (o :: rest) a := by
  refine quiet_run hw _ (fun w hC => ?_) k
  simp only [execOp, ho, hx, Instr.loadAt, Instr.sureAddr, Sem.run_bind, Sem.run_pure, Result.andThen_ok, run_loadVar_at W hz (hc w hC)]
/-- '==' of two aggregates -/
theorem quiet_eql (hw : Region.wanted o (yielded ops a.tmps) = true) (t : TypeId) (x y : Operand) (ty : TypeId) (ho : o.op = .binOp .eql t x y ty) (hm : P.eqGuardType P.depth t = false) (xs ys : Array Value) (hx : a.eval x = .agg xs) (hy : a.eval y = .agg ys) (r : Bool)
    (hr : ∀ w, (Op.equalIn 10000 t (.agg xs) (.agg ys)).run P w = .ok r w) (k : wpQuiet P ops C Q rest (a.put o.dst (.bool r))) : wpQuiet P ops C Q (o :: rest) a := by
  refine quiet_run hw _ (fun w _ => ?_) k
  simp only [execOp, ho, hx, hy, Sem.run_bind, run_eqGuard_agg w .eql t x y xs ys hm, Result.andThen_ok, run_eql_struct w t xs ys, hr w, Sem.run_pure]
/-- '!=' of two aggregates -/
theorem quiet_neq (hw : Region.wanted o (yielded ops a.tmps) = true) (t : TypeId) (x y : Operand) (ty : TypeId) (ho : o.op = .binOp .neq t x y ty) (hm : P.eqGuardType P.depth t = false) (xs ys : Array Value) (hx : a.eval x = .agg xs) (hy : a.eval y = .agg ys) (r : Bool)
    (hr : ∀ w, (Op.equalIn 10000 t (.agg xs) (.agg ys)).run P w = .ok r w) (k : wpQuiet P ops C Q rest (a.put o.dst (.bool !r))) : wpQuiet P ops C Q (o :: rest) a := by
  refine quiet_run hw _ (fun w _ => ?_) k
  simp only [execOp, ho, hx, hy, Sem.run_bind, run_eqGuard_agg w .neq t x y xs ys hm, Result.andThen_ok, run_neq_struct w t xs ys, hr w, Sem.run_pure]
end
end Go.Proofs.Ytobiepjnnglglaa
