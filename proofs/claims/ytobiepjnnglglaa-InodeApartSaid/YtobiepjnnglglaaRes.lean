/- Results that lie in a variable of many cells. No condition. -/
import Derived.Test.YtobiepjnnglglaaQuiet
namespace Go.Proofs.Ytobiepjnnglglaa
open Go.RowKit
theorem results_one {P : Program} {fn : Func} {p : Tmp} {ty : TypeId} (h : fn.results = #[.cell p ty]) (tmps : Array Value) (w : World) {z : Nat} (W : Wide P ty z) (g off : Nat) (cs : List Value)
    (hp : tmps.getD p undef = .pointer (some ⟨g, off, none⟩)) (hz : cs.length = z) (hc : ∀ j u, cs[j]? = some u → w.cell? ⟨g, off + j, none⟩ = some u) :
    (results fn tmps).run P w = .ok (.agg cs.toArray) w := by
  have e : (results fn tmps).run P w = ((asAddr (tmps.getD p undef)).run P w).andThen fun a w₁ => (loadVar ty a).run P w₁ := by
    simp only [results, h]
    simp [Sem.run_bind, Result.andThen]
  rw [e, hp]
  simp [asAddr, Result.andThen, run_loadVar_at W hz hc]
theorem results_pair {P : Program} {fn : Func} {p u : Tmp} {ty : TypeId} (h : fn.results = #[.cell p ty, .tmp u]) (tmps : Array Value) (w : World) {z : Nat} (W : Wide P ty z) (g off : Nat) (cs : List Value)
    (hp : tmps.getD p undef = .pointer (some ⟨g, off, none⟩)) (hz : cs.length = z) (hc : ∀ j u, cs[j]? = some u → w.cell? ⟨g, off + j, none⟩ = some u) :
    (results fn tmps).run P w = .ok (.tuple #[.agg cs.toArray, tmps.getD u undef]) w := by
  rw [results_cell_tmp h, hp]
  simp [asAddr, Result.andThen, run_loadVar_at W hz hc]
theorem blk_from {w : World} {g : Nat} {t : TypeId} {cs : List Value} (h : Blk w g t cs.toArray) : ∀ j u, cs[j]? = some u → w.cell? ⟨g, 0 + j, none⟩ = some u := fun j u hu => by
  rw [Nat.zero_add]; exact h.cell_ j u (by simpa using hu)
end Go.Proofs.Ytobiepjnnglglaa
