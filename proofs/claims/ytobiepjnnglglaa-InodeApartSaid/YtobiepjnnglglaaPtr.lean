/- Pointers: their cells, how they are compared. No condition. -/
import Derived.Test.YtobiepjnnglglaaBox
import Derived.Test.YtobiepjnnglglaaRun
import Derived.Test.YtobiepjnnglglaaArrN
namespace Go.Proofs.Ytobiepjnnglglaa
open Go.RowKit
def ptrC (p : Int × Nat) : List Value := [.int .i64 p.1, .int .u32 (p.2 : Int)]
theorem ptrC_len : ∀ p, (ptrC p).length = 2 := fun _ => rfl
theorem Try.widePtr : Wide Try.prog 24 2 := ⟨by kernel_rfl, by kernel_rfl⟩
theorem run_eqPtr (d : Nat) (a a' : Int) (s s' : Nat) (w : World) :
    (Op.equalIn (d + 2) 24 (.agg #[.int .i64 a, .int .u32 (s : Int)]) (.agg #[.int .i64 a', .int .u32 (s' : Int)])).run Try.prog w = .ok (decide ((a, s) = (a', s'))) w := by
  have h : (Op.equalIn (d + 2) 24 (.agg #[.int .i64 a, .int .u32 (s : Int)]) (.agg #[.int .i64 a', .int .u32 (s' : Int)])).run Try.prog w = .ok (a == a' && (s : Int) == (s' : Int)) w := by
    rw [run_equalIn_struct w _ _ _ _ (by kernel_rfl) (by kernel_rfl)]
    simp [go_sem]
    by_cases h1 : a = a' <;> by_cases h2 : (s : Int) = (s' : Int) <;> simp [h1, h2]
  refine h.trans ?_
  congr 1
  rw [Bool.eq_iff_iff]
  simp only [Bool.and_eq_true, beq_iff_eq, decide_eq_true_iff, Prod.mk.injEq]
  constructor
  · rintro ⟨h1, h2⟩; exact ⟨h1, by omega⟩
  · rintro ⟨h1, h2⟩; exact ⟨h1, by omega⟩
theorem eqPtr (d : Nat) : EqEl Try.prog 24 (d + 2) ptrC (fun _ => True) := fun x y w _ _ => run_eqPtr d x.1 y.1 x.2 y.2 w
/-- may a pointer be? -/
def okPt (p : Int × Nat) : Bool := decide ((0 ≤ p.1 ∧ p.1 ≤ 2147483647) ∧ (0 < p.1 ∨ p.2 = 0))
end Go.Proofs.Ytobiepjnnglglaa
