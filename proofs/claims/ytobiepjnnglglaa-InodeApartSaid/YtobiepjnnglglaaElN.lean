import Derived.Test.YtobiepjnnglglaaRows
import Derived.Test.YtobiepjnnglglaaBase
namespace Go.Proofs.Ytobiepjnnglglaa
open Go.RowKit
def numC (x : Int × Nat) : List Value := [.int .i64 x.1, .int .u64 (x.2 : Int)]
theorem numC_len (x : Int × Nat) : (numC x).length = 2 := rfl

theorem Try.el_num : Elem Try.prog 65 63 (.agg #[.int .i64 0, .int .u64 0]) 2 16 := ⟨Try.underlying65, by kernel_rfl, rfl, by decide⟩
theorem one_num (l : List (Int × Nat)) : ∀ u ∈ l.flatMap numC, u.oneCell' = true := by
  intro u hu
  obtain ⟨x, _, hx⟩ := List.mem_flatMap.1 hu
  simp [numC] at hx
  rcases hx with rfl | rfl <;> rfl
end Go.Proofs.Ytobiepjnnglglaa
