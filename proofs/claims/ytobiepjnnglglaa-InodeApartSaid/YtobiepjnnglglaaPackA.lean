import Derived.Test.YtobiepjnnglglaaRows
import Derived.Test.YtobiepjnnglglaaBase
namespace Go.Proofs.Ytobiepjnnglglaa
open Go.RowKit

set_option maxHeartbeats 400000 in
theorem wide_yes (n : Int) (w : World) (h1 : 1 ≤ n) (h2 : n ≤ 8) :
    Calls Try.prog 46 #[.int .i64 n] w fun e w' => e = .returned (.bool true) ∧ w = w' := by
  go_enter Try.func46, Try.ntmps46
  go_wp2
  go_ret
  exact ⟨rfl, rfl⟩
set_option maxHeartbeats 400000 in
theorem wide_no (n : Int) (w : World) (h : n < 1 ∨ 8 < n) :
    Calls Try.prog 46 #[.int .i64 n] w fun e w' => e = .returned (.bool false) ∧ w = w' := by
  rcases h with h | h
  · go_enter Try.func46, Try.ntmps46
    go_wp2
    go_ret
    exact ⟨ret_bool (by simp <;> omega), rfl⟩
  · go_enter Try.func46, Try.ntmps46
    go_wp2
    go_ret
    exact ⟨ret_bool (by simp <;> omega), rfl⟩
end Go.Proofs.Ytobiepjnnglglaa
