import Derived.Test.YtfpclheplipjfaaRows
import Derived.Test.YtfpclheplipjfaaBase
import Derived.Test.YtfpclheplipjfaaPlain3
namespace Go.Proofs.Ytfpclheplipjfaa
open Go.RowKit

theorem box1 {w : World} {o : Obj} : Below w.heap.size w (w.alloc o) := (Below.refl _ _).alloc (Nat.le_refl _) _
theorem box2 {w : World} {o o2 : Obj} : Below w.heap.size w ((w.alloc o).alloc o2) := box1.alloc (by simp) _
theorem nextB {w w1 w2 : World} (h1 : Below w.heap.size w w1) (h2 : Below w1.heap.size w1 w2) : Below w.heap.size w w2 := h1.trans (h2.mono h1.size)

/-- a number between two others -/
def inB (n lo hi : Int) : Bool := decide (lo ≤ n ∧ n ≤ hi)
set_option maxHeartbeats 400000 in
theorem in_any (n lo hi : Int) (w : World) :
    Calls Try.prog 30 #[.int .i64 n, .int .i64 lo, .int .i64 hi] w fun e w' => e = .returned (.bool (inB n lo hi)) ∧ w = w' := by
  unfold inB
  by_cases h1 : lo ≤ n
  · go_enter Try.func30, Try.ntmps30
    go_wp2_with fail
    go_ret
    exact ⟨ret_bool (by simp [h1]), rfl⟩
  · go_enter Try.func30, Try.ntmps30
    go_wp2_with fail
    go_ret
    exact ⟨ret_bool (by simp; omega), rfl⟩

set_option maxHeartbeats 1000000 in
theorem mayRef_any (D L V S : Int) (w : World) :
    Calls Try.prog 10 #[.agg #[.int .i64 D, .int .i64 L, .int .i64 V, .int .i64 S]] w fun e w' => e = .returned (.bool (decide (mayG D L V S))) ∧ Below w.heap.size w w' := by
  have fin : ∀ b : Bool, (b = true ↔ mayG D L V S) → ∀ o : Obj, (Ending.returned (.bool b) = .returned (.bool (decide (mayG D L V S))) ∧ Below w.heap.size w (w.alloc o)) := fun b hb o =>
    ⟨ret_bool (by by_cases h : mayG D L V S <;> simp [h] <;> simp [h] at hb <;> exact hb), box1⟩
  unfold mayG at fin
  by_cases h1 : 8 ≤ D
  by_cases h2 : D ≤ 256
  by_cases h3 : 1 ≤ L
  by_cases h4 : L ≤ D - 6
  by_cases h5 : 0 ≤ V
  by_cases h6 : V ≤ 8
  by_cases h7 : 1 ≤ S
  by_cases h8 : S ≤ 256
  all_goals
    go_enter Try.func10, Try.ntmps10
    go_wp2_with fail
    go_ret
    exact fin _ (by simp; try omega) _

theorem mayB (D L V S : Int) : decide (mayG D L V S) = (inB D 8 256 && (inB L 1 (D - 6) && (inB V 0 8 && inB S 1 256))) := by
  have h : (inB D 8 256 && (inB L 1 (D - 6) && (inB V 0 8 && inB S 1 256))) = true ↔ mayG D L V S := by
    unfold mayG
    simp only [inB, Bool.and_eq_true, decide_eq_true_iff]
    omega
  rw [Bool.eq_iff_iff, decide_eq_true_iff, h]
set_option maxHeartbeats 1000000 in
theorem may_any (D L V S : Int) (w : World) :
    Calls Try.prog 19 #[.agg #[.int .i64 D, .int .i64 L, .int .i64 V, .int .i64 S]] w fun e w' => e = .returned (.bool (decide (mayG D L V S))) ∧ Below w.heap.size w w' := by
  rw [mayB]
  rcases h1 : inB D 8 256 with _ | _
  · go_enter Try.func19, Try.ntmps19
    go_wp2_with (go_at_call 30; refine (in_any _ _ _ _).mono ?_; rintro e w' ⟨rfl, rfl⟩)
    go_ret
    exact ⟨rfl, box1⟩
  have b1 : 8 ≤ D ∧ D ≤ 256 := by simpa [inB] using h1
  rcases h2 : inB L 1 (D - 6) with _ | _
  · go_enter Try.func19, Try.ntmps19
    go_wp2_with (go_at_call 30; refine (in_any _ _ _ _).mono ?_; rintro e w' ⟨rfl, rfl⟩)
    go_ret
    exact ⟨rfl, box1⟩
  rcases h3 : inB V 0 8 with _ | _
  · go_enter Try.func19, Try.ntmps19
    go_wp2_with (go_at_call 30; refine (in_any _ _ _ _).mono ?_; rintro e w' ⟨rfl, rfl⟩)
    go_ret
    exact ⟨rfl, box1⟩
  go_enter Try.func19, Try.ntmps19
  go_wp2_with (go_at_call 30; refine (in_any _ _ _ _).mono ?_; rintro e w' ⟨rfl, rfl⟩)
  go_ret
  exact ⟨rfl, box1⟩

end Go.Proofs.Ytfpclheplipjfaa
