import Derived.Test.YtalcgnjkhnmmiaaRows
import Derived.Test.YtalcgnjkhnmmiaaArr
import Derived.Test.YtalcgnjkhnmmiaaPlainI
namespace Go.Proofs.Ytalcgnjkhnmmiaa
open Go.RowKit

theorem box1 {w : World} {o : Obj} : Below w.heap.size w (w.alloc o) := (Below.refl _ _).alloc (Nat.le_refl _) _
theorem nextB {w w1 w2 : World} (h1 : Below w.heap.size w w1) (h2 : Below w1.heap.size w1 w2) : Below w.heap.size w w2 := h1.trans (h2.mono h1.size)
theorem blk1G {w w1 : World} {t : TypeId} {cs : Array Value} (h : Below (w.alloc (.cells cs t)).heap.size (w.alloc (.cells cs t)) w1) : Blk w1 w.heap.size t cs :=
  (Blk.new w _ _).below h (by simp)
/-- a slot's cells -/
def slotC (x : Slot) : List Value := [.int .i64 x.a, .int .u32 (x.s : Int), .int .i64 x.v]
theorem slotC_len (x : Slot) : (slotC x).length = 3 := rfl
theorem slotC_one (x : Slot) : ∀ u ∈ slotC x, u.oneCell' = true := by intro u hu; simp [slotC] at hu; rcases hu with rfl | rfl | rfl <;> rfl
/-- a map's cells -/
def mapC (m : List Slot) : Array Value := (m.flatMap slotC).toArray
theorem mapC_size {m : List Slot} (h : m.length = 40) : (mapC m).size = 120 := by simp [mapC, flat_length slotC_len, h]
theorem mapC_one (m : List Slot) : (mapC m).all (·.oneCell') = true := flat_one slotC_one
theorem Try.wideSlot : Wide Try.prog 26 3 := ⟨by kernel_rfl, by kernel_rfl⟩
theorem Try.sizeMap : (Try.prog.info? 28).map (·.size) = some 120 := by kernel_rfl
theorem Try.arrMap : Try.prog.underlying 28 = some (.array 40 26) := by kernel_rfl
theorem map_index {m : List Slot} {i : Nat} {x : Slot} (hi : i < 40) (hx : m[i]? = some x) (w : World) :
    (Instr.index 28 (.agg (mapC m)) (.int .i64 (i : Int))).run Try.prog w = .ok (.agg #[.int .i64 x.a, .int .u32 (x.s : Int), .int .i64 x.v]) w :=
  run_index_flat Try.arrMap Try.wideSlot slotC_len .i64 i hi hx w

set_option maxHeartbeats 1000000 in
theorem right_any (a : Int) (s : Nat) (v : Int) (w : World) :
    Calls Try.prog 25 #[.agg #[.int .i64 a, .int .u32 (s : Int), .int .i64 v]] w fun e w' => e = .returned (.bool (decide (rightS ⟨a, s, v⟩))) ∧ Below w.heap.size w w' := by
  have fin : ∀ b : Bool, (b = true ↔ rightS ⟨a, s, v⟩) → ∀ o : Obj, (Ending.returned (.bool b) = .returned (.bool (decide (rightS ⟨a, s, v⟩))) ∧ Below w.heap.size w (w.alloc o)) := fun b hb o =>
    ⟨ret_bool (by by_cases h : rightS ⟨a, s, v⟩ <;> simp [h] <;> simp [h] at hb <;> exact hb), box1⟩
  unfold rightS ptrR at fin
  have hc : ¬ 0 ≤ a ∨ (0 ≤ a ∧ ¬ a ≤ 2147483647) ∨ (0 ≤ a ∧ a ≤ 2147483647 ∧ ¬ 0 < a ∧ ¬ (s : Int) = 0) ∨ (0 ≤ a ∧ a ≤ 2147483647 ∧ ¬ 0 < a ∧ (s : Int) = 0 ∧ ¬ 0 ≤ v) ∨ (0 ≤ a ∧ a ≤ 2147483647 ∧ ¬ 0 < a ∧ (s : Int) = 0 ∧ 0 ≤ v ∧ ¬ v ≤ 2147483647) ∨ (0 ≤ a ∧ a ≤ 2147483647 ∧ ¬ 0 < a ∧ (s : Int) = 0 ∧ 0 ≤ v ∧ v ≤ 2147483647) ∨
      (0 ≤ a ∧ a ≤ 2147483647 ∧ 0 < a ∧ ¬ 0 ≤ v) ∨ (0 ≤ a ∧ a ≤ 2147483647 ∧ 0 < a ∧ 0 ≤ v ∧ ¬ v ≤ 2147483647) ∨ (0 ≤ a ∧ a ≤ 2147483647 ∧ 0 < a ∧ 0 ≤ v ∧ v ≤ 2147483647) := by omega
  rcases hc with h1 | ⟨h1, h2⟩ | ⟨h1, h2, h3, h4⟩ | ⟨h1, h2, h3, h4, h5⟩ | ⟨h1, h2, h3, h4, h5, h6⟩ | ⟨h1, h2, h3, h4, h5, h6⟩ | ⟨h1, h2, h3, h5⟩ | ⟨h1, h2, h3, h5, h6⟩ | ⟨h1, h2, h3, h5, h6⟩
  all_goals
    go_enter Try.func25, Try.ntmps25
    go_wp2_with fail
    go_ret
    exact fin _ (by constructor <;> intro h <;> first | (cases h; done) | (simp at h <;> omega) | omega | (simp <;> omega) | rfl) _

set_option maxHeartbeats 1000000 in
theorem pointerRef_any (a : Int) (s : Nat) (w : World) :
    Calls Try.prog 27 #[.agg #[.int .i64 a, .int .u32 (s : Int)]] w fun e w' => e = .returned (.bool (decide (ptrR a s))) ∧ Below w.heap.size w w' := by
  have fin : ∀ b : Bool, (b = true ↔ ptrR a s) → ∀ o : Obj, (Ending.returned (.bool b) = .returned (.bool (decide (ptrR a s))) ∧ Below w.heap.size w (w.alloc o)) := fun b hb o =>
    ⟨ret_bool (by by_cases h : ptrR a s <;> simp [h] <;> simp [h] at hb <;> exact hb), box1⟩
  unfold ptrR at fin
  have hc : ¬ 0 ≤ a ∨ (0 ≤ a ∧ ¬ a ≤ 2147483647) ∨ (0 ≤ a ∧ a ≤ 2147483647 ∧ ¬ 0 < a ∧ ¬ (s : Int) = 0) ∨ (0 ≤ a ∧ a ≤ 2147483647 ∧ ¬ 0 < a ∧ (s : Int) = 0) ∨ (0 ≤ a ∧ a ≤ 2147483647 ∧ 0 < a) := by omega
  rcases hc with h1 | ⟨h1, h2⟩ | ⟨h1, h2, h3, h4⟩ | ⟨h1, h2, h3, h4⟩ | ⟨h1, h2, h3⟩
  all_goals
    go_enter Try.func27, Try.ntmps27
    go_wp2_with fail
    go_ret
    exact fin _ (by constructor <;> intro h <;> first | (cases h; done) | (simp at h <;> omega) | omega | (simp <;> omega) | rfl) _
set_option maxHeartbeats 1000000 in
theorem rightRef_any (a : Int) (s : Nat) (v : Int) (w : World) :
    Calls Try.prog 35 #[.agg #[.int .i64 a, .int .u32 (s : Int), .int .i64 v]] w fun e w' => e = .returned (.bool (decide (rightS ⟨a, s, v⟩))) ∧ Below w.heap.size w w' := by
  have fin : ∀ b : Bool, (b = true ↔ rightS ⟨a, s, v⟩) → ∀ w', Below w.heap.size w w' → (Ending.returned (.bool b) = .returned (.bool (decide (rightS ⟨a, s, v⟩))) ∧ Below w.heap.size w w') := fun b hb w' hw =>
    ⟨ret_bool (by by_cases h : rightS ⟨a, s, v⟩ <;> simp [h] <;> simp [h] at hb <;> exact hb), hw⟩
  unfold rightS at fin
  simp only at fin
  have C := fun w => pointerRef_any a s w
  rcases hb : decide (ptrR a s) with _ | _
  · rw [hb] at C
    have hp : ¬ ptrR a s := by simpa using hb
    replace C := hide C; replace hp := hide hp
    clear hb
    go_enter Try.func35, Try.ntmps35
    go_wp2_with (go_at_call 27; refine (unhide C _).mono ?_; rintro e w1 ⟨rfl, hb1⟩)
    go_ret
    exact fin _ (by constructor <;> intro h <;> first | (cases h; done) | exact absurd h.1 hp.out) _ (nextB box1 hb1)
  · rw [hb] at C
    have hp : ptrR a s := by simpa using hb
    replace C := hide C; replace hp := hide hp
    clear hb
    have hc : ¬ 0 ≤ v ∨ (0 ≤ v ∧ ¬ v ≤ 2147483647) ∨ (0 ≤ v ∧ v ≤ 2147483647) := by omega
    rcases hc with h1 | ⟨h1, h2⟩ | ⟨h1, h2⟩
    all_goals
      go_enter Try.func35, Try.ntmps35
      go_wp2_with (go_at_call 27; refine (unhide C _).mono ?_; rintro e w1 ⟨rfl, hb1⟩; have B1 := hide (blk1G hb1); have c2 := B1.out.cell_ 2 _ rfl)
      go_ret
      exact fin _ (by constructor <;> intro h <;> first | (cases h; done) | (exact ⟨hp.out, by simp at h <;> omega, by simp at h <;> omega⟩) | (have := h.2; simp <;> omega) | rfl) _ (nextB box1 hb1)
end Go.Proofs.Ytalcgnjkhnmmiaa
