import Derived.Test.YtalcgnjkhnmmiaaWalkImapRules
namespace Go.Proofs.Ytalcgnjkhnmmiaa
open Go.RowKit

/-- the inodes that are there, below k -/
def thereL (m : List Slot) (k : Nat) : List Int := ((List.range k).filter fun j => decide (0 < (slotAt m j).a)).map fun (j : Nat) => (j : Int)
def thereM (m : List Slot) : List Int := if mayM m then thereL m 40 else []
theorem thereL_succ (m : List Slot) (k : Nat) : thereL m (k + 1) = thereL m k ++ (if 0 < (slotAt m k).a then [(k : Int)] else []) := by
  unfold thereL
  rw [List.range_succ, List.filter_append, List.map_append]
  congr 1
  by_cases h : 0 < (slotAt m k).a <;> simp [h]
theorem thereL_le (m : List Slot) (k : Nat) : (thereL m k).length ≤ k := by
  unfold thereL
  rw [List.length_map]
  have := List.length_filter_le (fun j => decide (0 < (slotAt m j).a)) (List.range k)
  simpa using this
set_option maxRecDepth 100000 in
set_option maxHeartbeats 2000000 in
theorem there_any (m : List Slot) (h40 : m.length = 40) (w : World) :
    Calls Try.prog 17 #[.agg (mapC m)] w (MadeI w (thereM m)) := by
  have C := fun w => may_any m h40 w
  have H40 := hide h40
  have Z40 := hide (mapC_size h40)
  have hIdx := hide (fun (i : Nat) (x : Slot) (hi : i < 40) (hx : m[i]? = some x) => map_index hi hx)
  have B0 := hide (Blk.new w 28 (mapC m))
  unfold thereM
  clear h40
  by_cases h : mayM m
  · rw [if_pos h]
    rw [decide_eq_true h] at C
    replace C := hide C
    clear h
    go_enter Try.func17, Try.ntmps17
    go_wp2_with (first
      | ((with_reducible refine load_map (.tmp 1) rfl ?_ w.heap.size m ?_ ?_ Z40.out ?_); (next => rfl); (next => rfl); (next => exact B0.out))
      | ((with_reducible refine load_map (.tmp 1) rfl ?_ w.heap.size m ?_ ?_ Z40.out ?_); (next => rfl); (next => rfl); (next => exact B1.out))
      | (go_at_call 18; (with_reducible refine (unhide C _).mono ?_); rintro e w1 ⟨rfl, hb1⟩; have B1 := hide (blk1G hb1); have hb := hide (nextB box1 hb1); clear hb1))
    go_loopw [3, 10] (fun l i wr => ∃ (k : Nat) (A : Option Addr) (c : Nat), k ≤ 40 ∧ i = .int .i64 (k : Int) ∧ l = .slice A (thereL m k).length c ∧ wr.ownsRow w1.heap.size 3 1 (.slice A (thereL m k).length c) (thereL m k).length ((thereL m k).map i64v) ∧ Below w1.heap.size w1 wr) (fun _ i _ => 40 - (intOf i).toNat)
    case atStart => exact ⟨0, none, 0, by omega, rfl, rfl, World.ownsRow_nil _ _ _ _, Below.refl _ _⟩
    case round =>
      obtain ⟨k, A, c, hk, rfl, rfl, ho, hb2⟩ := hrel
      replace ho := hide ho
      have hle := thereL_le m k
      have hs := thereL_succ m k
      by_cases hlt : k < 40
      · obtain ⟨x, hx⟩ : ∃ x, m[k]? = some x := ⟨_, List.getElem?_eq_getElem (by rw [H40.out]; exact hlt)⟩
        have hi := hIdx.out k x hlt hx
        rw [slotAt_get hx] at hs
        clear hx
        have hsz := hb2.size
        by_cases hp : 0 < x.a
        · rw [if_pos hp] at hs
          replace hs := hide hs
          go_wp2_with (at_builtin; refine wpList_app rfl _ _ rfl Try.el_int w1.heap.size _ _ _ _ rfl ((ho.out.alloc _).alloc _) _ _ _ [.int .i64 (k : Int)] rfl (Blk.new_ _ _ #[.int .i64 (k : Int)] _ (by simp)).rd rfl (fun u hu => by simp at hu; subst hu; rfl) (by unfold maxLen; omega) (by omega) (by simp; omega) ?_; intro A6 c6 w6 ho1 hc1 hg1)
          have hb6 := hide (own_below (ho.out.alloc (.cells #[.int .i64 x.a, .int .u32 (x.s : Int), .int .i64 x.v] 26)) (hb2.alloc hsz (.cells #[.int .i64 x.a, .int .u32 (x.s : Int), .int .i64 x.v] 26)) (Nat.le_refl _) (by simp; omega) hg1)
          replace ho1 := hide ho1
          clear hg1
          go_roundw
          case rel =>
            refine ⟨k + 1, A6, c6, by omega, by go_num, by rw [hs.out, List.length_append]; rfl, ?_, hb6.out⟩
            rw [hs.out, List.length_append, List.map_append]
            exact ho1.out
          case measure => simp [intOf]; omega
        · rw [if_neg hp, List.append_nil] at hs
          replace hs := hide hs
          go_wp2_with fail
          go_roundw
          case rel => exact ⟨k + 1, A, c, by omega, by go_num, by rw [hs.out], by rw [hs.out]; exact ho.out.alloc _, hb2.alloc hsz _⟩
          case measure => simp [intOf]; omega
      · obtain rfl : k = 40 := by omega
        have hcap := own_cap ho.out
        have hbb := hide (nextB hb.out hb2)
        clear hs
        go_wp2_with fail
        go_ret
        exact ⟨A, c, rfl, Rd.of_own ho.out, hcap, hbb.out⟩
  · rw [if_neg h]
    rw [decide_eq_false h] at C
    replace C := hide C
    clear h
    go_enter Try.func17, Try.ntmps17
    go_wp2_with (first
      | ((with_reducible refine load_map (.tmp 1) rfl ?_ w.heap.size m ?_ ?_ Z40.out ?_); (next => rfl); (next => rfl); (next => exact B0.out))
      | (go_at_call 18; (with_reducible refine (unhide C _).mono ?_); rintro e w1 ⟨rfl, hb1⟩; have hb := hide (nextB box1 hb1)))
    go_ret
    exact ⟨none, 0, rfl, Rd.nil _ _, by simp, hb.out⟩
end Go.Proofs.Ytalcgnjkhnmmiaa
