import Derived.Test.YtalcgnjkhnmmiaaImapF
namespace Go.Proofs.Ytalcgnjkhnmmiaa
open Go.RowKit

theorem freeM_some {m : List Slot} {k : Nat} (hm : mayM m) (h1 : 1 ≤ k) (h40 : k < 40) (ha : (slotAt m k).a = 0) (hn : ∀ j, 1 ≤ j → j < k → (slotAt m j).a ≠ 0) : freeM m = ((k : Int), 0) := by
  unfold freeM
  rw [if_neg (by simp [hm])]
  have : (List.range 40).find? (fun i => decide (1 ≤ i) && decide ((slotAt m i).a = 0)) = some k := by
    rw [List.find?_range_eq_some]
    refine ⟨by simp [h1, ha], by simpa using h40, fun j hj => ?_⟩
    by_cases hj1 : 1 ≤ j
    · simp [hn j hj1 hj]
    · simp [hj1]
  rw [this]
theorem freeM_none {m : List Slot} (hm : mayM m) (hn : ∀ j, 1 ≤ j → j < 40 → (slotAt m j).a ≠ 0) : freeM m = (0, 8) := by
  unfold freeM
  rw [if_neg (by simp [hm])]
  have : (List.range 40).find? (fun i => decide (1 ≤ i) && decide ((slotAt m i).a = 0)) = none := by
    rw [List.find?_range_eq_none]
    intro j hj
    by_cases hj1 : 1 ≤ j
    · simp [hn j hj1 hj]
    · simp [hj1]
  rw [this]
theorem may_pos {m : List Slot} (h40 : m.length = 40) (hm : mayM m) {j : Nat} (hj : j < 40) : 0 ≤ (slotAt m j).a := by
  have hx := List.getElem?_eq_getElem (l := m) (i := j) (by omega)
  rw [slotAt_get hx]
  exact (hm.1 _ (List.getElem_mem _)).1.1
set_option maxRecDepth 100000 in
set_option maxHeartbeats 2000000 in
theorem free_any (m : List Slot) (h40 : m.length = 40) (w : World) :
    Calls Try.prog 7 #[.agg (mapC m)] w fun e w' => e = .returned (.tuple #[.int .i64 (freeM m).1, .int .i64 (freeM m).2]) ∧ Below w.heap.size w w' := by
  have H40 := hide h40
  have C := fun w => may_any m h40 w
  have B0 := hide (Blk.new w 28 (mapC m))
  by_cases h : mayM m
  · rw [decide_eq_true h] at C
    replace C := hide C
    have Hm := hide h
    clear h h40
    go_enter Try.func7, Try.ntmps7
    go_wp2_with (first
      | (refine wpList_load_row rfl _ _ rfl w.heap.size rfl _ (mapC m) _ _ B0.out Try.arrMap rfl (by rw [mapC_size H40.out]; exact Try.sizeMap) ?_)
      | (go_at_call 18; refine (unhide C _).mono ?_; rintro e w1 ⟨rfl, hb1⟩; have B1 := hide (blk1G hb1); have hb := hide (nextB box1 hb1); clear hb1))
    go_loop [4] (fun i => ∃ k : Nat, 1 ≤ k ∧ k ≤ 40 ∧ i = .int .i64 (k : Int) ∧ (∀ j, 1 ≤ j → j < k → (slotAt m j).a ≠ 0)) (fun i => 40 - (intOf i).toNat)
    case atStart => exact ⟨1, by omega, by omega, rfl, fun j h1 h2 => by omega⟩
    case round =>
      obtain ⟨k, hk1, hk, rfl, hn⟩ := hrel
      replace hn := hide hn
      by_cases hlt : k < 40
      · obtain ⟨x, hx⟩ : ∃ x, m[k]? = some x := ⟨_, List.getElem?_eq_getElem (by rw [H40.out]; exact hlt)⟩
        obtain ⟨c0, _, _⟩ := map_blk_cells B1.out hx
        by_cases ha : x.a = 0
        · have fr := hide (freeM_some Hm.out hk1 hlt (by rw [slotAt_get hx]; exact ha) hn.out)
          rw [ha] at c0
          clear ha hx
          go_wp2_with fail
          go_ret2
          rw [fr.out]
          exact ⟨rfl, hb.out⟩
        · have ha2 : (x.a == 0) = false := by simpa using ha
          replace ha := hide ha; replace hx := hide hx
          go_wp2_with fail
          go_round
          case rel =>
            refine ⟨k + 1, by omega, by omega, by go_num, fun j h1 h2 => ?_⟩
            by_cases hjk : j = k
            · subst hjk; rw [slotAt_get hx.out]; exact ha.out
            · exact hn.out j h1 (by omega)
          case measure => simp [intOf]; omega
      · obtain rfl : k = 40 := by omega
        have fr := hide (freeM_none Hm.out hn.out)
        go_wp2_with fail
        go_ret2
        rw [fr.out]
        exact ⟨rfl, hb.out⟩
  · rw [decide_eq_false h] at C
    have : freeM m = (0, 1) := by unfold freeM; rw [if_pos h]
    rw [this]
    clear this
    replace C := hide C
    clear h h40
    go_enter Try.func7, Try.ntmps7
    go_wp2_with (first
      | (refine wpList_load_row rfl _ _ rfl w.heap.size rfl _ (mapC m) _ _ B0.out Try.arrMap rfl (by rw [mapC_size H40.out]; exact Try.sizeMap) ?_)
      | (go_at_call 18; refine (unhide C _).mono ?_; rintro e w1 ⟨rfl, hb1⟩))
    go_ret2
    exact ⟨rfl, nextB box1 hb1⟩
/-- is i free, and all ahead of it, from 1 on, below k, taken -/
def leastB (m : List Slot) (i k : Nat) : Bool := decide ((slotAt m i).a = 0 ∧ ∀ j, j < k → 1 ≤ j → 0 < (slotAt m j).a)
theorem leastB_one (m : List Slot) (i : Nat) : leastB m i 1 = decide ((slotAt m i).a = 0) := by
  unfold leastB
  rw [Bool.eq_iff_iff, decide_eq_true_iff, decide_eq_true_iff]
  exact ⟨fun h => h.1, fun h => ⟨h, fun j h1 h2 => by omega⟩⟩
theorem leastB_succ (m : List Slot) (i k : Nat) (hk : 1 ≤ k) : leastB m i (k + 1) = (leastB m i k && decide (0 < (slotAt m k).a)) := by
  unfold leastB
  rw [Bool.eq_iff_iff, Bool.and_eq_true, decide_eq_true_iff, decide_eq_true_iff, decide_eq_true_iff]
  constructor
  · exact fun h => ⟨⟨h.1, fun j h1 h2 => h.2 j (by omega) h2⟩, h.2 k (by omega) hk⟩
  · rintro ⟨⟨h1, h2⟩, h3⟩
    refine ⟨h1, fun j h4 h5 => ?_⟩
    by_cases hjk : j = k
    · subst hjk; exact h3
    · exact h2 j (by omega) h5
theorem least_free {m : List Slot} (h40 : m.length = 40) (hm : mayM m) {i : Nat} (h1 : 1 ≤ i) (hi : i < 40) (h : leastB m i i = true) : freeM m = ((i : Int), 0) := by
  unfold leastB at h
  rw [decide_eq_true_iff] at h
  exact freeM_some hm h1 hi h.1 (fun j h2 h3 => by have := h.2 j h3 h2; omega)
theorem no_least {m : List Slot} (h40 : m.length = 40) (hm : mayM m) (h : ∀ i, 1 ≤ i → i < 40 → leastB m i i = false) : freeM m = (0, 8) := by
  refine freeM_none hm fun j => ?_
  induction j using Nat.strongRecOn with
  | _ j ih =>
    intro h1 h2 ha
    have := h j h1 h2
    unfold leastB at this
    rw [decide_eq_false_iff_not] at this
    refine this ⟨ha, fun l h3 h4 => ?_⟩
    have h5 := ih l h3 h4 (by omega)
    have h6 := may_pos h40 hm (j := l) (by omega)
    omega
set_option maxRecDepth 100000 in
set_option maxHeartbeats 4000000 in
theorem freeRef_any (m : List Slot) (h40 : m.length = 40) (w : World) :
    Calls Try.prog 8 #[.agg (mapC m)] w fun e w' => e = .returned (.tuple #[.int .i64 (freeM m).1, .int .i64 (freeM m).2]) ∧ Below w.heap.size w w' := by
  have H40 := hide h40
  have C := fun w => mayRef_any m h40 w
  have B0 := hide (Blk.new w 28 (mapC m))
  by_cases h : mayM m
  · rw [decide_eq_true h] at C
    replace C := hide C
    have Hm := hide h
    clear h h40
    go_enter Try.func8, Try.ntmps8
    go_wp2_with (first
      | (refine wpList_load_row rfl _ _ rfl w.heap.size rfl _ (mapC m) _ _ B0.out Try.arrMap rfl (by rw [mapC_size H40.out]; exact Try.sizeMap) ?_)
      | (go_at_call 22; refine (unhide C _).mono ?_; rintro e w1 ⟨rfl, hb1⟩; have B1 := hide (blk1G hb1); have hb := hide (nextB box1 hb1); clear hb1))
    go_loop [4] (fun i => ∃ k : Nat, k < 40 ∧ i = .int .i64 (k : Int) ∧ (∀ j, k < j → j < 40 → leastB m j j = false)) (fun i => (intOf i).toNat)
    case atStart => exact ⟨39, by omega, rfl, fun j h1 h2 => by omega⟩
    case round =>
      obtain ⟨k, hk, rfl, hn⟩ := hrel
      replace hn := hide hn
      by_cases hlt : 0 < k
      · obtain ⟨x, hx⟩ : ∃ x, m[k]? = some x := ⟨_, List.getElem?_eq_getElem (by rw [H40.out]; exact hk)⟩
        obtain ⟨c0, _, _⟩ := map_blk_cells B1.out hx
        have hone := leastB_one m k
        rw [slotAt_get hx] at hone
        replace hone := hide hone
        clear hx
        go_wp2_with fail
        clear c0
        go_loop [5, 6] (fun l i => ∃ j : Nat, 1 ≤ j ∧ j ≤ k ∧ i = .int .i64 (j : Int) ∧ l = .bool (leastB m k j)) (fun _ i => k - (intOf i).toNat)
        case atStart => exact ⟨1, by omega, by omega, rfl, by rw [hone.out]; rfl⟩
        case round =>
          obtain ⟨j, hj1, hj, rfl, rfl⟩ := hrel
          by_cases hlj : j < k
          · obtain ⟨y, hy⟩ : ∃ y, m[j]? = some y := ⟨_, List.getElem?_eq_getElem (by rw [H40.out]; omega)⟩
            obtain ⟨c0, _, _⟩ := map_blk_cells B1.out hy
            have hs := leastB_succ m k j hj1
            rw [slotAt_get hy] at hs
            replace hs := hide hs
            clear hy
            rcases hb0 : leastB m k j with _ | _
            · rw [hb0] at hs
              clear hb0
              go_wp2_with fail
              go_round
              case rel => exact ⟨j + 1, by omega, by omega, by go_num, by rw [hs.out]; rfl⟩
              case measure => simp [intOf]; omega
            · rw [hb0] at hs
              clear hb0
              go_wp2_with fail
              go_round
              case rel => exact ⟨j + 1, by omega, by omega, by go_num, by rw [hs.out]; rfl⟩
              case measure => simp [intOf]; omega
          · obtain rfl : j = k := by omega
            rcases hb0 : leastB m j j with _ | _
            · replace hb0 := hide hb0
              go_wp2_with fail
              go_round
              case rel =>
                refine ⟨j - 1, by omega, by simp; omega, fun l h1 h2 => ?_⟩
                by_cases hlj2 : l = j
                · subst hlj2; exact hb0.out
                · exact hn.out l (by omega) h2
              case measure => simp [intOf]; omega
            · have fr := hide (least_free H40.out Hm.out hlt hk hb0)
              clear hb0
              go_wp2_with fail
              go_ret2
              rw [fr.out]
              exact ⟨rfl, hb.out⟩
      · obtain rfl : k = 0 := by omega
        have fr := hide (no_least H40.out Hm.out (fun i h1 h2 => hn.out i h1 h2))
        go_wp2_with fail
        go_ret2
        rw [fr.out]
        exact ⟨rfl, hb.out⟩
  · rw [decide_eq_false h] at C
    have : freeM m = (0, 1) := by unfold freeM; rw [if_pos h]
    rw [this]
    clear this
    replace C := hide C
    clear h h40
    go_enter Try.func8, Try.ntmps8
    go_wp2_with (first
      | (refine wpList_load_row rfl _ _ rfl w.heap.size rfl _ (mapC m) _ _ B0.out Try.arrMap rfl (by rw [mapC_size H40.out]; exact Try.sizeMap) ?_)
      | (go_at_call 22; refine (unhide C _).mono ?_; rintro e w1 ⟨rfl, hb1⟩))
    go_ret2
    exact ⟨rfl, nextB box1 hb1⟩
end Go.Proofs.Ytalcgnjkhnmmiaa
