import Derived.Test.YtalcgnjkhnmmiaaImapB
namespace Go.Proofs.Ytalcgnjkhnmmiaa
open Go.RowKit

set_option maxHeartbeats 2000000 in
theorem mayRef_any (m : List Slot) (h40 : m.length = 40) (w : World) :
    Calls Try.prog 22 #[.agg (mapC m)] w fun e w' => e = .returned (.bool (decide (mayM m))) ∧ Below w.heap.size w w' := by
  have H40 := hide h40
  obtain ⟨b, hb⟩ : ∃ b, b = decide (mayM m) := ⟨_, rfl⟩
  rw [← hb]
  replace hb := hide hb
  clear h40
  have B1 := hide (Blk.new w 28 (mapC m))
  have kb := hide (box1 (w := w) (o := .cells (mapC m) 28))
  go_enter Try.func22, Try.ntmps22
  go_wp2_with fail
  go_loopw [3] (fun i wr => ∃ k : Nat, k ≤ 40 ∧ i = .int .i64 (k : Int) ∧ (∀ j x, j < k → m[j]? = some x → rightS x) ∧ Blk wr w.heap.size 28 (mapC m) ∧ Below w.heap.size w wr) (fun i _ => 40 - (intOf i).toNat)
  case atStart => exact ⟨0, by omega, rfl, fun j x hj => absurd hj (by omega), B1.out, kb.out⟩
  case round =>
    clear B1 kb
    obtain ⟨k, hk, rfl, hr, B1, kb⟩ := hrel
    replace hr := hide hr; replace B1 := hide B1; replace kb := hide kb
    by_cases hlt : k < 40
    · obtain ⟨x, hx⟩ : ∃ x, m[k]? = some x := ⟨_, List.getElem?_eq_getElem (by rw [H40.out]; exact hlt)⟩
      obtain ⟨c0, c1, c2⟩ := map_blk_cells B1.out hx
      replace hx := hide hx
      have C := fun w => rightRef_any x.a x.s x.v w
      by_cases hR : rightS x
      · rw [show (⟨x.a, x.s, x.v⟩ : Slot) = x from rfl, decide_eq_true hR] at C
        replace C := hide C
        replace hR := hide hR
        go_wp2_with (go_at_call 35; refine (unhide C _).mono ?_; rintro e w1 ⟨rfl, hb1⟩)
        go_roundw
        case rel =>
          refine ⟨k + 1, by omega, by go_num, fun j y hj hy => ?_, B1.out.below hb1 B1.out.lt, nextB kb.out hb1⟩
          by_cases hjk : j = k
          · subst hjk
            have := hx.out
            rw [hy] at this
            injection this with this
            rw [this]; exact hR.out
          · exact hr.out j y (by omega) hy
        case measure => simp [intOf]; omega
      · rw [show (⟨x.a, x.s, x.v⟩ : Slot) = x from rfl, decide_eq_false hR] at C
        have hno : b = false := by
          rw [hb.out, decide_eq_false_iff_not]
          exact fun hm => hR (hm.1 x (List.mem_of_getElem? hx.out))
        subst hno
        replace C := hide C
        clear hR
        go_wp2_with (go_at_call 35; refine (unhide C _).mono ?_; rintro e w1 ⟨rfl, hb1⟩)
        go_ret
        exact ⟨rfl, nextB kb.out hb1⟩
    · obtain rfl : k = 40 := by omega
      obtain ⟨x, hx⟩ : ∃ x, m[0]? = some x := ⟨_, List.getElem?_eq_getElem (by rw [H40.out]; omega)⟩
      have hm := mayM_of H40.out (fun j x hj => hr.out j x hj)
      rw [hx] at hm
      obtain ⟨c0, c1, c2⟩ := map_blk_cells B1.out hx
      simp only [Nat.zero_mul, Nat.zero_add] at c0 c1 c2
      clear hlt hr hx
      by_cases h0 : x = slot0
      · have : b = true := by rw [hb.out, decide_eq_true_iff, hm, h0]
        subst this; subst h0
        clear hm
        simp only [slot0] at c0 c1 c2
        go_wp2_with fail
        go_ret
        exact ⟨rfl, kb.out⟩
      · have : b = false := by rw [hb.out, decide_eq_false_iff_not, hm]; exact fun h => h0 (by injection h)
        subst this
        clear hm
        have hn := slot_ne h0
        clear h0
        obtain ⟨xa, xs, xv⟩ := x
        simp only at hn c0 c1 c2
        have hn2 : ((xa == 0) = false) ∨ (xa = 0 ∧ ((xs : Int) == 0) = false) ∨ (xa = 0 ∧ xs = 0 ∧ (xv == 0) = false) := by
          rcases hn with h | ⟨h, h2⟩ | ⟨h, h2, h3⟩
          · exact .inl (by simpa using h)
          · exact .inr (.inl ⟨h, by simp; omega⟩)
          · exact .inr (.inr ⟨h, h2, by simpa using h3⟩)
        clear hn
        rcases hn2 with h | ⟨rfl, h⟩ | ⟨rfl, rfl, h⟩
        all_goals
          go_wp2_with fail
          go_ret
          exact ⟨rfl, kb.out⟩

set_option maxHeartbeats 1000000 in
theorem number_any (n : Int) (w : World) : Calls Try.prog 38 #[.int .i64 n] w fun e w' => e = .returned (.bool (decide (1 ≤ n ∧ n ≤ 39))) ∧ w = w' := by
  have hc : n < 1 ∨ (¬ n < 1 ∧ 39 < n) ∨ (¬ n < 1 ∧ ¬ 39 < n) := by omega
  rcases hc with h1 | ⟨h1, h2⟩ | ⟨h1, h2⟩
  all_goals
    go_enter Try.func38, Try.ntmps38
    go_wp2_with fail
    go_ret
    exact ⟨ret_bool (by simp <;> omega), rfl⟩
set_option maxHeartbeats 1000000 in
theorem wrong_any (m : List Slot) (i : Int) (h40 : m.length = 40) (w : World) :
    Calls Try.prog 24 #[.agg (mapC m), .int .i64 i] w fun e w' => e = .returned (.int .i64 (wrongM m i)) ∧ Below w.heap.size w w' := by
  have H40 := hide h40
  have C := fun w => may_any m h40 w
  have N := fun w => number_any i w
  have B1 := hide (Blk.new w 28 (mapC m))
  unfold wrongM
  clear h40
  by_cases h : mayM m
  · rw [decide_eq_true h] at C
    rw [if_neg (by simp [h])]
    by_cases hi : i < 1 ∨ 39 < i
    · rw [if_pos hi]
      rw [decide_eq_false (by omega)] at N
      replace C := hide C; replace N := hide N
      clear h hi
      go_enter Try.func24, Try.ntmps24
      go_wp2_with (first
        | (refine wpList_load_row rfl _ _ rfl w.heap.size rfl _ (mapC m) _ _ B1.out Try.arrMap rfl (by rw [mapC_size H40.out]; exact Try.sizeMap) ?_)
        | (go_at_call 18; refine (unhide C _).mono ?_; rintro e w1 ⟨rfl, hb1⟩)
        | (go_at_call 38; refine (unhide N _).mono ?_; rintro e w2 ⟨rfl, rfl⟩))
      go_ret
      exact ⟨rfl, nextB box1 hb1⟩
    · rw [if_neg hi]
      rw [decide_eq_true (by omega)] at N
      replace C := hide C; replace N := hide N
      clear h hi
      go_enter Try.func24, Try.ntmps24
      go_wp2_with (first
        | (refine wpList_load_row rfl _ _ rfl w.heap.size rfl _ (mapC m) _ _ B1.out Try.arrMap rfl (by rw [mapC_size H40.out]; exact Try.sizeMap) ?_)
        | (go_at_call 18; refine (unhide C _).mono ?_; rintro e w1 ⟨rfl, hb1⟩)
        | (go_at_call 38; refine (unhide N _).mono ?_; rintro e w2 ⟨rfl, rfl⟩))
      go_ret
      exact ⟨rfl, nextB box1 hb1⟩
  · rw [decide_eq_false h] at C
    rw [if_pos h]
    replace C := hide C; replace N := hide N
    clear h
    go_enter Try.func24, Try.ntmps24
    go_wp2_with (first
      | (refine wpList_load_row rfl _ _ rfl w.heap.size rfl _ (mapC m) _ _ B1.out Try.arrMap rfl (by rw [mapC_size H40.out]; exact Try.sizeMap) ?_)
      | (go_at_call 18; refine (unhide C _).mono ?_; rintro e w1 ⟨rfl, hb1⟩))
    go_ret
    exact ⟨rfl, nextB box1 hb1⟩
set_option maxHeartbeats 1000000 in
theorem wrongRef_any (m : List Slot) (i : Int) (h40 : m.length = 40) (w : World) :
    Calls Try.prog 26 #[.agg (mapC m), .int .i64 i] w fun e w' => e = .returned (.int .i64 (wrongM m i)) ∧ Below w.heap.size w w' := by
  have H40 := hide h40
  have C := fun w => mayRef_any m h40 w
  have B1 := hide (Blk.new w 28 (mapC m))
  unfold wrongM
  clear h40
  by_cases h : mayM m
  · rw [decide_eq_true h] at C
    rw [if_neg (by simp [h])]
    replace C := hide C
    clear h
    have hc : i < 1 ∨ (¬ i < 1 ∧ 39 < i) ∨ (¬ i < 1 ∧ ¬ 39 < i) := by omega
    rcases hc with h1 | ⟨h1, h2⟩ | ⟨h1, h2⟩
    all_goals
      first | rw [if_pos (by omega)] | rw [if_neg (by omega)]
      go_enter Try.func26, Try.ntmps26
      go_wp2_with (first
        | (refine wpList_load_row rfl _ _ rfl w.heap.size rfl _ (mapC m) _ _ B1.out Try.arrMap rfl (by rw [mapC_size H40.out]; exact Try.sizeMap) ?_)
        | (go_at_call 22; refine (unhide C _).mono ?_; rintro e w1 ⟨rfl, hb1⟩))
      go_ret
      exact ⟨rfl, nextB box1 hb1⟩
  · rw [decide_eq_false h] at C
    rw [if_pos h]
    replace C := hide C
    clear h
    go_enter Try.func26, Try.ntmps26
    go_wp2_with (first
      | (refine wpList_load_row rfl _ _ rfl w.heap.size rfl _ (mapC m) _ _ B1.out Try.arrMap rfl (by rw [mapC_size H40.out]; exact Try.sizeMap) ?_)
      | (go_at_call 22; refine (unhide C _).mono ?_; rintro e w1 ⟨rfl, hb1⟩))
    go_ret
    exact ⟨rfl, nextB box1 hb1⟩
end Go.Proofs.Ytalcgnjkhnmmiaa
