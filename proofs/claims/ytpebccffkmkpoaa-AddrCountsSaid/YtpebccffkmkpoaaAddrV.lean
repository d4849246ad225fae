import Derived.Test.YtpebccffkmkpoaaAddrS
namespace Go.Proofs.Ytpebccffkmkpoaa
open Go.RowKit

theorem whereG_small {D L V S a : Int} (h : mayG D L V S) : -1 ≤ (whereG D L V S a).1.1 ∧ (whereG D L V S a).1.1 ≤ 4000 ∧ 0 ≤ (whereG D L V S a).1.2.1 ∧ (whereG D L V S a).1.2.1 ≤ 4000 := by
  have hb := segsG_bound D L V S
  unfold whereG
  by_cases ha : a < 1 ∨ segsG D L V S * 16 < a
  · rw [if_pos ha]; simp
  · rw [if_neg ha]
    unfold mayG at h
    simp only
    unfold volG
    by_cases hn : D ≤ (a - 1) / 16
    · rw [if_pos hn]
      simp only
      have d0 := Int.ediv_nonneg (show 0 ≤ (a - 1) / 16 - D by omega) (show 0 ≤ S by omega)
      have d1 := Int.ediv_le_self S (show 0 ≤ (a - 1) / 16 - D by omega)
      have e0 := Int.emod_nonneg ((a - 1) / 16 - D) (show S ≠ 0 by omega)
      have e1 := Int.emod_lt_of_pos ((a - 1) / 16 - D) (show 0 < S by omega)
      omega
    · rw [if_neg hn]
      simp only
      omega
/-- the place tells the tier -/
theorem tier_where {D L V S a : Int} (h : mayG D L V S) : tierG D L V S a = (if (whereG D L V S a).2 = false then -1 else if 0 ≤ (whereG D L V S a).1.1 then 2 else if D - L ≤ (whereG D L V S a).1.2.1 then 1 else 0) := by
  unfold tierG whereG segG
  rw [if_neg (show ¬ ¬ mayG D L V S by simp [h])]
  by_cases ha : a < 1 ∨ segsG D L V S * 16 < a
  · rw [if_pos ha, if_pos ha]; simp
  · rw [if_neg ha, if_neg ha]
    unfold mayG at h
    unfold volG
    simp only [Bool.true_eq_false, if_false, ne_eq, not_true_eq_false]
    by_cases hn : D ≤ (a - 1) / 16
    · rw [if_pos hn]
      simp only
      have d0 := Int.ediv_nonneg (show 0 ≤ (a - 1) / 16 - D by omega) (show 0 ≤ S by omega)
      rw [if_neg (by omega), if_neg (by omega), if_pos d0]
    · rw [if_neg hn]
      simp only
      rw [if_neg (show ¬ (0 : Int) ≤ -1 by omega)]
      by_cases h2 : (a - 1) / 16 < D - L
      · rw [if_pos h2, if_neg (by omega)]
      · rw [if_neg h2, if_pos (by omega), if_pos (by omega)]

set_option maxHeartbeats 600000 in
theorem tierRef_any (D L V S a : Int) (w : World) (ha : (Lit.int .i64 a).wf = true) (h : mayG D L V S) :
    Calls Try.prog 18 #[.agg #[.int .i64 D, .int .i64 L, .int .i64 V, .int .i64 S], .int .i64 a] w fun e w' => e = .returned (.int .i64 (tierG D L V S a)) ∧ Below w.heap.size w w' := by
  have C := fun w => whereRef_any D L V S a w ha h
  have hs := whereG_small (a := a) h
  rw [tier_where h]
  obtain ⟨v, hv⟩ : ∃ v, (whereG D L V S a).1.1 = v := ⟨_, rfl⟩
  obtain ⟨s, hs'⟩ : ∃ s, (whereG D L V S a).1.2.1 = s := ⟨_, rfl⟩
  obtain ⟨o, ho⟩ : ∃ o, (whereG D L V S a).1.2.2 = o := ⟨_, rfl⟩
  obtain ⟨q, hq⟩ : ∃ q, (whereG D L V S a).2 = q := ⟨_, rfl⟩
  rw [hv, hs'] at hs
  simp only [hv, hs', ho, hq] at C ⊢
  have C := hide C
  clear hv hs' ho hq ha
  unfold mayG at h
  obtain ⟨hD, hD2, hL, hL2, _⟩ := h
  obtain ⟨v0, v1, s0, s1⟩ := hs
  have fin : ∀ (w1 : World) (u : Obj), Below (w.alloc (.cells #[.int .i64 D, .int .i64 L, .int .i64 V, .int .i64 S] 23)).heap.size (w.alloc (.cells #[.int .i64 D, .int .i64 L, .int .i64 V, .int .i64 S] 23)) w1 → Below w.heap.size w (w1.alloc u) := fun w1 u hb1 => (nextB box1 hb1).alloc (nextB box1 hb1).size _
  have Fin := hide fin; clear fin
  rcases q with _ | _
  · rw [if_pos rfl]
    go_enter Try.func18, Try.ntmps18
    go_wp2_with (go_at_call 22; refine (unhide C _).mono ?_; rintro e w1 ⟨rfl, hb1⟩; have B1 := hide (blk1G hb1); have c0 := fun o => (blk4 (B1.out.alloc o)).1; have c1 := fun o => (blk4 (B1.out.alloc o)).2.1; have hl := B1.out.lt)
    go_ret
    exact ⟨rfl, Fin.out _ _ hb1⟩
  · rw [if_neg (by simp)]
    by_cases h1 : 0 ≤ v
    · rw [if_pos h1]
      go_enter Try.func18, Try.ntmps18
      go_wp2_with (go_at_call 22; refine (unhide C _).mono ?_; rintro e w1 ⟨rfl, hb1⟩; have B1 := hide (blk1G hb1); have c0 := fun o => (blk4 (B1.out.alloc o)).1; have c1 := fun o => (blk4 (B1.out.alloc o)).2.1; have hl := B1.out.lt)
      go_ret
      exact ⟨rfl, Fin.out _ _ hb1⟩
    · rw [if_neg h1]
      by_cases h2 : D - L ≤ s
      · rw [if_pos h2]
        go_enter Try.func18, Try.ntmps18
        go_wp2_with (go_at_call 22; refine (unhide C _).mono ?_; rintro e w1 ⟨rfl, hb1⟩; have B1 := hide (blk1G hb1); have c0 := fun o => (blk4 (B1.out.alloc o)).1; have c1 := fun o => (blk4 (B1.out.alloc o)).2.1; have hl := B1.out.lt)
        go_ret
        exact ⟨rfl, Fin.out _ _ hb1⟩
      · rw [if_neg h2]
        go_enter Try.func18, Try.ntmps18
        go_wp2_with (go_at_call 22; refine (unhide C _).mono ?_; rintro e w1 ⟨rfl, hb1⟩; have B1 := hide (blk1G hb1); have c0 := fun o => (blk4 (B1.out.alloc o)).1; have c1 := fun o => (blk4 (B1.out.alloc o)).2.1; have hl := B1.out.lt)
        go_ret
        exact ⟨rfl, Fin.out _ _ hb1⟩

end Go.Proofs.Ytpebccffkmkpoaa
