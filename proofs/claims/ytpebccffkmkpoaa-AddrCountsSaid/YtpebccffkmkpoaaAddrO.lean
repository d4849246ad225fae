import Derived.Test.YtpebccffkmkpoaaAddrC
import Derived.Test.YtpebccffkmkpoaaAddrN
namespace Go.Proofs.Ytpebccffkmkpoaa
open Go.RowKit

theorem numG_small {D L V S v s o : Int} (h : mayG D L V S) (hp : isP D V S v s o) : 0 ≤ numG D S v s ∧ numG D S v s < D + V * S := by
  have hs := segsG_small h
  unfold mayG at h
  unfold isP at hp
  unfold numG
  by_cases hv : v < 0
  · rw [if_pos hv]
    rw [if_pos (by omega)] at hp
    omega
  · rw [if_neg hv]
    rw [if_neg (by omega)] at hp
    have h1 := prod_small (v := v) (s := S) (V := V) (S := S) (by omega) (by omega) (by omega) (by omega) (Int.le_refl _) (by omega)
    have h2 : (v + 1) * S ≤ V * S := Int.mul_le_mul_of_nonneg_right (by omega) (by omega)
    rw [Int.add_mul] at h2
    omega

set_option maxHeartbeats 1000000 in
theorem of_any (D L V S v s o : Int) (w : World) :
    Calls Try.prog 19 #[.agg #[.int .i64 D, .int .i64 L, .int .i64 V, .int .i64 S], .agg #[.int .i64 v, .int .i64 s, .int .i64 o]] w fun e w' => e = .returned (.tuple #[.int .i64 (ofG D L V S v s o).1, .int .i64 (ofG D L V S v s o).2]) ∧ Below w.heap.size w w' := by
  unfold ofG
  have C := fun w => may_any D L V S w
  by_cases h : mayG D L V S
  · rw [if_neg (by simp [h])]
    rw [decide_eq_true h] at C
    have C := hide C
    have C2 := fun w => is_any D L V S v s o w
    by_cases hp : isP D V S v s o
    · rw [if_neg (by simp [hp])]
      rw [decide_eq_true hp] at C2
      have C2 := hide C2
      have C3 := fun w => number_any D L V S v s o w h hp
      obtain ⟨n0, n1⟩ := numG_small h hp
      have n2 := segsG_small h
      unfold isP at hp
      unfold mayG at h
      obtain ⟨_, _, _, _, o0, o1⟩ := hp
      obtain ⟨n, hn⟩ : ∃ n, numG D S v s = n := ⟨_, rfl⟩
      rw [hn] at n0 n1 C3 ⊢
      have C3 := hide C3
      have n1 : n ≤ 4000 := by omega
      clear n2 hn h
      go_enter Try.func19, Try.ntmps19
      go_wp2_with (first
        | (go_at_call 11; refine (unhide C _).mono ?_; rintro e w1 ⟨rfl, hb1⟩; have B1 := ((Blk.new w _ _).alloc _).below hb1 (by simp; omega); have B2 := (Blk.new_ (w.alloc (.cells #[.int .i64 D, .int .i64 L, .int .i64 V, .int .i64 S] 23)) 34 #[.int .i64 v, .int .i64 s, .int .i64 o] (w.heap.size + 1) (by simp)).below hb1 (by simp); obtain ⟨c0, c1, c2, c3⟩ := blk4 B1; obtain ⟨d0, d1, d2⟩ := blk3 B2; have B1 := hide B1; have B2 := hide B2)
        | (go_at_call 28; refine (unhide C2 _).mono ?_; rintro e w2 ⟨rfl, hb2⟩; have B3 := B1.out.below hb2 B1.out.lt; have B4 := B2.out.below hb2 B2.out.lt; obtain ⟨f0, f1, f2, f3⟩ := ext4 B3; obtain ⟨g0, g1, g2⟩ := ext3 B4))
      refine wp_region_ext w2 (by kernel_rfl) (by kernel_rfl) (Below.refl _ _) ?_
      repeat (first
        | go_big_quiet_step (first | (go_at_call 29; exact Ext.call _ (unhide C3 _)))
        | quiet_step (first | (go_at_call 29; exact Ext.call _ (unhide C3 _))))
      refine wpQuiet_nil ?_
      intro _ hw'
      obtain ⟨⟨wx, hx⟩, rfl⟩ := hw'
      go_wp2_with fail
      go_ret2
      exact ⟨rfl, nextB (nextB (nextB box2 hb1) hb2) hx⟩
    · rw [if_pos hp]
      rw [decide_eq_false hp] at C2
      have C2 := hide C2
      clear h hp
      go_enter Try.func19, Try.ntmps19
      go_wp2_with (first
        | (go_at_call 11; refine (unhide C _).mono ?_; rintro e w1 ⟨rfl, hb1⟩; have B1 := ((Blk.new w _ _).alloc _).below hb1 (by simp; omega); have B2 := (Blk.new_ (w.alloc (.cells #[.int .i64 D, .int .i64 L, .int .i64 V, .int .i64 S] 23)) 34 #[.int .i64 v, .int .i64 s, .int .i64 o] (w.heap.size + 1) (by simp)).below hb1 (by simp); obtain ⟨c0, c1, c2, c3⟩ := blk4 B1; obtain ⟨d0, d1, d2⟩ := blk3 B2; have B1 := hide B1; have B2 := hide B2)
        | (go_at_call 28; refine (unhide C2 _).mono ?_; rintro e w2 ⟨rfl, hb2⟩))
      go_ret2
      exact ⟨rfl, nextB (nextB box2 hb1) hb2⟩
  · rw [if_pos h]
    rw [decide_eq_false h] at C
    have C := hide C
    clear h
    go_enter Try.func19, Try.ntmps19
    go_wp2_with (go_at_call 11; refine (unhide C _).mono ?_; rintro e w1 ⟨rfl, hb1⟩)
    go_ret2
    exact ⟨rfl, nextB box2 hb1⟩
end Go.Proofs.Ytpebccffkmkpoaa
