import Derived.Test.YtpebccffkmkpoaaAddrV
import Derived.Test.YtpebccffkmkpoaaAddrW
import Derived.Test.YtpebccffkmkpoaaOpenG
namespace Go.Proofs.Ytpebccffkmkpoaa
open Go.RowKit

set_option maxHeartbeats 4000000 in
theorem walk_AddrSegments (s : Int × Int × Int × Int) (a g : Int) (w : World) (_hs : i64ok s.1 ∧ i64ok s.2.1 ∧ i64ok s.2.2.1 ∧ i64ok s.2.2.2) (ha : (Lit.int .i64 a).wf = true) (hg : (Lit.int .i64 g).wf = true) :
    Calls Try.prog 5 #[.agg #[.int .i64 s.1, .int .i64 s.2.1, .int .i64 s.2.2.1, .int .i64 s.2.2.2], .int .i64 a, .int .i64 g] w fun e w' => e = .returned (.bool true) ∧ Below w.heap.size w w' := by
  obtain ⟨D, L, V, S⟩ := s
  simp only
  have C := fun w => mayRef_any D L V S w
  have C1 := fun w => segment_any D L V S a w ha
  have C2 := fun w => first_any D L V S g w hg
  have C3 := fun w => tier_any D L V S a w ha
  by_cases h : mayG D L V S
  · rw [decide_eq_true h] at C
    have C4 := fun w => countRef_any D L V S w h
    have C5 := fun w => tierRef_any D L V S a w ha h
    have hsb := segsG_bound D L V S
    obtain ⟨n, hn⟩ : ∃ n, segsG D L V S = n := ⟨_, rfl⟩
    obtain ⟨t, ht⟩ : ∃ t, tierG D L V S a = t := ⟨_, rfl⟩
    rw [ht] at C3 C5
    rw [hn] at C4 hsb
    have E1 : segG D L V S a = if a < 1 ∨ n * 16 < a then (0, 4) else ((a - 1) / 16, 0) := by unfold segG; rw [if_neg (by simp [h]), hn]
    have E2 : firstG D L V S g = if g < 0 ∨ n ≤ g then (0, 4) else (1 + g * 16, 0) := by unfold firstG; rw [if_neg (by simp [h]), hn]
    rw [E1] at C1; rw [E2] at C2
    obtain ⟨hs0, hs1⟩ := hsb
    clear E1 E2 h hn ht ha hg
    have hA : a < 1 ∨ ¬ a < 1 ∧ n * 16 < a ∨ ¬ a < 1 ∧ ¬ n * 16 < a := by omega
    have hG : g < 0 ∨ ¬ g < 0 ∧ n ≤ g ∨ ¬ g < 0 ∧ ¬ n ≤ g := by omega
    have e1 : n * 16 = 16 * n := by omega
    have e2 : 1 + g * 16 = 16 * g + 1 := by omega
    rw [e1] at C1 hA; rw [e2] at C2
    clear e1 e2
    replace C := hide C; replace C3 := hide C3; replace C4 := hide C4; replace C5 := hide C5
    rcases hA with hA | ⟨hA, hA2⟩ | ⟨hA, hA2⟩ <;> rcases hG with hG | ⟨hG, hG2⟩ | ⟨hG, hG2⟩
    all_goals
      first | rw [if_pos (by omega)] at C1 | rw [if_neg (by omega)] at C1
      first | rw [if_pos (by omega)] at C2 | rw [if_neg (by omega)] at C2
      replace C1 := hide C1; replace C2 := hide C2
      go_enter Try.func5, Try.ntmps5
      go_wp2_with (first
        | (go_at_call 16; refine (unhide C1 _).mono ?_; rintro e w1 ⟨rfl, hb1⟩; have B1 := hide (blk1G hb1); have hb := hide (nextB box1 hb1); clear hb1; obtain ⟨c0, c1, c2, c3⟩ := blk4 B1.out)
        | (go_at_call 17; refine (unhide C2 _).mono ?_; rintro e w2 ⟨rfl, hb2⟩; replace hb := hide (nextB hb.out hb2); replace B1 := hide (B1.out.below hb2 B1.out.lt); clear c0 c1 c2 c3 hb2; obtain ⟨c0, c1, c2, c3⟩ := blk4 B1.out)
        | (go_at_call 15; refine (unhide C3 _).mono ?_; rintro e w3 ⟨rfl, hb2⟩; replace hb := hide (nextB hb.out hb2); replace B1 := hide (B1.out.below hb2 B1.out.lt); clear c0 c1 c2 c3 hb2; obtain ⟨c0, c1, c2, c3⟩ := blk4 B1.out)
        | (go_at_call 9; refine (unhide C _).mono ?_; rintro e w4 ⟨rfl, hb2⟩; replace hb := hide (nextB hb.out hb2); replace B1 := hide (B1.out.below hb2 B1.out.lt); clear c0 c1 c2 c3 hb2; obtain ⟨c0, c1, c2, c3⟩ := blk4 B1.out)
        | (go_at_call 10; refine (unhide C4 _).mono ?_; rintro e w5 ⟨rfl, hb2⟩; replace hb := hide (nextB hb.out hb2); replace B1 := hide (B1.out.below hb2 B1.out.lt); clear c0 c1 c2 c3 hb2; obtain ⟨c0, c1, c2, c3⟩ := blk4 B1.out)
        | (go_at_call 18; refine (unhide C5 _).mono ?_; rintro e w6 ⟨rfl, hb2⟩; replace hb := hide (nextB hb.out hb2); clear B1 c0 c1 c2 c3 hb2)
        | (go_at_call 14; refine (awake_any _).mono ?_; rintro e w7 ⟨rfl, hb6⟩))
      go_ret
      exact ⟨rfl, nextB hb.out hb6⟩
  · rw [decide_eq_false h] at C
    have E1 : segG D L V S a = (0, 1) := by unfold segG; rw [if_pos h]
    have E2 : firstG D L V S g = (0, 1) := by unfold firstG; rw [if_pos h]
    have E3 : tierG D L V S a = -1 := by unfold tierG; rw [E1]; simp
    rw [E1] at C1; rw [E2] at C2; rw [E3] at C3
    replace C := hide C; replace C1 := hide C1; replace C2 := hide C2; replace C3 := hide C3
    clear E1 E2 E3 h ha hg
    go_enter Try.func5, Try.ntmps5
    go_wp2_with (first
      | (go_at_call 16; refine (unhide C1 _).mono ?_; rintro e w1 ⟨rfl, hb1⟩; have B1 := hide (blk1G hb1); have hb := hide (nextB box1 hb1); clear hb1; obtain ⟨c0, c1, c2, c3⟩ := blk4 B1.out)
      | (go_at_call 17; refine (unhide C2 _).mono ?_; rintro e w2 ⟨rfl, hb2⟩; replace hb := hide (nextB hb.out hb2); replace B1 := hide (B1.out.below hb2 B1.out.lt); clear c0 c1 c2 c3 hb2; obtain ⟨c0, c1, c2, c3⟩ := blk4 B1.out)
      | (go_at_call 15; refine (unhide C3 _).mono ?_; rintro e w3 ⟨rfl, hb2⟩; replace hb := hide (nextB hb.out hb2); replace B1 := hide (B1.out.below hb2 B1.out.lt); clear c0 c1 c2 c3 hb2; obtain ⟨c0, c1, c2, c3⟩ := blk4 B1.out)
      | (go_at_call 9; refine (unhide C _).mono ?_; rintro e w4 ⟨rfl, hb2⟩; replace hb := hide (nextB hb.out hb2); clear B1 c0 c1 c2 c3 hb2)
      | (go_at_call 14; refine (awake_any _).mono ?_; rintro e w7 ⟨rfl, hb6⟩))
    go_ret
    exact ⟨rfl, nextB hb.out hb6⟩
end Go.Proofs.Ytpebccffkmkpoaa
