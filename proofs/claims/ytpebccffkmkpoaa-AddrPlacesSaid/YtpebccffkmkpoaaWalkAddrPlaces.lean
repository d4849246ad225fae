import Derived.Test.YtpebccffkmkpoaaAddrV
import Derived.Test.YtpebccffkmkpoaaAddrW
import Derived.Test.YtpebccffkmkpoaaOpenG
namespace Go.Proofs.Ytpebccffkmkpoaa
open Go.RowKit

set_option maxHeartbeats 4000000 in
theorem walk_AddrPlaces (s : Int × Int × Int × Int) (p : Int × Int × Int) (a : Int) (w : World) (_hs : i64ok s.1 ∧ i64ok s.2.1 ∧ i64ok s.2.2.1 ∧ i64ok s.2.2.2) (_hp : i64ok p.1 ∧ i64ok p.2.1 ∧ i64ok p.2.2) (ha : (Lit.int .i64 a).wf = true) :
    Calls Try.prog 6 #[.agg #[.int .i64 s.1, .int .i64 s.2.1, .int .i64 s.2.2.1, .int .i64 s.2.2.2], .agg #[.int .i64 p.1, .int .i64 p.2.1, .int .i64 p.2.2], .int .i64 a] w fun e w' => e = .returned (.bool true) ∧ Below w.heap.size w w' := by
  obtain ⟨D, L, V, S⟩ := s
  obtain ⟨v, sg, o⟩ := p
  simp only
  have C := fun w => mayRef_any D L V S w
  have C1 := fun w => of_any D L V S v sg o w
  have C2 := fun w => where_any D L V S a w ha
  by_cases h : mayG D L V S
  · rw [decide_eq_true h] at C
    have C3 := fun w => ofRef_any D L V S v sg o w h
    have C4 := fun w => whereRef_any D L V S a w ha h
    obtain ⟨x, e, E1, E3, hx⟩ : ∃ x e, ofG D L V S v sg o = (x, e) ∧ (if isP D V S v sg o then 1 + numG D S v sg * 16 + o else 0) = x ∧ (0 < x ∧ e = 0 ∨ x = 0 ∧ e = 4) := by
      unfold ofG; rw [if_neg (by simp [h])]
      by_cases hp : isP D V S v sg o
      · rw [if_neg (by simp [hp]), if_pos hp]
        have := numG_small h hp
        unfold isP at hp
        exact ⟨_, _, rfl, rfl, .inl ⟨by omega, rfl⟩⟩
      · rw [if_pos hp, if_neg hp]
        exact ⟨_, _, rfl, rfl, .inr ⟨rfl, rfl⟩⟩
    obtain ⟨v2, s2, o2, f, b, E2, E4, hf⟩ : ∃ v2 s2 o2 f b, whereE D L V S a = ((v2, s2, o2), f) ∧ whereG D L V S a = ((v2, s2, o2), b) ∧ (b = true ∧ f = 0 ∨ b = false ∧ f = 4) := by
      unfold whereE whereG; rw [if_neg (by simp [h])]
      by_cases hr : a < 1 ∨ segsG D L V S * 16 < a
      · rw [if_pos hr, if_pos hr]; exact ⟨_, _, _, _, _, rfl, rfl, .inr ⟨rfl, rfl⟩⟩
      · rw [if_neg hr, if_neg hr]; exact ⟨_, _, _, _, _, rfl, rfl, .inl ⟨rfl, rfl⟩⟩
    rw [E1] at C1; rw [E2] at C2; rw [E3] at C3; rw [E4] at C4
    have C := hide C; have C1 := hide C1; have C2 := hide C2; have C3 := hide C3; have C4 := hide C4
    clear E1 E2 E3 E4 h ha
    rcases hx with ⟨hx, rfl⟩ | ⟨rfl, rfl⟩ <;> rcases hf with ⟨rfl, rfl⟩ | ⟨rfl, rfl⟩
    all_goals
      go_enter Try.func6, Try.ntmps6
      go_wp2_with (first
        | (go_at_call 19; refine (unhide C1 _).mono ?_; rintro e w1 ⟨rfl, hb1⟩; have B1 := hide (blkG hb1); have B2 := hide (blkP hb1); have hb := hide (nextB box2 hb1); clear hb1; obtain ⟨c0, c1, c2, c3⟩ := blk4 B1.out)
        | (go_at_call 20; refine (unhide C2 _).mono ?_; rintro e w2 ⟨rfl, hb2⟩; replace hb := hide (nextB hb.out hb2); replace B1 := hide (B1.out.below hb2 B1.out.lt); replace B2 := hide (B2.out.below hb2 B2.out.lt); clear c0 c1 c2 c3 hb2; obtain ⟨c0, c1, c2, c3⟩ := blk4 B1.out; have hl1 := B1.out.lt; obtain ⟨d0, d1, d2⟩ := blk3 B2.out; have hl2 := B2.out.lt)
        | (go_at_call 9; refine (unhide C _).mono ?_; rintro e w3 ⟨rfl, hb3⟩; replace hb := hide (nextB (hb.out.alloc hb.out.size _) hb3); replace B1 := hide ((B1.out.alloc _).below hb3 (B1.out.alloc _).lt); replace B2 := hide ((B2.out.alloc _).below hb3 (B2.out.alloc _).lt); have B3 := hide (blk1G hb3); clear c0 c1 c2 c3 d0 d1 d2 hb3 hl1 hl2; obtain ⟨c0, c1, c2, c3⟩ := blk4 B1.out; have hl1 := B1.out.lt; obtain ⟨d0, d1, d2⟩ := blk3 B2.out; have hl2 := B2.out.lt)
        | (go_at_call 21; refine (unhide C3 _).mono ?_; rintro e w4 ⟨rfl, hb4⟩; replace hb := hide (nextB hb.out hb4); replace B1 := hide (B1.out.below hb4 B1.out.lt); replace B3 := hide (B3.out.below hb4 B3.out.lt); clear B2 c0 c1 c2 c3 d0 d1 d2 hl1 hl2 hb4; obtain ⟨c0, c1, c2, c3⟩ := blk4 B1.out)
        | (go_at_call 22; refine (unhide C4 _).mono ?_; rintro e w5 ⟨rfl, hb5⟩; replace hb := hide (nextB hb.out hb5); replace B3 := hide (B3.out.below hb5 B3.out.lt); clear B1 c0 c1 c2 c3 hb5; obtain ⟨d0, d1, d2⟩ := blk3 B3.out; have hl3 := B3.out.lt)
        | (go_at_call 14; refine (awake_any _).mono ?_; rintro e w6 ⟨rfl, hb6⟩))
      go_ret
      exact ⟨rfl, nextB (hb.out.alloc hb.out.size _) hb6⟩
  · rw [decide_eq_false h] at C
    have E1 : ofG D L V S v sg o = (0, 1) := by unfold ofG; rw [if_pos h]
    have E2 : whereE D L V S a = ((0, 0, 0), 1) := by unfold whereE; rw [if_pos h]
    rw [E1] at C1; rw [E2] at C2
    replace C := hide C; replace C1 := hide C1; replace C2 := hide C2
    clear E1 E2 h ha
    go_enter Try.func6, Try.ntmps6
    go_wp2_with (first
      | (go_at_call 19; refine (unhide C1 _).mono ?_; rintro e w1 ⟨rfl, hb1⟩; have B1 := hide (blkG hb1); have B2 := hide (blkP hb1); have hb := hide (nextB box2 hb1); clear hb1; obtain ⟨c0, c1, c2, c3⟩ := blk4 B1.out)
      | (go_at_call 20; refine (unhide C2 _).mono ?_; rintro e w2 ⟨rfl, hb2⟩; replace hb := hide (nextB hb.out hb2); replace B1 := hide (B1.out.below hb2 B1.out.lt); replace B2 := hide (B2.out.below hb2 B2.out.lt); clear c0 c1 c2 c3 hb2; obtain ⟨c0, c1, c2, c3⟩ := blk4 B1.out; have hl1 := B1.out.lt)
      | (go_at_call 9; refine (unhide C _).mono ?_; rintro e w3 ⟨rfl, hb3⟩; replace hb := hide (nextB (hb.out.alloc hb.out.size _) hb3); have B3 := hide (blk1G hb3); clear c0 c1 c2 c3 hb3 hl1; obtain ⟨d0, d1, d2⟩ := blk3 B3.out)
      | (go_at_call 14; refine (awake_any _).mono ?_; rintro e w6 ⟨rfl, hb6⟩))
    go_ret
    exact ⟨rfl, nextB hb.out hb6⟩
end Go.Proofs.Ytpebccffkmkpoaa
