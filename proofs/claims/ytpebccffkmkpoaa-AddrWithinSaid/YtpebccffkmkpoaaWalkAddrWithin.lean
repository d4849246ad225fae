import Derived.Test.YtpebccffkmkpoaaAddrV
import Derived.Test.YtpebccffkmkpoaaAddrW
import Derived.Test.YtpebccffkmkpoaaOpenG
namespace Go.Proofs.Ytpebccffkmkpoaa
open Go.RowKit

set_option maxHeartbeats 2000000 in
theorem walk_AddrWithin (s : Int × Int × Int × Int) (at_ : Int) (w : World) (_hs : i64ok s.1 ∧ i64ok s.2.1 ∧ i64ok s.2.2.1 ∧ i64ok s.2.2.2) (ha : (Lit.int .u16 at_).wf = true) :
    Calls Try.prog 8 #[.agg #[.int .i64 s.1, .int .i64 s.2.1, .int .i64 s.2.2.1, .int .i64 s.2.2.2], .int .u16 at_] w fun e w' => e = .returned (.bool true) ∧ Below w.heap.size w w' := by
  obtain ⟨D, L, V, S⟩ := s
  simp only
  simp [Lit.wf, IntKind.min, IntKind.max, IntKind.bits, IntKind.signed] at ha
  have C := fun w => mayRef_any D L V S w
  have C1 := fun w => blocks_any D L V S w
  by_cases h : mayG D L V S
  · have hsb := segsG_bound D L V S
    have hpos : 8 ≤ segsG D L V S := by
      have h2 := segsG_small h
      unfold segsG; rw [if_pos h]
      unfold mayG at h; omega
    obtain ⟨n, hn⟩ : ∃ n, segsG D L V S = n := ⟨_, rfl⟩
    have C2 := fun a w h => segment_any D L V S a w h
    have C3 := fun a w h => first_any D L V S a w h
    have C4 := fun a w h => where_any D L V S a w h
    obtain ⟨q, hq⟩ : ∃ q, at_ % (n * 16) = q := ⟨_, rfl⟩
    rw [hn] at C1 hsb hpos
    have q0 : 0 ≤ q := by rw [← hq]; exact Int.emod_nonneg _ (by omega)
    have q1 : q < n * 16 := by rw [← hq]; exact Int.emod_lt_of_pos _ (by omega)
    have E2 : segG D L V S (1 + q) = (q / 16, 0) := by
      unfold segG; rw [if_neg (by simp [h]), hn, if_neg (by omega)]
      rw [show 1 + q - 1 = q by omega]
    have E3 : firstG D L V S (q / 16) = (1 + q / 16 * 16, 0) := by
      unfold firstG; rw [if_neg (by simp [h]), hn, if_neg (by omega)]
    obtain ⟨v, sg, E4⟩ : ∃ v sg, whereE D L V S (1 + q) = ((v, sg, q % 16), 0) := by
      unfold whereE; rw [if_neg (by simp [h]), hn, if_neg (by omega)]
      rw [show 1 + q - 1 = q by omega]
      exact ⟨_, _, rfl⟩
    replace C2 := fun w => C2 (1 + q) w (WalkArith.wf_i64 (by omega))
    replace C3 := fun w => C3 (q / 16) w (WalkArith.wf_i64 (by omega))
    replace C4 := fun w => C4 (1 + q) w (WalkArith.wf_i64 (by omega))
    rw [E2] at C2; rw [E3] at C3; rw [E4] at C4
    have C1 := hide C1; have C2 := hide C2; have C3 := hide C3; have C4 := hide C4
    clear E2 E3 E4 C
    have t1 : at_.tmod (n * 16) = q := by rw [← hq]; exact Int.tmod_eq_emod_of_nonneg (by omega)
    clear hq hn h
    go_enter Try.func8, Try.ntmps8
    go_wp2_with (first
      | (go_at_call 13; refine (unhide C1 _).mono ?_; rintro e w1 ⟨rfl, hb1⟩; have B1 := hide (blk1G hb1); have hb := hide (nextB box1 hb1); clear hb1; obtain ⟨c0, c1, c2, c3⟩ := blk4 B1.out)
      | (go_at_call 16; refine (unhide C2 _).mono ?_; rintro e w2 ⟨rfl, hb2⟩; replace hb := hide (nextB hb.out hb2); replace B1 := hide (B1.out.below hb2 B1.out.lt); clear c0 c1 c2 c3 hb2; obtain ⟨c0, c1, c2, c3⟩ := blk4 B1.out)
      | (go_at_call 17; refine (unhide C3 _).mono ?_; rintro e w3 ⟨rfl, hb3⟩; replace hb := hide (nextB hb.out hb3); replace B1 := hide (B1.out.below hb3 B1.out.lt); clear c0 c1 c2 c3 hb3; obtain ⟨c0, c1, c2, c3⟩ := blk4 B1.out)
      | (go_at_call 20; refine (unhide C4 _).mono ?_; rintro e w4 ⟨rfl, hb4⟩; replace hb := hide (nextB hb.out hb4); clear B1 c0 c1 c2 c3 hb4)
      | (go_at_call 14; refine (awake_any _).mono ?_; rintro e w5 ⟨rfl, hb5⟩))
    go_ret
    exact ⟨rfl, nextB (hb.out.alloc hb.out.size _) hb5⟩
  · rw [decide_eq_false h] at C
    have hn : segsG D L V S = 0 := if_neg h
    rw [hn] at C1
    have C := hide C; have C1 := hide C1
    clear h hn
    go_enter Try.func8, Try.ntmps8
    go_wp2_with (first
      | (go_at_call 13; refine (unhide C1 _).mono ?_; rintro e w1 ⟨rfl, hb1⟩; have B1 := hide (blk1G hb1); have hb := hide (nextB box1 hb1); clear hb1; obtain ⟨c0, c1, c2, c3⟩ := blk4 B1.out)
      | (go_at_call 9; refine (unhide C _).mono ?_; rintro e w2 ⟨rfl, hb2⟩; replace hb := hide (nextB hb.out hb2))
      | (go_at_call 14; refine (awake_any _).mono ?_; rintro e w5 ⟨rfl, hb5⟩))
    go_ret
    exact ⟨rfl, nextB hb.out hb5⟩
end Go.Proofs.Ytpebccffkmkpoaa
