import Derived.Test.YtpebccffkmkpoaaAddrV
import Derived.Test.YtpebccffkmkpoaaAddrW
import Derived.Test.YtpebccffkmkpoaaOpenG
namespace Go.Proofs.Ytpebccffkmkpoaa
open Go.RowKit

theorem tier_at {D L V S : Int} {k : Int} (h : mayG D L V S) (h0 : 0 ≤ k) (h1 : k < segsG D L V S * 16) :
    tierG D L V S (1 + k) = if k < 16 * (D - L) then 0 else if k < 16 * D then 1 else 2 := by
  have E : segG D L V S (1 + k) = (k / 16, 0) := by
    unfold segG; rw [if_neg (by simp [h]), if_neg (by omega)]
    rw [show 1 + k - 1 = k by omega]
  unfold tierG
  rw [E]
  simp only [ne_eq, not_true_eq_false, if_false]
  by_cases h2 : k < 16 * (D - L)
  · rw [if_pos h2, if_pos (by omega)]
  · rw [if_neg h2, if_neg (by omega)]
    by_cases h3 : k < 16 * D
    · rw [if_pos h3, if_pos (by omega)]
    · rw [if_neg h3, if_neg (by omega)]
/-- of the first k addresses: how many are of each tier, and the last one's tier -/
def tiersAt (D L k x y z t : Int) : Prop :=
  k ≤ 16 * (D - L) ∧ x = k ∧ y = 0 ∧ z = 0 ∧ t = 0 ∨ 16 * (D - L) < k ∧ k ≤ 16 * D ∧ x = 16 * (D - L) ∧ y = k - 16 * (D - L) ∧ z = 0 ∧ t = 1 ∨
    16 * D < k ∧ x = 16 * (D - L) ∧ y = 16 * L ∧ z = k - 16 * D ∧ t = 2
theorem tiersAt_step {D L k x y z t : Int} (hL : 1 ≤ L) (hD : L ≤ D) (h0 : 0 ≤ k) (h : tiersAt D L k x y z t) :
    k < 16 * (D - L) ∧ t ≤ 0 ∧ tiersAt D L (k + 1) (x + 1) y z 0 ∨ 16 * (D - L) ≤ k ∧ k < 16 * D ∧ t ≤ 1 ∧ tiersAt D L (k + 1) x (y + 1) z 1 ∨ 16 * (D - L) ≤ k ∧ 16 * D ≤ k ∧ t ≤ 2 ∧ tiersAt D L (k + 1) x y (z + 1) 2 := by
  unfold tiersAt
  rcases h with ⟨h1, rfl, rfl, rfl, rfl⟩ | ⟨h1, h2, rfl, rfl, rfl, rfl⟩ | ⟨h1, rfl, rfl, rfl, rfl⟩
  · by_cases hk : x < 16 * (D - L)
    · exact .inl ⟨hk, by omega, .inl ⟨by omega, rfl, rfl, rfl, rfl⟩⟩
    · exact .inr (.inl ⟨by omega, by omega, by omega, .inr (.inl ⟨by omega, by omega, by omega, by omega, rfl, rfl⟩)⟩)
  · by_cases hk : k < 16 * D
    · exact .inr (.inl ⟨by omega, by omega, by omega, .inr (.inl ⟨by omega, by omega, by omega, by omega, rfl, rfl⟩)⟩)
    · exact .inr (.inr ⟨by omega, by omega, by omega, .inr (.inr ⟨by omega, by omega, by omega, by omega, rfl⟩)⟩)
  · exact .inr (.inr ⟨by omega, by omega, by omega, .inr (.inr ⟨by omega, by omega, by omega, by omega, rfl⟩)⟩)
theorem tiersAt_bound {D L k x y z t : Int} (hL : 1 ≤ L) (hD : L ≤ D) (h0 : 0 ≤ k) (h : tiersAt D L k x y z t) : 0 ≤ x ∧ x ≤ k ∧ 0 ≤ y ∧ y ≤ k ∧ 0 ≤ z ∧ z ≤ k ∧ 0 ≤ t := by
  rcases h with ⟨h1, rfl, rfl, rfl, rfl⟩ | ⟨h1, h2, rfl, rfl, rfl, rfl⟩ | ⟨h1, rfl, rfl, rfl, rfl⟩ <;> omega
theorem tiersAt_end {D L k x y z t p : Int} (hL : 1 ≤ L) (hD : L ≤ D) (hk : k = 16 * D + p) (hp : 0 ≤ p) (h : tiersAt D L k x y z t) : x = 16 * (D - L) ∧ y = 16 * L ∧ z = p := by
  rcases h with ⟨h1, rfl, rfl, rfl, rfl⟩ | ⟨h1, h2, rfl, rfl, rfl, rfl⟩ | ⟨h1, rfl, rfl, rfl, rfl⟩ <;> omega
set_option maxHeartbeats 4000000 in
theorem walk_AddrTiers (s : Int × Int × Int × Int) (w : World) (_hs : i64ok s.1 ∧ i64ok s.2.1 ∧ i64ok s.2.2.1 ∧ i64ok s.2.2.2) :
    Calls Try.prog 4 #[.agg #[.int .i64 s.1, .int .i64 s.2.1, .int .i64 s.2.2.1, .int .i64 s.2.2.2]] w fun e w' => e = .returned (.bool true) ∧ Below w.heap.size w w' := by
  obtain ⟨D, L, V, S⟩ := s
  simp only
  have C := fun w => may_any D L V S w
  by_cases h : mayG D L V S
  · rw [decide_eq_true h] at C
    obtain ⟨hv0, hv1⟩ := segsG_small h
    by_cases hd : D ≤ 40
    by_cases hm : V * S ≤ 40
    · have C1 := fun w => blocks_any D L V S w
      have C2 := fun a w ha => tier_any D L V S a w ha
      have T := hide (fun k => tier_at (k := k) h)
      obtain ⟨n, hn⟩ : ∃ n, segsG D L V S = n := ⟨_, rfl⟩
      rw [hn] at C1 T
      have hn2 : n = D + V * S := by rw [← hn]; unfold segsG; rw [if_pos h]
      have hp : 16 * V * S = 16 * (V * S) := Int.mul_assoc _ _ _
      have hp0 : 0 ≤ 16 * V * S := by omega
      have hp1 : 16 * V * S ≤ 640 := by omega
      have Hp := hide (show n * 16 = 16 * D + 16 * V * S by omega)
      unfold mayG at h
      obtain ⟨hD, _, hL, hL2, hV, hV8, hS, hS2⟩ := h
      have hnn : n * 16 ≤ 1280 := by omega
      have hnd : D ≤ n := by omega
      clear hp hn2 hn
      replace C := hide C; replace C1 := hide C1; replace C2 := hide C2
      go_enter Try.func4, Try.ntmps4
      go_wp2_with (go_at_call 11; refine (unhide C _).mono ?_; rintro e w1 ⟨rfl, hb1⟩; have B1 := hide (blk1G hb1); have hb := hide (nextB box1 hb1); clear hb1; obtain ⟨c0, c1, c2, c3⟩ := blk4 B1.out; have hl1 := B1.out.lt)
      replace B1 := hide (B1.out.alloc (.cells #[.int .i64 0, .int .i64 0, .int .i64 0] 27))
      have B3 := hide (Blk.new w1 27 #[.int .i64 0, .int .i64 0, .int .i64 0])
      replace hb := hide (hb.out.alloc hb.out.size (.cells #[.int .i64 0, .int .i64 0, .int .i64 0] 27))
      obtain ⟨g, hg⟩ : ∃ g, g = w1.heap.size := ⟨_, rfl⟩
      rw [← hg] at B3 hl1 ⊢
      clear hg c0 c1 c2 c3
      go_loopw [4, 5] (fun t i wr => ∃ (k : Nat) (x y z tt : Int), (k : Int) ≤ n * 16 ∧ i = .int .i64 (1 + (k : Int)) ∧ t = .int .i64 tt ∧ tiersAt D L k x y z tt ∧ Blk wr g 27 #[.int .i64 x, .int .i64 y, .int .i64 z] ∧
        Blk wr w.heap.size 23 #[.int .i64 D, .int .i64 L, .int .i64 V, .int .i64 S] ∧ Below w.heap.size w wr) (fun _ i _ => (n * 16 + 1 - intOf i).toNat)
      case atStart => exact ⟨0, 0, 0, 0, 0, by omega, rfl, rfl, .inl ⟨by omega, rfl, rfl, rfl, rfl⟩, B3.out, B1.out, hb.out⟩
      case round =>
        clear B1 B3 hb
        obtain ⟨k, x, y, z, tt, hk, rfl, rfl, hT, B3, B1, hb⟩ := hrel
        obtain ⟨x0, x1, y0, y1, z0, z1, t0⟩ := tiersAt_bound hL (by omega) (by omega) hT
        replace B1 := hide B1; replace B3 := hide B3; replace hb := hide hb
        obtain ⟨c0, c1, c2, c3⟩ := blk4 B1.out
        by_cases hlt : (k : Int) < n * 16
        · have hst := tiersAt_step hL (by omega) (by omega) hT
          have hta := T.out k (by omega) hlt
          replace hT := hide hT
          rcases hst with ⟨h1, h2, hst⟩ | ⟨h1, h3, h2, hst⟩ | ⟨h1, h3, h2, hst⟩
          all_goals
            replace hst := hide hst
            first | rw [if_pos h1] at hta | rw [if_neg (by omega), if_pos h3] at hta | rw [if_neg (by omega), if_neg (by omega)] at hta
            have C2' := fun w => C2.out (1 + (k : Int)) w (WalkArith.wf_i64 (by omega))
            rw [hta] at C2'
            replace C2' := hide C2'
            clear hta
            go_wp2_with (first
              | (go_at_call 13; refine (unhide C1 _).mono ?_; rintro e w2 ⟨rfl, hb2⟩; replace hb := hide (nextB hb.out hb2); replace B1 := hide (B1.out.below hb2 B1.out.lt); replace B3 := hide (B3.out.below hb2 B3.out.lt); clear c0 c1 c2 c3 hb2; obtain ⟨c0, c1, c2, c3⟩ := blk4 B1.out)
              | (go_at_call 15; refine (unhide C2' _).mono ?_; rintro e w3 ⟨rfl, hb2⟩; replace hb := hide (nextB hb.out hb2); replace B1 := hide (B1.out.below hb2 B1.out.lt); replace B3 := hide (B3.out.below hb2 B3.out.lt); clear c0 c1 c2 c3 hb2; obtain ⟨d0, d1, d2⟩ := blk3 B3.out; obtain ⟨f0, f1, f2⟩ := frz3 B3.out))
            go_roundw
            case rel => exact ⟨k + 1, _, _, _, _, by omega, by go_num, rfl, by have := hst.out; simpa using this, B3.out.put _ _, B1.out.far (by simp; omega) _, hb.out.setCell (by simp; omega) _⟩
            case measure => simp [intOf]; omega
        · obtain ⟨rfl, rfl, rfl⟩ := tiersAt_end (p := 16 * V * S) hL (by omega) (by have := Hp.out; omega) hp0 hT
          clear hT
          go_wp2_with (first
            | (go_at_call 13; refine (unhide C1 _).mono ?_; rintro e w2 ⟨rfl, hb2⟩; replace hb := hide (nextB hb.out hb2); replace B1 := hide (B1.out.below hb2 B1.out.lt); replace B3 := hide (B3.out.below hb2 B3.out.lt); clear c0 c1 c2 c3 hb2; obtain ⟨c0, c1, c2, c3⟩ := blk4 B1.out; obtain ⟨d0, d1, d2⟩ := blk3 B3.out)
            | (go_at_call 14; refine (awake_any _).mono ?_; rintro e w7 ⟨rfl, hb6⟩))
          go_ret
          exact ⟨rfl, nextB hb.out hb6⟩
    · unfold mayG at h
      obtain ⟨hD, _, hL, hL2, hV, hV8, hS, hS2⟩ := h
      replace C := hide C
      go_enter Try.func4, Try.ntmps4
      go_wp2_with (first
        | (go_at_call 11; refine (unhide C _).mono ?_; rintro e w1 ⟨rfl, hb1⟩; have B1 := hide (blk1G hb1); have hb := hide (nextB box1 hb1); clear hb1; obtain ⟨c0, c1, c2, c3⟩ := blk4 B1.out; have hl1 := B1.out.lt)
        | (go_at_call 14; refine (awake_any _).mono ?_; rintro e w7 ⟨rfl, hb6⟩))
      go_ret
      exact ⟨rfl, nextB hb.out hb6⟩
    · unfold mayG at h
      obtain ⟨hD, _, hL, hL2, hV, hV8, hS, hS2⟩ := h
      replace C := hide C
      go_enter Try.func4, Try.ntmps4
      go_wp2_with (first
        | (go_at_call 11; refine (unhide C _).mono ?_; rintro e w1 ⟨rfl, hb1⟩; have B1 := hide (blk1G hb1); have hb := hide (nextB box1 hb1); clear hb1; obtain ⟨c0, c1, c2, c3⟩ := blk4 B1.out; have hl1 := B1.out.lt)
        | (go_at_call 14; refine (awake_any _).mono ?_; rintro e w7 ⟨rfl, hb6⟩))
      go_ret
      exact ⟨rfl, nextB hb.out hb6⟩
  · rw [decide_eq_false h] at C
    replace C := hide C
    clear h
    go_enter Try.func4, Try.ntmps4
    go_wp2_with (first
      | (go_at_call 11; refine (unhide C _).mono ?_; rintro e w1 ⟨rfl, hb1⟩; have B1 := hide (blk1G hb1); have hb := hide (nextB box1 hb1); clear hb1; obtain ⟨c0, c1, c2, c3⟩ := blk4 B1.out; have hl1 := B1.out.lt)
      | (go_at_call 14; refine (awake_any _).mono ?_; rintro e w7 ⟨rfl, hb6⟩))
    go_ret
    exact ⟨rfl, nextB hb.out hb6⟩
end Go.Proofs.Ytpebccffkmkpoaa
