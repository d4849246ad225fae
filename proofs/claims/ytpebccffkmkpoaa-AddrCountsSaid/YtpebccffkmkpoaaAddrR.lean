import Derived.Test.YtpebccffkmkpoaaAddrN
import Derived.Test.YtpebccffkmkpoaaAddrO
import Derived.Test.YtpebccffkmkpoaaAddrD
namespace Go.Proofs.Ytpebccffkmkpoaa
open Go.RowKit

set_option maxHeartbeats 1000000 in
theorem countRef_any (D L V S : Int) (w : World) (h : mayG D L V S) :
    Calls Try.prog 10 #[.agg #[.int .i64 D, .int .i64 L, .int .i64 V, .int .i64 S]] w fun e w' => e = .returned (.int .i64 (segsG D L V S)) ∧ Below w.heap.size w w' := by
  unfold segsG
  rw [if_pos h]
  unfold mayG at h
  obtain ⟨hD, hD2, _, _, hV, hV8, hS, hS2⟩ := h
  obtain ⟨v, rfl⟩ := Int.eq_ofNat_of_zero_le hV
  go_enter Try.func10, Try.ntmps10
  go_wp2_with fail
  go_loop [3, 4] (fun n i => ∃ k : Nat, k ≤ v ∧ i = .int .i64 k ∧ n = .int .i64 (D + (k : Int) * S)) (fun _ i => v - (intOf i).toNat)
  case atStart => exact ⟨0, Nat.zero_le _, rfl, by simp⟩
  case round =>
    obtain ⟨k, hk, rfl, rfl⟩ := hrel
    obtain ⟨m0, m1⟩ := prod_small (v := k) (s := S) (V := v) (S := S) (by omega) (by omega) hV8 (by omega) (Int.le_refl _) hS2
    have he : D + ((k + 1 : Nat) : Int) * S = D + (k : Int) * S + S := by rw [Int.natCast_succ, Int.add_mul]; omega
    by_cases hlt : k < v
    · have He := hide he; clear he
      obtain ⟨m, hm⟩ : ∃ m, (k : Int) * S = m := ⟨_, rfl⟩
      rw [hm] at He m0 m1 ⊢
      clear hm
      go_wp2_with fail
      go_round
      case rel => exact ⟨k + 1, by omega, by go_num, ret_u64 He.out.symm⟩
      case measure => simp [intOf]; omega
    · obtain rfl : k = v := by omega
      clear he
      go_wp2_with fail
      go_ret
      exact ⟨rfl, box1⟩

set_option maxHeartbeats 4000000 in
theorem ofRef_any (D L V S v s o : Int) (w : World) (h : mayG D L V S) :
    Calls Try.prog 21 #[.agg #[.int .i64 D, .int .i64 L, .int .i64 V, .int .i64 S], .agg #[.int .i64 v, .int .i64 s, .int .i64 o]] w fun e w' => e = .returned (.int .i64 (if isP D V S v s o then 1 + numG D S v s * 16 + o else 0)) ∧ Below w.heap.size w w' := by
  by_cases hp : isP D V S v s o
  · rw [if_pos hp]
    have hns := numG_small h hp
    have hsg := segsG_small h
    unfold mayG at h
    unfold isP at hp
    obtain ⟨hD, hD2, _, _, hV, hV8, hS, hS2⟩ := h
    obtain ⟨p1, p2, p3, p4, p5, p6⟩ := hp
    by_cases hv : v < 0
    · obtain rfl : v = -1 := by omega
      rw [if_pos rfl] at p4
      have hnum : numG D S (-1) s = s := rfl
      rw [hnum]
      clear hns hsg
      go_enter Try.func21, Try.ntmps21
      go_wp2_with fail
      go_loop [5, 6] (fun n i => i = .int .i64 0 ∧ n = .int .i64 s) (fun _ i => 0)
      case atStart => exact ⟨rfl, rfl⟩
      case round =>
        obtain ⟨rfl, rfl⟩ := hrel
        go_wp2_with fail
        go_ret
        exact ⟨ret_int (by omega), box2⟩
    · rw [if_neg (by omega)] at p4
      obtain ⟨v, rfl⟩ := Int.eq_ofNat_of_zero_le (show 0 ≤ v by omega)
      have hnum : numG D S v s = D + v * S + s := if_neg hv
      rw [hnum]
      clear hns hsg hnum
      have E := hide (show 1 + (D + (v : Int) * S + s) * 16 + o = 16 * (s + D + (v : Int) * S) + o + 1 by omega)
      rw [E.out]
      have hsm := prod_small (v := v) (s := S) (V := V) (S := S) (by omega) (by omega) hV8 (by omega) (Int.le_refl _) hS2
      go_enter Try.func21, Try.ntmps21
      go_wp2_with fail
      go_loop [5, 6] (fun n i => ∃ k : Nat, k ≤ v ∧ i = .int .i64 k ∧ n = .int .i64 (s + D + (k : Int) * S)) (fun _ i => v - (intOf i).toNat)
      case atStart => exact ⟨0, Nat.zero_le _, rfl, by simp⟩
      case round =>
        obtain ⟨k, hk, rfl, rfl⟩ := hrel
        obtain ⟨m0, m1⟩ := prod_small (v := k) (s := S) (V := v) (S := S) (by omega) (by omega) (by omega) (by omega) (Int.le_refl _) hS2
        have he : s + D + ((k + 1 : Nat) : Int) * S = s + D + (k : Int) * S + S := by rw [Int.natCast_succ, Int.add_mul]; omega
        by_cases hlt : k < v
        · have He := hide he; clear he
          obtain ⟨m, hm⟩ : ∃ m, (k : Int) * S = m := ⟨_, rfl⟩
          rw [hm] at He m0 m1 ⊢
          clear hm hsm E
          go_wp2_with fail
          go_round
          case rel => exact ⟨k + 1, by omega, by go_num, ret_u64 He.out.symm⟩
          case measure => simp [intOf]; omega
        · obtain rfl : k = v := by omega
          clear he E
          obtain ⟨m, hm⟩ : ∃ m, (k : Int) * S = m := ⟨_, rfl⟩
          rw [hm] at m0 m1 ⊢
          have Hm := hide hm; clear hm hsm
          go_wp2_with fail
          go_ret
          exact ⟨ret_int (by rw [Hm.out]), box2⟩
  · rw [if_neg hp]
    have hc : v < -1 ∨ (¬ v < -1 ∧ V ≤ v) ∨ (¬ v < -1 ∧ ¬ V ≤ v ∧ s < 0) ∨ (¬ v < -1 ∧ ¬ V ≤ v ∧ ¬ s < 0 ∧ o < 0) ∨ (¬ v < -1 ∧ ¬ V ≤ v ∧ ¬ s < 0 ∧ ¬ o < 0 ∧ 15 < o) ∨
        (¬ v < -1 ∧ ¬ V ≤ v ∧ ¬ s < 0 ∧ ¬ o < 0 ∧ ¬ 15 < o ∧ v < 0 ∧ D ≤ s) ∨ (¬ v < -1 ∧ ¬ V ≤ v ∧ ¬ s < 0 ∧ ¬ o < 0 ∧ ¬ 15 < o ∧ ¬ v < 0 ∧ S ≤ s) := by
      unfold isP at hp
      by_cases hv : v = -1
      · rw [if_pos hv] at hp; omega
      · rw [if_neg hv] at hp; omega
    clear hp h
    rcases hc with h1 | ⟨h1, h2⟩ | ⟨h1, h2, h3⟩ | ⟨h1, h2, h3, h4⟩ | ⟨h1, h2, h3, h4, h5⟩ | ⟨h1, h2, h3, h4, h5, h6, h7⟩ | ⟨h1, h2, h3, h4, h5, h6, h7⟩
    all_goals
      go_enter Try.func21, Try.ntmps21
      go_wp2_with fail
      go_ret
      exact ⟨rfl, box2⟩
end Go.Proofs.Ytpebccffkmkpoaa
