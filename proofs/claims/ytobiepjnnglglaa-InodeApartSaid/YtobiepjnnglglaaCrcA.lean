import Derived.Test.YtobiepjnnglglaaRows
import Derived.Test.YtobiepjnnglglaaBase
import Derived.Test.YtobiepjnnglglaaPlain2
namespace Go.Proofs.Ytobiepjnnglglaa
open Go.RowKit

def u32v (x : W32) : Value := .int .u32 (x.toNat : Int)

set_option maxHeartbeats 400000 in
theorem steps_any (x : W32) (n : Nat) (w : World) (hn : n ≤ 4294967296) :
    Calls Try.prog 41 #[.int .u32 (x.toNat : Int), .int .i64 n] w fun e w' => e = .returned (.int .u32 ((stepN n x).toNat : Int)) ∧ w = w' := by
  go_enter Try.func41, Try.ntmps41
  go_wp2_with fail
  go_loop [0, 5] (fun v i => ∃ k : Nat, k ≤ n ∧ i = .int .i64 k ∧ v = .int .u32 ((stepN k x).toNat : Int)) (fun _ i => n - (intOf i).toNat)
  case atStart => exact ⟨0, Nat.zero_le _, rfl, rfl⟩
  case round =>
    obtain ⟨k, hk, rfl, rfl⟩ := hrel
    have hy : (stepN k x).toNat < 4294967296 := (stepN k x).isLt
    have HS := hide (stepN_succ k x)
    obtain ⟨y, hyy⟩ : ∃ y, stepN k x = y := ⟨_, rfl⟩
    rw [hyy] at HS hy ⊢
    have Hy := hide hyy; clear hyy
    by_cases hlt : k < n
    · by_cases ho : y.toNat % 2 = 1
      · have ho1 : ((y.toNat : Int) % 2 == 1) = true := by simp; omega
        have Ho := hide ho; clear ho
        go_wp2_with fail
        go_round
        case rel => exact ⟨k + 1, by omega, by go_num, ret_u64 (by rw [HS.out]; exact step1_odd y Ho.out)⟩
        case measure => simp [intOf]; omega
      · have ho1 : ((y.toNat : Int) % 2 == 1) = false := by simp; omega
        have Ho := hide ho; clear ho
        go_wp2_with fail
        go_round
        case rel => exact ⟨k + 1, by omega, by go_num, ret_u64 (by rw [HS.out]; exact step1_even y Ho.out)⟩
        case measure => simp [intOf]; omega
    · obtain rfl : k = n := by omega
      go_wp2_with fail
      go_ret
      exact ⟨ret_int (by rw [Hy.out]), rfl⟩

set_option maxHeartbeats 400000 in
theorem half_any (n : Int) (w : World) (h0 : 0 ≤ n) (h15 : n ≤ 15) :
    Calls Try.prog 49 #[.int .i64 n] w fun e w' => e = .returned (.int .u32 ((half n.toNat).toNat : Int)) ∧ w = w' := by
  obtain ⟨n, rfl⟩ := Int.eq_ofNat_of_zero_le h0
  rw [Int.toNat_natCast]
  go_enter Try.func49, Try.ntmps49
  go_wp2_with fail
  go_loop [3, 12] (fun v i => ∃ k : Nat, k ≤ 4 ∧ i = .int .i64 k ∧ v = .int .u32 ((stepN k (BitVec.ofNat 32 n)).toNat : Int)) (fun _ i => 4 - (intOf i).toNat)
  case atStart => exact ⟨0, Nat.zero_le _, rfl, ret_u64 (by simp [stepN]; omega)⟩
  case round =>
    obtain ⟨k, hk, rfl, rfl⟩ := hrel
    have HS := hide (stepN_succ k (BitVec.ofNat 32 n))
    obtain ⟨y, hyy⟩ : ∃ y, stepN k (BitVec.ofNat 32 n) = y := ⟨_, rfl⟩
    rw [hyy] at HS ⊢
    have Hy := hide hyy; clear hyy
    have hy : y.toNat < 4294967296 := y.isLt
    by_cases hlt : k < 4
    · go_wp2_with fail
      go_round
      case rel => exact ⟨k + 1, by omega, by go_num, ret_u64 (by rw [HS.out]; exact step1_mul y)⟩
      case measure => simp [intOf]; omega
    · obtain rfl : k = 4 := by omega
      go_wp2_with fail
      go_ret
      exact ⟨ret_int (by rw [← Hy.out]; rfl), rfl⟩
set_option maxHeartbeats 400000 in
theorem half_no (n : Int) (w : World) (h : n < 0 ∨ 15 < n) :
    Calls Try.prog 49 #[.int .i64 n] w fun e w' => e = .returned (.int .u32 0) ∧ w = w' := by
  rcases h with h | h
  · go_enter Try.func49, Try.ntmps49
    go_wp2_with fail
    go_ret
    exact ⟨rfl, rfl⟩
  · go_enter Try.func49, Try.ntmps49
    go_wp2_with fail
    go_ret
    exact ⟨rfl, rfl⟩
end Go.Proofs.Ytobiepjnnglglaa
