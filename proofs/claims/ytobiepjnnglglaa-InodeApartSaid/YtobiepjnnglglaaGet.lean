import Derived.Test.YtobiepjnnglglaaRows
import Derived.Test.YtobiepjnnglglaaBase
import Derived.Test.YtobiepjnnglglaaPlain1
namespace Go.Proofs.Ytobiepjnnglglaa
open Go.RowKit

set_option maxHeartbeats 400000 in
theorem get_any (s : ByteArray) (p n : Nat) (w : World) (hn : n ≤ 8) (hp : p + n ≤ s.size) (hs : s.size ≤ 4294967296) :
    Calls Try.prog 39 #[.string s, .int .i64 p, .int .i64 n] w fun e w' => e = .returned (.int .u64 (beN ((s.data.toList.drop p).take n) : Nat)) ∧ w = w' := by
  go_enter Try.func39, Try.ntmps39
  go_wp2
  go_loop [7, 8] (fun v i => ∃ k : Nat, k ≤ n ∧ i = .int .i64 k ∧ v = .int .u64 (beN ((s.data.toList.drop p).take k) : Nat)) (fun _ i => n - (intOf i).toNat)
  case atStart => exact ⟨0, Nat.zero_le _, rfl, rfl⟩
  case round =>
    obtain ⟨k, hk, rfl, rfl⟩ := hrel
    by_cases hlt : k < n
    · have hi : (p : Int) + k < s.size := by omega
      go_wp2
      go_round
      case rel => exact ⟨k + 1, by omega, by go_num, ret_u64 (beN_step _ k s[p + k] (by rw [List.getElem?_drop]; exact bytes_get s _ (by omega)) (by omega))⟩
      case measure => simp [intOf]; omega
    · obtain rfl : k = n := by omega
      go_wp2
      go_ret
      exact ⟨rfl, rfl⟩
end Go.Proofs.Ytobiepjnnglglaa
