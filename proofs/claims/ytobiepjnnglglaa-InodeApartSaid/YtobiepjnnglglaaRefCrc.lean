import Derived.Test.YtobiepjnnglglaaHalves
namespace Go.Proofs.Ytobiepjnnglglaa
open Go.RowKit
set_option maxRecDepth 100000 in
set_option maxHeartbeats 400000 in
theorem refSum_any (s : ByteArray) (w : World) (hs : s.size ≤ 4294967296) :
    Calls Try.prog 19 #[.string s] w fun e w' => e = .returned (.int .u32 ((crc s.data.toList).toNat : Int)) ∧ w = w' := by
  go_enter Try.func19, Try.ntmps19
  go_wp2_with fail
  go_loop [3, 4] (fun v i => ∃ k : Nat, k ≤ s.size ∧ i = .int .i64 k ∧ v = .int .u32 ((regW 0xffffffff#32 (s.data.toList.take k)).toNat : Int)) (fun _ i => s.size - (intOf i).toNat)
  case atStart => exact ⟨0, Nat.zero_le _, rfl, rfl⟩
  case round =>
    obtain ⟨k, hk, rfl, rfl⟩ := hrel
    by_cases hlt : k < s.size
    · obtain ⟨c, hc⟩ : ∃ c, c = s[k] := ⟨_, rfl⟩
      have hs1 := regW_take_succ 0xffffffff#32 s.data.toList k c (by rw [hc]; exact bytes_get s k hlt)
      have Hs := hide hs1; clear hs1
      obtain ⟨y, hy⟩ : ∃ y, y = regW 0xffffffff#32 (s.data.toList.take k) := ⟨_, rfl⟩
      rw [← hy] at Hs ⊢
      clear hy
      have hz0 := byte_u32 y c
      have hy_lt : y.toNat < 4294967296 := y.isLt
      have hc_lt : c.toNat < 256 := c.toNat_lt
      obtain ⟨z, hz⟩ : ∃ z, z = y ^^^ BitVec.ofNat 32 c.toNat := ⟨_, rfl⟩
      rw [← hz] at hz0
      have Hz := hide hz; clear hz
      rw [hc] at hz0 hc_lt
      clear hc
      go_wp2_with (go_at_call 41; refine (steps_any z 8 _ (by decide)).mono ?_; rintro e w' ⟨rfl, rfl⟩)
      go_round
      case rel => exact ⟨k + 1, by omega, by go_num, ret_u64 (by rw [Hs.out, Hz.out]; rfl)⟩
      case measure => simp [intOf]; omega
    · obtain rfl : k = s.size := by omega
      have hy_lt : (regW 0xffffffff#32 (s.data.toList.take s.size)).toNat < 4294967296 := BitVec.isLt _
      go_wp2_with fail
      go_ret
      refine ⟨ret_int ?_, rfl⟩
      have hw : s.data.toList.take s.size = s.data.toList := List.take_of_length_le (Nat.le_of_eq (by rw [Array.length_toList]; rfl))
      rw [hw]
      exact sub_u32 _
end Go.Proofs.Ytobiepjnnglglaa
