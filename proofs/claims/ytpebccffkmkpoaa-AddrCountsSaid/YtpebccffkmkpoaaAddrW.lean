import Derived.Test.YtpebccffkmkpoaaAddrS
namespace Go.Proofs.Ytpebccffkmkpoaa
open Go.RowKit

set_option maxHeartbeats 600000 in
theorem awake_any (w : World) :
    Calls Try.prog 14 #[] w fun e w' => e = .returned (.bool true) ∧ Below w.heap.size w w' := by
  have E1 : ofG 10 2 2 3 (-1) 0 0 = (1, 0) := by decide +kernel
  have E2 : ofG 10 2 2 3 0 0 0 = (161, 0) := by decide +kernel
  have E3 : ofG 10 2 2 3 1 2 15 = (256, 0) := by decide +kernel
  have E4 : tierG 10 2 2 3 128 = 0 := by decide +kernel
  have E5 : tierG 10 2 2 3 129 = 1 := by decide +kernel
  have E6 : tierG 10 2 2 3 161 = 2 := by decide +kernel
  have E7 : segsG 10 2 2 3 = 16 := by decide +kernel
  have hb := hide (Below.refl w.heap.size w)
  go_enter Try.func14, Try.ntmps14
  go_wp2_with (first
    | (go_at_call 25; refine (some_any _).mono ?_; rintro e w1 ⟨rfl, hb1⟩; replace hb := hide (nextB hb.out hb1); clear hb1)
    | (go_at_call 19; refine (of_any _ _ _ _ _ _ _ _).mono ?_; rintro e w1 ⟨rfl, hb1⟩; replace hb := hide (nextB hb.out hb1); clear hb1)
    | (go_at_call 15; refine (tier_any _ _ _ _ _ _ (by decide +kernel)).mono ?_; rintro e w1 ⟨rfl, hb1⟩; replace hb := hide (nextB hb.out hb1); clear hb1)
    | (go_at_call 12; refine (segments_any _ _ _ _ _).mono ?_; rintro e w1 ⟨rfl, hb1⟩; replace hb := hide (nextB hb.out hb1); clear hb1))
  go_ret
  exact ⟨rfl, hb.out⟩
end Go.Proofs.Ytpebccffkmkpoaa
