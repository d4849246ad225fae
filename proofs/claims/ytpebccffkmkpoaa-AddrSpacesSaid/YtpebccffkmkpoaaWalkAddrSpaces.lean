import Derived.Test.YtpebccffkmkpoaaAddrV
import Derived.Test.YtpebccffkmkpoaaAddrW
import Derived.Test.YtpebccffkmkpoaaOpenG
namespace Go.Proofs.Ytpebccffkmkpoaa
open Go.RowKit

set_option maxHeartbeats 2000000 in
theorem walk_AddrSpaces (s : Int × Int × Int × Int) (w : World) (_hs : i64ok s.1 ∧ i64ok s.2.1 ∧ i64ok s.2.2.1 ∧ i64ok s.2.2.2) :
    Calls Try.prog 3 #[.agg #[.int .i64 s.1, .int .i64 s.2.1, .int .i64 s.2.2.1, .int .i64 s.2.2.2]] w fun e w' => e = .returned (.bool true) ∧ Below w.heap.size w w' := by
  obtain ⟨D, L, V, S⟩ := s
  simp only
  have C := fun w => mayRef_any D L V S w
  have C1 := fun w => may_any D L V S w
  have C2 := fun w => segments_any D L V S w
  have C3 := fun w => blocks_any D L V S w
  have C4 := fun w => countRef_any D L V S w
  have hs := segsG_bound D L V S
  by_cases h : mayG D L V S
  · rw [decide_eq_true h] at C C1
    have C4 := hide (fun w => C4 w h)
    obtain ⟨n, hn⟩ : ∃ n, segsG D L V S = n := ⟨_, rfl⟩
    rw [hn] at C2 C3 C4 hs
    have C := hide C; have C1 := hide C1; have C2 := hide C2; have C3 := hide C3
    clear h hn
    obtain ⟨hs0, hs1⟩ := hs
    have E1 : n * 16 = 16 * n := by omega
    rw [E1] at C3
    clear E1
    go_enter Try.func3, Try.ntmps3
    go_wp2_with (first
      | (go_at_call 9; refine (unhide C _).mono ?_; rintro e w1 ⟨rfl, hb1⟩; have B1 := hide (blk1G hb1); have hb := hide (nextB box1 hb1); clear hb1; obtain ⟨c0, c1, c2, c3⟩ := blk4 B1.out)
      | (go_at_call 10; refine (unhide C4 _).mono ?_; rintro e w2 ⟨rfl, hb2⟩; replace hb := hide (nextB hb.out hb2); replace B1 := hide (B1.out.below hb2 B1.out.lt); clear c0 c1 c2 c3 hb2; obtain ⟨c0, c1, c2, c3⟩ := ext4 B1.out))
    refine wp_region_ext w2 (by kernel_rfl) (by kernel_rfl) (Below.refl _ _) ?_
    repeat (first
      | go_big_quiet_step (first | (go_at_call 11; exact Ext.call _ (unhide C1 _)) | (go_at_call 9; exact Ext.call _ (unhide C _)) | (go_at_call 12; exact Ext.call _ (unhide C2 _)) | (go_at_call 13; exact Ext.call _ (unhide C3 _)) | (go_at_call 14; exact Ext.call _ (awake_any _)))
      | quiet_step (first | (go_at_call 11; exact Ext.call _ (unhide C1 _)) | (go_at_call 9; exact Ext.call _ (unhide C _)) | (go_at_call 12; exact Ext.call _ (unhide C2 _)) | (go_at_call 13; exact Ext.call _ (unhide C3 _)) | (go_at_call 14; exact Ext.call _ (awake_any _))))
    refine wpQuiet_nil ?_
    intro _ hw'
    obtain ⟨⟨wx, hx⟩, rfl⟩ := hw'
    go_wp2_with fail
    go_ret
    exact ⟨rfl, nextB hb.out hx⟩
  · rw [decide_eq_false h] at C C1
    have hn : segsG D L V S = 0 := if_neg h
    rw [hn] at C2 C3
    have C := hide C; have C1 := hide C1; have C2 := hide C2; have C3 := hide C3
    clear h hn hs C4
    go_enter Try.func3, Try.ntmps3
    go_wp2_with (go_at_call 9; refine (unhide C _).mono ?_; rintro e w1 ⟨rfl, hb1⟩; have B1 := hide (blk1G hb1); have hb := hide (nextB box1 hb1); clear hb1; obtain ⟨c0, c1, c2, c3⟩ := ext4 B1.out)
    refine wp_region_ext w1 (by kernel_rfl) (by kernel_rfl) (Below.refl _ _) ?_
    repeat (first
      | go_big_quiet_step (first | (go_at_call 11; exact Ext.call _ (unhide C1 _)) | (go_at_call 9; exact Ext.call _ (unhide C _)) | (go_at_call 12; exact Ext.call _ (unhide C2 _)) | (go_at_call 13; exact Ext.call _ (unhide C3 _)) | (go_at_call 14; exact Ext.call _ (awake_any _)))
      | quiet_step (first | (go_at_call 11; exact Ext.call _ (unhide C1 _)) | (go_at_call 9; exact Ext.call _ (unhide C _)) | (go_at_call 12; exact Ext.call _ (unhide C2 _)) | (go_at_call 13; exact Ext.call _ (unhide C3 _)) | (go_at_call 14; exact Ext.call _ (awake_any _))))
    refine wpQuiet_nil ?_
    intro _ hw'
    obtain ⟨⟨wx, hx⟩, rfl⟩ := hw'
    go_wp2_with fail
    go_ret
    exact ⟨rfl, nextB hb.out hx⟩
end Go.Proofs.Ytpebccffkmkpoaa
