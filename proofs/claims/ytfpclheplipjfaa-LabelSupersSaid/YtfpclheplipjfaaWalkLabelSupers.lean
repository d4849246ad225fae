import Derived.Test.YtfpclheplipjfaaLabG
import Derived.Test.YtfpclheplipjfaaPlainT
import Derived.Test.YtfpclheplipjfaaOpenG2
namespace Go.Proofs.Ytfpclheplipjfaa
open Go.RowKit
set_option maxRecDepth 100000 in
set_option maxHeartbeats 8000000 in
theorem walk_LabelSupers (q : Int × Int × Int × Int) (w : World) (h0 : i64ok q.1 ∧ i64ok q.2.1 ∧ i64ok q.2.2.1 ∧ i64ok q.2.2.2) :
    Calls Try.prog 4 #[.agg #[.int .i64 q.1, .int .i64 q.2.1, .int .i64 q.2.2.1, .int .i64 q.2.2.2]] w fun e w' => e = .returned (.bool true) ∧ Below w.heap.size w w' := by
  obtain ⟨D, L, V, S⟩ := q
  simp only at h0 ⊢
  have C := fun w => super_any D L V S w h0
  have M := fun w => mayRef_any D L V S w
  have B0 := hide (Blk.new w 23 #[.int .i64 D, .int .i64 L, .int .i64 V, .int .i64 S])
  by_cases h : mayG D L V S
  · rw [decide_eq_true h] at M
    have hr : superR D L V S = (superB D L V S, 0) := if_pos h
    rw [hr] at C
    have h2 := h
    unfold mayG at h2
    obtain ⟨D, rfl⟩ := Int.eq_ofNat_of_zero_le (show 0 ≤ D by omega)
    obtain ⟨L, rfl⟩ := Int.eq_ofNat_of_zero_le (show 0 ≤ L by omega)
    obtain ⟨V, rfl⟩ := Int.eq_ofNat_of_zero_le (show 0 ≤ V by omega)
    obtain ⟨S, rfl⟩ := Int.eq_ofNat_of_zero_le (show 0 ≤ S by omega)
    have hl := superB_len D L V S
    have RL := fun w A c hx hc => readLabel_any A 128 c (superB D L V S) w hx hl hc
    have RS := fun w A c hx hc => readSuper_any A 128 c (superB D L V S) w hx hl hc
    rw [readL_super] at RL; rw [readS_super h] at RS
    have G := fun w => superRef_any D L V S w h
    generalize superB D L V S = R at C hl RL RS G
    replace M := hide M; replace C := hide C; replace RL := hide RL; replace RS := hide RS; replace G := hide G
    have hlH := hide hl
    clear hr h h0
    go_enter Try.func4, Try.ntmps4
    go_wp2_with (first
      | (go_at_call 7; (with_reducible refine (unhide C _).mono ?_); rintro e w1 ⟨A1, c1, rfl, hr1, hc1, hb1⟩; replace hr1 := hide hr1; have B1 := hide (B0.out.below hb1 B0.out.lt); have hb := hide (nextB box1 hb1); clear hb1; have hc2 : 128 ≤ c1 := (by have := hc1; simp only [hlH.out] at this; exact this); clear hc1; have k0 := B1.out.cell_ 0 _ rfl; have k1 := B1.out.cell_ 1 _ rfl; have k2 := B1.out.cell_ 2 _ rfl; have k3 := B1.out.cell_ 3 _ rfl)
      | (go_at_call 10; (with_reducible refine (unhide M _).mono ?_); rintro e w2 ⟨rfl, hb2⟩; clear k0 k1 k2 k3; replace hr1 := hide (hr1.out.on hb2); replace B1 := hide (B1.out.below hb2 B1.out.lt); replace hb := hide (nextB hb.out hb2); clear hb2)
      | (go_at_call 11; (with_reducible refine (unhide RS _ A1 c1 hr1.out hc2).mono ?_); rintro e w3 ⟨rfl, hb3⟩; replace hr1 := hide ((hr1.out.on hb3).alloc (.cells #[.int .i64 (D : Int), .int .i64 (L : Int), .int .i64 (V : Int), .int .i64 (S : Int)] 23)); replace B1 := hide ((B1.out.below hb3 B1.out.lt).alloc (.cells #[.int .i64 (D : Int), .int .i64 (L : Int), .int .i64 (V : Int), .int .i64 (S : Int)] 23)); have B5 := hide (Blk.new w3 23 #[.int .i64 (D : Int), .int .i64 (L : Int), .int .i64 (V : Int), .int .i64 (S : Int)]); replace hb := hide (nextB hb.out hb3); replace hb := hide (hb.out.alloc hb.out.size (.cells #[.int .i64 (D : Int), .int .i64 (L : Int), .int .i64 (V : Int), .int .i64 (S : Int)] 23)); clear hb3)
      | (go_at_call 12; (with_reducible refine (unhide RL _ A1 c1 hr1.out hc2).mono ?_); rintro e w4 ⟨rfl, hb4⟩; replace hr1 := hide (hr1.out.on hb4); replace B1 := hide (B1.out.below hb4 B1.out.lt); replace B5 := hide (B5.out.below hb4 B5.out.lt); replace hb := hide (nextB hb.out hb4); clear hb4))
    have s1 := fun y : Ext w4 => run_str (P := Try.prog) (n := 128) (c := c1) 28 9 5 Try.underlying28 Try.underlying5 Try.underlying9 (hr1.out.on y.h) hlH.out
    have p0 := fun y : Ext w4 => (B1.out.below y.h B1.out.lt).cell_ 0 _ rfl
    have p1 := fun y : Ext w4 => (B1.out.below y.h B1.out.lt).cell_ 1 _ rfl
    have p2 := fun y : Ext w4 => (B1.out.below y.h B1.out.lt).cell_ 2 _ rfl
    have p3 := fun y : Ext w4 => (B1.out.below y.h B1.out.lt).cell_ 3 _ rfl
    have q0 := fun y : Ext w4 => (B5.out.below y.h B5.out.lt).cell_ 0 _ rfl
    have q1 := fun y : Ext w4 => (B5.out.below y.h B5.out.lt).cell_ 1 _ rfl
    have q2 := fun y : Ext w4 => (B5.out.below y.h B5.out.lt).cell_ 2 _ rfl
    have q3 := fun y : Ext w4 => (B5.out.below y.h B5.out.lt).cell_ 3 _ rfl
    refine wp_region_ext w4 (by kernel_rfl) (by kernel_rfl) (Below.refl _ _) ?_
    repeat (first | go_big_quiet_step ((first | (first | (go_at_call 13; exact Ext.call _ (unhide G _)) | (go_at_call 9; exact Ext.call _ (awake_any _))))) | quiet_step ((first | (first | (go_at_call 13; exact Ext.call _ (unhide G _)) | (go_at_call 9; exact Ext.call _ (awake_any _))))))
    refine wpQuiet_nil ?_
    intro wx hw'
    obtain ⟨⟨_, hx⟩, rfl⟩ := hw'
    clear s1 p0 p1 p2 p3 q0 q1 q2 q3
    go_wp2_with fail
    go_ret
    exact ⟨rfl, nextB hb.out hx⟩
  · rw [decide_eq_false h] at M
    have hr : superR D L V S = ([], 1) := if_neg h
    rw [hr] at C
    replace M := hide M; replace C := hide C
    clear hr h h0
    go_enter Try.func4, Try.ntmps4
    go_wp2_with (first
      | (go_at_call 7; (with_reducible refine (unhide C _).mono ?_); rintro e w1 ⟨A1, c1, rfl, _, _, hb1⟩; have B1 := hide (B0.out.below hb1 B0.out.lt); have hb := hide (nextB box1 hb1); clear hb1; have k0 := B1.out.cell_ 0 _ rfl; have k1 := B1.out.cell_ 1 _ rfl; have k2 := B1.out.cell_ 2 _ rfl; have k3 := B1.out.cell_ 3 _ rfl)
      | (go_at_call 10; (with_reducible refine (unhide M _).mono ?_); rintro e w2 ⟨rfl, hb2⟩; clear k0 k1 k2 k3; replace hb := hide (nextB hb.out hb2); clear hb2)
      | (go_at_call 9; (with_reducible refine (awake_any _).mono ?_); rintro e w5 ⟨rfl, hb5⟩))
    go_ret
    exact ⟨rfl, nextB hb.out hb5⟩
end Go.Proofs.Ytfpclheplipjfaa
