import Derived.Test.YtfpclheplipjfaaLabG
import Derived.Test.YtfpclheplipjfaaPlainT
import Derived.Test.YtfpclheplipjfaaOpen
namespace Go.Proofs.Ytfpclheplipjfaa
open Go.RowKit
set_option maxRecDepth 100000 in
set_option maxHeartbeats 8000000 in
theorem walk_LabelVolumes (vol gen : Int) (w : World) (h0 : (Lit.int .i64 vol).wf = true) (h1 : (Lit.int .i64 gen).wf = true) :
    Calls Try.prog 5 #[.int .i64 vol, .int .i64 gen] w fun e w' => e = .returned (.bool true) ∧ Below w.heap.size w w' := by
  simp [Lit.wf, IntKind.min, IntKind.max, IntKind.bits, IntKind.signed] at h0 h1
  have L := fun w => label_any vol gen w (by omega) (by omega)
  have M := fun w => mayLRef_any vol gen w
  by_cases h : mayL vol gen
  · rw [decide_eq_true h] at M
    have hr : labelR vol gen = (labelB vol gen, 0) := if_pos h
    rw [hr] at L
    have h2 := h
    unfold mayL at h2
    obtain ⟨v, rfl⟩ := Int.eq_ofNat_of_zero_le (show 0 ≤ vol by omega)
    obtain ⟨g, rfl⟩ := Int.eq_ofNat_of_zero_le (show 0 ≤ gen by omega)
    have hl := labelB_len v g
    have RL := fun w A c hx hc => readLabel_any A 128 c (labelB v g) w hx hl hc
    have RS := fun w A c hx hc => readSuper_any A 128 c (labelB v g) w hx hl hc
    rw [readL_label h] at RL; rw [readS_label] at RS
    have G := fun w => labelRef_any v g w h
    generalize labelB v g = R at L hl RL RS G
    replace M := hide M; replace L := hide L; replace RL := hide RL; replace RS := hide RS; replace G := hide G
    have hlH := hide hl
    clear hr h
    go_enter Try.func5, Try.ntmps5
    go_wp2_with (first
      | (go_at_call 8; (with_reducible refine (unhide L _).mono ?_); rintro e w1 ⟨A1, c1, rfl, hr1, hc1, hb1⟩; replace hr1 := hide hr1; have hb := hide hb1; clear hb1; have hc2 : 128 ≤ c1 := (by have := hc1; simp only [hlH.out] at this; exact this); clear hc1)
      | (go_at_call 14; (with_reducible refine (unhide M _).mono ?_); rintro e w2 ⟨rfl, rfl⟩)
      | (go_at_call 12; (with_reducible refine (unhide RL _ A1 c1 hr1.out hc2).mono ?_); rintro e w3 ⟨rfl, hb3⟩; replace hr1 := hide (hr1.out.on hb3); replace hb := hide (nextB hb.out hb3); clear hb3)
      | (go_at_call 11; (with_reducible refine (unhide RS _ A1 c1 hr1.out hc2).mono ?_); rintro e w4 ⟨rfl, hb4⟩; replace hr1 := hide (hr1.out.on hb4); replace hb := hide (nextB hb.out hb4); clear hb4))
    replace hr1 := hide (hr1.out.alloc (.cells #[.int .i64 0, .int .i64 0, .int .i64 0, .int .i64 0] 23))
    replace hb := hide (hb.out.alloc hb.out.size (.cells #[.int .i64 0, .int .i64 0, .int .i64 0, .int .i64 0] 23))
    generalize (w4.alloc _) = W at hr1 hb ⊢
    have s1 := fun y : Ext W => run_str (P := Try.prog) (n := 128) (c := c1) 28 9 5 Try.underlying28 Try.underlying5 Try.underlying9 (hr1.out.on y.h) hlH.out
    refine wp_region_ext W (by kernel_rfl) (by kernel_rfl) (Below.refl _ _) ?_
    repeat (first | go_big_quiet_step ((first | (first | (go_at_call 15; exact Ext.call _ (unhide G _)) | (go_at_call 9; exact Ext.call _ (awake_any _))))) | quiet_step ((first | (first | (go_at_call 15; exact Ext.call _ (unhide G _)) | (go_at_call 9; exact Ext.call _ (awake_any _))))))
    refine wpQuiet_nil ?_
    intro wx hw'
    obtain ⟨⟨_, hx⟩, rfl⟩ := hw'
    clear s1
    go_wp2_with fail
    go_ret
    exact ⟨rfl, nextB hb.out hx⟩
  · rw [decide_eq_false h] at M
    have hr : labelR vol gen = ([], 1) := if_neg h
    rw [hr] at L
    replace M := hide M; replace L := hide L
    clear hr h
    go_enter Try.func5, Try.ntmps5
    go_wp2_with (first
      | (go_at_call 8; (with_reducible refine (unhide L _).mono ?_); rintro e w1 ⟨A1, c1, rfl, _, _, hb1⟩)
      | (go_at_call 14; (with_reducible refine (unhide M _).mono ?_); rintro e w2 ⟨rfl, rfl⟩)
      | (go_at_call 9; (with_reducible refine (awake_any _).mono ?_); rintro e w5 ⟨rfl, hb5⟩))
    go_ret
    exact ⟨rfl, nextB hb1 hb5⟩
end Go.Proofs.Ytfpclheplipjfaa
