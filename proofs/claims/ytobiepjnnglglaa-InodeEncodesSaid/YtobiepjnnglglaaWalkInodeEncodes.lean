import Derived.Test.YtobiepjnnglglaaInN
import Derived.Test.YtobiepjnnglglaaOpenJ
namespace Go.Proofs.Ytobiepjnnglglaa
open Go.RowKit
set_option maxRecDepth 100000 in
set_option maxHeartbeats 8000000 in
theorem walk_InodeEncodes (a0 a1 : Int) (x : Ino) (w : World) (_h0 : (Lit.int .i64 a0).wf = true) (_h1 : (Lit.int .i64 a1).wf = true) (h2 : InoIn x) :
    Calls Try.prog 3 #[.int .i64 a0, .int .i64 a1, .agg (inoC x).toArray] w fun e w' => e = .returned (.bool true) ∧ Below w.heap.size w w' := by
  obtain ⟨h9, hs⟩ := h2
  have LX : Hid (InoLen x) := hide h9
  have ZX := hide (inoC_len h9)
  have E := fun w => enc_any a0 x h9 hs w
  have M1 := fun w => may_any x h9 w
  have M2 := fun w => refMay_any x h9 w
  obtain ⟨r, hr⟩ : ∃ r, decide (mayIno x) = r := ⟨_, rfl⟩
  rw [hr] at M1 M2
  replace M1 := hide M1; replace M2 := hide M2
  have hz := ino_zero
  have c9 : ∀ (w2 : World), Blk (w2.alloc (.cells (inoC ino0).toArray 27)) w2.heap.size 27 (inoC ino0).toArray := fun w2 => Blk.new w2 _ _
  have awk := hide awake_any
  have B5 := hide (Blk.new w 27 (inoC x).toArray)
  have hb := hide (box1 (w := w) (o := .cells (inoC x).toArray 27))
  by_cases hm : mayE a0 x
  · have hr2 : r = true := by rw [← hr]; exact decide_eq_true hm.2
    subst hr2
    have he : encI a0 x = (inoB a0 x, 0) := if_pos hm
    have ER := fun w => refEnc_any a0 x h9 hs hm w
    have D1 := decI_enc h9 hm hs
    have DO := fun h => decI_other (other := a1) h9 hm hs h
    have i1 : decide (a0 < 1) = false := decide_eq_false (by have := hm.1; omega)
    have i2 : decide (39 < a0) = false := decide_eq_false (by have := hm.1; omega)
    have dl : (decI a1 (inoB a0 x)).1.ps.length = 9 := by
      by_cases h : a1 = a0
      · rw [h, D1]; exact h9
      · rw [(DO h).1]; rfl
    have hzz : (a1 = a0 ∧ (decI a1 (inoB a0 x)) = (x, 0)) ∨ (¬ a1 = a0 ∧ ((decI a1 (inoB a0 x)) = (ino0, 1) ∨ (decI a1 (inoB a0 x)) = (ino0, 3))) := by
      by_cases h : a1 = a0
      · exact .inl ⟨h, by rw [h]; exact D1⟩
      · obtain ⟨g1, g2⟩ := DO h
        exact .inr ⟨h, g2.imp (fun e => Prod.ext g1 e) (fun e => Prod.ext g1 e)⟩
    rw [he] at E
    generalize inoB a0 x = B at E ER D1 dl hzz
    have DA := fun (A3 : Option Addr) (c3 : Nat) (w : World) (hx : Rd w A3 (B.map u8v)) (hc : B.length ≤ c3) => dec_any a0 A3 B.length c3 B w hx rfl hc
    have DB := fun (A3 : Option Addr) (c3 : Nat) (w : World) (hx : Rd w A3 (B.map u8v)) (hc : B.length ≤ c3) => dec_any a1 A3 B.length c3 B w hx rfl hc
    rw [D1] at DA
    generalize decI a1 B = y at DB dl hzz
    obtain ⟨Y, ey⟩ := y
    simp only at DB dl
    have ZY := hide (inoC_len dl)
    have LY : Hid (InoLen Y) := hide dl
    replace E := hide E; replace ER := hide ER; replace DA := hide DA; replace DB := hide DB; replace hzz := hide hzz
    clear he hm hr DO D1 dl h9 hs
    go_enter Try.func3, Try.ntmps3
    go_upto_region 2 with (first
      | ((with_reducible refine load_ino (.tmp 5) rfl ?_ _ ?_ x B5.out ZX.out ?_); (next => rfl); (next => rfl))
      | (go_at_call 8; (with_reducible refine (unhide E _).mono ?_); rintro e w1 ⟨A1, c1, rfl, hr1, hc1, hb1⟩; replace hr1 := hide hr1; replace B5 := hide (B5.out.below hb1 B5.out.lt); replace hb := hide (nextB hb.out hb1); clear hb1))
    refine wp_region_ext w1 (by kernel_rfl) (by kernel_rfl) (Below.refl _ _) ?_
    repeat (first
      | ((with_reducible refine quiet_load_ino (.tmp 5) rfl ?_ _ ?_ x B5.out ZX.out ?_); (next => rfl); (next => rfl))
      | go_big_quiet_step ((first | (go_at_call 9; exact Ext.call _ (unhide M1 _)) | (go_at_call 10; exact Ext.call _ (unhide M2 _))))
      | quiet_step ((first | (go_at_call 9; exact Ext.call _ (unhide M1 _)) | (go_at_call 10; exact Ext.call _ (unhide M2 _)))))
    refine wpQuiet_nil ?_
    intro wx hw'
    obtain ⟨⟨_, hx⟩, rfl⟩ := hw'
    replace B5 := hide (B5.out.below hx B5.out.lt); replace hr1 := hide (hr1.out.on hx); replace hb := hide (nextB hb.out hx)
    clear hx M1
    go_upto_region 8 with (first
      | ((with_reducible refine load_ino (.tmp 5) rfl ?_ _ ?_ x B5.out ZX.out ?_); (next => rfl); (next => rfl))
      | (go_at_call 10; (with_reducible refine (unhide M2 _).mono ?_); rintro e w6 ⟨rfl, hb3⟩; replace B5 := hide (B5.out.below hb3 B5.out.lt); replace hr1 := hide (hr1.out.on hb3); replace hb := hide (nextB hb.out hb3); clear hb3; have D2 := hide (DA.out A1 c1 w6 hr1.out hc1))
      | (go_at_call 12; (with_reducible refine (unhide D2).mono ?_); rintro e w3 ⟨rfl, hb3⟩; replace B5 := hide (B5.out.below hb3 B5.out.lt); replace hr1 := hide (hr1.out.on hb3); replace hb := hide (nextB hb.out hb3); clear hb3; have B9 := hide (c9 w3))
      | ((with_reducible refine store_ino (.tmp 9) (.tmp 49) rfl ?_ _ ?_ ino0 x ?_ B9.out ino0_size ZX.out ?_); (next => rfl); (next => rfl); (next => rfl); replace B9 := hide (B9.out.row (inoC x).toArray); replace B5 := hide ((B5.out.alloc (.cells (inoC ino0).toArray 27)).rowFar (Nat.ne_of_lt B5.out.lt) (inoC x).toArray); replace hr1 := hide (hr1.out.on (below_setRow (box1 (o := .cells (inoC ino0).toArray 27)) (Nat.le_refl _) (inoC x).toArray)); replace hb := hide (nextB hb.out (below_setRow (box1 (o := .cells (inoC ino0).toArray 27)) (Nat.le_refl _) (inoC x).toArray)); generalize ((w3.alloc (.cells (inoC ino0).toArray 27)).setRow w3.heap.size (inoC x).toArray) = W6 at B9 B5 hr1 hb ⊢; have D3 := hide (DB.out A1 c1 W6 hr1.out hc1))
      | (go_at_call 12; (with_reducible refine (unhide D3).mono ?_); rintro e w4 ⟨rfl, hb3⟩; replace B5 := hide (B5.out.below hb3 B5.out.lt); replace B9 := hide (B9.out.below hb3 B9.out.lt); replace hr1 := hide (hr1.out.on hb3); replace hb := hide (nextB hb.out hb3); clear hb3; have B11 := hide (c9 w4))
      | ((with_reducible refine store_ino (.tmp 11) (.tmp 55) rfl ?_ _ ?_ ino0 Y ?_ B11.out ino0_size ZY.out ?_); (next => rfl); (next => rfl); (next => rfl); replace B11 := hide (B11.out.row (inoC Y).toArray); replace B5 := hide ((B5.out.alloc (.cells (inoC ino0).toArray 27)).rowFar (Nat.ne_of_lt B5.out.lt) (inoC Y).toArray); replace B9 := hide ((B9.out.alloc (.cells (inoC ino0).toArray 27)).rowFar (Nat.ne_of_lt B9.out.lt) (inoC Y).toArray); replace hr1 := hide (hr1.out.on (below_setRow (box1 (o := .cells (inoC ino0).toArray 27)) (Nat.le_refl _) (inoC Y).toArray)); replace hb := hide (nextB hb.out (below_setRow (box1 (o := .cells (inoC ino0).toArray 27)) (Nat.le_refl _) (inoC Y).toArray)); generalize ((w4.alloc (.cells (inoC ino0).toArray 27)).setRow w4.heap.size (inoC Y).toArray) = W7 at B11 B5 B9 hr1 hb ⊢))
    obtain ⟨g9, hg9⟩ : ∃ g, g = w3.heap.size := ⟨_, rfl⟩
    obtain ⟨g11, hg11⟩ : ∃ g, g = w4.heap.size := ⟨_, rfl⟩
    rw [← hg9] at B9 ⊢
    rw [← hg11] at B11 ⊢
    clear hg9 hg11
    have s3 := fun y : Ext W7 => run_str (P := Try.prog) (bs := B) (n := B.length) (c := c1) 28 9 5 Try.underlying28 Try.underlying5 Try.underlying9 (hr1.out.on y.h) rfl
    refine wp_region_ext W7 (by kernel_rfl) (by kernel_rfl) (Below.refl _ _) ?_
    repeat (first
      | ((with_reducible refine quiet_load_ino (.tmp 5) rfl ?_ _ ?_ x B5.out ZX.out ?_); (next => rfl); (next => rfl))
      | ((with_reducible refine quiet_load_ino (.tmp 9) rfl ?_ _ ?_ x B9.out ZX.out ?_); (next => rfl); (next => rfl))
      | ((with_reducible refine quiet_neq_ino (.tmp 68) (.tmp 69) _ rfl ?_ x x true ?_ ?_ LX.out LX.out (decide_eq_true rfl) ?_); (next => rfl); (next => rfl); (next => rfl))
      | go_big_quiet_step ((go_at_call 13; exact Ext.call _ (unhide ER _)))
      | quiet_step ((go_at_call 13; exact Ext.call _ (unhide ER _))))
    refine wpQuiet_nil ?_
    intro wx hw'
    obtain ⟨⟨_, hx⟩, rfl⟩ := hw'
    replace B5 := hide (B5.out.below hx B5.out.lt); replace B11 := hide (B11.out.below hx B11.out.lt); replace hb := hide (nextB hb.out hx)
    clear s3 hx B9
    rcases hzz.out with ⟨rfl, h⟩ | ⟨hne, h⟩
    · obtain ⟨rfl, rfl⟩ : Y = x ∧ ey = 0 := by injection h with h1 h2; exact ⟨h1, h2⟩
      clear h
      go_wp2_with (first
        | ((with_reducible refine load_ino (.tmp 11) rfl ?_ _ ?_ Y B11.out ZY.out ?_); (next => rfl); (next => rfl))
        | ((with_reducible refine load_ino (.tmp 5) rfl ?_ _ ?_ Y B5.out ZY.out ?_); (next => rfl); (next => rfl))
        | ((with_reducible refine eql_ino (.tmp 79) (.tmp 80) _ rfl ?_ Y Y true ?_ ?_ LY.out LY.out (decide_eq_true rfl) ?_); (next => rfl); (next => rfl); (next => rfl))
        | (go_at_call 11; (with_reducible refine (unhide awk _).mono ?_); rintro e w8 ⟨rfl, hb5⟩))
      go_ret
      exact ⟨rfl, nextB hb.out hb5⟩
    · have n1 : (a1 == a0) = false := by simpa using hne
      have hey : ey = 1 ∨ ey = 3 := h.imp (fun h => by injection h) (fun h => by injection h)
      have hY : Y = ino0 := by rcases h with h | h <;> injection h
      subst hY
      clear h hne
      have L0 : Hid (InoLen ino0) := hide rfl
      rcases hey with rfl | rfl
      all_goals
        go_wp2_with (first
          | ((with_reducible refine load_ino (.tmp 11) rfl ?_ _ ?_ ino0 B11.out ZY.out ?_); (next => rfl); (next => rfl))
          | ((with_reducible refine wpList_built ?_ _ rfl _ ino_built ?_); (next => rfl))
          | ((with_reducible refine eql_ino (.tmp 85) (.tmp 86) _ rfl ?_ ino0 ino0 true ?_ ?_ L0.out L0.out (decide_eq_true rfl) ?_); (next => rfl); (next => rfl); (next => rfl))
          | (go_at_call 11; (with_reducible refine (unhide awk _).mono ?_); rintro e w8 ⟨rfl, hb5⟩))
        go_ret
        exact ⟨rfl, nextB hb.out hb5⟩
  · have he : encI a0 x = ([], 1) := if_neg hm
    rw [he] at E
    replace E := hide E
    have hcase : decide (a0 < 1) = true ∨ (decide (a0 < 1) = false ∧ decide (39 < a0) = true) ∨ (decide (a0 < 1) = false ∧ decide (39 < a0) = false ∧ r = false) := by
      by_cases h : 1 ≤ a0 ∧ a0 ≤ 39
      · refine .inr (.inr ⟨decide_eq_false (by omega), decide_eq_false (by omega), ?_⟩)
        rw [← hr]; exact decide_eq_false (fun h2 => hm ⟨h, h2⟩)
      · by_cases h1 : a0 < 1
        · exact .inl (decide_eq_true h1)
        · exact .inr (.inl ⟨decide_eq_false h1, decide_eq_true (by omega)⟩)
    replace hcase := hide hcase
    clear he hm hr h9 hs
    go_enter Try.func3, Try.ntmps3
    go_upto_region 2 with (first
      | ((with_reducible refine load_ino (.tmp 5) rfl ?_ _ ?_ x B5.out ZX.out ?_); (next => rfl); (next => rfl))
      | (go_at_call 8; (with_reducible refine (unhide E _).mono ?_); rintro e w1 ⟨A1, c1, rfl, hr1, hc1, hb1⟩; replace hr1 := hide hr1; replace B5 := hide (B5.out.below hb1 B5.out.lt); replace hb := hide (nextB hb.out hb1); clear hb1))
    refine wp_region_ext w1 (by kernel_rfl) (by kernel_rfl) (Below.refl _ _) ?_
    repeat (first
      | ((with_reducible refine quiet_load_ino (.tmp 5) rfl ?_ _ ?_ x B5.out ZX.out ?_); (next => rfl); (next => rfl))
      | go_big_quiet_step ((first | (go_at_call 9; exact Ext.call _ (unhide M1 _)) | (go_at_call 10; exact Ext.call _ (unhide M2 _))))
      | quiet_step ((first | (go_at_call 9; exact Ext.call _ (unhide M1 _)) | (go_at_call 10; exact Ext.call _ (unhide M2 _)))))
    refine wpQuiet_nil ?_
    intro wx hw'
    obtain ⟨⟨_, hx⟩, rfl⟩ := hw'
    replace B5 := hide (B5.out.below hx B5.out.lt); replace hr1 := hide (hr1.out.on hx); replace hb := hide (nextB hb.out hx)
    clear hx M1
    rcases hcase.out with h1 | ⟨h1, h2⟩ | ⟨h1, h2, rfl⟩
    all_goals
      go_wp2_with (first
        | ((with_reducible refine load_ino (.tmp 5) rfl ?_ _ ?_ x B5.out ZX.out ?_); (next => rfl); (next => rfl))
        | (go_at_call 10; (with_reducible refine (unhide M2 _).mono ?_); rintro e w6 ⟨rfl, hb3⟩; replace B5 := hide (B5.out.below hb3 B5.out.lt); replace hr1 := hide (hr1.out.on hb3); replace hb := hide (nextB hb.out hb3); clear hb3)
        | (go_at_call 11; (with_reducible refine (unhide awk _).mono ?_); rintro e w8 ⟨rfl, hb5⟩))
      go_ret
      exact ⟨rfl, nextB hb.out hb5⟩
end Go.Proofs.Ytobiepjnnglglaa
