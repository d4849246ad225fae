import Derived.Test.YtobiepjnnglglaaInQ
import Derived.Test.YtobiepjnnglglaaOpenJ
namespace Go.Proofs.Ytobiepjnnglglaa
open Go.RowKit
set_option maxRecDepth 100000 in
set_option maxHeartbeats 8000000 in
theorem walk_InodePoints (a0 : Int) (s1 : Sl UInt8) (p : Int × Nat) (w : World) (_h0 : (Lit.int .i64 a0).wf = true) (h1 : s1.Ok w (fun c => [u8v c]) (fun _ => True)) (_h2 : (-9223372036854775808 ≤ p.1 ∧ p.1 ≤ 9223372036854775807) ∧ p.2 < 4294967296) :
    Calls Try.prog 6 #[.int .i64 a0, .slice s1.A s1.n s1.c, .agg #[.int .i64 p.1, .int .u32 (p.2 : Int)]] w fun e w' => e = .returned (.bool true) ∧ Below w.heap.size w w' := by
  obtain ⟨A, n, c, bs0⟩ := s1
  obtain ⟨r1, l1, k1, _, _⟩ := h1
  simp only [flat_u8] at r1 l1 k1 ⊢
  obtain ⟨bs, n', q1, g1, e1, f1, eb, case1⟩ := r1.few 200 l1 k1
  clear eb r1 l1
  obtain ⟨pa, ps⟩ := p
  simp only
  have F := hide (fun w => few_any A n c n' w k1 case1)
  have T := fun (w : World) (hx : Rd w A (bs.map u8v)) => to_any a0 A n' c bs w hx g1 (by omega)
  have PT := fun (w : World) (hx : Rd w A (bs.map u8v)) => points_any pa ps A n' c bs w hx g1 (by omega)
  have PX := fun (w : World) (hx : Rd w A (bs.map u8v)) => points_any a0 (sumN bs) A n' c bs w hx g1 (by omega)
  have RS := fun w => refSum_any ⟨bs.toArray⟩ w (by show bs.toArray.size ≤ _; rw [List.size_toArray]; omega)
  rw [show (crc (⟨bs.toArray⟩ : ByteArray).data.toList).toNat = sumN bs by simp [sumN]] at RS
  have awk := hide awake_any
  have Q1 := hide (q1.alloc (.cells #[.int .i64 pa, .int .u32 (ps : Int)] 24)); have G1 := hide g1
  have B5 := hide (Blk.new w 24 #[.int .i64 pa, .int .u32 (ps : Int)])
  have hb := hide (box1 (w := w) (o := .cells #[.int .i64 pa, .int .u32 (ps : Int)] 24))
  have hpt : pointsI (pa, ps) bs = (decide (0 < pa) && (decide (n' = 128) && decide (ps = sumN bs))) := by unfold pointsI; rw [g1]
  have hto : toI a0 bs = if (1 ≤ a0 ∧ a0 ≤ 2147483647) ∧ n' = 128 then ((a0, sumN bs), 0) else ((0, 0), 1) := by unfold toI; rw [g1]
  have hpx : (1 ≤ a0 ∧ a0 ≤ 2147483647) ∧ n' = 128 → pointsI (a0, sumN bs) bs = true := by
    rintro ⟨h1, h2⟩
    unfold pointsI
    rw [g1, decide_eq_true (show 0 < ((a0, sumN bs) : Int × Nat).1 by show 0 < a0; omega), decide_eq_true h2]; simp
  rw [hpt] at PT
  generalize sumN bs = t at *
  clear q1 g1 hpt
  replace RS := hide RS
  have ht : decide (ps = t) = ((ps : Int) == (t : Int)) := by
    rw [Bool.eq_iff_iff]; simp only [decide_eq_true_iff, beq_iff_eq]; constructor <;> intro h <;> omega
  rw [ht] at PT
  by_cases h128 : n' = 128
  · subst h128
    have hat : (toI a0 bs = ((a0, t), 0) ∧ pointsI (a0, t) bs = true ∧ decide (a0 < 1) = false ∧ decide (2147483647 < a0) = false) ∨ (toI a0 bs = ((0, 0), 1) ∧ decide (a0 < 1) = true) ∨ (toI a0 bs = ((0, 0), 1) ∧ decide (a0 < 1) = false ∧ decide (2147483647 < a0) = true) := by
      by_cases h : 1 ≤ a0 ∧ a0 ≤ 2147483647
      · exact .inl ⟨hto.trans (if_pos ⟨h, rfl⟩), hpx ⟨h, rfl⟩, decide_eq_false (by omega), decide_eq_false (by omega)⟩
      · by_cases h1 : a0 < 1
        · exact .inr (.inl ⟨hto.trans (if_neg (fun h2 => h h2.1)), decide_eq_true h1⟩)
        · exact .inr (.inr ⟨hto.trans (if_neg (fun h2 => h h2.1)), decide_eq_false h1, decide_eq_true (by omega)⟩)
    simp only [decide_true, Bool.true_and] at PT
    clear hto hpx
    rcases hat with ⟨hT, hX, d1, d2⟩ | ⟨hT, d1⟩ | ⟨hT, d1, d2⟩
    all_goals
      rw [hT] at T
      simp only at T
      replace T := hide T
    · rw [hX] at PX
      replace PX := hide PX
      clear hT hX
      obtain ⟨gp, hgp⟩ : ∃ b, decide (0 < pa) = b := ⟨_, rfl⟩
      rw [hgp] at PT
      cases gp
      all_goals
        simp only [Bool.true_and, Bool.false_and] at PT
        replace PT := hide PT
        go_enter Try.func6, Try.ntmps6
        go_upto_region 4 with (first
          | (go_at_call 14; ((with_reducible refine (unhide F _).mono ?_); rintro e w' ⟨rfl, rfl⟩; have T2 := hide (T.out _ Q1.out)))
          | (go_at_call 18; (with_reducible refine (unhide T2).mono ?_); rintro e w1 ⟨rfl, hb1⟩; replace hb := hide (nextB hb.out hb1); replace B5 := hide ((B5.out.below hb1 B5.out.lt).alloc (.cells #[.int .i64 a0, .int .u32 (t : Int)] 24)); replace Q1 := hide ((Q1.out.on hb1).alloc (.cells #[.int .i64 a0, .int .u32 (t : Int)] 24)); replace hb := hide (hb.out.alloc hb.out.size (.cells #[.int .i64 a0, .int .u32 (t : Int)] 24)); have B7 := hide (Blk.new w1 24 #[.int .i64 a0, .int .u32 (t : Int)]); have s0 := run_str (P := Try.prog) (bs := bs) (n := 128) (c := c) 28 9 5 Try.underlying28 Try.underlying5 Try.underlying9 Q1.out G1.out; clear hb1)
          | (go_at_call 19; (with_reducible refine (unhide RS _).mono ?_); rintro e w2 ⟨rfl, rfl⟩))
        obtain ⟨g7, hg7⟩ : ∃ g, g = w1.heap.size := ⟨_, rfl⟩
        rw [← hg7] at B7 ⊢
        generalize (w1.alloc _) = W at B5 B7 Q1 hb s0 ⊢
        clear s0 hg7
        have c0 := fun y : Ext W => (B5.out.below y.h B5.out.lt).cell_ 0 _ rfl
        have c1 := fun y : Ext W => (B5.out.below y.h B5.out.lt).cell_ 1 _ rfl
        have P2 := hide (fun y : Ext W => PT.out y.w (Q1.out.on y.h))
        refine wp_region_ext W (by kernel_rfl) (by kernel_rfl) (Below.refl _ _) ?_
        repeat (first | go_big_quiet_step ((first | (go_at_call 20; exact Ext.call _ (unhide P2 _)))) | quiet_step ((first | (go_at_call 20; exact Ext.call _ (unhide P2 _)))))
        refine wpQuiet_nil ?_
        intro wx hw'
        obtain ⟨⟨_, hx⟩, rfl⟩ := hw'
        replace B7 := hide (B7.out.below hx B7.out.lt); replace Q1 := hide (Q1.out.on hx); replace hb := hide (nextB hb.out hx)
        clear c0 c1 hx P2 PT
        have k0 := B7.out.cell_ 0 _ rfl
        have k1 := B7.out.cell_ 1 _ rfl
        have PX2 := hide (PX.out wx Q1.out)
        go_wp2_with (first
          | (go_at_call 20; (with_reducible refine (unhide PX2).mono ?_); rintro e w7 ⟨rfl, hb7⟩; replace hb := hide (nextB hb.out hb7); clear hb7)
          | (go_at_call 11; (with_reducible refine (unhide awk _).mono ?_); rintro e w8 ⟨rfl, hb5⟩))
        go_ret
        exact ⟨rfl, nextB hb.out hb5⟩
    · clear PX hT
      obtain ⟨gp, hgp⟩ : ∃ b, decide (0 < pa) = b := ⟨_, rfl⟩
      rw [hgp] at PT
      cases gp
      all_goals
        simp only [Bool.true_and, Bool.false_and] at PT
        replace PT := hide PT
        go_enter Try.func6, Try.ntmps6
        go_upto_region 4 with (first
          | (go_at_call 14; ((with_reducible refine (unhide F _).mono ?_); rintro e w' ⟨rfl, rfl⟩; have T2 := hide (T.out _ Q1.out)))
          | (go_at_call 18; (with_reducible refine (unhide T2).mono ?_); rintro e w1 ⟨rfl, hb1⟩; replace hb := hide (nextB hb.out hb1); replace B5 := hide ((B5.out.below hb1 B5.out.lt).alloc (.cells #[.int .i64 0, .int .u32 0] 24)); replace Q1 := hide ((Q1.out.on hb1).alloc (.cells #[.int .i64 0, .int .u32 0] 24)); replace hb := hide (hb.out.alloc hb.out.size (.cells #[.int .i64 0, .int .u32 0] 24)); have B7 := hide (Blk.new w1 24 #[.int .i64 0, .int .u32 0]); have s0 := run_str (P := Try.prog) (bs := bs) (n := 128) (c := c) 28 9 5 Try.underlying28 Try.underlying5 Try.underlying9 Q1.out G1.out; clear hb1)
          | (go_at_call 19; (with_reducible refine (unhide RS _).mono ?_); rintro e w2 ⟨rfl, rfl⟩))
        obtain ⟨g7, hg7⟩ : ∃ g, g = w1.heap.size := ⟨_, rfl⟩
        rw [← hg7] at B7 ⊢
        generalize (w1.alloc _) = W at B5 B7 Q1 hb s0 ⊢
        clear s0 hg7
        have c0 := fun y : Ext W => (B5.out.below y.h B5.out.lt).cell_ 0 _ rfl
        have c1 := fun y : Ext W => (B5.out.below y.h B5.out.lt).cell_ 1 _ rfl
        have P2 := hide (fun y : Ext W => PT.out y.w (Q1.out.on y.h))
        refine wp_region_ext W (by kernel_rfl) (by kernel_rfl) (Below.refl _ _) ?_
        repeat (first | go_big_quiet_step ((first | (go_at_call 20; exact Ext.call _ (unhide P2 _)))) | quiet_step ((first | (go_at_call 20; exact Ext.call _ (unhide P2 _)))))
        refine wpQuiet_nil ?_
        intro wx hw'
        obtain ⟨⟨_, hx⟩, rfl⟩ := hw'
        replace B7 := hide (B7.out.below hx B7.out.lt); replace Q1 := hide (Q1.out.on hx); replace hb := hide (nextB hb.out hx)
        clear c0 c1 hx P2 PT
        have k0 := B7.out.cell_ 0 _ rfl
        have k1 := B7.out.cell_ 1 _ rfl
        go_wp2_with (first
          | (go_at_call 11; (with_reducible refine (unhide awk _).mono ?_); rintro e w8 ⟨rfl, hb5⟩))
        go_ret
        exact ⟨rfl, nextB hb.out hb5⟩
    · clear PX hT
      obtain ⟨gp, hgp⟩ : ∃ b, decide (0 < pa) = b := ⟨_, rfl⟩
      rw [hgp] at PT
      cases gp
      all_goals
        simp only [Bool.true_and, Bool.false_and] at PT
        replace PT := hide PT
        go_enter Try.func6, Try.ntmps6
        go_upto_region 4 with (first
          | (go_at_call 14; ((with_reducible refine (unhide F _).mono ?_); rintro e w' ⟨rfl, rfl⟩; have T2 := hide (T.out _ Q1.out)))
          | (go_at_call 18; (with_reducible refine (unhide T2).mono ?_); rintro e w1 ⟨rfl, hb1⟩; replace hb := hide (nextB hb.out hb1); replace B5 := hide ((B5.out.below hb1 B5.out.lt).alloc (.cells #[.int .i64 0, .int .u32 0] 24)); replace Q1 := hide ((Q1.out.on hb1).alloc (.cells #[.int .i64 0, .int .u32 0] 24)); replace hb := hide (hb.out.alloc hb.out.size (.cells #[.int .i64 0, .int .u32 0] 24)); have B7 := hide (Blk.new w1 24 #[.int .i64 0, .int .u32 0]); have s0 := run_str (P := Try.prog) (bs := bs) (n := 128) (c := c) 28 9 5 Try.underlying28 Try.underlying5 Try.underlying9 Q1.out G1.out; clear hb1)
          | (go_at_call 19; (with_reducible refine (unhide RS _).mono ?_); rintro e w2 ⟨rfl, rfl⟩))
        obtain ⟨g7, hg7⟩ : ∃ g, g = w1.heap.size := ⟨_, rfl⟩
        rw [← hg7] at B7 ⊢
        generalize (w1.alloc _) = W at B5 B7 Q1 hb s0 ⊢
        clear s0 hg7
        have c0 := fun y : Ext W => (B5.out.below y.h B5.out.lt).cell_ 0 _ rfl
        have c1 := fun y : Ext W => (B5.out.below y.h B5.out.lt).cell_ 1 _ rfl
        have P2 := hide (fun y : Ext W => PT.out y.w (Q1.out.on y.h))
        refine wp_region_ext W (by kernel_rfl) (by kernel_rfl) (Below.refl _ _) ?_
        repeat (first | go_big_quiet_step ((first | (go_at_call 20; exact Ext.call _ (unhide P2 _)))) | quiet_step ((first | (go_at_call 20; exact Ext.call _ (unhide P2 _)))))
        refine wpQuiet_nil ?_
        intro wx hw'
        obtain ⟨⟨_, hx⟩, rfl⟩ := hw'
        replace B7 := hide (B7.out.below hx B7.out.lt); replace Q1 := hide (Q1.out.on hx); replace hb := hide (nextB hb.out hx)
        clear c0 c1 hx P2 PT
        have k0 := B7.out.cell_ 0 _ rfl
        have k1 := B7.out.cell_ 1 _ rfl
        go_wp2_with (first
          | (go_at_call 11; (with_reducible refine (unhide awk _).mono ?_); rintro e w8 ⟨rfl, hb5⟩))
        go_ret
        exact ⟨rfl, nextB hb.out hb5⟩
  · have hT : toI a0 bs = ((0, 0), 1) := hto.trans (if_neg (fun h => h128 h.2))
    have m1 : ((n' : Int) == 128) = false := by simp; omega
    have m2 : ((n' : Int) != 128) = true := by simp; omega
    rw [hT] at T
    simp only at T
    replace T := hide T
    simp only [h128, decide_false, Bool.false_and, Bool.and_false] at PT
    replace PT := hide PT
    clear hto hpx hT PX h128
    have hat : decide (a0 < 1) = true ∨ (decide (a0 < 1) = false ∧ decide (2147483647 < a0) = true) ∨ (decide (a0 < 1) = false ∧ decide (2147483647 < a0) = false) := by
      by_cases h1 : a0 < 1
      · exact .inl (decide_eq_true h1)
      · by_cases h2 : 2147483647 < a0
        · exact .inr (.inl ⟨decide_eq_false h1, decide_eq_true h2⟩)
        · exact .inr (.inr ⟨decide_eq_false h1, decide_eq_false h2⟩)
    obtain ⟨gp, hgp⟩ : ∃ b, decide (0 < pa) = b := ⟨_, rfl⟩
    rcases hat with d1 | ⟨d1, d2⟩ | ⟨d1, d2⟩
    all_goals
      cases gp
      all_goals
        go_enter Try.func6, Try.ntmps6
        go_upto_region 4 with (first
          | (go_at_call 14; ((with_reducible refine (unhide F _).mono ?_); rintro e w' ⟨rfl, rfl⟩; have T2 := hide (T.out _ Q1.out)))
          | (go_at_call 18; (with_reducible refine (unhide T2).mono ?_); rintro e w1 ⟨rfl, hb1⟩; replace hb := hide (nextB hb.out hb1); replace B5 := hide ((B5.out.below hb1 B5.out.lt).alloc (.cells #[.int .i64 0, .int .u32 0] 24)); replace Q1 := hide ((Q1.out.on hb1).alloc (.cells #[.int .i64 0, .int .u32 0] 24)); replace hb := hide (hb.out.alloc hb.out.size (.cells #[.int .i64 0, .int .u32 0] 24)); have B7 := hide (Blk.new w1 24 #[.int .i64 0, .int .u32 0]); have s0 := run_str (P := Try.prog) (bs := bs) (n := n') (c := c) 28 9 5 Try.underlying28 Try.underlying5 Try.underlying9 Q1.out G1.out; clear hb1)
          | (go_at_call 19; (with_reducible refine (unhide RS _).mono ?_); rintro e w2 ⟨rfl, rfl⟩))
        obtain ⟨g7, hg7⟩ : ∃ g, g = w1.heap.size := ⟨_, rfl⟩
        rw [← hg7] at B7 ⊢
        generalize (w1.alloc _) = W at B5 B7 Q1 hb s0 ⊢
        clear s0 hg7
        have c0 := fun y : Ext W => (B5.out.below y.h B5.out.lt).cell_ 0 _ rfl
        have c1 := fun y : Ext W => (B5.out.below y.h B5.out.lt).cell_ 1 _ rfl
        have P2 := hide (fun y : Ext W => PT.out y.w (Q1.out.on y.h))
        refine wp_region_ext W (by kernel_rfl) (by kernel_rfl) (Below.refl _ _) ?_
        repeat (first | go_big_quiet_step ((first | (go_at_call 20; exact Ext.call _ (unhide P2 _)))) | quiet_step ((first | (go_at_call 20; exact Ext.call _ (unhide P2 _)))))
        refine wpQuiet_nil ?_
        intro wx hw'
        obtain ⟨⟨_, hx⟩, rfl⟩ := hw'
        replace B7 := hide (B7.out.below hx B7.out.lt); replace Q1 := hide (Q1.out.on hx); replace hb := hide (nextB hb.out hx)
        clear c0 c1 hx P2 PT
        have k0 := B7.out.cell_ 0 _ rfl
        have k1 := B7.out.cell_ 1 _ rfl
        go_wp2_with (first
          | (go_at_call 11; (with_reducible refine (unhide awk _).mono ?_); rintro e w8 ⟨rfl, hb5⟩))
        go_ret
        exact ⟨rfl, nextB hb.out hb5⟩
end Go.Proofs.Ytobiepjnnglglaa
