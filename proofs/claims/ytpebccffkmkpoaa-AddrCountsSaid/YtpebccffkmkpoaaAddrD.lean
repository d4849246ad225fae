import Derived.Test.YtpebccffkmkpoaaAddrN
namespace Go.Proofs.Ytpebccffkmkpoaa
open Go.RowKit
theorem Try.infoPlace : (Try.prog.info? 34).map (·.size) = some 3 := by kernel_rfl

set_option maxHeartbeats 1000000 in
theorem where_no (D L V S a : Int) (w : World) (ha : (Lit.int .i64 a).wf = true) (hz : (segG D L V S a).2 ≠ 0) :
    Calls Try.prog 20 #[.agg #[.int .i64 D, .int .i64 L, .int .i64 V, .int .i64 S], .int .i64 a] w fun e w' => e = .returned (.tuple #[.agg #[.int .i64 0, .int .i64 0, .int .i64 0], .int .i64 (segG D L V S a).2]) ∧ Below w.heap.size w w' := by
  have C := segment_any D L V S a
  obtain ⟨n, hn⟩ : ∃ n, (segG D L V S a).1 = n := ⟨_, rfl⟩
  obtain ⟨q, hq⟩ : ∃ q, (segG D L V S a).2 = q := ⟨_, rfl⟩
  rw [hn, hq] at C
  rw [hq] at hz ⊢
  have C := hide (fun w => C w ha)
  clear hn hq ha
  go_enter Try.func20, Try.ntmps20
  go_wp2_with (go_at_call 16; refine (unhide C _).mono ?_; rintro e w1 ⟨rfl, hb1⟩; have B1 := (Blk.new_ (w.alloc (.cells #[.int .i64 D, .int .i64 L, .int .i64 V, .int .i64 S] 23)) 34 #[.int .i64 0, .int .i64 0, .int .i64 0] (w.heap.size + 1) (by simp)).below hb1 (by simp); obtain ⟨c0, c1, c2⟩ := blk3 B1; obtain ⟨f0, f1, f2⟩ := frz3 B1; have B1 := hide B1)
  refine bodyPost_ret (results_cell_row_tmp rfl _ _ (w.heap.size + 1) _ #[.int .i64 0, .int .i64 0, .int .i64 0] _ _ rfl (((B1.out.put 0 _).put 1 _).put 2 _) Try.underlying34 rfl Try.infoPlace) rfl ⟨rfl, ?_⟩
  exact (((nextB box2 hb1).setCell (by simp) _).setCell (by simp) _).setCell (by simp) _

theorem blkG {w w1 : World} {o2 : Obj} {t : TypeId} {cs : Array Value} (h : Below ((w.alloc (.cells cs t)).alloc o2).heap.size ((w.alloc (.cells cs t)).alloc o2) w1) : Blk w1 w.heap.size t cs :=
  ((Blk.new w _ _).alloc _).below h (by simp; omega)
theorem blkP {w w1 : World} {o : Obj} {t : TypeId} {cs : Array Value} (h : Below ((w.alloc o).alloc (.cells cs t)).heap.size ((w.alloc o).alloc (.cells cs t)) w1) : Blk w1 (w.heap.size + 1) t cs :=
  (Blk.new_ (w.alloc o) t cs (w.heap.size + 1) (by simp)).below h (by simp)

set_option maxHeartbeats 1000000 in
theorem where_ok (D L V S a n : Int) (w : World) (ha : (Lit.int .i64 a).wf = true) (hz : segG D L V S a = (n, 0)) (hm : mayG D L V S) (hn0 : 0 ≤ n) (hn1 : n ≤ 4000) :
    Calls Try.prog 20 #[.agg #[.int .i64 D, .int .i64 L, .int .i64 V, .int .i64 S], .int .i64 a] w fun e w' => e = .returned (.tuple #[.agg #[.int .i64 ((volG D S n).1), .int .i64 ((volG D S n).2), .int .i64 ((a - 1) % 16)], .int .i64 0]) ∧ Below w.heap.size w w' := by
  have C := segment_any D L V S a
  rw [hz] at C
  have C := hide (fun w => C w ha)
  have ha1 : 1 ≤ a ∧ a ≤ 40000 := by
    unfold segG at hz
    rw [if_neg (by simp [hm])] at hz
    have := segsG_bound D L V S
    split at hz
    · injection hz with _ h; cases h
    · omega
  obtain ⟨ha1, ha2⟩ := ha1
  unfold mayG at hm
  obtain ⟨hD, hD2, _, _, _, _, hS, hS2⟩ := hm
  clear hz ha
  unfold volG
  by_cases h : D ≤ n
  · rw [if_pos h]
    have d0 := Int.ediv_nonneg (show 0 ≤ n - D by omega) (show 0 ≤ S by omega)
    have d1 := Int.ediv_le_self S (show 0 ≤ n - D by omega)
    have e0 := Int.emod_nonneg (n - D) (show S ≠ 0 by omega)
    have e1 := Int.emod_lt_of_pos (n - D) (show 0 < S by omega)
    have t1 : (n - D).tdiv S = (n - D) / S := Int.tdiv_eq_ediv_of_nonneg (by omega)
    have t2 : (n - D).tmod S = (n - D) % S := Int.tmod_eq_emod_of_nonneg (by omega)
    go_enter Try.func20, Try.ntmps20
    go_wp2_with (go_at_call 16; refine (unhide C _).mono ?_; rintro e w1 ⟨rfl, hb1⟩; have B1 := hide (blkG hb1); have B2 := hide (blkP hb1); have c0 := fun o => (blk4 (B1.out.alloc o)).1; have c3 := fun o => (blk4 (B1.out.alloc o)).2.2.2; have hl := B1.out.lt; have hl2 := B2.out.lt; obtain ⟨d0, d1, d2⟩ := blk3 B2.out; obtain ⟨f0, f1, f2⟩ := frz3 B2.out)
    obtain ⟨g, hg⟩ : ∃ g, g = w1.heap.size := ⟨_, rfl⟩
    have B3 := hide (Blk.new_ w1 34 #[.int .i64 (-1), .int .i64 n, .int .i64 ((a - 1) % 16)] g hg)
    have B2' := hide (B2.out.alloc (.cells #[.int .i64 (-1), .int .i64 n, .int .i64 ((a - 1) % 16)] 34))
    have B1' := hide (B1.out.alloc (.cells #[.int .i64 (-1), .int .i64 n, .int .i64 ((a - 1) % 16)] 34))
    have hb := nextB box2 hb1
    have hb3 := hide (hb.alloc hb.size (.cells #[.int .i64 (-1), .int .i64 n, .int .i64 ((a - 1) % 16)] 34))
    rw [← hg] at hl hl2 ⊢
    have hgw : w.heap.size < g := by omega
    generalize (w1.alloc _) = W at B3 B2' B1' hb3 ⊢
    clear c0 c3 d0 d1 d2 f0 f1 f2 hb hb1 B1 B2 hg
    obtain ⟨c0, _, _, c3⟩ := blk4 B1'.out
    obtain ⟨d0, d1, d2⟩ := blk3 B3.out
    obtain ⟨f0, f1, _⟩ := frz3 B3.out
    have hS0 : S ≠ 0 := by omega
    go_region
    have B4 := hide (((B3.out.put 0 (.int .i64 ((n - D) / S))).put 1 (.int .i64 ((n - D) % S))).drew)
    have B5 := hide (((B2'.out.far (p := ⟨g, 0, none⟩) (by simp only; omega) (.int .i64 ((n - D) / S))).far (p := ⟨g, 1, none⟩) (by simp only; omega) (.int .i64 ((n - D) % S))).drew)
    have hb4 := hide (((hb3.out.setCell (p := ⟨g, 0, none⟩) (by simp only; omega) (.int .i64 ((n - D) / S))).setCell (p := ⟨g, 1, none⟩) (by simp only; omega) (.int .i64 ((n - D) % S))).drew)
    generalize (World.setCell _ _ _).drew = W2 at B4 B5 hb4 ⊢
    clear c0 c3 d0 d1 d2 f0 f1 B3 B2' B1' hb3
    obtain ⟨d0, d1, d2⟩ := blk3 B4.out
    obtain ⟨f0, f1, f2⟩ := frz3 B5.out
    obtain ⟨c0, c1, c2⟩ := blk3 B5.out
    go_wp2_with fail
    refine bodyPost_ret (results_cell_row_tmp rfl _ _ (w.heap.size + 1) _ #[.int .i64 ((n - D) / S), .int .i64 ((n - D) % S), .int .i64 ((a - 1) % 16)] _ _ rfl (((B5.out.put 0 _).put 1 _).put 2 _) Try.underlying34 rfl Try.infoPlace) rfl ⟨rfl, ?_⟩
    exact ((hb4.out.setCell (by simp) _).setCell (by simp) _).setCell (by simp) _
  · rw [if_neg h]
    go_enter Try.func20, Try.ntmps20
    go_wp2_with (go_at_call 16; refine (unhide C _).mono ?_; rintro e w1 ⟨rfl, hb1⟩; have B1 := hide (blkG hb1); have B2 := hide (blkP hb1); have c0 := fun o => (blk4 (B1.out.alloc o)).1; have c3 := fun o => (blk4 (B1.out.alloc o)).2.2.2; have hl := B1.out.lt; have hl2 := B2.out.lt; obtain ⟨d0, d1, d2⟩ := blk3 B2.out; obtain ⟨f0, f1, f2⟩ := frz3 B2.out)
    refine bodyPost_ret (results_cell_row_tmp rfl _ _ (w.heap.size + 1) _ #[.int .i64 (-1), .int .i64 n, .int .i64 ((a - 1) % 16)] _ _ rfl ((((B2.out.put 0 _).put 1 _).put 2 _).alloc _) Try.underlying34 rfl Try.infoPlace) rfl ⟨rfl, ?_⟩
    have hb := (((nextB box2 hb1).setCell (p := ⟨w.heap.size + 1, 0, none⟩) (by simp) (.int .i64 (-1))).setCell (p := ⟨w.heap.size + 1, 1, none⟩) (by simp) (.int .i64 n)).setCell (p := ⟨w.heap.size + 1, 2, none⟩) (by simp) (.int .i64 ((a - 1) % 16))
    exact hb.alloc hb.size _
end Go.Proofs.Ytpebccffkmkpoaa
