import Derived.Test.YtalcgnjkhnmmiaaImapC
namespace Go.Proofs.Ytalcgnjkhnmmiaa
open Go.RowKit
theorem map_zero (w : World) : (zeroValue 28).run Try.prog w = .ok (.agg (mapC map0)) w := by kernel_rfl
theorem map_built : Try.prog.built 28 [] = some (mapC map0) := by kernel_rfl
theorem map0_len : map0.length = 40 := rfl
theorem box2 {w : World} {o o2 : Obj} : Below w.heap.size w ((w.alloc o).alloc o2) := box1.alloc (by simp) _
theorem blkG {w w1 : World} {o2 : Obj} {t : TypeId} {cs : Array Value} (h : Below ((w.alloc (.cells cs t)).alloc o2).heap.size ((w.alloc (.cells cs t)).alloc o2) w1) : Blk w1 w.heap.size t cs :=
  ((Blk.new w _ _).alloc _).below h (by simp; omega)
theorem blkP {w w1 : World} {o : Obj} {t : TypeId} {cs : Array Value} (h : Below ((w.alloc o).alloc (.cells cs t)).heap.size ((w.alloc o).alloc (.cells cs t)) w1) : Blk w1 (w.heap.size + 1) t cs :=
  (Blk.new_ (w.alloc o) t cs (w.heap.size + 1) (by simp)).below h (by simp)
theorem slotAt_get {m : List Slot} {k : Nat} {x : Slot} (h : m[k]? = some x) : slotAt m k = x := by unfold slotAt; rw [h]; rfl
theorem put2 {w : World} {g : Nat} {t : TypeId} {m : List Slot} {k : Nat} {x : Slot} (a : Int) (s : Nat) (h : Blk w g t (mapC m)) (hx : m[k]? = some x) :
    Blk ((w.setCell ⟨g, k * 3, none⟩ (.int .i64 a)).setCell ⟨g, k * 3 + 1, none⟩ (.int .u32 (s : Int))) g t (mapC (m.set k ⟨a, s, x.v⟩)) := by
  have h1 := Blk.flat_put slotC_len h hx (x' := ⟨a, x.s, x.v⟩) (j := 0) (u := .int .i64 a) (by decide) rfl
  have hk : k < m.length := (List.getElem?_eq_some_iff.1 hx).1
  have h2 := Blk.flat_put slotC_len h1 (i := k) (x := ⟨a, x.s, x.v⟩) (x' := ⟨a, s, x.v⟩) (by rw [List.getElem?_set_self hk]) (j := 1) (u := .int .u32 (s : Int)) (by decide) rfl
  rw [List.set_set] at h2
  exact h2
set_option maxRecDepth 100000 in
set_option maxHeartbeats 2000000 in
theorem drop_any (m : List Slot) (i : Int) (h40 : m.length = 40) (w : World) :
    Calls Try.prog 11 #[.agg (mapC m), .int .i64 i] w fun e w' => e = .returned (.tuple #[.agg (mapC (dropM m i).1), .int .i64 (dropM m i).2]) ∧ Below w.heap.size w w' := by
  have H40 := hide h40
  have C := fun w => wrong_any m i h40 w
  have hz := map_zero
  have B0 := Blk.new w 28 (mapC m)
  unfold dropM
  by_cases hw : wrongM m i = 0
  · rw [if_neg (by simp [hw])]
    rw [hw] at C
    have hi : 1 ≤ i ∧ i ≤ 39 := by
      unfold wrongM at hw
      split at hw
      · cases hw
      · split at hw
        · cases hw
        · omega
    obtain ⟨hi1, hi2⟩ := hi
    obtain ⟨k, rfl⟩ := Int.eq_ofNat_of_zero_le (show 0 ≤ i by omega)
    obtain ⟨x, hx⟩ : ∃ x, m[k]? = some x := ⟨_, List.getElem?_eq_getElem (by rw [h40]; omega)⟩
    rw [Int.toNat_natCast, slotAt_get hx]
    replace C := hide C; replace hx := hide hx
    clear hw h40
    by_cases ha : x.a = 0
    · rw [if_pos ha]
      replace ha := hide ha
      go_enter Try.func11, Try.ntmps11
      go_wp2_with (first
        | (refine wpList_load_row rfl _ (.tmp 2) rfl w.heap.size rfl _ (mapC m) _ _ (B0.alloc _) Try.arrMap rfl (by rw [mapC_size H40.out]; exact Try.sizeMap) ?_)
        | (go_at_call 24; refine (unhide C _).mono ?_; rintro e w1 ⟨rfl, hb1⟩; have B1 := hide (blkG hb1); have B2 := hide (blkP hb1); have hb := hide (nextB box2 hb1); obtain ⟨c0, c1, c2⟩ := map_blk_cells B1.out hx.out; rw [ha.out] at c0)
        | (refine wpList_built rfl 28 rfl (mapC map0) map_built ?_)
        | (refine wpList_store_row rfl _ (.tmp 4) _ rfl (w.heap.size + 1) (mapC map0) rfl rfl _ (mapC map0) B2.out (by rw [mapC_size rfl]; exact Try.sizeMap) rfl (mapC_one _) ?_))
      exact bodyPost_ret (results_cell_row_tmp rfl _ _ (w.heap.size + 1) _ (mapC map0) _ _ rfl (B2.out.row (mapC map0)) Try.arrMap rfl (by rw [mapC_size rfl]; exact Try.sizeMap)) rfl ⟨rfl, below_setRow hb.out (by omega) _⟩
    · rw [if_neg ha]
      have S40 := hide (show (m.set k ⟨0, 0, x.v⟩).length = 40 by rw [List.length_set]; exact H40.out)
      have ha2 : (x.a == 0) = false := by simpa using ha
      clear ha
      go_enter Try.func11, Try.ntmps11
      go_wp2_with (first
        | (refine wpList_load_row rfl _ (.tmp 2) rfl w.heap.size rfl _ (mapC m) _ _ (B0.alloc _) Try.arrMap rfl (by rw [mapC_size H40.out]; exact Try.sizeMap) ?_)
        | (go_at_call 24; refine (unhide C _).mono ?_; rintro e w1 ⟨rfl, hb1⟩; have B1 := hide (blkG hb1); have B2 := hide (blkP hb1); have hb := hide (nextB box2 hb1); obtain ⟨c0, c1, c2⟩ := map_blk_cells B1.out hx.out; have f0 := B1.out.frozen (k * 3); have f1 := B1.out.frozen (k * 3 + 1))
        | (refine wpList_load_row rfl _ (.tmp 2) rfl w.heap.size rfl 28 (mapC (m.set k ⟨0, 0, x.v⟩)) (0, 0) _ ?c1 Try.arrMap rfl (by rw [mapC_size S40.out]; exact Try.sizeMap) ?_)
        | (refine wpList_store_row rfl _ (.tmp 4) _ rfl (w.heap.size + 1) (mapC (m.set k ⟨0, 0, x.v⟩)) rfl rfl 28 (mapC map0) ?c2 (by rw [mapC_size S40.out]; exact Try.sizeMap) (by rw [mapC_size S40.out, mapC_size map0_len]) (mapC_one _) ?_))
      case c1 => exact put2 0 0 B1.out hx.out
      case c2 => exact (B2.out.far (by simp) _).far (by simp) _
      exact bodyPost_ret (results_cell_row_tmp rfl _ _ (w.heap.size + 1) _ (mapC (m.set k ⟨0, 0, x.v⟩)) _ _ rfl (((B2.out.far (by simp) _).far (by simp) _).row _) Try.arrMap rfl (by rw [mapC_size S40.out]; exact Try.sizeMap)) rfl ⟨rfl, below_setRow ((hb.out.setCell (by simp) _).setCell (by simp) _) (by omega) _⟩
  · rw [if_pos hw]
    have he : ((wrongM m i) != 0) = true := by simpa using hw
    obtain ⟨e0, he0⟩ : ∃ e, wrongM m i = e := ⟨_, rfl⟩
    rw [he0] at C he ⊢
    replace C := hide C
    clear hw he0 h40
    · go_enter Try.func11, Try.ntmps11
      go_wp2_with (first
        | (refine wpList_load_row rfl _ (.tmp 2) rfl w.heap.size rfl _ (mapC m) _ _ (B0.alloc _) Try.arrMap rfl (by rw [mapC_size H40.out]; exact Try.sizeMap) ?_)
        | (go_at_call 24; refine (unhide C _).mono ?_; rintro e w1 ⟨rfl, hb1⟩; have B1 := hide (blkG hb1); have B2 := hide (blkP hb1); have hb := hide (nextB box2 hb1))
        | (refine wpList_built rfl 28 rfl (mapC map0) map_built ?_)
        | (refine wpList_store_row rfl _ (.tmp 4) _ rfl (w.heap.size + 1) (mapC map0) rfl rfl _ (mapC map0) B2.out (by rw [mapC_size rfl]; exact Try.sizeMap) rfl (mapC_one _) ?_))
      exact bodyPost_ret (results_cell_row_tmp rfl _ _ (w.heap.size + 1) _ (mapC map0) _ _ rfl (B2.out.row (mapC map0)) Try.arrMap rfl (by rw [mapC_size rfl]; exact Try.sizeMap)) rfl ⟨rfl, below_setRow hb.out (by omega) _⟩
end Go.Proofs.Ytalcgnjkhnmmiaa
