import Derived.Test.YtalcgnjkhnmmiaaImapE
namespace Go.Proofs.Ytalcgnjkhnmmiaa
open Go.RowKit

theorem box3 {w : World} {o o2 o3 : Obj} : Below w.heap.size w (((w.alloc o).alloc o2).alloc o3) := box2.alloc (by simp; omega) _
theorem blk31 {w w1 : World} {o2 o3 : Obj} {t : TypeId} {cs : Array Value} (h : Below (((w.alloc (.cells cs t)).alloc o2).alloc o3).heap.size (((w.alloc (.cells cs t)).alloc o2).alloc o3) w1) : Blk w1 w.heap.size t cs :=
  (((Blk.new w _ _).alloc _).alloc _).below h (by simp; omega)
theorem blk32 {w w1 : World} {o1 o3 : Obj} {t : TypeId} {cs : Array Value} (h : Below (((w.alloc o1).alloc (.cells cs t)).alloc o3).heap.size (((w.alloc o1).alloc (.cells cs t)).alloc o3) w1) : Blk w1 (w.heap.size + 1) t cs :=
  ((Blk.new_ (w.alloc o1) t cs (w.heap.size + 1) (by simp)).alloc _).below h (by simp)
theorem blk33 {w w1 : World} {o1 o2 : Obj} {t : TypeId} {cs : Array Value} (h : Below (((w.alloc o1).alloc o2).alloc (.cells cs t)).heap.size (((w.alloc o1).alloc o2).alloc (.cells cs t)) w1) : Blk w1 (w.heap.size + 2) t cs :=
  (Blk.new_ ((w.alloc o1).alloc o2) t cs (w.heap.size + 2) (by simp)).below h (by simp)
set_option maxRecDepth 100000 in
set_option maxHeartbeats 4000000 in
theorem put_any (m : List Slot) (i a : Int) (s : Nat) (h40 : m.length = 40) (w : World) :
    Calls Try.prog 9 #[.agg (mapC m), .int .i64 i, .agg #[.int .i64 a, .int .u32 (s : Int)]] w fun e w' => e = .returned (.tuple #[.agg (mapC (putM m i a s).1), .int .i64 (putM m i a s).2]) ∧ Below w.heap.size w w' := by
  have H40 := hide h40
  have C := fun w => wrong_any m i h40 w
  have hz := map_zero
  have B0 := Blk.new w 28 (mapC m)
  unfold putM
  by_cases hw : wrongM m i = 0
  · rw [if_neg (by simp [hw])]
    rw [hw] at C
    have hi : 1 ≤ i ∧ i ≤ 39 := by
      unfold wrongM at hw
      split at hw
      · cases hw
      · split at hw
        · cases hw
        · omega
    obtain ⟨hi1, hi2⟩ := hi
    obtain ⟨k, rfl⟩ := Int.eq_ofNat_of_zero_le (show 0 ≤ i by omega)
    obtain ⟨x, hx⟩ : ∃ x, m[k]? = some x := ⟨_, List.getElem?_eq_getElem (by rw [h40]; omega)⟩
    have hmay : rightS x := by
      unfold wrongM at hw
      split at hw
      · cases hw
      · rename_i hm
        have hm : mayM m := by simpa using hm
        exact hm.1 x (List.mem_of_getElem? hx)
    rw [Int.toNat_natCast, slotAt_get hx]
    have hr : rightS ⟨a, s, x.v⟩ ↔ ptrR a s := ⟨fun h => h.1, fun h => ⟨h, hmay.2⟩⟩
    have S40 := hide (show (m.set k ⟨a, s, x.v⟩).length = 40 by rw [List.length_set]; exact H40.out)
    replace C := hide C; replace hx := hide hx
    clear hw h40 hmay
    by_cases ha : a < 1
    · rw [if_pos (.inl ha)]
      clear hr
      go_enter Try.func9, Try.ntmps9
      go_wp2_with (first
        | (refine wpList_load_row rfl _ (.tmp 3) rfl w.heap.size rfl _ (mapC m) _ _ ((B0.alloc _).alloc _) Try.arrMap rfl (by rw [mapC_size H40.out]; exact Try.sizeMap) ?_)
        | (go_at_call 24; refine (unhide C _).mono ?_; rintro e w1 ⟨rfl, hb1⟩; have B1 := hide (blk31 hb1); have B2 := hide (blk32 hb1); have B3 := hide (blk33 hb1); have hb := hide (nextB box3 hb1); clear hb1; obtain ⟨c0, c1, c2⟩ := map_blk_cells B1.out hx.out; have f0 := B1.out.frozen (k * 3); have f1 := B1.out.frozen (k * 3 + 1); have d0 := B2.out.cell_ 0 _ rfl; have d1 := B2.out.cell_ 1 _ rfl)
        | (refine wpList_built rfl 28 rfl (mapC map0) map_built ?_)
        | (refine wpList_store_row rfl _ (.tmp 6) _ rfl (w.heap.size + 2) (mapC map0) rfl rfl 28 (mapC map0) ?c1 (by rw [mapC_size map0_len]; exact Try.sizeMap) rfl (mapC_one _) ?_))
      case c1 => exact (B3.out.far (by simp) _).far (by simp) _
      exact bodyPost_ret (results_cell_row_tmp rfl _ _ (w.heap.size + 2) _ (mapC map0) _ _ rfl (((B3.out.far (by simp) _).far (by simp) _).row (mapC map0)) Try.arrMap rfl (by rw [mapC_size map0_len]; exact Try.sizeMap)) rfl ⟨rfl, below_setRow ((hb.out.setCell (by simp) _).setCell (by simp) _) (by omega) _⟩
    · have R := fun w => right_any a s x.v w
      by_cases hp : ptrR a s
      · rw [if_neg (by simp [ha, hp])]
        rw [decide_eq_true (hr.2 hp)] at R
        replace R := hide R
        clear hr hp
        go_enter Try.func9, Try.ntmps9
        go_wp2_with (first
          | (refine wpList_load_row rfl _ (.tmp 3) rfl w.heap.size rfl _ (mapC m) _ _ ((B0.alloc _).alloc _) Try.arrMap rfl (by rw [mapC_size H40.out]; exact Try.sizeMap) ?_)
          | (go_at_call 24; refine (unhide C _).mono ?_; rintro e w1 ⟨rfl, hb1⟩; have B1 := hide (blk31 hb1); have B2 := hide (blk32 hb1); have B3 := hide (blk33 hb1); have hb := hide (nextB box3 hb1); clear hb1; obtain ⟨c0, c1, c2⟩ := map_blk_cells B1.out hx.out; have f0 := B1.out.frozen (k * 3); have f1 := B1.out.frozen (k * 3 + 1); have d0 := B2.out.cell_ 0 _ rfl; have d1 := B2.out.cell_ 1 _ rfl)
          | (go_at_call 25; refine (unhide R _).mono ?_; rintro e w2 ⟨rfl, hb2⟩; have P1 := put2 a s B1.out hx.out; have P3 := (B3.out.far (p := ⟨w.heap.size, k * 3, none⟩) (by simp) (.int .i64 a)).far (p := ⟨w.heap.size, k * 3 + 1, none⟩) (by simp) (.int .u32 (s : Int)); replace P1 := hide (P1.below hb2 P1.lt); replace P3 := hide (P3.below hb2 P3.lt); have kb := hide (nextB ((hb.out.setCell (p := ⟨w.heap.size, k * 3, none⟩) (by simp) (.int .i64 a)).setCell (p := ⟨w.heap.size, k * 3 + 1, none⟩) (by simp) (.int .u32 (s : Int))) hb2); clear hb2 c0 c1 c2 f0 f1 d0 d1)
          | (refine wpList_load_row rfl _ (.tmp 3) rfl w.heap.size rfl 28 (mapC (m.set k ⟨a, s, x.v⟩)) (0, 0) _ P1.out Try.arrMap rfl (by rw [mapC_size S40.out]; exact Try.sizeMap) ?_)
          | (refine wpList_store_row rfl _ (.tmp 6) _ rfl (w.heap.size + 2) (mapC (m.set k ⟨a, s, x.v⟩)) rfl rfl 28 (mapC map0) P3.out (by rw [mapC_size S40.out]; exact Try.sizeMap) (by rw [mapC_size S40.out, mapC_size map0_len]) (mapC_one _) ?_))
        exact bodyPost_ret (results_cell_row_tmp rfl _ _ (w.heap.size + 2) _ (mapC (m.set k ⟨a, s, x.v⟩)) _ _ rfl (P3.out.row _) Try.arrMap rfl (by rw [mapC_size S40.out]; exact Try.sizeMap)) rfl ⟨rfl, below_setRow kb.out (by omega) _⟩
      · rw [if_pos (.inr hp)]
        rw [decide_eq_false (fun h => hp (hr.1 h))] at R
        replace R := hide R
        clear hr hp
        go_enter Try.func9, Try.ntmps9
        go_wp2_with (first
          | (refine wpList_load_row rfl _ (.tmp 3) rfl w.heap.size rfl _ (mapC m) _ _ ((B0.alloc _).alloc _) Try.arrMap rfl (by rw [mapC_size H40.out]; exact Try.sizeMap) ?_)
          | (go_at_call 24; refine (unhide C _).mono ?_; rintro e w1 ⟨rfl, hb1⟩; have B1 := hide (blk31 hb1); have B2 := hide (blk32 hb1); have B3 := hide (blk33 hb1); have hb := hide (nextB box3 hb1); clear hb1; obtain ⟨c0, c1, c2⟩ := map_blk_cells B1.out hx.out; have f0 := B1.out.frozen (k * 3); have f1 := B1.out.frozen (k * 3 + 1); have d0 := B2.out.cell_ 0 _ rfl; have d1 := B2.out.cell_ 1 _ rfl)
          | (go_at_call 25; refine (unhide R _).mono ?_; rintro e w2 ⟨rfl, hb2⟩; have P3 := (B3.out.far (p := ⟨w.heap.size, k * 3, none⟩) (by simp) (.int .i64 a)).far (p := ⟨w.heap.size, k * 3 + 1, none⟩) (by simp) (.int .u32 (s : Int)); replace P3 := hide (P3.below hb2 P3.lt); have kb := hide (nextB ((hb.out.setCell (p := ⟨w.heap.size, k * 3, none⟩) (by simp) (.int .i64 a)).setCell (p := ⟨w.heap.size, k * 3 + 1, none⟩) (by simp) (.int .u32 (s : Int))) hb2); clear hb2 c0 c1 c2 f0 f1 d0 d1)
          | (refine wpList_built rfl 28 rfl (mapC map0) map_built ?_)
          | (refine wpList_store_row rfl _ (.tmp 6) _ rfl (w.heap.size + 2) (mapC map0) rfl rfl 28 (mapC map0) P3.out (by rw [mapC_size map0_len]; exact Try.sizeMap) rfl (mapC_one _) ?_))
        exact bodyPost_ret (results_cell_row_tmp rfl _ _ (w.heap.size + 2) _ (mapC map0) _ _ rfl (P3.out.row (mapC map0)) Try.arrMap rfl (by rw [mapC_size map0_len]; exact Try.sizeMap)) rfl ⟨rfl, below_setRow kb.out (by omega) _⟩
  · rw [if_pos hw]
    have he : ((wrongM m i) != 0) = true := by simpa using hw
    obtain ⟨e0, he0⟩ : ∃ e, wrongM m i = e := ⟨_, rfl⟩
    rw [he0] at C he ⊢
    replace C := hide C
    clear hw he0 h40
    go_enter Try.func9, Try.ntmps9
    go_wp2_with (first
      | (refine wpList_load_row rfl _ (.tmp 3) rfl w.heap.size rfl _ (mapC m) _ _ ((B0.alloc _).alloc _) Try.arrMap rfl (by rw [mapC_size H40.out]; exact Try.sizeMap) ?_)
      | (go_at_call 24; refine (unhide C _).mono ?_; rintro e w1 ⟨rfl, hb1⟩; have B1 := hide (blk31 hb1); have B2 := hide (blk32 hb1); have B3 := hide (blk33 hb1); have hb := hide (nextB box3 hb1); clear hb1)
      | (refine wpList_built rfl 28 rfl (mapC map0) map_built ?_)
      | (refine wpList_store_row rfl _ (.tmp 6) _ rfl (w.heap.size + 2) (mapC map0) rfl rfl 28 (mapC map0) B3.out (by rw [mapC_size map0_len]; exact Try.sizeMap) rfl (mapC_one _) ?_))
    exact bodyPost_ret (results_cell_row_tmp rfl _ _ (w.heap.size + 2) _ (mapC map0) _ _ rfl (B3.out.row (mapC map0)) Try.arrMap rfl (by rw [mapC_size map0_len]; exact Try.sizeMap)) rfl ⟨rfl, below_setRow hb.out (by omega) _⟩
set_option maxRecDepth 100000 in
set_option maxHeartbeats 4000000 in
theorem putRef_any (m : List Slot) (i a : Int) (s : Nat) (h40 : m.length = 40) (w : World) :
    Calls Try.prog 10 #[.agg (mapC m), .int .i64 i, .agg #[.int .i64 a, .int .u32 (s : Int)]] w fun e w' => e = .returned (.tuple #[.agg (mapC (putM m i a s).1), .int .i64 (putM m i a s).2]) ∧ Below w.heap.size w w' := by
  have H40 := hide h40
  have C := fun w => wrongRef_any m i h40 w
  have hz := map_zero
  have B0 := Blk.new w 28 (mapC m)
  unfold putM
  by_cases hw : wrongM m i = 0
  · rw [if_neg (by simp [hw])]
    rw [hw] at C
    have hi : 1 ≤ i ∧ i ≤ 39 := by
      unfold wrongM at hw
      split at hw
      · cases hw
      · split at hw
        · cases hw
        · omega
    obtain ⟨hi1, hi2⟩ := hi
    obtain ⟨k, rfl⟩ := Int.eq_ofNat_of_zero_le (show 0 ≤ i by omega)
    obtain ⟨x, hx⟩ : ∃ x, m[k]? = some x := ⟨_, List.getElem?_eq_getElem (by rw [h40]; omega)⟩
    have hmay : rightS x := by
      unfold wrongM at hw
      split at hw
      · cases hw
      · rename_i hm
        have hm : mayM m := by simpa using hm
        exact hm.1 x (List.mem_of_getElem? hx)
    rw [Int.toNat_natCast, slotAt_get hx]
    have hr : rightS ⟨a, s, x.v⟩ ↔ ptrR a s := ⟨fun h => h.1, fun h => ⟨h, hmay.2⟩⟩
    have S40 := hide (show (m.set k ⟨a, s, x.v⟩).length = 40 by rw [List.length_set]; exact H40.out)
    replace C := hide C; replace hx := hide hx
    clear hw h40 hmay
    by_cases ha : a < 1
    · rw [if_pos (.inl ha)]
      clear hr
      go_enter Try.func10, Try.ntmps10
      go_wp2_with (first
        | (refine wpList_load_row rfl _ (.tmp 3) rfl w.heap.size rfl _ (mapC m) _ _ ((B0.alloc _).alloc _) Try.arrMap rfl (by rw [mapC_size H40.out]; exact Try.sizeMap) ?_)
        | (go_at_call 26; refine (unhide C _).mono ?_; rintro e w1 ⟨rfl, hb1⟩; have B1 := hide (blk31 hb1); have B2 := hide (blk32 hb1); have B3 := hide (blk33 hb1); have hb := hide (nextB box3 hb1); clear hb1; obtain ⟨c0, c1, c2⟩ := map_blk_cells B1.out hx.out; have f0 := B1.out.frozen (k * 3); have f1 := B1.out.frozen (k * 3 + 1); have d0 := B2.out.cell_ 0 _ rfl; have d1 := B2.out.cell_ 1 _ rfl)
        | (refine wpList_built rfl 28 rfl (mapC map0) map_built ?_)
        | (refine wpList_store_row rfl _ (.tmp 6) _ rfl (w.heap.size + 2) (mapC map0) rfl rfl 28 (mapC map0) B3.out (by rw [mapC_size map0_len]; exact Try.sizeMap) rfl (mapC_one _) ?_))
      exact bodyPost_ret (results_cell_row_tmp rfl _ _ (w.heap.size + 2) _ (mapC map0) _ _ rfl (B3.out.row (mapC map0)) Try.arrMap rfl (by rw [mapC_size map0_len]; exact Try.sizeMap)) rfl ⟨rfl, below_setRow hb.out (by omega) _⟩
    · have R := fun w => pointerRef_any a s w
      by_cases hp : ptrR a s
      · rw [if_neg (by simp [ha, hp])]
        rw [decide_eq_true hp] at R
        replace R := hide R
        clear hr hp
        go_enter Try.func10, Try.ntmps10
        go_wp2_with (first
          | (refine wpList_load_row rfl _ (.tmp 3) rfl w.heap.size rfl _ (mapC m) _ _ ((B0.alloc _).alloc _) Try.arrMap rfl (by rw [mapC_size H40.out]; exact Try.sizeMap) ?_)
          | (go_at_call 26; refine (unhide C _).mono ?_; rintro e w1 ⟨rfl, hb1⟩; have B1 := hide (blk31 hb1); have B2 := hide (blk32 hb1); have B3 := hide (blk33 hb1); have hb := hide (nextB box3 hb1); clear hb1; obtain ⟨c0, c1, c2⟩ := map_blk_cells B1.out hx.out; have f0 := B1.out.frozen (k * 3); have f1 := B1.out.frozen (k * 3 + 1); have d0 := B2.out.cell_ 0 _ rfl; have d1 := B2.out.cell_ 1 _ rfl)
          | (go_at_call 27; refine (unhide R _).mono ?_; rintro e w2 ⟨rfl, hb2⟩; have P1 := hide (B1.out.below hb2 B1.out.lt); have P2 := hide (B2.out.below hb2 B2.out.lt); have P3 := hide (B3.out.below hb2 B3.out.lt); have kb := hide (nextB hb.out hb2); clear hb2 c0 c1 c2 f0 f1 d0 d1; obtain ⟨c0, c1, c2⟩ := map_blk_cells P1.out hx.out; have f0 := P1.out.frozen (k * 3); have f1 := P1.out.frozen (k * 3 + 1); have d0 := P2.out.cell_ 0 _ rfl; have d1 := P2.out.cell_ 1 _ rfl)
          | (refine wpList_load_row rfl _ (.tmp 3) rfl w.heap.size rfl 28 (mapC (m.set k ⟨a, s, x.v⟩)) (0, 0) _ ?c1 Try.arrMap rfl (by rw [mapC_size S40.out]; exact Try.sizeMap) ?_)
          | (refine wpList_store_row rfl _ (.tmp 6) _ rfl (w.heap.size + 2) (mapC (m.set k ⟨a, s, x.v⟩)) rfl rfl 28 (mapC map0) ?c2 (by rw [mapC_size S40.out]; exact Try.sizeMap) (by rw [mapC_size S40.out, mapC_size map0_len]) (mapC_one _) ?_))
        case c1 => exact put2 a s P1.out hx.out
        case c2 => exact (P3.out.far (by simp) _).far (by simp) _
        exact bodyPost_ret (results_cell_row_tmp rfl _ _ (w.heap.size + 2) _ (mapC (m.set k ⟨a, s, x.v⟩)) _ _ rfl (((P3.out.far (by simp) _).far (by simp) _).row _) Try.arrMap rfl (by rw [mapC_size S40.out]; exact Try.sizeMap)) rfl ⟨rfl, below_setRow ((kb.out.setCell (by simp) _).setCell (by simp) _) (by omega) _⟩
      · rw [if_pos (.inr hp)]
        rw [decide_eq_false hp] at R
        replace R := hide R
        clear hr hp
        go_enter Try.func10, Try.ntmps10
        go_wp2_with (first
          | (refine wpList_load_row rfl _ (.tmp 3) rfl w.heap.size rfl _ (mapC m) _ _ ((B0.alloc _).alloc _) Try.arrMap rfl (by rw [mapC_size H40.out]; exact Try.sizeMap) ?_)
          | (go_at_call 26; refine (unhide C _).mono ?_; rintro e w1 ⟨rfl, hb1⟩; have B1 := hide (blk31 hb1); have B2 := hide (blk32 hb1); have B3 := hide (blk33 hb1); have hb := hide (nextB box3 hb1); clear hb1; obtain ⟨c0, c1, c2⟩ := map_blk_cells B1.out hx.out; have f0 := B1.out.frozen (k * 3); have f1 := B1.out.frozen (k * 3 + 1); have d0 := B2.out.cell_ 0 _ rfl; have d1 := B2.out.cell_ 1 _ rfl)
          | (go_at_call 27; refine (unhide R _).mono ?_; rintro e w2 ⟨rfl, hb2⟩; have P3 := hide (B3.out.below hb2 B3.out.lt); have kb := hide (nextB hb.out hb2); clear hb2 c0 c1 c2 f0 f1 d0 d1)
          | (refine wpList_built rfl 28 rfl (mapC map0) map_built ?_)
          | (refine wpList_store_row rfl _ (.tmp 6) _ rfl (w.heap.size + 2) (mapC map0) rfl rfl 28 (mapC map0) P3.out (by rw [mapC_size map0_len]; exact Try.sizeMap) rfl (mapC_one _) ?_))
        exact bodyPost_ret (results_cell_row_tmp rfl _ _ (w.heap.size + 2) _ (mapC map0) _ _ rfl (P3.out.row (mapC map0)) Try.arrMap rfl (by rw [mapC_size map0_len]; exact Try.sizeMap)) rfl ⟨rfl, below_setRow kb.out (by omega) _⟩
  · rw [if_pos hw]
    have he : ((wrongM m i) != 0) = true := by simpa using hw
    obtain ⟨e0, he0⟩ : ∃ e, wrongM m i = e := ⟨_, rfl⟩
    rw [he0] at C he ⊢
    replace C := hide C
    clear hw he0 h40
    go_enter Try.func10, Try.ntmps10
    go_wp2_with (first
      | (refine wpList_load_row rfl _ (.tmp 3) rfl w.heap.size rfl _ (mapC m) _ _ ((B0.alloc _).alloc _) Try.arrMap rfl (by rw [mapC_size H40.out]; exact Try.sizeMap) ?_)
      | (go_at_call 26; refine (unhide C _).mono ?_; rintro e w1 ⟨rfl, hb1⟩; have B1 := hide (blk31 hb1); have B2 := hide (blk32 hb1); have B3 := hide (blk33 hb1); have hb := hide (nextB box3 hb1); clear hb1)
      | (refine wpList_built rfl 28 rfl (mapC map0) map_built ?_)
      | (refine wpList_store_row rfl _ (.tmp 6) _ rfl (w.heap.size + 2) (mapC map0) rfl rfl 28 (mapC map0) B3.out (by rw [mapC_size map0_len]; exact Try.sizeMap) rfl (mapC_one _) ?_))
    exact bodyPost_ret (results_cell_row_tmp rfl _ _ (w.heap.size + 2) _ (mapC map0) _ _ rfl (B3.out.row (mapC map0)) Try.arrMap rfl (by rw [mapC_size map0_len]; exact Try.sizeMap)) rfl ⟨rfl, below_setRow hb.out (by omega) _⟩
end Go.Proofs.Ytalcgnjkhnmmiaa
