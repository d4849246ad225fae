import Derived.Test.YtalcgnjkhnmmiaaImapK
import Derived.Test.YtalcgnjkhnmmiaaRely
namespace Go.Proofs.Ytalcgnjkhnmmiaa
set_option linter.unusedSimpArgs false
open Go.RowKit

/-- a map is compared with itself, in a guarded operation -/
theorem neq_map_g {ops : Array Oper} {rest : List Oper} {o : Oper} {a : Act} {w : World} {Q : Exit → Act → World → Prop} (x y : Operand) (ty : TypeId) (ho : o.op = .binOp .neq 28 x y ty) (hgd : Region.wanted o (yielded ops a.tmps) = true)
    (m : List Slot) (hx : a.eval x = .agg (mapC m)) (hy : a.eval y = .agg (mapC m)) (hl : m.length = 40) (h : wpList Try.prog ops Q rest (a.put o.dst (.bool false)) w) : wpList Try.prog ops Q (o :: rest) a w := by
  rw [wpList, if_pos hgd]
  refine .inl ?_
  unfold Oper.wp
  simp only [execOp, ho, hx, hy, Sem.run_bind, run_eqGuard_agg (P := Try.prog) w .neq 28 x y (mapC m) (mapC m) (by kernel_rfl), Result.andThen_ok, run_neq_struct w, map_eq hl hl w, Sem.run_pure, decide_true]
  exact h
/-- a slice of n elements -/
def SlN (n : Nat) (v : Value) : Prop := ∃ A c, v = .slice A n c
set_option maxRecDepth 100000 in
set_option maxHeartbeats 8000000 in
theorem walk_ImapMoves (m : List Slot) (i : Int) (p : Int × Nat) (w : World) (hm : m.length = 40 ∧ ∀ x ∈ m, slotOk x) (_hi : (Lit.int .i64 i).wf = true) (_hp : ptrOk p) :
    Calls Try.prog 4 #[.agg (mapC m), .int .i64 i, .agg #[.int .i64 p.1, .int .u32 (p.2 : Int)]] w fun e w' => e = .returned (.bool true) ∧ Below w.heap.size w w' := by
  obtain ⟨a, s⟩ := p
  obtain ⟨h40, _⟩ := hm
  simp only
  have C1 := fun w => put_any m i a s h40 w
  have CF := fun w => free_any m h40 w
  have l1 := putM_len h40 i a s
  have hmoved := fun X1 => put_moved (m := m) (i := i) (a := a) (s := s) h40 (X1 := X1)
  obtain ⟨X1, e1, h1⟩ : ∃ x y, putM m i a s = (x, y) := ⟨_, _, rfl⟩
  obtain ⟨fn, fe, hf⟩ : ∃ x y, freeM m = (x, y) := ⟨_, _, rfl⟩
  have hfree := fun n => freeM_ok h40 (n := n)
  rw [hf] at CF hfree; rw [h1] at C1 l1
  replace hmoved := fun h : e1 = 0 => hmoved X1 (by rw [h1, h])
  simp only at l1
  have k1 := hide l1
  have L1 := hide (mapC_size l1); have H40 := hide (mapC_size h40)
  have hz := map_zero
  have hfc : (fe ≠ 0 ∧ (fe != 0) = true) ∨ (fe = 0 ∧ ∃ (k : Nat) (x : Slot), fn = (k : Int) ∧ 1 ≤ k ∧ k < 40 ∧ m[k]? = some x ∧ x.a = 0) := by
    by_cases h : fe = 0
    · exact .inr ⟨h, hfree fn (by rw [h])⟩
    · exact .inl ⟨h, by simpa using h⟩
  replace hfc := hide hfc
  replace C1 := hide C1; replace CF := hide CF
  clear hf l1 hfree
  have B0 := hide ((Blk.new w 28 (mapC m)))
  by_cases he : e1 = 0
  · obtain ⟨k, v, X2, M⟩ := hmoved he
    subst he
    obtain ⟨rfl, kk1, kk40, _, l2, ⟨xo, hxo, hxv⟩, hx1, hdrop, hput, hchg, hthere, hsame⟩ := M
    have C2 := fun w => drop_any X1 (k : Int) k1.out w
    have C3 := fun w => put_any X2 (k : Int) a s l2 w
    have C4 := fun w => changed_any m X1 h40 k1.out w
    have C5 := fun w => there_any X2 l2 w
    have C6 := fun w => there_any X1 k1.out w
    rw [hdrop] at C2; rw [hput] at C3
    have L2 := hide (mapC_size l2)
    have hn40 : (thereM X2).length ≤ 40 := by
      unfold thereM
      by_cases h : mayM X2
      · rw [if_pos h]; exact thereL_le X2 40
      · rw [if_neg h]; simp
    obtain ⟨n4, hn4⟩ : ∃ n, n = (changedM m X1).length := ⟨_, rfl⟩
    obtain ⟨n5, hn5⟩ : ∃ n, n = (thereM X2).length := ⟨_, rfl⟩
    obtain ⟨n6, hn6⟩ : ∃ n, n = (thereM X1).length := ⟨_, rfl⟩
    unfold MadeI at C4 C5 C6
    rw [← hn4] at hchg C4; rw [← hn5, ← hn6] at hthere; rw [← hn5] at hn40
    rw [← hn5] at C5; rw [← hn6] at C6
    subst hthere
    replace C2 := hide C2; replace C3 := hide C3; replace C4 := hide C4; replace C5 := hide C5; replace C6 := hide C6
    have Hsame := hide hsame; have Hx1 := hide hx1; have Hxo := hide hxo
    clear h1 hn4 hn5 hn6 hdrop hput hmoved hsame hx1 hxo l2
    go_enter Try.func4, Try.ntmps4
    go_wp2_with ((with_reducible refine load_map (.tmp 3) rfl ?_ w.heap.size m ?_ ?_ H40.out ?_); (next => rfl); (next => rfl); (next => exact (B0.out.alloc _)))
    go_wp2_with (first
      | (go_at_call 9; (with_reducible refine (unhide C1 _).mono ?_); rintro e w3 ⟨rfl, hbk⟩; have hb := hide (nextB box2 hbk); replace B0 := hide (blkG hbk); have BP := hide (blkP hbk); clear hbk)
      | ((with_reducible refine store_map (.tmp 7) _ rfl ?_ w3 X1 ?_ ?_ L1.out ?_); (next => rfl); (next => rfl); (next => rfl))
      | ((with_reducible refine load_map (.tmp 3) rfl ?_ w.heap.size m ?_ ?_ H40.out ?_); (next => rfl); (next => rfl); (next => exact (B0.out.alloc _))))
    replace B0 := hide (B0.out.alloc (.cells (mapC X1) 28))
    replace BP := hide (BP.out.alloc (.cells (mapC X1) 28))
    have B7 := hide (Blk.new w3 28 (mapC X1))
    replace hb := hide (hb.out.alloc hb.out.size (.cells (mapC X1) 28))
    generalize (w3.alloc _) = W at B0 BP B7 hb ⊢
    obtain ⟨g7, hg⟩ : ∃ g, g = w3.heap.size := ⟨_, rfl⟩
    rw [← hg] at B7 ⊢
    clear hg
    have h0 := fun x : Ext W => (map_blk_cells (B7.out.below x.h B7.out.lt) Hx1.out).1
    have h1 := fun x : Ext W => (map_blk_cells (B7.out.below x.h B7.out.lt) Hx1.out).2.1
    have h2 := fun x : Ext W => (map_blk_cells (B7.out.below x.h B7.out.lt) Hx1.out).2.2
    have h3 := fun x : Ext W => (map_blk_cells (B0.out.below x.h B0.out.lt) Hxo.out).2.2
    have p0 := fun x : Ext W => (BP.out.below x.h BP.out.lt).cell_ 0 _ rfl
    have p1 := fun x : Ext W => (BP.out.below x.h BP.out.lt).cell_ 1 _ rfl
    simp only at h0 h1 h2 h3
    rw [hxv] at h3
    refine wp_region_rel W (by kernel_rfl) (by kernel_rfl) (Below.refl _ _) ?_
    repeat (apply rel_det; (intro x; simp only [List.filter_cons, List.filter_nil, lookT, Oper.looksAt, Op.operands, Call.operands, List.filterMap_cons, List.filterMap_nil, List.append_nil, List.contains_cons, List.contains_nil, Nat.reduceBEq, Bool.or_false, Bool.false_or, Bool.or_true, Bool.true_or, Bool.false_eq_true, if_true, if_false, withD_nil, withD_det, List.nil_append, List.cons_append, ↓reduceIte, List.push_toArray, List.append_toArray, List.map_cons, List.map_nil, Option.toArray_none, Option.toArray_some, Array.append_empty, List.getElem?_toArray, List.getElem?_cons_succ, List.getElem?_cons_zero, Option.bind_some, Option.toList_some]; unfold rOne; go_wp2_with fail; (first | (refine ⟨Below.refl _ _, ?_⟩; simp only [opGot, Array.getD_eq_getD_getElem?, List.getElem?_toArray, List.getElem?_cons_succ, List.getElem?_cons_zero, Option.getD_some]; exact rfl) | (refine ⟨by assumption, ?_⟩; simp only [opGot, Array.getD_eq_getD_getElem?, List.getElem?_toArray, List.getElem?_cons_succ, List.getElem?_cons_zero, Option.getD_some]; exact rfl) | (simp only [opGot, Array.getD_eq_getD_getElem?, List.getElem?_toArray, List.getElem?_cons_succ, List.getElem?_cons_zero, Option.getD_some]; exact rfl))))
    apply rel_det
    · intro x; simp only [List.filter_cons, List.filter_nil, lookT, Oper.looksAt, Op.operands, Call.operands, List.filterMap_cons, List.filterMap_nil, List.append_nil, List.contains_cons, List.contains_nil, Nat.reduceBEq, Bool.or_false, Bool.false_or, Bool.or_true, Bool.true_or, Bool.false_eq_true, if_true, if_false, withD_nil, withD_det, List.nil_append, List.cons_append, ↓reduceIte, List.push_toArray, List.append_toArray, List.map_cons, List.map_nil, Option.toArray_none, Option.toArray_some, Array.append_empty, List.getElem?_toArray, List.getElem?_cons_succ, List.getElem?_cons_zero, Option.bind_some, Option.toList_some]; unfold rOne
      go_wp2_with ((with_reducible refine load_map_g (.tmp 3) rfl ?_ w.heap.size m ?_ ?_ H40.out ?_); (next => rfl); (next => rfl); (next => exact (B0.out.below x.h B0.out.lt)))
      (first | (refine ⟨Below.refl _ _, ?_⟩; simp only [opGot, Array.getD_eq_getD_getElem?, List.getElem?_toArray, List.getElem?_cons_succ, List.getElem?_cons_zero, Option.getD_some]; exact rfl) | (refine ⟨by assumption, ?_⟩; simp only [opGot, Array.getD_eq_getD_getElem?, List.getElem?_toArray, List.getElem?_cons_succ, List.getElem?_cons_zero, Option.getD_some]; exact rfl) | (simp only [opGot, Array.getD_eq_getD_getElem?, List.getElem?_toArray, List.getElem?_cons_succ, List.getElem?_cons_zero, Option.getD_some]; exact rfl))
    apply rel_det
    · intro x; simp only [List.filter_cons, List.filter_nil, lookT, Oper.looksAt, Op.operands, Call.operands, List.filterMap_cons, List.filterMap_nil, List.append_nil, List.contains_cons, List.contains_nil, Nat.reduceBEq, Bool.or_false, Bool.false_or, Bool.or_true, Bool.true_or, Bool.false_eq_true, if_true, if_false, withD_nil, withD_det, List.nil_append, List.cons_append, ↓reduceIte, List.push_toArray, List.append_toArray, List.map_cons, List.map_nil, Option.toArray_none, Option.toArray_some, Array.append_empty, List.getElem?_toArray, List.getElem?_cons_succ, List.getElem?_cons_zero, Option.bind_some, Option.toList_some]; unfold rOne
      go_wp2_with ((with_reducible refine load_map_g (.tmp 7) rfl ?_ g7 X1 ?_ ?_ L1.out ?_); (next => rfl); (next => rfl); (next => exact (B7.out.below x.h B7.out.lt)))
      (first | (refine ⟨Below.refl _ _, ?_⟩; simp only [opGot, Array.getD_eq_getD_getElem?, List.getElem?_toArray, List.getElem?_cons_succ, List.getElem?_cons_zero, Option.getD_some]; exact rfl) | (refine ⟨by assumption, ?_⟩; simp only [opGot, Array.getD_eq_getD_getElem?, List.getElem?_toArray, List.getElem?_cons_succ, List.getElem?_cons_zero, Option.getD_some]; exact rfl) | (simp only [opGot, Array.getD_eq_getD_getElem?, List.getElem?_toArray, List.getElem?_cons_succ, List.getElem?_cons_zero, Option.getD_some]; exact rfl))
    apply rel_step (fun v w => SlN n4 v)
    · exact fun v w w' h _ => h
    · intro x; simp only [List.filter_cons, List.filter_nil, lookT, Oper.looksAt, Op.operands, Call.operands, List.filterMap_cons, List.filterMap_nil, List.append_nil, List.contains_cons, List.contains_nil, Nat.reduceBEq, Bool.or_false, Bool.false_or, Bool.or_true, Bool.true_or, Bool.false_eq_true, if_true, if_false, withD_nil, withD_det, List.nil_append, List.cons_append, ↓reduceIte, List.push_toArray, List.append_toArray, List.map_cons, List.map_nil, Option.toArray_none, Option.toArray_some, Array.append_empty, List.getElem?_toArray, List.getElem?_cons_succ, List.getElem?_cons_zero, Option.bind_some, Option.toList_some]; unfold rOne
      go_wp2_with (go_at_call 16; (with_reducible refine (unhide C4 _).mono ?_); rintro e w4 ⟨A, c, rfl, _, _, hb4⟩)
      exact ⟨A, c, by simp only [opGot, Array.getD_eq_getD_getElem?, List.getElem?_toArray, List.getElem?_cons_succ, List.getElem?_cons_zero, Option.getD_some]⟩
    apply rel_det
    · intro x; simp only [List.filter_cons, List.filter_nil, lookT, Oper.looksAt, Op.operands, Call.operands, List.filterMap_cons, List.filterMap_nil, List.append_nil, List.contains_cons, List.contains_nil, Nat.reduceBEq, Bool.or_false, Bool.false_or, Bool.or_true, Bool.true_or, Bool.false_eq_true, if_true, if_false, withD_nil, withD_det, List.nil_append, List.cons_append, ↓reduceIte, List.push_toArray, List.append_toArray, List.map_cons, List.map_nil, Option.toArray_none, Option.toArray_some, Array.append_empty, List.getElem?_toArray, List.getElem?_cons_succ, List.getElem?_cons_zero, Option.bind_some, Option.toList_some]; rw [withD_pr]; rintro v ⟨A, c, rfl⟩
      simp only [withD_det, withD_nil]
      unfold rOne
      go_wp2_with fail
      (first | (refine ⟨Below.refl _ _, ?_⟩; simp only [opGot, Array.getD_eq_getD_getElem?, List.getElem?_toArray, List.getElem?_cons_succ, List.getElem?_cons_zero, Option.getD_some]; exact rfl) | (refine ⟨by assumption, ?_⟩; simp only [opGot, Array.getD_eq_getD_getElem?, List.getElem?_toArray, List.getElem?_cons_succ, List.getElem?_cons_zero, Option.getD_some]; exact rfl) | (simp only [opGot, Array.getD_eq_getD_getElem?, List.getElem?_toArray, List.getElem?_cons_succ, List.getElem?_cons_zero, Option.getD_some]; exact rfl))
    repeat (apply rel_det; (intro x; simp only [List.filter_cons, List.filter_nil, lookT, Oper.looksAt, Op.operands, Call.operands, List.filterMap_cons, List.filterMap_nil, List.append_nil, List.contains_cons, List.contains_nil, Nat.reduceBEq, Bool.or_false, Bool.false_or, Bool.or_true, Bool.true_or, Bool.false_eq_true, if_true, if_false, withD_nil, withD_det, List.nil_append, List.cons_append, ↓reduceIte, List.push_toArray, List.append_toArray, List.map_cons, List.map_nil, Option.toArray_none, Option.toArray_some, Array.append_empty, List.getElem?_toArray, List.getElem?_cons_succ, List.getElem?_cons_zero, Option.bind_some, Option.toList_some]; unfold rOne; go_wp2_with fail; (first | (refine ⟨Below.refl _ _, ?_⟩; simp only [opGot, Array.getD_eq_getD_getElem?, List.getElem?_toArray, List.getElem?_cons_succ, List.getElem?_cons_zero, Option.getD_some]; exact rfl) | (refine ⟨by assumption, ?_⟩; simp only [opGot, Array.getD_eq_getD_getElem?, List.getElem?_toArray, List.getElem?_cons_succ, List.getElem?_cons_zero, Option.getD_some]; exact rfl) | (simp only [opGot, Array.getD_eq_getD_getElem?, List.getElem?_toArray, List.getElem?_cons_succ, List.getElem?_cons_zero, Option.getD_some]; exact rfl))))
    refine rel_nil ?_
    intro x
    simp only [List.filter_cons, List.filter_nil, lookT, Oper.looksAt, Op.operands, Call.operands, List.filterMap_cons, List.filterMap_nil, List.append_nil, List.contains_cons, List.contains_nil, Nat.reduceBEq, Bool.or_false, Bool.false_or, Bool.or_true, Bool.true_or, Bool.false_eq_true, if_true, if_false, withD_nil, withD_det, List.nil_append, List.cons_append, ↓reduceIte, List.push_toArray, List.append_toArray, List.map_cons, List.map_nil, Option.toArray_none, Option.toArray_some, Array.append_empty, List.getElem?_toArray, List.getElem?_cons_succ, List.getElem?_cons_zero, Option.bind_some, Option.toList_some]
    rw [withD_pr]
    rintro v ⟨A, c, rfl⟩
    simp only [withD_det, withD_nil, Act.put, List.setIfInBounds_toArray, List.set_cons_succ, List.set_cons_zero]
    replace B0 := hide (B0.out.below x.h B0.out.lt); replace B7 := hide (B7.out.below x.h B7.out.lt); replace BP := hide (BP.out.below x.h BP.out.lt); replace hb := hide (nextB hb.out x.h)
    clear h0 h1 h2 h3 p0 p1
    generalize x.w = W2 at B0 B7 BP hb ⊢
    go_wp2_with (first
      | ((with_reducible refine load_map (.tmp 7) rfl ?_ g7 X1 ?_ ?_ L1.out ?_); (next => rfl); (next => rfl); (next => exact B7.out))
      | (go_at_call 11; (with_reducible refine (unhide C2 _).mono ?_); rintro e w5 ⟨rfl, hbk⟩; replace hb := hide (nextB hb.out hbk); replace B0 := hide (B0.out.below hbk B0.out.lt); replace BP := hide (BP.out.below hbk BP.out.lt); replace B7 := hide (B7.out.below hbk B7.out.lt); clear hbk; have d0 := BP.out.cell_ 0 _ rfl; have d1 := BP.out.cell_ 1 _ rfl; have hl := BP.out.lt)
      | ((with_reducible refine store_map (.tmp 9) _ rfl ?_ w5 X2 ?_ ?_ L2.out ?_); (next => rfl); (next => rfl); (next => rfl))
      | ((with_reducible refine load_map (.tmp 9) rfl ?_ w5.heap.size X2 ?_ ?_ L2.out ?_); (next => rfl); (next => rfl); (next => exact Blk.new w5 _ _)))
    go_wp2_with (first
      | (go_at_call 9; (with_reducible refine (unhide C3 _).mono ?_); rintro e w6 ⟨rfl, hbk⟩; replace hb := hide (nextB (hb.out.alloc hb.out.size _) hbk); replace B0 := hide ((B0.out.alloc _).below hbk (B0.out.alloc _).lt); replace B7 := hide ((B7.out.alloc _).below hbk (B7.out.alloc _).lt); have B9 := hide ((Blk.new w5 28 (mapC X2)).below hbk (by simp)); clear hbk d0 d1 hl)
      | ((with_reducible refine store_map (.tmp 11) _ rfl ?_ w6 X1 ?_ ?_ L1.out ?_); (next => rfl); (next => rfl); (next => rfl)))
    replace B0 := hide (B0.out.alloc (.cells (mapC X1) 28)); replace B7 := hide (B7.out.alloc (.cells (mapC X1) 28)); replace B9 := hide (B9.out.alloc (.cells (mapC X1) 28))
    have B11 := hide (Blk.new w6 28 (mapC X1))
    replace hb := hide (hb.out.alloc hb.out.size (.cells (mapC X1) 28))
    generalize (w6.alloc _) = W3 at B0 B7 B9 B11 hb ⊢
    obtain ⟨g9, hg9⟩ : ∃ g, g = w5.heap.size := ⟨_, rfl⟩
    obtain ⟨g11, hg11⟩ : ∃ g, g = w6.heap.size := ⟨_, rfl⟩
    rw [← hg9] at B9 ⊢
    rw [← hg11] at B11 ⊢
    clear hg9 hg11
    refine wp_region_rel W3 (by kernel_rfl) (by kernel_rfl) (Below.refl _ _) ?_
    repeat (apply rel_det; (intro x; simp only [List.filter_cons, List.filter_nil, lookT, Oper.looksAt, Op.operands, Call.operands, List.filterMap_cons, List.filterMap_nil, List.append_nil, List.contains_cons, List.contains_nil, Nat.reduceBEq, Bool.or_false, Bool.false_or, Bool.or_true, Bool.true_or, Bool.false_eq_true, if_true, if_false, withD_nil, withD_det, List.nil_append, List.cons_append, ↓reduceIte, List.push_toArray, List.append_toArray, List.map_cons, List.map_nil, Option.toArray_none, Option.toArray_some, Array.append_empty, List.getElem?_toArray, List.getElem?_cons_succ, List.getElem?_cons_zero, Option.bind_some, Option.toList_some]; unfold rOne; go_wp2_with fail; (first | (refine ⟨Below.refl _ _, ?_⟩; simp only [opGot, Array.getD_eq_getD_getElem?, List.getElem?_toArray, List.getElem?_cons_succ, List.getElem?_cons_zero, Option.getD_some]; exact rfl) | (refine ⟨by assumption, ?_⟩; simp only [opGot, Array.getD_eq_getD_getElem?, List.getElem?_toArray, List.getElem?_cons_succ, List.getElem?_cons_zero, Option.getD_some]; exact rfl) | (simp only [opGot, Array.getD_eq_getD_getElem?, List.getElem?_toArray, List.getElem?_cons_succ, List.getElem?_cons_zero, Option.getD_some]; exact rfl))))
    apply rel_det
    · intro x; simp only [List.filter_cons, List.filter_nil, lookT, Oper.looksAt, Op.operands, Call.operands, List.filterMap_cons, List.filterMap_nil, List.append_nil, List.contains_cons, List.contains_nil, Nat.reduceBEq, Bool.or_false, Bool.false_or, Bool.or_true, Bool.true_or, Bool.false_eq_true, if_true, if_false, withD_nil, withD_det, List.nil_append, List.cons_append, ↓reduceIte, List.push_toArray, List.append_toArray, List.map_cons, List.map_nil, Option.toArray_none, Option.toArray_some, Array.append_empty, List.getElem?_toArray, List.getElem?_cons_succ, List.getElem?_cons_zero, Option.bind_some, Option.toList_some]; unfold rOne
      go_wp2_with ((with_reducible refine load_map_g (.tmp 11) rfl ?_ g11 X1 ?_ ?_ L1.out ?_); (next => rfl); (next => rfl); (next => exact (B11.out.below x.h B11.out.lt)))
      (first | (refine ⟨Below.refl _ _, ?_⟩; simp only [opGot, Array.getD_eq_getD_getElem?, List.getElem?_toArray, List.getElem?_cons_succ, List.getElem?_cons_zero, Option.getD_some]; exact rfl) | (refine ⟨by assumption, ?_⟩; simp only [opGot, Array.getD_eq_getD_getElem?, List.getElem?_toArray, List.getElem?_cons_succ, List.getElem?_cons_zero, Option.getD_some]; exact rfl) | (simp only [opGot, Array.getD_eq_getD_getElem?, List.getElem?_toArray, List.getElem?_cons_succ, List.getElem?_cons_zero, Option.getD_some]; exact rfl))
    apply rel_det
    · intro x; simp only [List.filter_cons, List.filter_nil, lookT, Oper.looksAt, Op.operands, Call.operands, List.filterMap_cons, List.filterMap_nil, List.append_nil, List.contains_cons, List.contains_nil, Nat.reduceBEq, Bool.or_false, Bool.false_or, Bool.or_true, Bool.true_or, Bool.false_eq_true, if_true, if_false, withD_nil, withD_det, List.nil_append, List.cons_append, ↓reduceIte, List.push_toArray, List.append_toArray, List.map_cons, List.map_nil, Option.toArray_none, Option.toArray_some, Array.append_empty, List.getElem?_toArray, List.getElem?_cons_succ, List.getElem?_cons_zero, Option.bind_some, Option.toList_some]; unfold rOne
      go_wp2_with ((with_reducible refine load_map_g (.tmp 7) rfl ?_ g7 X1 ?_ ?_ L1.out ?_); (next => rfl); (next => rfl); (next => exact (B7.out.below x.h B7.out.lt)))
      (first | (refine ⟨Below.refl _ _, ?_⟩; simp only [opGot, Array.getD_eq_getD_getElem?, List.getElem?_toArray, List.getElem?_cons_succ, List.getElem?_cons_zero, Option.getD_some]; exact rfl) | (refine ⟨by assumption, ?_⟩; simp only [opGot, Array.getD_eq_getD_getElem?, List.getElem?_toArray, List.getElem?_cons_succ, List.getElem?_cons_zero, Option.getD_some]; exact rfl) | (simp only [opGot, Array.getD_eq_getD_getElem?, List.getElem?_toArray, List.getElem?_cons_succ, List.getElem?_cons_zero, Option.getD_some]; exact rfl))
    apply rel_det
    · intro x; simp only [List.filter_cons, List.filter_nil, lookT, Oper.looksAt, Op.operands, Call.operands, List.filterMap_cons, List.filterMap_nil, List.append_nil, List.contains_cons, List.contains_nil, Nat.reduceBEq, Bool.or_false, Bool.false_or, Bool.or_true, Bool.true_or, Bool.false_eq_true, if_true, if_false, withD_nil, withD_det, List.nil_append, List.cons_append, ↓reduceIte, List.push_toArray, List.append_toArray, List.map_cons, List.map_nil, Option.toArray_none, Option.toArray_some, Array.append_empty, List.getElem?_toArray, List.getElem?_cons_succ, List.getElem?_cons_zero, Option.bind_some, Option.toList_some]; unfold rOne
      go_wp2_with ((with_reducible refine neq_map_g _ _ _ rfl ?_ X1 ?_ ?_ k1.out ?_); (next => rfl); (next => rfl); (next => rfl))
      (first | (refine ⟨Below.refl _ _, ?_⟩; simp only [opGot, Array.getD_eq_getD_getElem?, List.getElem?_toArray, List.getElem?_cons_succ, List.getElem?_cons_zero, Option.getD_some]; exact rfl) | (refine ⟨by assumption, ?_⟩; simp only [opGot, Array.getD_eq_getD_getElem?, List.getElem?_toArray, List.getElem?_cons_succ, List.getElem?_cons_zero, Option.getD_some]; exact rfl) | (simp only [opGot, Array.getD_eq_getD_getElem?, List.getElem?_toArray, List.getElem?_cons_succ, List.getElem?_cons_zero, Option.getD_some]; exact rfl))
    repeat (apply rel_det; (intro x; simp only [List.filter_cons, List.filter_nil, lookT, Oper.looksAt, Op.operands, Call.operands, List.filterMap_cons, List.filterMap_nil, List.append_nil, List.contains_cons, List.contains_nil, Nat.reduceBEq, Bool.or_false, Bool.false_or, Bool.or_true, Bool.true_or, Bool.false_eq_true, if_true, if_false, withD_nil, withD_det, List.nil_append, List.cons_append, ↓reduceIte, List.push_toArray, List.append_toArray, List.map_cons, List.map_nil, Option.toArray_none, Option.toArray_some, Array.append_empty, List.getElem?_toArray, List.getElem?_cons_succ, List.getElem?_cons_zero, Option.bind_some, Option.toList_some]; unfold rOne; go_wp2_with fail; (first | (refine ⟨Below.refl _ _, ?_⟩; simp only [opGot, Array.getD_eq_getD_getElem?, List.getElem?_toArray, List.getElem?_cons_succ, List.getElem?_cons_zero, Option.getD_some]; exact rfl) | (refine ⟨by assumption, ?_⟩; simp only [opGot, Array.getD_eq_getD_getElem?, List.getElem?_toArray, List.getElem?_cons_succ, List.getElem?_cons_zero, Option.getD_some]; exact rfl) | (simp only [opGot, Array.getD_eq_getD_getElem?, List.getElem?_toArray, List.getElem?_cons_succ, List.getElem?_cons_zero, Option.getD_some]; exact rfl))))
    apply rel_det
    · intro x; simp only [List.filter_cons, List.filter_nil, lookT, Oper.looksAt, Op.operands, Call.operands, List.filterMap_cons, List.filterMap_nil, List.append_nil, List.contains_cons, List.contains_nil, Nat.reduceBEq, Bool.or_false, Bool.false_or, Bool.or_true, Bool.true_or, Bool.false_eq_true, if_true, if_false, withD_nil, withD_det, List.nil_append, List.cons_append, ↓reduceIte, List.push_toArray, List.append_toArray, List.map_cons, List.map_nil, Option.toArray_none, Option.toArray_some, Array.append_empty, List.getElem?_toArray, List.getElem?_cons_succ, List.getElem?_cons_zero, Option.bind_some, Option.toList_some]; unfold rOne
      go_wp2_with ((with_reducible refine load_map_g (.tmp 9) rfl ?_ g9 X2 ?_ ?_ L2.out ?_); (next => rfl); (next => rfl); (next => exact (B9.out.below x.h B9.out.lt)))
      (first | (refine ⟨Below.refl _ _, ?_⟩; simp only [opGot, Array.getD_eq_getD_getElem?, List.getElem?_toArray, List.getElem?_cons_succ, List.getElem?_cons_zero, Option.getD_some]; exact rfl) | (refine ⟨by assumption, ?_⟩; simp only [opGot, Array.getD_eq_getD_getElem?, List.getElem?_toArray, List.getElem?_cons_succ, List.getElem?_cons_zero, Option.getD_some]; exact rfl) | (simp only [opGot, Array.getD_eq_getD_getElem?, List.getElem?_toArray, List.getElem?_cons_succ, List.getElem?_cons_zero, Option.getD_some]; exact rfl))
    apply rel_step (fun v w => SlN n5 v)
    · exact fun v w w' h _ => h
    · intro x; simp only [List.filter_cons, List.filter_nil, lookT, Oper.looksAt, Op.operands, Call.operands, List.filterMap_cons, List.filterMap_nil, List.append_nil, List.contains_cons, List.contains_nil, Nat.reduceBEq, Bool.or_false, Bool.false_or, Bool.or_true, Bool.true_or, Bool.false_eq_true, if_true, if_false, withD_nil, withD_det, List.nil_append, List.cons_append, ↓reduceIte, List.push_toArray, List.append_toArray, List.map_cons, List.map_nil, Option.toArray_none, Option.toArray_some, Array.append_empty, List.getElem?_toArray, List.getElem?_cons_succ, List.getElem?_cons_zero, Option.bind_some, Option.toList_some]; unfold rOne
      go_wp2_with (go_at_call 17; (with_reducible refine (unhide C5 _).mono ?_); rintro e w4 ⟨A, c, rfl, _, _, hb4⟩)
      exact ⟨A, c, by simp only [opGot, Array.getD_eq_getD_getElem?, List.getElem?_toArray, List.getElem?_cons_succ, List.getElem?_cons_zero, Option.getD_some]⟩
    apply rel_det
    · intro x; simp only [List.filter_cons, List.filter_nil, lookT, Oper.looksAt, Op.operands, Call.operands, List.filterMap_cons, List.filterMap_nil, List.append_nil, List.contains_cons, List.contains_nil, Nat.reduceBEq, Bool.or_false, Bool.false_or, Bool.or_true, Bool.true_or, Bool.false_eq_true, if_true, if_false, withD_nil, withD_det, List.nil_append, List.cons_append, ↓reduceIte, List.push_toArray, List.append_toArray, List.map_cons, List.map_nil, Option.toArray_none, Option.toArray_some, Array.append_empty, List.getElem?_toArray, List.getElem?_cons_succ, List.getElem?_cons_zero, Option.bind_some, Option.toList_some]; rw [withD_pr]; rintro v ⟨A, c, rfl⟩
      simp only [withD_det, withD_nil]
      unfold rOne
      go_wp2_with fail
      (first | (refine ⟨Below.refl _ _, ?_⟩; simp only [opGot, Array.getD_eq_getD_getElem?, List.getElem?_toArray, List.getElem?_cons_succ, List.getElem?_cons_zero, Option.getD_some]; exact rfl) | (refine ⟨by assumption, ?_⟩; simp only [opGot, Array.getD_eq_getD_getElem?, List.getElem?_toArray, List.getElem?_cons_succ, List.getElem?_cons_zero, Option.getD_some]; exact rfl) | (simp only [opGot, Array.getD_eq_getD_getElem?, List.getElem?_toArray, List.getElem?_cons_succ, List.getElem?_cons_zero, Option.getD_some]; exact rfl))
    apply rel_det
    · intro x; simp only [List.filter_cons, List.filter_nil, lookT, Oper.looksAt, Op.operands, Call.operands, List.filterMap_cons, List.filterMap_nil, List.append_nil, List.contains_cons, List.contains_nil, Nat.reduceBEq, Bool.or_false, Bool.false_or, Bool.or_true, Bool.true_or, Bool.false_eq_true, if_true, if_false, withD_nil, withD_det, List.nil_append, List.cons_append, ↓reduceIte, List.push_toArray, List.append_toArray, List.map_cons, List.map_nil, Option.toArray_none, Option.toArray_some, Array.append_empty, List.getElem?_toArray, List.getElem?_cons_succ, List.getElem?_cons_zero, Option.bind_some, Option.toList_some]; unfold rOne
      go_wp2_with ((with_reducible refine load_map_g (.tmp 7) rfl ?_ g7 X1 ?_ ?_ L1.out ?_); (next => rfl); (next => rfl); (next => exact (B7.out.below x.h B7.out.lt)))
      (first | (refine ⟨Below.refl _ _, ?_⟩; simp only [opGot, Array.getD_eq_getD_getElem?, List.getElem?_toArray, List.getElem?_cons_succ, List.getElem?_cons_zero, Option.getD_some]; exact rfl) | (refine ⟨by assumption, ?_⟩; simp only [opGot, Array.getD_eq_getD_getElem?, List.getElem?_toArray, List.getElem?_cons_succ, List.getElem?_cons_zero, Option.getD_some]; exact rfl) | (simp only [opGot, Array.getD_eq_getD_getElem?, List.getElem?_toArray, List.getElem?_cons_succ, List.getElem?_cons_zero, Option.getD_some]; exact rfl))
    apply rel_step (fun v w => SlN (n5 + 1) v)
    · exact fun v w w' h _ => h
    · intro x; simp only [List.filter_cons, List.filter_nil, lookT, Oper.looksAt, Op.operands, Call.operands, List.filterMap_cons, List.filterMap_nil, List.append_nil, List.contains_cons, List.contains_nil, Nat.reduceBEq, Bool.or_false, Bool.false_or, Bool.or_true, Bool.true_or, Bool.false_eq_true, if_true, if_false, withD_nil, withD_det, List.nil_append, List.cons_append, ↓reduceIte, List.push_toArray, List.append_toArray, List.map_cons, List.map_nil, Option.toArray_none, Option.toArray_some, Array.append_empty, List.getElem?_toArray, List.getElem?_cons_succ, List.getElem?_cons_zero, Option.bind_some, Option.toList_some]; unfold rOne
      go_wp2_with (go_at_call 17; (with_reducible refine (unhide C6 _).mono ?_); rintro e w4 ⟨A, c, rfl, _, _, hb4⟩)
      exact ⟨A, c, by simp only [opGot, Array.getD_eq_getD_getElem?, List.getElem?_toArray, List.getElem?_cons_succ, List.getElem?_cons_zero, Option.getD_some]⟩
    apply rel_det
    · intro x; simp only [List.filter_cons, List.filter_nil, lookT, Oper.looksAt, Op.operands, Call.operands, List.filterMap_cons, List.filterMap_nil, List.append_nil, List.contains_cons, List.contains_nil, Nat.reduceBEq, Bool.or_false, Bool.false_or, Bool.or_true, Bool.true_or, Bool.false_eq_true, if_true, if_false, withD_nil, withD_det, List.nil_append, List.cons_append, ↓reduceIte, List.push_toArray, List.append_toArray, List.map_cons, List.map_nil, Option.toArray_none, Option.toArray_some, Array.append_empty, List.getElem?_toArray, List.getElem?_cons_succ, List.getElem?_cons_zero, Option.bind_some, Option.toList_some]; rw [withD_pr]; rintro v ⟨A, c, rfl⟩
      simp only [withD_det, withD_nil]
      unfold rOne
      go_wp2_with fail
      (first | (refine ⟨Below.refl _ _, ?_⟩; simp only [opGot, Array.getD_eq_getD_getElem?, List.getElem?_toArray, List.getElem?_cons_succ, List.getElem?_cons_zero, Option.getD_some]; exact rfl) | (refine ⟨by assumption, ?_⟩; simp only [opGot, Array.getD_eq_getD_getElem?, List.getElem?_toArray, List.getElem?_cons_succ, List.getElem?_cons_zero, Option.getD_some]; exact rfl) | (simp only [opGot, Array.getD_eq_getD_getElem?, List.getElem?_toArray, List.getElem?_cons_succ, List.getElem?_cons_zero, Option.getD_some]; exact rfl))
    repeat (apply rel_det; (intro x; simp only [List.filter_cons, List.filter_nil, lookT, Oper.looksAt, Op.operands, Call.operands, List.filterMap_cons, List.filterMap_nil, List.append_nil, List.contains_cons, List.contains_nil, Nat.reduceBEq, Bool.or_false, Bool.false_or, Bool.or_true, Bool.true_or, Bool.false_eq_true, if_true, if_false, withD_nil, withD_det, List.nil_append, List.cons_append, ↓reduceIte, List.push_toArray, List.append_toArray, List.map_cons, List.map_nil, Option.toArray_none, Option.toArray_some, Array.append_empty, List.getElem?_toArray, List.getElem?_cons_succ, List.getElem?_cons_zero, Option.bind_some, Option.toList_some]; unfold rOne; go_wp2_with fail; (first | (refine ⟨Below.refl _ _, ?_⟩; simp only [opGot, Array.getD_eq_getD_getElem?, List.getElem?_toArray, List.getElem?_cons_succ, List.getElem?_cons_zero, Option.getD_some]; exact rfl) | (refine ⟨by assumption, ?_⟩; simp only [opGot, Array.getD_eq_getD_getElem?, List.getElem?_toArray, List.getElem?_cons_succ, List.getElem?_cons_zero, Option.getD_some]; exact rfl) | (simp only [opGot, Array.getD_eq_getD_getElem?, List.getElem?_toArray, List.getElem?_cons_succ, List.getElem?_cons_zero, Option.getD_some]; exact rfl))))
    refine rel_nil ?_
    intro x
    simp only [List.filter_cons, List.filter_nil, lookT, Oper.looksAt, Op.operands, Call.operands, List.filterMap_cons, List.filterMap_nil, List.append_nil, List.contains_cons, List.contains_nil, Nat.reduceBEq, Bool.or_false, Bool.false_or, Bool.or_true, Bool.true_or, Bool.false_eq_true, if_true, if_false, withD_nil, withD_det, List.nil_append, List.cons_append, ↓reduceIte, List.push_toArray, List.append_toArray, List.map_cons, List.map_nil, Option.toArray_none, Option.toArray_some, Array.append_empty, List.getElem?_toArray, List.getElem?_cons_succ, List.getElem?_cons_zero, Option.bind_some, Option.toList_some]
    rw [withD_pr]
    rintro v ⟨A5, c5, rfl⟩
    simp only [withD_det]
    rw [withD_pr]
    rintro v ⟨A6, c6, rfl⟩
    simp only [withD_det, withD_nil, Act.put, List.setIfInBounds_toArray, List.set_cons_succ, List.set_cons_zero]
    replace B0 := hide (B0.out.below x.h B0.out.lt); replace B7 := hide (B7.out.below x.h B7.out.lt); replace B9 := hide (B9.out.below x.h B9.out.lt); replace hb := hide (nextB hb.out x.h)
    generalize x.w = W4 at B0 B7 B9 hb ⊢
    clear B11
    go_wp2_with fail
    go_loopw [13] (fun i wr => ∃ j : Nat, j ≤ 40 ∧ i = .int .i64 (j : Int) ∧ Below W4.heap.size W4 wr) (fun i _ => 40 - (intOf i).toNat)
    case atStart => exact ⟨0, by omega, rfl, Below.refl _ _⟩
    case round =>
      obtain ⟨j, hj, rfl, hb2⟩ := hrel
      by_cases hlt : j < 40
      · by_cases hjk : j = k
        · have e1 : ((j : Int) != (k : Int)) = false := by simp [hjk]
          clear hjk
          go_wp2_with fail
          refine wp_region_ext wr (by kernel_rfl) (by kernel_rfl) (Below.refl _ _) ?_
          repeat (first | go_big_quiet_step ((first | fail)) | quiet_step ((first | fail)))
          refine wpQuiet_nil ?_
          intro wx hw'
          obtain ⟨⟨_, hx⟩, rfl⟩ := hw'
          go_wp2_with fail
          go_roundw
          case rel => exact ⟨j + 1, by omega, by go_num, nextB hb2 hx⟩
          case measure => simp [intOf]; omega
        · obtain ⟨y, y0, y1, y2⟩ := Hsame.out j hlt hjk
          have e1 : ((j : Int) != (k : Int)) = true := by simp; omega
          have EQ : ∀ w, (Op.equalIn 10000 26 (.agg #[.int .i64 y.a, .int .u32 (y.s : Int), .int .i64 y.v]) (.agg #[.int .i64 y.a, .int .u32 (y.s : Int), .int .i64 y.v])).run Try.prog w = .ok true w := fun w => by
            have := eqSlot 9997 y y w trivial trivial
            rwa [decide_eq_true rfl] at this
          replace EQ := hide EQ
          have D0 := hide (B0.out.below hb2 B0.out.lt)
          have D7 := hide (B7.out.below hb2 B7.out.lt)
          have D9 := hide (B9.out.below hb2 B9.out.lt)
          replace y0 := hide y0; replace y1 := hide y1; replace y2 := hide y2
          have q0 := fun x : Ext wr => (map_blk_cells (D0.out.below x.h D0.out.lt) y0.out).1
          have q1 := fun x : Ext wr => (map_blk_cells (D0.out.below x.h D0.out.lt) y0.out).2.1
          have q2 := fun x : Ext wr => (map_blk_cells (D0.out.below x.h D0.out.lt) y0.out).2.2
          have r0 := fun x : Ext wr => (map_blk_cells (D7.out.below x.h D7.out.lt) y1.out).1
          have r1 := fun x : Ext wr => (map_blk_cells (D7.out.below x.h D7.out.lt) y1.out).2.1
          have r2 := fun x : Ext wr => (map_blk_cells (D7.out.below x.h D7.out.lt) y1.out).2.2
          have s0 := fun x : Ext wr => (map_blk_cells (D9.out.below x.h D9.out.lt) y2.out).1
          have s1 := fun x : Ext wr => (map_blk_cells (D9.out.below x.h D9.out.lt) y2.out).2.1
          have s2 := fun x : Ext wr => (map_blk_cells (D9.out.below x.h D9.out.lt) y2.out).2.2
          go_wp2_with fail
          refine wp_region_ext wr (by kernel_rfl) (by kernel_rfl) (Below.refl _ _) ?_
          repeat (first | go_big_quiet_step ((first | fail)) | quiet_step ((first | fail)))
          repeat
            refine quiet_neq rfl _ _ _ _ rfl (by kernel_rfl) #[.int .i64 y.a, .int .u32 (y.s : Int), .int .i64 y.v] #[.int .i64 y.a, .int .u32 (y.s : Int), .int .i64 y.v] rfl rfl true (fun w => EQ.out w) ?_
            repeat (first | go_big_quiet_step ((first | fail)) | quiet_step ((first | fail)))
          refine wpQuiet_nil ?_
          intro wx hw'
          obtain ⟨⟨_, hx⟩, rfl⟩ := hw'
          clear q0 q1 q2 r0 r1 r2 s0 s1 s2
          go_wp2_with fail
          go_roundw
          case rel => exact ⟨j + 1, by omega, by go_num, nextB hb2 hx⟩
          case measure => simp [intOf]; omega
      · obtain rfl : j = 40 := by omega
        replace hb := hide (nextB hb.out hb2)
        replace B0 := hide (B0.out.below hb2 B0.out.lt)
        clear hb2
        rcases hfc.out with ⟨_, hf⟩ | ⟨hf, k', x', hk, hk1, hk2, hx, hxa⟩
        · go_wp2_with (first
            | ((with_reducible refine load_map (.tmp 3) rfl ?_ w.heap.size m ?_ ?_ H40.out ?_); (next => rfl); (next => rfl); (next => exact B0.out))
            | (go_at_call 7; (with_reducible refine (unhide CF _).mono ?_); rintro e w8 ⟨rfl, hbk⟩; replace hb := hide (nextB hb.out hbk); clear hbk)
            | (go_at_call 15; refine (awake_any _).mono ?_; rintro e w9 ⟨rfl, hb9⟩))
          go_ret
          exact ⟨rfl, nextB hb.out hb9⟩
        · subst hf; subst hk
          go_wp2_with (first
            | ((with_reducible refine load_map (.tmp 3) rfl ?_ w.heap.size m ?_ ?_ H40.out ?_); (next => rfl); (next => rfl); (next => exact B0.out))
            | (go_at_call 7; (with_reducible refine (unhide CF _).mono ?_); rintro e w8 ⟨rfl, hbk⟩; replace hb := hide (nextB hb.out hbk); replace B0 := hide (B0.out.below hbk B0.out.lt); clear hbk; obtain ⟨c0, c1, c2⟩ := map_blk_cells B0.out hx; rw [hxa] at c0)
            | (go_at_call 15; refine (awake_any _).mono ?_; rintro e w9 ⟨rfl, hb9⟩))
          go_ret
          exact ⟨rfl, nextB hb.out hb9⟩
  · have he2 : (e1 == 0) = false := by simpa using he
    clear hmoved he h1
    go_enter Try.func4, Try.ntmps4
    go_wp2_with ((with_reducible refine load_map (.tmp 3) rfl ?_ w.heap.size m ?_ ?_ H40.out ?_); (next => rfl); (next => rfl); (next => exact (B0.out.alloc _)))
    go_wp2_with (first
      | (go_at_call 9; (with_reducible refine (unhide C1 _).mono ?_); rintro e w3 ⟨rfl, hbk⟩; have hb := hide (nextB box2 hbk); replace B0 := hide (blkG hbk); have BP := hide (blkP hbk); clear hbk)
      | ((with_reducible refine store_map (.tmp 7) _ rfl ?_ w3 X1 ?_ ?_ L1.out ?_); (next => rfl); (next => rfl); (next => rfl))
      | ((with_reducible refine load_map (.tmp 3) rfl ?_ w.heap.size m ?_ ?_ H40.out ?_); (next => rfl); (next => rfl); (next => exact (B0.out.alloc _))))
    rcases hfc.out with ⟨_, hf⟩ | ⟨hf, k, x, hk, hk1, hk2, hx, hxa⟩
    · go_wp2_with (first
        | (go_at_call 7; (with_reducible refine (unhide CF _).mono ?_); rintro e w4 ⟨rfl, hbk⟩; replace hb := hide (nextB (hb.out.alloc hb.out.size _) hbk); clear hbk)
        | (go_at_call 15; refine (awake_any _).mono ?_; rintro e w9 ⟨rfl, hb9⟩))
      go_ret
      exact ⟨rfl, nextB hb.out hb9⟩
    · subst hf; subst hk
      go_wp2_with (first
        | (go_at_call 7; (with_reducible refine (unhide CF _).mono ?_); rintro e w4 ⟨rfl, hbk⟩; replace hb := hide (nextB (hb.out.alloc hb.out.size _) hbk); replace B0 := hide ((B0.out.alloc _).below hbk (B0.out.alloc _).lt); clear hbk; obtain ⟨c0, c1, c2⟩ := map_blk_cells B0.out hx; rw [hxa] at c0)
        | (go_at_call 15; refine (awake_any _).mono ?_; rintro e w9 ⟨rfl, hb9⟩))
      go_ret
      exact ⟨rfl, nextB hb.out hb9⟩
end Go.Proofs.Ytalcgnjkhnmmiaa
