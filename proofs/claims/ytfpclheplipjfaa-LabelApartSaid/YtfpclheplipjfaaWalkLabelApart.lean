import Derived.Test.YtfpclheplipjfaaLabG
import Derived.Test.YtfpclheplipjfaaPlainT
import Derived.Test.YtfpclheplipjfaaOpenQ
import Derived.Test.YtfpclheplipjfaaVarL
namespace Go.Proofs.Ytfpclheplipjfaa
set_option linter.unusedSimpArgs false
open Go.RowKit
theorem Try.wideTwo : Wide Try.prog 25 2 := ⟨by kernel_rfl, by kernel_rfl⟩
theorem Try.sizeGeo : (Try.prog.info? 23).map (·.size) = some 4 := by kernel_rfl
theorem Try.sizeTwo : (Try.prog.info? 25).map (·.size) = some 2 := by kernel_rfl
theorem eqGeo (D L V S D' L' V' S' : Int) (w : World) : (Op.equalIn 10000 23 (.agg #[.int .i64 D, .int .i64 L, .int .i64 V, .int .i64 S]) (.agg #[.int .i64 D', .int .i64 L', .int .i64 V', .int .i64 S'])).run Try.prog w = .ok (decide (D = D' ∧ L = L' ∧ V = V' ∧ S = S')) w := by
  rw [run_equalIn_struct w _ _ _ _ (by kernel_rfl) (by kernel_rfl)]
  simp [go_sem]
  by_cases h1 : D = D' <;> by_cases h2 : L = L' <;> by_cases h3 : V = V' <;> by_cases h4 : S = S' <;> simp [h1, h2, h3, h4]
theorem super_two (D L V S D' L' V' S' : Int) : ∃ x1 e1 x2 e2, superR D L V S = (x1, e1) ∧ superR D' L' V' S' = (x2, e2) ∧
    (e1 = 1 ∨ (e1 = 0 ∧ e2 = 1) ∨ (e1 = 0 ∧ e2 = 0 ∧ x1 = x2 ∧ D = D' ∧ L = L' ∧ V = V' ∧ S = S') ∨ (e1 = 0 ∧ e2 = 0 ∧ x1 ≠ x2 ∧ ¬ (D = D' ∧ L = L' ∧ V = V' ∧ S = S'))) := by
  unfold superR
  by_cases h : mayG D L V S
  · by_cases h' : mayG D' L' V' S'
    · refine ⟨superB D L V S, 0, superB D' L' V' S', 0, if_pos h, if_pos h', ?_⟩
      by_cases he : D = D' ∧ L = L' ∧ V = V' ∧ S = S'
      · refine .inr (.inr (.inl ⟨rfl, rfl, ?_, he⟩))
        obtain ⟨rfl, rfl, rfl, rfl⟩ := he
        rfl
      · exact .inr (.inr (.inr ⟨rfl, rfl, fun hx => he (superB_inj h h' hx), he⟩))
    · exact ⟨superB D L V S, 0, [], 1, if_pos h, if_neg h', .inr (.inl ⟨rfl, rfl⟩)⟩
  · exact ⟨[], 1, _, _, if_neg h, rfl, .inl rfl⟩
set_option maxRecDepth 100000 in
set_option maxHeartbeats 8000000 in
theorem walk_LabelApart (q : GeoT × GeoT × List Nat × List Nat) (w : World) (h1 : i64w q.1.1 ∧ i64w q.1.2.1 ∧ i64w q.1.2.2.1 ∧ i64w q.1.2.2.2) (h2 : i64w q.2.1.1 ∧ i64w q.2.1.2.1 ∧ i64w q.2.1.2.2.1 ∧ i64w q.2.1.2.2.2)
    (h3 : q.2.2.1.length = 2 ∧ ∀ y ∈ q.2.2.1, y < 65536) (h4 : q.2.2.2.length = 2 ∧ ∀ y ∈ q.2.2.2, y < 65536) :
    Calls Try.prog 3 #[.agg (apartC q).toArray] w fun e w' => e = .returned (.bool true) ∧ Below w.heap.size w w' := by
  obtain ⟨⟨D, L, V, S⟩, ⟨D', L', V', S'⟩, la, lb⟩ := q
  obtain ⟨a0, a1, rfl⟩ : ∃ a b, la = [a, b] := by
    match la, h3.1 with
    | [a, b], _ => exact ⟨a, b, rfl⟩
  obtain ⟨b0, b1, rfl⟩ : ∃ a b, lb = [a, b] := by
    match lb, h4.1 with
    | [a, b], _ => exact ⟨a, b, rfl⟩
  have ha0 : a0 < 65536 := h3.2 a0 (by simp)
  have ha1 : a1 < 65536 := h3.2 a1 (by simp)
  have hb0 : b0 < 65536 := h4.2 b0 (by simp)
  have hb1 : b1 < 65536 := h4.2 b1 (by simp)
  simp only at h1 h2
  have e0 : (apartC ((D, L, V, S), (D', L', V', S'), [a0, a1], [b0, b1])).toArray = #[.int .i64 D, .int .i64 L, .int .i64 V, .int .i64 S, .int .i64 D', .int .i64 L', .int .i64 V', .int .i64 S', .int .u16 (a0 : Int), .int .u16 (a1 : Int), .int .u16 (b0 : Int), .int .u16 (b1 : Int)] := rfl
  rw [e0]
  clear e0 h3 h4
  have C1 := fun w => super_any D L V S w h1
  have C2 := fun w => super_any D' L' V' S' w h2
  have C3 := fun w => label_any ((a0 : Int) % 8) (a1 : Int) w (by omega) (by omega)
  have C4 := fun w => label_any ((b0 : Int) % 8) (b1 : Int) w (by omega) (by omega)
  have m3 : mayL ((a0 : Int) % 8) (a1 : Int) := by unfold mayL; omega
  have m4 : mayL ((b0 : Int) % 8) (b1 : Int) := by unfold mayL; omega
  rw [show labelR ((a0 : Int) % 8) (a1 : Int) = (labelB ((a0 : Int) % 8) a1, 0) from if_pos m3] at C3
  rw [show labelR ((b0 : Int) % 8) (b1 : Int) = (labelB ((b0 : Int) % 8) b1, 0) from if_pos m4] at C4
  have hinj : labelB ((a0 : Int) % 8) a1 = labelB ((b0 : Int) % 8) b1 → (a0 : Int) % 8 = (b0 : Int) % 8 ∧ (a1 : Int) = (b1 : Int) := fun h => labelB_inj m3 m4 h
  have hcong : (a0 : Int) % 8 = (b0 : Int) % 8 → (a1 : Int) = (b1 : Int) → labelB ((a0 : Int) % 8) a1 = labelB ((b0 : Int) % 8) b1 := fun h h' => by rw [h, h']
  have ll1 := labelB_len ((a0 : Int) % 8) a1; have ll2 := labelB_len ((b0 : Int) % 8) b1
  generalize labelB ((a0 : Int) % 8) a1 = R3 at C3 hinj hcong ll1
  generalize labelB ((b0 : Int) % 8) b1 = R4 at C4 hinj hcong ll2
  replace C1 := hide C1; replace C2 := hide C2; replace C3 := hide C3; replace C4 := hide C4; replace hinj := hide hinj; replace hcong := hide hcong; replace ll1 := hide ll1; replace ll2 := hide ll2
  clear m3 m4 h1 h2
  -- the parameter's block
  obtain ⟨W, hW⟩ : ∃ W, W = w.alloc (.cells #[.int .i64 D, .int .i64 L, .int .i64 V, .int .i64 S, .int .i64 D', .int .i64 L', .int .i64 V', .int .i64 S', .int .u16 (a0 : Int), .int .u16 (a1 : Int), .int .u16 (b0 : Int), .int .u16 (b1 : Int)] 27) := ⟨_, rfl⟩
  have BP := Blk.new w 27 #[.int .i64 D, .int .i64 L, .int .i64 V, .int .i64 S, .int .i64 D', .int .i64 L', .int .i64 V', .int .i64 S', .int .u16 (a0 : Int), .int .u16 (a1 : Int), .int .u16 (b0 : Int), .int .u16 (b1 : Int)]
  have hb : Hid (Below w.heap.size w W) := by rw [hW]; exact box1
  rw [← hW] at BP
  have hWs : w.heap.size < W.heap.size := BP.lt
  have p0 := fun (x : Ext W) => (BP.below x.h hWs).cell_ 0 _ rfl
  have p1 := fun (x : Ext W) => (BP.below x.h hWs).cell_ 1 _ rfl
  have p2 := fun (x : Ext W) => (BP.below x.h hWs).cell_ 2 _ rfl
  have p3 := fun (x : Ext W) => (BP.below x.h hWs).cell_ 3 _ rfl
  have p4 := fun (x : Ext W) => (BP.below x.h hWs).cell_ 4 _ rfl
  have p5 := fun (x : Ext W) => (BP.below x.h hWs).cell_ 5 _ rfl
  have p6 := fun (x : Ext W) => (BP.below x.h hWs).cell_ 6 _ rfl
  have p7 := fun (x : Ext W) => (BP.below x.h hWs).cell_ 7 _ rfl
  have p8 := fun (x : Ext W) => (BP.below x.h hWs).cell_ 8 _ rfl
  have p9 := fun (x : Ext W) => (BP.below x.h hWs).cell_ 9 _ rfl
  have p10 := fun (x : Ext W) => (BP.below x.h hWs).cell_ 10 _ rfl
  have p11 := fun (x : Ext W) => (BP.below x.h hWs).cell_ 11 _ rfl
  clear BP
  go_enter Try.func3, Try.ntmps3
  go_wp2_with fail
  rw [← hW]
  replace hW := hide hW
  refine wp_region_var W [23, 25] (by kernel_rfl) (by kernel_rfl) (Below.refl _ _) ?_
  repeat (apply var_det; (intro x; simp only [List.nil_append, List.cons_append, List.map_cons, List.map_nil, depP, depG, finP, Option.some.injEq, Nat.reduceEqDiff, reduceCtorEq, ↓reduceIte]; simp only [List.filter_cons, List.filter_nil, lookT, Oper.looksAt, Op.operands, Call.operands, List.filterMap_cons, List.filterMap_nil, List.append_nil, List.contains_cons, List.contains_nil, Nat.reduceBEq, Bool.or_false, Bool.false_or, Bool.or_true, Bool.true_or, Bool.false_eq_true, if_true, if_false, withD_nil, withD_det, List.nil_append, List.cons_append, ↓reduceIte, List.push_toArray, List.append_toArray, List.map_cons, List.map_nil, Option.toArray_none, Option.toArray_some, Array.append_empty, List.getElem?_toArray, List.getElem?_cons_succ, List.getElem?_cons_zero, Option.bind_some, Option.toList_some]; unfold rOne; go_wp2_with fail; (first | (refine ⟨Below.refl _ _, ?_⟩; simp only [opGot, Array.getD_eq_getD_getElem?, List.getElem?_toArray, List.getElem?_cons_succ, List.getElem?_cons_zero, Option.getD_some]; exact rfl) | (refine ⟨by assumption, ?_⟩; simp only [opGot, Array.getD_eq_getD_getElem?, List.getElem?_toArray, List.getElem?_cons_succ, List.getElem?_cons_zero, Option.getD_some]; exact rfl) | (simp only [opGot, Array.getD_eq_getD_getElem?, List.getElem?_toArray, List.getElem?_cons_succ, List.getElem?_cons_zero, Option.getD_some]; exact rfl))))
  refine var_al 23 4 #[.int .i64 D, .int .i64 L, .int .i64 V, .int .i64 S] 3 (by simp) rfl ?_ ?_
  · intro x; simp only [List.nil_append, List.cons_append, List.map_cons, List.map_nil, depP, depG, finP, Option.some.injEq, Nat.reduceEqDiff, reduceCtorEq, ↓reduceIte]; simp only [List.filter_cons, List.filter_nil, lookT, Oper.looksAt, Op.operands, Call.operands, List.filterMap_cons, List.filterMap_nil, List.append_nil, List.contains_cons, List.contains_nil, Nat.reduceBEq, Bool.or_false, Bool.false_or, Bool.or_true, Bool.true_or, Bool.false_eq_true, if_true, if_false, withD_nil, withD_det, List.nil_append, List.cons_append, ↓reduceIte, List.push_toArray, List.append_toArray, List.map_cons, List.map_nil, Option.toArray_none, Option.toArray_some, Array.append_empty, List.getElem?_toArray, List.getElem?_cons_succ, List.getElem?_cons_zero, Option.bind_some, Option.toList_some]; unfold rOne; go_wp2_with fail
    exact ⟨by simp only [opGot, Array.getD_eq_getD_getElem?, List.getElem?_toArray, List.getElem?_cons_succ, List.getElem?_cons_zero, Option.getD_some], _, rfl, rfl⟩
  refine var_al 23 4 #[.int .i64 D', .int .i64 L', .int .i64 V', .int .i64 S'] 4 (by simp) rfl ?_ ?_
  · intro x; simp only [List.nil_append, List.cons_append, List.map_cons, List.map_nil, depP, depG, finP, Option.some.injEq, Nat.reduceEqDiff, reduceCtorEq, ↓reduceIte]; simp only [List.filter_cons, List.filter_nil, lookT, Oper.looksAt, Op.operands, Call.operands, List.filterMap_cons, List.filterMap_nil, List.append_nil, List.contains_cons, List.contains_nil, Nat.reduceBEq, Bool.or_false, Bool.false_or, Bool.or_true, Bool.true_or, Bool.false_eq_true, if_true, if_false, withD_nil, withD_det, List.nil_append, List.cons_append, ↓reduceIte, List.push_toArray, List.append_toArray, List.map_cons, List.map_nil, Option.toArray_none, Option.toArray_some, Array.append_empty, List.getElem?_toArray, List.getElem?_cons_succ, List.getElem?_cons_zero, Option.bind_some, Option.toList_some]; unfold rOne; go_wp2_with fail
    exact ⟨by simp only [opGot, Array.getD_eq_getD_getElem?, List.getElem?_toArray, List.getElem?_cons_succ, List.getElem?_cons_zero, Option.getD_some], _, rfl, rfl⟩
  refine var_al 25 2 #[.int .u16 (a0 : Int), .int .u16 (a1 : Int)] 5 (by simp) rfl ?_ ?_
  · intro x; simp only [List.nil_append, List.cons_append, List.map_cons, List.map_nil, depP, depG, finP, Option.some.injEq, Nat.reduceEqDiff, reduceCtorEq, ↓reduceIte]; simp only [List.filter_cons, List.filter_nil, lookT, Oper.looksAt, Op.operands, Call.operands, List.filterMap_cons, List.filterMap_nil, List.append_nil, List.contains_cons, List.contains_nil, Nat.reduceBEq, Bool.or_false, Bool.false_or, Bool.or_true, Bool.true_or, Bool.false_eq_true, if_true, if_false, withD_nil, withD_det, List.nil_append, List.cons_append, ↓reduceIte, List.push_toArray, List.append_toArray, List.map_cons, List.map_nil, Option.toArray_none, Option.toArray_some, Array.append_empty, List.getElem?_toArray, List.getElem?_cons_succ, List.getElem?_cons_zero, Option.bind_some, Option.toList_some]; unfold rOne; go_wp2_with fail
    exact ⟨by simp only [opGot, Array.getD_eq_getD_getElem?, List.getElem?_toArray, List.getElem?_cons_succ, List.getElem?_cons_zero, Option.getD_some], _, rfl, rfl⟩
  refine var_al 25 2 #[.int .u16 (b0 : Int), .int .u16 (b1 : Int)] 6 (by simp) rfl ?_ ?_
  · intro x; simp only [List.nil_append, List.cons_append, List.map_cons, List.map_nil, depP, depG, finP, Option.some.injEq, Nat.reduceEqDiff, reduceCtorEq, ↓reduceIte]; simp only [List.filter_cons, List.filter_nil, lookT, Oper.looksAt, Op.operands, Call.operands, List.filterMap_cons, List.filterMap_nil, List.append_nil, List.contains_cons, List.contains_nil, Nat.reduceBEq, Bool.or_false, Bool.false_or, Bool.or_true, Bool.true_or, Bool.false_eq_true, if_true, if_false, withD_nil, withD_det, List.nil_append, List.cons_append, ↓reduceIte, List.push_toArray, List.append_toArray, List.map_cons, List.map_nil, Option.toArray_none, Option.toArray_some, Array.append_empty, List.getElem?_toArray, List.getElem?_cons_succ, List.getElem?_cons_zero, Option.bind_some, Option.toList_some]; unfold rOne; go_wp2_with fail
    exact ⟨by simp only [opGot, Array.getD_eq_getD_getElem?, List.getElem?_toArray, List.getElem?_cons_succ, List.getElem?_cons_zero, Option.getD_some], _, rfl, rfl⟩
  refine var_st 3 23 4 #[.int .i64 D, .int .i64 L, .int .i64 V, .int .i64 S] (by simp) rfl rfl rfl ?_ ?_
  · intro x g cs _ hB hsz; simp only [List.nil_append, List.cons_append, List.map_cons, List.map_nil, depP, depG, finP, Option.some.injEq, Nat.reduceEqDiff, reduceCtorEq, ↓reduceIte]; simp only [List.filter_cons, List.filter_nil, lookT, Oper.looksAt, Op.operands, Call.operands, List.filterMap_cons, List.filterMap_nil, List.append_nil, List.contains_cons, List.contains_nil, Nat.reduceBEq, Bool.or_false, Bool.false_or, Bool.or_true, Bool.true_or, Bool.false_eq_true, if_true, if_false, withD_nil, withD_det, List.nil_append, List.cons_append, ↓reduceIte, List.push_toArray, List.append_toArray, List.map_cons, List.map_nil, Option.toArray_none, Option.toArray_some, Array.append_empty, List.getElem?_toArray, List.getElem?_cons_succ, List.getElem?_cons_zero, Option.bind_some, Option.toList_some]; unfold rOne
    go_wp2_with ((with_reducible refine wpList_store_at (.tmp 3) (.tmp 16) rfl ?_ g _ cs #[.int .i64 D, .int .i64 L, .int .i64 V, .int .i64 S] ?_ ?_ hB ?_ ?_ ?_ ?_); (next => rfl); (next => rfl); (next => rfl); (next => exact Try.sizeGeo); (next => exact hsz); (next => simp [Value.oneCell']))
    exact ⟨Only.row _ _ _, hB.row _⟩
  refine var_st 4 23 4 #[.int .i64 D', .int .i64 L', .int .i64 V', .int .i64 S'] (by simp) rfl rfl rfl ?_ ?_
  · intro x g cs _ hB hsz; simp only [List.nil_append, List.cons_append, List.map_cons, List.map_nil, depP, depG, finP, Option.some.injEq, Nat.reduceEqDiff, reduceCtorEq, ↓reduceIte]; simp only [List.filter_cons, List.filter_nil, lookT, Oper.looksAt, Op.operands, Call.operands, List.filterMap_cons, List.filterMap_nil, List.append_nil, List.contains_cons, List.contains_nil, Nat.reduceBEq, Bool.or_false, Bool.false_or, Bool.or_true, Bool.true_or, Bool.false_eq_true, if_true, if_false, withD_nil, withD_det, List.nil_append, List.cons_append, ↓reduceIte, List.push_toArray, List.append_toArray, List.map_cons, List.map_nil, Option.toArray_none, Option.toArray_some, Array.append_empty, List.getElem?_toArray, List.getElem?_cons_succ, List.getElem?_cons_zero, Option.bind_some, Option.toList_some]; unfold rOne
    go_wp2_with ((with_reducible refine wpList_store_at (.tmp 4) (.tmp 18) rfl ?_ g _ cs #[.int .i64 D', .int .i64 L', .int .i64 V', .int .i64 S'] ?_ ?_ hB ?_ ?_ ?_ ?_); (next => rfl); (next => rfl); (next => rfl); (next => exact Try.sizeGeo); (next => exact hsz); (next => simp [Value.oneCell']))
    exact ⟨Only.row _ _ _, hB.row _⟩
  refine var_st 5 25 2 #[.int .u16 (a0 : Int), .int .u16 (a1 : Int)] (by simp) rfl rfl rfl ?_ ?_
  · intro x g cs _ hB hsz; simp only [List.nil_append, List.cons_append, List.map_cons, List.map_nil, depP, depG, finP, Option.some.injEq, Nat.reduceEqDiff, reduceCtorEq, ↓reduceIte]; simp only [List.filter_cons, List.filter_nil, lookT, Oper.looksAt, Op.operands, Call.operands, List.filterMap_cons, List.filterMap_nil, List.append_nil, List.contains_cons, List.contains_nil, Nat.reduceBEq, Bool.or_false, Bool.false_or, Bool.or_true, Bool.true_or, Bool.false_eq_true, if_true, if_false, withD_nil, withD_det, List.nil_append, List.cons_append, ↓reduceIte, List.push_toArray, List.append_toArray, List.map_cons, List.map_nil, Option.toArray_none, Option.toArray_some, Array.append_empty, List.getElem?_toArray, List.getElem?_cons_succ, List.getElem?_cons_zero, Option.bind_some, Option.toList_some]; unfold rOne
    go_wp2_with ((with_reducible refine wpList_store_at (.tmp 5) (.tmp 20) rfl ?_ g _ cs #[.int .u16 (a0 : Int), .int .u16 (a1 : Int)] ?_ ?_ hB ?_ ?_ ?_ ?_); (next => rfl); (next => rfl); (next => rfl); (next => exact Try.sizeTwo); (next => exact hsz); (next => simp [Value.oneCell']))
    exact ⟨Only.row _ _ _, hB.row _⟩
  refine var_st 6 25 2 #[.int .u16 (b0 : Int), .int .u16 (b1 : Int)] (by simp) rfl rfl rfl ?_ ?_
  · intro x g cs _ hB hsz; simp only [List.nil_append, List.cons_append, List.map_cons, List.map_nil, depP, depG, finP, Option.some.injEq, Nat.reduceEqDiff, reduceCtorEq, ↓reduceIte]; simp only [List.filter_cons, List.filter_nil, lookT, Oper.looksAt, Op.operands, Call.operands, List.filterMap_cons, List.filterMap_nil, List.append_nil, List.contains_cons, List.contains_nil, Nat.reduceBEq, Bool.or_false, Bool.false_or, Bool.or_true, Bool.true_or, Bool.false_eq_true, if_true, if_false, withD_nil, withD_det, List.nil_append, List.cons_append, ↓reduceIte, List.push_toArray, List.append_toArray, List.map_cons, List.map_nil, Option.toArray_none, Option.toArray_some, Array.append_empty, List.getElem?_toArray, List.getElem?_cons_succ, List.getElem?_cons_zero, Option.bind_some, Option.toList_some]; unfold rOne
    go_wp2_with ((with_reducible refine wpList_store_at (.tmp 6) (.tmp 22) rfl ?_ g _ cs #[.int .u16 (b0 : Int), .int .u16 (b1 : Int)] ?_ ?_ hB ?_ ?_ ?_ ?_); (next => rfl); (next => rfl); (next => rfl); (next => exact Try.sizeTwo); (next => exact hsz); (next => simp [Value.oneCell']))
    exact ⟨Only.row _ _ _, hB.row _⟩
  refine var_nil rfl ?_
  intro x
  simp only [List.nil_append, List.cons_append, List.map_cons, List.map_nil, depP, depG, finP, Option.some.injEq, Nat.reduceEqDiff, reduceCtorEq, ↓reduceIte]; simp only [List.filter_cons, List.filter_nil, lookT, Oper.looksAt, Op.operands, Call.operands, List.filterMap_cons, List.filterMap_nil, List.append_nil, List.contains_cons, List.contains_nil, Nat.reduceBEq, Bool.or_false, Bool.false_or, Bool.or_true, Bool.true_or, Bool.false_eq_true, if_true, if_false, withD_nil, withD_det, List.nil_append, List.cons_append, ↓reduceIte, List.push_toArray, List.append_toArray, List.map_cons, List.map_nil, Option.toArray_none, Option.toArray_some, Array.append_empty, List.getElem?_toArray, List.getElem?_cons_succ, List.getElem?_cons_zero, Option.bind_some, Option.toList_some]
  rw [withD_pr]; rintro v ⟨g3, rfl, _, B3⟩
  rw [withD_pr]; rintro v ⟨g4, rfl, _, B4⟩
  rw [withD_pr]; rintro v ⟨g5, rfl, _, B5⟩
  rw [withD_pr]; rintro v ⟨g6, rfl, _, B6⟩
  rw [withD_pr]; rintro v _
  rw [withD_pr]; rintro v _
  rw [withD_pr]; rintro v _
  rw [withD_pr]; rintro v _
  simp only [withD_det, withD_nil, Act.put, List.setIfInBounds_toArray, List.set_cons_succ, List.set_cons_zero]
  replace B3 := hide B3; replace B4 := hide B4; replace B5 := hide B5; replace B6 := hide B6; replace hb := hide (nextB hb.out x.h)
  generalize x.w = W1 at B3 B4 B5 B6 hb ⊢
  clear p0 p1 p2 p3 p4 p5 p6 p7 p8 p9 p10 p11 hWs
  have c0 := B3.out.cell_ 0 _ rfl; have c1 := B3.out.cell_ 1 _ rfl; have c2 := B3.out.cell_ 2 _ rfl; have c3 := B3.out.cell_ 3 _ rfl
  obtain ⟨x1, e1, x2, e2, hs1, hs2, hcase⟩ := super_two D L V S D' L' V' S'
  replace C1 := C1.out; replace C2 := C2.out
  rw [hs1] at C1; rw [hs2] at C2
  replace C1 := hide C1; replace C2 := hide C2; replace hcase := hide hcase
  clear hs1 hs2
  go_upto_region 4 with (first
    | (go_at_call 7; (with_reducible refine (unhide C1 _).mono ?_); rintro e w2 ⟨A2, d2, rfl, r2, _, hb2⟩; replace r2 := hide r2; clear c0 c1 c2 c3; replace B3 := hide (B3.out.below hb2 B3.out.lt); replace B4 := hide (B4.out.below hb2 B4.out.lt); replace B5 := hide (B5.out.below hb2 B5.out.lt); replace B6 := hide (B6.out.below hb2 B6.out.lt); replace hb := hide (nextB hb.out hb2); clear hb2; have c0 := B4.out.cell_ 0 _ rfl; have c1 := B4.out.cell_ 1 _ rfl; have c2 := B4.out.cell_ 2 _ rfl; have c3 := B4.out.cell_ 3 _ rfl)
    | (go_at_call 7; (with_reducible refine (unhide C2 _).mono ?_); rintro e w3 ⟨A3, d3, rfl, r3, _, hb3⟩; replace r3 := hide r3; replace r2 := hide (r2.out.on hb3); clear c0 c1 c2 c3; replace B3 := hide (B3.out.below hb3 B3.out.lt); replace B4 := hide (B4.out.below hb3 B4.out.lt); replace B5 := hide (B5.out.below hb3 B5.out.lt); replace B6 := hide (B6.out.below hb3 B6.out.lt); replace hb := hide (nextB hb.out hb3); clear hb3))
  go_cut [49] (fun v wx => v = .bool false ∧ Blk wx g5 25 #[.int .u16 (a0 : Int), .int .u16 (a1 : Int)] ∧ Blk wx g6 25 #[.int .u16 (b0 : Int), .int .u16 (b1 : Int)] ∧ Below w.heap.size w wx)
  case first =>
    have s2 := fun y : Ext w3 => run_str (P := Try.prog) (n := x1.length) (c := d2) 28 9 5 Try.underlying28 Try.underlying5 Try.underlying9 (r2.out.on y.h) rfl
    have s3 := fun y : Ext w3 => run_str (P := Try.prog) (n := x2.length) (c := d3) 28 9 5 Try.underlying28 Try.underlying5 Try.underlying9 (r3.out.on y.h) rfl
    have p0 := fun y : Ext w3 => (B3.out.below y.h B3.out.lt).cell_ 0 _ rfl
    have p1 := fun y : Ext w3 => (B3.out.below y.h B3.out.lt).cell_ 1 _ rfl
    have p2 := fun y : Ext w3 => (B3.out.below y.h B3.out.lt).cell_ 2 _ rfl
    have p3 := fun y : Ext w3 => (B3.out.below y.h B3.out.lt).cell_ 3 _ rfl
    have q0 := fun y : Ext w3 => (B4.out.below y.h B4.out.lt).cell_ 0 _ rfl
    have q1 := fun y : Ext w3 => (B4.out.below y.h B4.out.lt).cell_ 1 _ rfl
    have q2 := fun y : Ext w3 => (B4.out.below y.h B4.out.lt).cell_ 2 _ rfl
    have q3 := fun y : Ext w3 => (B4.out.below y.h B4.out.lt).cell_ 3 _ rfl
    have EQ := eqGeo D L V S D' L' V' S'
    rcases hcase.out with rfl | ⟨rfl, rfl⟩ | ⟨rfl, rfl, hx, hg⟩ | ⟨rfl, rfl, hx, hg⟩
    · clear EQ
      refine wp_region_ext w3 (by kernel_rfl) (by kernel_rfl) (Below.refl _ _) ?_
      repeat (first | go_big_quiet_step ((first | fail)) | quiet_step ((first | fail)))
      refine wpQuiet_nil ?_
      intro wx hw'
      obtain ⟨⟨_, hx⟩, rfl⟩ := hw'
      clear s2 s3 p0 p1 p2 p3 q0 q1 q2 q3
      go_wp2_with fail
      go_meet
      exact ⟨rfl, B5.out.below hx B5.out.lt, B6.out.below hx B6.out.lt, nextB hb.out hx⟩
    · clear EQ
      refine wp_region_ext w3 (by kernel_rfl) (by kernel_rfl) (Below.refl _ _) ?_
      repeat (first | go_big_quiet_step ((first | fail)) | quiet_step ((first | fail)))
      refine wpQuiet_nil ?_
      intro wx hw'
      obtain ⟨⟨_, hx⟩, rfl⟩ := hw'
      clear s2 s3 p0 p1 p2 p3 q0 q1 q2 q3
      go_wp2_with fail
      go_meet
      exact ⟨rfl, B5.out.below hx B5.out.lt, B6.out.below hx B6.out.lt, nextB hb.out hx⟩
    · rw [decide_eq_true hg] at EQ
      replace EQ := hide EQ
      have hxb : (x1 == x2) = true := by simpa using hx
      replace hx := hide hx; replace hg := hide hg
      refine wp_region_ext w3 (by kernel_rfl) (by kernel_rfl) (Below.refl _ _) ?_
      repeat (first | go_big_quiet_step ((first | fail)) | quiet_step ((first | fail)))
      refine quiet_eql rfl _ _ _ _ rfl (by kernel_rfl) #[.int .i64 D, .int .i64 L, .int .i64 V, .int .i64 S] #[.int .i64 D', .int .i64 L', .int .i64 V', .int .i64 S'] rfl rfl true (fun w => EQ.out w) ?_
      repeat (first | go_big_quiet_step ((first | fail)) | quiet_step ((first | fail)))
      refine wpQuiet_nil ?_
      intro wx hw'
      obtain ⟨⟨_, hx⟩, rfl⟩ := hw'
      clear s2 s3 p0 p1 p2 p3 q0 q1 q2 q3
      go_wp2_with fail
      go_meet
      exact ⟨rfl, B5.out.below hx B5.out.lt, B6.out.below hx B6.out.lt, nextB hb.out hx⟩
    · rw [decide_eq_false hg] at EQ
      replace EQ := hide EQ
      have hxb : (x1 == x2) = false := by simpa using hx
      replace hx := hide hx; replace hg := hide hg
      refine wp_region_ext w3 (by kernel_rfl) (by kernel_rfl) (Below.refl _ _) ?_
      repeat (first | go_big_quiet_step ((first | fail)) | quiet_step ((first | fail)))
      refine quiet_eql rfl _ _ _ _ rfl (by kernel_rfl) #[.int .i64 D, .int .i64 L, .int .i64 V, .int .i64 S] #[.int .i64 D', .int .i64 L', .int .i64 V', .int .i64 S'] rfl rfl false (fun w => EQ.out w) ?_
      repeat (first | go_big_quiet_step ((first | fail)) | quiet_step ((first | fail)))
      refine wpQuiet_nil ?_
      intro wx hw'
      obtain ⟨⟨_, hx⟩, rfl⟩ := hw'
      clear s2 s3 p0 p1 p2 p3 q0 q1 q2 q3
      go_wp2_with fail
      go_meet
      exact ⟨rfl, B5.out.below hx B5.out.lt, B6.out.below hx B6.out.lt, nextB hb.out hx⟩
  case rest =>
  obtain ⟨rfl, B5', B6', hb'⟩ := hcut
  clear B3 B4 B5 B6 hb r2 r3 hcase C1 C2
  have B5 := hide B5'; have B6 := hide B6'; have hb := hide hb'
  clear B5' B6' hb'
  have c0 := B5.out.cell_ 0 _ rfl; have c1 := B5.out.cell_ 1 _ rfl
  have AW := awake_any
  replace AW := hide AW
  obtain ⟨t1, t2, t3, hc1, hc2, hc3, ht⟩ : ∃ t1 t2 t3 : Bool, ((a0 : Int) % 8 == (b0 : Int) % 8) = t1 ∧ ((a1 : Int) == (b1 : Int)) = t2 ∧ (R3 == R4) = t3 ∧ (t3 = (t1 && t2)) := by
    refine ⟨_, _, _, rfl, rfl, rfl, ?_⟩
    by_cases hA : (a0 : Int) % 8 = (b0 : Int) % 8
    · by_cases hB : (a1 : Int) = (b1 : Int)
      · have hR := hcong.out hA hB
        simp [hA, hB, hR]
      · have hR : ¬ R3 = R4 := fun h => hB (hinj.out h).2
        rw [show (R3 == R4) = false from by simpa using hR, show ((a1 : Int) == (b1 : Int)) = false from by simpa using hB]; simp
    · have hR : ¬ R3 = R4 := fun h => hA (hinj.out h).1
      rw [show (R3 == R4) = false from by simpa using hR, show ((a0 : Int) % 8 == (b0 : Int) % 8) = false from by simpa using hA]; simp
  replace ht := hide ht
  clear hcong hinj
  go_wp2_with (first
    | (go_at_call 8; (with_reducible refine (unhide C3 _).mono ?_); rintro e w4 ⟨A4, d4, rfl, r4, _, hb4⟩; replace r4 := hide r4; clear c0 c1; replace B5 := hide (B5.out.below hb4 B5.out.lt); replace B6 := hide (B6.out.below hb4 B6.out.lt); replace hb := hide (nextB hb.out hb4); clear hb4; have c0 := B6.out.cell_ 0 _ rfl; have c1 := B6.out.cell_ 1 _ rfl)
    | (go_at_call 8; (with_reducible refine (unhide C4 _).mono ?_); rintro e w5 ⟨A5, d5, rfl, r5, _, hb5⟩; replace r4 := hide (r4.out.on hb5); clear c0 c1; replace B5 := hide (B5.out.below hb5 B5.out.lt); replace B6 := hide (B6.out.below hb5 B6.out.lt); replace hb := hide (nextB hb.out hb5); clear hb5; have s4 := run_str (P := Try.prog) (bs := R3) (n := R3.length) (c := d4) 28 9 5 Try.underlying28 Try.underlying5 Try.underlying9 r4.out rfl; have s5 := run_str (P := Try.prog) (bs := R4) (n := R4.length) (c := d5) 28 9 5 Try.underlying28 Try.underlying5 Try.underlying9 r5 rfl; have c0 := B5.out.cell_ 0 _ rfl; have c1 := B5.out.cell_ 1 _ rfl; have c6 := B6.out.cell_ 0 _ rfl; have c7 := B6.out.cell_ 1 _ rfl; replace r5 := hide r5)
    | (go_at_call 9; (with_reducible refine (unhide AW _).mono ?_); rintro e w9 ⟨rfl, hb9⟩))
  all_goals first
    | (go_ret; exact ⟨rfl, nextB hb.out hb9⟩)
    | (exfalso; have h := ht.out; simp_all; done)
end Go.Proofs.Ytfpclheplipjfaa
