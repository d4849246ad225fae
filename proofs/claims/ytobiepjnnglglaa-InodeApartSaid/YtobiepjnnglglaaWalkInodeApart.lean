import Derived.Test.YtobiepjnnglglaaOpenP
namespace Go.Proofs.Ytobiepjnnglglaa
set_option linter.unusedSimpArgs false
open Go.RowKit
theorem flat_ptr (l : List (Int × Nat)) : l.flatMap (fun x : Int × Nat => [i64v x.1] ++ [.int .u32 (x.2 : Int)]) = l.flatMap ptrC := rfl
set_option maxRecDepth 100000 in
set_option maxHeartbeats 8000000 in
theorem walk_InodeApart (s0 : ApT) (w : World) (h0 : (Lit.int .u8 s0.1).wf = true ∧ InoIn s0.2.1 ∧ InoIn s0.2.2.1 ∧ s0.2.2.2.1.Ok w (fun x : Int × Nat => [i64v x.1] ++ [.int .u32 (x.2 : Int)]) ptrIn ∧ s0.2.2.2.2.Ok w (fun x : Int × Nat => [i64v x.1] ++ [.int .u32 (x.2 : Int)]) ptrIn) :
    Calls Try.prog 5 #[.agg (apC s0).toArray] w fun e w' => e = .returned (.bool true) ∧ Below w.heap.size w w' := by
  obtain ⟨q, X, Y, SL, SM⟩ := s0
  simp only at h0
  obtain ⟨hq, ⟨x9, xs⟩, ⟨y9, ys⟩, hL, hM⟩ := h0
  have hq2 : 0 ≤ q ∧ q ≤ 255 := by simp [Lit.wf, IntKind.min, IntKind.max, IntKind.bits, IntKind.signed] at hq; omega
  obtain ⟨m, rfl⟩ := Int.eq_ofNat_of_zero_le hq2.1
  obtain ⟨A0, n0, c0, L0⟩ := SL
  obtain ⟨A1, n1, c1, M0⟩ := SM
  obtain ⟨r0, l0, k0, _, hall0⟩ := hL
  obtain ⟨r1, l1, k1, _, hall1⟩ := hM
  simp only [flat_ptr] at r0 l0 k0 hall0 r1 l1 k1 hall1
  obtain ⟨L, a, qL, gL, eL, fL, elL, caseL⟩ := Rd.fewF 20 r0 l0 k0
  obtain ⟨M, b, qM, gM, eM, fM, elM, caseM⟩ := Rd.fewF 20 r1 l1 k1
  have hsL : ∀ p ∈ L, p.2 < 4294967296 := fun p hp => (hall0 p (by rw [elL] at hp; exact List.mem_of_mem_take hp)).2
  have hsM : ∀ p ∈ M, p.2 < 4294967296 := fun p hp => (hall1 p (by rw [elM] at hp; exact List.mem_of_mem_take hp)).2
  clear elL elM r0 r1 hall0 hall1 hq l0 l1
  have cq : (apC ((m : Int), X, Y, ⟨A0, n0, c0, L0⟩, ⟨A1, n1, c1, M0⟩))[0]? = some (.int .u8 (m : Int)) := rfl
  have cX := fun (j : Nat) (u : Value) (h : (inoC X)[j]? = some u) => apC_x (x := ((m : Int), X, Y, ⟨A0, n0, c0, L0⟩, ⟨A1, n1, c1, M0⟩)) h
  have cY := fun (j : Nat) (u : Value) (h : (inoC Y)[j]? = some u) => apC_y (x := ((m : Int), X, Y, ⟨A0, n0, c0, L0⟩, ⟨A1, n1, c1, M0⟩)) x9 h
  obtain ⟨cL, cM⟩ := apC_l (x := ((m : Int), X, Y, ⟨A0, n0, c0, L0⟩, ⟨A1, n1, c1, M0⟩)) x9 y9
  simp only at cX cY cL cM
  generalize apC ((m : Int), X, Y, ⟨A0, n0, c0, L0⟩, ⟨A1, n1, c1, M0⟩) = CS at cq cX cY cL cM ⊢
  have ZX := hide (inoC_len x9); have ZY := hide (inoC_len y9)
  have LX : Hid (InoLen X) := hide x9
  have LY : Hid (InoLen Y) := hide y9
  have hz := ino_zero
  have awk := hide awake_any
  have B1 := hide (Blk.new w 44 CS.toArray)
  have hb := hide (box1 (w := w) (o := .cells CS.toArray 44))
  obtain ⟨N, hN⟩ : ∃ N : Nat, (1 + (m : Int) % 39) = N := ⟨1 + m % 39, by omega⟩
  have hN1 : 1 ≤ (N : Int) ∧ (N : Int) ≤ 39 := by omega
  have EX := fun w => enc_any (N : Int) X x9 xs w
  have EY := fun w => enc_any (N : Int) Y y9 ys w
  -- what the two blocks are
  have hE : ∃ (BX BY : List UInt8) (ex ey : Int), encI (N : Int) X = (BX, ex) ∧ encI (N : Int) Y = (BY, ey) ∧ ((ex = 1 ∧ (ey = 0 ∨ ey = 1)) ∨ (ex = 0 ∧ ey = 1) ∨ (ex = 0 ∧ ey = 0 ∧ (BX == BY) = decide (X = Y))) := by
    by_cases hx : mayE (N : Int) X <;> by_cases hy : mayE (N : Int) Y
    · exact ⟨inoB N X, inoB N Y, 0, 0, if_pos hx, if_pos hy, .inr (.inr ⟨rfl, rfl, inoB_eq x9 y9 hx hy xs ys⟩)⟩
    · exact ⟨inoB N X, [], 0, 1, if_pos hx, if_neg hy, .inr (.inl ⟨rfl, rfl⟩)⟩
    · exact ⟨[], inoB N Y, 1, 0, if_neg hx, if_pos hy, .inl ⟨rfl, .inl rfl⟩⟩
    · exact ⟨[], [], 1, 1, if_neg hx, if_neg hy, .inl ⟨rfl, .inr rfl⟩⟩
  obtain ⟨BX, BY, ex, ey, eX, eY, hcase⟩ := hE
  rw [eX] at EX; rw [eY] at EY
  have NL := fun (w : World) (h : Rd w A0 (L.flatMap ptrC)) => node_any A0 L a c0 w h gL (by omega) hsL
  have NM := fun (w : World) (h : Rd w A1 (M.flatMap ptrC)) => node_any A1 M b c1 w h gM (by omega) hsM
  have SAME := fun (w : World) (h : Rd w A0 (L.flatMap ptrC)) (h' : Rd w A1 (M.flatMap ptrC)) => refSame_any A0 A1 a c0 b c1 L M w h h' gL gM (by omega)
  have hNo : ∃ (NB MB : List UInt8) (el em : Int), nodeR L = (NB, el) ∧ nodeR M = (MB, em) ∧ ((el = 1 ∧ (em = 0 ∨ em = 1)) ∨ (el = 0 ∧ em = 1) ∨ (el = 0 ∧ em = 0 ∧ (NB == MB) = decide (L = M))) := by
    by_cases hx : L.length = 15 ∧ L.all okPt = true <;> by_cases hy : M.length = 15 ∧ M.all okPt = true
    · exact ⟨nodeB L, nodeB M, 0, 0, if_pos hx, if_pos hy, .inr (.inr ⟨rfl, rfl, nodeB_eq hx.1 hy.1 hx.2 hy.2 hsL hsM⟩)⟩
    · exact ⟨nodeB L, [], 0, 1, if_pos hx, if_neg hy, .inr (.inl ⟨rfl, rfl⟩)⟩
    · exact ⟨[], nodeB M, 1, 0, if_neg hx, if_pos hy, .inl ⟨rfl, .inl rfl⟩⟩
    · exact ⟨[], [], 1, 1, if_neg hx, if_neg hy, .inl ⟨rfl, .inr rfl⟩⟩
  obtain ⟨NB, MB, el, em, eNL, eNM, hcase2⟩ := hNo
  rw [eNL] at NL; rw [eNM] at NM
  replace EX := hide EX; replace EY := hide EY; replace NL := hide NL; replace NM := hide NM; replace hcase := hide hcase; replace hcase2 := hide hcase2
  have QL0 := hide qL; have QM0 := hide qM
  obtain ⟨sm, hsm⟩ : ∃ t, decide (L = M) = t := ⟨_, rfl⟩
  rw [hsm] at SAME hcase2
  replace SAME := hide SAME
  obtain ⟨xy, hxy⟩ : ∃ t, decide (X = Y) = t := ⟨_, rfl⟩
  rw [hxy] at hcase
  replace hxy := hide hxy
  clear hsm eX eY eNL eNM qL qM gL gM x9 xs y9 ys hsL hsM
  go_enter Try.func5, Try.ntmps5
  go_upto_region 1 with fail
  generalize (w.alloc _) = W at B1 hb ⊢
  have d0 := fun y : Ext W => (B1.out.below y.h B1.out.lt).cell_ 0 _ (by simpa using cq)
  have d47 := fun y : Ext W => (B1.out.below y.h B1.out.lt).cell_ 47 _ (by simpa using cL)
  have d48 := fun y : Ext W => (B1.out.below y.h B1.out.lt).cell_ 48 _ (by simpa using cM)
  have dX : Hid (∀ y : Ext W, ∀ j u, (inoC X)[j]? = some u → y.w.cell? ⟨w.heap.size, 1 + j, none⟩ = some u) := hide (fun y j u h => (B1.out.below y.h B1.out.lt).cell_ (1 + j) u (by simpa using cX j u h))
  have dY : Hid (∀ y : Ext W, ∀ j u, (inoC Y)[j]? = some u → y.w.cell? ⟨w.heap.size, 24 + j, none⟩ = some u) := hide (fun y j u h => (B1.out.below y.h B1.out.lt).cell_ (24 + j) u (by simpa using cY j u h))
  clear cq cX cY cL cM
  refine wp_region_var W [27] (by kernel_rfl) (by kernel_rfl) (Below.refl _ _) ?_
  apply var_det (.pointer (some ⟨w.heap.size, 0, none⟩))
  · intro y; simp only [List.nil_append, List.cons_append, List.map_cons, List.map_nil, depP, depG, finP, Option.some.injEq, Nat.reduceEqDiff, reduceCtorEq, ↓reduceIte]; simp only [List.filter_cons, List.filter_nil, lookT, Oper.looksAt, Op.operands, Call.operands, List.filterMap_cons, List.filterMap_nil, List.append_nil, List.contains_cons, List.contains_nil, Nat.reduceBEq, Bool.or_false, Bool.false_or, Bool.or_true, Bool.true_or, Bool.false_eq_true, if_true, if_false, withD_nil, withD_det, List.nil_append, List.cons_append, ↓reduceIte, List.push_toArray, List.append_toArray, List.map_cons, List.map_nil, Option.toArray_none, Option.toArray_some, Array.append_empty, List.getElem?_toArray, List.getElem?_cons_succ, List.getElem?_cons_zero, Option.bind_some, Option.toList_some]; unfold rOne; go_wp2_with fail; refine ⟨Below.refl _ _, ?_⟩; simp only [opGot, Array.getD_eq_getD_getElem?, List.getElem?_toArray, List.getElem?_cons_succ, List.getElem?_cons_zero, Option.getD_some]
  apply var_det (.int .u8 (m : Int))
  · intro y; simp only [List.nil_append, List.cons_append, List.map_cons, List.map_nil, depP, depG, finP, Option.some.injEq, Nat.reduceEqDiff, reduceCtorEq, ↓reduceIte]; simp only [List.filter_cons, List.filter_nil, lookT, Oper.looksAt, Op.operands, Call.operands, List.filterMap_cons, List.filterMap_nil, List.append_nil, List.contains_cons, List.contains_nil, Nat.reduceBEq, Bool.or_false, Bool.false_or, Bool.or_true, Bool.true_or, Bool.false_eq_true, if_true, if_false, withD_nil, withD_det, List.nil_append, List.cons_append, ↓reduceIte, List.push_toArray, List.append_toArray, List.map_cons, List.map_nil, Option.toArray_none, Option.toArray_some, Array.append_empty, List.getElem?_toArray, List.getElem?_cons_succ, List.getElem?_cons_zero, Option.bind_some, Option.toList_some]; unfold rOne; go_wp2_with fail; refine ⟨Below.refl _ _, ?_⟩; simp only [opGot, Array.getD_eq_getD_getElem?, List.getElem?_toArray, List.getElem?_cons_succ, List.getElem?_cons_zero, Option.getD_some]
  apply var_det (.pointer (some ⟨w.heap.size, 1, none⟩))
  · intro y; simp only [List.nil_append, List.cons_append, List.map_cons, List.map_nil, depP, depG, finP, Option.some.injEq, Nat.reduceEqDiff, reduceCtorEq, ↓reduceIte]; simp only [List.filter_cons, List.filter_nil, lookT, Oper.looksAt, Op.operands, Call.operands, List.filterMap_cons, List.filterMap_nil, List.append_nil, List.contains_cons, List.contains_nil, Nat.reduceBEq, Bool.or_false, Bool.false_or, Bool.or_true, Bool.true_or, Bool.false_eq_true, if_true, if_false, withD_nil, withD_det, List.nil_append, List.cons_append, ↓reduceIte, List.push_toArray, List.append_toArray, List.map_cons, List.map_nil, Option.toArray_none, Option.toArray_some, Array.append_empty, List.getElem?_toArray, List.getElem?_cons_succ, List.getElem?_cons_zero, Option.bind_some, Option.toList_some]; unfold rOne; go_wp2_with fail; refine ⟨Below.refl _ _, ?_⟩; simp only [opGot, Array.getD_eq_getD_getElem?, List.getElem?_toArray, List.getElem?_cons_succ, List.getElem?_cons_zero, Option.getD_some]
  refine var_det (.agg (inoC X).toArray) ?_ ?_
  · intro y; simp only [List.nil_append, List.cons_append, List.map_cons, List.map_nil, depP, depG, finP, Option.some.injEq, Nat.reduceEqDiff, reduceCtorEq, ↓reduceIte]; simp only [List.filter_cons, List.filter_nil, lookT, Oper.looksAt, Op.operands, Call.operands, List.filterMap_cons, List.filterMap_nil, List.append_nil, List.contains_cons, List.contains_nil, Nat.reduceBEq, Bool.or_false, Bool.false_or, Bool.or_true, Bool.true_or, Bool.false_eq_true, if_true, if_false, withD_nil, withD_det, List.nil_append, List.cons_append, ↓reduceIte, List.push_toArray, List.append_toArray, List.map_cons, List.map_nil, Option.toArray_none, Option.toArray_some, Array.append_empty, List.getElem?_toArray, List.getElem?_cons_succ, List.getElem?_cons_zero, Option.bind_some, Option.toList_some]; unfold rOne
    go_wp2_with ((with_reducible refine wpList_load_at (.tmp 19) rfl ?_ Try.wideIno w.heap.size 1 ?_ (inoC X) ZX.out ?_ ?_); (next => rfl); (next => rfl); (next => exact dX.out y))
    exact ⟨Below.refl _ _, by simp only [opGot, Array.getD_eq_getD_getElem?, List.getElem?_toArray, List.getElem?_cons_succ, List.getElem?_cons_zero, Option.getD_some]⟩
  apply var_det (.pointer (some ⟨w.heap.size, 24, none⟩))
  · intro y; simp only [List.nil_append, List.cons_append, List.map_cons, List.map_nil, depP, depG, finP, Option.some.injEq, Nat.reduceEqDiff, reduceCtorEq, ↓reduceIte]; simp only [List.filter_cons, List.filter_nil, lookT, Oper.looksAt, Op.operands, Call.operands, List.filterMap_cons, List.filterMap_nil, List.append_nil, List.contains_cons, List.contains_nil, Nat.reduceBEq, Bool.or_false, Bool.false_or, Bool.or_true, Bool.true_or, Bool.false_eq_true, if_true, if_false, withD_nil, withD_det, List.nil_append, List.cons_append, ↓reduceIte, List.push_toArray, List.append_toArray, List.map_cons, List.map_nil, Option.toArray_none, Option.toArray_some, Array.append_empty, List.getElem?_toArray, List.getElem?_cons_succ, List.getElem?_cons_zero, Option.bind_some, Option.toList_some]; unfold rOne; go_wp2_with fail; refine ⟨Below.refl _ _, ?_⟩; simp only [opGot, Array.getD_eq_getD_getElem?, List.getElem?_toArray, List.getElem?_cons_succ, List.getElem?_cons_zero, Option.getD_some]
  refine var_det (.agg (inoC Y).toArray) ?_ ?_
  · intro y; simp only [List.nil_append, List.cons_append, List.map_cons, List.map_nil, depP, depG, finP, Option.some.injEq, Nat.reduceEqDiff, reduceCtorEq, ↓reduceIte]; simp only [List.filter_cons, List.filter_nil, lookT, Oper.looksAt, Op.operands, Call.operands, List.filterMap_cons, List.filterMap_nil, List.append_nil, List.contains_cons, List.contains_nil, Nat.reduceBEq, Bool.or_false, Bool.false_or, Bool.or_true, Bool.true_or, Bool.false_eq_true, if_true, if_false, withD_nil, withD_det, List.nil_append, List.cons_append, ↓reduceIte, List.push_toArray, List.append_toArray, List.map_cons, List.map_nil, Option.toArray_none, Option.toArray_some, Array.append_empty, List.getElem?_toArray, List.getElem?_cons_succ, List.getElem?_cons_zero, Option.bind_some, Option.toList_some]; unfold rOne
    go_wp2_with ((with_reducible refine wpList_load_at (.tmp 21) rfl ?_ Try.wideIno w.heap.size 24 ?_ (inoC Y) ZY.out ?_ ?_); (next => rfl); (next => rfl); (next => exact dY.out y))
    exact ⟨Below.refl _ _, by simp only [opGot, Array.getD_eq_getD_getElem?, List.getElem?_toArray, List.getElem?_cons_succ, List.getElem?_cons_zero, Option.getD_some]⟩
  repeat (apply var_det; (intro x; simp only [List.nil_append, List.cons_append, List.map_cons, List.map_nil, depP, depG, finP, Option.some.injEq, Nat.reduceEqDiff, reduceCtorEq, ↓reduceIte]; simp only [List.filter_cons, List.filter_nil, lookT, Oper.looksAt, Op.operands, Call.operands, List.filterMap_cons, List.filterMap_nil, List.append_nil, List.contains_cons, List.contains_nil, Nat.reduceBEq, Bool.or_false, Bool.false_or, Bool.or_true, Bool.true_or, Bool.false_eq_true, if_true, if_false, withD_nil, withD_det, List.nil_append, List.cons_append, ↓reduceIte, List.push_toArray, List.append_toArray, List.map_cons, List.map_nil, Option.toArray_none, Option.toArray_some, Array.append_empty, List.getElem?_toArray, List.getElem?_cons_succ, List.getElem?_cons_zero, Option.bind_some, Option.toList_some]; unfold rOne; go_wp2_with fail; (first | (refine ⟨Below.refl _ _, ?_⟩; simp only [opGot, Array.getD_eq_getD_getElem?, List.getElem?_toArray, List.getElem?_cons_succ, List.getElem?_cons_zero, Option.getD_some]; exact rfl) | (refine ⟨by assumption, ?_⟩; simp only [opGot, Array.getD_eq_getD_getElem?, List.getElem?_toArray, List.getElem?_cons_succ, List.getElem?_cons_zero, Option.getD_some]; exact rfl) | (simp only [opGot, Array.getD_eq_getD_getElem?, List.getElem?_toArray, List.getElem?_cons_succ, List.getElem?_cons_zero, Option.getD_some]; exact rfl))))
  refine var_al 27 23 (inoC X).toArray 4 (by simp) rfl ?_ ?_
  · intro y; simp only [List.nil_append, List.cons_append, List.map_cons, List.map_nil, depP, depG, finP, Option.some.injEq, Nat.reduceEqDiff, reduceCtorEq, ↓reduceIte]; simp only [List.filter_cons, List.filter_nil, lookT, Oper.looksAt, Op.operands, Call.operands, List.filterMap_cons, List.filterMap_nil, List.append_nil, List.contains_cons, List.contains_nil, Nat.reduceBEq, Bool.or_false, Bool.false_or, Bool.or_true, Bool.true_or, Bool.false_eq_true, if_true, if_false, withD_nil, withD_det, List.nil_append, List.cons_append, ↓reduceIte, List.push_toArray, List.append_toArray, List.map_cons, List.map_nil, Option.toArray_none, Option.toArray_some, Array.append_empty, List.getElem?_toArray, List.getElem?_cons_succ, List.getElem?_cons_zero, Option.bind_some, Option.toList_some]; unfold rOne; go_wp2_with fail
    exact ⟨by simp only [opGot, Array.getD_eq_getD_getElem?, List.getElem?_toArray, List.getElem?_cons_succ, List.getElem?_cons_zero, Option.getD_some], _, ino0_size, rfl⟩
  refine var_al 27 23 (inoC Y).toArray 5 (by simp) rfl ?_ ?_
  · intro y; simp only [List.nil_append, List.cons_append, List.map_cons, List.map_nil, depP, depG, finP, Option.some.injEq, Nat.reduceEqDiff, reduceCtorEq, ↓reduceIte]; simp only [List.filter_cons, List.filter_nil, lookT, Oper.looksAt, Op.operands, Call.operands, List.filterMap_cons, List.filterMap_nil, List.append_nil, List.contains_cons, List.contains_nil, Nat.reduceBEq, Bool.or_false, Bool.false_or, Bool.or_true, Bool.true_or, Bool.false_eq_true, if_true, if_false, withD_nil, withD_det, List.nil_append, List.cons_append, ↓reduceIte, List.push_toArray, List.append_toArray, List.map_cons, List.map_nil, Option.toArray_none, Option.toArray_some, Array.append_empty, List.getElem?_toArray, List.getElem?_cons_succ, List.getElem?_cons_zero, Option.bind_some, Option.toList_some]; unfold rOne; go_wp2_with fail
    exact ⟨by simp only [opGot, Array.getD_eq_getD_getElem?, List.getElem?_toArray, List.getElem?_cons_succ, List.getElem?_cons_zero, Option.getD_some], _, ino0_size, rfl⟩
  repeat (apply var_det; (intro x; simp only [List.nil_append, List.cons_append, List.map_cons, List.map_nil, depP, depG, finP, Option.some.injEq, Nat.reduceEqDiff, reduceCtorEq, ↓reduceIte]; simp only [List.filter_cons, List.filter_nil, lookT, Oper.looksAt, Op.operands, Call.operands, List.filterMap_cons, List.filterMap_nil, List.append_nil, List.contains_cons, List.contains_nil, Nat.reduceBEq, Bool.or_false, Bool.false_or, Bool.or_true, Bool.true_or, Bool.false_eq_true, if_true, if_false, withD_nil, withD_det, List.nil_append, List.cons_append, ↓reduceIte, List.push_toArray, List.append_toArray, List.map_cons, List.map_nil, Option.toArray_none, Option.toArray_some, Array.append_empty, List.getElem?_toArray, List.getElem?_cons_succ, List.getElem?_cons_zero, Option.bind_some, Option.toList_some]; unfold rOne; go_wp2_with fail; (first | (refine ⟨Below.refl _ _, ?_⟩; simp only [opGot, Array.getD_eq_getD_getElem?, List.getElem?_toArray, List.getElem?_cons_succ, List.getElem?_cons_zero, Option.getD_some]; exact rfl) | (refine ⟨by assumption, ?_⟩; simp only [opGot, Array.getD_eq_getD_getElem?, List.getElem?_toArray, List.getElem?_cons_succ, List.getElem?_cons_zero, Option.getD_some]; exact rfl) | (simp only [opGot, Array.getD_eq_getD_getElem?, List.getElem?_toArray, List.getElem?_cons_succ, List.getElem?_cons_zero, Option.getD_some]; exact rfl))))
  refine var_st 4 27 23 (inoC X).toArray (by simp) rfl rfl (by rw [List.size_toArray]; exact ZX.out) ?_ ?_
  · intro y g cs _ hB hsz; simp only [List.nil_append, List.cons_append, List.map_cons, List.map_nil, depP, depG, finP, Option.some.injEq, Nat.reduceEqDiff, reduceCtorEq, ↓reduceIte]; simp only [List.filter_cons, List.filter_nil, lookT, Oper.looksAt, Op.operands, Call.operands, List.filterMap_cons, List.filterMap_nil, List.append_nil, List.contains_cons, List.contains_nil, Nat.reduceBEq, Bool.or_false, Bool.false_or, Bool.or_true, Bool.true_or, Bool.false_eq_true, if_true, if_false, withD_nil, withD_det, List.nil_append, List.cons_append, ↓reduceIte, List.push_toArray, List.append_toArray, List.map_cons, List.map_nil, Option.toArray_none, Option.toArray_some, Array.append_empty, List.getElem?_toArray, List.getElem?_cons_succ, List.getElem?_cons_zero, Option.bind_some, Option.toList_some]; unfold rOne
    go_wp2_with ((with_reducible refine wpList_store_at (.tmp 4) (.tmp 20) rfl ?_ g _ cs (inoC X).toArray ?_ ?_ hB ?_ ?_ (inoC_one _) ?_); (next => rfl); (next => rfl); (next => rfl); (next => rw [List.size_toArray, ZX.out]; exact Try.sizeIno); (next => exact hsz.trans (by rw [List.size_toArray]; exact ZX.out.symm)))
    exact ⟨Only.row _ _ _, hB.row _⟩
  refine var_st 5 27 23 (inoC Y).toArray (by simp) rfl rfl (by rw [List.size_toArray]; exact ZY.out) ?_ ?_
  · intro y g cs _ hB hsz; simp only [List.nil_append, List.cons_append, List.map_cons, List.map_nil, depP, depG, finP, Option.some.injEq, Nat.reduceEqDiff, reduceCtorEq, ↓reduceIte]; simp only [List.filter_cons, List.filter_nil, lookT, Oper.looksAt, Op.operands, Call.operands, List.filterMap_cons, List.filterMap_nil, List.append_nil, List.contains_cons, List.contains_nil, Nat.reduceBEq, Bool.or_false, Bool.false_or, Bool.or_true, Bool.true_or, Bool.false_eq_true, if_true, if_false, withD_nil, withD_det, List.nil_append, List.cons_append, ↓reduceIte, List.push_toArray, List.append_toArray, List.map_cons, List.map_nil, Option.toArray_none, Option.toArray_some, Array.append_empty, List.getElem?_toArray, List.getElem?_cons_succ, List.getElem?_cons_zero, Option.bind_some, Option.toList_some]; unfold rOne
    go_wp2_with ((with_reducible refine wpList_store_at (.tmp 5) (.tmp 22) rfl ?_ g _ cs (inoC Y).toArray ?_ ?_ hB ?_ ?_ (inoC_one _) ?_); (next => rfl); (next => rfl); (next => rfl); (next => rw [List.size_toArray, ZY.out]; exact Try.sizeIno); (next => exact hsz.trans (by rw [List.size_toArray]; exact ZY.out.symm)))
    exact ⟨Only.row _ _ _, hB.row _⟩
  repeat (apply var_det; (intro x; simp only [List.nil_append, List.cons_append, List.map_cons, List.map_nil, depP, depG, finP, Option.some.injEq, Nat.reduceEqDiff, reduceCtorEq, ↓reduceIte]; simp only [List.filter_cons, List.filter_nil, lookT, Oper.looksAt, Op.operands, Call.operands, List.filterMap_cons, List.filterMap_nil, List.append_nil, List.contains_cons, List.contains_nil, Nat.reduceBEq, Bool.or_false, Bool.false_or, Bool.or_true, Bool.true_or, Bool.false_eq_true, if_true, if_false, withD_nil, withD_det, List.nil_append, List.cons_append, ↓reduceIte, List.push_toArray, List.append_toArray, List.map_cons, List.map_nil, Option.toArray_none, Option.toArray_some, Array.append_empty, List.getElem?_toArray, List.getElem?_cons_succ, List.getElem?_cons_zero, Option.bind_some, Option.toList_some]; unfold rOne; go_wp2_with fail; (first | (refine ⟨Below.refl _ _, ?_⟩; simp only [opGot, Array.getD_eq_getD_getElem?, List.getElem?_toArray, List.getElem?_cons_succ, List.getElem?_cons_zero, Option.getD_some]; exact rfl) | (refine ⟨by assumption, ?_⟩; simp only [opGot, Array.getD_eq_getD_getElem?, List.getElem?_toArray, List.getElem?_cons_succ, List.getElem?_cons_zero, Option.getD_some]; exact rfl) | (simp only [opGot, Array.getD_eq_getD_getElem?, List.getElem?_toArray, List.getElem?_cons_succ, List.getElem?_cons_zero, Option.getD_some]; exact rfl))))
  refine var_nil rfl ?_
  intro y
  simp only [List.nil_append, List.cons_append, List.map_cons, List.map_nil, depP, depG, finP, Option.some.injEq, Nat.reduceEqDiff, reduceCtorEq, ↓reduceIte]; simp only [List.filter_cons, List.filter_nil, lookT, Oper.looksAt, Op.operands, Call.operands, List.filterMap_cons, List.filterMap_nil, List.append_nil, List.contains_cons, List.contains_nil, Nat.reduceBEq, Bool.or_false, Bool.false_or, Bool.or_true, Bool.true_or, Bool.false_eq_true, if_true, if_false, withD_nil, withD_det, List.nil_append, List.cons_append, ↓reduceIte, List.push_toArray, List.append_toArray, List.map_cons, List.map_nil, Option.toArray_none, Option.toArray_some, Array.append_empty, List.getElem?_toArray, List.getElem?_cons_succ, List.getElem?_cons_zero, Option.bind_some, Option.toList_some]
  rw [withD_pr]; rintro v ⟨g4, rfl, _, B4⟩
  try simp only [withD_det]
  rw [withD_pr]; rintro v ⟨g5, rfl, _, B5⟩
  try simp only [withD_det]
  rw [withD_pr]; rintro v _
  try simp only [withD_det]
  rw [withD_pr]; rintro v _
  simp only [withD_det, withD_nil, Act.put, List.setIfInBounds_toArray, List.set_cons_succ, List.set_cons_zero]
  replace B4 := hide B4; replace B5 := hide B5; replace hb := hide (nextB hb.out y.h)
  generalize y.w = W1 at B4 B5 hb ⊢
  clear d0 d47 d48 dX dY B1
  go_upto_region 3 with fail

  go_upto_region 5 with (first
    | ((with_reducible refine load_ino (.tmp 4) rfl ?_ _ ?_ X B4.out ZX.out ?_); (next => rfl); (next => rfl))
    | ((with_reducible refine load_ino (.tmp 5) rfl ?_ _ ?_ Y B5.out ZY.out ?_); (next => rfl); (next => rfl))
    | (go_at_call 8; (with_reducible refine (unhide EX _).mono ?_); rintro e w4 ⟨A9, c9, rfl, R9, hc9, hb4⟩; replace R9 := hide R9; replace B4 := hide (B4.out.below hb4 B4.out.lt); replace B5 := hide (B5.out.below hb4 B5.out.lt); replace hb := hide (nextB hb.out hb4); clear hb4)
    | (go_at_call 8; (with_reducible refine (unhide EY _).mono ?_); rintro e w5 ⟨A11, c11, rfl, R11, hc11, hb4⟩; replace R11 := hide R11; replace R9 := hide (R9.out.on hb4); replace B4 := hide (B4.out.below hb4 B4.out.lt); replace B5 := hide (B5.out.below hb4 B5.out.lt); replace hb := hide (nextB hb.out hb4); clear hb4))
  go_cut [59] (fun v wx => v = .bool false ∧ Below w.heap.size w wx)
  case first =>
    have s1 := fun y : Ext w5 => run_str (P := Try.prog) (bs := BX) (n := BX.length) (c := c9) 28 9 5 Try.underlying28 Try.underlying5 Try.underlying9 (R9.out.on y.h) rfl
    have s2 := fun y : Ext w5 => run_str (P := Try.prog) (bs := BY) (n := BY.length) (c := c11) 28 9 5 Try.underlying28 Try.underlying5 Try.underlying9 (R11.out.on y.h) rfl
    rcases hcase.out with ⟨rfl, rfl | rfl⟩ | ⟨rfl, rfl⟩ | ⟨rfl, rfl, heq⟩
    all_goals
      refine wp_region_ext w5 (by kernel_rfl) (by kernel_rfl) (Below.refl _ _) ?_
      repeat (first
        | ((with_reducible refine quiet_load_ino (.tmp 4) rfl ?_ _ ?_ X B4.out ZX.out ?_); (next => rfl); (next => rfl))
        | ((with_reducible refine quiet_load_ino (.tmp 5) rfl ?_ _ ?_ Y B5.out ZY.out ?_); (next => rfl); (next => rfl))
        | ((with_reducible refine quiet_eql_ino (.tmp 55) (.tmp 56) _ rfl ?_ X Y xy ?_ ?_ LX.out LY.out hxy.out ?_); (next => rfl); (next => rfl); (next => rfl))
        | go_big_quiet_step (fail)
        | quiet_step (fail))
      refine wpQuiet_nil ?_
      intro wx hw'
      obtain ⟨⟨_, hx⟩, rfl⟩ := hw'
      clear s1 s2
      go_wp2_with fail
      go_meet
      exact ⟨by first | rfl | simp, nextB hb.out hx⟩
  case rest =>
  obtain ⟨rfl, hb'⟩ := hcut
  clear B4 B5 hb R9 R11 hc9 hc11 EX EY hcase
  have hb := hide hb'
  have QL := hide (QL0.out.on hb'); have QM := hide (QM0.out.on hb')
  have NL2 := hide (NL.out wc QL.out)
  clear hb' QL0 QM0
  rcases caseL with ⟨hle, rfl⟩ | ⟨hlt, rfl⟩
  all_goals rcases caseM with ⟨hle2, rfl⟩ | ⟨hlt2, rfl⟩
  all_goals
    go_upto_region 13 with (first
      | (go_at_call 16; (with_reducible refine (unhide NL2).mono ?_); rintro e w7 ⟨A13, c13, rfl, R13, hc13, hb4⟩; replace R13 := hide R13; replace QL := hide (QL.out.on hb4); replace QM := hide (QM.out.on hb4); replace hb := hide (nextB hb.out hb4); have NM2 := hide (NM.out w7 QM.out); clear hb4 NL2)
      | (go_at_call 16; (with_reducible refine (unhide NM2).mono ?_); rintro e w8 ⟨A15, c15, rfl, R15, hc15, hb4⟩; replace R15 := hide R15; replace R13 := hide (R13.out.on hb4); replace QL := hide (QL.out.on hb4); replace QM := hide (QM.out.on hb4); replace hb := hide (nextB hb.out hb4); clear hb4 NM2))
    have s3 := fun y : Ext w8 => run_str (P := Try.prog) (bs := NB) (n := NB.length) (c := c13) 28 9 5 Try.underlying28 Try.underlying5 Try.underlying9 (R13.out.on y.h) rfl
    have s4 := fun y : Ext w8 => run_str (P := Try.prog) (bs := MB) (n := MB.length) (c := c15) 28 9 5 Try.underlying28 Try.underlying5 Try.underlying9 (R15.out.on y.h) rfl
    have CSm := hide (fun y : Ext w8 => SAME.out y.w (QL.out.on y.h) (QM.out.on y.h))
    rcases hcase2.out with ⟨rfl, rfl | rfl⟩ | ⟨rfl, rfl⟩ | ⟨rfl, rfl, heq⟩
    all_goals
      refine wp_region_ext w8 (by kernel_rfl) (by kernel_rfl) (Below.refl _ _) ?_
      repeat (first | go_big_quiet_step ((first | (first | (go_at_call 17; with_reducible exact Ext.call _ (unhide CSm _)) | (go_at_call 11; with_reducible exact Ext.call _ (unhide awk _))))) | quiet_step ((first | (first | (go_at_call 17; with_reducible exact Ext.call _ (unhide CSm _)) | (go_at_call 11; with_reducible exact Ext.call _ (unhide awk _))))))
      refine wpQuiet_nil ?_
      intro wx hw'
      obtain ⟨⟨_, hx⟩, rfl⟩ := hw'
      clear s3 s4
      go_wp2_with fail
      go_ret
      exact ⟨rfl, nextB hb.out hx⟩
end Go.Proofs.Ytobiepjnnglglaa
