import Derived.Test.YtalcgnjkhnmmiaaImapO
import Derived.Test.YtalcgnjkhnmmiaaPlainL
import Derived.Test.YtalcgnjkhnmmiaaVarL
import Derived.Test.YtalcgnjkhnmmiaaOpenC
namespace Go.Proofs.Ytalcgnjkhnmmiaa
set_option linter.unusedSimpArgs false
open Go.RowKit

theorem Try.wideMap : Wide Try.prog 28 120 := ⟨by kernel_rfl, by kernel_rfl⟩
theorem map_flat_len {m : List Slot} (h : m.length = 40) : (m.flatMap slotC).length = 120 := by rw [flat_length slotC_len, h]
theorem map_blk_all {w : World} {g : Nat} {t : TypeId} {m : List Slot} (h : Blk w g t (mapC m)) (j : Nat) (u : Value) (hu : (m.flatMap slotC)[j]? = some u) : w.cell? ⟨g, 0 + j, none⟩ = some u := by
  rw [Nat.zero_add]; exact h.cell_ j u (by simpa [mapC] using hu)
set_option maxRecDepth 100000 in
set_option maxHeartbeats 8000000 in
theorem walk_ImapCodes (q : List Slot × List Slot × Int × Sl UInt8) (w : World) (h1 : q.1.length = 40 ∧ ∀ y ∈ q.1, slotOk y) (h2 : q.2.1.length = 40 ∧ ∀ y ∈ q.2.1, slotOk y) (_h3 : -9223372036854775808 ≤ q.2.2.1 ∧ q.2.2.1 ≤ 9223372036854775807)
    (h4 : q.2.2.2.Ok w (fun c : UInt8 => [u8v c]) (fun _ => True)) :
    Calls Try.prog 6 #[.agg (codesC q).toArray] w fun e w' => e = .returned (.bool true) ∧ Below w.heap.size w w' := by
  obtain ⟨m, other, k, ⟨A, n, c, bs0⟩⟩ := q
  obtain ⟨h40, hm⟩ := h1
  obtain ⟨o40, ho⟩ := h2
  obtain ⟨rd, hl, hcap, _, _⟩ := h4
  simp only at h40 hm o40 ho rd hl hcap
  rw [flat_u8] at rd
  have hs : ∀ y ∈ m, y.s < 4294967296 := fun y hy => (hm y hy).2.1
  have os : ∀ y ∈ other, y.s < 4294967296 := fun y hy => (ho y hy).2.1
  obtain ⟨bs, n', q0, l0, e0, f0, eb, case0⟩ := rd.few 200 hl hcap
  clear rd hl hm ho eb
  -- the parameter's block
  have BP := Blk.new w 53 (codesC (m, other, k, ⟨A, n, c, bs0⟩)).toArray
  have fl := map_flat_len h40; have fo := map_flat_len o40
  have cM : ∀ j u, (m.flatMap slotC)[j]? = some u → (codesC (m, other, k, ⟨A, n, c, bs0⟩))[j]? = some u := fun j u hu => by
    unfold codesC
    have hj : j < (m.flatMap slotC).length := (List.getElem?_eq_some_iff.1 hu).1
    rw [List.getElem?_append_left hj]; exact hu
  have cO : ∀ j u, (other.flatMap slotC)[j]? = some u → (codesC (m, other, k, ⟨A, n, c, bs0⟩))[120 + j]? = some u := fun j u hu => by
    unfold codesC
    have hj : j < (other.flatMap slotC).length := (List.getElem?_eq_some_iff.1 hu).1
    simp only
    rw [List.getElem?_append_right (by omega), List.getElem?_append_left (by omega), fl, Nat.add_sub_cancel_left]; exact hu
  have cK : (codesC (m, other, k, ⟨A, n, c, bs0⟩))[240]? = some (.int .i64 k) := by
    unfold codesC
    simp only
    rw [List.getElem?_append_right (by omega), List.getElem?_append_right (by omega), fl, fo]; rfl
  have cB : (codesC (m, other, k, ⟨A, n, c, bs0⟩))[241]? = some (.slice A n c) := by
    unfold codesC
    simp only
    rw [List.getElem?_append_right (by omega), List.getElem?_append_right (by omega), fl, fo]; rfl
  obtain ⟨W, hW⟩ : ∃ W, W = w.alloc (.cells (codesC (m, other, k, ⟨A, n, c, bs0⟩)).toArray 53) := ⟨_, rfl⟩
  have hb : Hid (Below w.heap.size w W) := by rw [hW]; exact box1
  have RB := hide (q0.on hb.out)
  rw [← hW] at BP
  have hWs : w.heap.size < W.heap.size := BP.lt
  have pM := hide (fun (x : Ext W) (j : Nat) (u : Value) (hu : (m.flatMap slotC)[j]? = some u) => show x.w.cell? ⟨w.heap.size, 0 + j, none⟩ = some u by rw [Nat.zero_add]; exact (BP.below x.h hWs).cell_ j u (by simpa using cM j u hu))
  have pO := hide (fun (x : Ext W) (j : Nat) (u : Value) (hu : (other.flatMap slotC)[j]? = some u) => (BP.below x.h hWs).cell_ (120 + j) u (by simpa using cO j u hu))
  have pK := fun (x : Ext W) => (BP.below x.h hWs).cell_ 240 _ (by simpa using cK)
  have pB := fun (x : Ext W) => (BP.below x.h hWs).cell_ 241 _ (by simpa using cB)
  have Z40 := hide (mapC_size h40); have O40 := hide (mapC_size o40); have H40 := hide h40; have HO := hide o40; have HS := hide hs; have OS := hide os
  replace fl := hide fl; replace fo := hide fo
  have hz := map_zero
  replace l0 := hide l0
  clear BP cM cO cK cB h40 o40 hs os q0
  go_enter Try.func6, Try.ntmps6
  go_wp2_with fail
  rw [← hW]
  replace hW := hide hW
  refine wp_region_var W [28] (by kernel_rfl) (by kernel_rfl) (Below.refl _ _) ?_
  apply var_det
  · intro x; simp only [List.nil_append, List.cons_append, List.map_cons, List.map_nil, depP, depG, finP, Option.some.injEq, Nat.reduceEqDiff, reduceCtorEq, ↓reduceIte]; simp only [List.filter_cons, List.filter_nil, lookT, Oper.looksAt, Op.operands, Call.operands, List.filterMap_cons, List.filterMap_nil, List.append_nil, List.contains_cons, List.contains_nil, Nat.reduceBEq, Bool.or_false, Bool.false_or, Bool.or_true, Bool.true_or, Bool.false_eq_true, if_true, if_false, withD_nil, withD_det, List.nil_append, List.cons_append, ↓reduceIte, List.push_toArray, List.append_toArray, List.map_cons, List.map_nil, Option.toArray_none, Option.toArray_some, Array.append_empty, List.getElem?_toArray, List.getElem?_cons_succ, List.getElem?_cons_zero, Option.bind_some, Option.toList_some]; unfold rOne; go_wp2_with fail; (first | (refine ⟨Below.refl _ _, ?_⟩; simp only [opGot, Array.getD_eq_getD_getElem?, List.getElem?_toArray, List.getElem?_cons_succ, List.getElem?_cons_zero, Option.getD_some]; exact rfl) | (refine ⟨by assumption, ?_⟩; simp only [opGot, Array.getD_eq_getD_getElem?, List.getElem?_toArray, List.getElem?_cons_succ, List.getElem?_cons_zero, Option.getD_some]; exact rfl) | (simp only [opGot, Array.getD_eq_getD_getElem?, List.getElem?_toArray, List.getElem?_cons_succ, List.getElem?_cons_zero, Option.getD_some]; exact rfl))
  apply var_det
  · intro x; simp only [List.nil_append, List.cons_append, List.map_cons, List.map_nil, depP, depG, finP, Option.some.injEq, Nat.reduceEqDiff, reduceCtorEq, ↓reduceIte]; simp only [List.filter_cons, List.filter_nil, lookT, Oper.looksAt, Op.operands, Call.operands, List.filterMap_cons, List.filterMap_nil, List.append_nil, List.contains_cons, List.contains_nil, Nat.reduceBEq, Bool.or_false, Bool.false_or, Bool.or_true, Bool.true_or, Bool.false_eq_true, if_true, if_false, withD_nil, withD_det, List.nil_append, List.cons_append, ↓reduceIte, List.push_toArray, List.append_toArray, List.map_cons, List.map_nil, Option.toArray_none, Option.toArray_some, Array.append_empty, List.getElem?_toArray, List.getElem?_cons_succ, List.getElem?_cons_zero, Option.bind_some, Option.toList_some]; unfold rOne
    go_wp2_with ((with_reducible refine wpList_load_at (.tmp 19) rfl ?_ Try.wideMap w.heap.size 0 ?_ (m.flatMap slotC) fl.out (pM.out x) ?_); (next => rfl); (next => rfl))
    (first | (refine ⟨Below.refl _ _, ?_⟩; simp only [opGot, Array.getD_eq_getD_getElem?, List.getElem?_toArray, List.getElem?_cons_succ, List.getElem?_cons_zero, Option.getD_some]; exact rfl) | (refine ⟨by assumption, ?_⟩; simp only [opGot, Array.getD_eq_getD_getElem?, List.getElem?_toArray, List.getElem?_cons_succ, List.getElem?_cons_zero, Option.getD_some]; exact rfl) | (simp only [opGot, Array.getD_eq_getD_getElem?, List.getElem?_toArray, List.getElem?_cons_succ, List.getElem?_cons_zero, Option.getD_some]; exact rfl))
  apply var_det
  · intro x; simp only [List.nil_append, List.cons_append, List.map_cons, List.map_nil, depP, depG, finP, Option.some.injEq, Nat.reduceEqDiff, reduceCtorEq, ↓reduceIte]; simp only [List.filter_cons, List.filter_nil, lookT, Oper.looksAt, Op.operands, Call.operands, List.filterMap_cons, List.filterMap_nil, List.append_nil, List.contains_cons, List.contains_nil, Nat.reduceBEq, Bool.or_false, Bool.false_or, Bool.or_true, Bool.true_or, Bool.false_eq_true, if_true, if_false, withD_nil, withD_det, List.nil_append, List.cons_append, ↓reduceIte, List.push_toArray, List.append_toArray, List.map_cons, List.map_nil, Option.toArray_none, Option.toArray_some, Array.append_empty, List.getElem?_toArray, List.getElem?_cons_succ, List.getElem?_cons_zero, Option.bind_some, Option.toList_some]; unfold rOne; go_wp2_with fail; (first | (refine ⟨Below.refl _ _, ?_⟩; simp only [opGot, Array.getD_eq_getD_getElem?, List.getElem?_toArray, List.getElem?_cons_succ, List.getElem?_cons_zero, Option.getD_some]; exact rfl) | (refine ⟨by assumption, ?_⟩; simp only [opGot, Array.getD_eq_getD_getElem?, List.getElem?_toArray, List.getElem?_cons_succ, List.getElem?_cons_zero, Option.getD_some]; exact rfl) | (simp only [opGot, Array.getD_eq_getD_getElem?, List.getElem?_toArray, List.getElem?_cons_succ, List.getElem?_cons_zero, Option.getD_some]; exact rfl))
  apply var_det
  · intro x; simp only [List.nil_append, List.cons_append, List.map_cons, List.map_nil, depP, depG, finP, Option.some.injEq, Nat.reduceEqDiff, reduceCtorEq, ↓reduceIte]; simp only [List.filter_cons, List.filter_nil, lookT, Oper.looksAt, Op.operands, Call.operands, List.filterMap_cons, List.filterMap_nil, List.append_nil, List.contains_cons, List.contains_nil, Nat.reduceBEq, Bool.or_false, Bool.false_or, Bool.or_true, Bool.true_or, Bool.false_eq_true, if_true, if_false, withD_nil, withD_det, List.nil_append, List.cons_append, ↓reduceIte, List.push_toArray, List.append_toArray, List.map_cons, List.map_nil, Option.toArray_none, Option.toArray_some, Array.append_empty, List.getElem?_toArray, List.getElem?_cons_succ, List.getElem?_cons_zero, Option.bind_some, Option.toList_some]; unfold rOne
    go_wp2_with ((with_reducible refine wpList_load_at (.tmp 21) rfl ?_ Try.wideMap w.heap.size 120 ?_ (other.flatMap slotC) fo.out (pO.out x) ?_); (next => rfl); (next => rfl))
    (first | (refine ⟨Below.refl _ _, ?_⟩; simp only [opGot, Array.getD_eq_getD_getElem?, List.getElem?_toArray, List.getElem?_cons_succ, List.getElem?_cons_zero, Option.getD_some]; exact rfl) | (refine ⟨by assumption, ?_⟩; simp only [opGot, Array.getD_eq_getD_getElem?, List.getElem?_toArray, List.getElem?_cons_succ, List.getElem?_cons_zero, Option.getD_some]; exact rfl) | (simp only [opGot, Array.getD_eq_getD_getElem?, List.getElem?_toArray, List.getElem?_cons_succ, List.getElem?_cons_zero, Option.getD_some]; exact rfl))
  repeat (apply var_det; (intro x; simp only [List.nil_append, List.cons_append, List.map_cons, List.map_nil, depP, depG, finP, Option.some.injEq, Nat.reduceEqDiff, reduceCtorEq, ↓reduceIte]; simp only [List.filter_cons, List.filter_nil, lookT, Oper.looksAt, Op.operands, Call.operands, List.filterMap_cons, List.filterMap_nil, List.append_nil, List.contains_cons, List.contains_nil, Nat.reduceBEq, Bool.or_false, Bool.false_or, Bool.or_true, Bool.true_or, Bool.false_eq_true, if_true, if_false, withD_nil, withD_det, List.nil_append, List.cons_append, ↓reduceIte, List.push_toArray, List.append_toArray, List.map_cons, List.map_nil, Option.toArray_none, Option.toArray_some, Array.append_empty, List.getElem?_toArray, List.getElem?_cons_succ, List.getElem?_cons_zero, Option.bind_some, Option.toList_some]; unfold rOne; go_wp2_with fail; (first | (refine ⟨Below.refl _ _, ?_⟩; simp only [opGot, Array.getD_eq_getD_getElem?, List.getElem?_toArray, List.getElem?_cons_succ, List.getElem?_cons_zero, Option.getD_some]; exact rfl) | (refine ⟨by assumption, ?_⟩; simp only [opGot, Array.getD_eq_getD_getElem?, List.getElem?_toArray, List.getElem?_cons_succ, List.getElem?_cons_zero, Option.getD_some]; exact rfl) | (simp only [opGot, Array.getD_eq_getD_getElem?, List.getElem?_toArray, List.getElem?_cons_succ, List.getElem?_cons_zero, Option.getD_some]; exact rfl))))
  refine var_al 28 120 (mapC m) 3 (by simp) rfl ?_ ?_
  · intro x; simp only [List.nil_append, List.cons_append, List.map_cons, List.map_nil, depP, depG, finP, Option.some.injEq, Nat.reduceEqDiff, reduceCtorEq, ↓reduceIte]; simp only [List.filter_cons, List.filter_nil, lookT, Oper.looksAt, Op.operands, Call.operands, List.filterMap_cons, List.filterMap_nil, List.append_nil, List.contains_cons, List.contains_nil, Nat.reduceBEq, Bool.or_false, Bool.false_or, Bool.or_true, Bool.true_or, Bool.false_eq_true, if_true, if_false, withD_nil, withD_det, List.nil_append, List.cons_append, ↓reduceIte, List.push_toArray, List.append_toArray, List.map_cons, List.map_nil, Option.toArray_none, Option.toArray_some, Array.append_empty, List.getElem?_toArray, List.getElem?_cons_succ, List.getElem?_cons_zero, Option.bind_some, Option.toList_some]; unfold rOne; go_wp2_with fail
    exact ⟨by simp only [opGot, Array.getD_eq_getD_getElem?, List.getElem?_toArray, List.getElem?_cons_succ, List.getElem?_cons_zero, Option.getD_some], _, mapC_size map0_len, rfl⟩
  refine var_al 28 120 (mapC other) 4 (by simp) rfl ?_ ?_
  · intro x; simp only [List.nil_append, List.cons_append, List.map_cons, List.map_nil, depP, depG, finP, Option.some.injEq, Nat.reduceEqDiff, reduceCtorEq, ↓reduceIte]; simp only [List.filter_cons, List.filter_nil, lookT, Oper.looksAt, Op.operands, Call.operands, List.filterMap_cons, List.filterMap_nil, List.append_nil, List.contains_cons, List.contains_nil, Nat.reduceBEq, Bool.or_false, Bool.false_or, Bool.or_true, Bool.true_or, Bool.false_eq_true, if_true, if_false, withD_nil, withD_det, List.nil_append, List.cons_append, ↓reduceIte, List.push_toArray, List.append_toArray, List.map_cons, List.map_nil, Option.toArray_none, Option.toArray_some, Array.append_empty, List.getElem?_toArray, List.getElem?_cons_succ, List.getElem?_cons_zero, Option.bind_some, Option.toList_some]; unfold rOne; go_wp2_with fail
    exact ⟨by simp only [opGot, Array.getD_eq_getD_getElem?, List.getElem?_toArray, List.getElem?_cons_succ, List.getElem?_cons_zero, Option.getD_some], _, mapC_size map0_len, rfl⟩
  refine var_st 3 28 120 (mapC m) (by simp) rfl rfl Z40.out ?_ ?_
  · intro x g cs _ hB hsz; simp only [List.nil_append, List.cons_append, List.map_cons, List.map_nil, depP, depG, finP, Option.some.injEq, Nat.reduceEqDiff, reduceCtorEq, ↓reduceIte]; simp only [List.filter_cons, List.filter_nil, lookT, Oper.looksAt, Op.operands, Call.operands, List.filterMap_cons, List.filterMap_nil, List.append_nil, List.contains_cons, List.contains_nil, Nat.reduceBEq, Bool.or_false, Bool.false_or, Bool.or_true, Bool.true_or, Bool.false_eq_true, if_true, if_false, withD_nil, withD_det, List.nil_append, List.cons_append, ↓reduceIte, List.push_toArray, List.append_toArray, List.map_cons, List.map_nil, Option.toArray_none, Option.toArray_some, Array.append_empty, List.getElem?_toArray, List.getElem?_cons_succ, List.getElem?_cons_zero, Option.bind_some, Option.toList_some]; unfold rOne
    go_wp2_with ((with_reducible refine wpList_store_at (.tmp 3) (.tmp 20) rfl ?_ g _ cs (mapC m) ?_ ?_ hB ?_ ?_ (mapC_one m) ?_); (next => rfl); (next => rfl); (next => rfl); (next => rw [Z40.out]; exact Try.sizeMap); (next => rw [Z40.out, hsz]))
    exact ⟨Only.row _ _ _, hB.row _⟩
  refine var_st 4 28 120 (mapC other) (by simp) rfl rfl O40.out ?_ ?_
  · intro x g cs _ hB hsz; simp only [List.nil_append, List.cons_append, List.map_cons, List.map_nil, depP, depG, finP, Option.some.injEq, Nat.reduceEqDiff, reduceCtorEq, ↓reduceIte]; simp only [List.filter_cons, List.filter_nil, lookT, Oper.looksAt, Op.operands, Call.operands, List.filterMap_cons, List.filterMap_nil, List.append_nil, List.contains_cons, List.contains_nil, Nat.reduceBEq, Bool.or_false, Bool.false_or, Bool.or_true, Bool.true_or, Bool.false_eq_true, if_true, if_false, withD_nil, withD_det, List.nil_append, List.cons_append, ↓reduceIte, List.push_toArray, List.append_toArray, List.map_cons, List.map_nil, Option.toArray_none, Option.toArray_some, Array.append_empty, List.getElem?_toArray, List.getElem?_cons_succ, List.getElem?_cons_zero, Option.bind_some, Option.toList_some]; unfold rOne
    go_wp2_with ((with_reducible refine wpList_store_at (.tmp 4) (.tmp 22) rfl ?_ g _ cs (mapC other) ?_ ?_ hB ?_ ?_ (mapC_one other) ?_); (next => rfl); (next => rfl); (next => rfl); (next => rw [O40.out]; exact Try.sizeMap); (next => rw [O40.out, hsz]))
    exact ⟨Only.row _ _ _, hB.row _⟩
  repeat (apply var_det; (intro x; simp only [List.nil_append, List.cons_append, List.map_cons, List.map_nil, depP, depG, finP, Option.some.injEq, Nat.reduceEqDiff, reduceCtorEq, ↓reduceIte]; simp only [List.filter_cons, List.filter_nil, lookT, Oper.looksAt, Op.operands, Call.operands, List.filterMap_cons, List.filterMap_nil, List.append_nil, List.contains_cons, List.contains_nil, Nat.reduceBEq, Bool.or_false, Bool.false_or, Bool.or_true, Bool.true_or, Bool.false_eq_true, if_true, if_false, withD_nil, withD_det, List.nil_append, List.cons_append, ↓reduceIte, List.push_toArray, List.append_toArray, List.map_cons, List.map_nil, Option.toArray_none, Option.toArray_some, Array.append_empty, List.getElem?_toArray, List.getElem?_cons_succ, List.getElem?_cons_zero, Option.bind_some, Option.toList_some]; unfold rOne; go_wp2_with fail; (first | (refine ⟨Below.refl _ _, ?_⟩; simp only [opGot, Array.getD_eq_getD_getElem?, List.getElem?_toArray, List.getElem?_cons_succ, List.getElem?_cons_zero, Option.getD_some]; exact rfl) | (refine ⟨by assumption, ?_⟩; simp only [opGot, Array.getD_eq_getD_getElem?, List.getElem?_toArray, List.getElem?_cons_succ, List.getElem?_cons_zero, Option.getD_some]; exact rfl) | (simp only [opGot, Array.getD_eq_getD_getElem?, List.getElem?_toArray, List.getElem?_cons_succ, List.getElem?_cons_zero, Option.getD_some]; exact rfl))))
  refine var_nil rfl ?_
  intro x
  simp only [List.nil_append, List.cons_append, List.map_cons, List.map_nil, depP, depG, finP, Option.some.injEq, Nat.reduceEqDiff, reduceCtorEq, ↓reduceIte]; simp only [List.filter_cons, List.filter_nil, lookT, Oper.looksAt, Op.operands, Call.operands, List.filterMap_cons, List.filterMap_nil, List.append_nil, List.contains_cons, List.contains_nil, Nat.reduceBEq, Bool.or_false, Bool.false_or, Bool.or_true, Bool.true_or, Bool.false_eq_true, if_true, if_false, withD_nil, withD_det, List.nil_append, List.cons_append, ↓reduceIte, List.push_toArray, List.append_toArray, List.map_cons, List.map_nil, Option.toArray_none, Option.toArray_some, Array.append_empty, List.getElem?_toArray, List.getElem?_cons_succ, List.getElem?_cons_zero, Option.bind_some, Option.toList_some]
  rw [withD_pr]; rintro v ⟨g3, rfl, _, B3⟩
  rw [withD_pr]; rintro v ⟨g4, rfl, _, B4⟩
  rw [withD_pr]; rintro v _
  rw [withD_pr]; rintro v _
  simp only [withD_det, withD_nil, Act.put, List.setIfInBounds_toArray, List.set_cons_succ, List.set_cons_zero]
  replace B3 := hide B3; replace B4 := hide B4; replace hb := hide (nextB hb.out x.h); replace RB := hide (RB.out.on x.h)
  generalize x.w = W1 at B3 B4 hb RB ⊢
  clear pK pB hWs
  go_upto_if 29 with fail
  go_cut [6] (fun v wx => v = .slice A n' c ∧ W1 = wx)
  case first => rcases case0 with ⟨d0, rfl⟩ | ⟨d0, rfl⟩ <;> (go_wp2_with fail; go_meet; exact ⟨rfl, rfl⟩)
  case rest =>
  obtain ⟨rfl, rfl⟩ := hcut
  clear case0
  have D1 := fun w hA => dec_any other k A n' c bs HO.out OS.out w hA l0.out f0 (by omega)
  have D2 := fun w => decRef_any other k ⟨bs.toArray⟩ bs (by simp) HO.out OS.out w (by show bs.toArray.size ≤ _; rw [List.size_toArray, l0.out]; omega)
  have dl := decM_len HO.out k bs
  obtain ⟨Y, ey, hY⟩ : ∃ Y ey, decM other k bs = (Y, ey) := ⟨_, _, rfl⟩
  rw [hY] at D1 D2 dl
  simp only at dl
  have yk := hide dl
  have Y40 := hide (mapC_size dl)
  replace D1 := hide D1; replace D2 := hide D2
  clear hY dl
  have CM := fun w => may_any m H40.out w
  have CR := fun w => mayRef_any m H40.out w
  go_wp2_with (first
    | ((with_reducible refine load_map (.tmp 4) rfl ?_ g4 other ?_ ?_ O40.out ?_); (next => rfl); (next => rfl); (next => exact B4.out))
    | (go_at_call 20; (with_reducible refine (unhide D1 _ RB.out).mono ?_); rintro e w3 ⟨rfl, hb3⟩; replace B3 := hide (B3.out.below hb3 B3.out.lt); replace B4 := hide (B4.out.below hb3 B4.out.lt); replace RB := hide (RB.out.on hb3); replace hb := hide (nextB hb.out hb3); have s1 := run_str (P := Try.prog) (n := n') (c := c) 48 9 5 Try.underlying48 Try.underlying5 Try.underlying9 (RB.out.alloc (.cells (mapC Y) 28)) l0.out; clear hb3)
    | ((with_reducible refine store_map (.tmp 7) _ rfl ?_ w3 Y ?_ ?_ Y40.out ?_); (next => rfl); (next => rfl); (next => rfl))
    | ((with_reducible refine load_map (.tmp 4) rfl ?_ g4 other ?_ ?_ O40.out ?_); (next => rfl); (next => rfl); (next => exact B4.out.alloc _))
    | (go_at_call 21; (with_reducible refine (unhide D2 _).mono ?_); rintro e w4 ⟨rfl, hb4⟩; replace B3 := hide ((B3.out.alloc _).below hb4 (B3.out.alloc _).lt); have B7 := hide ((Blk.new w3 28 (mapC Y)).below hb4 (by simp)); replace hb := hide (nextB (hb.out.alloc hb.out.size _) hb4); clear hb4 s1)
    | ((with_reducible refine store_map (.tmp 9) _ rfl ?_ w4 Y ?_ ?_ Y40.out ?_); (next => rfl); (next => rfl); (next => rfl)))
  replace B3 := hide (B3.out.alloc (.cells (mapC Y) 28)); replace B7 := hide (B7.out.alloc (.cells (mapC Y) 28))
  have B9 := hide (Blk.new w4 28 (mapC Y))
  replace hb := hide (hb.out.alloc hb.out.size (.cells (mapC Y) 28))
  generalize (w4.alloc _) = W2 at B3 B7 B9 hb ⊢
  obtain ⟨g7, hg7⟩ : ∃ g, g = w3.heap.size := ⟨_, rfl⟩
  obtain ⟨g9, hg9⟩ : ∃ g, g = w4.heap.size := ⟨_, rfl⟩
  rw [← hg7] at B7 ⊢
  rw [← hg9] at B9 ⊢
  clear hg7 hg9
  have EQ := hide (fun w => (map_eq yk.out yk.out w).trans (by rw [decide_eq_true rfl]))
  obtain ⟨r, hr⟩ : ∃ r, r = decide (mayM m) := ⟨_, rfl⟩
  rw [← hr] at CM CR
  replace CM := hide CM; replace CR := hide CR
  refine wp_region_ext W2 (by kernel_rfl) (by kernel_rfl) (Below.refl _ _) ?_
  refine quiet_load_at rfl _ _ rfl Try.wideMap g7 0 rfl (Y.flatMap slotC) (map_flat_len yk.out) (by rintro _ ⟨x, rfl⟩ j u hu; exact map_blk_all (B7.out.below x.h B7.out.lt) j u hu) ?_
  refine quiet_load_at rfl _ _ rfl Try.wideMap g9 0 rfl (Y.flatMap slotC) (map_flat_len yk.out) (by rintro _ ⟨x, rfl⟩ j u hu; exact map_blk_all (B9.out.below x.h B9.out.lt) j u hu) ?_
  refine quiet_neq rfl _ _ _ _ rfl (by kernel_rfl) (mapC Y) (mapC Y) rfl rfl true (fun w => EQ.out w) ?_
  repeat (first | go_big_quiet_step ((first | fail)) | quiet_step ((first | fail)))
  refine quiet_load_at rfl _ _ rfl Try.wideMap g3 0 rfl (m.flatMap slotC) (map_flat_len H40.out) (by rintro _ ⟨x, rfl⟩ j u hu; exact map_blk_all (B3.out.below x.h B3.out.lt) j u hu) ?_
  repeat (first | go_big_quiet_step ((first | (go_at_call 18; exact Ext.call _ (unhide CM _)))) | quiet_step ((first | (go_at_call 18; exact Ext.call _ (unhide CM _)))))
  refine quiet_load_at rfl _ _ rfl Try.wideMap g3 0 rfl (m.flatMap slotC) (map_flat_len H40.out) (by rintro _ ⟨x, rfl⟩ j u hu; exact map_blk_all (B3.out.below x.h B3.out.lt) j u hu) ?_
  repeat (first | go_big_quiet_step ((first | (go_at_call 22; exact Ext.call _ (unhide CR _)))) | quiet_step ((first | (go_at_call 22; exact Ext.call _ (unhide CR _)))))
  refine wpQuiet_nil ?_
  intro wx hw'
  obtain ⟨⟨_, hx⟩, rfl⟩ := hw'
  replace B3 := hide (B3.out.below hx B3.out.lt); replace hb := hide (nextB hb.out hx)
  clear hx B7 B9 EQ D1 D2
  have E1 := fun w => enc_any m k H40.out HS.out w
  have awk := awake_any
  rcases r with _ | _
  · have hno : ¬ mayM m := by simpa using hr.symm
    have he : encM m k = ([], 1) := by unfold encM; rw [if_pos hno]
    rw [he] at E1
    replace E1 := hide E1; replace awk := hide awk
    clear he hno hr CM
    go_wp2_with (first
      | ((with_reducible refine load_map (.tmp 3) rfl ?_ g3 m ?_ ?_ Z40.out ?_); (next => rfl); (next => rfl); (next => exact B3.out))
      | (go_at_call 19; (with_reducible refine (unhide E1 _).mono ?_); rintro e w3 ⟨A3, c3, rfl, _, hb3⟩; replace B3 := hide (B3.out.below hb3 B3.out.lt); replace hb := hide (nextB hb.out hb3); clear hb3)
      | (go_at_call 22; (with_reducible refine (unhide CR _).mono ?_); rintro e w4 ⟨rfl, hb4⟩; replace hb := hide (nextB hb.out hb4); clear hb4)
      | (go_at_call 15; (with_reducible refine (awk.out _).mono ?_); rintro e w5 ⟨rfl, hb5⟩))
    go_ret
    exact ⟨rfl, nextB hb.out hb5⟩
  · have hyes : mayM m := by simpa using hr.symm
    have Hm := hide hyes
    have hcase : (k < 0 ∧ encM m k = ([], 4)) ∨ (¬ k < 0 ∧ 3 < k ∧ encM m k = ([], 4)) ∨ (∃ k' : Nat, k = (k' : Int) ∧ k' < 4 ∧ encM m k = (encB m k', 0)) := by
      by_cases hk : k < 0 ∨ 3 < k
      · have he : encM m k = ([], 4) := by unfold encM; rw [if_neg (by simp [hyes]), if_pos hk]
        rcases hk with hk | hk
        · exact .inl ⟨hk, he⟩
        · exact .inr (.inl ⟨by omega, hk, he⟩)
      · obtain ⟨k', rfl⟩ := Int.eq_ofNat_of_zero_le (show 0 ≤ k by omega)
        exact .inr (.inr ⟨k', rfl, by omega, by unfold encM; rw [if_neg (by simp [hyes]), if_neg hk, Int.toNat_natCast]⟩)
    obtain ⟨eb, ee, he⟩ : ∃ eb ee, encM m k = (eb, ee) := ⟨_, _, rfl⟩
    rw [he] at E1 hcase
    replace hcase := hide hcase
    replace E1 := hide E1; replace awk := hide awk
    clear he hr hyes CM
    go_upto_region 11 with (first
      | ((with_reducible refine load_map (.tmp 3) rfl ?_ g3 m ?_ ?_ Z40.out ?_); (next => rfl); (next => rfl); (next => exact B3.out))
      | (go_at_call 19; (with_reducible refine (unhide E1 _).mono ?_); rintro e w3 ⟨A3, c3, rfl, ho3, hb3⟩; replace B3 := hide (B3.out.below hb3 B3.out.lt); replace hb := hide (nextB hb.out hb3); have R3 := hide (Rd.of_own ho3); clear hb3 ho3)
      | (go_at_call 22; (with_reducible refine (unhide CR _).mono ?_); rintro e w4 ⟨rfl, hb4⟩; replace B3 := hide (B3.out.below hb4 B3.out.lt); replace hb := hide (nextB hb.out hb4); replace R3 := hide (R3.out.on hb4); clear hb4))
    go_cut [86] (fun v wx => v = .bool (decide (k < 0) || decide (3 < k)) ∧ w4 = wx)
    case first =>
      rcases (show k < 0 ∨ (¬ k < 0 ∧ 3 < k) ∨ (¬ k < 0 ∧ ¬ 3 < k) by omega) with d1 | ⟨d1, d2⟩ | ⟨d1, d2⟩
      all_goals
        go_wp2_with fail
        go_meet
        exact ⟨by simp <;> omega, rfl⟩
    case rest =>
    obtain ⟨rfl, rfl⟩ := hcut
    go_upto_if 86 with fail
    go_cut [2] (fun v wx => v = .bool false ∧ Blk wx g3 28 (mapC m) ∧ Below w.heap.size w wx)
    case first =>
      rcases hcase.out with ⟨k1, hc⟩ | ⟨k1, k2, hc⟩ | ⟨k', rfl, k1, hc⟩
      · obtain ⟨rfl, rfl⟩ : eb = [] ∧ ee = 4 := by injection hc with h1 h2; exact ⟨h1, h2⟩
        clear hc
        go_wp2_with fail
        go_meet
        exact ⟨rfl, B3.out, hb.out⟩
      · obtain ⟨rfl, rfl⟩ : eb = [] ∧ ee = 4 := by injection hc with h1 h2; exact ⟨h1, h2⟩
        clear hc
        go_wp2_with fail
        go_meet
        exact ⟨rfl, B3.out, hb.out⟩
      · obtain ⟨rfl, rfl⟩ : eb = encB m k' ∧ ee = 0 := by injection hc with h1 h2; exact ⟨h1, h2⟩
        have G := hide (fun w => encRef_any m k' H40.out HS.out Hm.out k1 w)
        have s2 := fun y : Ext w4 => run_str (P := Try.prog) (n := (encB m k').length) (c := c3) 48 9 5 Try.underlying48 Try.underlying5 Try.underlying9 (R3.out.on y.h) rfl
        clear hc
        go_wp2_with fail
        refine wp_region_ext w4 (by kernel_rfl) (by kernel_rfl) (Below.refl _ _) ?_
        repeat (first | go_big_quiet_step ((first | fail)) | quiet_step ((first | fail)))
        refine quiet_load_at rfl _ _ rfl Try.wideMap g3 0 rfl (m.flatMap slotC) (map_flat_len H40.out) (by rintro _ ⟨x, rfl⟩ j u hu; exact map_blk_all (B3.out.below x.h B3.out.lt) j u hu) ?_
        repeat (first | go_big_quiet_step ((first | (go_at_call 23; exact Ext.call _ (unhide G _)))) | quiet_step ((first | (go_at_call 23; exact Ext.call _ (unhide G _)))))
        refine wpQuiet_nil ?_
        intro wx hw'
        obtain ⟨⟨_, hx⟩, rfl⟩ := hw'
        clear s2
        go_wp2_with fail
        go_meet
        exact ⟨rfl, B3.out.below hx B3.out.lt, nextB hb.out hx⟩
    case rest =>
      obtain ⟨rfl, B3', hb'⟩ := hcut
      clear B3 hb R3 hcase E1 CR
      have B3 := hide B3'; have hb := hide hb'
      clear B3' hb'
      have Z0 := hide (mapC_size map0_len)
      go_wp2_with (first
        | ((with_reducible refine built_map rfl ?_ ?_); (next => rfl))
        | ((with_reducible refine store_map (.tmp 13) _ rfl ?_ wc map0 ?_ ?_ Z0.out ?_); (next => rfl); (next => rfl); (next => rfl)))
      have B13 := hide (Blk.new wc 28 (mapC map0))
      have hne : g3 ≠ wc.heap.size := Nat.ne_of_lt B3.out.lt
      have hg0 : w.heap.size ≤ wc.heap.size := hb.out.size
      replace B3 := hide (B3.out.alloc (.cells (mapC map0) 28))
      replace hb := hide (hb.out.alloc hb.out.size (.cells (mapC map0) 28))
      generalize (wc.alloc _) = W5 at B3 B13 hb ⊢
      obtain ⟨g13, hg⟩ : ∃ g, g = wc.heap.size := ⟨_, rfl⟩
      rw [← hg] at B13 hne hg0 ⊢
      clear hg
      go_loopw [14] (fun i wr => ∃ j : Nat, j ≤ 4 ∧ i = .int .i64 (j : Int) ∧ Blk wr g3 28 (mapC m) ∧ Blk wr g13 28 (mapC (backM m (10 * j))) ∧ Below w.heap.size w wr) (fun i _ => 4 - (intOf i).toNat)
      case atStart => exact ⟨0, by omega, rfl, B3.out, by rw [Nat.mul_zero, backM_zero]; exact B13.out, hb.out⟩
      case round =>
        clear B3 B13 hb
        obtain ⟨j, hj, rfl, B3, B13, hb⟩ := hrel
        replace B3 := hide B3; replace B13 := hide B13; replace hb := hide hb
        by_cases hlt : j < 4
        · have E := fun w => enc_any m (j : Int) H40.out HS.out w
          have he : encM m (j : Int) = (encB m j, 0) := by unfold encM; rw [if_neg (by simp [Hm.out]), if_neg (by omega), Int.toNat_natCast]
          rw [he] at E
          have hel := encB_len H40.out hlt
          have D := fun A n c w hA hn hc hm => dec_any (backM m (10 * j)) (j : Int) A n c (encB m j) (backM_len H40.out (by omega)) (backM_s HS.out _) w hA hn hc hm
          rw [dec_enc H40.out Hm.out HS.out hlt] at D
          have Zj := hide (mapC_size (backM_len H40.out (show 10 * j ≤ 40 by omega)))
          have Zk := hide (mapC_size (backM_len H40.out (show 10 * (j + 1) ≤ 40 by omega)))
          replace E := hide E; replace D := hide D; replace hel := hide hel
          clear he
          go_wp2_with (first
            | ((with_reducible refine load_map (.tmp 3) rfl ?_ g3 m ?_ ?_ Z40.out ?_); (next => rfl); (next => rfl); (next => exact B3.out))
            | (go_at_call 19; (with_reducible refine (unhide E _).mono ?_); rintro e w6 ⟨A6, c6, rfl, ho6, hb6⟩; replace B3 := hide (B3.out.below hb6 B3.out.lt); replace B13 := hide (B13.out.below hb6 B13.out.lt); replace hb := hide (nextB hb.out hb6); have R6 := hide (Rd.of_own ho6); have c6h := own_cap ho6; clear hb6 ho6)
            | ((with_reducible refine load_map (.tmp 13) rfl ?_ g13 (backM m (10 * j)) ?_ ?_ Zj.out ?_); (next => rfl); (next => rfl); (next => exact B13.out))
            | (go_at_call 20; (with_reducible refine (unhide D A6 _ c6 _ R6.out rfl c6h (by rw [hel.out]; decide)).mono ?_); rintro e w7 ⟨rfl, hb7⟩; replace B3 := hide (B3.out.below hb7 B3.out.lt); replace B13 := hide (B13.out.below hb7 B13.out.lt); replace hb := hide (nextB hb.out hb7); clear hb7)
            | ((with_reducible refine store_map (.tmp 17) _ rfl ?_ w7 (backM m (10 * (j + 1))) ?_ ?_ Zk.out ?_); (next => rfl); (next => rfl); (next => rfl))
            | ((with_reducible refine load_map (.tmp 17) rfl ?_ w7.heap.size (backM m (10 * (j + 1))) ?_ ?_ Zk.out ?_); (next => rfl); (next => rfl); (next => exact Blk.new w7 _ _))
            | ((with_reducible refine store_map_at (.tmp 13) _ rfl ?_ g13 (backM m (10 * j)) (backM m (10 * (j + 1))) ?_ ?_ ?_ Zj.out Zk.out ?_); (next => rfl); (next => rfl); (next => rfl); (next => exact B13.out.alloc _)))
          go_roundw
          case rel => exact ⟨j + 1, by omega, by go_num, (B3.out.alloc _).rowFar hne _, (B13.out.alloc _).row _, below_setRow (hb.out.alloc hb.out.size _) hg0 _⟩
          case measure => simp [intOf]; omega
        · obtain rfl : j = 4 := by omega
          have h13 := B13.out
          rw [show 10 * 4 = 40 from rfl, backM_all H40.out] at h13
          replace h13 := hide h13
          go_wp2_with (first
            | ((with_reducible refine load_map (.tmp 13) rfl ?_ g13 m ?_ ?_ Z40.out ?_); (next => rfl); (next => rfl); (next => exact h13.out))
            | ((with_reducible refine load_map (.tmp 3) rfl ?_ g3 m ?_ ?_ Z40.out ?_); (next => rfl); (next => rfl); (next => exact B3.out))
            | ((with_reducible refine eql_map_g (.tmp 129) (.tmp 130) _ rfl ?_ m ?_ ?_ H40.out ?_); (next => rfl); (next => rfl); (next => rfl))
            | (go_at_call 15; (with_reducible refine (awk.out _).mono ?_); rintro e w9 ⟨rfl, hb9⟩))
          go_ret
          exact ⟨rfl, nextB hb.out hb9⟩
end Go.Proofs.Ytalcgnjkhnmmiaa
