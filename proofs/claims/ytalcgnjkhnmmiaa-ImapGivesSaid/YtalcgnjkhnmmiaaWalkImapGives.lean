import Derived.Test.YtalcgnjkhnmmiaaImapV
import Derived.Deep.CutBlock
import Derived.Test.YtalcgnjkhnmmiaaImapO
import Derived.Test.YtalcgnjkhnmmiaaVarL
import Derived.Test.YtalcgnjkhnmmiaaPlainG
import Derived.Test.YtalcgnjkhnmmiaaOpenV
namespace Go.Proofs.Ytalcgnjkhnmmiaa
set_option linter.unusedSimpArgs false
open Go.RowKit

theorem eql_map_b {ops : Array Oper} {rest : List Oper} {o : Oper} {a : Act} {w : World} {Q : Exit → Act → World → Prop} (x y : Operand) (ty : TypeId) (ho : o.op = .binOp .eql 28 x y ty) (hgd : Region.wanted o (yielded ops a.tmps) = true)
    (m m' : List Slot) (hx : a.eval x = .agg (mapC m)) (hy : a.eval y = .agg (mapC m')) (hl' : m'.length = 40) (hl : m.length = 40) (b : Bool) (hb : decide (m = m') = b) (h : wpList Try.prog ops Q rest (a.put o.dst (.bool b)) w) : wpList Try.prog ops Q (o :: rest) a w := by
  rw [wpList, if_pos hgd]
  refine .inl ?_
  unfold Oper.wp
  simp only [execOp, ho, hx, hy, Sem.run_bind, run_eqGuard_agg (P := Try.prog) w .eql 28 x y (mapC m) (mapC m') (by kernel_rfl), Result.andThen_ok, run_eql_struct w, map_eq hl hl' w, Sem.run_pure, hb]
  exact h
/-- a map that is as another one, but at a number -/
def AsBut (m X : List Slot) (i : Int) : Prop := X.length = 40 ∧ ∀ (j : Nat), (j : Int) ≠ i → X[j]? = m[j]?
theorem AsBut.give {m X Y : List Slot} {i : Int} (h : AsBut m X i) (hg : giveM X i = (Y, 0)) : AsBut m Y i := by
  obtain ⟨k, x, rfl, hk, _, _, _, rfl⟩ := giveM_ok h.1 hg
  refine ⟨by rw [List.length_set]; exact h.1, fun j hj => ?_⟩
  rw [List.getElem?_set_ne (by omega)]
  exact h.2 j hj
set_option maxRecDepth 100000 in
set_option maxHeartbeats 16000000 in
theorem walk_ImapGives (q : List Slot × List Slot × Int × UInt8) (w : World) (h1 : q.1.length = 40 ∧ ∀ y ∈ q.1, slotOk y) (h2 : q.2.1.length = 40 ∧ ∀ y ∈ q.2.1, slotOk y) (_h3 : -9223372036854775808 ≤ q.2.2.1 ∧ q.2.2.1 ≤ 9223372036854775807) :
    Calls Try.prog 5 #[.agg (givesC q).toArray] w fun e w' => e = .returned (.bool true) ∧ Below w.heap.size w w' := by
  obtain ⟨m, other, ino, tm⟩ := q
  obtain ⟨h40, hm⟩ := h1
  obtain ⟨o40, ho⟩ := h2
  simp only at h40 hm o40 ho
  have hs : ∀ y ∈ m, y.s < 4294967296 := fun y hy => (hm y hy).2.1
  have os : ∀ y ∈ other, y.s < 4294967296 := fun y hy => (ho y hy).2.1
  have BP := Blk.new w 46 (givesC (m, other, ino, tm)).toArray
  have fl := map_flat_len h40; have fo := map_flat_len o40
  have cM : ∀ j u, (m.flatMap slotC)[j]? = some u → (givesC (m, other, ino, tm))[j]? = some u := fun j u hu => by
    unfold givesC
    have hj : j < (m.flatMap slotC).length := (List.getElem?_eq_some_iff.1 hu).1
    rw [List.getElem?_append_left hj]; exact hu
  have cO : ∀ j u, (other.flatMap slotC)[j]? = some u → (givesC (m, other, ino, tm))[120 + j]? = some u := fun j u hu => by
    unfold givesC
    have hj : j < (other.flatMap slotC).length := (List.getElem?_eq_some_iff.1 hu).1
    simp only
    rw [List.getElem?_append_right (by omega), List.getElem?_append_left (by omega), fl, Nat.add_sub_cancel_left]; exact hu
  have cK : (givesC (m, other, ino, tm))[240]? = some (.int .i64 ino) := by
    unfold givesC
    simp only
    rw [List.getElem?_append_right (by omega), List.getElem?_append_right (by omega), fl, fo]; rfl
  have cB : (givesC (m, other, ino, tm))[241]? = some (.int .u8 (tm.toNat : Int)) := by
    unfold givesC
    simp only
    rw [List.getElem?_append_right (by omega), List.getElem?_append_right (by omega), fl, fo]; rfl
  have htm : tm.toNat < 256 := tm.toNat_lt
  obtain ⟨T, hT⟩ : ∃ T, T = tm.toNat := ⟨_, rfl⟩
  rw [← hT] at cB htm
  obtain ⟨W, hW⟩ : ∃ W, W = w.alloc (.cells (givesC (m, other, ino, tm)).toArray 46) := ⟨_, rfl⟩
  have hb : Hid (Below w.heap.size w W) := by rw [hW]; exact box1
  rw [← hW] at BP
  have hWs : w.heap.size < W.heap.size := BP.lt
  have pM := hide (fun (x : Ext W) (j : Nat) (u : Value) (hu : (m.flatMap slotC)[j]? = some u) => show x.w.cell? ⟨w.heap.size, 0 + j, none⟩ = some u by rw [Nat.zero_add]; exact (BP.below x.h hWs).cell_ j u (by simpa using cM j u hu))
  have pO := hide (fun (x : Ext W) (j : Nat) (u : Value) (hu : (other.flatMap slotC)[j]? = some u) => (BP.below x.h hWs).cell_ (120 + j) u (by simpa using cO j u hu))
  have pK := fun (x : Ext W) => (BP.below x.h hWs).cell_ 240 _ (by simpa using cK)
  have pB := fun (x : Ext W) => (BP.below x.h hWs).cell_ 241 _ (by simpa using cB)
  have Z40 := hide (mapC_size h40); have O40 := hide (mapC_size o40); have H40 := hide h40; have HO := hide o40; have HS := hide hs; have OS := hide os
  replace fl := hide fl; replace fo := hide fo
  have hz := map_zero
  clear BP cM cO cK cB h40 o40 hs os hT hm ho
  go_enter Try.func5, Try.ntmps5
  go_wp2_with fail
  rw [← hW]
  replace hW := hide hW
  refine wp_region_var W [28] (by kernel_rfl) (by kernel_rfl) (Below.refl _ _) ?_
  apply var_det
  · intro x; simp only [List.nil_append, List.cons_append, List.map_cons, List.map_nil, depP, depG, finP, Option.some.injEq, Nat.reduceEqDiff, reduceCtorEq, ↓reduceIte]; simp only [List.filter_cons, List.filter_nil, lookT, Oper.looksAt, Op.operands, Call.operands, List.filterMap_cons, List.filterMap_nil, List.append_nil, List.contains_cons, List.contains_nil, Nat.reduceBEq, Bool.or_false, Bool.false_or, Bool.or_true, Bool.true_or, Bool.false_eq_true, if_true, if_false, withD_nil, withD_det, List.nil_append, List.cons_append, ↓reduceIte, List.push_toArray, List.append_toArray, List.map_cons, List.map_nil, Option.toArray_none, Option.toArray_some, Array.append_empty, List.getElem?_toArray, List.getElem?_cons_succ, List.getElem?_cons_zero, Option.bind_some, Option.toList_some]; unfold rOne; go_wp2_with fail; (first | (refine ⟨Below.refl _ _, ?_⟩; simp only [opGot, Array.getD_eq_getD_getElem?, List.getElem?_toArray, List.getElem?_cons_succ, List.getElem?_cons_zero, Option.getD_some]; exact rfl) | (refine ⟨by assumption, ?_⟩; simp only [opGot, Array.getD_eq_getD_getElem?, List.getElem?_toArray, List.getElem?_cons_succ, List.getElem?_cons_zero, Option.getD_some]; exact rfl) | (simp only [opGot, Array.getD_eq_getD_getElem?, List.getElem?_toArray, List.getElem?_cons_succ, List.getElem?_cons_zero, Option.getD_some]; exact rfl))
  apply var_det
  · intro x; simp only [List.nil_append, List.cons_append, List.map_cons, List.map_nil, depP, depG, finP, Option.some.injEq, Nat.reduceEqDiff, reduceCtorEq, ↓reduceIte]; simp only [List.filter_cons, List.filter_nil, lookT, Oper.looksAt, Op.operands, Call.operands, List.filterMap_cons, List.filterMap_nil, List.append_nil, List.contains_cons, List.contains_nil, Nat.reduceBEq, Bool.or_false, Bool.false_or, Bool.or_true, Bool.true_or, Bool.false_eq_true, if_true, if_false, withD_nil, withD_det, List.nil_append, List.cons_append, ↓reduceIte, List.push_toArray, List.append_toArray, List.map_cons, List.map_nil, Option.toArray_none, Option.toArray_some, Array.append_empty, List.getElem?_toArray, List.getElem?_cons_succ, List.getElem?_cons_zero, Option.bind_some, Option.toList_some]; unfold rOne
    go_wp2_with ((with_reducible refine wpList_load_at (.tmp 18) rfl ?_ Try.wideMap w.heap.size 0 ?_ (m.flatMap slotC) fl.out (pM.out x) ?_); (next => rfl); (next => rfl))
    (first | (refine ⟨Below.refl _ _, ?_⟩; simp only [opGot, Array.getD_eq_getD_getElem?, List.getElem?_toArray, List.getElem?_cons_succ, List.getElem?_cons_zero, Option.getD_some]; exact rfl) | (refine ⟨by assumption, ?_⟩; simp only [opGot, Array.getD_eq_getD_getElem?, List.getElem?_toArray, List.getElem?_cons_succ, List.getElem?_cons_zero, Option.getD_some]; exact rfl) | (simp only [opGot, Array.getD_eq_getD_getElem?, List.getElem?_toArray, List.getElem?_cons_succ, List.getElem?_cons_zero, Option.getD_some]; exact rfl))
  apply var_det
  · intro x; simp only [List.nil_append, List.cons_append, List.map_cons, List.map_nil, depP, depG, finP, Option.some.injEq, Nat.reduceEqDiff, reduceCtorEq, ↓reduceIte]; simp only [List.filter_cons, List.filter_nil, lookT, Oper.looksAt, Op.operands, Call.operands, List.filterMap_cons, List.filterMap_nil, List.append_nil, List.contains_cons, List.contains_nil, Nat.reduceBEq, Bool.or_false, Bool.false_or, Bool.or_true, Bool.true_or, Bool.false_eq_true, if_true, if_false, withD_nil, withD_det, List.nil_append, List.cons_append, ↓reduceIte, List.push_toArray, List.append_toArray, List.map_cons, List.map_nil, Option.toArray_none, Option.toArray_some, Array.append_empty, List.getElem?_toArray, List.getElem?_cons_succ, List.getElem?_cons_zero, Option.bind_some, Option.toList_some]; unfold rOne; go_wp2_with fail; (first | (refine ⟨Below.refl _ _, ?_⟩; simp only [opGot, Array.getD_eq_getD_getElem?, List.getElem?_toArray, List.getElem?_cons_succ, List.getElem?_cons_zero, Option.getD_some]; exact rfl) | (refine ⟨by assumption, ?_⟩; simp only [opGot, Array.getD_eq_getD_getElem?, List.getElem?_toArray, List.getElem?_cons_succ, List.getElem?_cons_zero, Option.getD_some]; exact rfl) | (simp only [opGot, Array.getD_eq_getD_getElem?, List.getElem?_toArray, List.getElem?_cons_succ, List.getElem?_cons_zero, Option.getD_some]; exact rfl))
  apply var_det
  · intro x; simp only [List.nil_append, List.cons_append, List.map_cons, List.map_nil, depP, depG, finP, Option.some.injEq, Nat.reduceEqDiff, reduceCtorEq, ↓reduceIte]; simp only [List.filter_cons, List.filter_nil, lookT, Oper.looksAt, Op.operands, Call.operands, List.filterMap_cons, List.filterMap_nil, List.append_nil, List.contains_cons, List.contains_nil, Nat.reduceBEq, Bool.or_false, Bool.false_or, Bool.or_true, Bool.true_or, Bool.false_eq_true, if_true, if_false, withD_nil, withD_det, List.nil_append, List.cons_append, ↓reduceIte, List.push_toArray, List.append_toArray, List.map_cons, List.map_nil, Option.toArray_none, Option.toArray_some, Array.append_empty, List.getElem?_toArray, List.getElem?_cons_succ, List.getElem?_cons_zero, Option.bind_some, Option.toList_some]; unfold rOne
    go_wp2_with ((with_reducible refine wpList_load_at (.tmp 20) rfl ?_ Try.wideMap w.heap.size 120 ?_ (other.flatMap slotC) fo.out (pO.out x) ?_); (next => rfl); (next => rfl))
    (first | (refine ⟨Below.refl _ _, ?_⟩; simp only [opGot, Array.getD_eq_getD_getElem?, List.getElem?_toArray, List.getElem?_cons_succ, List.getElem?_cons_zero, Option.getD_some]; exact rfl) | (refine ⟨by assumption, ?_⟩; simp only [opGot, Array.getD_eq_getD_getElem?, List.getElem?_toArray, List.getElem?_cons_succ, List.getElem?_cons_zero, Option.getD_some]; exact rfl) | (simp only [opGot, Array.getD_eq_getD_getElem?, List.getElem?_toArray, List.getElem?_cons_succ, List.getElem?_cons_zero, Option.getD_some]; exact rfl))
  repeat (apply var_det; (intro x; simp only [List.nil_append, List.cons_append, List.map_cons, List.map_nil, depP, depG, finP, Option.some.injEq, Nat.reduceEqDiff, reduceCtorEq, ↓reduceIte]; simp only [List.filter_cons, List.filter_nil, lookT, Oper.looksAt, Op.operands, Call.operands, List.filterMap_cons, List.filterMap_nil, List.append_nil, List.contains_cons, List.contains_nil, Nat.reduceBEq, Bool.or_false, Bool.false_or, Bool.or_true, Bool.true_or, Bool.false_eq_true, if_true, if_false, withD_nil, withD_det, List.nil_append, List.cons_append, ↓reduceIte, List.push_toArray, List.append_toArray, List.map_cons, List.map_nil, Option.toArray_none, Option.toArray_some, Array.append_empty, List.getElem?_toArray, List.getElem?_cons_succ, List.getElem?_cons_zero, Option.bind_some, Option.toList_some]; unfold rOne; go_wp2_with fail; (first | (refine ⟨Below.refl _ _, ?_⟩; simp only [opGot, Array.getD_eq_getD_getElem?, List.getElem?_toArray, List.getElem?_cons_succ, List.getElem?_cons_zero, Option.getD_some]; exact rfl) | (refine ⟨by assumption, ?_⟩; simp only [opGot, Array.getD_eq_getD_getElem?, List.getElem?_toArray, List.getElem?_cons_succ, List.getElem?_cons_zero, Option.getD_some]; exact rfl) | (simp only [opGot, Array.getD_eq_getD_getElem?, List.getElem?_toArray, List.getElem?_cons_succ, List.getElem?_cons_zero, Option.getD_some]; exact rfl))))
  refine var_al 28 120 (mapC m) 3 (by simp) rfl ?_ ?_
  · intro x; simp only [List.nil_append, List.cons_append, List.map_cons, List.map_nil, depP, depG, finP, Option.some.injEq, Nat.reduceEqDiff, reduceCtorEq, ↓reduceIte]; simp only [List.filter_cons, List.filter_nil, lookT, Oper.looksAt, Op.operands, Call.operands, List.filterMap_cons, List.filterMap_nil, List.append_nil, List.contains_cons, List.contains_nil, Nat.reduceBEq, Bool.or_false, Bool.false_or, Bool.or_true, Bool.true_or, Bool.false_eq_true, if_true, if_false, withD_nil, withD_det, List.nil_append, List.cons_append, ↓reduceIte, List.push_toArray, List.append_toArray, List.map_cons, List.map_nil, Option.toArray_none, Option.toArray_some, Array.append_empty, List.getElem?_toArray, List.getElem?_cons_succ, List.getElem?_cons_zero, Option.bind_some, Option.toList_some]; unfold rOne; go_wp2_with fail
    exact ⟨by simp only [opGot, Array.getD_eq_getD_getElem?, List.getElem?_toArray, List.getElem?_cons_succ, List.getElem?_cons_zero, Option.getD_some], _, mapC_size map0_len, rfl⟩
  refine var_al 28 120 (mapC other) 4 (by simp) rfl ?_ ?_
  · intro x; simp only [List.nil_append, List.cons_append, List.map_cons, List.map_nil, depP, depG, finP, Option.some.injEq, Nat.reduceEqDiff, reduceCtorEq, ↓reduceIte]; simp only [List.filter_cons, List.filter_nil, lookT, Oper.looksAt, Op.operands, Call.operands, List.filterMap_cons, List.filterMap_nil, List.append_nil, List.contains_cons, List.contains_nil, Nat.reduceBEq, Bool.or_false, Bool.false_or, Bool.or_true, Bool.true_or, Bool.false_eq_true, if_true, if_false, withD_nil, withD_det, List.nil_append, List.cons_append, ↓reduceIte, List.push_toArray, List.append_toArray, List.map_cons, List.map_nil, Option.toArray_none, Option.toArray_some, Array.append_empty, List.getElem?_toArray, List.getElem?_cons_succ, List.getElem?_cons_zero, Option.bind_some, Option.toList_some]; unfold rOne; go_wp2_with fail
    exact ⟨by simp only [opGot, Array.getD_eq_getD_getElem?, List.getElem?_toArray, List.getElem?_cons_succ, List.getElem?_cons_zero, Option.getD_some], _, mapC_size map0_len, rfl⟩
  refine var_st 3 28 120 (mapC m) (by simp) rfl rfl Z40.out ?_ ?_
  · intro x g cs _ hB hsz; simp only [List.nil_append, List.cons_append, List.map_cons, List.map_nil, depP, depG, finP, Option.some.injEq, Nat.reduceEqDiff, reduceCtorEq, ↓reduceIte]; simp only [List.filter_cons, List.filter_nil, lookT, Oper.looksAt, Op.operands, Call.operands, List.filterMap_cons, List.filterMap_nil, List.append_nil, List.contains_cons, List.contains_nil, Nat.reduceBEq, Bool.or_false, Bool.false_or, Bool.or_true, Bool.true_or, Bool.false_eq_true, if_true, if_false, withD_nil, withD_det, List.nil_append, List.cons_append, ↓reduceIte, List.push_toArray, List.append_toArray, List.map_cons, List.map_nil, Option.toArray_none, Option.toArray_some, Array.append_empty, List.getElem?_toArray, List.getElem?_cons_succ, List.getElem?_cons_zero, Option.bind_some, Option.toList_some]; unfold rOne
    go_wp2_with ((with_reducible refine wpList_store_at (.tmp 3) (.tmp 19) rfl ?_ g _ cs (mapC m) ?_ ?_ hB ?_ ?_ (mapC_one m) ?_); (next => rfl); (next => rfl); (next => rfl); (next => rw [Z40.out]; exact Try.sizeMap); (next => rw [Z40.out, hsz]))
    exact ⟨Only.row _ _ _, hB.row _⟩
  refine var_st 4 28 120 (mapC other) (by simp) rfl rfl O40.out ?_ ?_
  · intro x g cs _ hB hsz; simp only [List.nil_append, List.cons_append, List.map_cons, List.map_nil, depP, depG, finP, Option.some.injEq, Nat.reduceEqDiff, reduceCtorEq, ↓reduceIte]; simp only [List.filter_cons, List.filter_nil, lookT, Oper.looksAt, Op.operands, Call.operands, List.filterMap_cons, List.filterMap_nil, List.append_nil, List.contains_cons, List.contains_nil, Nat.reduceBEq, Bool.or_false, Bool.false_or, Bool.or_true, Bool.true_or, Bool.false_eq_true, if_true, if_false, withD_nil, withD_det, List.nil_append, List.cons_append, ↓reduceIte, List.push_toArray, List.append_toArray, List.map_cons, List.map_nil, Option.toArray_none, Option.toArray_some, Array.append_empty, List.getElem?_toArray, List.getElem?_cons_succ, List.getElem?_cons_zero, Option.bind_some, Option.toList_some]; unfold rOne
    go_wp2_with ((with_reducible refine wpList_store_at (.tmp 4) (.tmp 21) rfl ?_ g _ cs (mapC other) ?_ ?_ hB ?_ ?_ (mapC_one other) ?_); (next => rfl); (next => rfl); (next => rfl); (next => rw [O40.out]; exact Try.sizeMap); (next => rw [O40.out, hsz]))
    exact ⟨Only.row _ _ _, hB.row _⟩
  repeat (apply var_det; (intro x; simp only [List.nil_append, List.cons_append, List.map_cons, List.map_nil, depP, depG, finP, Option.some.injEq, Nat.reduceEqDiff, reduceCtorEq, ↓reduceIte]; simp only [List.filter_cons, List.filter_nil, lookT, Oper.looksAt, Op.operands, Call.operands, List.filterMap_cons, List.filterMap_nil, List.append_nil, List.contains_cons, List.contains_nil, Nat.reduceBEq, Bool.or_false, Bool.false_or, Bool.or_true, Bool.true_or, Bool.false_eq_true, if_true, if_false, withD_nil, withD_det, List.nil_append, List.cons_append, ↓reduceIte, List.push_toArray, List.append_toArray, List.map_cons, List.map_nil, Option.toArray_none, Option.toArray_some, Array.append_empty, List.getElem?_toArray, List.getElem?_cons_succ, List.getElem?_cons_zero, Option.bind_some, Option.toList_some]; unfold rOne; go_wp2_with fail; (first | (refine ⟨Below.refl _ _, ?_⟩; simp only [opGot, Array.getD_eq_getD_getElem?, List.getElem?_toArray, List.getElem?_cons_succ, List.getElem?_cons_zero, Option.getD_some]; exact rfl) | (refine ⟨by assumption, ?_⟩; simp only [opGot, Array.getD_eq_getD_getElem?, List.getElem?_toArray, List.getElem?_cons_succ, List.getElem?_cons_zero, Option.getD_some]; exact rfl) | (simp only [opGot, Array.getD_eq_getD_getElem?, List.getElem?_toArray, List.getElem?_cons_succ, List.getElem?_cons_zero, Option.getD_some]; exact rfl))))
  refine var_nil rfl ?_
  intro x
  simp only [List.nil_append, List.cons_append, List.map_cons, List.map_nil, depP, depG, finP, Option.some.injEq, Nat.reduceEqDiff, reduceCtorEq, ↓reduceIte]; simp only [List.filter_cons, List.filter_nil, lookT, Oper.looksAt, Op.operands, Call.operands, List.filterMap_cons, List.filterMap_nil, List.append_nil, List.contains_cons, List.contains_nil, Nat.reduceBEq, Bool.or_false, Bool.false_or, Bool.or_true, Bool.true_or, Bool.false_eq_true, if_true, if_false, withD_nil, withD_det, List.nil_append, List.cons_append, ↓reduceIte, List.push_toArray, List.append_toArray, List.map_cons, List.map_nil, Option.toArray_none, Option.toArray_some, Array.append_empty, List.getElem?_toArray, List.getElem?_cons_succ, List.getElem?_cons_zero, Option.bind_some, Option.toList_some]
  rw [withD_pr]; rintro v ⟨g3, rfl, hg3, B3⟩
  rw [withD_pr]; rintro v ⟨g4, rfl, hg4, B4⟩
  rw [withD_pr]; rintro v _
  rw [withD_pr]; rintro v _
  simp only [withD_det, withD_nil, Act.put, List.setIfInBounds_toArray, List.set_cons_succ, List.set_cons_zero]
  replace B3 := hide B3; replace B4 := hide B4; replace hb := hide (nextB hb.out x.h)
  generalize x.w = W1 at B3 B4 hb ⊢
  clear pK pB hWs hg3 hg4
  go_upto_block 0 with (first
    | ((with_reducible refine load_map (.tmp 3) rfl ?_ g3 m ?_ ?_ Z40.out ?_); (next => rfl); (next => rfl); (next => exact B3.out))
    | ((with_reducible refine store_map (.tmp 7) _ rfl ?_ W1 m ?_ ?_ Z40.out ?_); (next => rfl); (next => rfl); (next => rfl)))
  have B7 := hide (Blk.new W1 28 (mapC m))
  have n37 : g3 ≠ W1.heap.size := Nat.ne_of_lt B3.out.lt
  have n47 : g4 ≠ W1.heap.size := Nat.ne_of_lt B4.out.lt
  have hg0 : w.heap.size ≤ W1.heap.size := hb.out.size
  replace B3 := hide (B3.out.alloc (.cells (mapC m) 28)); replace B4 := hide (B4.out.alloc (.cells (mapC m) 28))
  replace hb := hide (hb.out.alloc hb.out.size (.cells (mapC m) 28))
  generalize (W1.alloc _) = W2 at B3 B4 B7 hb ⊢
  obtain ⟨g7, hg7⟩ : ∃ g, g = W1.heap.size := ⟨_, rfl⟩
  rw [← hg7] at B7 n37 n47 hg0 ⊢
  clear hg7
  go_cut [8] (fun _ wx => ∃ X, AsBut m X ino ∧ Blk wx g7 28 (mapC X) ∧ Blk wx g3 28 (mapC m) ∧ Blk wx g4 28 (mapC other) ∧ Below w.heap.size w wx)
  case first =>
    obtain ⟨N, hN⟩ : ∃ N, N = T % 9 := ⟨_, rfl⟩
    have eN : IntKind.i64.wrap ((T : Int) % 9) = (T : Int) % 9 := IntWalk.i64_in _ (by omega)
    have hN9 : N < 9 := by omega
    go_wp2_with fail
    go_loopw [8] (fun i wr => ∃ j : Nat, j ≤ N ∧ i = .int .i64 (j : Int) ∧ ∃ X, AsBut m X ino ∧ Blk wr g7 28 (mapC X) ∧ Blk wr g3 28 (mapC m) ∧ Blk wr g4 28 (mapC other) ∧ Below w.heap.size w wr) (fun i _ => 9 - (intOf i).toNat)
    case atStart => exact ⟨0, Nat.zero_le _, rfl, m, ⟨H40.out, fun _ _ => rfl⟩, B7.out, B3.out, B4.out, hb.out⟩
    case round =>
      obtain ⟨j, hj, rfl, X, hX, b7, b3, b4, hbr⟩ := hrel
      clear B7 B3 B4 hb
      replace b7 := hide b7; replace b3 := hide b3; replace b4 := hide b4; replace hbr := hide hbr
      by_cases hlt : j < N
      · obtain ⟨Y, ge, hg⟩ : ∃ Y ge, giveM X ino = (Y, ge) := ⟨_, _, rfl⟩
        have CG := fun w => give_any X ino hX.1 w
        rw [hg] at CG
        have YL := hide (mapC_size (show Y.length = 40 by have := giveM_len hX.1 ino; rw [hg] at this; exact this))
        replace CG := hide CG
        have X40 := hide hX.1
        have XL := hide (mapC_size hX.1)
        by_cases he : ge = 0
        · subst he
          have hY := hX.give hg
          obtain ⟨k, x, rfl, hk, hx, hv1, hv2, hYe⟩ := giveM_ok hX.1 hg
          have hy : Y[k]? = some ⟨x.a, x.s, x.v + 1⟩ := by rw [hYe, List.getElem?_set_self (by rw [hX.1]; exact hk)]
          replace hY := hide hY; replace hX := hide hX; replace hx := hide hx; replace hy := hide hy
          clear hg hYe
          have eb : ((k : Int) < 40) := by omega
          have ev : IntKind.i64.wrap (x.v + 1) = x.v + 1 := IntWalk.i64_in _ (by omega)
          go_wp2_with (first
            | ((with_reducible refine load_map (.tmp 7) rfl ?_ g7 X ?_ ?_ XL.out ?_); (next => rfl); (next => rfl); (next => exact b7.out))
            | (go_at_call 13; (with_reducible refine (unhide CG _).mono ?_); rintro e w5 ⟨rfl, hbk⟩; replace hbr := hide (nextB hbr.out hbk); replace b3 := hide (b3.out.below hbk b3.out.lt); replace b4 := hide (b4.out.below hbk b4.out.lt); replace b7 := hide (b7.out.below hbk b7.out.lt); clear hbk)
            | ((with_reducible refine store_map (.tmp 9) _ rfl ?_ w5 Y ?_ ?_ YL.out ?_); (next => rfl); (next => rfl); (next => rfl)))
          have b9 := hide (Blk.new w5 28 (mapC Y))
          replace b3 := hide (b3.out.alloc (.cells (mapC Y) 28)); replace b4 := hide (b4.out.alloc (.cells (mapC Y) 28)); replace b7 := hide (b7.out.alloc (.cells (mapC Y) 28))
          replace hbr := hide (hbr.out.alloc hbr.out.size (.cells (mapC Y) 28))
          generalize (w5.alloc _) = W5 at b3 b4 b7 b9 hbr ⊢
          obtain ⟨g9, hg9⟩ : ∃ g, g = w5.heap.size := ⟨_, rfl⟩
          rw [← hg9] at b9 ⊢
          clear hg9
          have r0 := fun z : Ext W5 => (map_blk_cells (b7.out.below z.h b7.out.lt) hx.out).1
          have r1 := fun z : Ext W5 => (map_blk_cells (b7.out.below z.h b7.out.lt) hx.out).2.1
          have r2 := fun z : Ext W5 => (map_blk_cells (b7.out.below z.h b7.out.lt) hx.out).2.2
          have s0 := fun z : Ext W5 => (map_blk_cells (b9.out.below z.h b9.out.lt) hy.out).1
          have s1 := fun z : Ext W5 => (map_blk_cells (b9.out.below z.h b9.out.lt) hy.out).2.1
          have s2 := fun z : Ext W5 => (map_blk_cells (b9.out.below z.h b9.out.lt) hy.out).2.2
          simp only at s0 s1 s2
          refine wp_region_ext W5 (by kernel_rfl) (by kernel_rfl) (Below.refl _ _) ?_
          repeat (first | go_big_quiet_step ((first | fail)) | quiet_step ((first | fail)))
          refine wpQuiet_nil ?_
          intro wx hw'
          obtain ⟨⟨_, hxx⟩, rfl⟩ := hw'
          clear r0 r1 r2 s0 s1 s2
          replace b3 := hide (b3.out.below hxx b3.out.lt); replace b4 := hide (b4.out.below hxx b4.out.lt); replace b7 := hide (b7.out.below hxx b7.out.lt); replace b9 := hide (b9.out.below hxx b9.out.lt)
          replace hbr := hide (nextB hbr.out hxx)
          go_wp2_with (first
            | ((with_reducible refine load_map (.tmp 9) rfl ?_ g9 Y ?_ ?_ YL.out ?_); (next => rfl); (next => rfl); (next => exact b9.out))
            | ((with_reducible refine store_map_at (.tmp 7) (.tmp 63) rfl ?_ g7 X Y ?_ ?_ b7.out XL.out YL.out ?_); (next => rfl); (next => rfl); (next => rfl)))
          go_roundw
          case rel => exact ⟨j + 1, by omega, by go_num, Y, hY.out, b7.out.row _, b3.out.rowFar n37 _, b4.out.rowFar n47 _, below_setRow hbr.out hg0 _⟩
          case measure => simp [intOf]; omega
        · have he2 : (ge != 0) = true := by simpa using he
          replace hX := hide hX
          clear hg he
          go_wp2_with (first
            | ((with_reducible refine load_map (.tmp 7) rfl ?_ g7 X ?_ ?_ XL.out ?_); (next => rfl); (next => rfl); (next => exact b7.out))
            | (go_at_call 13; (with_reducible refine (unhide CG _).mono ?_); rintro e w5 ⟨rfl, hbk⟩; replace hbr := hide (nextB hbr.out hbk); replace b3 := hide (b3.out.below hbk b3.out.lt); replace b4 := hide (b4.out.below hbk b4.out.lt); replace b7 := hide (b7.out.below hbk b7.out.lt); clear hbk)
            | ((with_reducible refine store_map (.tmp 9) _ rfl ?_ w5 Y ?_ ?_ YL.out ?_); (next => rfl); (next => rfl); (next => rfl)))
          go_meet
          exact ⟨X, hX.out, b7.out.alloc _, b3.out.alloc _, b4.out.alloc _, hbr.out.alloc hbr.out.size _⟩
      · obtain rfl : j = N := by omega
        go_wp2_with fail
        go_meet
        exact ⟨X, hX, b7.out, b3.out, b4.out, hbr.out⟩
  case rest =>
  obtain ⟨X, hX, b7', b3', b4', hbr'⟩ := hcut
  clear B7 B3 B4 hb hz
  replace hX := hide hX
  have B7 := hide b7'; have B3 := hide b3'; have B4 := hide b4'; have hb := hide hbr'
  clear b7' b3' b4' hbr'
  go_wp2_with fail
  go_loopw [11] (fun i wr => ∃ j : Nat, j ≤ 40 ∧ i = .int .i64 (j : Int) ∧ Below wc.heap.size wc wr) (fun i _ => 40 - (intOf i).toNat)
  case atStart => exact ⟨0, by omega, rfl, Below.refl _ _⟩
  case round =>
    obtain ⟨j, hj, rfl, hb2⟩ := hrel
    by_cases hlt : j < 40
    · by_cases hjk : (j : Int) = ino
      · have e1 : ((j : Int) != ino) = false := by simp [hjk]
        clear hjk
        go_wp2_with fail
        refine wp_region_ext wr (by kernel_rfl) (by kernel_rfl) (Below.refl _ _) ?_
        repeat (first | go_big_quiet_step ((first | fail)) | quiet_step ((first | fail)))
        refine wpQuiet_nil ?_
        intro wx hw'
        obtain ⟨⟨_, hx⟩, rfl⟩ := hw'
        go_wp2_with fail
        go_roundw
        case rel => exact ⟨j + 1, by omega, by go_num, nextB hb2 hx⟩
        case measure => simp [intOf]; omega
      · obtain ⟨y, hy⟩ : ∃ y, m[j]? = some y := ⟨_, List.getElem?_eq_getElem (by rw [H40.out]; exact hlt)⟩
        have hy2 : X[j]? = some y := (hX.out.2 j hjk).trans hy
        have e1 : ((j : Int) != ino) = true := by simpa using hjk
        have EQ : ∀ w, (Op.equalIn 10000 26 (.agg #[.int .i64 y.a, .int .u32 (y.s : Int), .int .i64 y.v]) (.agg #[.int .i64 y.a, .int .u32 (y.s : Int), .int .i64 y.v])).run Try.prog w = .ok true w := fun w => by
          have := eqSlot 9997 y y w trivial trivial
          rwa [decide_eq_true rfl] at this
        replace EQ := hide EQ
        replace hy := hide hy; replace hy2 := hide hy2
        have D3 := hide (B3.out.below hb2 B3.out.lt)
        have D7 := hide (B7.out.below hb2 B7.out.lt)
        have q0 := fun x : Ext wr => (map_blk_cells (D3.out.below x.h D3.out.lt) hy.out).1
        have q1 := fun x : Ext wr => (map_blk_cells (D3.out.below x.h D3.out.lt) hy.out).2.1
        have q2 := fun x : Ext wr => (map_blk_cells (D3.out.below x.h D3.out.lt) hy.out).2.2
        have r0 := fun x : Ext wr => (map_blk_cells (D7.out.below x.h D7.out.lt) hy2.out).1
        have r1 := fun x : Ext wr => (map_blk_cells (D7.out.below x.h D7.out.lt) hy2.out).2.1
        have r2 := fun x : Ext wr => (map_blk_cells (D7.out.below x.h D7.out.lt) hy2.out).2.2
        go_wp2_with fail
        refine wp_region_ext wr (by kernel_rfl) (by kernel_rfl) (Below.refl _ _) ?_
        repeat (first | go_big_quiet_step ((first | fail)) | quiet_step ((first | fail)))
        repeat
          refine quiet_neq rfl _ _ _ _ rfl (by kernel_rfl) #[.int .i64 y.a, .int .u32 (y.s : Int), .int .i64 y.v] #[.int .i64 y.a, .int .u32 (y.s : Int), .int .i64 y.v] rfl rfl true (fun w => EQ.out w) ?_
          repeat (first | go_big_quiet_step ((first | fail)) | quiet_step ((first | fail)))
        refine wpQuiet_nil ?_
        intro wx hw'
        obtain ⟨⟨_, hx⟩, rfl⟩ := hw'
        clear q0 q1 q2 r0 r1 r2
        go_wp2_with fail
        go_roundw
        case rel => exact ⟨j + 1, by omega, by go_num, nextB hb2 hx⟩
        case measure => simp [intOf]; omega
    · obtain rfl : j = 40 := by omega
      replace hb := hide (nextB hb.out hb2)
      replace B3 := hide (B3.out.below hb2 B3.out.lt); replace B4 := hide (B4.out.below hb2 B4.out.lt)
      clear hb2 B7 hX hg0 n37 n47
      have CM := fun w => may_any m H40.out w
      have CO := fun w => may_any other HO.out w
      have AW := hide awake_any
      by_cases hm : mayM m
      · rw [decide_eq_true hm] at CM
        replace CM := hide CM; replace hm := hide hm
        by_cases ho : mayM other
        · rw [decide_eq_true ho] at CO
          replace CO := hide CO; replace ho := hide ho
          go_wp2_with (first
            | ((with_reducible refine load_map_g (.tmp 3) rfl ?_ g3 m ?_ ?_ Z40.out ?_); (next => rfl); (next => rfl); (next => exact B3.out))
            | ((with_reducible refine load_map_g (.tmp 4) rfl ?_ g4 other ?_ ?_ O40.out ?_); (next => rfl); (next => rfl); (next => exact B4.out))
            | (go_at_call 18; (with_reducible refine (unhide CM _).mono ?_); rintro e w5 ⟨rfl, hbk⟩; replace hb := hide (nextB hb.out hbk); replace B3 := hide (B3.out.below hbk B3.out.lt); replace B4 := hide (B4.out.below hbk B4.out.lt); clear hbk)
            | (go_at_call 18; (with_reducible refine (unhide CO _).mono ?_); rintro e w6 ⟨rfl, hbk⟩; replace hb := hide (nextB hb.out hbk); replace B3 := hide (B3.out.below hbk B3.out.lt); replace B4 := hide (B4.out.below hbk B4.out.lt); clear hbk))
          clear CM CO
          go_loopw [12, 13] (fun v i wr => ∃ j : Nat, j ≤ 4 ∧ v = .bool (sameB m other j) ∧ i = .int .i64 (j : Int) ∧ Below w6.heap.size w6 wr) (fun _ i _ => 4 - (intOf i).toNat)
          case atStart => exact ⟨0, by omega, by rw [sameB_zero], rfl, Below.refl _ _⟩
          case round =>
            obtain ⟨j, hj, rfl, rfl, hb2⟩ := hrel
            replace hb := hide (nextB hb.out hb2)
            replace B3 := hide (B3.out.below hb2 B3.out.lt); replace B4 := hide (B4.out.below hb2 B4.out.lt)
            replace hb2 := hide hb2
            by_cases hlt : j < 4
            · have CA := fun w => enc_any m (j : Int) H40.out HS.out w
              have CB := fun w => enc_any other (j : Int) HO.out OS.out w
              have ea : encM m (j : Int) = (encB m j, 0) := by unfold encM; rw [if_neg (by simp [hm.out]), if_neg (by omega), Int.toNat_natCast]
              have eo : encM other (j : Int) = (encB other j, 0) := by unfold encM; rw [if_neg (by simp [ho.out]), if_neg (by omega), Int.toNat_natCast]
              rw [ea] at CA; rw [eo] at CB
              have hs := sameB_succ H40.out HO.out hm.out ho.out HS.out OS.out hlt
              clear ea eo
              generalize encB m j = R1 at CA hs
              generalize encB other j = R2 at CB hs
              simp only at CA CB
              obtain ⟨t, ht⟩ : ∃ t, (R1 == R2) = t := ⟨_, rfl⟩
              rw [ht] at hs
              generalize sameB m other j = s at hs ⊢
              replace CA := hide CA; replace CB := hide CB; replace hs := hide hs
              cases s
              all_goals
                go_wp2_with (first
                  | ((with_reducible refine load_map (.tmp 3) rfl ?_ g3 m ?_ ?_ Z40.out ?_); (next => rfl); (next => rfl); (next => exact B3.out))
                  | ((with_reducible refine load_map (.tmp 4) rfl ?_ g4 other ?_ ?_ O40.out ?_); (next => rfl); (next => rfl); (next => exact B4.out))
                  | (go_at_call 19; (with_reducible refine (unhide CA _).mono ?_); rintro e w7 ⟨A7, d7, rfl, r7, hbk⟩; replace r7 := hide (Rd.of_own r7); replace hb2 := hide (hb2.out.trans (hbk.mono hb2.out.size)); replace B4 := hide (B4.out.below hbk B4.out.lt); clear hbk)
                  | (go_at_call 19; (with_reducible refine (unhide CB _).mono ?_); rintro e w8 ⟨A8, d8, rfl, r8, hbk⟩; replace r7 := hide (r7.out.on hbk); replace hb2 := hide (hb2.out.trans (hbk.mono hb2.out.size)); clear hbk; have s7 := run_str (P := Try.prog) (bs := R1) (n := R1.length) (c := d7) 48 9 5 Try.underlying48 Try.underlying5 Try.underlying9 r7.out rfl; have s8 := run_str (P := Try.prog) (bs := R2) (n := R2.length) (c := d8) 48 9 5 Try.underlying48 Try.underlying5 Try.underlying9 (Rd.of_own r8) rfl; replace r8 := hide r8))
                go_roundw
                case rel => exact ⟨j + 1, by omega, by first | (rw [hs.out]; simp; done) | (rw [hs.out, ← ht]; simp; done), by go_num, hb2.out⟩
                case measure => simp [intOf]; omega
            · obtain rfl : j = 4 := by omega
              have CC := fun w => changed_any m other H40.out HO.out w
              have h1 := sameB_eq (m := m) (o := other) H40.out HO.out
              have h2 := sameB_chg hm.out ho.out
              unfold MadeI at CC
              generalize (changedM m other) = L at CC h2
              obtain ⟨n4, hn4⟩ : ∃ n, n = L.length := ⟨_, rfl⟩
              rw [← hn4] at CC h2
              generalize sameB m other 4 = s at h1 h2 ⊢
              have h3 : ((n4 : Int) == 0) = s := by rw [h2]; by_cases h : n4 = 0 <;> simp [h]
              clear h2 hn4
              replace CC := hide CC
              replace h1 := hide h1.symm
              cases s
              all_goals
                go_wp2_with (first
                  | ((with_reducible refine load_map_g (.tmp 3) rfl ?_ g3 m ?_ ?_ Z40.out ?_); (next => rfl); (next => rfl); (next => exact B3.out))
                  | ((with_reducible refine load_map_g (.tmp 4) rfl ?_ g4 other ?_ ?_ O40.out ?_); (next => rfl); (next => rfl); (next => exact B4.out))
                  | ((with_reducible refine eql_map_b (.tmp 120) (.tmp 121) _ rfl ?_ m other ?_ ?_ HO.out H40.out _ h1.out ?_); (next => rfl); (next => rfl); (next => rfl))
                  | (go_at_call 16; (with_reducible refine (unhide CC _).mono ?_); rintro e w7 ⟨A7, d7, rfl, _, _, hbk⟩; replace hb := hide (nextB hb.out hbk); clear hbk)
                  | (go_at_call 15; (with_reducible refine (unhide AW _).mono ?_); rintro e w9 ⟨rfl, hb9⟩))
                go_ret
                exact ⟨rfl, nextB hb.out hb9⟩
        · rw [decide_eq_false ho] at CO
          replace CO := hide CO
          clear ho
          go_wp2_with (first
            | ((with_reducible refine load_map_g (.tmp 3) rfl ?_ g3 m ?_ ?_ Z40.out ?_); (next => rfl); (next => rfl); (next => exact B3.out))
            | ((with_reducible refine load_map_g (.tmp 4) rfl ?_ g4 other ?_ ?_ O40.out ?_); (next => rfl); (next => rfl); (next => exact B4.out))
            | (go_at_call 18; (with_reducible refine (unhide CM _).mono ?_); rintro e w5 ⟨rfl, hbk⟩; replace hb := hide (nextB hb.out hbk); replace B3 := hide (B3.out.below hbk B3.out.lt); replace B4 := hide (B4.out.below hbk B4.out.lt); clear hbk)
            | (go_at_call 18; (with_reducible refine (unhide CO _).mono ?_); rintro e w6 ⟨rfl, hbk⟩; replace hb := hide (nextB hb.out hbk); clear hbk)
            | (go_at_call 15; (with_reducible refine (unhide AW _).mono ?_); rintro e w9 ⟨rfl, hb9⟩))
          go_ret
          exact ⟨rfl, nextB hb.out hb9⟩
      · rw [decide_eq_false hm] at CM
        replace CM := hide CM
        clear hm CO
        go_wp2_with (first
          | ((with_reducible refine load_map_g (.tmp 3) rfl ?_ g3 m ?_ ?_ Z40.out ?_); (next => rfl); (next => rfl); (next => exact B3.out))
          | (go_at_call 18; (with_reducible refine (unhide CM _).mono ?_); rintro e w5 ⟨rfl, hbk⟩; replace hb := hide (nextB hb.out hbk); clear hbk)
          | (go_at_call 15; (with_reducible refine (unhide AW _).mono ?_); rintro e w9 ⟨rfl, hb9⟩))
        go_ret
        exact ⟨rfl, nextB hb.out hb9⟩
end Go.Proofs.Ytalcgnjkhnmmiaa
