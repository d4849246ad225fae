/- A block's inode by the document's text. No condition. -/
import Derived.Test.YtobiepjnnglglaaInJ
import Derived.Test.YtobiepjnnglglaaGet
namespace Go.Proofs.Ytobiepjnnglglaa
set_option linter.unusedSimpArgs false
open Go.RowKit
def psK (b : List UInt8) : Nat → List (Int × Nat)
  | 0 => [(0, 0), (0, 0), (0, 0), (0, 0), (0, 0), (0, 0), (0, 0), (0, 0), (0, 0)]
  | i + 1 => (psK b i).set i (ptrAt (b.drop 21) i)
theorem psK_len (b : List UInt8) : ∀ i, (psK b i).length = 9
  | 0 => rfl
  | i + 1 => by rw [psK, List.length_set]; exact psK_len b i
def midI (b : List UInt8) (i : Nat) : Ino := ⟨(numAt b 5 1 : Nat), (numAt b 6 1 : Nat), (numAt b 7 4 : Nat), (numAt b 11 6 : Nat), (numAt b 17 4 : Nat), psK b i⟩
theorem midI_all (b : List UInt8) : midI b 9 = inoAt b := rfl
theorem ptrAt_drop (b : List UInt8) (j : Nat) : ptrAt (b.drop 21) j = (((beN ((b.drop (21 + 8 * j)).take 4) : Nat) : Int), beN ((b.drop (25 + 8 * j)).take 4)) := by
  unfold ptrAt numAt
  rw [List.drop_drop, List.drop_drop, show 21 + (8 * j + 4) = 25 + 8 * j by omega]
theorem ino_setp {c : Ino} {i j : Nat} {x x' : Int × Nat} {u : Value} (hx : c.ps[i]? = some x) (hj : j < 2) (he : ptrC x' = (ptrC x).set j u) : (inoC c).set (5 + (i * 2 + j)) u = inoC { c with ps := c.ps.set i x' } := by
  have h := flat_set ptrC_len c.ps i x x' j u hx hj he
  unfold inoC
  rw [List.set_append_right _ _ (by simp [inoH])]
  rw [show 5 + (i * 2 + j) - (inoH c).length = i * 2 + j by simp [inoH], h]
  rfl
theorem numAt_one {b : List UInt8} {p : Nat} {x : UInt8} (h : b[p]? = some x) : numAt b p 1 = x.toNat := by
  have hp := (List.getElem?_eq_some_iff.1 h).1
  have hv := (List.getElem?_eq_some_iff.1 h).2
  unfold numAt
  rw [List.drop_eq_getElem_cons hp, hv]
  simp [beN]
set_option maxRecDepth 100000 in
set_option maxHeartbeats 8000000 in
theorem refDec_held (ino : Int) (hi : 1 ≤ ino ∧ ino ≤ 39) (z : ByteArray) (bs : List UInt8) (hbs : bs = z.data.toList) (w : World) (hn2 : z.size ≤ 4294967296) (hh : heldB bs = true) :
    Calls Try.prog 15 #[.int .i64 ino, .string z] w fun e w' => e = .returned (.tuple #[.agg (inoC (decI ino bs).1).toArray, .int .i64 (decI ino bs).2]) ∧ Below w.heap.size w w' := by
  have H := fun w => refHeld_any z w hn2
  rw [← hbs] at H
  have hz := ino_zero
  have B0 := hide (Blk.new w 27 (inoC ino0).toArray)
  have h128 := heldK_len hh
  have HZ : Hid (z = ⟨bs.toArray⟩) := by subst hbs; exact (rfl : _ = _)
  have Hn : z.size = 128 := by rw [← h128]; subst hbs; exact Array.length_toList.symm
  have G := hide (fun (p n : Nat) (hn : n ≤ 8) (hp : p + n ≤ 128) (w : World) => get_any z p n w hn (by omega) hn2)
  rw [← hbs] at G
  rw [hh] at H
  replace H := hide H
  have he : decI ino bs = if mayIno (inoAt bs) ∧ inoB ino (inoAt bs) = bs then (inoAt bs, 0) else (ino0, 3) := by unfold decI; rw [if_neg (by simp [hi]), if_pos hh]
  obtain ⟨R, hR⟩ : ∃ R, R = decI ino bs := ⟨_, rfl⟩
  rw [← hR]
  have HR := hide (hR.trans he)
  obtain ⟨x5, e5⟩ : ∃ x, z[5]'(by omega) = x := ⟨_, rfl⟩
  obtain ⟨x6, e6⟩ : ∃ x, z[6]'(by omega) = x := ⟨_, rfl⟩
  have hx5 : bs[5]? = some x5 := by rw [hbs, ← e5]; exact bytes_get z 5 (by omega)
  have hx6 : bs[6]? = some x6 := by rw [hbs, ← e6]; exact bytes_get z 6 (by omega)
  have zx5 : z[5]? = some x5 := by rw [← e5]; exact getElem?_pos z 5 (by omega)
  have zx6 : z[6]? = some x6 := by rw [← e6]; exact getElem?_pos z 6 (by omega)
  have t5 := x5.toNat_lt; have t6 := x6.toNat_lt
  have l3 := beN_take (bs.drop 7) 4; have l4 := beN_take (bs.drop 11) 6; have l5 := beN_take (bs.drop 17) 4
  have G1 : ∀ w, Calls Try.prog 39 #[.string z, .int .i64 7, .int .i64 4] w fun e w' => e = .returned (.int .u64 (beN ((bs.drop 7).take 4) : Nat)) ∧ w = w' := G.out 7 4 (by omega) (by omega)
  have G2 : ∀ w, Calls Try.prog 39 #[.string z, .int .i64 11, .int .i64 6] w fun e w' => e = .returned (.int .u64 (beN ((bs.drop 11).take 6) : Nat)) ∧ w = w' := G.out 11 6 (by omega) (by omega)
  have G3 : ∀ w, Calls Try.prog 39 #[.string z, .int .i64 17, .int .i64 4] w fun e w' => e = .returned (.int .u64 (beN ((bs.drop 17).take 4) : Nat)) ∧ w = w' := G.out 17 4 (by omega) (by omega)
  have hM0 : midI bs 0 = ⟨(x5.toNat : Int), (x6.toNat : Int), (beN ((bs.drop 7).take 4) : Nat), (beN ((bs.drop 11).take 6) : Nat), (beN ((bs.drop 17).take 4) : Nat), psK bs 0⟩ := by unfold midI; rw [numAt_one hx5, numAt_one hx6]; rfl
  generalize beN ((bs.drop 7).take 4) = n3 at l3 G1 hM0
  generalize beN ((bs.drop 11).take 6) = n4 at l4 G2 hM0
  generalize beN ((bs.drop 17).take 4) = n5 at l5 G3 hM0
  replace l3 : n3 < 4294967296 := l3
  replace l4 : n4 < 281474976710656 := l4
  replace l5 : n5 < 4294967296 := l5
  replace G1 := hide G1; replace G2 := hide G2; replace G3 := hide G3; replace hM0 := hide hM0
  have i5 : ∀ w : World, (Instr.index 9 (.string z) (.int .i64 5)).run Try.prog w = .ok (.int .u8 (x5.toNat : Int)) w := by intro w; simp [Instr.index, go_sem, zx5]
  have i6 : ∀ w : World, (Instr.index 9 (.string z) (.int .i64 6)).run Try.prog w = .ok (.int .u8 (x6.toNat : Int)) w := by intro w; simp [Instr.index, go_sem, zx6]
  have v5 : wrap64 (x5.toNat : Int) = x5.toNat := by unfold wrap64; omega
  have v6 : wrap64 (x6.toNat : Int) = x6.toNat := by unfold wrap64; omega
  have w5 : IntKind.i64.wrap (x5.toNat : Int) = x5.toNat := IntWalk.i64_in _ (by omega)
  have w6 : IntKind.i64.wrap (x6.toNat : Int) = x6.toNat := IntWalk.i64_in _ (by omega)
  have w3' : IntKind.i64.wrap (n3 : Int) = n3 := IntWalk.i64_in _ (by omega)
  have w4' : IntKind.i64.wrap (n4 : Int) = n4 := IntWalk.i64_in _ (by omega)
  have w5' : IntKind.i64.wrap (n5 : Int) = n5 := IntWalk.i64_in _ (by omega)
  have hi1 := hi.1; have hi2 := hi.2
  have Hi := hide hi
  have HN := hide Hn
  clear hi hbs hh h128 he hR hx5 hx6 e5 e6
  go_enter Try.func15, Try.ntmps15
  go_upto_region 5 with (first
    | (go_at_call 38; (with_reducible refine (unhide H _).mono ?_); rintro e w1 ⟨rfl, hb1⟩; have B1 := hide (B0.out.below hb1 B0.out.lt); have hb := hide (nextB box1 hb1); clear hb1))
  refine wp_region_var w1 [27] (by kernel_rfl) (by kernel_rfl) (Below.refl _ _) ?_
  apply var_det (.string z)
  · intro y; simp only [List.nil_append, List.cons_append, List.map_cons, List.map_nil, depP, depG, finP, Option.some.injEq, Nat.reduceEqDiff, reduceCtorEq, ↓reduceIte]; simp only [List.filter_cons, List.filter_nil, lookT, Oper.looksAt, Op.operands, Call.operands, List.filterMap_cons, List.filterMap_nil, List.append_nil, List.contains_cons, List.contains_nil, Nat.reduceBEq, Bool.or_false, Bool.false_or, Bool.or_true, Bool.true_or, Bool.false_eq_true, if_true, if_false, withD_nil, withD_det, List.nil_append, List.cons_append, ↓reduceIte, List.push_toArray, List.append_toArray, List.map_cons, List.map_nil, Option.toArray_none, Option.toArray_some, Array.append_empty, List.getElem?_toArray, List.getElem?_cons_succ, List.getElem?_cons_zero, Option.bind_some, Option.toList_some]; unfold rOne; go_wp2_with fail; refine ⟨Below.refl _ _, ?_⟩; simp only [opGot, Array.getD_eq_getD_getElem?, List.getElem?_toArray, List.getElem?_cons_succ, List.getElem?_cons_zero, Option.getD_some]
  refine var_det (.int .u8 (x5.toNat : Int)) ?_ ?_
  · intro y; simp only [List.nil_append, List.cons_append, List.map_cons, List.map_nil, depP, depG, finP, Option.some.injEq, Nat.reduceEqDiff, reduceCtorEq, ↓reduceIte]; simp only [List.filter_cons, List.filter_nil, lookT, Oper.looksAt, Op.operands, Call.operands, List.filterMap_cons, List.filterMap_nil, List.append_nil, List.contains_cons, List.contains_nil, Nat.reduceBEq, Bool.or_false, Bool.false_or, Bool.or_true, Bool.true_or, Bool.false_eq_true, if_true, if_false, withD_nil, withD_det, List.nil_append, List.cons_append, ↓reduceIte, List.push_toArray, List.append_toArray, List.map_cons, List.map_nil, Option.toArray_none, Option.toArray_some, Array.append_empty, List.getElem?_toArray, List.getElem?_cons_succ, List.getElem?_cons_zero, Option.bind_some, Option.toList_some]; unfold rOne
    go_wp2_with (with_reducible refine wpList_run rfl _ (i5 _) ?_)
    exact ⟨Below.refl _ _, by simp only [opGot, Array.getD_eq_getD_getElem?, List.getElem?_toArray, List.getElem?_cons_succ, List.getElem?_cons_zero, Option.getD_some]⟩
  refine var_det (.int .i64 (x5.toNat : Int)) ?_ ?_
  · intro y; simp only [List.nil_append, List.cons_append, List.map_cons, List.map_nil, depP, depG, finP, Option.some.injEq, Nat.reduceEqDiff, reduceCtorEq, ↓reduceIte]; simp only [List.filter_cons, List.filter_nil, lookT, Oper.looksAt, Op.operands, Call.operands, List.filterMap_cons, List.filterMap_nil, List.append_nil, List.contains_cons, List.contains_nil, Nat.reduceBEq, Bool.or_false, Bool.false_or, Bool.or_true, Bool.true_or, Bool.false_eq_true, if_true, if_false, withD_nil, withD_det, List.nil_append, List.cons_append, ↓reduceIte, List.push_toArray, List.append_toArray, List.map_cons, List.map_nil, Option.toArray_none, Option.toArray_some, Array.append_empty, List.getElem?_toArray, List.getElem?_cons_succ, List.getElem?_cons_zero, Option.bind_some, Option.toList_some]; unfold rOne; go_wp2_with fail
    refine ⟨Below.refl _ _, ?_⟩
    simp only [opGot, Array.getD_eq_getD_getElem?, List.getElem?_toArray, List.getElem?_cons_succ, List.getElem?_cons_zero, Option.getD_some]
    try rw [v5]
  apply var_det (.string z)
  · intro y; simp only [List.nil_append, List.cons_append, List.map_cons, List.map_nil, depP, depG, finP, Option.some.injEq, Nat.reduceEqDiff, reduceCtorEq, ↓reduceIte]; simp only [List.filter_cons, List.filter_nil, lookT, Oper.looksAt, Op.operands, Call.operands, List.filterMap_cons, List.filterMap_nil, List.append_nil, List.contains_cons, List.contains_nil, Nat.reduceBEq, Bool.or_false, Bool.false_or, Bool.or_true, Bool.true_or, Bool.false_eq_true, if_true, if_false, withD_nil, withD_det, List.nil_append, List.cons_append, ↓reduceIte, List.push_toArray, List.append_toArray, List.map_cons, List.map_nil, Option.toArray_none, Option.toArray_some, Array.append_empty, List.getElem?_toArray, List.getElem?_cons_succ, List.getElem?_cons_zero, Option.bind_some, Option.toList_some]; unfold rOne; go_wp2_with fail; refine ⟨Below.refl _ _, ?_⟩; simp only [opGot, Array.getD_eq_getD_getElem?, List.getElem?_toArray, List.getElem?_cons_succ, List.getElem?_cons_zero, Option.getD_some]
  refine var_det (.int .u8 (x6.toNat : Int)) ?_ ?_
  · intro y; simp only [List.nil_append, List.cons_append, List.map_cons, List.map_nil, depP, depG, finP, Option.some.injEq, Nat.reduceEqDiff, reduceCtorEq, ↓reduceIte]; simp only [List.filter_cons, List.filter_nil, lookT, Oper.looksAt, Op.operands, Call.operands, List.filterMap_cons, List.filterMap_nil, List.append_nil, List.contains_cons, List.contains_nil, Nat.reduceBEq, Bool.or_false, Bool.false_or, Bool.or_true, Bool.true_or, Bool.false_eq_true, if_true, if_false, withD_nil, withD_det, List.nil_append, List.cons_append, ↓reduceIte, List.push_toArray, List.append_toArray, List.map_cons, List.map_nil, Option.toArray_none, Option.toArray_some, Array.append_empty, List.getElem?_toArray, List.getElem?_cons_succ, List.getElem?_cons_zero, Option.bind_some, Option.toList_some]; unfold rOne
    go_wp2_with (with_reducible refine wpList_run rfl _ (i6 _) ?_)
    exact ⟨Below.refl _ _, by simp only [opGot, Array.getD_eq_getD_getElem?, List.getElem?_toArray, List.getElem?_cons_succ, List.getElem?_cons_zero, Option.getD_some]⟩
  refine var_det (.int .i64 (x6.toNat : Int)) ?_ ?_
  · intro y; simp only [List.nil_append, List.cons_append, List.map_cons, List.map_nil, depP, depG, finP, Option.some.injEq, Nat.reduceEqDiff, reduceCtorEq, ↓reduceIte]; simp only [List.filter_cons, List.filter_nil, lookT, Oper.looksAt, Op.operands, Call.operands, List.filterMap_cons, List.filterMap_nil, List.append_nil, List.contains_cons, List.contains_nil, Nat.reduceBEq, Bool.or_false, Bool.false_or, Bool.or_true, Bool.true_or, Bool.false_eq_true, if_true, if_false, withD_nil, withD_det, List.nil_append, List.cons_append, ↓reduceIte, List.push_toArray, List.append_toArray, List.map_cons, List.map_nil, Option.toArray_none, Option.toArray_some, Array.append_empty, List.getElem?_toArray, List.getElem?_cons_succ, List.getElem?_cons_zero, Option.bind_some, Option.toList_some]; unfold rOne; go_wp2_with fail
    refine ⟨Below.refl _ _, ?_⟩
    simp only [opGot, Array.getD_eq_getD_getElem?, List.getElem?_toArray, List.getElem?_cons_succ, List.getElem?_cons_zero, Option.getD_some]
    try rw [v6]
  repeat (apply var_det; (intro x; simp only [List.nil_append, List.cons_append, List.map_cons, List.map_nil, depP, depG, finP, Option.some.injEq, Nat.reduceEqDiff, reduceCtorEq, ↓reduceIte]; simp only [List.filter_cons, List.filter_nil, lookT, Oper.looksAt, Op.operands, Call.operands, List.filterMap_cons, List.filterMap_nil, List.append_nil, List.contains_cons, List.contains_nil, Nat.reduceBEq, Bool.or_false, Bool.false_or, Bool.or_true, Bool.true_or, Bool.false_eq_true, if_true, if_false, withD_nil, withD_det, List.nil_append, List.cons_append, ↓reduceIte, List.push_toArray, List.append_toArray, List.map_cons, List.map_nil, Option.toArray_none, Option.toArray_some, Array.append_empty, List.getElem?_toArray, List.getElem?_cons_succ, List.getElem?_cons_zero, Option.bind_some, Option.toList_some]; unfold rOne; go_wp2_with fail; (first | (refine ⟨Below.refl _ _, ?_⟩; simp only [opGot, Array.getD_eq_getD_getElem?, List.getElem?_toArray, List.getElem?_cons_succ, List.getElem?_cons_zero, Option.getD_some]; exact rfl) | (refine ⟨by assumption, ?_⟩; simp only [opGot, Array.getD_eq_getD_getElem?, List.getElem?_toArray, List.getElem?_cons_succ, List.getElem?_cons_zero, Option.getD_some]; exact rfl) | (simp only [opGot, Array.getD_eq_getD_getElem?, List.getElem?_toArray, List.getElem?_cons_succ, List.getElem?_cons_zero, Option.getD_some]; exact rfl))))
  refine var_det (.int .u64 (n3 : Int)) ?_ ?_
  · intro y; simp only [List.nil_append, List.cons_append, List.map_cons, List.map_nil, depP, depG, finP, Option.some.injEq, Nat.reduceEqDiff, reduceCtorEq, ↓reduceIte]; simp only [List.filter_cons, List.filter_nil, lookT, Oper.looksAt, Op.operands, Call.operands, List.filterMap_cons, List.filterMap_nil, List.append_nil, List.contains_cons, List.contains_nil, Nat.reduceBEq, Bool.or_false, Bool.false_or, Bool.or_true, Bool.true_or, Bool.false_eq_true, if_true, if_false, withD_nil, withD_det, List.nil_append, List.cons_append, ↓reduceIte, List.push_toArray, List.append_toArray, List.map_cons, List.map_nil, Option.toArray_none, Option.toArray_some, Array.append_empty, List.getElem?_toArray, List.getElem?_cons_succ, List.getElem?_cons_zero, Option.bind_some, Option.toList_some]; unfold rOne
    go_wp2_with (go_at_call 39; (with_reducible refine (unhide G1 _).mono ?_); rintro e w2 ⟨rfl, rfl⟩)
    exact ⟨Below.refl _ _, by simp only [opGot, Array.getD_eq_getD_getElem?, List.getElem?_toArray, List.getElem?_cons_succ, List.getElem?_cons_zero, Option.getD_some]⟩
  repeat (apply var_det; (intro x; simp only [List.nil_append, List.cons_append, List.map_cons, List.map_nil, depP, depG, finP, Option.some.injEq, Nat.reduceEqDiff, reduceCtorEq, ↓reduceIte]; simp only [List.filter_cons, List.filter_nil, lookT, Oper.looksAt, Op.operands, Call.operands, List.filterMap_cons, List.filterMap_nil, List.append_nil, List.contains_cons, List.contains_nil, Nat.reduceBEq, Bool.or_false, Bool.false_or, Bool.or_true, Bool.true_or, Bool.false_eq_true, if_true, if_false, withD_nil, withD_det, List.nil_append, List.cons_append, ↓reduceIte, List.push_toArray, List.append_toArray, List.map_cons, List.map_nil, Option.toArray_none, Option.toArray_some, Array.append_empty, List.getElem?_toArray, List.getElem?_cons_succ, List.getElem?_cons_zero, Option.bind_some, Option.toList_some]; unfold rOne; go_wp2_with fail; (first | (refine ⟨Below.refl _ _, ?_⟩; simp only [opGot, Array.getD_eq_getD_getElem?, List.getElem?_toArray, List.getElem?_cons_succ, List.getElem?_cons_zero, Option.getD_some]; exact rfl) | (refine ⟨by assumption, ?_⟩; simp only [opGot, Array.getD_eq_getD_getElem?, List.getElem?_toArray, List.getElem?_cons_succ, List.getElem?_cons_zero, Option.getD_some]; exact rfl) | (simp only [opGot, Array.getD_eq_getD_getElem?, List.getElem?_toArray, List.getElem?_cons_succ, List.getElem?_cons_zero, Option.getD_some]; exact rfl))))
  refine var_det (.int .u64 (n4 : Int)) ?_ ?_
  · intro y; simp only [List.nil_append, List.cons_append, List.map_cons, List.map_nil, depP, depG, finP, Option.some.injEq, Nat.reduceEqDiff, reduceCtorEq, ↓reduceIte]; simp only [List.filter_cons, List.filter_nil, lookT, Oper.looksAt, Op.operands, Call.operands, List.filterMap_cons, List.filterMap_nil, List.append_nil, List.contains_cons, List.contains_nil, Nat.reduceBEq, Bool.or_false, Bool.false_or, Bool.or_true, Bool.true_or, Bool.false_eq_true, if_true, if_false, withD_nil, withD_det, List.nil_append, List.cons_append, ↓reduceIte, List.push_toArray, List.append_toArray, List.map_cons, List.map_nil, Option.toArray_none, Option.toArray_some, Array.append_empty, List.getElem?_toArray, List.getElem?_cons_succ, List.getElem?_cons_zero, Option.bind_some, Option.toList_some]; unfold rOne
    go_wp2_with (go_at_call 39; (with_reducible refine (unhide G2 _).mono ?_); rintro e w2 ⟨rfl, rfl⟩)
    exact ⟨Below.refl _ _, by simp only [opGot, Array.getD_eq_getD_getElem?, List.getElem?_toArray, List.getElem?_cons_succ, List.getElem?_cons_zero, Option.getD_some]⟩
  repeat (apply var_det; (intro x; simp only [List.nil_append, List.cons_append, List.map_cons, List.map_nil, depP, depG, finP, Option.some.injEq, Nat.reduceEqDiff, reduceCtorEq, ↓reduceIte]; simp only [List.filter_cons, List.filter_nil, lookT, Oper.looksAt, Op.operands, Call.operands, List.filterMap_cons, List.filterMap_nil, List.append_nil, List.contains_cons, List.contains_nil, Nat.reduceBEq, Bool.or_false, Bool.false_or, Bool.or_true, Bool.true_or, Bool.false_eq_true, if_true, if_false, withD_nil, withD_det, List.nil_append, List.cons_append, ↓reduceIte, List.push_toArray, List.append_toArray, List.map_cons, List.map_nil, Option.toArray_none, Option.toArray_some, Array.append_empty, List.getElem?_toArray, List.getElem?_cons_succ, List.getElem?_cons_zero, Option.bind_some, Option.toList_some]; unfold rOne; go_wp2_with fail; (first | (refine ⟨Below.refl _ _, ?_⟩; simp only [opGot, Array.getD_eq_getD_getElem?, List.getElem?_toArray, List.getElem?_cons_succ, List.getElem?_cons_zero, Option.getD_some]; exact rfl) | (refine ⟨by assumption, ?_⟩; simp only [opGot, Array.getD_eq_getD_getElem?, List.getElem?_toArray, List.getElem?_cons_succ, List.getElem?_cons_zero, Option.getD_some]; exact rfl) | (simp only [opGot, Array.getD_eq_getD_getElem?, List.getElem?_toArray, List.getElem?_cons_succ, List.getElem?_cons_zero, Option.getD_some]; exact rfl))))
  refine var_det (.int .u64 (n5 : Int)) ?_ ?_
  · intro y; simp only [List.nil_append, List.cons_append, List.map_cons, List.map_nil, depP, depG, finP, Option.some.injEq, Nat.reduceEqDiff, reduceCtorEq, ↓reduceIte]; simp only [List.filter_cons, List.filter_nil, lookT, Oper.looksAt, Op.operands, Call.operands, List.filterMap_cons, List.filterMap_nil, List.append_nil, List.contains_cons, List.contains_nil, Nat.reduceBEq, Bool.or_false, Bool.false_or, Bool.or_true, Bool.true_or, Bool.false_eq_true, if_true, if_false, withD_nil, withD_det, List.nil_append, List.cons_append, ↓reduceIte, List.push_toArray, List.append_toArray, List.map_cons, List.map_nil, Option.toArray_none, Option.toArray_some, Array.append_empty, List.getElem?_toArray, List.getElem?_cons_succ, List.getElem?_cons_zero, Option.bind_some, Option.toList_some]; unfold rOne
    go_wp2_with (go_at_call 39; (with_reducible refine (unhide G3 _).mono ?_); rintro e w2 ⟨rfl, rfl⟩)
    exact ⟨Below.refl _ _, by simp only [opGot, Array.getD_eq_getD_getElem?, List.getElem?_toArray, List.getElem?_cons_succ, List.getElem?_cons_zero, Option.getD_some]⟩
  repeat (apply var_det; (intro x; simp only [List.nil_append, List.cons_append, List.map_cons, List.map_nil, depP, depG, finP, Option.some.injEq, Nat.reduceEqDiff, reduceCtorEq, ↓reduceIte]; simp only [List.filter_cons, List.filter_nil, lookT, Oper.looksAt, Op.operands, Call.operands, List.filterMap_cons, List.filterMap_nil, List.append_nil, List.contains_cons, List.contains_nil, Nat.reduceBEq, Bool.or_false, Bool.false_or, Bool.or_true, Bool.true_or, Bool.false_eq_true, if_true, if_false, withD_nil, withD_det, List.nil_append, List.cons_append, ↓reduceIte, List.push_toArray, List.append_toArray, List.map_cons, List.map_nil, Option.toArray_none, Option.toArray_some, Array.append_empty, List.getElem?_toArray, List.getElem?_cons_succ, List.getElem?_cons_zero, Option.bind_some, Option.toList_some]; unfold rOne; go_wp2_with fail; (first | (refine ⟨Below.refl _ _, ?_⟩; simp only [opGot, Array.getD_eq_getD_getElem?, List.getElem?_toArray, List.getElem?_cons_succ, List.getElem?_cons_zero, Option.getD_some]; exact rfl) | (refine ⟨by assumption, ?_⟩; simp only [opGot, Array.getD_eq_getD_getElem?, List.getElem?_toArray, List.getElem?_cons_succ, List.getElem?_cons_zero, Option.getD_some]; exact rfl) | (simp only [opGot, Array.getD_eq_getD_getElem?, List.getElem?_toArray, List.getElem?_cons_succ, List.getElem?_cons_zero, Option.getD_some]; exact rfl))))
  refine var_al 27 23 (inoC ⟨(x5.toNat : Int), (x6.toNat : Int), (n3 : Int), (n4 : Int), (n5 : Int), psK bs 0⟩).toArray 6 (by simp) rfl ?_ ?_
  · intro y; simp only [List.nil_append, List.cons_append, List.map_cons, List.map_nil, depP, depG, finP, Option.some.injEq, Nat.reduceEqDiff, reduceCtorEq, ↓reduceIte]; simp only [List.filter_cons, List.filter_nil, lookT, Oper.looksAt, Op.operands, Call.operands, List.filterMap_cons, List.filterMap_nil, List.append_nil, List.contains_cons, List.contains_nil, Nat.reduceBEq, Bool.or_false, Bool.false_or, Bool.or_true, Bool.true_or, Bool.false_eq_true, if_true, if_false, withD_nil, withD_det, List.nil_append, List.cons_append, ↓reduceIte, List.push_toArray, List.append_toArray, List.map_cons, List.map_nil, Option.toArray_none, Option.toArray_some, Array.append_empty, List.getElem?_toArray, List.getElem?_cons_succ, List.getElem?_cons_zero, Option.bind_some, Option.toList_some]; unfold rOne; go_wp2_with fail
    exact ⟨by simp only [opGot, Array.getD_eq_getD_getElem?, List.getElem?_toArray, List.getElem?_cons_succ, List.getElem?_cons_zero, Option.getD_some], _, ino0_size, rfl⟩
  refine var_st 6 27 23 (inoC ⟨(x5.toNat : Int), (x6.toNat : Int), (n3 : Int), (n4 : Int), (n5 : Int), psK bs 0⟩).toArray (by simp) rfl rfl rfl ?_ ?_
  · intro y g cs _ hB hsz; simp only [List.nil_append, List.cons_append, List.map_cons, List.map_nil, depP, depG, finP, Option.some.injEq, Nat.reduceEqDiff, reduceCtorEq, ↓reduceIte]; simp only [List.filter_cons, List.filter_nil, lookT, Oper.looksAt, Op.operands, Call.operands, List.filterMap_cons, List.filterMap_nil, List.append_nil, List.contains_cons, List.contains_nil, Nat.reduceBEq, Bool.or_false, Bool.false_or, Bool.or_true, Bool.true_or, Bool.false_eq_true, if_true, if_false, withD_nil, withD_det, List.nil_append, List.cons_append, ↓reduceIte, List.push_toArray, List.append_toArray, List.map_cons, List.map_nil, Option.toArray_none, Option.toArray_some, Array.append_empty, List.getElem?_toArray, List.getElem?_cons_succ, List.getElem?_cons_zero, Option.bind_some, Option.toList_some]; unfold rOne
    go_wp2_with ((with_reducible refine wpList_store_at (.tmp 6) (.tmp 34) rfl ?_ g _ cs (inoC ⟨(x5.toNat : Int), (x6.toNat : Int), (n3 : Int), (n4 : Int), (n5 : Int), psK bs 0⟩).toArray ?_ ?_ hB ?_ ?_ (inoC_one _) ?_); (next => rfl); (next => rfl); (next => rfl); (next => exact Try.sizeIno); (next => exact hsz))
    exact ⟨Only.row _ _ _, hB.row _⟩
  refine var_nil rfl ?_
  intro y
  simp only [List.nil_append, List.cons_append, List.map_cons, List.map_nil, depP, depG, finP, Option.some.injEq, Nat.reduceEqDiff, reduceCtorEq, ↓reduceIte]; simp only [List.filter_cons, List.filter_nil, lookT, Oper.looksAt, Op.operands, Call.operands, List.filterMap_cons, List.filterMap_nil, List.append_nil, List.contains_cons, List.contains_nil, Nat.reduceBEq, Bool.or_false, Bool.false_or, Bool.or_true, Bool.true_or, Bool.false_eq_true, if_true, if_false, withD_nil, withD_det, List.nil_append, List.cons_append, ↓reduceIte, List.push_toArray, List.append_toArray, List.map_cons, List.map_nil, Option.toArray_none, Option.toArray_some, Array.append_empty, List.getElem?_toArray, List.getElem?_cons_succ, List.getElem?_cons_zero, Option.bind_some, Option.toList_some]
  rw [withD_pr]; rintro v ⟨g6, rfl, hg6, B6⟩
  rw [withD_pr]; rintro v _
  simp only [withD_det, withD_nil, Act.put, List.setIfInBounds_toArray, List.set_cons_succ, List.set_cons_zero]
  rw [← hM0.out] at B6
  have n6 : w.heap.size ≠ g6 := by have := B1.out.lt; omega
  have n7 : w.heap.size < g6 := by have := B1.out.lt; omega
  replace B6 := hide B6; replace B1 := hide (B1.out.below y.h B1.out.lt); replace hb := hide (nextB hb.out y.h)
  generalize y.w = W at B6 B1 hb ⊢
  clear w5 w6 w3' w4' w5' l3 l4 l5 zx5 zx6 t5 t6 hM0 G1 G2 G3 B0 H
  go_wp2_with fail
  go_loopw [7] (fun i wr => ∃ j : Nat, j ≤ 9 ∧ i = .int .i64 (j : Int) ∧ Blk wr g6 27 (inoC (midI bs j)).toArray ∧ Blk wr w.heap.size 27 (inoC ino0).toArray ∧ Below w.heap.size w wr) (fun i _ => 9 - (intOf i).toNat)
  case atStart => exact ⟨0, by omega, rfl, B6.out, B1.out, hb.out⟩
  case round =>
    clear B6 B1 hb
    obtain ⟨j, hj, rfl, B6, B1, hb⟩ := hrel
    replace B6 := hide B6; replace B1 := hide B1; replace hb := hide hb
    by_cases hlt : j < 9
    · have G0 := G.out (21 + 8 * j) 4 (by omega) (by omega)
      have G1 := G.out (25 + 8 * j) 4 (by omega) (by omega)
      have hput : psK bs (j + 1) = (psK bs j).set j (((beN ((bs.drop (21 + 8 * j)).take 4) : Nat) : Int), beN ((bs.drop (25 + 8 * j)).take 4)) := by rw [psK, ptrAt_drop]
      have a0 := beN_take (bs.drop (21 + 8 * j)) 4; have s0 := beN_take (bs.drop (25 + 8 * j)) 4
      generalize beN ((bs.drop (21 + 8 * j)).take 4) = a at G0 hput a0
      generalize beN ((bs.drop (25 + 8 * j)).take 4) = s at G1 hput s0
      replace a0 : a < 4294967296 := a0
      replace s0 : s < 4294967296 := s0
      simp only [Int.natCast_add, Int.natCast_mul, Int.cast_ofNat_Int] at G0 G1
      replace G0 := hide G0; replace G1 := hide G1; replace hput := hide hput
      obtain ⟨p, hp⟩ : ∃ p, (psK bs j)[j]? = some p := ⟨_, List.getElem?_eq_getElem (by rw [psK_len]; exact hlt)⟩
      obtain ⟨k0, k1⟩ := ino_ptr (x := midI bs j) hp B6.out
      have f0 := B6.out.frozen (5 + j * 2); have f1 := B6.out.frozen (5 + j * 2 + 1)
      replace hp := hide hp
      go_wp2_with (go_at_call 39; first
        | ((with_reducible refine (unhide G0 _).mono ?_); rintro e w3 ⟨rfl, rfl⟩)
        | ((with_reducible refine (unhide G1 _).mono ?_); rintro e w3 ⟨rfl, rfl⟩))
      go_roundw
      case rel =>
        refine ⟨j + 1, by omega, by go_num, ?_, ?_, ?_⟩
        · have h := ((B6.out.put (5 + j * 2) (.int .i64 (a : Int))).put (5 + j * 2 + 1) (.int .u32 (s : Int)))
          rw [List.setIfInBounds_toArray, List.setIfInBounds_toArray] at h
          have m1 := ino_setp (c := midI bs j) (x' := ((a : Int), p.2)) (u := .int .i64 (a : Int)) hp.out (j := 0) (by omega) rfl
          have m2 := ino_setp (c := { midI bs j with ps := (psK bs j).set j ((a : Int), p.2) }) (i := j) (x := ((a : Int), p.2)) (x' := ((a : Int), s)) (u := .int .u32 (s : Int)) (by simp [psK_len, hlt]) (j := 1) (by omega) rfl
          rw [Nat.add_zero] at m1
          rw [m1, show 5 + j * 2 + 1 = 5 + (j * 2 + 1) by omega] at h
          rw [show (midI bs (j + 1)) = { midI bs j with ps := (psK bs (j + 1)) } from rfl, hput.out]
          have m3 : ((psK bs j).set j ((a : Int), p.2)).set j ((a : Int), s) = (psK bs j).set j ((a : Int), s) := List.set_set ..
          simp only [m3] at m2
          have h2 := h
          unfold midI at h2 m2 ⊢
          simp only at h2 m2 ⊢
          rw [m2] at h2
          exact h2
        · exact ((B1.out.far n6 _).far n6 _)
        · exact ((hb.out.setCell (show w.heap.size ≤ g6 by omega) _).setCell (show w.heap.size ≤ g6 by omega) _)
      case measure => simp [intOf]; omega
    · obtain rfl : j = 9 := by omega
      clear hj hlt
      replace B6 : Hid (Blk wr g6 27 (inoC (inoAt bs)).toArray) := hide B6.out
      have h9 : (inoAt bs).ps.length = 9 := ptrsB_len _ 9
      have hs : ∀ p ∈ (inoAt bs).ps, p.2 < 4294967296 := ptrsB_lt _ 9
      obtain ⟨M, hM⟩ : ∃ M, inoAt bs = M := ⟨_, rfl⟩
      rw [hM] at B6 h9 hs
      have HR2 := HR.out
      rw [hM] at HR2
      have ZM := hide (inoC_len h9)
      have CM := fun w => refMay_any M h9 w
      have E := fun hm w => refEnc_any ino M h9 hs hm w
      clear hM h9 hs
      by_cases hm : mayIno M
      · rw [decide_eq_true hm] at CM
        replace CM := hide CM
        have E := hide (E ⟨Hi.out, hm⟩)
        by_cases hq : inoB ino M = bs
        · rw [if_pos ⟨hm, hq⟩] at HR2
          have hz2 : z = (⟨(inoB ino M).toArray⟩ : ByteArray) := by rw [HZ.out, hq]
          replace HR2 := hide HR2
          replace hz2 := hide hz2; replace hq := hide hq; clear hm
          go_wp2_with (first
            | ((with_reducible refine load_ino (.tmp 6) rfl ?_ _ ?_ M B6.out ZM.out ?_); (next => rfl); (next => rfl))
            | (go_at_call 10; (with_reducible refine (unhide CM _).mono ?_); rintro e w3 ⟨rfl, hb3⟩; replace B1 := hide (B1.out.below hb3 B1.out.lt); replace B6 := hide (B6.out.below hb3 B6.out.lt); replace hb := hide (nextB hb.out hb3); clear hb3)
            | (go_at_call 13; (with_reducible refine (unhide E _).mono ?_); rintro e w3 ⟨rfl, hb3⟩; replace B1 := hide (B1.out.below hb3 B1.out.lt); replace B6 := hide (B6.out.below hb3 B6.out.lt); replace hb := hide (nextB hb.out hb3); clear hb3; rw [← hz2.out])
            | ((with_reducible refine store_ino (.tmp 4) (.tmp 66) rfl ?_ _ ?_ ino0 M ?_ B1.out ino0_size ZM.out ?_); (next => rfl); (next => rfl); (next => rfl)))
          exact bodyPost_ret (results_pair rfl _ _ Try.wideIno w.heap.size 0 (inoC M) rfl ZM.out (blk_from (B1.out.row _))) rfl ⟨by rw [HR2.out]; rfl, below_setRow hb.out (Nat.le_refl _) _⟩
        · rw [if_neg (fun h => hq h.2)] at HR2
          replace HR2 := hide HR2
          have hz3 := HZ.out
          have hq2 : (inoB ino M == bs) = false := by simpa using hq
          replace hq := hide hq; clear hm Hn HN G
          subst hz3
          go_wp2_with (first
            | ((with_reducible refine load_ino (.tmp 6) rfl ?_ _ ?_ M B6.out ZM.out ?_); (next => rfl); (next => rfl))
            | (go_at_call 10; (with_reducible refine (unhide CM _).mono ?_); rintro e w3 ⟨rfl, hb3⟩; replace B1 := hide (B1.out.below hb3 B1.out.lt); replace B6 := hide (B6.out.below hb3 B6.out.lt); replace hb := hide (nextB hb.out hb3); clear hb3)
            | (go_at_call 13; (with_reducible refine (unhide E _).mono ?_); rintro e w3 ⟨rfl, hb3⟩; replace B1 := hide (B1.out.below hb3 B1.out.lt); replace B6 := hide (B6.out.below hb3 B6.out.lt); replace hb := hide (nextB hb.out hb3); clear hb3)
            | ((with_reducible refine wpList_built ?_ _ rfl _ ino_built ?_); (next => rfl))
            | ((with_reducible refine store_ino (.tmp 4) (.tmp 65) rfl ?_ _ ?_ ino0 ino0 ?_ B1.out ino0_size ino0_size ?_); (next => rfl); (next => rfl); (next => rfl)))
          exact bodyPost_ret (results_pair rfl _ _ Try.wideIno w.heap.size 0 (inoC ino0) rfl ino0_size (blk_from (B1.out.row _))) rfl ⟨by rw [HR2.out]; rfl, below_setRow hb.out (Nat.le_refl _) _⟩
      · rw [decide_eq_false hm] at CM
        replace CM := hide CM
        rw [if_neg (fun h => hm h.1)] at HR2
        replace HR2 := hide HR2
        clear E hm
        go_wp2_with (first
          | ((with_reducible refine load_ino (.tmp 6) rfl ?_ _ ?_ M B6.out ZM.out ?_); (next => rfl); (next => rfl))
          | (go_at_call 10; (with_reducible refine (unhide CM _).mono ?_); rintro e w3 ⟨rfl, hb3⟩; replace B1 := hide (B1.out.below hb3 B1.out.lt); replace B6 := hide (B6.out.below hb3 B6.out.lt); replace hb := hide (nextB hb.out hb3); clear hb3)
          | ((with_reducible refine wpList_built ?_ _ rfl _ ino_built ?_); (next => rfl))
          | ((with_reducible refine store_ino (.tmp 4) (.tmp 65) rfl ?_ _ ?_ ino0 ino0 ?_ B1.out ino0_size ino0_size ?_); (next => rfl); (next => rfl); (next => rfl)))
        exact bodyPost_ret (results_pair rfl _ _ Try.wideIno w.heap.size 0 (inoC ino0) rfl ino0_size (blk_from (B1.out.row _))) rfl ⟨by rw [HR2.out]; rfl, below_setRow hb.out (Nat.le_refl _) _⟩
set_option maxRecDepth 100000 in
set_option maxHeartbeats 2000000 in
theorem refDec_any (ino : Int) (z : ByteArray) (bs : List UInt8) (hbs : bs = z.data.toList) (w : World) (hn2 : z.size ≤ 4294967296) :
    Calls Try.prog 15 #[.int .i64 ino, .string z] w fun e w' => e = .returned (.tuple #[.agg (inoC (decI ino bs).1).toArray, .int .i64 (decI ino bs).2]) ∧ Below w.heap.size w w' := by
  have hz := ino_zero
  have B0 := hide (Blk.new w 27 (inoC ino0).toArray)
  by_cases hi : 1 ≤ ino ∧ ino ≤ 39
  · by_cases hh : heldB bs = true
    · exact refDec_held ino hi z bs hbs w hn2 hh
    · rw [Bool.not_eq_true] at hh
      have he : decI ino bs = (ino0, 5) := by unfold decI; rw [if_neg (by simp [hi]), hh]; rfl
      rw [he]
      have H := fun w => refHeld_any z w hn2
      rw [← hbs, hh] at H
      replace H := hide H
      have hi1 := hi.1; have hi2 := hi.2
      clear he hbs hh hi
      go_enter Try.func15, Try.ntmps15
      go_wp2_with (first
        | (go_at_call 38; (with_reducible refine (unhide H _).mono ?_); rintro e w1 ⟨rfl, hb1⟩; have B1 := hide (B0.out.below hb1 B0.out.lt); have hb := hide (nextB box1 hb1))
        | ((with_reducible refine wpList_built ?_ _ rfl _ ino_built ?_); (next => rfl))
        | ((with_reducible refine store_ino (.tmp 4) (.tmp 18) rfl ?_ _ ?_ ino0 ino0 ?_ B1.out ino0_size ino0_size ?_); (next => rfl); (next => rfl); (next => rfl)))
      exact bodyPost_ret (results_pair rfl _ _ Try.wideIno w.heap.size 0 (inoC ino0) rfl ino0_size (blk_from (B1.out.row _))) rfl ⟨rfl, below_setRow hb.out (Nat.le_refl _) _⟩
  · have he : decI ino bs = (ino0, 1) := by unfold decI; rw [if_pos hi]
    rw [he]
    clear he hbs
    rcases (show ino < 1 ∨ (1 ≤ ino ∧ 39 < ino) by omega) with h1 | ⟨h1, h2⟩
    all_goals
      clear hi
      go_enter Try.func15, Try.ntmps15
      go_wp2_with (first
        | ((with_reducible refine wpList_built ?_ _ rfl _ ino_built ?_); (next => rfl))
        | ((with_reducible refine store_ino (.tmp 4) (.tmp 14) rfl ?_ _ ?_ ino0 ino0 ?_ B0.out ino0_size ino0_size ?_); (next => rfl); (next => rfl); (next => rfl)))
      exact bodyPost_ret (results_pair rfl _ _ Try.wideIno w.heap.size 0 (inoC ino0) rfl ino0_size (blk_from (B0.out.row _))) rfl ⟨rfl, below_setRow box1 (Nat.le_refl _) _⟩
end Go.Proofs.Ytobiepjnnglglaa
