/- A block's inode is read: contract of the program's Decode. No condition. -/
import Derived.Test.YtobiepjnnglglaaInF
namespace Go.Proofs.Ytobiepjnnglglaa
set_option linter.unusedSimpArgs false
open Go.RowKit
def inoAt (b : List UInt8) : Ino := ⟨(numAt b 5 1 : Nat), (numAt b 6 1 : Nat), (numAt b 7 4 : Nat), (numAt b 11 6 : Nat), (numAt b 17 4 : Nat), ptrsB (b.drop 21) 9⟩
/-- a block's inode, the error's number -/
def decI (ino : Int) (b : List UInt8) : Ino × Int :=
  if ¬ (1 ≤ ino ∧ ino ≤ 39) then (ino0, 1) else if heldB b then (if mayIno (inoAt b) ∧ inoB ino (inoAt b) = b then (inoAt b, 0) else (ino0, 3)) else (ino0, 5)
theorem unpackI (b : List UInt8) (h : 21 ≤ b.length) : unpackR b [4, 1, 1, 1, 4, 6, 4] = (0, [numAt b 0 4, numAt b 4 1, numAt b 5 1, numAt b 6 1, numAt b 7 4, numAt b 11 6, numAt b 17 4]) := by
  have h1 : okW [4, 1, 1, 1, 4, 6, 4] = true := by decide
  have h2 : sumW [4, 1, 1, 1, 4, 6, 4] = 21 := by decide
  rw [unpackR, if_pos h1, if_pos (by rw [h2]; omega)]
  simp [nums, numAt, List.drop_drop]
theorem GV.own {w0 w w' : World} {VT : List TypeId} {base e z n m c : Nat} {A : Option Addr} {xs : List Value} (h : GV w0 VT w w') (ho : w.ownsRow base e z (.slice A n c) m xs) (ht : e ∉ VT) : w'.ownsRow base e z (.slice A n c) m xs := by
  obtain ⟨hl, ho⟩ := ho
  rcases ho with h1 | ⟨g, cap, cur, h1, h2, h3, h4⟩
  · exact ⟨hl, .inl h1⟩
  · exact ⟨hl, .inr ⟨g, cap, cur, h1, h2, h.2 g _ h3 (by rintro cs t fr e'; cases e'; exact ht), h4⟩⟩
theorem wpList_toArray {P : Program} {w : World} {ops : Array Oper} {rest : List Oper} {o : Oper} {a : Act} {Q : Exit → Act → World → Prop} (x : Operand) {t : TypeId} (ho : o.op = .sliceToArrayPointer t x) (hgd : o.guard = none) {n : Nat} {e : TypeId} (ht : P.underlying t = some (.array n e))
    (A : Option Addr) (len cap : Nat) (hx : a.eval x = .slice A len cap) (hn : n ≤ len) (k : wpList P ops Q rest (a.put o.dst (.pointer A)) w) : wpList P ops Q (o :: rest) a w := by
  refine wpList_run hgd _ ?_ k
  have h1 : ¬ len < n := by omega
  simp [execOp, ho, hx, Instr.arrayAt, Sem.run_bind, run_underlying ht w, h1, Result.andThen]
theorem wpList_built_parts {P : Program} {w : World} {ops : Array Oper} {rest : List Oper} {o : Oper} {a : Act} {Q : Exit → Act → World → Prop} {t : TypeId} {parts : Array (Nat × Operand)} (ho : o.op = .build t parts) (hgd : o.guard = none)
    (vals : List (Nat × Value)) (hv : parts.toList.map (fun p => (p.1, a.eval p.2)) = vals) (cs : Array Value) (hb : P.built t vals = some cs) (h : wpList P ops Q rest (a.put o.dst (.agg cs)) w) : wpList P ops Q (o :: rest) a w := by
  have hv' : (parts.map fun (i, x) => (i, a.eval x)).toList = vals := by rw [Array.toList_map]; exact hv
  refine wpList_build hgd t parts ho (by rw [hv', hb]; rfl) ?_
  rw [hv', hb]
  exact h
theorem ino_build9 (n1 n2 n3 n4 n5 : Int) (p0 p1 p2 p3 p4 p5 p6 p7 p8 : Int × Nat) : Try.prog.built 27 [(0, .int .i64 n1), (1, .int .i64 n2), (2, .int .i64 n3), (3, .int .i64 n4), (4, .int .i64 n5), (5, .agg ([p0, p1, p2, p3, p4, p5, p6, p7, p8].flatMap ptrC).toArray)] = some (inoC ⟨n1, n2, n3, n4, n5, [p0, p1, p2, p3, p4, p5, p6, p7, p8]⟩).toArray := by kernel_rfl
theorem ino_build (n1 n2 n3 n4 n5 : Int) (L : List (Int × Nat)) (h : L.length = 9) : Try.prog.built 27 [(0, .int .i64 n1), (1, .int .i64 n2), (2, .int .i64 n3), (3, .int .i64 n4), (4, .int .i64 n5), (5, .agg (L.flatMap ptrC).toArray)] = some (inoC ⟨n1, n2, n3, n4, n5, L⟩).toArray := by
  match L, h with
  | [p0, p1, p2, p3, p4, p5, p6, p7, p8], _ => exact ino_build9 ..
set_option maxRecDepth 100000 in
set_option maxHeartbeats 8000000 in
theorem dec_held (ino : Int) (A : Option Addr) (n c : Nat) (bs : List UInt8) (w : World) (hi : 1 ≤ ino ∧ ino ≤ 39) (hA : Rd w A (bs.map u8v)) (hn : bs.length = n) (hc : n ≤ c) (hh : heldB bs = true) :
    Calls Try.prog 12 #[.int .i64 ino, .slice A n c] w fun e w' => e = .returned (.tuple #[.agg (inoC (decI ino bs).1).toArray, .int .i64 (decI ino bs).2]) ∧ Below w.heap.size w w' := by
  have h128 := heldK_len hh
  obtain rfl : n = 128 := hn.symm.trans h128
  have he : decI ino bs = if mayIno (inoAt bs) ∧ inoB ino (inoAt bs) = bs then (inoAt bs, 0) else (ino0, 3) := by unfold decI; rw [if_neg (by simp [hi]), if_pos hh]
  obtain ⟨R, hR⟩ : ∃ R, R = decI ino bs := ⟨_, rfl⟩
  rw [← hR]
  have HR := hide (hR.trans he)
  clear hR he
  have I := fun w => in_any ino 1 39 w
  rw [decide_eq_true hi] at I
  replace I := hide I
  obtain ⟨b0, o0, rfl⟩ : ∃ b o, A = some ⟨b, o, none⟩ := by
    rcases hA with h | ⟨b, o, h, _⟩
    · have := congrArg List.length h
      simp [hn] at this
    · exact ⟨b, o, h⟩
  have H := held_any (some ⟨b0, o0, none⟩) 128 c bs (w.alloc (.cells (inoC ino0).toArray 27)) (hA.alloc _) hn hc
  rw [hh] at H
  have Hn := hide hn; have HA := hide hA
  replace H := hide H
  have hz := ino_zero
  have B0 := hide (Blk.new w 27 (inoC ino0).toArray)
  have hU := hide (unpackI bs (by omega))
  have Hi := hide hi
  clear hA hn hh h128 hi
  go_enter Try.func12, Try.ntmps12
  go_upto_region 6 with (first
    | (go_at_call 25; (with_reducible refine (unhide I _).mono ?_); rintro e w0 ⟨rfl, rfl⟩)
    | (go_at_call 31; (with_reducible refine (unhide H).mono ?_); rintro e w1 ⟨rfl, hb1⟩; have B1 := hide (B0.out.below hb1 B0.out.lt); have hb := hide (nextB box1 hb1); clear hb1; have U := unpack_any (some ⟨b0, o0, none⟩) (some ⟨w1.heap.size, 0, none⟩) 128 c 7 7 bs [4, 1, 1, 1, 4, 6, 4] (w1.alloc (.cells #[.int .i64 4, .int .i64 1, .int .i64 1, .int .i64 1, .int .i64 4, .int .i64 6, .int .i64 4] 3)) ((HA.out.on hb.out).alloc _) (Blk.new w1 3 #[.int .i64 4, .int .i64 1, .int .i64 1, .int .i64 1, .int .i64 4, .int .i64 6, .int .i64 4]).rd Hn.out hc rfl (by decide); rw [hU.out] at U; replace U := hide U)
    | (go_at_call 32; (with_reducible refine (unhide U).mono ?_); rintro e w3 ⟨A3, c3, rfl, ho3, hb3⟩))
  obtain ⟨g3, rfl, hg3⟩ := own_some ho3 (by simp)
  have hr3 := Rd.of_own ho3
  have kb3 : Below w1.heap.size w1 w3 := nextB box1 hb3
  replace B1 := hide (B1.out.below kb3 B1.out.lt); replace hb := hide (nextB hb.out kb3)
  have hM0 : inoAt bs = ⟨(numAt bs 5 1 : Nat), (numAt bs 6 1 : Nat), (numAt bs 7 4 : Nat), (numAt bs 11 6 : Nat), (numAt bs 17 4 : Nat), ptrsB (bs.drop 21) 9⟩ := rfl
  have l1 : numAt bs 5 1 < 256 := beN_take _ 1
  have l2 : numAt bs 6 1 < 256 := beN_take _ 1
  have l3 : numAt bs 7 4 < 4294967296 := beN_take _ 4
  have l4 : numAt bs 11 6 < 281474976710656 := beN_take _ 6
  have l5 : numAt bs 17 4 < 4294967296 := beN_take _ 4
  generalize numAt bs 5 1 = n1 at hr3 hM0 l1
  generalize numAt bs 6 1 = n2 at hr3 hM0 l2
  generalize numAt bs 7 4 = n3 at hr3 hM0 l3
  generalize numAt bs 11 6 = n4 at hr3 hM0 l4
  generalize numAt bs 17 4 = n5 at hr3 hM0 l5
  generalize numAt bs 0 4 = m0 at hr3
  generalize numAt bs 4 1 = m1 at hr3
  have Rb := (HA.out.on hb.out).cut (k := 21) (n := 128) (cap := c) (by rw [List.length_map, Hn.out]; exact Nat.le_refl _) hc
  rw [if_neg (by omega), ← List.map_drop] at Rb
  have Rb2 : Rd w3 (some ⟨b0, o0 + 21, none⟩) ((bs.drop 21).map u8v) := by
    have e : Addr.add ⟨b0, o0, none⟩ 21 = ⟨b0, o0 + 21, none⟩ := by unfold Addr.add; rw [if_neg (by omega)]
    simpa [e] using Rb
  have PA : ∀ w', Below w3.heap.size w3 w' → Calls Try.prog 33 #[.slice (some ⟨b0, o0 + 21, none⟩) 107 (c - 21), .int .i64 9] w' fun e w2 => ∃ A c, e = .returned (.slice A 9 c) ∧ w2.ownsRow w'.heap.size 24 2 (.slice A 9 c) 9 ((ptrsB (bs.drop 21) 9).flatMap ptrC) ∧ Below w'.heap.size w' w2 := fun w' h => by
    have := ptrs_any (some ⟨b0, o0 + 21, none⟩) 107 (c - 21) (bs.drop 21) 9 w' (Rb2.on h) (by rw [List.length_drop, Hn.out]) (by omega) (by decide) (by decide) (by decide)
    unfold MadeP at this
    rw [ptrsB_len] at this
    exact this
  have pl := ptrsB_len (bs.drop 21) 9
  have ps := ptrsB_lt (bs.drop 21) 9
  generalize ptrsB (bs.drop 21) 9 = L at PA hM0 pl ps
  have hfl : (L.flatMap ptrC).length = 18 := by rw [flat_length ptrC_len, pl]
  replace hfl := hide hfl; replace pl := hide pl; replace ps := hide ps; replace hM0 := hide hM0; replace PA := hide PA
  have e1 : IntKind.i64.wrap (n1 : Int) = n1 := IntWalk.i64_in _ (by omega)
  have e2 : IntKind.i64.wrap (n2 : Int) = n2 := IntWalk.i64_in _ (by omega)
  have e3 : IntKind.i64.wrap (n3 : Int) = n3 := IntWalk.i64_in _ (by omega)
  have e4 : IntKind.i64.wrap (n4 : Int) = n4 := IntWalk.i64_in _ (by omega)
  have e5 : IntKind.i64.wrap (n5 : Int) = n5 := IntWalk.i64_in _ (by omega)
  have q2 : ∀ z : Ext w3, z.w.cell? ⟨g3, 2, none⟩ = some (.int .u64 (n1 : Int)) := fun z => by have := (hr3.on z.h).cell (k := 2) rfl; rw [Nat.zero_add] at this; exact this
  have q3 : ∀ z : Ext w3, z.w.cell? ⟨g3, 3, none⟩ = some (.int .u64 (n2 : Int)) := fun z => by have := (hr3.on z.h).cell (k := 3) rfl; rw [Nat.zero_add] at this; exact this
  have q4 : ∀ z : Ext w3, z.w.cell? ⟨g3, 4, none⟩ = some (.int .u64 (n3 : Int)) := fun z => by have := (hr3.on z.h).cell (k := 4) rfl; rw [Nat.zero_add] at this; exact this
  have q5 : ∀ z : Ext w3, z.w.cell? ⟨g3, 5, none⟩ = some (.int .u64 (n4 : Int)) := fun z => by have := (hr3.on z.h).cell (k := 5) rfl; rw [Nat.zero_add] at this; exact this
  have q6 : ∀ z : Ext w3, z.w.cell? ⟨g3, 6, none⟩ = some (.int .u64 (n5 : Int)) := fun z => by have := (hr3.on z.h).cell (k := 6) rfl; rw [Nat.zero_add] at this; exact this
  have hc1 : (21 : Int) ≤ 128 ∧ 128 ≤ c := by omega
  clear hr3 ho3 hb3 kb3 U hU H B0 Rb Rb2 l1 l2 l3 l4 l5
  refine wp_region_var w3 [27] (by kernel_rfl) (by kernel_rfl) (Below.refl _ _) ?_
  repeat (apply var_det; (intro x; simp only [List.nil_append, List.cons_append, List.map_cons, List.map_nil, depP, depG, finP, Option.some.injEq, Nat.reduceEqDiff, reduceCtorEq, ↓reduceIte]; simp only [List.filter_cons, List.filter_nil, lookT, Oper.looksAt, Op.operands, Call.operands, List.filterMap_cons, List.filterMap_nil, List.append_nil, List.contains_cons, List.contains_nil, Nat.reduceBEq, Bool.or_false, Bool.false_or, Bool.or_true, Bool.true_or, Bool.false_eq_true, if_true, if_false, withD_nil, withD_det, List.nil_append, List.cons_append, ↓reduceIte, List.push_toArray, List.append_toArray, List.map_cons, List.map_nil, Option.toArray_none, Option.toArray_some, Array.append_empty, List.getElem?_toArray, List.getElem?_cons_succ, List.getElem?_cons_zero, Option.bind_some, Option.toList_some]; unfold rOne; go_wp2_with fail; (first | (refine ⟨Below.refl _ _, ?_⟩; simp only [opGot, Array.getD_eq_getD_getElem?, List.getElem?_toArray, List.getElem?_cons_succ, List.getElem?_cons_zero, Option.getD_some]; exact rfl) | (refine ⟨by assumption, ?_⟩; simp only [opGot, Array.getD_eq_getD_getElem?, List.getElem?_toArray, List.getElem?_cons_succ, List.getElem?_cons_zero, Option.getD_some]; exact rfl) | (simp only [opGot, Array.getD_eq_getD_getElem?, List.getElem?_toArray, List.getElem?_cons_succ, List.getElem?_cons_zero, Option.getD_some]; exact rfl))))
  refine var_step (fun v w => ∃ g c, v = .slice (some ⟨g, 0, none⟩) 9 c ∧ w.ownsRow 0 24 2 (.slice (some ⟨g, 0, none⟩) 9 c) 9 (L.flatMap ptrC)) (fun v w w' h hg => by obtain ⟨g, c, h1, h2⟩ := h; exact ⟨g, c, h1, hg.own h2 (by decide)⟩) ?_ ?_
  · intro y; simp only [List.nil_append, List.cons_append, List.map_cons, List.map_nil, depP, depG, finP, Option.some.injEq, Nat.reduceEqDiff, reduceCtorEq, ↓reduceIte]; simp only [List.filter_cons, List.filter_nil, lookT, Oper.looksAt, Op.operands, Call.operands, List.filterMap_cons, List.filterMap_nil, List.append_nil, List.contains_cons, List.contains_nil, Nat.reduceBEq, Bool.or_false, Bool.false_or, Bool.or_true, Bool.true_or, Bool.false_eq_true, if_true, if_false, withD_nil, withD_det, List.nil_append, List.cons_append, ↓reduceIte, List.push_toArray, List.append_toArray, List.map_cons, List.map_nil, Option.toArray_none, Option.toArray_some, Array.append_empty, List.getElem?_toArray, List.getElem?_cons_succ, List.getElem?_cons_zero, Option.bind_some, Option.toList_some]; unfold rOne
    have PY := hide (PA.out y.w y.h)
    go_wp2_with (go_at_call 33; (with_reducible refine (unhide PY).mono ?_); rintro e w5 ⟨A5, c5, rfl, ho5, hb5⟩)
    obtain ⟨g5, rfl, _⟩ := own_some ho5 (by decide)
    have ho6 : w5.ownsRow 0 24 2 (.slice (some ⟨g5, 0, none⟩) 9 c5) 9 (L.flatMap ptrC) := by
      obtain ⟨hl, ho⟩ := ho5
      rcases ho with h1 | ⟨g, cap, cur, h1, h2, h3⟩
      · exact ⟨hl, .inl h1⟩
      · exact ⟨hl, .inr ⟨g, cap, cur, h1, Nat.zero_le _, h3⟩⟩
    first | exact ⟨hb5, _, _, by simp only [opGot, Array.getD_eq_getD_getElem?, List.getElem?_toArray, List.getElem?_cons_succ, List.getElem?_cons_zero, Option.getD_some], ho6⟩ | exact ⟨_, _, by simp only [opGot, Array.getD_eq_getD_getElem?, List.getElem?_toArray, List.getElem?_cons_succ, List.getElem?_cons_zero, Option.getD_some], ho6⟩
  refine var_step (fun v w => ∃ g c, v = .pointer (some ⟨g, 0, none⟩) ∧ w.ownsRow 0 24 2 (.slice (some ⟨g, 0, none⟩) 9 c) 9 (L.flatMap ptrC)) (fun v w w' h hg => by obtain ⟨g, c, h1, h2⟩ := h; exact ⟨g, c, h1, hg.own h2 (by decide)⟩) ?_ ?_
  · intro y; simp only [List.nil_append, List.cons_append, List.map_cons, List.map_nil, depP, depG, finP, Option.some.injEq, Nat.reduceEqDiff, reduceCtorEq, ↓reduceIte]; simp only [List.filter_cons, List.filter_nil, lookT, Oper.looksAt, Op.operands, Call.operands, List.filterMap_cons, List.filterMap_nil, List.append_nil, List.contains_cons, List.contains_nil, Nat.reduceBEq, Bool.or_false, Bool.false_or, Bool.or_true, Bool.true_or, Bool.false_eq_true, if_true, if_false, withD_nil, withD_det, List.nil_append, List.cons_append, ↓reduceIte, List.push_toArray, List.append_toArray, List.map_cons, List.map_nil, Option.toArray_none, Option.toArray_some, Array.append_empty, List.getElem?_toArray, List.getElem?_cons_succ, List.getElem?_cons_zero, Option.bind_some, Option.toList_some]; rw [withD_pr]; rintro v ⟨g, c', rfl, hO⟩; simp only [withD_det, withD_nil, Act.put, List.setIfInBounds_toArray, List.set_cons_succ, List.set_cons_zero]; unfold rOne
    go_wp2_with ((with_reducible refine wpList_toArray (.tmp 49) rfl ?_ Try.arrP9 (some ⟨g, 0, none⟩) 9 c' ?_ (Nat.le_refl _) ?_); (next => rfl); (next => rfl))
    exact ⟨Below.refl _ _, _, by simp only [opGot, Array.getD_eq_getD_getElem?, List.getElem?_toArray, List.getElem?_cons_succ, List.getElem?_cons_zero, Option.getD_some], _, hO⟩
  refine var_det (.agg (L.flatMap ptrC).toArray) ?_ ?_
  · intro y; simp only [List.nil_append, List.cons_append, List.map_cons, List.map_nil, depP, depG, finP, Option.some.injEq, Nat.reduceEqDiff, reduceCtorEq, ↓reduceIte]; simp only [List.filter_cons, List.filter_nil, lookT, Oper.looksAt, Op.operands, Call.operands, List.filterMap_cons, List.filterMap_nil, List.append_nil, List.contains_cons, List.contains_nil, Nat.reduceBEq, Bool.or_false, Bool.false_or, Bool.or_true, Bool.true_or, Bool.false_eq_true, if_true, if_false, withD_nil, withD_det, List.nil_append, List.cons_append, ↓reduceIte, List.push_toArray, List.append_toArray, List.map_cons, List.map_nil, Option.toArray_none, Option.toArray_some, Array.append_empty, List.getElem?_toArray, List.getElem?_cons_succ, List.getElem?_cons_zero, Option.bind_some, Option.toList_some]; rw [withD_pr]; rintro v ⟨g, c', rfl, hO⟩; simp only [withD_det, withD_nil, Act.put, List.setIfInBounds_toArray, List.set_cons_succ, List.set_cons_zero]; unfold rOne
    have hRd := hide (Rd.of_own hO)
    go_wp2_with ((with_reducible refine wpList_load_at (.tmp 50) rfl ?_ Try.wideP9 g 0 ?_ (L.flatMap ptrC) hfl.out ?_ ?_); (next => rfl); (next => rfl); (next => intro j u hu; exact hRd.out.cell hu))
    exact ⟨Below.refl _ _, by simp only [opGot, Array.getD_eq_getD_getElem?, List.getElem?_toArray, List.getElem?_cons_succ, List.getElem?_cons_zero, Option.getD_some]⟩
  refine var_det (.agg (inoC ⟨(n1 : Int), (n2 : Int), (n3 : Int), (n4 : Int), (n5 : Int), L⟩).toArray) ?_ ?_
  · intro y; simp only [List.nil_append, List.cons_append, List.map_cons, List.map_nil, depP, depG, finP, Option.some.injEq, Nat.reduceEqDiff, reduceCtorEq, ↓reduceIte]; simp only [List.filter_cons, List.filter_nil, lookT, Oper.looksAt, Op.operands, Call.operands, List.filterMap_cons, List.filterMap_nil, List.append_nil, List.contains_cons, List.contains_nil, Nat.reduceBEq, Bool.or_false, Bool.false_or, Bool.or_true, Bool.true_or, Bool.false_eq_true, if_true, if_false, withD_nil, withD_det, List.nil_append, List.cons_append, ↓reduceIte, List.push_toArray, List.append_toArray, List.map_cons, List.map_nil, Option.toArray_none, Option.toArray_some, Array.append_empty, List.getElem?_toArray, List.getElem?_cons_succ, List.getElem?_cons_zero, Option.bind_some, Option.toList_some]; (try simp only [withD_det, withD_nil, Act.put, List.setIfInBounds_toArray, List.set_cons_succ, List.set_cons_zero]); unfold rOne
    go_wp2_with ((with_reducible refine wpList_built_parts rfl ?_ [(0, .int .i64 (n1 : Int)), (1, .int .i64 (n2 : Int)), (2, .int .i64 (n3 : Int)), (3, .int .i64 (n4 : Int)), (4, .int .i64 (n5 : Int)), (5, .agg (L.flatMap ptrC).toArray)] ?_ _ (ino_build _ _ _ _ _ _ pl.out) ?_); (next => rfl); (next => rfl))
    exact ⟨Below.refl _ _, by simp only [opGot, Array.getD_eq_getD_getElem?, List.getElem?_toArray, List.getElem?_cons_succ, List.getElem?_cons_zero, Option.getD_some]⟩
  refine var_al 27 23 (inoC ⟨(n1 : Int), (n2 : Int), (n3 : Int), (n4 : Int), (n5 : Int), L⟩).toArray 8 (by simp) rfl ?_ ?_
  · intro y; simp only [List.nil_append, List.cons_append, List.map_cons, List.map_nil, depP, depG, finP, Option.some.injEq, Nat.reduceEqDiff, reduceCtorEq, ↓reduceIte]; simp only [List.filter_cons, List.filter_nil, lookT, Oper.looksAt, Op.operands, Call.operands, List.filterMap_cons, List.filterMap_nil, List.append_nil, List.contains_cons, List.contains_nil, Nat.reduceBEq, Bool.or_false, Bool.false_or, Bool.or_true, Bool.true_or, Bool.false_eq_true, if_true, if_false, withD_nil, withD_det, List.nil_append, List.cons_append, ↓reduceIte, List.push_toArray, List.append_toArray, List.map_cons, List.map_nil, Option.toArray_none, Option.toArray_some, Array.append_empty, List.getElem?_toArray, List.getElem?_cons_succ, List.getElem?_cons_zero, Option.bind_some, Option.toList_some]; unfold rOne; go_wp2_with fail
    exact ⟨by simp only [opGot, Array.getD_eq_getD_getElem?, List.getElem?_toArray, List.getElem?_cons_succ, List.getElem?_cons_zero, Option.getD_some], _, ino0_size, rfl⟩
  have hZ : Hid ((inoC ⟨(n1 : Int), (n2 : Int), (n3 : Int), (n4 : Int), (n5 : Int), L⟩).length = 23) := hide (inoC_len pl.out)
  refine var_st 8 27 23 (inoC ⟨(n1 : Int), (n2 : Int), (n3 : Int), (n4 : Int), (n5 : Int), L⟩).toArray (by simp) rfl rfl (by rw [List.size_toArray]; exact inoC_len pl.out) ?_ ?_
  · intro y g cs _ hB hsz; simp only [List.nil_append, List.cons_append, List.map_cons, List.map_nil, depP, depG, finP, Option.some.injEq, Nat.reduceEqDiff, reduceCtorEq, ↓reduceIte]; simp only [List.filter_cons, List.filter_nil, lookT, Oper.looksAt, Op.operands, Call.operands, List.filterMap_cons, List.filterMap_nil, List.append_nil, List.contains_cons, List.contains_nil, Nat.reduceBEq, Bool.or_false, Bool.false_or, Bool.or_true, Bool.true_or, Bool.false_eq_true, if_true, if_false, withD_nil, withD_det, List.nil_append, List.cons_append, ↓reduceIte, List.push_toArray, List.append_toArray, List.map_cons, List.map_nil, Option.toArray_none, Option.toArray_some, Array.append_empty, List.getElem?_toArray, List.getElem?_cons_succ, List.getElem?_cons_zero, Option.bind_some, Option.toList_some]; unfold rOne
    go_wp2_with ((with_reducible refine wpList_store_at (.tmp 8) (.tmp 52) rfl ?_ g _ cs (inoC ⟨(n1 : Int), (n2 : Int), (n3 : Int), (n4 : Int), (n5 : Int), L⟩).toArray ?_ ?_ hB ?_ ?_ (inoC_one _) ?_); (next => rfl); (next => rfl); (next => rfl); (next => rw [List.size_toArray, hZ.out]; exact Try.sizeIno); (next => exact hsz.trans (by rw [List.size_toArray]; exact hZ.out.symm)))
    exact ⟨Only.row _ _ _, hB.row _⟩
  refine var_nil rfl ?_
  intro y
  simp only [List.nil_append, List.cons_append, List.map_cons, List.map_nil, depP, depG, finP, Option.some.injEq, Nat.reduceEqDiff, reduceCtorEq, ↓reduceIte]; simp only [List.filter_cons, List.filter_nil, lookT, Oper.looksAt, Op.operands, Call.operands, List.filterMap_cons, List.filterMap_nil, List.append_nil, List.contains_cons, List.contains_nil, Nat.reduceBEq, Bool.or_false, Bool.false_or, Bool.or_true, Bool.true_or, Bool.false_eq_true, if_true, if_false, withD_nil, withD_det, List.nil_append, List.cons_append, ↓reduceIte, List.push_toArray, List.append_toArray, List.map_cons, List.map_nil, Option.toArray_none, Option.toArray_some, Array.append_empty, List.getElem?_toArray, List.getElem?_cons_succ, List.getElem?_cons_zero, Option.bind_some, Option.toList_some]
  rw [withD_pr]; rintro v ⟨g49, c49, rfl, _⟩
  try simp only [withD_det]
  rw [withD_pr]; rintro v ⟨g50, c50, rfl, _⟩
  try simp only [withD_det]
  rw [withD_pr]; rintro v ⟨g8, rfl, hg8, B8⟩
  try simp only [withD_det]
  rw [withD_pr]; rintro v _
  simp only [withD_det, withD_nil, Act.put, List.setIfInBounds_toArray, List.set_cons_succ, List.set_cons_zero]
  replace B8 := hide B8
  have n8 : w.heap.size < g8 := by have := B1.out.lt; omega
  replace B1 := hide (B1.out.below y.h B1.out.lt); replace hb := hide (nextB hb.out y.h)
  generalize y.w = W at B8 B1 hb ⊢
  clear q2 q3 q4 q5 q6 e1 e2 e3 e4 e5
  have h9 : (⟨(n1 : Int), (n2 : Int), (n3 : Int), (n4 : Int), (n5 : Int), L⟩ : Ino).ps.length = 9 := pl.out
  have hs : ∀ p ∈ (⟨(n1 : Int), (n2 : Int), (n3 : Int), (n4 : Int), (n5 : Int), L⟩ : Ino).ps, p.2 < 4294967296 := ps.out
  have HR2 := HR.out
  rw [hM0.out] at HR2
  generalize (⟨(n1 : Int), (n2 : Int), (n3 : Int), (n4 : Int), (n5 : Int), L⟩ : Ino) = M at B8 h9 hs HR2
  have E := fun w => enc_any ino M h9 hs w
  have ZM := hide (inoC_len h9)
  clear h9 hs hM0 PA
  by_cases hm : mayIno M
  · have he : encI ino M = (inoB ino M, 0) := if_pos ⟨Hi.out, hm⟩
    rw [he] at E
    replace E := hide E; clear he
    by_cases hq : inoB ino M = bs
    · rw [if_pos ⟨hm, hq⟩] at HR2
      replace HR2 := hide HR2
      replace hq := hide hq; clear hm
      go_wp2_with (first
        | ((with_reducible refine load_ino (.tmp 8) rfl ?_ _ ?_ M B8.out ZM.out ?_); (next => rfl); (next => rfl))
        | (go_at_call 8; (with_reducible refine (unhide E _).mono ?_); rintro e w5 ⟨A3, c3, rfl, ho3, hc3, hb3⟩; replace B1 := hide (B1.out.below hb3 B1.out.lt); replace B8 := hide (B8.out.below hb3 B8.out.lt); replace hb := hide (nextB hb.out hb3); have Q := bytesEq_any A3 _ (inoB ino M).length c3 128 c (inoB ino M) bs w5 ho3 (HA.out.on hb.out) rfl Hn.out; rw [decide_eq_true hq.out] at Q; replace Q := hide Q; clear ho3 hb3)
        | (go_at_call 34; (with_reducible refine (unhide Q).mono ?_); rintro e w6 ⟨rfl, rfl⟩)
        | ((with_reducible refine store_ino (.tmp 4) (.tmp 68) rfl ?_ _ ?_ ino0 M ?_ B1.out ino0_size ZM.out ?_); (next => rfl); (next => rfl); (next => rfl)))
      exact bodyPost_ret (results_pair rfl _ _ Try.wideIno w.heap.size 0 (inoC M) rfl ZM.out (blk_from (B1.out.row _))) rfl ⟨by rw [HR2.out]; rfl, below_setRow hb.out (Nat.le_refl _) _⟩
    · rw [if_neg (fun h => hq h.2)] at HR2
      replace HR2 := hide HR2
      replace hq := hide hq; clear hm
      go_wp2_with (first
        | ((with_reducible refine load_ino (.tmp 8) rfl ?_ _ ?_ M B8.out ZM.out ?_); (next => rfl); (next => rfl))
        | (go_at_call 8; (with_reducible refine (unhide E _).mono ?_); rintro e w5 ⟨A3, c3, rfl, ho3, hc3, hb3⟩; replace B1 := hide (B1.out.below hb3 B1.out.lt); replace hb := hide (nextB hb.out hb3); have Q := bytesEq_any A3 _ (inoB ino M).length c3 128 c (inoB ino M) bs w5 ho3 (HA.out.on hb.out) rfl Hn.out; rw [decide_eq_false hq.out] at Q; replace Q := hide Q; clear ho3 hb3)
        | (go_at_call 34; (with_reducible refine (unhide Q).mono ?_); rintro e w6 ⟨rfl, rfl⟩)
        | ((with_reducible refine wpList_built ?_ _ rfl _ ino_built ?_); (next => rfl))
        | ((with_reducible refine store_ino (.tmp 4) (.tmp 67) rfl ?_ _ ?_ ino0 ino0 ?_ B1.out ino0_size ino0_size ?_); (next => rfl); (next => rfl); (next => rfl)))
      exact bodyPost_ret (results_pair rfl _ _ Try.wideIno w.heap.size 0 (inoC ino0) rfl ino0_size (blk_from (B1.out.row _))) rfl ⟨by rw [HR2.out]; rfl, below_setRow hb.out (Nat.le_refl _) _⟩
  · rw [if_neg (fun h => hm h.1)] at HR2
    replace HR2 := hide HR2
    have he : encI ino M = ([], 1) := if_neg (fun h => hm h.2)
    rw [he] at E
    replace E := hide E; clear he hm
    go_wp2_with (first
      | ((with_reducible refine load_ino (.tmp 8) rfl ?_ _ ?_ M B8.out ZM.out ?_); (next => rfl); (next => rfl))
      | (go_at_call 8; (with_reducible refine (unhide E _).mono ?_); rintro e w5 ⟨A3, c3, rfl, ho3, hc3, hb3⟩; replace B1 := hide (B1.out.below hb3 B1.out.lt); replace hb := hide (nextB hb.out hb3); clear ho3 hb3)
      | ((with_reducible refine wpList_built ?_ _ rfl _ ino_built ?_); (next => rfl))
      | ((with_reducible refine store_ino (.tmp 4) (.tmp 67) rfl ?_ _ ?_ ino0 ino0 ?_ B1.out ino0_size ino0_size ?_); (next => rfl); (next => rfl); (next => rfl)))
    exact bodyPost_ret (results_pair rfl _ _ Try.wideIno w.heap.size 0 (inoC ino0) rfl ino0_size (blk_from (B1.out.row _))) rfl ⟨by rw [HR2.out]; rfl, below_setRow hb.out (Nat.le_refl _) _⟩
set_option maxRecDepth 100000 in
set_option maxHeartbeats 8000000 in
theorem dec_any (ino : Int) (A : Option Addr) (n c : Nat) (bs : List UInt8) (w : World) (hA : Rd w A (bs.map u8v)) (hn : bs.length = n) (hc : n ≤ c) :
    Calls Try.prog 12 #[.int .i64 ino, .slice A n c] w fun e w' => e = .returned (.tuple #[.agg (inoC (decI ino bs).1).toArray, .int .i64 (decI ino bs).2]) ∧ Below w.heap.size w w' := by
  have I := fun w => in_any ino 1 39 w
  have hz := ino_zero
  have B0 := hide (Blk.new w 27 (inoC ino0).toArray)
  by_cases hi : 1 ≤ ino ∧ ino ≤ 39
  · by_cases hh : heldB bs = true
    · exact dec_held ino A n c bs w hi hA hn hc hh
    · rw [Bool.not_eq_true] at hh
      have he : decI ino bs = (ino0, 5) := by unfold decI; rw [if_neg (by simp [hi]), hh]; rfl
      rw [he]
      have H := held_any A n c bs (w.alloc (.cells (inoC ino0).toArray 27)) (hA.alloc _) hn hc
      rw [hh] at H
      rw [decide_eq_true hi] at I
      replace H := hide H; replace I := hide I
      clear he hA hn hh hi
      go_enter Try.func12, Try.ntmps12
      go_wp2_with (first
        | (go_at_call 25; (with_reducible refine (unhide I _).mono ?_); rintro e w0 ⟨rfl, rfl⟩)
        | (go_at_call 31; (with_reducible refine (unhide H).mono ?_); rintro e w1 ⟨rfl, hb1⟩; have B1 := hide (B0.out.below hb1 B0.out.lt); have hb := hide (nextB box1 hb1))
        | ((with_reducible refine wpList_built ?_ _ rfl _ ino_built ?_); (next => rfl))
        | ((with_reducible refine store_ino (.tmp 4) (.tmp 20) rfl ?_ _ ?_ ino0 ino0 ?_ B1.out ino0_size ino0_size ?_); (next => rfl); (next => rfl); (next => rfl)))
      exact bodyPost_ret (results_pair rfl _ _ Try.wideIno w.heap.size 0 (inoC ino0) rfl ino0_size (blk_from (B1.out.row _))) rfl ⟨rfl, below_setRow hb.out (Nat.le_refl _) _⟩
  · have he : decI ino bs = (ino0, 1) := by unfold decI; rw [if_pos hi]
    rw [he]
    rw [decide_eq_false hi] at I
    replace I := hide I
    clear he hA hn hi
    go_enter Try.func12, Try.ntmps12
    go_wp2_with (first
      | (go_at_call 25; (with_reducible refine (unhide I _).mono ?_); rintro e w0 ⟨rfl, rfl⟩)
      | ((with_reducible refine wpList_built ?_ _ rfl _ ino_built ?_); (next => rfl))
      | ((with_reducible refine store_ino (.tmp 4) (.tmp 15) rfl ?_ _ ?_ ino0 ino0 ?_ B0.out ino0_size ino0_size ?_); (next => rfl); (next => rfl); (next => rfl)))
    exact bodyPost_ret (results_pair rfl _ _ Try.wideIno w.heap.size 0 (inoC ino0) rfl ino0_size (blk_from (B0.out.row _))) rfl ⟨rfl, below_setRow box1 (Nat.le_refl _) _⟩
end Go.Proofs.Ytobiepjnnglglaa
