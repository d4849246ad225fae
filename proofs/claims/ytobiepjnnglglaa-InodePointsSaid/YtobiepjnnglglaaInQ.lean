/- The pointer to a block; does a pointer point to a block? Contracts. No condition. -/
import Derived.Test.YtobiepjnnglglaaInP
namespace Go.Proofs.Ytobiepjnnglglaa
set_option linter.unusedSimpArgs false
open Go.RowKit
def sumN (bs : List UInt8) : Nat := (crc bs).toNat
def toI (at_ : Int) (bs : List UInt8) : (Int × Nat) × Int := if (1 ≤ at_ ∧ at_ ≤ 2147483647) ∧ bs.length = 128 then ((at_, sumN bs), 0) else ((0, 0), 1)
def pointsI (p : Int × Nat) (bs : List UInt8) : Bool := decide (0 < p.1) && (decide (bs.length = 128) && decide (p.2 = sumN bs))
theorem sum_one (A : Option Addr) (n c : Nat) (bs : List UInt8) (A2 : Option Addr) (w : World) (hA : Rd w A (bs.map u8v)) (hn : bs.length = n) (hm : n ≤ 4294967296) (hA2 : Rd w A2 [.slice A n c]) :
    Calls Try.prog 40 #[.slice A2 1 1] w fun e w' => e = .returned (.int .u32 (sumN bs : Int)) ∧ Below w.heap.size w w' := by
  have := sum_any A2 1 1 [⟨A, n, c, bs⟩] w hA2 rfl (by decide) (by
    intro s hs
    rw [List.mem_singleton] at hs
    subst hs
    exact ⟨hA, hn, hm⟩)
  have e : allOf [(⟨A, n, c, bs⟩ : Sl UInt8)] = bs := by simp [allOf]
  rw [e] at this
  exact this
set_option maxRecDepth 100000 in
set_option maxHeartbeats 4000000 in
theorem to_any (at_ : Int) (A : Option Addr) (n c : Nat) (bs : List UInt8) (w : World) (hA : Rd w A (bs.map u8v)) (hn : bs.length = n) (hm : n ≤ 4294967296) :
    Calls Try.prog 18 #[.int .i64 at_, .slice A n c] w fun e w' => e = .returned (.tuple #[.agg #[.int .i64 (toI at_ bs).1.1, .int .u32 ((toI at_ bs).1.2 : Int)], .int .i64 (toI at_ bs).2]) ∧ Below w.heap.size w w' := by
  have I := fun w => in_any at_ 1 2147483647 w
  have B0 := hide (Blk.new w 24 #[.int .i64 0, .int .u32 0])
  by_cases hi : 1 ≤ at_ ∧ at_ ≤ 2147483647
  · rw [decide_eq_true hi] at I
    replace I := hide I
    by_cases h128 : n = 128
    · subst h128
      rw [show toI at_ bs = ((at_, sumN bs), 0) from if_pos ⟨hi, hn⟩]
      simp only
      have B1 := hide ((Blk.new w 24 #[.int .i64 0, .int .u32 0]).alloc (.cells #[.slice A 128 c] 28))
      have S := hide (sum_one A 128 c bs (some ⟨w.heap.size + 1, 0, none⟩) ((w.alloc (.cells #[.int .i64 0, .int .u32 0] 24)).alloc (.cells #[.slice A 128 c] 28)) ((hA.alloc _).alloc _) hn (by decide) (Blk.new_ (w.alloc (.cells #[.int .i64 0, .int .u32 0] 24)) 28 #[.slice A 128 c] (w.heap.size + 1) (by simp)).rd)
      clear hi hA hn
      go_enter Try.func18, Try.ntmps18
      go_wp2_with (first
        | (go_at_call 25; (with_reducible refine (unhide I _).mono ?_); rintro e w0 ⟨rfl, rfl⟩)
        | (go_at_call 40; (with_reducible refine (unhide S).mono ?_); rintro e w1 ⟨rfl, hb1⟩; have B2 := hide (B1.out.below hb1 B1.out.lt); have hb := hide (nextB box2 hb1); have k0 := B2.out.cell_ 0 _ rfl; have k1 := B2.out.cell_ 1 _ rfl; have f0 := B2.out.frozen 0; have f1 := B2.out.frozen 1; clear hb1))
      exact bodyPost_ret (results_pair rfl _ _ Try.widePtr w.heap.size 0 [.int .i64 at_, .int .u32 (sumN bs : Int)] rfl rfl (blk_from ((B2.out.put 0 _).put 1 _))) rfl ⟨rfl, (hb.out.setCell (Nat.le_refl _) _).setCell (Nat.le_refl _) _⟩
    · rw [show toI at_ bs = ((0, 0), 1) from if_neg (fun h => h128 (hn.symm.trans h.2))]
      simp only
      have h1 : ((n : Int) != 128) = true := by simp; omega
      clear hi hA hn h128
      go_enter Try.func18, Try.ntmps18
      go_wp2_with (go_at_call 25; (with_reducible refine (unhide I _).mono ?_); rintro e w0 ⟨rfl, rfl⟩)
      exact bodyPost_ret (results_pair rfl _ _ Try.widePtr w.heap.size 0 [.int .i64 0, .int .u32 0] rfl rfl (blk_from B0.out)) rfl ⟨rfl, box1⟩
  · rw [decide_eq_false hi] at I
    replace I := hide I
    rw [show toI at_ bs = ((0, 0), 1) from if_neg (fun h => hi h.1)]
    simp only
    clear hi hA hn
    go_enter Try.func18, Try.ntmps18
    go_wp2_with (go_at_call 25; (with_reducible refine (unhide I _).mono ?_); rintro e w0 ⟨rfl, rfl⟩)
    exact bodyPost_ret (results_pair rfl _ _ Try.widePtr w.heap.size 0 [.int .i64 0, .int .u32 0] rfl rfl (blk_from B0.out)) rfl ⟨rfl, box1⟩
set_option maxRecDepth 100000 in
set_option maxHeartbeats 4000000 in
theorem points_any (a : Int) (s : Nat) (A : Option Addr) (n c : Nat) (bs : List UInt8) (w : World) (hA : Rd w A (bs.map u8v)) (hn : bs.length = n) (hm : n ≤ 4294967296) :
    Calls Try.prog 20 #[.agg #[.int .i64 a, .int .u32 (s : Int)], .slice A n c] w fun e w' => e = .returned (.bool (pointsI (a, s) bs)) ∧ Below w.heap.size w w' := by
  have B0 := hide (Blk.new w 24 #[.int .i64 a, .int .u32 (s : Int)])
  have hb := hide (box1 (w := w) (o := .cells #[.int .i64 a, .int .u32 (s : Int)] 24))
  have HA := hide (hA.alloc (.cells #[.int .i64 a, .int .u32 (s : Int)] 24))
  unfold pointsI
  rw [hn]
  by_cases h1 : 0 < a
  · by_cases h2 : n = 128
    · subst h2
      simp only [h1, decide_true, Bool.true_and]
      have S := hide (fun (A2 : Option Addr) (w' : World) (h : Rd w' A (bs.map u8v)) (hA2 : Rd w' A2 [.slice A 128 c]) => sum_one A 128 c bs A2 w' h hn (by decide) hA2)
      generalize sumN bs = t at S ⊢
      clear hA hn
      go_enter Try.func20, Try.ntmps20
      go_upto_region 1 with fail
      generalize (w.alloc _) = W at B0 hb HA ⊢
      have c0 := fun y : Ext W => (B0.out.below y.h B0.out.lt).cell_ 0 _ rfl
      have c1 := fun y : Ext W => (B0.out.below y.h B0.out.lt).cell_ 1 _ rfl
      refine wp_region_var W [] (by kernel_rfl) (by kernel_rfl) (Below.refl _ _) ?_
      repeat (apply var_det; (intro x; simp only [List.nil_append, List.cons_append, List.map_cons, List.map_nil, depP, depG, finP, Option.some.injEq, Nat.reduceEqDiff, reduceCtorEq, ↓reduceIte]; simp only [List.filter_cons, List.filter_nil, lookT, Oper.looksAt, Op.operands, Call.operands, List.filterMap_cons, List.filterMap_nil, List.append_nil, List.contains_cons, List.contains_nil, Nat.reduceBEq, Bool.or_false, Bool.false_or, Bool.or_true, Bool.true_or, Bool.false_eq_true, if_true, if_false, withD_nil, withD_det, List.nil_append, List.cons_append, ↓reduceIte, List.push_toArray, List.append_toArray, List.map_cons, List.map_nil, Option.toArray_none, Option.toArray_some, Array.append_empty, List.getElem?_toArray, List.getElem?_cons_succ, List.getElem?_cons_zero, Option.bind_some, Option.toList_some]; unfold rOne; go_wp2_with fail; (first | (refine ⟨Below.refl _ _, ?_⟩; simp only [opGot, Array.getD_eq_getD_getElem?, List.getElem?_toArray, List.getElem?_cons_succ, List.getElem?_cons_zero, Option.getD_some]; exact rfl) | (refine ⟨by assumption, ?_⟩; simp only [opGot, Array.getD_eq_getD_getElem?, List.getElem?_toArray, List.getElem?_cons_succ, List.getElem?_cons_zero, Option.getD_some]; exact rfl) | (simp only [opGot, Array.getD_eq_getD_getElem?, List.getElem?_toArray, List.getElem?_cons_succ, List.getElem?_cons_zero, Option.getD_some]; exact rfl))))
      refine var_step (fun v w => ∃ g, v = .slice (some ⟨g, 0, none⟩) 1 1 ∧ Blk w g 28 #[.slice A 128 c]) (fun v w w' h hg => by obtain ⟨g, h1, h2⟩ := h; exact ⟨g, h1, hg.blk h2 (by simp)⟩) ?_ ?_
      · intro y; simp only [List.nil_append, List.cons_append, List.map_cons, List.map_nil, depP, depG, finP, Option.some.injEq, Nat.reduceEqDiff, reduceCtorEq, ↓reduceIte]; simp only [List.filter_cons, List.filter_nil, lookT, Oper.looksAt, Op.operands, Call.operands, List.filterMap_cons, List.filterMap_nil, List.append_nil, List.contains_cons, List.contains_nil, Nat.reduceBEq, Bool.or_false, Bool.false_or, Bool.or_true, Bool.true_or, Bool.false_eq_true, if_true, if_false, withD_nil, withD_det, List.nil_append, List.cons_append, ↓reduceIte, List.push_toArray, List.append_toArray, List.map_cons, List.map_nil, Option.toArray_none, Option.toArray_some, Array.append_empty, List.getElem?_toArray, List.getElem?_cons_succ, List.getElem?_cons_zero, Option.bind_some, Option.toList_some]; unfold rOne; go_wp2_with fail
        exact ⟨box1, _, by simp only [opGot, Array.getD_eq_getD_getElem?, List.getElem?_toArray, List.getElem?_cons_succ, List.getElem?_cons_zero, Option.getD_some], Blk.new _ _ _⟩
      refine var_det (.int .u32 (t : Int)) ?_ ?_
      · intro y; simp only [List.nil_append, List.cons_append, List.map_cons, List.map_nil, depP, depG, finP, Option.some.injEq, Nat.reduceEqDiff, reduceCtorEq, ↓reduceIte]; simp only [List.filter_cons, List.filter_nil, lookT, Oper.looksAt, Op.operands, Call.operands, List.filterMap_cons, List.filterMap_nil, List.append_nil, List.contains_cons, List.contains_nil, Nat.reduceBEq, Bool.or_false, Bool.false_or, Bool.or_true, Bool.true_or, Bool.false_eq_true, if_true, if_false, withD_nil, withD_det, List.nil_append, List.cons_append, ↓reduceIte, List.push_toArray, List.append_toArray, List.map_cons, List.map_nil, Option.toArray_none, Option.toArray_some, Array.append_empty, List.getElem?_toArray, List.getElem?_cons_succ, List.getElem?_cons_zero, Option.bind_some, Option.toList_some]; rw [withD_pr]; rintro v ⟨g, rfl, hB⟩; simp only [withD_det, withD_nil, Act.put, List.setIfInBounds_toArray, List.set_cons_succ, List.set_cons_zero]; unfold rOne
        have S2 := hide (S.out (some ⟨g, 0, none⟩) y.w (HA.out.on y.h) hB.rd)
        go_wp2_with (go_at_call 40; (with_reducible refine (unhide S2).mono ?_); rintro e w3 ⟨rfl, hb3⟩)
        first | exact ⟨hb3, by simp only [opGot, Array.getD_eq_getD_getElem?, List.getElem?_toArray, List.getElem?_cons_succ, List.getElem?_cons_zero, Option.getD_some]⟩ | simp only [opGot, Array.getD_eq_getD_getElem?, List.getElem?_toArray, List.getElem?_cons_succ, List.getElem?_cons_zero, Option.getD_some]
      repeat (apply var_det; (intro x; simp only [List.nil_append, List.cons_append, List.map_cons, List.map_nil, depP, depG, finP, Option.some.injEq, Nat.reduceEqDiff, reduceCtorEq, ↓reduceIte]; simp only [List.filter_cons, List.filter_nil, lookT, Oper.looksAt, Op.operands, Call.operands, List.filterMap_cons, List.filterMap_nil, List.append_nil, List.contains_cons, List.contains_nil, Nat.reduceBEq, Bool.or_false, Bool.false_or, Bool.or_true, Bool.true_or, Bool.false_eq_true, if_true, if_false, withD_nil, withD_det, List.nil_append, List.cons_append, ↓reduceIte, List.push_toArray, List.append_toArray, List.map_cons, List.map_nil, Option.toArray_none, Option.toArray_some, Array.append_empty, List.getElem?_toArray, List.getElem?_cons_succ, List.getElem?_cons_zero, Option.bind_some, Option.toList_some]; unfold rOne; go_wp2_with fail; (first | (refine ⟨Below.refl _ _, ?_⟩; simp only [opGot, Array.getD_eq_getD_getElem?, List.getElem?_toArray, List.getElem?_cons_succ, List.getElem?_cons_zero, Option.getD_some]; exact rfl) | (refine ⟨by assumption, ?_⟩; simp only [opGot, Array.getD_eq_getD_getElem?, List.getElem?_toArray, List.getElem?_cons_succ, List.getElem?_cons_zero, Option.getD_some]; exact rfl) | (simp only [opGot, Array.getD_eq_getD_getElem?, List.getElem?_toArray, List.getElem?_cons_succ, List.getElem?_cons_zero, Option.getD_some]; exact rfl))))
      refine var_nil rfl ?_
      intro y
      simp only [List.nil_append, List.cons_append, List.map_cons, List.map_nil, depP, depG, finP, Option.some.injEq, Nat.reduceEqDiff, reduceCtorEq, ↓reduceIte]; simp only [List.filter_cons, List.filter_nil, lookT, Oper.looksAt, Op.operands, Call.operands, List.filterMap_cons, List.filterMap_nil, List.append_nil, List.contains_cons, List.contains_nil, Nat.reduceBEq, Bool.or_false, Bool.false_or, Bool.or_true, Bool.true_or, Bool.false_eq_true, if_true, if_false, withD_nil, withD_det, List.nil_append, List.cons_append, ↓reduceIte, List.push_toArray, List.append_toArray, List.map_cons, List.map_nil, Option.toArray_none, Option.toArray_some, Array.append_empty, List.getElem?_toArray, List.getElem?_cons_succ, List.getElem?_cons_zero, Option.bind_some, Option.toList_some]
      rw [withD_pr]; rintro v1 ⟨g1, rfl, _⟩
      simp only [withD_det, withD_nil, Act.put, List.setIfInBounds_toArray, List.set_cons_succ, List.set_cons_zero]
      replace hb := hide (nextB hb.out y.h)
      generalize y.w = W2 at hb ⊢
      clear c0 c1
      go_wp2_with fail
      go_ret
      refine ⟨ret_bool ?_, hb.out⟩
      rw [Bool.eq_iff_iff]
      simp <;> omega
    · have h3 : ((n : Int) == 128) = false := by simp; omega
      simp only [h1, h2, decide_true, decide_false, Bool.true_and, Bool.false_and]
      clear hA hn
      go_enter Try.func20, Try.ntmps20
      go_upto_region 1 with fail
      generalize (w.alloc _) = W at B0 hb HA ⊢
      have c0 := fun y : Ext W => (B0.out.below y.h B0.out.lt).cell_ 0 _ rfl
      have c1 := fun y : Ext W => (B0.out.below y.h B0.out.lt).cell_ 1 _ rfl
      refine wp_region_ext W (by kernel_rfl) (by kernel_rfl) (Below.refl _ _) ?_
      repeat (first | go_big_quiet_step ((first | fail)) | quiet_step ((first | fail)))
      refine wpQuiet_nil ?_
      intro wx hw'
      obtain ⟨⟨_, hx⟩, rfl⟩ := hw'
      clear c0 c1
      go_wp2_with fail
      go_ret
      exact ⟨rfl, nextB hb.out hx⟩
  · have h3 : decide (0 < a) = false := decide_eq_false h1
    simp only [h3, Bool.false_and]
    clear hA hn h1
    go_enter Try.func20, Try.ntmps20
    go_upto_region 1 with fail
    generalize (w.alloc _) = W at B0 hb HA ⊢
    have c0 := fun y : Ext W => (B0.out.below y.h B0.out.lt).cell_ 0 _ rfl
    have c1 := fun y : Ext W => (B0.out.below y.h B0.out.lt).cell_ 1 _ rfl
    refine wp_region_ext W (by kernel_rfl) (by kernel_rfl) (Below.refl _ _) ?_
    repeat (first | go_big_quiet_step ((first | fail)) | quiet_step ((first | fail)))
    refine wpQuiet_nil ?_
    intro wx hw'
    obtain ⟨⟨_, hx⟩, rfl⟩ := hw'
    clear c0 c1
    go_wp2_with fail
    go_ret
    exact ⟨rfl, nextB hb.out hx⟩
end Go.Proofs.Ytobiepjnnglglaa
