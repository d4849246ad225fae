/- Layer 13's examples, and few octets. No condition. -/
import Derived.Test.YtboccjdliklifaaCkK
import Derived.Test.YtboccjdliklifaaEl
namespace Go.Proofs.Ytboccjdliklifaa
set_option linter.unusedSimpArgs false
open Go.RowKit

def someK (n : Int) : Ck := ⟨n, 9, 17, [(2, 0), (2, 0), (2, 0), (2, 0)], [0, 0, 0, 0, 0, 0, 0, 0]⟩
set_option maxHeartbeats 1000000 in
theorem some_any (n : Int) (w : World) :
    Calls Try.prog 30 #[.int .i64 n] w fun e w' => e = .returned (.agg (ckC (someK n)).toArray) ∧ Below w.heap.size w w' := by
  have hz := ck_zero
  have B0 := hide ((Blk.new w 28 (ckC ck0).toArray).alloc (.cells #[.int .i64 2, .int .u32 0] 24))
  have zs : (ckC (someK n)).length = 19 := rfl
  have hb := hide (box2 (w := w) (o := .cells (ckC ck0).toArray 28) (o2 := .cells #[.int .i64 2, .int .u32 0] 24))
  go_enter Try.func30, Try.ntmps30
  go_wp2_with (first
    | ((with_reducible refine store_ck (.tmp 2) (.tmp 11) rfl rfl _ ?_ ck0 (someK n) ?_ B0.out ck0_size zs ?_); (next => rfl); (next => rfl)))
  exact bodyPost_ret (results_one rfl _ _ Try.wideCk w.heap.size 0 (ckC (someK n)) rfl zs (blk_from (B0.out.row _))) rfl ⟨rfl, below_setRow hb.out (Nat.le_refl _) _⟩
set_option maxHeartbeats 1000000 in
theorem few_any (A : Option Addr) (n c n' : Nat) (w : World) (hc : n ≤ c) (h : n ≤ 200 ∧ n' = n ∨ 200 < n ∧ n' = 200) :
    Calls Try.prog 7 #[.slice A n c] w fun e w' => e = .returned (.slice A n' c) ∧ w = w' := by
  rcases h with ⟨h, rfl⟩ | ⟨h, rfl⟩
  all_goals
    go_enter Try.func7, Try.ntmps7
    go_wp2_with fail
    go_ret
    exact ⟨rfl, rfl⟩
theorem aw_head : (ckB (someK 4)).take 10 = [99, 107, 112, 116, 0, 0, 0, 0, 0, 4] := by
  have h : (packB (ckN (someK 4) 4 8)).length ≤ 124 := by rw [ckN_bytes rfl rfl]; decide
  have h2 := sealB_take _ h
  unfold ckB
  have h3 : (sealB (packB (ckN (someK 4) 4 8))).take 10 = ((sealB (packB (ckN (someK 4) 4 8))).take 124).take 10 := by rw [List.take_take]; rfl
  rw [h3, h2]
  decide +kernel
theorem aw_zero : heldB (List.replicate 128 0) = false := by decide +kernel
theorem aw_choose : chooseK (List.replicate 128 0) (List.replicate 128 0) = (ck0, 6) := by
  have h : decK (List.replicate 128 0) = (ck0, 5) := by unfold decK; rw [aw_zero]; rfl
  have hp : ∀ m i, pickK m i (List.replicate 128 0) = m := by intro m i; unfold pickK; rw [h]; rw [if_neg (by simp)]
  unfold chooseK
  have : bestK (List.replicate 128 0) (List.replicate 128 0) 2 = ck0 := by show pickK (pickK ck0 0 _) 1 _ = ck0; rw [hp, hp]
  rw [this]
  rfl
set_option maxRecDepth 100000 in
set_option maxHeartbeats 8000000 in
theorem awake_any (w : World) : Calls Try.prog 14 #[] w fun e w' => e = .returned (.bool true) ∧ Below w.heap.size w w' := by
  have S4 := hide (fun w => some_any 4 w)
  have S5 := hide (fun w => some_any 5 w)
  have E := fun w => enc_any (someK 4) rfl rfl (by decide) w
  have hm : encK (someK 4) = (ckB (someK 4), 0) := if_pos (by decide)
  have hl : (ckB (someK 4)).length = 128 := sealB_length _ (by rw [ckN_bytes rfl rfl]; decide)
  have hh := aw_head
  rw [hm] at E
  have P5 := fun w => place_any (someK 5) rfl rfl w
  rw [show placeK (someK 5) = 1 from (if_pos (by decide)).trans rfl] at P5
  generalize ckB (someK 4) = R at E hl hh
  replace E := hide E; replace hh := hide hh; replace hl := hide hl; replace P5 := hide P5
  clear hm
  obtain ⟨zs, Hz, hmk⟩ := run_mk (P := Try.prog) Try.el_u8 .i64 .i64 128 128 128 128 rfl rfl (by decide) (by decide) (by decide)
  have hzr : ∀ {w : World} {g : Nat}, Blk w g 5 zs → Rd w (some ⟨g, 0, none⟩) ((List.replicate 128 (0 : UInt8)).map u8v) := fun h => by have := h.rd; rw [made_one Hz.out] at this; exact this
  have CH := fun (w : World) (g g' : Nat) (h : Blk w g 5 zs) (h' : Blk w g' 5 zs) => choose_any (some ⟨g, 0, none⟩) (some ⟨g', 0, none⟩) 128 128 128 128 (List.replicate 128 0) (List.replicate 128 0) w (hzr h) rfl (by decide) (hzr h') rfl (by decide)
  rw [aw_choose] at CH
  replace CH := hide CH
  have hz := ck_zero
  go_enter Try.func14, Try.ntmps14
  go_upto_region 2 with (first
    | (go_at_call 30; (with_reducible refine (unhide S4 _).mono ?_); rintro e w1 ⟨rfl, hb1⟩; have hb := hide hb1; clear hb1)
    | (go_at_call 12; (with_reducible refine (unhide E _).mono ?_); rintro e w2 ⟨A2, c2, rfl, hr2, hc2, hb2⟩; replace hr2 := hide hr2; replace hb := hide (nextB hb.out hb2); clear hb2))
  refine wp_region_var w2 [28] (by kernel_rfl) (by kernel_rfl) (Below.refl _ _) ?_
  refine var_step (fun v w => ∃ g, v = .slice (some ⟨g, 0, none⟩) 128 128 ∧ Blk w g 5 zs) (fun v w w' h hg => by obtain ⟨g, h1, h2⟩ := h; exact ⟨g, h1, hg.blk h2 (by decide)⟩) ?_ ?_
  · intro x; simp only [List.nil_append, List.cons_append, List.map_cons, List.map_nil, depP, depG, finP, Option.some.injEq, Nat.reduceEqDiff, reduceCtorEq, ↓reduceIte]; simp only [List.filter_cons, List.filter_nil, lookT, Oper.looksAt, Op.operands, Call.operands, List.filterMap_cons, List.filterMap_nil, List.append_nil, List.contains_cons, List.contains_nil, Nat.reduceBEq, Bool.or_false, Bool.false_or, Bool.or_true, Bool.true_or, Bool.false_eq_true, if_true, if_false, withD_nil, withD_det, List.nil_append, List.cons_append, ↓reduceIte, List.push_toArray, List.append_toArray, List.map_cons, List.map_nil, Option.toArray_none, Option.toArray_some, Array.append_empty, List.getElem?_toArray, List.getElem?_cons_succ, List.getElem?_cons_zero, Option.bind_some, Option.toList_some]; unfold rOne; go_wp2_with fail
    exact ⟨box1, _, by simp only [opGot, Array.getD_eq_getD_getElem?, List.getElem?_toArray, List.getElem?_cons_succ, List.getElem?_cons_zero, Option.getD_some], Blk.new _ _ _⟩
  refine var_step (fun v w => ∃ g, v = .slice (some ⟨g, 0, none⟩) 128 128 ∧ Blk w g 5 zs) (fun v w w' h hg => by obtain ⟨g, h1, h2⟩ := h; exact ⟨g, h1, hg.blk h2 (by decide)⟩) ?_ ?_
  · intro x; simp only [List.nil_append, List.cons_append, List.map_cons, List.map_nil, depP, depG, finP, Option.some.injEq, Nat.reduceEqDiff, reduceCtorEq, ↓reduceIte]; simp only [List.filter_cons, List.filter_nil, lookT, Oper.looksAt, Op.operands, Call.operands, List.filterMap_cons, List.filterMap_nil, List.append_nil, List.contains_cons, List.contains_nil, Nat.reduceBEq, Bool.or_false, Bool.false_or, Bool.or_true, Bool.true_or, Bool.false_eq_true, if_true, if_false, withD_nil, withD_det, List.nil_append, List.cons_append, ↓reduceIte, List.push_toArray, List.append_toArray, List.map_cons, List.map_nil, Option.toArray_none, Option.toArray_some, Array.append_empty, List.getElem?_toArray, List.getElem?_cons_succ, List.getElem?_cons_zero, Option.bind_some, Option.toList_some]; unfold rOne; go_wp2_with fail
    exact ⟨box1, _, by simp only [opGot, Array.getD_eq_getD_getElem?, List.getElem?_toArray, List.getElem?_cons_succ, List.getElem?_cons_zero, Option.getD_some], Blk.new _ _ _⟩
  refine var_det (.tuple #[.agg (ckC ck0).toArray, .int .i64 6]) ?_ ?_
  · intro x; simp only [List.nil_append, List.cons_append, List.map_cons, List.map_nil, depP, depG, finP, Option.some.injEq, Nat.reduceEqDiff, reduceCtorEq, ↓reduceIte]; simp only [List.filter_cons, List.filter_nil, lookT, Oper.looksAt, Op.operands, Call.operands, List.filterMap_cons, List.filterMap_nil, List.append_nil, List.contains_cons, List.contains_nil, Nat.reduceBEq, Bool.or_false, Bool.false_or, Bool.or_true, Bool.true_or, Bool.false_eq_true, if_true, if_false, withD_nil, withD_det, List.nil_append, List.cons_append, ↓reduceIte, List.push_toArray, List.append_toArray, List.map_cons, List.map_nil, Option.toArray_none, Option.toArray_some, Array.append_empty, List.getElem?_toArray, List.getElem?_cons_succ, List.getElem?_cons_zero, Option.bind_some, Option.toList_some]; rw [withD_pr]; rintro v ⟨g, rfl, hB⟩; rw [withD_pr]; rintro v ⟨g', rfl, hB'⟩; simp only [withD_det, withD_nil, Act.put, List.setIfInBounds_toArray, List.set_cons_succ, List.set_cons_zero]; unfold rOne
    have C := hide (CH.out x.w g g' hB hB')
    go_wp2_with (go_at_call 16; (with_reducible refine (unhide C).mono ?_); rintro e w3 ⟨rfl, hb3⟩)
    simp only [opGot, Array.getD_eq_getD_getElem?, List.getElem?_toArray, List.getElem?_cons_succ, List.getElem?_cons_zero, Option.getD_some]
  repeat (apply var_det; (intro x; simp only [List.nil_append, List.cons_append, List.map_cons, List.map_nil, depP, depG, finP, Option.some.injEq, Nat.reduceEqDiff, reduceCtorEq, ↓reduceIte]; simp only [List.filter_cons, List.filter_nil, lookT, Oper.looksAt, Op.operands, Call.operands, List.filterMap_cons, List.filterMap_nil, List.append_nil, List.contains_cons, List.contains_nil, Nat.reduceBEq, Bool.or_false, Bool.false_or, Bool.or_true, Bool.true_or, Bool.false_eq_true, if_true, if_false, withD_nil, withD_det, List.nil_append, List.cons_append, ↓reduceIte, List.push_toArray, List.append_toArray, List.map_cons, List.map_nil, Option.toArray_none, Option.toArray_some, Array.append_empty, List.getElem?_toArray, List.getElem?_cons_succ, List.getElem?_cons_zero, Option.bind_some, Option.toList_some]; unfold rOne; go_wp2_with fail; (first | (refine ⟨Below.refl _ _, ?_⟩; simp only [opGot, Array.getD_eq_getD_getElem?, List.getElem?_toArray, List.getElem?_cons_succ, List.getElem?_cons_zero, Option.getD_some]; exact rfl) | (refine ⟨by assumption, ?_⟩; simp only [opGot, Array.getD_eq_getD_getElem?, List.getElem?_toArray, List.getElem?_cons_succ, List.getElem?_cons_zero, Option.getD_some]; exact rfl) | (simp only [opGot, Array.getD_eq_getD_getElem?, List.getElem?_toArray, List.getElem?_cons_succ, List.getElem?_cons_zero, Option.getD_some]; exact rfl))))
  refine var_al 28 19 (ckC ck0).toArray 3 (by simp) rfl ?_ ?_
  · intro y; simp only [List.nil_append, List.cons_append, List.map_cons, List.map_nil, depP, depG, finP, Option.some.injEq, Nat.reduceEqDiff, reduceCtorEq, ↓reduceIte]; simp only [List.filter_cons, List.filter_nil, lookT, Oper.looksAt, Op.operands, Call.operands, List.filterMap_cons, List.filterMap_nil, List.append_nil, List.contains_cons, List.contains_nil, Nat.reduceBEq, Bool.or_false, Bool.false_or, Bool.or_true, Bool.true_or, Bool.false_eq_true, if_true, if_false, withD_nil, withD_det, List.nil_append, List.cons_append, ↓reduceIte, List.push_toArray, List.append_toArray, List.map_cons, List.map_nil, Option.toArray_none, Option.toArray_some, Array.append_empty, List.getElem?_toArray, List.getElem?_cons_succ, List.getElem?_cons_zero, Option.bind_some, Option.toList_some]; unfold rOne; go_wp2_with fail
    exact ⟨by simp only [opGot, Array.getD_eq_getD_getElem?, List.getElem?_toArray, List.getElem?_cons_succ, List.getElem?_cons_zero, Option.getD_some], _, ck0_size, rfl⟩
  refine var_st 3 28 19 (ckC ck0).toArray (by simp) rfl rfl rfl ?_ ?_
  · intro y g cs _ hB hsz; simp only [List.nil_append, List.cons_append, List.map_cons, List.map_nil, depP, depG, finP, Option.some.injEq, Nat.reduceEqDiff, reduceCtorEq, ↓reduceIte]; simp only [List.filter_cons, List.filter_nil, lookT, Oper.looksAt, Op.operands, Call.operands, List.filterMap_cons, List.filterMap_nil, List.append_nil, List.contains_cons, List.contains_nil, Nat.reduceBEq, Bool.or_false, Bool.false_or, Bool.or_true, Bool.true_or, Bool.false_eq_true, if_true, if_false, withD_nil, withD_det, List.nil_append, List.cons_append, ↓reduceIte, List.push_toArray, List.append_toArray, List.map_cons, List.map_nil, Option.toArray_none, Option.toArray_some, Array.append_empty, List.getElem?_toArray, List.getElem?_cons_succ, List.getElem?_cons_zero, Option.bind_some, Option.toList_some]; unfold rOne
    go_wp2_with ((with_reducible refine wpList_store_at (.tmp 3) (.tmp 14) rfl ?_ g _ cs (ckC ck0).toArray ?_ ?_ hB ?_ ?_ (ckC_one _) ?_); (next => rfl); (next => rfl); (next => rfl); (next => exact Try.sizeCk); (next => exact hsz))
    exact ⟨Only.row _ _ _, hB.row _⟩
  repeat (apply var_det; (intro x; simp only [List.nil_append, List.cons_append, List.map_cons, List.map_nil, depP, depG, finP, Option.some.injEq, Nat.reduceEqDiff, reduceCtorEq, ↓reduceIte]; simp only [List.filter_cons, List.filter_nil, lookT, Oper.looksAt, Op.operands, Call.operands, List.filterMap_cons, List.filterMap_nil, List.append_nil, List.contains_cons, List.contains_nil, Nat.reduceBEq, Bool.or_false, Bool.false_or, Bool.or_true, Bool.true_or, Bool.false_eq_true, if_true, if_false, withD_nil, withD_det, List.nil_append, List.cons_append, ↓reduceIte, List.push_toArray, List.append_toArray, List.map_cons, List.map_nil, Option.toArray_none, Option.toArray_some, Array.append_empty, List.getElem?_toArray, List.getElem?_cons_succ, List.getElem?_cons_zero, Option.bind_some, Option.toList_some]; unfold rOne; go_wp2_with fail; (first | (refine ⟨Below.refl _ _, ?_⟩; simp only [opGot, Array.getD_eq_getD_getElem?, List.getElem?_toArray, List.getElem?_cons_succ, List.getElem?_cons_zero, Option.getD_some]; exact rfl) | (refine ⟨by assumption, ?_⟩; simp only [opGot, Array.getD_eq_getD_getElem?, List.getElem?_toArray, List.getElem?_cons_succ, List.getElem?_cons_zero, Option.getD_some]; exact rfl) | (simp only [opGot, Array.getD_eq_getD_getElem?, List.getElem?_toArray, List.getElem?_cons_succ, List.getElem?_cons_zero, Option.getD_some]; exact rfl))))
  refine var_nil rfl ?_
  intro y
  simp only [List.nil_append, List.cons_append, List.map_cons, List.map_nil, depP, depG, finP, Option.some.injEq, Nat.reduceEqDiff, reduceCtorEq, ↓reduceIte]
  rw [withD_pr]; rintro v1 ⟨g1, rfl, hB1⟩
  rw [withD_pr]; rintro v2 ⟨g2, rfl, hB2⟩
  simp only [withD_det, withD_nil, Act.put, List.setIfInBounds_toArray, List.set_cons_succ, List.set_cons_zero]
  rw [withD_pr]; rintro v ⟨g3, rfl, _, B3⟩
  rw [withD_pr]; rintro v _
  simp only [withD_det, withD_nil, Act.put, List.setIfInBounds_toArray, List.set_cons_succ, List.set_cons_zero]
  replace hr2 := hide (hr2.out.on y.h); replace hb := hide (nextB hb.out y.h)
  generalize y.w = W at hr2 hb ⊢
  have s1 := run_str (P := Try.prog) (n := 10) (c := c2) 29 9 5 Try.underlying29 Try.underlying5 Try.underlying9 (bs := R.take 10) (by rw [List.map_take]; exact hr2.out.take 10) (by rw [List.length_take, hl.out]; rfl)
  rw [hh.out] at s1
  have hl2 : ((R.length : Int) == 128) = true := by rw [hl.out]; rfl
  have hc3 : 10 ≤ c2 := by have := hl.out; omega
  clear hc2 hmk hB1 hB2 B3
  go_wp2_with (first
    | (go_at_call 30; (with_reducible refine (unhide S5 _).mono ?_); rintro e w4 ⟨rfl, hb4⟩; replace hb := hide (nextB hb.out hb4); clear hb4)
    | (go_at_call 13; (with_reducible refine (unhide P5 _).mono ?_); rintro e w5 ⟨rfl, hb5⟩; replace hb := hide (nextB hb.out hb5); clear hb5))
  go_ret
  exact ⟨rfl, hb.out⟩
end Go.Proofs.Ytboccjdliklifaa
