/- Layer 5: supers, labels are made. No condition. -/
import Derived.Test.YtfpclheplipjfaaLabA
namespace Go.Proofs.Ytfpclheplipjfaa
set_option linter.unusedSimpArgs false
open Go.RowKit

/-- octets in a slice; octets and an error's number in a pair -/
def SlV (r : List UInt8) (v : Value) (w : World) : Prop := ∃ A c, v = .slice A r.length c ∧ Rd w A (r.map u8v) ∧ r.length ≤ c
def SlE (r : List UInt8 × Int) (v : Value) (w : World) : Prop := ∃ A c, v = .tuple #[.slice A r.1.length c, .int .i64 r.2] ∧ Rd w A (r.1.map u8v) ∧ r.1.length ≤ c
theorem SlV.on {r : List UInt8} {v : Value} {w w' : World} (h : SlV r v w) (hb : Below w.heap.size w w') : SlV r v w' := by
  obtain ⟨A, c, h1, h2, h3⟩ := h; exact ⟨A, c, h1, h2.on hb, h3⟩
theorem SlE.on {r : List UInt8 × Int} {v : Value} {w w' : World} (h : SlE r v w) (hb : Below w.heap.size w w') : SlE r v w' := by
  obtain ⟨A, c, h1, h2, h3⟩ := h; exact ⟨A, c, h1, h2.on hb, h3⟩
/-- a slice of a new block -/
def NewSl (n : Nat) (t : TypeId) (cs : Array Value) (v : Value) (w : World) : Prop := ∃ g, v = .slice (some ⟨g, 0, none⟩) n n ∧ Blk w g t cs
theorem NewSl.on {n : Nat} {t : TypeId} {cs : Array Value} {v : Value} {w w' : World} (h : NewSl n t cs v w) (hb : Below w.heap.size w w') : NewSl n t cs v w' := by
  obtain ⟨g, h1, h2⟩ := h; exact ⟨g, h1, h2.below hb h2.lt⟩
def geoOk (D L V S : Int) : Prop := (-9223372036854775808 ≤ D ∧ D ≤ 9223372036854775807) ∧ (-9223372036854775808 ≤ L ∧ L ≤ 9223372036854775807) ∧ (-9223372036854775808 ≤ V ∧ V ≤ 9223372036854775807) ∧ (-9223372036854775808 ≤ S ∧ S ≤ 9223372036854775807)
def haymS : ByteArray := { data := #[104, 97, 121, 109] }
def hvolS : ByteArray := { data := #[104, 118, 111, 108] }
set_option maxRecDepth 100000 in
set_option maxHeartbeats 4000000 in
theorem super_any (D L V S : Int) (w : World) (ho : geoOk D L V S) :
    Calls Try.prog 7 #[.agg #[.int .i64 D, .int .i64 L, .int .i64 V, .int .i64 S]] w (MadeR w (superR D L V S)) := by
  have C := fun w => may_any D L V S w
  obtain ⟨hD, hL, hV, hS⟩ := ho
  unfold superR
  by_cases h : mayG D L V S
  · rw [if_pos h]
    rw [decide_eq_true h] at C
    have hse := super_sealed h
    have N1 := hide (fun w => num_any 2 D w hD); have N2 := hide (fun w => num_any 2 L w hL); have N3 := hide (fun w => num_any 1 V w hV); have N4 := hide (fun w => num_any 2 S w hS)
    have B0 := hide (Blk.new w 23 #[.int .i64 D, .int .i64 L, .int .i64 V, .int .i64 S])
    generalize numL D = d at N1 hse
    generalize numL L = l at N2 hse
    generalize numL V = v at N3 hse
    generalize numL S = s at N4 hse
    generalize superB D L V S = R at hse ⊢
    have SE := hide (fun (w : World) (g : Nat) (hB : Blk w g 52 ([((2 : Int), d), (2, l), (1, v), (2, s)].flatMap numC).toArray) => show Calls Try.prog 20 #[.string haymS, .slice (some ⟨g, 0, none⟩) 4 4] w (MadeR w (R, 0)) by
      have := sealed_any haymS (some ⟨g, 0, none⟩) 4 4 [(2, d), (2, l), (1, v), (2, s)] w hB.rd rfl (by simp) rfl
      rw [show haymS.data.toList = haymB from rfl, hse] at this
      exact this)
    replace hse := hide hse; replace C := hide C
    clear h hD hL hV hS
    go_enter Try.func7, Try.ntmps7
    go_wp2_with (go_at_call 19; (with_reducible refine (unhide C _).mono ?_); rintro e w1 ⟨rfl, hb1⟩; have B1 := hide (B0.out.below hb1 B0.out.lt); have hb := hide (nextB box1 hb1); clear hb1)
    have c0 := fun x : Ext w1 => (B1.out.below x.h B1.out.lt).cell_ 0 _ rfl
    have c1 := fun x : Ext w1 => (B1.out.below x.h B1.out.lt).cell_ 1 _ rfl
    have c2 := fun x : Ext w1 => (B1.out.below x.h B1.out.lt).cell_ 2 _ rfl
    have c3 := fun x : Ext w1 => (B1.out.below x.h B1.out.lt).cell_ 3 _ rfl
    refine wp_region_rel w1 (by kernel_rfl) (by kernel_rfl) (Below.refl _ _) ?_
    repeat (apply rel_det; (intro x; simp only [List.filter_cons, List.filter_nil, lookT, Oper.looksAt, Op.operands, Call.operands, List.filterMap_cons, List.filterMap_nil, List.append_nil, List.contains_cons, List.contains_nil, Nat.reduceBEq, Bool.or_false, Bool.false_or, Bool.or_true, Bool.true_or, Bool.false_eq_true, if_true, if_false, withD_nil, withD_det, List.nil_append, List.cons_append, ↓reduceIte, List.push_toArray, List.append_toArray, List.map_cons, List.map_nil, Option.toArray_none, Option.toArray_some, Array.append_empty, List.getElem?_toArray, List.getElem?_cons_succ, List.getElem?_cons_zero, Option.bind_some, Option.toList_some]; unfold rOne; go_wp2_with fail; (first | (refine ⟨Below.refl _ _, ?_⟩; simp only [opGot, Array.getD_eq_getD_getElem?, List.getElem?_toArray, List.getElem?_cons_succ, List.getElem?_cons_zero, Option.getD_some]; exact rfl) | (refine ⟨by assumption, ?_⟩; simp only [opGot, Array.getD_eq_getD_getElem?, List.getElem?_toArray, List.getElem?_cons_succ, List.getElem?_cons_zero, Option.getD_some]; exact rfl) | (simp only [opGot, Array.getD_eq_getD_getElem?, List.getElem?_toArray, List.getElem?_cons_succ, List.getElem?_cons_zero, Option.getD_some]; exact rfl))))
    apply rel_det
    · intro x; simp only [List.filter_cons, List.filter_nil, lookT, Oper.looksAt, Op.operands, Call.operands, List.filterMap_cons, List.filterMap_nil, List.append_nil, List.contains_cons, List.contains_nil, Nat.reduceBEq, Bool.or_false, Bool.false_or, Bool.or_true, Bool.true_or, Bool.false_eq_true, if_true, if_false, withD_nil, withD_det, List.nil_append, List.cons_append, ↓reduceIte, List.push_toArray, List.append_toArray, List.map_cons, List.map_nil, Option.toArray_none, Option.toArray_some, Array.append_empty, List.getElem?_toArray, List.getElem?_cons_succ, List.getElem?_cons_zero, Option.bind_some, Option.toList_some]; unfold rOne
      go_wp2_with (go_at_call 21; (with_reducible refine (unhide N1 _).mono ?_); rintro e w2 ⟨rfl, hb2⟩)
      (first | (refine ⟨Below.refl _ _, ?_⟩; simp only [opGot, Array.getD_eq_getD_getElem?, List.getElem?_toArray, List.getElem?_cons_succ, List.getElem?_cons_zero, Option.getD_some]; exact rfl) | (refine ⟨by assumption, ?_⟩; simp only [opGot, Array.getD_eq_getD_getElem?, List.getElem?_toArray, List.getElem?_cons_succ, List.getElem?_cons_zero, Option.getD_some]; exact rfl) | (simp only [opGot, Array.getD_eq_getD_getElem?, List.getElem?_toArray, List.getElem?_cons_succ, List.getElem?_cons_zero, Option.getD_some]; exact rfl))
    repeat (apply rel_det; (intro x; simp only [List.filter_cons, List.filter_nil, lookT, Oper.looksAt, Op.operands, Call.operands, List.filterMap_cons, List.filterMap_nil, List.append_nil, List.contains_cons, List.contains_nil, Nat.reduceBEq, Bool.or_false, Bool.false_or, Bool.or_true, Bool.true_or, Bool.false_eq_true, if_true, if_false, withD_nil, withD_det, List.nil_append, List.cons_append, ↓reduceIte, List.push_toArray, List.append_toArray, List.map_cons, List.map_nil, Option.toArray_none, Option.toArray_some, Array.append_empty, List.getElem?_toArray, List.getElem?_cons_succ, List.getElem?_cons_zero, Option.bind_some, Option.toList_some]; unfold rOne; go_wp2_with fail; (first | (refine ⟨Below.refl _ _, ?_⟩; simp only [opGot, Array.getD_eq_getD_getElem?, List.getElem?_toArray, List.getElem?_cons_succ, List.getElem?_cons_zero, Option.getD_some]; exact rfl) | (refine ⟨by assumption, ?_⟩; simp only [opGot, Array.getD_eq_getD_getElem?, List.getElem?_toArray, List.getElem?_cons_succ, List.getElem?_cons_zero, Option.getD_some]; exact rfl) | (simp only [opGot, Array.getD_eq_getD_getElem?, List.getElem?_toArray, List.getElem?_cons_succ, List.getElem?_cons_zero, Option.getD_some]; exact rfl))))
    apply rel_det
    · intro x; simp only [List.filter_cons, List.filter_nil, lookT, Oper.looksAt, Op.operands, Call.operands, List.filterMap_cons, List.filterMap_nil, List.append_nil, List.contains_cons, List.contains_nil, Nat.reduceBEq, Bool.or_false, Bool.false_or, Bool.or_true, Bool.true_or, Bool.false_eq_true, if_true, if_false, withD_nil, withD_det, List.nil_append, List.cons_append, ↓reduceIte, List.push_toArray, List.append_toArray, List.map_cons, List.map_nil, Option.toArray_none, Option.toArray_some, Array.append_empty, List.getElem?_toArray, List.getElem?_cons_succ, List.getElem?_cons_zero, Option.bind_some, Option.toList_some]; unfold rOne
      go_wp2_with (go_at_call 21; (with_reducible refine (unhide N2 _).mono ?_); rintro e w2 ⟨rfl, hb2⟩)
      (first | (refine ⟨Below.refl _ _, ?_⟩; simp only [opGot, Array.getD_eq_getD_getElem?, List.getElem?_toArray, List.getElem?_cons_succ, List.getElem?_cons_zero, Option.getD_some]; exact rfl) | (refine ⟨by assumption, ?_⟩; simp only [opGot, Array.getD_eq_getD_getElem?, List.getElem?_toArray, List.getElem?_cons_succ, List.getElem?_cons_zero, Option.getD_some]; exact rfl) | (simp only [opGot, Array.getD_eq_getD_getElem?, List.getElem?_toArray, List.getElem?_cons_succ, List.getElem?_cons_zero, Option.getD_some]; exact rfl))
    repeat (apply rel_det; (intro x; simp only [List.filter_cons, List.filter_nil, lookT, Oper.looksAt, Op.operands, Call.operands, List.filterMap_cons, List.filterMap_nil, List.append_nil, List.contains_cons, List.contains_nil, Nat.reduceBEq, Bool.or_false, Bool.false_or, Bool.or_true, Bool.true_or, Bool.false_eq_true, if_true, if_false, withD_nil, withD_det, List.nil_append, List.cons_append, ↓reduceIte, List.push_toArray, List.append_toArray, List.map_cons, List.map_nil, Option.toArray_none, Option.toArray_some, Array.append_empty, List.getElem?_toArray, List.getElem?_cons_succ, List.getElem?_cons_zero, Option.bind_some, Option.toList_some]; unfold rOne; go_wp2_with fail; (first | (refine ⟨Below.refl _ _, ?_⟩; simp only [opGot, Array.getD_eq_getD_getElem?, List.getElem?_toArray, List.getElem?_cons_succ, List.getElem?_cons_zero, Option.getD_some]; exact rfl) | (refine ⟨by assumption, ?_⟩; simp only [opGot, Array.getD_eq_getD_getElem?, List.getElem?_toArray, List.getElem?_cons_succ, List.getElem?_cons_zero, Option.getD_some]; exact rfl) | (simp only [opGot, Array.getD_eq_getD_getElem?, List.getElem?_toArray, List.getElem?_cons_succ, List.getElem?_cons_zero, Option.getD_some]; exact rfl))))
    apply rel_det
    · intro x; simp only [List.filter_cons, List.filter_nil, lookT, Oper.looksAt, Op.operands, Call.operands, List.filterMap_cons, List.filterMap_nil, List.append_nil, List.contains_cons, List.contains_nil, Nat.reduceBEq, Bool.or_false, Bool.false_or, Bool.or_true, Bool.true_or, Bool.false_eq_true, if_true, if_false, withD_nil, withD_det, List.nil_append, List.cons_append, ↓reduceIte, List.push_toArray, List.append_toArray, List.map_cons, List.map_nil, Option.toArray_none, Option.toArray_some, Array.append_empty, List.getElem?_toArray, List.getElem?_cons_succ, List.getElem?_cons_zero, Option.bind_some, Option.toList_some]; unfold rOne
      go_wp2_with (go_at_call 21; (with_reducible refine (unhide N3 _).mono ?_); rintro e w2 ⟨rfl, hb2⟩)
      (first | (refine ⟨Below.refl _ _, ?_⟩; simp only [opGot, Array.getD_eq_getD_getElem?, List.getElem?_toArray, List.getElem?_cons_succ, List.getElem?_cons_zero, Option.getD_some]; exact rfl) | (refine ⟨by assumption, ?_⟩; simp only [opGot, Array.getD_eq_getD_getElem?, List.getElem?_toArray, List.getElem?_cons_succ, List.getElem?_cons_zero, Option.getD_some]; exact rfl) | (simp only [opGot, Array.getD_eq_getD_getElem?, List.getElem?_toArray, List.getElem?_cons_succ, List.getElem?_cons_zero, Option.getD_some]; exact rfl))
    repeat (apply rel_det; (intro x; simp only [List.filter_cons, List.filter_nil, lookT, Oper.looksAt, Op.operands, Call.operands, List.filterMap_cons, List.filterMap_nil, List.append_nil, List.contains_cons, List.contains_nil, Nat.reduceBEq, Bool.or_false, Bool.false_or, Bool.or_true, Bool.true_or, Bool.false_eq_true, if_true, if_false, withD_nil, withD_det, List.nil_append, List.cons_append, ↓reduceIte, List.push_toArray, List.append_toArray, List.map_cons, List.map_nil, Option.toArray_none, Option.toArray_some, Array.append_empty, List.getElem?_toArray, List.getElem?_cons_succ, List.getElem?_cons_zero, Option.bind_some, Option.toList_some]; unfold rOne; go_wp2_with fail; (first | (refine ⟨Below.refl _ _, ?_⟩; simp only [opGot, Array.getD_eq_getD_getElem?, List.getElem?_toArray, List.getElem?_cons_succ, List.getElem?_cons_zero, Option.getD_some]; exact rfl) | (refine ⟨by assumption, ?_⟩; simp only [opGot, Array.getD_eq_getD_getElem?, List.getElem?_toArray, List.getElem?_cons_succ, List.getElem?_cons_zero, Option.getD_some]; exact rfl) | (simp only [opGot, Array.getD_eq_getD_getElem?, List.getElem?_toArray, List.getElem?_cons_succ, List.getElem?_cons_zero, Option.getD_some]; exact rfl))))
    apply rel_det
    · intro x; simp only [List.filter_cons, List.filter_nil, lookT, Oper.looksAt, Op.operands, Call.operands, List.filterMap_cons, List.filterMap_nil, List.append_nil, List.contains_cons, List.contains_nil, Nat.reduceBEq, Bool.or_false, Bool.false_or, Bool.or_true, Bool.true_or, Bool.false_eq_true, if_true, if_false, withD_nil, withD_det, List.nil_append, List.cons_append, ↓reduceIte, List.push_toArray, List.append_toArray, List.map_cons, List.map_nil, Option.toArray_none, Option.toArray_some, Array.append_empty, List.getElem?_toArray, List.getElem?_cons_succ, List.getElem?_cons_zero, Option.bind_some, Option.toList_some]; unfold rOne
      go_wp2_with (go_at_call 21; (with_reducible refine (unhide N4 _).mono ?_); rintro e w2 ⟨rfl, hb2⟩)
      (first | (refine ⟨Below.refl _ _, ?_⟩; simp only [opGot, Array.getD_eq_getD_getElem?, List.getElem?_toArray, List.getElem?_cons_succ, List.getElem?_cons_zero, Option.getD_some]; exact rfl) | (refine ⟨by assumption, ?_⟩; simp only [opGot, Array.getD_eq_getD_getElem?, List.getElem?_toArray, List.getElem?_cons_succ, List.getElem?_cons_zero, Option.getD_some]; exact rfl) | (simp only [opGot, Array.getD_eq_getD_getElem?, List.getElem?_toArray, List.getElem?_cons_succ, List.getElem?_cons_zero, Option.getD_some]; exact rfl))
    apply rel_step (fun u w => NewSl 4 52 ([((2 : Int), d), (2, l), (1, v), (2, s)].flatMap numC).toArray u w)
    · exact fun v w w' h hb => h.on hb
    · intro x; simp only [List.filter_cons, List.filter_nil, lookT, Oper.looksAt, Op.operands, Call.operands, List.filterMap_cons, List.filterMap_nil, List.append_nil, List.contains_cons, List.contains_nil, Nat.reduceBEq, Bool.or_false, Bool.false_or, Bool.or_true, Bool.true_or, Bool.false_eq_true, if_true, if_false, withD_nil, withD_det, List.nil_append, List.cons_append, ↓reduceIte, List.push_toArray, List.append_toArray, List.map_cons, List.map_nil, Option.toArray_none, Option.toArray_some, Array.append_empty, List.getElem?_toArray, List.getElem?_cons_succ, List.getElem?_cons_zero, Option.bind_some, Option.toList_some]; unfold rOne
      go_wp2_with fail
      exact ⟨box1, _, by simp only [opGot, Array.getD_eq_getD_getElem?, List.getElem?_toArray, List.getElem?_cons_succ, List.getElem?_cons_zero, Option.getD_some], Blk.new _ _ _⟩
    apply rel_step (fun u w => SlE (R, 0) u w)
    · exact fun v w w' h hb => h.on hb
    · intro x; simp only [List.filter_cons, List.filter_nil, lookT, Oper.looksAt, Op.operands, Call.operands, List.filterMap_cons, List.filterMap_nil, List.append_nil, List.contains_cons, List.contains_nil, Nat.reduceBEq, Bool.or_false, Bool.false_or, Bool.or_true, Bool.true_or, Bool.false_eq_true, if_true, if_false, withD_nil, withD_det, List.nil_append, List.cons_append, ↓reduceIte, List.push_toArray, List.append_toArray, List.map_cons, List.map_nil, Option.toArray_none, Option.toArray_some, Array.append_empty, List.getElem?_toArray, List.getElem?_cons_succ, List.getElem?_cons_zero, Option.bind_some, Option.toList_some]; rw [withD_pr]; rintro u ⟨g, rfl, hB⟩; simp only [withD_det, withD_nil, Act.put, List.setIfInBounds_toArray, List.set_cons_succ, List.set_cons_zero]
      unfold rOne
      go_wp2_with (go_at_call 20; refine (unhide SE _ g hB).mono ?_; rintro e w3 ⟨A, c, rfl, hr, hc, hb3⟩)
      exact ⟨A, c, by simp only [opGot, Array.getD_eq_getD_getElem?, List.getElem?_toArray, List.getElem?_cons_succ, List.getElem?_cons_zero, Option.getD_some], hr, hc⟩
    apply rel_step (fun u w => SlV R u w)
    · exact fun v w w' h hb => h.on hb
    · intro x; simp only [List.filter_cons, List.filter_nil, lookT, Oper.looksAt, Op.operands, Call.operands, List.filterMap_cons, List.filterMap_nil, List.append_nil, List.contains_cons, List.contains_nil, Nat.reduceBEq, Bool.or_false, Bool.false_or, Bool.or_true, Bool.true_or, Bool.false_eq_true, if_true, if_false, withD_nil, withD_det, List.nil_append, List.cons_append, ↓reduceIte, List.push_toArray, List.append_toArray, List.map_cons, List.map_nil, Option.toArray_none, Option.toArray_some, Array.append_empty, List.getElem?_toArray, List.getElem?_cons_succ, List.getElem?_cons_zero, Option.bind_some, Option.toList_some]; rw [withD_pr]; rintro u ⟨A, c, rfl, hr, hc⟩; simp only [withD_det, withD_nil, Act.put, List.setIfInBounds_toArray, List.set_cons_succ, List.set_cons_zero]
      unfold rOne
      go_wp2_with fail
      first | exact ⟨Below.refl _ _, A, c, by simp only [opGot, Array.getD_eq_getD_getElem?, List.getElem?_toArray, List.getElem?_cons_succ, List.getElem?_cons_zero, Option.getD_some], hr, hc⟩ | exact ⟨A, c, by simp only [opGot, Array.getD_eq_getD_getElem?, List.getElem?_toArray, List.getElem?_cons_succ, List.getElem?_cons_zero, Option.getD_some], hr, hc⟩
    apply rel_det
    · intro x; simp only [List.filter_cons, List.filter_nil, lookT, Oper.looksAt, Op.operands, Call.operands, List.filterMap_cons, List.filterMap_nil, List.append_nil, List.contains_cons, List.contains_nil, Nat.reduceBEq, Bool.or_false, Bool.false_or, Bool.or_true, Bool.true_or, Bool.false_eq_true, if_true, if_false, withD_nil, withD_det, List.nil_append, List.cons_append, ↓reduceIte, List.push_toArray, List.append_toArray, List.map_cons, List.map_nil, Option.toArray_none, Option.toArray_some, Array.append_empty, List.getElem?_toArray, List.getElem?_cons_succ, List.getElem?_cons_zero, Option.bind_some, Option.toList_some]; rw [withD_pr]; rintro u ⟨A, c, rfl, hr, hc⟩; simp only [withD_det, withD_nil, Act.put, List.setIfInBounds_toArray, List.set_cons_succ, List.set_cons_zero]
      unfold rOne
      go_wp2_with fail
      (first | (refine ⟨Below.refl _ _, ?_⟩; simp only [opGot, Array.getD_eq_getD_getElem?, List.getElem?_toArray, List.getElem?_cons_succ, List.getElem?_cons_zero, Option.getD_some]; exact rfl) | (refine ⟨by assumption, ?_⟩; simp only [opGot, Array.getD_eq_getD_getElem?, List.getElem?_toArray, List.getElem?_cons_succ, List.getElem?_cons_zero, Option.getD_some]; exact rfl) | (simp only [opGot, Array.getD_eq_getD_getElem?, List.getElem?_toArray, List.getElem?_cons_succ, List.getElem?_cons_zero, Option.getD_some]; exact rfl))
    apply rel_step (fun u w => SlV R u w)
    · exact fun v w w' h hb => h.on hb
    · intro x; simp only [List.filter_cons, List.filter_nil, lookT, Oper.looksAt, Op.operands, Call.operands, List.filterMap_cons, List.filterMap_nil, List.append_nil, List.contains_cons, List.contains_nil, Nat.reduceBEq, Bool.or_false, Bool.false_or, Bool.or_true, Bool.true_or, Bool.false_eq_true, if_true, if_false, withD_nil, withD_det, List.nil_append, List.cons_append, ↓reduceIte, List.push_toArray, List.append_toArray, List.map_cons, List.map_nil, Option.toArray_none, Option.toArray_some, Array.append_empty, List.getElem?_toArray, List.getElem?_cons_succ, List.getElem?_cons_zero, Option.bind_some, Option.toList_some]; rw [withD_pr]; rintro u ⟨A, c, rfl, hr, hc⟩; simp only [withD_det, withD_nil, Act.put, List.setIfInBounds_toArray, List.set_cons_succ, List.set_cons_zero]
      unfold rOne
      go_wp2_with fail
      first | exact ⟨Below.refl _ _, A, c, by simp only [opGot, Array.getD_eq_getD_getElem?, List.getElem?_toArray, List.getElem?_cons_succ, List.getElem?_cons_zero, Option.getD_some], hr, hc⟩ | exact ⟨A, c, by simp only [opGot, Array.getD_eq_getD_getElem?, List.getElem?_toArray, List.getElem?_cons_succ, List.getElem?_cons_zero, Option.getD_some], hr, hc⟩
    repeat (apply rel_det; (intro x; simp only [List.filter_cons, List.filter_nil, lookT, Oper.looksAt, Op.operands, Call.operands, List.filterMap_cons, List.filterMap_nil, List.append_nil, List.contains_cons, List.contains_nil, Nat.reduceBEq, Bool.or_false, Bool.false_or, Bool.or_true, Bool.true_or, Bool.false_eq_true, if_true, if_false, withD_nil, withD_det, List.nil_append, List.cons_append, ↓reduceIte, List.push_toArray, List.append_toArray, List.map_cons, List.map_nil, Option.toArray_none, Option.toArray_some, Array.append_empty, List.getElem?_toArray, List.getElem?_cons_succ, List.getElem?_cons_zero, Option.bind_some, Option.toList_some]; unfold rOne; go_wp2_with fail; (first | (refine ⟨Below.refl _ _, ?_⟩; simp only [opGot, Array.getD_eq_getD_getElem?, List.getElem?_toArray, List.getElem?_cons_succ, List.getElem?_cons_zero, Option.getD_some]; exact rfl) | (refine ⟨by assumption, ?_⟩; simp only [opGot, Array.getD_eq_getD_getElem?, List.getElem?_toArray, List.getElem?_cons_succ, List.getElem?_cons_zero, Option.getD_some]; exact rfl) | (simp only [opGot, Array.getD_eq_getD_getElem?, List.getElem?_toArray, List.getElem?_cons_succ, List.getElem?_cons_zero, Option.getD_some]; exact rfl))))
    refine rel_nil ?_
    intro x
    simp only [List.filter_cons, List.filter_nil, lookT, Oper.looksAt, Op.operands, Call.operands, List.filterMap_cons, List.filterMap_nil, List.append_nil, List.contains_cons, List.contains_nil, Nat.reduceBEq, Bool.or_false, Bool.false_or, Bool.or_true, Bool.true_or, Bool.false_eq_true, if_true, if_false, withD_nil, withD_det, List.nil_append, List.cons_append, ↓reduceIte, List.push_toArray, List.append_toArray, List.map_cons, List.map_nil, Option.toArray_none, Option.toArray_some, Array.append_empty, List.getElem?_toArray, List.getElem?_cons_succ, List.getElem?_cons_zero, Option.bind_some, Option.toList_some]
    rw [withD_pr]; rintro u ⟨g, rfl, _⟩
    rw [withD_pr]; rintro u ⟨A1, d1, rfl, _, _⟩
    rw [withD_pr]; rintro u ⟨A2, d2, rfl, _, _⟩
    simp only [withD_det]
    rw [withD_pr]; rintro u ⟨A3, d3, rfl, hr, hc⟩
    simp only [withD_det, withD_nil, Act.put, List.setIfInBounds_toArray, List.set_cons_succ, List.set_cons_zero]
    have hx := hide (nextB hb.out x.h)
    clear c0 c1 c2 c3
    go_wp2_with fail
    go_ret2
    exact ⟨A3, d3, rfl, hr, hc, hx.out⟩
  · rw [if_neg h]
    rw [decide_eq_false h] at C
    replace C := hide C
    clear h hD hL hV hS
    go_enter Try.func7, Try.ntmps7
    go_wp2_with (go_at_call 19; (with_reducible refine (unhide C _).mono ?_); rintro e w1 ⟨rfl, hb1⟩)
    go_ret2
    exact ⟨none, 0, rfl, Rd.nil _ _, by simp, nextB box1 hb1⟩
set_option maxRecDepth 100000 in
set_option maxHeartbeats 4000000 in
theorem label_any (v g : Int) (w : World) (hv : -9223372036854775808 ≤ v ∧ v ≤ 9223372036854775807) (hg : -9223372036854775808 ≤ g ∧ g ≤ 9223372036854775807) :
    Calls Try.prog 8 #[.int .i64 v, .int .i64 g] w (MadeR w (labelR v g)) := by
  rcases (show v < 0 ∨ (¬ v < 0 ∧ 8 ≤ v) ∨ (¬ v < 0 ∧ ¬ 8 ≤ v) by omega) with h1 | ⟨h1, h2⟩ | ⟨h1, h2⟩
  · have he : labelR v g = ([], 1) := by unfold labelR; rw [if_neg (by unfold mayL; omega)]
    rw [he]
    clear he
    go_enter Try.func8, Try.ntmps8
    go_wp2_with fail
    go_ret2
    exact ⟨none, 0, rfl, Rd.nil _ _, by simp, Below.refl _ _⟩
  · have he : labelR v g = ([], 1) := by unfold labelR; rw [if_neg (by unfold mayL; omega)]
    rw [he]
    clear he
    go_enter Try.func8, Try.ntmps8
    go_wp2_with fail
    go_ret2
    exact ⟨none, 0, rfl, Rd.nil _ _, by simp, Below.refl _ _⟩
  · have hse := label_sealed (v := v) (g := g) (by omega) (by omega)
    have N1 := hide (fun w => num_any 1 v w hv); have N2 := hide (fun w => num_any 4 g w hg)
    generalize numL v = a at N1 hse
    generalize numL g = b at N2 hse
    have SE := hide (fun (w : World) (g' : Nat) (hB : Blk w g' 52 ([((1 : Int), a), (4, b)].flatMap numC).toArray) => show Calls Try.prog 20 #[.string hvolS, .slice (some ⟨g', 0, none⟩) 2 2] w (MadeR w (labelR v g)) by
      have := sealed_any hvolS (some ⟨g', 0, none⟩) 2 2 [(1, a), (4, b)] w hB.rd rfl (by simp) rfl
      rw [show hvolS.data.toList = hvolB from rfl, hse] at this
      exact this)
    generalize labelR v g = R at SE ⊢
    clear hse hv hg
    go_enter Try.func8, Try.ntmps8
    go_wp2_with (first
      | (go_at_call 21; (with_reducible refine (unhide N1 _).mono ?_); rintro e w1 ⟨rfl, hb1⟩)
      | (go_at_call 21; (with_reducible refine (unhide N2 _).mono ?_); rintro e w2 ⟨rfl, hb2⟩; have hb := hide (nextB hb1 hb2))
      | (go_at_call 20; refine (unhide SE _ w2.heap.size (Blk.new w2 _ _)).mono ?_; rintro e w3 ⟨A, c, rfl, hr, hc, hb3⟩))
    go_ret2
    exact ⟨A, c, rfl, hr, hc, nextB (hb.out.alloc hb.out.size _) hb3⟩
end Go.Proofs.Ytfpclheplipjfaa
