/- An inode's block is made: contract of the program's Encode. No condition. -/
import Derived.Test.YtobiepjnnglglaaInC
import Derived.Test.YtobiepjnnglglaaInL
namespace Go.Proofs.Ytobiepjnnglglaa
set_option linter.unusedSimpArgs false
open Go.RowKit
theorem GV.nil {w0 w w' : World} (h : GV w0 [] w w') : Below w.heap.size w w' :=
  ⟨h.1.os, h.1.tape, h.1.output, h.1.size, fun k hk => by have e := Array.getElem?_eq_getElem hk; rw [e]; exact h.2 k _ e (by intro _ _ _ _; simp)⟩
def inoN0 (ino : Int) (x : Ino) : List (Int × Nat) := [(4, 1768845156), (1, ino.toNat), (1, x.ty.toNat), (1, x.links.toNat), (4, x.ver.toNat), (6, x.size.toNat), (4, x.tick.toNat)]
def inoN (ino : Int) (x : Ino) : List (Int × Nat) := inoN0 ino x ++ numsI x.ps
def inoB (ino : Int) (x : Ino) : List UInt8 := sealB (packB (inoN ino x))
def mayE (ino : Int) (x : Ino) : Prop := (1 ≤ ino ∧ ino ≤ 39) ∧ mayIno x
instance (ino : Int) (x : Ino) : Decidable (mayE ino x) := by unfold mayE; exact inferInstance
/-- an inode's block: the octets, the error's number -/
def encI (ino : Int) (x : Ino) : List UInt8 × Int := if mayE ino x then (inoB ino x, 0) else ([], 1)
theorem okPt_iff {p : Int × Nat} (h : okPt p = true) : 0 ≤ p.1 ∧ p.1 ≤ 2147483647 := by
  unfold okPt at h; rw [decide_eq_true_iff] at h; exact h.1
theorem numsI_fits {l : List (Int × Nat)} (h : l.all okPt = true) (hs : ∀ p ∈ l, p.2 < 4294967296) : Fits (numsI l) := by
  intro x hx
  obtain ⟨p, hp, hx⟩ := List.mem_flatMap.1 hx
  have h1 := okPt_iff (List.all_eq_true.1 h p hp); have h2 := hs p hp
  simp only [ptrN, List.mem_cons, List.not_mem_nil, or_false] at hx
  rcases hx with rfl | rfl
  · exact ⟨by simp, by simp, by show p.1.toNat < 256 ^ 4; omega⟩
  · exact ⟨by simp, by simp, by show p.2 < 256 ^ 4; omega⟩
theorem numsI_sum : ∀ l : List (Int × Nat), sumW ((numsI l).map (·.1)) = 8 * l.length
  | [] => rfl
  | p :: l => by
    have ih := numsI_sum l
    unfold numsI at ih ⊢
    rw [List.flatMap_cons, List.map_append, sumW_append, ih, List.length_cons]; simp [ptrN, sumW]; omega
theorem numsI_len (l : List (Int × Nat)) : (numsI l).length = 2 * l.length := by
  unfold numsI; rw [flat_length ptrN_len]; omega
theorem inoN_fits {ino : Int} {x : Ino} (h : mayE ino x) (hs : ∀ p ∈ x.ps, p.2 < 4294967296) : Fits (inoN ino x) := by
  obtain ⟨hi, ⟨h1, h2, h3, h4, h5⟩, hp⟩ := h
  intro y hy
  unfold inoN at hy
  rw [List.mem_append] at hy
  rcases hy with hy | hy
  · simp only [inoN0, List.mem_cons, List.not_mem_nil, or_false] at hy
    rcases hy with rfl | rfl | rfl | rfl | rfl | rfl | rfl
    · exact ⟨by simp, by simp, by show 1768845156 < 256 ^ 4; omega⟩
    · exact ⟨by simp, by simp, by show ino.toNat < 256 ^ 1; omega⟩
    · exact ⟨by simp, by simp, by show x.ty.toNat < 256 ^ 1; omega⟩
    · exact ⟨by simp, by simp, by show x.links.toNat < 256 ^ 1; omega⟩
    · exact ⟨by simp, by simp, by show x.ver.toNat < 256 ^ 4; omega⟩
    · exact ⟨by simp, by simp, by show x.size.toNat < 256 ^ 6; omega⟩
    · exact ⟨by simp, by simp, by show x.tick.toNat < 256 ^ 4; omega⟩
  · exact numsI_fits hp hs y hy
theorem inoN_bytes (ino : Int) {x : Ino} (h9 : x.ps.length = 9) : (packB (inoN ino x)).length = 93 := by
  rw [packB_len]; unfold inoN; rw [List.map_append, sumW_append, numsI_sum, h9]; rfl
set_option maxRecDepth 100000 in
set_option maxHeartbeats 8000000 in
theorem enc_any (ino : Int) (x : Ino) (h9 : x.ps.length = 9) (hs : ∀ p ∈ x.ps, p.2 < 4294967296) (w : World) :
    Calls Try.prog 8 #[.int .i64 ino, .agg (inoC x).toArray] w (MadeR w (encI ino x)) := by
  have C := fun w => may_any x h9 w
  have I := fun w => in_any ino 1 39 w
  have B0 := hide (Blk.new w 27 (inoC x).toArray)
  have hb := hide (box1 (w := w) (o := .cells (inoC x).toArray 27))
  have HZ := hide (inoC_len h9)
  by_cases hi : 1 ≤ ino ∧ ino ≤ 39
  · rw [decide_eq_true hi] at I
    replace I := hide I
    by_cases hm : mayIno x
    · rw [decide_eq_true hm] at C
      replace C := hide C
      have he : encI ino x = (inoB ino x, 0) := if_pos ⟨hi, hm⟩
      rw [he]
      have hf := hide (inoN_fits ⟨hi, hm⟩ hs)
      have hl := hide (inoN_bytes ino h9)
      have hn : Hid ((inoN ino x).length = 7 + 18) := hide (by unfold inoN; rw [List.length_append, numsI_len, h9]; rfl)
      have PN : ∀ (w' : World) (hB : Rd w' (some ⟨w.heap.size, 5, none⟩) (x.ps.flatMap ptrC)), Calls Try.prog 28 #[.slice (some ⟨w.heap.size, 5, none⟩) 9 9] w' fun e w2 => ∃ A c, e = .returned (.slice A 18 c) ∧ w2.ownsRow w'.heap.size 63 2 (.slice A 18 c) 18 ((numsI x.ps).flatMap numC) ∧ Below w'.heap.size w' w2 := fun w' hB => by
        have := pointers_any (some ⟨w.heap.size, 5, none⟩) x.ps 9 9 w' hB h9 (by decide) hm.2 hs
        unfold MadeN at this
        rw [h9] at this
        exact this
      replace PN := hide PN
      have h9' := hide h9
      obtain ⟨⟨h1, h2, h3, h4, h5⟩, _⟩ := hm
      obtain ⟨n0, e0⟩ := Int.eq_ofNat_of_zero_le (show 0 ≤ ino by omega)
      obtain ⟨n1, e1⟩ := Int.eq_ofNat_of_zero_le (show 0 ≤ x.ty by omega)
      obtain ⟨n2, e2⟩ := Int.eq_ofNat_of_zero_le (show 0 ≤ x.links by omega)
      obtain ⟨n3, e3⟩ := Int.eq_ofNat_of_zero_le (show 0 ≤ x.ver by omega)
      obtain ⟨n4, e4⟩ := Int.eq_ofNat_of_zero_le (show 0 ≤ x.size by omega)
      obtain ⟨n5, e5⟩ := Int.eq_ofNat_of_zero_le (show 0 ≤ x.tick by omega)
      subst e0
      rw [e1] at h1; rw [e2] at h2; rw [e3] at h3; rw [e4] at h4; rw [e5] at h5
      have hN0 : Hid ((inoN0 (n0 : Int) x).flatMap numC = [.int .i64 4, .int .u64 1768845156, .int .i64 1, .int .u64 (n0 : Int), .int .i64 1, .int .u64 (n1 : Int), .int .i64 1, .int .u64 (n2 : Int), .int .i64 4, .int .u64 (n3 : Int), .int .i64 6, .int .u64 (n4 : Int), .int .i64 4, .int .u64 (n5 : Int)]) := hide (by simp [inoN0, numC, e1, e2, e3, e4, e5])
      have N0 : ∀ w, Calls Try.prog 26 #[.int .i64 4, .int .i64 1768845156] w fun e w' => e = .returned (.agg #[.int .i64 4, .int .u64 1768845156]) ∧ Below w.heap.size w w' := fun w => num_any 4 1768845156 w (by decide)
      replace N0 := hide N0
      have N1 := hide (fun w => num_any 1 n0 w (by omega))
      have N2 := hide (fun w => num_any 1 n1 w (by omega))
      have N3 := hide (fun w => num_any 1 n2 w (by omega))
      have N4 := hide (fun w => num_any 4 n3 w (by omega))
      have N5 := hide (fun w => num_any 6 n4 w (by omega))
      have N6 := hide (fun w => num_any 4 n5 w (by omega))
      have c0 : (inoC x)[0]? = some (.int .i64 (n1 : Int)) := by rw [← e1]; rfl
      have c1 : (inoC x)[1]? = some (.int .i64 (n2 : Int)) := by rw [← e2]; rfl
      have c2 : (inoC x)[2]? = some (.int .i64 (n3 : Int)) := by rw [← e3]; rfl
      have c3 : (inoC x)[3]? = some (.int .i64 (n4 : Int)) := by rw [← e4]; rfl
      have c4 : (inoC x)[4]? = some (.int .i64 (n5 : Int)) := by rw [← e5]; rfl
      clear he e1 e2 e3 e4 e5 hs h9 hi
      go_enter Try.func8, Try.ntmps8
      go_upto_region 3 with (first
        | (go_at_call 25; (with_reducible refine (unhide I _).mono ?_); rintro e w1 ⟨rfl, rfl⟩)
        | ((with_reducible refine load_ino (.tmp 3) rfl ?_ _ ?_ x B0.out HZ.out ?_); (next => rfl); (next => rfl))
        | (go_at_call 9; (with_reducible refine (unhide C _).mono ?_); rintro e w1 ⟨rfl, hb1⟩; replace B0 := hide (B0.out.below hb1 B0.out.lt); replace hb := hide (nextB hb.out hb1); clear hb1))
      have k0 := fun y : Ext w1 => (B0.out.below y.h B0.out.lt).cell_ 0 _ (by simpa using c0)
      have k1 := fun y : Ext w1 => (B0.out.below y.h B0.out.lt).cell_ 1 _ (by simpa using c1)
      have k2 := fun y : Ext w1 => (B0.out.below y.h B0.out.lt).cell_ 2 _ (by simpa using c2)
      have k3 := fun y : Ext w1 => (B0.out.below y.h B0.out.lt).cell_ 3 _ (by simpa using c3)
      have k4 := fun y : Ext w1 => (B0.out.below y.h B0.out.lt).cell_ 4 _ (by simpa using c4)
      have hbw := hide hb.out
      refine wp_region_var w1 [] (by kernel_rfl) (by kernel_rfl) (Below.refl _ _) ?_
      refine var_det (.agg #[.int .i64 4, .int .u64 1768845156]) ?_ ?_
      · intro y; simp only [List.nil_append, List.cons_append, List.map_cons, List.map_nil, depP, depG, finP, Option.some.injEq, Nat.reduceEqDiff, reduceCtorEq, ↓reduceIte]; simp only [List.filter_cons, List.filter_nil, lookT, Oper.looksAt, Op.operands, Call.operands, List.filterMap_cons, List.filterMap_nil, List.append_nil, List.contains_cons, List.contains_nil, Nat.reduceBEq, Bool.or_false, Bool.false_or, Bool.or_true, Bool.true_or, Bool.false_eq_true, if_true, if_false, withD_nil, withD_det, List.nil_append, List.cons_append, ↓reduceIte, List.push_toArray, List.append_toArray, List.map_cons, List.map_nil, Option.toArray_none, Option.toArray_some, Array.append_empty, List.getElem?_toArray, List.getElem?_cons_succ, List.getElem?_cons_zero, Option.bind_some, Option.toList_some]; unfold rOne
        go_wp2_with (go_at_call 26; (with_reducible refine (unhide N0 _).mono ?_); rintro e w2 ⟨rfl, hb1⟩)
        first | exact ⟨hb1, by simp only [opGot, Array.getD_eq_getD_getElem?, List.getElem?_toArray, List.getElem?_cons_succ, List.getElem?_cons_zero, Option.getD_some]⟩ | simp only [opGot, Array.getD_eq_getD_getElem?, List.getElem?_toArray, List.getElem?_cons_succ, List.getElem?_cons_zero, Option.getD_some]
      repeat (apply var_det; (intro x; simp only [List.nil_append, List.cons_append, List.map_cons, List.map_nil, depP, depG, finP, Option.some.injEq, Nat.reduceEqDiff, reduceCtorEq, ↓reduceIte]; simp only [List.filter_cons, List.filter_nil, lookT, Oper.looksAt, Op.operands, Call.operands, List.filterMap_cons, List.filterMap_nil, List.append_nil, List.contains_cons, List.contains_nil, Nat.reduceBEq, Bool.or_false, Bool.false_or, Bool.or_true, Bool.true_or, Bool.false_eq_true, if_true, if_false, withD_nil, withD_det, List.nil_append, List.cons_append, ↓reduceIte, List.push_toArray, List.append_toArray, List.map_cons, List.map_nil, Option.toArray_none, Option.toArray_some, Array.append_empty, List.getElem?_toArray, List.getElem?_cons_succ, List.getElem?_cons_zero, Option.bind_some, Option.toList_some]; unfold rOne; go_wp2_with fail; (first | (refine ⟨Below.refl _ _, ?_⟩; simp only [opGot, Array.getD_eq_getD_getElem?, List.getElem?_toArray, List.getElem?_cons_succ, List.getElem?_cons_zero, Option.getD_some]; exact rfl) | (refine ⟨by assumption, ?_⟩; simp only [opGot, Array.getD_eq_getD_getElem?, List.getElem?_toArray, List.getElem?_cons_succ, List.getElem?_cons_zero, Option.getD_some]; exact rfl) | (simp only [opGot, Array.getD_eq_getD_getElem?, List.getElem?_toArray, List.getElem?_cons_succ, List.getElem?_cons_zero, Option.getD_some]; exact rfl))))
      refine var_det (.agg #[.int .i64 1, .int .u64 (n0 : Int)]) ?_ ?_
      · intro y; simp only [List.nil_append, List.cons_append, List.map_cons, List.map_nil, depP, depG, finP, Option.some.injEq, Nat.reduceEqDiff, reduceCtorEq, ↓reduceIte]; simp only [List.filter_cons, List.filter_nil, lookT, Oper.looksAt, Op.operands, Call.operands, List.filterMap_cons, List.filterMap_nil, List.append_nil, List.contains_cons, List.contains_nil, Nat.reduceBEq, Bool.or_false, Bool.false_or, Bool.or_true, Bool.true_or, Bool.false_eq_true, if_true, if_false, withD_nil, withD_det, List.nil_append, List.cons_append, ↓reduceIte, List.push_toArray, List.append_toArray, List.map_cons, List.map_nil, Option.toArray_none, Option.toArray_some, Array.append_empty, List.getElem?_toArray, List.getElem?_cons_succ, List.getElem?_cons_zero, Option.bind_some, Option.toList_some]; unfold rOne
        go_wp2_with (go_at_call 26; (with_reducible refine (unhide N1 _).mono ?_); rintro e w2 ⟨rfl, hb1⟩)
        first | exact ⟨hb1, by simp only [opGot, Array.getD_eq_getD_getElem?, List.getElem?_toArray, List.getElem?_cons_succ, List.getElem?_cons_zero, Option.getD_some]⟩ | simp only [opGot, Array.getD_eq_getD_getElem?, List.getElem?_toArray, List.getElem?_cons_succ, List.getElem?_cons_zero, Option.getD_some]
      repeat (apply var_det; (intro x; simp only [List.nil_append, List.cons_append, List.map_cons, List.map_nil, depP, depG, finP, Option.some.injEq, Nat.reduceEqDiff, reduceCtorEq, ↓reduceIte]; simp only [List.filter_cons, List.filter_nil, lookT, Oper.looksAt, Op.operands, Call.operands, List.filterMap_cons, List.filterMap_nil, List.append_nil, List.contains_cons, List.contains_nil, Nat.reduceBEq, Bool.or_false, Bool.false_or, Bool.or_true, Bool.true_or, Bool.false_eq_true, if_true, if_false, withD_nil, withD_det, List.nil_append, List.cons_append, ↓reduceIte, List.push_toArray, List.append_toArray, List.map_cons, List.map_nil, Option.toArray_none, Option.toArray_some, Array.append_empty, List.getElem?_toArray, List.getElem?_cons_succ, List.getElem?_cons_zero, Option.bind_some, Option.toList_some]; unfold rOne; go_wp2_with fail; (first | (refine ⟨Below.refl _ _, ?_⟩; simp only [opGot, Array.getD_eq_getD_getElem?, List.getElem?_toArray, List.getElem?_cons_succ, List.getElem?_cons_zero, Option.getD_some]; exact rfl) | (refine ⟨by assumption, ?_⟩; simp only [opGot, Array.getD_eq_getD_getElem?, List.getElem?_toArray, List.getElem?_cons_succ, List.getElem?_cons_zero, Option.getD_some]; exact rfl) | (simp only [opGot, Array.getD_eq_getD_getElem?, List.getElem?_toArray, List.getElem?_cons_succ, List.getElem?_cons_zero, Option.getD_some]; exact rfl))))
      refine var_det (.agg #[.int .i64 1, .int .u64 (n1 : Int)]) ?_ ?_
      · intro y; simp only [List.nil_append, List.cons_append, List.map_cons, List.map_nil, depP, depG, finP, Option.some.injEq, Nat.reduceEqDiff, reduceCtorEq, ↓reduceIte]; simp only [List.filter_cons, List.filter_nil, lookT, Oper.looksAt, Op.operands, Call.operands, List.filterMap_cons, List.filterMap_nil, List.append_nil, List.contains_cons, List.contains_nil, Nat.reduceBEq, Bool.or_false, Bool.false_or, Bool.or_true, Bool.true_or, Bool.false_eq_true, if_true, if_false, withD_nil, withD_det, List.nil_append, List.cons_append, ↓reduceIte, List.push_toArray, List.append_toArray, List.map_cons, List.map_nil, Option.toArray_none, Option.toArray_some, Array.append_empty, List.getElem?_toArray, List.getElem?_cons_succ, List.getElem?_cons_zero, Option.bind_some, Option.toList_some]; unfold rOne
        go_wp2_with (go_at_call 26; (with_reducible refine (unhide N2 _).mono ?_); rintro e w2 ⟨rfl, hb1⟩)
        first | exact ⟨hb1, by simp only [opGot, Array.getD_eq_getD_getElem?, List.getElem?_toArray, List.getElem?_cons_succ, List.getElem?_cons_zero, Option.getD_some]⟩ | simp only [opGot, Array.getD_eq_getD_getElem?, List.getElem?_toArray, List.getElem?_cons_succ, List.getElem?_cons_zero, Option.getD_some]
      repeat (apply var_det; (intro x; simp only [List.nil_append, List.cons_append, List.map_cons, List.map_nil, depP, depG, finP, Option.some.injEq, Nat.reduceEqDiff, reduceCtorEq, ↓reduceIte]; simp only [List.filter_cons, List.filter_nil, lookT, Oper.looksAt, Op.operands, Call.operands, List.filterMap_cons, List.filterMap_nil, List.append_nil, List.contains_cons, List.contains_nil, Nat.reduceBEq, Bool.or_false, Bool.false_or, Bool.or_true, Bool.true_or, Bool.false_eq_true, if_true, if_false, withD_nil, withD_det, List.nil_append, List.cons_append, ↓reduceIte, List.push_toArray, List.append_toArray, List.map_cons, List.map_nil, Option.toArray_none, Option.toArray_some, Array.append_empty, List.getElem?_toArray, List.getElem?_cons_succ, List.getElem?_cons_zero, Option.bind_some, Option.toList_some]; unfold rOne; go_wp2_with fail; (first | (refine ⟨Below.refl _ _, ?_⟩; simp only [opGot, Array.getD_eq_getD_getElem?, List.getElem?_toArray, List.getElem?_cons_succ, List.getElem?_cons_zero, Option.getD_some]; exact rfl) | (refine ⟨by assumption, ?_⟩; simp only [opGot, Array.getD_eq_getD_getElem?, List.getElem?_toArray, List.getElem?_cons_succ, List.getElem?_cons_zero, Option.getD_some]; exact rfl) | (simp only [opGot, Array.getD_eq_getD_getElem?, List.getElem?_toArray, List.getElem?_cons_succ, List.getElem?_cons_zero, Option.getD_some]; exact rfl))))
      refine var_det (.agg #[.int .i64 1, .int .u64 (n2 : Int)]) ?_ ?_
      · intro y; simp only [List.nil_append, List.cons_append, List.map_cons, List.map_nil, depP, depG, finP, Option.some.injEq, Nat.reduceEqDiff, reduceCtorEq, ↓reduceIte]; simp only [List.filter_cons, List.filter_nil, lookT, Oper.looksAt, Op.operands, Call.operands, List.filterMap_cons, List.filterMap_nil, List.append_nil, List.contains_cons, List.contains_nil, Nat.reduceBEq, Bool.or_false, Bool.false_or, Bool.or_true, Bool.true_or, Bool.false_eq_true, if_true, if_false, withD_nil, withD_det, List.nil_append, List.cons_append, ↓reduceIte, List.push_toArray, List.append_toArray, List.map_cons, List.map_nil, Option.toArray_none, Option.toArray_some, Array.append_empty, List.getElem?_toArray, List.getElem?_cons_succ, List.getElem?_cons_zero, Option.bind_some, Option.toList_some]; unfold rOne
        go_wp2_with (go_at_call 26; (with_reducible refine (unhide N3 _).mono ?_); rintro e w2 ⟨rfl, hb1⟩)
        first | exact ⟨hb1, by simp only [opGot, Array.getD_eq_getD_getElem?, List.getElem?_toArray, List.getElem?_cons_succ, List.getElem?_cons_zero, Option.getD_some]⟩ | simp only [opGot, Array.getD_eq_getD_getElem?, List.getElem?_toArray, List.getElem?_cons_succ, List.getElem?_cons_zero, Option.getD_some]
      repeat (apply var_det; (intro x; simp only [List.nil_append, List.cons_append, List.map_cons, List.map_nil, depP, depG, finP, Option.some.injEq, Nat.reduceEqDiff, reduceCtorEq, ↓reduceIte]; simp only [List.filter_cons, List.filter_nil, lookT, Oper.looksAt, Op.operands, Call.operands, List.filterMap_cons, List.filterMap_nil, List.append_nil, List.contains_cons, List.contains_nil, Nat.reduceBEq, Bool.or_false, Bool.false_or, Bool.or_true, Bool.true_or, Bool.false_eq_true, if_true, if_false, withD_nil, withD_det, List.nil_append, List.cons_append, ↓reduceIte, List.push_toArray, List.append_toArray, List.map_cons, List.map_nil, Option.toArray_none, Option.toArray_some, Array.append_empty, List.getElem?_toArray, List.getElem?_cons_succ, List.getElem?_cons_zero, Option.bind_some, Option.toList_some]; unfold rOne; go_wp2_with fail; (first | (refine ⟨Below.refl _ _, ?_⟩; simp only [opGot, Array.getD_eq_getD_getElem?, List.getElem?_toArray, List.getElem?_cons_succ, List.getElem?_cons_zero, Option.getD_some]; exact rfl) | (refine ⟨by assumption, ?_⟩; simp only [opGot, Array.getD_eq_getD_getElem?, List.getElem?_toArray, List.getElem?_cons_succ, List.getElem?_cons_zero, Option.getD_some]; exact rfl) | (simp only [opGot, Array.getD_eq_getD_getElem?, List.getElem?_toArray, List.getElem?_cons_succ, List.getElem?_cons_zero, Option.getD_some]; exact rfl))))
      refine var_det (.agg #[.int .i64 4, .int .u64 (n3 : Int)]) ?_ ?_
      · intro y; simp only [List.nil_append, List.cons_append, List.map_cons, List.map_nil, depP, depG, finP, Option.some.injEq, Nat.reduceEqDiff, reduceCtorEq, ↓reduceIte]; simp only [List.filter_cons, List.filter_nil, lookT, Oper.looksAt, Op.operands, Call.operands, List.filterMap_cons, List.filterMap_nil, List.append_nil, List.contains_cons, List.contains_nil, Nat.reduceBEq, Bool.or_false, Bool.false_or, Bool.or_true, Bool.true_or, Bool.false_eq_true, if_true, if_false, withD_nil, withD_det, List.nil_append, List.cons_append, ↓reduceIte, List.push_toArray, List.append_toArray, List.map_cons, List.map_nil, Option.toArray_none, Option.toArray_some, Array.append_empty, List.getElem?_toArray, List.getElem?_cons_succ, List.getElem?_cons_zero, Option.bind_some, Option.toList_some]; unfold rOne
        go_wp2_with (go_at_call 26; (with_reducible refine (unhide N4 _).mono ?_); rintro e w2 ⟨rfl, hb1⟩)
        first | exact ⟨hb1, by simp only [opGot, Array.getD_eq_getD_getElem?, List.getElem?_toArray, List.getElem?_cons_succ, List.getElem?_cons_zero, Option.getD_some]⟩ | simp only [opGot, Array.getD_eq_getD_getElem?, List.getElem?_toArray, List.getElem?_cons_succ, List.getElem?_cons_zero, Option.getD_some]
      repeat (apply var_det; (intro x; simp only [List.nil_append, List.cons_append, List.map_cons, List.map_nil, depP, depG, finP, Option.some.injEq, Nat.reduceEqDiff, reduceCtorEq, ↓reduceIte]; simp only [List.filter_cons, List.filter_nil, lookT, Oper.looksAt, Op.operands, Call.operands, List.filterMap_cons, List.filterMap_nil, List.append_nil, List.contains_cons, List.contains_nil, Nat.reduceBEq, Bool.or_false, Bool.false_or, Bool.or_true, Bool.true_or, Bool.false_eq_true, if_true, if_false, withD_nil, withD_det, List.nil_append, List.cons_append, ↓reduceIte, List.push_toArray, List.append_toArray, List.map_cons, List.map_nil, Option.toArray_none, Option.toArray_some, Array.append_empty, List.getElem?_toArray, List.getElem?_cons_succ, List.getElem?_cons_zero, Option.bind_some, Option.toList_some]; unfold rOne; go_wp2_with fail; (first | (refine ⟨Below.refl _ _, ?_⟩; simp only [opGot, Array.getD_eq_getD_getElem?, List.getElem?_toArray, List.getElem?_cons_succ, List.getElem?_cons_zero, Option.getD_some]; exact rfl) | (refine ⟨by assumption, ?_⟩; simp only [opGot, Array.getD_eq_getD_getElem?, List.getElem?_toArray, List.getElem?_cons_succ, List.getElem?_cons_zero, Option.getD_some]; exact rfl) | (simp only [opGot, Array.getD_eq_getD_getElem?, List.getElem?_toArray, List.getElem?_cons_succ, List.getElem?_cons_zero, Option.getD_some]; exact rfl))))
      refine var_det (.agg #[.int .i64 6, .int .u64 (n4 : Int)]) ?_ ?_
      · intro y; simp only [List.nil_append, List.cons_append, List.map_cons, List.map_nil, depP, depG, finP, Option.some.injEq, Nat.reduceEqDiff, reduceCtorEq, ↓reduceIte]; simp only [List.filter_cons, List.filter_nil, lookT, Oper.looksAt, Op.operands, Call.operands, List.filterMap_cons, List.filterMap_nil, List.append_nil, List.contains_cons, List.contains_nil, Nat.reduceBEq, Bool.or_false, Bool.false_or, Bool.or_true, Bool.true_or, Bool.false_eq_true, if_true, if_false, withD_nil, withD_det, List.nil_append, List.cons_append, ↓reduceIte, List.push_toArray, List.append_toArray, List.map_cons, List.map_nil, Option.toArray_none, Option.toArray_some, Array.append_empty, List.getElem?_toArray, List.getElem?_cons_succ, List.getElem?_cons_zero, Option.bind_some, Option.toList_some]; unfold rOne
        go_wp2_with (go_at_call 26; (with_reducible refine (unhide N5 _).mono ?_); rintro e w2 ⟨rfl, hb1⟩)
        first | exact ⟨hb1, by simp only [opGot, Array.getD_eq_getD_getElem?, List.getElem?_toArray, List.getElem?_cons_succ, List.getElem?_cons_zero, Option.getD_some]⟩ | simp only [opGot, Array.getD_eq_getD_getElem?, List.getElem?_toArray, List.getElem?_cons_succ, List.getElem?_cons_zero, Option.getD_some]
      repeat (apply var_det; (intro x; simp only [List.nil_append, List.cons_append, List.map_cons, List.map_nil, depP, depG, finP, Option.some.injEq, Nat.reduceEqDiff, reduceCtorEq, ↓reduceIte]; simp only [List.filter_cons, List.filter_nil, lookT, Oper.looksAt, Op.operands, Call.operands, List.filterMap_cons, List.filterMap_nil, List.append_nil, List.contains_cons, List.contains_nil, Nat.reduceBEq, Bool.or_false, Bool.false_or, Bool.or_true, Bool.true_or, Bool.false_eq_true, if_true, if_false, withD_nil, withD_det, List.nil_append, List.cons_append, ↓reduceIte, List.push_toArray, List.append_toArray, List.map_cons, List.map_nil, Option.toArray_none, Option.toArray_some, Array.append_empty, List.getElem?_toArray, List.getElem?_cons_succ, List.getElem?_cons_zero, Option.bind_some, Option.toList_some]; unfold rOne; go_wp2_with fail; (first | (refine ⟨Below.refl _ _, ?_⟩; simp only [opGot, Array.getD_eq_getD_getElem?, List.getElem?_toArray, List.getElem?_cons_succ, List.getElem?_cons_zero, Option.getD_some]; exact rfl) | (refine ⟨by assumption, ?_⟩; simp only [opGot, Array.getD_eq_getD_getElem?, List.getElem?_toArray, List.getElem?_cons_succ, List.getElem?_cons_zero, Option.getD_some]; exact rfl) | (simp only [opGot, Array.getD_eq_getD_getElem?, List.getElem?_toArray, List.getElem?_cons_succ, List.getElem?_cons_zero, Option.getD_some]; exact rfl))))
      refine var_det (.agg #[.int .i64 4, .int .u64 (n5 : Int)]) ?_ ?_
      · intro y; simp only [List.nil_append, List.cons_append, List.map_cons, List.map_nil, depP, depG, finP, Option.some.injEq, Nat.reduceEqDiff, reduceCtorEq, ↓reduceIte]; simp only [List.filter_cons, List.filter_nil, lookT, Oper.looksAt, Op.operands, Call.operands, List.filterMap_cons, List.filterMap_nil, List.append_nil, List.contains_cons, List.contains_nil, Nat.reduceBEq, Bool.or_false, Bool.false_or, Bool.or_true, Bool.true_or, Bool.false_eq_true, if_true, if_false, withD_nil, withD_det, List.nil_append, List.cons_append, ↓reduceIte, List.push_toArray, List.append_toArray, List.map_cons, List.map_nil, Option.toArray_none, Option.toArray_some, Array.append_empty, List.getElem?_toArray, List.getElem?_cons_succ, List.getElem?_cons_zero, Option.bind_some, Option.toList_some]; unfold rOne
        go_wp2_with (go_at_call 26; (with_reducible refine (unhide N6 _).mono ?_); rintro e w2 ⟨rfl, hb1⟩)
        first | exact ⟨hb1, by simp only [opGot, Array.getD_eq_getD_getElem?, List.getElem?_toArray, List.getElem?_cons_succ, List.getElem?_cons_zero, Option.getD_some]⟩ | simp only [opGot, Array.getD_eq_getD_getElem?, List.getElem?_toArray, List.getElem?_cons_succ, List.getElem?_cons_zero, Option.getD_some]
      refine var_step (fun v w => ∃ g, v = .slice (some ⟨g, 0, none⟩) 7 7 ∧ w.ownsRow w1.heap.size 63 2 v 7 ((inoN0 (n0 : Int) x).flatMap numC)) (fun v w w' h hg => by obtain ⟨g, h1, h2⟩ := h; exact ⟨g, h1, own_below_keep h2 hg.nil⟩) ?_ ?_
      · intro y; simp only [List.nil_append, List.cons_append, List.map_cons, List.map_nil, depP, depG, finP, Option.some.injEq, Nat.reduceEqDiff, reduceCtorEq, ↓reduceIte]; simp only [List.filter_cons, List.filter_nil, lookT, Oper.looksAt, Op.operands, Call.operands, List.filterMap_cons, List.filterMap_nil, List.append_nil, List.contains_cons, List.contains_nil, Nat.reduceBEq, Bool.or_false, Bool.false_or, Bool.or_true, Bool.true_or, Bool.false_eq_true, if_true, if_false, withD_nil, withD_det, List.nil_append, List.cons_append, ↓reduceIte, List.push_toArray, List.append_toArray, List.map_cons, List.map_nil, Option.toArray_none, Option.toArray_some, Array.append_empty, List.getElem?_toArray, List.getElem?_cons_succ, List.getElem?_cons_zero, Option.bind_some, Option.toList_some]; unfold rOne; go_wp2_with fail
        simp only [opGot, Array.getD_eq_getD_getElem?, List.getElem?_toArray, List.getElem?_cons_succ, List.getElem?_cons_zero, Option.getD_some]
        refine ⟨box1, ⟨_, rfl⟩, ?_⟩
        rw [hN0.out]
        exact World.ownsRow_lit (base := w1.heap.size) (e := 63) (size := 2) y.w #[.int .i64 4, .int .u64 1768845156, .int .i64 1, .int .u64 (n0 : Int), .int .i64 1, .int .u64 (n1 : Int), .int .i64 1, .int .u64 (n2 : Int), .int .i64 4, .int .u64 (n3 : Int), .int .i64 6, .int .u64 (n4 : Int), .int .i64 4, .int .u64 (n5 : Int)] 7 y.h.size (by unfold maxLen; omega) rfl
      refine var_step (fun v w => ∃ g, v = .slice (some ⟨g, 0, none⟩) 7 7 ∧ w.ownsRow w1.heap.size 63 2 v 7 ((inoN0 (n0 : Int) x).flatMap numC)) (fun v w w' h hg => by obtain ⟨g, h1, h2⟩ := h; exact ⟨g, h1, own_below_keep h2 hg.nil⟩) ?_ ?_
      · intro y; simp only [List.nil_append, List.cons_append, List.map_cons, List.map_nil, depP, depG, finP, Option.some.injEq, Nat.reduceEqDiff, reduceCtorEq, ↓reduceIte]; simp only [List.filter_cons, List.filter_nil, lookT, Oper.looksAt, Op.operands, Call.operands, List.filterMap_cons, List.filterMap_nil, List.append_nil, List.contains_cons, List.contains_nil, Nat.reduceBEq, Bool.or_false, Bool.false_or, Bool.or_true, Bool.true_or, Bool.false_eq_true, if_true, if_false, withD_nil, withD_det, List.nil_append, List.cons_append, ↓reduceIte, List.push_toArray, List.append_toArray, List.map_cons, List.map_nil, Option.toArray_none, Option.toArray_some, Array.append_empty, List.getElem?_toArray, List.getElem?_cons_succ, List.getElem?_cons_zero, Option.bind_some, Option.toList_some]; rw [withD_pr]; rintro v ⟨g, rfl, hO⟩; simp only [withD_det, withD_nil, Act.put, List.setIfInBounds_toArray, List.set_cons_succ, List.set_cons_zero]; unfold rOne; go_wp2_with fail
        simp only [opGot, Array.getD_eq_getD_getElem?, List.getElem?_toArray, List.getElem?_cons_succ, List.getElem?_cons_zero, Option.getD_some]
        exact ⟨Below.refl _ _, ⟨_, rfl⟩, hO⟩
      refine var_nil rfl ?_
      intro y
      simp only [List.nil_append, List.cons_append, List.map_cons, List.map_nil, depP, depG, finP, Option.some.injEq, Nat.reduceEqDiff, reduceCtorEq, ↓reduceIte]; simp only [List.filter_cons, List.filter_nil, lookT, Oper.looksAt, Op.operands, Call.operands, List.filterMap_cons, List.filterMap_nil, List.append_nil, List.contains_cons, List.contains_nil, Nat.reduceBEq, Bool.or_false, Bool.false_or, Bool.or_true, Bool.true_or, Bool.false_eq_true, if_true, if_false, withD_nil, withD_det, List.nil_append, List.cons_append, ↓reduceIte, List.push_toArray, List.append_toArray, List.map_cons, List.map_nil, Option.toArray_none, Option.toArray_some, Array.append_empty, List.getElem?_toArray, List.getElem?_cons_succ, List.getElem?_cons_zero, Option.bind_some, Option.toList_some]
      rw [withD_pr]; rintro v ⟨g1, rfl, _⟩
      try simp only [withD_det]
      rw [withD_pr]; rintro v ⟨g, rfl, hO⟩
      simp only [withD_det, withD_nil, Act.put, List.setIfInBounds_toArray, List.set_cons_succ, List.set_cons_zero]
      replace B0 := hide (B0.out.below y.h B0.out.lt); replace hb := hide (nextB hb.out y.h); replace hO := hide hO
      have hsz := y.h.size
      have hb0 := hide y.h
      generalize y.w = W at B0 hb hO hsz hb0 ⊢
      clear k0 k1 k2 k3 k4 N0 N1 N2 N3 N4 N5 N6 c0 c1 c2 c3 c4
      have P2 := hide (PN.out W (ino_rd B0.out))
      go_wp2_with (first
        | (go_at_call 28; (with_reducible refine (unhide P2).mono ?_); rintro e w4 ⟨A4, c4, rfl, ho4, hb4⟩; replace hO := hide (own_below_keep hO.out hb4); replace ho4 := hide ho4; have hb5 := hide hb4; clear hb4)
        | (at_builtin; refine wpList_app rfl _ _ rfl Try.el_num w1.heap.size _ _ _ _ rfl hO.out _ _ _ ((numsI x.ps).flatMap numC) rfl (Rd.of_own ho4.out) (by rw [flat_length numC_len, numsI_len, h9'.out]) (one_num _) (by unfold maxLen; omega) (by omega) (by have := hb5.out.size; omega) ?_; intro A6 c6 w6 ho1 hc1 hg1; have F := hide (sealed_any A6 25 c6 (inoN (n0 : Int) x) w6 (by unfold inoN; rw [List.flatMap_append]; exact Rd.of_own ho1) hn.out (by decide) hf.out (by rw [hl.out]; decide)))
        | (go_at_call 27; (with_reducible refine (unhide F).mono ?_); rintro e w8 ⟨A8, c8, rfl, hr8, hc8, hb8⟩))
      go_ret2
      have hM : MadeR w (inoB (n0 : Int) x, 0) (.returned (.tuple #[.slice A8 (sealB (packB (inoN (n0 : Int) x))).length c8, .int .i64 0])) w8 :=
        ⟨A8, c8, rfl, hr8, hc8, nextB (nextB hbw.out ((nextB hb0.out hb5.out).grown hg1 (by have := hb5.out.size; omega) (fun k hk => (hO.out.lt k hk).1))) hb8⟩
      exact hM
    · rw [decide_eq_false hm] at C
      replace C := hide C
      have he : encI ino x = ([], 1) := if_neg (fun h => hm h.2)
      rw [he]
      clear he hm hi hs h9
      go_enter Try.func8, Try.ntmps8
      go_wp2_with (first
        | (go_at_call 25; (with_reducible refine (unhide I _).mono ?_); rintro e w1 ⟨rfl, rfl⟩)
        | ((with_reducible refine load_ino (.tmp 3) rfl ?_ _ ?_ x B0.out HZ.out ?_); (next => rfl); (next => rfl))
        | (go_at_call 9; (with_reducible refine (unhide C _).mono ?_); rintro e w1 ⟨rfl, hb1⟩; replace B0 := hide (B0.out.below hb1 B0.out.lt); replace hb := hide (nextB hb.out hb1); clear hb1))
      go_ret2
      exact (show MadeR w ([], 1) _ _ from ⟨none, 0, rfl, .inl rfl, Nat.le_refl _, hb.out⟩)
  · rw [decide_eq_false hi] at I
    replace I := hide I
    have he : encI ino x = ([], 1) := if_neg (fun h => hi h.1)
    rw [he]
    clear he hi hs h9
    go_enter Try.func8, Try.ntmps8
    go_wp2_with (first
      | (go_at_call 25; (with_reducible refine (unhide I _).mono ?_); rintro e w1 ⟨rfl, rfl⟩))
    go_ret2
    exact (show MadeR w ([], 1) _ _ from ⟨none, 0, rfl, .inl rfl, Nat.le_refl _, hb.out⟩)
end Go.Proofs.Ytobiepjnnglglaa
