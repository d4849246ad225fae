import Derived.Test.YtpebccffkmkpoaaAddrT
import Derived.Test.YtpebccffkmkpoaaAddrC
import Derived.Test.YtpebccffkmkpoaaAddrN
import Derived.Test.YtpebccffkmkpoaaRely
namespace Go.Proofs.Ytpebccffkmkpoaa
open Go.RowKit
theorem blk1G {w w1 : World} {t : TypeId} {cs : Array Value} (h : Below (w.alloc (.cells cs t)).heap.size (w.alloc (.cells cs t)) w1) : Blk w1 w.heap.size t cs :=
  (Blk.new w _ _).below h (by simp)
/-- an address's tier -/
def tierG (D L V S a : Int) : Int := if (segG D L V S a).2 ≠ 0 then -1 else if (segG D L V S a).1 < D - L then 0 else if (segG D L V S a).1 < D then 1 else 2

set_option maxHeartbeats 1000000 in
theorem tier_any (D L V S a : Int) (w : World) (ha : (Lit.int .i64 a).wf = true) :
    Calls Try.prog 15 #[.agg #[.int .i64 D, .int .i64 L, .int .i64 V, .int .i64 S], .int .i64 a] w fun e w' => e = .returned (.int .i64 (tierG D L V S a)) ∧ Below w.heap.size w w' := by
  have C := segment_any D L V S a
  unfold tierG
  have hok : (segG D L V S a).2 = 0 → mayG D L V S ∧ 0 ≤ (segG D L V S a).1 ∧ (segG D L V S a).1 < segsG D L V S := by
    intro h
    have := segsG_bound D L V S
    unfold segG at h ⊢
    by_cases hm : mayG D L V S
    · rw [if_neg (by simp [hm])] at h ⊢
      refine ⟨hm, ?_⟩
      by_cases ha : a < 1 ∨ segsG D L V S * 16 < a
      · rw [if_pos ha] at h; cases h
      · rw [if_neg ha]
        simp only
        omega
    · rw [if_pos hm] at h; cases h
  obtain ⟨n, hn⟩ : ∃ n, (segG D L V S a).1 = n := ⟨_, rfl⟩
  obtain ⟨q, hq⟩ : ∃ q, (segG D L V S a).2 = q := ⟨_, rfl⟩
  rw [hn, hq] at C hok
  rw [hn, hq]
  have C := hide (fun w => C w ha)
  clear hn hq ha
  by_cases hz : q = 0
  · subst hz
    rw [if_neg (by simp)]
    obtain ⟨hm, n0, n1⟩ := hok rfl
    have C2 := segments_any D L V S
    have hsb := segsG_bound D L V S
    obtain ⟨N, hN⟩ : ∃ N, segsG D L V S = N := ⟨_, rfl⟩
    rw [hN] at C2 n1 hsb
    have C2 := hide C2
    clear hN hok
    unfold mayG at hm
    obtain ⟨hD, hD2, hL, hL2, _⟩ := hm
    obtain ⟨hN0, hN1⟩ := hsb
    obtain ⟨r, hr3, hr, hno, hy⟩ : ∃ r : Nat, r < 3 ∧ (if n < D - L then (0 : Int) else if n < D then 1 else 2) = (r : Int) ∧ (∀ j x, j < r → [D - L, D, N][j]? = some x → x ≤ n) ∧ (∀ x, [D - L, D, N][r]? = some x → n < x) := by
      by_cases h1 : n < D - L
      · exact ⟨0, by omega, by rw [if_pos h1]; rfl, by intro j x hj; omega, by intro x hx; simp at hx; omega⟩
      · by_cases h2 : n < D
        · refine ⟨1, by omega, by rw [if_neg h1, if_pos h2]; rfl, ?_, by intro x hx; simp at hx; omega⟩
          intro j x hj hx
          obtain rfl : j = 0 := by omega
          simp at hx; omega
        · refine ⟨2, by omega, by rw [if_neg h1, if_neg h2]; rfl, ?_, by intro x hx; simp at hx; omega⟩
          intro j x hj hx
          rcases (show j = 0 ∨ j = 1 by omega) with rfl | rfl <;> simp at hx <;> omega
    rw [hr]
    have Hno := hide hno; have Hy := hide hy; clear hno hy hr
    have hmf : ∀ (fn : Fn) (first cap : Array Value) (w : World), (Instr.makeFunc fn first cap).run Try.prog w = .ok (.func fn first cap) w := fun _ _ _ _ => rfl
    go_enter Try.func15, Try.ntmps15
    go_wp2_with (go_at_call 16; refine (unhide C _).mono ?_; rintro e w1 ⟨rfl, hb1⟩; have B1 := hide (blk1G hb1))
    have k1 := hide (nextB box1 hb1)
    have B2 := hide (B1.out.alloc (.cells #[.int .i64 n] 3))
    have B3 := hide (Blk.new w1 3 #[.int .i64 n])
    have k2 := hide (k1.out.alloc k1.out.size (.cells #[.int .i64 n] 3))
    generalize (w1.alloc _) = W at B2 B3 k2 ⊢
    obtain ⟨g, hg⟩ : ∃ g, g = w1.heap.size := ⟨_, rfl⟩
    rw [← hg] at B3 ⊢
    clear hg hb1 B1 k1
    obtain ⟨c0, c1, c2, c3⟩ := blk4 B2.out
    have d0 := B3.out.cell_ 0 _ rfl
    obtain ⟨f0, f1, f2, f3⟩ := ext4 B2.out
    have h0 := fun x : Ext W => (B3.out.below x.h B3.out.lt).cell_ 0 _ rfl
    refine wp_region_rel W (by kernel_rfl) (by kernel_rfl) (Below.refl _ _) ?_
    repeat (apply rel_det; (intro x; simp only [List.filter_cons, List.filter_nil, lookT, Oper.looksAt, Op.operands, Call.operands, List.filterMap_cons, List.filterMap_nil, List.append_nil, List.contains_cons, List.contains_nil, Nat.reduceBEq, Bool.or_false, Bool.false_or, Bool.or_true, Bool.true_or, Bool.false_eq_true, if_true, if_false, withD_nil, withD_det, List.nil_append, List.cons_append, ↓reduceIte, List.push_toArray, List.append_toArray, List.map_cons, List.map_nil]; unfold rOne; go_wp2_with fail; (first | (refine ⟨Below.refl _ _, ?_⟩; simp only [opGot, Array.getD_eq_getD_getElem?, List.getElem?_toArray, List.getElem?_cons_succ, List.getElem?_cons_zero, Option.getD_some]; exact rfl) | (refine ⟨by assumption, ?_⟩; simp only [opGot, Array.getD_eq_getD_getElem?, List.getElem?_toArray, List.getElem?_cons_succ, List.getElem?_cons_zero, Option.getD_some]; exact rfl) | (simp only [opGot, Array.getD_eq_getD_getElem?, List.getElem?_toArray, List.getElem?_cons_succ, List.getElem?_cons_zero, Option.getD_some]; exact rfl))))
    apply rel_det
    · intro x
      simp only [List.filter_cons, List.filter_nil, lookT, Oper.looksAt, Op.operands, Call.operands, List.filterMap_cons, List.filterMap_nil, List.append_nil, List.contains_cons, List.contains_nil, Nat.reduceBEq, Bool.or_false, Bool.false_or, Bool.or_true, Bool.true_or, Bool.false_eq_true, if_true, if_false, withD_nil, withD_det, List.nil_append, List.cons_append, ↓reduceIte, List.push_toArray, List.append_toArray, List.map_cons, List.map_nil]
      unfold rOne
      go_wp2_with (go_at_call 12; refine (unhide C2 _).mono ?_; rintro e w2 ⟨rfl, hb2⟩)
      (first | (refine ⟨Below.refl _ _, ?_⟩; simp only [opGot, Array.getD_eq_getD_getElem?, List.getElem?_toArray, List.getElem?_cons_succ, List.getElem?_cons_zero, Option.getD_some]; exact rfl) | (refine ⟨by assumption, ?_⟩; simp only [opGot, Array.getD_eq_getD_getElem?, List.getElem?_toArray, List.getElem?_cons_succ, List.getElem?_cons_zero, Option.getD_some]; exact rfl) | (simp only [opGot, Array.getD_eq_getD_getElem?, List.getElem?_toArray, List.getElem?_cons_succ, List.getElem?_cons_zero, Option.getD_some]; exact rfl))
    apply rel_step (fun v w => ∃ b, v = .slice (some ⟨b, 0, none⟩) 3 3 ∧ Blk w b 3 #[.int .i64 (D - L), .int .i64 D, .int .i64 N])
    · rintro v w w' ⟨b, rfl, hb⟩ h
      exact ⟨b, rfl, hb.below h hb.lt⟩
    · intro x
      simp only [List.filter_cons, List.filter_nil, lookT, Oper.looksAt, Op.operands, Call.operands, List.filterMap_cons, List.filterMap_nil, List.append_nil, List.contains_cons, List.contains_nil, Nat.reduceBEq, Bool.or_false, Bool.false_or, Bool.or_true, Bool.true_or, Bool.false_eq_true, if_true, if_false, withD_nil, withD_det, List.nil_append, List.cons_append, ↓reduceIte, List.push_toArray, List.append_toArray, List.map_cons, List.map_nil]
      unfold rOne
      go_wp2_with fail
      exact ⟨box1, _, rfl, Blk.new _ _ _⟩
    repeat (apply rel_det; (intro x; simp only [List.filter_cons, List.filter_nil, lookT, Oper.looksAt, Op.operands, Call.operands, List.filterMap_cons, List.filterMap_nil, List.append_nil, List.contains_cons, List.contains_nil, Nat.reduceBEq, Bool.or_false, Bool.false_or, Bool.or_true, Bool.true_or, Bool.false_eq_true, if_true, if_false, withD_nil, withD_det, List.nil_append, List.cons_append, ↓reduceIte, List.push_toArray, List.append_toArray, List.map_cons, List.map_nil]; unfold rOne; go_wp2_with fail; (first | (refine ⟨Below.refl _ _, ?_⟩; simp only [opGot, Array.getD_eq_getD_getElem?, List.getElem?_toArray, List.getElem?_cons_succ, List.getElem?_cons_zero, Option.getD_some]; exact rfl) | (refine ⟨by assumption, ?_⟩; simp only [opGot, Array.getD_eq_getD_getElem?, List.getElem?_toArray, List.getElem?_cons_succ, List.getElem?_cons_zero, Option.getD_some]; exact rfl) | (simp only [opGot, Array.getD_eq_getD_getElem?, List.getElem?_toArray, List.getElem?_cons_succ, List.getElem?_cons_zero, Option.getD_some]; exact rfl))))
    apply rel_det
    · intro x
      simp only [List.filter_cons, List.filter_nil, lookT, Oper.looksAt, Op.operands, Call.operands, List.filterMap_cons, List.filterMap_nil, List.append_nil, List.contains_cons, List.contains_nil, Nat.reduceBEq, Bool.or_false, Bool.false_or, Bool.or_true, Bool.true_or, Bool.false_eq_true, if_true, if_false, withD_nil, withD_det, List.nil_append, List.cons_append, ↓reduceIte, List.push_toArray, List.append_toArray, List.map_cons, List.map_nil]
      rw [withD_pr]
      rintro v ⟨b, rfl, hb⟩
      simp only [withD_det, withD_nil]
      unfold rOne
      go_wp2_with (go_at_call 26; refine (index_any _ 3 3 [D - L, D, N] n ⟨g, 0, none⟩ r _ hb.rd rfl (by decide) (h0 x) rfl hr3 Hno.out Hy.out).mono ?_; rintro e w3 ⟨rfl, rfl⟩)
      (first | (refine ⟨Below.refl _ _, ?_⟩; simp only [opGot, Array.getD_eq_getD_getElem?, List.getElem?_toArray, List.getElem?_cons_succ, List.getElem?_cons_zero, Option.getD_some]; exact rfl) | (refine ⟨by assumption, ?_⟩; simp only [opGot, Array.getD_eq_getD_getElem?, List.getElem?_toArray, List.getElem?_cons_succ, List.getElem?_cons_zero, Option.getD_some]; exact rfl) | (simp only [opGot, Array.getD_eq_getD_getElem?, List.getElem?_toArray, List.getElem?_cons_succ, List.getElem?_cons_zero, Option.getD_some]; exact rfl))
    repeat (apply rel_det; (intro x; simp only [List.filter_cons, List.filter_nil, lookT, Oper.looksAt, Op.operands, Call.operands, List.filterMap_cons, List.filterMap_nil, List.append_nil, List.contains_cons, List.contains_nil, Nat.reduceBEq, Bool.or_false, Bool.false_or, Bool.or_true, Bool.true_or, Bool.false_eq_true, if_true, if_false, withD_nil, withD_det, List.nil_append, List.cons_append, ↓reduceIte, List.push_toArray, List.append_toArray, List.map_cons, List.map_nil]; unfold rOne; go_wp2_with fail; (first | (refine ⟨Below.refl _ _, ?_⟩; simp only [opGot, Array.getD_eq_getD_getElem?, List.getElem?_toArray, List.getElem?_cons_succ, List.getElem?_cons_zero, Option.getD_some]; exact rfl) | (refine ⟨by assumption, ?_⟩; simp only [opGot, Array.getD_eq_getD_getElem?, List.getElem?_toArray, List.getElem?_cons_succ, List.getElem?_cons_zero, Option.getD_some]; exact rfl) | (simp only [opGot, Array.getD_eq_getD_getElem?, List.getElem?_toArray, List.getElem?_cons_succ, List.getElem?_cons_zero, Option.getD_some]; exact rfl))))
    refine rel_nil ?_
    intro x
    simp only [List.filter_cons, List.filter_nil, lookT, Oper.looksAt, Op.operands, Call.operands, List.filterMap_cons, List.filterMap_nil, List.append_nil, List.contains_cons, List.contains_nil, Nat.reduceBEq, Bool.or_false, Bool.false_or, Bool.or_true, Bool.true_or, Bool.false_eq_true, if_true, if_false, withD_nil, withD_det, List.nil_append, List.cons_append, ↓reduceIte, List.push_toArray, List.append_toArray, List.map_cons, List.map_nil]
    rw [withD_pr]
    rintro v ⟨b, rfl, hb⟩
    simp only [withD_det, withD_nil, Act.put, List.setIfInBounds_toArray, List.set_cons_succ, List.set_cons_zero]
    go_wp2_with fail
    go_ret
    exact ⟨rfl, nextB k2.out x.h⟩
  · rw [if_pos hz]
    clear hok
    go_enter Try.func15, Try.ntmps15
    go_wp2_with (go_at_call 16; refine (unhide C _).mono ?_; rintro e w1 ⟨rfl, hb1⟩)
    go_ret
    have k := nextB box1 hb1
    exact ⟨rfl, k.alloc k.size _⟩
end Go.Proofs.Ytpebccffkmkpoaa
