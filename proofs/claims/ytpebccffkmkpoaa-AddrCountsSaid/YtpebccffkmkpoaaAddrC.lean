import Derived.Test.YtpebccffkmkpoaaAddrB
namespace Go.Proofs.Ytpebccffkmkpoaa
open Go.RowKit

theorem ext4 {w0 : World} {g : Nat} {t : TypeId} {a b c d : Value} (h : Blk w0 g t #[a, b, c, d]) :
    (∀ x : Ext w0, x.w.cell? ⟨g, 0, none⟩ = some a) ∧ (∀ x : Ext w0, x.w.cell? ⟨g, 1, none⟩ = some b) ∧ (∀ x : Ext w0, x.w.cell? ⟨g, 2, none⟩ = some c) ∧ (∀ x : Ext w0, x.w.cell? ⟨g, 3, none⟩ = some d) :=
  ⟨fun x => (h.below x.h h.lt).cell_ 0 _ rfl, fun x => (h.below x.h h.lt).cell_ 1 _ rfl, fun x => (h.below x.h h.lt).cell_ 2 _ rfl, fun x => (h.below x.h h.lt).cell_ 3 _ rfl⟩
theorem ext3 {w0 : World} {g : Nat} {t : TypeId} {a b c : Value} (h : Blk w0 g t #[a, b, c]) :
    (∀ x : Ext w0, x.w.cell? ⟨g, 0, none⟩ = some a) ∧ (∀ x : Ext w0, x.w.cell? ⟨g, 1, none⟩ = some b) ∧ (∀ x : Ext w0, x.w.cell? ⟨g, 2, none⟩ = some c) :=
  ⟨fun x => (h.below x.h h.lt).cell_ 0 _ rfl, fun x => (h.below x.h h.lt).cell_ 1 _ rfl, fun x => (h.below x.h h.lt).cell_ 2 _ rfl⟩

set_option maxHeartbeats 1000000 in
theorem first_any (D L V S a : Int) (w : World) (ha : (Lit.int .i64 a).wf = true) :
    Calls Try.prog 17 #[.agg #[.int .i64 D, .int .i64 L, .int .i64 V, .int .i64 S], .int .i64 a] w fun e w' => e = .returned (.tuple #[.int .i64 (firstG D L V S a).1, .int .i64 (firstG D L V S a).2]) ∧ Below w.heap.size w w' := by
  simp [Lit.wf, IntKind.min, IntKind.max, IntKind.bits, IntKind.signed] at ha
  unfold firstG
  have C := fun w => may_any D L V S w
  have C2 := fun w => segments_any D L V S w
  have hs := segsG_bound D L V S
  obtain ⟨n, hn⟩ : ∃ n, segsG D L V S = n := ⟨_, rfl⟩
  rw [hn] at C2 hs ⊢
  have C2 := hide C2
  clear hn
  by_cases h : mayG D L V S
  · rw [if_neg (by simp [h])]
    rw [decide_eq_true h] at C
    have C := hide C
    clear h
    by_cases h1 : a < 0
    · rw [if_pos (.inl h1)]
      go_enter Try.func17, Try.ntmps17
      go_wp2_with (go_at_call 11; refine (unhide C _).mono ?_; rintro e w1 ⟨rfl, hb1⟩; have B1 := (Blk.new w _ _).below hb1 (by simp); obtain ⟨c0, c1, c2, c3⟩ := blk4 B1; have B1 := hide B1)
      go_ret2
      exact ⟨rfl, nextB box1 hb1⟩
    · by_cases h2 : n ≤ a
      · rw [if_pos (.inr h2)]
        go_enter Try.func17, Try.ntmps17
        go_wp2_with (first
          | (go_at_call 11; refine (unhide C _).mono ?_; rintro e w1 ⟨rfl, hb1⟩; have B1 := (Blk.new w _ _).below hb1 (by simp); obtain ⟨c0, c1, c2, c3⟩ := blk4 B1; have B1 := hide B1)
          | (go_at_call 12; refine (unhide C2 _).mono ?_; rintro e w2 ⟨rfl, hb2⟩))
        go_ret2
        exact ⟨rfl, nextB (nextB box1 hb1) hb2⟩
      · rw [if_neg (by omega)]
        go_enter Try.func17, Try.ntmps17
        go_wp2_with (first
          | (go_at_call 11; refine (unhide C _).mono ?_; rintro e w1 ⟨rfl, hb1⟩; have B1 := (Blk.new w _ _).below hb1 (by simp); obtain ⟨c0, c1, c2, c3⟩ := blk4 B1; have B1 := hide B1)
          | (go_at_call 12; refine (unhide C2 _).mono ?_; rintro e w2 ⟨rfl, hb2⟩))
        go_ret2
        exact ⟨rfl, nextB (nextB box1 hb1) hb2⟩
  · rw [if_pos h]
    rw [decide_eq_false h] at C
    have C := hide C
    clear h
    go_enter Try.func17, Try.ntmps17
    go_wp2_with (go_at_call 11; refine (unhide C _).mono ?_; rintro e w1 ⟨rfl, hb1⟩)
    go_ret2
    exact ⟨rfl, nextB box1 hb1⟩

set_option maxHeartbeats 1000000 in
theorem is_any (D L V S v s o : Int) (w : World) :
    Calls Try.prog 28 #[.agg #[.int .i64 D, .int .i64 L, .int .i64 V, .int .i64 S], .agg #[.int .i64 v, .int .i64 s, .int .i64 o]] w fun e w' => e = .returned (.bool (decide (isP D V S v s o))) ∧ Below w.heap.size w w' := by
  obtain ⟨q, hq⟩ : ∃ q : Bool, decide (isP D V S v s o) = q := ⟨_, rfl⟩
  obtain ⟨z, hz⟩ : ∃ z, z = (if v = -1 then D else S) := ⟨_, rfl⟩
  have hq2 : q = true ↔ (-1 ≤ v ∧ v < V ∧ 0 ≤ s ∧ s < z ∧ 0 ≤ o ∧ o < 16) := by
    rw [← hq, decide_eq_true_iff, hz]; rfl
  rw [hq]
  clear hq
  have Q := hide hq2; clear hq2
  by_cases h1 : -1 ≤ v
  by_cases h2 : v < V
  by_cases h3 : 0 ≤ s
  by_cases h4 : s < z
  by_cases h5 : 0 ≤ o
  by_cases h6 : o < 16
  all_goals by_cases h0 : v = -1
  all_goals first | rw [if_pos h0] at hz | rw [if_neg h0] at hz
  all_goals subst hz
  all_goals try (exfalso; omega)
  all_goals try subst h0
  all_goals
    go_enter Try.func28, Try.ntmps28
    go_wp2_with fail
    go_ret
    exact ⟨ret_bool (by have hq := Q.out; cases q <;> simp at hq ⊢ <;> omega), box2⟩
end Go.Proofs.Ytpebccffkmkpoaa
