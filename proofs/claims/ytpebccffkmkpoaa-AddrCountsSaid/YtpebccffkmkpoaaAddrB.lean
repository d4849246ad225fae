import Derived.Test.YtpebccffkmkpoaaAddrA
namespace Go.Proofs.Ytpebccffkmkpoaa
open Go.RowKit

theorem blk4 {w : World} {g : Nat} {t : TypeId} {a b c d : Value} (h : Blk w g t #[a, b, c, d]) :
    w.cell? ⟨g, 0, none⟩ = some a ∧ w.cell? ⟨g, 1, none⟩ = some b ∧ w.cell? ⟨g, 2, none⟩ = some c ∧ w.cell? ⟨g, 3, none⟩ = some d :=
  ⟨h.cell_ 0 _ rfl, h.cell_ 1 _ rfl, h.cell_ 2 _ rfl, h.cell_ 3 _ rfl⟩
theorem blk3 {w : World} {g : Nat} {t : TypeId} {a b c : Value} (h : Blk w g t #[a, b, c]) :
    w.cell? ⟨g, 0, none⟩ = some a ∧ w.cell? ⟨g, 1, none⟩ = some b ∧ w.cell? ⟨g, 2, none⟩ = some c :=
  ⟨h.cell_ 0 _ rfl, h.cell_ 1 _ rfl, h.cell_ 2 _ rfl⟩
set_option maxHeartbeats 1000000 in
theorem segments_any (D L V S : Int) (w : World) :
    Calls Try.prog 12 #[.agg #[.int .i64 D, .int .i64 L, .int .i64 V, .int .i64 S]] w fun e w' => e = .returned (.int .i64 (segsG D L V S)) ∧ Below w.heap.size w w' := by
  unfold segsG
  by_cases h : mayG D L V S
  · have hs := segsG_small h
    rw [if_pos h]
    have C := fun w => may_any D L V S w
    rw [decide_eq_true h] at C
    have C := hide C
    unfold mayG at h
    obtain ⟨h1, h2, _, _, h5, h6, h7, h8⟩ := h
    obtain ⟨m, hm⟩ : ∃ m, V * S = m := ⟨_, rfl⟩
    rw [hm] at hs ⊢
    obtain ⟨h9, h10⟩ := hs
    go_enter Try.func12, Try.ntmps12
    go_wp2_with (go_at_call 11; refine (unhide C _).mono ?_; rintro e w1 ⟨rfl, hb1⟩; have B1 := (Blk.new w _ _).below hb1 (by simp); obtain ⟨c0, c1, c2, c3⟩ := blk4 B1; have B1 := hide B1)
    go_ret
    exact ⟨rfl, nextB box1 hb1⟩
  · rw [if_neg h]
    have C := fun w => may_any D L V S w
    rw [decide_eq_false h] at C
    have C := hide C
    go_enter Try.func12, Try.ntmps12
    go_wp2_with (go_at_call 11; refine (unhide C _).mono ?_; rintro e w1 ⟨rfl, hb1⟩; have B1 := (Blk.new w _ _).below hb1 (by simp); obtain ⟨c0, c1, c2, c3⟩ := blk4 B1; have B1 := hide B1)
    go_ret
    exact ⟨rfl, nextB box1 hb1⟩

set_option maxHeartbeats 1000000 in
theorem blocks_any (D L V S : Int) (w : World) :
    Calls Try.prog 13 #[.agg #[.int .i64 D, .int .i64 L, .int .i64 V, .int .i64 S]] w fun e w' => e = .returned (.int .i64 (segsG D L V S * 16)) ∧ Below w.heap.size w w' := by
  have hs := segsG_bound D L V S
  obtain ⟨m, hm⟩ : ∃ m, segsG D L V S = m := ⟨_, rfl⟩
  rw [hm] at hs ⊢
  obtain ⟨h9, h10⟩ := hs
  have C := fun w => segments_any D L V S w
  rw [hm] at C
  have C := hide C
  clear hm
  go_enter Try.func13, Try.ntmps13
  go_wp2_with (go_at_call 12; refine (unhide C _).mono ?_; rintro e w1 ⟨rfl, hb1⟩)
  go_ret
  exact ⟨rfl, nextB box1 hb1⟩

set_option maxHeartbeats 1000000 in
theorem segment_any (D L V S a : Int) (w : World) (ha : (Lit.int .i64 a).wf = true) :
    Calls Try.prog 16 #[.agg #[.int .i64 D, .int .i64 L, .int .i64 V, .int .i64 S], .int .i64 a] w fun e w' => e = .returned (.tuple #[.int .i64 (segG D L V S a).1, .int .i64 (segG D L V S a).2]) ∧ Below w.heap.size w w' := by
  simp [Lit.wf, IntKind.min, IntKind.max, IntKind.bits, IntKind.signed] at ha
  unfold segG
  have C := fun w => may_any D L V S w
  have C2 := fun w => blocks_any D L V S w
  obtain ⟨n, hn⟩ : ∃ n, segsG D L V S = n := ⟨_, rfl⟩
  rw [hn] at C2 ⊢
  have C2 := hide C2
  clear hn
  by_cases h : mayG D L V S
  · rw [if_neg (by simp [h])]
    rw [decide_eq_true h] at C
    have C := hide C
    clear h
    by_cases h1 : a < 1
    · rw [if_pos (.inl h1)]
      go_enter Try.func16, Try.ntmps16
      go_wp2_with (go_at_call 11; refine (unhide C _).mono ?_; rintro e w1 ⟨rfl, hb1⟩; have B1 := (Blk.new w _ _).below hb1 (by simp); obtain ⟨c0, c1, c2, c3⟩ := blk4 B1; have B1 := hide B1)
      go_ret2
      exact ⟨rfl, nextB box1 hb1⟩
    · by_cases h2 : n * 16 < a
      · rw [if_pos (.inr h2)]
        go_enter Try.func16, Try.ntmps16
        go_wp2_with (first
          | (go_at_call 11; refine (unhide C _).mono ?_; rintro e w1 ⟨rfl, hb1⟩; have B1 := (Blk.new w _ _).below hb1 (by simp); obtain ⟨c0, c1, c2, c3⟩ := blk4 B1; have B1 := hide B1)
          | (go_at_call 13; refine (unhide C2 _).mono ?_; rintro e w2 ⟨rfl, hb2⟩))
        go_ret2
        exact ⟨rfl, nextB (nextB box1 hb1) hb2⟩
      · rw [if_neg (by omega)]
        go_enter Try.func16, Try.ntmps16
        go_wp2_with (first
          | (go_at_call 11; refine (unhide C _).mono ?_; rintro e w1 ⟨rfl, hb1⟩; have B1 := (Blk.new w _ _).below hb1 (by simp); obtain ⟨c0, c1, c2, c3⟩ := blk4 B1; have B1 := hide B1)
          | (go_at_call 13; refine (unhide C2 _).mono ?_; rintro e w2 ⟨rfl, hb2⟩))
        go_ret2
        exact ⟨rfl, nextB (nextB box1 hb1) hb2⟩
  · rw [if_pos h]
    rw [decide_eq_false h] at C
    have C := hide C
    clear h
    go_enter Try.func16, Try.ntmps16
    go_wp2_with (go_at_call 11; refine (unhide C _).mono ?_; rintro e w1 ⟨rfl, hb1⟩)
    go_ret2
    exact ⟨rfl, nextB box1 hb1⟩
end Go.Proofs.Ytpebccffkmkpoaa
