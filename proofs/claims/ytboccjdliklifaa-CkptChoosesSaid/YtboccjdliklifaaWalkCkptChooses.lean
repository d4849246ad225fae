import Derived.Test.YtboccjdliklifaaCkN
import Derived.Test.YtboccjdliklifaaOpenK
namespace Go.Proofs.Ytboccjdliklifaa
open Go.RowKit
set_option maxRecDepth 100000 in
set_option maxHeartbeats 8000000 in
theorem walk_CkptChooses (s0 s1 : Sl UInt8) (w : World) (h0 : s0.Ok w (fun c => [u8v c]) (fun _ => True)) (h1 : s1.Ok w (fun c => [u8v c]) (fun _ => True)) :
    Calls Try.prog 4 #[.slice s0.A s0.n s0.c, .slice s1.A s1.n s1.c] w fun e w' => e = .returned (.bool true) ∧ Below w.heap.size w w' := by
  obtain ⟨A, n, c, bs0⟩ := s0
  obtain ⟨A', d, c', bs1⟩ := s1
  obtain ⟨r0, l0, k0, _, _⟩ := h0
  obtain ⟨r1, l1, k1, _, _⟩ := h1
  simp only [flat_u8] at r0 l0 k0 r1 l1 k1 ⊢
  obtain ⟨xs, n', q0, g0, e0, f0, eb, case0⟩ := r0.few 200 l0 k0
  obtain ⟨ys, d', q1, g1, e1, f1, eb1, case1⟩ := r1.few 200 l1 k1
  clear eb eb1 r0 l0 r1 l1
  have F := hide (fun w => few_any A n c n' w k0 case0)
  have F' := hide (fun w => few_any A' d c' d' w k1 case1)
  have C := choose_any A A' n' c d' c' xs ys w q0 g0 f0 q1 g1 f1
  have R := fun w => chooseRef_any ⟨xs.toArray⟩ ⟨ys.toArray⟩ xs ys rfl rfl w (by show xs.toArray.size ≤ _; rw [List.size_toArray]; omega) (by show ys.toArray.size ≤ _; rw [List.size_toArray]; omega)
  rw [chooseR_eq] at R
  have hl := bestK_len xs ys 2
  have he : (chooseK xs ys).2 = 0 ∨ (chooseK xs ys).2 = 6 := by unfold chooseK; split; exact .inr rfl; exact .inl rfl
  have hl : CkLen (chooseK xs ys).1 := by unfold chooseK; split; exact ⟨rfl, rfl⟩; exact hl
  generalize chooseK xs ys = r at C R he hl
  obtain ⟨M, e⟩ := r
  simp only at C R he hl
  have ZM := hide (ck_size hl.1 hl.2)
  replace hl := hide hl
  have Q0 := hide q0; have Q1 := hide q1; have G0 := hide g0; have G1 := hide g1
  have hz := ck_zero
  have c9 : ∀ (w2 : World), Blk (w2.alloc (.cells (ckC ck0).toArray 28)) w2.heap.size 28 (ckC ck0).toArray := fun w2 => Blk.new w2 _ _
  clear q0 q1 g0 g1 case0 case1
  rcases he with rfl | rfl
  all_goals
    replace C := hide C; replace R := hide R
    go_enter Try.func4, Try.ntmps4
    go_wp2_with (first
      | (go_at_call 7; first | ((with_reducible refine (unhide F _).mono ?_); rintro e w' ⟨rfl, rfl⟩) | ((with_reducible refine (unhide F' _).mono ?_); rintro e w' ⟨rfl, rfl⟩))
      | (go_at_call 16; (with_reducible refine (unhide C).mono ?_); rintro e w1 ⟨rfl, hb1⟩; have hb := hide hb1; replace Q0 := hide (Q0.out.on hb1); replace Q1 := hide (Q1.out.on hb1); have B5 := hide (c9 w1))
      | ((with_reducible refine store_ck (.tmp 5) (.tmp 17) rfl rfl _ ?_ ck0 M ?_ B5.out ck0_size ZM.out ?_); (next => rfl); (next => rfl); replace B5 := hide (B5.out.row (ckC M).toArray); replace Q0 := hide (Q0.out.on (below_setRow (box1 (o := .cells (ckC ck0).toArray 28)) (Nat.le_refl _) (ckC M).toArray)); replace Q1 := hide (Q1.out.on (below_setRow (box1 (o := .cells (ckC ck0).toArray 28)) (Nat.le_refl _) (ckC M).toArray)); replace hb := hide (nextB hb.out (below_setRow (box1 (o := .cells (ckC ck0).toArray 28)) (Nat.le_refl _) (ckC M).toArray)); generalize ((w1.alloc (.cells (ckC ck0).toArray 28)).setRow w1.heap.size (ckC M).toArray) = W2 at B5 Q0 Q1 hb ⊢; have s0 := run_str (P := Try.prog) (bs := xs) (n := n') (c := c) 29 9 5 Try.underlying29 Try.underlying5 Try.underlying9 Q0.out G0.out; have s1 := run_str (P := Try.prog) (bs := ys) (n := d') (c := c') 29 9 5 Try.underlying29 Try.underlying5 Try.underlying9 Q1.out G1.out)
      | (go_at_call 17; (with_reducible refine (unhide R _).mono ?_); rintro e w3 ⟨rfl, hb3⟩; replace B5 := hide (B5.out.below hb3 B5.out.lt); replace hb := hide (nextB hb.out hb3); clear hb3; have B7 := hide (c9 w3))
      | ((with_reducible refine store_ck (.tmp 7) (.tmp 25) rfl rfl _ ?_ ck0 M ?_ B7.out ck0_size ZM.out ?_); (next => rfl); (next => rfl); replace B7 := hide (B7.out.row (ckC M).toArray); replace B5 := hide ((B5.out.alloc (.cells (ckC ck0).toArray 28)).rowFar (Nat.ne_of_lt B5.out.lt) (ckC M).toArray); replace hb := hide (nextB hb.out (below_setRow (box1 (o := .cells (ckC ck0).toArray 28)) (Nat.le_refl _) (ckC M).toArray)); generalize ((w3.alloc (.cells (ckC ck0).toArray 28)).setRow w3.heap.size (ckC M).toArray) = W4 at B5 B7 hb ⊢)
      | ((with_reducible refine load_ck (.tmp 5) rfl ?_ _ ?_ M B5.out ZM.out ?_); (next => rfl); (next => rfl))
      | ((with_reducible refine load_ck (.tmp 7) rfl ?_ _ ?_ M B7.out ZM.out ?_); (next => rfl); (next => rfl))
      | ((with_reducible refine eql_ck (.tmp 27) (.tmp 28) _ rfl ?_ M M true ?_ ?_ hl.out hl.out (decide_eq_true rfl) ?_); (next => rfl); (next => rfl); (next => rfl))
      | (go_at_call 14; (with_reducible refine (awake_any _).mono ?_); rintro e w5 ⟨rfl, hb5⟩))
    go_ret
    exact ⟨rfl, nextB hb.out hb5⟩
end Go.Proofs.Ytboccjdliklifaa
