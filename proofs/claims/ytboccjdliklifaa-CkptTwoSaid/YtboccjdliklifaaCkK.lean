/- The checkpoint that counts by the document's text. No condition. -/
import Derived.Test.YtboccjdliklifaaCkJ
import Derived.Test.YtboccjdliklifaaPlainW
namespace Go.Proofs.Ytboccjdliklifaa
open Go.RowKit

set_option maxRecDepth 100000 in
set_option maxHeartbeats 8000000 in
theorem chooseRef_any (z z' : ByteArray) (xs ys : List UInt8) (has : xs = z.data.toList) (hbs : ys = z'.data.toList) (w : World) (hn : z.size ≤ 4294967296) (hn' : z'.size ≤ 4294967296) :
    Calls Try.prog 17 #[.string z, .string z'] w fun e w' => e = .returned (.tuple #[.agg (ckC (chooseR xs ys).1).toArray, .bool (chooseR xs ys).2]) ∧ Below w.heap.size w w' := by
  have D1 := fun w => decCkRef_any z xs has w hn
  have D2 := fun w => decCkRef_any z' ys hbs w hn'
  have hz := ck_zero
  have B0 := hide (Blk.new w 28 (ckC ck0).toArray)
  have l1 := decK_len xs; have l2 := decK_len ys
  obtain ⟨s, hs⟩ := decK_nat xs
  obtain ⟨t, ht⟩ := decK_nat ys
  have c9 : ∀ (w2 : World), Blk (w2.alloc (.cells (ckC ck0).toArray 28)) w2.heap.size 28 (ckC ck0).toArray := fun w2 => Blk.new w2 _ _
  obtain ⟨R, hR⟩ : ∃ R, R = chooseR xs ys := ⟨_, rfl⟩
  rw [← hR]
  unfold chooseR at hR
  rw [hs, ht] at hR
  clear has hbs
  generalize decK xs = x at D1 l1 hs hR
  generalize decK ys = y at D2 l2 ht hR
  obtain ⟨x, e1⟩ := x
  obtain ⟨y, e2⟩ := y
  simp only at D1 D2 l1 l2 hs ht hR
  have Z1 := hide (ck_size l1.1 l1.2); have Z2 := hide (ck_size l2.1 l2.2)
  replace D1 := hide D1; replace D2 := hide D2
  have g1 : (ckC x)[0]? = some (.int .i64 (s : Int)) := by rw [← hs]; rfl
  have g2 : (ckC y)[0]? = some (.int .i64 (t : Int)) := by rw [← ht]; rfl
  replace g1 := hide g1; replace g2 := hide g2
  clear l1 l2 hs ht
  go_enter Try.func17, Try.ntmps17
  go_upto_region 3 with (first
    | (go_at_call 9; (with_reducible refine (unhide D1 _).mono ?_); rintro e w1 ⟨rfl, hb1⟩; have B1 := hide (B0.out.below hb1 B0.out.lt); have hb := hide (nextB box1 hb1); clear hb1; have B6 := hide (c9 w1); have n1 : w.heap.size < w1.heap.size := B1.out.lt)
    | ((with_reducible refine store_ck (.tmp 6) (.tmp 15) rfl rfl _ ?_ ck0 x ?_ B6.out ck0_size Z1.out ?_); (next => rfl); (next => rfl); replace B6 := hide (B6.out.row (ckC x).toArray); replace hb := hide (below_setRow (nextB hb.out (box1 (o := .cells (ckC ck0).toArray 28))) (Nat.le_of_lt B1.out.lt) (ckC x).toArray); replace B1 := hide ((B1.out.alloc (.cells (ckC ck0).toArray 28)).rowFar (Nat.ne_of_lt B1.out.lt) (ckC x).toArray); generalize ((w1.alloc (.cells (ckC ck0).toArray 28)).setRow w1.heap.size (ckC x).toArray) = W2 at B6 hb B1 ⊢)
    | (go_at_call 9; (with_reducible refine (unhide D2 _).mono ?_); rintro e w3 ⟨rfl, hb3⟩; replace B1 := hide (B1.out.below hb3 B1.out.lt); replace B6 := hide (B6.out.below hb3 B6.out.lt); replace hb := hide (nextB hb.out hb3); clear hb3; have B8 := hide (c9 w3); have n2 : w.heap.size < w3.heap.size := B1.out.lt; have n3 : w1.heap.size < w3.heap.size := B6.out.lt)
    | ((with_reducible refine store_ck (.tmp 8) (.tmp 20) rfl rfl _ ?_ ck0 y ?_ B8.out ck0_size Z2.out ?_); (next => rfl); (next => rfl); replace B8 := hide (B8.out.row (ckC y).toArray); replace hb := hide (below_setRow (nextB hb.out (box1 (o := .cells (ckC ck0).toArray 28))) (Nat.le_of_lt B1.out.lt) (ckC y).toArray); replace B1 := hide ((B1.out.alloc (.cells (ckC ck0).toArray 28)).rowFar (Nat.ne_of_lt B1.out.lt) (ckC y).toArray); replace B6 := hide ((B6.out.alloc (.cells (ckC ck0).toArray 28)).rowFar (Nat.ne_of_lt B6.out.lt) (ckC y).toArray); generalize ((w3.alloc (.cells (ckC ck0).toArray 28)).setRow w3.heap.size (ckC y).toArray) = W4 at B8 B6 hb B1 ⊢))
  have k6 := B6.out.cell_ 0 _ (by simpa using g1.out)
  have k8 := B8.out.cell_ 0 _ (by simpa using g2.out)
  clear D1 D2 B0 c9
  generalize w1.heap.size = g6 at *
  generalize w3.heap.size = g8 at *
  replace k6 := hide k6; replace k8 := hide k8; replace hR := hide hR
  rcases (show ¬ e1 = 0 ∨ (e1 = 0 ∧ (s : Int) % 2 = 0) ∨ (e1 = 0 ∧ (s : Int) % 2 = 1) by omega) with a1 | ⟨a1, a2⟩ | ⟨a1, a2⟩
  all_goals
    rcases (show ¬ e2 = 0 ∨ (e2 = 0 ∧ (t : Int) % 2 = 0) ∨ (e2 = 0 ∧ (t : Int) % 2 = 1) by omega) with b1 | ⟨b1, b2⟩ | ⟨b1, b2⟩
  all_goals replace k6 := k6.out
  all_goals replace k8 := k8.out
  case inl.inl =>
    have hR2 := hR.out
    have p1 : (e1 == 0) = false := by simpa using a1
    have p2 : (e2 == 0) = false := by simpa using b1
    rw [if_neg (by omega), if_neg (by omega)] at hR2
    subst hR2
    go_wp2_with (first
      | ((with_reducible refine wpList_built ?_ _ rfl _ ck_built ?_); (next => rfl))
      | ((with_reducible refine store_ck (.tmp 4) (.tmp 59) rfl rfl _ ?_ ck0 ck0 ?_ B1.out ck0_size ck0_size ?_); (next => rfl); (next => rfl)))
    exact bodyPost_ret (results_pair rfl _ _ Try.wideCk w.heap.size 0 (ckC ck0) rfl ck0_size (blk_from (B1.out.row _))) rfl ⟨rfl, below_setRow hb.out (Nat.le_refl _) _⟩
  case inl.inr.inl =>
    have hR2 := hR.out
    have p1 : (e1 == 0) = false := by simpa using a1
    have q2 : ((t : Int) % 2 == 1) = false := by rw [b2]; rfl
    rw [if_neg (by omega), if_neg (by omega)] at hR2
    subst b1
    subst hR2
    go_wp2_with (first
      | ((with_reducible refine wpList_built ?_ _ rfl _ ck_built ?_); (next => rfl))
      | ((with_reducible refine store_ck (.tmp 4) (.tmp 59) rfl rfl _ ?_ ck0 ck0 ?_ B1.out ck0_size ck0_size ?_); (next => rfl); (next => rfl)))
    exact bodyPost_ret (results_pair rfl _ _ Try.wideCk w.heap.size 0 (ckC ck0) rfl ck0_size (blk_from (B1.out.row _))) rfl ⟨rfl, below_setRow hb.out (Nat.le_refl _) _⟩
  case inl.inr.inr =>
    have hR2 := hR.out
    have p1 : (e1 == 0) = false := by simpa using a1
    have q2 : ((t : Int) % 2 == 1) = true := by rw [b2]; rfl
    rw [if_neg (by omega), if_pos (by omega)] at hR2
    subst b1
    subst hR2
    go_wp2_with (first
      | ((with_reducible refine load_ck (.tmp 8) rfl ?_ _ ?_ y B8.out Z2.out ?_); (next => rfl); (next => rfl))
      | ((with_reducible refine store_ck (.tmp 4) (.tmp 58) rfl rfl _ ?_ ck0 y ?_ B1.out ck0_size Z2.out ?_); (next => rfl); (next => rfl)))
    exact bodyPost_ret (results_pair rfl _ _ Try.wideCk w.heap.size 0 (ckC y) rfl Z2.out (blk_from (B1.out.row _))) rfl ⟨rfl, below_setRow hb.out (Nat.le_refl _) _⟩
  case inr.inl.inl =>
    have hR2 := hR.out
    have q1 : ((s : Int) % 2 == 0) = true := by rw [a2]; rfl
    have p2 : (e2 == 0) = false := by simpa using b1
    rw [if_pos (by omega)] at hR2
    subst a1
    subst hR2
    go_wp2_with (first
      | ((with_reducible refine load_ck (.tmp 6) rfl ?_ _ ?_ x B6.out Z1.out ?_); (next => rfl); (next => rfl))
      | ((with_reducible refine store_ck (.tmp 4) (.tmp 56) rfl rfl _ ?_ ck0 x ?_ B1.out ck0_size Z1.out ?_); (next => rfl); (next => rfl)))
    exact bodyPost_ret (results_pair rfl _ _ Try.wideCk w.heap.size 0 (ckC x) rfl Z1.out (blk_from (B1.out.row _))) rfl ⟨rfl, below_setRow hb.out (Nat.le_refl _) _⟩
  case inr.inl.inr.inl =>
    have hR2 := hR.out
    have q1 : ((s : Int) % 2 == 0) = true := by rw [a2]; rfl
    have q2 : ((t : Int) % 2 == 1) = false := by rw [b2]; rfl
    rw [if_pos (by omega)] at hR2
    subst a1
    subst b1
    subst hR2
    go_wp2_with (first
      | ((with_reducible refine load_ck (.tmp 6) rfl ?_ _ ?_ x B6.out Z1.out ?_); (next => rfl); (next => rfl))
      | ((with_reducible refine store_ck (.tmp 4) (.tmp 56) rfl rfl _ ?_ ck0 x ?_ B1.out ck0_size Z1.out ?_); (next => rfl); (next => rfl)))
    exact bodyPost_ret (results_pair rfl _ _ Try.wideCk w.heap.size 0 (ckC x) rfl Z1.out (blk_from (B1.out.row _))) rfl ⟨rfl, below_setRow hb.out (Nat.le_refl _) _⟩
  case inr.inl.inr.inr =>
    have hR2 := hR.out
    have q1 : ((s : Int) % 2 == 0) = true := by rw [a2]; rfl
    have q2 : ((t : Int) % 2 == 1) = true := by rw [b2]; rfl
    by_cases hlt : (t : Int) < s
    · rw [if_pos (by omega)] at hR2
      subst a1
      subst b1
      subst hR2
      go_wp2_with (first
        | ((with_reducible refine load_ck (.tmp 6) rfl ?_ _ ?_ x B6.out Z1.out ?_); (next => rfl); (next => rfl))
        | ((with_reducible refine store_ck (.tmp 4) (.tmp 56) rfl rfl _ ?_ ck0 x ?_ B1.out ck0_size Z1.out ?_); (next => rfl); (next => rfl)))
      exact bodyPost_ret (results_pair rfl _ _ Try.wideCk w.heap.size 0 (ckC x) rfl Z1.out (blk_from (B1.out.row _))) rfl ⟨rfl, below_setRow hb.out (Nat.le_refl _) _⟩
    · rw [if_neg (by omega), if_pos (by omega)] at hR2
      subst a1
      subst b1
      subst hR2
      go_wp2_with (first
        | ((with_reducible refine load_ck (.tmp 8) rfl ?_ _ ?_ y B8.out Z2.out ?_); (next => rfl); (next => rfl))
        | ((with_reducible refine store_ck (.tmp 4) (.tmp 58) rfl rfl _ ?_ ck0 y ?_ B1.out ck0_size Z2.out ?_); (next => rfl); (next => rfl)))
      exact bodyPost_ret (results_pair rfl _ _ Try.wideCk w.heap.size 0 (ckC y) rfl Z2.out (blk_from (B1.out.row _))) rfl ⟨rfl, below_setRow hb.out (Nat.le_refl _) _⟩
  case inr.inr.inl =>
    have hR2 := hR.out
    have q1 : ((s : Int) % 2 == 0) = false := by rw [a2]; rfl
    have p2 : (e2 == 0) = false := by simpa using b1
    rw [if_neg (by omega), if_neg (by omega)] at hR2
    subst a1
    subst hR2
    go_wp2_with (first
      | ((with_reducible refine wpList_built ?_ _ rfl _ ck_built ?_); (next => rfl))
      | ((with_reducible refine store_ck (.tmp 4) (.tmp 59) rfl rfl _ ?_ ck0 ck0 ?_ B1.out ck0_size ck0_size ?_); (next => rfl); (next => rfl)))
    exact bodyPost_ret (results_pair rfl _ _ Try.wideCk w.heap.size 0 (ckC ck0) rfl ck0_size (blk_from (B1.out.row _))) rfl ⟨rfl, below_setRow hb.out (Nat.le_refl _) _⟩
  case inr.inr.inr.inl =>
    have hR2 := hR.out
    have q1 : ((s : Int) % 2 == 0) = false := by rw [a2]; rfl
    have q2 : ((t : Int) % 2 == 1) = false := by rw [b2]; rfl
    rw [if_neg (by omega), if_neg (by omega)] at hR2
    subst a1
    subst b1
    subst hR2
    go_wp2_with (first
      | ((with_reducible refine wpList_built ?_ _ rfl _ ck_built ?_); (next => rfl))
      | ((with_reducible refine store_ck (.tmp 4) (.tmp 59) rfl rfl _ ?_ ck0 ck0 ?_ B1.out ck0_size ck0_size ?_); (next => rfl); (next => rfl)))
    exact bodyPost_ret (results_pair rfl _ _ Try.wideCk w.heap.size 0 (ckC ck0) rfl ck0_size (blk_from (B1.out.row _))) rfl ⟨rfl, below_setRow hb.out (Nat.le_refl _) _⟩
  case inr.inr.inr.inr =>
    have hR2 := hR.out
    have q1 : ((s : Int) % 2 == 0) = false := by rw [a2]; rfl
    have q2 : ((t : Int) % 2 == 1) = true := by rw [b2]; rfl
    rw [if_neg (by omega), if_pos (by omega)] at hR2
    subst a1
    subst b1
    subst hR2
    go_wp2_with (first
      | ((with_reducible refine load_ck (.tmp 8) rfl ?_ _ ?_ y B8.out Z2.out ?_); (next => rfl); (next => rfl))
      | ((with_reducible refine store_ck (.tmp 4) (.tmp 58) rfl rfl _ ?_ ck0 y ?_ B1.out ck0_size Z2.out ?_); (next => rfl); (next => rfl)))
    exact bodyPost_ret (results_pair rfl _ _ Try.wideCk w.heap.size 0 (ckC y) rfl Z2.out (blk_from (B1.out.row _))) rfl ⟨rfl, below_setRow hb.out (Nat.le_refl _) _⟩
end Go.Proofs.Ytboccjdliklifaa
