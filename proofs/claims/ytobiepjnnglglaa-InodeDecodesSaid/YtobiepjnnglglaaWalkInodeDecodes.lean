import Derived.Test.YtobiepjnnglglaaInN
import Derived.Test.YtobiepjnnglglaaOpenJ
namespace Go.Proofs.Ytobiepjnnglglaa
open Go.RowKit
set_option maxRecDepth 100000 in
set_option maxHeartbeats 8000000 in
theorem walk_InodeDecodes (a0 : Int) (s1 : Sl UInt8) (w : World) (_h0 : (Lit.int .i64 a0).wf = true) (h1 : s1.Ok w (fun c => [u8v c]) (fun _ => True)) :
    Calls Try.prog 4 #[.int .i64 a0, .slice s1.A s1.n s1.c] w fun e w' => e = .returned (.bool true) ∧ Below w.heap.size w w' := by
  obtain ⟨A, n, c, bs0⟩ := s1
  obtain ⟨r1, l1, k1, _, _⟩ := h1
  simp only [flat_u8] at r1 l1 k1 ⊢
  obtain ⟨bs, n', q0, g0, e0, f0, eb, case0⟩ := r1.few 200 l1 k1
  clear eb r1 l1
  have F := hide (fun w => few_any A n c n' w k1 case0)
  have D := dec_any a0 A n' c bs w q0 g0 f0
  have R := fun w => refDec_any a0 ⟨bs.toArray⟩ bs rfl w (by show bs.toArray.size ≤ _; rw [List.size_toArray]; omega)
  have lx : (decI a0 bs).1.ps.length = 9 := by
    unfold decI
    split
    · rfl
    · split
      · split
        · exact ptrsB_len _ 9
        · rfl
      · rfl
  obtain ⟨⟨X, ex⟩, hX⟩ : ∃ r, decI a0 bs = r := ⟨_, rfl⟩
  rw [hX] at D R lx
  simp only at D R lx
  have LX : Hid (InoLen X) := hide lx
  have ZX := hide (inoC_len lx)
  have Q0 := hide q0; have G0 := hide g0
  have hz := ino_zero
  have c9 : ∀ (w2 : World), Blk (w2.alloc (.cells (inoC ino0).toArray 27)) w2.heap.size 27 (inoC ino0).toArray := fun w2 => Blk.new w2 _ _
  have awk := hide awake_any
  replace D := hide D; replace R := hide R
  clear q0 g0 case0 lx hX
  go_enter Try.func4, Try.ntmps4
  go_wp2_with (first
    | (go_at_call 14; ((with_reducible refine (unhide F _).mono ?_); rintro e w' ⟨rfl, rfl⟩))
    | (go_at_call 12; (with_reducible refine (unhide D).mono ?_); rintro e w1 ⟨rfl, hb1⟩; have hb := hide hb1; replace Q0 := hide (Q0.out.on hb1); clear hb1; have B5 := hide (c9 w1))
    | ((with_reducible refine store_ino (.tmp 5) (.tmp 15) rfl ?_ _ ?_ ino0 X ?_ B5.out ino0_size ZX.out ?_); (next => rfl); (next => rfl); (next => rfl); replace B5 := hide (B5.out.row (inoC X).toArray); replace Q0 := hide (Q0.out.on (below_setRow (box1 (o := .cells (inoC ino0).toArray 27)) (Nat.le_refl _) (inoC X).toArray)); replace hb := hide (nextB hb.out (below_setRow (box1 (o := .cells (inoC ino0).toArray 27)) (Nat.le_refl _) (inoC X).toArray)); generalize ((w1.alloc (.cells (inoC ino0).toArray 27)).setRow w1.heap.size (inoC X).toArray) = W2 at B5 Q0 hb ⊢; have s0 := run_str (P := Try.prog) (bs := bs) (n := n') (c := c) 28 9 5 Try.underlying28 Try.underlying5 Try.underlying9 Q0.out G0.out)
    | (go_at_call 15; (with_reducible refine (unhide R _).mono ?_); rintro e w3 ⟨rfl, hb3⟩; replace B5 := hide (B5.out.below hb3 B5.out.lt); replace hb := hide (nextB hb.out hb3); clear hb3; have B7 := hide (c9 w3))
    | ((with_reducible refine store_ino (.tmp 7) (.tmp 22) rfl ?_ _ ?_ ino0 X ?_ B7.out ino0_size ZX.out ?_); (next => rfl); (next => rfl); (next => rfl); replace B7 := hide (B7.out.row (inoC X).toArray); replace B5 := hide ((B5.out.alloc (.cells (inoC ino0).toArray 27)).rowFar (Nat.ne_of_lt B5.out.lt) (inoC X).toArray); replace hb := hide (nextB hb.out (below_setRow (box1 (o := .cells (inoC ino0).toArray 27)) (Nat.le_refl _) (inoC X).toArray)); generalize ((w3.alloc (.cells (inoC ino0).toArray 27)).setRow w3.heap.size (inoC X).toArray) = W4 at B7 B5 hb ⊢)
    | ((with_reducible refine load_ino (.tmp 5) rfl ?_ _ ?_ X B5.out ZX.out ?_); (next => rfl); (next => rfl))
    | ((with_reducible refine load_ino (.tmp 7) rfl ?_ _ ?_ X B7.out ZX.out ?_); (next => rfl); (next => rfl))
    | ((with_reducible refine eql_ino (.tmp 24) (.tmp 25) _ rfl ?_ X X true ?_ ?_ LX.out LX.out (decide_eq_true rfl) ?_); (next => rfl); (next => rfl); (next => rfl))
    | (go_at_call 11; (with_reducible refine (unhide awk _).mono ?_); rintro e w8 ⟨rfl, hb5⟩))
  go_ret
  exact ⟨rfl, nextB hb.out hb5⟩
end Go.Proofs.Ytobiepjnnglglaa
