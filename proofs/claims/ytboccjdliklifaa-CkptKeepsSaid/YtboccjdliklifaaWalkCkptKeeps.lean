import Derived.Test.YtboccjdliklifaaCkN
import Derived.Test.YtboccjdliklifaaPlainX
import Derived.Test.YtboccjdliklifaaOpenK
namespace Go.Proofs.Ytboccjdliklifaa
open Go.RowKit
set_option maxRecDepth 100000 in
set_option maxHeartbeats 8000000 in
theorem walk_CkptKeeps (c0 : Ck) (s1 : Sl UInt8) (w : World) (h0 : CkIn c0) (h1 : s1.Ok w (fun c => [u8v c]) (fun _ => True)) :
    Calls Try.prog 5 #[.agg (ckC c0).toArray, .slice s1.A s1.n s1.c] w fun e w' => e = .returned (.bool true) ∧ Below w.heap.size w w' := by
  obtain ⟨A, n, c, bs0⟩ := s1
  obtain ⟨r1, l1, k1, _, _⟩ := h1
  simp only [flat_u8] at r1 l1 k1 ⊢
  obtain ⟨bs, n', q0, g0, e0, f0, eb, case0⟩ := r1.few 200 l1 k1
  clear eb r1 l1
  obtain ⟨_, _, _, c4, cs, c8⟩ := h0
  have F := hide (fun w => few_any A n c n' w k1 case0)
  have LC : Hid (CkLen c0) := hide ⟨c4, c8⟩
  have ZC := hide (ck_size c4 c8)
  have M2 := fun w => mayCkRef_any c0 c4 c8 w
  have E := fun w => enc_any c0 c4 c8 cs w
  have P := fun w => place_any c0 c4 c8 w
  have DE := fun hm => decK_enc c4 c8 hm cs
  have LB := ckB_len c4 c8
  have Q0 := hide (q0.alloc (.cells (ckC c0).toArray 28)); have G0 := hide g0
  have hz := ck_zero
  have c9 : ∀ (w2 : World), Blk (w2.alloc (.cells (ckC ck0).toArray 28)) w2.heap.size 28 (ckC ck0).toArray := fun w2 => Blk.new w2 _ _
  have B2 := hide (Blk.new w 28 (ckC c0).toArray)
  have hb := hide (box1 (w := w) (o := .cells (ckC c0).toArray 28))
  have awk := hide awake_any
  clear q0 g0 case0
  by_cases hyes : mayCk c0
  · have he : encK c0 = (ckB c0, 0) := if_pos hyes
    have DE := DE hyes
    generalize ckB c0 = B at he DE LB
    rw [he] at E
    replace E := hide E; replace LB := hide LB
    have CA := fun (A3 : Option Addr) (c3 : Nat) (w : World) (hx : Rd w A3 (B.map u8v)) (hc : B.length ≤ c3) (hy : Rd w A (bs.map u8v)) => choose_any A3 A B.length c3 n' c B bs w hx rfl hc hy G0.out f0
    have CB := fun (A3 : Option Addr) (c3 : Nat) (w : World) (hx : Rd w A3 (B.map u8v)) (hc : B.length ≤ c3) (hy : Rd w A (bs.map u8v)) => choose_any A A3 n' c B.length c3 bs B w hy G0.out f0 hx rfl hc
    have k2 : (ckC c0)[0]? = some (.int .i64 c0.seq) := rfl
    have hp : placeK c0 = 0 ∨ placeK c0 = 1 := by unfold placeK; rw [if_pos hyes]; omega
    clear M2 he
    rcases hp with hp | hp
    · obtain ⟨X, hX, lx, hcase⟩ := keep_even (o := bs) DE hyes hp
      rw [hX] at CA
      rw [hp] at P
      replace P := hide P; replace CA := hide CA; replace k2 := hide k2
      have ZX := hide (ck_size lx.1 lx.2)
      have LX : Hid (CkLen X) := hide lx
      replace hcase := hide hcase
      clear hX lx hp hyes DE CB
      go_enter Try.func5, Try.ntmps5
      go_upto_region 8 with (first
        | (go_at_call 7; ((with_reducible refine (unhide F _).mono ?_); rintro e w' ⟨rfl, rfl⟩))
        | ((with_reducible refine load_ck (.tmp 2) rfl ?_ _ ?_ c0 B2.out ZC.out ?_); (next => rfl); (next => rfl))
        | (go_at_call 12; (with_reducible refine (unhide E _).mono ?_); rintro e w5 ⟨A3, c3, rfl, R3, hc3, hb3⟩; replace R3 := hide R3; replace Q0 := hide (Q0.out.on hb3); replace B2 := hide (B2.out.below hb3 B2.out.lt); replace hb := hide (nextB hb.out hb3); clear hb3; have CA' := hide (CA.out A3 c3 w5 R3.out hc3 Q0.out))
        | (go_at_call 16; (with_reducible refine (unhide CA').mono ?_); rintro e w6 ⟨rfl, hb1⟩; replace hb := hide (nextB hb.out hb1); replace R3 := hide (R3.out.on hb1); replace Q0 := hide (Q0.out.on hb1); replace B2 := hide (B2.out.below hb1 B2.out.lt); clear hb1; have B7 := hide (c9 w6))
        | ((with_reducible refine store_ck (.tmp 7) (.tmp 28) rfl rfl _ ?_ ck0 X ?_ B7.out ck0_size ZX.out ?_); (next => rfl); (next => rfl); have n7 : w.heap.size < w6.heap.size := B2.out.lt; replace B7 := hide (B7.out.row (ckC X).toArray); replace B2 := hide ((B2.out.alloc (.cells (ckC ck0).toArray 28)).rowFar (Nat.ne_of_lt B2.out.lt) (ckC X).toArray); replace R3 := hide (R3.out.on (below_setRow (box1 (o := .cells (ckC ck0).toArray 28)) (Nat.le_refl _) (ckC X).toArray)); replace Q0 := hide (Q0.out.on (below_setRow (box1 (o := .cells (ckC ck0).toArray 28)) (Nat.le_refl _) (ckC X).toArray)); replace hb := hide (nextB hb.out (below_setRow (box1 (o := .cells (ckC ck0).toArray 28)) (Nat.le_refl _) (ckC X).toArray)); generalize ((w6.alloc (.cells (ckC ck0).toArray 28)).setRow w6.heap.size (ckC X).toArray) = W7 at B7 B2 R3 Q0 hb ⊢)
        | (go_at_call 13; (with_reducible refine (unhide P _).mono ?_); rintro e w8 ⟨rfl, hb3⟩; replace R3 := hide (R3.out.on hb3); replace Q0 := hide (Q0.out.on hb3); replace B7 := hide (B7.out.below hb3 B7.out.lt); replace B2 := hide (B2.out.below hb3 B2.out.lt); replace hb := hide (nextB hb.out hb3); clear hb3))
      have k0 := B2.out.cell_ 0 _ (by simpa using k2.out)
      have k7 := B7.out.cell_ 0 (.int .i64 X.seq) rfl
      rcases hcase.out with rfl | hlt
      · go_wp2_with (first
          | ((with_reducible refine load_ck (.tmp 2) rfl ?_ _ ?_ X B2.out ZX.out ?_); (next => rfl); (next => rfl))
          | ((with_reducible refine load_ck (.tmp 7) rfl ?_ _ ?_ X B7.out ZX.out ?_); (next => rfl); (next => rfl))
          | ((with_reducible refine eql_ck (.tmp 42) (.tmp 43) _ rfl ?_ X X true ?_ ?_ LX.out LX.out (decide_eq_true rfl) ?_); (next => rfl); (next => rfl); (next => rfl))
          | (go_at_call 14; (with_reducible refine (unhide awk _).mono ?_); rintro e w8 ⟨rfl, hb5⟩))
        go_ret
        exact ⟨rfl, nextB hb.out hb5⟩
      · have hne : decide (X = c0) = false := decide_eq_false (by rintro rfl; omega)
        replace hne := hide hne
        go_wp2_with (first
          | ((with_reducible refine load_ck (.tmp 2) rfl ?_ _ ?_ c0 B2.out ZC.out ?_); (next => rfl); (next => rfl))
          | ((with_reducible refine load_ck (.tmp 7) rfl ?_ _ ?_ X B7.out ZX.out ?_); (next => rfl); (next => rfl))
          | ((with_reducible refine eql_ck (.tmp 42) (.tmp 43) _ rfl ?_ X c0 false ?_ ?_ LX.out LC.out hne.out ?_); (next => rfl); (next => rfl); (next => rfl))
          | (go_at_call 14; (with_reducible refine (unhide awk _).mono ?_); rintro e w8 ⟨rfl, hb5⟩))
        go_ret
        exact ⟨rfl, nextB hb.out hb5⟩
    · obtain ⟨X, hX, lx, hcase⟩ := keep_odd (o := bs) DE hyes hp
      rw [hX] at CB
      rw [hp] at P
      have l1 : CkLen (chooseK B bs).1 := by unfold chooseK; split; exact ⟨rfl, rfl⟩; exact bestK_len B bs 2
      generalize chooseK B bs = y at CA l1
      obtain ⟨Y, ey⟩ := y
      simp only at CA l1
      replace P := hide P; replace CA := hide CA; replace CB := hide CB; replace k2 := hide k2
      have ZX := hide (ck_size lx.1 lx.2)
      have ZY := hide (ck_size l1.1 l1.2)
      have LX : Hid (CkLen X) := hide lx
      replace hcase := hide hcase
      clear hX lx hp hyes DE l1
      go_enter Try.func5, Try.ntmps5
      go_upto_region 8 with (first
        | (go_at_call 7; ((with_reducible refine (unhide F _).mono ?_); rintro e w' ⟨rfl, rfl⟩))
        | ((with_reducible refine load_ck (.tmp 2) rfl ?_ _ ?_ c0 B2.out ZC.out ?_); (next => rfl); (next => rfl))
        | (go_at_call 12; (with_reducible refine (unhide E _).mono ?_); rintro e w5 ⟨A3, c3, rfl, R3, hc3, hb3⟩; replace R3 := hide R3; replace Q0 := hide (Q0.out.on hb3); replace B2 := hide (B2.out.below hb3 B2.out.lt); replace hb := hide (nextB hb.out hb3); clear hb3; have CA' := hide (CA.out A3 c3 w5 R3.out hc3 Q0.out))
        | (go_at_call 16; (with_reducible refine (unhide CA').mono ?_); rintro e w6 ⟨rfl, hb1⟩; replace hb := hide (nextB hb.out hb1); replace R3 := hide (R3.out.on hb1); replace Q0 := hide (Q0.out.on hb1); replace B2 := hide (B2.out.below hb1 B2.out.lt); clear hb1 CA'; have B7 := hide (c9 w6))
        | ((with_reducible refine store_ck (.tmp 7) (.tmp 28) rfl rfl _ ?_ ck0 Y ?_ B7.out ck0_size ZY.out ?_); (next => rfl); (next => rfl); have n7 : w.heap.size < w6.heap.size := B2.out.lt; replace B7 := hide (B7.out.row (ckC Y).toArray); replace B2 := hide ((B2.out.alloc (.cells (ckC ck0).toArray 28)).rowFar (Nat.ne_of_lt B2.out.lt) (ckC Y).toArray); replace R3 := hide (R3.out.on (below_setRow (box1 (o := .cells (ckC ck0).toArray 28)) (Nat.le_refl _) (ckC Y).toArray)); replace Q0 := hide (Q0.out.on (below_setRow (box1 (o := .cells (ckC ck0).toArray 28)) (Nat.le_refl _) (ckC Y).toArray)); replace hb := hide (nextB hb.out (below_setRow (box1 (o := .cells (ckC ck0).toArray 28)) (Nat.le_refl _) (ckC Y).toArray)); generalize ((w6.alloc (.cells (ckC ck0).toArray 28)).setRow w6.heap.size (ckC Y).toArray) = W7 at B7 B2 R3 Q0 hb ⊢)
        | (go_at_call 13; (with_reducible refine (unhide P _).mono ?_); rintro e w8 ⟨rfl, hb3⟩; replace R3 := hide (R3.out.on hb3); replace Q0 := hide (Q0.out.on hb3); replace B7 := hide (B7.out.below hb3 B7.out.lt); replace B2 := hide (B2.out.below hb3 B2.out.lt); replace hb := hide (nextB hb.out hb3); clear hb3; have CB' := hide (CB.out A3 c3 w8 R3.out hc3 Q0.out))
        | (go_at_call 16; (with_reducible refine (unhide CB').mono ?_); rintro e w9 ⟨rfl, hb1⟩; replace hb := hide (nextB hb.out hb1); replace B2 := hide (B2.out.below hb1 B2.out.lt); replace B7 := hide (B7.out.below hb1 B7.out.lt); clear hb1)
        | ((with_reducible refine store_ck (.tmp 7) (.tmp 37) rfl rfl _ ?_ Y X ?_ B7.out ZY.out ZX.out ?_); (next => rfl); (next => rfl); replace B2 := hide (B2.out.rowFar (show w.heap.size ≠ w6.heap.size by omega) (ckC X).toArray); replace B7 := hide (B7.out.row (ckC X).toArray); replace hb := hide (below_setRow hb.out (show w.heap.size ≤ w6.heap.size by omega) (ckC X).toArray)))
      have k0 := B2.out.cell_ 0 _ (by simpa using k2.out)
      have k7 := B7.out.cell_ 0 (.int .i64 X.seq) rfl
      rcases hcase.out with rfl | hlt
      · go_wp2_with (first
          | ((with_reducible refine load_ck (.tmp 2) rfl ?_ _ ?_ X B2.out ZX.out ?_); (next => rfl); (next => rfl))
          | ((with_reducible refine load_ck (.tmp 7) rfl ?_ _ ?_ X B7.out ZX.out ?_); (next => rfl); (next => rfl))
          | ((with_reducible refine eql_ck (.tmp 42) (.tmp 43) _ rfl ?_ X X true ?_ ?_ LX.out LX.out (decide_eq_true rfl) ?_); (next => rfl); (next => rfl); (next => rfl))
          | (go_at_call 14; (with_reducible refine (unhide awk _).mono ?_); rintro e w8 ⟨rfl, hb5⟩))
        go_ret
        exact ⟨rfl, nextB hb.out hb5⟩
      · have hne : decide (X = c0) = false := decide_eq_false (by rintro rfl; omega)
        replace hne := hide hne
        go_wp2_with (first
          | ((with_reducible refine load_ck (.tmp 2) rfl ?_ _ ?_ c0 B2.out ZC.out ?_); (next => rfl); (next => rfl))
          | ((with_reducible refine load_ck (.tmp 7) rfl ?_ _ ?_ X B7.out ZX.out ?_); (next => rfl); (next => rfl))
          | ((with_reducible refine eql_ck (.tmp 42) (.tmp 43) _ rfl ?_ X c0 false ?_ ?_ LX.out LC.out hne.out ?_); (next => rfl); (next => rfl); (next => rfl))
          | (go_at_call 14; (with_reducible refine (unhide awk _).mono ?_); rintro e w8 ⟨rfl, hb5⟩))
        go_ret
        exact ⟨rfl, nextB hb.out hb5⟩
  · have he : encK c0 = ([], 1) := if_neg hyes
    rw [he] at E
    have hm : decide (mayCk c0) = false := decide_eq_false hyes
    rw [hm] at M2
    replace E := hide E; replace M2 := hide M2
    clear he hm hyes P DE LB
    go_enter Try.func5, Try.ntmps5
    go_wp2_with (first
      | (go_at_call 7; ((with_reducible refine (unhide F _).mono ?_); rintro e w' ⟨rfl, rfl⟩))
      | ((with_reducible refine load_ck (.tmp 2) rfl ?_ _ ?_ c0 B2.out ZC.out ?_); (next => rfl); (next => rfl))
      | (go_at_call 12; (with_reducible refine (unhide E _).mono ?_); rintro e w5 ⟨A3, c3, rfl, _, _, hb3⟩; replace B2 := hide (B2.out.below hb3 B2.out.lt); replace hb := hide (nextB hb.out hb3); clear hb3)
      | (go_at_call 11; (with_reducible refine (unhide M2 _).mono ?_); rintro e w6 ⟨rfl, hb3⟩; replace B2 := hide (B2.out.below hb3 B2.out.lt); replace hb := hide (nextB hb.out hb3); clear hb3)
      | (go_at_call 14; (with_reducible refine (unhide awk _).mono ?_); rintro e w8 ⟨rfl, hb5⟩))
    go_ret
    exact ⟨rfl, nextB hb.out hb5⟩
end Go.Proofs.Ytboccjdliklifaa
