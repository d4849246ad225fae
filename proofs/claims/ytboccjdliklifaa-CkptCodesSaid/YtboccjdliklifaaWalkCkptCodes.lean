import Derived.Test.YtboccjdliklifaaCkQ
import Derived.Test.YtboccjdliklifaaPlainX
import Derived.Test.YtboccjdliklifaaOpenK
namespace Go.Proofs.Ytboccjdliklifaa
open Go.RowKit
set_option maxRecDepth 100000 in
set_option maxHeartbeats 8000000 in
theorem walk_CkptCodes (c0 : Ck) (s1 : Sl UInt8) (w : World) (h0 : CkIn c0) (h1 : s1.Ok w (fun c => [u8v c]) (fun _ => True)) :
    Calls Try.prog 3 #[.agg (ckC c0).toArray, .slice s1.A s1.n s1.c] w fun e w' => e = .returned (.bool true) ∧ Below w.heap.size w w' := by
  obtain ⟨A, n, c, bs0⟩ := s1
  obtain ⟨r1, l1, k1, _, _⟩ := h1
  simp only [flat_u8] at r1 l1 k1 ⊢
  obtain ⟨bs, n', q0, g0, e0, f0, eb, case0⟩ := r1.few 200 l1 k1
  clear eb r1 l1
  obtain ⟨_, _, _, c4, cs, c8⟩ := h0
  have F := hide (fun w => few_any A n c n' w k1 case0)
  have D := fun w hx => dec_any A n' c bs w hx g0 f0
  have R := fun w => decCkRef_any ⟨bs.toArray⟩ bs rfl w (by show bs.toArray.size ≤ _; rw [List.size_toArray]; omega)
  have lx := decK_len bs
  obtain ⟨⟨X, ex⟩, hX⟩ : ∃ r, decK bs = r := ⟨_, rfl⟩
  rw [hX] at D R lx
  simp only at D R lx
  clear hX
  have LX : Hid (CkLen X) := hide lx
  have LC : Hid (CkLen c0) := hide ⟨c4, c8⟩
  have ZX := hide (ck_size lx.1 lx.2)
  have ZC := hide (ck_size c4 c8)
  have M1 := fun w => may_any c0 c4 c8 w
  have M2 := fun w => mayCkRef_any c0 c4 c8 w
  have E := fun w => enc_any c0 c4 c8 cs w
  have P := fun w => place_any c0 c4 c8 w
  have ER := fun hm w => encCkRef_any c0 c4 c8 cs hm w
  have DE := fun hm => decK_enc c4 c8 hm cs
  have LB := ckB_len c4 c8
  have Q0 := hide (q0.alloc (.cells (ckC c0).toArray 28)); have G0 := hide g0
  have hz := ck_zero
  have c9 : ∀ (w2 : World), Blk (w2.alloc (.cells (ckC ck0).toArray 28)) w2.heap.size 28 (ckC ck0).toArray := fun w2 => Blk.new w2 _ _
  have B2 := hide (Blk.new w 28 (ckC c0).toArray)
  have hb := hide (box1 (w := w) (o := .cells (ckC c0).toArray 28))
  replace D := hide D; replace R := hide R
  clear q0 g0 case0 lx
  obtain ⟨r, hr⟩ : ∃ r, decide (mayCk c0) = r := ⟨_, rfl⟩
  rw [hr] at M1 M2
  replace M1 := hide M1; replace M2 := hide M2
  replace hr := hide hr
  go_enter Try.func3, Try.ntmps3
  go_upto_region 4 with (first
    | (go_at_call 7; ((with_reducible refine (unhide F _).mono ?_); rintro e w' ⟨rfl, rfl⟩))
    | (go_at_call 8; (with_reducible refine (unhide D _ Q0.out).mono ?_); rintro e w1 ⟨rfl, hb1⟩; replace hb := hide (nextB hb.out hb1); replace Q0 := hide (Q0.out.on hb1); replace B2 := hide (B2.out.below hb1 B2.out.lt); clear hb1; have B5 := hide (c9 w1))
    | ((with_reducible refine store_ck (.tmp 5) (.tmp 18) rfl rfl _ ?_ ck0 X ?_ B5.out ck0_size ZX.out ?_); (next => rfl); (next => rfl); replace B5 := hide (B5.out.row (ckC X).toArray); replace B2 := hide ((B2.out.alloc (.cells (ckC ck0).toArray 28)).rowFar (Nat.ne_of_lt B2.out.lt) (ckC X).toArray); replace Q0 := hide (Q0.out.on (below_setRow (box1 (o := .cells (ckC ck0).toArray 28)) (Nat.le_refl _) (ckC X).toArray)); replace hb := hide (nextB hb.out (below_setRow (box1 (o := .cells (ckC ck0).toArray 28)) (Nat.le_refl _) (ckC X).toArray)); generalize ((w1.alloc (.cells (ckC ck0).toArray 28)).setRow w1.heap.size (ckC X).toArray) = W2 at B5 B2 Q0 hb ⊢; have s0 := run_str (P := Try.prog) (bs := bs) (n := n') (c := c) 29 9 5 Try.underlying29 Try.underlying5 Try.underlying9 Q0.out G0.out)
    | (go_at_call 9; (with_reducible refine (unhide R _).mono ?_); rintro e w3 ⟨rfl, hb3⟩; replace B2 := hide (B2.out.below hb3 B2.out.lt); replace B5 := hide (B5.out.below hb3 B5.out.lt); replace hb := hide (nextB hb.out hb3); clear hb3; have B7 := hide (c9 w3))
    | ((with_reducible refine store_ck (.tmp 7) (.tmp 24) rfl rfl _ ?_ ck0 X ?_ B7.out ck0_size ZX.out ?_); (next => rfl); (next => rfl); replace B7 := hide (B7.out.row (ckC X).toArray); replace B2 := hide ((B2.out.alloc (.cells (ckC ck0).toArray 28)).rowFar (Nat.ne_of_lt B2.out.lt) (ckC X).toArray); replace B5 := hide ((B5.out.alloc (.cells (ckC ck0).toArray 28)).rowFar (Nat.ne_of_lt B5.out.lt) (ckC X).toArray); replace hb := hide (nextB hb.out (below_setRow (box1 (o := .cells (ckC ck0).toArray 28)) (Nat.le_refl _) (ckC X).toArray)); generalize ((w3.alloc (.cells (ckC ck0).toArray 28)).setRow w3.heap.size (ckC X).toArray) = W4 at B7 B2 B5 hb ⊢))
  clear D R F
  obtain ⟨g5, hg5⟩ : ∃ g, g = w1.heap.size := ⟨_, rfl⟩
  obtain ⟨g7, hg7⟩ : ∃ g, g = w3.heap.size := ⟨_, rfl⟩
  rw [← hg5] at B5 ⊢
  rw [← hg7] at B7 ⊢
  clear hg5 hg7
  refine wp_region_ext W4 (by kernel_rfl) (by kernel_rfl) (Below.refl _ _) ?_
  repeat (first
    | ((with_reducible refine quiet_load_ck (.tmp 5) rfl ?_ _ ?_ X B5.out ZX.out ?_); (next => rfl); (next => rfl))
    | ((with_reducible refine quiet_load_ck (.tmp 7) rfl ?_ _ ?_ X B7.out ZX.out ?_); (next => rfl); (next => rfl))
    | ((with_reducible refine quiet_load_ck (.tmp 2) rfl ?_ _ ?_ c0 B2.out ZC.out ?_); (next => rfl); (next => rfl))
    | ((with_reducible refine quiet_neq_ck (.tmp 26) (.tmp 27) _ rfl ?_ X X true ?_ ?_ LX.out LX.out (decide_eq_true rfl) ?_); (next => rfl); (next => rfl); (next => rfl))
    | go_big_quiet_step ((first | (go_at_call 10; exact Ext.call _ (unhide M1 _)) | (go_at_call 11; exact Ext.call _ (unhide M2 _))))
    | quiet_step ((first | (go_at_call 10; exact Ext.call _ (unhide M1 _)) | (go_at_call 11; exact Ext.call _ (unhide M2 _)))))
  refine wpQuiet_nil ?_
  intro wx hw'
  obtain ⟨⟨_, hx⟩, rfl⟩ := hw'
  replace B2 := hide (B2.out.below hx B2.out.lt); replace hb := hide (nextB hb.out hx)
  clear hx B5 B7
  have awk := hide awake_any
  rcases r with _ | _
  · have hno : ¬ mayCk c0 := by simpa using hr.out
    have he : encK c0 = ([], 1) := if_neg hno
    have hp : placeK c0 = -1 := if_neg hno
    rw [he] at E; rw [hp] at P
    replace E := hide E; replace P := hide P
    clear he hp hno hr ER DE LB M1
    go_wp2_with (first
      | ((with_reducible refine load_ck (.tmp 2) rfl ?_ _ ?_ c0 B2.out ZC.out ?_); (next => rfl); (next => rfl))
      | (go_at_call 12; (with_reducible refine (unhide E _).mono ?_); rintro e w5 ⟨A3, c3, rfl, _, _, hb3⟩; replace B2 := hide (B2.out.below hb3 B2.out.lt); replace hb := hide (nextB hb.out hb3); clear hb3)
      | (go_at_call 11; (with_reducible refine (unhide M2 _).mono ?_); rintro e w6 ⟨rfl, hb3⟩; replace B2 := hide (B2.out.below hb3 B2.out.lt); replace hb := hide (nextB hb.out hb3); clear hb3)
      | (go_at_call 13; (with_reducible refine (unhide P _).mono ?_); rintro e w7 ⟨rfl, hb3⟩; replace B2 := hide (B2.out.below hb3 B2.out.lt); replace hb := hide (nextB hb.out hb3); clear hb3)
      | (go_at_call 14; (with_reducible refine (unhide awk _).mono ?_); rintro e w8 ⟨rfl, hb5⟩))
    go_ret
    exact ⟨rfl, nextB hb.out hb5⟩
  · have hyes : mayCk c0 := by simpa using hr.out
    have he : encK c0 = (ckB c0, 0) := if_pos hyes
    have hp : placeK c0 = c0.seq % 2 := if_pos hyes
    obtain ⟨s, hs⟩ := Int.eq_ofNat_of_zero_le (show 0 ≤ c0.seq by have := hyes.1; omega)
    have hsq : (s : Int) ≤ 281474976710655 := by rw [← hs]; exact hyes.1.2
    have k2 : (ckC c0)[0]? = some (.int .i64 (s : Int)) := by rw [← hs]; rfl
    rw [hs] at hp
    rw [he] at E; rw [hp] at P
    replace E := hide E; replace P := hide P
    have ER := hide (ER hyes)
    have DE := DE hyes
    generalize ckB c0 = B at E ER DE LB
    have D2 := fun (A3 : Option Addr) (c3 : Nat) (w : World) (hx : Rd w A3 (B.map u8v)) (hc : B.length ≤ c3) => dec_any A3 B.length c3 B w hx rfl hc
    rw [DE] at D2
    replace D2 := hide D2; replace LB := hide LB
    clear he hp hs hyes hr DE M1
    go_upto_region 10 with (first
      | ((with_reducible refine load_ck (.tmp 2) rfl ?_ _ ?_ c0 B2.out ZC.out ?_); (next => rfl); (next => rfl))
      | (go_at_call 12; (with_reducible refine (unhide E _).mono ?_); rintro e w5 ⟨A3, c3, rfl, R3, hc3, hb3⟩; replace R3 := hide R3; replace B2 := hide (B2.out.below hb3 B2.out.lt); replace hb := hide (nextB hb.out hb3); clear hb3)
      | (go_at_call 11; (with_reducible refine (unhide M2 _).mono ?_); rintro e w6 ⟨rfl, hb3⟩; replace R3 := hide (R3.out.on hb3); replace B2 := hide (B2.out.below hb3 B2.out.lt); replace hb := hide (nextB hb.out hb3); clear hb3; have D3 := hide (D2.out A3 c3 w6 R3.out hc3))
      | (go_at_call 8; (with_reducible refine (unhide D3).mono ?_); rintro e w6 ⟨rfl, hb1⟩; replace hb := hide (nextB hb.out hb1); replace R3 := hide (R3.out.on hb1); replace B2 := hide (B2.out.below hb1 B2.out.lt); clear hb1 D3; have B11 := hide (c9 w6))
      | ((with_reducible refine store_ck (.tmp 11) (.tmp 67) rfl rfl _ ?_ ck0 c0 ?_ B11.out ck0_size ZC.out ?_); (next => rfl); (next => rfl); replace B11 := hide (B11.out.row (ckC c0).toArray); replace B2 := hide ((B2.out.alloc (.cells (ckC ck0).toArray 28)).rowFar (Nat.ne_of_lt B2.out.lt) (ckC c0).toArray); replace R3 := hide (R3.out.on (below_setRow (box1 (o := .cells (ckC ck0).toArray 28)) (Nat.le_refl _) (ckC c0).toArray)); replace hb := hide (nextB hb.out (below_setRow (box1 (o := .cells (ckC ck0).toArray 28)) (Nat.le_refl _) (ckC c0).toArray)); generalize ((w6.alloc (.cells (ckC ck0).toArray 28)).setRow w6.heap.size (ckC c0).toArray) = W7 at B11 B2 R3 hb ⊢))
    obtain ⟨g11, hg11⟩ : ∃ g, g = w6.heap.size := ⟨_, rfl⟩
    rw [← hg11] at B11 ⊢
    clear hg11
    have s3 := fun y : Ext W7 => run_str (P := Try.prog) (bs := B) (n := B.length) (c := c3) 29 9 5 Try.underlying29 Try.underlying5 Try.underlying9 (R3.out.on y.h) rfl
    have k0 := fun y : Ext W7 => (B2.out.below y.h B2.out.lt).cell_ 0 _ (by simpa using k2)
    refine wp_region_ext W7 (by kernel_rfl) (by kernel_rfl) (Below.refl _ _) ?_
    repeat (first
      | ((with_reducible refine quiet_load_ck (.tmp 11) rfl ?_ _ ?_ c0 B11.out ZC.out ?_); (next => rfl); (next => rfl))
      | ((with_reducible refine quiet_load_ck (.tmp 2) rfl ?_ _ ?_ c0 B2.out ZC.out ?_); (next => rfl); (next => rfl))
      | ((with_reducible refine quiet_eql_ck (.tmp 79) (.tmp 80) _ rfl ?_ c0 c0 true ?_ ?_ LC.out LC.out (decide_eq_true rfl) ?_); (next => rfl); (next => rfl); (next => rfl))
      | go_big_quiet_step ((first | (go_at_call 15; exact Ext.call _ (unhide ER _)) | (go_at_call 13; exact Ext.call _ (unhide P _)) | (go_at_call 14; exact Ext.call _ (unhide awk _))))
      | quiet_step ((first | (go_at_call 15; exact Ext.call _ (unhide ER _)) | (go_at_call 13; exact Ext.call _ (unhide P _)) | (go_at_call 14; exact Ext.call _ (unhide awk _)))))
    refine wpQuiet_nil ?_
    intro wx hw'
    obtain ⟨⟨_, hx⟩, rfl⟩ := hw'
    clear s3 k0
    go_wp2_with fail
    go_ret
    exact ⟨rfl, nextB hb.out hx⟩
end Go.Proofs.Ytboccjdliklifaa
