/- A block's checkpoint by the document's text. No condition. -/
import Derived.Test.YtboccjdliklifaaCkI
import Derived.Test.YtboccjdliklifaaGet
namespace Go.Proofs.Ytboccjdliklifaa
open Go.RowKit

theorem heldK_len {b : List UInt8} (h : heldB b = true) : b.length = 128 := by
  unfold heldB at h
  rw [Bool.and_eq_true, decide_eq_true_eq] at h
  exact h.1
set_option maxRecDepth 100000 in
set_option maxHeartbeats 8000000 in
theorem decCkRef_any (z : ByteArray) (bs : List UInt8) (hbs : bs = z.data.toList) (w : World) (hn2 : z.size ≤ 4294967296) :
    Calls Try.prog 9 #[.string z] w fun e w' => e = .returned (.tuple #[.agg (ckC (decK bs).1).toArray, .int .i64 (decK bs).2]) ∧ Below w.heap.size w w' := by
  have H := fun w => refHeld_any z w hn2
  rw [← hbs] at H
  have hz := ck_zero
  have B0 := hide (Blk.new w 28 (ckC ck0).toArray)
  by_cases hh : heldB bs = true
  · have h128 := heldK_len hh
    have HZ : Hid (z = ⟨bs.toArray⟩) := by subst hbs; exact (rfl : _ = _)
    have Hn : z.size = 128 := by rw [← h128]; subst hbs; exact Array.length_toList.symm
    have G := hide (fun (p n : Nat) (hn : n ≤ 8) (hp : p + n ≤ 128) (w : World) => get_any z p n w hn (by omega) hn2)
    rw [← hbs] at G
    rw [hh] at H
    replace H := hide H
    have he : decK bs = if mayCk (ckAt bs) ∧ ckB (ckAt bs) = bs then (ckAt bs, 0) else (ck0, 3) := by unfold decK; rw [if_pos hh]
    obtain ⟨R, hR⟩ : ∃ R, R = decK bs := ⟨_, rfl⟩
    rw [← hR]
    have HR := hide (hR.trans he)
    have s1 := beN_take (bs.drop 4) 6; have x1 := beN_take (bs.drop 10) 6; have a1 := beN_take (bs.drop 16) 4
    have G1 : ∀ w, Calls Try.prog 22 #[.string z, .int .i64 4, .int .i64 6] w fun e w' => e = .returned (.int .u64 (beN ((bs.drop 4).take 6) : Nat)) ∧ w = w' := G.out 4 6 (by omega) (by omega)
    have G2 : ∀ w, Calls Try.prog 22 #[.string z, .int .i64 10, .int .i64 6] w fun e w' => e = .returned (.int .u64 (beN ((bs.drop 10).take 6) : Nat)) ∧ w = w' := G.out 10 6 (by omega) (by omega)
    have G3 : ∀ w, Calls Try.prog 22 #[.string z, .int .i64 16, .int .i64 4] w fun e w' => e = .returned (.int .u64 (beN ((bs.drop 16).take 4) : Nat)) ∧ w = w' := G.out 16 4 (by omega) (by omega)
    have hM0 : midK bs 0 0 = ⟨(beN ((bs.drop 4).take 6) : Nat), (beN ((bs.drop 10).take 6) : Nat), (beN ((bs.drop 16).take 4) : Nat), mapK bs 0, useK bs 0⟩ := rfl
    generalize beN ((bs.drop 4).take 6) = s at s1 G1 hM0
    generalize beN ((bs.drop 10).take 6) = x at x1 G2 hM0
    generalize beN ((bs.drop 16).take 4) = a at a1 G3 hM0
    replace s1 : s < 281474976710656 := s1
    replace x1 : x < 281474976710656 := x1
    replace a1 : a < 4294967296 := a1
    replace G1 := hide G1; replace G2 := hide G2; replace G3 := hide G3; replace hM0 := hide hM0
    have zm : (ckC (midK bs 0 0)).length = 19 := ck_size (mapK_len bs 0) (useK_len bs 0)
    replace zm := hide zm
    have c9 : ∀ (w2 : World), Blk (w2.alloc (.cells (ckC ck0).toArray 28)) w2.heap.size 28 (ckC ck0).toArray := fun w2 => Blk.new w2 _ _
    clear hbs hh h128 he hR
    go_enter Try.func9, Try.ntmps9
    go_wp2_with (first
      | (go_at_call 21; (with_reducible refine (unhide H _).mono ?_); rintro e w1 ⟨rfl, hb1⟩; have B1 := hide (B0.out.below hb1 B0.out.lt); have hb := hide (nextB box1 hb1); clear hb1; have B9 := hide (c9 w1))
      | (go_at_call 22; first | ((with_reducible refine (unhide G1 _).mono ?_); rintro e w2 ⟨rfl, rfl⟩) | ((with_reducible refine (unhide G2 _).mono ?_); rintro e w2 ⟨rfl, rfl⟩) | ((with_reducible refine (unhide G3 _).mono ?_); rintro e w2 ⟨rfl, rfl⟩))
      | ((with_reducible refine store_ck (.tmp 4) (.tmp 20) rfl rfl _ ?_ ck0 (midK bs 0 0) ?_ B9.out ck0_size zm.out ?_); (next => rfl); (next => rw [hM0.out]; rfl)))
    have n1 : w.heap.size < w1.heap.size := B1.out.lt
    replace B9 := hide (B9.out.row (ckC (midK bs 0 0)).toArray)
    replace hb := hide (below_setRow (nextB hb.out (box1 (o := .cells (ckC ck0).toArray 28))) (Nat.le_of_lt n1) (ckC (midK bs 0 0)).toArray)
    replace B1 := hide ((B1.out.alloc (.cells (ckC ck0).toArray 28)).rowFar (Nat.ne_of_lt n1) (ckC (midK bs 0 0)).toArray)
    generalize ((w1.alloc _).setRow w1.heap.size _) = W at B9 B1 hb ⊢
    clear B0 H G1 G2 G3 hM0 zm c9 s1 x1 a1
    generalize w1.heap.size = g6 at n1 B9 ⊢
    have n6 : w.heap.size ≠ g6 := by omega
    go_loopw [5] (fun i wr => ∃ j : Nat, j ≤ 4 ∧ i = .int .i64 (j : Int) ∧ Blk wr g6 28 (ckC (midK bs j 0)).toArray ∧ Blk wr w.heap.size 28 (ckC ck0).toArray ∧ Below w.heap.size w wr) (fun i _ => 4 - (intOf i).toNat)
    case atStart => exact ⟨0, by omega, rfl, B9.out, B1.out, hb.out⟩
    case round =>
      clear B9 B1 hb
      obtain ⟨j, hj, rfl, B6, B1, hb⟩ := hrel
      replace B6 := hide B6; replace B1 := hide B1; replace hb := hide hb
      by_cases hlt : j < 4
      · have G0 := G.out (20 + 8 * j) 4 (by omega) (by omega)
        have G1 := G.out (24 + 8 * j) 4 (by omega) (by omega)
        have hput : mapK bs (j + 1) = (mapK bs j).set j ((beN ((bs.drop (20 + 8 * j)).take 4) : Nat), beN ((bs.drop (24 + 8 * j)).take 4)) := rfl
        have a0 := beN_take (bs.drop (20 + 8 * j)) 4; have s0 := beN_take (bs.drop (24 + 8 * j)) 4
        generalize beN ((bs.drop (20 + 8 * j)).take 4) = a at G0 hput a0
        generalize beN ((bs.drop (24 + 8 * j)).take 4) = s at G1 hput s0
        replace a0 : a < 4294967296 := a0
        replace s0 : s < 4294967296 := s0
        simp only [Int.natCast_add, Int.natCast_mul, Int.cast_ofNat_Int] at G0 G1
        replace G0 := hide G0; replace G1 := hide G1; replace hput := hide hput
        obtain ⟨p, hp⟩ : ∃ p, (mapK bs j)[j]? = some p := ⟨_, List.getElem?_eq_getElem (by rw [mapK_len]; exact hlt)⟩
        obtain ⟨k0, k1⟩ := ck_map' (c := midK bs j 0) (mapK_len bs j) hp B6.out
        have f0 := B6.out.frozen (3 + j * 2); have f1 := B6.out.frozen (3 + j * 2 + 1)
        replace hp := hide hp
        go_wp2_with (go_at_call 22; first
          | ((with_reducible refine (unhide G0 _).mono ?_); rintro e w3 ⟨rfl, rfl⟩)
          | ((with_reducible refine (unhide G1 _).mono ?_); rintro e w3 ⟨rfl, rfl⟩))
        go_roundw
        case rel =>
          refine ⟨j + 1, by omega, by go_num, ?_, ?_, ?_⟩
          · have h := ((B6.out.put (3 + j * 2) (.int .i64 (a : Int))).put (3 + j * 2 + 1) (.int .u32 (s : Int)))
            rw [List.setIfInBounds_toArray, List.setIfInBounds_toArray] at h
            have m1 := ck_setmap (c := midK bs j 0) (x' := ((a : Int), p.2)) (u := .int .i64 (a : Int)) (mapK_len bs j) hp.out (j := 0) (by omega) rfl
            have m2 := ck_setmap (c := { midK bs j 0 with map := (mapK bs j).set j ((a : Int), p.2) }) (i := j) (x := ((a : Int), p.2)) (x' := ((a : Int), s)) (u := .int .u32 (s : Int)) (by simp [mapK_len]) (by simp [mapK_len, hlt]) (j := 1) (by omega) rfl
            rw [Nat.add_zero] at m1
            rw [m1, show 3 + j * 2 + 1 = 3 + (j * 2 + 1) by omega] at h
            rw [show (midK bs (j + 1) 0) = { midK bs j 0 with map := (mapK bs (j + 1)) } from rfl, hput.out]
            have m3 : ((mapK bs j).set j ((a : Int), p.2)).set j ((a : Int), s) = (mapK bs j).set j ((a : Int), s) := List.set_set ..
            simp only [m3] at m2
            have h2 := h
            unfold midK at h2 m2 ⊢
            simp only at h2 m2 ⊢
            rw [m2] at h2
            exact h2
          · exact ((B1.out.far n6 _).far n6 _)
          · exact ((hb.out.setCell (show w.heap.size ≤ g6 by omega) _).setCell (show w.heap.size ≤ g6 by omega) _)
        case measure => simp [intOf]; omega
      · obtain rfl : j = 4 := by omega
        clear hj hlt
        rw [show ((4 : Nat) : Int) = 4 from rfl]
        go_wp2_with fail
        go_loopw [6] (fun i wr => ∃ j : Nat, j ≤ 8 ∧ i = .int .i64 (j : Int) ∧ Blk wr g6 28 (ckC (midK bs 4 j)).toArray ∧ Blk wr w.heap.size 28 (ckC ck0).toArray ∧ Below w.heap.size w wr) (fun i _ => 8 - (intOf i).toNat)
        case atStart => exact ⟨0, by omega, rfl, B6.out, B1.out, hb.out⟩
        case round =>
          clear B6 B1 hb
          obtain ⟨j, hj, rfl, B6, B1, hb⟩ := hrel
          replace B6 := hide B6; replace B1 := hide B1; replace hb := hide hb
          by_cases hlt : j < 8
          · have G0 := G.out (52 + 2 * j) 2 (by omega) (by omega)
            have hput : useK bs (j + 1) = (useK bs j).set j (beN ((bs.drop (52 + 2 * j)).take 2) : Nat) := rfl
            have a0 := beN_take (bs.drop (52 + 2 * j)) 2
            generalize beN ((bs.drop (52 + 2 * j)).take 2) = a at G0 hput a0
            replace a0 : a < 65536 := a0
            simp only [Int.natCast_add, Int.natCast_mul, Int.cast_ofNat_Int] at G0
            replace G0 := hide G0; replace hput := hide hput
            obtain ⟨p, hp⟩ : ∃ p, (useK bs j)[j]? = some p := ⟨_, List.getElem?_eq_getElem (by rw [useK_len]; exact hlt)⟩
            have k0 := B6.out.cell_ (11 + j) _ (by simpa using (ck_used (c := midK bs 4 j) (mapK_len bs 4) hp))
            have f0 := B6.out.frozen (11 + j)
            replace hp := hide hp
            go_wp2_with (go_at_call 22; ((with_reducible refine (unhide G0 _).mono ?_); rintro e w3 ⟨rfl, rfl⟩))
            go_roundw
            case rel =>
              refine ⟨j + 1, by omega, by go_num, ?_, ?_, ?_⟩
              · have h := (B6.out.put (11 + j) (.int .i64 (a : Int)))
                rw [List.setIfInBounds_toArray, ck_setuse (mapK_len bs 4) hp.out] at h
                rw [show (midK bs 4 (j + 1)) = { midK bs 4 j with used := (useK bs (j + 1)) } from rfl, hput.out]
                exact h
              · exact (B1.out.far n6 _)
              · exact (hb.out.setCell (show w.heap.size ≤ g6 by omega) _)
            case measure => simp [intOf]; omega
          · obtain rfl : j = 8 := by omega
            clear hj hlt
            replace B6 : Hid (Blk wr g6 28 (ckC (ckAt bs)).toArray) := hide B6.out
            have h4 : (ckAt bs).map.length = 4 := mapK_len bs 4
            have h8 : (ckAt bs).used.length = 8 := useK_len bs 8
            have hs : ∀ p ∈ (ckAt bs).map, p.2 < 4294967296 := by
              intro p hp
              obtain ⟨i, _, rfl⟩ := List.mem_map.1 hp
              exact beN_take _ 4
            obtain ⟨M, hM⟩ : ∃ M, ckAt bs = M := ⟨_, rfl⟩
            rw [hM] at B6 h4 h8 hs
            have HR2 := HR.out
            rw [hM] at HR2
            have ZM := hide (ck_size h4 h8)
            have CM := fun w => mayCkRef_any M h4 h8 w
            have E := fun hm w => encCkRef_any M h4 h8 hs hm w
            clear hM h4 h8 hs
            by_cases hm : mayCk M
            · rw [decide_eq_true hm] at CM
              replace CM := hide CM
              have E := hide (E hm)
              by_cases hq : ckB M = bs
              · rw [if_pos ⟨hm, hq⟩] at HR2
                have hz2 : z = (⟨(ckB M).toArray⟩ : ByteArray) := by rw [HZ.out, hq]
                replace HR2 := hide HR2
                replace hz2 := hide hz2; replace hq := hide hq; clear hm
                go_wp2_with (first
                  | ((with_reducible refine load_ck (.tmp 4) rfl ?_ _ ?_ M B6.out ZM.out ?_); (next => rfl); (next => rfl))
                  | (go_at_call 11; (with_reducible refine (unhide CM _).mono ?_); rintro e w3 ⟨rfl, hb3⟩; replace B1 := hide (B1.out.below hb3 B1.out.lt); replace B6 := hide (B6.out.below hb3 B6.out.lt); replace hb := hide (nextB hb.out hb3); clear hb3)
                  | (go_at_call 15; (with_reducible refine (unhide E _).mono ?_); rintro e w3 ⟨rfl, hb3⟩; replace B1 := hide (B1.out.below hb3 B1.out.lt); replace B6 := hide (B6.out.below hb3 B6.out.lt); replace hb := hide (nextB hb.out hb3); clear hb3; rw [← hz2.out])
                  | ((with_reducible refine store_ck (.tmp 2) (.tmp 64) rfl rfl _ ?_ ck0 M ?_ B1.out ck0_size ZM.out ?_); (next => rfl); (next => rfl)))
                exact bodyPost_ret (results_pair rfl _ _ Try.wideCk w.heap.size 0 (ckC M) rfl ZM.out (blk_from (B1.out.row _))) rfl ⟨by rw [HR2.out]; rfl, below_setRow hb.out (Nat.le_refl _) _⟩
              · rw [if_neg (fun h => hq h.2)] at HR2
                replace HR2 := hide HR2
                have hz3 := HZ.out
                have hq2 : (ckB M == bs) = false := by simpa using hq
                replace hq := hide hq; clear hm
                subst hz3
                go_wp2_with (first
                  | ((with_reducible refine load_ck (.tmp 4) rfl ?_ _ ?_ M B6.out ZM.out ?_); (next => rfl); (next => rfl))
                  | (go_at_call 11; (with_reducible refine (unhide CM _).mono ?_); rintro e w3 ⟨rfl, hb3⟩; replace B1 := hide (B1.out.below hb3 B1.out.lt); replace B6 := hide (B6.out.below hb3 B6.out.lt); replace hb := hide (nextB hb.out hb3); clear hb3)
                  | (go_at_call 15; (with_reducible refine (unhide E _).mono ?_); rintro e w3 ⟨rfl, hb3⟩; replace B1 := hide (B1.out.below hb3 B1.out.lt); replace B6 := hide (B6.out.below hb3 B6.out.lt); replace hb := hide (nextB hb.out hb3); clear hb3)
                  | ((with_reducible refine wpList_built ?_ _ rfl _ ck_built ?_); (next => rfl))
                  | ((with_reducible refine store_ck (.tmp 2) (.tmp 63) rfl rfl _ ?_ ck0 ck0 ?_ B1.out ck0_size ck0_size ?_); (next => rfl); (next => rfl)))
                exact bodyPost_ret (results_pair rfl _ _ Try.wideCk w.heap.size 0 (ckC ck0) rfl ck0_size (blk_from (B1.out.row _))) rfl ⟨by rw [HR2.out]; rfl, below_setRow hb.out (Nat.le_refl _) _⟩
            · rw [decide_eq_false hm] at CM
              replace CM := hide CM
              rw [if_neg (fun h => hm h.1)] at HR2
              replace HR2 := hide HR2
              clear E hm
              go_wp2_with (first
                | ((with_reducible refine load_ck (.tmp 4) rfl ?_ _ ?_ M B6.out ZM.out ?_); (next => rfl); (next => rfl))
                | (go_at_call 11; (with_reducible refine (unhide CM _).mono ?_); rintro e w3 ⟨rfl, hb3⟩; replace B1 := hide (B1.out.below hb3 B1.out.lt); replace B6 := hide (B6.out.below hb3 B6.out.lt); replace hb := hide (nextB hb.out hb3); clear hb3)
                | ((with_reducible refine wpList_built ?_ _ rfl _ ck_built ?_); (next => rfl))
                | ((with_reducible refine store_ck (.tmp 2) (.tmp 63) rfl rfl _ ?_ ck0 ck0 ?_ B1.out ck0_size ck0_size ?_); (next => rfl); (next => rfl)))
              exact bodyPost_ret (results_pair rfl _ _ Try.wideCk w.heap.size 0 (ckC ck0) rfl ck0_size (blk_from (B1.out.row _))) rfl ⟨by rw [HR2.out]; rfl, below_setRow hb.out (Nat.le_refl _) _⟩
  · rw [Bool.not_eq_true] at hh
    rw [hh] at H
    have he : decK bs = (ck0, 5) := by unfold decK; rw [hh]; rfl
    rw [he]
    replace H := hide H
    clear he hbs hh
    go_enter Try.func9, Try.ntmps9
    go_wp2_with (first
      | (go_at_call 21; (with_reducible refine (unhide H _).mono ?_); rintro e w1 ⟨rfl, hb1⟩; have B1 := hide (B0.out.below hb1 B0.out.lt); have hb := hide (nextB box1 hb1))
      | ((with_reducible refine wpList_built ?_ _ rfl _ ck_built ?_); (next => rfl))
      | ((with_reducible refine store_ck (.tmp 2) (.tmp 10) rfl rfl _ ?_ ck0 ck0 ?_ B1.out ck0_size ck0_size ?_); (next => rfl); (next => rfl)))
    exact bodyPost_ret (results_pair rfl _ _ Try.wideCk w.heap.size 0 (ckC ck0) rfl ck0_size (blk_from (B1.out.row _))) rfl ⟨rfl, below_setRow hb.out (Nat.le_refl _) _⟩
end Go.Proofs.Ytboccjdliklifaa
