/- A block's checkpoint is read: contract of the program's Decode, of what is sealed. No condition. -/
import Derived.Test.YtboccjdliklifaaCkE
import Derived.Test.YtboccjdliklifaaPlainV
import Derived.StillTailTactics
namespace Go.Proofs.Ytboccjdliklifaa
set_option linter.unusedSimpArgs false
open Go.RowKit

set_option maxRecDepth 100000 in
set_option maxHeartbeats 8000000 in
theorem dec_held (A : Option Addr) (n c : Nat) (bs : List UInt8) (w : World) (hA : Rd w A (bs.map u8v)) (hn : bs.length = n) (hc : n ≤ c) (hh : heldB bs = true) :
    Calls Try.prog 8 #[.slice A n c] w fun e w' => e = .returned (.tuple #[.agg (ckC (decK bs).1).toArray, .int .i64 (decK bs).2]) ∧ Below w.heap.size w w' := by
  obtain rfl : n = 128 := by
    unfold heldB at hh
    rw [Bool.and_eq_true, decide_eq_true_eq] at hh
    omega
  have he : decK bs = if mayCk (ckAt bs) ∧ ckB (ckAt bs) = bs then (ckAt bs, 0) else (ck0, 3) := by unfold decK; rw [if_pos hh]
  obtain ⟨R, hR⟩ : ∃ R, R = decK bs := ⟨_, rfl⟩
  rw [← hR]
  have HR := hide (hR.trans he)
  clear hR he
  obtain ⟨b0, o0, rfl⟩ : ∃ b o, A = some ⟨b, o, none⟩ := by
    rcases hA with h | ⟨b, o, h, _⟩
    · have := congrArg List.length h
      simp [hn] at this
    · exact ⟨b, o, h⟩
  have H := held_any (some ⟨b0, o0, none⟩) 128 c bs (w.alloc (.cells (ckC ck0).toArray 28)) (hA.alloc _) hn hc
  rw [hh] at H
  have Hn := hide hn; have HA := hide hA
  replace H := hide H
  have hz := ck_zero
  have B0 := hide (Blk.new w 28 (ckC ck0).toArray)
  have hU := hide (unpackH bs (by omega))
  clear hA hn hh
  go_enter Try.func8, Try.ntmps8
  go_upto_region 4 with (first
    | (go_at_call 18; (with_reducible refine (unhide H).mono ?_); rintro e w1 ⟨rfl, hb1⟩; have B1 := hide (B0.out.below hb1 B0.out.lt); have hb := hide (nextB box1 hb1); clear hb1; have U := unpack_any (some ⟨b0, o0, none⟩) (some ⟨w1.heap.size, 0, none⟩) 128 c 4 4 bs [4, 6, 6, 4] (w1.alloc (.cells #[.int .i64 4, .int .i64 6, .int .i64 6, .int .i64 4] 3)) ((HA.out.on hb.out).alloc _) (Blk.new w1 3 #[.int .i64 4, .int .i64 6, .int .i64 6, .int .i64 4]).rd Hn.out hc rfl (by decide); rw [hU.out] at U; replace U := hide U)
    | (go_at_call 19; (with_reducible refine (unhide U).mono ?_); rintro e w3 ⟨A3, c3, rfl, ho3, hb3⟩))
  obtain ⟨g3, rfl, hg3⟩ := own_some ho3 (by simp)
  have hr3 := Rd.of_own ho3
  have kb3 : Below w1.heap.size w1 w3 := nextB box1 hb3
  replace B1 := hide (B1.out.below kb3 B1.out.lt); replace hb := hide (nextB hb.out kb3)
  obtain ⟨q, hq⟩ : ∃ q, numAt bs 0 4 = q := ⟨_, rfl⟩
  obtain ⟨s, hs⟩ : ∃ q, numAt bs 4 6 = q := ⟨_, rfl⟩
  obtain ⟨x, hx⟩ : ∃ q, numAt bs 10 6 = q := ⟨_, rfl⟩
  obtain ⟨a, ha⟩ : ∃ q, numAt bs 16 4 = q := ⟨_, rfl⟩
  have s1 : s < 281474976710656 := by rw [← hs]; exact beN_take _ 6
  have x1 : x < 281474976710656 := by rw [← hx]; exact beN_take _ 6
  have a1 : a < 4294967296 := by rw [← ha]; exact beN_take _ 4
  have hM0 : midK bs 0 0 = ⟨(s : Int), (x : Int), (a : Int), mapK bs 0, useK bs 0⟩ := by unfold midK; rw [hs, hx, ha]
  replace hM0 := hide hM0
  rw [hq, hs, hx, ha] at hr3
  clear hq hs hx ha ho3 hb3 kb3 U hU H B0
  have e1 : IntKind.i64.wrap (s : Int) = s := IntWalk.i64_in _ (by omega)
  have e2 : IntKind.i64.wrap (x : Int) = x := IntWalk.i64_in _ (by omega)
  have e3 : IntKind.i64.wrap (a : Int) = a := IntWalk.i64_in _ (by omega)
  have q1 : ∀ z : Ext w3, z.w.cell? ⟨g3, 1, none⟩ = some (.int .u64 (s : Int)) := fun z => by have := (hr3.on z.h).cell (k := 1) rfl; rw [Nat.zero_add] at this; exact this
  have q2 : ∀ z : Ext w3, z.w.cell? ⟨g3, 2, none⟩ = some (.int .u64 (x : Int)) := fun z => by have := (hr3.on z.h).cell (k := 2) rfl; rw [Nat.zero_add] at this; exact this
  have q3 : ∀ z : Ext w3, z.w.cell? ⟨g3, 3, none⟩ = some (.int .u64 (a : Int)) := fun z => by have := (hr3.on z.h).cell (k := 3) rfl; rw [Nat.zero_add] at this; exact this
  clear hr3
  refine wp_region_var w3 [28] (by kernel_rfl) (by kernel_rfl) (Below.refl _ _) ?_
  repeat (apply var_det; (intro x; simp only [List.nil_append, List.cons_append, List.map_cons, List.map_nil, depP, depG, finP, Option.some.injEq, Nat.reduceEqDiff, reduceCtorEq, ↓reduceIte]; simp only [List.filter_cons, List.filter_nil, lookT, Oper.looksAt, Op.operands, Call.operands, List.filterMap_cons, List.filterMap_nil, List.append_nil, List.contains_cons, List.contains_nil, Nat.reduceBEq, Bool.or_false, Bool.false_or, Bool.or_true, Bool.true_or, Bool.false_eq_true, if_true, if_false, withD_nil, withD_det, List.nil_append, List.cons_append, ↓reduceIte, List.push_toArray, List.append_toArray, List.map_cons, List.map_nil, Option.toArray_none, Option.toArray_some, Array.append_empty, List.getElem?_toArray, List.getElem?_cons_succ, List.getElem?_cons_zero, Option.bind_some, Option.toList_some]; unfold rOne; go_wp2_with fail; (first | (refine ⟨Below.refl _ _, ?_⟩; simp only [opGot, Array.getD_eq_getD_getElem?, List.getElem?_toArray, List.getElem?_cons_succ, List.getElem?_cons_zero, Option.getD_some]; exact rfl) | (refine ⟨by assumption, ?_⟩; simp only [opGot, Array.getD_eq_getD_getElem?, List.getElem?_toArray, List.getElem?_cons_succ, List.getElem?_cons_zero, Option.getD_some]; exact rfl) | (simp only [opGot, Array.getD_eq_getD_getElem?, List.getElem?_toArray, List.getElem?_cons_succ, List.getElem?_cons_zero, Option.getD_some]; exact rfl))))
  refine var_al 28 19 (ckC ⟨(s : Int), (x : Int), (a : Int), mapK bs 0, useK bs 0⟩).toArray 6 (by simp) rfl ?_ ?_
  · intro y; simp only [List.nil_append, List.cons_append, List.map_cons, List.map_nil, depP, depG, finP, Option.some.injEq, Nat.reduceEqDiff, reduceCtorEq, ↓reduceIte]; simp only [List.filter_cons, List.filter_nil, lookT, Oper.looksAt, Op.operands, Call.operands, List.filterMap_cons, List.filterMap_nil, List.append_nil, List.contains_cons, List.contains_nil, Nat.reduceBEq, Bool.or_false, Bool.false_or, Bool.or_true, Bool.true_or, Bool.false_eq_true, if_true, if_false, withD_nil, withD_det, List.nil_append, List.cons_append, ↓reduceIte, List.push_toArray, List.append_toArray, List.map_cons, List.map_nil, Option.toArray_none, Option.toArray_some, Array.append_empty, List.getElem?_toArray, List.getElem?_cons_succ, List.getElem?_cons_zero, Option.bind_some, Option.toList_some]; unfold rOne; go_wp2_with fail
    exact ⟨by simp only [opGot, Array.getD_eq_getD_getElem?, List.getElem?_toArray, List.getElem?_cons_succ, List.getElem?_cons_zero, Option.getD_some], _, ck0_size, rfl⟩
  refine var_st 6 28 19 (ckC ⟨(s : Int), (x : Int), (a : Int), mapK bs 0, useK bs 0⟩).toArray (by simp) rfl rfl rfl ?_ ?_
  · intro y g cs _ hB hsz; simp only [List.nil_append, List.cons_append, List.map_cons, List.map_nil, depP, depG, finP, Option.some.injEq, Nat.reduceEqDiff, reduceCtorEq, ↓reduceIte]; simp only [List.filter_cons, List.filter_nil, lookT, Oper.looksAt, Op.operands, Call.operands, List.filterMap_cons, List.filterMap_nil, List.append_nil, List.contains_cons, List.contains_nil, Nat.reduceBEq, Bool.or_false, Bool.false_or, Bool.or_true, Bool.true_or, Bool.false_eq_true, if_true, if_false, withD_nil, withD_det, List.nil_append, List.cons_append, ↓reduceIte, List.push_toArray, List.append_toArray, List.map_cons, List.map_nil, Option.toArray_none, Option.toArray_some, Array.append_empty, List.getElem?_toArray, List.getElem?_cons_succ, List.getElem?_cons_zero, Option.bind_some, Option.toList_some]; unfold rOne
    go_wp2_with ((with_reducible refine wpList_store_at (.tmp 6) (.tmp 37) rfl ?_ g _ cs (ckC ⟨(s : Int), (x : Int), (a : Int), mapK bs 0, useK bs 0⟩).toArray ?_ ?_ hB ?_ ?_ (ckC_one _) ?_); (next => rfl); (next => rfl); (next => rfl); (next => exact Try.sizeCk); (next => exact hsz))
    exact ⟨Only.row _ _ _, hB.row _⟩
  refine var_nil rfl ?_
  intro y
  simp only [List.nil_append, List.cons_append, List.map_cons, List.map_nil, depP, depG, finP, Option.some.injEq, Nat.reduceEqDiff, reduceCtorEq, ↓reduceIte]; simp only [List.filter_cons, List.filter_nil, lookT, Oper.looksAt, Op.operands, Call.operands, List.filterMap_cons, List.filterMap_nil, List.append_nil, List.contains_cons, List.contains_nil, Nat.reduceBEq, Bool.or_false, Bool.false_or, Bool.or_true, Bool.true_or, Bool.false_eq_true, if_true, if_false, withD_nil, withD_det, List.nil_append, List.cons_append, ↓reduceIte, List.push_toArray, List.append_toArray, List.map_cons, List.map_nil, Option.toArray_none, Option.toArray_some, Array.append_empty, List.getElem?_toArray, List.getElem?_cons_succ, List.getElem?_cons_zero, Option.bind_some, Option.toList_some]
  rw [withD_pr]; rintro v ⟨g6, rfl, hg6, B6⟩
  rw [withD_pr]; rintro v _
  simp only [withD_det, withD_nil, Act.put, List.setIfInBounds_toArray, List.set_cons_succ, List.set_cons_zero]
  rw [← hM0.out] at B6
  have n6 : w.heap.size ≠ g6 := by have := B1.out.lt; omega
  have n7 : w.heap.size < g6 := by have := B1.out.lt; omega
  replace B6 := hide B6; replace B1 := hide (B1.out.below y.h B1.out.lt); replace hb := hide (nextB hb.out y.h)
  generalize y.w = W at B6 B1 hb ⊢
  clear q1 q2 q3 e1 e2 e3 s1 x1 a1 hM0
  go_wp2_with fail
  go_loopw [38] (fun i wr => ∃ j : Nat, j ≤ 4 ∧ i = .int .i64 (j : Int) ∧ Blk wr g6 28 (ckC (midK bs j 0)).toArray ∧ Blk wr w.heap.size 28 (ckC ck0).toArray ∧ Below w.heap.size w wr) (fun i _ => 4 - (intOf i).toNat)
  case atStart => exact ⟨0, by omega, rfl, B6.out, B1.out, hb.out⟩
  case round =>
    clear B6 B1 hb
    obtain ⟨j, hj, rfl, B6, B1, hb⟩ := hrel
    replace B6 := hide B6; replace B1 := hide B1; replace hb := hide hb
    by_cases hlt : j < 4
    · have hU := unpackM bs j (by rw [Hn.out]; omega)
      obtain ⟨a, ha⟩ : ∃ q, numAt bs (20 + 8 * j) 4 = q := ⟨_, rfl⟩
      obtain ⟨s, hs⟩ : ∃ q, numAt bs (24 + 8 * j) 4 = q := ⟨_, rfl⟩
      have a0 : a < 4294967296 := by rw [← ha]; exact beN_take _ 4
      have s0 : s < 4294967296 := by rw [← hs]; exact beN_take _ 4
      have hput : Hid (mapK bs (j + 1) = (mapK bs j).set j ((a : Int), s)) := hide (by rw [mapK]; unfold mapAt; rw [ha, hs])
      rw [ha, hs] at hU
      have Rb := (HA.out.on hb.out).cut (k := 20 + 8 * j) (n := 128) (cap := c) (by rw [List.length_map, Hn.out]; exact Nat.le_refl _) hc
      rw [if_neg (by omega), ← List.map_drop] at Rb
      have Rb2 : Rd wr (some ⟨b0, o0 + (20 + 8 * j), none⟩) ((bs.drop (20 + 8 * j)).map u8v) := by
        have e : Addr.add ⟨b0, o0, none⟩ (20 + 8 * j) = ⟨b0, o0 + (20 + 8 * j), none⟩ := by unfold Addr.add; rw [if_neg (by omega)]
        simpa [e] using Rb
      have U := unpack_any (some ⟨b0, o0 + (20 + 8 * j), none⟩) (some ⟨wr.heap.size, 0, none⟩) (128 - (20 + 8 * j)) (c - (20 + 8 * j)) 2 2 (bs.drop (20 + 8 * j)) [4, 4] (wr.alloc (.cells #[.int .i64 4, .int .i64 4] 3))
        (Rb2.alloc _) (Blk.new wr 3 #[.int .i64 4, .int .i64 4]).rd (by rw [List.length_drop, Hn.out]) (by omega) rfl (by decide)
      rw [hU] at U
      replace U := hide U
      clear hU Rb Rb2 ha hs
      go_wp2_with (go_at_call 19; (with_reducible refine (unhide U).mono ?_); rintro e w4 ⟨A4, c4, rfl, ho4, hb4⟩)
      obtain ⟨g4, rfl, hg4⟩ := own_some ho4 (by simp)
      have hr4 := Rd.of_own ho4
      have q0 : w4.cell? ⟨g4, 0, none⟩ = some (.int .u64 (a : Int)) := hr4.cell (k := 0) rfl
      have q1 : w4.cell? ⟨g4, 1, none⟩ = some (.int .u64 (s : Int)) := by have := hr4.cell (k := 1) rfl; rwa [Nat.zero_add] at this
      have kb4 : Below wr.heap.size wr w4 := nextB box1 hb4
      replace B1 := hide (B1.out.below kb4 B1.out.lt); replace B6 := hide (B6.out.below kb4 B6.out.lt)
      replace hb := hide (nextB hb.out kb4)
      obtain ⟨p, hp⟩ : ∃ p, (mapK bs j)[j]? = some p := ⟨_, List.getElem?_eq_getElem (by rw [mapK_len]; exact hlt)⟩
      have k0 := B6.out.cell_ (3 + j * 2) _ (by simpa using (ck_map (c := midK bs j 0) (mapK_len bs j) hp).1)
      have k1 := B6.out.cell_ (3 + j * 2 + 1) _ (by simpa using (ck_map (c := midK bs j 0) (mapK_len bs j) hp).2)
      have f0 := B6.out.frozen (3 + j * 2); have f1 := B6.out.frozen (3 + j * 2 + 1)
      replace hp := hide hp
      clear ho4 hb4 hr4 kb4 U
      go_wp2_with fail
      have e5 : IntKind.i64.wrap (a : Int) = a := IntWalk.i64_in _ (by omega)
      have e6 : IntKind.u32.wrap (s : Int) = s := by rw [IntKind.wrap_u32]; omega
      have e3 : (0 : Int) ≤ (j : Int) ∧ (j : Int) < 4 := by omega
      go_still_tail 12, (by kernel_rfl)
      change wpList _ _ _ _ _ w4.drew
      clear e5 e6 e3
      go_wp2_with fail
      go_roundw
      case rel =>
        refine ⟨j + 1, by omega, by go_num, ?_, ?_, ?_⟩
        · have h := ((B6.out.put (3 + j * 2) (.int .i64 (a : Int))).put (3 + j * 2 + 1) (.int .u32 (s : Int))).drew
          rw [List.setIfInBounds_toArray, List.setIfInBounds_toArray] at h
          have m1 := ck_setmap (c := midK bs j 0) (x' := ((a : Int), p.2)) (u := .int .i64 (a : Int)) (mapK_len bs j) hp.out (j := 0) (by omega) rfl
          have m2 := ck_setmap (c := { midK bs j 0 with map := (mapK bs j).set j ((a : Int), p.2) }) (i := j) (x := ((a : Int), p.2)) (x' := ((a : Int), s)) (u := .int .u32 (s : Int)) (by simp [mapK_len]) (by simp [mapK_len, hlt]) (j := 1) (by omega) rfl
          rw [Nat.add_zero] at m1
          rw [m1, show 3 + j * 2 + 1 = 3 + (j * 2 + 1) by omega] at h
          rw [show (midK bs (j + 1) 0) = { midK bs j 0 with map := (mapK bs (j + 1)) } from rfl, hput.out]
          have m3 : ((mapK bs j).set j ((a : Int), p.2)).set j ((a : Int), s) = (mapK bs j).set j ((a : Int), s) := List.set_set ..
          simp only [m3] at m2
          have h2 := h
          unfold midK at h2 m2 ⊢
          simp only at h2 m2 ⊢
          rw [m2] at h2
          exact h2
        · exact ((B1.out.far n6 _).far n6 _).drew
        · exact ((hb.out.setCell (show w.heap.size ≤ g6 by omega) _).setCell (show w.heap.size ≤ g6 by omega) _).drew
      case measure => simp [intOf]; omega
    · obtain rfl : j = 4 := by omega
      clear hj hlt
      rw [show ((4 : Nat) : Int) = 4 from rfl]
      go_wp2_with fail
      go_loopw [64] (fun i wr => ∃ j : Nat, j ≤ 8 ∧ i = .int .i64 (j : Int) ∧ Blk wr g6 28 (ckC (midK bs 4 j)).toArray ∧ Blk wr w.heap.size 28 (ckC ck0).toArray ∧ Below w.heap.size w wr) (fun i _ => 8 - (intOf i).toNat)
      case atStart => exact ⟨0, by omega, rfl, B6.out, B1.out, hb.out⟩
      case round =>
        clear B6 B1 hb
        obtain ⟨j, hj, rfl, B6, B1, hb⟩ := hrel
        replace B6 := hide B6; replace B1 := hide B1; replace hb := hide hb
        by_cases hlt : j < 8
        · have hU := unpackU bs j (by rw [Hn.out]; omega)
          obtain ⟨a, ha⟩ : ∃ q, numAt bs (52 + 2 * j) 2 = q := ⟨_, rfl⟩
          have a0 : a < 65536 := by rw [← ha]; exact beN_take _ 2
          have hput : Hid (useK bs (j + 1) = (useK bs j).set j (a : Int)) := hide (by rw [useK]; unfold useAt; rw [ha])
          rw [ha] at hU
          have Rb := (HA.out.on hb.out).cut (k := 52 + 2 * j) (n := 128) (cap := c) (by rw [List.length_map, Hn.out]; exact Nat.le_refl _) hc
          rw [if_neg (by omega), ← List.map_drop] at Rb
          have Rb2 : Rd wr (some ⟨b0, o0 + (52 + 2 * j), none⟩) ((bs.drop (52 + 2 * j)).map u8v) := by
            have e : Addr.add ⟨b0, o0, none⟩ (52 + 2 * j) = ⟨b0, o0 + (52 + 2 * j), none⟩ := by unfold Addr.add; rw [if_neg (by omega)]
            simpa [e] using Rb
          have U := unpack_any (some ⟨b0, o0 + (52 + 2 * j), none⟩) (some ⟨wr.heap.size, 0, none⟩) (128 - (52 + 2 * j)) (c - (52 + 2 * j)) 1 1 (bs.drop (52 + 2 * j)) [2] (wr.alloc (.cells #[.int .i64 2] 3))
            (Rb2.alloc _) (Blk.new wr 3 #[.int .i64 2]).rd (by rw [List.length_drop, Hn.out]) (by omega) rfl (by decide)
          rw [hU] at U
          replace U := hide U
          clear hU Rb Rb2 ha
          go_wp2_with (go_at_call 19; (with_reducible refine (unhide U).mono ?_); rintro e w4 ⟨A4, c4, rfl, ho4, hb4⟩)
          obtain ⟨g4, rfl, hg4⟩ := own_some ho4 (by simp)
          have hr4 := Rd.of_own ho4
          have q0 : w4.cell? ⟨g4, 0, none⟩ = some (.int .u64 (a : Int)) := hr4.cell (k := 0) rfl
          have kb4 : Below wr.heap.size wr w4 := nextB box1 hb4
          replace B1 := hide (B1.out.below kb4 B1.out.lt); replace B6 := hide (B6.out.below kb4 B6.out.lt)
          replace hb := hide (nextB hb.out kb4)
          obtain ⟨p, hp⟩ : ∃ p, (useK bs j)[j]? = some p := ⟨_, List.getElem?_eq_getElem (by rw [useK_len]; exact hlt)⟩
          have k0 := B6.out.cell_ (11 + j) _ (by simpa using (ck_used (c := midK bs 4 j) (mapK_len bs 4) hp))
          have f0 := B6.out.frozen (11 + j)
          replace hp := hide hp
          clear ho4 hb4 hr4 kb4 U
          go_wp2_with fail
          have e5 : IntKind.i64.wrap (a : Int) = a := IntWalk.i64_in _ (by omega)
          have e3 : (0 : Int) ≤ (j : Int) ∧ (j : Int) < 8 := by omega
          go_simp
          go_wp2_with fail
          go_roundw
          case rel =>
            refine ⟨j + 1, by omega, by go_num, ?_, ?_, ?_⟩
            · have h := (B6.out.put (11 + j) (.int .i64 (a : Int)))
              rw [List.setIfInBounds_toArray, ck_setuse (mapK_len bs 4) hp.out] at h
              rw [show (midK bs 4 (j + 1)) = { midK bs 4 j with used := (useK bs (j + 1)) } from rfl, hput.out]
              exact h
            · exact (B1.out.far n6 _)
            · exact (hb.out.setCell (show w.heap.size ≤ g6 by omega) _)
          case measure => simp [intOf]; omega
        · obtain rfl : j = 8 := by omega
          clear hj hlt
          have B6' : Hid (Blk wr g6 28 (ckC (ckAt bs)).toArray) := hide B6.out
          have h4 : (ckAt bs).map.length = 4 := mapK_len bs 4
          have h8 : (ckAt bs).used.length = 8 := useK_len bs 8
          have hs : ∀ p ∈ (ckAt bs).map, p.2 < 4294967296 := by
            intro p hp
            obtain ⟨i, _, rfl⟩ := List.mem_map.1 hp
            exact beN_take _ 4
          clear B6
          obtain ⟨M, hM⟩ : ∃ M, ckAt bs = M := ⟨_, rfl⟩
          rw [hM] at B6' h4 h8 hs
          have HR2 := HR.out
          rw [hM] at HR2
          have E := enc_any M h4 h8 hs wr
          have ZM := hide (ck_size h4 h8)
          clear hM h4 h8 hs
          by_cases hm : mayCk M
          · have he : encK M = (ckB M, 0) := by unfold encK; rw [if_pos hm]
            rw [he] at E
            replace E := hide E; clear he
            by_cases hq : ckB M = bs
            · rw [if_pos ⟨hm, hq⟩] at HR2
              replace HR2 := hide HR2
              replace hq := hide hq; clear hm
              go_wp2_with (first
                | ((with_reducible refine wpList_load_at (.tmp 6) rfl ?_ Try.wideCk g6 0 ?_ (ckC M) ZM.out ?_ ?_); (next => rfl); (next => rfl); (next => intro j u hu; rw [Nat.zero_add]; exact B6'.out.cell_ j u (by simpa using hu)))
                | (go_at_call 12; (with_reducible refine (unhide E).mono ?_); rintro e w3 ⟨A3, c3, rfl, ho3, hc3, hb3⟩; replace B1 := hide (B1.out.below hb3 B1.out.lt); replace B6' := hide (B6'.out.below hb3 B6'.out.lt); replace hb := hide (nextB hb.out hb3); have Q := bytesEq_any A3 _ (ckB M).length c3 128 c (ckB M) bs w3 ho3 (HA.out.on hb.out) rfl Hn.out; rw [decide_eq_true hq.out] at Q; replace Q := hide Q; clear ho3 hb3)
                | (go_at_call 20; (with_reducible refine (unhide Q).mono ?_); rintro e w4 ⟨rfl, rfl⟩)
                | ((with_reducible refine wpList_store_at (.tmp 2) (.tmp 99) rfl ?_ w.heap.size _ _ (ckC M).toArray ?_ ?_ B1.out ?_ ?_ (ckC_one _) ?_); (next => rfl); (next => rfl); (next => rfl); (next => exact by rw [List.size_toArray, ZM.out]; exact Try.sizeCk); (next => rw [List.size_toArray, List.size_toArray, ZM.out]; rfl)))
              exact bodyPost_ret (results_pair rfl _ _ Try.wideCk w.heap.size 0 (ckC M) rfl ZM.out (blk_from (B1.out.row _))) rfl ⟨by rw [HR2.out]; rfl, below_setRow hb.out (Nat.le_refl _) _⟩
            · rw [if_neg (fun h => hq h.2)] at HR2
              replace HR2 := hide HR2
              replace hq := hide hq; clear hm
              go_wp2_with (first
                | ((with_reducible refine wpList_load_at (.tmp 6) rfl ?_ Try.wideCk g6 0 ?_ (ckC M) ZM.out ?_ ?_); (next => rfl); (next => rfl); (next => intro j u hu; rw [Nat.zero_add]; exact B6'.out.cell_ j u (by simpa using hu)))
                | (go_at_call 12; (with_reducible refine (unhide E).mono ?_); rintro e w3 ⟨A3, c3, rfl, ho3, hc3, hb3⟩; replace B1 := hide (B1.out.below hb3 B1.out.lt); replace hb := hide (nextB hb.out hb3); have Q := bytesEq_any A3 _ (ckB M).length c3 128 c (ckB M) bs w3 ho3 (HA.out.on hb.out) rfl Hn.out; rw [decide_eq_false hq.out] at Q; replace Q := hide Q; clear ho3 hb3)
                | (go_at_call 20; (with_reducible refine (unhide Q).mono ?_); rintro e w4 ⟨rfl, rfl⟩)
                | ((with_reducible refine wpList_built ?_ _ rfl _ ck_built ?_); (next => rfl))
                | ((with_reducible refine wpList_store_at (.tmp 2) (.tmp 98) rfl ?_ w.heap.size _ _ (ckC ck0).toArray ?_ ?_ B1.out ?_ ?_ (ckC_one _) ?_); (next => rfl); (next => rfl); (next => rfl); (next => exact Try.sizeCk); (next => rfl)))
              exact bodyPost_ret (results_pair rfl _ _ Try.wideCk w.heap.size 0 (ckC ck0) rfl ck0_size (blk_from (B1.out.row _))) rfl ⟨by rw [HR2.out]; rfl, below_setRow hb.out (Nat.le_refl _) _⟩
          · rw [if_neg (fun h => hm h.1)] at HR2
            replace HR2 := hide HR2
            have he : encK M = ([], 1) := by unfold encK; rw [if_neg hm]
            rw [he] at E
            replace E := hide E; clear he hm
            go_wp2_with (first
              | ((with_reducible refine wpList_load_at (.tmp 6) rfl ?_ Try.wideCk g6 0 ?_ (ckC M) ZM.out ?_ ?_); (next => rfl); (next => rfl); (next => intro j u hu; rw [Nat.zero_add]; exact B6'.out.cell_ j u (by simpa using hu)))
              | (go_at_call 12; (with_reducible refine (unhide E).mono ?_); rintro e w3 ⟨A3, c3, rfl, ho3, hc3, hb3⟩; replace B1 := hide (B1.out.below hb3 B1.out.lt); replace hb := hide (nextB hb.out hb3); clear ho3 hb3)
              | ((with_reducible refine wpList_built ?_ _ rfl _ ck_built ?_); (next => rfl))
              | ((with_reducible refine wpList_store_at (.tmp 2) (.tmp 98) rfl ?_ w.heap.size _ _ (ckC ck0).toArray ?_ ?_ B1.out ?_ ?_ (ckC_one _) ?_); (next => rfl); (next => rfl); (next => rfl); (next => exact Try.sizeCk); (next => rfl)))
            exact bodyPost_ret (results_pair rfl _ _ Try.wideCk w.heap.size 0 (ckC ck0) rfl ck0_size (blk_from (B1.out.row _))) rfl ⟨by rw [HR2.out]; rfl, below_setRow hb.out (Nat.le_refl _) _⟩
theorem dec_any (A : Option Addr) (n c : Nat) (bs : List UInt8) (w : World) (hA : Rd w A (bs.map u8v)) (hn : bs.length = n) (hc : n ≤ c) :
    Calls Try.prog 8 #[.slice A n c] w fun e w' => e = .returned (.tuple #[.agg (ckC (decK bs).1).toArray, .int .i64 (decK bs).2]) ∧ Below w.heap.size w w' := by
  by_cases hh : heldB bs = true
  · exact dec_held A n c bs w hA hn hc hh
  · exact dec_not A n c bs w hA hn hc (by simpa using hh)
end Go.Proofs.Ytboccjdliklifaa
