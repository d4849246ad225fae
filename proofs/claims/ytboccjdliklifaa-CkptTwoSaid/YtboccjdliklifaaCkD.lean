/- A checkpoint's block is made: contract of the program's Encode. No condition. -/
import Derived.Test.YtboccjdliklifaaPlainU
import Derived.Test.YtboccjdliklifaaPack
import Derived.Test.YtboccjdliklifaaSeal
import Derived.Test.YtboccjdliklifaaVarL
namespace Go.Proofs.Ytboccjdliklifaa
open Go.RowKit

/-- octets and an error's number, as the call hands them back -/
def MadeR (w : World) (r : List UInt8 × Int) (e : Ending) (w' : World) : Prop :=
  ∃ A c, e = .returned (.tuple #[.slice A r.1.length c, .int .i64 r.2]) ∧ Rd w' A (r.1.map u8v) ∧ r.1.length ≤ c ∧ Below w.heap.size w w'
theorem Try.wideCk : Wide Try.prog 28 19 := ⟨by kernel_rfl, by kernel_rfl⟩
theorem Try.wideM4 : Wide Try.prog 25 8 := ⟨by kernel_rfl, by kernel_rfl⟩
theorem Try.wideUs8 : Wide Try.prog 26 8 := ⟨by kernel_rfl, by kernel_rfl⟩
theorem Try.widePtr : Wide Try.prog 24 2 := ⟨by kernel_rfl, by kernel_rfl⟩
theorem Try.arrM4 : Try.prog.underlying 25 = some (.array 4 24) := by kernel_rfl
theorem Try.arrUs8 : Try.prog.underlying 26 = some (.array 8 3) := by kernel_rfl
theorem m4_index {m : List (Int × Nat)} {i : Nat} {x : Int × Nat} (hi : i < 4) (hx : m[i]? = some x) (w : World) :
    (Instr.index 25 (.agg (m.flatMap ptrC).toArray) (.int .i64 (i : Int))).run Try.prog w = .ok (.agg #[.int .i64 x.1, .int .u32 (x.2 : Int)]) w :=
  run_index_flat Try.arrM4 Try.widePtr ptrC_len .i64 i hi hx w
theorem us8_index {m : List Int} {i : Nat} {x : Int} (hi : i < 8) (hx : m[i]? = some x) (w : World) :
    (Instr.index 26 (.agg (m.flatMap (fun n => [i64v n])).toArray) (.int .i64 (i : Int))).run Try.prog w = .ok (.int .i64 x) w := by
  have h1 : (0 : Int) ≤ (i : Int) ∧ (i : Int) < (8 : Nat) := by omega
  have h2 : (m.flatMap (fun n => [Value.int .i64 n]))[i]? = some (.int .i64 x) := by
    have := flat_get numC1_len m i x 0 hx (by omega)
    rw [Nat.mul_one, Nat.add_zero] at this
    exact this
  simp only [Instr.index, asIntOf, Sem.run_bind, Sem.run_pure, Result.andThen_ok, run_underlying Try.arrUs8 w, h1, and_self, if_true, Int.toNat_natCast]
  simp [go_sem, part, h2, i64v]
theorem ck_mapcells (c : Ck) {j : Nat} {u : Value} (h : (c.map.flatMap ptrC)[j]? = some u) : (ckC c)[3 + j]? = some u := by
  have hj : j < (c.map.flatMap ptrC).length := (List.getElem?_eq_some_iff.1 h).1
  unfold ckC
  rw [List.getElem?_append_right (by simp), List.getElem?_append_left (by simp only [List.length_cons, List.length_nil]; omega)]
  rw [show 3 + j - [Value.int IntKind.i64 c.seq, Value.int IntKind.i64 c.nx, Value.int IntKind.i64 c.at_].length = j by simp]; exact h
theorem ck_usecells {c : Ck} (h4 : c.map.length = 4) {j : Nat} {u : Value} (h : (c.used.flatMap (fun n => [i64v n]))[j]? = some u) : (ckC c)[11 + j]? = some u := by
  have hf : (c.map.flatMap ptrC).length = 8 := by rw [flat_length ptrC_len, h4]
  unfold ckC
  rw [List.getElem?_append_right (by simp; omega), List.getElem?_append_right (by simp only [List.length_cons, List.length_nil, hf]; omega)]
  rw [show 11 + j - [Value.int IntKind.i64 c.seq, Value.int IntKind.i64 c.nx, Value.int IntKind.i64 c.at_].length - (c.map.flatMap ptrC).length = j by rw [hf]; simp; omega]; exact h
set_option maxRecDepth 100000 in
set_option maxHeartbeats 4000000 in
theorem enc_any (c : Ck) (h4 : c.map.length = 4) (h8 : c.used.length = 8) (hs : ∀ p ∈ c.map, p.2 < 4294967296) (w : World) :
    Calls Try.prog 12 #[.agg (ckC c).toArray] w (MadeR w (encK c)) := by
  have C := fun w => may_any c h4 h8 w
  have B0 := hide (Blk.new w 28 (ckC c).toArray)
  have HZ := hide (ck_size h4 h8)
  have H4 := hide h4; have H8 := hide h8; have HS := hide hs
  by_cases h : mayCk c
  · rw [decide_eq_true h] at C
    have he : Hid (encK c = (ckB c, 0)) := hide (if_pos h)
    have hf := hide (ckN_fits h hs 4 8)
    have hl := hide (ckN_bytes h4 h8)
    have hn := hide (ckN_len h4 h8 (Nat.le_refl 4) (Nat.le_refl 8))
    replace C := hide C
    have Hm := hide h
    clear h4 h8 hs h
    go_enter Try.func12, Try.ntmps12
    go_upto_region 3 with (first
      | ((with_reducible refine wpList_load_at (.tmp 1) rfl ?_ Try.wideCk w.heap.size 0 ?_ (ckC c) HZ.out ?_ ?_); (next => rfl); (next => rfl); (next => intro j u hu; rw [Nat.zero_add]; exact B0.out.cell_ j u (by simpa using hu)))
      | (go_at_call 10; (with_reducible refine (unhide C _).mono ?_); rintro e w1 ⟨rfl, hb1⟩; have B1 := hide (B0.out.below hb1 B0.out.lt); have hb := hide (nextB box1 hb1); clear hb1))
    have hm := Hm.out
    obtain ⟨sq, hsq⟩ := Int.eq_ofNat_of_zero_le (show 0 ≤ c.seq by have := hm.1; omega)
    obtain ⟨nx, hnx⟩ := Int.eq_ofNat_of_zero_le (show 0 ≤ c.nx by have := hm.2.1; omega)
    obtain ⟨at_, hat⟩ := Int.eq_ofNat_of_zero_le (show 0 ≤ c.at_ by have := hm.2.2.1; omega)
    have q1 : (sq : Int) ≤ 281474976710655 := by rw [← hsq]; exact hm.1.2
    have q2 : (nx : Int) ≤ 281474976710655 := by rw [← hnx]; exact hm.2.1.2
    have q3 : (at_ : Int) ≤ 2147483647 := by rw [← hat]; exact hm.2.2.1.2
    have c0 := B1.out.cell_ 0 (.int .i64 (sq : Int)) (by simp [ckC, hsq])
    have c1 := B1.out.cell_ 1 (.int .i64 (nx : Int)) (by simp [ckC, hnx])
    have c2 := B1.out.cell_ 2 (.int .i64 (at_ : Int)) (by simp [ckC, hat])
    have hN0 : Hid ((ckN c 0 0).flatMap numC = [.int .i64 4, .int .u64 1667985524, .int .i64 6, .int .u64 (sq : Int), .int .i64 6, .int .u64 (nx : Int), .int .i64 4, .int .u64 (at_ : Int)]) := hide (by simp [ckN, numC, hsq, hnx, hat])
    clear hm hsq hnx hat
    have own0 := hide (World.ownsRow_lit (base := w1.heap.size) (e := 64) (size := 2) w1 #[.int .i64 4, .int .u64 1667985524, .int .i64 6, .int .u64 (sq : Int), .int .i64 6, .int .u64 (nx : Int), .int .i64 4, .int .u64 (at_ : Int)] 4 (Nat.le_refl _) (by unfold maxLen; omega) rfl)
    have F4 := hide (show (c.map.flatMap ptrC).length = 8 by rw [flat_length ptrC_len, H4.out])
    have F8 := hide (show (c.used.flatMap (fun n => [i64v n])).length = 8 by rw [flat_length numC1_len, H8.out])
    go_wp2_with ((with_reducible refine wpList_load_at (.tmp 28) rfl ?_ Try.wideM4 w.heap.size 3 ?_ (c.map.flatMap ptrC) F4.out ?_ ?_); (next => rfl); (next => rfl); (next => intro j u hu; exact (B1.out.alloc _).cell_ (3 + j) u (by simpa using ck_mapcells c hu)))
    clear c0 c1 c2
    go_loopw [4, 30] (fun l i wr => ∃ (j : Nat) (A : Option Addr) (cc : Nat), j ≤ 4 ∧ i = .int .i64 (j : Int) ∧ l = .slice A (4 + 2 * j) cc ∧ wr.ownsRow w1.heap.size 64 2 (.slice A (4 + 2 * j) cc) (4 + 2 * j) ((ckN c j 0).flatMap numC) ∧ Below w1.heap.size w1 wr) (fun _ i _ => 4 - (intOf i).toNat)
    case atStart => exact ⟨0, _, 4, by omega, rfl, rfl, by rw [hN0.out]; exact own0.out, box1⟩
    case round =>
      clear own0 hN0
      obtain ⟨j, A, cc, hj, rfl, rfl, ho, hb2⟩ := hrel
      replace ho := hide ho
      have hsz := hb2.size
      by_cases hlt : j < 4
      · obtain ⟨p, hp⟩ : ∃ p, c.map[j]? = some p := ⟨_, List.getElem?_eq_getElem (by rw [H4.out]; exact hlt)⟩
        have hidx := fun w => m4_index hlt hp w
        have hsn := hide (ckN_map hp)
        have hr := Hm.out.2.2.2.1 p (List.mem_of_getElem? hp)
        have hx32 := HS.out p (List.mem_of_getElem? hp)
        obtain ⟨a, s⟩ := p
        simp only at hr hx32 hidx
        obtain ⟨a, rfl⟩ := Int.eq_ofNat_of_zero_le (show 0 ≤ a by omega)
        clear hp
        go_wp2_with (at_builtin; refine wpList_app rfl _ _ rfl Try.el_num w1.heap.size _ _ _ _ rfl ((ho.out.alloc _).alloc _) _ _ _ [.int .i64 4, .int .u64 (a : Int), .int .i64 4, .int .u64 (s : Int)] rfl (Blk.new_ _ _ #[.int .i64 4, .int .u64 (a : Int), .int .i64 4, .int .u64 (s : Int)] _ (by simp)).rd rfl (one_num [(4, a), (4, s)]) (by unfold maxLen; omega) (by omega) (by simp; omega) ?_; intro A6 c6 w6 ho1 hc1 hg1)
        have hb6 := hide (own_below (ho.out.alloc (.cells #[.int .i64 (a : Int), .int .u32 (s : Int)] 24)) (hb2.alloc hsz (.cells #[.int .i64 (a : Int), .int .u32 (s : Int)] 24)) (Nat.le_refl _) (by simp; omega) hg1)
        replace ho1 := hide ho1
        clear hg1
        go_roundw
        case rel =>
          refine ⟨j + 1, A6, c6, by omega, by go_num, by rw [Nat.mul_add, Nat.mul_one, ← Nat.add_assoc], ?_, hb6.out⟩
          have h := ho1.out
          rw [hsn.out, List.flatMap_append, Nat.mul_add, Nat.mul_one, ← Nat.add_assoc]
          exact h
        case measure => simp [intOf]; omega
      · obtain rfl : j = 4 := by omega
        have B2 := hide (B1.out.below hb2 B1.out.lt)
        have hb2' := hide hb2
        clear hb2 hsz
        go_wp2_with ((with_reducible refine wpList_load_at (.tmp 45) rfl ?_ Try.wideUs8 w.heap.size 11 ?_ (c.used.flatMap (fun n => [i64v n])) F8.out ?_ ?_); (next => rfl); (next => rfl); (next => intro j u hu; exact B2.out.cell_ (11 + j) u (by simpa using ck_usecells H4.out hu)))
        go_loopw [4, 47] (fun l i wr => ∃ (j : Nat) (A : Option Addr) (cc : Nat), j ≤ 8 ∧ i = .int .i64 (j : Int) ∧ l = .slice A (12 + j) cc ∧ wr.ownsRow w1.heap.size 64 2 (.slice A (12 + j) cc) (12 + j) ((ckN c 4 j).flatMap numC) ∧ Below w1.heap.size w1 wr) (fun _ i _ => 8 - (intOf i).toNat)
        case atStart => exact ⟨0, A, cc, by omega, rfl, rfl, ho.out, hb2'.out⟩
        case round =>
          clear ho hb2'
          obtain ⟨j, A, cc, hj, rfl, rfl, ho, hb2⟩ := hrel
          replace ho := hide ho
          have hsz := hb2.size
          by_cases hlt : j < 8
          · obtain ⟨p, hp⟩ : ∃ p, c.used[j]? = some p := ⟨_, List.getElem?_eq_getElem (by rw [H8.out]; exact hlt)⟩
            have hidx := fun w => us8_index hlt hp w
            have hsn := hide (ckN_used hp)
            have hr := Hm.out.2.2.2.2 p (List.mem_of_getElem? hp)
            obtain ⟨a, rfl⟩ := Int.eq_ofNat_of_zero_le (show 0 ≤ p by omega)
            clear hp
            go_wp2_with (at_builtin; refine wpList_app rfl _ _ rfl Try.el_num w1.heap.size _ _ _ _ rfl (ho.out.alloc _) _ _ _ [.int .i64 2, .int .u64 (a : Int)] rfl (Blk.new_ _ _ #[.int .i64 2, .int .u64 (a : Int)] _ (by simp)).rd rfl (one_num [(2, a)]) (by unfold maxLen; omega) (by omega) (by simp; omega) ?_; intro A6 c6 w6 ho1 hc1 hg1)
            have hb6 := hide (own_below ho.out hb2 (Nat.le_refl _) (by omega) hg1)
            replace ho1 := hide ho1
            clear hg1
            go_roundw
            case rel =>
              refine ⟨j + 1, A6, c6, by omega, by go_num, by rw [Nat.add_assoc], ?_, hb6.out⟩
              have h := ho1.out
              rw [hsn.out, List.flatMap_append, ← Nat.add_assoc]
              exact h
            case measure => simp [intOf]; omega
          · obtain rfl : j = 8 := by omega
            have hp := pack_any A (12 + 8) cc (ckN c 4 8) wr (Rd.of_own ho.out) hn.out (by omega)
            rw [packR_ok _ (packE_fits hf.out)] at hp
            simp only at hp
            rw [hl.out] at hp
            replace hp := hide hp
            have sl := hide (sealB_length (packB (ckN c 4 8)) (by rw [hl.out]; omega))
            have hbb := hide (nextB hb.out hb2)
            clear ho hb2 hsz
            go_wp2_with (first
              | (go_at_call 28; (with_reducible refine (unhide hp).mono ?_); rintro e w3 ⟨A3, c3, rfl, ho3, hb3⟩; have F := hide (seal_ok A3 68 c3 (packB (ckN c 4 8)) w3 (Rd.of_own ho3) hl.out (by omega)); clear ho3)
              | (go_at_call 29; (with_reducible refine (unhide F).mono ?_); rintro e w4 ⟨g4, rfl, B4, hg4, hb4⟩))
            go_ret2
            rw [he.out]
            have hM : MadeR wr (ckB c, 0) (.returned (.tuple #[.slice (some ⟨g4, 0, none⟩) 128 128, .int .i64 0])) w4 :=
              ⟨some ⟨g4, 0, none⟩, 128, by rw [show (ckB c, (0 : Int)).1.length = 128 from sl.out], by unfold ckB; simpa using B4.rd, Nat.le_of_eq sl.out, nextB hb3 hb4⟩
            obtain ⟨A5, c5, k1, k2, k3, k4⟩ := hM
            exact ⟨A5, c5, k1, k2, k3, nextB hbb.out k4⟩
  · rw [decide_eq_false h] at C
    have he : Hid (encK c = ([], 1)) := hide (if_neg h)
    replace C := hide C
    clear h h4 h8 hs
    go_enter Try.func12, Try.ntmps12
    go_wp2_with (first
      | ((with_reducible refine wpList_load_at (.tmp 1) rfl ?_ Try.wideCk w.heap.size 0 ?_ (ckC c) HZ.out ?_ ?_); (next => rfl); (next => rfl); (next => intro j u hu; rw [Nat.zero_add]; exact B0.out.cell_ j u (by simpa using hu)))
      | (go_at_call 10; (with_reducible refine (unhide C _).mono ?_); rintro e w1 ⟨rfl, hb1⟩))
    go_ret2
    rw [he.out]
    exact ⟨none, 0, rfl, Rd.nil _ _, Nat.le_refl _, nextB box1 hb1⟩

def placeK (c : Ck) : Int := if mayCk c then c.seq % 2 else -1
set_option maxRecDepth 100000 in
set_option maxHeartbeats 2000000 in
theorem place_any (c : Ck) (h4 : c.map.length = 4) (h8 : c.used.length = 8) (w : World) :
    Calls Try.prog 13 #[.agg (ckC c).toArray] w fun e w' => e = .returned (.int .i64 (placeK c)) ∧ Below w.heap.size w w' := by
  have C := fun w => may_any c h4 h8 w
  have B0 := hide (Blk.new w 28 (ckC c).toArray)
  have HZ := hide (ck_size h4 h8)
  by_cases h : mayCk c
  · rw [decide_eq_true h] at C
    have hm := h
    obtain ⟨sq, hsq⟩ := Int.eq_ofNat_of_zero_le (show 0 ≤ c.seq by have := hm.1; omega)
    have q1 : (sq : Int) ≤ 281474976710655 := by rw [← hsq]; exact hm.1.2
    have he : placeK c = (sq : Int) % 2 := by unfold placeK; rw [if_pos h, hsq]
    rw [he]
    have hcell : (ckC c)[0]? = some (.int .i64 (sq : Int)) := by simp [ckC, hsq]
    replace hcell := hide hcell
    replace C := hide C
    clear hm hsq he h h4 h8
    go_enter Try.func13, Try.ntmps13
    go_wp2_with (first
      | ((with_reducible refine wpList_load_at (.tmp 1) rfl ?_ Try.wideCk w.heap.size 0 ?_ (ckC c) HZ.out ?_ ?_); (next => rfl); (next => rfl); (next => intro j u hu; rw [Nat.zero_add]; exact B0.out.cell_ j u (by simpa using hu)))
      | (go_at_call 10; (with_reducible refine (unhide C _).mono ?_); rintro e w1 ⟨rfl, hb1⟩; have c0 := (B0.out.below hb1 B0.out.lt).cell_ 0 (.int .i64 (sq : Int)) (by simpa using hcell.out)))
    go_ret
    exact ⟨rfl, nextB box1 hb1⟩
  · rw [decide_eq_false h] at C
    have he : placeK c = -1 := if_neg h
    rw [he]
    replace C := hide C
    clear h h4 h8 he
    go_enter Try.func13, Try.ntmps13
    go_wp2_with (first
      | ((with_reducible refine wpList_load_at (.tmp 1) rfl ?_ Try.wideCk w.heap.size 0 ?_ (ckC c) HZ.out ?_ ?_); (next => rfl); (next => rfl); (next => intro j u hu; rw [Nat.zero_add]; exact B0.out.cell_ j u (by simpa using hu)))
      | (go_at_call 10; (with_reducible refine (unhide C _).mono ?_); rintro e w1 ⟨rfl, hb1⟩))
    go_ret
    exact ⟨rfl, nextB box1 hb1⟩
end Go.Proofs.Ytboccjdliklifaa
