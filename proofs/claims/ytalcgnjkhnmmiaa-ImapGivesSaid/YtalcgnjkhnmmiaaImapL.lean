/- A map's block is made: contract of the program's Encode. No condition. -/
import Derived.Test.YtalcgnjkhnmmiaaPlainJ
import Derived.Test.YtalcgnjkhnmmiaaPack
import Derived.Test.YtalcgnjkhnmmiaaRun
import Derived.Test.YtalcgnjkhnmmiaaWalkImapRules
namespace Go.Proofs.Ytalcgnjkhnmmiaa
open Go.RowKit

set_option maxHeartbeats 1000000 in
theorem block_any (n : Int) (w : World) : Calls Try.prog 29 #[.int .i64 n] w fun e w' => e = .returned (.bool (decide (0 ≤ n ∧ n < 4))) ∧ w = w' := by
  have hc : n < 0 ∨ (¬ n < 0 ∧ 3 < n) ∨ (¬ n < 0 ∧ ¬ 3 < n) := by omega
  rcases hc with h1 | ⟨h1, h2⟩ | ⟨h1, h2⟩
  all_goals
    go_enter Try.func29, Try.ntmps29
    go_wp2_with fail
    go_ret
    exact ⟨ret_bool (by simp <;> omega), rfl⟩
theorem made_none4 {w w' : World} {E size : Nat} {err : Int} {r : List UInt8 × Int} (h : r = ([], err)) (hb : Below w.heap.size w w') :
    Made w E size r.2 (r.1.map u8v) r.1.length (.returned (.tuple #[.slice none 0 0, .int .i64 err])) w' := by
  subst h; exact ⟨none, 0, rfl, World.ownsRow_nil _ _ _ _, hb⟩
set_option maxRecDepth 100000 in
set_option maxHeartbeats 4000000 in
theorem enc_any (m : List Slot) (k : Int) (h40 : m.length = 40) (hs : ∀ x ∈ m, x.s < 4294967296) (w : World) :
    Calls Try.prog 19 #[.agg (mapC m), .int .i64 k] w (Made w 5 1 (encM m k).2 ((encM m k).1.map u8v) (encM m k).1.length) := by
  have C := fun w => may_any m h40 w
  have N := fun w => block_any k w
  have H40 := hide h40; have HS := hide hs
  have Z40 := hide (mapC_size h40)
  have B0 := hide (Blk.new w 28 (mapC m))
  clear h40 hs
  by_cases h : mayM m
  · rw [decide_eq_true h] at C
    replace C := hide C
    by_cases hk : k < 0 ∨ 3 < k
    · rw [decide_eq_false (by omega)] at N
      have he : Hid (encM m k = ([], 4)) := by unfold encM; rw [if_neg (by simp [h]), if_pos hk]; exact (rfl : _ = _)
      replace N := hide N
      clear h hk
      go_enter Try.func19, Try.ntmps19
      go_wp2_with (first
        | ((with_reducible refine load_map (.tmp 2) rfl ?_ w.heap.size m ?_ ?_ Z40.out ?_); (next => rfl); (next => rfl); (next => exact B0.out))
        | (go_at_call 18; (with_reducible refine (unhide C _).mono ?_); rintro e w1 ⟨rfl, hb1⟩)
        | (go_at_call 29; (with_reducible refine (unhide N _).mono ?_); rintro e w2 ⟨rfl, rfl⟩))
      go_ret2
      exact made_none4 he.out (nextB box1 hb1)
    · rw [decide_eq_true (by omega)] at N
      have hk0 : 0 ≤ k := by omega
      obtain ⟨k, rfl⟩ := Int.eq_ofNat_of_zero_le hk0
      have hk3 : k < 4 := by omega
      have he : Hid (encM m (k : Int) = (encB m k, 0)) := by unfold encM; rw [if_neg (by simp [h]), if_neg hk]; exact (rfl : _ = _)
      replace N := hide N
      have Hm := hide h
      clear h hk hk0
      go_enter Try.func19, Try.ntmps19
      go_wp2_with (first
        | ((with_reducible refine load_map (.tmp 2) rfl ?_ w.heap.size m ?_ ?_ Z40.out ?_); (next => rfl); (next => rfl); (next => exact B0.out))
        | (go_at_call 18; (with_reducible refine (unhide C _).mono ?_); rintro e w1 ⟨rfl, hb1⟩; have B1 := hide (blk1G hb1); have hb := hide (nextB box1 hb1); clear hb1)
        | (go_at_call 29; (with_reducible refine (unhide N _).mono ?_); rintro e w2 ⟨rfl, rfl⟩)
        | ((with_reducible refine wpList_slice_array _ (.tmp 2) _ rfl ?_ Try.arrMap Try.wideSlot w.heap.size ?_ .i64 (10 * k) ?_ ?_ ?_); (next => rfl); (next => rfl); (next => rfl); (next => omega))
        | ((with_reducible refine wpList_slice_h _ (.tmp 26) _ rfl ?_ Try.slSlot Try.wideSlot ⟨w.heap.size, 10 * k * 3, none⟩ (40 - 10 * k) (40 - 10 * k) ?_ .i64 10 ?_ ?_ ?_); (next => rfl); (next => rfl); (next => rfl); (next => omega)))
      have own0 := hide (World.ownsRow_lit (base := w1.heap.size) (e := 68) (size := 2) w1 #[.int .i64 4, .int .u64 1768776048, .int .i64 1, .int .u64 (k : Int)] 2 (Nat.le_refl _) (by unfold maxLen; omega) rfl)
      have tl := hide (tenth_len H40.out hk3)
      go_loopw [6, 29] (fun l i wr => ∃ (j : Nat) (A : Option Addr) (c : Nat), j ≤ 10 ∧ i = .int .i64 (j : Int) ∧ l = .slice A (2 + 3 * j) c ∧ wr.ownsRow w1.heap.size 68 2 (.slice A (2 + 3 * j) c) (2 + 3 * j) ((numsP m k j).flatMap numC) ∧ Below w1.heap.size w1 wr) (fun _ i _ => 10 - (intOf i).toNat)
      case atStart => exact ⟨0, _, 2, by omega, rfl, rfl, own0.out, box1⟩
      case round =>
        clear own0
        obtain ⟨j, A, c, hj, rfl, rfl, ho, hb2⟩ := hrel
        replace ho := hide ho
        have hsz := hb2.size
        by_cases hlt : j < 10
        · obtain ⟨x, hx⟩ : ∃ x, (tenth m k)[j]? = some x := ⟨_, List.getElem?_eq_getElem (by rw [tl.out]; exact hlt)⟩
          have hxm := hx
          rw [tenth_get hlt] at hxm
          have hs := hide (numsP_succ hx)
          obtain ⟨c0, c1, c2⟩ := map_blk_cells (B1.out.below hb2 B1.out.lt) hxm
          have hr := Hm.out.1 x (List.mem_of_getElem? hxm)
          have hx32 := HS.out x (List.mem_of_getElem? hxm)
          rw [show (10 * k + j) * 3 = 10 * k * 3 + j * 3 by omega] at c0 c1 c2
          obtain ⟨a, s, v⟩ := x
          unfold rightS ptrR at hr
          obtain ⟨⟨r1, r2, r3⟩, r4, r5⟩ := hr
          simp only at r1 r2 r4 r5 hx32 c0 c1 c2
          obtain ⟨a, rfl⟩ := Int.eq_ofNat_of_zero_le r1
          obtain ⟨v, rfl⟩ := Int.eq_ofNat_of_zero_le r4
          clear hx hxm r3
          go_wp2_with (at_builtin; refine wpList_app rfl _ _ rfl Try.el_num w1.heap.size _ _ _ _ rfl ((ho.out.alloc _).alloc _) _ _ _ [.int .i64 4, .int .u64 (a : Int), .int .i64 4, .int .u64 (s : Int), .int .i64 4, .int .u64 (v : Int)] rfl (Blk.new_ _ _ #[.int .i64 4, .int .u64 (a : Int), .int .i64 4, .int .u64 (s : Int), .int .i64 4, .int .u64 (v : Int)] _ (by simp)).rd rfl (one_num [(4, a), (4, s), (4, v)]) (by unfold maxLen; omega) (by omega) (by simp; omega) ?_; intro A6 c6 w6 ho1 hc1 hg1)
          have hb6 := hide (own_below (ho.out.alloc (.cells #[.int .i64 (a : Int), .int .u32 (s : Int), .int .i64 (v : Int)] 26)) (hb2.alloc hsz (.cells #[.int .i64 (a : Int), .int .u32 (s : Int), .int .i64 (v : Int)] 26)) (Nat.le_refl _) (by simp; omega) hg1)
          replace ho1 := hide ho1
          clear hg1
          go_roundw
          case rel =>
            refine ⟨j + 1, A6, c6, by omega, by go_num, by rw [Nat.mul_add, Nat.mul_one, ← Nat.add_assoc], ?_, hb6.out⟩
            have h := ho1.out
            rw [hs.out, List.flatMap_append, Nat.mul_add, Nat.mul_one, ← Nat.add_assoc]
            exact h
          case measure => simp [intOf]; omega
        · obtain rfl : j = 10 := by omega
          have hl2 := numsM_bytes H40.out hk3
          have hf : Fits (numsM m k) := numsM_fits Hm.out HS.out (show k ≤ 3 by omega) 10
          have hp := pack_any A (2 + 3 * 10) c (numsM m k) wr (Rd.of_own ho.out) (numsP_len m k 10 (by rw [tl.out]; exact Nat.le_refl _)) (by omega)
          rw [packR_ok _ (packE_fits hf)] at hp
          simp only at hp
          rw [hl2] at hp
          replace hp := hide hp; replace hl2 := hide hl2
          have hfl := hide (fill128_len (bs := packB (numsM m k)) (by rw [hl2.out]; omega))
          clear hf
          have hbb := hide (nextB hb.out hb2)
          go_wp2_with (first
            | (go_at_call 30; (with_reducible refine (unhide hp).mono ?_); rintro e w3 ⟨A3, c3, rfl, ho3, hb3⟩; have F := hide (fill_ok A3 125 c3 (packB (numsM m k)) w3 (Rd.of_own ho3) hl2.out (by omega)); clear ho3)
            | (go_at_call 31; (with_reducible refine (unhide F).mono ?_); rintro e w4 ⟨A4, c4, rfl, ho4, hb4⟩))
          go_ret2
          rw [he.out]
          have hM : Made w3 5 1 0 ((encB m k).map u8v) (encB m k).length (.returned (.tuple #[.slice A4 128 c4, .int .i64 0])) w4 := by
            unfold encB
            rw [hfl.out]
            exact ⟨A4, c4, rfl, ho4, hb4⟩
          exact hM.base (nextB hbb.out hb3)
  · rw [decide_eq_false h] at C
    have he : Hid (encM m k = ([], 1)) := by unfold encM; rw [if_pos h]; exact (rfl : _ = _)
    replace C := hide C
    clear h
    go_enter Try.func19, Try.ntmps19
    go_wp2_with (first
      | ((with_reducible refine load_map (.tmp 2) rfl ?_ w.heap.size m ?_ ?_ Z40.out ?_); (next => rfl); (next => rfl); (next => exact B0.out))
      | (go_at_call 18; (with_reducible refine (unhide C _).mono ?_); rintro e w1 ⟨rfl, hb1⟩))
    go_ret2
    exact made_none4 he.out (nextB box1 hb1)
end Go.Proofs.Ytalcgnjkhnmmiaa
