/- A map's block is read by the document's text. No condition. -/
import Derived.Test.YtalcgnjkhnmmiaaImapN
import Derived.Test.YtalcgnjkhnmmiaaImapM
namespace Go.Proofs.Ytalcgnjkhnmmiaa
open Go.RowKit

set_option maxRecDepth 100000 in
set_option maxHeartbeats 8000000 in
theorem decRef_any (m : List Slot) (k : Int) (z : ByteArray) (bs : List UInt8) (hbs : bs = z.data.toList) (h40 : m.length = 40) (hs : ∀ x ∈ m, x.s < 4294967296) (w : World) (hn2 : z.size ≤ 4294967296) :
    Calls Try.prog 21 #[.agg (mapC m), .int .i64 k, .string z] w fun e w' => e = .returned (.tuple #[.agg (mapC (decM m k bs).1), .int .i64 (decM m k bs).2]) ∧ Below w.heap.size w w' := by
  have C := fun w => mayRef_any m h40 w
  have H40 := hide h40; have HS := hide hs
  have Z40 := hide (mapC_size h40); have Z0 := hide (mapC_size map0_len)
  have B0 := hide ((Blk.new w 28 (mapC m)).alloc (.cells (mapC map0) 28))
  have hz := map_zero
  have HZ : Hid (z = ⟨bs.toArray⟩) := by subst hbs; exact (rfl : _ = _)
  have Hn : Hid (bs.length = z.size) := by subst hbs; exact Array.length_toList
  have G := hide (fun (p : Nat) (hp : p + 4 ≤ z.size) (w : World) => get_any z p 4 w (by decide) hp hn2)
  rw [← hbs] at G
  clear h40 hs hbs
  by_cases h : mayM m
  · rw [decide_eq_true h] at C
    replace C := hide C
    by_cases hk : k < 0 ∨ 3 < k
    · have he : decM m k bs = (map0, 4) := by unfold decM; rw [if_neg (by simp [h]), if_pos hk]
      rw [he]
      clear h he
      rcases (show k < 0 ∨ (¬ k < 0 ∧ 3 < k) by omega) with h1 | ⟨h1, h2⟩
      all_goals
        clear hk
        go_enter Try.func21, Try.ntmps21
        go_wp2_with (first
          | ((with_reducible refine load_map (.tmp 3) rfl ?_ w.heap.size m ?_ ?_ Z40.out ?_); (next => rfl); (next => rfl); (next => exact B0.out))
          | (go_at_call 22; (with_reducible refine (unhide C _).mono ?_); rintro e w1 ⟨rfl, hb1⟩; have B2 := hide (blkP hb1); have hb := hide (nextB box2 hb1))
          | ((with_reducible refine built_map rfl ?_ ?_); (next => rfl))
          | ((with_reducible refine store_map_at (.tmp 6) _ rfl ?_ (w.heap.size + 1) map0 map0 ?_ ?_ ?_ Z0.out Z0.out ?_); (next => rfl); (next => rfl); (next => rfl); (next => exact B2.out)))
        exact bodyPost_ret (results_cell_row_tmp rfl _ _ (w.heap.size + 1) _ (mapC map0) _ _ rfl (B2.out.row (mapC map0)) Try.arrMap rfl (by rw [Z0.out]; exact Try.sizeMap)) rfl ⟨rfl, below_setRow hb.out (by omega) _⟩
    · have hk0 : 0 ≤ k := by omega
      obtain ⟨k, rfl⟩ := Int.eq_ofNat_of_zero_le hk0
      have hk3 : k < 4 := by omega
      by_cases h128 : z.size = 128
      · have he : decM m (k : Int) bs = if mayM (putB m k bs 10) ∧ encB (putB m k bs 10) k = bs then (putB m k bs 10, 0) else (map0, 3) := by
          unfold decM
          rw [if_neg (by simp [h]), if_neg hk, if_neg (by rw [Hn.out, h128]; simp), Int.toNat_natCast]
        obtain ⟨R, hR⟩ : ∃ R, R = decM m (k : Int) bs := ⟨_, rfl⟩
        rw [← hR]
        have HR := hide (hR.trans he)
        have hlen : ((z.size : Int) != 128) = false := by simp [h128]
        replace Hn : Hid (bs.length = 128) := Hn.out.trans h128
        rw [h128] at G
        clear h hk he hk0 hR h128
        go_enter Try.func21, Try.ntmps21
        go_wp2_with (first
          | ((with_reducible refine load_map (.tmp 3) rfl ?_ w.heap.size m ?_ ?_ Z40.out ?_); (next => rfl); (next => rfl); (next => exact B0.out))
          | (go_at_call 22; (with_reducible refine (unhide C _).mono ?_); rintro e w1 ⟨rfl, hb1⟩; have B1 := hide (blkG hb1); have B2 := hide (blkP hb1); have hb := hide (nextB box2 hb1)))
        go_loopw [8] (fun i wr => ∃ j : Nat, j ≤ 10 ∧ i = .int .i64 (j : Int) ∧ Blk wr w.heap.size 28 (mapC (putB m k bs j)) ∧ Blk wr (w.heap.size + 1) 28 (mapC map0) ∧ Below w.heap.size w wr) (fun i _ => 10 - (intOf i).toNat)
        case atStart => exact ⟨0, by omega, rfl, B1.out, B2.out, hb.out⟩
        case round =>
          clear B1 B2 hb hb1 B0
          obtain ⟨j, hj, rfl, B1, B2, hb⟩ := hrel
          replace B1 := hide B1; replace B2 := hide B2; replace hb := hide hb
          by_cases hlt : j < 10
          · have hput : Hid (putB m k bs (j + 1) = (putB m k bs j).set (10 * k + j) (slotB bs j)) := (rfl : _ = _)
            obtain ⟨x, hx⟩ : ∃ x, (putB m k bs j)[10 * k + j]? = some x := ⟨_, List.getElem?_eq_getElem (by rw [putB_len H40.out]; omega)⟩
            have a0 := beN4 (bs.drop (5 + 12 * j)); have s0 := beN4 (bs.drop (5 + 12 * j + 4)); have v0 := beN4 (bs.drop (5 + 12 * j + 8))
            have G0 := G.out (5 + 12 * j) (by omega)
            have G1 := G.out (5 + 12 * j + 4) (by omega)
            have G2 := G.out (5 + 12 * j + 8) (by omega)
            unfold slotB at hput
            generalize beN ((bs.drop (5 + 12 * j)).take 4) = a at G0 hput a0
            generalize beN ((bs.drop (5 + 12 * j + 4)).take 4) = s at G1 hput s0
            generalize beN ((bs.drop (5 + 12 * j + 8)).take 4) = v at G2 hput v0
            simp only [Int.natCast_add, Int.natCast_mul, Int.cast_ofNat_Int] at G0 G1 G2
            replace G0 := hide G0; replace G1 := hide G1; replace G2 := hide G2
            replace hx := hide hx
            obtain ⟨c0, c1, c2⟩ := map_blk_cells B1.out hx.out
            have f0 := B1.out.frozen ((10 * k + j) * 3); have f1 := B1.out.frozen ((10 * k + j) * 3 + 1); have f2 := B1.out.frozen ((10 * k + j) * 3 + 2)
            go_wp2_with (go_at_call 34; first
              | ((with_reducible refine (unhide G0 _).mono ?_); rintro e w3 ⟨rfl, rfl⟩)
              | ((with_reducible refine (unhide G1 _).mono ?_); rintro e w3 ⟨rfl, rfl⟩)
              | ((with_reducible refine (unhide G2 _).mono ?_); rintro e w3 ⟨rfl, rfl⟩))
            go_roundw
            case rel =>
              refine ⟨j + 1, by omega, by go_num, ?_, ?_, ?_⟩
              · rw [hput.out]; exact put3 _ _ _ B1.out hx.out
              · exact ((B2.out.far (by simp) _).far (by simp) _).far (by simp) _
              · exact ((hb.out.setCell (by simp) _).setCell (by simp) _).setCell (by simp) _
            case measure => simp [intOf]; omega
          · obtain rfl : j = 10 := by omega
            have L := putB_len H40.out k bs 10
            have L32 := putB_s HS.out k bs 10
            obtain ⟨M, hM⟩ : ∃ M, M = putB m k bs 10 := ⟨_, rfl⟩
            have HR2 := HR.out
            rw [← hM] at L L32 B1 HR2
            clear hM
            have ZM := hide (mapC_size L)
            have CM := fun w => mayRef_any M L w
            by_cases hm : mayM M
            · rw [decide_eq_true hm] at CM
              replace CM := hide CM
              have E := hide (fun w => encRef_any M k L L32 hm hk3 w)
              clear L L32
              by_cases hq : encB M k = bs
              · rw [if_pos ⟨hm, hq⟩] at HR2
                have hz2 : z = (⟨(encB M k).toArray⟩ : ByteArray) := by rw [HZ.out, hq]
                replace HR2 := hide HR2
                have e1 : ((encB M k) == bs) = true := by simpa using hq
                replace hz2 := hide hz2; replace hq := hide hq; clear hm
                go_wp2_with (first
                  | ((with_reducible refine load_map (.tmp 3) rfl ?_ w.heap.size M ?_ ?_ ZM.out ?_); (next => rfl); (next => rfl); (next => exact B1.out))
                  | ((with_reducible refine load_map_g (.tmp 3) rfl ?_ w.heap.size M ?_ ?_ ZM.out ?_); (next => rfl); (next => rfl); (next => exact B1.out))
                  | (go_at_call 22; (with_reducible refine (unhide CM _).mono ?_); rintro e w3 ⟨rfl, hb3⟩; replace B1 := hide (B1.out.below hb3 B1.out.lt); replace B2 := hide (B2.out.below hb3 B2.out.lt); replace hb := hide (nextB hb.out hb3))
                  | (go_at_call 23; (with_reducible refine (unhide E _).mono ?_); rintro e w3 ⟨rfl, hb3⟩; replace B1 := hide (B1.out.below hb3 B1.out.lt); replace B2 := hide (B2.out.below hb3 B2.out.lt); replace hb := hide (nextB hb.out hb3); rw [← hz2.out])
                  | ((with_reducible refine store_map_at (.tmp 6) _ rfl ?_ (w.heap.size + 1) map0 M ?_ ?_ ?_ Z0.out ZM.out ?_); (next => rfl); (next => rfl); (next => rfl); (next => exact B2.out)))
                exact bodyPost_ret (results_cell_row_tmp rfl _ _ (w.heap.size + 1) _ (mapC M) _ _ rfl (B2.out.row (mapC M)) Try.arrMap rfl (by rw [ZM.out]; exact Try.sizeMap)) rfl ⟨by rw [HR2.out]; rfl, below_setRow hb.out (by omega) _⟩
              · rw [if_neg (fun h => hq h.2)] at HR2
                replace HR2 := hide HR2
                have hz3 := HZ.out
                have hq2 : (encB M k == bs) = false := by simpa using hq
                replace hq := hide hq; clear hm
                subst hz3
                go_wp2_with (first
                  | ((with_reducible refine load_map (.tmp 3) rfl ?_ w.heap.size M ?_ ?_ ZM.out ?_); (next => rfl); (next => rfl); (next => exact B1.out))
                  | ((with_reducible refine load_map_g (.tmp 3) rfl ?_ w.heap.size M ?_ ?_ ZM.out ?_); (next => rfl); (next => rfl); (next => exact B1.out))
                  | (go_at_call 22; (with_reducible refine (unhide CM _).mono ?_); rintro e w3 ⟨rfl, hb3⟩; replace B1 := hide (B1.out.below hb3 B1.out.lt); replace B2 := hide (B2.out.below hb3 B2.out.lt); replace hb := hide (nextB hb.out hb3))
                  | (go_at_call 23; (with_reducible refine (unhide E _).mono ?_); rintro e w3 ⟨rfl, hb3⟩; replace B1 := hide (B1.out.below hb3 B1.out.lt); replace B2 := hide (B2.out.below hb3 B2.out.lt); replace hb := hide (nextB hb.out hb3))
                  | ((with_reducible refine built_map rfl ?_ ?_); (next => rfl))
                  | ((with_reducible refine store_map_at (.tmp 6) _ rfl ?_ (w.heap.size + 1) map0 map0 ?_ ?_ ?_ Z0.out Z0.out ?_); (next => rfl); (next => rfl); (next => rfl); (next => exact B2.out)))
                exact bodyPost_ret (results_cell_row_tmp rfl _ _ (w.heap.size + 1) _ (mapC map0) _ _ rfl (B2.out.row (mapC map0)) Try.arrMap rfl (by rw [Z0.out]; exact Try.sizeMap)) rfl ⟨by rw [HR2.out]; rfl, below_setRow hb.out (by omega) _⟩
            · rw [decide_eq_false hm] at CM
              replace CM := hide CM
              rw [if_neg (fun h => hm h.1)] at HR2
              replace HR2 := hide HR2
              clear L L32 hm
              go_wp2_with (first
                | ((with_reducible refine load_map (.tmp 3) rfl ?_ w.heap.size M ?_ ?_ ZM.out ?_); (next => rfl); (next => rfl); (next => exact B1.out))
                | (go_at_call 22; (with_reducible refine (unhide CM _).mono ?_); rintro e w3 ⟨rfl, hb3⟩; replace B2 := hide (B2.out.below hb3 B2.out.lt); replace hb := hide (nextB hb.out hb3))
                | ((with_reducible refine built_map rfl ?_ ?_); (next => rfl))
                | ((with_reducible refine store_map_at (.tmp 6) _ rfl ?_ (w.heap.size + 1) map0 map0 ?_ ?_ ?_ Z0.out Z0.out ?_); (next => rfl); (next => rfl); (next => rfl); (next => exact B2.out)))
              exact bodyPost_ret (results_cell_row_tmp rfl _ _ (w.heap.size + 1) _ (mapC map0) _ _ rfl (B2.out.row (mapC map0)) Try.arrMap rfl (by rw [Z0.out]; exact Try.sizeMap)) rfl ⟨by rw [HR2.out]; rfl, below_setRow hb.out (by omega) _⟩
      · have he : decM m (k : Int) bs = (map0, 3) := by unfold decM; rw [if_neg (by simp [h]), if_neg hk, if_pos (by rw [Hn.out]; exact h128)]
        rw [he]
        have h1 : ((z.size : Int) != 128) = true := by simp; omega
        clear h hk he h128 hk0
        go_enter Try.func21, Try.ntmps21
        go_wp2_with (first
          | ((with_reducible refine load_map (.tmp 3) rfl ?_ w.heap.size m ?_ ?_ Z40.out ?_); (next => rfl); (next => rfl); (next => exact B0.out))
          | (go_at_call 22; (with_reducible refine (unhide C _).mono ?_); rintro e w1 ⟨rfl, hb1⟩; have B2 := hide (blkP hb1); have hb := hide (nextB box2 hb1))
          | ((with_reducible refine built_map rfl ?_ ?_); (next => rfl))
          | ((with_reducible refine store_map_at (.tmp 6) _ rfl ?_ (w.heap.size + 1) map0 map0 ?_ ?_ ?_ Z0.out Z0.out ?_); (next => rfl); (next => rfl); (next => rfl); (next => exact B2.out)))
        exact bodyPost_ret (results_cell_row_tmp rfl _ _ (w.heap.size + 1) _ (mapC map0) _ _ rfl (B2.out.row (mapC map0)) Try.arrMap rfl (by rw [Z0.out]; exact Try.sizeMap)) rfl ⟨rfl, below_setRow hb.out (by omega) _⟩
  · rw [decide_eq_false h] at C
    have he : decM m k bs = (map0, 1) := by unfold decM; rw [if_pos h]
    rw [he]
    replace C := hide C
    clear h he
    go_enter Try.func21, Try.ntmps21
    go_wp2_with (first
      | ((with_reducible refine load_map (.tmp 3) rfl ?_ w.heap.size m ?_ ?_ Z40.out ?_); (next => rfl); (next => rfl); (next => exact B0.out))
      | (go_at_call 22; (with_reducible refine (unhide C _).mono ?_); rintro e w1 ⟨rfl, hb1⟩; have B2 := hide (blkP hb1); have hb := hide (nextB box2 hb1))
      | ((with_reducible refine built_map rfl ?_ ?_); (next => rfl))
      | ((with_reducible refine store_map_at (.tmp 6) _ rfl ?_ (w.heap.size + 1) map0 map0 ?_ ?_ ?_ Z0.out Z0.out ?_); (next => rfl); (next => rfl); (next => rfl); (next => exact B2.out)))
    exact bodyPost_ret (results_cell_row_tmp rfl _ _ (w.heap.size + 1) _ (mapC map0) _ _ rfl (B2.out.row (mapC map0)) Try.arrMap rfl (by rw [Z0.out]; exact Try.sizeMap)) rfl ⟨rfl, below_setRow hb.out (by omega) _⟩
end Go.Proofs.Ytalcgnjkhnmmiaa
