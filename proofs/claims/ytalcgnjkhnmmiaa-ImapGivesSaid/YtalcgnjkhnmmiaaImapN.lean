/- A map's block is read: contract of the program's Decode. No condition. -/
import Derived.Test.YtalcgnjkhnmmiaaPlainK
import Derived.Test.YtalcgnjkhnmmiaaImapL
import Derived.Test.YtalcgnjkhnmmiaaEqual
import Derived.StillTailTactics
namespace Go.Proofs.Ytalcgnjkhnmmiaa
open Go.RowKit

/-- a map is stored into a variable -/
theorem store_map_at {ops : Array Oper} {rest : List Oper} {o : Oper} {a : Act} {w : World} {Q : Exit → Act → World → Prop} (x y : Operand) (ho : o.op = .store 28 x y) (hgd : o.guard = none) (g : Nat) (m m' : List Slot)
    (hx : a.eval x = .pointer (some ⟨g, 0, none⟩)) (hy : a.eval y = .agg (mapC m')) (hB : Blk w g 28 (mapC m)) (hl : (mapC m).size = 120) (hl' : (mapC m').size = 120)
    (h : wpList Try.prog ops Q rest (a.put o.dst undef) (w.setRow g (mapC m'))) : wpList Try.prog ops Q (o :: rest) a w :=
  wpList_store_row hgd _ x y ho g (mapC m') hx hy _ (mapC m) hB (by rw [hl']; exact Try.sizeMap) (by rw [hl, hl']) (mapC_one _) h
theorem built_map {ops : Array Oper} {rest : List Oper} {o : Oper} {a : Act} {w : World} {Q : Exit → Act → World → Prop} (ho : o.op = .build 28 #[]) (hgd : o.guard = none)
    (h : wpList Try.prog ops Q rest (a.put o.dst (.agg (mapC map0))) w) : wpList Try.prog ops Q (o :: rest) a w :=
  wpList_built hgd _ ho (mapC map0) map_built h
theorem put3 {w : World} {g : Nat} {t : TypeId} {m : List Slot} {k : Nat} {x : Slot} (a : Int) (s : Nat) (v : Int) (h : Blk w g t (mapC m)) (hx : m[k]? = some x) :
    Blk (((w.setCell ⟨g, k * 3, none⟩ (.int .i64 a)).setCell ⟨g, k * 3 + 1, none⟩ (.int .u32 (s : Int))).setCell ⟨g, k * 3 + 2, none⟩ (.int .i64 v)) g t (mapC (m.set k ⟨a, s, v⟩)) := by
  have hk : k < m.length := (List.getElem?_eq_some_iff.1 hx).1
  have h2 := putv v (put2 a s h hx) (k := k) (x := ⟨a, s, x.v⟩) (by rw [List.getElem?_set_self hk])
  rw [List.set_set] at h2
  exact h2
set_option maxRecDepth 100000 in
set_option maxHeartbeats 8000000 in
theorem dec_any (m : List Slot) (k : Int) (A : Option Addr) (n c : Nat) (bs : List UInt8) (h40 : m.length = 40) (hs : ∀ x ∈ m, x.s < 4294967296) (w : World) (hA : Rd w A (bs.map u8v)) (hn : bs.length = n) (hc : n ≤ c) (hn2 : n ≤ 4294967296) :
    Calls Try.prog 20 #[.agg (mapC m), .int .i64 k, .slice A n c] w fun e w' => e = .returned (.tuple #[.agg (mapC (decM m k bs).1), .int .i64 (decM m k bs).2]) ∧ Below w.heap.size w w' := by
  have C := fun w => may_any m h40 w
  have N := fun w => block_any k w
  have H40 := hide h40; have HS := hide hs; have Hn := hide hn; have HA := hide hA
  have Z40 := hide (mapC_size h40); have Z0 := hide (mapC_size map0_len)
  have B0 := hide ((Blk.new w 28 (mapC m)).alloc (.cells (mapC map0) 28))
  have hz := map_zero
  clear h40 hs hn hA
  by_cases h : mayM m
  · rw [decide_eq_true h] at C
    replace C := hide C
    by_cases hk : k < 0 ∨ 3 < k
    · rw [decide_eq_false (by omega)] at N
      have he : decM m k bs = (map0, 4) := by unfold decM; rw [if_neg (by simp [h]), if_pos hk]
      rw [he]
      replace N := hide N
      clear h hk he
      go_enter Try.func20, Try.ntmps20
      go_wp2_with (first
        | ((with_reducible refine load_map (.tmp 3) rfl ?_ w.heap.size m ?_ ?_ Z40.out ?_); (next => rfl); (next => rfl); (next => exact B0.out))
        | (go_at_call 18; (with_reducible refine (unhide C _).mono ?_); rintro e w1 ⟨rfl, hb1⟩; have B2 := hide (blkP hb1); have hb := hide (nextB box2 hb1))
        | (go_at_call 29; (with_reducible refine (unhide N _).mono ?_); rintro e w2 ⟨rfl, rfl⟩)
        | ((with_reducible refine built_map rfl ?_ ?_); (next => rfl))
        | ((with_reducible refine store_map_at (.tmp 6) _ rfl ?_ (w.heap.size + 1) map0 map0 ?_ ?_ ?_ Z0.out Z0.out ?_); (next => rfl); (next => rfl); (next => rfl); (next => exact B2.out)))
      exact bodyPost_ret (results_cell_row_tmp rfl _ _ (w.heap.size + 1) _ (mapC map0) _ _ rfl (B2.out.row (mapC map0)) Try.arrMap rfl (by rw [Z0.out]; exact Try.sizeMap)) rfl ⟨rfl, below_setRow hb.out (by omega) _⟩
    · rw [decide_eq_true (by omega)] at N
      have hk0 : 0 ≤ k := by omega
      obtain ⟨k, rfl⟩ := Int.eq_ofNat_of_zero_le hk0
      have hk3 : k < 4 := by omega
      replace N := hide N
      by_cases h128 : n = 128
      · subst h128
        have he : decM m (k : Int) bs = if mayM (putB m k bs 10) ∧ encB (putB m k bs 10) k = bs then (putB m k bs 10, 0) else (map0, 3) := by
          unfold decM
          rw [if_neg (by simp [h]), if_neg hk, if_neg (by rw [Hn.out]; simp), Int.toNat_natCast]
        obtain ⟨R, hR⟩ : ∃ R, R = decM m (k : Int) bs := ⟨_, rfl⟩
        rw [← hR]
        have HR := hide (hR.trans he)
        clear hR
        obtain ⟨b0, o0, rfl⟩ : ∃ b o, A = some ⟨b, o, none⟩ := by
          rcases HA.out with h | ⟨b, o, h, _⟩
          · have := congrArg List.length h
            simp [Hn.out] at this
          · exact ⟨b, o, h⟩
        clear h hk he hk0
        go_enter Try.func20, Try.ntmps20
        go_wp2_with (first
          | ((with_reducible refine load_map (.tmp 3) rfl ?_ w.heap.size m ?_ ?_ Z40.out ?_); (next => rfl); (next => rfl); (next => exact B0.out))
          | (go_at_call 18; (with_reducible refine (unhide C _).mono ?_); rintro e w1 ⟨rfl, hb1⟩; have B1 := hide (blkG hb1); have B2 := hide (blkP hb1); have hb := hide (nextB box2 hb1))
          | (go_at_call 29; (with_reducible refine (unhide N _).mono ?_); rintro e w2 ⟨rfl, rfl⟩))
        go_loopw [28] (fun i wr => ∃ j : Nat, j ≤ 10 ∧ i = .int .i64 (j : Int) ∧ Blk wr w.heap.size 28 (mapC (putB m k bs j)) ∧ Blk wr (w.heap.size + 1) 28 (mapC map0) ∧ Below w.heap.size w wr) (fun i _ => 10 - (intOf i).toNat)
        case atStart => exact ⟨0, by omega, rfl, B1.out, B2.out, hb.out⟩
        case round =>
          clear B1 B2 hb hb1 B0
          obtain ⟨j, hj, rfl, B1, B2, hb⟩ := hrel
          replace B1 := hide B1; replace B2 := hide B2; replace hb := hide hb
          by_cases hlt : j < 10
          · have hU := unpack444 bs (5 + 12 * j) (by rw [Hn.out]; omega)
            have hput : Hid (putB m k bs (j + 1) = (putB m k bs j).set (10 * k + j) (slotB bs j)) := (rfl : _ = _)
            obtain ⟨x, hx⟩ : ∃ x, (putB m k bs j)[10 * k + j]? = some x := ⟨_, List.getElem?_eq_getElem (by rw [putB_len H40.out]; omega)⟩
            have a0 := beN4 (bs.drop (5 + 12 * j)); have s0 := beN4 (bs.drop (5 + 12 * j + 4)); have v0 := beN4 (bs.drop (5 + 12 * j + 8))
            unfold slotB at hput
            generalize beN ((bs.drop (5 + 12 * j)).take 4) = a at hU hput a0
            generalize beN ((bs.drop (5 + 12 * j + 4)).take 4) = s at hU hput s0
            generalize beN ((bs.drop (5 + 12 * j + 8)).take 4) = v at hU hput v0
            have Rb := (HA.out.on hb.out).cut (k := 5 + 12 * j) (n := 128) (cap := c) (by rw [List.length_map, Hn.out]; exact Nat.le_refl _) hc
            rw [if_neg (by omega), ← List.map_drop] at Rb
            have Rb2 : Rd wr (some ⟨b0, o0 + (5 + 12 * j), none⟩) ((bs.drop (5 + 12 * j)).map u8v) := by
              have e : Addr.add ⟨b0, o0, none⟩ (5 + 12 * j) = ⟨b0, o0 + (5 + 12 * j), none⟩ := by unfold Addr.add; rw [if_neg (by omega)]
              simpa [e] using Rb
            have U := unpack_any (some ⟨b0, o0 + (5 + 12 * j), none⟩) (some ⟨wr.heap.size, 0, none⟩) (128 - (5 + 12 * j)) (c - (5 + 12 * j)) 3 3 (bs.drop (5 + 12 * j)) [4, 4, 4] (wr.alloc (.cells #[.int .i64 4, .int .i64 4, .int .i64 4] 3))
              (Rb2.alloc _) (Blk.new wr 3 #[.int .i64 4, .int .i64 4, .int .i64 4]).rd (by rw [List.length_drop, Hn.out]) (by omega) rfl (by decide)
            rw [hU] at U
            replace U := hide U; replace hx := hide hx
            clear hU Rb Rb2
            go_wp2_with (go_at_call 32; (with_reducible refine (unhide U).mono ?_); rintro e w3 ⟨A3, c3, rfl, ho3, hb3⟩)
            obtain ⟨g3, rfl, hg3⟩ := own_some ho3 (by simp)
            have hr3 := Rd.of_own ho3
            have q0 : w3.cell? ⟨g3, 0, none⟩ = some (.int .u64 (a : Int)) := hr3.cell (k := 0) rfl
            have q1 : w3.cell? ⟨g3, 1, none⟩ = some (.int .u64 (s : Int)) := by have := hr3.cell (k := 1) rfl; rwa [Nat.zero_add] at this
            have q2 : w3.cell? ⟨g3, 2, none⟩ = some (.int .u64 (v : Int)) := by have := hr3.cell (k := 2) rfl; rwa [Nat.zero_add] at this
            have kb3 : Below wr.heap.size wr w3 := nextB box1 hb3
            replace B1 := hide (B1.out.below kb3 B1.out.lt)
            replace B2 := hide (B2.out.below kb3 B2.out.lt)
            replace hb := hide (nextB hb.out kb3)
            obtain ⟨c0, c1, c2⟩ := map_blk_cells B1.out hx.out
            have f0 := B1.out.frozen ((10 * k + j) * 3); have f1 := B1.out.frozen ((10 * k + j) * 3 + 1); have f2 := B1.out.frozen ((10 * k + j) * 3 + 2)
            clear ho3 hb3 hr3 kb3 U
            go_wp2_with fail
            have e1 : IntKind.i64.wrap (10 * (k : Int)) = 10 * (k : Int) := IntWalk.i64_in _ (by omega)
            have e2 : IntKind.i64.wrap (10 * (k : Int) + (j : Int)) = 10 * (k : Int) + (j : Int) := IntWalk.i64_in _ (by omega)
            have e3 : (0 : Int) ≤ 10 * (k : Int) + (j : Int) ∧ 10 * (k : Int) + (j : Int) < 40 := by omega
            have e4 : (10 * (k : Int) + (j : Int)).toNat = 10 * k + j := by omega
            have e5 : IntKind.i64.wrap (a : Int) = a := IntWalk.i64_in _ (by omega)
            have e6 : IntKind.u32.wrap (s : Int) = s := by rw [IntKind.wrap_u32]; omega
            have e7 : IntKind.i64.wrap (v : Int) = v := IntWalk.i64_in _ (by omega)
            go_still_tail 19, (by kernel_rfl)
            change wpList _ _ _ _ _ w3.drew
            clear e1 e2 e4 e5 e6 e7
            go_wp2_with fail
            go_roundw
            case rel =>
              refine ⟨j + 1, by omega, by go_num, ?_, ?_, ?_⟩
              · rw [hput.out]; exact (put3 _ _ _ B1.out hx.out).drew
              · exact (((B2.out.far (by simp) _).far (by simp) _).far (by simp) _).drew
              · exact (((hb.out.setCell (by simp) _).setCell (by simp) _).setCell (by simp) _).drew
            case measure => simp [intOf]; omega
          · obtain rfl : j = 10 := by omega
            have L := putB_len H40.out k bs 10
            have L32 := putB_s HS.out k bs 10
            obtain ⟨M, hM⟩ : ∃ M, M = putB m k bs 10 := ⟨_, rfl⟩
            have HR2 := HR.out
            rw [← hM] at L L32 B1 HR2
            clear hM
            have E := fun w => enc_any M (k : Int) L L32 w
            have ZM := hide (mapC_size L)
            by_cases hm : mayM M
            · have he : encM M (k : Int) = (encB M k, 0) := by unfold encM; rw [if_neg (by simp [hm]), if_neg (by omega), Int.toNat_natCast]
              rw [he] at E
              replace E := hide E; clear he L L32
              by_cases hq : encB M k = bs
              · rw [if_pos ⟨hm, hq⟩] at HR2
                replace HR2 := hide HR2
                replace hq := hide hq; clear hm
                go_wp2_with (first
                  | ((with_reducible refine load_map (.tmp 3) rfl ?_ w.heap.size M ?_ ?_ ZM.out ?_); (next => rfl); (next => rfl); (next => exact B1.out))
                  | (go_at_call 19; (with_reducible refine (unhide E _).mono ?_); rintro e w3 ⟨A3, c3, rfl, ho3, hb3⟩; replace B1 := hide (B1.out.below hb3 B1.out.lt); replace B2 := hide (B2.out.below hb3 B2.out.lt); replace hb := hide (nextB hb.out hb3); have Q := bytesEq_any A3 _ (encB M k).length c3 128 c (encB M k) bs w3 (Rd.of_own ho3) (HA.out.on hb.out) rfl Hn.out; rw [decide_eq_true hq.out] at Q; replace Q := hide Q; clear ho3 hb3)
                  | (go_at_call 33; (with_reducible refine (unhide Q).mono ?_); rintro e w4 ⟨rfl, rfl⟩)
                  | ((with_reducible refine store_map_at (.tmp 6) _ rfl ?_ (w.heap.size + 1) map0 M ?_ ?_ ?_ Z0.out ZM.out ?_); (next => rfl); (next => rfl); (next => rfl); (next => exact B2.out)))
                exact bodyPost_ret (results_cell_row_tmp rfl _ _ (w.heap.size + 1) _ (mapC M) _ _ rfl (B2.out.row (mapC M)) Try.arrMap rfl (by rw [ZM.out]; exact Try.sizeMap)) rfl ⟨by rw [HR2.out]; rfl, below_setRow hb.out (by omega) _⟩
              · rw [if_neg (fun h => hq h.2)] at HR2
                replace HR2 := hide HR2
                replace hq := hide hq; clear hm
                go_wp2_with (first
                  | ((with_reducible refine load_map (.tmp 3) rfl ?_ w.heap.size M ?_ ?_ ZM.out ?_); (next => rfl); (next => rfl); (next => exact B1.out))
                  | (go_at_call 19; (with_reducible refine (unhide E _).mono ?_); rintro e w3 ⟨A3, c3, rfl, ho3, hb3⟩; replace B2 := hide (B2.out.below hb3 B2.out.lt); replace hb := hide (nextB hb.out hb3); have Q := bytesEq_any A3 _ (encB M k).length c3 128 c (encB M k) bs w3 (Rd.of_own ho3) (HA.out.on hb.out) rfl Hn.out; rw [decide_eq_false hq.out] at Q; replace Q := hide Q; clear ho3 hb3)
                  | (go_at_call 33; (with_reducible refine (unhide Q).mono ?_); rintro e w4 ⟨rfl, rfl⟩)
                  | ((with_reducible refine built_map rfl ?_ ?_); (next => rfl))
                  | ((with_reducible refine store_map_at (.tmp 6) _ rfl ?_ (w.heap.size + 1) map0 map0 ?_ ?_ ?_ Z0.out Z0.out ?_); (next => rfl); (next => rfl); (next => rfl); (next => exact B2.out)))
                exact bodyPost_ret (results_cell_row_tmp rfl _ _ (w.heap.size + 1) _ (mapC map0) _ _ rfl (B2.out.row (mapC map0)) Try.arrMap rfl (by rw [Z0.out]; exact Try.sizeMap)) rfl ⟨by rw [HR2.out]; rfl, below_setRow hb.out (by omega) _⟩
            · rw [if_neg (fun h => hm h.1)] at HR2
              replace HR2 := hide HR2
              have he : encM M (k : Int) = ([], 1) := by unfold encM; rw [if_pos hm]
              rw [he] at E
              replace E := hide E; clear he L L32 hm
              go_wp2_with (first
                | ((with_reducible refine load_map (.tmp 3) rfl ?_ w.heap.size M ?_ ?_ ZM.out ?_); (next => rfl); (next => rfl); (next => exact B1.out))
                | (go_at_call 19; (with_reducible refine (unhide E _).mono ?_); rintro e w3 ⟨A3, c3, rfl, ho3, hb3⟩; replace B2 := hide (B2.out.below hb3 B2.out.lt); replace hb := hide (nextB hb.out hb3))
                | ((with_reducible refine built_map rfl ?_ ?_); (next => rfl))
                | ((with_reducible refine store_map_at (.tmp 6) _ rfl ?_ (w.heap.size + 1) map0 map0 ?_ ?_ ?_ Z0.out Z0.out ?_); (next => rfl); (next => rfl); (next => rfl); (next => exact B2.out)))
              exact bodyPost_ret (results_cell_row_tmp rfl _ _ (w.heap.size + 1) _ (mapC map0) _ _ rfl (B2.out.row (mapC map0)) Try.arrMap rfl (by rw [Z0.out]; exact Try.sizeMap)) rfl ⟨by rw [HR2.out]; rfl, below_setRow hb.out (by omega) _⟩
      · have he : decM m (k : Int) bs = (map0, 3) := by unfold decM; rw [if_neg (by simp [h]), if_neg hk, if_pos (by rw [Hn.out]; exact h128)]
        rw [he]
        have h1 : ((n : Int) != 128) = true := by simp; omega
        clear h hk he h128 hk0
        go_enter Try.func20, Try.ntmps20
        go_wp2_with (first
          | ((with_reducible refine load_map (.tmp 3) rfl ?_ w.heap.size m ?_ ?_ Z40.out ?_); (next => rfl); (next => rfl); (next => exact B0.out))
          | (go_at_call 18; (with_reducible refine (unhide C _).mono ?_); rintro e w1 ⟨rfl, hb1⟩; have B2 := hide (blkP hb1); have hb := hide (nextB box2 hb1))
          | (go_at_call 29; (with_reducible refine (unhide N _).mono ?_); rintro e w2 ⟨rfl, rfl⟩)
          | ((with_reducible refine built_map rfl ?_ ?_); (next => rfl))
          | ((with_reducible refine store_map_at (.tmp 6) _ rfl ?_ (w.heap.size + 1) map0 map0 ?_ ?_ ?_ Z0.out Z0.out ?_); (next => rfl); (next => rfl); (next => rfl); (next => exact B2.out)))
        exact bodyPost_ret (results_cell_row_tmp rfl _ _ (w.heap.size + 1) _ (mapC map0) _ _ rfl (B2.out.row (mapC map0)) Try.arrMap rfl (by rw [Z0.out]; exact Try.sizeMap)) rfl ⟨rfl, below_setRow hb.out (by omega) _⟩
  · rw [decide_eq_false h] at C
    have he : decM m k bs = (map0, 1) := by unfold decM; rw [if_pos h]
    rw [he]
    replace C := hide C
    clear h he
    go_enter Try.func20, Try.ntmps20
    go_wp2_with (first
      | ((with_reducible refine load_map (.tmp 3) rfl ?_ w.heap.size m ?_ ?_ Z40.out ?_); (next => rfl); (next => rfl); (next => exact B0.out))
      | (go_at_call 18; (with_reducible refine (unhide C _).mono ?_); rintro e w1 ⟨rfl, hb1⟩; have B2 := hide (blkP hb1); have hb := hide (nextB box2 hb1))
      | ((with_reducible refine built_map rfl ?_ ?_); (next => rfl))
      | ((with_reducible refine store_map_at (.tmp 6) _ rfl ?_ (w.heap.size + 1) map0 map0 ?_ ?_ ?_ Z0.out Z0.out ?_); (next => rfl); (next => rfl); (next => rfl); (next => exact B2.out)))
    exact bodyPost_ret (results_cell_row_tmp rfl _ _ (w.heap.size + 1) _ (mapC map0) _ _ rfl (B2.out.row (mapC map0)) Try.arrMap rfl (by rw [Z0.out]; exact Try.sizeMap)) rfl ⟨rfl, below_setRow hb.out (by omega) _⟩
end Go.Proofs.Ytalcgnjkhnmmiaa
