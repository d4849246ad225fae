/- The checkpoint that counts: contract of the program's Choose. No condition. -/
import Derived.Test.YtboccjdliklifaaCkF
import Derived.Test.YtboccjdliklifaaCkD
namespace Go.Proofs.Ytboccjdliklifaa
open Go.RowKit

/-- the better one of a best one and what place i has -/
def pickK (best : Ck) (i : Int) (b : List UInt8) : Ck :=
  if (decK b).2 = 0 ∧ placeK (decK b).1 = i ∧ best.seq < (decK b).1.seq then (decK b).1 else best
def bestK (a b : List UInt8) : Nat → Ck
  | 0 => ck0
  | 1 => pickK ck0 0 a
  | _ => pickK (pickK ck0 0 a) 1 b
/-- the checkpoint that counts, the error's number -/
def chooseK (a b : List UInt8) : Ck × Int := if (bestK a b 2).seq = 0 then (ck0, 6) else (bestK a b 2, 0)
theorem decK_len (b : List UInt8) : (decK b).1.map.length = 4 ∧ (decK b).1.used.length = 8 := by
  unfold decK
  split
  · split
    · exact ⟨mapK_len b 4, useK_len b 8⟩
    · exact ⟨rfl, rfl⟩
  · exact ⟨rfl, rfl⟩
theorem decK_err (b : List UInt8) : (decK b).2 = 0 ∨ (decK b).2 = 3 ∨ (decK b).2 = 5 := by
  unfold decK
  split
  · split
    · exact .inl rfl
    · exact .inr (.inl rfl)
  · exact .inr (.inr rfl)
theorem pickK_len {m : Ck} (h : m.map.length = 4 ∧ m.used.length = 8) (i : Int) (b : List UInt8) : (pickK m i b).map.length = 4 ∧ (pickK m i b).used.length = 8 := by
  unfold pickK
  split
  · exact decK_len b
  · exact h
theorem bestK_len (a b : List UInt8) : ∀ j, (bestK a b j).map.length = 4 ∧ (bestK a b j).used.length = 8
  | 0 => ⟨rfl, rfl⟩
  | 1 => pickK_len ⟨rfl, rfl⟩ 0 a
  | _ + 2 => pickK_len (pickK_len ⟨rfl, rfl⟩ 0 a) 1 b
theorem bestK_succ (a b : List UInt8) {j : Nat} (h : j < 2) : bestK a b (j + 1) = pickK (bestK a b j) (j : Int) (if j = 0 then a else b) := by
  match j, h with
  | 0, _ => rfl
  | 1, _ => rfl
theorem load_ck {w : World} {ops : Array Oper} {rest : List Oper} {o : Oper} {a : Act} {Q : Exit → Act → World → Prop} (x : Operand) (ho : o.op = .load 28 x) (hgd : Region.wanted o (yielded ops a.tmps) = true)
    (g : Nat) (hx : a.eval x = .pointer (some ⟨g, 0, none⟩)) (m : Ck) (hB : Blk w g 28 (ckC m).toArray) (hz : (ckC m).length = 19)
    (h : wpList Try.prog ops Q rest (a.put o.dst (.agg (ckC m).toArray)) w) : wpList Try.prog ops Q (o :: rest) a w :=
  wpList_load_row_g hgd _ x ho g hx _ (ckC m).toArray _ _ hB Try.underlying28 rfl (by rw [List.size_toArray, hz]; exact Try.sizeCk) h
theorem store_ck {w : World} {ops : Array Oper} {rest : List Oper} {o : Oper} {a : Act} {Q : Exit → Act → World → Prop} (x y : Operand) (ho : o.op = .store 28 x y) (hgd : o.guard = none)
    (g : Nat) (hx : a.eval x = .pointer (some ⟨g, 0, none⟩)) (m m' : Ck) (hy : a.eval y = .agg (ckC m').toArray) (hB : Blk w g 28 (ckC m).toArray) (hz : (ckC m).length = 19) (hz' : (ckC m').length = 19)
    (h : wpList Try.prog ops Q rest (a.put o.dst undef) (w.setRow g (ckC m').toArray)) : wpList Try.prog ops Q (o :: rest) a w :=
  wpList_store_at x y ho hgd g _ _ (ckC m').toArray hx hy hB (by rw [List.size_toArray, hz']; exact Try.sizeCk) (by rw [List.size_toArray, List.size_toArray, hz, hz']) (ckC_one _) h
set_option maxRecDepth 100000 in
set_option maxHeartbeats 8000000 in
theorem choose_any (A A' : Option Addr) (n c n' c' : Nat) (xs ys : List UInt8) (w : World) (hA : Rd w A (xs.map u8v)) (hn : xs.length = n) (hc : n ≤ c) (hA' : Rd w A' (ys.map u8v)) (hn' : ys.length = n') (hc' : n' ≤ c') :
    Calls Try.prog 16 #[.slice A n c, .slice A' n' c'] w fun e w' => e = .returned (.tuple #[.agg (ckC (chooseK xs ys).1).toArray, .int .i64 (chooseK xs ys).2]) ∧ Below w.heap.size w w' := by
  have HD : ∀ j : Nat, j < 2 → ∃ (Aj : Option Addr) (nj cj : Nat), (∀ w, (Instr.index 47 (.agg #[.slice A n c, .slice A' n' c']) (.int .i64 (j : Int))).run Try.prog w = .ok (.slice Aj nj cj) w) ∧
      ∀ w', Below w.heap.size w w' → Calls Try.prog 8 #[.slice Aj nj cj] w' fun e w2 => e = .returned (.tuple #[.agg (ckC (decK (if j = 0 then xs else ys)).1).toArray, .int .i64 (decK (if j = 0 then xs else ys)).2]) ∧ Below w'.heap.size w' w2 := by
    intro j hj
    match j, hj with
    | 0, _ => exact ⟨A, n, c, fun w => by kernel_rfl, fun w' hb => dec_any A n c xs w' (hA.on hb) hn hc⟩
    | 1, _ => exact ⟨A', n', c', fun w => by kernel_rfl, fun w' hb => dec_any A' n' c' ys w' (hA'.on hb) hn' hc'⟩
  replace HD := hide HD
  have hz := ck_zero
  have B0 := hide (Blk.new w 28 (ckC ck0).toArray)
  obtain ⟨R, hR⟩ : ∃ R, R = chooseK xs ys := ⟨_, rfl⟩
  rw [← hR]
  replace hR := hide hR
  clear hA hn hc hA' hn' hc'
  go_enter Try.func16, Try.ntmps16
  have B1 : Blk ((w.alloc (.cells (ckC ck0).toArray 28)).alloc (.cells (ckC ck0).toArray 28)) (w.heap.size + 1) 28 (ckC ck0).toArray := Blk.new_ (w.alloc (.cells (ckC ck0).toArray 28)) _ _ _ (by simp)
  replace B1 := hide B1
  go_wp2_with (first
    | ((with_reducible refine wpList_built ?_ _ rfl _ ck_built ?_); (next => rfl))
    | ((with_reducible refine wpList_store_at (.tmp 6) (.tmp 11) rfl ?_ (w.heap.size + 1) _ _ (ckC ck0).toArray ?_ ?_ B1.out ?_ ?_ (ckC_one _) ?_); (next => rfl); (next => rfl); (next => rfl); (next => exact Try.sizeCk); (next => rfl)))
  replace B1 := hide (B1.out.row (ckC ck0).toArray)
  have hb0 : Below w.heap.size w (((w.alloc (.cells (ckC ck0).toArray 28)).alloc (.cells (ckC ck0).toArray 28)).setRow (w.heap.size + 1) (ckC ck0).toArray) := below_setRow box2 (by omega) _
  have B2 : Blk (((w.alloc (.cells (ckC ck0).toArray 28)).alloc (.cells (ckC ck0).toArray 28)).setRow (w.heap.size + 1) (ckC ck0).toArray) w.heap.size 28 (ckC ck0).toArray := ((Blk.new w _ _).alloc _).rowFar (by omega) _
  generalize (((w.alloc (.cells (ckC ck0).toArray 28)).alloc (.cells (ckC ck0).toArray 28)).setRow (w.heap.size + 1) (ckC ck0).toArray) = W at B1 hb0 B2 ⊢
  go_wp2_with fail
  go_loopw [15] (fun i wr => ∃ j : Nat, j ≤ 2 ∧ i = .int .i64 (j : Int) ∧ Blk wr (w.heap.size + 1) 28 (ckC (bestK xs ys j)).toArray ∧ Blk wr w.heap.size 28 (ckC ck0).toArray ∧ Below w.heap.size w wr) (fun i _ => 2 - (intOf i).toNat)
  case atStart => exact ⟨0, by omega, rfl, B1.out, B2, hb0⟩
  case round =>
    clear B1 B2 B0 hb0
    obtain ⟨j, hj, rfl, B1, B0, hb⟩ := hrel
    replace B1 := hide B1; replace B0 := hide B0; replace hb := hide hb
    by_cases hlt : j < 2
    · obtain ⟨Aj, nj, cj, hx, D⟩ := HD.out j hlt
      have hs := bestK_succ xs ys hlt
      obtain ⟨bs, hbs⟩ : ∃ bs, bs = if j = 0 then xs else ys := ⟨_, rfl⟩
      rw [← hbs] at D hs
      have D := D wr hb.out
      have hl := decK_len bs
      have he := decK_err bs
      unfold pickK at hs
      obtain ⟨m, hm⟩ : ∃ m, m = bestK xs ys j := ⟨_, rfl⟩
      rw [← hm] at hs B1
      generalize decK bs = r at D hl he hs
      obtain ⟨C, e⟩ := r
      simp only at D hl he hs
      replace D := hide D; replace hs := hide hs
      clear hbs
      have HP := fun w => place_any C hl.1 hl.2 w
      have ZC := hide (ck_size hl.1 hl.2)
      have zc := ck_zero
      have c9 : ∀ (w2 : World), Blk (w2.alloc (.cells (ckC ck0).toArray 28)) w2.heap.size 28 (ckC ck0).toArray := fun w2 => Blk.new w2 _ _
      have hlm : (ckC m).length = 19 := by rw [hm]; exact ck_size (bestK_len xs ys j).1 (bestK_len xs ys j).2
      replace hlm := hide hlm
      clear hm hl
      obtain ⟨p, hp⟩ : ∃ p, placeK C = p := ⟨_, rfl⟩
      rw [hp] at HP hs
      replace HP := hide HP
      have k6 := B1.out.cell_ 0 (.int .i64 m.seq) rfl
      clear hp
      clear k6
      rcases he with rfl | he
      · by_cases hpj : p = (j : Int)
        · subst hpj
          by_cases hsq : m.seq < C.seq
          · have hs2 := hs.out
            rw [if_pos ⟨rfl, rfl, hsq⟩] at hs2
            replace hs2 := hide hs2
            go_wp2_with (first
              | (with_reducible refine wpList_run rfl _ (hx _) ?_)
              | (go_at_call 8; (with_reducible refine (unhide D).mono ?_); rintro e w1 ⟨rfl, hb1⟩; have n9 : w.heap.size + 1 < w1.heap.size := (B1.out.below hb1 B1.out.lt).lt; replace B1 := hide (B1.out.below hb1 B1.out.lt); replace B0 := hide (B0.out.below hb1 B0.out.lt); replace hb := hide (nextB hb.out hb1); have B9 := hide (c9 w1); clear hb1)
              | ((with_reducible refine store_ck (.tmp 9) (.tmp 22) rfl rfl _ ?_ ck0 C ?_ B9.out ck0_size ZC.out ?_); (next => rfl); (next => rfl); replace B9 := hide (B9.out.row (ckC C).toArray); replace hb := hide (below_setRow (nextB hb.out (box1 (o := .cells (ckC ck0).toArray 28))) (Nat.le_of_lt B0.out.lt) (ckC C).toArray); replace B1 := hide ((B1.out.alloc (.cells (ckC ck0).toArray 28)).rowFar (Nat.ne_of_lt B1.out.lt) (ckC C).toArray); replace B0 := hide ((B0.out.alloc (.cells (ckC ck0).toArray 28)).rowFar (Nat.ne_of_lt B0.out.lt) (ckC C).toArray); generalize ((w1.alloc (.cells (ckC ck0).toArray 28)).setRow w1.heap.size (ckC C).toArray) = W2 at B9 hb B1 B0 ⊢)
              | (go_at_call 13; (with_reducible refine (unhide HP W2).mono ?_); rintro e w3 ⟨rfl, hb3⟩; replace B1 := hide (B1.out.below hb3 B1.out.lt); replace B0 := hide (B0.out.below hb3 B0.out.lt); replace B9 := hide (B9.out.below hb3 B9.out.lt); replace hb := hide (nextB hb.out hb3); have k6 := B1.out.cell_ 0 (.int .i64 m.seq) rfl; have k9 := B9.out.cell_ 0 (.int .i64 C.seq) rfl; clear hb3)
              | ((with_reducible refine load_ck (.tmp 9) rfl ?_ _ ?_ C B9.out ZC.out ?_); (next => rfl); (next => rfl))
              | ((with_reducible refine store_ck (.tmp 6) (.tmp 39) rfl rfl _ ?_ m C ?_ B1.out hlm.out ZC.out ?_); (next => rfl); (next => rfl)))
            replace B1 := hide (B1.out.row (ckC C).toArray)
            replace B0 := hide (B0.out.rowFar (show w.heap.size ≠ w.heap.size + 1 by omega) (ckC C).toArray)
            replace hb := hide (below_setRow hb.out (show w.heap.size ≤ w.heap.size + 1 by omega) (ckC C).toArray)
            go_roundw
            case rel =>
              refine ⟨j + 1, by omega, by go_num, ?_, B0.out, hb.out⟩
              rw [hs2.out]; exact B1.out
            case measure => simp [intOf]; omega
          · have hs2 := hs.out
            rw [if_neg (fun h => hsq h.2.2)] at hs2
            replace hs2 := hide hs2
            go_wp2_with (first
              | (with_reducible refine wpList_run rfl _ (hx _) ?_)
              | (go_at_call 8; (with_reducible refine (unhide D).mono ?_); rintro e w1 ⟨rfl, hb1⟩; have n9 : w.heap.size + 1 < w1.heap.size := (B1.out.below hb1 B1.out.lt).lt; replace B1 := hide (B1.out.below hb1 B1.out.lt); replace B0 := hide (B0.out.below hb1 B0.out.lt); replace hb := hide (nextB hb.out hb1); have B9 := hide (c9 w1); clear hb1)
              | ((with_reducible refine store_ck (.tmp 9) (.tmp 22) rfl rfl _ ?_ ck0 C ?_ B9.out ck0_size ZC.out ?_); (next => rfl); (next => rfl); replace B9 := hide (B9.out.row (ckC C).toArray); replace hb := hide (below_setRow (nextB hb.out (box1 (o := .cells (ckC ck0).toArray 28))) (Nat.le_of_lt B0.out.lt) (ckC C).toArray); replace B1 := hide ((B1.out.alloc (.cells (ckC ck0).toArray 28)).rowFar (Nat.ne_of_lt B1.out.lt) (ckC C).toArray); replace B0 := hide ((B0.out.alloc (.cells (ckC ck0).toArray 28)).rowFar (Nat.ne_of_lt B0.out.lt) (ckC C).toArray); generalize ((w1.alloc (.cells (ckC ck0).toArray 28)).setRow w1.heap.size (ckC C).toArray) = W2 at B9 hb B1 B0 ⊢)
              | (go_at_call 13; (with_reducible refine (unhide HP W2).mono ?_); rintro e w3 ⟨rfl, hb3⟩; replace B1 := hide (B1.out.below hb3 B1.out.lt); replace B0 := hide (B0.out.below hb3 B0.out.lt); replace B9 := hide (B9.out.below hb3 B9.out.lt); replace hb := hide (nextB hb.out hb3); have k6 := B1.out.cell_ 0 (.int .i64 m.seq) rfl; have k9 := B9.out.cell_ 0 (.int .i64 C.seq) rfl; clear hb3)
              | ((with_reducible refine load_ck (.tmp 9) rfl ?_ _ ?_ C B9.out ZC.out ?_); (next => rfl); (next => rfl)))
            go_roundw
            case rel =>
              refine ⟨j + 1, by omega, by go_num, ?_, B0.out, hb.out⟩
              rw [hs2.out]; exact B1.out
            case measure => simp [intOf]; omega
        · have hs2 := hs.out
          rw [if_neg (fun h => hpj h.2.1)] at hs2
          replace hs2 := hide hs2
          have e1 : (p == (j : Int)) = false := by simpa using hpj
          go_wp2_with (first
            | (with_reducible refine wpList_run rfl _ (hx _) ?_)
            | (go_at_call 8; (with_reducible refine (unhide D).mono ?_); rintro e w1 ⟨rfl, hb1⟩; have n9 : w.heap.size + 1 < w1.heap.size := (B1.out.below hb1 B1.out.lt).lt; replace B1 := hide (B1.out.below hb1 B1.out.lt); replace B0 := hide (B0.out.below hb1 B0.out.lt); replace hb := hide (nextB hb.out hb1); have B9 := hide (c9 w1); clear hb1)
            | ((with_reducible refine store_ck (.tmp 9) (.tmp 22) rfl rfl _ ?_ ck0 C ?_ B9.out ck0_size ZC.out ?_); (next => rfl); (next => rfl); replace B9 := hide (B9.out.row (ckC C).toArray); replace hb := hide (below_setRow (nextB hb.out (box1 (o := .cells (ckC ck0).toArray 28))) (Nat.le_of_lt B0.out.lt) (ckC C).toArray); replace B1 := hide ((B1.out.alloc (.cells (ckC ck0).toArray 28)).rowFar (Nat.ne_of_lt B1.out.lt) (ckC C).toArray); replace B0 := hide ((B0.out.alloc (.cells (ckC ck0).toArray 28)).rowFar (Nat.ne_of_lt B0.out.lt) (ckC C).toArray); generalize ((w1.alloc (.cells (ckC ck0).toArray 28)).setRow w1.heap.size (ckC C).toArray) = W2 at B9 hb B1 B0 ⊢)
            | (go_at_call 13; (with_reducible refine (unhide HP W2).mono ?_); rintro e w3 ⟨rfl, hb3⟩; replace B1 := hide (B1.out.below hb3 B1.out.lt); replace B0 := hide (B0.out.below hb3 B0.out.lt); replace B9 := hide (B9.out.below hb3 B9.out.lt); replace hb := hide (nextB hb.out hb3); have k6 := B1.out.cell_ 0 (.int .i64 m.seq) rfl; have k9 := B9.out.cell_ 0 (.int .i64 C.seq) rfl; clear hb3)
            | ((with_reducible refine load_ck (.tmp 9) rfl ?_ _ ?_ C B9.out ZC.out ?_); (next => rfl); (next => rfl)))
          go_roundw
          case rel =>
            refine ⟨j + 1, by omega, by go_num, ?_, B0.out, hb.out⟩
            rw [hs2.out]; exact B1.out
          case measure => simp [intOf]; omega
      · have e0 : (e == 0) = false := by simp; omega
        have hs2 := hs.out
        rw [if_neg (by simp; omega)] at hs2
        replace hs2 := hide hs2
        go_wp2_with (first
          | (with_reducible refine wpList_run rfl _ (hx _) ?_)
          | (go_at_call 8; (with_reducible refine (unhide D).mono ?_); rintro e w1 ⟨rfl, hb1⟩; have n9 : w.heap.size + 1 < w1.heap.size := (B1.out.below hb1 B1.out.lt).lt; replace B1 := hide (B1.out.below hb1 B1.out.lt); replace B0 := hide (B0.out.below hb1 B0.out.lt); replace hb := hide (nextB hb.out hb1); have B9 := hide (c9 w1); clear hb1)
          | ((with_reducible refine store_ck (.tmp 9) (.tmp 22) rfl rfl _ ?_ ck0 C ?_ B9.out ck0_size ZC.out ?_); (next => rfl); (next => rfl); replace B9 := hide (B9.out.row (ckC C).toArray); replace hb := hide (below_setRow (nextB hb.out (box1 (o := .cells (ckC ck0).toArray 28))) (Nat.le_of_lt B0.out.lt) (ckC C).toArray); replace B1 := hide ((B1.out.alloc (.cells (ckC ck0).toArray 28)).rowFar (Nat.ne_of_lt B1.out.lt) (ckC C).toArray); replace B0 := hide ((B0.out.alloc (.cells (ckC ck0).toArray 28)).rowFar (Nat.ne_of_lt B0.out.lt) (ckC C).toArray); generalize ((w1.alloc (.cells (ckC ck0).toArray 28)).setRow w1.heap.size (ckC C).toArray) = W2 at B9 hb B1 B0 ⊢))
        go_roundw
        case rel =>
          refine ⟨j + 1, by omega, by go_num, ?_, B0.out, hb.out⟩
          rw [hs2.out]; exact B1.out
        case measure => simp [intOf]; omega
    · obtain rfl : j = 2 := by omega
      have hR2 := hR.out
      unfold chooseK at hR2
      have hl := bestK_len xs ys 2
      obtain ⟨M, hM⟩ : ∃ M, bestK xs ys 2 = M := ⟨_, rfl⟩
      rw [hM] at B1 hl hR2
      have ZM := hide (ck_size hl.1 hl.2)
      have k6 := B1.out.cell_ 0 (.int .i64 M.seq) rfl
      clear hl hM
      by_cases h0 : M.seq = 0
      · rw [if_pos h0] at hR2
        rw [h0] at k6
        replace hR2 := hide hR2
        go_wp2_with (first
          | ((with_reducible refine wpList_built ?_ _ rfl _ ck_built ?_); (next => rfl))
          | ((with_reducible refine store_ck (.tmp 4) (.tmp 44) rfl rfl _ ?_ ck0 ck0 ?_ B0.out ck0_size ck0_size ?_); (next => rfl); (next => rfl)))
        exact bodyPost_ret (results_pair rfl _ _ Try.wideCk w.heap.size 0 (ckC ck0) rfl ck0_size (blk_from (B0.out.row _))) rfl ⟨by rw [hR2.out]; rfl, below_setRow hb.out (Nat.le_refl _) _⟩
      · rw [if_neg h0] at hR2
        replace hR2 := hide hR2
        have e1 : (M.seq == 0) = false := by simpa using h0
        go_wp2_with (first
          | ((with_reducible refine load_ck (.tmp 6) rfl ?_ _ ?_ M B1.out ZM.out ?_); (next => rfl); (next => rfl))
          | ((with_reducible refine store_ck (.tmp 4) (.tmp 45) rfl rfl _ ?_ ck0 M ?_ B0.out ck0_size ZM.out ?_); (next => rfl); (next => rfl)))
        exact bodyPost_ret (results_pair rfl _ _ Try.wideCk w.heap.size 0 (ckC M) rfl ZM.out (blk_from (B0.out.row _))) rfl ⟨by rw [hR2.out]; rfl, below_setRow hb.out (Nat.le_refl _) _⟩
end Go.Proofs.Ytboccjdliklifaa
