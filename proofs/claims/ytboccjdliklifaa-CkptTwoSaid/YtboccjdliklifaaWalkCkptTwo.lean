import Derived.Test.YtboccjdliklifaaCkN
import Derived.Test.YtboccjdliklifaaPlainTwo
import Derived.Test.YtboccjdliklifaaOpenK
namespace Go.Proofs.Ytboccjdliklifaa
open Go.RowKit
theorem Rd.farB {w : World} {A : Option Addr} {bs : List UInt8} {g : Nat} {t : TypeId} {cs : Array Value} (h : Rd w A (bs.map u8v)) (hB : Blk w g t cs) (hcs : ∀ (i : Nat) (v : Value), cs[i]? = some v → ∀ n : Int, v ≠ Value.int .u8 n) (i : Nat) (v : Value) : Rd (w.setCell ⟨g, i, none⟩ v) A (bs.map u8v) := by
  rcases h with h | ⟨b, o, hA, hc⟩
  · exact .inl h
  · refine .inr ⟨b, o, hA, fun j u hu => ?_⟩
    have h1 := hc j u hu
    by_cases hb : b = g
    · subst hb
      rw [hB.cell] at h1
      rw [List.getElem?_map] at hu
      cases hx : bs[j]? with
      | none => rw [hx] at hu; cases hu
      | some x =>
        rw [hx] at hu
        simp only [Option.map_some, Option.some.injEq] at hu
        exact (hcs _ _ h1 _ hu.symm).elim
    · rw [← h1]
      have h2 := Below.heap_setCell w ⟨g, i, none⟩ v b (by simpa using hb)
      simp only [World.cell?, h2]
set_option maxRecDepth 100000 in
set_option maxHeartbeats 8000000 in
theorem walk_CkptTwo (c0 : Ck) (a1 : Int) (w : World) (h0 : CkIn c0) (h1 : (Lit.int .u8 a1).wf = true) :
    Calls Try.prog 6 #[.agg (ckC c0).toArray, .int .u8 a1] w fun e w' => e = .returned (.bool true) ∧ Below w.heap.size w w' := by
  have hr : 0 ≤ a1 ∧ a1 ≤ 255 := by simp [Lit.wf, IntKind.min, IntKind.max, IntKind.bits, IntKind.signed] at h1; omega
  clear h1
  obtain ⟨m, rfl⟩ := Int.eq_ofNat_of_zero_le hr.1
  obtain ⟨_, _, _, c4, cs, c8⟩ := h0
  have ZC := hide (ck_size c4 c8)
  have hz := ck_zero
  have c9 : ∀ (w2 : World), Blk (w2.alloc (.cells (ckC ck0).toArray 28)) w2.heap.size 28 (ckC ck0).toArray := fun w2 => Blk.new w2 _ _
  obtain ⟨zs, Hz, hmk⟩ := run_mk (P := Try.prog) Try.el_u8 .i64 .i64 128 128 128 128 rfl rfl (by decide) (by decide) (by decide)
  have hzr : ∀ {w : World} {g : Nat}, Blk w g 5 zs → Rd w (some ⟨g, 0, none⟩) (zerosK.map u8v) := fun h => by have := h.rd; rw [made_one Hz.out] at this; exact this
  have B2 := hide ((Blk.new w 28 (ckC c0).toArray).alloc (.cells #[.slice none 0 0, .slice none 0 0] 47))
  have B5 := hide (Blk.new_ (w.alloc (.cells (ckC c0).toArray 28)) 47 #[.slice none 0 0, .slice none 0 0] (w.heap.size + 1) (by simp))
  have hb := hide (box2 (w := w) (o := .cells (ckC c0).toArray 28) (o2 := .cells #[.slice none 0 0, .slice none 0 0] 47))
  have awk := hide awake_any
  go_enter Try.func6, Try.ntmps6
  go_upto_region 2 with fail
  generalize ((w.alloc _).alloc _) = W at B2 B5 hb ⊢
  go_cut [15, 16] (fun v v' wx => ∃ A0 A1 : Option Addr, v = .slice A0 128 128 ∧ v' = .slice A1 128 128 ∧ Blk wx (w.heap.size + 1) 47 #[v, v'] ∧ Rd wx A0 (zerosK.map u8v) ∧ Rd wx A1 (zerosK.map u8v) ∧ Blk wx w.heap.size 28 (ckC c0).toArray ∧ Below w.heap.size w wx)
  case first =>
    have n5 : w.heap.size + 1 < W.heap.size := B5.out.lt
    have BA := B5.out
    have k0 := BA.cell_ 0 _ rfl; have k1 := BA.cell_ 1 _ rfl; have f0 := BA.frozen 0; have f1 := BA.frozen 1
    replace BA := hide BA
    have BC := (B5.out.alloc (.cells zs 5))
    have k0' := BC.cell_ 0 _ rfl; have k1' := BC.cell_ 1 _ rfl; have f0' := BC.frozen 0; have f1' := BC.frozen 1
    replace BC := hide BC
    have BB := (B5.out.alloc (.cells zs 5)).alloc (.cells zs 5)
    have k0'' := BB.cell_ 0 _ rfl; have k1'' := BB.cell_ 1 _ rfl; have f0'' := BB.frozen 0; have f1'' := BB.frozen 1
    replace BB := hide BB
    have h00 : ∀ v, (W.setCell ⟨w.heap.size + 1, 0, none⟩ v).cell? ⟨w.heap.size + 1, 1, none⟩ = some (.slice none 0 0) := fun v => ((B5.out.put 0 v)).cell_ 1 _ rfl
    have g00 : ∀ v, (W.setCell ⟨w.heap.size + 1, 0, none⟩ v).frozen? ⟨w.heap.size + 1, 1, none⟩ = false := fun v => ((B5.out.put 0 v)).frozen 1
    have h01 : ∀ v, ((W.setCell ⟨w.heap.size + 1, 0, none⟩ v).alloc (.cells zs 5)).cell? ⟨w.heap.size + 1, 1, none⟩ = some (.slice none 0 0) := fun v => (((B5.out.put 0 v).alloc (.cells zs 5))).cell_ 1 _ rfl
    have g01 : ∀ v, ((W.setCell ⟨w.heap.size + 1, 0, none⟩ v).alloc (.cells zs 5)).frozen? ⟨w.heap.size + 1, 1, none⟩ = false := fun v => (((B5.out.put 0 v).alloc (.cells zs 5))).frozen 1
    have h02 : ∀ v, (((W.setCell ⟨w.heap.size + 1, 0, none⟩ v).alloc (.cells zs 5)).alloc (.cells zs 5)).cell? ⟨w.heap.size + 1, 1, none⟩ = some (.slice none 0 0) := fun v => ((((B5.out.put 0 v).alloc (.cells zs 5)).alloc (.cells zs 5))).cell_ 1 _ rfl
    have g02 : ∀ v, (((W.setCell ⟨w.heap.size + 1, 0, none⟩ v).alloc (.cells zs 5)).alloc (.cells zs 5)).frozen? ⟨w.heap.size + 1, 1, none⟩ = false := fun v => ((((B5.out.put 0 v).alloc (.cells zs 5)).alloc (.cells zs 5))).frozen 1
    have h10 : ∀ v, (W.setCell ⟨w.heap.size + 1, 1, none⟩ v).cell? ⟨w.heap.size + 1, 0, none⟩ = some (.slice none 0 0) := fun v => ((B5.out.put 1 v)).cell_ 0 _ rfl
    have g10 : ∀ v, (W.setCell ⟨w.heap.size + 1, 1, none⟩ v).frozen? ⟨w.heap.size + 1, 0, none⟩ = false := fun v => ((B5.out.put 1 v)).frozen 0
    have h11 : ∀ v, ((W.setCell ⟨w.heap.size + 1, 1, none⟩ v).alloc (.cells zs 5)).cell? ⟨w.heap.size + 1, 0, none⟩ = some (.slice none 0 0) := fun v => (((B5.out.put 1 v).alloc (.cells zs 5))).cell_ 0 _ rfl
    have g11 : ∀ v, ((W.setCell ⟨w.heap.size + 1, 1, none⟩ v).alloc (.cells zs 5)).frozen? ⟨w.heap.size + 1, 0, none⟩ = false := fun v => (((B5.out.put 1 v).alloc (.cells zs 5))).frozen 0
    have h12 : ∀ v, (((W.setCell ⟨w.heap.size + 1, 1, none⟩ v).alloc (.cells zs 5)).alloc (.cells zs 5)).cell? ⟨w.heap.size + 1, 0, none⟩ = some (.slice none 0 0) := fun v => ((((B5.out.put 1 v).alloc (.cells zs 5)).alloc (.cells zs 5))).cell_ 0 _ rfl
    have g12 : ∀ v, (((W.setCell ⟨w.heap.size + 1, 1, none⟩ v).alloc (.cells zs 5)).alloc (.cells zs 5)).frozen? ⟨w.heap.size + 1, 0, none⟩ = false := fun v => ((((B5.out.put 1 v).alloc (.cells zs 5)).alloc (.cells zs 5))).frozen 0
    go_region
    all_goals clear k0 k1 f0 f1 k0' k1' f0' f1' k0'' k1'' f0'' f1'' h00 h01 h02 h10 h11 h12 g00 g01 g02 g10 g11 g12
    · go_wp2_with fail
      go_meet
      refine ⟨_, _, rfl, rfl, ((((B5.out.alloc _).alloc _).put 0 _).put 1 _).drew, hzr ((((Blk.new W _ _).alloc _).far (by simp; omega) _).far (by simp; omega) _).drew, hzr (((Blk.new_ (W.alloc _) _ _ (W.heap.size + 1) (by simp)).far (by simp; omega) _).far (by simp; omega) _).drew, ((((B2.out.alloc _).alloc _).far (by simp) _).far (by simp) _).drew, ?_⟩
      exact (((nextB hb.out box2).setCell (by simp) _).setCell (by simp) _).drew
    · go_wp2_with fail
      go_meet
      refine ⟨_, _, rfl, rfl, ((((B5.out.put 0 _).alloc _).alloc _).put 1 _).drew, hzr (((Blk.new_ (W.setCell _ _) _ _ W.heap.size (by simp)).alloc _).far (by simp; omega) _).drew, hzr (((Blk.new_ ((W.setCell _ _).alloc _) _ _ (W.heap.size + 1) (by simp)).far (by simp; omega) _)).drew, ((((B2.out.far (by simp) _).alloc _).alloc _).far (by simp) _).drew, ?_⟩
      exact (((((hb.out.setCell (by simp) _).alloc (by simp; omega) _).alloc (by simp; omega) _).setCell (by simp) _)).drew
    · go_wp2_with fail
      go_meet
      refine ⟨_, _, rfl, rfl, ((((B5.out.alloc _).alloc _).put 0 _).put 1 _).drew, hzr (((Blk.new_ (W.alloc _) _ _ (W.heap.size + 1) (by simp)).far (by simp; omega) _).far (by simp; omega) _).drew, hzr ((((Blk.new W _ _).alloc _).far (by simp; omega) _).far (by simp; omega) _).drew, ((((B2.out.alloc _).alloc _).far (by simp) _).far (by simp) _).drew, ?_⟩
      exact (((nextB hb.out box2).setCell (by simp) _).setCell (by simp) _).drew
  case rest =>
    clear B2 B5 hb
    obtain ⟨A0, A1, rfl, rfl, B5, R0, R1, B2, hb⟩ := hcut
    replace B5 := hide B5; replace R0 := hide R0; replace R1 := hide R1; replace B2 := hide B2; replace hb := hide hb
    have k0 := B2.out.cell_ 0 (.int .i64 c0.seq) (by simp [ckC])
    have f0 := B2.out.frozen 0
    have hm6 : (m : Int) % 6 < 6 := by omega
    go_upto_region 4 with fail
    obtain ⟨bad, hbad⟩ : ∃ b, decide (c0.seq < 1 ∨ 140737488355328 < c0.seq) = b := ⟨_, rfl⟩
    go_cut [30] (fun v wx => v = .bool bad ∧ wc = wx)
    case first =>
      rcases (show c0.seq < 1 ∨ (¬ c0.seq < 1 ∧ 140737488355328 < c0.seq) ∨ (¬ c0.seq < 1 ∧ ¬ 140737488355328 < c0.seq) by omega) with d1 | ⟨d1, d2⟩ | ⟨d1, d2⟩
      all_goals
        go_wp2_with fail
        go_meet
        exact ⟨by rw [← hbad]; simp [d1] <;> omega, rfl⟩
    case rest =>
    obtain ⟨rfl, rfl⟩ := hcut
    obtain ⟨N, hN⟩ : ∃ N : Nat, (1 + (m : Int) % 6) = N := ⟨1 + m % 6, by omega⟩
    have hN1 : 1 ≤ N ∧ N ≤ 6 := by omega
    rw [hN]
    obtain ⟨c1, hc1⟩ : ∃ c : Ck, c = { c0 with seq := if bad then 1 else c0.seq } := ⟨_, rfl⟩
    have ckU : ∀ (c : Ck), c.map.length = 4 → c.used.length = 8 → ∀ (i : Nat) (v : Value), (ckC c).toArray[i]? = some v → ∀ n : Int, v ≠ Value.int .u8 n := by
      intro c _ _ i v hv n e
      subst e
      have hm : Value.int .u8 n ∈ ckC c := List.mem_of_getElem? (by simpa using hv)
      unfold ckC at hm
      simp only [List.mem_append, List.mem_cons, List.not_mem_nil, or_false, List.mem_flatMap, ptrC] at hm
      rcases hm with (h | h | h) | ⟨p, _, h | h⟩ | ⟨n, _, h⟩ <;> cases h
    replace ckU := hide ckU
    go_upto_if 30 with fail
    go_cut [31] (fun v wx => Blk wx (w.heap.size + 1) 47 #[.slice A0 128 128, .slice A1 128 128] ∧ Rd wx A0 (zerosK.map u8v) ∧ Rd wx A1 (zerosK.map u8v) ∧ Blk wx w.heap.size 28 (ckC c1).toArray ∧ Below w.heap.size w wx)
    case first =>
      cases bad
      · go_wp2_with fail
        go_meet
        have e : c1 = c0 := by rw [hc1]; rfl
        rw [e]
        exact ⟨B5.out, R0.out, R1.out, B2.out, hb.out⟩
      · go_wp2_with fail
        go_meet
        have e : (ckC c1) = (ckC c0).set 0 (.int .i64 1) := by rw [hc1]; rfl
        rw [e]
        have hB := B2.out.put 0 (.int .i64 1)
        rw [List.setIfInBounds_toArray] at hB
        exact ⟨B5.out.far (by simp) _, R0.out.farB B2.out (ckU.out c0 c4 c8) _ _, R1.out.farB B2.out (ckU.out c0 c4 c8) _ _, hB, hb.out.setCell (by simp) _⟩
    case rest =>
    clear B5 R0 R1 B2 hb k0 f0
    obtain ⟨B5, R0, R1, B2, hb⟩ := hcut
    have hs1 : 1 ≤ c1.seq ∧ c1.seq ≤ 140737488355328 := by
      have : c1.seq = if bad then 1 else c0.seq := by rw [hc1]
      rw [this]
      cases bad
      · simp only [decide_eq_false_iff_not] at hbad; simp only [Bool.false_eq_true, if_false]; omega
      · simp
    have d4 : c1.map.length = 4 := by rw [hc1]; exact c4
    have d8 : c1.used.length = 8 := by rw [hc1]; exact c8
    have ds : ∀ p ∈ c1.map, p.2 < 4294967296 := by rw [hc1]; exact cs
    clear hc1 hbad c4 c8 cs ZC hN hm6 hr
    have B2' : Blk wc w.heap.size 28 (ckC (stepK c1 0)).toArray := by rw [stepK_zero]; exact B2
    have hsl : ∀ (S T : Value), (∃ A n c, S = .slice A n c) → (∃ A n c, T = .slice A n c) → ∀ (i : Nat) (v : Value), (#[S, T] : Array Value)[i]? = some v → ∀ n : Int, v ≠ Value.int .u8 n := by
      rintro S T ⟨A, n, c, rfl⟩ ⟨A', n', c', rfl⟩ i v hv q e
      subst e
      match i, hv with
      | 0, hv => simp at hv
      | 1, hv => simp at hv
      | i + 2, hv => simp at hv
    replace hsl := hide hsl
    go_wp2_with fail
    go_loopw [7] (fun i wr => ∃ (j : Nat) (A0 A1 : Option Addr) (e0 e1 : Nat), j ≤ N ∧ i = .int .i64 (j : Int) ∧ (∀ k, k < j → mayCk (stepK c1 k)) ∧ 128 ≤ e0 ∧ 128 ≤ e1 ∧
      Blk wr (w.heap.size + 1) 47 #[.slice A0 128 e0, .slice A1 128 e1] ∧ Rd wr A0 ((contK c1 j 0).map u8v) ∧ Rd wr A1 ((contK c1 j 1).map u8v) ∧ Blk wr w.heap.size 28 (ckC (stepK c1 j)).toArray ∧ Below w.heap.size w wr) (fun i _ => N - (intOf i).toNat)
    case atStart => exact ⟨0, A0, A1, 128, 128, by omega, rfl, by omega, by omega, by omega, B5, R0, R1, B2', hb⟩
    case round =>
      clear B5 R0 R1 B2 B2' hb
      obtain ⟨j, A0, A1, e0, e1, hj, rfl, hmay, he0, he1, B5, R0, R1, B2, hb⟩ := hrel
      replace B5 := hide B5; replace R0 := hide R0; replace R1 := hide R1; replace B2 := hide B2; replace hb := hide hb; replace hmay := hide hmay
      by_cases hlt : j < N
      · obtain ⟨D, hD⟩ : ∃ D, stepK c1 j = D := ⟨_, rfl⟩
        have D4 : D.map.length = 4 := by rw [← hD]; exact d4
        have D8 : D.used.length = 8 := by rw [← hD]; exact d8
        have Ds : ∀ p ∈ D.map, p.2 < 4294967296 := by rw [← hD]; exact ds
        have hD1 : (D.seq = c1.seq + j) ∧ D.at_ = c1.at_ + j := by rw [← hD]; exact ⟨rfl, rfl⟩
        have hnext : stepK c1 (j + 1) = { D with seq := D.seq + 1, at_ := D.at_ + 1 } := by
          rw [← hD]
          unfold stepK
          simp only [Ck.mk.injEq, and_true, true_and]
          exact ⟨by push_cast; omega, by push_cast; omega⟩
        rw [hD] at B2
        have ZD := hide (ck_size D4 D8)
        have LD : Hid (CkLen D) := hide ⟨D4, D8⟩
        have E := fun w => enc_any D D4 D8 Ds w
        have P := fun w => place_any D D4 D8 w
        have M1 := fun w => may_any D D4 D8 w
        replace hnext := hide hnext
        by_cases hm : mayCk D
        · have he : encK D = (ckB D, 0) := if_pos hm
          have LB := ckB_len D4 D8
          rw [he] at E
          have hmay2 : ∀ k, k < j + 1 → mayCk (stepK c1 k) := fun k hk => by
            by_cases h : k < j
            · exact hmay.out k h
            · obtain rfl : k = j := by omega
              rw [hD]; exact hm
          have hlast := two_last ⟨d4, d8⟩ ds hmay2
          rw [hD] at hlast
          have hp : placeK D = D.seq % 2 := if_pos hm
          rw [hp] at P
          have hbd := hm
          replace hmay2 := hide hmay2
          obtain ⟨B, hB⟩ : ∃ B, ckB D = B := ⟨_, rfl⟩
          rw [hB] at E LB
          have E' : ∀ w, Calls Try.prog 12 #[.agg (ckC D).toArray] w fun e w' => ∃ A c, e = .returned (.tuple #[.slice A 128 c, .int .i64 0]) ∧ Rd w' A (B.map u8v) ∧ 128 ≤ c ∧ Below w.heap.size w w' := fun w => (E w).mono (by
            rintro e w' ⟨A, c, rfl, hr, hc, hb⟩
            simp only [LB] at hc ⊢
            exact ⟨A, c, rfl, hr, hc, hb⟩)
          replace E' := hide E'
          clear E he hm M1 hp
          have h2 : D.seq % 2 = 0 ∨ D.seq % 2 = 1 := by omega
          rcases h2 with h2 | h2
          · rw [h2] at P
            have hc0 : contK c1 (j + 1) 0 = B := by rw [← hB, ← hD]; exact contK_new (by rw [hD]; exact h2)
            have hc1 : contK c1 (j + 1) 1 = contK c1 j 1 := contK_old (by rw [hD]; omega) (.inr rfl)
            replace P := hide P
            replace hc0 := hide hc0; replace hc1 := hide hc1; replace hlast := hide hlast
            have k50 := B5.out.cell_ 0 _ rfl
            have hb1 : D.seq ≤ 281474976710655 ∧ D.at_ ≤ 2147483647 ∧ 1 ≤ D.seq ∧ 1 ≤ D.at_ := ⟨hbd.1.2, hbd.2.2.1.2, hbd.1.1, hbd.2.2.1.1⟩
            clear hbd h2
            go_upto_region 16 with (first
              | ((with_reducible refine load_ck (.tmp 2) rfl ?_ _ ?_ D B2.out ZD.out ?_); (next => rfl); (next => rfl))
              | (go_at_call 12; (with_reducible refine (unhide E' _).mono ?_); rintro e w5 ⟨A3, c3, rfl, R3, hc3, hb3⟩; replace R3 := hide R3; replace R0 := hide (R0.out.on (hb3)); replace R1 := hide (R1.out.on (hb3)); replace B5 := hide (B5.out.below hb3 B5.out.lt); replace B2 := hide (B2.out.below hb3 B2.out.lt); replace hb := hide (nextB hb.out hb3); clear hb3)
              | (go_at_call 13; (with_reducible refine (unhide P _).mono ?_); rintro e w8 ⟨rfl, hb3⟩; replace R3 := hide (R3.out.on hb3); replace R0 := hide (R0.out.on (hb3)); replace R1 := hide (R1.out.on (hb3)); replace B5 := hide (B5.out.below hb3 B5.out.lt); replace B2 := hide (B2.out.below hb3 B2.out.lt); replace hb := hide (nextB hb.out hb3); clear hb3 k50; have k50 := B5.out.cell_ 0 _ rfl; have k51 := B5.out.cell_ 1 _ rfl; have f50 := B5.out.frozen 0; have f51 := B5.out.frozen 1))
            replace R3 := hide (R3.out.farB B5.out (hsl.out _ _ ⟨_, _, _, rfl⟩ ⟨_, _, _, rfl⟩) 0 (.slice A3 128 c3))
            replace R1 := hide (R1.out.farB B5.out (hsl.out _ _ ⟨_, _, _, rfl⟩ ⟨_, _, _, rfl⟩) 0 (.slice A3 128 c3))
            replace B2 := hide (B2.out.far (by simp) (.slice A3 128 c3) (p := ⟨w.heap.size + 1, 0, none⟩))
            replace hb := hide (hb.out.setCell (p := ⟨w.heap.size + 1, 0, none⟩) (by simp) (.slice A3 128 c3))
            have B5' : Blk (w8.setCell ⟨w.heap.size + 1, 0, none⟩ (.slice A3 128 c3)) (w.heap.size + 1) 47 #[.slice A3 128 c3, .slice A1 128 e1] := B5.out.put 0 (.slice A3 128 c3)
            clear B5 k50 k51 f50 f51 R0
            generalize (w8.setCell _ _) = W at R3 R1 B2 hb B5' ⊢
            have B5 := hide B5'
            have Q0 : Rd W A3 ((contK c1 (j + 1) 0).map u8v) := by rw [hc0.out]; exact R3.out
            have Q1 : Rd W A1 ((contK c1 (j + 1) 1).map u8v) := by rw [hc1.out]; exact R1.out
            have CH := choose_any A3 A1 128 c3 128 e1 _ _ W Q0 (contK_len ⟨d4, d8⟩ _ _) (by assumption) Q1 (contK_len ⟨d4, d8⟩ _ _) (by assumption)
            rw [hlast.out] at CH
            replace CH := hide CH; replace Q0 := hide Q0; replace Q1 := hide Q1
            have k50 := B5'.cell_ 0 _ rfl; have k51 := B5'.cell_ 1 _ rfl
            clear B5' R3 R1
            go_upto_region 19 with (first
              | (go_at_call 16; (with_reducible refine (unhide CH).mono ?_); rintro e w9 ⟨rfl, hb3⟩; replace Q0 := hide (Q0.out.on hb3); replace Q1 := hide (Q1.out.on hb3); replace B5 := hide (B5.out.below hb3 B5.out.lt); replace B2 := hide (B2.out.below hb3 B2.out.lt); replace hb := hide (nextB hb.out hb3); clear hb3 CH k50 k51; have B11 := hide (c9 w9))
              | ((with_reducible refine store_ck (.tmp 11) (.tmp 67) rfl rfl _ ?_ ck0 D ?_ B11.out ck0_size ZD.out ?_); (next => rfl); (next => rfl); replace B11 := hide (B11.out.row (ckC D).toArray); replace B2 := hide ((B2.out.alloc (.cells (ckC ck0).toArray 28)).rowFar (Nat.ne_of_lt B2.out.lt) (ckC D).toArray); replace B5 := hide ((B5.out.alloc (.cells (ckC ck0).toArray 28)).rowFar (Nat.ne_of_lt B5.out.lt) (ckC D).toArray); replace Q0 := hide (Q0.out.on (below_setRow (box1 (o := .cells (ckC ck0).toArray 28)) (Nat.le_refl _) (ckC D).toArray)); replace Q1 := hide (Q1.out.on (below_setRow (box1 (o := .cells (ckC ck0).toArray 28)) (Nat.le_refl _) (ckC D).toArray)); replace hb := hide (nextB hb.out (below_setRow (box1 (o := .cells (ckC ck0).toArray 28)) (Nat.le_refl _) (ckC D).toArray)); generalize ((w9.alloc (.cells (ckC ck0).toArray 28)).setRow w9.heap.size (ckC D).toArray) = W1 at B11 B2 B5 Q0 Q1 hb ⊢)
              | ((with_reducible refine load_ck (.tmp 11) rfl ?_ _ ?_ D B11.out ZD.out ?_); (next => rfl); (next => rfl))
              | ((with_reducible refine load_ck (.tmp 2) rfl ?_ _ ?_ D B2.out ZD.out ?_); (next => rfl); (next => rfl))
              | ((with_reducible refine neq_ck (.tmp 69) (.tmp 70) _ rfl ?_ D D true ?_ ?_ LD.out LD.out (decide_eq_true rfl) ?_); (next => rfl); (next => rfl); (next => rfl)))
            have k0 := B2.out.cell_ 0 (.int .i64 D.seq) rfl
            have k2 := B2.out.cell_ 2 (.int .i64 D.at_) rfl
            have f0 := B2.out.frozen 0; have f2 := B2.out.frozen 2
            have p1 : IntKind.i64.wrap (D.seq + 1) = D.seq + 1 := IntWalk.i64_in _ (by omega)
            have p2 : IntKind.i64.wrap (D.at_ + 1) = D.at_ + 1 := IntWalk.i64_in _ (by omega)
            clear hD1 B11
            go_wp2_with fail
            go_roundw
            case rel =>
              have Ba : Blk (W1.setCell ⟨w.heap.size, 0, none⟩ (.int .i64 (D.seq + 1))) w.heap.size 28 (ckC { D with seq := D.seq + 1 }).toArray := B2.out.put 0 (.int .i64 (D.seq + 1))
              have Bb := Ba.put 2 (.int .i64 (D.at_ + 1))
              have hu := ckU.out D D4 D8
              have hu2 := ckU.out { D with seq := D.seq + 1 } D4 D8
              refine ⟨j + 1, A3, A1, c3, e1, by omega, by go_num, hmay2.out, by assumption, by assumption, (B5.out.far (by simp) _).far (by simp) _, (Q0.out.farB B2.out hu _ _).farB Ba hu2 _ _, (Q1.out.farB B2.out hu _ _).farB Ba hu2 _ _, ?_, (hb.out.setCell (by simp) _).setCell (by simp) _⟩
              rw [hnext.out]; exact Bb
            case measure => simp [intOf]; omega
          · rw [h2] at P
            have hc0 : contK c1 (j + 1) 0 = contK c1 j 0 := contK_old (by rw [hD]; omega) (.inl rfl)
            have hc1 : contK c1 (j + 1) 1 = B := by rw [← hB, ← hD]; exact contK_new (by rw [hD]; exact h2)
            replace P := hide P
            replace hc0 := hide hc0; replace hc1 := hide hc1; replace hlast := hide hlast
            have k50 := B5.out.cell_ 0 _ rfl
            have hb1 : D.seq ≤ 281474976710655 ∧ D.at_ ≤ 2147483647 ∧ 1 ≤ D.seq ∧ 1 ≤ D.at_ := ⟨hbd.1.2, hbd.2.2.1.2, hbd.1.1, hbd.2.2.1.1⟩
            clear hbd h2
            go_upto_region 16 with (first
              | ((with_reducible refine load_ck (.tmp 2) rfl ?_ _ ?_ D B2.out ZD.out ?_); (next => rfl); (next => rfl))
              | (go_at_call 12; (with_reducible refine (unhide E' _).mono ?_); rintro e w5 ⟨A3, c3, rfl, R3, hc3, hb3⟩; replace R3 := hide R3; replace R0 := hide (R0.out.on (hb3)); replace R1 := hide (R1.out.on (hb3)); replace B5 := hide (B5.out.below hb3 B5.out.lt); replace B2 := hide (B2.out.below hb3 B2.out.lt); replace hb := hide (nextB hb.out hb3); clear hb3)
              | (go_at_call 13; (with_reducible refine (unhide P _).mono ?_); rintro e w8 ⟨rfl, hb3⟩; replace R3 := hide (R3.out.on hb3); replace R0 := hide (R0.out.on (hb3)); replace R1 := hide (R1.out.on (hb3)); replace B5 := hide (B5.out.below hb3 B5.out.lt); replace B2 := hide (B2.out.below hb3 B2.out.lt); replace hb := hide (nextB hb.out hb3); clear hb3 k50; have k50 := B5.out.cell_ 0 _ rfl; have k51 := B5.out.cell_ 1 _ rfl; have f50 := B5.out.frozen 0; have f51 := B5.out.frozen 1))
            replace R3 := hide (R3.out.farB B5.out (hsl.out _ _ ⟨_, _, _, rfl⟩ ⟨_, _, _, rfl⟩) 1 (.slice A3 128 c3))
            replace R0 := hide (R0.out.farB B5.out (hsl.out _ _ ⟨_, _, _, rfl⟩ ⟨_, _, _, rfl⟩) 1 (.slice A3 128 c3))
            replace B2 := hide (B2.out.far (by simp) (.slice A3 128 c3) (p := ⟨w.heap.size + 1, 1, none⟩))
            replace hb := hide (hb.out.setCell (p := ⟨w.heap.size + 1, 1, none⟩) (by simp) (.slice A3 128 c3))
            have B5' : Blk (w8.setCell ⟨w.heap.size + 1, 1, none⟩ (.slice A3 128 c3)) (w.heap.size + 1) 47 #[.slice A0 128 e0, .slice A3 128 c3] := B5.out.put 1 (.slice A3 128 c3)
            clear B5 k50 k51 f50 f51 R1
            generalize (w8.setCell _ _) = W at R3 R0 B2 hb B5' ⊢
            have B5 := hide B5'
            have Q0 : Rd W A0 ((contK c1 (j + 1) 0).map u8v) := by rw [hc0.out]; exact R0.out
            have Q1 : Rd W A3 ((contK c1 (j + 1) 1).map u8v) := by rw [hc1.out]; exact R3.out
            have CH := choose_any A0 A3 128 e0 128 c3 _ _ W Q0 (contK_len ⟨d4, d8⟩ _ _) (by assumption) Q1 (contK_len ⟨d4, d8⟩ _ _) (by assumption)
            rw [hlast.out] at CH
            replace CH := hide CH; replace Q0 := hide Q0; replace Q1 := hide Q1
            have k50 := B5'.cell_ 0 _ rfl; have k51 := B5'.cell_ 1 _ rfl
            clear B5' R3 R0
            go_upto_region 19 with (first
              | (go_at_call 16; (with_reducible refine (unhide CH).mono ?_); rintro e w9 ⟨rfl, hb3⟩; replace Q0 := hide (Q0.out.on hb3); replace Q1 := hide (Q1.out.on hb3); replace B5 := hide (B5.out.below hb3 B5.out.lt); replace B2 := hide (B2.out.below hb3 B2.out.lt); replace hb := hide (nextB hb.out hb3); clear hb3 CH k50 k51; have B11 := hide (c9 w9))
              | ((with_reducible refine store_ck (.tmp 11) (.tmp 67) rfl rfl _ ?_ ck0 D ?_ B11.out ck0_size ZD.out ?_); (next => rfl); (next => rfl); replace B11 := hide (B11.out.row (ckC D).toArray); replace B2 := hide ((B2.out.alloc (.cells (ckC ck0).toArray 28)).rowFar (Nat.ne_of_lt B2.out.lt) (ckC D).toArray); replace B5 := hide ((B5.out.alloc (.cells (ckC ck0).toArray 28)).rowFar (Nat.ne_of_lt B5.out.lt) (ckC D).toArray); replace Q0 := hide (Q0.out.on (below_setRow (box1 (o := .cells (ckC ck0).toArray 28)) (Nat.le_refl _) (ckC D).toArray)); replace Q1 := hide (Q1.out.on (below_setRow (box1 (o := .cells (ckC ck0).toArray 28)) (Nat.le_refl _) (ckC D).toArray)); replace hb := hide (nextB hb.out (below_setRow (box1 (o := .cells (ckC ck0).toArray 28)) (Nat.le_refl _) (ckC D).toArray)); generalize ((w9.alloc (.cells (ckC ck0).toArray 28)).setRow w9.heap.size (ckC D).toArray) = W1 at B11 B2 B5 Q0 Q1 hb ⊢)
              | ((with_reducible refine load_ck (.tmp 11) rfl ?_ _ ?_ D B11.out ZD.out ?_); (next => rfl); (next => rfl))
              | ((with_reducible refine load_ck (.tmp 2) rfl ?_ _ ?_ D B2.out ZD.out ?_); (next => rfl); (next => rfl))
              | ((with_reducible refine neq_ck (.tmp 69) (.tmp 70) _ rfl ?_ D D true ?_ ?_ LD.out LD.out (decide_eq_true rfl) ?_); (next => rfl); (next => rfl); (next => rfl)))
            have k0 := B2.out.cell_ 0 (.int .i64 D.seq) rfl
            have k2 := B2.out.cell_ 2 (.int .i64 D.at_) rfl
            have f0 := B2.out.frozen 0; have f2 := B2.out.frozen 2
            have p1 : IntKind.i64.wrap (D.seq + 1) = D.seq + 1 := IntWalk.i64_in _ (by omega)
            have p2 : IntKind.i64.wrap (D.at_ + 1) = D.at_ + 1 := IntWalk.i64_in _ (by omega)
            clear hD1 B11
            go_wp2_with fail
            go_roundw
            case rel =>
              have Ba : Blk (W1.setCell ⟨w.heap.size, 0, none⟩ (.int .i64 (D.seq + 1))) w.heap.size 28 (ckC { D with seq := D.seq + 1 }).toArray := B2.out.put 0 (.int .i64 (D.seq + 1))
              have Bb := Ba.put 2 (.int .i64 (D.at_ + 1))
              have hu := ckU.out D D4 D8
              have hu2 := ckU.out { D with seq := D.seq + 1 } D4 D8
              refine ⟨j + 1, A0, A3, e0, c3, by omega, by go_num, hmay2.out, by assumption, by assumption, (B5.out.far (by simp) _).far (by simp) _, (Q0.out.farB B2.out hu _ _).farB Ba hu2 _ _, (Q1.out.farB B2.out hu _ _).farB Ba hu2 _ _, ?_, (hb.out.setCell (by simp) _).setCell (by simp) _⟩
              rw [hnext.out]; exact Bb
            case measure => simp [intOf]; omega
        · have he : encK D = ([], 1) := if_neg hm
          rw [he] at E
          rw [decide_eq_false hm] at M1
          replace E := hide E; replace M1 := hide M1
          clear he hm P
          go_wp2_with (first
            | ((with_reducible refine load_ck (.tmp 2) rfl ?_ _ ?_ D B2.out ZD.out ?_); (next => rfl); (next => rfl))
            | (go_at_call 12; (with_reducible refine (unhide E _).mono ?_); rintro e w5 ⟨A3, c3, rfl, _, _, hb3⟩; replace B2 := hide (B2.out.below hb3 B2.out.lt); replace hb := hide (nextB hb.out hb3); clear hb3)
            | (go_at_call 10; (with_reducible refine (unhide M1 _).mono ?_); rintro e w6 ⟨rfl, hb3⟩; replace B2 := hide (B2.out.below hb3 B2.out.lt); replace hb := hide (nextB hb.out hb3); clear hb3)
            | (go_at_call 14; (with_reducible refine (unhide awk _).mono ?_); rintro e w8 ⟨rfl, hb5⟩))
          go_ret
          exact ⟨rfl, nextB hb.out hb5⟩
      · obtain rfl : N = j := by omega
        obtain ⟨T, hT⟩ : ∃ T, stepK c1 N = T := ⟨_, rfl⟩
        rw [hT] at B2
        have hTs : c1.seq + N = T.seq := by rw [← hT]; rfl
        have hTa : c1.at_ + N = T.at_ := by rw [← hT]; rfl
        have T4 : T.map.length = 4 := by rw [← hT]; exact d4
        have T8 : T.used.length = 8 := by rw [← hT]; exact d8
        obtain ⟨u, hu⟩ := Int.eq_ofNat_of_zero_le (show 0 ≤ T.seq - 1 by omega)
        have hu1 : (u : Int) ≤ 140737488355338 := by omega
        have kT : (ckC T)[0]? = some (.int .i64 ((u : Int) + 1)) := by
          have : T.seq = (u : Int) + 1 := by omega
          rw [← this]; rfl
        have k0 := B2.out.cell_ 0 _ (by simpa using kT)
        go_upto_region 21 with fail
        go_cut [87, 88] (fun v v' wx => ∃ (A0 A1 : Option Addr) (e0 e1 : Nat), 128 ≤ e0 ∧ 128 ≤ e1 ∧ Blk wx (w.heap.size + 1) 47 #[.slice A0 128 e0, .slice A1 128 e1] ∧ Rd wx A0 ((spoilt c1 N 0).map u8v) ∧ Rd wx A1 ((spoilt c1 N 1).map u8v) ∧ Blk wx w.heap.size 28 (ckC T).toArray ∧ Below w.heap.size w wx)
        case first =>
          have k50 := B5.out.cell_ 0 _ rfl; have k51 := B5.out.cell_ 1 _ rfl; have f50 := B5.out.frozen 0; have f51 := B5.out.frozen 1
          have BC := (B5.out.alloc (.cells zs 5))
          have k50' := BC.cell_ 0 _ rfl; have k51' := BC.cell_ 1 _ rfl; have f50' := BC.frozen 0; have f51' := BC.frozen 1
          have k0' := (B2.out.alloc (.cells zs 5)).cell_ 0 _ (by simpa using kT)
          replace BC := hide BC
          have n5 : w.heap.size + 1 < wr.heap.size := B5.out.lt
          rcases (show (u : Int) % 2 = 0 ∨ (u : Int) % 2 = 1 by omega) with q | q
          · have hs : spoilt c1 N 0 = zerosK := if_pos (by rw [stepK_seq]; rw [← hTs] at hu; omega)
            have hs' : spoilt c1 N 1 = contK c1 N 1 := if_neg (by rw [stepK_seq]; rw [← hTs] at hu; omega)
            go_region
            all_goals clear k50 k51 f50 f51 k50' k51' f50' f51' k0 k0'
            go_wp2_with fail
            go_meet
            exact ⟨_, A1, 128, e1, by omega, he1, ((B5.out.put 0 _).alloc _).drew, by rw [hs]; exact hzr (Blk.new_ (wr.setCell _ _) _ _ wr.heap.size (by simp)).drew, by rw [hs']; exact ((R1.out.farB B5.out (hsl.out _ _ ⟨_, _, _, rfl⟩ ⟨_, _, _, rfl⟩) 0 _).alloc _).drew, ((B2.out.far (by simp) _).alloc _).drew, ((hb.out.setCell (by simp) _).alloc (by simp; omega) _).drew⟩
          · have hs : spoilt c1 N 1 = zerosK := if_pos (by rw [stepK_seq]; rw [← hTs] at hu; omega)
            have hs' : spoilt c1 N 0 = contK c1 N 0 := if_neg (by rw [stepK_seq]; rw [← hTs] at hu; omega)
            go_region
            all_goals clear k50 k51 f50 f51 k50' k51' f50' f51' k0 k0'
            go_wp2_with fail
            go_meet
            exact ⟨A0, _, e0, 128, he0, by omega, ((B5.out.put 1 _).alloc _).drew, by rw [hs']; exact ((R0.out.farB B5.out (hsl.out _ _ ⟨_, _, _, rfl⟩ ⟨_, _, _, rfl⟩) 1 _).alloc _).drew, by rw [hs]; exact hzr (Blk.new_ (wr.setCell _ _) _ _ wr.heap.size (by simp)).drew, ((B2.out.far (by simp) _).alloc _).drew, ((hb.out.setCell (by simp) _).alloc (by simp; omega) _).drew⟩
        case rest =>
          clear B5 R0 R1 B2 hb k0 he0 he1
          obtain ⟨A0, A1, e0, e1, he0, he1, B5, R0, R1, B2, hb⟩ := hcut
          have CH := choose_any A0 A1 128 e0 128 e1 _ _ wc R0 (spoilt_len ⟨d4, d8⟩ _ _) he0 R1 (spoilt_len ⟨d4, d8⟩ _ _) he1
          have k50 := B5.cell_ 0 _ rfl; have k51 := B5.cell_ 1 _ rfl
          clear B5 R0 R1 he0 he1 hsl
          replace B2 := hide B2; replace hb := hide hb
          have h1 : N = 1 ∨ ∃ i, N = i + 2 := by
            rcases (show N = 1 ∨ 2 ≤ N by omega) with h | h
            · exact .inl h
            · exact .inr ⟨N - 2, by omega⟩
          rcases h1 with rfl | ⟨i, rfl⟩
          · rw [two_spoilt_one] at CH
            replace CH := hide CH
            go_wp2_with (first
              | (go_at_call 16; (with_reducible refine (unhide CH).mono ?_); rintro e w9 ⟨rfl, hb3⟩; replace hb := hide (nextB hb.out hb3); clear hb3 CH; have B13 := hide (c9 w9))
              | ((with_reducible refine store_ck (.tmp 13) (.tmp 96) rfl rfl _ ?_ ck0 ck0 ?_ B13.out ck0_size ck0_size ?_); (next => rfl); (next => rfl); replace hb := hide (nextB hb.out (below_setRow (box1 (o := .cells (ckC ck0).toArray 28)) (Nat.le_refl _) (ckC ck0).toArray)))
              | (go_at_call 14; (with_reducible refine (unhide awk _).mono ?_); rintro e w8 ⟨rfl, hb5⟩))
            go_ret
            exact ⟨rfl, nextB hb.out hb5⟩
          · rw [two_spoilt ⟨d4, d8⟩ ds hmay.out] at CH
            replace CH := hide CH
            obtain ⟨M, hM⟩ : ∃ M, stepK c1 i = M := ⟨_, rfl⟩
            have hm0 := hmay.out i (by omega)
            rw [hM] at CH hm0
            have ZM := hide (ck_size (c := M) (by rw [← hM]; exact d4) (by rw [← hM]; exact d8))
            have m1 : M.seq = T.seq - 2 := by rw [← hM, ← hTs]; show c1.seq + (i : Int) = _; push_cast; omega
            have m2 : M.at_ = T.at_ - 2 := by rw [← hM, ← hTa]; show c1.at_ + (i : Int) = _; push_cast; omega
            have m3 := hm0.2.2.1
            have p1 : IntKind.i64.wrap (T.seq - 2) = T.seq - 2 := IntWalk.i64_in _ (by omega)
            have p2 : IntKind.i64.wrap (T.at_ - 2) = T.at_ - 2 := IntWalk.i64_in _ (by omega)
            have hn1 : (((i + 2 : Nat) : Int) == 1) = false := by simp; omega
            have g1 : (ckC M)[0]? = some (.int .i64 (T.seq - 2)) := by rw [← m1]; rfl
            have g2 : (ckC M)[2]? = some (.int .i64 (T.at_ - 2)) := by rw [← m2]; rfl
            replace g1 := hide g1; replace g2 := hide g2
            clear kT hM hm0 m1 m2 m3 hu hu1 hTs hTa hT hs1 d4 d8 ds hj hlt hN1
            go_upto_region 25 with (first
              | (go_at_call 16; (with_reducible refine (unhide CH).mono ?_); rintro e w9 ⟨rfl, hb3⟩; replace hb := hide (nextB hb.out hb3); replace B2 := hide (B2.out.below hb3 B2.out.lt); clear hb3 CH; have B13 := hide (c9 w9))
              | ((with_reducible refine store_ck (.tmp 13) (.tmp 96) rfl rfl _ ?_ ck0 M ?_ B13.out ck0_size ZM.out ?_); (next => rfl); (next => rfl); replace B13 := hide (B13.out.row (ckC M).toArray); replace B2 := hide ((B2.out.alloc (.cells (ckC ck0).toArray 28)).rowFar (Nat.ne_of_lt B2.out.lt) (ckC M).toArray); replace hb := hide (nextB hb.out (below_setRow (box1 (o := .cells (ckC ck0).toArray 28)) (Nat.le_refl _) (ckC M).toArray)); generalize ((w9.alloc (.cells (ckC ck0).toArray 28)).setRow w9.heap.size (ckC M).toArray) = W9 at B13 B2 hb ⊢))
            have k13 := B13.out.cell_ 0 _ (by simpa using g1.out)
            have k132 := B13.out.cell_ 2 _ (by simpa using g2.out)
            have k20 := B2.out.cell_ 0 (.int .i64 T.seq) rfl
            have k22 := B2.out.cell_ 2 (.int .i64 T.at_) rfl
            go_wp2_with (first
              | (go_at_call 14; (with_reducible refine (unhide awk _).mono ?_); rintro e w8 ⟨rfl, hb5⟩))
            go_ret
            exact ⟨rfl, nextB hb.out hb5⟩
end Go.Proofs.Ytboccjdliklifaa
