/- May a checkpoint be, and its block, by the document's text. No condition. -/
import Derived.Test.YtboccjdliklifaaCkG
import Derived.Test.YtboccjdliklifaaOf
namespace Go.Proofs.Ytboccjdliklifaa
open Go.RowKit

theorem ck_map' {c : Ck} (h4 : c.map.length = 4) {k : Nat} {p : Int × Nat} (hk : c.map[k]? = some p) {w : World} {g : Nat} {t : TypeId} (hB : Blk w g t (ckC c).toArray) :
    w.cell? ⟨g, 3 + k * 2, none⟩ = some (.int .i64 p.1) ∧ w.cell? ⟨g, 3 + k * 2 + 1, none⟩ = some (.int .u32 (p.2 : Int)) :=
  ⟨hB.cell_ _ _ (by simpa using (ck_map h4 hk).1), hB.cell_ _ _ (by simpa using (ck_map h4 hk).2)⟩
set_option maxRecDepth 100000 in
set_option maxHeartbeats 4000000 in
theorem mayCkRef_any (c : Ck) (h4 : c.map.length = 4) (h8 : c.used.length = 8) (w : World) :
    Calls Try.prog 11 #[.agg (ckC c).toArray] w fun e w' => e = .returned (.bool (decide (mayCk c))) ∧ Below w.heap.size w w' := by
  have hM := hide (mayCk_iff c)
  have B0 := hide (Blk.new w 28 (ckC c).toArray)
  have hb := hide (box1 (w := w) (o := .cells (ckC c).toArray 28))
  have ZC := hide (ck_size h4 h8)
  have H4 := hide h4; have H8 := hide h8
  obtain ⟨r, hr⟩ : ∃ r, decide (mayCk c) = r := ⟨_, rfl⟩
  rw [hr]
  replace hr := hide hr
  clear h4 h8
  go_enter Try.func11, Try.ntmps11
  go_wp2_with fail
  generalize (w.alloc _) = W at B0 hb ⊢
  go_loop [3] (fun i => ∃ j : Nat, j ≤ 4 ∧ i = .int .i64 (j : Int) ∧ ∀ p ∈ c.map.take j, okP p = true) (fun i => 4 - (intOf i).toNat)
  case atStart => exact ⟨0, by omega, rfl, by simp⟩
  case round =>
    obtain ⟨j, hj, rfl, ho⟩ := hrel
    replace ho := hide ho
    by_cases hlt : j < 4
    · obtain ⟨p, hp⟩ : ∃ p, c.map[j]? = some p := ⟨_, List.getElem?_eq_getElem (by rw [H4.out]; exact hlt)⟩
      have q0 := (ck_map' H4.out hp B0.out).1
      replace hp := hide hp
      by_cases h1 : p.1 < 1
      · go_wp2_with fail
        go_ret
        refine ⟨ret_bool ?_, hb.out⟩
        rw [← hr.out]; symm; rw [decide_eq_false_iff_not, hM.out, List.all_eq_true]
        intro h; have := h.2.1 p (List.mem_of_getElem? hp.out)
        simp only [okP, decide_eq_true_eq] at this; omega
      · by_cases h2 : 2147483647 < p.1
        · go_wp2_with fail
          go_ret
          refine ⟨ret_bool ?_, hb.out⟩
          rw [← hr.out]; symm; rw [decide_eq_false_iff_not, hM.out, List.all_eq_true]
          intro h; have := h.2.1 p (List.mem_of_getElem? hp.out)
          simp only [okP, decide_eq_true_eq] at this; omega
        · go_wp2_with fail
          go_round
          case rel =>
            refine ⟨j + 1, by omega, by go_num, ?_⟩
            intro q hq
            rw [take_snoc_of hp.out, List.mem_append] at hq
            rcases hq with hq | hq
            · exact ho.out q hq
            · rw [List.mem_singleton] at hq; subst hq
              simp only [okP, decide_eq_true_eq]; omega
          case measure => simp [intOf]; omega
    · obtain rfl : j = 4 := by omega
      have ho1 : c.map.all okP = true := by
        rw [List.all_eq_true]; intro p hp
        exact ho.out p (by rw [List.take_of_length_le (by rw [H4.out]; exact Nat.le_refl _)]; exact hp)
      rw [ho1] at hM
      clear ho ho1 hj hlt
      rw [show ((4 : Nat) : Int) = 4 from rfl]
      go_wp2_with fail
      go_loop [4] (fun i => ∃ j : Nat, j ≤ 8 ∧ i = .int .i64 (j : Int) ∧ ∀ p ∈ c.used.take j, okN p = true) (fun i => 8 - (intOf i).toNat)
      case atStart => exact ⟨0, by omega, rfl, by simp⟩
      case round =>
        obtain ⟨j, hj, rfl, ho⟩ := hrel
        replace ho := hide ho
        by_cases hlt : j < 8
        · obtain ⟨p, hp⟩ : ∃ p, c.used[j]? = some p := ⟨_, List.getElem?_eq_getElem (by rw [H8.out]; exact hlt)⟩
          have q0 := B0.out.cell_ (11 + j) (.int .i64 p) (by simpa using ck_used H4.out hp)
          replace hp := hide hp
          by_cases h1 : p < 0
          · go_wp2_with fail
            go_ret
            refine ⟨ret_bool ?_, hb.out⟩
            rw [← hr.out]; symm; rw [decide_eq_false_iff_not, hM.out, List.all_eq_true]
            intro h; have := h.2.2 p (List.mem_of_getElem? hp.out)
            simp only [okN, decide_eq_true_eq] at this; omega
          · by_cases h2 : 256 < p
            · go_wp2_with fail
              go_ret
              refine ⟨ret_bool ?_, hb.out⟩
              rw [← hr.out]; symm; rw [decide_eq_false_iff_not, hM.out, List.all_eq_true]
              intro h; have := h.2.2 p (List.mem_of_getElem? hp.out)
              simp only [okN, decide_eq_true_eq] at this; omega
            · go_wp2_with fail
              go_round
              case rel =>
                refine ⟨j + 1, by omega, by go_num, ?_⟩
                intro q hq
                rw [take_snoc_of hp.out, List.mem_append] at hq
                rcases hq with hq | hq
                · exact ho.out q hq
                · rw [List.mem_singleton] at hq; subst hq
                  simp only [okN, decide_eq_true_eq]; omega
              case measure => simp [intOf]; omega
        · obtain rfl : j = 8 := by omega
          have ho1 : c.used.all okN = true := by
            rw [List.all_eq_true]; intro p hp
            exact ho.out p (by rw [List.take_of_length_le (by rw [H8.out]; exact Nat.le_refl _)]; exact hp)
          rw [ho1] at hM
          clear ho ho1 hj hlt
          have k0 := B0.out.cell_ 0 (.int .i64 c.seq) (by simp [ckC])
          have k1 := B0.out.cell_ 1 (.int .i64 c.nx) (by simp [ckC])
          have k2 := B0.out.cell_ 2 (.int .i64 c.at_) (by simp [ckC])
          have hf : ¬ ((1 ≤ c.seq ∧ c.seq ≤ 281474976710655) ∧ (1 ≤ c.nx ∧ c.nx ≤ 281474976710655) ∧ (1 ≤ c.at_ ∧ c.at_ ≤ 2147483647)) → r = false := fun hp => by rw [← hr.out]; exact decide_eq_false (fun hm => hp (hM.out.1 hm).1)
          have hj : ((1 ≤ c.seq ∧ c.seq ≤ 281474976710655) ∧ (1 ≤ c.nx ∧ c.nx ≤ 281474976710655) ∧ (1 ≤ c.at_ ∧ c.at_ ≤ 2147483647)) → r = true := fun h => by rw [← hr.out]; exact decide_eq_true (hM.out.2 ⟨h, by simp, by simp⟩)
          generalize c.seq = s at k0 hf hj
          generalize c.nx = x at k1 hf hj
          generalize c.at_ = a at k2 hf hj
          replace hj := hide hj; replace hf := hide hf
          rcases (show s < 1 ∨ (1 ≤ s ∧ 281474976710655 < s) ∨ ((1 ≤ s ∧ s ≤ 281474976710655) ∧ x < 1) ∨ ((1 ≤ s ∧ s ≤ 281474976710655) ∧ 1 ≤ x ∧ 281474976710655 < x) ∨ (((1 ≤ s ∧ s ≤ 281474976710655) ∧ 1 ≤ x ∧ x ≤ 281474976710655) ∧ a < 1) ∨ (((1 ≤ s ∧ s ≤ 281474976710655) ∧ 1 ≤ x ∧ x ≤ 281474976710655) ∧ 1 ≤ a ∧ 2147483647 < a) ∨ (((1 ≤ s ∧ s ≤ 281474976710655) ∧ 1 ≤ x ∧ x ≤ 281474976710655) ∧ 1 ≤ a ∧ a ≤ 2147483647) by omega) with h1 | ⟨h1, h2⟩ | ⟨⟨h1, h2⟩, h3⟩ | ⟨⟨h1, h2⟩, h3, h4⟩ | ⟨⟨⟨h1, h2⟩, h3, h4⟩, h5⟩ | ⟨⟨⟨h1, h2⟩, h3, h4⟩, h5, h6⟩ | ⟨⟨⟨h1, h2⟩, h3, h4⟩, h5, h6⟩
          case inr.inr.inr.inr.inr.inr =>
            have : r = true := hj.out ⟨⟨h1, h2⟩, ⟨h3, h4⟩, h5, h6⟩
            subst this
            go_wp2_with fail
            go_ret
            first | exact ⟨ret_bool rfl, hb.out⟩ | exact ⟨ret_bool (decide_eq_false (by omega)), hb.out⟩ | exact ⟨ret_bool (decide_eq_true (by omega)), hb.out⟩
          all_goals
            have : r = false := hf.out (by omega)
            subst this
            go_wp2_with fail
            go_ret
            first | exact ⟨ret_bool rfl, hb.out⟩ | exact ⟨ret_bool (decide_eq_false (by omega)), hb.out⟩ | exact ⟨ret_bool (decide_eq_true (by omega)), hb.out⟩
end Go.Proofs.Ytboccjdliklifaa
