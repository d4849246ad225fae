/- May an inode be, by the document's text. No condition. -/
import Derived.Test.YtobiepjnnglglaaInH
namespace Go.Proofs.Ytobiepjnnglglaa
open Go.RowKit
set_option maxRecDepth 100000 in
set_option maxHeartbeats 4000000 in
theorem refMay_any (x : Ino) (h9 : x.ps.length = 9) (w : World) :
    Calls Try.prog 10 #[.agg (inoC x).toArray] w fun e w' => e = .returned (.bool (decide (mayIno x))) ∧ Below w.heap.size w w' := by
  have B0 := hide (Blk.new w 27 (inoC x).toArray)
  have hb := hide (box1 (w := w) (o := .cells (inoC x).toArray 27))
  have ZC := hide (inoC_len h9)
  have H9 := hide h9
  obtain ⟨r, hr⟩ : ∃ r, decide (mayIno x) = r := ⟨_, rfl⟩
  rw [hr]
  replace hr := hide hr
  clear h9
  go_enter Try.func10, Try.ntmps10
  go_wp2_with fail
  generalize (w.alloc _) = W at B0 hb ⊢
  go_loopw [3] (fun i wr => ∃ j : Nat, j ≤ 9 ∧ i = .int .i64 (j : Int) ∧ (∀ p ∈ x.ps.take j, okPt p = true) ∧ Blk wr w.heap.size 27 (inoC x).toArray ∧ Below w.heap.size w wr) (fun i _ => 9 - (intOf i).toNat)
  case atStart => exact ⟨0, by omega, rfl, by simp, B0.out, hb.out⟩
  case round =>
    clear B0 hb
    obtain ⟨j, hj, rfl, ho, B0, hb⟩ := hrel
    replace ho := hide ho; replace B0 := hide B0; replace hb := hide hb
    by_cases hlt : j < 9
    · obtain ⟨p, hp⟩ : ∃ p, x.ps[j]? = some p := ⟨_, List.getElem?_eq_getElem (by rw [H9.out]; exact hlt)⟩
      obtain ⟨q0, q1⟩ := ino_ptr hp B0.out
      have C := fun w => refPointer_any p.1 p.2 w
      obtain ⟨t, ht⟩ : ∃ t, okPt p = t := ⟨_, rfl⟩
      rw [ht] at C
      replace C := hide C; replace hp := hide hp; replace ht := hide ht
      cases t
      · go_wp2_with (go_at_call 23; (with_reducible refine (unhide C _).mono ?_); rintro e w1 ⟨rfl, hb1⟩)
        go_ret
        refine ⟨ret_bool ?_, nextB hb.out hb1⟩
        rw [← hr.out]; symm; rw [decide_eq_false_iff_not]
        intro h
        have := List.all_eq_true.1 h.2 p (List.mem_of_getElem? hp.out)
        rw [ht.out] at this; cases this
      · go_wp2_with (go_at_call 23; (with_reducible refine (unhide C _).mono ?_); rintro e w1 ⟨rfl, hb1⟩)
        go_roundw
        case rel =>
          refine ⟨j + 1, by omega, by go_num, ?_, B0.out.below hb1 B0.out.lt, nextB hb.out hb1⟩
          intro q hq
          rw [take_snoc_of hp.out, List.mem_append] at hq
          rcases hq with hq | hq
          · exact ho.out q hq
          · rw [List.mem_singleton] at hq; subst hq; exact ht.out
        case measure => simp [intOf]; omega
    · obtain rfl : j = 9 := by omega
      have ho1 : x.ps.all okPt = true := by
        rw [List.all_eq_true]; intro p hp
        exact ho.out p (by rw [List.take_of_length_le (by rw [H9.out]; exact Nat.le_refl _)]; exact hp)
      have hf : ¬ ((1 ≤ x.ty ∧ x.ty ≤ 2) ∧ (0 ≤ x.links ∧ x.links ≤ 200) ∧ (0 ≤ x.ver ∧ x.ver ≤ 2147483647) ∧ (0 ≤ x.size ∧ x.size ≤ 1099511627776) ∧ (0 ≤ x.tick ∧ x.tick ≤ 2147483647)) → r = false := fun hp => by rw [← hr.out]; exact decide_eq_false (fun hm => hp hm.1)
      have ht : ((1 ≤ x.ty ∧ x.ty ≤ 2) ∧ (0 ≤ x.links ∧ x.links ≤ 200) ∧ (0 ≤ x.ver ∧ x.ver ≤ 2147483647) ∧ (0 ≤ x.size ∧ x.size ≤ 1099511627776) ∧ (0 ≤ x.tick ∧ x.tick ≤ 2147483647)) → r = true := fun h => by rw [← hr.out]; exact decide_eq_true ⟨h, ho1⟩
      have k0 := B0.out.cell_ 0 (.int .i64 x.ty) rfl
      have k1 := B0.out.cell_ 1 (.int .i64 x.links) rfl
      have k2 := B0.out.cell_ 2 (.int .i64 x.ver) rfl
      have k3 := B0.out.cell_ 3 (.int .i64 x.size) rfl
      have k4 := B0.out.cell_ 4 (.int .i64 x.tick) rfl
      clear ho ho1 hj hlt hr
      generalize x.ty = a at k0 hf ht
      generalize x.links = b at k1 hf ht
      generalize x.ver = c at k2 hf ht
      generalize x.size = d at k3 hf ht
      generalize x.tick = f at k4 hf ht
      replace hf := hide hf; replace ht := hide ht
      by_cases hA : a = 1 ∨ a = 2
      · rcases hA with rfl | rfl
        all_goals
          by_cases h0 : b < 0
          · have hv : r = false := hf.out (by omega)
            subst hv
            go_wp2_with fail
            go_ret
            first | exact ⟨ret_bool rfl, hb.out⟩ | exact ⟨ret_bool (by simp <;> omega), hb.out⟩
          have p0 : 0 ≤ b := by omega
          clear h0
          by_cases h1 : 200 < b
          · have hv : r = false := hf.out (by omega)
            subst hv
            go_wp2_with fail
            go_ret
            first | exact ⟨ret_bool rfl, hb.out⟩ | exact ⟨ret_bool (by simp <;> omega), hb.out⟩
          have p1 : b ≤ 200 := by omega
          clear h1
          by_cases h2 : c < 0
          · have hv : r = false := hf.out (by omega)
            subst hv
            go_wp2_with fail
            go_ret
            first | exact ⟨ret_bool rfl, hb.out⟩ | exact ⟨ret_bool (by simp <;> omega), hb.out⟩
          have p2 : 0 ≤ c := by omega
          clear h2
          by_cases h3 : 2147483647 < c
          · have hv : r = false := hf.out (by omega)
            subst hv
            go_wp2_with fail
            go_ret
            first | exact ⟨ret_bool rfl, hb.out⟩ | exact ⟨ret_bool (by simp <;> omega), hb.out⟩
          have p3 : c ≤ 2147483647 := by omega
          clear h3
          by_cases h4 : d < 0
          · have hv : r = false := hf.out (by omega)
            subst hv
            go_wp2_with fail
            go_ret
            first | exact ⟨ret_bool rfl, hb.out⟩ | exact ⟨ret_bool (by simp <;> omega), hb.out⟩
          have p4 : 0 ≤ d := by omega
          clear h4
          by_cases h5 : 1099511627776 < d
          · have hv : r = false := hf.out (by omega)
            subst hv
            go_wp2_with fail
            go_ret
            first | exact ⟨ret_bool rfl, hb.out⟩ | exact ⟨ret_bool (by simp <;> omega), hb.out⟩
          have p5 : d ≤ 1099511627776 := by omega
          clear h5
          by_cases h6 : f < 0
          · have hv : r = false := hf.out (by omega)
            subst hv
            go_wp2_with fail
            go_ret
            first | exact ⟨ret_bool rfl, hb.out⟩ | exact ⟨ret_bool (by simp <;> omega), hb.out⟩
          have p6 : 0 ≤ f := by omega
          clear h6
          by_cases h7 : 2147483647 < f
          · have hv : r = false := hf.out (by omega)
            subst hv
            go_wp2_with fail
            go_ret
            first | exact ⟨ret_bool rfl, hb.out⟩ | exact ⟨ret_bool (by simp <;> omega), hb.out⟩
          have p7 : f ≤ 2147483647 := by omega
          clear h7
          have hv : r = true := ht.out (by omega)
          subst hv
          go_wp2_with fail
          go_ret
          first | exact ⟨ret_bool rfl, hb.out⟩ | exact ⟨ret_bool (by simp <;> omega), hb.out⟩
      · have g1 : (a == 1) = false := by simp; omega
        have g2 : (a == 2) = false := by simp; omega
        have hv : r = false := hf.out (by omega)
        subst hv
        go_wp2_with fail
        go_ret
        first | exact ⟨ret_bool rfl, hb.out⟩ | exact ⟨ret_bool (by simp <;> omega), hb.out⟩
end Go.Proofs.Ytobiepjnnglglaa
