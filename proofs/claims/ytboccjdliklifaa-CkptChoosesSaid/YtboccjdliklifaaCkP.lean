/- Where a checkpoint is kept: contract of the program's Place. No condition. -/
import Derived.Test.YtboccjdliklifaaCkD
namespace Go.Proofs.Ytboccjdliklifaa
open Go.RowKit

def placeK (c : Ck) : Int := if mayCk c then c.seq % 2 else -1
set_option maxRecDepth 100000 in
set_option maxHeartbeats 2000000 in
theorem place_any (c : Ck) (h4 : c.map.length = 4) (h8 : c.used.length = 8) (w : World) :
    Calls Try.prog 13 #[.agg (ckC c).toArray] w fun e w' => e = .returned (.int .i64 (placeK c)) ∧ Below w.heap.size w w' := by
  have C := fun w => may_any c h4 h8 w
  have B0 := hide (Blk.new w 28 (ckC c).toArray)
  have HZ := hide (ck_size h4 h8)
  by_cases h : mayCk c
  · rw [decide_eq_true h] at C
    have hm := h
    obtain ⟨sq, hsq⟩ := Int.eq_ofNat_of_zero_le (show 0 ≤ c.seq by have := hm.1; omega)
    have q1 : (sq : Int) ≤ 281474976710655 := by rw [← hsq]; exact hm.1.2
    have he : placeK c = (sq : Int) % 2 := by unfold placeK; rw [if_pos h, hsq]
    rw [he]
    have hcell : (ckC c)[0]? = some (.int .i64 (sq : Int)) := by simp [ckC, hsq]
    replace hcell := hide hcell
    replace C := hide C
    clear hm hsq he h h4 h8
    go_enter Try.func13, Try.ntmps13
    go_wp2_with (first
      | ((with_reducible refine wpList_load_at (.tmp 1) rfl ?_ Try.wideCk w.heap.size 0 ?_ (ckC c) HZ.out ?_ ?_); (next => rfl); (next => rfl); (next => intro j u hu; rw [Nat.zero_add]; exact B0.out.cell_ j u (by simpa using hu)))
      | (go_at_call 10; (with_reducible refine (unhide C _).mono ?_); rintro e w1 ⟨rfl, hb1⟩; have c0 := (B0.out.below hb1 B0.out.lt).cell_ 0 (.int .i64 (sq : Int)) (by simpa using hcell.out)))
    go_ret
    exact ⟨rfl, nextB box1 hb1⟩
  · rw [decide_eq_false h] at C
    have he : placeK c = -1 := if_neg h
    rw [he]
    replace C := hide C
    clear h h4 h8 he
    go_enter Try.func13, Try.ntmps13
    go_wp2_with (first
      | ((with_reducible refine wpList_load_at (.tmp 1) rfl ?_ Try.wideCk w.heap.size 0 ?_ (ckC c) HZ.out ?_ ?_); (next => rfl); (next => rfl); (next => intro j u hu; rw [Nat.zero_add]; exact B0.out.cell_ j u (by simpa using hu)))
      | (go_at_call 10; (with_reducible refine (unhide C _).mono ?_); rintro e w1 ⟨rfl, hb1⟩))
    go_ret
    exact ⟨rfl, nextB box1 hb1⟩
end Go.Proofs.Ytboccjdliklifaa
