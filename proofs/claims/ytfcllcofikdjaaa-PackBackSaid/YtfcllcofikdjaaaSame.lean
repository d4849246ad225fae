import Derived.Test.YtfcllcofikdjaaaRows
import Derived.Test.YtfcllcofikdjaaaBase
namespace Go.Proofs.Ytfcllcofikdjaaa
open Go.RowKit

set_option maxHeartbeats 400000 in
theorem same_any (A A' : Option Addr) (n c n' c' : Nat) (xs ys : List Nat) (w : World) (hx : Rd w A (xs.map u64v)) (hy : Rd w A' (ys.map u64v))
    (hn : xs.length = n) (hn' : ys.length = n') (hm : n ≤ 4294967296) (hm' : n' ≤ 4294967296) :
    Calls Try.prog 10 #[.slice A n c, .slice A' n' c'] w fun e w' => e = .returned (.bool (decide (xs = ys))) ∧ Below w.heap.size w w' := by
  by_cases hne : n = n'
  · subst hne
    have Hn := hide hn; have Hn' := hide hn'; clear hn hn'
    go_enter Try.func10, Try.ntmps10
    go_wp2
    go_loopw [5] (fun i wr => ∃ k : Nat, k ≤ n ∧ i = .int .i64 k ∧ xs.take k = ys.take k ∧ Below w.heap.size w wr) (fun i _ => n - (intOf i).toNat)
    case atStart => exact ⟨0, Nat.zero_le _, rfl, rfl, Below.refl _ _⟩
    case round =>
      obtain ⟨k, hk, rfl, ht, hb⟩ := hrel
      have Ht := hide ht; clear ht
      by_cases hlt : k < n
      · obtain ⟨b, o, x, rfl, hbl, hxk, hcx⟩ := hx.u64 (k := k) (by rw [Hn.out]; exact hlt)
        obtain ⟨b', o', y, rfl, hbl', hyk, hcy⟩ := hy.u64 (k := k) (by rw [Hn'.out]; exact hlt)
        have Hxk := hide hxk; have Hyk := hide hyk; clear hxk hyk
        have hcx' := (hb.cell (p := ⟨b, o + k, none⟩) hbl).trans hcx
        have hcy' := (hb.cell (p := ⟨b', o' + k, none⟩) hbl').trans hcy
        clear hcx hcy
        by_cases hxy : x = y
        · subst hxy
          go_wp2
          go_quiet (fail)
          go_wp2
          go_roundw
          case rel => exact ⟨k + 1, by omega, by go_num, take_snoc_eq Ht.out Hxk.out Hyk.out, below_drewN hb _⟩
          case measure => simp [intOf]; omega
        · have h1 : ((x : Int) != (y : Int)) = true := by simp; omega
          go_wp2
          go_quiet (fail)
          go_wp2
          go_ret
          refine ⟨ret_bool ?_, below_drewN hb _⟩
          symm; rw [decide_eq_false_iff_not]; rintro rfl
          exact hxy (Option.some.inj (Hxk.out.symm.trans Hyk.out))
      · obtain rfl : k = n := by omega
        go_wp2
        go_ret
        refine ⟨ret_bool ?_, hb⟩
        symm; rw [decide_eq_true_iff]
        have := Ht.out
        rwa [List.take_of_length_le (Nat.le_of_eq Hn.out), List.take_of_length_le (Nat.le_of_eq Hn'.out)] at this
  · have h1 : ((n : Int) != (n' : Int)) = true := by simp; omega
    go_enter Try.func10, Try.ntmps10
    go_wp2
    go_ret
    exact ⟨ret_bool (by simp; intro h; subst h; omega), Below.refl _ _⟩
end Go.Proofs.Ytfcllcofikdjaaa
