import Derived.Test.YtpebccffkmkpoaaAddrB
namespace Go.Proofs.Ytpebccffkmkpoaa
open Go.RowKit
theorem less_any (n e : Int) (p : Addr) (w : World) (hp : w.cell? p = some (.int .i64 n)) (hs : p.spot = none) :
    Calls Try.prog 27 #[.int .i64 e, .pointer (some p)] w fun e' w' => e' = .returned (.bool (decide (n < e))) ∧ w = w' := by
  obtain ⟨b, o, sp⟩ := p
  obtain rfl : sp = none := hs
  go_enter Try.func27, Try.ntmps27
  go_wp2_with fail
  go_ret
  exact ⟨rfl, rfl⟩

set_option maxHeartbeats 1000000 in
theorem index_any (A : Option Addr) (n c : Nat) (l : List Int) (s : Int) (p : Addr) (r : Nat) (w : World) (hx : Rd w A (l.map i64v)) (hn : l.length = n) (hn2 : n ≤ 4294967296) (hp : w.cell? p = some (.int .i64 s)) (hs : p.spot = none) (hr : r < n)
    (hno : ∀ j x, j < r → l[j]? = some x → x ≤ s) (hy : ∀ x, l[r]? = some x → s < x) :
    Calls Try.prog 26 #[.slice A n c, .func (.func 27) #[] #[.pointer (some p)]] w fun e w' => e = .returned (.int .i64 (r : Int)) ∧ w = w' := by
  have Hn := hide hn; have Hno := hide hno; have Hy := hide hy; clear hn hno hy
  have C := hide (fun e => less_any s e p w hp hs)
  clear hp hs
  go_enter Try.func26, Try.ntmps26
  go_wp2_with fail
  go_loop [8] (fun i => ∃ k : Nat, k ≤ r ∧ i = .int .i64 k) (fun i => r - (intOf i).toNat)
  case atStart => exact ⟨0, Nat.zero_le _, rfl⟩
  case round =>
    obtain ⟨k, hk, rfl⟩ := hrel
    obtain ⟨b, o, x, rfl, _, hxk, hc⟩ := hx.i64 (k := k) (by rw [Hn.out]; omega)
    have C1 := unhide C x
    by_cases hlt : k < r
    · have h1 := Hno.out k x hlt hxk
      rw [decide_eq_false (by omega)] at C1
      have C1 := hide C1
      have Hxk := hide hxk; clear hxk
      go_wp2_with (go_at_call 27; refine (unhide C1).mono ?_; rintro e w1 ⟨rfl, rfl⟩)
      go_round
      case rel => exact ⟨k + 1, by omega, by go_num⟩
      case measure => simp [intOf]; omega
    · obtain rfl : k = r := by omega
      have h1 := Hy.out x hxk
      rw [decide_eq_true (by omega)] at C1
      have C1 := hide C1
      have Hxk := hide hxk; clear hxk
      go_wp2_with (go_at_call 27; refine (unhide C1).mono ?_; rintro e w1 ⟨rfl, rfl⟩)
      go_ret
      exact ⟨rfl, rfl⟩
end Go.Proofs.Ytpebccffkmkpoaa
