/- A checkpoint: are all its numbers right? Contracts. No condition. -/
import Derived.Test.YtboccjdliklifaaCkA
namespace Go.Proofs.Ytboccjdliklifaa
open Go.RowKit

set_option maxHeartbeats 400000 in
theorem may3_any (a : Int) (b : Nat) (w : World) (hp : w.cell? ⟨b, 0, none⟩ = some (.func (.func 23) #[] #[])) :
    Calls Try.prog 27 #[.int .i64 a, .pointer (some ⟨b, 0, none⟩)] w fun e w' => e = .returned (.bool (!decide (0 ≤ a ∧ a ≤ 256))) ∧ Below w.heap.size w w' := by
  have C := fun w => in_any a 0 256 w
  generalize decide (0 ≤ a ∧ a ≤ 256) = r at C ⊢
  replace C := hide C
  go_enter Try.func27, Try.ntmps27
  go_wp2_with (go_at_call 23; (with_reducible refine (unhide C _).mono ?_); rintro e w1 ⟨rfl, rfl⟩)
  go_ret
  exact ⟨rfl, Below.refl _ _⟩
def FoundN (l : List Int) (w : World) (e : Ending) (w' : World) : Prop := ∃ r : Int, e = .returned (.int .i64 r) ∧ (l.all okN = decide (r < 0)) ∧ -1 ≤ r ∧ Below w.heap.size w w'
set_option maxHeartbeats 800000 in
theorem indexN_any (g o b : Nat) (l : List Int) (n c : Nat) (w : World) (hx : ∀ (x : Ext w) (k : Nat) (p : Int), l[k]? = some p → x.w.cell? ⟨g, o + k, none⟩ = some (.int .i64 p)) (hn : l.length = n) (hm : n ≤ 4294967296)
    (hp : ∀ x : Ext w, x.w.cell? ⟨b, 0, none⟩ = some (.func (.func 23) #[] #[])) :
    Calls Try.prog 35 #[.slice (some ⟨g, o, none⟩) n c, .func (.func 27) #[] #[.pointer (some ⟨b, 0, none⟩)]] w (FoundN l w) := by
  have Hn := hide hn; have Hx := hide hx; have Hp := hide hp; clear hn hx hp
  go_enter Try.func35, Try.ntmps35
  go_wp2_with fail
  go_loopw [8] (fun i wr => ∃ k : Nat, k ≤ n ∧ i = .int .i64 k ∧ (l.take k).all okN = true ∧ Below w.heap.size w wr) (fun i _ => n - (intOf i).toNat)
  case atStart => exact ⟨0, Nat.zero_le _, rfl, rfl, Below.refl _ _⟩
  case round =>
    obtain ⟨k, hk, rfl, hz, hb⟩ := hrel
    have Hz := hide hz; clear hz
    by_cases hlt : k < n
    · obtain ⟨p, hpk⟩ : ∃ p, l[k]? = some p := ⟨_, List.getElem?_eq_getElem (by rw [Hn.out]; exact hlt)⟩
      have f0 := Hx.out ⟨wr, hb⟩ k p hpk
      have C := may3_any p b wr (Hp.out ⟨wr, hb⟩)
      obtain ⟨r, hr⟩ : ∃ r, decide (0 ≤ p ∧ p ≤ 256) = r := ⟨_, rfl⟩
      rw [hr] at C
      replace C := hide C; replace hr := hide hr; replace hpk := hide hpk
      simp only at f0
      cases r
      · go_wp2_with (go_at_call 27; (with_reducible refine (unhide C).mono ?_); rintro e w' ⟨rfl, hb2⟩)
        go_ret
        refine ⟨k, rfl, ?_, by omega, nextB hb hb2⟩
        rw [decide_eq_false (by omega), List.all_eq_false]
        exact ⟨p, List.mem_of_getElem? hpk.out, by unfold okN; rw [hr.out]; simp⟩
      · go_wp2_with (go_at_call 27; (with_reducible refine (unhide C).mono ?_); rintro e w' ⟨rfl, hb2⟩)
        go_roundw
        case rel => exact ⟨k + 1, by omega, by go_num, by rw [take_snoc_of hpk.out, List.all_append, Hz.out]; simp only [List.all_cons, List.all_nil, okN, hr.out]; rfl, nextB hb hb2⟩
        case measure => simp [intOf]; omega
    · obtain rfl : k = n := by omega
      go_wp2_with fail
      go_ret
      refine ⟨-1, rfl, ?_, by omega, hb⟩
      have := Hz.out
      rw [List.take_of_length_le (Nat.le_of_eq Hn.out)] at this
      rw [this]; rfl
set_option maxHeartbeats 400000 in
theorem containsP_any (g o b : Nat) (l : List (Int × Nat)) (n c : Nat) (w : World) (hx : ∀ (x : Ext w) (k : Nat) (p : Int × Nat), l[k]? = some p → x.w.cell? ⟨g, o + k * 2, none⟩ = some (.int .i64 p.1) ∧ x.w.cell? ⟨g, o + k * 2 + 1, none⟩ = some (.int .u32 (p.2 : Int))) (hn : l.length = n) (hm : n ≤ 4294967296)
    (hp : ∀ x : Ext w, x.w.cell? ⟨b, 0, none⟩ = some (.func (.func 23) #[] #[])) :
    Calls Try.prog 24 #[.slice (some ⟨g, o, none⟩) n c, .func (.func 25) #[] #[.pointer (some ⟨b, 0, none⟩)]] w fun e w' => e = .returned (.bool (!l.all okP)) ∧ Below w.heap.size w w' := by
  have C := hide (indexP_any g o b l n c w hx hn hm hp)
  clear hx hp
  go_enter Try.func24, Try.ntmps24
  go_wp2_with (go_at_call 34; (with_reducible refine (unhide C).mono ?_); rintro e w' ⟨r, rfl, hr, hr1, hb⟩; have Hr := hide hr; clear hr)
  go_ret
  refine ⟨ret_bool ?_, hb⟩
  rw [Hr.out]
  by_cases h : r < 0 <;> simp [h] <;> omega
set_option maxHeartbeats 400000 in
theorem containsN_any (g o b : Nat) (l : List Int) (n c : Nat) (w : World) (hx : ∀ (x : Ext w) (k : Nat) (p : Int), l[k]? = some p → x.w.cell? ⟨g, o + k, none⟩ = some (.int .i64 p)) (hn : l.length = n) (hm : n ≤ 4294967296)
    (hp : ∀ x : Ext w, x.w.cell? ⟨b, 0, none⟩ = some (.func (.func 23) #[] #[])) :
    Calls Try.prog 26 #[.slice (some ⟨g, o, none⟩) n c, .func (.func 27) #[] #[.pointer (some ⟨b, 0, none⟩)]] w fun e w' => e = .returned (.bool (!l.all okN)) ∧ Below w.heap.size w w' := by
  have C := hide (indexN_any g o b l n c w hx hn hm hp)
  clear hx hp
  go_enter Try.func26, Try.ntmps26
  go_wp2_with (go_at_call 35; (with_reducible refine (unhide C).mono ?_); rintro e w' ⟨r, rfl, hr, hr1, hb⟩; have Hr := hide hr; clear hr)
  go_ret
  refine ⟨ret_bool ?_, hb⟩
  rw [Hr.out]
  by_cases h : r < 0 <;> simp [h] <;> omega
end Go.Proofs.Ytboccjdliklifaa
