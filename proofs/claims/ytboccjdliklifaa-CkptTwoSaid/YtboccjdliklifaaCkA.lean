/- A checkpoint: may it be? Contract of the program's May. No condition. -/
import Derived.Test.YtboccjdliklifaaBox
import Derived.Test.YtboccjdliklifaaRun
namespace Go.Proofs.Ytboccjdliklifaa
open Go.RowKit

structure Ck where
  seq : Int
  nx : Int
  at_ : Int
  map : List (Int × Nat)
  used : List Int
def ptrC (p : Int × Nat) : List Value := [.int .i64 p.1, .int .u32 (p.2 : Int)]
def ckC (c : Ck) : List Value := [.int .i64 c.seq, .int .i64 c.nx, .int .i64 c.at_] ++ (c.map.flatMap ptrC ++ c.used.flatMap (fun n => [i64v n]))
/-- may a checkpoint be? -/
def mayCk (c : Ck) : Prop := (1 ≤ c.seq ∧ c.seq ≤ 281474976710655) ∧ (1 ≤ c.nx ∧ c.nx ≤ 281474976710655) ∧ (1 ≤ c.at_ ∧ c.at_ ≤ 2147483647) ∧ (∀ p ∈ c.map, 1 ≤ p.1 ∧ p.1 ≤ 2147483647) ∧ ∀ n ∈ c.used, 0 ≤ n ∧ n ≤ 256
instance (c : Ck) : Decidable (mayCk c) := by unfold mayCk; exact inferInstance

set_option maxHeartbeats 400000 in
theorem in_any (n l h : Int) (w : World) :
    Calls Try.prog 23 #[.int .i64 n, .int .i64 l, .int .i64 h] w fun e w' => e = .returned (.bool (decide (l ≤ n ∧ n ≤ h))) ∧ w = w' := by
  by_cases h1 : l ≤ n
  all_goals
    go_enter Try.func23, Try.ntmps23
    go_wp2_with fail
    go_ret
    exact ⟨ret_bool (by simp [h1] <;> omega), rfl⟩
set_option maxHeartbeats 400000 in
theorem may2_any (a : Int) (s : Nat) (b : Nat) (w : World) (hp : w.cell? ⟨b, 0, none⟩ = some (.func (.func 23) #[] #[])) :
    Calls Try.prog 25 #[.agg #[.int .i64 a, .int .u32 (s : Int)], .pointer (some ⟨b, 0, none⟩)] w fun e w' => e = .returned (.bool (!decide (1 ≤ a ∧ a ≤ 2147483647))) ∧ Below w.heap.size w w' := by
  have C := fun w => in_any a 1 2147483647 w
  generalize decide (1 ≤ a ∧ a ≤ 2147483647) = r at C ⊢
  replace C := hide C
  have B0 := hide (Blk.new w 24 #[.int .i64 a, .int .u32 (s : Int)])
  have hlt : b < w.heap.size := by
    rcases Nat.lt_or_ge b w.heap.size with h | h
    · exact h
    · rw [World.cell?, Array.getElem?_eq_none h] at hp; cases hp
  have hp1 := (hide hp)
  go_enter Try.func25, Try.ntmps25
  go_wp2_with (go_at_call 23; (with_reducible refine (unhide C _).mono ?_); rintro e w1 ⟨rfl, rfl⟩)
  go_ret
  exact ⟨rfl, box1⟩
/-- is a pointer one that may be? -/
def okP (p : Int × Nat) : Bool := decide (1 ≤ p.1 ∧ p.1 ≤ 2147483647)
def okN (n : Int) : Bool := decide (0 ≤ n ∧ n ≤ 256)
def FoundP (l : List (Int × Nat)) (w : World) (e : Ending) (w' : World) : Prop := ∃ r : Int, e = .returned (.int .i64 r) ∧ (l.all okP = decide (r < 0)) ∧ -1 ≤ r ∧ Below w.heap.size w w'
set_option maxHeartbeats 800000 in
theorem indexP_any (g o b : Nat) (l : List (Int × Nat)) (n c : Nat) (w : World) (hx : ∀ (x : Ext w) (k : Nat) (p : Int × Nat), l[k]? = some p → x.w.cell? ⟨g, o + k * 2, none⟩ = some (.int .i64 p.1) ∧ x.w.cell? ⟨g, o + k * 2 + 1, none⟩ = some (.int .u32 (p.2 : Int))) (hn : l.length = n) (hm : n ≤ 4294967296)
    (hp : ∀ x : Ext w, x.w.cell? ⟨b, 0, none⟩ = some (.func (.func 23) #[] #[])) :
    Calls Try.prog 34 #[.slice (some ⟨g, o, none⟩) n c, .func (.func 25) #[] #[.pointer (some ⟨b, 0, none⟩)]] w (FoundP l w) := by
  have Hn := hide hn; have Hx := hide hx; have Hp := hide hp; clear hn hx hp
  go_enter Try.func34, Try.ntmps34
  go_wp2_with fail
  go_loopw [8] (fun i wr => ∃ k : Nat, k ≤ n ∧ i = .int .i64 k ∧ (l.take k).all okP = true ∧ Below w.heap.size w wr) (fun i _ => n - (intOf i).toNat)
  case atStart => exact ⟨0, Nat.zero_le _, rfl, rfl, Below.refl _ _⟩
  case round =>
    obtain ⟨k, hk, rfl, hz, hb⟩ := hrel
    have Hz := hide hz; clear hz
    by_cases hlt : k < n
    · obtain ⟨p, hpk⟩ : ∃ p, l[k]? = some p := ⟨_, List.getElem?_eq_getElem (by rw [Hn.out]; exact hlt)⟩
      have f0 := (Hx.out ⟨wr, hb⟩ k p hpk).1
      have f1 := (Hx.out ⟨wr, hb⟩ k p hpk).2
      have C := may2_any p.1 p.2 b wr (Hp.out ⟨wr, hb⟩)
      obtain ⟨r, hr⟩ : ∃ r, decide (1 ≤ p.1 ∧ p.1 ≤ 2147483647) = r := ⟨_, rfl⟩
      rw [hr] at C
      replace C := hide C; replace hr := hide hr; replace hpk := hide hpk
      simp only at f0 f1
      cases r
      · go_wp2_with (go_at_call 25; (with_reducible refine (unhide C).mono ?_); rintro e w' ⟨rfl, hb2⟩)
        go_ret
        refine ⟨k, rfl, ?_, by omega, nextB hb hb2⟩
        rw [decide_eq_false (by omega), List.all_eq_false]
        exact ⟨p, List.mem_of_getElem? hpk.out, by unfold okP; rw [hr.out]; simp⟩
      · go_wp2_with (go_at_call 25; (with_reducible refine (unhide C).mono ?_); rintro e w' ⟨rfl, hb2⟩)
        go_roundw
        case rel => exact ⟨k + 1, by omega, by go_num, by rw [take_snoc_of hpk.out, List.all_append, Hz.out]; simp only [List.all_cons, List.all_nil, okP, hr.out]; rfl, nextB hb hb2⟩
        case measure => simp [intOf]; omega
    · obtain rfl : k = n := by omega
      go_wp2_with fail
      go_ret
      refine ⟨-1, rfl, ?_, by omega, hb⟩
      have := Hz.out
      rw [List.take_of_length_le (Nat.le_of_eq Hn.out)] at this
      rw [this]; rfl
end Go.Proofs.Ytboccjdliklifaa
