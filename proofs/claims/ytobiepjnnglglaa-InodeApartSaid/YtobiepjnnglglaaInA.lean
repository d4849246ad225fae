/- Inodes: may a pointer be? Contracts. No condition. -/
import Derived.Test.YtobiepjnnglglaaPtr
namespace Go.Proofs.Ytobiepjnnglglaa
open Go.RowKit
set_option maxHeartbeats 400000 in
theorem in_any (n l h : Int) (w : World) :
    Calls Try.prog 25 #[.int .i64 n, .int .i64 l, .int .i64 h] w fun e w' => e = .returned (.bool (decide (l ≤ n ∧ n ≤ h))) ∧ w = w' := by
  by_cases h1 : l ≤ n
  all_goals
    go_enter Try.func25, Try.ntmps25
    go_wp2_with fail
    go_ret
    exact ⟨ret_bool (by simp [h1] <;> omega), rfl⟩
set_option maxRecDepth 100000 in
set_option maxHeartbeats 1000000 in
theorem pointer_any (a : Int) (s : Nat) (w : World) :
    Calls Try.prog 45 #[.agg #[.int .i64 a, .int .u32 (s : Int)]] w fun e w' => e = .returned (.bool (okPt (a, s))) ∧ Below w.heap.size w w' := by
  have C := fun w => in_any a 0 2147483647 w
  have B0 := hide (Blk.new w 24 #[.int .i64 a, .int .u32 (s : Int)])
  obtain ⟨r, hr⟩ : ∃ r, okPt (a, s) = r := ⟨_, rfl⟩
  rw [hr]
  unfold okPt at hr
  simp only at hr
  by_cases h1 : 0 ≤ a ∧ a ≤ 2147483647
  · rw [decide_eq_true h1] at C
    replace C := hide C
    by_cases h2 : 0 < a
    · rw [decide_eq_true ⟨h1, .inl h2⟩] at hr
      subst hr
      clear h1
      go_enter Try.func45, Try.ntmps45
      go_wp2_with (go_at_call 25; (with_reducible refine (unhide C _).mono ?_); rintro e w1 ⟨rfl, rfl⟩)
      go_ret
      exact ⟨rfl, box1⟩
    · obtain rfl : a = 0 := by omega
      have EQ := fun w => run_eqPtr 9998 0 0 s 0 w
      by_cases h3 : s = 0
      · subst h3
        rw [decide_eq_true ⟨h1, .inr rfl⟩] at hr
        subst hr
        clear h1 h2
        go_enter Try.func45, Try.ntmps45
        go_wp2_with (go_at_call 25; (with_reducible refine (unhide C _).mono ?_); rintro e w1 ⟨rfl, rfl⟩)
        go_ret
        exact ⟨rfl, box1⟩
      · rw [decide_eq_false (fun h => h3 (h.2.resolve_left (by omega)))] at hr
        subst hr
        clear h1 h2
        have h4 : ((s : Int) == 0) = false := by simp; omega
        have h5 : ¬ (s : Int) = 0 := by omega
        go_enter Try.func45, Try.ntmps45
        go_wp2_with (go_at_call 25; (with_reducible refine (unhide C _).mono ?_); rintro e w1 ⟨rfl, rfl⟩)
        go_ret
        first | exact ⟨rfl, box1⟩ | exact ⟨ret_bool (by simp [h3]), box1⟩
  · rw [decide_eq_false h1] at C
    rw [decide_eq_false (fun h => h1 h.1)] at hr
    subst hr
    replace C := hide C
    clear h1
    go_enter Try.func45, Try.ntmps45
    go_wp2_with (go_at_call 25; (with_reducible refine (unhide C _).mono ?_); rintro e w1 ⟨rfl, rfl⟩)
    go_ret
    exact ⟨rfl, box1⟩
set_option maxHeartbeats 400000 in
theorem bad_any (a : Int) (s : Nat) (w : World) :
    Calls Try.prog 30 #[.agg #[.int .i64 a, .int .u32 (s : Int)]] w fun e w' => e = .returned (.bool (!okPt (a, s))) ∧ Below w.heap.size w w' := by
  have C := hide (fun w => pointer_any a s w)
  have B0 := hide (Blk.new w 24 #[.int .i64 a, .int .u32 (s : Int)])
  go_enter Try.func30, Try.ntmps30
  go_wp2_with (go_at_call 45; (with_reducible refine (unhide C _).mono ?_); rintro e w1 ⟨rfl, hb1⟩)
  go_ret
  exact ⟨rfl, nextB box1 hb1⟩
def FoundP (l : List (Int × Nat)) (w : World) (e : Ending) (w' : World) : Prop := ∃ r : Int, e = .returned (.int .i64 r) ∧ (l.all okPt = decide (r < 0)) ∧ -1 ≤ r ∧ Below w.heap.size w w'
set_option maxHeartbeats 800000 in
theorem indexP_any (A : Option Addr) (l : List (Int × Nat)) (n c : Nat) (w : World) (hx : Rd w A (l.flatMap ptrC)) (hn : l.length = n) (hm : n ≤ 4294967296) :
    Calls Try.prog 44 #[.slice A n c, .func (.func 30) #[] #[]] w (FoundP l w) := by
  have Hn := hide hn; have Hx := hide hx; clear hn hx
  go_enter Try.func44, Try.ntmps44
  go_wp2_with fail
  go_loopw [8] (fun i wr => ∃ k : Nat, k ≤ n ∧ i = .int .i64 k ∧ (l.take k).all okPt = true ∧ Below w.heap.size w wr) (fun i _ => n - (intOf i).toNat)
  case atStart => exact ⟨0, Nat.zero_le _, rfl, rfl, Below.refl _ _⟩
  case round =>
    obtain ⟨k, hk, rfl, hz, hb⟩ := hrel
    have Hz := hide hz; clear hz
    by_cases hlt : k < n
    · obtain ⟨g, o, p, rfl, _, hpk, hc⟩ := (Hx.out.on hb).flat ptrC_len (by omega) (k := k) (by rw [Hn.out]; exact hlt)
      have f0 : wr.cell? ⟨g, o + k * 2, none⟩ = some (.int .i64 p.1) := hc 0 _ rfl
      have f1 : wr.cell? ⟨g, o + k * 2 + 1, none⟩ = some (.int .u32 (p.2 : Int)) := hc 1 _ rfl
      have C := fun w => bad_any p.1 p.2 w
      obtain ⟨r, hr⟩ : ∃ r, okPt p = r := ⟨_, rfl⟩
      rw [hr] at C
      replace C := hide C; replace hr := hide hr; replace hpk := hide hpk
      clear hc
      cases r
      · go_wp2_with (go_at_call 30; (with_reducible refine (unhide C _).mono ?_); rintro e w' ⟨rfl, hb2⟩)
        go_ret
        refine ⟨k, rfl, ?_, by omega, nextB hb hb2⟩
        rw [decide_eq_false (by omega), List.all_eq_false]
        exact ⟨p, List.mem_of_getElem? hpk.out, by rw [hr.out]; simp⟩
      · go_wp2_with (go_at_call 30; (with_reducible refine (unhide C _).mono ?_); rintro e w' ⟨rfl, hb2⟩)
        go_roundw
        case rel => exact ⟨k + 1, by omega, by go_num, by rw [take_snoc_of hpk.out, List.all_append, Hz.out]; simp only [List.all_cons, List.all_nil, hr.out]; rfl, nextB hb hb2⟩
        case measure => simp [intOf]; omega
    · obtain rfl : k = n := by omega
      go_wp2_with fail
      go_ret
      refine ⟨-1, rfl, ?_, by omega, hb⟩
      have := Hz.out
      rw [List.take_of_length_le (Nat.le_of_eq Hn.out)] at this
      rw [this]; rfl
set_option maxHeartbeats 400000 in
theorem containsP_any (A : Option Addr) (l : List (Int × Nat)) (n c : Nat) (w : World) (hx : Rd w A (l.flatMap ptrC)) (hn : l.length = n) (hm : n ≤ 4294967296) :
    Calls Try.prog 29 #[.slice A n c, .func (.func 30) #[] #[]] w fun e w' => e = .returned (.bool (!l.all okPt)) ∧ Below w.heap.size w w' := by
  have C := hide (indexP_any A l n c w hx hn hm)
  clear hx
  go_enter Try.func29, Try.ntmps29
  go_wp2_with (go_at_call 44; (with_reducible refine (unhide C).mono ?_); rintro e w' ⟨r, rfl, hr, hr1, hb⟩; have Hr := hide hr; clear hr)
  go_ret
  refine ⟨ret_bool ?_, hb⟩
  rw [Hr.out]
  by_cases h : r < 0 <;> simp [h] <;> omega
end Go.Proofs.Ytobiepjnnglglaa
