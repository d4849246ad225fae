/- Inodes: may one be? Its numbers. Contracts. No condition. -/
import Derived.Test.YtobiepjnnglglaaInA
import Derived.Test.YtobiepjnnglglaaElN
import Derived.Test.YtobiepjnnglglaaRelyW
import Derived.Test.YtobiepjnnglglaaRes
namespace Go.Proofs.Ytobiepjnnglglaa
open Go.RowKit
structure Ino where
  ty : Int
  links : Int
  ver : Int
  size : Int
  tick : Int
  ps : List (Int × Nat)
deriving instance DecidableEq for Ino
def inoH (x : Ino) : List Value := [.int .i64 x.ty, .int .i64 x.links, .int .i64 x.ver, .int .i64 x.size, .int .i64 x.tick]
def inoC (x : Ino) : List Value := inoH x ++ x.ps.flatMap ptrC
def mayIno (x : Ino) : Prop := ((1 ≤ x.ty ∧ x.ty ≤ 2) ∧ (0 ≤ x.links ∧ x.links ≤ 200) ∧ (0 ≤ x.ver ∧ x.ver ≤ 2147483647) ∧ (0 ≤ x.size ∧ x.size ≤ 1099511627776) ∧ (0 ≤ x.tick ∧ x.tick ≤ 2147483647)) ∧ x.ps.all okPt = true
instance (x : Ino) : Decidable (mayIno x) := by unfold mayIno; exact inferInstance
theorem inoC_len {x : Ino} (h : x.ps.length = 9) : (inoC x).length = 23 := by
  unfold inoC; rw [List.length_append, flat_length ptrC_len, h]; rfl
theorem inoC_ps (x : Ino) {j : Nat} {u : Value} (h : (x.ps.flatMap ptrC)[j]? = some u) : (inoC x)[5 + j]? = some u := by
  unfold inoC
  rw [List.getElem?_append_right (by simp [inoH])]
  rw [show 5 + j - (inoH x).length = j by simp [inoH]]; exact h
theorem ino_ptr {x : Ino} {k : Nat} {p : Int × Nat} (hk : x.ps[k]? = some p) {w : World} {g : Nat} {t : TypeId} (hB : Blk w g t (inoC x).toArray) :
    w.cell? ⟨g, 5 + k * 2, none⟩ = some (.int .i64 p.1) ∧ w.cell? ⟨g, 5 + k * 2 + 1, none⟩ = some (.int .u32 (p.2 : Int)) := by
  constructor
  · exact hB.cell_ _ _ (by simpa using inoC_ps x ((flat_get ptrC_len x.ps k p 0 hk (by omega)).trans rfl))
  · exact hB.cell_ _ _ (by have := inoC_ps x ((flat_get ptrC_len x.ps k p 1 hk (by omega)).trans rfl); rw [← Nat.add_assoc] at this; simpa using this)
theorem ino_rd {x : Ino} {w : World} {g : Nat} {t : TypeId} (hB : Blk w g t (inoC x).toArray) : Rd w (some ⟨g, 5, none⟩) (x.ps.flatMap ptrC) :=
  .inr ⟨g, 5, rfl, fun j u hu => hB.cell_ _ _ (by simpa using inoC_ps x hu)⟩
set_option maxHeartbeats 400000 in
theorem num_any (n : Int) (v : Nat) (w : World) (hv : v < 9223372036854775808) :
    Calls Try.prog 26 #[.int .i64 n, .int .i64 (v : Int)] w fun e w' => e = .returned (.agg #[.int .i64 n, .int .u64 (v : Int)]) ∧ Below w.heap.size w w' := by
  go_enter Try.func26, Try.ntmps26
  go_wp2_with fail
  exact bodyPost_ret (v := .agg #[.int .i64 n, .int .u64 (v : Int)]) (by simp [results, Try.results26, go_sem]) rfl ⟨rfl, box1⟩
set_option maxRecDepth 100000 in
set_option maxHeartbeats 4000000 in
theorem may_any (x : Ino) (h9 : x.ps.length = 9) (w : World) :
    Calls Try.prog 9 #[.agg (inoC x).toArray] w fun e w' => e = .returned (.bool (decide (mayIno x))) ∧ Below w.heap.size w w' := by
  have B0 := hide (Blk.new w 27 (inoC x).toArray)
  have ZC := hide (inoC_len h9)
  have CP := hide (containsP_any (some ⟨w.heap.size, 5, none⟩) x.ps 9 9 (w.alloc (.cells (inoC x).toArray 27)) (ino_rd B0.out) h9 (by decide))
  have k0 := B0.out.cell_ 0 (.int .i64 x.ty) rfl
  have k1 := B0.out.cell_ 1 (.int .i64 x.links) rfl
  have k2 := B0.out.cell_ 2 (.int .i64 x.ver) rfl
  have k3 := B0.out.cell_ 3 (.int .i64 x.size) rfl
  have k4 := B0.out.cell_ 4 (.int .i64 x.tick) rfl
  obtain ⟨r, hr⟩ : ∃ r, decide (mayIno x) = r := ⟨_, rfl⟩
  rw [hr]
  unfold mayIno at hr
  replace hr := hide hr
  have C0 := fun w => in_any x.ty 1 2 w
  have C1 := fun w => in_any x.links 0 200 w
  have C2 := fun w => in_any x.ver 0 2147483647 w
  have C3 := fun w => in_any x.size 0 1099511627776 w
  have C4 := fun w => in_any x.tick 0 2147483647 w
  obtain ⟨r0, h0⟩ : ∃ r, decide (1 ≤ x.ty ∧ x.ty ≤ 2) = r := ⟨_, rfl⟩
  obtain ⟨r1, h1⟩ : ∃ r, decide (0 ≤ x.links ∧ x.links ≤ 200) = r := ⟨_, rfl⟩
  obtain ⟨r2, h2⟩ : ∃ r, decide (0 ≤ x.ver ∧ x.ver ≤ 2147483647) = r := ⟨_, rfl⟩
  obtain ⟨r3, h3⟩ : ∃ r, decide (0 ≤ x.size ∧ x.size ≤ 1099511627776) = r := ⟨_, rfl⟩
  obtain ⟨r4, h4⟩ : ∃ r, decide (0 ≤ x.tick ∧ x.tick ≤ 2147483647) = r := ⟨_, rfl⟩
  obtain ⟨r5, h5⟩ : ∃ r, x.ps.all okPt = r := ⟨_, rfl⟩
  rw [h0] at C0; rw [h1] at C1; rw [h2] at C2; rw [h3] at C3; rw [h4] at C4; rw [h5] at CP
  have hand : r = (r0 && (r1 && (r2 && (r3 && r4))) && r5) := by
    rw [← hr.out, ← h0, ← h1, ← h2, ← h3, ← h4, ← h5, Bool.eq_iff_iff]
    simp only [Bool.and_eq_true, decide_eq_true_iff (p := _ ∧ _)]
    exact decide_eq_true_iff
  replace C0 := hide C0; replace C1 := hide C1; replace C2 := hide C2; replace C3 := hide C3; replace C4 := hide C4
  clear hr h0 h1 h2 h3 h4 h5
  generalize x.ty = f0 at k0 C0
  generalize x.links = f1 at k1 C1
  generalize x.ver = f2 at k2 C2
  generalize x.size = f3 at k3 C3
  generalize x.tick = f4 at k4 C4
  cases r0
  · subst hand
    go_enter Try.func9, Try.ntmps9
    go_wp2_with (first
        | (go_at_call 25; (with_reducible refine (unhide C0 _).mono ?_); rintro e w1 ⟨rfl, rfl⟩)
        | (go_at_call 25; (with_reducible refine (unhide C1 _).mono ?_); rintro e w1 ⟨rfl, rfl⟩)
        | (go_at_call 25; (with_reducible refine (unhide C2 _).mono ?_); rintro e w1 ⟨rfl, rfl⟩)
        | (go_at_call 25; (with_reducible refine (unhide C3 _).mono ?_); rintro e w1 ⟨rfl, rfl⟩)
        | (go_at_call 25; (with_reducible refine (unhide C4 _).mono ?_); rintro e w1 ⟨rfl, rfl⟩)
        | (go_at_call 29; (with_reducible refine (unhide CP).mono ?_); rintro e w2 ⟨rfl, hb2⟩))
    go_ret
    exact ⟨ret_bool (by simp), box1⟩
  cases r1
  · subst hand
    go_enter Try.func9, Try.ntmps9
    go_wp2_with (first
        | (go_at_call 25; (with_reducible refine (unhide C0 _).mono ?_); rintro e w1 ⟨rfl, rfl⟩)
        | (go_at_call 25; (with_reducible refine (unhide C1 _).mono ?_); rintro e w1 ⟨rfl, rfl⟩)
        | (go_at_call 25; (with_reducible refine (unhide C2 _).mono ?_); rintro e w1 ⟨rfl, rfl⟩)
        | (go_at_call 25; (with_reducible refine (unhide C3 _).mono ?_); rintro e w1 ⟨rfl, rfl⟩)
        | (go_at_call 25; (with_reducible refine (unhide C4 _).mono ?_); rintro e w1 ⟨rfl, rfl⟩)
        | (go_at_call 29; (with_reducible refine (unhide CP).mono ?_); rintro e w2 ⟨rfl, hb2⟩))
    go_ret
    exact ⟨ret_bool (by simp), box1⟩
  cases r2
  · subst hand
    go_enter Try.func9, Try.ntmps9
    go_wp2_with (first
        | (go_at_call 25; (with_reducible refine (unhide C0 _).mono ?_); rintro e w1 ⟨rfl, rfl⟩)
        | (go_at_call 25; (with_reducible refine (unhide C1 _).mono ?_); rintro e w1 ⟨rfl, rfl⟩)
        | (go_at_call 25; (with_reducible refine (unhide C2 _).mono ?_); rintro e w1 ⟨rfl, rfl⟩)
        | (go_at_call 25; (with_reducible refine (unhide C3 _).mono ?_); rintro e w1 ⟨rfl, rfl⟩)
        | (go_at_call 25; (with_reducible refine (unhide C4 _).mono ?_); rintro e w1 ⟨rfl, rfl⟩)
        | (go_at_call 29; (with_reducible refine (unhide CP).mono ?_); rintro e w2 ⟨rfl, hb2⟩))
    go_ret
    exact ⟨ret_bool (by simp), box1⟩
  cases r3
  · subst hand
    go_enter Try.func9, Try.ntmps9
    go_wp2_with (first
        | (go_at_call 25; (with_reducible refine (unhide C0 _).mono ?_); rintro e w1 ⟨rfl, rfl⟩)
        | (go_at_call 25; (with_reducible refine (unhide C1 _).mono ?_); rintro e w1 ⟨rfl, rfl⟩)
        | (go_at_call 25; (with_reducible refine (unhide C2 _).mono ?_); rintro e w1 ⟨rfl, rfl⟩)
        | (go_at_call 25; (with_reducible refine (unhide C3 _).mono ?_); rintro e w1 ⟨rfl, rfl⟩)
        | (go_at_call 25; (with_reducible refine (unhide C4 _).mono ?_); rintro e w1 ⟨rfl, rfl⟩)
        | (go_at_call 29; (with_reducible refine (unhide CP).mono ?_); rintro e w2 ⟨rfl, hb2⟩))
    go_ret
    exact ⟨ret_bool (by simp), box1⟩
  cases r4
  · subst hand
    go_enter Try.func9, Try.ntmps9
    go_wp2_with (first
        | (go_at_call 25; (with_reducible refine (unhide C0 _).mono ?_); rintro e w1 ⟨rfl, rfl⟩)
        | (go_at_call 25; (with_reducible refine (unhide C1 _).mono ?_); rintro e w1 ⟨rfl, rfl⟩)
        | (go_at_call 25; (with_reducible refine (unhide C2 _).mono ?_); rintro e w1 ⟨rfl, rfl⟩)
        | (go_at_call 25; (with_reducible refine (unhide C3 _).mono ?_); rintro e w1 ⟨rfl, rfl⟩)
        | (go_at_call 25; (with_reducible refine (unhide C4 _).mono ?_); rintro e w1 ⟨rfl, rfl⟩)
        | (go_at_call 29; (with_reducible refine (unhide CP).mono ?_); rintro e w2 ⟨rfl, hb2⟩))
    go_ret
    exact ⟨ret_bool (by simp), box1⟩
  subst hand
  go_enter Try.func9, Try.ntmps9
  go_wp2_with (first
      | (go_at_call 25; (with_reducible refine (unhide C0 _).mono ?_); rintro e w1 ⟨rfl, rfl⟩)
      | (go_at_call 25; (with_reducible refine (unhide C1 _).mono ?_); rintro e w1 ⟨rfl, rfl⟩)
      | (go_at_call 25; (with_reducible refine (unhide C2 _).mono ?_); rintro e w1 ⟨rfl, rfl⟩)
      | (go_at_call 25; (with_reducible refine (unhide C3 _).mono ?_); rintro e w1 ⟨rfl, rfl⟩)
      | (go_at_call 25; (with_reducible refine (unhide C4 _).mono ?_); rintro e w1 ⟨rfl, rfl⟩)
      | (go_at_call 29; (with_reducible refine (unhide CP).mono ?_); rintro e w2 ⟨rfl, hb2⟩))
  go_ret
  exact ⟨ret_bool (by simp), nextB box1 hb2⟩
end Go.Proofs.Ytobiepjnnglglaa
