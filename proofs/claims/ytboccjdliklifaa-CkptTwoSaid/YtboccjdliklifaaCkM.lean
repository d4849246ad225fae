/- Checkpoints are compared as their values are. No condition. -/
import Derived.Test.YtboccjdliklifaaArrN
import Derived.Test.YtboccjdliklifaaCkD
namespace Go.Proofs.Ytboccjdliklifaa
open Go.RowKit
deriving instance DecidableEq for Ck
theorem eqPtr (d : Nat) : EqEl Try.prog 24 (d + 2) ptrC (fun _ => True) := by
  intro x y w _ _
  obtain ⟨a, s⟩ := x
  obtain ⟨a', s'⟩ := y
  have h : (Op.equalIn (d + 2) 24 (.agg #[.int .i64 a, .int .u32 (s : Int)]) (.agg #[.int .i64 a', .int .u32 (s' : Int)])).run Try.prog w = .ok (a == a' && (s : Int) == (s' : Int)) w := by
    rw [run_equalIn_struct w _ _ _ _ (by kernel_rfl) (by kernel_rfl)]
    simp [go_sem]
    by_cases h1 : a = a' <;> by_cases h2 : (s : Int) = (s' : Int) <;> simp [h1, h2]
  refine h.trans ?_
  congr 1
  rw [Bool.eq_iff_iff]
  simp only [Bool.and_eq_true, beq_iff_eq, decide_eq_true_iff, Prod.mk.injEq]
  constructor
  · rintro ⟨h1, h2⟩; exact ⟨h1, by omega⟩
  · rintro ⟨h1, h2⟩; exact ⟨h1, by omega⟩
theorem ckC_drop3 {c : Ck} (h4 : c.map.length = 4) : (List.drop 3 (ckC c)).take 8 = c.map.flatMap ptrC := by
  have hf : (c.map.flatMap ptrC).length = 8 := by rw [flat_length ptrC_len, h4]
  unfold ckC
  show ((c.map.flatMap ptrC ++ c.used.flatMap (fun n => [i64v n]))).take 8 = _
  rw [List.take_append_of_le_length (by omega), List.take_of_length_le (by omega)]
theorem ckC_drop11 {c : Ck} (h4 : c.map.length = 4) (h8 : c.used.length = 8) : (List.drop 11 (ckC c)).take 8 = c.used.flatMap (fun n => [Value.int .i64 n]) := by
  have hf : (c.map.flatMap ptrC).length = 8 := by rw [flat_length ptrC_len, h4]
  have hu : (c.used.flatMap (fun n => [Value.int .i64 n])).length = 8 := by rw [flat_length (z := 1) (fun _ => rfl), h8]
  unfold ckC
  show ((c.map.flatMap ptrC ++ c.used.flatMap (fun n => [Value.int .i64 n])).drop 8).take 8 = _
  rw [← hf, List.drop_left, hf, List.take_of_length_le (by omega)]
theorem ck_eq {c m : Ck} (h1 : c.map.length = 4) (h2 : c.used.length = 8) (h3 : m.map.length = 4) (h4 : m.used.length = 8) (w : World) :
    (Op.equalIn 10000 28 (.agg (ckC c).toArray) (.agg (ckC m).toArray)).run Try.prog w = .ok (decide (c = m)) w := by
  have e1 : ∀ w, (Op.equalIn 9999 25 (.agg (c.map.flatMap ptrC).toArray) (.agg (m.map.flatMap ptrC).toArray)).run Try.prog w = .ok (decide (c.map = m.map)) w := run_equal_flat (d := 9998) Try.arrM4 Try.widePtr ptrC_len (eqPtr 9996) (l := c.map) (m := m.map) (fun _ _ => trivial) (fun _ _ => trivial) h1 h3
  have e2 : ∀ w, (Op.equalIn 9999 26 (.agg (c.used.flatMap (fun n => [Value.int .i64 n])).toArray) (.agg (m.used.flatMap (fun n => [Value.int .i64 n])).toArray)).run Try.prog w = .ok (decide (c.used = m.used)) w := run_equal_nums (d := 9997) Try.arrUs8 Try.underlying3 (by kernel_rfl) (l := c.used) (m := m.used) h2 h4
  have a0 := ckC_drop3 h1; have a1 := ckC_drop3 h3; have a2 := ckC_drop11 h1 h2; have a3 := ckC_drop11 h3 h4
  have c0 : (ckC c)[0]? = some (.int .i64 c.seq) := rfl
  have c1 : (ckC c)[1]? = some (.int .i64 c.nx) := rfl
  have c2 : (ckC c)[2]? = some (.int .i64 c.at_) := rfl
  have m0 : (ckC m)[0]? = some (.int .i64 m.seq) := rfl
  have m1 : (ckC m)[1]? = some (.int .i64 m.nx) := rfl
  have m2 : (ckC m)[2]? = some (.int .i64 m.at_) := rfl
  rw [run_equalIn_struct w _ _ _ _ (by kernel_rfl) (by kernel_rfl)]
  obtain ⟨s, n, a, p, u⟩ := c
  obtain ⟨s', n', a', p', u'⟩ := m
  simp only at *
  generalize ckC ⟨s, n, a, p, u⟩ = L at *
  generalize ckC ⟨s', n', a', p', u'⟩ = M at *
  simp [go_sem, c0, c1, c2, m0, m1, m2, a0, a1, a2, a3, e1, e2]
  by_cases g0 : s = s' <;> by_cases g1 : n = n' <;> by_cases g2 : a = a' <;> by_cases g3 : p = p' <;> by_cases g4 : u = u' <;> simp [g0, g1, g2, g3, g4]
end Go.Proofs.Ytboccjdliklifaa
