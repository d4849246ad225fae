/- Arrays of numbers are compared as their values are. No condition. -/
import Derived.Test.YtobiepjnnglglaaArr
namespace Go.Proofs.Ytobiepjnnglglaa
open Go.RowKit
section
variable {P : Program} {e : TypeId} {k : IntKind}
theorem run_part_num (hA : P.underlying e = some (.int k)) {l : List Int} {i : Nat} {x : Int} (hx : l[i]? = some x) (w : World) :
    (part e (l.flatMap (fun n => [Value.int k n])).toArray (i * 1)).run P w = .ok (.int k x) w := by
  have h2 : (l.flatMap (fun n => [Value.int k n]))[i]? = some (.int k x) := by
    have := flat_get (f := fun n : Int => [Value.int k n]) (z := 1) (fun _ => rfl) l i x 0 hx (by omega)
    rw [Nat.mul_one, Nat.add_zero] at this
    exact this
  unfold part
  simp [go_sem, hA, h2, isAgg, run_underlying hA]
theorem run_equal_num (d : Nat) (hA : P.underlying e = some (.int k)) (x y : Int) (w : World) : (Op.equalIn (d + 1) e (.int k x) (.int k y)).run P w = .ok (decide (x = y)) w := by
  simp only [Op.equalIn, Sem.run_bind, run_underlying hA, Result.andThen_ok]
  simp [go_sem]
  try rfl
theorem run_eqItems_num (d : Nat) (hA : P.underlying e = some (.int k)) {l m : List Int} (w : World) :
    ∀ (n j : Nat), j + n = l.length → l.length = m.length → (Op.eqItems (d + 1) e 1 (l.flatMap (fun n => [Value.int k n])).toArray (m.flatMap (fun n => [Value.int k n])).toArray (List.range' j n)).run P w = .ok (decide (l.drop j = m.drop j)) w
  | 0, j, h1, h2 => by
    rw [List.drop_eq_nil_of_le (by omega), List.drop_eq_nil_of_le (by omega)]
    simp [Op.eqItems]
  | n + 1, j, h1, h2 => by
    have hx := List.getElem?_eq_getElem (l := l) (i := j) (by omega)
    have hy := List.getElem?_eq_getElem (l := m) (i := j) (by omega)
    have ih := run_eqItems_num d hA (l := l) (m := m) w n (j + 1) (by omega) h2
    rw [List.range'_succ, Op.eqItems]
    simp only [Sem.run_bind, run_part_num hA hx w, run_part_num hA hy w, Result.andThen_ok, run_equal_num d hA]
    rw [List.drop_eq_getElem_cons (l := l) (by omega), List.drop_eq_getElem_cons (l := m) (by omega)]
    simp only [List.cons.injEq]
    by_cases hxy : l[j] = m[j]
    · rw [decide_eq_true hxy]
      simp only [Bool.not_true, Bool.false_eq_true, if_false]
      rw [ih]
      simp only [hxy, true_and]
    · rw [decide_eq_false hxy]
      simp only [hxy, false_and, decide_false, Bool.not_false, if_true, Sem.run_pure]
/-- two arrays of numbers are compared as their values are -/
theorem run_equal_nums {t : TypeId} {d n : Nat} (ht : P.underlying t = some (.array n e)) (hA : P.underlying e = some (.int k)) (hs : (P.info? e).map (·.size) = some 1) {l m : List Int} (h1 : l.length = n) (h2 : m.length = n) (w : World) :
    (Op.equalIn (d + 2) t (.agg (l.flatMap (fun n => [Value.int k n])).toArray) (.agg (m.flatMap (fun n => [Value.int k n])).toArray)).run P w = .ok (decide (l = m)) w := by
  cases hi : P.info? e with
  | none => simp [hi] at hs
  | some i =>
    have hz : P.cellsOf e = 1 := by simp [hi] at hs; simp [Program.cellsOf, hi, hs]
    rw [run_equalIn_array w (d + 1) _ _ ht hi, hz, List.range_eq_range']
    have := run_eqItems_num d hA (l := l) (m := m) w n 0 (by omega) (by omega)
    simpa using this
end
end Go.Proofs.Ytobiepjnnglglaa
