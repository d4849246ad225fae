/- Arrays of structs: as one value, in a block; read, written, compared. No condition. -/
import Derived.Test.YtobiepjnnglglaaBase
import Derived.Laws.Rows
import Derived.Laws.ResultCell
import Derived.Laws.Tables
import Derived.DeepKeys
namespace Go.Proofs.Ytobiepjnnglglaa
open Go.RowKit

/-- a type whose values are several cells: how many -/
structure Wide (P : Program) (e : TypeId) (z : Nat) : Prop where
  agg : (match P.underlying e with | some (.struct _) => true | some (.array _ _) => true | _ => false) = true
  size : (P.info? e).map (·.size) = some z
theorem Wide.isAgg {P : Program} {e : TypeId} {z : Nat} (h : Wide P e z) (w : World) : (Go.isAgg e).run P w = .ok true w := by
  have := h.agg
  cases hu : P.underlying e with
  | none => rw [hu] at this; simp at this
  | some d =>
    rw [hu] at this
    unfold Go.isAgg
    rw [Sem.run_bind, run_underlying hu w]
    cases d <;> simp_all
theorem Wide.sizeOf {P : Program} {e : TypeId} {z : Nat} (h : Wide P e z) (w : World) : (Go.sizeOf e).run P w = .ok z w := by
  have := h.size
  cases hq : P.info? e with
  | none => simp [hq] at this
  | some i => simp [hq] at this; simp [Go.sizeOf, typeInfo, hq, this]
theorem results_cell_row_tmp {P : Program} {fn : Func} {p u : Tmp} {ty : TypeId} (h : fn.results = #[.cell p ty, .tmp u]) (tmps : Array Value) (w : World) (g : Nat) (t : TypeId) (cs : Array Value) (fr : Nat × Nat) (d : TypeDesc)
    (hp : tmps.getD p undef = .pointer (some ⟨g, 0, none⟩)) (hg : w.heap[g]? = some (.cells cs t fr))
    (hu : P.underlying ty = some d) (hd : (match d with | .struct _ | .array _ _ => true | _ => false) = true) (hi : (P.info? ty).map (·.size) = some cs.size) :
    (results fn tmps).run P w = .ok (.tuple #[.agg cs, tmps.getD u undef]) w := by
  rw [results_cell_tmp h, hp]
  simp [asAddr, Result.andThen, run_loadVar_row w g t ty cs fr d hg hu hd hi]
/-- 'T{}', known as cs -/
theorem wpList_built {P : Program} {w : World} {ops : Array Oper} {rest : List Oper} {o : Oper} {a : Act} {Q : Exit → Act → World → Prop} (hgd : o.guard = none) (t : TypeId) (ho : o.op = .build t #[]) (cs : Array Value) (hb : P.built t [] = some cs)
    (h : wpList P ops Q rest (a.put o.dst (.agg cs)) w) : wpList P ops Q (o :: rest) a w := by
  refine wpList_build hgd t #[] ho (by simp [hb]) ?_
  simpa [hb] using h
/-- a whole variable is read, in a guarded operation -/
theorem wpList_load_row_g {P : Program} {w : World} {ops : Array Oper} {rest : List Oper} {o : Oper} {a : Act} {Q : Exit → Act → World → Prop} (hgd : Region.wanted o (yielded ops a.tmps) = true) (ty : TypeId) (x : Operand) (ho : o.op = .load ty x)
    (g : Nat) (hx : a.eval x = .pointer (some ⟨g, 0, none⟩)) (t : TypeId) (cs : Array Value) (fr : Nat × Nat) (d : TypeDesc) (hg : w.heap[g]? = some (.cells cs t fr))
    (hu : P.underlying ty = some d) (hd : (match d with | .struct _ | .array _ _ => true | _ => false) = true) (hi : (P.info? ty).map (·.size) = some cs.size)
    (h : wpList P ops Q rest (a.put o.dst (.agg cs)) w) : wpList P ops Q (o :: rest) a w := by
  rw [wpList, if_pos hgd]
  exact .inl (wp_load_row ty x ho g hx t cs fr d hg hu hd hi h)
section
variable {α : Type} {f : α → List Value} {z : Nat}
theorem flat_extract (hf : ∀ x, (f x).length = z) {l : List α} {i : Nat} {x : α} (hx : l[i]? = some x) : (l.flatMap f).toArray.extract (i * z) (i * z + z) = (f x).toArray := by
  have hi : i < l.length := (List.getElem?_eq_some_iff.1 hx).1
  apply Array.toList_inj.1
  rw [Array.toList_extract]
  apply List.ext_getElem?
  intro j
  simp only [List.extract_eq_take_drop]
  rcases Nat.lt_or_ge j z with hj | hj
  · rw [List.getElem?_take, if_pos (by omega), List.getElem?_drop, flat_get hf l i x j hx hj]
  · rw [List.getElem?_take, if_neg (by omega), List.getElem?_eq_none (by simp [hf]; exact hj)]
theorem run_part_flat {P : Program} {e : TypeId} (W : Wide P e z) (hf : ∀ x, (f x).length = z) {l : List α} {i : Nat} {x : α} (hx : l[i]? = some x) (w : World) :
    (part e (l.flatMap f).toArray (i * z)).run P w = .ok (.agg (f x).toArray) w := by
  unfold part
  simp only [Sem.run_bind, W.isAgg w, Result.andThen_ok, if_true, W.sizeOf w, Sem.run_pure, flat_extract hf hx]
/-- 'a[i]' of an array by value -/
theorem run_index_flat {P : Program} {t e : TypeId} {n : Nat} (ht : P.underlying t = some (.array n e)) (W : Wide P e z) (hf : ∀ x, (f x).length = z) {l : List α} {x : α} (k : IntKind) (i : Nat) (hn : i < n) (hx : l[i]? = some x) (w : World) :
    (Instr.index t (.agg (l.flatMap f).toArray) (.int k (i : Int))).run P w = .ok (.agg (f x).toArray) w := by
  have h1 : (0 : Int) ≤ (i : Int) ∧ (i : Int) < (n : Int) := by omega
  simp only [Instr.index, asIntOf, Sem.run_bind, Sem.run_pure, Result.andThen_ok, run_underlying ht w, h1, and_self, if_true, W.sizeOf w, Int.toNat_natCast]
  rw [run_part_flat W hf hx w]
/-- elements are compared as their values are -/
def EqEl (P : Program) (e : TypeId) (d : Nat) (f : α → List Value) [DecidableEq α] (Q : α → Prop) : Prop :=
  ∀ x y w, Q x → Q y → (Op.equalIn d e (.agg (f x).toArray) (.agg (f y).toArray)).run P w = .ok (decide (x = y)) w
theorem run_eqItems_flat [DecidableEq α] {P : Program} {e : TypeId} {d : Nat} {Q : α → Prop} (W : Wide P e z) (hf : ∀ x, (f x).length = z) (E : EqEl P e d f Q) {l m : List α} (hl : ∀ x ∈ l, Q x) (hm : ∀ x ∈ m, Q x) (w : World) :
    ∀ (n k : Nat), k + n = l.length → l.length = m.length → (Op.eqItems d e z (l.flatMap f).toArray (m.flatMap f).toArray (List.range' k n)).run P w = .ok (decide (l.drop k = m.drop k)) w
  | 0, k, h1, h2 => by
    rw [List.drop_eq_nil_of_le (by omega), List.drop_eq_nil_of_le (by omega)]
    simp [Op.eqItems]
  | n + 1, k, h1, h2 => by
    have hx := List.getElem?_eq_getElem (l := l) (i := k) (by omega)
    have hy := List.getElem?_eq_getElem (l := m) (i := k) (by omega)
    have ih := run_eqItems_flat W hf E hl hm w n (k + 1) (by omega) h2
    rw [List.range'_succ, Op.eqItems]
    simp only [Sem.run_bind, run_part_flat W hf hx w, run_part_flat W hf hy w, Result.andThen_ok, E _ _ w (hl _ (List.getElem_mem _)) (hm _ (List.getElem_mem _))]
    rw [List.drop_eq_getElem_cons (l := l) (by omega), List.drop_eq_getElem_cons (l := m) (by omega)]
    simp only [List.cons.injEq]
    by_cases hxy : l[k] = m[k]
    · rw [decide_eq_true hxy]
      simp only [Bool.not_true, Bool.false_eq_true, if_false]
      rw [ih]
      simp only [hxy, true_and]
    · rw [decide_eq_false hxy]
      simp only [hxy, false_and, decide_false, Bool.not_false, if_true, Sem.run_pure]
/-- two arrays are compared as their values are -/
theorem run_equal_flat [DecidableEq α] {P : Program} {t e : TypeId} {d n : Nat} {Q : α → Prop} (ht : P.underlying t = some (.array n e)) (W : Wide P e z) (hf : ∀ x, (f x).length = z) (E : EqEl P e d f Q) {l m : List α} (hl : ∀ x ∈ l, Q x) (hm : ∀ x ∈ m, Q x)
    (h1 : l.length = n) (h2 : m.length = n) (w : World) : (Op.equalIn (d + 1) t (.agg (l.flatMap f).toArray) (.agg (m.flatMap f).toArray)).run P w = .ok (decide (l = m)) w := by
  have hs := W.size
  cases hi : P.info? e with
  | none => simp [hi] at hs
  | some i =>
    have hz : P.cellsOf e = z := by simp [hi] at hs; simp [Program.cellsOf, hi, hs]
    rw [run_equalIn_array w d _ _ ht hi, hz, List.range_eq_range']
    have := run_eqItems_flat W hf E hl hm w n 0 (by omega) (by omega)
    simpa using this
/-- a block that is an array: its cells -/
theorem Blk.flat_cell (hf : ∀ x, (f x).length = z) {w : World} {g : Nat} {t : TypeId} {l : List α} (h : Blk w g t (l.flatMap f).toArray) {i : Nat} {x : α} (hx : l[i]? = some x) {j : Nat} {u : Value} (hu : (f x)[j]? = some u) :
    w.cell? ⟨g, i * z + j, none⟩ = some u := by
  have hj : j < z := by
    have := (List.getElem?_eq_some_iff.1 hu).1
    rwa [hf] at this
  refine h.cell_ _ _ ?_
  rw [List.getElem?_toArray, flat_get hf l i x j hx hj, hu]
theorem flat_set (hf : ∀ x, (f x).length = z) : ∀ (l : List α) (i : Nat) (x x' : α) (j : Nat) (u : Value), l[i]? = some x → j < z → f x' = (f x).set j u → (l.flatMap f).set (i * z + j) u = (l.set i x').flatMap f
  | [], i, x, x', j, u, h, _, _ => by simp at h
  | y :: l, 0, x, x', j, u, h, hj, he => by
    simp at h; subst h
    rw [List.set_cons_zero, List.flatMap_cons, List.flatMap_cons, Nat.zero_mul, Nat.zero_add, List.set_append_left _ _ (by rw [hf]; exact hj), he]
  | y :: l, i + 1, x, x', j, u, h, hj, he => by
    have ih := flat_set hf l i x x' j u (by simpa using h) hj he
    rw [List.set_cons_succ, List.flatMap_cons, List.flatMap_cons, List.set_append_right _ _ (by rw [hf, Nat.succ_mul]; omega), hf, ← ih]
    congr 2
    rw [Nat.succ_mul]; omega
/-- a cell of it is written -/
theorem Blk.flat_put (hf : ∀ x, (f x).length = z) {w : World} {g : Nat} {t : TypeId} {l : List α} (h : Blk w g t (l.flatMap f).toArray) {i : Nat} {x x' : α} (hx : l[i]? = some x) {j : Nat} (hj : j < z) {u : Value} (he : f x' = (f x).set j u) :
    Blk (w.setCell ⟨g, i * z + j, none⟩ u) g t ((l.set i x').flatMap f).toArray := by
  have := h.put (i * z + j) u
  rwa [List.setIfInBounds_toArray, flat_set hf l i x x' j u hx hj he] at this
theorem flat_one {l : List α} (h : ∀ x, ∀ u ∈ f x, u.oneCell' = true) : (l.flatMap f).toArray.all (·.oneCell') = true := by
  rw [Array.all_eq_true_iff_forall_mem]
  intro v hv
  obtain ⟨x, _, hx⟩ := List.mem_flatMap.1 (by simpa using hv)
  exact h x v hx
end
end Go.Proofs.Ytobiepjnnglglaa
