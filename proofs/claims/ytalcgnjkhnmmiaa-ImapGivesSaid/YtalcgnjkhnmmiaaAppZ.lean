/-
  'append(own, make([]T, k)...)': the row of the call's own, and k zeros behind it. No condition.
-/
import Derived.Test.YtalcgnjkhnmmiaaBase
import Derived.Lib.AppendZerosOnto
namespace Go.Proofs.Ytalcgnjkhnmmiaa
open Go.RowKit

theorem zeroCells_one (z : Value) (k : Nat) : (Builtin.zeroCells #[z] k).toList = List.replicate k z := by
  apply List.ext_getElem?
  intro j
  by_cases hj : j < k
  · simp [Builtin.zeroCells, hj, Nat.mod_one]
  · simp [Builtin.zeroCells, hj]
theorem run_app_zeros {P : Program} {t e : TypeId} {z : Value} {bytes : Nat} (E : Elem P t e z 1 bytes) (hzc : z.cells = #[z]) (hz1c : z.oneCell' = true) (w : World) (tn ty : TypeId) (kn kq : IntKind) (htn : P.underlying tn = some (.int kn)) (base : Nat) (A : Option Addr) (n c : Nat) (xs : List Value)
    (hown : w.ownsRow base e 1 (.slice A n c) n xs) (k : Nat) (q : Int) (hq : q = (k : Int)) (h63 : n + k ≤ maxLen) (hbytes : (n + k) * bytes ≤ 140737488355328) (hbase : base ≤ w.heap.size) :
    ∃ A' c' w', (Builtin.append_ #[t, tn] ty #[.slice A n c, .int kq q]).run P w = .ok (.slice A' (n + k) c') w' ∧ w'.ownsRow base e 1 (.slice A' (n + k) c') (n + k) (xs ++ List.replicate k z) ∧
      n + k ≤ c' ∧ w.grownBy w' (Value.slice A n c).ownBlock := by
  subst hq
  obtain ⟨ht, info, hzs, pos⟩ := E
  obtain ⟨i, hi, hz0, hz1, hz2⟩ := info_parts info
  have hsmall : n + k ≤ 9223372036854775807 := by simp only [maxLen] at h63; omega
  have hlen : (xs ++ List.replicate k z).length = (n + k) * 1 := by rw [List.length_append, hown.1, List.length_replicate]; omega
  have hw : IntKind.i64.wrap (k : Int) = k := by rw [IntKind.wrap_i64]; omega
  have hkb : k * bytes ≤ 140737488355328 := Nat.le_trans (Nat.mul_le_mul_right _ (by omega)) hbytes
  have h48i : ¬ (281474976710656 < (k : Int) * (i.bytes : Int)) := by
    rw [← Int.natCast_mul, hz2]; omega
  have hneg : ¬ ((k : Int) < 0) := by omega
  have hnc : n ≤ c := by
    rcases hown.2 with ⟨h, rfl⟩ | ⟨g, cap, cur, h, _, _, hnc, _⟩
    · omega
    · injection h with _ _ h3; omega
  by_cases hroom : n + k ≤ c
  · rcases hown.2 with ⟨h, rfl⟩ | ⟨g, cap, cur, h, hbg, hg, hnc, hcm, hcs, htake⟩
    · injection h with h1 h2 h3
      subst h1; subst h3
      have hk : k = 0 := by omega
      subst hk
      refine ⟨none, 0, w, ?_, by simpa using hown, by omega, World.grownBy.refl w _⟩
      simp [Builtin.append_, run_underlying ht, run_underlying htn, sizeOf, typeInfo, hi, asInt, asIntOf, IntKind.wrap_i64]
    · injection h with h1 h2 h3
      subst h1; subst h3
      have hfit : n + k ≤ cur.size := by rw [hcs]; omega
      have hst := run_storeCells_at P g n e (List.replicate k z) 0 cur w hg (by simpa using hfit) (fun v hv => by rw [List.eq_of_mem_replicate hv]; exact hz1c)
      simp only [Nat.add_zero] at hst
      obtain ⟨row, hrow⟩ : ∃ row : Array Value, row = (cur.toList.take n ++ List.replicate k z ++ cur.toList.drop (n + k)).toArray := ⟨_, rfl⟩
      refine ⟨some ⟨g, 0, none⟩, c, w.setRow g row, ?_, ⟨hlen, .inr ⟨g, c, row, rfl, hbg, setRow_heap w g cur row e _ hg, hroom, hcm, ?_, ?_⟩⟩, hroom, ⟨rfl, rfl, rfl, by simp, fun k _ hk => setRow_other w g k _ (fun e => hk (by simp [Value.ownBlock, e]))⟩⟩
      · rw [hrow]
        by_cases hk0 : k = 0
        · subst hk0
          have e0 : w.setRow g (cur.toList.take n ++ List.replicate 0 z ++ cur.toList.drop (n + 0)).toArray = w := by
            simp [setRow_self w g cur e (0, 0) hg]
          rw [e0]
          have hnc' : n ≤ c := hnc
          simp [Builtin.append_, run_underlying ht, run_underlying htn, sizeOf, typeInfo, hi, asInt, asIntOf, IntKind.wrap_i64, hnc', storeCells]
        · simp only [List.length_replicate] at hst
          simp [Builtin.append_, run_underlying ht, run_underlying htn, sizeOf, typeInfo, zeroValue, hi, hz0, asInt, asIntOf, hw, hneg, h48i, hz1, hk0, hroom, hzc, zeroCells_one, Addr.add_lit, hst]
      · rw [hrow]; simp; omega
      · have htl : cur.toList.take n = xs := by simpa using htake
        rw [hrow, htl, ← hlen]
        simp only [List.append_assoc]
        rw [← List.append_assoc]
        exact List.take_left
  · have hk0 : 0 < k := by omega
    have holds : (Builtin.firstCells i.size n (.slice A n c)).run P w.drew = .ok xs.toArray w.drew := by
      rw [hz1]
      rcases hown.2 with ⟨h, rfl⟩ | ⟨g, cap, cur, h, hbg, hg, hnc, hcm, hcs, htake⟩
      · injection h with h1 h2 h3
        subst h1
        have hx : xs = [] := List.eq_nil_of_length_eq_zero (by simpa using hown.1)
        subst hx
        simp [Builtin.firstCells]
      · injection h with h1 h2 h3
        subst h1; subst h3
        exact run_firstCells_some (P := P) w.drew 1 n ⟨g, 0, none⟩ n c xs hown.1 (fun j u hj => hown.cells (g := g) rfl j u hj)
    have hr := Lib.run_append_grow_zeros (P := P) w t tn ty e i z kq kn ht htn hi hz0 A n c xs holds k hk0 (by omega) (by omega) (by omega) (by rw [hz2]; omega) (by rw [hz2]; exact growslice_fits (by omega) hbytes)
    have hge := grownCap_ge w (n + k) c e
    have hcm : grownCap w (n + k) c e ≤ maxLen := grownCap_le_maxLen w (n + k) c e h63
    refine ⟨_, _, _, hr, ⟨hlen, .inr ⟨w.heap.size, _, _, rfl, hbase, heap_alloc_new w.drew _, hge, hcm, ?_, ?_⟩⟩, hge, ⟨rfl, rfl, rfl, by simp, fun j hj _ => Below.heap_alloc w.drew _ j hj⟩⟩
    · simp only [Array.size_append, List.size_toArray, size_zeroCells, hzs, hown.1]
      omega
    · simp only [Array.toList_append, hzc, zeroCells_one]
      rw [← hlen]
      exact List.take_left
theorem wpList_app_zeros {P : Program} {t e : TypeId} {z : Value} {bytes : Nat} {w : World} {ops : Array Oper} {rest : List Oper} {o : Oper} {a : Act} {Q : Exit → Act → World → Prop} (hgd : o.guard = none) (s x : Operand) (tn : TypeId)
    (ho : o.op = .call { callee := .builtin .append, args := #[s, x], argTypes := #[t, tn] }) (E : Elem P t e z 1 bytes) (hzc : z.cells = #[z]) (hz1c : z.oneCell' = true) (kn kq : IntKind) (htn : P.underlying tn = some (.int kn)) (base : Nat) (A : Option Addr) (n c : Nat) (xs : List Value) (hs : a.eval s = .slice A n c)
    (hown : w.ownsRow base e 1 (.slice A n c) n xs) (k : Nat) (q : Int) (hx : a.eval x = .int kq q) (hq : q = (k : Int)) (h63 : n + k ≤ maxLen) (hbytes : (n + k) * bytes ≤ 140737488355328) (hbase : base ≤ w.heap.size)
    (h : ∀ A' c' w', w'.ownsRow base e 1 (.slice A' (n + k) c') (n + k) (xs ++ List.replicate k z) → n + k ≤ c' → w.grownBy w' (Value.slice A n c).ownBlock → wpList P ops Q rest (a.put o.dst (.slice A' (n + k) c')) w') : wpList P ops Q (o :: rest) a w := by
  obtain ⟨A', c', w', hrun, h2, h3, h4⟩ := run_app_zeros E hzc hz1c w tn o.type kn kq htn base A n c xs hown k q hq h63 hbytes hbase
  exact Lib.wpList_append_run w hgd s x t tn ho _ _ hs hx _ _ hrun (h A' c' w' h2 h3 h4)
end Go.Proofs.Ytalcgnjkhnmmiaa
