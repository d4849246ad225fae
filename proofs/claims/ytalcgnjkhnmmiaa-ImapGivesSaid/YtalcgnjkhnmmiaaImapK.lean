import Derived.Test.YtalcgnjkhnmmiaaImapJ
namespace Go.Proofs.Ytalcgnjkhnmmiaa
/-! What is put, dropped and put again: no program in sight. -/
theorem may_set {m : List Slot} {k : Nat} {y : Slot} (hm : mayM m) (hk : 1 ≤ k) (hy : rightS y) : mayM (m.set k y) := by
  refine ⟨fun z hz => ?_, ?_⟩
  · rcases List.mem_or_eq_of_mem_set hz with h | h
    · exact hm.1 z h
    · rw [h]; exact hy
  · rw [List.getElem?_set_ne (by omega)]; exact hm.2
theorem tenth_set {m : List Slot} {k : Nat} {y : Slot} {j : Nat} (h : k / 10 ≠ j) : tenth (m.set k y) j = tenth m j := by
  unfold tenth
  apply List.ext_getElem?
  intro i
  rw [List.getElem?_take, List.getElem?_take]
  split
  · rw [List.getElem?_drop, List.getElem?_drop, List.getElem?_set_ne (by omega)]
  · rfl
theorem chgL_set (m : List Slot) (k : Nat) (y : Slot) : ∀ n, (chgL m (m.set k y) n).length ≤ if k / 10 < n then 1 else 0
  | 0 => by simp [chgL]
  | n + 1 => by
    have ih := chgL_set m k y n
    rw [chgL_succ, List.length_append]
    by_cases h : k / 10 = n
    · rw [if_neg (by omega)] at ih
      rw [if_pos (show k / 10 < n + 1 by omega)]
      generalize (chgL m (m.set k y) n).length = T at ih ⊢
      split
      · show T + 1 ≤ 1; omega
      · show T + 0 ≤ 1; omega
    · rw [tenth_set h, if_neg (by simp)]
      simp only [List.length_nil, Nat.add_zero]
      by_cases h2 : k / 10 < n
      · rw [if_pos h2] at ih; rw [if_pos (by omega)]; exact ih
      · rw [if_neg h2] at ih; rw [if_neg (by omega)]; exact ih
theorem changed_set {m : List Slot} {k : Nat} {y : Slot} : (changedM m (m.set k y)).length ≤ 1 := by
  unfold changedM
  split
  · have := chgL_set m k y 4
    split at this <;> omega
  · simp
theorem slotAt_set {m : List Slot} {k : Nat} {y : Slot} (h : k < m.length) : slotAt (m.set k y) k = y := by
  unfold slotAt; rw [List.getElem?_set_self h]; rfl
theorem slotAt_set_ne {m : List Slot} {k j : Nat} {y : Slot} (h : k ≠ j) : slotAt (m.set k y) j = slotAt m j := by
  unfold slotAt; rw [List.getElem?_set_ne h]
theorem thereL_set {m : List Slot} {k : Nat} {y z : Slot} (hk : k < m.length) (hy : 0 < y.a) (hz : ¬ 0 < z.a) : ∀ n, (thereL (m.set k y) n).length = (thereL (m.set k z) n).length + if k < n then 1 else 0
  | 0 => by simp [thereL]
  | n + 1 => by
    have ih := thereL_set hk hy hz n
    rw [thereL_succ, thereL_succ, List.length_append, List.length_append, ih]
    generalize (thereL (m.set k z) n).length = T
    by_cases h : k = n
    · subst h
      rw [slotAt_set hk, slotAt_set hk, if_pos hy, if_neg hz, if_neg (show ¬ k < k by omega), if_pos (show k < k + 1 by omega)]
      simp
    · rw [slotAt_set_ne h, slotAt_set_ne h]
      by_cases h2 : k < n
      · rw [if_pos h2, if_pos (show k < n + 1 by omega)]; omega
      · rw [if_neg h2, if_neg (show ¬ k < n + 1 by omega)]; omega
structure Moved (m : List Slot) (i : Int) (a : Int) (s : Nat) (k : Nat) (v : Int) (X1 X2 : List Slot) : Prop where
  at_ : i = (k : Int)
  k1 : 1 ≤ k
  k40 : k < 40
  l1 : X1.length = 40
  l2 : X2.length = 40
  old : ∃ x : Slot, m[k]? = some x ∧ x.v = v
  x1 : X1[k]? = some ⟨a, s, v⟩
  drop : dropM X1 (k : Int) = (X2, 0)
  put : putM X2 (k : Int) a s = (X1, 0)
  chg : (changedM m X1).length ≤ 1
  there : (thereM X1).length = (thereM X2).length + 1
  same : ∀ j : Nat, j < 40 → j ≠ k → ∃ x, m[j]? = some x ∧ X1[j]? = some x ∧ X2[j]? = some x
theorem put_moved {m : List Slot} {i a : Int} {s : Nat} (h40 : m.length = 40) {X1 : List Slot} (h : putM m i a s = (X1, 0)) : ∃ k v X2, Moved m i a s k v X1 X2 := by
  unfold putM at h
  split at h
  · rename_i hw; injection h with _ h; exact absurd h hw
  rename_i hw
  split at h
  · injection h with _ h; cases h
  rename_i hp
  injection h with h _
  have hw : wrongM m i = 0 := by simpa using hw
  unfold wrongM at hw
  split at hw
  · cases hw
  rename_i hm
  have hm : mayM m := by simpa using hm
  split at hw
  · cases hw
  rename_i hi
  obtain ⟨k, rfl⟩ := Int.eq_ofNat_of_zero_le (show 0 ≤ i by omega)
  rw [Int.toNat_natCast] at h
  obtain ⟨x, hx⟩ : ∃ x, m[k]? = some x := ⟨_, List.getElem?_eq_getElem (by rw [h40]; omega)⟩
  have hr := hm.1 x (List.mem_of_getElem? hx)
  rw [slotAt_get hx] at h
  have hkl : k < m.length := by omega
  have hp1 : 1 ≤ a := by omega
  have hp2 : ptrR a s := by
    rcases Classical.em (ptrR a s) with h | h
    · exact h
    · exact absurd (.inr h) hp
  have r1 : rightS ⟨a, s, x.v⟩ := ⟨hp2, hr.2⟩
  have r2 : rightS ⟨0, 0, x.v⟩ := ⟨by unfold ptrR; simp, hr.2⟩
  have m1 := may_set hm (show 1 ≤ k by omega) r1
  have m2 := may_set hm (show 1 ≤ k by omega) r2
  subst h
  have wr : ∀ y, mayM (m.set k y) → wrongM (m.set k y) (k : Int) = 0 := by
    intro y hy
    unfold wrongM
    rw [if_neg (by simp [hy]), if_neg (by omega)]
  refine ⟨k, x.v, m.set k ⟨0, 0, x.v⟩, rfl, by omega, by omega, by rw [List.length_set]; exact h40, by rw [List.length_set]; exact h40, ⟨x, hx, rfl⟩, List.getElem?_set_self hkl, ?_, ?_, changed_set, ?_, fun j hj hne => ?_⟩
  · unfold dropM
    rw [wr _ m1, if_neg (by simp), Int.toNat_natCast, slotAt_set hkl, if_neg (by simp; omega), List.set_set]
  · unfold putM
    rw [wr _ m2, if_neg (by simp), if_neg (by rintro (h | h) <;> first | omega | exact h hp2), Int.toNat_natCast, slotAt_set hkl, List.set_set]
  · unfold thereM
    rw [if_pos m1, if_pos m2, thereL_set hkl (z := ⟨0, 0, x.v⟩) (by simp; omega) (by simp) 40, if_pos (by omega)]
  · obtain ⟨y, hy⟩ : ∃ y, m[j]? = some y := ⟨_, List.getElem?_eq_getElem (by rw [h40]; exact hj)⟩
    exact ⟨y, hy, by rw [List.getElem?_set_ne (by omega)]; exact hy, by rw [List.getElem?_set_ne (by omega)]; exact hy⟩
theorem freeM_ok {m : List Slot} (h40 : m.length = 40) {n : Int} (h : freeM m = (n, 0)) : ∃ (k : Nat) (x : Slot), n = (k : Int) ∧ 1 ≤ k ∧ k < 40 ∧ m[k]? = some x ∧ x.a = 0 := by
  unfold freeM at h
  split at h
  · injection h with _ h; cases h
  split at h
  · rename_i k hk
    injection h with h _
    have h1 := List.find?_some hk
    have h2 := List.mem_range.1 (List.mem_of_find?_eq_some hk)
    simp only [Bool.and_eq_true, decide_eq_true_eq] at h1
    obtain ⟨x, hx⟩ : ∃ x, m[k]? = some x := ⟨_, List.getElem?_eq_getElem (by rw [h40]; exact h2)⟩
    rw [slotAt_get hx] at h1
    exact ⟨k, x, h.symm, h1.1, h2, hx, h1.2⟩
  · injection h with _ h; cases h
end Go.Proofs.Ytalcgnjkhnmmiaa
