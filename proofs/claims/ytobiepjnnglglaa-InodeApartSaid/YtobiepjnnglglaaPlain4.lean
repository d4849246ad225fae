/- Plain law of layer 1: what is packed is taken out as it was. No condition. -/
import Derived.Test.YtobiepjnnglglaaPlain1
namespace Go.Proofs.Ytobiepjnnglglaa
theorem octs_snoc (v n : Nat) : octs v (n + 1) = octs (v / 256) n ++ [UInt8.ofNat v] := by
  simp only [octs, List.range_succ, List.map_append, List.map_cons, List.map_nil]
  congr 1
  · apply List.map_congr_left
    intro i hi
    have hi : i < n := by simpa using hi
    have e : 8 * (n + 1 - 1 - i) = 8 + 8 * (n - 1 - i) := by omega
    rw [e, Nat.pow_add, ← Nat.div_div_eq_div_mul]
  · have e : n + 1 - 1 - n = 0 := by omega
    rw [e]; simp
theorem beN_octs (v n : Nat) : beN (octs v n) = v % 256 ^ n := by
  induction n generalizing v with
  | zero => simp [octs, beN, Nat.mod_one]
  | succ n ih =>
    rw [octs_snoc, beN_snoc, ih, Nat.pow_succ, Nat.mul_comm (256 ^ n) 256, Nat.mod_mul, UInt8.toNat_ofNat']
    omega
theorem packE_cons {x : Int × Nat} {l : List (Int × Nat)} (h : packE (x :: l) = 0) : 1 ≤ x.1 ∧ x.1 ≤ 8 ∧ (x.1 < 8 → x.2 / 2 ^ (8 * x.1.toNat) = 0) ∧ packE l = 0 := by
  unfold packE at h
  split at h
  · omega
  · split at h
    · omega
    · rename_i h1 h2
      exact ⟨by omega, by omega, fun h3 => by
        rcases Nat.eq_zero_or_pos (x.2 / 2 ^ (8 * x.1.toNat)) with h4 | h4
        · exact h4
        · exact absurd ⟨h3, by omega⟩ h2, h⟩
theorem packB_cons (x : Int × Nat) (l : List (Int × Nat)) : packB (x :: l) = octs x.2 x.1.toNat ++ packB l := by simp [packB]
theorem fits_pow {x : Int × Nat} (h1 : 1 ≤ x.1) (h8 : x.1 ≤ 8) (h : x.1 < 8 → x.2 / 2 ^ (8 * x.1.toNat) = 0) (hv : x.2 < 18446744073709551616) : x.2 < 256 ^ x.1.toNat := by
  have e : 256 ^ x.1.toNat = 2 ^ (8 * x.1.toNat) := by rw [Nat.pow_mul]
  rw [e]
  by_cases h9 : x.1 < 8
  · have := h h9
    rcases Nat.lt_or_ge x.2 (2 ^ (8 * x.1.toNat)) with h' | h'
    · exact h'
    · have := Nat.div_pos h' (Nat.pow_pos (by decide)); omega
  · have : x.1.toNat = 8 := by omega
    rw [this]; exact hv
theorem unpack_pack : ∀ (l : List (Int × Nat)) (bs : List UInt8), packE l = 0 → (∀ x ∈ l, x.2 < 18446744073709551616) →
    okW (l.map (·.1)) = true ∧ sumW (l.map (·.1)) = (packB l).length ∧ nums (packB l ++ bs) (l.map (·.1)) = l.map (·.2)
  | [], bs, _, _ => ⟨rfl, rfl, rfl⟩
  | x :: l, bs, h, hv => by
    obtain ⟨h1, h8, hd, hl⟩ := packE_cons h
    obtain ⟨i1, i2, i3⟩ := unpack_pack l bs hl (fun y hy => hv y (List.mem_cons_of_mem _ hy))
    have hx := fits_pow h1 h8 hd (hv x List.mem_cons_self)
    refine ⟨?_, ?_, ?_⟩
    · rw [List.map_cons]
      unfold okW at i1 ⊢
      simp only [List.all_cons, Bool.and_eq_true, decide_eq_true_eq]
      exact ⟨⟨h1, h8⟩, i1⟩
    · rw [packB_cons, List.length_append, octs_length, List.map_cons, ← i2]
      simp [sumW]
    · rw [packB_cons, List.append_assoc, List.map_cons, List.map_cons]
      unfold nums
      rw [List.take_left' (octs_length _ _), List.drop_left' (octs_length _ _), i3, beN_octs, Nat.mod_eq_of_lt hx]
theorem unpackR_pack (l : List (Int × Nat)) (bs : List UInt8) (h : packE l = 0) (hv : ∀ x ∈ l, x.2 < 18446744073709551616) : unpackR (packB l ++ bs) (l.map (·.1)) = (0, l.map (·.2)) := by
  obtain ⟨i1, i2, i3⟩ := unpack_pack l bs h hv
  unfold unpackR
  rw [if_pos i1, if_pos (by rw [i2, List.length_append]; omega), i3]
theorem ext_pairs : ∀ (l m : List (Int × Nat)), m.map (·.1) = l.map (·.1) → m.map (·.2) = l.map (·.2) → m = l
  | [], [], _, _ => rfl
  | [], _ :: _, h, _ => by simp at h
  | _ :: _, [], h, _ => by simp at h
  | x :: l, y :: m, h1, h2 => by
    simp only [List.map_cons, List.cons.injEq] at h1 h2
    rw [ext_pairs l m h1.2 h2.2, Prod.ext h1.1 h2.1]
theorem packB_same (l m : List (Int × Nat)) (hl : packE l = 0) (hm : packE m = 0) (vl : ∀ x ∈ l, x.2 < 18446744073709551616) (vm : ∀ x ∈ m, x.2 < 18446744073709551616) (hw : m.map (·.1) = l.map (·.1)) :
    packB m = packB l ↔ m.map (·.2) = l.map (·.2) := by
  constructor
  · intro h
    have h1 := (unpack_pack l [] hl vl).2.2
    have h2 := (unpack_pack m [] hm vm).2.2
    rw [h, hw, h1] at h2
    exact h2.symm
  · intro h
    rw [ext_pairs l m hw h]
end Go.Proofs.Ytobiepjnnglglaa
