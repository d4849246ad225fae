/- Plain law of records: numbers that fit their widths. No condition. -/
import Derived.Test.YtobiepjnnglglaaPlain4
namespace Go.Proofs.Ytobiepjnnglglaa
/-- numbers that fit their widths -/
def Fits (l : List (Int × Nat)) : Prop := ∀ x ∈ l, 1 ≤ x.1 ∧ x.1 ≤ 8 ∧ x.2 < 256 ^ x.1.toNat
theorem pow256 (n : Nat) : 256 ^ n = 2 ^ (8 * n) := by rw [show 256 = 2 ^ 8 from rfl, ← Nat.pow_mul]
theorem packE_fits : ∀ {l : List (Int × Nat)}, Fits l → packE l = 0
  | [], _ => rfl
  | x :: l, h => by
    obtain ⟨h1, h2, h3⟩ := h x List.mem_cons_self
    have ih := packE_fits (l := l) fun y hy => h y (List.mem_cons_of_mem _ hy)
    rw [packE, if_neg (by omega), if_neg, ih]
    rintro ⟨_, h4⟩
    exact h4 (Nat.div_eq_of_lt (by rw [← pow256]; exact h3))
theorem packB_len : ∀ l : List (Int × Nat), (packB l).length = sumW (l.map (·.1))
  | [] => rfl
  | x :: l => by
    rw [packB_cons, List.length_append, octs_length, packB_len l]
    simp [sumW]
/-- the octets of a number of a record -/
theorem packB_at {l : List (Int × Nat)} {j : Nat} {x : Int × Nat} (h : l[j]? = some x) (t : List UInt8) :
    ((packB l ++ t).drop (sumW ((l.take j).map (·.1)))).take x.1.toNat = octs x.2 x.1.toNat := by
  have hj : j < l.length := (List.getElem?_eq_some_iff.1 h).1
  have e : l = l.take j ++ (x :: l.drop (j + 1)) := by
    have h2 := List.drop_eq_getElem_cons hj
    have h3 : l[j] = x := by rw [List.getElem?_eq_getElem hj] at h; injection h
    rw [h3] at h2
    rw [← h2, List.take_append_drop]
  have e2 : packB l = packB (l.take j) ++ (octs x.2 x.1.toNat ++ packB (l.drop (j + 1))) := by
    conv => lhs; rw [e]
    rw [packB_append, packB_cons]
  rw [e2, List.append_assoc, List.drop_left' (packB_len _), List.append_assoc, List.take_left' (octs_length _ _)]
/-- a number of a record is read again -/
theorem packB_num {l : List (Int × Nat)} (hf : Fits l) {j : Nat} {x : Int × Nat} (h : l[j]? = some x) (t : List UInt8) :
    beN (((packB l ++ t).drop (sumW ((l.take j).map (·.1)))).take x.1.toNat) = x.2 := by
  rw [packB_at h t, beN_octs, Nat.mod_eq_of_lt (hf x (List.mem_of_getElem? h)).2.2]
theorem packB_num' {l : List (Int × Nat)} (hf : Fits l) (j : Nat) {n : Nat} {v : Nat} {p : Nat} (h : l[j]? = some ((n : Int), v)) (hp : sumW ((l.take j).map (·.1)) = p) (t : List UInt8) :
    beN (((packB l ++ t).drop p).take n) = v := by
  subst hp
  have := packB_num hf h t
  simpa using this
theorem beN_mid {l1 l2 : List (Int × Nat)} {n v p : Nat} (hv : v < 256 ^ n) (hp : sumW (l1.map (·.1)) = p) (t : List UInt8) :
    beN (((packB (l1 ++ ((n : Int), v) :: l2) ++ t).drop p).take n) = v := by
  subst hp
  have h := packB_at (l := l1 ++ ((n : Int), v) :: l2) (j := l1.length) (x := ((n : Int), v)) (by simp) t
  rw [List.take_left' rfl] at h
  rw [Int.toNat_natCast] at h
  rw [h, beN_octs, Nat.mod_eq_of_lt hv]
end Go.Proofs.Ytobiepjnnglglaa
