/- Plain law of layer 5: supers and labels. No condition. -/
import Derived.Test.YtfpclheplipjfaaPlainC
import Derived.Test.YtfpclheplipjfaaPlain2
import Derived.Test.YtfpclheplipjfaaPlain3
namespace Go.Proofs.Ytfpclheplipjfaa
def haymB : List UInt8 := [104, 97, 121, 109]
def hvolB : List UInt8 := [104, 118, 111, 108]
/-- a number that the program lays, of so many octets: what is below 0 doesn't fit -/
def numL (v : Int) : Nat := if v < 0 then 9223372036854775808 else v.toNat
/-- a sealed block that begins so: its octets, the error's number -/
def sealedR (s : List UInt8) (l : List (Int × Nat)) : List UInt8 × Int := if packE l = 0 then (sealB (s ++ packB l), 0) else ([], 1)
def superN (D L V S : Int) : List (Int × Nat) := [(2, D.toNat), (2, L.toNat), (1, V.toNat), (2, S.toNat)]
def superB (D L V S : Int) : List UInt8 := sealB (haymB ++ packB (superN D L V S))
def superR (D L V S : Int) : List UInt8 × Int := if mayG D L V S then (superB D L V S, 0) else ([], 1)
def mayL (v g : Int) : Prop := 0 ≤ v ∧ v < 8 ∧ 0 ≤ g ∧ g ≤ 4294967295
instance (v g : Int) : Decidable (mayL v g) := by unfold mayL; exact inferInstance
def labelN (v g : Int) : List (Int × Nat) := [(1, v.toNat), (4, g.toNat)]
def labelB (v g : Int) : List UInt8 := sealB (hvolB ++ packB (labelN v g))
def labelR (v g : Int) : List UInt8 × Int := if mayL v g then (labelB v g, 0) else ([], 1)
theorem numL_pos {v : Int} (h : 0 ≤ v) : numL v = v.toNat := if_neg (by omega)
theorem superN_fits {D L V S : Int} (h : mayG D L V S) : Fits (superN D L V S) := by
  unfold mayG at h
  intro x hx
  simp only [superN, List.mem_cons, List.not_mem_nil, or_false] at hx
  rcases hx with rfl | rfl | rfl | rfl
  · exact ⟨by simp, by simp, by show D.toNat < 256 ^ 2; omega⟩
  · exact ⟨by simp, by simp, by show L.toNat < 256 ^ 2; omega⟩
  · exact ⟨by simp, by simp, by show V.toNat < 256 ^ 1; omega⟩
  · exact ⟨by simp, by simp, by show S.toNat < 256 ^ 2; omega⟩
theorem super_sealed {D L V S : Int} (h : mayG D L V S) : sealedR haymB [(2, numL D), (2, numL L), (1, numL V), (2, numL S)] = (superB D L V S, 0) := by
  have hf := superN_fits h
  unfold mayG at h
  rw [numL_pos (show 0 ≤ D by omega), numL_pos (show 0 ≤ L by omega), numL_pos (show 0 ≤ V by omega), numL_pos (show 0 ≤ S by omega)]
  unfold sealedR
  have := packE_fits hf
  unfold superN at this
  rw [if_pos this]
  rfl
theorem packE_two (a b : Nat) : packE [(1, a), (4, b)] = 0 ↔ a / 2 ^ 8 = 0 ∧ b / 2 ^ 32 = 0 := by
  have e : packE [(1, a), (4, b)] = if a / 2 ^ 8 ≠ 0 then 19 else if b / 2 ^ 32 ≠ 0 then 19 else 0 := by simp [packE]
  rw [e]
  by_cases h1 : a / 2 ^ 8 = 0
  · rw [if_neg (by simpa using h1)]
    by_cases h2 : b / 2 ^ 32 = 0
    · rw [if_neg (by simpa using h2)]; exact ⟨fun _ => ⟨h1, h2⟩, fun _ => rfl⟩
    · rw [if_pos h2]; exact ⟨fun h => (by cases h), fun h => absurd h.2 h2⟩
  · rw [if_pos h1]; exact ⟨fun h => (by cases h), fun h => absurd h.1 h1⟩
theorem label_sealed {v g : Int} (h0 : 0 ≤ v) (h8 : v < 8) : sealedR hvolB [(1, numL v), (4, numL g)] = labelR v g := by
  unfold sealedR labelR
  by_cases h : mayL v g
  · have hp : packE [(1, numL v), (4, numL g)] = 0 := by
      unfold mayL at h
      rw [packE_two, numL_pos h0, numL_pos h.2.2.1]
      omega
    rw [if_pos hp, if_pos h, numL_pos h0, numL_pos h.2.2.1]
    rfl
  · have hp : ¬ packE [(1, numL v), (4, numL g)] = 0 := by
      rw [packE_two]
      unfold mayL at h
      unfold numL
      split <;> split <;> omega
    rw [if_neg hp, if_neg h]
/-- the numbers that stand in a super, in a label -/
def sup (b : List UInt8) (p n : Nat) : Nat := beN ((b.drop p).take n)
def readS (b : List UInt8) : (Int × Int × Int × Int) × Int :=
  if heldB b = false then ((0, 0, 0, 0), 5) else if mayG (sup b 4 2) (sup b 6 2) (sup b 8 1) (sup b 9 2) ∧ superB (sup b 4 2) (sup b 6 2) (sup b 8 1) (sup b 9 2) = b then ((sup b 4 2, sup b 6 2, sup b 8 1, sup b 9 2), 0) else ((0, 0, 0, 0), 3)
def readL (b : List UInt8) : (Int × Int) × Int :=
  if heldB b = false then ((0, 0), 5) else if mayL (sup b 4 1) (sup b 5 4) ∧ labelB (sup b 4 1) (sup b 5 4) = b then ((sup b 4 1, sup b 5 4), 0) else ((0, 0), 3)
theorem held_len {b : List UInt8} (h : heldB b = true) : b.length = 128 := by
  unfold heldB at h
  simp only [Bool.and_eq_true, decide_eq_true_eq] at h
  exact h.1
theorem sup_lt (b : List UInt8) (p n : Nat) : sup b p n < 256 ^ n := by
  unfold sup
  exact Nat.lt_of_lt_of_le (beN_lt _) (Nat.pow_le_pow_right (by omega) (List.length_take_le _ _))
theorem sealB_begins (s t : List UInt8) (h : (s ++ t).length ≤ 124) : (sealB (s ++ t)).take s.length = s := by
  have h2 := sealB_take _ h
  have h3 : (sealB (s ++ t)).take s.length = ((sealB (s ++ t)).take 124).take s.length := by rw [List.take_take, Nat.min_eq_left (by simp at h; omega)]
  rw [h3, h2]
  unfold fill124
  rw [List.append_assoc, List.take_left' rfl]
theorem superN_len (D L V S : Int) : (packB (superN D L V S)).length = 7 := by rw [packB_len]; rfl
theorem labelN_len (v g : Int) : (packB (labelN v g)).length = 5 := by rw [packB_len]; rfl
theorem super_begins (D L V S : Int) : (superB D L V S).take 4 = haymB := sealB_begins haymB _ (by rw [List.length_append, superN_len]; decide)
theorem label_begins (v g : Int) : (labelB v g).take 4 = hvolB := sealB_begins hvolB _ (by rw [List.length_append, labelN_len]; decide)
theorem superB_len (D L V S : Int) : (superB D L V S).length = 128 := sealB_length _ (by rw [List.length_append, superN_len]; decide)
theorem labelB_len (v g : Int) : (labelB v g).length = 128 := sealB_length _ (by rw [List.length_append, labelN_len]; decide)
theorem nums_super (b : List UInt8) (h : b.length = 128) : unpackR (b.drop 4) [2, 2, 1, 2] = (0, [sup b 4 2, sup b 6 2, sup b 8 1, sup b 9 2]) := by
  rw [unpackR, if_pos (by decide), if_pos (by rw [List.length_drop, h]; decide)]
  simp [nums, List.drop_drop, sup]
theorem nums_label (b : List UInt8) (h : b.length = 128) : unpackR (b.drop 4) [1, 4] = (0, [sup b 4 1, sup b 5 4]) := by
  rw [unpackR, if_pos (by decide), if_pos (by rw [List.length_drop, h]; decide)]
  simp [nums, List.drop_drop, sup]
end Go.Proofs.Ytfpclheplipjfaa
