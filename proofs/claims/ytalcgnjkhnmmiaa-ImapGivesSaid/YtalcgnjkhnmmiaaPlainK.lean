/- Plain law of layer 12: a map's block is read. No condition. -/
import Derived.Test.YtalcgnjkhnmmiaaPlainJ
namespace Go.Proofs.Ytalcgnjkhnmmiaa
def slotB (b : List UInt8) (i : Nat) : Slot := ⟨(beN ((b.drop (5 + 12 * i)).take 4) : Nat), beN ((b.drop (5 + 12 * i + 4)).take 4), (beN ((b.drop (5 + 12 * i + 8)).take 4) : Nat)⟩
/-- a map with the first slots of a block -/
def putB (m : List Slot) (k : Nat) (b : List UInt8) : Nat → List Slot
  | 0 => m
  | i + 1 => (putB m k b i).set (10 * k + i) (slotB b i)
/-- a map's block is read: the map, the error's number -/
def decM (m : List Slot) (k : Int) (b : List UInt8) : List Slot × Int :=
  if ¬ mayM m then (map0, 1) else if k < 0 ∨ 3 < k then (map0, 4) else if b.length ≠ 128 then (map0, 3) else
  if mayM (putB m k.toNat b 10) ∧ encB (putB m k.toNat b 10) k.toNat = b then (putB m k.toNat b 10, 0) else (map0, 3)
theorem putB_len {m : List Slot} (h40 : m.length = 40) (k : Nat) (b : List UInt8) : ∀ i, (putB m k b i).length = 40
  | 0 => h40
  | i + 1 => by rw [putB, List.length_set]; exact putB_len h40 k b i
theorem beN4 (b : List UInt8) : beN (b.take 4) < 4294967296 := by
  refine Nat.lt_of_lt_of_le (beN_lt _) ?_
  refine Nat.le_trans (Nat.pow_le_pow_right (by omega) (List.length_take_le 4 b)) (by decide)
theorem putB_s {m : List Slot} (hs : ∀ x ∈ m, x.s < 4294967296) (k : Nat) (b : List UInt8) : ∀ i, ∀ x ∈ putB m k b i, x.s < 4294967296
  | 0 => hs
  | i + 1 => by
    intro x hx
    rcases List.mem_or_eq_of_mem_set hx with h | h
    · exact putB_s hs k b i x h
    · rw [h]; exact beN4 _
theorem unpack444 (b : List UInt8) (p : Nat) (h : p + 12 ≤ b.length) :
    unpackR (b.drop p) [4, 4, 4] = (0, [beN ((b.drop p).take 4), beN ((b.drop (p + 4)).take 4), beN ((b.drop (p + 8)).take 4)]) := by
  have h1 : okW [4, 4, 4] = true := by decide
  have h2 : sumW [4, 4, 4] = 12 := by decide
  rw [unpackR, if_pos h1, if_pos (by rw [h2, List.length_drop]; omega)]
  simp [nums, List.drop_drop]
theorem decM_len {m : List Slot} (h40 : m.length = 40) (k : Int) (b : List UInt8) : (decM m k b).1.length = 40 := by
  unfold decM
  split
  · rfl
  split
  · rfl
  split
  · rfl
  split
  · exact putB_len h40 _ _ _
  · rfl
end Go.Proofs.Ytalcgnjkhnmmiaa
