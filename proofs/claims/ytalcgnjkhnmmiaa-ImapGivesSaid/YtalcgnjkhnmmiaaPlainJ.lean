/- Plain law of layer 12: a map's blocks. No condition. -/
import Derived.Test.YtalcgnjkhnmmiaaPlainC
import Derived.Test.YtalcgnjkhnmmiaaImapH
import Derived.Test.YtalcgnjkhnmmiaaFillA
namespace Go.Proofs.Ytalcgnjkhnmmiaa
def slotN (x : Slot) : List (Int × Nat) := [(4, x.a.toNat), (4, x.s), (4, x.v.toNat)]
def numsP (m : List Slot) (k i : Nat) : List (Int × Nat) := [(4, 1768776048), (1, k)] ++ ((tenth m k).take i).flatMap slotN
def numsM (m : List Slot) (k : Nat) : List (Int × Nat) := numsP m k 10
/-- octets, and noughts up to 128 -/
def encB (m : List Slot) (k : Nat) : List UInt8 := fill128 (packB (numsM m k))
/-- a map's block: the octets, the error's number -/
def encM (m : List Slot) (k : Int) : List UInt8 × Int := if ¬ mayM m then ([], 1) else if k < 0 ∨ 3 < k then ([], 4) else (encB m k.toNat, 0)
theorem numsP_len (m : List Slot) (k i : Nat) (h : i ≤ (tenth m k).length) : (numsP m k i).length = 2 + 3 * i := by
  unfold numsP
  rw [List.length_append, flat_length (z := 3) (fun x => rfl), List.length_take, Nat.min_eq_left h]
  simp; omega
theorem numsP_succ {m : List Slot} {k i : Nat} {x : Slot} (h : (tenth m k)[i]? = some x) : numsP m k (i + 1) = numsP m k i ++ slotN x := by
  unfold numsP
  rw [take_snoc_of h, List.flatMap_append, List.append_assoc]; simp
theorem tenth_mem {m : List Slot} {k : Nat} {x : Slot} (h : x ∈ tenth m k) : x ∈ m := List.mem_of_mem_drop (List.mem_of_mem_take h)
theorem tenth_get {m : List Slot} {k i : Nat} (hi : i < 10) : (tenth m k)[i]? = m[10 * k + i]? := by
  unfold tenth
  rw [List.getElem?_take, if_pos hi, List.getElem?_drop]
theorem slotN_fits {x : Slot} (h : rightS x) (hs : x.s < 4294967296) : Fits (slotN x) := by
  unfold rightS ptrR at h
  intro y hy
  simp only [slotN, List.mem_cons, List.not_mem_nil, or_false] at hy
  rcases hy with rfl | rfl | rfl
  · exact ⟨by simp, by simp, by show _ < 256 ^ 4; simp only; omega⟩
  · exact ⟨by simp, by simp, by show _ < 256 ^ 4; simp only; omega⟩
  · exact ⟨by simp, by simp, by show _ < 256 ^ 4; simp only; omega⟩
theorem numsM_fits {m : List Slot} (hm : mayM m) (hs : ∀ x ∈ m, x.s < 4294967296) {k : Nat} (hk : k ≤ 3) (i : Nat) : Fits (numsP m k i) := by
  intro y hy
  unfold numsP at hy
  rcases List.mem_append.1 hy with h | h
  · simp only [List.mem_cons, List.not_mem_nil, or_false] at h
    rcases h with rfl | rfl
    · exact ⟨by decide, by decide, by decide⟩
    · exact ⟨by simp, by simp, by show k < 256 ^ 1; omega⟩
  · obtain ⟨x, hx, h⟩ := List.mem_flatMap.1 h
    have hxm := tenth_mem (List.mem_of_mem_take hx)
    exact slotN_fits (hm.1 x hxm) (hs x hxm) y h
theorem numsM_bytes {m : List Slot} (h40 : m.length = 40) {k : Nat} (hk : k < 4) : (packB (numsM m k)).length = 125 := by
  rw [packB_len]
  have h : (tenth m k).take 10 = tenth m k := List.take_of_length_le (by rw [tenth_len h40 hk]; omega)
  unfold numsM numsP
  rw [h, List.map_append, sumW_append]
  have : ∀ l : List Slot, sumW ((l.flatMap slotN).map (·.1)) = 12 * l.length := by
    intro l
    induction l with
    | nil => rfl
    | cons x l ih => rw [List.flatMap_cons, List.map_append, sumW_append, ih, List.length_cons]; simp [slotN, sumW]; omega
  rw [this, tenth_len h40 hk]
  rfl
end Go.Proofs.Ytalcgnjkhnmmiaa
