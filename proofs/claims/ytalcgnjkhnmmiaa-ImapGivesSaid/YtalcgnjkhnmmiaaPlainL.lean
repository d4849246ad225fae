/- Plain law of layer 12: a map's blocks, read one by one, make it as it was. No condition. -/
import Derived.Test.YtalcgnjkhnmmiaaPlainK
namespace Go.Proofs.Ytalcgnjkhnmmiaa
theorem numsP_sum (m : List Slot) (k i : Nat) (h : i ≤ (tenth m k).length) : sumW ((numsP m k i).map (·.1)) = 5 + 12 * i := by
  unfold numsP
  rw [List.map_append, sumW_append]
  have : ∀ l : List Slot, sumW ((l.flatMap slotN).map (·.1)) = 12 * l.length := by
    intro l
    induction l with
    | nil => rfl
    | cons x l ih => rw [List.flatMap_cons, List.map_append, sumW_append, ih, List.length_cons]; simp [slotN, sumW]; omega
  rw [this, List.length_take, Nat.min_eq_left h]
  rfl
theorem numsM_split {m : List Slot} {k j : Nat} {x : Slot} (ht : (tenth m k).length = 10) (hx : (tenth m k)[j]? = some x) : ∃ rest, numsM m k = numsP m k j ++ (slotN x ++ rest) := by
  have hj : j < (tenth m k).length := (List.getElem?_eq_some_iff.1 hx).1
  have h1 : (tenth m k).take 10 = (tenth m k).take j ++ (x :: (tenth m k).drop (j + 1)) := by
    have h2 := List.drop_eq_getElem_cons hj
    have h3 : (tenth m k)[j] = x := by rw [List.getElem?_eq_getElem hj] at hx; injection hx
    rw [h3] at h2
    rw [← h2, List.take_append_drop, List.take_of_length_le (by omega)]
  refine ⟨((tenth m k).drop (j + 1)).flatMap slotN, ?_⟩
  unfold numsM numsP
  rw [h1, List.flatMap_append, List.flatMap_cons, List.append_assoc]
theorem slotB_enc {m : List Slot} {k j : Nat} {x : Slot} (ht : (tenth m k).length = 10) (hx : (tenth m k)[j]? = some x) (hr : rightS x) (hs : x.s < 4294967296) : slotB (encB m k) j = x := by
  obtain ⟨rest, he⟩ := numsM_split ht hx
  have hj : j < (tenth m k).length := (List.getElem?_eq_some_iff.1 hx).1
  have hp := numsP_sum m k j (by omega)
  obtain ⟨a, s, v⟩ := x
  unfold rightS ptrR at hr
  simp only at hr hs
  unfold slotB encB fill128
  rw [he]
  have s1 := beN_mid (l1 := numsP m k j) (l2 := [(4, s), (4, v.toNat)] ++ rest) (n := 4) (v := a.toNat) (p := 5 + 12 * j) (by omega) hp (List.replicate (128 - (packB (numsP m k j ++ (slotN ⟨a, s, v⟩ ++ rest))).length) 0)
  have s2 := beN_mid (l1 := numsP m k j ++ [(4, a.toNat)]) (l2 := [(4, v.toNat)] ++ rest) (n := 4) (v := s) (p := 5 + 12 * j + 4) (by omega) (by rw [List.map_append, sumW_append, hp]; rfl) (List.replicate (128 - (packB (numsP m k j ++ (slotN ⟨a, s, v⟩ ++ rest))).length) 0)
  have s3 := beN_mid (l1 := numsP m k j ++ [(4, a.toNat), (4, s)]) (l2 := rest) (n := 4) (v := v.toNat) (p := 5 + 12 * j + 8) (by omega) (by rw [List.map_append, sumW_append, hp]; rfl) (List.replicate (128 - (packB (numsP m k j ++ (slotN ⟨a, s, v⟩ ++ rest))).length) 0)
  have e1 : numsP m k j ++ (((4 : Nat) : Int), a.toNat) :: ([(4, s), (4, v.toNat)] ++ rest) = numsP m k j ++ (slotN ⟨a, s, v⟩ ++ rest) := rfl
  have e2 : numsP m k j ++ [(4, a.toNat)] ++ (((4 : Nat) : Int), s) :: ([(4, v.toNat)] ++ rest) = numsP m k j ++ (slotN ⟨a, s, v⟩ ++ rest) := by rw [List.append_assoc]; rfl
  have e3 : numsP m k j ++ [(4, a.toNat), (4, s)] ++ (((4 : Nat) : Int), v.toNat) :: rest = numsP m k j ++ (slotN ⟨a, s, v⟩ ++ rest) := by rw [List.append_assoc]; rfl
  rw [e1] at s1; rw [e2] at s2; rw [e3] at s3
  rw [s1, s2, s3]
  have h1 : ((a.toNat : Nat) : Int) = a := by omega
  have h2 : ((v.toNat : Nat) : Int) = v := by omega
  rw [h1, h2]
/-- a map of which the first slots are those of m -/
def backM (m : List Slot) (i : Nat) : List Slot := m.take i ++ map0.drop i
theorem backM_len {m : List Slot} (h40 : m.length = 40) {i : Nat} (hi : i ≤ 40) : (backM m i).length = 40 := by
  unfold backM; rw [List.length_append, List.length_take, List.length_drop, h40, map0_len]; omega
theorem backM_zero (m : List Slot) : backM m 0 = map0 := by simp [backM]
theorem backM_all {m : List Slot} (h40 : m.length = 40) : backM m 40 = m := by
  unfold backM
  rw [List.take_of_length_le (by omega), List.drop_eq_nil_of_le (by rw [map0_len]; omega), List.append_nil]
theorem backM_get {m : List Slot} (h40 : m.length = 40) {i j : Nat} (hi : i ≤ 40) (hj : j < 40) : (backM m i)[j]? = if j < i then m[j]? else some slot0 := by
  unfold backM
  by_cases h : j < i
  · rw [if_pos h, List.getElem?_append_left (by rw [List.length_take]; omega), List.getElem?_take, if_pos h]
  · rw [if_neg h, List.getElem?_append_right (by rw [List.length_take]; omega), List.getElem?_drop, List.length_take]
    have : i + (j - min i m.length) = j := by omega
    rw [this]
    unfold map0
    rw [List.getElem?_replicate, if_pos hj]
theorem backM_set {m : List Slot} (h40 : m.length = 40) {i : Nat} {x : Slot} (hi : i < 40) (hx : m[i]? = some x) : (backM m i).set i x = backM m (i + 1) := by
  apply List.ext_getElem?
  intro j
  by_cases hj : j < 40
  · rw [backM_get h40 (by omega) hj]
    by_cases hij : i = j
    · subst hij
      rw [List.getElem?_set_self (by rw [backM_len h40 (by omega)]; omega), if_pos (by omega), hx]
    · rw [List.getElem?_set_ne hij, backM_get h40 (by omega) hj]
      by_cases h : j < i
      · rw [if_pos h, if_pos (by omega)]
      · rw [if_neg h, if_neg (by omega)]
  · rw [List.getElem?_eq_none (by rw [List.length_set, backM_len h40 (by omega)]; omega), List.getElem?_eq_none (by rw [backM_len h40 (by omega)]; omega)]
theorem right0 : rightS slot0 := by decide
theorem backM_may {m : List Slot} (h40 : m.length = 40) (hm : mayM m) {i : Nat} (hi : i ≤ 40) : mayM (backM m i) := by
  refine ⟨fun x hx => ?_, ?_⟩
  · unfold backM at hx
    rcases List.mem_append.1 hx with h | h
    · exact hm.1 x (List.mem_of_mem_take h)
    · have := List.mem_of_mem_drop h
      unfold map0 at this
      rw [(List.mem_replicate.1 this).2]; exact right0
  · rw [backM_get h40 hi (by omega)]
    split
    · exact hm.2
    · rfl
theorem backM_s {m : List Slot} (hs : ∀ x ∈ m, x.s < 4294967296) (i : Nat) : ∀ x ∈ backM m i, x.s < 4294967296 := by
  intro x hx
  unfold backM at hx
  rcases List.mem_append.1 hx with h | h
  · exact hs x (List.mem_of_mem_take h)
  · have := List.mem_of_mem_drop h
    unfold map0 at this
    rw [(List.mem_replicate.1 this).2]; decide
theorem putB_back {m : List Slot} (h40 : m.length = 40) (hm : mayM m) (hs : ∀ x ∈ m, x.s < 4294967296) {k : Nat} (hk : k < 4) : ∀ j, j ≤ 10 → putB (backM m (10 * k)) k (encB m k) j = backM m (10 * k + j)
  | 0, _ => rfl
  | j + 1, hj => by
    have ih := putB_back h40 hm hs hk j (by omega)
    obtain ⟨x, hx⟩ : ∃ x, m[10 * k + j]? = some x := ⟨_, List.getElem?_eq_getElem (by omega)⟩
    have ht : (tenth m k)[j]? = some x := by rw [tenth_get (by omega)]; exact hx
    rw [putB, ih, slotB_enc (tenth_len h40 hk) ht (hm.1 x (List.mem_of_getElem? hx)) (hs x (List.mem_of_getElem? hx)), backM_set h40 (by omega) hx]
    rfl
theorem tenth_back {m : List Slot} (h40 : m.length = 40) {k : Nat} (hk : k < 4) : tenth (backM m (10 * (k + 1))) k = tenth m k := by
  unfold tenth
  apply List.ext_getElem?
  intro i
  rw [List.getElem?_take, List.getElem?_take]
  split
  · rw [List.getElem?_drop, List.getElem?_drop, backM_get h40 (by omega) (by omega), if_pos (by omega)]
  · rfl
theorem encB_len {m : List Slot} (h40 : m.length = 40) {k : Nat} (hk : k < 4) : (encB m k).length = 128 := by
  unfold encB; exact fill128_len (by rw [numsM_bytes h40 hk]; omega)
theorem dec_enc {m : List Slot} (h40 : m.length = 40) (hm : mayM m) (hs : ∀ x ∈ m, x.s < 4294967296) {k : Nat} (hk : k < 4) : decM (backM m (10 * k)) (k : Int) (encB m k) = (backM m (10 * (k + 1)), 0) := by
  have h1 := putB_back h40 hm hs hk 10 (by omega)
  have e : 10 * k + 10 = 10 * (k + 1) := by omega
  rw [e] at h1
  have h2 : encB (backM m (10 * (k + 1))) k = encB m k := by unfold encB numsM numsP; rw [tenth_back h40 hk]
  unfold decM
  rw [if_neg (by simp [backM_may h40 hm (show 10 * k ≤ 40 by omega)]), if_neg (by omega), if_neg (by simp [encB_len h40 hk]), Int.toNat_natCast, h1, if_pos ⟨backM_may h40 hm (by omega), h2⟩]
end Go.Proofs.Ytalcgnjkhnmmiaa
