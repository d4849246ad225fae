/- Plain law of layer 12: a number is given; two maps have the same blocks just if they are the same. No condition. -/
import Derived.Test.YtalcgnjkhnmmiaaPlainL
namespace Go.Proofs.Ytalcgnjkhnmmiaa
theorem giveM_ok {X : List Slot} {i : Int} {Y : List Slot} (h40 : X.length = 40) (h : giveM X i = (Y, 0)) :
    ∃ (k : Nat) (x : Slot), i = (k : Int) ∧ k < 40 ∧ X[k]? = some x ∧ x.v < 2147483647 ∧ 0 ≤ x.v ∧ Y = X.set k ⟨x.a, x.s, x.v + 1⟩ := by
  unfold giveM at h
  split at h
  · rename_i hw; injection h with _ h; exact absurd h hw
  rename_i hw
  split at h
  · injection h with _ h; cases h
  rename_i hv
  injection h with h _
  have hw : wrongM X i = 0 := by simpa using hw
  unfold wrongM at hw
  split at hw
  · cases hw
  rename_i hm
  have hm : mayM X := by simpa using hm
  split at hw
  · cases hw
  rename_i hi
  obtain ⟨k, rfl⟩ := Int.eq_ofNat_of_zero_le (show 0 ≤ i by omega)
  rw [Int.toNat_natCast] at h hv
  obtain ⟨x, hx⟩ : ∃ x, X[k]? = some x := ⟨_, List.getElem?_eq_getElem (by rw [h40]; omega)⟩
  rw [slotAt_get hx] at h hv
  have hr := hm.1 x (List.mem_of_getElem? hx)
  unfold rightS at hr
  exact ⟨k, x, rfl, by omega, hx, by omega, hr.2.1, h.symm⟩
theorem enc_tenth {m o : List Slot} (h40 : m.length = 40) (o40 : o.length = 40) (hm : mayM m) (ho : mayM o) (hs : ∀ x ∈ m, x.s < 4294967296) (os : ∀ x ∈ o, x.s < 4294967296) {k : Nat} (hk : k < 4) (h : encB m k = encB o k) : tenth m k = tenth o k := by
  have lm := tenth_len h40 hk
  have lo := tenth_len o40 hk
  apply List.ext_getElem?
  intro i
  by_cases hi : i < 10
  · obtain ⟨x, hx⟩ : ∃ x, (tenth m k)[i]? = some x := ⟨_, List.getElem?_eq_getElem (by omega)⟩
    obtain ⟨y, hy⟩ : ∃ y, (tenth o k)[i]? = some y := ⟨_, List.getElem?_eq_getElem (by omega)⟩
    have mx := tenth_mem (List.mem_of_getElem? hx)
    have my := tenth_mem (List.mem_of_getElem? hy)
    have e1 := slotB_enc lm hx (hm.1 x mx) (hs x mx)
    have e2 := slotB_enc lo hy (ho.1 y my) (os y my)
    rw [hx, hy, ← e1, ← e2, h]
  · rw [List.getElem?_eq_none (by omega), List.getElem?_eq_none (by omega)]
theorem tenth_enc {m o : List Slot} {k : Nat} (h : tenth m k = tenth o k) : encB m k = encB o k := by
  unfold encB numsM numsP; rw [h]
theorem all_tenth {m o : List Slot} (h40 : m.length = 40) (o40 : o.length = 40) (h : ∀ j, j < 4 → tenth m j = tenth o j) : m = o := by
  apply List.ext_getElem?
  intro i
  by_cases hi : i < 40
  · have h1 := h (i / 10) (by omega)
    have h2 := congrArg (·[i % 10]?) h1
    change (tenth m (i / 10))[i % 10]? = (tenth o (i / 10))[i % 10]? at h2
    rw [tenth_get (by omega), tenth_get (by omega)] at h2
    rw [show 10 * (i / 10) + i % 10 = i by omega] at h2
    exact h2
  · rw [List.getElem?_eq_none (by omega), List.getElem?_eq_none (by omega)]
/-- have two maps the same blocks, below k -/
def sameB (m o : List Slot) (k : Nat) : Bool := decide (∀ j, j < k → tenth m j = tenth o j)
theorem sameB_zero (m o : List Slot) : sameB m o 0 = true := by unfold sameB; exact decide_eq_true (fun j hj => absurd hj (by omega))
theorem sameB_succ {m o : List Slot} (h40 : m.length = 40) (o40 : o.length = 40) (hm : mayM m) (ho : mayM o) (hs : ∀ x ∈ m, x.s < 4294967296) (os : ∀ x ∈ o, x.s < 4294967296) {k : Nat} (hk : k < 4) :
    sameB m o (k + 1) = (sameB m o k && (encB m k == encB o k)) := by
  rw [Bool.eq_iff_iff, Bool.and_eq_true, beq_iff_eq]
  unfold sameB
  rw [decide_eq_true_iff, decide_eq_true_iff]
  constructor
  · exact fun h => ⟨fun j hj => h j (by omega), tenth_enc (h k (by omega))⟩
  · rintro ⟨h1, h2⟩ j hj
    by_cases hjk : j = k
    · subst hjk; exact enc_tenth h40 o40 hm ho hs os hk h2
    · exact h1 j (by omega)
theorem sameB_eq {m o : List Slot} (h40 : m.length = 40) (o40 : o.length = 40) : sameB m o 4 = decide (m = o) := by
  rw [Bool.eq_iff_iff]
  unfold sameB
  rw [decide_eq_true_iff, decide_eq_true_iff]
  exact ⟨fun h => all_tenth h40 o40 h, fun h j _ => by rw [h]⟩
theorem sameB_chg {m o : List Slot} (hm : mayM m) (ho : mayM o) : sameB m o 4 = decide ((changedM m o).length = 0) := by
  rw [Bool.eq_iff_iff]
  unfold sameB changedM
  rw [if_pos ⟨hm, ho⟩, decide_eq_true_iff, decide_eq_true_iff]
  unfold chgL
  rw [List.length_map, List.length_eq_zero_iff, List.filter_eq_nil_iff]
  constructor
  · intro h j hj
    simp only [List.mem_range] at hj
    simp [h j hj]
  · intro h j hj
    have := h j (List.mem_range.2 hj)
    simpa using this
end Go.Proofs.Ytalcgnjkhnmmiaa
