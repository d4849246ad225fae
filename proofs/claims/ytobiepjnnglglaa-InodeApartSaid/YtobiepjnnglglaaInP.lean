/- The pointer to a block; does a pointer point to a block? Contracts; and a node's pointers are read as they were. No condition. -/
import Derived.Test.YtobiepjnnglglaaInN
namespace Go.Proofs.Ytobiepjnnglglaa
open Go.RowKit
theorem numsI_append (l m : List (Int × Nat)) : numsI (l ++ m) = numsI l ++ numsI m := by unfold numsI; rw [List.flatMap_append]
theorem ptrAt_node {L : List (Int × Nat)} (ho : L.all okPt = true) (hs : ∀ p ∈ L, p.2 < 4294967296) {i : Nat} {p : Int × Nat} (h : L[i]? = some p) (t : List UInt8) : ptrAt (packB (numsI L) ++ t) i = p := by
  have hf := numsI_fits ho hs
  have hi : i < L.length := (List.getElem?_eq_some_iff.1 h).1
  have hv := okPt_iff (List.all_eq_true.1 ho p (List.mem_of_getElem? h))
  have e : numsI L = numsI (L.take i) ++ ((4, p.1.toNat) :: (4, p.2) :: numsI (L.drop (i + 1))) := by
    have h2 := List.drop_eq_getElem_cons hi
    have h3 : L[i] = p := by rw [List.getElem?_eq_getElem hi] at h; injection h
    rw [h3] at h2
    conv => lhs; rw [← List.take_append_drop i L, h2]
    rw [numsI_append]; rfl
  have hl : sumW ((numsI (L.take i)).map (·.1)) = 8 * i := by rw [numsI_sum, List.length_take, Nat.min_eq_left (by omega)]
  have e1 : numAt (packB (numsI L) ++ t) (8 * i) 4 = p.1.toNat := by
    rw [e]; exact beN_mid (n := 4) (v := p.1.toNat) (by omega) hl t
  have e2 : numAt (packB (numsI L) ++ t) (8 * i + 4) 4 = p.2 := by
    rw [e]
    have := beN_mid (l1 := numsI (L.take i) ++ [(4, p.1.toNat)]) (l2 := numsI (L.drop (i + 1))) (n := 4) (v := p.2) (p := 8 * i + 4) (by have := hs p (List.mem_of_getElem? h); omega) (by rw [List.map_append, sumW_append, hl]; rfl) t
    rw [List.append_assoc] at this
    exact this
  unfold ptrAt
  rw [e1, e2]
  exact Prod.ext (by show ((p.1.toNat : Nat) : Int) = p.1; omega) rfl
theorem ptrsB_node {L : List (Int × Nat)} (hn : L.length = 15) (ho : L.all okPt = true) (hs : ∀ p ∈ L, p.2 < 4294967296) : ptrsB (nodeB L) 15 = L := by
  apply List.ext_getElem?
  intro i
  by_cases hi : i < 15
  · have h := List.getElem?_eq_getElem (l := L) (i := i) (by omega)
    have e : nodeB L = packB (numsI L) ++ (List.replicate (124 - (packB (numsI L)).length) 0 ++ le4 (crc (fill124 (packB (numsI L))))) := by
      unfold nodeB sealB fill124; rw [List.append_assoc]
    unfold ptrsB
    rw [List.getElem?_map, List.getElem?_range hi, Option.map_some, e, ptrAt_node ho hs h, h]
  · rw [List.getElem?_eq_none (by rw [ptrsB_len]; omega), List.getElem?_eq_none (by omega)]
theorem readN_node {L : List (Int × Nat)} (hn : L.length = 15) (ho : L.all okPt = true) (hs : ∀ p ∈ L, p.2 < 4294967296) : readN (nodeB L) = (L, 0) := by
  unfold readN
  have hh : heldB (nodeB L) = true := heldB_seal _ (by rw [packB_len, numsI_sum, hn]; decide)
  rw [if_pos hh, ptrsB_node hn ho hs, if_pos ⟨ho, rfl⟩]
theorem Rd.fewF {α : Type} {f : α → List Value} {w : World} {A : Option Addr} {l : List α} {n c : Nat} (N : Nat) (hr : Rd w A (l.flatMap f)) (hl : l.length = n) (hc : n ≤ c) :
    ∃ (l' : List α) (n' : Nat), Rd w A (l'.flatMap f) ∧ l'.length = n' ∧ n' ≤ N ∧ n' ≤ c ∧ l' = l.take N ∧ (n ≤ N ∧ n' = n ∨ N < n ∧ n' = N) := by
  by_cases h : n ≤ N
  · exact ⟨l, n, hr, hl, h, hc, (List.take_of_length_le (by omega)).symm, .inl ⟨h, rfl⟩⟩
  · refine ⟨l.take N, N, ?_, by rw [List.length_take]; omega, Nat.le_refl _, by omega, rfl, .inr ⟨by omega, rfl⟩⟩
    have e : l.flatMap f = (l.take N).flatMap f ++ (l.drop N).flatMap f := by rw [← List.flatMap_append, List.take_append_drop]
    have h2 := hr.take ((l.take N).flatMap f).length
    rw [e, List.take_left] at h2
    exact h2
end Go.Proofs.Ytobiepjnnglglaa
