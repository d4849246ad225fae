/- Plain law of layer 3: one space of addresses. No condition. -/
import Derived.IntWalk
namespace Go.Proofs.Ytboccjdliklifaa
/-- may a geometry be -/
def mayG (D L V S : Int) : Prop := 8 ≤ D ∧ D ≤ 256 ∧ 1 ≤ L ∧ L ≤ D - 6 ∧ 0 ≤ V ∧ V ≤ 8 ∧ 1 ≤ S ∧ S ≤ 256
instance (D L V S : Int) : Decidable (mayG D L V S) := by unfold mayG; exact inferInstance
/-- how many segments there are -/
def segsG (D L V S : Int) : Int := if mayG D L V S then D + V * S else 0
theorem prod_small {v s V S : Int} (hv : 0 ≤ v) (hV : v ≤ V) (hV8 : V ≤ 8) (hs : 0 ≤ s) (hS : s ≤ S) (hS2 : S ≤ 256) : 0 ≤ v * s ∧ v * s ≤ 2048 := by
  refine ⟨Int.mul_nonneg hv hs, ?_⟩
  have h1 : v * s ≤ 8 * s := Int.mul_le_mul_of_nonneg_right (by omega) hs
  omega
theorem segsG_small {D L V S : Int} (h : mayG D L V S) : 0 ≤ V * S ∧ V * S ≤ 2048 := by
  unfold mayG at h
  exact prod_small h.2.2.2.2.1 (Int.le_refl _) h.2.2.2.2.2.1 (by omega) (Int.le_refl _) h.2.2.2.2.2.2.2
theorem segsG_bound (D L V S : Int) : 0 ≤ segsG D L V S ∧ segsG D L V S ≤ 2304 := by
  unfold segsG
  split
  · rename_i h
    have := segsG_small h
    unfold mayG at h
    omega
  · omega
/-- is there such a place -/
def isP (D V S v s o : Int) : Prop := -1 ≤ v ∧ v < V ∧ 0 ≤ s ∧ s < (if v = -1 then D else S) ∧ 0 ≤ o ∧ o < 16
instance (D V S v s o : Int) : Decidable (isP D V S v s o) := by unfold isP; exact inferInstance
/-- the number of a place's segment -/
def numG (D S v s : Int) : Int := if v < 0 then s else D + v * S + s
/-- a place's address, or 0, and the error's number -/
def ofG (D L V S v s o : Int) : Int × Int := if ¬ mayG D L V S then (0, 1) else if ¬ isP D V S v s o then (0, 4) else (1 + numG D S v s * 16 + o, 0)
/-- an address's segment, or 0, and the error's number -/
def segG (D L V S a : Int) : Int × Int := if ¬ mayG D L V S then (0, 1) else if a < 1 ∨ segsG D L V S * 16 < a then (0, 4) else ((a - 1) / 16, 0)
def firstG (D L V S s : Int) : Int × Int := if ¬ mayG D L V S then (0, 1) else if s < 0 ∨ segsG D L V S ≤ s then (0, 4) else (1 + s * 16, 0)
/-- segment n's volume and number there -/
def volG (D S n : Int) : Int × Int := if D ≤ n then ((n - D) / S, (n - D) % S) else (-1, n)
end Go.Proofs.Ytboccjdliklifaa
