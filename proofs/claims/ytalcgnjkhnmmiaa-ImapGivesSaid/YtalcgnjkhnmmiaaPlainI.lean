/- Plain law of layer 12: a map of inodes. No condition. -/
import Derived.IntWalk
namespace Go.Proofs.Ytalcgnjkhnmmiaa
/-- a slot: where, its sum, how often given -/
structure Slot where
  a : Int
  s : Nat
  v : Int
deriving DecidableEq
def slot0 : Slot := ⟨0, 0, 0⟩
def map0 : List Slot := List.replicate 40 slot0
def ptrR (a : Int) (s : Nat) : Prop := 0 ≤ a ∧ a ≤ 2147483647 ∧ (0 < a ∨ s = 0)
instance (a : Int) (s : Nat) : Decidable (ptrR a s) := by unfold ptrR; exact inferInstance
/-- may a slot be -/
def rightS (x : Slot) : Prop := ptrR x.a x.s ∧ 0 ≤ x.v ∧ x.v ≤ 2147483647
instance (x : Slot) : Decidable (rightS x) := by unfold rightS; exact inferInstance
/-- may a map be -/
def mayM (m : List Slot) : Prop := (∀ x ∈ m, rightS x) ∧ m[0]? = some slot0
instance (m : List Slot) : Decidable (mayM m) := by unfold mayM; exact inferInstance
/-- a cell that a program can hold -/
def slotOk (x : Slot) : Prop := (-9223372036854775808 ≤ x.a ∧ x.a ≤ 9223372036854775807) ∧ x.s < 4294967296 ∧ (-9223372036854775808 ≤ x.v ∧ x.v ≤ 9223372036854775807)
/-- what is wrong with a map and an inode -/
def wrongM (m : List Slot) (i : Int) : Int := if ¬ mayM m then 1 else if i < 1 ∨ 39 < i then 4 else 0
def slotAt (m : List Slot) (i : Nat) : Slot := (m[i]?).getD slot0
/-- the least that is free: its number, the error's -/
def freeM (m : List Slot) : Int × Int := if ¬ mayM m then (0, 1) else match (List.range 40).find? (fun i => decide (1 ≤ i) && decide ((slotAt m i).a = 0)) with
  | some i => ((i : Int), 0)
  | none => (0, 8)
def putM (m : List Slot) (i : Int) (a : Int) (s : Nat) : List Slot × Int :=
  if wrongM m i ≠ 0 then (map0, wrongM m i) else if a < 1 ∨ ¬ ptrR a s then (map0, 1) else (m.set i.toNat ⟨a, s, (slotAt m i.toNat).v⟩, 0)
def dropM (m : List Slot) (i : Int) : List Slot × Int :=
  if wrongM m i ≠ 0 then (map0, wrongM m i) else if (slotAt m i.toNat).a = 0 then (map0, 6) else (m.set i.toNat ⟨0, 0, (slotAt m i.toNat).v⟩, 0)
def giveM (m : List Slot) (i : Int) : List Slot × Int :=
  if wrongM m i ≠ 0 then (map0, wrongM m i) else if (slotAt m i.toNat).v = 2147483647 then (map0, 19) else (m.set i.toNat ⟨(slotAt m i.toNat).a, (slotAt m i.toNat).s, (slotAt m i.toNat).v + 1⟩, 0)
end Go.Proofs.Ytalcgnjkhnmmiaa
