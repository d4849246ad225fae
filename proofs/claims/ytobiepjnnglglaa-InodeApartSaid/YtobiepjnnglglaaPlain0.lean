/- Small plain lemmas on lists. No condition. -/
import Derived.IntWalk
namespace Go.Proofs.Ytobiepjnnglglaa
theorem take_snoc_of {α : Type} {l : List α} {k : Nat} {x : α} (h : l[k]? = some x) : l.take (k + 1) = l.take k ++ [x] := by
  rw [List.take_add_one, h]; rfl
theorem bytes_get (s : ByteArray) (i : Nat) (h : i < s.size) : s.data.toList[i]? = some s[i] := by
  rw [List.getElem?_eq_getElem (by simpa using h)]
  rfl
end Go.Proofs.Ytobiepjnnglglaa
