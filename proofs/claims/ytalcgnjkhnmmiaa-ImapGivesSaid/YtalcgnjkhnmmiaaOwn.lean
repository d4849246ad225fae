/- Several rows of the call's own beside each other: one grows, the others stay. No condition. -/
import Derived.Test.YtalcgnjkhnmmiaaBase
namespace Go.Proofs.Ytalcgnjkhnmmiaa
open Go.RowKit
/-- rows of elements of two types lie in two blocks -/
theorem own_apart {w : World} {b1 b2 e1 e2 z1 z2 n1 n2 : Nat} {v1 v2 : Value} {xs ys : List Value} (h1 : w.ownsRow b1 e1 z1 v1 n1 xs) (h2 : w.ownsRow b2 e2 z2 v2 n2 ys) (hne : e1 ≠ e2) : v1.ownBlock = none ∨ v1.ownBlock ≠ v2.ownBlock := by
  rcases h1.2 with ⟨rfl, _⟩ | ⟨g, cap, cur, rfl, _, hg, _⟩
  · exact .inl rfl
  · refine .inr fun he => ?_
    have hb : Blk w g e1 cur := hg
    have := own_ne h2 hb hne.symm
    exact this (by simpa [Value.ownBlock] using he)
theorem own_keep {w w' : World} {b1 b2 e1 e2 z1 z2 n1 n2 : Nat} {v1 v2 : Value} {xs ys : List Value} {o : Obj} (h1 : w.ownsRow b1 e1 z1 v1 n1 xs) (h2 : w.ownsRow b2 e2 z2 v2 n2 ys) (hne : e1 ≠ e2)
    (hg : (w.alloc o).grownBy w' v2.ownBlock) : w'.ownsRow b1 e1 z1 v1 n1 xs :=
  (h1.alloc o).kept hg (own_apart h1 h2 hne)
/-- what lay there before the row's blocks stays -/
theorem rd_grown {w w' : World} {base e z n : Nat} {v : Value} {xs ys : List Value} {A : Option Addr} {o : Obj} (h : w.ownsRow base e z v n ys) (hr : Rd w A xs) (hlt : ∀ a, A = some a → a.block < base) (hg : (w.alloc o).grownBy w' v.ownBlock) : Rd w' A xs := by
  rcases hr with rfl | ⟨b, off, rfl, hc⟩
  · exact .inl rfl
  · have hb := hlt _ rfl
    refine .inr ⟨b, off, rfl, fun j u hu => ?_⟩
    have h1 := hc j u hu
    have h2 := World.block_lt_of_cell? w ⟨b, off + j, none⟩ h1
    have h3 := (World.cell?_alloc_lt w o ⟨b, off + j, none⟩ h2).trans h1
    refine hg.cell h3 ?_
    intro he
    exact absurd (h.lt b he.symm).1 (by simp only at hb; omega)
theorem own_cap {w : World} {base e z n c : Nat} {A : Option Addr} {xs : List Value} (h : w.ownsRow base e z (.slice A n c) n xs) : n ≤ c := by
  obtain ⟨A', c', he, hle, _⟩ := own_form h
  have : c = c' := by injection he
  omega
end Go.Proofs.Ytalcgnjkhnmmiaa
