/- Two inodes and two nodes that came in are opened. No condition. -/
import Derived.Test.YtobiepjnnglglaaOpenJ
import Derived.Test.YtobiepjnnglglaaInP
namespace Go.Proofs.Ytobiepjnnglglaa
open Go.ChangeShapes Go.WideShapes Go.ChangeAt Go.RowKit Go.Deep
abbrev ApT := Int × Ino × Ino × Sl (Int × Nat) × Sl (Int × Nat)
def apC (x : ApT) : List Value := [.int .u8 x.1] ++ (inoC x.2.1 ++ (inoC x.2.2.1 ++ ([.slice x.2.2.2.1.A x.2.2.2.1.n x.2.2.2.1.c] ++ [.slice x.2.2.2.2.A x.2.2.2.2.n x.2.2.2.2.c])))
section
variable {H : Type} {enc : TypeId × Value → H} {w : World}
def ptrIn (x : Int × Nat) : Prop := (-9223372036854775808 ≤ x.1 ∧ x.1 ≤ 9223372036854775807) ∧ x.2 < 4294967296
set_option maxHeartbeats 4000000 in
theorem open_ap {r : Reach} {b0 : Nat} {v : Value} {d : DataW H} {p : List MemPlace} (hv : Value.okWide Try.prog w r b0 44 v) (h : DataW.Trod enc Try.prog w 0 (fun _ => true) true 44 v d p) :
    ∃ x : ApT, v = .agg (apC x).toArray ∧ ((Lit.int .u8 x.1).wf = true ∧ InoIn x.2.1 ∧ InoIn x.2.2.1 ∧ x.2.2.2.1.Ok w (fun x : Int × Nat => [i64v x.1] ++ [.int .u32 (x.2 : Int)]) ptrIn ∧ x.2.2.2.2.Ok w (fun x : Int × Nat => [i64v x.1] ++ [.int .u32 (x.2 : Int)]) ptrIn) :=
  arg_agg (f := apC) (by kernel_rfl)
    (opens_struct Try.underlying44 (by kernel_rfl) rfl
      (OpensL.cons 5 0 1 1 (by kernel_rfl) rfl (opens_int Try.underlying5) (OpensL.cons 27 1 23 24 (by kernel_rfl) rfl opens_ino (OpensL.cons 27 24 23 47 (by kernel_rfl) rfl opens_ino
        (OpensL.cons 42 47 1 48 (by kernel_rfl) rfl (opens_slice 2 Try.underlying42 (by kernel_rfl) (by decide) opens_ptrK)
          (OpensL.one 42 48 1 49 (by kernel_rfl) rfl (opens_slice 2 Try.underlying42 (by kernel_rfl) (by decide) opens_ptrK)))))))
    hv h
end
theorem apC_x {x : ApT} {j : Nat} {u : Value} (h : (inoC x.2.1)[j]? = some u) : (apC x)[1 + j]? = some u := by
  unfold apC
  rw [List.getElem?_append_right (by simp), List.getElem?_append_left (by have := (List.getElem?_eq_some_iff.1 h).1; simp only [List.length_cons, List.length_nil]; omega)]
  rw [show 1 + j - [Value.int IntKind.u8 x.1].length = j by simp]; exact h
theorem apC_y {x : ApT} (h9 : x.2.1.ps.length = 9) {j : Nat} {u : Value} (h : (inoC x.2.2.1)[j]? = some u) : (apC x)[24 + j]? = some u := by
  have hl := inoC_len h9
  unfold apC
  rw [List.getElem?_append_right (by simp <;> omega), List.getElem?_append_right (by simp [hl] <;> omega), List.getElem?_append_left (by have := (List.getElem?_eq_some_iff.1 h).1; simp only [List.length_cons, List.length_nil, hl]; omega)]
  rw [show 24 + j - [Value.int IntKind.u8 x.1].length - (inoC x.2.1).length = j by rw [hl]; simp <;> omega]; exact h
theorem apC_l {x : ApT} (h9 : x.2.1.ps.length = 9) (h9' : x.2.2.1.ps.length = 9) : (apC x)[47]? = some (.slice x.2.2.2.1.A x.2.2.2.1.n x.2.2.2.1.c) ∧ (apC x)[48]? = some (.slice x.2.2.2.2.A x.2.2.2.2.n x.2.2.2.2.c) := by
  have hl := inoC_len h9; have hl' := inoC_len h9'
  unfold apC
  constructor
  · rw [List.getElem?_append_right (by simp), List.getElem?_append_right (by simp [hl]), List.getElem?_append_right (by simp [hl, hl'])]
    simp [hl, hl']
  · rw [List.getElem?_append_right (by simp), List.getElem?_append_right (by simp [hl]), List.getElem?_append_right (by simp [hl, hl'])]
    simp [hl, hl']
theorem inoB_eq {ino : Int} {x y : Ino} (h9 : x.ps.length = 9) (h9' : y.ps.length = 9) (hx : mayE ino x) (hy : mayE ino y) (sx : ∀ p ∈ x.ps, p.2 < 4294967296) (sy : ∀ p ∈ y.ps, p.2 < 4294967296) : (inoB ino x == inoB ino y) = decide (x = y) := by
  rw [Bool.eq_iff_iff, beq_iff_eq, decide_eq_true_iff]
  constructor
  · intro h
    have h1 := (inoAt_enc h9 hx sx).1
    rw [h, (inoAt_enc h9' hy sy).1] at h1
    exact h1.symm
  · rintro rfl; rfl
theorem nodeB_eq {L M : List (Int × Nat)} (hn : L.length = 15) (hn' : M.length = 15) (ho : L.all okPt = true) (ho' : M.all okPt = true) (hs : ∀ p ∈ L, p.2 < 4294967296) (hs' : ∀ p ∈ M, p.2 < 4294967296) : (nodeB L == nodeB M) = decide (L = M) := by
  rw [Bool.eq_iff_iff, beq_iff_eq, decide_eq_true_iff]
  constructor
  · intro h
    have h1 := ptrsB_node hn ho hs
    rw [h, ptrsB_node hn' ho' hs'] at h1
    exact h1.symm
  · rintro rfl; rfl
end Go.Proofs.Ytobiepjnnglglaa
