import Derived.Test.YtalcgnjkhnmmiaaOpenC
namespace Go.Proofs.Ytalcgnjkhnmmiaa
open Go.ChangeShapes Go.WideShapes Go.ChangeAt Go.RowKit Go.Deep
section
variable {H : Type} {enc : TypeId × Value → H} {w : World}
def givesC (x : List Slot × List Slot × Int × UInt8) : List Value := x.1.flatMap slotC ++ (x.2.1.flatMap slotC ++ ([i64v x.2.2.1] ++ [u8v x.2.2.2]))
theorem open_gives {r : Reach} {b0 : Nat} {v : Value} {d : DataW H} {p : List MemPlace} (hv : Value.okWide Try.prog w r b0 46 v) (h : DataW.Trod enc Try.prog w 0 (fun _ => true) true 46 v d p) :
    ∃ x : List Slot × List Slot × Int × UInt8, v = .agg (givesC x).toArray ∧ (x.1.length = 40 ∧ ∀ y ∈ x.1, slotOk y) ∧ (x.2.1.length = 40 ∧ ∀ y ∈ x.2.1, slotOk y) ∧ (-9223372036854775808 ≤ x.2.2.1 ∧ x.2.2.1 ≤ 9223372036854775807) ∧ True :=
  arg_agg (f := givesC) (by kernel_rfl)
    (opens_struct Try.underlying46 (by kernel_rfl) rfl
      (OpensL.cons 28 0 120 120 (by kernel_rfl) rfl opens_imap (OpensL.cons 28 120 120 240 (by kernel_rfl) rfl opens_imap (OpensL.cons 3 240 1 241 (by kernel_rfl) rfl (opens_i64 Try.underlying3)
        (OpensL.one 5 241 1 242 (by kernel_rfl) rfl (opens_u8 Try.underlying5)))))) hv h
end
end Go.Proofs.Ytalcgnjkhnmmiaa
