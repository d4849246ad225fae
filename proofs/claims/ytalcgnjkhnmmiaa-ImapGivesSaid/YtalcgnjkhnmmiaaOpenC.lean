import Derived.Test.YtalcgnjkhnmmiaaOpenS
import Derived.Test.YtalcgnjkhnmmiaaOpenI
namespace Go.Proofs.Ytalcgnjkhnmmiaa
open Go.ChangeShapes Go.WideShapes Go.ChangeAt Go.RowKit Go.Deep
section
variable {H : Type} {enc : TypeId × Value → H} {w : World}
theorem opens_imap : Opens H enc Try.prog w 28 (fun l : List Slot => l.flatMap slotC) (fun l => l.length = 40 ∧ ∀ x ∈ l, slotOk x) :=
  opens_array Try.arrMap (by kernel_rfl) (by kernel_rfl) slotC_len opens_slot
def codesC (x : List Slot × List Slot × Int × Sl UInt8) : List Value := x.1.flatMap slotC ++ (x.2.1.flatMap slotC ++ ([i64v x.2.2.1] ++ [.slice x.2.2.2.A x.2.2.2.n x.2.2.2.c]))
theorem open_codes {r : Reach} {b0 : Nat} {v : Value} {d : DataW H} {p : List MemPlace} (hv : Value.okWide Try.prog w r b0 53 v) (h : DataW.Trod enc Try.prog w 0 (fun _ => true) true 53 v d p) :
    ∃ x : List Slot × List Slot × Int × Sl UInt8, v = .agg (codesC x).toArray ∧ (x.1.length = 40 ∧ ∀ y ∈ x.1, slotOk y) ∧ (x.2.1.length = 40 ∧ ∀ y ∈ x.2.1, slotOk y) ∧ (-9223372036854775808 ≤ x.2.2.1 ∧ x.2.2.1 ≤ 9223372036854775807) ∧ x.2.2.2.Ok w (fun c : UInt8 => [u8v c]) (fun _ => True) :=
  arg_agg (f := codesC) (by kernel_rfl)
    (opens_struct Try.underlying53 (by kernel_rfl) rfl
      (OpensL.cons 28 0 120 120 (by kernel_rfl) rfl opens_imap (OpensL.cons 28 120 120 240 (by kernel_rfl) rfl opens_imap (OpensL.cons 3 240 1 241 (by kernel_rfl) rfl (opens_i64 Try.underlying3)
        (OpensL.one 48 241 1 242 (by kernel_rfl) rfl (opens_slice 1 Try.underlying48 (by kernel_rfl) (by decide) (opens_u8 Try.underlying5))))))) hv h
end
end Go.Proofs.Ytalcgnjkhnmmiaa
