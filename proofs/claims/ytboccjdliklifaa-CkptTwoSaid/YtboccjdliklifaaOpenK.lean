/- A checkpoint that came in is opened. No condition. -/
import Derived.Test.YtboccjdliklifaaOpenS
import Derived.Test.YtboccjdliklifaaCkC
namespace Go.Proofs.Ytboccjdliklifaa
open Go.ChangeShapes Go.WideShapes Go.ChangeAt Go.RowKit Go.Deep
section
variable {H : Type} {enc : TypeId × Value → H} {w : World}
theorem opens_ptrK : Opens H enc Try.prog w 24 (fun x : Int × Nat => [i64v x.1] ++ [.int .u32 (x.2 : Int)]) (fun x => (-9223372036854775808 ≤ x.1 ∧ x.1 ≤ 9223372036854775807) ∧ x.2 < 4294967296) :=
  opens_struct Try.underlying24 (by kernel_rfl) rfl
    (OpensL.cons 3 0 1 1 (by kernel_rfl) rfl (opens_i64 Try.underlying3) (OpensL.one 22 1 1 2 (by kernel_rfl) rfl (opens_u32 Try.underlying22)))
abbrev CkT := Int × Int × Int × List (Int × Nat) × List Int
def ckT (x : CkT) : List Value := [i64v x.1] ++ ([i64v x.2.1] ++ ([i64v x.2.2.1] ++ (x.2.2.2.1.flatMap (fun x : Int × Nat => [i64v x.1] ++ [.int .u32 (x.2 : Int)]) ++ x.2.2.2.2.flatMap (fun n => [i64v n]))))
/-- a checkpoint's fields in their kinds -/
def CkIn (c : Ck) : Prop := (-9223372036854775808 ≤ c.seq ∧ c.seq ≤ 9223372036854775807) ∧ (-9223372036854775808 ≤ c.nx ∧ c.nx ≤ 9223372036854775807) ∧ (-9223372036854775808 ≤ c.at_ ∧ c.at_ ≤ 9223372036854775807) ∧
  c.map.length = 4 ∧ (∀ p ∈ c.map, p.2 < 4294967296) ∧ c.used.length = 8
theorem open_check {r : Reach} {b0 : Nat} {v : Value} {d : DataW H} {p : List MemPlace} (hv : Value.okWide Try.prog w r b0 28 v) (h : DataW.Trod enc Try.prog w 0 (fun _ => true) true 28 v d p) :
    ∃ c : Ck, v = .agg (ckC c).toArray ∧ CkIn c := by
  obtain ⟨x, hx, h1, h2, h3, h4, h5⟩ := arg_agg (f := ckT) (by kernel_rfl)
    (opens_struct Try.underlying28 (by kernel_rfl) rfl
      (OpensL.cons 3 0 1 1 (by kernel_rfl) rfl (opens_i64 Try.underlying3) (OpensL.cons 3 1 1 2 (by kernel_rfl) rfl (opens_i64 Try.underlying3) (OpensL.cons 3 2 1 3 (by kernel_rfl) rfl (opens_i64 Try.underlying3)
        (OpensL.cons 25 3 8 11 (by kernel_rfl) rfl (opens_array (n := 4) (z := 2) (f := fun x : Int × Nat => [i64v x.1] ++ [.int .u32 (x.2 : Int)]) Try.underlying25 (by kernel_rfl) (by kernel_rfl) (fun _ => rfl) opens_ptrK)
          (OpensL.one 26 11 8 19 (by kernel_rfl) rfl (opens_array (n := 8) (z := 1) (f := fun n : Int => [i64v n]) Try.underlying26 (by kernel_rfl) (by kernel_rfl) (fun _ => rfl) (opens_i64 Try.underlying3))))))))
    hv h
  exact ⟨⟨x.1, x.2.1, x.2.2.1, x.2.2.2.1, x.2.2.2.2⟩, hx, h1, h2, h3, h4.1, fun p hp => (h4.2 p hp).2, h5.1⟩
end
end Go.Proofs.Ytboccjdliklifaa
