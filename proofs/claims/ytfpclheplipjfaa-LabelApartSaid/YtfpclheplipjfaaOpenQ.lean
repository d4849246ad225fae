import Derived.Test.YtfpclheplipjfaaOpenS
import Derived.Test.YtfpclheplipjfaaLabA
namespace Go.Proofs.Ytfpclheplipjfaa
open Go.ChangeShapes Go.WideShapes Go.ChangeAt Go.RowKit Go.Deep
section
variable {H : Type} {enc : TypeId × Value → H} {w : World}
def u16v (n : Nat) : Value := .int .u16 (n : Int)
theorem opens_u16 {P : Program} {t : TypeId} (ht : P.underlying t = some (.int .u16)) : Opens H enc P w t (fun n : Nat => [u16v n]) (fun n => n < 65536) := by
  intro fuel cs y h
  obtain ⟨n, hc, _, hw⟩ := DataW.trod_int ht h
  simp [Lit.wf, IntKind.min, IntKind.max, IntKind.bits, IntKind.signed] at hw
  refine ⟨n.toNat, ?_, by omega⟩
  rw [hc]
  show [Value.int .u16 n] = [Value.int .u16 ((n.toNat : Nat) : Int)]
  have : ((n.toNat : Nat) : Int) = n := by omega
  rw [this]
abbrev GeoT := Int × Int × Int × Int
def geoC (x : GeoT) : List Value := [i64v x.1] ++ ([i64v x.2.1] ++ ([i64v x.2.2.1] ++ [i64v x.2.2.2]))
def i64w (n : Int) : Prop := -9223372036854775808 ≤ n ∧ n ≤ 9223372036854775807
theorem opens_geo : Opens H enc Try.prog w 23 geoC (fun x => i64w x.1 ∧ i64w x.2.1 ∧ i64w x.2.2.1 ∧ i64w x.2.2.2) :=
  opens_struct Try.underlying23 (by kernel_rfl) rfl
    (OpensL.cons 3 0 1 1 (by kernel_rfl) rfl (opens_i64 Try.underlying3) (OpensL.cons 3 1 1 2 (by kernel_rfl) rfl (opens_i64 Try.underlying3)
      (OpensL.cons 3 2 1 3 (by kernel_rfl) rfl (opens_i64 Try.underlying3) (OpensL.one 3 3 1 4 (by kernel_rfl) rfl (opens_i64 Try.underlying3)))))
theorem opens_two : Opens H enc Try.prog w 25 (fun l : List Nat => l.flatMap (fun n => [u16v n])) (fun l => l.length = 2 ∧ ∀ y ∈ l, y < 65536) :=
  opens_array (n := 2) (z := 1) (f := fun n : Nat => [u16v n]) Try.underlying25 (by kernel_rfl) (by kernel_rfl) (fun _ => rfl) (opens_u16 Try.underlying24)
def apartC (x : GeoT × GeoT × List Nat × List Nat) : List Value := geoC x.1 ++ (geoC x.2.1 ++ (x.2.2.1.flatMap (fun n => [u16v n]) ++ x.2.2.2.flatMap (fun n => [u16v n])))
theorem open_apart {r : Reach} {b0 : Nat} {v : Value} {d : DataW H} {p : List MemPlace} (hv : Value.okWide Try.prog w r b0 27 v) (h : DataW.Trod enc Try.prog w 0 (fun _ => true) true 27 v d p) :
    ∃ x : GeoT × GeoT × List Nat × List Nat, v = .agg (apartC x).toArray ∧ (i64w x.1.1 ∧ i64w x.1.2.1 ∧ i64w x.1.2.2.1 ∧ i64w x.1.2.2.2) ∧ (i64w x.2.1.1 ∧ i64w x.2.1.2.1 ∧ i64w x.2.1.2.2.1 ∧ i64w x.2.1.2.2.2) ∧
      (x.2.2.1.length = 2 ∧ ∀ y ∈ x.2.2.1, y < 65536) ∧ (x.2.2.2.length = 2 ∧ ∀ y ∈ x.2.2.2, y < 65536) :=
  arg_agg (f := apartC) (by kernel_rfl)
    (opens_struct Try.underlying27 (by kernel_rfl) rfl
      (OpensL.cons 23 0 4 4 (by kernel_rfl) rfl opens_geo (OpensL.cons 23 4 4 8 (by kernel_rfl) rfl opens_geo
        (OpensL.cons 25 8 2 10 (by kernel_rfl) rfl opens_two
          (OpensL.one 25 10 2 12 (by kernel_rfl) rfl opens_two))))) hv h
end
end Go.Proofs.Ytfpclheplipjfaa
