/- An inode that came in is opened. No condition. -/
import Derived.Test.YtobiepjnnglglaaOpenS
import Derived.Test.YtobiepjnnglglaaInB
namespace Go.Proofs.Ytobiepjnnglglaa
open Go.ChangeShapes Go.WideShapes Go.ChangeAt Go.RowKit Go.Deep
section
variable {H : Type} {enc : TypeId × Value → H} {w : World}
theorem opens_ptrK : Opens H enc Try.prog w 24 (fun x : Int × Nat => [i64v x.1] ++ [.int .u32 (x.2 : Int)]) (fun x => (-9223372036854775808 ≤ x.1 ∧ x.1 ≤ 9223372036854775807) ∧ x.2 < 4294967296) :=
  opens_struct Try.underlying24 (by kernel_rfl) rfl
    (OpensL.cons 3 0 1 1 (by kernel_rfl) rfl (opens_i64 Try.underlying3) (OpensL.one 22 1 1 2 (by kernel_rfl) rfl (opens_u32 Try.underlying22)))
abbrev InoT := Int × Int × Int × Int × Int × List (Int × Nat)
def inoT (x : InoT) : List Value := [i64v x.1] ++ ([i64v x.2.1] ++ ([i64v x.2.2.1] ++ ([i64v x.2.2.2.1] ++ ([i64v x.2.2.2.2.1] ++ x.2.2.2.2.2.flatMap (fun x : Int × Nat => [i64v x.1] ++ [.int .u32 (x.2 : Int)])))))
def InoIn (c : Ino) : Prop := c.ps.length = 9 ∧ ∀ p ∈ c.ps, p.2 < 4294967296
set_option maxHeartbeats 4000000 in
theorem opens_ino : Opens H enc Try.prog w 27 inoC InoIn := by
  intro fuel cs y hy
  obtain ⟨x, hx, _, _, _, _, _, h5⟩ := (opens_struct (f := inoT) Try.underlying27 (by kernel_rfl) rfl
      (OpensL.cons 3 0 1 1 (by kernel_rfl) rfl (opens_i64 Try.underlying3) (OpensL.cons 3 1 1 2 (by kernel_rfl) rfl (opens_i64 Try.underlying3) (OpensL.cons 3 2 1 3 (by kernel_rfl) rfl (opens_i64 Try.underlying3)
        (OpensL.cons 3 3 1 4 (by kernel_rfl) rfl (opens_i64 Try.underlying3) (OpensL.cons 3 4 1 5 (by kernel_rfl) rfl (opens_i64 Try.underlying3)
          (OpensL.one 25 5 18 23 (by kernel_rfl) rfl (opens_array (n := 9) (z := 2) (f := fun x : Int × Nat => [i64v x.1] ++ [.int .u32 (x.2 : Int)]) Try.underlying25 (by kernel_rfl) (by kernel_rfl) (fun _ => rfl) opens_ptrK)))))))) fuel cs y hy
  exact ⟨⟨x.1, x.2.1, x.2.2.1, x.2.2.2.1, x.2.2.2.2.1, x.2.2.2.2.2⟩, hx, h5.1, fun p hp => (h5.2 p hp).2⟩
theorem open_inode {r : Reach} {b0 : Nat} {v : Value} {d : DataW H} {p : List MemPlace} (hv : Value.okWide Try.prog w r b0 27 v) (h : DataW.Trod enc Try.prog w 0 (fun _ => true) true 27 v d p) :
    ∃ c : Ino, v = .agg (inoC c).toArray ∧ InoIn c :=
  arg_agg (f := inoC) (by kernel_rfl) opens_ino hv h
theorem open_ptr {r : Reach} {b0 : Nat} {v : Value} {d : DataW H} {p : List MemPlace} (hv : Value.okWide Try.prog w r b0 24 v) (h : DataW.Trod enc Try.prog w 0 (fun _ => true) true 24 v d p) :
    ∃ x : Int × Nat, v = .agg #[.int .i64 x.1, .int .u32 (x.2 : Int)] ∧ ((-9223372036854775808 ≤ x.1 ∧ x.1 ≤ 9223372036854775807) ∧ x.2 < 4294967296) :=
  arg_agg (f := fun x : Int × Nat => [i64v x.1] ++ [.int .u32 (x.2 : Int)]) (by kernel_rfl) opens_ptrK hv h
end
end Go.Proofs.Ytobiepjnnglglaa
