/- A slice that a call made, beside an error. No condition. -/
import Derived.Test.YtobiepjnnglglaaRows
import Derived.Test.YtobiepjnnglglaaBase
import Derived.Test.YtobiepjnnglglaaPlain1
namespace Go.Proofs.Ytobiepjnnglglaa
open Go.RowKit

theorem Try.info_u64 : (Try.prog.info? 61).map (fun i => (i.zero, i.size, i.bytes)) = some (some (.int .u64 0), 1, 8) := by kernel_rfl

/-- a slice that the call made, and what else it did to the world -/
def Made (w : World) (E size : Nat) (err : Int) (xs : List Value) (n : Nat) (e : Ending) (w' : World) : Prop :=
  ∃ A c, e = .returned (.tuple #[.slice A n c, .int .i64 err]) ∧ w'.ownsRow w.heap.size E size (.slice A n c) n xs ∧ Below w.heap.size w w'

theorem made_none {w w' : World} {E size : Nat} {err : Int} {r : Int × List Nat} (h : r = (err, [])) (hb : Below w.heap.size w w') :
    Made w E size r.1 (r.2.map u64v) r.2.length (.returned (.tuple #[.slice none 0 0, .int .i64 err])) w' := by
  subst h; exact ⟨none, 0, rfl, World.ownsRow_nil _ _ _ _, hb⟩
/-- a row's blocks lie from a lower number on, too -/
theorem own_base {w : World} {b b' e z n : Nat} {v : Value} {xs : List Value} (h : w.ownsRow b e z v n xs) (hb : b' ≤ b) : w.ownsRow b' e z v n xs := by
  obtain ⟨h1, h2⟩ := h
  refine ⟨h1, ?_⟩
  rcases h2 with h2 | ⟨g, cap, cur, h3, h4, h5⟩
  · exact .inl h2
  · exact .inr ⟨g, cap, cur, h3, Nat.le_trans hb h4, h5⟩
theorem Made.base {w w0 : World} {E size : Nat} {err : Int} {xs : List Value} {n : Nat} {e : Ending} {w' : World} (h : Made w E size err xs n e w') (hb : Below w0.heap.size w0 w) : Made w0 E size err xs n e w' := by
  obtain ⟨A, c, h1, h2, h3⟩ := h
  exact ⟨A, c, h1, own_base h2 hb.size, hb.trans (h3.mono hb.size)⟩
end Go.Proofs.Ytobiepjnnglglaa
