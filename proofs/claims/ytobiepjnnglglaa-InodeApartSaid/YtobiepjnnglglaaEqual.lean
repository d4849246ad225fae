/- Octets are compared. No condition. -/
import Derived.Test.YtobiepjnnglglaaRows
import Derived.Test.YtobiepjnnglglaaBase
namespace Go.Proofs.Ytobiepjnnglglaa
open Go.RowKit
set_option maxHeartbeats 400000 in
theorem bytesEq_any (A A' : Option Addr) (n c n' c' : Nat) (xs ys : List UInt8) (w : World) (hx : Rd w A (xs.map u8v)) (hy : Rd w A' (ys.map u8v)) (hn : xs.length = n) (hn' : ys.length = n') :
    Calls Try.prog 34 #[.slice A n c, .slice A' n' c'] w fun e w' => e = .returned (.bool (decide (xs = ys))) ∧ w = w' := by
  have s1 := run_str (P := Try.prog) (c := c) 28 9 5 Try.underlying28 Try.underlying5 Try.underlying9 hx hn
  have s2 := run_str (P := Try.prog) (c := c') 28 9 5 Try.underlying28 Try.underlying5 Try.underlying9 hy hn'
  clear hx hy hn hn'
  go_enter Try.func34, Try.ntmps34
  go_wp2_with fail
  go_ret
  exact ⟨ret_bool (by show (xs == ys) = _; by_cases h : xs = ys <;> simp [h]), rfl⟩
theorem own_some {w : World} {b e z n c : Nat} {A : Option Addr} {xs : List Value} (h : w.ownsRow b e z (.slice A n c) n xs) (hn : 0 < n) : ∃ g, A = some ⟨g, 0, none⟩ ∧ b ≤ g := by
  rcases h.2 with ⟨_, h⟩ | ⟨g, cap, cur, hv, hg, _⟩
  · omega
  · injection hv with h1; exact ⟨g, h1, hg⟩
end Go.Proofs.Ytobiepjnnglglaa
