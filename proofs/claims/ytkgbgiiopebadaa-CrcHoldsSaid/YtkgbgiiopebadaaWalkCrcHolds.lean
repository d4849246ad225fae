import Derived.Test.YtkgbgiiopebadaaCrcAwake
import Derived.Test.YtkgbgiiopebadaaOpen
namespace Go.Proofs.Ytkgbgiiopebadaa
open Go.RowKit

set_option maxRecDepth 100000 in
set_option maxHeartbeats 1000000 in
theorem walk_CrcHolds (s0 : Sl UInt8) (w : World) (h0 : s0.Ok w (fun c => [u8v c]) (fun _ => True)) :
    Calls Try.prog 5 #[.slice s0.A s0.n s0.c] w fun e w' => e = .returned (.bool true) ∧ Below w.heap.size w w' := by
  obtain ⟨A0, n0, c0, bs⟩ := s0
  obtain ⟨r0, l0, k0, m0, _⟩ := h0
  simp only [flat_u8] at r0 l0 k0 m0 ⊢
  obtain ⟨bs', n0', q0, g0, e0, f0, z0, case0⟩ := r0.few 300 l0 k0
  clear r0 l0 z0 m0
  have G0 := hide g0; clear g0
  have C0 := hide case0; clear case0
  obtain ⟨hb, hhb⟩ : ∃ hb, hb = heldB bs' := ⟨_, rfl⟩
  have Hhb := hide hhb; clear hhb
  have H1 := hide (fun (W : World) (r : Rd W A0 (bs'.map u8v)) => show Calls Try.prog 16 #[.slice A0 n0' c0] W fun e w' => e = .returned (.bool hb) ∧ Below W.heap.size W w' by
    have := held_any A0 n0' c0 bs' W r G0.out f0
    rwa [← Hhb.out] at this)
  have H2 := hide (fun (W : World) => show Calls Try.prog 17 #[.string ⟨bs'.toArray⟩] W fun e w' => e = .returned (.bool hb) ∧ Below W.heap.size W w' by
    have hsz : (⟨bs'.toArray⟩ : ByteArray).size = n0' := by rw [← G0.out]; rfl
    have := refHeld_any ⟨bs'.toArray⟩ W (by omega)
    rwa [show (⟨bs'.toArray⟩ : ByteArray).data.toList = bs' from rfl, ← Hhb.out] at this)
  have hstr0 := run_str (P := Try.prog) (c := c0) 23 9 5 Try.underlying23 Try.underlying5 Try.underlying9 (q0.drew) G0.out
  go_enter Try.func5, Try.ntmps5
  go_wp2_with (go_at_call 8; refine (few_any A0 n0 c0 n0' _ k0 C0.out).mono ?_; rintro e w' ⟨rfl, rfl⟩)
  go_region_law (first
    | ((go_simp; go_at_call 16; refine (unhide H1 _ q0.drew).mono ?_; rintro e w1 ⟨rfl, hb1⟩; have hstr1 := run_str (P := Try.prog) (c := c0) 23 9 5 Try.underlying23 Try.underlying5 Try.underlying9 (q0.drew.on hb1) G0.out))
    | ((go_simp; go_at_call 17; refine (unhide H2 _).mono ?_; rintro e w2 ⟨rfl, hb2⟩))
    | ((go_simp; go_at_call 13; refine (awake_any _).mono ?_; rintro e w3 ⟨rfl, hb3⟩)))
  all_goals
    go_wp2_with fail
    go_ret
    have k1 : Below w.heap.size w w1 := ((Below.refl _ w).drew).trans hb1
    have k2 := k1.trans (hb2.mono k1.size)
    exact ⟨rfl, k2.trans (hb3.mono k2.size)⟩
end Go.Proofs.Ytkgbgiiopebadaa
