import Derived.Test.YtkgbgiiopebadaaCrcAwake
import Derived.Test.YtkgbgiiopebadaaOpen
namespace Go.Proofs.Ytkgbgiiopebadaa
open Go.RowKit

set_option maxRecDepth 100000 in
set_option maxHeartbeats 1000000 in
theorem walk_CrcSeals (s0 : Sl UInt8) (w : World) (h0 : s0.Ok w (fun c => [u8v c]) (fun _ => True)) :
    Calls Try.prog 4 #[.slice s0.A s0.n s0.c] w fun e w' => e = .returned (.bool true) ∧ Below w.heap.size w w' := by
  obtain ⟨A0, n0, c0, bs⟩ := s0
  obtain ⟨r0, l0, k0, m0, _⟩ := h0
  simp only [flat_u8] at r0 l0 k0 m0 ⊢
  obtain ⟨bs', n0', q0, g0, e0, f0, z0, case0⟩ := r0.few 300 l0 k0
  clear r0 l0 z0 m0
  have G0 := hide g0; clear g0
  have C0 := hide case0; clear case0
  have hstr0 := run_str (P := Try.prog) (c := c0) 23 9 5 Try.underlying23 Try.underlying5 Try.underlying9 q0 G0.out
  by_cases hn : n0' ≤ 124
  · go_enter Try.func4, Try.ntmps4
    go_wp2_with (go_at_call 8; refine (few_any A0 n0 c0 n0' _ k0 C0.out).mono ?_; rintro e w' ⟨rfl, rfl⟩)
    refine (seal_ok A0 n0' c0 bs' w q0 G0.out hn).mono ?_
    rintro e w1 ⟨g, rfl, hB, hg, hb1⟩
    clear hstr0
    have hstr := run_str (P := Try.prog) (c := c0) 23 9 5 Try.underlying23 Try.underlying5 Try.underlying9 (q0.on hb1) G0.out
    have hl := sealB_length bs' (by rw [G0.out]; exact hn)
    have HB := hide hB; have Hl := hide hl; clear hB hl
    have hstr2 := run_str (P := Try.prog) (n := 128) (c := 128) 23 9 5 Try.underlying23 Try.underlying5 Try.underlying9 HB.out.rd.drew Hl.out
    have hsz : (⟨bs'.toArray⟩ : ByteArray).size ≤ 124 := by
      have : (⟨bs'.toArray⟩ : ByteArray).size = n0' := by rw [← G0.out]; rfl
      omega
    have H2 := hide (fun W => refSeal_any ⟨bs'.toArray⟩ W hsz)
    clear hsz
    have H3 := hide (fun (W : World) (r : Rd W (some ⟨g, 0, none⟩) ((sealB bs').map u8v)) => show Calls Try.prog 16 #[.slice (some ⟨g, 0, none⟩) 128 128] W fun e w' => e = .returned (.bool true) ∧ Below W.heap.size W w' by
      have h3 := held_any (some ⟨g, 0, none⟩) 128 128 (sealB bs') W r Hl.out (Nat.le_refl _)
      rwa [heldB_seal bs' (by rw [G0.out]; exact hn)] at h3)
    go_wp2_with fail
    go_region_law (first
      | ((go_simp; go_at_call 15; refine (unhide H2 _).mono ?_; rintro e w2 ⟨rfl, hb2⟩; have hstr3 := run_str (P := Try.prog) (n := 128) (c := 128) 23 9 5 Try.underlying23 Try.underlying5 Try.underlying9 (HB.out.rd.drew.on hb2) Hl.out))
      | ((go_simp; go_at_call 16; refine (unhide H3 _ (HB.out.rd.drew.on hb2)).mono ?_; rintro e w3 ⟨rfl, hb3⟩))
      | ((go_simp; go_at_call 13; refine (awake_any _).mono ?_; rintro e w4 ⟨rfl, hb4⟩)))
    all_goals
      go_wp2_with fail
      go_ret
      have k2 : Below w.heap.size w w2 := (hb1.drew).trans (hb2.mono hb1.size)
      have k3 := k2.trans (hb3.mono k2.size)
      exact ⟨rfl, k3.trans (hb4.mono k3.size)⟩
  · have hn2 : 124 < n0' := by omega
    go_enter Try.func4, Try.ntmps4
    go_wp2_with (first
      | (go_at_call 8; refine (few_any A0 n0 c0 n0' _ k0 C0.out).mono ?_; rintro e w' ⟨rfl, rfl⟩)
      | (go_at_call 14; refine (seal_no A0 n0' c0 w hn2).mono ?_; rintro e w' ⟨rfl, rfl⟩))
    refine (awake_any _).mono ?_
    rintro e w4 ⟨rfl, hb4⟩
    clear hstr0
    go_wp2_with fail
    go_ret
    exact ⟨rfl, hb4⟩
end Go.Proofs.Ytkgbgiiopebadaa
