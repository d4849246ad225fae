import Derived.Test.YtfcllcofikdjaaaAwake
import Derived.Test.YtfcllcofikdjaaaOpen
namespace Go.Proofs.Ytfcllcofikdjaaa
open Go.RowKit

set_option maxHeartbeats 1000000 in
theorem walk_PackUnpacks (s0 : Sl UInt8) (s1 : Sl Int) (w : World) (h0 : s0.Ok w (fun c => [u8v c]) (fun _ => True)) (h1 : s1.Ok w (fun c => [i64v c]) (fun n => -9223372036854775808 ≤ n ∧ n ≤ 9223372036854775807)) :
    Calls Try.prog 3 #[.slice s0.A s0.n s0.c, .slice s1.A s1.n s1.c] w fun e w' => e = .returned (.bool true) ∧ Below w.heap.size w w' := by
  obtain ⟨A0, n0, c0, bs⟩ := s0
  obtain ⟨A1, n1, c1, ws⟩ := s1
  obtain ⟨r0, l0, k0, m0, _⟩ := h0
  obtain ⟨r1, l1, k1, m1, _⟩ := h1
  simp only [flat_u8, flat_i64] at r0 r1 l0 l1 k0 k1 m0 m1 ⊢
  obtain ⟨bs', n0', q0, g0, e0, f0, z0, case0⟩ := r0.few 300 l0 k0
  obtain ⟨ws', n1', q1, g1, e1, f1, z1, case1⟩ := r1.few 60 l1 k1
  clear r0 r1 l0 l1 z0 z1 m0 m1
  have hstr := run_str (P := Try.prog) (c := c0) 22 9 5 Try.underlying22 Try.underlying5 Try.underlying9 q0 g0
  have G0 := hide g0; have G1 := hide g1; clear g0 g1
  rcases case0 with ⟨d0, rfl⟩ | ⟨d0, rfl⟩ <;> rcases case1 with ⟨d1, rfl⟩ | ⟨d1, rfl⟩
  all_goals
    go_enter Try.func3, Try.ntmps3
    go_wp2_with fail
    clear hstr
    refine (unpack_any _ _ _ _ _ _ bs' ws' _ q0 q1 G0.out f0 G1.out (by omega)).mono ?_
    rintro e w1 ⟨A2, c2, rfl, ho2, hb1⟩
    go_wp2_with fail
    have h2 : Calls Try.prog _ _ _ (Made w1 37 1 (unpackR bs' ws').1 ((unpackR bs' ws').2.map u64v) (unpackR bs' ws').2.length) := refUnpack_any ⟨bs'.toArray⟩ A1 _ c1 ws' w1 (q1.on hb1) G1.out (by omega) (by simp only [ByteArray.size, List.size_toArray, G0.out]; omega)
    refine h2.mono ?_
    clear h2
    rintro e w2 ⟨A3, c3, rfl, ho3, hb2⟩
    go_wp2_with fail
    have hlen : (unpackR bs' ws').2.length ≤ 60 := by have := unpackR_length_le bs' ws'; have := G1.out; omega
    have h3 := same_any A2 A3 _ c2 _ c3 _ _ w2 ((Rd.of_own ho2).on hb2) (Rd.of_own ho3) rfl rfl (by omega) (by omega)
    rw [decide_eq_true rfl] at h3
    refine h3.mono ?_
    clear h3
    rintro e w3 ⟨rfl, hb3⟩
    have k3 : Below w.heap.size w w3 := (hb1.trans (hb2.mono hb1.size)).trans (hb3.mono (Nat.le_trans hb1.size hb2.size))
    have hstr := run_str (P := Try.prog) (c := c0) 22 9 5 Try.underlying22 Try.underlying5 Try.underlying9 (q0.on k3) G0.out
    go_wp2_with fail
    refine (awake_any _).mono ?_
    rintro e w4 ⟨rfl, hb4⟩
    clear hstr
    go_wp2_with fail
    go_ret
    exact ⟨rfl, k3.trans (hb4.mono k3.size)⟩
end Go.Proofs.Ytfcllcofikdjaaa
