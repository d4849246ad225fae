import Derived.Test.YtfpclheplipjfaaLabG
import Derived.Test.YtfpclheplipjfaaOpen
namespace Go.Proofs.Ytfpclheplipjfaa
open Go.RowKit
set_option maxRecDepth 100000 in
set_option maxHeartbeats 8000000 in
theorem walk_LabelReads (s0 : Sl UInt8) (w : World) (h0 : s0.Ok w (fun c => [u8v c]) (fun _ => True)) :
    Calls Try.prog 6 #[.slice s0.A s0.n s0.c] w fun e w' => e = .returned (.bool true) ∧ Below w.heap.size w w' := by
  obtain ⟨A, n, c, bs0⟩ := s0
  obtain ⟨r0, l0, k0, _, _⟩ := h0
  simp only [flat_u8] at r0 l0 k0 ⊢
  obtain ⟨bs, n', q0, g0, e0, f0, eb, case0⟩ := r0.few 200 l0 k0
  clear eb r0 l0
  have F := hide (fun w => few_any A n c n' w k0 case0)
  have R1 := fun w hx => readSuper_any A n' c bs w hx g0 f0
  have R2 := fun w hx => readLabel_any A n' c bs w hx g0 f0
  have R3 := fun w => readSRef_any ⟨bs.toArray⟩ bs rfl w (by omega)
  have R4 := fun w => readLRef_any ⟨bs.toArray⟩ bs rfl w (by omega)
  obtain ⟨⟨⟨a, b, d, e⟩, er⟩, hr⟩ : ∃ r, r = readS bs := ⟨_, rfl⟩
  obtain ⟨⟨⟨v, g⟩, el⟩, hl⟩ : ∃ r, r = readL bs := ⟨_, rfl⟩
  rw [← hr] at R1 R3; rw [← hl] at R2 R4
  simp only at R1 R2 R3 R4
  replace R1 := hide R1; replace R2 := hide R2; replace R3 := hide R3; replace R4 := hide R4
  have Q0 := hide q0; have G0 := hide g0
  clear hr hl q0 g0 case0
  go_enter Try.func6, Try.ntmps6
  go_wp2_with (first
    | (go_at_call 16; (with_reducible refine (unhide F _).mono ?_); rintro e w' ⟨rfl, rfl⟩)
    | (go_at_call 11; (with_reducible refine (unhide R1 _ Q0.out).mono ?_); rintro e w1 ⟨rfl, hb1⟩; replace Q0 := hide (Q0.out.on hb1); have hb := hide hb1; clear hb1; have B1 := hide (Blk.new w1 23 #[.int .i64 a, .int .i64 b, .int .i64 d, .int .i64 e]); have s1 := run_str (P := Try.prog) (n := n') (c := c) 28 9 5 Try.underlying28 Try.underlying5 Try.underlying9 (Q0.out.alloc (.cells #[.int .i64 a, .int .i64 b, .int .i64 d, .int .i64 e] 23)) G0.out)
    | (go_at_call 17; (with_reducible refine (unhide R3 _).mono ?_); rintro e w2 ⟨rfl, hb2⟩; replace Q0 := hide (((Q0.out.alloc _).on hb2).alloc (.cells #[.int .i64 a, .int .i64 b, .int .i64 d, .int .i64 e] 23)); replace B1 := hide ((B1.out.below hb2 B1.out.lt).alloc (.cells #[.int .i64 a, .int .i64 b, .int .i64 d, .int .i64 e] 23)); replace hb := hide (nextB (hb.out.alloc hb.out.size _) hb2); clear hb2 s1; have B2 := hide (Blk.new w2 23 #[.int .i64 a, .int .i64 b, .int .i64 d, .int .i64 e]); replace hb := hide (hb.out.alloc hb.out.size (.cells #[.int .i64 a, .int .i64 b, .int .i64 d, .int .i64 e] 23)))
    | (go_at_call 12; (with_reducible refine (unhide R2 _ Q0.out).mono ?_); rintro e w3 ⟨rfl, hb3⟩; replace Q0 := hide (Q0.out.on hb3); replace B1 := hide (B1.out.below hb3 B1.out.lt); replace B2 := hide (B2.out.below hb3 B2.out.lt); replace hb := hide (nextB hb.out hb3); clear hb3; have s2 := run_str (P := Try.prog) (n := n') (c := c) 28 9 5 Try.underlying28 Try.underlying5 Try.underlying9 Q0.out G0.out)
    | (go_at_call 18; (with_reducible refine (unhide R4 _).mono ?_); rintro e w4 ⟨rfl, hb4⟩; replace B1 := hide (B1.out.below hb4 B1.out.lt); replace B2 := hide (B2.out.below hb4 B2.out.lt); replace hb := hide (nextB hb.out hb4); clear hb4 s2; have c0 := B1.out.cell_ 0 _ rfl; have c1 := B1.out.cell_ 1 _ rfl; have c2 := B1.out.cell_ 2 _ rfl; have c3 := B1.out.cell_ 3 _ rfl; have d0 := B2.out.cell_ 0 _ rfl; have d1 := B2.out.cell_ 1 _ rfl; have d2 := B2.out.cell_ 2 _ rfl; have d3 := B2.out.cell_ 3 _ rfl)
    | (go_at_call 9; (with_reducible refine (awake_any _).mono ?_); rintro e w5 ⟨rfl, hb5⟩))
  go_ret
  exact ⟨rfl, nextB hb.out hb5⟩
end Go.Proofs.Ytfpclheplipjfaa
