import Derived.Test.YtfcllcofikdjaaaAwake
import Derived.Test.YtfcllcofikdjaaaOpen
import Derived.Deep.DeepCutAuto
namespace Go.Proofs.Ytfcllcofikdjaaa
open Go.RowKit

set_option maxRecDepth 100000 in
set_option maxHeartbeats 2000000 in
theorem walk_PackReads (s0 : Sl UInt8) (s1 : Sl Int) (w : World) (h0 : s0.Ok w (fun c => [u8v c]) (fun _ => True)) (h1 : s1.Ok w (fun c => [i64v c]) (fun n => -9223372036854775808 ≤ n ∧ n ≤ 9223372036854775807)) :
    Calls Try.prog 6 #[.slice s0.A s0.n s0.c, .slice s1.A s1.n s1.c] w fun e w' => e = .returned (.bool true) ∧ Below w.heap.size w w' := by
  obtain ⟨A0, n0, c0, bs⟩ := s0
  obtain ⟨A1, n1, c1, ws⟩ := s1
  obtain ⟨r0, l0, k0, m0, _⟩ := h0
  obtain ⟨r1, l1, k1, m1, _⟩ := h1
  simp only [flat_u8, flat_i64] at r0 r1 l0 l1 k0 k1 m0 m1 ⊢
  obtain ⟨bs', n0', q0, g0, e0, f0, z0, case0⟩ := r0.few 200 l0 k0
  obtain ⟨ws', n1', q1, g1, e1, f1, z1, case1⟩ := r1.few 30 l1 k1
  clear r0 r1 l0 l1 z0 z1 m0 m1
  have G0 := hide g0; have G1 := hide g1; clear g0 g1
  have U := hide (unpack_any _ _ _ c0 _ c1 bs' ws' w q0 q1 G0.out f0 G1.out (by omega))
  rcases unpackR_cases bs' ws' with hbad | ⟨hok, hs, hR⟩
  · rcases hbad with hR | hR <;> rw [hR] at U <;> clear hR
    all_goals
      go_enter Try.func6, Try.ntmps6
      go_upto_if 15 with fail
      go_cut [0] (fun v wx => v = .slice A0 n0' c0 ∧ w = wx)
      case first => rcases case0 with ⟨d0, rfl⟩ | ⟨d0, rfl⟩ <;> (go_wp2_with fail; go_meet; exact ⟨rfl, rfl⟩)
      case rest =>
      obtain ⟨rfl, rfl⟩ := hcut
      go_upto_if 20 with fail
      go_cut [1] (fun v wx => v = .slice A1 n1' c1 ∧ w = wx)
      case first => rcases case1 with ⟨d1, rfl⟩ | ⟨d1, rfl⟩ <;> (go_wp2_with fail; go_meet; exact ⟨rfl, rfl⟩)
      case rest =>
      obtain ⟨rfl, rfl⟩ := hcut
      clear case0 case1
      go_wp2_with fail
      refine (unhide U).mono ?_
      rintro e w1 ⟨A2, c2, rfl, _, hb1⟩
      go_wp2_with fail
      refine (awake_any _).mono ?_
      rintro e w4 ⟨rfl, hb4⟩
      go_wp2_with fail
      go_ret
      exact ⟨rfl, hb1.trans (hb4.mono hb1.size)⟩
  · rw [hR] at U
    have Hok := hide hok; have Hs := hide hs; clear hok hs hR
    go_enter Try.func6, Try.ntmps6
    go_upto_if 15 with fail
    go_cut [0] (fun v wx => v = .slice A0 n0' c0 ∧ w = wx)
    case first => rcases case0 with ⟨d0, rfl⟩ | ⟨d0, rfl⟩ <;> (go_wp2_with fail; go_meet; exact ⟨rfl, rfl⟩)
    case rest =>
    obtain ⟨rfl, rfl⟩ := hcut
    go_upto_if 20 with fail
    go_cut [1] (fun v wx => v = .slice A1 n1' c1 ∧ w = wx)
    case first => rcases case1 with ⟨d1, rfl⟩ | ⟨d1, rfl⟩ <;> (go_wp2_with fail; go_meet; exact ⟨rfl, rfl⟩)
    case rest =>
    obtain ⟨rfl, rfl⟩ := hcut
    clear case0 case1
    go_wp2_with fail
    refine (unhide U).mono ?_
    rintro e w1 ⟨A2, c2, rfl, ho2, hb1⟩
    have hnl : (nums bs' ws').length = ws'.length := nums_length _ _
    have Hnl := hide (hnl.trans G1.out); clear hnl
    rw [Hnl.out] at ho2 ⊢
    go_wp2_with fail
    have r2 := Rd.of_own ho2
    have Ho2 := hide ho2; clear ho2
    obtain ⟨wo, rfl⟩ : ∃ wo : World, wo = w1 := ⟨_, rfl⟩
    go_loopw [7, 8] (fun p i wr => ∃ k : Nat, k ≤ n1' ∧ i = .int .i64 k ∧ p = .int .i64 (sumW (ws'.take k) : Nat) ∧ Below wo.heap.size wo wr) (fun _ i _ => n1' - (intOf i).toNat)
    case atStart => exact ⟨0, Nat.zero_le _, rfl, rfl, Below.refl _ _⟩
    case round =>
      obtain ⟨k, hk, rfl, rfl, hb⟩ := hrel
      by_cases hlt : k < n1'
      · obtain ⟨b, o, x, rfl, hbl, hxk, _⟩ := q1.i64 (k := k) (by rw [G1.out]; exact hlt)
        obtain ⟨b2, o2, y, rfl, hbl2, hyk, hcy⟩ := (r2.on hb).u64 (k := k) (by rw [Hnl.out]; exact hlt)
        have hcx := ((q1.on hb1).on hb).i64c hxk
        have hyy := nums_get ws' bs' k _ hxk
        have hx18 := (okW_iff ws').1 Hok.out x (List.mem_of_getElem? hxk)
        obtain ⟨x, rfl⟩ := Int.eq_ofNat_of_zero_le (show 0 ≤ x by omega)
        have hx1 : 1 ≤ x := by omega
        have hx8 : x ≤ 8 := by omega
        have hsx := sumW_take_succ ws' k _ hxk
        have hsy := sumW_take_le ws' (k + 1)
        rw [Int.toNat_natCast] at hsx hyy
        have hy2 : y = beN (List.take x (List.drop (sumW (List.take k ws')) bs')) := Option.some.inj (hyk.symm.trans hyy)
        have Hs' := Hs.out
        have hpx : sumW (ws'.take k) + x ≤ bs'.length := by omega
        rw [G0.out] at hpx
        obtain ⟨p, hp⟩ : ∃ p, p = sumW (ws'.take k) := ⟨_, rfl⟩
        rw [← hp] at hpx hsx hy2 ⊢
        have hpn : p ≤ n0' := by omega
        have Hxk := hide hxk; have Hyk := hide hyk; have Hsx := hide hsx; have Hp := hide hp; have Hy2 := hide hy2; clear hxk hyk hyy hx18 hsy hsx hp hy2 Hs'
        have V := hide (unpack_any (if c0 = p then A0 else A0.map (·.add p)) (some ⟨wr.heap.size, 0, none⟩) (n0' - p) (c0 - p) 1 1 (bs'.drop p) [(x : Int)] (wr.alloc (.cells #[.int .i64 (x : Int)] 3)).drew
            (by rw [List.map_drop]; exact ((((q0.on hb1).on hb).alloc _).drew).cut (by simp [G0.out]) f0) (Blk.new wr 3 #[.int .i64 (x : Int)]).drew.rd (by simp [G0.out]) (by omega) rfl (by omega))
        rw [unpackR_one _ x hx1 hx8 (by rw [List.length_drop, G0.out]; omega), ← Hy2.out] at V
        go_wp2_with fail
        go_region_law (go_simp; go_at_call 8; refine (unhide V).mono ?_; rintro e w2 ⟨A3, c3, rfl, ho3, hb2⟩)
        have kb : Below wo.heap.size wo w2 := ((hb.alloc hb.size _).drew).trans (hb2.mono (by have := hb.size; simp; omega))
        have hcy2 := (r2.on kb).u64c Hyk.out
        obtain ⟨b3, o3, y3, rfl, _, hy3, hcy3⟩ := (Rd.of_own ho3).u64 (k := 0) (by simp)
        have hy4 : y3 = y := by simpa using hy3.symm
        subst hy4
        have hcx2 := ((q1.on hb1).on kb).i64c Hxk.out
        have hcy4 : w2.cell? ⟨b3, o3, none⟩ = some (.int .u64 (y3 : Int)) := hcy3
        clear V hcy ho3 hy3 hcx hcy3
        have hge : decide (n1' ≤ k) = false := by simpa using hlt
        have hge2 : decide ((n1' : Int) ≤ (k : Int)) = false := by simpa using hlt
        go_wp2_with fail
        go_quiet (fail)
        go_wp2_with fail
        go_roundw
        case rel => exact ⟨k + 1, by omega, by go_num, ret_u64 (by rw [Hsx.out]; omega), below_drewN kb _⟩
        case measure => simp [intOf]; omega
      · obtain rfl : k = n1' := by omega
        have hw : ws'.take k = ws' := List.take_of_length_le (Nat.le_of_eq G1.out)
        rw [hw]
        have kb : Below w.heap.size w wr := hb1.trans (hb.mono hb1.size)
        have hs' := Hs.out
        rw [G0.out] at hs'
        obtain ⟨p, hp⟩ : ∃ p, p = sumW ws' := ⟨_, rfl⟩
        rw [← hp] at hs' ⊢
        have Hp := hide hp; clear hp hw
        by_cases hz : p = 0
        · subst hz
          have hnil := sumW_zero ws' Hok.out Hp.out.symm
          have hk0 : k = 0 := by rw [← G1.out, hnil]; rfl
          clear hnil
          subst hk0
          go_wp2_with fail
          refine (awake_any _).mono ?_
          rintro e w4 ⟨rfl, hb4⟩
          go_wp2_with fail
          go_ret
          exact ⟨rfl, kb.trans (hb4.mono kb.size)⟩
        · have hz1 : ((p : Int) == 0) = false := by simp; omega
          have hz2 : 1 ≤ p := by omega
          have hz3 : p - 1 ≤ c0 := by omega
          have hz4 : (p : Int) - 1 ≤ c0 := by omega
          clear hz
          have V := hide (unpack_any A0 A1 (p - 1) c0 k c1 (bs'.take (p - 1)) ws' wr (by rw [List.map_take]; exact (q0.on kb).take _) (q1.on kb) (by rw [List.length_take, G0.out]; omega) (by omega) G1.out (by omega))
          rw [unpackR_short _ ws' Hok.out (by rw [List.length_take, ← Hp.out]; omega)] at V
          go_wp2_with fail
          refine (unhide V).mono ?_
          rintro e w3 ⟨A4, c4, rfl, _, hb3⟩
          clear V
          go_wp2_with fail
          refine (awake_any _).mono ?_
          rintro e w4 ⟨rfl, hb4⟩
          go_wp2_with fail
          go_ret
          exact ⟨rfl, (kb.trans (hb3.mono kb.size)).trans (hb4.mono (Nat.le_trans kb.size hb3.size))⟩
end Go.Proofs.Ytfcllcofikdjaaa
