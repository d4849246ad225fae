import Derived.Test.YtkgbgiiopebadaaCrcAwake
import Derived.Test.YtkgbgiiopebadaaOpen
import Derived.Test.YtkgbgiiopebadaaPlain5
namespace Go.Proofs.Ytkgbgiiopebadaa
open Go.RowKit

theorem xor_byte (c : UInt8) (v m : Nat) : Value.int .u8 (bits .xor .u8 (c.toNat : Int) ((v : Int) / 2 ^ m % 256)) = u8v (c ^^^ UInt8.ofNat (v / 2 ^ m)) := by
  have e : (v : Int) / 2 ^ m % 256 = ((v / 2 ^ m % 256 : Nat) : Int) := by simp
  rw [e, u8_xor_nat _ _ c.toNat_lt (Nat.mod_lt _ (by decide))]
  simp [u8v, UInt8.toNat_xor, UInt8.toNat_ofNat']
set_option maxRecDepth 100000 in
set_option maxHeartbeats 4000000 in
theorem walk_CrcFinds (s0 : Sl UInt8) (a t : Int) (w : World) (h0 : s0.Ok w (fun c => [u8v c]) (fun _ => True)) (ha : (Lit.int .u64 a).wf = true) (ht : (Lit.int .u32 t).wf = true) :
    Calls Try.prog 6 #[.slice s0.A s0.n s0.c, .int .u64 a, .int .u32 t] w fun e w' => e = .returned (.bool true) ∧ Below w.heap.size w w' := by
  obtain ⟨A0, n0, c0, bs⟩ := s0
  obtain ⟨r0, l0, k0, m0, _⟩ := h0
  simp only [flat_u8] at r0 l0 k0 m0 ⊢
  simp [Lit.wf, IntKind.min, IntKind.max, IntKind.bits, IntKind.signed] at ha ht
  obtain ⟨a, rfl⟩ := Int.eq_ofNat_of_zero_le ha.1
  obtain ⟨t, rfl⟩ := Int.eq_ofNat_of_zero_le ht.1
  obtain ⟨bs', n1, q0, g0, e0, f0, z0, case0⟩ := r0.few 300 l0 k0
  obtain ⟨bs2, n2, q2, g2, e2, f2, z2, case2⟩ := q0.few 124 g0 f0
  clear r0 l0 z0 m0 z2 q0 g0
  have G2 := hide g2; clear g2
  have C0 := hide case0; clear case0
  have hl := hide (sealB_length bs2 (by rw [G2.out]; exact e2))
  have hh := hide (heldB_seal bs2 (by rw [G2.out]; exact e2))
  obtain ⟨q, hq⟩ : ∃ q, a % 993 = q := ⟨_, rfl⟩
  obtain ⟨p, hp⟩ : ∃ p, q / 8 = p := ⟨_, rfl⟩
  obtain ⟨s, hs⟩ : ∃ s, q % 8 = s := ⟨_, rfl⟩
  have E1 : (a : Int) % 993 = (q : Int) := by omega
  have E2 : (q : Int) % 8 = (s : Int) := by omega
  have E3 : (q : Int) / 8 = (p : Int) := by omega
  have b1 : q ≤ 992 := by omega
  have b2 : p ≤ 124 := by omega
  have b3 : s ≤ 7 := by omega
  obtain ⟨v, hv⟩ : ∃ v, t * 2 ^ s = v := ⟨_, rfl⟩
  have hvl : v < 1099511627776 := by
    rw [← hv]
    have h1 : t * 2 ^ s ≤ 4294967295 * 2 ^ 7 := Nat.mul_le_mul (by omega) (Nat.pow_le_pow_right (by decide) b3)
    omega
  have E4 : IntKind.u64.wrap ((t : Int) * 2 ^ s) = (v : Int) := by
    have e : (t : Int) * 2 ^ s = ((t * 2 ^ s : Nat) : Int) := by simp
    rw [e, hv, IntKind.wrap_u64]; omega
  have Hv := hide hv; clear hv
  have Hp := hide hp; have Hs := hide hs; clear hp hs hq
  have H1 := hide (fun W r => seal_ok A0 n2 c0 bs2 W r G2.out e2)
  rcases case2 with ⟨h2, rfl⟩ | ⟨h2, rfl⟩
  · by_cases ht0 : (t : Int) = 0
    · obtain rfl : t = 0 := by omega
      go_enter Try.func6, Try.ntmps6
      go_wp2_with (first
        | (go_at_call 8; refine (few_any A0 n0 c0 _ _ k0 C0.out).mono ?_; rintro e w' ⟨rfl, rfl⟩)
        | (go_at_call 14; refine (unhide H1 w q2).mono ?_; rintro e w1 ⟨g, rfl, hB, hg, hb1⟩; replace hB := hide hB)
        | (go_at_call 16; refine (held_any _ 128 128 (sealB bs2) w1 hB.out.rd hl.out (Nat.le_refl _)).mono ?_; rw [hh.out]; rintro e w2 ⟨rfl, hb2⟩; replace hB := hide (hB.out.below hb2 hB.out.lt); have kb := hide (hb1.trans (hb2.mono hb1.size)); clear hb1 hb2)
        | (go_at_call 13; refine (awake_any _).mono ?_; rintro e w4 ⟨rfl, hb4⟩))
      go_ret
      exact ⟨rfl, kb.out.trans (hb4.mono kb.out.size)⟩
    · have ht1 : ((t : Int) == 0) = false := by simpa using ht0
      have hd2 : decide ((124 : Int) < (n2 : Int)) = false := by simp; omega
      go_enter Try.func6, Try.ntmps6
      go_wp2_with (first
        | (go_at_call 8; refine (few_any A0 n0 c0 _ _ k0 C0.out).mono ?_; rintro e w' ⟨rfl, rfl⟩)
        | (go_at_call 14; refine (unhide H1 w q2).mono ?_; rintro e w1 ⟨g, rfl, hB, hg, hb1⟩; replace hB := hide hB)
        | (go_at_call 16; refine (held_any _ 128 128 (sealB bs2) w1 hB.out.rd hl.out (Nat.le_refl _)).mono ?_; rw [hh.out]; rintro e w2 ⟨rfl, hb2⟩; replace hB := hide (hB.out.below hb2 hB.out.lt); have kb := hide (hb1.trans (hb2.mono hb1.size)); clear hb1 hb2))
      rw [E1]
      try rw [E2]
      clear E1 E4 ha
      go_loopw [11] (fun i wr => ∃ j : Nat, j ≤ 5 ∧ p + j ≤ 128 ∧ i = .int .u64 (j : Int) ∧ Blk wr g 5 ((turned (sealB bs2) p v j).map u8v).toArray ∧ Below w.heap.size w wr) (fun i _ => 5 - (intOf i).toNat)
      case atStart => exact ⟨0, by omega, by omega, rfl, by rw [turned_zero _ _ _ hl.out]; exact hB.out, kb.out⟩
      case round =>
        obtain ⟨j, hj, hpj, rfl, hB2, hb2⟩ := hrel
        by_cases hlt : j < 5 ∧ p + j < 128
        · obtain ⟨hj5, hp5⟩ := hlt
          have hc := List.getElem?_eq_getElem (l := sealB bs2) (i := p + j) (by rw [hl.out]; exact hp5)
          obtain ⟨c, hcc⟩ : ∃ c, (sealB bs2)[p + j]'(by rw [hl.out]; exact hp5) = c := ⟨_, rfl⟩
          rw [hcc] at hc
          clear hcc
          have hcell := hB2.cell_ (p + j) (.int .u8 (c.toNat : Int)) (by simp [turned_at _ p v j c hl.out hp5 hc]; rfl)
          have hfr := hB2.frozen (p + j)
          have hst := hide (turned_step _ p v j c hl.out hp5 hc)
          replace hB2 := hide hB2; replace hb2 := hide hb2
          clear hc
          go_wp2_with fail
          rw [xor_byte]
          go_roundw
          case rel => exact ⟨j + 1, by omega, by omega, by go_num, by rw [← hst.out]; exact hB2.out.u8_put _ _, hb2.out.setCell (by simp; omega) _⟩
          case measure => simp [intOf]; omega
        · have hno := found _ hh.out q t j b1 (by omega) (by omega) (by rw [Hp.out]; omega) (by omega) (by rw [Hs.out]; have := Hp.out; have := Hs.out; omega)
          rw [Hp.out, Hs.out, Hv.out] at hno
          have H3 := held_any (some ⟨g, 0, none⟩) 128 128 (turned (sealB bs2) p v j) wr hB2.rd (turned_length _ _ _ _ hl.out) (Nat.le_refl _)
          rw [hno] at H3
          replace H3 := hide H3; replace hb2 := hide hb2
          clear hB2 hno
          have hz : ¬ (j : Int) < 5 ∨ ¬ (p : Int) + (j : Int) < 128 := by omega
          by_cases hj5 : (j : Int) < 5
          all_goals
            go_wp2_with (first
              | (go_at_call 16; refine (unhide H3).mono ?_; rintro e w3 ⟨rfl, hb3⟩)
              | (go_at_call 13; refine (awake_any _).mono ?_; rintro e w4 ⟨rfl, hb4⟩))
            go_ret
            have k2 := hb2.out.trans (hb3.mono hb2.out.size)
            exact ⟨rfl, k2.trans (hb4.mono k2.size)⟩
  · by_cases ht0 : (t : Int) = 0
    · obtain rfl : t = 0 := by omega
      go_enter Try.func6, Try.ntmps6
      go_wp2_with (first
        | (go_at_call 8; refine (few_any A0 n0 c0 _ _ k0 C0.out).mono ?_; rintro e w' ⟨rfl, rfl⟩)
        | (go_at_call 14; refine (unhide H1 w q2).mono ?_; rintro e w1 ⟨g, rfl, hB, hg, hb1⟩; replace hB := hide hB)
        | (go_at_call 16; refine (held_any _ 128 128 (sealB bs2) w1 hB.out.rd hl.out (Nat.le_refl _)).mono ?_; rw [hh.out]; rintro e w2 ⟨rfl, hb2⟩; replace hB := hide (hB.out.below hb2 hB.out.lt); have kb := hide (hb1.trans (hb2.mono hb1.size)); clear hb1 hb2)
        | (go_at_call 13; refine (awake_any _).mono ?_; rintro e w4 ⟨rfl, hb4⟩))
      go_ret
      exact ⟨rfl, kb.out.trans (hb4.mono kb.out.size)⟩
    · have ht1 : ((t : Int) == 0) = false := by simpa using ht0
      have hd2 : decide ((124 : Int) < (n1 : Int)) = true := by simp; omega
      go_enter Try.func6, Try.ntmps6
      go_wp2_with (first
        | (go_at_call 8; refine (few_any A0 n0 c0 _ _ k0 C0.out).mono ?_; rintro e w' ⟨rfl, rfl⟩)
        | (go_at_call 14; refine (unhide H1 w q2).mono ?_; rintro e w1 ⟨g, rfl, hB, hg, hb1⟩; replace hB := hide hB)
        | (go_at_call 16; refine (held_any _ 128 128 (sealB bs2) w1 hB.out.rd hl.out (Nat.le_refl _)).mono ?_; rw [hh.out]; rintro e w2 ⟨rfl, hb2⟩; replace hB := hide (hB.out.below hb2 hB.out.lt); have kb := hide (hb1.trans (hb2.mono hb1.size)); clear hb1 hb2))
      rw [E1]
      try rw [E2]
      clear E1 E4 ha
      go_loopw [11] (fun i wr => ∃ j : Nat, j ≤ 5 ∧ p + j ≤ 128 ∧ i = .int .u64 (j : Int) ∧ Blk wr g 5 ((turned (sealB bs2) p v j).map u8v).toArray ∧ Below w.heap.size w wr) (fun i _ => 5 - (intOf i).toNat)
      case atStart => exact ⟨0, by omega, by omega, rfl, by rw [turned_zero _ _ _ hl.out]; exact hB.out, kb.out⟩
      case round =>
        obtain ⟨j, hj, hpj, rfl, hB2, hb2⟩ := hrel
        by_cases hlt : j < 5 ∧ p + j < 128
        · obtain ⟨hj5, hp5⟩ := hlt
          have hc := List.getElem?_eq_getElem (l := sealB bs2) (i := p + j) (by rw [hl.out]; exact hp5)
          obtain ⟨c, hcc⟩ : ∃ c, (sealB bs2)[p + j]'(by rw [hl.out]; exact hp5) = c := ⟨_, rfl⟩
          rw [hcc] at hc
          clear hcc
          have hcell := hB2.cell_ (p + j) (.int .u8 (c.toNat : Int)) (by simp [turned_at _ p v j c hl.out hp5 hc]; rfl)
          have hfr := hB2.frozen (p + j)
          have hst := hide (turned_step _ p v j c hl.out hp5 hc)
          replace hB2 := hide hB2; replace hb2 := hide hb2
          clear hc
          go_wp2_with fail
          rw [xor_byte]
          go_roundw
          case rel => exact ⟨j + 1, by omega, by omega, by go_num, by rw [← hst.out]; exact hB2.out.u8_put _ _, hb2.out.setCell (by simp; omega) _⟩
          case measure => simp [intOf]; omega
        · have hno := found _ hh.out q t j b1 (by omega) (by omega) (by rw [Hp.out]; omega) (by omega) (by rw [Hs.out]; have := Hp.out; have := Hs.out; omega)
          rw [Hp.out, Hs.out, Hv.out] at hno
          have H3 := held_any (some ⟨g, 0, none⟩) 128 128 (turned (sealB bs2) p v j) wr hB2.rd (turned_length _ _ _ _ hl.out) (Nat.le_refl _)
          rw [hno] at H3
          replace H3 := hide H3; replace hb2 := hide hb2
          clear hB2 hno
          have hz : ¬ (j : Int) < 5 ∨ ¬ (p : Int) + (j : Int) < 128 := by omega
          by_cases hj5 : (j : Int) < 5
          all_goals
            go_wp2_with (first
              | (go_at_call 16; refine (unhide H3).mono ?_; rintro e w3 ⟨rfl, hb3⟩)
              | (go_at_call 13; refine (awake_any _).mono ?_; rintro e w4 ⟨rfl, hb4⟩))
            go_ret
            have k2 := hb2.out.trans (hb3.mono hb2.out.size)
            exact ⟨rfl, k2.trans (hb4.mono k2.size)⟩
end Go.Proofs.Ytkgbgiiopebadaa
