import Derived.Test.YtobiepjnnglglaaUnpack
import Derived.Test.YtobiepjnnglglaaElN
namespace Go.Proofs.Ytobiepjnnglglaa
open Go.RowKit

theorem Try.info_u8 : (Try.prog.info? 5).map (fun i => (i.zero, i.size, i.bytes)) = some (some (.int .u8 0), 1, 1) := by kernel_rfl
theorem made_none3 {w w' : World} {E size : Nat} {err : Int} {r : Int × List UInt8} (h : r = (err, [])) (hb : Below w.heap.size w w') :
    Made w E size r.1 (r.2.map u8v) r.2.length (.returned (.tuple #[.slice none 0 0, .int .i64 err])) w' := by
  subst h; exact ⟨none, 0, rfl, World.ownsRow_nil _ _ _ _, hb⟩
theorem shr_ne (v s : Nat) (h : v / 2 ^ s ≠ 0) : ((v : Int) / 2 ^ s != 0) = true := by
  have e : (v : Int) / 2 ^ s = ((v / 2 ^ s : Nat) : Int) := by simp
  rw [e, bne_iff_ne]; exact Int.natCast_ne_zero.2 h
theorem shr_case (v x : Nat) (h : ¬(x < 8 ∧ v / 2 ^ (8 * x) ≠ 0)) : 8 ≤ x ∨ x < 8 ∧ ((v : Int) / 2 ^ (8 * x) != 0) = false := by
  by_cases hx : 8 ≤ x
  · exact .inl hx
  · have h0 : v / 2 ^ (8 * x) = 0 := by
      rcases Nat.eq_zero_or_pos (v / 2 ^ (8 * x)) with h' | h'
      · exact h'
      · exact absurd ⟨by omega, by omega⟩ h
    have e : (v : Int) / 2 ^ (8 * x) = ((v / 2 ^ (8 * x) : Nat) : Int) := by simp
    exact .inr ⟨by omega, by rw [e, h0]; rfl⟩
set_option maxHeartbeats 1000000 in
theorem pack_any (A : Option Addr) (n c : Nat) (l : List (Int × Nat)) (w : World) (hx : Rd w A (l.flatMap numC))
    (hn : l.length = n) (hm : n ≤ 4294967296) :
    Calls Try.prog 42 #[.slice A n c] w (Made w 5 1 (packR l).1 ((packR l).2.map u8v) (packR l).2.length) := by
  obtain ⟨i0, hi, hz0, hz1, hz2⟩ := info_parts Try.info_u8
  have Hn := hide hn; clear hn
  go_enter Try.func42, Try.ntmps42
  go_wp2_with fail
  go_loopw [4, 10] (fun v i wr => ∃ (k : Nat) (A8 : Option Addr) (c8 : Nat), k ≤ n ∧ i = .int .i64 k ∧ v = .slice A8 (packB (l.take k)).length c8 ∧ packE (l.take k) = 0 ∧
      wr.ownsRow w.heap.size 5 1 (.slice A8 (packB (l.take k)).length c8) (packB (l.take k)).length ((packB (l.take k)).map u8v) ∧ Below w.heap.size w wr) (fun _ i _ => n - (intOf i).toNat)
  case atStart => exact ⟨0, none, 0, Nat.zero_le _, rfl, rfl, rfl, World.ownsRow_nil _ _ _ _, Below.refl _ _⟩
  case round =>
    obtain ⟨k, A8, c8, hk, rfl, rfl, hok, hown, hb⟩ := hrel
    have Hok := hide hok; clear hok
    have Hown := hide hown; clear hown
    have hsz := hb.size
    by_cases hlt : k < n
    · obtain ⟨b, o, x, rfl, hbl, hxk, hcx⟩ := (hx.on hb).flat numC_len (by decide) (k := k) (by rw [Hn.out]; exact hlt)
      obtain ⟨x, v⟩ := x
      have hc0 : wr.cell? ⟨b, o + k * 2, none⟩ = some (.int .i64 x) := hcx 0 _ rfl
      have hc1 : wr.cell? ⟨b, o + k * 2 + 1, none⟩ = some (.int .u64 (v : Int)) := hcx 1 _ rfl
      have Hxk := hide hxk; clear hxk hcx
      have hlen := packB_length_le _ Hok.out
      rw [List.length_take] at hlen
      by_cases hbad : x < 1 ∨ 8 < x
      · have Hbad := hide hbad; clear hbad
        go_wp2_with (go_at_call 46; refine (wide_no _ _ Hbad.out).mono ?_; rintro e w' ⟨rfl, rfl⟩)
        go_ret2
        exact made_none3 (packE_bad l k x v Hok.out Hxk.out Hbad.out) (hb.alloc hsz _)
      · have h1 : 1 ≤ x := by omega
        have h8 : x ≤ 8 := by omega
        clear hbad
        obtain ⟨x, rfl⟩ := Int.eq_ofNat_of_zero_le (show 0 ≤ x by omega)
        by_cases hov : x < 8 ∧ (v / 2 ^ (8 * x)) ≠ 0
        · have Hov := hide hov
          obtain ⟨hx8, hov⟩ := hov
          have hov' := shr_ne v (8 * x) hov
          clear hov
          go_wp2_with (go_at_call 46; refine (wide_yes _ _ h1 h8).mono ?_; rintro e w' ⟨rfl, rfl⟩)
          go_ret2
          exact made_none3 (packE_over l k x v Hok.out Hxk.out (by omega) hx8 Hov.out.2) (hb.alloc hsz _)
        · have hcase := shr_case v x hov
          have Hov := hide hov; clear hov
          rcases hcase with hx8 | ⟨hx8, hov'⟩
          all_goals
            go_wp2_with (go_at_call 46; refine (wide_yes _ _ h1 h8).mono ?_; rintro e w' ⟨rfl, rfl⟩)
            have hbox := Blk.new wr 63 #[.int .i64 (x : Int), .int .u64 (v : Int)]
            have Hown1 := hide (Hown.out.alloc (.cells #[.int .i64 (x : Int), .int .u64 (v : Int)] 63))
            have hb1 := hb.alloc hsz (.cells #[.int .i64 (x : Int), .int .u64 (v : Int)] 63)
            clear hc0 hc1
            obtain ⟨wo, rfl⟩ : ∃ wo : World, wo = wr := ⟨_, rfl⟩
            go_loopw [4, 32] (fun o i wq => ∃ (q : Nat) (A9 : Option Addr) (c9 : Nat), q ≤ x ∧ i = .int .i64 q ∧ o = .slice A9 ((packB (l.take k)).length + q) c9 ∧
              wq.ownsRow w.heap.size 5 1 (.slice A9 ((packB (l.take k)).length + q) c9) ((packB (l.take k)).length + q) ((packB (l.take k) ++ (octs v x).take q).map u8v) ∧ Blk wq wo.heap.size 63 #[.int .i64 (x : Int), .int .u64 (v : Int)] ∧ Below w.heap.size w wq) (fun _ i _ => x - (intOf i).toNat)
            case atStart => exact ⟨0, A8, c8, Nat.zero_le _, rfl, rfl, by simpa using Hown1.out, hbox, hb1⟩
            case round =>
              obtain ⟨q, A9, c9, hq, rfl, rfl, hownq, hboxq, hbq⟩ := hrel
              have Hownq := hide hownq; clear hownq
              have Hboxq := hide hboxq
              have hca := hboxq.cell_ 0 _ rfl
              have hcb := hboxq.cell_ 1 _ rfl
              have hszq := hbq.size
              clear hboxq
              by_cases hqx : q < x
              · go_wp2_with (at_builtin; refine wpList_append_own _ rfl _ _ 28 rfl w.heap.size 5 i0 (.int .u8 0) 1 1 Try.underlying28 hi hz0 hz1 hz2 rfl (by decide) _ _ _ rfl (Hownq.out.alloc _) ⟨wr.heap.size, 0, none⟩ 1 1 [.int .u8 ((v : Int) / 2 ^ (8 * (x - 1 - q)) % 256)] rfl rfl (cell_one_new _ _ _) (fun u hu => by simp at hu; subst hu; rfl) (by unfold maxLen; omega) (by omega) (by simp; omega) ?_; intro v' w1 hown' hgrow _)
                have hb9 := own_below Hownq.out hbq (Nat.le_refl _) hszq hgrow
                have hbox9 := (Hboxq.out.alloc _).grown hgrow (own_ne Hownq.out Hboxq.out (by decide))
                obtain ⟨A0, c0, rfl, h9, h9'⟩ := own_form hown'
                have Hown' := hide hown'; have Hbox9 := hide hbox9; clear hown' hgrow hca hcb hbox9
                go_wp2_with fail
                go_roundw
                case rel =>
                  refine ⟨q + 1, A0, c0, by omega, by go_num, by rw [Nat.add_assoc], ?_, Hbox9.out, hb9⟩
                  have h := Hown'.out
                  rw [take_snoc_of (octs_get v x q hqx), ← List.append_assoc, List.map_append, List.map_singleton, u8v_ofNat, ← Nat.add_assoc]
                  exact h
                case measure => simp [intOf]; omega
              · obtain rfl : q = x := by omega
                go_wp2_with fail
                go_roundw
                case rel =>
                  have h := Hownq.out
                  rw [List.take_of_length_le (l := octs v q) (by rw [octs_length]; exact Nat.le_refl _)] at h
                  have e := packB_take_succ l k _ Hxk.out
                  simp only [Int.toNat_natCast] at e
                  have e2 : (packB (l.take (k + 1))).length = (packB (l.take k)).length + q := by rw [e, List.length_append, octs_length]
                  refine ⟨k + 1, A9, c9, by omega, by go_num, by rw [e2], packE_next l k q v Hok.out Hxk.out (by omega) (by omega) Hov.out, ?_, hbq⟩
                  rw [e2, e]
                  exact h
                case measure => simp [intOf]; omega
    · obtain rfl : k = n := by omega
      have hw : l.take k = l := List.take_of_length_le (Nat.le_of_eq Hn.out)
      rw [hw] at Hok Hown ⊢
      go_wp2_with fail
      go_ret2
      rw [packR_ok l Hok.out]
      exact ⟨A8, c8, rfl, Hown.out, hb⟩
end Go.Proofs.Ytobiepjnnglglaa
