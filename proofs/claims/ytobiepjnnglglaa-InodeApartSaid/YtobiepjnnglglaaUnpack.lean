import Derived.Test.YtobiepjnnglglaaMade
import Derived.Test.YtobiepjnnglglaaPackA
import Derived.Deep.AppendLies
import Derived.Deep.RegionLaw
namespace Go.Proofs.Ytobiepjnnglglaa
open Go.RowKit

theorem made_none2 {w w' : World} {E size : Nat} {err : Int} {r : Int × List Nat} (h : r = (err, [])) (hb : Below w.heap.size w w') :
    Made w E size r.1 (r.2.map u64v) r.2.length (.returned (.tuple #[.slice none 0 0, .int .i64 err])) w' := by
  subst h; exact ⟨none, 0, rfl, World.ownsRow_nil _ _ _ _, hb⟩

set_option maxHeartbeats 400000 in
theorem unpack_any (A0 A : Option Addr) (n0 c0 n c : Nat) (bs : List UInt8) (ws : List Int) (w : World) (h0 : Rd w A0 (bs.map u8v)) (hx : Rd w A (ws.map i64v))
    (hn0 : bs.length = n0) (hc0 : n0 ≤ c0) (hn : ws.length = n) (hm : n ≤ 4294967296) :
    Calls Try.prog 32 #[.slice A0 n0 c0, .slice A n c] w
      (Made w 61 1 (unpackR bs ws).1 ((unpackR bs ws).2.map u64v) (unpackR bs ws).2.length) := by
  obtain ⟨i0, hi, hz0, hz1, hz2⟩ := info_parts Try.info_u64
  have Hn := hide hn; clear hn
  have Hn0 := hide hn0; clear hn0
  go_enter Try.func32, Try.ntmps32
  go_wp2
  go_loop [6, 17] (fun v i => ∃ k : Nat, k ≤ n ∧ i = .int .i64 k ∧ v = .int .i64 (sumW (ws.take k) : Nat) ∧ okW (ws.take k) = true) (fun _ i => n - (intOf i).toNat)
  case atStart => exact ⟨0, Nat.zero_le _, rfl, rfl, rfl⟩
  case round =>
    obtain ⟨k, hk, rfl, rfl, hok⟩ := hrel
    have Hok := hide hok; clear hok
    have hsum := sumW_le _ Hok.out
    rw [List.length_take] at hsum
    by_cases hlt : k < n
    · obtain ⟨b, o, x, rfl, hbl, hxk, hcx⟩ := hx.i64 (k := k) (by rw [Hn.out]; exact hlt)
      have Hxk := hide hxk; clear hxk
      by_cases hbad : x < 1 ∨ 8 < x
      · have Hbad := hide hbad; clear hbad
        go_wp2_with (go_at_call 46; refine (wide_no _ _ Hbad.out).mono ?_; rintro e w' ⟨rfl, rfl⟩)
        go_ret2
        exact made_none2 (by rw [unpackR, okW_not ws k x Hxk.out Hbad.out]; rfl) (Below.refl _ _)
      · have h1 : 1 ≤ x := by omega
        have h8 : x ≤ 8 := by omega
        clear hbad
        go_wp2_with (go_at_call 46; refine (wide_yes _ _ h1 h8).mono ?_; rintro e w' ⟨rfl, rfl⟩)
        go_round
        case rel => exact ⟨k + 1, by omega, by go_num, ret_u64 (by rw [sumW_take_succ ws k x Hxk.out]; omega), okW_snoc ws k x Hok.out Hxk.out (by omega) (by omega)⟩
        case measure => simp [intOf]; omega
    · obtain rfl : k = n := by omega
      have hok : okW ws = true := by have := Hok.out; rwa [List.take_of_length_le (Nat.le_of_eq Hn.out)] at this
      have hw : ws.take k = ws := List.take_of_length_le (Nat.le_of_eq Hn.out)
      rw [hw] at hsum ⊢
      have Hok2 := hide hok; clear hok Hok hw
      by_cases hss : n0 < sumW ws
      · go_wp2_with fail
        go_ret2
        exact made_none2 (by rw [unpackR, Hok2.out, if_pos rfl, if_neg (by rw [Hn0.out]; omega)]) (Below.refl _ _)
      · go_wp2_with fail
        go_loopw [0, 9, 34] (fun b v i wr => ∃ (m : Nat) (A8 : Option Addr) (c8 : Nat) (Ab : Option Addr), m ≤ k ∧ i = .int .i64 m ∧ b = .slice Ab (n0 - sumW (ws.take m)) (c0 - sumW (ws.take m)) ∧ v = .slice A8 m c8 ∧
            Rd w Ab ((bs.drop (sumW (ws.take m))).map u8v) ∧
            wr.ownsRow w.heap.size 61 1 (.slice A8 m c8) m ((nums bs (ws.take m)).map u64v) ∧ Below w.heap.size w wr) (fun _ _ i _ => k - (intOf i).toNat)
        case atStart => exact ⟨0, none, 0, A0, Nat.zero_le _, rfl, rfl, rfl, h0, World.ownsRow_nil _ _ _ _, Below.refl _ _⟩
        case round =>
          obtain ⟨m, A8, c8, Ab, hmk, rfl, rfl, rfl, hbd, hown, hb⟩ := hrel
          have Hown := hide hown; clear hown
          by_cases hlt2 : m < k
          · obtain ⟨b, o, x, rfl, hbl, hxk, hcx⟩ := (hx.on hb).i64 (k := m) (by rw [Hn.out]; exact hlt2)
            have hx18 := (okW_iff ws).1 Hok2.out x (List.mem_of_getElem? hxk)
            obtain ⟨x, rfl⟩ := Int.eq_ofNat_of_zero_le (show 0 ≤ x by omega)
            have hx1 : 1 ≤ x := by omega
            have hx8 : x ≤ 8 := by omega
            have hsx := sumW_take_succ ws m _ hxk
            have hsy := sumW_take_le ws (m + 1)
            rw [Int.toNat_natCast] at hsx
            have hpx : sumW (ws.take m) + x ≤ n0 := by omega
            obtain ⟨p, hp⟩ : ∃ p, p = sumW (ws.take m) := ⟨_, rfl⟩
            rw [← hp] at hbd hpx hsx ⊢
            have hsz := hb.size
            have Hxk := hide hxk; have Hsx := hide hsx; have Hp := hide hp; clear hxk hx18 hsy hsx hp
            go_wp2_with fail
            go_loop [12, 42] (fun v j => ∃ q : Nat, q ≤ x ∧ j = .int .i64 q ∧ v = .int .u64 (beN ((bs.drop p).take q) : Nat)) (fun _ j => x - (intOf j).toNat)
            case atStart => exact ⟨0, Nat.zero_le _, rfl, rfl⟩
            case round =>
              obtain ⟨q, hq, rfl, rfl⟩ := hrel
              by_cases hqx : q < x
              · obtain ⟨b', o', y, rfl, _, hyk, _⟩ := hbd.u8 (k := q) (by rw [List.length_drop, Hn0.out]; omega)
                have hcy' := (hbd.on hb).u8c hyk
                have Hyk := hide hyk; clear hyk
                go_wp2_with fail
                go_round
                case rel => exact ⟨q + 1, by omega, by go_num, ret_u64 (beN_step_or _ q y Hyk.out (by omega))⟩
                case measure => simp [intOf]; omega
              · obtain rfl : q = x := by omega
                have hqn : q ≤ n0 - p := by omega
                go_wp2_with fail
                go_region_law ((refine step_append_lies _ rfl (.tmp 52) (.tmp 54) _ rfl w.heap.size 61 i0 (.int .u64 0) 1 8 Try.underlying70 hi hz0 hz1 hz2 rfl (by decide) (.slice A8 m c8) m _ rfl (by exact Hown.out.alloc _) ⟨wr.heap.size, 0, none⟩ 1 1 [u64v (beN (List.take q (List.drop p bs)))] rfl rfl (cell_one_new _ _ _) (fun u hu => by simp at hu; subst hu; rfl) (by decide) (by unfold maxLen; omega) (by omega) (by simp; omega) _ rfl ?_; intro g cap w1 hown' hgrow hlies hlt'))
                have hb1 := ((hb.alloc hsz _).drew).grown hgrow (by simp; omega) (fun k hk => (Hown.out.lt k hk).1)
                have Hown' := hide hown'; clear hown' hgrow hcx
                go_wp2_with fail
                go_roundw
                case rel =>
                  refine ⟨m + 1, some ⟨g, 0, none⟩, cap, _, by omega, by go_num, by rw [Hsx.out, Nat.sub_sub, Nat.sub_sub], rfl, ?_, ?_, hb1⟩
                  · rw [Hsx.out]
                    have h := hbd.cut (k := q) (n := n0 - p) (cap := c0 - p) (by simp [Hn0.out]) (by omega)
                    rwa [← List.map_drop, List.drop_drop] at h
                  · rw [nums_take_succ _ ws m _ Hxk.out, List.map_append, ← Hp.out]
                    exact Hown'.out
                case measure => simp [intOf]; omega
          · obtain rfl : m = k := by omega
            go_wp2_with fail
            go_ret2
            rw [unpackR, Hok2.out, if_pos rfl, if_pos (by rw [Hn0.out]; omega)]
            have hw : ws.take m = ws := List.take_of_length_le (Nat.le_of_eq Hn.out)
            have ho := Hown.out
            rw [hw] at ho
            have hl : (nums bs ws).length = m := by rw [nums_length]; exact Hn.out
            exact ⟨A8, c8, by simp only [hl]; rfl, by simpa only [hl] using ho, hb⟩
end Go.Proofs.Ytobiepjnnglglaa
