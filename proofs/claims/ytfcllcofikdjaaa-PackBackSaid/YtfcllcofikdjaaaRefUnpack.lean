import Derived.Test.YtfcllcofikdjaaaGet
namespace Go.Proofs.Ytfcllcofikdjaaa
open Go.RowKit

theorem Try.info_u64 : (Try.prog.info? 37).map (fun i => (i.zero, i.size, i.bytes)) = some (some (.int .u64 0), 1, 8) := by kernel_rfl

/-- a slice that the call made, and what else it did to the world -/
def Made (w : World) (E size : Nat) (err : Int) (xs : List Value) (n : Nat) (e : Ending) (w' : World) : Prop :=
  ∃ A c, e = .returned (.tuple #[.slice A n c, .int .i64 err]) ∧ w'.ownsRow w.heap.size E size (.slice A n c) n xs ∧ Below w.heap.size w w'

theorem made_none {w w' : World} {E size : Nat} {err : Int} {r : Int × List Nat} (h : r = (err, [])) (hb : Below w.heap.size w w') :
    Made w E size r.1 (r.2.map u64v) r.2.length (.returned (.tuple #[.slice none 0 0, .int .i64 err])) w' := by
  subst h; exact ⟨none, 0, rfl, World.ownsRow_nil _ _ _ _, hb⟩
set_option maxHeartbeats 400000 in
theorem refUnpack_any (s : ByteArray) (A : Option Addr) (n c : Nat) (ws : List Int) (w : World) (hx : Rd w A (ws.map i64v))
    (hn : ws.length = n) (hm : n ≤ 4294967296) (hs : s.size ≤ 4294967296) :
    Calls Try.prog 9 #[.string s, .slice A n c] w
      (Made w 37 1 (unpackR s.data.toList ws).1 ((unpackR s.data.toList ws).2.map u64v) (unpackR s.data.toList ws).2.length) := by
  obtain ⟨i0, hi, hz0, hz1, hz2⟩ := info_parts Try.info_u64
  have Hn := hide hn; clear hn
  go_enter Try.func9, Try.ntmps9
  go_wp2
  go_loop [6, 7] (fun v i => ∃ k : Nat, k ≤ n ∧ i = .int .i64 k ∧ v = .int .i64 (sumW (ws.take k) : Nat) ∧ okW (ws.take k) = true) (fun _ i => n - (intOf i).toNat)
  case atStart => exact ⟨0, Nat.zero_le _, rfl, rfl, rfl⟩
  case round =>
    obtain ⟨k, hk, rfl, rfl, hok⟩ := hrel
    have Hok := hide hok; clear hok
    have hsum := sumW_le _ Hok.out
    rw [List.length_take] at hsum
    by_cases hlt : k < n
    · obtain ⟨b, o, x, rfl, hbl, hxk, hcx⟩ := hx.i64 (k := k) (by rw [Hn.out]; exact hlt)
      have Hxk := hide hxk; clear hxk
      by_cases h1 : x < 1
      · go_wp2
        go_ret2
        exact made_none (by rw [unpackR, okW_not ws k x Hxk.out (.inl h1)]; rfl) (Below.refl _ _)
      · by_cases h8 : 8 < x
        · go_wp2
          go_ret2
          exact made_none (by rw [unpackR, okW_not ws k x Hxk.out (.inr h8)]; rfl) (Below.refl _ _)
        · go_wp2
          go_round
          case rel => exact ⟨k + 1, by omega, by go_num, ret_u64 (by rw [sumW_take_succ ws k x Hxk.out]; omega), okW_snoc ws k x Hok.out Hxk.out (by omega) (by omega)⟩
          case measure => simp [intOf]; omega
    · obtain rfl : k = n := by omega
      have hok : okW ws = true := by have := Hok.out; rwa [List.take_of_length_le (Nat.le_of_eq Hn.out)] at this
      have hw : ws.take k = ws := List.take_of_length_le (Nat.le_of_eq Hn.out)
      rw [hw] at hsum ⊢
      have Hok2 := hide hok; clear hok Hok hw
      by_cases hss : s.size < sumW ws
      · go_wp2
        go_ret2
        exact made_none (by rw [unpackR, Hok2.out, if_pos rfl, if_neg (by simpa using hss)]) (Below.refl _ _)
      · go_wp2
        go_loopw [8, 9, 10] (fun v p i wr => ∃ (m : Nat) (A8 : Option Addr) (c8 : Nat), m ≤ k ∧ i = .int .i64 m ∧ p = .int .i64 (sumW (ws.take m) : Nat) ∧ v = .slice A8 m c8 ∧
            wr.ownsRow w.heap.size 37 1 (.slice A8 m c8) m ((nums s.data.toList (ws.take m)).map u64v) ∧ Below w.heap.size w wr) (fun _ _ i _ => k - (intOf i).toNat)
        case atStart => exact ⟨0, none, 0, Nat.zero_le _, rfl, rfl, rfl, World.ownsRow_nil _ _ _ _, Below.refl _ _⟩
        case round =>
          obtain ⟨m, A8, c8, hmk, rfl, rfl, rfl, hown, hb⟩ := hrel
          have Hown := hide hown; clear hown
          by_cases hlt2 : m < k
          · obtain ⟨b, o, x, rfl, hbl, hxk, hcx⟩ := (hx.on hb).i64 (k := m) (by rw [Hn.out]; exact hlt2)
            have hx18 := (okW_iff ws).1 Hok2.out x (List.mem_of_getElem? hxk)
            obtain ⟨x, rfl⟩ := Int.eq_ofNat_of_zero_le (show 0 ≤ x by omega)
            have hx8 : x ≤ 8 := by omega
            have hsx := sumW_take_succ ws m _ hxk
            have hsy := sumW_take_le ws (m + 1)
            rw [Int.toNat_natCast] at hsx
            have hpx : sumW (ws.take m) + x ≤ s.size := by omega
            have hsz := hb.size
            have Hxk := hide hxk; have Hsx := hide hsx; clear hxk hx18 hsy hsx
            go_wp2_with (first
              | (go_at_call 18; refine (get_any s _ _ _ hx8 hpx hs).mono ?_; rintro e w' ⟨rfl, rfl⟩)
              | (at_builtin; refine wpList_append_own _ rfl _ _ 24 rfl w.heap.size 37 i0 (.int .u64 0) 1 8 Try.underlying24 hi hz0 hz1 hz2 rfl (by decide) _ _ _ rfl (Hown.out.alloc _) ⟨wr.heap.size, 0, none⟩ 1 1 [u64v (beN (List.take x (List.drop (sumW (ws.take m)) s.data.toList)))] rfl rfl ?c1 ?c2 ?c3 ?c4 ?c5 ?_))
            case c1 =>
              exact cell_one_new _ _ _
            case c2 => intro u hu; simp at hu; subst hu; rfl
            case c3 => unfold maxLen; omega
            case c4 => omega
            case c5 => simp; omega
            intro v' w1 hown' hgrow _
            have hb1 := own_below Hown.out hb (Nat.le_refl _) hsz hgrow
            have hc1 : w1.cell? ⟨b, o + m, none⟩ = some (.int .i64 (x : Int)) :=
              (hx.on hb1).i64c Hxk.out
            obtain ⟨A9, c9, rfl, h9, h9'⟩ := own_form hown'
            have Hown' := hide hown'; clear hown' hgrow hcx
            go_wp2
            go_roundw
            case rel =>
              refine ⟨m + 1, A9, c9, by omega, by go_num, ret_u64 (by rw [Hsx.out]; omega), rfl, ?_, hb1⟩
              rw [nums_take_succ _ ws m _ Hxk.out, List.map_append]
              exact Hown'.out
            case measure => simp [intOf]; omega
          · obtain rfl : m = k := by omega
            go_wp2
            go_ret2
            rw [unpackR, Hok2.out, if_pos rfl, if_pos (by simpa using hss)]
            have hw : ws.take m = ws := List.take_of_length_le (Nat.le_of_eq Hn.out)
            have ho := Hown.out
            rw [hw] at ho
            have hl : (nums s.data.toList ws).length = m := by rw [nums_length]; exact Hn.out
            exact ⟨A8, c8, by simp only [hl]; rfl, by simpa only [hl] using ho, hb⟩
end Go.Proofs.Ytfcllcofikdjaaa
