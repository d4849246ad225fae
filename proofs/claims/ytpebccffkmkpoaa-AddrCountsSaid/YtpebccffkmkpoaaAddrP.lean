import Derived.Test.YtpebccffkmkpoaaAddrR
namespace Go.Proofs.Ytpebccffkmkpoaa
open Go.RowKit

theorem Try.el_place : Elem Try.prog 43 34 (.agg #[.int .i64 0, .int .i64 0, .int .i64 0]) 3 24 := ⟨Try.underlying43, by kernel_rfl, rfl, by decide⟩
/-- the cells of the place of address i + 1 -/
def plc (D S : Int) (i : Nat) : List Value := [i64v (volG D S ((i : Int) / 16)).1, i64v (volG D S ((i : Int) / 16)).2, i64v ((i : Int) % 16)]
theorem plc_len (D S : Int) (i : Nat) : (plc D S i).length = 3 := rfl
def plcs (D S : Int) (m : Nat) : List Value := (List.range m).flatMap (plc D S)
theorem plcs_succ (D S : Int) (m : Nat) : plcs D S (m + 1) = plcs D S m ++ plc D S m := by
  unfold plcs; rw [List.range_succ, List.flatMap_append]; simp
/-- all places up to 600 -/
def AllPost (w : World) (D S N : Int) (e : Ending) (w' : World) : Prop :=
  ∃ A m c, e = .returned (.slice A m c) ∧ Rd w' A (plcs D S m) ∧ m ≤ 600 ∧ (m : Int) ≤ 16 * N ∧ Below w.heap.size w w'
/-- segments of the log, then of the volumes -/
def upV (D S : Int) (k : Nat) : Int := if k = 0 then 0 else D + ((k - 1 : Nat) : Int) * S
theorem upV_succ {D S : Int} {k : Nat} : upV D S (k + 1) = upV D S k + (if k = 0 then D else S) := by
  unfold upV
  rw [if_neg (by omega)]
  by_cases h : k = 0
  · subst h; simp
  · rw [if_neg h, if_neg h]
    obtain ⟨j, rfl⟩ : ∃ j, k = j + 1 := ⟨k - 1, by omega⟩
    simp only [Nat.add_sub_cancel]
    rw [Int.natCast_succ, Int.add_mul]; omega
theorem vol_at {D S : Int} {k : Nat} {s : Int} (hS : 1 ≤ S) (hD : 0 ≤ D) (h0 : 0 ≤ s) (h1 : s < (if k = 0 then D else S)) : volG D S (upV D S k + s) = ((k : Int) - 1, s) := by
  unfold volG upV
  by_cases h : k = 0
  · subst h
    rw [if_pos rfl] at h1
    rw [if_pos rfl, if_neg (by omega)]; simp
  · rw [if_neg h] at h1 ⊢
    obtain ⟨j, rfl⟩ : ∃ j, k = j + 1 := ⟨k - 1, by omega⟩
    simp only [Nat.add_sub_cancel]
    have hj : 0 ≤ (j : Int) * S := Int.mul_nonneg (by omega) (by omega)
    rw [if_pos (by omega)]
    have e : D + (j : Int) * S + s - D = s + (j : Int) * S := by omega
    rw [e, Int.add_mul_ediv_right _ _ (by omega), Int.add_mul_emod_self_right, Int.ediv_eq_zero_of_lt h0 h1, Int.emod_eq_of_lt h0 h1]
    simp
theorem upV_le {D S V : Int} {k : Nat} (hS : 1 ≤ S) (hD : 0 ≤ D) (hk : (k : Int) ≤ V + 1) (_hV : 0 ≤ V) : 0 ≤ upV D S k ∧ upV D S k ≤ D + V * S := by
  unfold upV
  by_cases h : k = 0
  · rw [if_pos h]
    have : 0 ≤ V * S := Int.mul_nonneg (by omega) (by omega)
    omega
  · rw [if_neg h]
    obtain ⟨j, rfl⟩ : ∃ j, k = j + 1 := ⟨k - 1, by omega⟩
    simp only [Nat.add_sub_cancel]
    have h1 : (j : Int) * S ≤ V * S := Int.mul_le_mul_of_nonneg_right (by omega) (by omega)
    have h2 : 0 ≤ (j : Int) * S := Int.mul_nonneg (by omega) (by omega)
    omega
theorem plc_at {D S u s k : Int} {m o : Nat} (hv : volG D S (u + s) = (k - 1, s)) (hm : (m : Int) = 16 * (u + s) + o) (_h0 : 0 ≤ u + s) (ho : o < 16) : plc D S m = [.int .i64 (k - 1), .int .i64 s, .int .i64 o] := by
  have e1 : (m : Int) / 16 = u + s := by omega
  have e2 : (m : Int) % 16 = o := by omega
  unfold plc
  rw [e1, e2, hv]; rfl
set_option maxHeartbeats 4000000 in
set_option maxRecDepth 100000 in
theorem all_any (D L V S : Int) (w : World) (h : mayG D L V S) :
    Calls Try.prog 23 #[.agg #[.int .i64 D, .int .i64 L, .int .i64 V, .int .i64 S], .int .i64 600] w (AllPost w D S (segsG D L V S)) := by
  have hsg := segsG_small h
  have hN : segsG D L V S = D + V * S := if_pos h
  rw [hN]
  unfold mayG at h
  obtain ⟨hD, hD2, _, _, hV, hV8, hS, hS2⟩ := h
  obtain ⟨v, rfl⟩ := Int.eq_ofNat_of_zero_le hV
  have UL := hide (fun k hk => upV_le (D := D) (S := S) (V := v) (k := k) hS (by omega) hk hV)
  have VA := hide (fun k s => vol_at (D := D) (S := S) (k := k) (s := s) hS (by omega))
  have US := hide (fun k => upV_succ (D := D) (S := S) (k := k))
  obtain ⟨m0, hm0⟩ : ∃ m0, (v : Int) * S = m0 := ⟨_, rfl⟩
  rw [hm0] at hsg UL ⊢
  clear hm0 hN
  obtain ⟨hsg0, hsg1⟩ := hsg
  have B1 := hide (Blk.new w 23 #[.int .i64 D, .int .i64 L, .int .i64 v, .int .i64 S])
  have hb := hide (box1 (w := w) (o := .cells #[.int .i64 D, .int .i64 L, .int .i64 v, .int .i64 S] 23))
  go_enter Try.func23, Try.ntmps23
  go_wp2_with fail
  go_loopw [5, 6] (fun l i wr => ∃ (k m : Nat) (A : Option Addr) (c : Nat), k ≤ v + 1 ∧ i = .int .i64 ((k : Int) - 1) ∧ l = .slice A m c ∧ (m : Int) = 16 * upV D S k ∧ m ≤ 600 ∧
      wr.ownsRow w.heap.size 34 3 (.slice A m c) m (plcs D S m) ∧ Blk wr w.heap.size 23 #[.int .i64 D, .int .i64 L, .int .i64 v, .int .i64 S] ∧ Below w.heap.size w wr) (fun _ i _ => (v - intOf i).toNat)
  case atStart => exact ⟨0, 0, none, 0, by omega, rfl, rfl, rfl, by omega, World.ownsRow_nil _ _ _ _, B1.out, hb.out⟩
  case round =>
    clear B1 hb
    obtain ⟨k, m, A, c, hk, rfl, rfl, hm, hm6, ho, B1, hb⟩ := hrel
    obtain ⟨u0, u1⟩ := UL.out k (by omega)
    obtain ⟨u, hu⟩ : ∃ u, upV D S k = u := ⟨_, rfl⟩
    have Us := US.out k
    have Va := hide (fun s => VA.out k s)
    rw [hu] at hm u0 u1 Us Va
    replace ho := hide ho; replace B1 := hide B1; replace hb := hide hb; replace Us := hide Us; replace hm := hide hm; replace hu := hide hu
    obtain ⟨c0, c1, c2, c3⟩ := blk4 B1.out
    obtain ⟨wo, rfl⟩ : ∃ wo : World, wo = wr := ⟨_, rfl⟩
    by_cases hlt : (k : Int) - 1 < v
    · obtain ⟨q, hq, hq0, hq1⟩ : ∃ q, (if k = 0 then D else S) = q ∧ 1 ≤ q ∧ q ≤ 256 := by
        by_cases h : k = 0
        · exact ⟨D, if_pos h, by omega, by omega⟩
        · exact ⟨S, if_neg h, by omega, by omega⟩
      rw [hq] at Us Va
      have hz : k ≤ 0 ∧ D = q ∨ 1 ≤ k ∧ S = q := by
        by_cases h : k = 0
        · rw [if_pos h] at hq; exact .inl ⟨by omega, hq⟩
        · rw [if_neg h] at hq; exact .inr ⟨by omega, hq⟩
      clear hq
      rcases hz with ⟨hz, rfl⟩ | ⟨hz, rfl⟩
      · have hd : decide ((k : Int) - 1 < 0) = true := by simp; omega
        go_wp2_with fail
        clear c0 c1 c2 c3 hd
        go_loopw [5, 8] (fun l i wr => ∃ (s m : Nat) (A : Option Addr) (c : Nat), (s : Int) ≤ D ∧ i = .int .i64 (s : Int) ∧ l = .slice A m c ∧ (m : Int) = 16 * (u + (s : Int)) ∧ m ≤ 600 ∧ wr.ownsRow w.heap.size 34 3 (.slice A m c) m (plcs D S m) ∧ Blk wr w.heap.size 23 #[.int .i64 D, .int .i64 L, .int .i64 v, .int .i64 S] ∧ Below w.heap.size w wr) (fun _ i _ => (D - intOf i).toNat)
        case atStart => exact ⟨0, m, A, c, by omega, rfl, rfl, by have := hm.out; omega, hm6, ho.out, B1.out, hb.out⟩
        case round =>
          clear ho B1 hb hm hm6
          obtain ⟨s, m, A, c, hs, rfl, rfl, hm, hm6, ho, B1, hb⟩ := hrel
          replace ho := hide ho; replace B1 := hide B1; replace hb := hide hb; replace hm := hide hm
          obtain ⟨w2, rfl⟩ : ∃ w2 : World, w2 = wr := ⟨_, rfl⟩
          by_cases hls : (s : Int) < D
          · go_wp2_with fail
            go_loopw [5, 9] (fun l i wr => ∃ (o m : Nat) (A : Option Addr) (c : Nat), o ≤ 16 ∧ i = .int .i64 (o : Int) ∧ l = .slice A m c ∧ (m : Int) = 16 * (u + (s : Int)) + o ∧ m ≤ 600 ∧ wr.ownsRow w.heap.size 34 3 (.slice A m c) m (plcs D S m) ∧ Blk wr w.heap.size 23 #[.int .i64 D, .int .i64 L, .int .i64 v, .int .i64 S] ∧ Below w.heap.size w wr) (fun _ i _ => (16 - intOf i).toNat)
            case atStart => exact ⟨0, m, A, c, by omega, rfl, rfl, by have := hm.out; omega, hm6, ho.out, B1.out, hb.out⟩
            case round =>
              clear ho B1 hb hm hm6
              obtain ⟨o, m, A, c, ho16, rfl, rfl, hm, hm6, ho, B1, hb⟩ := hrel
              replace ho := hide ho; replace B1 := hide B1; replace hb := hide hb; replace hm := hide hm
              by_cases hlo : o < 16
              · by_cases hful : 600 ≤ m
                · go_wp2_with fail
                  go_ret
                  have hUL := (UL.out (k + 1) (by omega)).2
                  have := hm.out; have := Us.out
                  exact ⟨A, m, c, rfl, Rd.of_own ho.out, hm6, by omega, hb.out⟩
                · have hsz := hb.out.size
                  have hpl := plc_at (Va.out s (by omega) hls) hm.out (by omega) (by omega)
                  replace hpl := hide hpl
                  go_wp2_with (at_builtin; refine wpList_app rfl _ _ rfl Try.el_place w.heap.size _ _ _ _ rfl (ho.out.alloc _) _ _ _ [.int .i64 ((k : Int) - 1), .int .i64 s, .int .i64 o] rfl (Blk.new wr _ #[.int .i64 ((k : Int) - 1), .int .i64 s, .int .i64 o]).rd rfl (fun u hu => by simp at hu; rcases hu with rfl | rfl | rfl <;> rfl) (by unfold maxLen; omega) (by omega) (by simp; omega) ?_; intro A6 c6 w6 ho1 hc1 hg1)
                  have hb1 := own_below ho.out hb.out (Nat.le_refl _) hsz hg1
                  have B2 := hide ((B1.out.alloc (.cells #[.int .i64 ((k : Int) - 1), .int .i64 s, .int .i64 o] 34)).grown hg1 (own_ne ho.out B1.out (by decide)))
                  replace ho1 := hide ho1; replace hb1 := hide hb1
                  clear hg1
                  go_wp2_with fail
                  go_roundw
                  case rel => exact ⟨o + 1, m + 1, A6, c6, by omega, by go_num, rfl, by have := hm.out; omega, by omega, by rw [plcs_succ, hpl.out]; exact ho1.out, B2.out, hb1.out⟩
                  case measure => simp [intOf]; omega
              · obtain rfl : o = 16 := by omega
                go_wp2_with fail
                go_roundw
                case rel => exact ⟨s + 1, m, A, c, by omega, by go_num, rfl, by have := hm.out; omega, hm6, ho.out, B1.out, hb.out⟩
                case measure => simp [intOf]; omega
          · have hsq : (s : Int) = D := by omega
            have hm2 : (m : Int) = 16 * upV D S (k + 1) := by have := hm.out; have := Us.out; omega
            replace hm2 := hide hm2; replace hsq := hide hsq
            clear hm
            go_wp2_with fail
            go_roundw
            case rel => exact ⟨k + 1, m, A, c, by omega, by go_num, rfl, hm2.out, hm6, ho.out, B1.out, hb.out⟩
            case measure => simp [intOf]; omega
      · have hd : decide ((k : Int) - 1 < 0) = false := by simp; omega
        go_wp2_with fail
        clear c0 c1 c2 c3 hd
        go_loopw [5, 8] (fun l i wr => ∃ (s m : Nat) (A : Option Addr) (c : Nat), (s : Int) ≤ S ∧ i = .int .i64 (s : Int) ∧ l = .slice A m c ∧ (m : Int) = 16 * (u + (s : Int)) ∧ m ≤ 600 ∧ wr.ownsRow w.heap.size 34 3 (.slice A m c) m (plcs D S m) ∧ Blk wr w.heap.size 23 #[.int .i64 D, .int .i64 L, .int .i64 v, .int .i64 S] ∧ Below w.heap.size w wr) (fun _ i _ => (S - intOf i).toNat)
        case atStart => exact ⟨0, m, A, c, by omega, rfl, rfl, by have := hm.out; omega, hm6, ho.out, B1.out, hb.out⟩
        case round =>
          clear ho B1 hb hm hm6
          obtain ⟨s, m, A, c, hs, rfl, rfl, hm, hm6, ho, B1, hb⟩ := hrel
          replace ho := hide ho; replace B1 := hide B1; replace hb := hide hb; replace hm := hide hm
          obtain ⟨w2, rfl⟩ : ∃ w2 : World, w2 = wr := ⟨_, rfl⟩
          by_cases hls : (s : Int) < S
          · go_wp2_with fail
            go_loopw [5, 9] (fun l i wr => ∃ (o m : Nat) (A : Option Addr) (c : Nat), o ≤ 16 ∧ i = .int .i64 (o : Int) ∧ l = .slice A m c ∧ (m : Int) = 16 * (u + (s : Int)) + o ∧ m ≤ 600 ∧ wr.ownsRow w.heap.size 34 3 (.slice A m c) m (plcs D S m) ∧ Blk wr w.heap.size 23 #[.int .i64 D, .int .i64 L, .int .i64 v, .int .i64 S] ∧ Below w.heap.size w wr) (fun _ i _ => (16 - intOf i).toNat)
            case atStart => exact ⟨0, m, A, c, by omega, rfl, rfl, by have := hm.out; omega, hm6, ho.out, B1.out, hb.out⟩
            case round =>
              clear ho B1 hb hm hm6
              obtain ⟨o, m, A, c, ho16, rfl, rfl, hm, hm6, ho, B1, hb⟩ := hrel
              replace ho := hide ho; replace B1 := hide B1; replace hb := hide hb; replace hm := hide hm
              by_cases hlo : o < 16
              · by_cases hful : 600 ≤ m
                · go_wp2_with fail
                  go_ret
                  have hUL := (UL.out (k + 1) (by omega)).2
                  have := hm.out; have := Us.out
                  exact ⟨A, m, c, rfl, Rd.of_own ho.out, hm6, by omega, hb.out⟩
                · have hsz := hb.out.size
                  have hpl := plc_at (Va.out s (by omega) hls) hm.out (by omega) (by omega)
                  replace hpl := hide hpl
                  go_wp2_with (at_builtin; refine wpList_app rfl _ _ rfl Try.el_place w.heap.size _ _ _ _ rfl (ho.out.alloc _) _ _ _ [.int .i64 ((k : Int) - 1), .int .i64 s, .int .i64 o] rfl (Blk.new wr _ #[.int .i64 ((k : Int) - 1), .int .i64 s, .int .i64 o]).rd rfl (fun u hu => by simp at hu; rcases hu with rfl | rfl | rfl <;> rfl) (by unfold maxLen; omega) (by omega) (by simp; omega) ?_; intro A6 c6 w6 ho1 hc1 hg1)
                  have hb1 := own_below ho.out hb.out (Nat.le_refl _) hsz hg1
                  have B2 := hide ((B1.out.alloc (.cells #[.int .i64 ((k : Int) - 1), .int .i64 s, .int .i64 o] 34)).grown hg1 (own_ne ho.out B1.out (by decide)))
                  replace ho1 := hide ho1; replace hb1 := hide hb1
                  clear hg1
                  go_wp2_with fail
                  go_roundw
                  case rel => exact ⟨o + 1, m + 1, A6, c6, by omega, by go_num, rfl, by have := hm.out; omega, by omega, by rw [plcs_succ, hpl.out]; exact ho1.out, B2.out, hb1.out⟩
                  case measure => simp [intOf]; omega
              · obtain rfl : o = 16 := by omega
                go_wp2_with fail
                go_roundw
                case rel => exact ⟨s + 1, m, A, c, by omega, by go_num, rfl, by have := hm.out; omega, hm6, ho.out, B1.out, hb.out⟩
                case measure => simp [intOf]; omega
          · have hsq : (s : Int) = S := by omega
            have hm2 : (m : Int) = 16 * upV D S (k + 1) := by have := hm.out; have := Us.out; omega
            replace hm2 := hide hm2; replace hsq := hide hsq
            clear hm
            go_wp2_with fail
            go_roundw
            case rel => exact ⟨k + 1, m, A, c, by omega, by go_num, rfl, hm2.out, hm6, ho.out, B1.out, hb.out⟩
            case measure => simp [intOf]; omega
    · obtain rfl : k = v + 1 := by omega
      have hfin : (m : Int) ≤ 16 * ((D + m0 : Int)) := by have := hm.out; omega
      replace hfin := hide hfin
      go_wp2_with fail
      go_ret
      exact ⟨A, m, c, rfl, Rd.of_own ho.out, hm6, hfin.out, hb.out⟩
end Go.Proofs.Ytpebccffkmkpoaa
