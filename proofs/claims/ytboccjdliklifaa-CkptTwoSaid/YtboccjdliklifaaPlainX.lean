/- Plain law of layer 13: a checkpoint's block is read as it was. No condition. -/
import Derived.Test.YtboccjdliklifaaPlainW
import Derived.Test.YtboccjdliklifaaCkM
namespace Go.Proofs.Ytboccjdliklifaa
open Go.RowKit
theorem ckB_held {c : Ck} (h4 : c.map.length = 4) (h8 : c.used.length = 8) : heldB (ckB c) = true := heldB_seal _ (by rw [ckN_bytes h4 h8]; decide)
theorem ckB_len {c : Ck} (h4 : c.map.length = 4) (h8 : c.used.length = 8) : (ckB c).length = 128 := sealB_length _ (by rw [ckN_bytes h4 h8]; decide)
set_option maxHeartbeats 4000000 in
theorem ckAt_enc {c : Ck} (h4 : c.map.length = 4) (h8 : c.used.length = 8) (hm : mayCk c) (hs : ∀ p ∈ c.map, p.2 < 4294967296) : ckAt (ckB c) = c := by
  have hf := ckN_fits hm hs 4 8
  have hN : ∀ (W : List Int), (ckN c 4 8).map (·.1) = W → ∀ (j v p n : Nat), (ckN c 4 8)[j]? = some ((n : Int), v) → sumW (W.take j) = p → numAt (ckB c) p n = v := by
    intro W hW j v p n h hp
    have := packB_num' hf j h (p := p) (by rw [List.map_take, hW]; exact hp) (List.replicate (124 - (packB (ckN c 4 8)).length) 0 ++ le4 (crc (fill124 (packB (ckN c 4 8)))))
    rw [← List.append_assoc] at this
    exact this
  obtain ⟨q1, q2, q3, hp, hu⟩ := hm
  generalize ckB c = b at hN
  obtain ⟨s, x, a, m, u⟩ := c
  simp only at h4 h8 q1 q2 q3 hp hu
  match m, h4 with
  | [p0, p1, p2, p3], _ =>
    match u, h8 with
    | [n0, n1, n2, n3, n4, n5, n6, n7], _ =>
      replace hN := hN [4, 6, 6, 4, 4, 4, 4, 4, 4, 4, 4, 4, 2, 2, 2, 2, 2, 2, 2, 2] rfl
      have hL : ckN ⟨s, x, a, [p0, p1, p2, p3], [n0, n1, n2, n3, n4, n5, n6, n7]⟩ 4 8 = [(4, 1667985524), (6, s.toNat), (6, x.toNat), (4, a.toNat), (4, p0.1.toNat), (4, p0.2), (4, p1.1.toNat), (4, p1.2), (4, p2.1.toNat), (4, p2.2), (4, p3.1.toNat), (4, p3.2), (2, n0.toNat), (2, n1.toNat), (2, n2.toNat), (2, n3.toNat), (2, n4.toNat), (2, n5.toNat), (2, n6.toNat), (2, n7.toNat)] := rfl
      rw [hL] at hN
      clear hf hL
      have a1 : numAt b 4 6 = s.toNat := hN 1 _ 4 6 rfl (by decide)
      have a2 : numAt b 10 6 = x.toNat := hN 2 _ 10 6 rfl (by decide)
      have a3 : numAt b 16 4 = a.toNat := hN 3 _ 16 4 rfl (by decide)
      have m0 : mapAt b 0 = p0 := by
        have e1 : numAt b (20 + 8 * 0) 4 = p0.1.toNat := hN 4 _ _ 4 rfl (by decide)
        have e2 : numAt b (24 + 8 * 0) 4 = p0.2 := hN 5 _ _ 4 rfl (by decide)
        have := hp p0 (by simp)
        unfold mapAt; rw [e1, e2]; exact Prod.ext (by show ((p0.1.toNat : Nat) : Int) = p0.1; omega) rfl
      have m1 : mapAt b 1 = p1 := by
        have e1 : numAt b (20 + 8 * 1) 4 = p1.1.toNat := hN 6 _ _ 4 rfl (by decide)
        have e2 : numAt b (24 + 8 * 1) 4 = p1.2 := hN 7 _ _ 4 rfl (by decide)
        have := hp p1 (by simp)
        unfold mapAt; rw [e1, e2]; exact Prod.ext (by show ((p1.1.toNat : Nat) : Int) = p1.1; omega) rfl
      have m2 : mapAt b 2 = p2 := by
        have e1 : numAt b (20 + 8 * 2) 4 = p2.1.toNat := hN 8 _ _ 4 rfl (by decide)
        have e2 : numAt b (24 + 8 * 2) 4 = p2.2 := hN 9 _ _ 4 rfl (by decide)
        have := hp p2 (by simp)
        unfold mapAt; rw [e1, e2]; exact Prod.ext (by show ((p2.1.toNat : Nat) : Int) = p2.1; omega) rfl
      have m3 : mapAt b 3 = p3 := by
        have e1 : numAt b (20 + 8 * 3) 4 = p3.1.toNat := hN 10 _ _ 4 rfl (by decide)
        have e2 : numAt b (24 + 8 * 3) 4 = p3.2 := hN 11 _ _ 4 rfl (by decide)
        have := hp p3 (by simp)
        unfold mapAt; rw [e1, e2]; exact Prod.ext (by show ((p3.1.toNat : Nat) : Int) = p3.1; omega) rfl
      have hu' : ∀ n ∈ [n0, n1, n2, n3, n4, n5, n6, n7], ((n.toNat : Nat) : Int) = n := fun n hn => by have := hu n hn; omega
      have u0 : useAt b 0 = n0 := by unfold useAt; rw [show numAt b (52 + 2 * 0) 2 = n0.toNat from hN 12 _ _ 2 rfl (by decide)]; exact hu' n0 (by simp)
      have u1 : useAt b 1 = n1 := by unfold useAt; rw [show numAt b (52 + 2 * 1) 2 = n1.toNat from hN 13 _ _ 2 rfl (by decide)]; exact hu' n1 (by simp)
      have u2 : useAt b 2 = n2 := by unfold useAt; rw [show numAt b (52 + 2 * 2) 2 = n2.toNat from hN 14 _ _ 2 rfl (by decide)]; exact hu' n2 (by simp)
      have u3 : useAt b 3 = n3 := by unfold useAt; rw [show numAt b (52 + 2 * 3) 2 = n3.toNat from hN 15 _ _ 2 rfl (by decide)]; exact hu' n3 (by simp)
      have u4 : useAt b 4 = n4 := by unfold useAt; rw [show numAt b (52 + 2 * 4) 2 = n4.toNat from hN 16 _ _ 2 rfl (by decide)]; exact hu' n4 (by simp)
      have u5 : useAt b 5 = n5 := by unfold useAt; rw [show numAt b (52 + 2 * 5) 2 = n5.toNat from hN 17 _ _ 2 rfl (by decide)]; exact hu' n5 (by simp)
      have u6 : useAt b 6 = n6 := by unfold useAt; rw [show numAt b (52 + 2 * 6) 2 = n6.toNat from hN 18 _ _ 2 rfl (by decide)]; exact hu' n6 (by simp)
      have u7 : useAt b 7 = n7 := by unfold useAt; rw [show numAt b (52 + 2 * 7) 2 = n7.toNat from hN 19 _ _ 2 rfl (by decide)]; exact hu' n7 (by simp)
      show Ck.mk (numAt b 4 6 : Nat) (numAt b 10 6 : Nat) (numAt b 16 4 : Nat) [mapAt b 0, mapAt b 1, mapAt b 2, mapAt b 3] [useAt b 0, useAt b 1, useAt b 2, useAt b 3, useAt b 4, useAt b 5, useAt b 6, useAt b 7] = _
      rw [a1, a2, a3, m0, m1, m2, m3, u0, u1, u2, u3, u4, u5, u6, u7]
      have g1 : ((s.toNat : Nat) : Int) = s := by omega
      have g2 : ((x.toNat : Nat) : Int) = x := by omega
      have g3 : ((a.toNat : Nat) : Int) = a := by omega
      rw [g1, g2, g3]
theorem decK_enc {c : Ck} (h4 : c.map.length = 4) (h8 : c.used.length = 8) (hm : mayCk c) (hs : ∀ p ∈ c.map, p.2 < 4294967296) : decK (ckB c) = (c, 0) := by
  unfold decK
  rw [if_pos (ckB_held h4 h8), ckAt_enc h4 h8 hm hs, if_pos ⟨hm, rfl⟩]
theorem chooseK_of {a b : List UInt8} (h : (bestK a b 2).seq ≠ 0) : chooseK a b = (bestK a b 2, 0) := if_neg h
theorem pick_own {m c : Ck} {i : Int} {b : List UInt8} (hd : decK b = (c, 0)) (hp : placeK c = i) (hs : m.seq < c.seq) : pickK m i b = c := by
  unfold pickK
  rw [hd, if_pos ⟨rfl, hp, hs⟩]
theorem pick_cases (m : Ck) (i : Int) (b : List UInt8) : pickK m i b = m ∨ (m.seq < (pickK m i b).seq ∧ (pickK m i b).seq % 2 = i) := by
  rw [pickK_of]
  by_cases h : (decK b).2 = 0 ∧ (decK b).1.seq % 2 = i ∧ m.seq < (decK b).1.seq
  · rw [if_pos h]; exact .inr ⟨h.2.2, h.2.1⟩
  · rw [if_neg h]; exact .inl rfl
theorem keep_even {c : Ck} {b o : List UInt8} (hd : decK b = (c, 0)) (hm : mayCk c) (hp : placeK c = 0) : ∃ x, chooseK b o = (x, 0) ∧ (x.map.length = 4 ∧ x.used.length = 8) ∧ (x = c ∨ c.seq < x.seq) := by
  have h1 : pickK ck0 0 b = c := pick_own hd hp (by have := hm.1; show (0 : Int) < c.seq; omega)
  have e : bestK b o 2 = pickK c 1 o := by show pickK (pickK ck0 0 b) 1 o = _; rw [h1]
  have hl := bestK_len b o 2
  have hs : (bestK b o 2).seq ≠ 0 := by
    rw [e]; rcases pick_cases c 1 o with h | ⟨h, _⟩
    · rw [h]; have := hm.1; omega
    · have := hm.1; omega
  refine ⟨bestK b o 2, chooseK_of hs, hl, ?_⟩
  rw [e]; rcases pick_cases c 1 o with h | ⟨h, _⟩
  · exact .inl h
  · exact .inr h
theorem keep_odd {c : Ck} {b o : List UInt8} (hd : decK b = (c, 0)) (hm : mayCk c) (hp : placeK c = 1) : ∃ x, chooseK o b = (x, 0) ∧ (x.map.length = 4 ∧ x.used.length = 8) ∧ (x = c ∨ c.seq < x.seq) := by
  have hl := bestK_len o b 2
  have e : bestK o b 2 = pickK (pickK ck0 0 o) 1 b := rfl
  have hp2 : c.seq % 2 = 1 := by rw [← hp]; exact (if_pos hm).symm
  have hc : ck0.seq = 0 := rfl
  by_cases hlt : (pickK ck0 0 o).seq < c.seq
  · have : bestK o b 2 = c := by rw [e]; exact pick_own hd hp hlt
    exact ⟨c, by rw [← this]; exact chooseK_of (by rw [this]; have := hm.1; omega), this ▸ hl, .inl rfl⟩
  · have h2 : bestK o b 2 = pickK ck0 0 o := by rw [e]; unfold pickK; rw [hd, if_neg (fun h => hlt h.2.2)]
    have h3 : c.seq < (pickK ck0 0 o).seq := by
      rcases pick_cases ck0 0 o with h | ⟨_, h⟩
      · rw [h, hc] at hlt; have := hm.1; omega
      · omega
    exact ⟨pickK ck0 0 o, by rw [← h2]; exact chooseK_of (by rw [h2]; have := hm.1; omega), h2 ▸ hl, .inr h3⟩
end Go.Proofs.Ytboccjdliklifaa
