/- Plain law of layer 7: an inode's block is read as it was, and by its own number alone. No condition. -/
import Derived.Test.YtobiepjnnglglaaInK
namespace Go.Proofs.Ytobiepjnnglglaa
open Go.RowKit
theorem inoB_held (ino : Int) {x : Ino} (h9 : x.ps.length = 9) : heldB (inoB ino x) = true := heldB_seal _ (by rw [inoN_bytes ino h9]; decide)
theorem inoB_len (ino : Int) {x : Ino} (h9 : x.ps.length = 9) : (inoB ino x).length = 128 := sealB_length _ (by rw [inoN_bytes ino h9]; decide)
theorem inoB_num {ino : Int} {x : Ino} (hm : mayE ino x) (hs : ∀ p ∈ x.ps, p.2 < 4294967296) (W : List Int) (hW : (inoN ino x).map (·.1) = W) (j v p n : Nat) (h : (inoN ino x)[j]? = some ((n : Int), v)) (hp : sumW (W.take j) = p) : numAt (inoB ino x) p n = v := by
  have := packB_num' (inoN_fits hm hs) j h (p := p) (by rw [List.map_take, hW]; exact hp) (List.replicate (124 - (packB (inoN ino x)).length) 0 ++ le4 (crc (fill124 (packB (inoN ino x)))))
  rw [← List.append_assoc] at this
  exact this
set_option maxHeartbeats 4000000 in
theorem inoAt_enc {ino : Int} {x : Ino} (h9 : x.ps.length = 9) (hm : mayE ino x) (hs : ∀ p ∈ x.ps, p.2 < 4294967296) : inoAt (inoB ino x) = x ∧ (numAt (inoB ino x) 4 1 : Nat) = ino.toNat := by
  have hN := inoB_num hm hs
  obtain ⟨_, ⟨q1, q2, q3, q4, q5⟩, hp⟩ := hm
  generalize inoB ino x = b at hN
  obtain ⟨a1, a2, a3, a4, a5, m⟩ := x
  simp only at h9 q1 q2 q3 q4 q5 hp
  match m, h9 with
  | [p0, p1, p2, p3, p4, p5, p6, p7, p8], _ =>
    replace hN := hN [4, 1, 1, 1, 4, 6, 4, 4, 4, 4, 4, 4, 4, 4, 4, 4, 4, 4, 4, 4, 4, 4, 4, 4, 4] rfl
    have hL : inoN ino ⟨a1, a2, a3, a4, a5, [p0, p1, p2, p3, p4, p5, p6, p7, p8]⟩ = [(4, 1768845156), (1, ino.toNat), (1, a1.toNat), (1, a2.toNat), (4, a3.toNat), (6, a4.toNat), (4, a5.toNat), (4, p0.1.toNat), (4, p0.2), (4, p1.1.toNat), (4, p1.2), (4, p2.1.toNat), (4, p2.2), (4, p3.1.toNat), (4, p3.2), (4, p4.1.toNat), (4, p4.2), (4, p5.1.toNat), (4, p5.2), (4, p6.1.toNat), (4, p6.2), (4, p7.1.toNat), (4, p7.2), (4, p8.1.toNat), (4, p8.2)] := rfl
    rw [hL] at hN
    clear hL
    have ok : ∀ p ∈ [p0, p1, p2, p3, p4, p5, p6, p7, p8], ((p.1.toNat : Nat) : Int) = p.1 := fun p h => by have := okPt_iff (List.all_eq_true.1 hp p h); omega
    have n0 : numAt b 4 1 = ino.toNat := hN 1 _ 4 1 rfl (by decide)
    have n1 : numAt b 5 1 = a1.toNat := hN 2 _ 5 1 rfl (by decide)
    have n2 : numAt b 6 1 = a2.toNat := hN 3 _ 6 1 rfl (by decide)
    have n3 : numAt b 7 4 = a3.toNat := hN 4 _ 7 4 rfl (by decide)
    have n4 : numAt b 11 6 = a4.toNat := hN 5 _ 11 6 rfl (by decide)
    have n5 : numAt b 17 4 = a5.toNat := hN 6 _ 17 4 rfl (by decide)
    have m0 : ptrAt (b.drop 21) 0 = p0 := by
      rw [ptrAt_drop]
      have e1 : beN ((b.drop (21 + 8 * 0)).take 4) = p0.1.toNat := hN 7 _ (21 + 8 * 0) 4 rfl (by decide)
      have e2 : beN ((b.drop (25 + 8 * 0)).take 4) = p0.2 := hN 8 _ (25 + 8 * 0) 4 rfl (by decide)
      rw [e1, e2]; exact Prod.ext (ok p0 (by simp)) rfl
    have m1 : ptrAt (b.drop 21) 1 = p1 := by
      rw [ptrAt_drop]
      have e1 : beN ((b.drop (21 + 8 * 1)).take 4) = p1.1.toNat := hN 9 _ (21 + 8 * 1) 4 rfl (by decide)
      have e2 : beN ((b.drop (25 + 8 * 1)).take 4) = p1.2 := hN 10 _ (25 + 8 * 1) 4 rfl (by decide)
      rw [e1, e2]; exact Prod.ext (ok p1 (by simp)) rfl
    have m2 : ptrAt (b.drop 21) 2 = p2 := by
      rw [ptrAt_drop]
      have e1 : beN ((b.drop (21 + 8 * 2)).take 4) = p2.1.toNat := hN 11 _ (21 + 8 * 2) 4 rfl (by decide)
      have e2 : beN ((b.drop (25 + 8 * 2)).take 4) = p2.2 := hN 12 _ (25 + 8 * 2) 4 rfl (by decide)
      rw [e1, e2]; exact Prod.ext (ok p2 (by simp)) rfl
    have m3 : ptrAt (b.drop 21) 3 = p3 := by
      rw [ptrAt_drop]
      have e1 : beN ((b.drop (21 + 8 * 3)).take 4) = p3.1.toNat := hN 13 _ (21 + 8 * 3) 4 rfl (by decide)
      have e2 : beN ((b.drop (25 + 8 * 3)).take 4) = p3.2 := hN 14 _ (25 + 8 * 3) 4 rfl (by decide)
      rw [e1, e2]; exact Prod.ext (ok p3 (by simp)) rfl
    have m4 : ptrAt (b.drop 21) 4 = p4 := by
      rw [ptrAt_drop]
      have e1 : beN ((b.drop (21 + 8 * 4)).take 4) = p4.1.toNat := hN 15 _ (21 + 8 * 4) 4 rfl (by decide)
      have e2 : beN ((b.drop (25 + 8 * 4)).take 4) = p4.2 := hN 16 _ (25 + 8 * 4) 4 rfl (by decide)
      rw [e1, e2]; exact Prod.ext (ok p4 (by simp)) rfl
    have m5 : ptrAt (b.drop 21) 5 = p5 := by
      rw [ptrAt_drop]
      have e1 : beN ((b.drop (21 + 8 * 5)).take 4) = p5.1.toNat := hN 17 _ (21 + 8 * 5) 4 rfl (by decide)
      have e2 : beN ((b.drop (25 + 8 * 5)).take 4) = p5.2 := hN 18 _ (25 + 8 * 5) 4 rfl (by decide)
      rw [e1, e2]; exact Prod.ext (ok p5 (by simp)) rfl
    have m6 : ptrAt (b.drop 21) 6 = p6 := by
      rw [ptrAt_drop]
      have e1 : beN ((b.drop (21 + 8 * 6)).take 4) = p6.1.toNat := hN 19 _ (21 + 8 * 6) 4 rfl (by decide)
      have e2 : beN ((b.drop (25 + 8 * 6)).take 4) = p6.2 := hN 20 _ (25 + 8 * 6) 4 rfl (by decide)
      rw [e1, e2]; exact Prod.ext (ok p6 (by simp)) rfl
    have m7 : ptrAt (b.drop 21) 7 = p7 := by
      rw [ptrAt_drop]
      have e1 : beN ((b.drop (21 + 8 * 7)).take 4) = p7.1.toNat := hN 21 _ (21 + 8 * 7) 4 rfl (by decide)
      have e2 : beN ((b.drop (25 + 8 * 7)).take 4) = p7.2 := hN 22 _ (25 + 8 * 7) 4 rfl (by decide)
      rw [e1, e2]; exact Prod.ext (ok p7 (by simp)) rfl
    have m8 : ptrAt (b.drop 21) 8 = p8 := by
      rw [ptrAt_drop]
      have e1 : beN ((b.drop (21 + 8 * 8)).take 4) = p8.1.toNat := hN 23 _ (21 + 8 * 8) 4 rfl (by decide)
      have e2 : beN ((b.drop (25 + 8 * 8)).take 4) = p8.2 := hN 24 _ (25 + 8 * 8) 4 rfl (by decide)
      rw [e1, e2]; exact Prod.ext (ok p8 (by simp)) rfl
    refine ⟨?_, n0⟩
    show Ino.mk (numAt b 5 1 : Nat) (numAt b 6 1 : Nat) (numAt b 7 4 : Nat) (numAt b 11 6 : Nat) (numAt b 17 4 : Nat) [ptrAt (b.drop 21) 0, ptrAt (b.drop 21) 1, ptrAt (b.drop 21) 2, ptrAt (b.drop 21) 3, ptrAt (b.drop 21) 4, ptrAt (b.drop 21) 5, ptrAt (b.drop 21) 6, ptrAt (b.drop 21) 7, ptrAt (b.drop 21) 8] = _
    rw [n1, n2, n3, n4, n5, m0, m1, m2, m3, m4, m5, m6, m7, m8]
    have g1 : ((a1.toNat : Nat) : Int) = a1 := by omega
    have g2 : ((a2.toNat : Nat) : Int) = a2 := by omega
    have g3 : ((a3.toNat : Nat) : Int) = a3 := by omega
    have g4 : ((a4.toNat : Nat) : Int) = a4 := by omega
    have g5 : ((a5.toNat : Nat) : Int) = a5 := by omega
    rw [g1, g2, g3, g4, g5]
theorem decI_enc {ino : Int} {x : Ino} (h9 : x.ps.length = 9) (hm : mayE ino x) (hs : ∀ p ∈ x.ps, p.2 < 4294967296) : decI ino (inoB ino x) = (x, 0) := by
  unfold decI
  rw [if_neg (by simp [hm.1]), if_pos (inoB_held ino h9), (inoAt_enc h9 hm hs).1, if_pos ⟨hm.2, rfl⟩]
theorem decI_other {ino other : Int} {x : Ino} (h9 : x.ps.length = 9) (hm : mayE ino x) (hs : ∀ p ∈ x.ps, p.2 < 4294967296) (hne : other ≠ ino) : (decI other (inoB ino x)).1 = ino0 ∧ ((decI other (inoB ino x)).2 = 1 ∨ (decI other (inoB ino x)).2 = 3) := by
  unfold decI
  by_cases hi : 1 ≤ other ∧ other ≤ 39
  · rw [if_neg (by simp [hi]), if_pos (inoB_held ino h9), (inoAt_enc h9 hm hs).1, if_neg]
    · exact ⟨rfl, .inr rfl⟩
    · rintro ⟨_, h⟩
      have h1 := (inoAt_enc h9 hm hs).2
      have h2 := (inoAt_enc (ino := other) h9 ⟨hi, hm.2⟩ hs).2
      rw [h, h1] at h2
      have := hm.1
      omega
  · rw [if_pos hi]; exact ⟨rfl, .inl rfl⟩
end Go.Proofs.Ytobiepjnnglglaa
