/- Plain law of layer 5: a super is read as it was, a label too, and neither as the other. No condition. -/
import Derived.Test.YtfpclheplipjfaaPlainS
namespace Go.Proofs.Ytfpclheplipjfaa
theorem sup_mid {s : List UInt8} {l1 l2 : List (Int × Nat)} {n v p : Nat} {N : List (Int × Nat)} (hN : N = l1 ++ ((n : Int), v) :: l2) (hv : v < 256 ^ n) (hs : s.length = 4) (hp : 4 + sumW (l1.map (·.1)) = p) : sup (sealB (s ++ packB N)) p n = v := by
  subst hN; subst hp
  unfold sup sealB fill124
  rw [List.append_assoc, List.append_assoc, List.append_assoc, ← List.drop_drop, List.drop_left' hs]
  exact beN_mid hv rfl _
theorem readS_super {D L V S : Int} (h : mayG D L V S) : readS (superB D L V S) = ((D, L, V, S), 0) := by
  have h0 := h
  unfold mayG at h0
  have e0 : sup (superB D L V S) 4 2 = D.toNat := sup_mid (l1 := []) (l2 := [(2, L.toNat), (1, V.toNat), (2, S.toNat)]) rfl (by omega) rfl rfl
  have e1 : sup (superB D L V S) 6 2 = L.toNat := sup_mid (l1 := [(2, D.toNat)]) (l2 := [(1, V.toNat), (2, S.toNat)]) rfl (by omega) rfl rfl
  have e2 : sup (superB D L V S) 8 1 = V.toNat := sup_mid (l1 := [(2, D.toNat), (2, L.toNat)]) (l2 := [(2, S.toNat)]) rfl (by omega) rfl rfl
  have e3 : sup (superB D L V S) 9 2 = S.toNat := sup_mid (l1 := [(2, D.toNat), (2, L.toNat), (1, V.toNat)]) (l2 := []) rfl (by omega) rfl rfl
  have hh : heldB (superB D L V S) = true := heldB_seal _ (by rw [List.length_append, superN_len]; decide)
  unfold readS
  rw [if_neg (by rw [hh]; simp), e0, e1, e2, e3]
  have d0 : ((D.toNat : Nat) : Int) = D := by omega
  have d1 : ((L.toNat : Nat) : Int) = L := by omega
  have d2 : ((V.toNat : Nat) : Int) = V := by omega
  have d3 : ((S.toNat : Nat) : Int) = S := by omega
  rw [d0, d1, d2, d3, if_pos ⟨h, rfl⟩]
theorem readL_label {v g : Int} (h : mayL v g) : readL (labelB v g) = ((v, g), 0) := by
  have h0 := h
  unfold mayL at h0
  have e0 : sup (labelB v g) 4 1 = v.toNat := sup_mid (l1 := []) (l2 := [(4, g.toNat)]) rfl (by omega) rfl rfl
  have e1 : sup (labelB v g) 5 4 = g.toNat := sup_mid (l1 := [(1, v.toNat)]) (l2 := []) rfl (by omega) rfl rfl
  have hh : heldB (labelB v g) = true := heldB_seal _ (by rw [List.length_append, labelN_len]; decide)
  unfold readL
  rw [if_neg (by rw [hh]; simp), e0, e1]
  have d0 : ((v.toNat : Nat) : Int) = v := by omega
  have d1 : ((g.toNat : Nat) : Int) = g := by omega
  rw [d0, d1, if_pos ⟨h, rfl⟩]
theorem readL_super (D L V S : Int) : readL (superB D L V S) = ((0, 0), 3) := by
  have hh : heldB (superB D L V S) = true := heldB_seal _ (by rw [List.length_append, superN_len]; decide)
  unfold readL
  rw [if_neg (by rw [hh]; simp), if_neg]
  rintro ⟨_, h⟩
  have h1 := label_begins (sup (superB D L V S) 4 1) (sup (superB D L V S) 5 4)
  rw [h, super_begins] at h1
  exact absurd h1 (by decide)
theorem readS_label (v g : Int) : readS (labelB v g) = ((0, 0, 0, 0), 3) := by
  have hh : heldB (labelB v g) = true := heldB_seal _ (by rw [List.length_append, labelN_len]; decide)
  unfold readS
  rw [if_neg (by rw [hh]; simp), if_neg]
  rintro ⟨_, h⟩
  have h1 := super_begins (sup (labelB v g) 4 2) (sup (labelB v g) 6 2) (sup (labelB v g) 8 1) (sup (labelB v g) 9 2)
  rw [h, label_begins] at h1
  exact absurd h1 (by decide)
theorem superB_inj {D L V S D' L' V' S' : Int} (h : mayG D L V S) (h' : mayG D' L' V' S') (he : superB D L V S = superB D' L' V' S') : D = D' ∧ L = L' ∧ V = V' ∧ S = S' := by
  have h1 := readS_super h
  rw [he, readS_super h'] at h1
  simp only [Prod.mk.injEq, and_true] at h1
  obtain ⟨a, b, c, d⟩ := h1
  exact ⟨a.symm, b.symm, c.symm, d.symm⟩
theorem labelB_inj {v g v' g' : Int} (h : mayL v g) (h' : mayL v' g') (he : labelB v g = labelB v' g') : v = v' ∧ g = g' := by
  have h1 := readL_label h
  rw [he, readL_label h'] at h1
  simp only [Prod.mk.injEq, and_true] at h1
  exact ⟨h1.1.symm, h1.2.symm⟩
end Go.Proofs.Ytfpclheplipjfaa
