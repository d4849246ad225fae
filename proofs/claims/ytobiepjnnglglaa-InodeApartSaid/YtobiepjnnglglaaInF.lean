/- A node's pointers are read: contract of the program's ReadNode. No condition. -/
import Derived.Test.YtobiepjnnglglaaInE
import Derived.Test.YtobiepjnnglglaaHeld
namespace Go.Proofs.Ytobiepjnnglglaa
open Go.RowKit
/-- a node's pointers, the error's number -/
def readN (b : List UInt8) : List (Int × Nat) × Int :=
  if heldB b then (if (ptrsB b 15).all okPt = true ∧ nodeB (ptrsB b 15) = b then (ptrsB b 15, 0) else ([], 3)) else ([], 5)
/-- pointers and an error's number, as the call hands them back -/
def MadeQ (w : World) (r : List (Int × Nat) × Int) (e : Ending) (w' : World) : Prop :=
  ∃ A c, e = .returned (.tuple #[.slice A r.1.length c, .int .i64 r.2]) ∧ Rd w' A (r.1.flatMap ptrC) ∧ r.1.length ≤ c ∧ Below w.heap.size w w'
theorem heldK_len {b : List UInt8} (h : heldB b = true) : b.length = 128 := by
  unfold heldB at h
  rw [Bool.and_eq_true, decide_eq_true_eq] at h
  exact h.1
theorem nodeB_len {l : List (Int × Nat)} (h : l.length = 15) : (nodeB l).length = 128 := sealB_length _ (by rw [packB_len, numsI_sum, h]; decide)
theorem own_cap {w : World} {base e z n m c : Nat} {A : Option Addr} {xs : List Value} (h : w.ownsRow base e z (.slice A n c) m xs) (hm : m = n) : n ≤ c := by
  subst hm
  rcases h.2 with ⟨h1, _⟩ | ⟨g, cap, cur, h1, _, _, h2, _⟩
  · injection h1 with _ h3 h4; omega
  · injection h1 with _ h3 h4; omega
set_option maxRecDepth 100000 in
set_option maxHeartbeats 4000000 in
theorem readNode_any (A : Option Addr) (n c : Nat) (bs : List UInt8) (w : World) (hA : Rd w A (bs.map u8v)) (hn : bs.length = n) (hc : n ≤ c) :
    Calls Try.prog 21 #[.slice A n c] w (MadeQ w (readN bs)) := by
  have H := held_any A n c bs w hA hn hc
  rcases hh : heldB bs with _ | _
  · rw [hh] at H
    replace H := hide H
    rw [show readN bs = ([], 5) by unfold readN; rw [hh]; rfl]
    clear hA hn hh
    go_enter Try.func21, Try.ntmps21
    go_wp2_with (go_at_call 31; (with_reducible refine (unhide H).mono ?_); rintro e w1 ⟨rfl, hb1⟩)
    go_ret2
    exact (show MadeQ w ([], 5) _ _ from ⟨none, 0, rfl, .inl rfl, Nat.le_refl _, hb1⟩)
  · rw [hh] at H
    have h128 := heldK_len hh
    obtain rfl : n = 128 := hn.symm.trans h128
    have he : readN bs = if (ptrsB bs 15).all okPt = true ∧ nodeB (ptrsB bs 15) = bs then (ptrsB bs 15, 0) else ([], 3) := by unfold readN; rw [if_pos hh]
    have PA : ∀ w', Rd w' A (bs.map u8v) → Calls Try.prog 33 #[.slice A 128 c, .int .i64 15] w' fun e w2 => ∃ A c, e = .returned (.slice A 15 c) ∧ w2.ownsRow w'.heap.size 24 2 (.slice A 15 c) 15 ((ptrsB bs 15).flatMap ptrC) ∧ Below w'.heap.size w' w2 := fun w' h => by
      have := ptrs_any A 128 c bs 15 w' h h128 hc (by decide) (by decide) (by decide)
      unfold MadeP at this
      rw [ptrsB_len] at this
      exact this
    have hl := ptrsB_len bs 15
    have hs := ptrsB_lt bs 15
    generalize ptrsB bs 15 = L at he PA hl hs
    have NA := fun (A4 : Option Addr) (c4 : Nat) (w' : World) (h : Rd w' A4 (L.flatMap ptrC)) => node_any A4 L 15 c4 w' h hl (by decide) hs
    have LB := nodeB_len hl
    have hr : nodeR L = if L.all okPt = true then (nodeB L, 0) else ([], 1) := by unfold nodeR; simp only [hl, true_and]
    obtain ⟨R, hR⟩ : ∃ R, R = readN bs := ⟨_, rfl⟩
    rw [← hR] at he ⊢
    rw [hr] at NA
    generalize nodeB L = B at he NA LB hr
    have Hb := hide h128; have HA := hide hA; have Hl := hide hl
    replace H := hide H; replace PA := hide PA
    clear hR hs hr hh hA h128 hn LB hl
    by_cases ho : L.all okPt = true
    · rw [if_pos ho] at NA
      replace NA := hide NA
      by_cases hq : B = bs
      · rw [if_pos ⟨ho, hq⟩] at he
        replace he := hide he
        have hq' := hide hq
        clear ho hq
        go_enter Try.func21, Try.ntmps21
        go_wp2_with (first
          | (go_at_call 31; (with_reducible refine (unhide H).mono ?_); rintro e w1 ⟨rfl, hb1⟩; have hb := hide hb1; replace HA := hide (HA.out.on hb1); have P2 := hide (PA.out w1 HA.out); clear hb1)
          | (go_at_call 33; (with_reducible refine (unhide P2).mono ?_); rintro e w4 ⟨A4, c4, rfl, ho4, hb4⟩; replace HA := hide (HA.out.on hb4); replace hb := hide (nextB hb.out hb4); have N2 := hide (NA.out A4 c4 w4 (Rd.of_own ho4)); have ho5 := hide ho4; clear hb4 ho4)
          | (go_at_call 16; (with_reducible refine (unhide N2).mono ?_); rintro e w5 ⟨A5, c5, rfl, hr5, hc5, hb5⟩; replace HA := hide (HA.out.on hb5); replace hb := hide (nextB hb.out hb5); have R4 := hide ((Rd.of_own ho5.out).on hb5); have Q := bytesEq_any A5 A B.length c5 128 c B bs w5 hr5 HA.out rfl Hb.out; rw [decide_eq_true hq'.out] at Q; replace Q := hide Q; clear hb5 hr5)
          | (go_at_call 34; (with_reducible refine (unhide Q).mono ?_); rintro e w6 ⟨rfl, rfl⟩))
        go_ret2
        rw [he.out]
        exact (show MadeQ w (L, 0) _ _ from ⟨A4, c4, by rw [show (L, (0 : Int)).1.length = 15 from Hl.out]; rfl, R4.out, by rw [show (L, (0 : Int)).1.length = 15 from Hl.out]; exact own_cap ho5.out rfl, hb.out⟩)
      · rw [if_neg (fun h => hq h.2)] at he
        replace he := hide he
        have hq' := hide hq
        clear ho hq
        go_enter Try.func21, Try.ntmps21
        go_wp2_with (first
          | (go_at_call 31; (with_reducible refine (unhide H).mono ?_); rintro e w1 ⟨rfl, hb1⟩; have hb := hide hb1; replace HA := hide (HA.out.on hb1); have P2 := hide (PA.out w1 HA.out); clear hb1)
          | (go_at_call 33; (with_reducible refine (unhide P2).mono ?_); rintro e w4 ⟨A4, c4, rfl, ho4, hb4⟩; replace HA := hide (HA.out.on hb4); replace hb := hide (nextB hb.out hb4); have N2 := hide (NA.out A4 c4 w4 (Rd.of_own ho4)); have ho5 := hide ho4; clear hb4 ho4)
          | (go_at_call 16; (with_reducible refine (unhide N2).mono ?_); rintro e w5 ⟨A5, c5, rfl, hr5, hc5, hb5⟩; replace HA := hide (HA.out.on hb5); replace hb := hide (nextB hb.out hb5); have Q := bytesEq_any A5 A B.length c5 128 c B bs w5 hr5 HA.out rfl Hb.out; rw [decide_eq_false hq'.out] at Q; replace Q := hide Q; clear hb5 hr5)
          | (go_at_call 34; (with_reducible refine (unhide Q).mono ?_); rintro e w6 ⟨rfl, rfl⟩))
        go_ret2
        rw [he.out]
        exact (show MadeQ w ([], 3) _ _ from ⟨none, 0, rfl, .inl rfl, Nat.le_refl _, hb.out⟩)
    · rw [if_neg ho] at NA
      rw [if_neg (fun h => ho h.1)] at he
      replace he := hide he; replace NA := hide NA
      clear ho
      go_enter Try.func21, Try.ntmps21
      go_wp2_with (first
        | (go_at_call 31; (with_reducible refine (unhide H).mono ?_); rintro e w1 ⟨rfl, hb1⟩; have hb := hide hb1; replace HA := hide (HA.out.on hb1); have P2 := hide (PA.out w1 HA.out); clear hb1)
        | (go_at_call 33; (with_reducible refine (unhide P2).mono ?_); rintro e w4 ⟨A4, c4, rfl, ho4, hb4⟩; replace HA := hide (HA.out.on hb4); replace hb := hide (nextB hb.out hb4); have N2 := hide (NA.out A4 c4 w4 (Rd.of_own ho4)); clear hb4 ho4)
        | (go_at_call 16; (with_reducible refine (unhide N2).mono ?_); rintro e w5 ⟨A5, c5, rfl, hr5, hc5, hb5⟩; replace hb := hide (nextB hb.out hb5); clear hb5 hr5))
      go_ret2
      rw [he.out]
      exact (show MadeQ w ([], 3) _ _ from ⟨none, 0, rfl, .inl rfl, Nat.le_refl _, hb.out⟩)
end Go.Proofs.Ytobiepjnnglglaa
