/- Plain law of layer 13: the checkpoint that counts, by the document's text and by the program's rounds. No condition. -/
import Derived.Test.YtboccjdliklifaaCkG
namespace Go.Proofs.Ytboccjdliklifaa
open Go.RowKit

def chooseR (a b : List UInt8) : Ck × Bool :=
  if ((decK a).2 = 0 ∧ (decK a).1.seq % 2 = 0) ∧ ((decK b).2 = 0 ∧ (decK b).1.seq % 2 = 1) ∧ (decK b).1.seq < (decK a).1.seq ∨ ((decK a).2 = 0 ∧ (decK a).1.seq % 2 = 0) ∧ ¬ ((decK b).2 = 0 ∧ (decK b).1.seq % 2 = 1) then ((decK a).1, true)
  else if (decK b).2 = 0 ∧ (decK b).1.seq % 2 = 1 then ((decK b).1, true) else (ck0, false)
theorem decK_may {b : List UInt8} (h : (decK b).2 = 0) : mayCk (decK b).1 := by
  unfold decK at h ⊢
  split at h
  · split at h
    · next h1 h2 => rw [if_pos h1, if_pos h2]; exact h2.1
    · cases h
  · cases h
theorem decK_nat (b : List UInt8) : ∃ s : Nat, (decK b).1.seq = (s : Int) := by
  unfold decK
  split
  · split
    · exact ⟨_, rfl⟩
    · exact ⟨0, rfl⟩
  · exact ⟨0, rfl⟩
theorem pickK_of {m : Ck} {i : Int} {b : List UInt8} : pickK m i b = if (decK b).2 = 0 ∧ (decK b).1.seq % 2 = i ∧ m.seq < (decK b).1.seq then (decK b).1 else m := by
  unfold pickK
  by_cases h : (decK b).2 = 0
  · have : placeK (decK b).1 = (decK b).1.seq % 2 := if_pos (decK_may h)
    rw [this]
  · rw [if_neg (fun h' => h h'.1), if_neg (fun h' => h h'.1)]
theorem chooseR_eq (a b : List UInt8) : chooseR a b = ((chooseK a b).1, decide ((chooseK a b).2 = 0)) := by
  have ha : (decK a).2 = 0 → 1 ≤ (decK a).1.seq := fun h => (decK_may h).1.1
  have hb : (decK b).2 = 0 → 1 ≤ (decK b).1.seq := fun h => (decK_may h).1.1
  unfold chooseR chooseK
  show _ = _
  have e : bestK a b 2 = pickK (pickK ck0 0 a) 1 b := rfl
  rw [e, pickK_of, pickK_of]
  have hc : ck0.seq = 0 := rfl
  generalize decK a = x at ha ⊢
  generalize decK b = y at hb ⊢
  obtain ⟨x, e1⟩ := x
  obtain ⟨y, e2⟩ := y
  simp only at ha hb ⊢
  by_cases h1 : e1 = 0 ∧ x.seq % 2 = 0
  · have h1' : e1 = 0 ∧ x.seq % 2 = 0 ∧ ck0.seq < x.seq := ⟨h1.1, h1.2, by rw [hc]; have := ha h1.1; omega⟩
    rw [if_pos h1']
    by_cases h2 : e2 = 0 ∧ y.seq % 2 = 1
    · by_cases h3 : y.seq < x.seq
      · rw [if_pos (.inl ⟨h1, h2, h3⟩), show (if e2 = 0 ∧ y.seq % 2 = 1 ∧ x.seq < y.seq then y else x) = x from if_neg (fun h => by omega), if_neg (by have := ha h1.1; omega)]
        rfl
      · rw [if_neg (by rintro (⟨_, _, h⟩ | ⟨_, h⟩); exact h3 h; exact h h2), if_pos h2, show (if e2 = 0 ∧ y.seq % 2 = 1 ∧ x.seq < y.seq then y else x) = y from if_pos ⟨h2.1, h2.2, by omega⟩, if_neg (by have := hb h2.1; omega)]
        rfl
    · rw [if_pos (.inr ⟨h1, h2⟩), show (if e2 = 0 ∧ y.seq % 2 = 1 ∧ x.seq < y.seq then y else x) = x from if_neg (fun h => h2 ⟨h.1, h.2.1⟩), if_neg (by have := ha h1.1; omega)]
      rfl
  · have h1' : ¬ (e1 = 0 ∧ x.seq % 2 = 0 ∧ ck0.seq < x.seq) := fun h => h1 ⟨h.1, h.2.1⟩
    rw [if_neg h1']
    rw [if_neg (by rintro (⟨h, _, _⟩ | ⟨h, _⟩) <;> exact h1 h)]
    by_cases h2 : e2 = 0 ∧ y.seq % 2 = 1
    · rw [if_pos h2, show (if e2 = 0 ∧ y.seq % 2 = 1 ∧ ck0.seq < y.seq then y else ck0) = y from if_pos ⟨h2.1, h2.2, by rw [hc]; have := hb h2.1; omega⟩, if_neg (by have := hb h2.1; omega)]
      rfl
    · rw [if_neg h2, show (if e2 = 0 ∧ y.seq % 2 = 1 ∧ ck0.seq < y.seq then y else ck0) = ck0 from if_neg (fun h => h2 ⟨h.1, h.2.1⟩), if_pos hc]
      rfl
end Go.Proofs.Ytboccjdliklifaa
