/- Plain law of layer 13: of checkpoints written one behind the other the last is chosen. No condition. -/
import Derived.Test.YtboccjdliklifaaPlainX
import Derived.Test.YtboccjdliklifaaCkL
namespace Go.Proofs.Ytboccjdliklifaa
open Go.RowKit
def zerosK : List UInt8 := List.replicate 128 0
theorem zerosK_dec : decK zerosK = (ck0, 5) := by unfold decK zerosK; rw [aw_zero]; rfl
def stepK (c : Ck) (i : Nat) : Ck := { c with seq := c.seq + i, at_ := c.at_ + i }
theorem stepK_zero (c : Ck) : stepK c 0 = c := by unfold stepK; simp
theorem stepK_len {c : Ck} (h : c.map.length = 4 ∧ c.used.length = 8) (i : Nat) : (stepK c i).map.length = 4 ∧ (stepK c i).used.length = 8 := h
/-- what a place has behind so many checkpoints -/
def contK (c : Ck) : Nat → Int → List UInt8
  | 0, _ => zerosK
  | 1, p => if (stepK c 0).seq % 2 = p then ckB (stepK c 0) else zerosK
  | i + 2, p => if (stepK c (i + 1)).seq % 2 = p then ckB (stepK c (i + 1)) else ckB (stepK c i)
theorem stepK_seq (c : Ck) (i : Nat) : (stepK c i).seq = c.seq + i := rfl
theorem contK_len {c : Ck} (h : c.map.length = 4 ∧ c.used.length = 8) : ∀ i p, (contK c i p).length = 128
  | 0, _ => by unfold contK zerosK; rw [List.length_replicate]
  | 1, p => by
    show (if (stepK c 0).seq % 2 = p then ckB (stepK c 0) else zerosK).length = 128
    by_cases hp : (stepK c 0).seq % 2 = p
    · rw [if_pos hp]; exact ckB_len (c := stepK c 0) h.1 h.2
    · rw [if_neg hp]; unfold zerosK; rw [List.length_replicate]
  | i + 2, p => by
    show (if (stepK c (i + 1)).seq % 2 = p then ckB (stepK c (i + 1)) else ckB (stepK c i)).length = 128
    by_cases hp : (stepK c (i + 1)).seq % 2 = p
    · rw [if_pos hp]; exact ckB_len (c := stepK c (i + 1)) h.1 h.2
    · rw [if_neg hp]; exact ckB_len (c := stepK c i) h.1 h.2
theorem contK_new {c : Ck} {i : Nat} {p : Int} (h : (stepK c i).seq % 2 = p) : contK c (i + 1) p = ckB (stepK c i) := by
  match i with
  | 0 => show (if (stepK c 0).seq % 2 = p then _ else _) = _; rw [if_pos h]
  | i + 1 => show (if (stepK c (i + 1)).seq % 2 = p then _ else _) = _; rw [if_pos h]
theorem contK_old {c : Ck} {i : Nat} {p : Int} (h : ¬ (stepK c i).seq % 2 = p) (hp : p = 0 ∨ p = 1) : contK c (i + 1) p = contK c i p := by
  match i with
  | 0 => show (if (stepK c 0).seq % 2 = p then _ else _) = _; rw [if_neg h]; rfl
  | 1 =>
    show (if (stepK c 1).seq % 2 = p then _ else _) = (if (stepK c 0).seq % 2 = p then _ else _)
    rw [stepK_seq] at h
    rw [if_neg (by rw [stepK_seq]; exact h), if_pos (by rw [stepK_seq]; omega)]
  | i + 2 =>
    show (if (stepK c (i + 2)).seq % 2 = p then _ else _) = (if (stepK c (i + 1)).seq % 2 = p then _ else _)
    rw [stepK_seq] at h
    rw [if_neg (by rw [stepK_seq]; exact h), if_pos (by rw [stepK_seq]; omega)]
/-- octets that have nothing, or a checkpoint of a lesser number -/
def Less (o : List UInt8) (s : Int) : Prop := o = zerosK ∨ ∃ e, decK o = (e, 0) ∧ e.seq < s
theorem less_pick {o : List UInt8} {s : Int} (h : Less o s) {m : Ck} (hm : s ≤ m.seq) (i : Int) : pickK m i o = m := by
  unfold pickK
  rcases h with rfl | ⟨e, he, hs⟩
  · rw [zerosK_dec, if_neg (by simp)]
  · rw [he, if_neg (fun h => by have h2 : m.seq < e.seq := h.2.2; omega)]
theorem less_first {o : List UInt8} {s : Int} (h : Less o s) (hs : 0 < s) (i : Int) : (pickK ck0 i o).seq < s := by
  have hc : ck0.seq = 0 := rfl
  unfold pickK
  rcases h with rfl | ⟨e, he, h2⟩
  · rw [zerosK_dec, if_neg (by simp), hc]; exact hs
  · rw [he]; split
    · exact h2
    · rw [hc]; exact hs
theorem choose_even {d : Ck} {b o : List UInt8} (hd : decK b = (d, 0)) (hm : mayCk d) (hp : d.seq % 2 = 0) (ho : Less o d.seq) : chooseK b o = (d, 0) := by
  have h1 : pickK ck0 0 b = d := pick_own hd ((if_pos hm).trans hp) (by have := hm.1; show (0 : Int) < d.seq; omega)
  have e : bestK b o 2 = d := by show pickK (pickK ck0 0 b) 1 o = _; rw [h1]; exact less_pick ho (Int.le_refl _) 1
  rw [chooseK_of (by rw [e]; have := hm.1; omega), e]
theorem choose_odd {d : Ck} {b o : List UInt8} (hd : decK b = (d, 0)) (hm : mayCk d) (hp : d.seq % 2 = 1) (ho : Less o d.seq) : chooseK o b = (d, 0) := by
  have h1 := less_first ho (by have := hm.1; omega) 0
  have e : bestK o b 2 = d := by show pickK (pickK ck0 0 o) 1 b = _; exact pick_own hd ((if_pos hm).trans hp) h1
  rw [chooseK_of (by rw [e]; have := hm.1; omega), e]
theorem contK_less {c : Ck} (h : c.map.length = 4 ∧ c.used.length = 8) (hs : ∀ p ∈ c.map, p.2 < 4294967296) {i : Nat} (hm : ∀ j, j < i → mayCk (stepK c j)) {p : Int} (hp : p = 0 ∨ p = 1) (hq : ¬ (stepK c i).seq % 2 = p) : Less (contK c i p) (stepK c i).seq := by
  match i with
  | 0 => exact .inl rfl
  | i + 1 =>
    rw [contK_new (by rw [stepK_seq] at hq ⊢; omega)]
    exact .inr ⟨stepK c i, decK_enc h.1 h.2 (hm i (by omega)) hs, by rw [stepK_seq, stepK_seq]; omega⟩
/-- the last one is chosen -/
theorem two_last {c : Ck} (h : c.map.length = 4 ∧ c.used.length = 8) (hs : ∀ p ∈ c.map, p.2 < 4294967296) {i : Nat} (hm : ∀ j, j < i + 1 → mayCk (stepK c j)) : chooseK (contK c (i + 1) 0) (contK c (i + 1) 1) = (stepK c i, 0) := by
  have hd := decK_enc (c := stepK c i) h.1 h.2 (hm i (by omega)) hs
  by_cases h0 : (stepK c i).seq % 2 = 0
  · rw [contK_new h0, contK_old (p := 1) (by omega) (.inr rfl)]
    exact choose_even hd (hm i (by omega)) h0 (contK_less h hs (fun j hj => hm j (by omega)) (.inr rfl) (by omega))
  · have h1 : (stepK c i).seq % 2 = 1 := by omega
    rw [contK_new h1, contK_old (p := 0) (by omega) (.inl rfl)]
    exact choose_odd hd (hm i (by omega)) h1 (contK_less h hs (fun j hj => hm j (by omega)) (.inl rfl) (by omega))
/-- where the last one's place is spoilt: the one ahead of it -/
def spoilt (c : Ck) (n : Nat) (p : Int) : List UInt8 := if (stepK c (n - 1)).seq % 2 = p then zerosK else contK c n p
theorem two_spoilt_one {c : Ck} : chooseK (spoilt c 1 0) (spoilt c 1 1) = (ck0, 6) := by
  have e : ∀ p, (p = 0 ∨ p = 1) → spoilt c 1 p = zerosK := by
    intro p hp; unfold spoilt
    by_cases h : (stepK c (1 - 1)).seq % 2 = p
    · rw [if_pos h]
    · rw [if_neg h]; show (if (stepK c 0).seq % 2 = p then _ else _) = _; rw [if_neg h]
  rw [e 0 (.inl rfl), e 1 (.inr rfl)]
  exact aw_choose
theorem two_spoilt {c : Ck} (h : c.map.length = 4 ∧ c.used.length = 8) (hs : ∀ p ∈ c.map, p.2 < 4294967296) {i : Nat} (hm : ∀ j, j < i + 2 → mayCk (stepK c j)) : chooseK (spoilt c (i + 2) 0) (spoilt c (i + 2) 1) = (stepK c i, 0) := by
  have hd := decK_enc (c := stepK c i) h.1 h.2 (hm i (by omega)) hs
  have hq : (stepK c (i + 1)).seq = (stepK c i).seq + 1 := by rw [stepK_seq, stepK_seq]; omega
  unfold spoilt
  rw [show i + 2 - 1 = i + 1 from rfl]
  by_cases h0 : (stepK c i).seq % 2 = 0
  · rw [if_neg (by omega), if_pos (by omega), contK_old (i := i + 1) (p := 0) (by omega) (.inl rfl), contK_new h0]
    exact choose_even hd (hm i (by omega)) h0 (.inl rfl)
  · rw [if_pos (by omega), if_neg (by omega), contK_old (i := i + 1) (p := 1) (by omega) (.inr rfl), contK_new (by omega)]
    exact choose_odd hd (hm i (by omega)) (by omega) (.inl rfl)
theorem spoilt_len {c : Ck} (h : c.map.length = 4 ∧ c.used.length = 8) (n : Nat) (p : Int) : (spoilt c n p).length = 128 := by
  unfold spoilt
  by_cases hp : (stepK c (n - 1)).seq % 2 = p
  · rw [if_pos hp]; unfold zerosK; rw [List.length_replicate]
  · rw [if_neg hp]; exact contK_len h n p
end Go.Proofs.Ytboccjdliklifaa
