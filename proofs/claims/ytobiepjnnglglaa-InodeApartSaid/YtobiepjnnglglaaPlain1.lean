/- Plain law of layer 1: numbers written and read by their octets. No condition. -/
import Derived.IntWalk
import Derived.Test.YtobiepjnnglglaaPlain0
import Derived.Laws.Bits64
import Derived.Laws.BitsAllLaws
namespace Go.Proofs.Ytobiepjnnglglaa
/-- the number that octets stand for, the most significant one first -/
def beN (bs : List UInt8) : Nat := bs.foldl (fun v c => v * 256 + c.toNat) 0
theorem beN_snoc (bs : List UInt8) (c : UInt8) : beN (bs ++ [c]) = beN bs * 256 + c.toNat := by simp [beN]
theorem beN_go (bs : List UInt8) : ∀ v : Nat, bs.foldl (fun v c => v * 256 + c.toNat) v < (v + 1) * 256 ^ bs.length := by
  induction bs with
  | nil => intro v; simp
  | cons c bs ih =>
    intro v
    have h := ih (v * 256 + c.toNat)
    have hc := c.toNat_lt
    rw [List.foldl_cons, List.length_cons, Nat.pow_succ]
    refine Nat.lt_of_lt_of_le h ?_
    rw [Nat.mul_comm (256 ^ bs.length) 256, ← Nat.mul_assoc]
    exact Nat.mul_le_mul_right _ (by omega)
theorem beN_lt (bs : List UInt8) : beN bs < 256 ^ bs.length := by simpa [beN] using beN_go bs 0
theorem beN_take_lt (bs : List UInt8) (k : Nat) (h : k ≤ 7) : beN (bs.take k) < 72057594037927936 := by
  refine Nat.lt_of_lt_of_le (beN_lt _) ?_
  have hl : (bs.take k).length ≤ 7 := by rw [List.length_take]; omega
  exact Nat.le_trans (Nat.pow_le_pow_right (by omega) hl) (by decide)
theorem beN_step (bs : List UInt8) (k : Nat) (c : UInt8) (hc : bs[k]? = some c) (h : k ≤ 7) :
    IntKind.u64.wrap (IntKind.u64.wrap ((beN (bs.take k) : Nat) * 256 : Int) + IntKind.u64.wrap (c.toNat : Int)) = ((beN (bs.take (k + 1)) : Nat) : Int) := by
  have h1 := beN_take_lt bs k h
  have h2 := c.toNat_lt
  rw [take_snoc_of hc, beN_snoc, IntKind.wrap_u64, IntKind.wrap_u64, IntKind.wrap_u64]
  omega
theorem or_byte (a b : Nat) (hb : b < 256) : a * 256 ||| b = a * 256 + b := by
  have h := Nat.shiftLeft_add_eq_or_of_lt (i := 8) (b := b) (by simpa using hb) a
  rw [Nat.shiftLeft_eq] at h
  exact h.symm
theorem beN_step_or (bs : List UInt8) (k : Nat) (c : UInt8) (hc : bs[k]? = some c) (h : k ≤ 7) :
    bits .or .u64 (IntKind.u64.wrap ((beN (bs.take k) : Nat) * 256 : Int)) (IntKind.u64.wrap (c.toNat : Int)) = ((beN (bs.take (k + 1)) : Nat) : Int) := by
  have h1 := beN_take_lt bs k h
  have h2 : c.toNat < 256 := c.toNat_lt
  have e1 : IntKind.u64.wrap ((beN (bs.take k) : Nat) * 256 : Int) = ((beN (bs.take k) * 256 : Nat) : Int) := by rw [IntKind.wrap_u64]; omega
  have e2 : IntKind.u64.wrap (c.toNat : Int) = ((c.toNat : Nat) : Int) := by rw [IntKind.wrap_u64]; omega
  rw [e1, e2, u64_or_nat _ _ (by omega) (by omega), or_byte _ _ h2, take_snoc_of hc, beN_snoc]

/-- may these widths be? -/
def okW (ws : List Int) : Bool := ws.all fun x => decide (1 ≤ x) && decide (x ≤ 8)
def sumW (ws : List Int) : Nat := (ws.map Int.toNat).sum
def nums : List UInt8 → List Int → List Nat
  | _, [] => []
  | bs, x :: ws => beN (bs.take x.toNat) :: nums (bs.drop x.toNat) ws
/-- what Unpack answers: the error's number, the numbers -/
def unpackR (bs : List UInt8) (ws : List Int) : Int × List Nat :=
  if okW ws then (if sumW ws ≤ bs.length then (0, nums bs ws) else (2, [])) else (1, [])
theorem okW_iff (ws : List Int) : okW ws = true ↔ ∀ x ∈ ws, 1 ≤ x ∧ x ≤ 8 := by simp [okW]
theorem sumW_snoc (ws : List Int) (x : Int) : sumW (ws ++ [x]) = sumW ws + x.toNat := by simp [sumW]
theorem sumW_take_succ (ws : List Int) (k : Nat) (x : Int) (h : ws[k]? = some x) : sumW (ws.take (k + 1)) = sumW (ws.take k) + x.toNat := by
  rw [take_snoc_of h, sumW_snoc]
theorem sumW_append (a b : List Int) : sumW (a ++ b) = sumW a + sumW b := by simp [sumW]
theorem sumW_take_le (ws : List Int) (k : Nat) : sumW (ws.take k) ≤ sumW ws := by
  have h : ws.take k ++ ws.drop k = ws := List.take_append_drop k ws
  have h2 := sumW_append (ws.take k) (ws.drop k)
  rw [h] at h2; omega
theorem sumW_le (ws : List Int) (h : okW ws = true) : sumW ws ≤ 8 * ws.length := by
  rw [okW_iff] at h
  induction ws with
  | nil => simp [sumW]
  | cons x ws ih =>
    have h1 := h x (by simp)
    have h2 := ih fun y hy => h y (by simp [hy])
    have h3 : sumW (x :: ws) = x.toNat + sumW ws := by simp [sumW]
    rw [h3, List.length_cons]; omega
theorem okW_take (ws : List Int) (k : Nat) (h : okW ws = true) : okW (ws.take k) = true := by
  rw [okW_iff] at *; exact fun x hx => h x (List.mem_of_mem_take hx)
theorem okW_snoc (ws : List Int) (k : Nat) (x : Int) (h : okW (ws.take k) = true) (hx : ws[k]? = some x) (h1 : 1 ≤ x) (h8 : x ≤ 8) : okW (ws.take (k + 1)) = true := by
  rw [take_snoc_of hx]; simp [okW] at *; exact ⟨h, h1, h8⟩
theorem okW_not (ws : List Int) (k : Nat) (x : Int) (hx : ws[k]? = some x) (h : x < 1 ∨ 8 < x) : okW ws = false := by
  rw [← Bool.not_eq_true, okW_iff]; intro hh
  have := hh x (List.mem_of_getElem? hx); omega
theorem nums_snoc (ws : List Int) (x : Int) : ∀ bs : List UInt8, nums bs (ws ++ [x]) = nums bs ws ++ [beN ((bs.drop (sumW ws)).take x.toNat)] := by
  induction ws with
  | nil => intro bs; simp [nums, sumW]
  | cons y ws ih =>
    intro bs
    have h3 : sumW (y :: ws) = y.toNat + sumW ws := by simp [sumW]
    simp [nums, ih, h3]
theorem nums_take_succ (bs : List UInt8) (ws : List Int) (k : Nat) (x : Int) (h : ws[k]? = some x) :
    nums bs (ws.take (k + 1)) = nums bs (ws.take k) ++ [beN ((bs.drop (sumW (ws.take k))).take x.toNat)] := by
  rw [take_snoc_of h, nums_snoc]
theorem nums_length (ws : List Int) : ∀ bs : List UInt8, (nums bs ws).length = ws.length := by
  induction ws with
  | nil => intro bs; rfl
  | cons y ws ih => intro bs; simp [nums, ih]
theorem unpackR_length_le (bs : List UInt8) (ws : List Int) : (unpackR bs ws).2.length ≤ ws.length := by
  unfold unpackR
  split
  · split
    · simp only [nums_length]; exact Nat.le_refl _
    · simp
  · simp
theorem nums_get (ws : List Int) : ∀ (bs : List UInt8) (i : Nat) (x : Int), ws[i]? = some x → (nums bs ws)[i]? = some (beN ((bs.drop (sumW (ws.take i))).take x.toNat)) := by
  induction ws with
  | nil => intro bs i x h; simp at h
  | cons y ws ih =>
    intro bs i x h
    cases i with
    | zero => simp at h; subst h; simp [nums, sumW]
    | succ i =>
      have := ih (bs.drop y.toNat) i x (by simpa using h)
      simp only [nums, List.getElem?_cons_succ, List.take_succ_cons]
      rw [this, List.drop_drop]
      simp [sumW]
theorem unpackR_cases (bs : List UInt8) (ws : List Int) : ((unpackR bs ws = (1, []) ∨ unpackR bs ws = (2, [])) ∨ (okW ws = true ∧ sumW ws ≤ bs.length ∧ unpackR bs ws = (0, nums bs ws))) := by
  unfold unpackR
  by_cases h : okW ws = true
  · by_cases h2 : sumW ws ≤ bs.length
    · exact .inr ⟨h, h2, by rw [if_pos h, if_pos h2]⟩
    · exact .inl (.inr (by rw [if_pos h, if_neg h2]))
  · exact .inl (.inl (by rw [if_neg h]))
theorem unpackR_one (bs : List UInt8) (x : Nat) (h1 : 1 ≤ x) (h8 : x ≤ 8) (hl : x ≤ bs.length) : unpackR bs [(x : Int)] = (0, [beN (bs.take x)]) := by
  have h : okW [(x : Int)] = true := by simp [okW]; omega
  rw [unpackR, if_pos h, if_pos (by simpa [sumW] using hl)]
  simp [nums]
theorem unpackR_short (bs : List UInt8) (ws : List Int) (h : okW ws = true) (hl : bs.length < sumW ws) : unpackR bs ws = (2, []) := by
  rw [unpackR, if_pos h, if_neg (by omega)]
theorem sumW_zero (ws : List Int) (h : okW ws = true) (h0 : sumW ws = 0) : ws = [] := by
  cases ws with
  | nil => rfl
  | cons x ws =>
    have := ((okW_iff _).1 h x (by simp)).1
    have h3 : sumW (x :: ws) = x.toNat + sumW ws := by simp [sumW]
    omega

/-- a number's octets, the most significant one first -/
def octs (v w : Nat) : List UInt8 := (List.range w).map fun i => UInt8.ofNat (v / 2 ^ (8 * (w - 1 - i)))
/-- the record of numbers, of widths that may be -/
def packB (l : List (Int × Nat)) : List UInt8 := l.flatMap fun x => octs x.2 x.1.toNat
/-- what Pack answers: the error's number, the record -/
def packE : List (Int × Nat) → Int
  | [] => 0
  | x :: l => if x.1 < 1 ∨ 8 < x.1 then 1 else if x.1 < 8 ∧ x.2 / 2 ^ (8 * x.1.toNat) ≠ 0 then 19 else packE l
def packR (l : List (Int × Nat)) : Int × List UInt8 := if packE l = 0 then (0, packB l) else (packE l, [])
theorem octs_length (v w : Nat) : (octs v w).length = w := by simp [octs]
theorem octs_get (v w i : Nat) (h : i < w) : (octs v w)[i]? = some (UInt8.ofNat (v / 2 ^ (8 * (w - 1 - i)))) := by simp [octs, h]
theorem packB_snoc (l : List (Int × Nat)) (x : Int × Nat) : packB (l ++ [x]) = packB l ++ octs x.2 x.1.toNat := by simp [packB]
theorem packB_append (l m : List (Int × Nat)) : packB (l ++ m) = packB l ++ packB m := by simp [packB]
theorem packB_take_succ (l : List (Int × Nat)) (k : Nat) (x : Int × Nat) (h : l[k]? = some x) : packB (l.take (k + 1)) = packB (l.take k) ++ octs x.2 x.1.toNat := by
  rw [take_snoc_of h, packB_snoc]
theorem packE_append (l m : List (Int × Nat)) (h : packE l = 0) : packE (l ++ m) = packE m := by
  induction l with
  | nil => rfl
  | cons x l ih =>
    rw [List.cons_append, packE]
    unfold packE at h
    split at h
    · omega
    · split at h
      · omega
      · rename_i h1 h2
        rw [if_neg h1, if_neg h2]; exact ih h
theorem packE_at (l : List (Int × Nat)) (k : Nat) (x : Int × Nat) (h : packE (l.take k) = 0) (hx : l[k]? = some x) : packE l = packE (x :: l.drop (k + 1)) := by
  have hk : k < l.length := by
    rcases Nat.lt_or_ge k l.length with h' | h'
    · exact h'
    · rw [List.getElem?_eq_none h'] at hx; cases hx
  have e : l = l.take k ++ (x :: l.drop (k + 1)) := by
    have := List.take_append_drop k l
    rw [List.drop_eq_getElem_cons hk] at this
    rw [List.getElem?_eq_getElem hk] at hx
    simp only [Option.some.injEq] at hx
    rw [hx] at this
    exact this.symm
  calc packE l = packE (l.take k ++ (x :: l.drop (k + 1))) := by rw [← e]
    _ = _ := packE_append _ _ h
theorem packE_bad (l : List (Int × Nat)) (k : Nat) (x : Int) (v : Nat) (h : packE (l.take k) = 0) (hx : l[k]? = some (x, v)) (hb : x < 1 ∨ 8 < x) : packR l = (1, []) := by
  have h1 : packE l = 1 := by rw [packE_at l k _ h hx, packE, if_pos hb]
  rw [packR, h1, if_neg (by decide)]
theorem packE_over (l : List (Int × Nat)) (k x v : Nat) (h : packE (l.take k) = 0) (hx : l[k]? = some ((x : Int), v)) (h1 : 1 ≤ x) (h8 : x < 8) (hv : v / 2 ^ (8 * x) ≠ 0) : packR l = (19, []) := by
  have h1 : packE l = 19 := by
    rw [packE_at l k _ h hx, packE, if_neg (by simp only; omega), if_pos ⟨by simp only; omega, by simpa using hv⟩]
  rw [packR, h1, if_neg (by decide)]
theorem packE_next (l : List (Int × Nat)) (k x v : Nat) (h : packE (l.take k) = 0) (hx : l[k]? = some ((x : Int), v)) (h1 : 1 ≤ x) (h8 : x ≤ 8) (hv : ¬(x < 8 ∧ v / 2 ^ (8 * x) ≠ 0)) : packE (l.take (k + 1)) = 0 := by
  rw [take_snoc_of hx, packE_append _ _ h, packE, if_neg (by simp only; omega), if_neg]
  · rfl
  · simp only [Int.toNat_natCast]; omega
theorem packB_length_le (l : List (Int × Nat)) (h : packE l = 0) : (packB l).length ≤ 8 * l.length := by
  induction l with
  | nil => simp [packB]
  | cons x l ih =>
    unfold packE at h
    split at h
    · omega
    · split at h
      · omega
      · have := ih h
        have e : packB (x :: l) = octs x.2 x.1.toNat ++ packB l := by simp [packB]
        rw [e, List.length_append, octs_length, List.length_cons]
        omega
theorem packR_ok (l : List (Int × Nat)) (h : packE l = 0) : packR l = (0, packB l) := by rw [packR, if_pos h]
theorem packE_append_bad (l m : List (Int × Nat)) (h : packE l ≠ 0) : packE (l ++ m) = packE l := by
  induction l with
  | nil => exact absurd rfl h
  | cons x l ih =>
    rw [List.cons_append, packE, packE]
    unfold packE at h
    split
    · rfl
    · rename_i h1
      rw [if_neg h1] at h
      split
      · rfl
      · rename_i h2
        rw [if_neg h2] at h
        exact ih h
theorem packR_bad (l : List (Int × Nat)) (h : packE l ≠ 0) : packR l = (packE l, []) := by rw [packR, if_neg h]
theorem packR_8 (v : Nat) : packR [(8, v)] = (0, octs v 8) := by
  have h : packE [(8, v)] = 0 := by simp [packE]
  rw [packR_ok _ h]
  simp [packB]
theorem octs_succ (v n : Nat) : octs v (n + 1) = UInt8.ofNat (v / 2 ^ (8 * n)) :: octs v n := by
  simp only [octs, List.range_succ_eq_map, List.map_cons, List.map_map]
  congr 1
  apply List.map_congr_left
  intro i _
  simp only [Function.comp]
  have e : n + 1 - 1 - (i + 1) = n - 1 - i := by omega
  rw [e]
theorem bytesLess_octs (v w : Nat) : ∀ n, Op.bytesLess (octs v n) (octs w n) = decide (v % 2 ^ (8 * n) < w % 2 ^ (8 * n))
  | 0 => by simp [octs, Op.bytesLess, Nat.mod_one]
  | n + 1 => by
    rw [octs_succ, octs_succ, Op.bytesLess, bytesLess_octs v w n]
    have e : 2 ^ (8 * (n + 1)) = 2 ^ (8 * n) * 256 := by rw [Nat.mul_add, Nat.pow_add]
    rw [e, Nat.mod_mul, Nat.mod_mul]
    have hp : 0 < 2 ^ (8 * n) := Nat.pow_pos (by decide)
    generalize 2 ^ (8 * n) = m at hp
    have h1 := Nat.mod_lt v hp
    have h2 := Nat.mod_lt w hp
    have hlt : (UInt8.ofNat (v / m) < UInt8.ofNat (w / m)) = (v / m % 256 < w / m % 256) := by
      rw [UInt8.lt_iff_toNat_lt]; simp
    have heq : (UInt8.ofNat (v / m) == UInt8.ofNat (w / m)) = decide (v / m % 256 = w / m % 256) := by
      rw [Bool.eq_iff_iff]; simp [← UInt8.toNat_inj]
    rw [heq]
    simp only [hlt]
    generalize v / m % 256 = a
    generalize w / m % 256 = b
    generalize v % m = c at *
    generalize w % m = d at *
    rw [Bool.eq_iff_iff]
    simp only [Bool.or_eq_true, Bool.and_eq_true, decide_eq_true_eq]
    constructor
    · rintro (h | ⟨rfl, h⟩)
      · have : m * (a + 1) ≤ m * b := Nat.mul_le_mul_left m h
        rw [Nat.mul_succ] at this
        omega
      · omega
    · intro h
      rcases Nat.lt_trichotomy a b with h3 | h3 | h3
      · exact .inl h3
      · subst h3; exact .inr ⟨rfl, by omega⟩
      · exfalso
        have : m * (b + 1) ≤ m * a := Nat.mul_le_mul_left m h3
        rw [Nat.mul_succ] at this
        omega
theorem bytesLess_8 (v w : Nat) (hv : v < 18446744073709551616) (hw : w < 18446744073709551616) : Op.bytesLess (octs v 8) (octs w 8) = decide (v < w) := by
  rw [bytesLess_octs, Nat.mod_eq_of_lt (by simpa using hv), Nat.mod_eq_of_lt (by simpa using hw)]
theorem joins_cases (a b : List (Int × Nat)) (e1 e2 e3 : Int) (x1 x2 x3 : List UInt8) (h1 : packR a = (e1, x1)) (h2 : packR b = (e2, x2)) (h3 : packR (a ++ b) = (e3, x3)) :
    (e1 = 0 ∧ e2 = 0 ∧ e3 = 0 ∧ x3 = x1 ++ x2) ∨ (e1 ≠ 0 ∧ e3 ≠ 0) ∨ (e1 = 0 ∧ e2 ≠ 0 ∧ e3 ≠ 0) := by
  by_cases ha : packE a = 0
  · rw [packR_ok a ha] at h1
    injection h1 with h1 h1'
    subst h1; subst h1'
    by_cases hb : packE b = 0
    · rw [packR_ok b hb] at h2
      rw [packR_ok _ ((packE_append a b ha).trans hb), packB_append] at h3
      injection h2 with h2 h2'
      injection h3 with h3 h3'
      exact .inl ⟨rfl, h2.symm, h3.symm, by rw [← h3', h2']⟩
    · have hab : packE (a ++ b) ≠ 0 := by rw [packE_append a b ha]; exact hb
      rw [packR_bad b hb] at h2
      rw [packR_bad _ hab] at h3
      injection h2 with h2 _
      injection h3 with h3 _
      exact .inr (.inr ⟨rfl, by rw [← h2]; exact hb, by rw [← h3]; exact hab⟩)
  · have hab : packE (a ++ b) ≠ 0 := by rw [packE_append_bad a b ha]; exact ha
    rw [packR_bad a ha] at h1
    rw [packR_bad _ hab] at h3
    injection h1 with h1 _
    injection h3 with h3 _
    exact .inr (.inl ⟨by rw [← h1]; exact ha, by rw [← h3]; exact hab⟩)
theorem packR_length_le (l : List (Int × Nat)) : (packR l).2.length ≤ 8 * l.length := by
  unfold packR
  split
  · rename_i h; exact packB_length_le l h
  · simp
theorem packR_length_le' {l : List (Int × Nat)} {e : Int} {x : List UInt8} (h : packR l = (e, x)) : x.length ≤ 8 * l.length := by
  have := packR_length_le l
  rw [h] at this; exact this
end Go.Proofs.Ytobiepjnnglglaa
