/- Plain law of layer 2: up to 32 bits beside one another, turned over, are found. No condition. -/
import Derived.Test.YtkgbgiiopebadaaPlain2
namespace Go.Proofs.Ytkgbgiiopebadaa
/-- a word of 64 bits behind steps -/
abbrev W64 := BitVec 64
def poly64 : W64 := 0x82f63b78#64
def t1 (w : W64) : W64 := (w >>> 1) ^^^ (if w.getLsbD 0 then poly64 else 0#64)
def tN : Nat → W64 → W64
  | 0, w => w
  | n + 1, w => tN n (t1 w)
theorem t1_xor (a b : W64) : t1 (a ^^^ b) = t1 a ^^^ t1 b := by
  unfold t1
  rw [BitVec.ushiftRight_xor_distrib, BitVec.getLsbD_xor]
  cases a.getLsbD 0 <;> cases b.getLsbD 0 <;> simp <;> apply BitVec.eq_of_getLsbD_eq <;> intro i hi <;> simp only [BitVec.getLsbD_xor] <;> cases (a >>> 1).getLsbD i <;> cases (b >>> 1).getLsbD i <;> cases poly64.getLsbD i <;> rfl
theorem tN_xor : ∀ (n : Nat) (a b : W64), tN n (a ^^^ b) = tN n a ^^^ tN n b
  | 0, _, _ => rfl
  | n + 1, a, b => by rw [tN, t1_xor, tN_xor n]; rfl
theorem tN_add : ∀ (m n : Nat) (w : W64), tN (m + n) w = tN n (tN m w)
  | 0, n, w => by rw [Nat.zero_add]; rfl
  | m + 1, n, w => by rw [Nat.succ_add, tN, tN_add m n]; rfl
theorem tN_low : ∀ (n : Nat) (w : W64), (∀ i, i < n → w.getLsbD i = false) → tN n w = w >>> n
  | 0, w, _ => by simp [tN]
  | n + 1, w, h => by
    have h0 := h 0 (by omega)
    have e : t1 w = w >>> 1 := by unfold t1; rw [h0]; simp
    rw [tN, e, tN_low n]
    · rw [← BitVec.shiftRight_add, Nat.add_comm]
    · intro i hi
      rw [BitVec.getLsbD_ushiftRight]
      exact h _ (by omega)
theorem ext_xor (a b : W32) : (a ^^^ b).setWidth 64 = a.setWidth 64 ^^^ b.setWidth 64 := BitVec.setWidth_xor
theorem ext_step (a : W32) : (step1 a).setWidth 64 = t1 (a.setWidth 64) := by
  unfold step1 t1
  rw [ext_xor]
  have e1 : (a >>> 1).setWidth 64 = (a.setWidth 64) >>> 1 := by
    apply BitVec.eq_of_toNat_eq
    have := a.isLt
    simp [BitVec.toNat_ushiftRight, Nat.shiftRight_eq_div_pow]
  have e2 : (a.setWidth 64).getLsbD 0 = a.getLsbD 0 := by simp
  rw [e1, e2]
  cases a.getLsbD 0 <;> rfl
theorem ext_steps : ∀ (n : Nat) (a : W32), (stepN n a).setWidth 64 = tN n (a.setWidth 64)
  | 0, _ => rfl
  | n + 1, a => by rw [stepN, tN, ext_steps n, ext_step]
/-- octets as one word, the least significant one first -/
def pw : List UInt8 → W64
  | [] => 0#64
  | c :: cs => BitVec.ofNat 64 c.toNat ^^^ (pw cs <<< 8)
theorem pw_lt : ∀ cs : List UInt8, cs.length ≤ 8 → (pw cs).toNat < 2 ^ (8 * cs.length)
  | [], _ => by simp [pw]
  | c :: cs, h => by
    have ih := pw_lt cs (by simp at h; omega)
    have hc := c.toNat_lt
    simp only [List.length_cons] at h ⊢
    rw [pw, BitVec.toNat_xor]
    have e : 8 * (cs.length + 1) = 8 + 8 * cs.length := by omega
    refine Nat.xor_lt_two_pow ?_ ?_
    · rw [BitVec.toNat_ofNat, e, Nat.pow_add]
      have : 1 ≤ 2 ^ (8 * cs.length) := Nat.pow_pos (by decide)
      have h2 : c.toNat % 2 ^ 64 ≤ c.toNat := Nat.mod_le _ _
      have h3 : 2 ^ 8 * 1 ≤ 2 ^ 8 * 2 ^ (8 * cs.length) := Nat.mul_le_mul_left _ this
      omega
    · rw [BitVec.toNat_shiftLeft, Nat.shiftLeft_eq]
      refine Nat.lt_of_le_of_lt (Nat.mod_le _ _) ?_
      rw [e, Nat.pow_add, Nat.mul_comm]
      exact Nat.mul_lt_mul_of_pos_left ih (by decide)
theorem shift_back (x : W64) (h : x.toNat < 2 ^ 56) : tN 8 (x <<< 8) = x := by
  rw [tN_low]
  · apply BitVec.eq_of_toNat_eq
    rw [BitVec.toNat_ushiftRight, BitVec.toNat_shiftLeft, Nat.shiftLeft_eq, Nat.shiftRight_eq_div_pow]
    omega
  · intro i hi
    simp
    try omega
theorem ext_ofNat (c : UInt8) : (BitVec.ofNat 32 c.toNat : W32).setWidth 64 = BitVec.ofNat 64 c.toNat := by
  apply BitVec.eq_of_toNat_eq
  have := c.toNat_lt
  simp
theorem regW_pw : ∀ (cs : List UInt8) (s : W32), cs.length ≤ 8 → tN (8 * cs.length) (s.setWidth 64 ^^^ pw cs) = (regW s cs).setWidth 64
  | [], s, _ => by simp [pw, tN, regW]
  | c :: cs, s, h => by
    simp only [List.length_cons] at h ⊢
    have hl := pw_lt cs (by omega)
    have h56 : (pw cs).toNat < 2 ^ 56 := Nat.lt_of_lt_of_le hl (Nat.pow_le_pow_right (by decide) (by omega))
    rw [show 8 * (cs.length + 1) = 8 + 8 * cs.length by omega, tN_add, pw, ← BitVec.xor_assoc, tN_xor, shift_back _ h56, ← ext_ofNat, ← ext_xor, ← ext_steps, regW_pw cs _ (by omega)]
    rfl
theorem xor_add (a b : Nat) (ha : a < 256) : a ^^^ (b * 256) = b * 256 + a := by
  apply Nat.eq_of_testBit_eq
  intro i
  have e1 : b * 256 = 2 ^ 8 * b := by omega
  rw [e1, Nat.testBit_xor, Nat.testBit_two_pow_mul_add _ (by simpa using ha), Nat.testBit_two_pow_mul]
  by_cases hi : i < 8
  · rw [if_pos hi, decide_eq_false (by omega)]; simp
  · rw [if_neg hi, decide_eq_true (by omega)]
    have : a.testBit i = false := Nat.testBit_lt_two_pow (Nat.lt_of_lt_of_le ha (show 256 ≤ 2 ^ i from Nat.le_trans (by decide : 256 ≤ 2 ^ 8) (Nat.pow_le_pow_right (by decide) (by omega))))
    rw [this]; simp
def leN (v n : Nat) : List UInt8 := (List.range n).map fun j => UInt8.ofNat (v / 2 ^ (8 * j))
theorem leN_succ (v n : Nat) : leN v (n + 1) = UInt8.ofNat v :: leN (v / 256) n := by
  simp only [leN, List.range_succ_eq_map, List.map_cons, List.map_map]
  refine congr (congrArg _ (by simp)) ?_
  apply List.map_congr_left
  intro j _
  simp only [Function.comp]
  rw [show 8 * (j + 1) = 8 + 8 * j by omega, Nat.pow_add, Nat.div_div_eq_div_mul]
theorem pw_leN : ∀ (n v : Nat), n ≤ 8 → pw (leN v n) = BitVec.ofNat 64 (v % 2 ^ (8 * n))
  | 0, v, _ => by simp [leN, pw, Nat.mod_one]
  | n + 1, v, h => by
    rw [leN_succ, pw, pw_leN n _ (by omega)]
    apply BitVec.eq_of_toNat_eq
    have h1 : v / 256 % 2 ^ (8 * n) < 2 ^ 56 := Nat.lt_of_lt_of_le (Nat.mod_lt _ (Nat.pow_pos (by decide))) (Nat.pow_le_pow_right (by decide) (by omega))
    have hm : v % 2 ^ (8 * (n + 1)) = v % 256 + 256 * (v / 256 % 2 ^ (8 * n)) := by
      rw [show 8 * (n + 1) = 8 + 8 * n by omega, Nat.pow_add]
      exact Nat.mod_mul
    rw [hm, BitVec.toNat_xor, BitVec.toNat_shiftLeft, BitVec.toNat_ofNat, BitVec.toNat_ofNat, BitVec.toNat_ofNat, UInt8.toNat_ofNat', Nat.shiftLeft_eq]
    have hr : v % 256 < 256 := Nat.mod_lt _ (by decide)
    generalize v / 256 % 2 ^ (8 * n) = q at h1
    have e1 : v % 2 ^ 8 % 2 ^ 64 = v % 256 := by omega
    have e2 : q % 2 ^ 64 * 2 ^ 8 % 2 ^ 64 = q * 256 := by omega
    rw [e1, e2, xor_add _ _ hr]
    omega
theorem ofNat_ext {t : Nat} (h : t < 2 ^ 32) : BitVec.ofNat 64 t = (BitVec.ofNat 32 t : W32).setWidth 64 := by
  apply BitVec.eq_of_toNat_eq
  simp
  omega
/-- the octets of a word of 32 bits that stands s bits on, into a register of noughts -/
theorem regW_turn (t s n : Nat) (ht : t < 2 ^ 32) (hn : n ≤ 8) (hs : 32 + s ≤ 8 * n) : regW 0#32 (leN (t * 2 ^ s) n) = stepN (8 * n - s) (BitVec.ofNat 32 t) := by
  have hlt : t * 2 ^ s < 2 ^ (8 * n) := by
    refine Nat.lt_of_lt_of_le (Nat.mul_lt_mul_of_pos_right ht (Nat.pow_pos (by decide))) ?_
    rw [← Nat.pow_add]; exact Nat.pow_le_pow_right (by decide) hs
  have hl : (leN (t * 2 ^ s) n).length = n := by simp [leN]
  have h := regW_pw (leN (t * 2 ^ s) n) 0#32 (by omega)
  rw [hl, pw_leN n _ hn, Nat.mod_eq_of_lt hlt] at h
  have h64 : t * 2 ^ s < 2 ^ 64 := Nat.lt_of_lt_of_le hlt (Nat.pow_le_pow_right (by decide) (by omega))
  have e0 : (0#32 : W32).setWidth 64 ^^^ BitVec.ofNat 64 (t * 2 ^ s) = BitVec.ofNat 64 t <<< s := by
    apply BitVec.eq_of_toNat_eq
    rw [BitVec.toNat_shiftLeft, BitVec.toNat_ofNat, Nat.shiftLeft_eq]
    simp
  have e1 : tN s (BitVec.ofNat 64 t <<< s) = BitVec.ofNat 64 t := by
    rw [tN_low]
    · apply BitVec.eq_of_toNat_eq
      rw [BitVec.toNat_ushiftRight, BitVec.toNat_shiftLeft, BitVec.toNat_ofNat, Nat.shiftLeft_eq, Nat.shiftRight_eq_div_pow]
      rw [Nat.mod_eq_of_lt (show t < 2 ^ 64 by omega), Nat.mod_eq_of_lt h64, Nat.mul_div_cancel _ (Nat.pow_pos (by decide))]
    · intro i hi
      simp; omega
  rw [e0, show 8 * n = s + (8 * n - s) by omega, tN_add, e1, ofNat_ext ht, ← ext_steps] at h
  have hinj : ∀ a b : W32, a.setWidth 64 = b.setWidth 64 → a = b := by
    intro a b hab
    apply BitVec.eq_of_toNat_eq
    have := congrArg BitVec.toNat hab
    have ha := a.isLt
    have hb := b.isLt
    simp at this
    omega
  have := hinj _ _ h
  exact this.symm
theorem step1_inj (w : W32) (h : step1 w = 0#32) : w = 0#32 := by
  unfold step1 at h
  have h31 := congrArg (fun x : W32 => x.getLsbD 31) h
  simp only [BitVec.getLsbD_xor, BitVec.getLsbD_ushiftRight] at h31
  rw [BitVec.getLsbD_of_ge w (1 + 31) (by omega)] at h31
  cases h0 : w.getLsbD 0
  · rw [h0] at h
    simp only [Bool.false_eq_true, if_false, BitVec.xor_zero] at h
    apply BitVec.eq_of_getLsbD_eq
    intro i hi
    cases i with
    | zero => rw [h0]; simp
    | succ i =>
      have := congrArg (fun x : W32 => x.getLsbD i) h
      simp only [BitVec.getLsbD_ushiftRight] at this
      rw [Nat.add_comm] at this
      rw [this]; simp
  · rw [h0] at h31
    have hp : (if true = true then poly else 0#32).getLsbD 31 = true := by decide
    rw [hp] at h31
    simp at h31
theorem stepN_inj : ∀ (n : Nat) (w : W32), stepN n w = 0#32 → w = 0#32
  | 0, _, h => h
  | n + 1, w, h => step1_inj w (stepN_inj n _ h)
theorem ofNat_xor8 (x y : UInt8) : (BitVec.ofNat 32 (x ^^^ y).toNat : W32) = BitVec.ofNat 32 x.toNat ^^^ BitVec.ofNat 32 y.toNat := by
  apply BitVec.eq_of_toNat_eq
  rw [BitVec.toNat_xor, BitVec.toNat_ofNat, BitVec.toNat_ofNat, BitVec.toNat_ofNat, UInt8.toNat_xor, Nat.xor_mod_two_pow]
theorem byteW_xor (a b : W32) (x y : UInt8) : byteW (a ^^^ b) (x ^^^ y) = byteW a x ^^^ byteW b y := by
  unfold byteW
  rw [ofNat_xor8, ← stepN_xor]
  congr 1
  apply BitVec.eq_of_getLsbD_eq; intro i hi
  simp only [BitVec.getLsbD_xor]
  cases a.getLsbD i <;> cases b.getLsbD i <;> cases (BitVec.ofNat 32 x.toNat).getLsbD i <;> cases (BitVec.ofNat 32 y.toNat).getLsbD i <;> rfl
theorem regW_xor : ∀ (xs ys : List UInt8) (a b : W32), xs.length = ys.length → regW (a ^^^ b) (List.zipWith (· ^^^ ·) xs ys) = regW a xs ^^^ regW b ys
  | [], [], _, _, _ => rfl
  | [], _ :: _, _, _, h => by simp at h
  | _ :: _, [], _, _, h => by simp at h
  | x :: xs, y :: ys, a, b, h => by
    rw [List.zipWith_cons_cons]
    show regW (byteW (a ^^^ b) (x ^^^ y)) _ = regW (byteW a x) xs ^^^ regW (byteW b y) ys
    rw [byteW_xor, regW_xor xs ys _ _ (by simpa using h)]
theorem byteW_nought (w : W32) : byteW w 0 = stepN 8 w := by unfold byteW; congr 1; simp
theorem regW_noughts : ∀ (n : Nat) (w : W32), regW w (List.replicate n 0) = stepN (8 * n) w
  | 0, _ => rfl
  | n + 1, w => by
    rw [List.replicate_succ]
    show regW (byteW w 0) _ = _
    rw [byteW_nought, regW_noughts n, show 8 * (n + 1) = 8 + 8 * n by omega, stepN_add]
/-- a sealed block's octets, all of them, leave one word -/
theorem regW_le4 (s x : W32) : regW s (le4 x) = stepN 32 (s ^^^ x) := by
  have e : le4 x = leN (x.toNat * 2 ^ 0) 4 := by simp [le4, leN, List.range_succ]
  have h0 := regW_turn x.toNat 0 4 x.isLt (by omega) (by omega)
  have h1 := regW_xor (List.replicate 4 0) (leN (x.toNat * 2 ^ 0) 4) s 0#32 (by simp [leN])
  have hz : List.zipWith (· ^^^ ·) (List.replicate 4 (0 : UInt8)) (leN (x.toNat * 2 ^ 0) 4) = leN (x.toNat * 2 ^ 0) 4 := by
    simp [leN, List.range_succ, List.replicate]
  rw [hz, h0, regW_noughts] at h1
  simp only [BitVec.xor_zero] at h1
  rw [e, h1, ← stepN_xor]
  simp
theorem held_reg (bs : List UInt8) (h : heldB bs = true) : regW 0xffffffff#32 bs = stepN 32 0xffffffff#32 := by
  unfold heldB at h
  simp only [Bool.and_eq_true, decide_eq_true_eq, beq_iff_eq] at h
  obtain ⟨hl, he⟩ := h
  rw [← he, sealB, regW_append, regW_le4]
  congr 1
  unfold crc
  generalize regW 4294967295#32 (fill124 (List.take 124 bs)) = r
  apply BitVec.eq_of_getLsbD_eq; intro i hi
  have hall : (0xffffffff#32 : W32).getLsbD i = true := by
    have : (0xffffffff#32 : W32) = BitVec.allOnes 32 := by decide
    rw [this, BitVec.getLsbD_allOnes]; simpa using hi
  rw [BitVec.getLsbD_xor, BitVec.getLsbD_not, hall]
  cases r.getLsbD i <;> simp [hi]
/-- what is turned over: octets of a number from place p on, of 128 -/
def errs (p v i : Nat) : List UInt8 := (List.range 128).map fun j => if p ≤ j ∧ j < p + i then UInt8.ofNat (v / 2 ^ (8 * (j - p))) else 0
theorem errs_length (p v i : Nat) : (errs p v i).length = 128 := by simp [errs]
theorem errs_get (p v i j : Nat) (h : j < 128) : (errs p v i)[j]? = some (if p ≤ j ∧ j < p + i then UInt8.ofNat (v / 2 ^ (8 * (j - p))) else 0) := by
  simp [errs, h]
theorem errs_cut (p v i : Nat) (h : p + i ≤ 128) : errs p v i = List.replicate p 0 ++ (leN v i ++ List.replicate (128 - p - i) 0) := by
  apply List.ext_getElem?
  intro j
  rcases Nat.lt_or_ge j 128 with hj | hj
  · rw [errs_get p v i j hj]
    rcases Nat.lt_or_ge j p with h1 | h1
    · rw [List.getElem?_append_left (by simpa using h1), if_neg (by omega)]
      simp [List.getElem?_replicate, h1]
    · rw [List.getElem?_append_right (by simpa using h1), List.length_replicate]
      rcases Nat.lt_or_ge j (p + i) with h2 | h2
      · rw [List.getElem?_append_left (by simp [leN]; omega), if_pos ⟨h1, h2⟩]
        have : j - p < i := by omega
        simp [leN, this]
      · rw [List.getElem?_append_right (by simp [leN]; omega), if_neg (by omega)]
        have : j - p - i < 128 - p - i := by omega
        simp [leN, List.getElem?_replicate, this]
  · rw [List.getElem?_eq_none (by rw [errs_length]; exact hj), List.getElem?_eq_none (by simp [leN]; omega)]
/-- the block when i octets are turned over -/
def turned (xs : List UInt8) (p v i : Nat) : List UInt8 := List.zipWith (· ^^^ ·) xs (errs p v i)
theorem turned_length (xs : List UInt8) (p v i : Nat) (h : xs.length = 128) : (turned xs p v i).length = 128 := by simp [turned, h, errs_length]
theorem turned_zero (xs : List UInt8) (p v : Nat) (h : xs.length = 128) : turned xs p v 0 = xs := by
  apply List.ext_getElem?
  intro j
  rcases Nat.lt_or_ge j 128 with hj | hj
  · rw [turned, List.getElem?_zipWith, errs_get p v 0 j hj, if_neg (by omega), List.getElem?_eq_getElem (by omega)]
    simp
  · rw [List.getElem?_eq_none (by rw [turned_length _ _ _ _ h]; exact hj), List.getElem?_eq_none (by omega)]
theorem turned_at (xs : List UInt8) (p v i : Nat) (c : UInt8) (h : xs.length = 128) (hp : p + i < 128) (hc : xs[p + i]? = some c) : (turned xs p v i)[p + i]? = some c := by
  rw [turned, List.getElem?_zipWith, errs_get p v i _ hp, hc, if_neg (by omega)]
  simp
theorem turned_step (xs : List UInt8) (p v i : Nat) (c : UInt8) (h : xs.length = 128) (hp : p + i < 128) (hc : xs[p + i]? = some c) :
    (turned xs p v i).set (p + i) (c ^^^ UInt8.ofNat (v / 2 ^ (8 * i))) = turned xs p v (i + 1) := by
  apply List.ext_getElem?
  intro j
  rcases Nat.lt_or_ge j 128 with hj | hj
  · rw [List.getElem?_set]
    by_cases hji : p + i = j
    · subst hji
      rw [if_pos rfl, if_pos (by rw [turned_length _ _ _ _ h]; exact hp), turned, List.getElem?_zipWith, errs_get p v (i + 1) _ hp, hc, if_pos (by omega)]
      simp
    · rw [if_neg hji, turned, turned, List.getElem?_zipWith, List.getElem?_zipWith, errs_get p v i j hj, errs_get p v (i + 1) j hj]
      congr 2
      by_cases h1 : p ≤ j ∧ j < p + i
      · rw [if_pos h1, if_pos (by omega)]
      · rw [if_neg h1, if_neg (by omega)]
  · rw [List.getElem?_eq_none (by rw [List.length_set, turned_length _ _ _ _ h]; exact hj), List.getElem?_eq_none (by rw [turned_length _ _ _ _ h]; exact hj)]
/-- **a sealed block with up to 32 bits beside one another turned over is none** -/
theorem found (xs : List UInt8) (h : heldB xs = true) (k t m : Nat) (hk : k ≤ 992) (h0 : 0 < t) (ht : t < 2 ^ 32) (hm : k / 8 + m ≤ 128) (hm5 : m ≤ 8) (hw : 32 + k % 8 ≤ 8 * m) : heldB (turned xs (k / 8) (t * 2 ^ (k % 8)) m) = false := by
  have hl : xs.length = 128 := by
    unfold heldB at h
    simp only [Bool.and_eq_true, decide_eq_true_eq] at h
    exact h.1
  rcases Bool.eq_false_or_eq_true (heldB (turned xs (k / 8) (t * 2 ^ (k % 8)) m)) with h2 | h2
  · exfalso
    have r1 := held_reg _ h
    have r2 := held_reg _ h2
    have hx := regW_xor xs (errs (k / 8) (t * 2 ^ (k % 8)) m) 0xffffffff#32 0#32 (by rw [hl, errs_length])
    rw [BitVec.xor_zero] at hx
    unfold turned at r2
    rw [hx, r1, errs_cut _ _ _ hm, regW_append, regW_append, regW_noughts (k / 8), stepN_zero, regW_turn t _ m ht hm5 hw, regW_noughts, ← stepN_add] at r2
    have r3 : stepN (8 * m - k % 8 + 8 * (128 - k / 8 - m)) (BitVec.ofNat 32 t) = 0#32 := by
      have : ∀ a b : W32, a ^^^ b = a → b = 0#32 := by
        intro a b hab
        have := congrArg (fun z => a ^^^ z) hab
        simp only [← BitVec.xor_assoc, BitVec.xor_self, BitVec.zero_xor] at this
        exact this
      exact this _ _ r2
    have r4 := stepN_inj _ _ r3
    have := congrArg BitVec.toNat r4
    simp at this
    omega
  · exact h2
end Go.Proofs.Ytkgbgiiopebadaa
