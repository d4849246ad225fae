/- Plain law of layer 2: the check sum, bit by bit and half a byte at a time. No condition. -/
import Derived.IntWalk
import Derived.Laws.BitsAllLaws
import Derived.Laws.Bits64
namespace Go.Proofs.Ytobiepjnnglglaa
abbrev W32 := BitVec 32
def poly : W32 := 0x82f63b78#32
/-- a word behind one step -/
def step1 (w : W32) : W32 := (w >>> 1) ^^^ (if w.getLsbD 0 then poly else 0#32)
def stepN : Nat → W32 → W32
  | 0, w => w
  | n + 1, w => stepN n (step1 w)
theorem step1_xor (a b : W32) : step1 (a ^^^ b) = step1 a ^^^ step1 b := by
  unfold step1
  rw [BitVec.ushiftRight_xor_distrib, BitVec.getLsbD_xor]
  cases a.getLsbD 0 <;> cases b.getLsbD 0 <;> simp <;> apply BitVec.eq_of_getLsbD_eq <;> intro i hi <;> simp only [BitVec.getLsbD_xor] <;> cases (a >>> 1).getLsbD i <;> cases (b >>> 1).getLsbD i <;> cases poly.getLsbD i <;> rfl
theorem stepN_xor : ∀ (n : Nat) (a b : W32), stepN n (a ^^^ b) = stepN n a ^^^ stepN n b
  | 0, _, _ => rfl
  | n + 1, a, b => by rw [stepN, step1_xor, stepN_xor n]; rfl
theorem stepN_succ' : ∀ (n : Nat) (w : W32), stepN (n + 1) w = step1 (stepN n w)
  | 0, _ => rfl
  | n + 1, w => by rw [stepN, stepN_succ' n]; rfl
theorem stepN_succ (n : Nat) (w : W32) : stepN (n + 1) w = step1 (stepN n w) := stepN_succ' n w
theorem step1_zero : step1 0#32 = 0#32 := by decide
theorem stepN_zero : ∀ n, stepN n 0#32 = 0#32
  | 0 => rfl
  | n + 1 => by rw [stepN, step1_zero]; exact stepN_zero n
theorem stepN_add : ∀ (m n : Nat) (w : W32), stepN (m + n) w = stepN n (stepN m w)
  | 0, n, w => by rw [Nat.zero_add]; rfl
  | m + 1, n, w => by rw [Nat.succ_add, stepN, stepN_add m n]; rfl
/-- where the low bits are noughts, steps only shift -/
theorem stepN_low : ∀ (n : Nat) (w : W32), (∀ i, i < n → w.getLsbD i = false) → stepN n w = w >>> n
  | 0, w, _ => by simp [stepN]
  | n + 1, w, h => by
    have h0 := h 0 (by omega)
    have e : step1 w = w >>> 1 := by unfold step1; rw [h0]; simp
    rw [stepN, e, stepN_low n]
    · rw [← BitVec.shiftRight_add, Nat.add_comm]
    · intro i hi
      rw [BitVec.getLsbD_ushiftRight]
      exact h _ (by omega)
/-- half a byte at a time -/
theorem stepN_half (w : W32) : stepN 4 w = (w >>> 4) ^^^ stepN 4 (w &&& 15#32) := by
  have e : w = (w &&& ~~~15#32) ^^^ (w &&& 15#32) := by
    apply BitVec.eq_of_getLsbD_eq; intro i hi
    simp only [BitVec.getLsbD_xor, BitVec.getLsbD_and, BitVec.getLsbD_not, hi, decide_true, Bool.true_and]
    cases w.getLsbD i <;> cases (15#32).getLsbD i <;> rfl
  have h : stepN 4 (w &&& ~~~15#32) = w >>> 4 := by
    rw [stepN_low]
    · apply BitVec.eq_of_getLsbD_eq; intro i hi
      simp only [BitVec.getLsbD_ushiftRight, BitVec.getLsbD_and, BitVec.getLsbD_not]
      by_cases h : 4 + i < 32
      · have : (15#32).getLsbD (4 + i) = false := by
          have : ∀ j, j < 28 → (15#32).getLsbD (4 + j) = false := by decide
          exact this i (by omega)
        rw [this, decide_eq_true h]; simp only [Bool.not_false, Bool.and_true]
      · rw [BitVec.getLsbD_of_ge w (4 + i) (by omega)]; simp
    · intro i hi
      have : ∀ j, j < 4 → (~~~15#32).getLsbD j = false := by decide
      rw [BitVec.getLsbD_and, this i hi]; simp
  calc stepN 4 w = stepN 4 ((w &&& ~~~15#32) ^^^ (w &&& 15#32)) := by rw [← e]
    _ = _ := by rw [stepN_xor, h]
/-- an octet into the word -/
def byteW (w : W32) (c : UInt8) : W32 := stepN 8 (w ^^^ BitVec.ofNat 32 c.toNat)
def regW (w : W32) (bs : List UInt8) : W32 := bs.foldl byteW w
def crc (bs : List UInt8) : W32 := ~~~ (regW 0xffffffff#32 bs)
def half (n : Nat) : W32 := stepN 4 (BitVec.ofNat 32 n)
theorem regW_append (w : W32) (a b : List UInt8) : regW w (a ++ b) = regW (regW w a) b := by simp [regW]
theorem regW_snoc (w : W32) (a : List UInt8) (c : UInt8) : regW w (a ++ [c]) = byteW (regW w a) c := by simp [regW]
theorem regW_take_succ (w : W32) (a : List UInt8) (k : Nat) (c : UInt8) (h : a[k]? = some c) : regW w (a.take (k + 1)) = byteW (regW w (a.take k)) c := by
  rw [List.take_add_one, h]; exact regW_snoc _ _ _
theorem byteW_half (w : W32) (c : UInt8) : byteW w c = stepN 4 (stepN 4 (w ^^^ BitVec.ofNat 32 c.toNat)) := by
  unfold byteW; exact stepN_add 4 4 _
theorem half_of (w : W32) : half (w &&& 15#32).toNat = stepN 4 (w &&& 15#32) := by unfold half; rw [BitVec.ofNat_toNat, BitVec.setWidth_eq]
theorem getLsbD_zero (w : W32) : w.getLsbD 0 = decide (w.toNat % 2 = 1) := by rw [BitVec.getLsbD, Nat.testBit_zero]
theorem step1_even (y : W32) (h : ¬ y.toNat % 2 = 1) : (y.toNat : Int) / 2 = ((step1 y).toNat : Int) := by
  unfold step1
  rw [getLsbD_zero, decide_eq_false h]
  simp [BitVec.toNat_ushiftRight, Nat.shiftRight_eq_div_pow]
theorem xor_u32 (a b : W32) : bits .xor .u32 (a.toNat : Int) (b.toNat : Int) = ((a ^^^ b).toNat : Int) := by
  rw [u32_xor_nat _ _ a.isLt b.isLt, BitVec.toNat_xor]
theorem and_u32 (a b : W32) : bits .and .u32 (a.toNat : Int) (b.toNat : Int) = ((a &&& b).toNat : Int) := by
  rw [u32_and_nat _ _ a.isLt b.isLt, BitVec.toNat_and]
theorem shr_u32 (a : W32) (k : Nat) : (a.toNat : Int) / 2 ^ k = ((a >>> k).toNat : Int) := by
  rw [BitVec.toNat_ushiftRight, Nat.shiftRight_eq_div_pow]; simp
theorem shr1_u32 (a : W32) : (a.toNat : Int) / (2 : Int) = ((a >>> 1).toNat : Int) := by
  rw [BitVec.toNat_ushiftRight, Nat.shiftRight_eq_div_pow]; simp
theorem shr4_u32 (a : W32) : (a.toNat : Int) / (16 : Int) = ((a >>> 4).toNat : Int) := by
  rw [BitVec.toNat_ushiftRight, Nat.shiftRight_eq_div_pow]; simp
theorem step1_odd (y : W32) (h : y.toNat % 2 = 1) : bits .xor .u32 ((y.toNat : Int) / 2) 2197175160 = ((step1 y).toNat : Int) := by
  have e1 := shr1_u32 y
  have e2 : (2197175160 : Int) = ((poly).toNat : Int) := by decide
  rw [e1, e2, xor_u32]
  unfold step1
  rw [getLsbD_zero, decide_eq_true h]; rfl
theorem step1_mul (y : W32) : bits .xor .u32 ((y.toNat : Int) / 2) (2197175160 * bits .and .u32 (y.toNat : Int) 1 % 4294967296) = ((step1 y).toNat : Int) := by
  have e1 := shr1_u32 y
  have e3 : bits .and .u32 (y.toNat : Int) 1 = if y.toNat % 2 = 1 then 1 else 0 := by
    rw [show (1 : Int) = ((1 : Nat) : Int) from rfl, u32_and_nat _ _ y.isLt (by omega), Nat.and_one_is_mod]
    split <;> omega
  rw [e3]
  by_cases h : y.toNat % 2 = 1
  · rw [if_pos h, show (2197175160 * 1 % 4294967296 : Int) = 2197175160 from by decide]
    exact step1_odd y h
  · rw [if_neg h, show (2197175160 * 0 % 4294967296 : Int) = ((0#32 : W32).toNat : Int) from by decide, e1, xor_u32]
    simp only [BitVec.xor_zero]
    rw [← e1]
    exact step1_even y h
/-- half a step of the table, in the walk's own form -/
theorem tab_step (z : W32) : ∃ i : Nat, i < 16 ∧ bits .and .u32 (z.toNat : Int) 15 = (i : Int) ∧ bits .xor .u32 ((z.toNat : Int) / 16) ((half i).toNat : Int) = ((stepN 4 z).toNat : Int) := by
  refine ⟨(z &&& 15#32).toNat, ?_, ?_, ?_⟩
  · rw [BitVec.toNat_and]
    exact Nat.lt_of_le_of_lt (Nat.and_le_right) (by decide)
  · rw [show (15 : Int) = ((15#32 : W32).toNat : Int) from by decide, and_u32]
  · have e := shr4_u32 z
    rw [e, xor_u32, half_of, ← stepN_half]
theorem byte_u32 (y : W32) (c : UInt8) : bits .xor .u32 (y.toNat : Int) (c.toNat : Int) = ((y ^^^ BitVec.ofNat 32 c.toNat).toNat : Int) := by
  have e : (c.toNat : Int) = ((BitVec.ofNat 32 c.toNat : W32).toNat : Int) := by
    have := c.toNat_lt
    rw [BitVec.toNat_ofNat, Nat.mod_eq_of_lt (by omega)]
  rw [e, xor_u32]
theorem not_u32 (a : W32) : bits .xor .u32 IntKind.u32.max (a.toNat : Int) = ((~~~ a).toNat : Int) := by
  rw [show IntKind.u32.max = ((BitVec.allOnes 32).toNat : Int) from by decide, xor_u32, BitVec.allOnes_xor]
theorem sub_u32 (a : W32) : (4294967295 : Int) - (a.toNat : Int) = ((~~~ a).toNat : Int) := by
  have := a.isLt
  rw [BitVec.toNat_not]; omega
/-- a sum's octets, the least significant one first -/
def le4 (x : W32) : List UInt8 := [UInt8.ofNat (x.toNat / 2 ^ (8 * 0)), UInt8.ofNat (x.toNat / 2 ^ (8 * 1)), UInt8.ofNat (x.toNat / 2 ^ (8 * 2)), UInt8.ofNat (x.toNat / 2 ^ (8 * 3))]
/-- octets, and noughts up to 124 -/
def fill124 (bs : List UInt8) : List UInt8 := bs ++ List.replicate (124 - bs.length) 0
/-- the sealed block of octets that are not too many -/
def sealB (bs : List UInt8) : List UInt8 := fill124 bs ++ le4 (crc (fill124 bs))
theorem fill124_length (bs : List UInt8) (h : bs.length ≤ 124) : (fill124 bs).length = 124 := by simp [fill124]; omega
theorem sealB_length (bs : List UInt8) (h : bs.length ≤ 124) : (sealB bs).length = 128 := by simp [sealB, fill124_length bs h, le4]
def partB (d : List UInt8) (x : W32) (k : Nat) : List UInt8 := d ++ ((le4 x).take k ++ List.replicate (4 - k) 0)
theorem partB_set (d : List UInt8) (x : W32) (hd : d.length = 124) : ∀ k, k < 4 → (partB d x k).set (124 + k) (UInt8.ofNat (x.toNat / 2 ^ (8 * k))) = partB d x (k + 1)
  | 0, _ => by rw [partB, List.set_append_right _ _ (by omega), hd]; rfl
  | 1, _ => by rw [partB, List.set_append_right _ _ (by omega), hd]; rfl
  | 2, _ => by rw [partB, List.set_append_right _ _ (by omega), hd]; rfl
  | 3, _ => by rw [partB, List.set_append_right _ _ (by omega), hd]; rfl
  | k + 4, h => absurd h (by omega)
theorem partB_length (d : List UInt8) (x : W32) (hd : d.length = 124) (k : Nat) (hk : k ≤ 4) : (partB d x k).length = 128 := by
  simp [partB, hd, le4]; omega
theorem partB_four (bs : List UInt8) : partB (fill124 bs) (crc (fill124 bs)) 4 = sealB bs := by simp [partB, sealB, le4]
theorem fill124_fill (bs : List UInt8) (h : bs.length = 124) : fill124 bs = bs := by simp [fill124, h]
theorem sealB_take (bs : List UInt8) (h : bs.length ≤ 124) : (sealB bs).take 124 = fill124 bs := by
  rw [sealB, List.take_left' (fill124_length bs h)]
/-- is it a sealed block? -/
def heldB (bs : List UInt8) : Bool := decide (bs.length = 128) && (sealB (bs.take 124) == bs)
theorem heldB_seal (bs : List UInt8) (h : bs.length ≤ 124) : heldB (sealB bs) = true := by
  rw [heldB, sealB_take bs h, decide_eq_true (sealB_length bs h)]
  have e : sealB (fill124 bs) = sealB bs := by rw [sealB, fill124_fill _ (fill124_length bs h), ← sealB]
  rw [e]; simp
end Go.Proofs.Ytobiepjnnglglaa
