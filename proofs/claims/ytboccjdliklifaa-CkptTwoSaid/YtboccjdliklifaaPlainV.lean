/- Plain law of layer 13: a block is read. No condition. -/
import Derived.Test.YtboccjdliklifaaPlainU
namespace Go.Proofs.Ytboccjdliklifaa
open Go.RowKit
def mapK (b : List UInt8) : Nat → List (Int × Nat)
  | 0 => [(0, 0), (0, 0), (0, 0), (0, 0)]
  | i + 1 => (mapK b i).set i (mapAt b i)
def useK (b : List UInt8) : Nat → List Int
  | 0 => [0, 0, 0, 0, 0, 0, 0, 0]
  | i + 1 => (useK b i).set i (useAt b i)
/-- a checkpoint of which so many numbers are read -/
def midK (b : List UInt8) (i j : Nat) : Ck := ⟨(numAt b 4 6 : Nat), (numAt b 10 6 : Nat), (numAt b 16 4 : Nat), mapK b i, useK b j⟩
theorem mapK_len (b : List UInt8) : ∀ i, (mapK b i).length = 4
  | 0 => rfl
  | i + 1 => by rw [mapK, List.length_set]; exact mapK_len b i
theorem useK_len (b : List UInt8) : ∀ i, (useK b i).length = 8
  | 0 => rfl
  | i + 1 => by rw [useK, List.length_set]; exact useK_len b i
theorem midK_all (b : List UInt8) : midK b 4 8 = ckAt b := rfl
theorem beN_take (b : List UInt8) (n : Nat) : beN (b.take n) < 256 ^ n :=
  Nat.lt_of_lt_of_le (beN_lt _) (Nat.pow_le_pow_right (by omega) (List.length_take_le n b))
theorem unpackH (b : List UInt8) (h : 20 ≤ b.length) : unpackR b [4, 6, 6, 4] = (0, [numAt b 0 4, numAt b 4 6, numAt b 10 6, numAt b 16 4]) := by
  have h1 : okW [4, 6, 6, 4] = true := by decide
  have h2 : sumW [4, 6, 6, 4] = 20 := by decide
  rw [unpackR, if_pos h1, if_pos (by rw [h2]; omega)]
  simp [nums, numAt, List.drop_drop]
theorem unpackM (b : List UInt8) (i : Nat) (h : 28 + 8 * i ≤ b.length) : unpackR (b.drop (20 + 8 * i)) [4, 4] = (0, [numAt b (20 + 8 * i) 4, numAt b (24 + 8 * i) 4]) := by
  have h1 : okW [4, 4] = true := by decide
  have h2 : sumW [4, 4] = 8 := by decide
  rw [unpackR, if_pos h1, if_pos (by rw [h2, List.length_drop]; omega)]
  simp [nums, numAt, List.drop_drop]
  congr 3; omega
theorem unpackU (b : List UInt8) (i : Nat) (h : 54 + 2 * i ≤ b.length) : unpackR (b.drop (52 + 2 * i)) [2] = (0, [numAt b (52 + 2 * i) 2]) := by
  have h1 : okW [2] = true := by decide
  have h2 : sumW [2] = 2 := by decide
  rw [unpackR, if_pos h1, if_pos (by rw [h2, List.length_drop]; omega)]
  simp [nums, numAt, List.drop_drop]
theorem ck_setmap {c : Ck} (h4 : c.map.length = 4) {i j : Nat} {x x' : Int × Nat} {u : Value} (hx : c.map[i]? = some x) (hj : j < 2) (he : ptrC x' = (ptrC x).set j u) : (ckC c).set (3 + (i * 2 + j)) u = ckC { c with map := c.map.set i x' } := by
  have hi : i < 4 := by rw [← h4]; exact (List.getElem?_eq_some_iff.1 hx).1
  have hf : (c.map.flatMap ptrC).length = 8 := by rw [flat_length ptrC_len, h4]
  have h := flat_set ptrC_len c.map i x x' j u hx hj he
  unfold ckC
  simp only
  rw [List.set_append_right _ _ (by simp), List.set_append_left _ _ (by simp only [List.length_cons, List.length_nil, hf]; omega)]
  rw [show 3 + (i * 2 + j) - [Value.int IntKind.i64 c.seq, Value.int IntKind.i64 c.nx, Value.int IntKind.i64 c.at_].length = i * 2 + j by simp, h]
theorem ck_setuse {c : Ck} (h4 : c.map.length = 4) {i : Nat} {x x' : Int} (hx : c.used[i]? = some x) : (ckC c).set (11 + i) (.int .i64 x') = ckC { c with used := c.used.set i x' } := by
  have hf : (c.map.flatMap ptrC).length = 8 := by rw [flat_length ptrC_len, h4]
  have h := flat_set numC1_len c.used i x x' 0 (.int .i64 x') hx (by omega) rfl
  rw [Nat.mul_one, Nat.add_zero] at h
  unfold ckC
  simp only
  rw [List.set_append_right _ _ (by simp; omega), List.set_append_right _ _ (by simp only [List.length_cons, List.length_nil, hf]; omega)]
  rw [show 11 + i - [Value.int IntKind.i64 c.seq, Value.int IntKind.i64 c.nx, Value.int IntKind.i64 c.at_].length - (c.map.flatMap ptrC).length = i by rw [hf]; simp; omega, h]
end Go.Proofs.Ytboccjdliklifaa
