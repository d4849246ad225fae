/- Plain law of layer 13: a checkpoint's block. No condition. -/
import Derived.Test.YtboccjdliklifaaPlainC
import Derived.Test.YtboccjdliklifaaPlain2
import Derived.Test.YtboccjdliklifaaPlain3
import Derived.Test.YtboccjdliklifaaCkC
namespace Go.Proofs.Ytboccjdliklifaa
def ptrN (p : Int × Nat) : List (Int × Nat) := [(4, p.1.toNat), (4, p.2)]
def useN (n : Int) : List (Int × Nat) := [(2, n.toNat)]
def ckN (c : Ck) (i j : Nat) : List (Int × Nat) := [(4, 1667985524), (6, c.seq.toNat), (6, c.nx.toNat), (4, c.at_.toNat)] ++ ((c.map.take i).flatMap ptrN ++ (c.used.take j).flatMap useN)
def ckB (c : Ck) : List UInt8 := sealB (packB (ckN c 4 8))
/-- a checkpoint's block: the octets, the error's number -/
def encK (c : Ck) : List UInt8 × Int := if mayCk c then (ckB c, 0) else ([], 1)
def ck0 : Ck := ⟨0, 0, 0, [(0, 0), (0, 0), (0, 0), (0, 0)], [0, 0, 0, 0, 0, 0, 0, 0]⟩
def numAt (b : List UInt8) (p n : Nat) : Nat := beN ((b.drop p).take n)
def mapAt (b : List UInt8) (i : Nat) : Int × Nat := ((numAt b (20 + 8 * i) 4 : Nat), numAt b (24 + 8 * i) 4)
def useAt (b : List UInt8) (i : Nat) : Int := (numAt b (52 + 2 * i) 2 : Nat)
def ckAt (b : List UInt8) : Ck := ⟨(numAt b 4 6 : Nat), (numAt b 10 6 : Nat), (numAt b 16 4 : Nat), (List.range 4).map (mapAt b), (List.range 8).map (useAt b)⟩
/-- a block's checkpoint, the error's number -/
def decK (b : List UInt8) : Ck × Int := if heldB b then (if mayCk (ckAt b) ∧ ckB (ckAt b) = b then (ckAt b, 0) else (ck0, 3)) else (ck0, 5)
theorem ckN_len {c : Ck} (h4 : c.map.length = 4) (h8 : c.used.length = 8) {i j : Nat} (hi : i ≤ 4) (hj : j ≤ 8) : (ckN c i j).length = 4 + 2 * i + j := by
  unfold ckN
  rw [List.length_append, List.length_append, flat_length (z := 2) (fun x => rfl), flat_length (z := 1) (fun x => rfl), List.length_take, List.length_take, Nat.min_eq_left (by omega), Nat.min_eq_left (by omega)]
  simp; omega
theorem ckN_map {c : Ck} {i : Nat} {p : Int × Nat} (h : c.map[i]? = some p) : ckN c (i + 1) 0 = ckN c i 0 ++ ptrN p := by
  unfold ckN
  rw [take_snoc_of h, List.flatMap_append]
  simp
theorem ckN_used {c : Ck} {j : Nat} {n : Int} (h : c.used[j]? = some n) : ckN c 4 (j + 1) = ckN c 4 j ++ useN n := by
  unfold ckN
  rw [take_snoc_of h, List.flatMap_append]
  simp
theorem ckN_fits {c : Ck} (h : mayCk c) (hs : ∀ p ∈ c.map, p.2 < 4294967296) (i j : Nat) : Fits (ckN c i j) := by
  obtain ⟨h1, h2, h3, hm, hu⟩ := h
  intro x hx
  unfold ckN at hx
  rw [List.mem_append, List.mem_append] at hx
  rcases hx with hx | hx | hx
  · simp only [List.mem_cons, List.not_mem_nil, or_false] at hx
    rcases hx with rfl | rfl | rfl | rfl
    · exact ⟨by simp, by simp, by show 1667985524 < 256 ^ 4; omega⟩
    · exact ⟨by simp, by simp, by show c.seq.toNat < 256 ^ 6; omega⟩
    · exact ⟨by simp, by simp, by show c.nx.toNat < 256 ^ 6; omega⟩
    · exact ⟨by simp, by simp, by show c.at_.toNat < 256 ^ 4; omega⟩
  · obtain ⟨p, hp, hx⟩ := List.mem_flatMap.1 hx
    have hp := List.mem_of_mem_take hp
    have := hm p hp; have := hs p hp
    simp only [ptrN, List.mem_cons, List.not_mem_nil, or_false] at hx
    rcases hx with rfl | rfl
    · exact ⟨by simp, by simp, by show p.1.toNat < 256 ^ 4; omega⟩
    · exact ⟨by simp, by simp, by show p.2 < 256 ^ 4; omega⟩
  · obtain ⟨n, hn, hx⟩ := List.mem_flatMap.1 hx
    have hn := List.mem_of_mem_take hn
    have := hu n hn
    simp only [useN, List.mem_cons, List.not_mem_nil, or_false] at hx
    subst hx
    exact ⟨by simp, by simp, by show n.toNat < 256 ^ 2; omega⟩
theorem ckN_bytes {c : Ck} (h4 : c.map.length = 4) (h8 : c.used.length = 8) : (packB (ckN c 4 8)).length = 68 := by
  obtain ⟨seq, nx, a, m, u⟩ := c
  simp only at h4 h8
  match m, h4 with
  | [p0, p1, p2, p3], _ =>
    match u, h8 with
    | [n0, n1, n2, n3, n4, n5, n6, n7], _ =>
      rw [packB_len]
      simp [ckN, ptrN, useN, sumW]
end Go.Proofs.Ytboccjdliklifaa
