/- A number's octets, by the document's text. No condition. -/
import Derived.Test.YtobiepjnnglglaaGet
namespace Go.Proofs.Ytobiepjnnglglaa
open Go.RowKit

theorem u8v_mod (q : Nat) : u8v (UInt8.ofNat q) = .int .u8 ((q : Int) % 256) := by
  unfold u8v; rw [UInt8.toNat_ofNat']; simp
theorem bytes_cons (c : UInt8) (l : List UInt8) : (⟨#[c]⟩ ++ ⟨l.toArray⟩ : ByteArray) = ⟨(c :: l).toArray⟩ := by
  apply ByteArray.ext
  rw [ByteArray.data_append]; simp
theorem bytes_append (l m : List UInt8) : (⟨l.toArray⟩ ++ ⟨m.toArray⟩ : ByteArray) = ⟨(l ++ m).toArray⟩ := by
  apply ByteArray.ext
  rw [ByteArray.data_append]; simp
theorem ret_str {a b : ByteArray} (h : a = b) : Value.string a = .string b := by rw [h]
/-- what is left of a number behind k octets -/
def quoN (v k : Nat) : Nat := v / 2 ^ (8 * k)
theorem quoN_succ (v k : Nat) : quoN v (k + 1) = quoN v k / 256 := by
  unfold quoN
  rw [Nat.div_div_eq_div_mul, Nat.mul_add, Nat.pow_add]
theorem octs_quo (v k : Nat) : octs v (k + 1) = UInt8.ofNat (quoN v k) :: octs v k := octs_succ v k
set_option maxHeartbeats 1000000 in
theorem octPut_any (v n : Nat) (w : World) (hv : v < 18446744073709551616) (hn : n ≤ 8) :
    Calls Try.prog 47 #[.int .u64 (v : Int), .int .i64 (n : Int)] w fun e w' =>
      (∃ b : Bool, e = .returned (.tuple #[.string ⟨(octs v n).toArray⟩, .bool b])) ∧ Below w.heap.size w w' := by
  go_enter Try.func47, Try.ntmps47
  go_wp2_with fail
  go_loopw [0, 6, 7] (fun x s i wr => ∃ k : Nat, k ≤ n ∧ i = .int .i64 (k : Int) ∧ s = .string ⟨(octs v k).toArray⟩ ∧ x = .int .u64 (quoN v k : Int) ∧ Below w.heap.size w wr) (fun _ _ i _ => n - (intOf i).toNat)
  case atStart => exact ⟨0, Nat.zero_le _, rfl, rfl, by simp [quoN], Below.refl _ _⟩
  case round =>
    obtain ⟨k, hk, rfl, rfl, rfl, hb⟩ := hrel
    have hsucc := hide (octs_quo v k)
    have hdiv := hide (quoN_succ v k)
    have hq0 : quoN v k < 18446744073709551616 := Nat.lt_of_le_of_lt (Nat.div_le_self _ _) hv
    by_cases hlt : k < n
    · obtain ⟨q, hq⟩ : ∃ q, q = quoN v k := ⟨_, rfl⟩
      rw [← hq] at hsucc hdiv hq0 ⊢
      clear hq
      have s4 := run_str (P := Try.prog) (n := 1) (c := 1) 28 9 5 Try.underlying28 Try.underlying5 Try.underlying9 (bs := [UInt8.ofNat q]) (Blk.new wr 5 #[u8v (UInt8.ofNat q)]).rd rfl
      rw [u8v_mod] at s4
      have hsz := hb.size
      have hol := octs_length v k
      go_wp2_with fail
      go_simp
      go_wp2_with fail
      go_roundw
      case rel => exact ⟨k + 1, by omega, by go_num, by rw [hsucc.out]; exact bytes_cons _ _, by rw [hdiv.out]; rfl, hb.alloc hsz _⟩
      case measure => simp [intOf]; omega
    · obtain rfl : k = n := by omega
      go_wp2_with fail
      go_ret2
      exact ⟨⟨_, rfl⟩, hb⟩
set_option maxHeartbeats 400000 in
theorem octOf_any (v n : Nat) (w : World) (hv : v < 18446744073709551616) (hn : n ≤ 8) :
    Calls Try.prog 35 #[.int .u64 (v : Int), .int .i64 (n : Int)] w fun e w' =>
      e = .returned (.string ⟨(octs v n).toArray⟩) ∧ Below w.heap.size w w' := by
  go_enter Try.func35, Try.ntmps35
  go_wp2_with (go_at_call 47; refine (octPut_any v n _ hv hn).mono ?_; rintro e w1 ⟨⟨b, rfl⟩, hb1⟩)
  go_ret
  exact ⟨rfl, hb1⟩
theorem octOf_lit1 (v : Nat) (w : World) (hv : v < 18446744073709551616) :
    Calls Try.prog 35 #[.int .u64 (v : Int), .int .i64 1] w fun e w' => e = .returned (.string ⟨(octs v 1).toArray⟩) ∧ Below w.heap.size w w' := octOf_any v 1 w hv (by decide)
theorem octOf_lit2 (v : Nat) (w : World) (hv : v < 18446744073709551616) :
    Calls Try.prog 35 #[.int .u64 (v : Int), .int .i64 2] w fun e w' => e = .returned (.string ⟨(octs v 2).toArray⟩) ∧ Below w.heap.size w w' := octOf_any v 2 w hv (by decide)
theorem octOf_lit4 (v : Nat) (w : World) (hv : v < 18446744073709551616) :
    Calls Try.prog 35 #[.int .u64 (v : Int), .int .i64 4] w fun e w' => e = .returned (.string ⟨(octs v 4).toArray⟩) ∧ Below w.heap.size w w' := octOf_any v 4 w hv (by decide)
theorem octOf_lit6 (v : Nat) (w : World) (hv : v < 18446744073709551616) :
    Calls Try.prog 35 #[.int .u64 (v : Int), .int .i64 6] w fun e w' => e = .returned (.string ⟨(octs v 6).toArray⟩) ∧ Below w.heap.size w w' := octOf_any v 6 w hv (by decide)
end Go.Proofs.Ytobiepjnnglglaa
