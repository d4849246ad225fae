import Derived.Test.YtfcllcofikdjaaaPack
import Derived.Test.YtfcllcofikdjaaaSame
namespace Go.Proofs.Ytfcllcofikdjaaa
open Go.RowKit

theorem packR_1 : packR [(2, 300), (1, 7)] = (0, [1, 44, 7]) := by decide +kernel
theorem packR_2 : packR [(1, 256)] = (19, []) := by decide +kernel
theorem unpackR_1 : unpackR [1, 44, 7, 9] [2, 1] = (0, [300, 7]) := by decide +kernel

set_option maxHeartbeats 1000000 in
theorem awake_any (w : World) :
    Calls Try.prog 11 #[] w fun e w' => e = .returned (.bool true) ∧ Below w.heap.size w w' := by
  go_enter Try.func11, Try.ntmps11
  go_wp2_with fail
  have h1 := pack_any (some ⟨w.heap.size, 0, none⟩) 2 2 [(2, 300), (1, 7)] _ (Blk.new w 39 #[.int .i64 2, .int .u64 300, .int .i64 1, .int .u64 7]).rd rfl (by omega)
  rw [packR_1] at h1
  refine h1.mono ?_
  rintro e w1 ⟨A1, c1, rfl, ho1, hb1⟩
  clear h1
  go_wp2_with fail
  have h2 := unpack_any (some ⟨w1.heap.size, 0, none⟩) (some ⟨w1.heap.size + 1, 0, none⟩) 4 4 2 2 [1, 44, 7, 9] [2, 1] _ ((Blk.new w1 5 #[.int .u8 1, .int .u8 44, .int .u8 7, .int .u8 9]).alloc (.cells #[.int .i64 2, .int .i64 1] 3)).rd
    (Blk.new_ (w1.alloc (.cells #[.int .u8 1, .int .u8 44, .int .u8 7, .int .u8 9] 5)) 3 #[.int .i64 2, .int .i64 1] _ (by simp)).rd rfl (by omega) rfl (by omega)
  rw [unpackR_1] at h2
  refine h2.mono ?_
  rintro e w2 ⟨A2, c2, rfl, ho2, hb2⟩
  clear h2
  go_wp2_with fail
  have h3 := pack_any (some ⟨w2.heap.size, 0, none⟩) 1 1 [(1, 256)] _ (Blk.new w2 39 #[.int .i64 1, .int .u64 256]).rd rfl (by omega)
  rw [packR_2] at h3
  refine h3.mono ?_
  rintro e w3 ⟨A3, c3, rfl, _, hb3⟩
  clear h3
  have hw1 : w.heap.size + 1 ≤ w1.heap.size := by have := hb1.size; simpa using this
  have hw2 : w1.heap.size + 2 ≤ w2.heap.size := by have := hb2.size; simpa using this
  have hw3 : w2.heap.size + 1 ≤ w3.heap.size := by have := hb3.size; simpa using this
  have k1 : Below w.heap.size w w1 := ((Below.refl _ _).alloc (Nat.le_refl _) _).trans (hb1.mono (by simp))
  have k2 : Below w1.heap.size w1 w2 := (((Below.refl _ _).alloc (Nat.le_refl _) _).alloc (by simp) _).trans (hb2.mono (by simp; omega))
  have k3 : Below w2.heap.size w2 w3 := (((Below.refl _ _).alloc (Nat.le_refl _) _)).trans (hb3.mono (by simp))
  have r1 : Rd w3 A1 ([1, 44, 7].map u8v) := ((Rd.of_own ho1).on k2).on k3
  have hstr := run_str (P := Try.prog) (n := 3) (c := c1) 22 9 5 Try.underlying22 Try.underlying5 Try.underlying9 r1 rfl
  go_wp2_with fail
  clear hstr
  have r2 : Rd w3 A2 ([300, 7].map u64v) := (Rd.of_own ho2).on k3
  have h4 := same_any A2 (some ⟨w3.heap.size, 0, none⟩) 2 c2 2 2 [300, 7] [300, 7] _ (r2.alloc (.cells #[.int .u64 300, .int .u64 7] 37)) (Blk.new w3 37 #[.int .u64 300, .int .u64 7]).rd rfl rfl (by omega) (by omega)
  rw [decide_eq_true rfl] at h4
  refine h4.mono ?_
  rintro e w4 ⟨rfl, hb4⟩
  clear h4
  go_wp2_with fail
  go_ret
  have k4 : Below w3.heap.size w3 w4 := ((Below.refl _ _).alloc (Nat.le_refl _) _).trans (hb4.mono (by simp))
  exact ⟨rfl, ((k1.trans (k2.mono (by omega))).trans (k3.mono (by omega))).trans (k4.mono (by omega))⟩
end Go.Proofs.Ytfcllcofikdjaaa
