/- A block's checkpoint is read: contract of the program's Decode. No condition. -/
import Derived.Test.YtboccjdliklifaaCkD
import Derived.Test.YtboccjdliklifaaHeld
import Derived.Test.YtboccjdliklifaaEqual
import Derived.Test.YtboccjdliklifaaRes
import Derived.Test.YtboccjdliklifaaUnpack
namespace Go.Proofs.Ytboccjdliklifaa
open Go.RowKit

theorem ck_zero (w : World) : (zeroValue 28).run Try.prog w = .ok (.agg (ckC ck0).toArray) w := by kernel_rfl
theorem ck_built : Try.prog.built 28 [] = some (ckC ck0).toArray := by kernel_rfl
theorem Try.sizeCk : (Try.prog.info? 28).map (·.size) = some 19 := by kernel_rfl
theorem ck0_size : (ckC ck0).length = 19 := by rfl
theorem ckC_one (c : Ck) : (ckC c).toArray.all (·.oneCell') = true := by
  rw [← Array.all_toList, List.all_eq_true]
  intro u hu
  unfold ckC at hu
  simp only [List.mem_append, List.mem_cons, List.not_mem_nil, or_false, List.mem_flatMap, ptrC] at hu
  rcases hu with (rfl | rfl | rfl) | ⟨p, _, rfl | rfl⟩ | ⟨n, _, rfl⟩ <;> rfl
set_option maxRecDepth 100000 in
set_option maxHeartbeats 8000000 in
theorem dec_not (A : Option Addr) (n c : Nat) (bs : List UInt8) (w : World) (hA : Rd w A (bs.map u8v)) (hn : bs.length = n) (hc : n ≤ c) (hh : heldB bs = false) :
    Calls Try.prog 8 #[.slice A n c] w fun e w' => e = .returned (.tuple #[.agg (ckC (decK bs).1).toArray, .int .i64 (decK bs).2]) ∧ Below w.heap.size w w' := by
  have he : decK bs = (ck0, 5) := by unfold decK; rw [hh]; rfl
  rw [he]
  have H := hide (held_any A n c bs (w.alloc (.cells (ckC ck0).toArray 28)) (hA.alloc _) hn hc)
  have H2 := H.out
  rw [hh] at H2
  replace H2 := hide H2
  have hz := ck_zero
  have B0 := hide (Blk.new w 28 (ckC ck0).toArray)
  clear he H hA hn hh
  go_enter Try.func8, Try.ntmps8
  go_wp2_with (first
    | (go_at_call 18; (with_reducible refine (unhide H2).mono ?_); rintro e w1 ⟨rfl, hb1⟩; have B1 := hide (B0.out.below hb1 B0.out.lt); have hb := hide (nextB box1 hb1))
    | ((with_reducible refine wpList_built ?_ _ rfl _ ck_built ?_); (next => rfl))
    | ((with_reducible refine wpList_store_at (.tmp 2) (.tmp 18) rfl ?_ w.heap.size _ _ (ckC ck0).toArray ?_ ?_ B1.out ?_ ?_ (ckC_one _) ?_); (next => rfl); (next => rfl); (next => rfl); (next => exact Try.sizeCk); (next => rfl)))
  exact bodyPost_ret (results_pair rfl _ _ Try.wideCk w.heap.size 0 (ckC ck0) rfl ck0_size (blk_from (B1.out.row _))) rfl ⟨rfl, below_setRow hb.out (Nat.le_refl _) _⟩
end Go.Proofs.Ytboccjdliklifaa
