import Derived.Test.YtkgbgiiopebadaaHeld
namespace Go.Proofs.Ytkgbgiiopebadaa
open Go.RowKit

theorem crc_1 : crc [49, 50, 51, 52, 53, 54, 55, 56, 57] = 0xe3069283#32 := by decide +kernel
theorem crc_2 : crc [] = 0#32 := by decide +kernel
theorem half_1 : half 1 = 0x105ec76f#32 := by decide +kernel
theorem held_0 : heldB (List.replicate 128 0) = false := by decide +kernel

set_option maxHeartbeats 400000 in
theorem few_any (A : Option Addr) (n c n' : Nat) (w : World) (hc : n ≤ c) (h : n ≤ 300 ∧ n' = n ∨ 300 < n ∧ n' = 300) :
    Calls Try.prog 8 #[.slice A n c] w fun e w' => e = .returned (.slice A n' c) ∧ w = w' := by
  rcases h with ⟨h, rfl⟩ | ⟨h, rfl⟩
  · go_enter Try.func8, Try.ntmps8
    go_wp2
    go_ret
    exact ⟨rfl, rfl⟩
  · go_enter Try.func8, Try.ntmps8
    go_wp2
    go_ret
    exact ⟨rfl, rfl⟩

set_option maxRecDepth 100000 in
set_option maxHeartbeats 1000000 in
theorem awake_any (w : World) :
    Calls Try.prog 13 #[] w fun e w' => e = .returned (.bool true) ∧ Below w.heap.size w w' := by
  have kc := fun (w : World) (C : Array Value) (n c : Nat) => Lib.run_convert_bytes_const (P := Try.prog) w 23 5 C n c Try.underlying23 Try.underlying5
  obtain ⟨zs, Hz, hmk⟩ := run_mk Try.el_u8 .i64 .i64 128 128 128 128 rfl rfl (by decide) (by decide) (by decide)
  go_enter Try.func13, Try.ntmps13
  go_wp2_with fail
  have r0 := ((Rd.newMark w #[.int .u8 49, .int .u8 50, .int .u8 51, .int .u8 52, .int .u8 53, .int .u8 54, .int .u8 55, .int .u8 56, .int .u8 57] 5 (9, 10)).alloc (.cells #[.slice (some ⟨w.heap.size, 0, none⟩) 9 9] 23))
  have r1 := (Blk.new_ (w.alloc (.cells #[.int .u8 49, .int .u8 50, .int .u8 51, .int .u8 52, .int .u8 53, .int .u8 54, .int .u8 55, .int .u8 56, .int .u8 57] 5 (9, 10))) 23 #[.slice (some ⟨w.heap.size, 0, none⟩) 9 9] (w.heap.size + 1) (by simp)).rd
  have h1 := sum_any (some ⟨w.heap.size + 1, 0, none⟩) 1 1 [⟨some ⟨w.heap.size, 0, none⟩, 9, 9, [49, 50, 51, 52, 53, 54, 55, 56, 57]⟩] _ r1 rfl (by decide) (fun s hs => by
    rw [List.mem_singleton] at hs; subst hs; exact ⟨r0, rfl, by simp only; omega⟩)
  have e1 : allOf [(⟨some ⟨w.heap.size, 0, none⟩, 9, 9, [49, 50, 51, 52, 53, 54, 55, 56, 57]⟩ : Sl UInt8)] = [49, 50, 51, 52, 53, 54, 55, 56, 57] := rfl
  rw [e1, crc_1] at h1
  refine h1.mono ?_
  rintro e w1 ⟨rfl, hb1⟩
  clear h1 r0 r1 e1
  have hw1 : Below w.heap.size w w1 := ((((Below.refl _ _).alloc (Nat.le_refl _) _).alloc (by simp) _)).trans (hb1.mono (by simp; omega))
  clear hb1
  go_wp2_with fail
  have h2 := sum_any none 0 0 [] w1 (Rd.nil _ _) rfl (by decide) (fun s hs => by cases hs)
  rw [show allOf [] = [] from rfl, crc_2] at h2
  refine h2.mono ?_
  rintro e w2 ⟨rfl, hb2⟩
  clear h2
  go_wp2_with fail
  have h3 := half_any 1 w2 (by decide) (by decide)
  rw [show (1 : Int).toNat = 1 from rfl, half_1] at h3
  refine h3.mono ?_
  rintro e w3 ⟨rfl, rfl⟩
  clear h3
  go_wp2_with fail
  have hz : zs = ((List.replicate 128 0).map u8v).toArray := by
    apply Array.toList_inj.1
    rw [made_one Hz.out, List.map_replicate]; rfl
  have h4 := held_any (some ⟨w2.heap.size, 0, none⟩) 128 128 (List.replicate 128 0) (w2.alloc (.cells zs 5)) (by have := (Blk.new w2 5 zs).rd; rw [hz] at this ⊢; exact this) (by rw [List.length_replicate]) (Nat.le_refl _)
  rw [held_0] at h4
  refine h4.mono ?_
  rintro e w4 ⟨rfl, hb4⟩
  clear h4 hz hmk
  have k2 : Below w.heap.size w w2 := hw1.trans (hb2.mono hw1.size)
  have k4 : Below w.heap.size w w4 := (k2.alloc k2.size _).trans (hb4.mono (by have := k2.size; simp; omega))
  go_wp2_with fail
  go_ret
  exact ⟨rfl, k4⟩
end Go.Proofs.Ytkgbgiiopebadaa
