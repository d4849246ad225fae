/- Layer 7's examples, and few octets. No condition. -/
import Derived.Test.YtobiepjnnglglaaInM
import Derived.Test.YtobiepjnnglglaaPlainI
namespace Go.Proofs.Ytobiepjnnglglaa
open Go.RowKit
set_option maxHeartbeats 1000000 in
theorem few_any (A : Option Addr) (n c n' : Nat) (w : World) (hc : n ≤ c) (h : n ≤ 200 ∧ n' = n ∨ 200 < n ∧ n' = 200) :
    Calls Try.prog 14 #[.slice A n c] w fun e w' => e = .returned (.slice A n' c) ∧ w = w' := by
  rcases h with ⟨h, rfl⟩ | ⟨h, rfl⟩
  all_goals
    go_enter Try.func14, Try.ntmps14
    go_wp2_with fail
    go_ret
    exact ⟨rfl, rfl⟩
def aw1 : Ino := ⟨2, 2, 0, 0, 0, [(0, 0), (0, 0), (0, 0), (0, 0), (0, 0), (0, 0), (0, 0), (0, 0), (0, 0)]⟩
theorem aw_may : mayE 1 aw1 := ⟨by decide, by decide, rfl⟩
theorem aw_head : (inoB 1 aw1).take 7 = [105, 110, 111, 100, 1, 2, 2] := by
  have h : (packB (inoN 1 aw1)).length ≤ 124 := by rw [inoN_bytes 1 rfl]; decide
  have h2 := sealB_take _ h
  unfold inoB
  have h3 : (sealB (packB (inoN 1 aw1))).take 7 = ((sealB (packB (inoN 1 aw1))).take 124).take 7 := by rw [List.take_take]; rfl
  rw [h3, h2]
  decide +kernel
theorem aw_other : decI 2 (inoB 1 aw1) = (ino0, 3) := by
  have hs : ∀ p ∈ aw1.ps, p.2 < 4294967296 := by decide
  obtain ⟨h1, h2⟩ := decI_other (other := 2) (x := aw1) rfl aw_may hs (by decide)
  have h3 : (decI 2 (inoB 1 aw1)).2 ≠ 1 := by
    unfold decI
    rw [if_neg (by decide), if_pos (inoB_held 1 rfl)]
    split <;> decide
  exact Prod.ext h1 (h2.resolve_left h3)
theorem ino_build2 : Try.prog.built 27 [(0, .int .i64 2), (1, .int .i64 2)] = some (inoC aw1).toArray := by kernel_rfl
set_option maxRecDepth 100000 in
set_option maxHeartbeats 8000000 in
theorem awake_any (w : World) : Calls Try.prog 11 #[] w fun e w' => e = .returned (.bool true) ∧ Below w.heap.size w w' := by
  have hs : ∀ p ∈ aw1.ps, p.2 < 4294967296 := by decide
  have E := fun w => enc_any 1 aw1 rfl hs w
  rw [show encI 1 aw1 = (inoB 1 aw1, 0) from if_pos aw_may] at E
  have hl := inoB_len 1 (x := aw1) rfl
  have hh := aw_head
  have hd := aw_other
  generalize inoB 1 aw1 = B at E hl hh hd
  have D := fun (A3 : Option Addr) (c3 : Nat) (w : World) (hx : Rd w A3 (B.map u8v)) (hc : B.length ≤ c3) => dec_any 2 A3 B.length c3 B w hx rfl hc
  rw [hd] at D
  have N : ∀ w, Calls Try.prog 16 #[.slice none 0 0] w (MadeR w ([], 1)) := fun w => node_any none [] 0 0 w (.inl rfl) rfl (by decide) (by simp)
  have hz := ino_zero
  have c9 : ∀ (w2 : World), Blk (w2.alloc (.cells (inoC ino0).toArray 27)) w2.heap.size 27 (inoC ino0).toArray := fun w2 => Blk.new w2 _ _
  have hl2 : ((B.length : Int) == 128) = true := by rw [hl]; rfl
  replace E := hide E; replace D := hide D; replace N := hide N; replace hh := hide hh; replace hl := hide hl
  clear hd hs
  go_enter Try.func11, Try.ntmps11
  go_upto_region 4 with (first
    | ((with_reducible refine wpList_built_parts rfl ?_ [(0, .int .i64 2), (1, .int .i64 2)] ?_ _ ino_build2 ?_); (next => rfl); (next => rfl))
    | (go_at_call 8; (with_reducible refine (unhide E _).mono ?_); rintro e w1 ⟨A1, c1, rfl, hr1, hc1, hb1⟩; replace hr1 := hide hr1; have hb := hide hb1; have D2 := hide (D.out A1 c1 w1 hr1.out hc1); clear hb1)
    | (go_at_call 12; (with_reducible refine (unhide D2).mono ?_); rintro e w2 ⟨rfl, hb2⟩; replace hr1 := hide (hr1.out.on hb2); replace hb := hide (nextB hb.out hb2); clear hb2 D2; have B3 := hide (c9 w2))
    | ((with_reducible refine store_ino (.tmp 3) (.tmp 15) rfl ?_ _ ?_ ino0 ino0 ?_ B3.out ino0_size ino0_size ?_); (next => rfl); (next => rfl); (next => rfl); replace hr1 := hide (hr1.out.on (below_setRow (box1 (o := .cells (inoC ino0).toArray 27)) (Nat.le_refl _) (inoC ino0).toArray)); replace hb := hide (nextB hb.out (below_setRow (box1 (o := .cells (inoC ino0).toArray 27)) (Nat.le_refl _) (inoC ino0).toArray)))
    | (go_at_call 16; (with_reducible refine (unhide N _).mono ?_); rintro e w4 ⟨A4, c4, rfl, _, _, hb4⟩; replace hr1 := hide (hr1.out.on hb4); replace hb := hide (nextB hb.out hb4); clear hb4))
  have s1 := run_str (P := Try.prog) (n := 7) (c := c1) 28 9 5 Try.underlying28 Try.underlying5 Try.underlying9 (bs := B.take 7) (by rw [List.map_take]; exact hr1.out.take 7) (by rw [List.length_take, hl.out]; rfl)
  rw [hh.out] at s1
  have hc3 : 7 ≤ c1 := by have := hl.out; omega
  go_wp2_with fail
  go_ret
  exact ⟨rfl, hb.out⟩
end Go.Proofs.Ytobiepjnnglglaa
