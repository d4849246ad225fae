import Derived.Test.YtpebccffkmkpoaaAddrP
import Derived.Test.YtpebccffkmkpoaaAddrV
import Derived.Test.YtpebccffkmkpoaaAddrW
import Derived.Test.YtpebccffkmkpoaaOpenG
namespace Go.Proofs.Ytpebccffkmkpoaa
open Go.RowKit

theorem vol_num {D L V S q : Int} (h : mayG D L V S) (h0 : 0 ≤ q) (h1 : q < segsG D L V S) :
    -1 ≤ (volG D S q).1 ∧ (volG D S q).1 < V ∧ 0 ≤ (volG D S q).2 ∧ (volG D S q).2 < (if (volG D S q).1 = -1 then D else S) ∧ numG D S (volG D S q).1 (volG D S q).2 = q := by
  have hN : segsG D L V S = D + V * S := if_pos h
  rw [hN] at h1
  unfold mayG at h
  obtain ⟨hD, hD2, _, _, hV, hV8, hS, hS2⟩ := h
  unfold volG numG
  by_cases hd : D ≤ q
  · rw [if_pos hd]
    simp only
    have d0 := Int.ediv_nonneg (show 0 ≤ q - D by omega) (show 0 ≤ S by omega)
    have d1 : (q - D) / S < V := Int.ediv_lt_of_lt_mul (by omega) (by omega)
    have e0 := Int.emod_nonneg (q - D) (show S ≠ 0 by omega)
    have e1 := Int.emod_lt_of_pos (q - D) (show 0 < S by omega)
    have e2 := Int.mul_ediv_add_emod (q - D) S
    rw [if_neg (by omega), if_neg (by omega), Int.mul_comm]
    omega
  · rw [if_neg hd]
    simp only
    simp only [if_true]
    rw [if_pos (by omega)]
    omega
theorem of_place {D L V S : Int} {i : Nat} (h : mayG D L V S) (hi : (i : Int) < 16 * segsG D L V S) :
    ∃ v s o : Int, plc D S i = [.int .i64 v, .int .i64 s, .int .i64 o] ∧ ofG D L V S v s o = ((i : Int) + 1, 0) ∧ whereE D L V S ((i : Int) + 1) = ((v, s, o), 0) := by
  obtain ⟨h1, h2, h3, h4, h5⟩ := vol_num (q := (i : Int) / 16) h (by omega) (by omega)
  refine ⟨_, _, _, rfl, ?_, ?_⟩
  · unfold ofG
    rw [if_neg (by simp [h]), if_neg (by simp only [isP]; exact not_not_intro ⟨h1, h2, h3, h4, by omega, by omega⟩), h5]
    congr 1
    omega
  · unfold whereE
    rw [if_neg (by simp [h]), if_neg (by omega)]
    rw [show (i : Int) + 1 - 1 = i by omega]
set_option maxRecDepth 100000 in
set_option maxHeartbeats 4000000 in
theorem walk_AddrCounts (s : Int × Int × Int × Int) (at_ : Int) (w : World) (_hs : i64ok s.1 ∧ i64ok s.2.1 ∧ i64ok s.2.2.1 ∧ i64ok s.2.2.2) (ha : (Lit.int .u16 at_).wf = true) :
    Calls Try.prog 7 #[.agg #[.int .i64 s.1, .int .i64 s.2.1, .int .i64 s.2.2.1, .int .i64 s.2.2.2], .int .u16 at_] w fun e w' => e = .returned (.bool true) ∧ Below w.heap.size w w' := by
  obtain ⟨D, L, V, S⟩ := s
  simp only
  simp [Lit.wf, IntKind.min, IntKind.max, IntKind.bits, IntKind.signed] at ha
  have C := fun w => may_any D L V S w
  by_cases h : mayG D L V S
  · rw [decide_eq_true h] at C
    have P := hide (fun i => of_place (i := i) h)
    have C1 := fun w => all_any D L V S w h
    have C2 := fun w => blocks_any D L V S w
    have C3 := fun v s o w => of_any D L V S v s o w
    have C4 := fun a w h => where_any D L V S a w h
    have hsb := segsG_bound D L V S
    have hpos : 8 ≤ segsG D L V S := by
      have h2 := segsG_small h
      unfold segsG; rw [if_pos h]
      unfold mayG at h; omega
    have E4 : whereE D L V S (segsG D L V S * 16 + 1) = ((0, 0, 0), 4) := by
      unfold whereE; rw [if_neg (by simp [h]), if_pos (by omega)]
    obtain ⟨n, hn⟩ : ∃ n, segsG D L V S = n := ⟨_, rfl⟩
    rw [hn] at C1 C2 hsb hpos P E4
    have C5 := fun w => C4 (n * 16 + 1) w (WalkArith.wf_i64 (by omega))
    rw [E4] at C5
    obtain ⟨_, hsb⟩ := hsb
    replace C := hide C; replace C1 := hide C1; replace C2 := hide C2; replace C3 := hide C3; replace C4 := hide C4; replace C5 := hide C5
    clear hn h E4
    go_enter Try.func7, Try.ntmps7
    go_wp2_with (first
      | (go_at_call 11; refine (unhide C _).mono ?_; rintro e w1 ⟨rfl, hb1⟩; have B1 := hide (blk1G hb1); have hb := hide (nextB box1 hb1); clear hb1; obtain ⟨c0, c1, c2, c3⟩ := blk4 B1.out)
      | (go_at_call 23; refine (unhide C1 _).mono ?_; rintro e w2 ⟨A, m, c, rfl, hrd, hm6, hmN, hb2⟩; replace hb := hide (nextB hb.out hb2); replace B1 := hide (B1.out.below hb2 B1.out.lt); replace hrd := hide hrd; clear c0 c1 c2 c3 hb2))
    go_loopw [6] (fun i wr => ∃ k : Nat, k ≤ m ∧ i = .int .i64 (k : Int) ∧ Rd wr A (plcs D S m) ∧ Blk wr w.heap.size 23 #[.int .i64 D, .int .i64 L, .int .i64 V, .int .i64 S] ∧ Below w.heap.size w wr) (fun i _ => (m - intOf i).toNat)
    case atStart => exact ⟨0, by omega, rfl, hrd.out, B1.out, hb.out⟩
    case round =>
      clear hrd B1 hb
      obtain ⟨k, hk, rfl, hrd, B1, hb⟩ := hrel
      by_cases hlt : k < m
      · obtain ⟨v, s, o, hp1, hp2, hp3⟩ := P.out k (by omega)
        obtain ⟨b, off, x, rfl, hbl, hxk, hcx⟩ := hrd.flat (plc_len D S) (by decide) (k := k) (by simpa using hlt)
        have hx : x = k := by rw [List.getElem?_range hlt] at hxk; injection hxk with hxk; exact hxk.symm
        subst hx
        rw [hp1] at hcx
        have p0 : ∀ y : Ext wr, y.w.cell? ⟨b, off + x * 3, none⟩ = some (.int .i64 v) := fun y => (y.h.cell hbl).trans (hcx 0 _ rfl)
        have p1 : ∀ y : Ext wr, y.w.cell? ⟨b, off + x * 3 + 1, none⟩ = some (.int .i64 s) := fun y => (y.h.cell hbl).trans (hcx 1 _ rfl)
        have p2 : ∀ y : Ext wr, y.w.cell? ⟨b, off + x * 3 + 2, none⟩ = some (.int .i64 o) := fun y => (y.h.cell hbl).trans (hcx 2 _ rfl)
        obtain ⟨e0, e1, e2, e3⟩ := ext4 B1
        have C3' := fun w => C3.out v s o w
        rw [hp2] at C3'
        have C4' := fun w => C4.out ((x : Int) + 1) w (WalkArith.wf_i64 (by omega))
        rw [hp3] at C4'
        replace C3' := hide C3'; replace C4' := hide C4'; replace hrd := hide hrd; replace B1 := hide B1; replace hb := hide hb
        clear hp1 hp2 hp3 hxk hcx
        go_wp2_with fail
        refine wp_region_ext wr (by kernel_rfl) (by kernel_rfl) (Below.refl _ _) ?_
        repeat (first | go_big_quiet_step ((first | (go_at_call 19; exact Ext.call _ (unhide C3' _)))) | quiet_step ((first | (go_at_call 19; exact Ext.call _ (unhide C3' _)))))
        refine wpQuiet_nil ?_
        intro wx hw'
        obtain ⟨⟨_, hx⟩, rfl⟩ := hw'
        have h0 : Hid (wx.cell? ⟨b, off + x * 3, none⟩ = some (.int .i64 v)) := p0 ⟨wx, hx⟩
        have h1 : Hid (wx.cell? ⟨b, off + x * 3 + 1, none⟩ = some (.int .i64 s)) := p1 ⟨wx, hx⟩
        have h2 : Hid (wx.cell? ⟨b, off + x * 3 + 2, none⟩ = some (.int .i64 o)) := p2 ⟨wx, hx⟩
        clear p0 p1 p2 e0 e1 e2 e3
        replace hrd := hide (hrd.out.on hx); replace B1 := hide (B1.out.below hx B1.out.lt); replace hb := hide (nextB hb.out hx)
        have hbx : b < wx.heap.size := Nat.lt_of_lt_of_le hbl hx.size
        clear hbl hx
        obtain ⟨c0, c1, c2, c3⟩ := blk4 B1.out
        go_wp2_with (go_at_call 20; (with_reducible refine (unhide C4' _).mono ?_); rintro e w4 ⟨rfl, hb4⟩)
        replace hrd := hide (hrd.out.on hb4); replace B1 := hide (B1.out.below hb4 B1.out.lt); replace hb := hide (nextB hb.out hb4)
        have q0 := (hb4.cell hbx).trans h0.out; have q1 := (hb4.cell hbx).trans h1.out; have q2 := (hb4.cell hbx).trans h2.out
        have hb4x : b < w4.heap.size := Nat.lt_of_lt_of_le hbx hb4.size
        clear hb4 hbx h0 h1 h2 c0 c1 c2 c3
        have B3 := hide (Blk.new w4 34 #[.int .i64 v, .int .i64 s, .int .i64 o])
        replace hrd := hide (hrd.out.alloc (.cells #[.int .i64 v, .int .i64 s, .int .i64 o] 34)); replace B1 := hide (B1.out.alloc (.cells #[.int .i64 v, .int .i64 s, .int .i64 o] 34)); replace hb := hide (hb.out.alloc hb.out.size (.cells #[.int .i64 v, .int .i64 s, .int .i64 o] 34))
        have r0 := (World.cell?_alloc_lt w4 (.cells #[.int .i64 v, .int .i64 s, .int .i64 o] 34) _ (by exact hb4x)).trans q0
        have r1 := (World.cell?_alloc_lt w4 (.cells #[.int .i64 v, .int .i64 s, .int .i64 o] 34) _ (by exact hb4x)).trans q1
        have r2 := (World.cell?_alloc_lt w4 (.cells #[.int .i64 v, .int .i64 s, .int .i64 o] 34) _ (by exact hb4x)).trans q2
        obtain ⟨g, hg⟩ : ∃ g, g = w4.heap.size := ⟨_, rfl⟩
        rw [← hg] at B3 ⊢
        generalize (w4.alloc _) = w5 at *
        clear q0 q1 q2 hb4x hg
        obtain ⟨e0, e1, e2⟩ := ext3 B3.out
        have p0 : ∀ y : Ext w5, y.w.cell? ⟨b, off + x * 3, none⟩ = some (.int .i64 v) := fun y => (y.h.cell (World.block_lt_of_cell? w5 _ r0)).trans r0
        have p1 : ∀ y : Ext w5, y.w.cell? ⟨b, off + x * 3 + 1, none⟩ = some (.int .i64 s) := fun y => (y.h.cell (World.block_lt_of_cell? w5 _ r1)).trans r1
        have p2 : ∀ y : Ext w5, y.w.cell? ⟨b, off + x * 3 + 2, none⟩ = some (.int .i64 o) := fun y => (y.h.cell (World.block_lt_of_cell? w5 _ r2)).trans r2
        clear r0 r1 r2
        have hwr : IntKind.i64.wrap ((x : Int) + 1) = (x : Int) + 1 := IntWalk.i64_in _ (by omega)
        refine wp_region_ext w5 (by kernel_rfl) (by kernel_rfl) (Below.refl _ _) ?_
        repeat (first | go_big_quiet_step ((first | fail)) | quiet_step ((first | fail)))
        refine wpQuiet_nil ?_
        intro wy hw'
        obtain ⟨⟨_, hx⟩, rfl⟩ := hw'
        clear hwr
        replace hrd := hide (hrd.out.on hx); replace B1 := hide (B1.out.below hx B1.out.lt); replace hb := hide (nextB hb.out hx)
        clear hx e0 e1 e2 p0 p1 p2
        go_wp2_with fail
        go_roundw
        case rel => exact ⟨x + 1, by omega, by go_num, hrd.out, B1.out, hb.out⟩
        case measure => simp [intOf]; omega
      · obtain ⟨q, hq⟩ : ∃ q : Nat, at_ % (n * 16) = (q : Int) := ⟨(at_ % (n * 16)).toNat, (Int.toNat_of_nonneg (Int.emod_nonneg _ (by omega))).symm⟩
        have q1 : (q : Int) < n * 16 := by rw [← hq]; exact Int.emod_lt_of_pos _ (by omega)
        have t1 : at_.tmod (n * 16) = (q : Int) := by rw [← hq]; exact Int.tmod_eq_emod_of_nonneg (by omega)
        obtain ⟨v, s, o, hp1, hp2, hp3⟩ := P.out q (by omega)
        have e : (q : Int) + 1 = 1 + (q : Int) := by omega
        rw [e] at hp2 hp3
        have C3' := fun w => C3.out v s o w
        rw [hp2] at C3'
        have C4' := fun w => C4.out (1 + (q : Int)) w (WalkArith.wf_i64 (by omega))
        rw [hp3] at C4'
        replace C3' := hide C3'; replace C4' := hide C4'; replace B1 := hide B1; replace hb := hide hb
        clear hp1 hp2 hp3 hrd e hq
        obtain ⟨c0, c1, c2, c3⟩ := blk4 B1.out
        go_wp2_with (first
          | (go_at_call 13; refine (unhide C2 _).mono ?_; rintro e w3 ⟨rfl, hb2⟩; replace hb := hide (nextB hb.out hb2); replace B1 := hide (B1.out.below hb2 B1.out.lt); clear c0 c1 c2 c3 hb2; obtain ⟨c0, c1, c2, c3⟩ := blk4 B1.out)
          | (go_at_call 20; (with_reducible refine (unhide C4' _).mono ?_); rintro e w4 ⟨rfl, hb2⟩; replace hb := hide (nextB hb.out hb2); replace B1 := hide (B1.out.below hb2 B1.out.lt); clear c0 c1 c2 c3 hb2; obtain ⟨c0, c1, c2, c3⟩ := blk4 B1.out; have hl1 := B1.out.lt)
          | (go_at_call 19; refine (unhide C3' _).mono ?_; rintro e w5 ⟨rfl, hb2⟩; replace hb := hide (nextB (hb.out.alloc hb.out.size _) hb2); replace B1 := hide ((B1.out.alloc _).below hb2 (B1.out.alloc _).lt); clear c0 c1 c2 c3 hb2 hl1; obtain ⟨c0, c1, c2, c3⟩ := blk4 B1.out)
          | (go_at_call 20; (with_reducible refine (unhide C5 _).mono ?_); rintro e w6 ⟨rfl, hb2⟩; replace hb := hide (nextB hb.out hb2); clear B1 c0 c1 c2 c3 hb2)
          | (go_at_call 14; refine (awake_any _).mono ?_; rintro e w7 ⟨rfl, hb6⟩))
        go_ret
        exact ⟨rfl, nextB (hb.out.alloc hb.out.size _) hb6⟩
  · rw [decide_eq_false h] at C
    replace C := hide C
    clear h
    go_enter Try.func7, Try.ntmps7
    go_wp2_with (first
      | (go_at_call 11; refine (unhide C _).mono ?_; rintro e w1 ⟨rfl, hb1⟩; have hb := hide (nextB box1 hb1))
      | (go_at_call 14; refine (awake_any _).mono ?_; rintro e w7 ⟨rfl, hb6⟩))
    go_ret
    exact ⟨rfl, nextB hb.out hb6⟩
end Go.Proofs.Ytpebccffkmkpoaa
