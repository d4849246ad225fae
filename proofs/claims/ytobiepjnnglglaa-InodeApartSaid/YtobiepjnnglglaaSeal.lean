import Derived.Test.YtobiepjnnglglaaRefCrc
import Derived.Test.YtobiepjnnglglaaEl
namespace Go.Proofs.Ytobiepjnnglglaa
open Go.RowKit

theorem Try.el_bytes : Elem Try.prog 89 28 (.slice none 0 0) 1 24 := ⟨Try.underlying89, by kernel_rfl, rfl, by decide⟩
theorem Try.sizeU8 : (Try.prog.info? 5).map (·.size) = some 1 := by kernel_rfl

/-- a block that the call made: n octets -/
def MadeB (w : World) (bs : List UInt8) (n : Nat) (e : Ending) (w' : World) : Prop :=
  ∃ g, e = .returned (.tuple #[.slice (some ⟨g, 0, none⟩) n n, .int .i64 0]) ∧ Blk w' g 5 (bs.map u8v).toArray ∧ w.heap.size ≤ g ∧ Below w.heap.size w w'

set_option maxRecDepth 100000 in
set_option maxHeartbeats 400000 in
theorem seal_no (A : Option Addr) (n c : Nat) (w : World) (h : 124 < n) :
    Calls Try.prog 43 #[.slice A n c] w fun e w' => e = .returned (.tuple #[.slice none 0 0, .int .i64 8]) ∧ w = w' := by
  go_enter Try.func43, Try.ntmps43
  go_wp2_with fail
  go_ret2
  exact ⟨rfl, rfl⟩

set_option maxRecDepth 100000 in
set_option maxHeartbeats 1000000 in
theorem seal_ok (A : Option Addr) (n c : Nat) (bs : List UInt8) (w : World) (hx : Rd w A (bs.map u8v)) (hn : bs.length = n) (h : n ≤ 124) :
    Calls Try.prog 43 #[.slice A n c] w (MadeB w (sealB bs) 128) := by
  have Hn := hide hn; clear hn
  have hd := fill124_length bs (by rw [Hn.out]; exact h)
  have Hd := hide hd; clear hd
  go_enter Try.func43, Try.ntmps43
  go_wp2_with (first
    | (refine wpList_mk rfl _ _ rfl Try.el_u8 .i64 .i64 128 128 rfl rfl (by decide) (by decide) (by decide) ?_; intro zs Hz)
    | (refine wpList_cp rfl (.tmp 11) (.tmp 12) 28 28 rfl 5 Try.underlying28 Try.sizeU8 w.heap.size 0 128 128 A n c rfl rfl zs 5 (Blk.new w _ _) (bs.map u8v) (by rw [List.length_map, Hn.out]; exact (Nat.min_eq_left (by omega)).symm) (hx.alloc _) (by rw [List.length_map, Hn.out, ← Array.length_toList, made_one Hz.out]; simp; omega) (one_u8 bs) ?_; intro new Hnew))
  obtain ⟨s, hs⟩ : ∃ s, s = crc (fill124 bs) := ⟨_, rfl⟩
  have hnew : new = ((partB (fill124 bs) s 0).map u8v).toArray := by
    apply Array.toList_inj.1
    rw [Hnew.out, made_one Hz.out]
    simp only [List.take_zero, List.nil_append, List.length_map, Nat.zero_add, List.drop_replicate, partB, fill124, List.map_append, List.take_zero, List.map_replicate, List.append_assoc]
    congr 1
    rw [Hn.out, show List.replicate (124 - n) (u8v 0) ++ List.replicate (4 - 0) (u8v 0) = List.replicate (128 - n) (u8v 0) from by rw [List.replicate_append_replicate]; congr 1; omega]
    rfl
  subst hnew
  clear Hz Hnew
  have b0 : Blk ((w.alloc (.cells zs 5)).setRow w.heap.size ((partB (fill124 bs) s 0).map u8v).toArray) w.heap.size 5 ((partB (fill124 bs) s 0).map u8v).toArray := (Blk.new w _ _).row _
  have k0 : Below w.heap.size w ((w.alloc (.cells zs 5)).setRow w.heap.size ((partB (fill124 bs) s 0).map u8v).toArray) := below_setRow ((Below.refl _ _).alloc (Nat.le_refl _) _) (Nat.le_refl _) _
  have hsz : ((w.alloc (.cells zs 5)).setRow w.heap.size ((partB (fill124 bs) s 0).map u8v).toArray).heap.size = w.heap.size + 1 := by simp
  generalize ((w.alloc _).setRow w.heap.size _) = W at b0 k0 hsz ⊢
  rw [← hsz] at ⊢
  clear hsz
  have B1 := hide (b0.alloc (.cells #[.slice (some ⟨w.heap.size, 0, none⟩) 124 128] 28))
  have k1 := k0.alloc k0.size (.cells #[.slice (some ⟨w.heap.size, 0, none⟩) 124 128] 28)
  have r1 : Rd (W.alloc (.cells #[.slice (some ⟨w.heap.size, 0, none⟩) 124 128] 28)) (some ⟨W.heap.size, 0, none⟩) ([(⟨some ⟨w.heap.size, 0, none⟩, 124, 128, fill124 bs⟩ : Sl UInt8)].flatMap slC) := (Blk.new W _ _).rd
  have r2 : Rd (W.alloc (.cells #[.slice (some ⟨w.heap.size, 0, none⟩) 124 128] 28)) (some ⟨w.heap.size, 0, none⟩) ((fill124 bs).map u8v) := by
    have := B1.out.rd.take 124
    simp only [partB, List.map_append] at this
    rwa [List.take_left' (by rw [List.length_map]; exact Hd.out)] at this
  have h3 := sum_any (some ⟨W.heap.size, 0, none⟩) 1 1 [⟨some ⟨w.heap.size, 0, none⟩, 124, 128, fill124 bs⟩] _ r1 rfl (by decide) (fun s hs => by
    rw [List.mem_singleton] at hs
    subst hs
    exact ⟨r2, Hd.out, by simp only; omega⟩)
  have e3 : allOf [(⟨some ⟨w.heap.size, 0, none⟩, 124, 128, fill124 bs⟩ : Sl UInt8)] = fill124 bs := by simp [allOf]
  rw [e3, ← hs] at h3
  refine h3.mono ?_
  rintro e w1 ⟨rfl, hb1⟩
  have Bw := hide (B1.out.below hb1 B1.out.lt)
  have k2 := k1.trans (hb1.mono k1.size)
  clear h3 r1 r2 B1 k1 k0 b0 hb1
  have hs_lt : s.toNat < 4294967296 := s.isLt
  have Hs := hide hs; clear hs e3
  go_wp2_with fail
  obtain ⟨g, hg⟩ : ∃ g, g = w.heap.size := ⟨_, rfl⟩
  have Hg := hide hg
  rw [← hg] at Bw ⊢
  clear hg
  go_loopw [18] (fun i wr => ∃ k : Nat, k ≤ 4 ∧ i = .int .i64 k ∧ Blk wr g 5 ((partB (fill124 bs) s k).map u8v).toArray ∧ Below w.heap.size w wr) (fun i _ => 4 - (intOf i).toNat)
  case atStart => exact ⟨0, by omega, rfl, Bw.out, k2⟩
  case round =>
    obtain ⟨k, hk, rfl, hbk, hb⟩ := hrel
    have Hbk := hide hbk; clear hbk
    by_cases hlt : k < 4
    · have hlen := partB_length (fill124 bs) s Hd.out k hk
      obtain ⟨old, _, hcell⟩ := Hbk.out.u8_at (k := 124 + k) (by omega)
      have hfr := Hbk.out.frozen (124 + k)
      clear hlen
      go_wp2_with fail
      go_roundw
      case rel =>
        refine ⟨k + 1, by omega, by go_num, ?_, hb.setCell (by simp only; rw [Hg.out]; exact Nat.le_refl _) _⟩
        have := Hbk.out.u8_put (124 + k) (UInt8.ofNat (s.toNat / 2 ^ (8 * k)))
        rw [partB_set _ _ Hd.out k hlt, u8v_ofNat] at this
        exact this
      case measure => simp [intOf]; omega
    · obtain rfl : k = 4 := by omega
      go_wp2_with fail
      go_ret2
      refine ⟨g, rfl, ?_, by rw [Hg.out]; exact Nat.le_refl _, hb⟩
      have := Hbk.out
      rw [Hs.out, partB_four] at this
      exact this
end Go.Proofs.Ytobiepjnnglglaa
