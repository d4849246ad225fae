import Derived.Test.YtobiepjnnglglaaSeal
namespace Go.Proofs.Ytobiepjnnglglaa
open Go.RowKit

set_option maxRecDepth 100000 in
set_option maxHeartbeats 400000 in
theorem held_any (A : Option Addr) (n c : Nat) (bs : List UInt8) (w : World) (hx : Rd w A (bs.map u8v)) (hn : bs.length = n) (hc : n ≤ c) :
    Calls Try.prog 31 #[.slice A n c] w fun e w' => e = .returned (.bool (heldB bs)) ∧ Below w.heap.size w w' := by
  have Hn := hide hn; clear hn
  by_cases h : n = 128
  · subst h
    go_enter Try.func31, Try.ntmps31
    go_wp2_with fail
    refine (seal_ok A 124 c (bs.take 124) w (by rw [List.map_take]; exact hx.take 124) (by rw [List.length_take, Hn.out]; rfl) (by decide)).mono ?_
    rintro e w1 ⟨g, rfl, hB, _, hb⟩
    have s1 := run_str (P := Try.prog) (n := 128) (c := 128) 28 9 5 Try.underlying28 Try.underlying5 Try.underlying9 hB.rd (sealB_length _ (by rw [List.length_take]; omega))
    have s2 := run_str (P := Try.prog) (c := c) 28 9 5 Try.underlying28 Try.underlying5 Try.underlying9 (hx.on hb) Hn.out
    clear hB
    go_wp2_with fail
    go_ret
    exact ⟨ret_bool (by simp [heldB, Hn.out]), hb⟩
  · have h1 : ((n : Int) != 128) = true := by simp; omega
    go_enter Try.func31, Try.ntmps31
    go_wp2_with fail
    go_ret
    exact ⟨ret_bool (by simp [heldB, Hn.out, h]), Below.refl _ _⟩

theorem le4_cells (x : W32) : #[.int .u8 ((x.toNat : Int) % 256), .int .u8 ((x.toNat : Int) / 256 % 256), .int .u8 ((x.toNat : Int) / 65536 % 256), .int .u8 ((x.toNat : Int) / 16777216)] = ((le4 x).map u8v).toArray := by
  have h := x.isLt
  simp only [le4, List.map_cons, List.map_nil, u8v, UInt8.toNat_ofNat']
  have e : (x.toNat : Int) / 16777216 = (x.toNat : Int) / 16777216 % 256 := by omega
  rw [e]
  simp
set_option maxRecDepth 100000 in
set_option maxHeartbeats 400000 in
theorem refSeal_any (s : ByteArray) (w : World) (h : s.size ≤ 124) :
    Calls Try.prog 37 #[.string s] w fun e w' => e = .returned (.string ⟨(sealB s.data.toList).toArray⟩) ∧ Below w.heap.size w w' := by
  go_enter Try.func37, Try.ntmps37
  go_wp2_with fail
  go_loop [0] (fun v => ∃ (k : Nat) (t : ByteArray), s.size + k ≤ 124 ∧ v = .string t ∧ t.data.toList = s.data.toList ++ List.replicate k 0 ∧ t.size = s.size + k) (fun v => match v with | .string t => 124 - t.size | _ => 0)
  case atStart => exact ⟨0, s, by omega, rfl, by simp, rfl⟩
  case round =>
    obtain ⟨k, t, hk, rfl, ht, hts⟩ := hrel
    have Ht := hide ht; have Hts := hide hts; clear ht hts
    by_cases hlt : s.size + k < 124
    · have hlt2 : t.size < 124 := by rw [Hts.out]; exact hlt
      go_wp2_with fail
      go_round
      case rel =>
        refine ⟨k + 1, _, by omega, rfl, ?_, ?_⟩
        · rw [ByteArray.data_append, Array.toList_append, Ht.out, List.append_assoc, List.replicate_succ']
        · rw [ByteArray.size_append, Hts.out]; rfl
      case measure => simp only [ByteArray.size_append]; show 124 - (t.size + 1) < 124 - t.size; omega
    · have hlt2 : ¬ t.size < 124 := by rw [Hts.out]; exact hlt
      have ht3 : t.size ≤ 124 := by rw [Hts.out]; omega
      have hfill : t.data.toList = fill124 s.data.toList := by
        rw [Ht.out, fill124]
        have e : k = 124 - s.data.toList.length := by rw [Array.length_toList]; show k = 124 - s.size; omega
        rw [← e]
      have Hfill := hide hfill; clear hfill
      have hy_lt : (crc t.data.toList).toNat < 4294967296 := BitVec.isLt _
      go_wp2_with (go_at_call 19; refine (refSum_any t _ (by omega)).mono ?_; rintro e w' ⟨rfl, rfl⟩)
      obtain ⟨x, hx⟩ : ∃ x, x = crc t.data.toList := ⟨_, rfl⟩
      rw [← hx]
      have s4 := run_str (P := Try.prog) (n := 4) (c := 4) 28 9 5 Try.underlying28 Try.underlying5 Try.underlying9 (bs := le4 x) (Blk.new w 5 ((le4 x).map u8v).toArray).rd rfl
      rw [← le4_cells] at s4
      have Hx := hide hx; clear hx
      have hl4 : (le4 x).length = 4 := rfl
      go_simp
      go_wp2_with fail
      go_ret
      refine ⟨?_, (Below.refl _ _).alloc (Nat.le_refl _) _⟩
      have e : (⟨(sealB s.data.toList).toArray⟩ : ByteArray) = t ++ ⟨(le4 x).toArray⟩ := by
        apply ByteArray.ext
        rw [ByteArray.data_append, sealB, ← Hfill.out, ← Hx.out]
        simp
      rw [e]
      simp

set_option maxRecDepth 100000 in
set_option maxHeartbeats 400000 in
theorem refHeld_any (s : ByteArray) (w : World) (hs : s.size ≤ 4294967296) :
    Calls Try.prog 38 #[.string s] w fun e w' => e = .returned (.bool (heldB s.data.toList)) ∧ Below w.heap.size w w' := by
  by_cases h : s.size = 128
  · have h1 : ((s.size : Int) == 128) = true := by simp; omega
    have h2 : 124 ≤ s.size := by omega
    have Hs := hide h; clear h
    go_enter Try.func38, Try.ntmps38
    go_wp2_with fail
    refine (refSeal_any _ w (by rw [ByteArray.size_extract]; omega)).mono ?_
    rintro e w1 ⟨rfl, hb⟩
    go_wp2_with fail
    go_ret
    refine ⟨ret_bool ?_, hb⟩
    have e : s.data.toList.length = 128 := by rw [Array.length_toList]; exact Hs.out
    rw [heldB, e, ByteArray.toList_eq]
    simp
  · have h1 : ((s.size : Int) == 128) = false := by simp; omega
    have Hs := hide h; clear h
    go_enter Try.func38, Try.ntmps38
    go_wp2_with fail
    go_ret
    refine ⟨ret_bool ?_, Below.refl _ _⟩
    have e : s.data.toList.length = s.size := by rw [Array.length_toList]; rfl
    simp only [heldB, e, decide_eq_false Hs.out, Bool.false_and]
end Go.Proofs.Ytobiepjnnglglaa
