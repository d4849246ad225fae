import Derived.Test.YtalcgnjkhnmmiaaEl
import Derived.Test.YtalcgnjkhnmmiaaAppZ
import Derived.Test.YtalcgnjkhnmmiaaMade
namespace Go.Proofs.Ytalcgnjkhnmmiaa
open Go.RowKit

/-- octets, and noughts up to 128 -/
def fill128 (bs : List UInt8) : List UInt8 := bs ++ List.replicate (128 - bs.length) 0
theorem fill128_len {bs : List UInt8} (h : bs.length ≤ 128) : (fill128 bs).length = 128 := by simp [fill128]; omega

set_option maxHeartbeats 400000 in
theorem clone_any (A : Option Addr) (n c : Nat) (bs : List UInt8) (w : World) (hx : Rd w A (bs.map u8v)) (hn : bs.length = n) (hc : n ≤ 4294967296) :
    Calls Try.prog 40 #[.slice A n c] w fun e w' => ∃ A' c', e = .returned (.slice A' n c') ∧ w'.ownsRow w.heap.size 5 1 (.slice A' n c') n (bs.map u8v) ∧ Below w.heap.size w w' := by
  have Hn := hide hn; clear hn
  have heq := Lib.run_eql_slice_nil (P := Try.prog) w 48 5 A n c 0 0 Try.underlying48
  rcases A with _ | a
  · have hb : bs = [] := by
      rcases hx with h | ⟨b, o, h, _⟩
      · simpa using h
      · cases h
    subst hb
    have hn0 : n = 0 := Hn.out.symm
    subst hn0
    go_enter Try.func40, Try.ntmps40
    go_wp2_with fail
    go_ret
    exact ⟨none, 0, rfl, World.ownsRow_nil _ _ _ _, Below.refl _ _⟩
  · have own0 := World.ownsRow_lit (base := w.heap.size) (e := 5) (size := 1) w #[] 0 (Nat.le_refl _) (by unfold maxLen; omega) rfl
    go_enter Try.func40, Try.ntmps40
    go_wp2_with (at_builtin; refine wpList_app rfl _ _ rfl Try.el_u8 w.heap.size _ _ _ _ rfl own0 _ _ _ (bs.map u8v) rfl (hx.alloc _) (by rw [List.length_map, Hn.out]; omega) (one_u8 bs) (by unfold maxLen; omega) (by omega) (by simp) ?_; intro A' c' w' ho hc' hg)
    simp only [Nat.zero_add, List.nil_append] at ho hc'
    go_wp2_with fail
    go_ret
    exact ⟨A', c', by simp, ho, ((Below.refl _ _).alloc (Nat.le_refl _) _).grown hg (by simp) (fun k hk => by simp [Value.ownBlock] at hk; omega)⟩

set_option maxHeartbeats 400000 in
theorem fill_no (A : Option Addr) (n c : Nat) (w : World) (h : 128 < n) :
    Calls Try.prog 31 #[.slice A n c] w fun e w' => e = .returned (.tuple #[.slice none 0 0, .int .i64 8]) ∧ w = w' := by
  go_enter Try.func31, Try.ntmps31
  go_wp2_with fail
  go_ret2
  exact ⟨rfl, rfl⟩
set_option maxHeartbeats 400000 in
theorem fill_ok (A : Option Addr) (n c : Nat) (bs : List UInt8) (w : World) (hx : Rd w A (bs.map u8v)) (hn : bs.length = n) (h : n ≤ 128) :
    Calls Try.prog 31 #[.slice A n c] w (Made w 5 1 0 ((fill128 bs).map u8v) 128) := by
  have Hn := hide hn; clear hn
  go_enter Try.func31, Try.ntmps31
  go_wp2_with fail
  refine (clone_any A n c bs w hx Hn.out (by omega)).mono ?_
  rintro e w1 ⟨A1, c1, rfl, ho1, hb1⟩
  go_wp2_with (at_builtin; refine wpList_app_zeros rfl _ _ 3 rfl Try.el_u8 rfl rfl .i64 .i64 Try.underlying3 w.heap.size _ _ _ _ rfl ho1 (128 - n) _ rfl (by omega) (by unfold maxLen; omega) (by omega) hb1.size ?_; intro A' c' w' ho hc' hg)
  have k2 := hb1.grown hg hb1.size (fun k hk => (ho1.lt k hk).1)
  go_wp2_with fail
  go_ret2
  refine ⟨A', c', rfl, ?_, k2⟩
  have e2 : (fill128 bs).map u8v = bs.map u8v ++ List.replicate (128 - n) (.int .u8 0) := by
    rw [fill128, List.map_append, List.map_replicate, Hn.out]; rfl
  rw [e2]
  have e : n + (128 - n) = 128 := by omega
  rwa [e] at ho

set_option maxRecDepth 100000 in
set_option maxHeartbeats 400000 in
theorem refFill_any (s : ByteArray) (w : World) (h : s.size ≤ 128) :
    Calls Try.prog 37 #[.string s] w fun e w' => e = .returned (.string ⟨(fill128 s.data.toList).toArray⟩) ∧ w = w' := by
  go_enter Try.func37, Try.ntmps37
  go_wp2_with fail
  go_loop [0] (fun v => ∃ (k : Nat) (t : ByteArray), s.size + k ≤ 128 ∧ v = .string t ∧ t.data.toList = s.data.toList ++ List.replicate k 0 ∧ t.size = s.size + k) (fun v => match v with | .string t => 128 - t.size | _ => 0)
  case atStart => exact ⟨0, s, by omega, rfl, by simp, rfl⟩
  case round =>
    obtain ⟨k, t, hk, rfl, ht, hts⟩ := hrel
    have Ht := hide ht; have Hts := hide hts; clear ht hts
    by_cases hlt : s.size + k < 128
    · have hlt2 : t.size < 128 := by rw [Hts.out]; exact hlt
      go_wp2_with fail
      go_round
      case rel =>
        refine ⟨k + 1, _, by omega, rfl, ?_, ?_⟩
        · rw [ByteArray.data_append, Array.toList_append, Ht.out, List.append_assoc, List.replicate_succ']
        · rw [ByteArray.size_append, Hts.out]; rfl
      case measure => simp only [ByteArray.size_append]; show 128 - (t.size + 1) < 128 - t.size; omega
    · have hlt2 : ¬ t.size < 128 := by rw [Hts.out]; exact hlt
      have hfill : t.data.toList = fill128 s.data.toList := by
        rw [Ht.out, fill128]
        have e : k = 128 - s.data.toList.length := by rw [Array.length_toList]; show k = 128 - s.size; omega
        rw [← e]
      go_wp2_with fail
      go_ret
      refine ⟨?_, rfl⟩
      have e : t = (⟨(fill128 s.data.toList).toArray⟩ : ByteArray) := by
        apply ByteArray.ext
        rw [← hfill]
      rw [← e]
      simp
end Go.Proofs.Ytalcgnjkhnmmiaa
