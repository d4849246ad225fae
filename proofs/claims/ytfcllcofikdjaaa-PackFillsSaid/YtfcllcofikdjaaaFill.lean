import Derived.Test.YtfcllcofikdjaaaFew
import Derived.Test.YtfcllcofikdjaaaAppZ
namespace Go.Proofs.Ytfcllcofikdjaaa
open Go.RowKit

/-- octets, and noughts up to 128 -/
def fill128 (bs : List UInt8) : List UInt8 := bs ++ List.replicate (128 - bs.length) 0

set_option maxHeartbeats 400000 in
theorem clone_any (A : Option Addr) (n c : Nat) (bs : List UInt8) (w : World) (hx : Rd w A (bs.map u8v)) (hn : bs.length = n) (hc : n ≤ 4294967296) :
    Calls Try.prog 19 #[.slice A n c] w fun e w' => ∃ A' c', e = .returned (.slice A' n c') ∧ w'.ownsRow w.heap.size 5 1 (.slice A' n c') n (bs.map u8v) ∧ Below w.heap.size w w' := by
  have Hn := hide hn; clear hn
  have heq := Lib.run_eql_slice_nil (P := Try.prog) w 22 5 A n c 0 0 Try.underlying22
  rcases A with _ | a
  · have hb : bs = [] := by
      rcases hx with h | ⟨b, o, h, _⟩
      · simpa using h
      · cases h
    subst hb
    have hn0 : n = 0 := Hn.out.symm
    subst hn0
    go_enter Try.func19, Try.ntmps19
    go_wp2_with fail
    go_ret
    exact ⟨none, 0, rfl, World.ownsRow_nil _ _ _ _, Below.refl _ _⟩
  · have own0 := World.ownsRow_lit (base := w.heap.size) (e := 5) (size := 1) w #[] 0 (Nat.le_refl _) (by unfold maxLen; omega) rfl
    go_enter Try.func19, Try.ntmps19
    go_wp2_with (at_builtin; refine wpList_app rfl _ _ rfl Try.el_u8 w.heap.size _ _ _ _ rfl own0 _ _ _ (bs.map u8v) rfl (hx.alloc _) (by rw [List.length_map, Hn.out]; omega) (one_u8 bs) (by unfold maxLen; omega) (by omega) (by simp) ?_; intro A' c' w' ho hc' hg)
    simp only [Nat.zero_add, List.nil_append] at ho hc'
    go_wp2_with fail
    go_ret
    exact ⟨A', c', by simp, ho, ((Below.refl _ _).alloc (Nat.le_refl _) _).grown hg (by simp) (fun k hk => by simp [Value.ownBlock] at hk; omega)⟩

set_option maxHeartbeats 400000 in
theorem fill_no (A : Option Addr) (n c : Nat) (w : World) (h : 128 < n) :
    Calls Try.prog 14 #[.slice A n c] w fun e w' => e = .returned (.tuple #[.slice none 0 0, .int .i64 8]) ∧ w = w' := by
  go_enter Try.func14, Try.ntmps14
  go_wp2_with fail
  go_ret2
  exact ⟨rfl, rfl⟩
set_option maxHeartbeats 400000 in
theorem fill_ok (A : Option Addr) (n c : Nat) (bs : List UInt8) (w : World) (hx : Rd w A (bs.map u8v)) (hn : bs.length = n) (h : n ≤ 128) :
    Calls Try.prog 14 #[.slice A n c] w (Made w 5 1 0 ((fill128 bs).map u8v) 128) := by
  have Hn := hide hn; clear hn
  go_enter Try.func14, Try.ntmps14
  go_wp2_with fail
  refine (clone_any A n c bs w hx Hn.out (by omega)).mono ?_
  rintro e w1 ⟨A1, c1, rfl, ho1, hb1⟩
  go_wp2_with (at_builtin; refine wpList_app_zeros rfl _ _ 3 rfl Try.el_u8 rfl rfl .i64 .i64 Try.underlying3 w.heap.size _ _ _ _ rfl ho1 (128 - n) _ rfl (by omega) (by unfold maxLen; omega) (by omega) hb1.size ?_; intro A' c' w' ho hc' hg)
  have k2 := hb1.grown hg hb1.size (fun k hk => (ho1.lt k hk).1)
  go_wp2_with fail
  go_ret2
  refine ⟨A', c', rfl, ?_, k2⟩
  have e2 : (fill128 bs).map u8v = bs.map u8v ++ List.replicate (128 - n) (.int .u8 0) := by
    rw [fill128, List.map_append, List.map_replicate, Hn.out]; rfl
  rw [e2]
  have e : n + (128 - n) = 128 := by omega
  rwa [e] at ho

/-- are all octets from a place on noughts? -/
def clearB (bs : List UInt8) (p : Int) : Bool := decide (0 ≤ p) && (decide (p ≤ bs.length) && (bs.drop p.toNat).all (· == 0))

set_option maxHeartbeats 400000 in
theorem clear1_any (c : UInt8) (w : World) :
    Calls Try.prog 21 #[.int .u8 (c.toNat : Int)] w fun e w' => e = .returned (.bool (!(c == 0))) ∧ w = w' := by
  go_enter Try.func21, Try.ntmps21
  go_wp2_with fail
  go_ret
  refine ⟨ret_bool ?_, rfl⟩
  rw [Bool.eq_iff_iff]
  simp [← UInt8.toNat_inj]
/-- is there an octet that is no nought? -/
def Found (bs : List UInt8) (w : World) (e : Ending) (w' : World) : Prop := ∃ r : Int, e = .returned (.int .i64 r) ∧ (bs.all (· == 0) = decide (r < 0)) ∧ -1 ≤ r ∧ w = w'
set_option maxHeartbeats 400000 in
theorem indexNz_any (A : Option Addr) (n c : Nat) (bs : List UInt8) (w : World) (hx : Rd w A (bs.map u8v)) (hn : bs.length = n) (hm : n ≤ 4294967296) :
    Calls Try.prog 22 #[.slice A n c, .func (.func 21) #[] #[]] w (Found bs w) := by
  have Hn := hide hn; clear hn
  go_enter Try.func22, Try.ntmps22
  go_wp2_with fail
  go_loop [8] (fun i => ∃ k : Nat, k ≤ n ∧ i = .int .i64 k ∧ (bs.take k).all (· == 0) = true) (fun i => n - (intOf i).toNat)
  case atStart => exact ⟨0, Nat.zero_le _, rfl, rfl⟩
  case round =>
    obtain ⟨k, hk, rfl, hz⟩ := hrel
    have Hz := hide hz; clear hz
    by_cases hlt : k < n
    · obtain ⟨b, o, x, rfl, _, hxk, hcx⟩ := hx.u8 (k := k) (by rw [Hn.out]; exact hlt)
      have Hxk := hide hxk; clear hxk
      by_cases hx0 : x = 0
      · have C := hide (clear1_any x w)
        rw [show (!(x == 0)) = false from by simp [hx0]] at C
        have Hx0 := hide hx0; clear hx0
        go_wp2_with (go_at_call 21; refine (unhide C).mono ?_; rintro e w' ⟨rfl, rfl⟩)
        go_round
        case rel => exact ⟨k + 1, by omega, by go_num, by rw [take_snoc_of Hxk.out, List.all_append, Hz.out, Hx0.out]; rfl⟩
        case measure => simp [intOf]; omega
      · have C := hide (clear1_any x w)
        rw [show (!(x == 0)) = true from by simp [hx0]] at C
        have Hx0 := hide hx0; clear hx0
        go_wp2_with (go_at_call 21; refine (unhide C).mono ?_; rintro e w' ⟨rfl, rfl⟩)
        go_ret
        refine ⟨k, rfl, ?_, by omega, rfl⟩
        rw [decide_eq_false (by omega), List.all_eq_false]
        exact ⟨x, List.mem_of_getElem? Hxk.out, by simpa using Hx0.out⟩
    · obtain rfl : k = n := by omega
      go_wp2_with fail
      go_ret
      refine ⟨-1, rfl, ?_, by omega, rfl⟩
      have := Hz.out
      rw [List.take_of_length_le (Nat.le_of_eq Hn.out)] at this
      rw [this]; rfl
set_option maxHeartbeats 400000 in
theorem containsNz_any (A : Option Addr) (n c : Nat) (bs : List UInt8) (w : World) (hx : Rd w A (bs.map u8v)) (hn : bs.length = n) (hm : n ≤ 4294967296) :
    Calls Try.prog 20 #[.slice A n c, .func (.func 21) #[] #[]] w fun e w' => e = .returned (.bool (!(bs.all (· == 0)))) ∧ w = w' := by
  go_enter Try.func20, Try.ntmps20
  go_wp2_with (go_at_call 22; refine (indexNz_any A n c bs w hx hn hm).mono ?_; rintro e w' ⟨r, rfl, hr, hr1, rfl⟩; have Hr := hide hr; clear hr)
  go_ret
  refine ⟨ret_bool ?_, rfl⟩
  rw [Hr.out]
  by_cases h : r < 0 <;> simp [h] <;> omega
set_option maxHeartbeats 400000 in
theorem clear_no (A : Option Addr) (n c : Nat) (p : Int) (w : World) (h : p < 0 ∨ (n : Int) < p) :
    Calls Try.prog 15 #[.slice A n c, .int .i64 p] w fun e w' => e = .returned (.bool false) ∧ w = w' := by
  rcases h with h | h
  · go_enter Try.func15, Try.ntmps15
    go_wp2_with fail
    go_ret
    exact ⟨rfl, rfl⟩
  · by_cases h0 : 0 ≤ p
    · have hd : decide (p ≤ (n : Int)) = false := by simp; omega
      go_enter Try.func15, Try.ntmps15
      go_wp2_with fail
      go_ret
      exact ⟨rfl, rfl⟩
    · go_enter Try.func15, Try.ntmps15
      go_wp2_with fail
      go_ret
      exact ⟨rfl, rfl⟩
set_option maxHeartbeats 400000 in
theorem clear_yes (A : Option Addr) (n c p : Nat) (bs : List UInt8) (w : World) (hx : Rd w A (bs.map u8v)) (hn : bs.length = n) (h : p ≤ n) (hc : n ≤ c) (hm : n ≤ 4294967296) :
    Calls Try.prog 15 #[.slice A n c, .int .i64 p] w fun e w' => e = .returned (.bool (clearB bs p)) ∧ w = w' := by
  have Hn := hide hn; clear hn
  go_enter Try.func15, Try.ntmps15
  have hd := hx.cut (k := p) (n := n) (cap := c) (by rw [List.length_map, Hn.out]; exact Nat.le_refl _) hc
  rw [← List.map_drop] at hd
  have C := hide (containsNz_any _ (n - p) (c - p) (bs.drop p) w hd (by rw [List.length_drop, Hn.out]) (by omega))
  go_wp2_with (go_at_call 20; refine (unhide C).mono ?_; rintro e w' ⟨rfl, rfl⟩)
  all_goals
    go_ret
    refine ⟨ret_bool ?_, rfl⟩
    have hp : (p : Int) ≤ bs.length := by rw [Hn.out]; omega
    simp [clearB, hp]

theorem clearB_neg (bs : List UInt8) (p : Int) (h : p < 0 ∨ (bs.length : Int) < p) : clearB bs p = false := by
  unfold clearB
  rcases h with h | h
  · rw [decide_eq_false (by omega)]; rfl
  · rw [decide_eq_false (show ¬ p ≤ (bs.length : Int) by omega)]; simp
theorem clear_any (A : Option Addr) (n c : Nat) (p : Int) (bs : List UInt8) (w : World) (hx : Rd w A (bs.map u8v)) (hn : bs.length = n) (hc : n ≤ c) (hm : n ≤ 4294967296) :
    Calls Try.prog 15 #[.slice A n c, .int .i64 p] w fun e w' => e = .returned (.bool (clearB bs p)) ∧ w = w' := by
  by_cases h : p < 0 ∨ (n : Int) < p
  · rw [clearB_neg bs p (by rw [hn]; exact h)]
    exact clear_no A n c p w h
  · obtain ⟨q, rfl⟩ := Int.eq_ofNat_of_zero_le (show 0 ≤ p by omega)
    exact clear_yes A n c q bs w hx hn (by omega) hc hm
set_option maxRecDepth 100000 in
set_option maxHeartbeats 400000 in
theorem refFill_any (s : ByteArray) (w : World) (h : s.size ≤ 128) :
    Calls Try.prog 16 #[.string s] w fun e w' => e = .returned (.string ⟨(fill128 s.data.toList).toArray⟩) ∧ w = w' := by
  go_enter Try.func16, Try.ntmps16
  go_wp2_with fail
  go_loop [0] (fun v => ∃ (k : Nat) (t : ByteArray), s.size + k ≤ 128 ∧ v = .string t ∧ t.data.toList = s.data.toList ++ List.replicate k 0 ∧ t.size = s.size + k) (fun v => match v with | .string t => 128 - t.size | _ => 0)
  case atStart => exact ⟨0, s, by omega, rfl, by simp, rfl⟩
  case round =>
    obtain ⟨k, t, hk, rfl, ht, hts⟩ := hrel
    have Ht := hide ht; have Hts := hide hts; clear ht hts
    by_cases hlt : s.size + k < 128
    · have hlt2 : t.size < 128 := by rw [Hts.out]; exact hlt
      go_wp2_with fail
      go_round
      case rel =>
        refine ⟨k + 1, _, by omega, rfl, ?_, ?_⟩
        · rw [ByteArray.data_append, Array.toList_append, Ht.out, List.append_assoc, List.replicate_succ']
        · rw [ByteArray.size_append, Hts.out]; rfl
      case measure => simp only [ByteArray.size_append]; show 128 - (t.size + 1) < 128 - t.size; omega
    · have hlt2 : ¬ t.size < 128 := by rw [Hts.out]; exact hlt
      have hfill : t.data.toList = fill128 s.data.toList := by
        rw [Ht.out, fill128]
        have e : k = 128 - s.data.toList.length := by rw [Array.length_toList]; show k = 128 - s.size; omega
        rw [← e]
      go_wp2_with fail
      go_ret
      refine ⟨?_, rfl⟩
      have e : t = (⟨(fill128 s.data.toList).toArray⟩ : ByteArray) := by
        apply ByteArray.ext
        rw [← hfill]
      rw [← e]
      simp
end Go.Proofs.Ytfcllcofikdjaaa
