import Derived.Test.YtalcgnjkhnmmiaaImapA
namespace Go.Proofs.Ytalcgnjkhnmmiaa
open Go.RowKit

theorem map_blk_cells {w : World} {g : Nat} {t : TypeId} {m : List Slot} (h : Blk w g t (mapC m)) {i : Nat} {x : Slot} (hx : m[i]? = some x) :
    w.cell? ⟨g, i * 3, none⟩ = some (.int .i64 x.a) ∧ w.cell? ⟨g, i * 3 + 1, none⟩ = some (.int .u32 (x.s : Int)) ∧ w.cell? ⟨g, i * 3 + 2, none⟩ = some (.int .i64 x.v) :=
  ⟨Blk.flat_cell slotC_len h hx (j := 0) rfl, Blk.flat_cell slotC_len h hx (j := 1) rfl, Blk.flat_cell slotC_len h hx (j := 2) rfl⟩
theorem slot_ne {x : Slot} (h : x ≠ slot0) : x.a ≠ 0 ∨ x.a = 0 ∧ x.s ≠ 0 ∨ x.a = 0 ∧ x.s = 0 ∧ x.v ≠ 0 := by
  obtain ⟨a, s, v⟩ := x
  by_cases h1 : a = 0
  · by_cases h2 : s = 0
    · refine .inr (.inr ⟨h1, h2, fun h3 => h ?_⟩)
      simp only at h3; subst h1; subst h2; subst h3; rfl
    · exact .inr (.inl ⟨h1, h2⟩)
  · exact .inl h1
theorem mayM_of {m : List Slot} (h40 : m.length = 40) (h : ∀ j x, j < 40 → m[j]? = some x → rightS x) : mayM m ↔ m[0]? = some slot0 := by
  refine ⟨fun hm => hm.2, fun h0 => ⟨fun x hx => ?_, h0⟩⟩
  obtain ⟨j, hj⟩ := List.getElem?_of_mem hx
  exact h j x (by have := (List.getElem?_eq_some_iff.1 hj).1; omega) hj
set_option maxHeartbeats 2000000 in
theorem may_any (m : List Slot) (h40 : m.length = 40) (w : World) :
    Calls Try.prog 18 #[.agg (mapC m)] w fun e w' => e = .returned (.bool (decide (mayM m))) ∧ Below w.heap.size w w' := by
  have H40 := hide h40
  have hIdx := hide (fun (i : Nat) (x : Slot) (hi : i < 40) (hx : m[i]? = some x) => map_index hi hx)
  obtain ⟨b, hb⟩ : ∃ b, b = decide (mayM m) := ⟨_, rfl⟩
  rw [← hb]
  replace hb := hide hb
  clear h40
  have B1 := hide (Blk.new w 28 (mapC m))
  have kb := hide (box1 (w := w) (o := .cells (mapC m) 28))
  go_enter Try.func18, Try.ntmps18
  go_wp2_with (refine wpList_load_row rfl _ _ rfl w.heap.size rfl _ (mapC m) _ _ B1.out Try.arrMap rfl (by rw [mapC_size H40.out]; exact Try.sizeMap) ?_)
  go_loopw [6] (fun i wr => ∃ k : Nat, k ≤ 40 ∧ i = .int .i64 (k : Int) ∧ (∀ j x, j < k → m[j]? = some x → rightS x) ∧ Blk wr w.heap.size 28 (mapC m) ∧ Below w.heap.size w wr) (fun i _ => 40 - (intOf i).toNat)
  case atStart => exact ⟨0, by omega, rfl, fun j x hj => absurd hj (by omega), B1.out, kb.out⟩
  case round =>
    clear B1 kb
    obtain ⟨k, hk, rfl, hr, B1, kb⟩ := hrel
    replace hr := hide hr; replace B1 := hide B1; replace kb := hide kb
    by_cases hlt : k < 40
    · obtain ⟨x, hx⟩ : ∃ x, m[k]? = some x := ⟨_, List.getElem?_eq_getElem (by rw [H40.out]; exact hlt)⟩
      have hi := hIdx.out k x hlt hx
      replace hx := hide hx
      have C := fun w => right_any x.a x.s x.v w
      by_cases hR : rightS x
      · rw [show (⟨x.a, x.s, x.v⟩ : Slot) = x from rfl, decide_eq_true hR] at C
        replace C := hide C
        replace hR := hide hR
        go_wp2_with (go_at_call 25; refine (unhide C _).mono ?_; rintro e w1 ⟨rfl, hb1⟩)
        go_roundw
        case rel =>
          refine ⟨k + 1, by omega, by go_num, fun j y hj hy => ?_, (B1.out.alloc _).below hb1 (B1.out.alloc _).lt, nextB (kb.out.alloc kb.out.size _) hb1⟩
          by_cases hjk : j = k
          · subst hjk
            have := hx.out
            rw [hy] at this
            injection this with this
            rw [this]; exact hR.out
          · exact hr.out j y (by omega) hy
        case measure => simp [intOf]; omega
      · rw [show (⟨x.a, x.s, x.v⟩ : Slot) = x from rfl, decide_eq_false hR] at C
        have hno : b = false := by
          rw [hb.out, decide_eq_false_iff_not]
          exact fun hm => hR (hm.1 x (List.mem_of_getElem? hx.out))
        subst hno
        replace C := hide C
        clear hR
        go_wp2_with (go_at_call 25; refine (unhide C _).mono ?_; rintro e w1 ⟨rfl, hb1⟩)
        go_ret
        exact ⟨rfl, nextB (kb.out.alloc kb.out.size _) hb1⟩
    · obtain rfl : k = 40 := by omega
      obtain ⟨x, hx⟩ : ∃ x, m[0]? = some x := ⟨_, List.getElem?_eq_getElem (by rw [H40.out]; omega)⟩
      have hm := mayM_of H40.out (fun j x hj => hr.out j x hj)
      rw [hx] at hm
      obtain ⟨c0, c1, c2⟩ := map_blk_cells B1.out hx
      simp only [Nat.zero_mul, Nat.zero_add] at c0 c1 c2
      clear hlt hr hx hIdx
      by_cases h0 : x = slot0
      · have : b = true := by rw [hb.out, decide_eq_true_iff, hm, h0]
        subst this; subst h0
        clear hm
        simp only [slot0] at c0 c1 c2
        go_wp2_with fail
        go_ret
        exact ⟨rfl, kb.out⟩
      · have : b = false := by rw [hb.out, decide_eq_false_iff_not, hm]; exact fun h => h0 (by injection h)
        subst this
        clear hm
        have hn := slot_ne h0
        clear h0
        obtain ⟨xa, xs, xv⟩ := x
        simp only at hn c0 c1 c2
        have hn2 : ((xa == 0) = false) ∨ (xa = 0 ∧ ((xs : Int) == 0) = false) ∨ (xa = 0 ∧ xs = 0 ∧ (xv == 0) = false) := by
          rcases hn with h | ⟨h, h2⟩ | ⟨h, h2, h3⟩
          · exact .inl (by simpa using h)
          · exact .inr (.inl ⟨h, by simp; omega⟩)
          · exact .inr (.inr ⟨h, h2, by simpa using h3⟩)
        clear hn
        rcases hn2 with h | ⟨rfl, h⟩ | ⟨rfl, rfl, h⟩
        all_goals
          go_wp2_with fail
          go_ret
          exact ⟨rfl, kb.out⟩
end Go.Proofs.Ytalcgnjkhnmmiaa
