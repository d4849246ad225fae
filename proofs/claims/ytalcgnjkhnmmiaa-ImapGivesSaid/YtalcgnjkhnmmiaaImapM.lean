/- A map's block by the document's text. No condition. -/
import Derived.Test.YtalcgnjkhnmmiaaImapL
import Derived.Test.YtalcgnjkhnmmiaaOf
namespace Go.Proofs.Ytalcgnjkhnmmiaa
open Go.RowKit

theorem packB_one (x : Int) (v : Nat) : packB [(x, v)] = octs v x.toNat := by simp [packB]
theorem slotN_bytes (a : Nat) (s : Nat) (v : Nat) : packB (slotN ⟨(a : Int), s, (v : Int)⟩) = octs a 4 ++ octs s 4 ++ octs v 4 := by
  simp [slotN, packB]
def refS (m : List Slot) (k i : Nat) : ByteArray := ⟨(packB (numsP m k i)).toArray⟩
theorem refS_size {m : List Slot} {k i : Nat} (h : i ≤ (tenth m k).length) : (refS m k i).size = 5 + 12 * i := by
  show (packB (numsP m k i)).toArray.size = _
  rw [List.size_toArray, packB_len]
  unfold numsP
  rw [List.map_append, sumW_append]
  have : ∀ l : List Slot, sumW ((l.flatMap slotN).map (·.1)) = 12 * l.length := by
    intro l
    induction l with
    | nil => rfl
    | cons x l ih => rw [List.flatMap_cons, List.map_append, sumW_append, ih, List.length_cons]; simp [slotN, sumW]; omega
  rw [this, List.length_take, Nat.min_eq_left h]
  rfl
set_option maxRecDepth 100000 in
set_option maxHeartbeats 4000000 in
theorem encRef_any (m : List Slot) (k : Nat) (h40 : m.length = 40) (hs : ∀ x ∈ m, x.s < 4294967296) (hm : mayM m) (hk : k < 4) (w : World) :
    Calls Try.prog 23 #[.agg (mapC m), .int .i64 (k : Int)] w fun e w' => e = .returned (.string ⟨(encB m k).toArray⟩) ∧ Below w.heap.size w w' := by
  have H40 := hide h40; have HS := hide hs; have Hm := hide hm
  have Z40 := hide (mapC_size h40)
  have B0 := hide (Blk.new w 28 (mapC m))
  have tl := hide (tenth_len h40 hk)
  have F1 := fun w => octOf_lit1 k w (by omega)
  replace F1 := hide F1
  have e1 : Hid (({ data := #[105, 109, 97, 112] } : ByteArray) ++ ⟨(octs k 1).toArray⟩ = refS m k 0) := by
    have : ({ data := #[105, 109, 97, 112] } : ByteArray) = ⟨(octs 1768776048 4).toArray⟩ := by decide
    rw [this, bytes_append]
    rfl
  clear h40 hs hm
  go_enter Try.func23, Try.ntmps23
  go_wp2_with (go_at_call 36; (with_reducible refine (unhide F1 _).mono ?_); rintro e w1 ⟨rfl, hb1⟩)
  rw [e1.out]
  have B1 := hide (blk1G hb1)
  have hb := hide (nextB box1 hb1)
  clear B0 hb1
  go_loopw [5, 6] (fun s i wr => ∃ j : Nat, j ≤ 10 ∧ i = .int .i64 (10 * (k : Int) + (j : Int)) ∧ s = .string (refS m k j) ∧ Below w1.heap.size w1 wr) (fun _ i _ => (10 * (k : Int) + 10 - intOf i).toNat)
  case atStart => exact ⟨0, by omega, by simp, rfl, Below.refl _ _⟩
  case round =>
    obtain ⟨j, hj, rfl, rfl, hb2⟩ := hrel
    have B2 := hide (B1.out.below hb2 B1.out.lt)
    by_cases hlt : j < 10
    · obtain ⟨x, hx⟩ : ∃ x, (tenth m k)[j]? = some x := ⟨_, List.getElem?_eq_getElem (by rw [tl.out]; exact hlt)⟩
      have hxm := hx
      rw [tenth_get hlt] at hxm
      have hs := numsP_succ hx
      have hr := Hm.out.1 x (List.mem_of_getElem? hxm)
      have hx32 := HS.out x (List.mem_of_getElem? hxm)
      have hsz : (refS m k j).size = 5 + 12 * j := refS_size (by rw [tl.out]; exact hj)
      obtain ⟨a, s, v⟩ := x
      unfold rightS ptrR at hr
      obtain ⟨⟨r1, r2, r3⟩, r4, r5⟩ := hr
      simp only at r1 r2 r4 r5 hx32
      obtain ⟨a, rfl⟩ := Int.eq_ofNat_of_zero_le r1
      obtain ⟨v, rfl⟩ := Int.eq_ofNat_of_zero_le r4
      have c0 := fun y : Ext wr => (map_blk_cells (B2.out.below y.h B2.out.lt) hxm).1
      have c1 := fun y : Ext wr => (map_blk_cells (B2.out.below y.h B2.out.lt) hxm).2.1
      have c2 := fun y : Ext wr => (map_blk_cells (B2.out.below y.h B2.out.lt) hxm).2.2
      simp only at c0 c1 c2
      have la := octs_length a 4; have ls := octs_length s 4; have lv := octs_length v 4
      have G0 := hide (fun w => octOf_lit4 a w (by omega))
      have G1 := hide (fun w => octOf_lit4 s w (by omega))
      have G2 := hide (fun w => octOf_lit4 v w (by omega))
      have hs2 : Hid (refS m k j ++ (⟨(octs a 4).toArray⟩ ++ ⟨(octs s 4).toArray⟩ ++ ⟨(octs v 4).toArray⟩) = refS m k (j + 1)) := by
        rw [bytes_append, bytes_append]
        unfold refS
        rw [bytes_append, hs, packB_append, slotN_bytes]
        exact (rfl : _ = _)
      clear hs hx hxm r3
      go_wp2_with fail
      refine wp_region_ext wr (by kernel_rfl) (by kernel_rfl) (Below.refl _ _) ?_
      repeat (first | go_big_quiet_step ((first | (go_at_call 36; first | (with_reducible exact Ext.call _ (unhide G0 _)) | (with_reducible exact Ext.call _ (unhide G1 _)) | (with_reducible exact Ext.call _ (unhide G2 _))))) | quiet_step ((first | (go_at_call 36; first | (with_reducible exact Ext.call _ (unhide G0 _)) | (with_reducible exact Ext.call _ (unhide G1 _)) | (with_reducible exact Ext.call _ (unhide G2 _))))))
      refine wpQuiet_nil ?_
      intro wx hw'
      obtain ⟨⟨_, hx⟩, rfl⟩ := hw'
      rw [hs2.out]
      have hb3 := hide (nextB hb2 hx)
      clear c0 c1 c2 la ls lv
      go_wp2_with fail
      go_roundw
      case rel => exact ⟨j + 1, by omega, by go_num, rfl, hb3.out⟩
      case measure => simp [intOf]; omega
    · obtain rfl : j = 10 := by omega
      have hsz : (refS m k 10).size = 5 + 12 * 10 := refS_size (by rw [tl.out]; exact hj)
      have G := hide (refFill_any (refS m k 10) wr (by omega))
      have hbb := hide (nextB hb.out hb2)
      go_wp2_with (go_at_call 37; (with_reducible refine (unhide G).mono ?_); rintro e w3 ⟨rfl, rfl⟩)
      go_ret
      exact ⟨rfl, hbb.out⟩
end Go.Proofs.Ytalcgnjkhnmmiaa
