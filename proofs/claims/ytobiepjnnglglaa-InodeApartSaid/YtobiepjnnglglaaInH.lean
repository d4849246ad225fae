/- Inodes by the document's text: may a pointer, an inode be; a pointer's octets. No condition. -/
import Derived.Test.YtobiepjnnglglaaInG
import Derived.Test.YtobiepjnnglglaaOf
namespace Go.Proofs.Ytobiepjnnglglaa
open Go.RowKit
set_option maxRecDepth 100000 in
set_option maxHeartbeats 2000000 in
theorem refPointer_any (a : Int) (s : Nat) (w : World) :
    Calls Try.prog 23 #[.agg #[.int .i64 a, .int .u32 (s : Int)]] w fun e w' => e = .returned (.bool (okPt (a, s))) ∧ Below w.heap.size w w' := by
  have B0 := hide (Blk.new w 24 #[.int .i64 a, .int .u32 (s : Int)])
  obtain ⟨r, hr⟩ : ∃ r, okPt (a, s) = r := ⟨_, rfl⟩
  rw [hr]
  unfold okPt at hr
  simp only at hr
  rcases (show a < 0 ∨ (0 ≤ a ∧ 2147483647 < a) ∨ (0 < a ∧ a ≤ 2147483647) ∨ (a = 0 ∧ s = 0) ∨ (a = 0 ∧ 0 < s) by omega) with h1 | ⟨h1, h2⟩ | ⟨h1, h2⟩ | ⟨rfl, rfl⟩ | ⟨rfl, h2⟩
  · rw [decide_eq_false (by omega)] at hr
    subst hr
    go_enter Try.func23, Try.ntmps23
    go_wp2_with fail
    go_ret
    first | exact ⟨rfl, box1⟩ | exact ⟨ret_bool (by simp <;> omega), box1⟩
  · rw [decide_eq_false (by omega)] at hr
    subst hr
    go_enter Try.func23, Try.ntmps23
    go_wp2_with fail
    go_ret
    first | exact ⟨rfl, box1⟩ | exact ⟨ret_bool (by simp <;> omega), box1⟩
  · rw [decide_eq_true (by omega)] at hr
    subst hr
    have h0 : 0 ≤ a := by omega
    go_enter Try.func23, Try.ntmps23
    go_wp2_with fail
    go_ret
    first | exact ⟨rfl, box1⟩ | exact ⟨ret_bool (by simp <;> omega), box1⟩
  · rw [decide_eq_true (by omega)] at hr
    subst hr
    go_enter Try.func23, Try.ntmps23
    go_wp2_with fail
    go_ret
    first | exact ⟨rfl, box1⟩ | exact ⟨ret_bool (by simp <;> omega), box1⟩
  · rw [decide_eq_false (by omega)] at hr
    subst hr
    have h4 : ((s : Int) == 0) = false := by simp; omega
    go_enter Try.func23, Try.ntmps23
    go_wp2_with fail
    go_ret
    first | exact ⟨rfl, box1⟩ | exact ⟨ret_bool (by simp <;> omega), box1⟩
def ptrO (p : Int × Nat) : List UInt8 := packB (ptrN p)
set_option maxRecDepth 100000 in
set_option maxHeartbeats 2000000 in
theorem refptr_any (p : Int × Nat) (ho : okPt p = true) (hs : p.2 < 4294967296) (w : World) :
    Calls Try.prog 36 #[.agg #[.int .i64 p.1, .int .u32 (p.2 : Int)]] w fun e w' => e = .returned (.string ⟨(ptrO p).toArray⟩) ∧ Below w.heap.size w w' := by
  have h1 := okPt_iff ho
  obtain ⟨a, s⟩ := p
  simp only at h1 hs ⊢
  obtain ⟨a, rfl⟩ := Int.eq_ofNat_of_zero_le h1.1
  have B0 := hide (Blk.new w 24 #[.int .i64 (a : Int), .int .u32 (s : Int)])
  have hb := hide (box1 (w := w) (o := .cells #[.int .i64 (a : Int), .int .u32 (s : Int)] 24))
  have la := octs_length a 4; have ls := octs_length s 4
  have G0 := hide (fun w => octOf_lit4 a w (by omega))
  have G1 := hide (fun w => octOf_lit4 s w (by omega))
  have e : (⟨(octs a 4).toArray⟩ ++ ⟨(octs s 4).toArray⟩ : ByteArray) = ⟨(ptrO ((a : Int), s)).toArray⟩ := by
    rw [bytes_append]; unfold ptrO ptrN; simp [packB]
  replace e := hide e
  clear ho
  go_enter Try.func36, Try.ntmps36
  go_wp2_with fail
  generalize (w.alloc _) = W at B0 hb ⊢
  have c0 := fun y : Ext W => (B0.out.below y.h B0.out.lt).cell_ 0 _ rfl
  have c1 := fun y : Ext W => (B0.out.below y.h B0.out.lt).cell_ 1 _ rfl
  refine wp_region_ext W (by kernel_rfl) (by kernel_rfl) (Below.refl _ _) ?_
  repeat (first | go_big_quiet_step ((first | (go_at_call 35; first | (with_reducible exact Ext.call _ (unhide G0 _)) | (with_reducible exact Ext.call _ (unhide G1 _))))) | quiet_step ((first | (go_at_call 35; first | (with_reducible exact Ext.call _ (unhide G0 _)) | (with_reducible exact Ext.call _ (unhide G1 _))))))
  refine wpQuiet_nil ?_
  intro wx hw'
  obtain ⟨⟨_, hx⟩, rfl⟩ := hw'
  rw [e.out]
  clear c0 c1
  go_wp2_with fail
  go_ret
  exact ⟨rfl, nextB hb.out hx⟩
end Go.Proofs.Ytobiepjnnglglaa
