import Derived.Test.YtalcgnjkhnmmiaaImapG
import Derived.Test.YtalcgnjkhnmmiaaOwn
import Derived.Test.YtalcgnjkhnmmiaaQuiet
import Derived.Test.YtalcgnjkhnmmiaaElI
namespace Go.Proofs.Ytalcgnjkhnmmiaa
open Go.RowKit

/-- ten slots from 10 k on -/
def tenth (m : List Slot) (k : Nat) : List Slot := (m.drop (10 * k)).take 10
/-- the blocks in which two maps are not the same, below k -/
def chgL (a b : List Slot) (k : Nat) : List Int := ((List.range k).filter fun j => decide (tenth a j ≠ tenth b j)).map fun (j : Nat) => (j : Int)
def changedM (a b : List Slot) : List Int := if mayM a ∧ mayM b then chgL a b 4 else []
theorem chgL_succ (a b : List Slot) (k : Nat) : chgL a b (k + 1) = chgL a b k ++ (if tenth a k ≠ tenth b k then [(k : Int)] else []) := by
  unfold chgL
  rw [List.range_succ, List.filter_append, List.map_append]
  congr 1
  by_cases h : tenth a k = tenth b k <;> simp [h]
theorem chgL_le (a b : List Slot) (k : Nat) : (chgL a b k).length ≤ k := by
  unfold chgL
  rw [List.length_map]
  have := List.length_filter_le (fun j => decide (tenth a j ≠ tenth b j)) (List.range k)
  simpa using this
theorem flat_drop {α : Type} {f : α → List Value} {z : Nat} (hf : ∀ x, (f x).length = z) : ∀ (l : List α) (i : Nat), (l.flatMap f).drop (i * z) = (l.drop i).flatMap f
  | l, 0 => by simp
  | [], i + 1 => by simp
  | x :: l, i + 1 => by
    rw [List.flatMap_cons, List.drop_succ_cons, ← flat_drop hf l i, Nat.succ_mul, Nat.add_comm, ← List.drop_drop, List.drop_left' (hf x)]
theorem flat_take {α : Type} {f : α → List Value} {z : Nat} (hf : ∀ x, (f x).length = z) : ∀ (l : List α) (i : Nat), (l.flatMap f).take (i * z) = (l.take i).flatMap f
  | l, 0 => by simp
  | [], i + 1 => by simp
  | x :: l, i + 1 => by
    rw [List.flatMap_cons, List.take_succ_cons, List.flatMap_cons, ← flat_take hf l i, Nat.succ_mul, Nat.add_comm, List.take_append]
    rw [hf, List.take_of_length_le (by rw [hf]; omega), Nat.add_sub_cancel_left]
theorem tenth_cells (m : List Slot) (k : Nat) : (tenth m k).flatMap slotC = ((m.flatMap slotC).drop (10 * k * 3)).take 30 := by
  unfold tenth
  rw [flat_drop slotC_len m (10 * k), ← flat_take slotC_len _ 10]
theorem tenth_blk {w : World} {g : Nat} {t : TypeId} {m : List Slot} (h : Blk w g t (mapC m)) (k : Nat) {j : Nat} {u : Value} (hu : ((tenth m k).flatMap slotC)[j]? = some u) : w.cell? ⟨g, 10 * k * 3 + j, none⟩ = some u := by
  refine h.cell_ _ _ ?_
  rw [tenth_cells, List.getElem?_take] at hu
  split at hu
  · rw [List.getElem?_drop] at hu
    simpa [mapC] using hu
  · cases hu
theorem tenth_len {m : List Slot} (h40 : m.length = 40) {k : Nat} (hk : k < 4) : (tenth m k).length = 10 := by
  unfold tenth; rw [List.length_take, List.length_drop, h40]; omega
theorem Try.wideTen : Wide Try.prog 63 30 := ⟨by kernel_rfl, by kernel_rfl⟩
theorem Try.arrTen : Try.prog.underlying 63 = some (.array 10 26) := by kernel_rfl
theorem Try.slSlot : Try.prog.underlying 64 = some (.slice 26) := by kernel_rfl
theorem eqSlot (d : Nat) : EqEl Try.prog 26 (d + 3) slotC (fun _ => True) := by
  intro x y w _ _
  obtain ⟨a, s, v⟩ := x
  obtain ⟨a', s', v'⟩ := y
  have h : (Op.equalIn (d + 3) 26 (.agg #[.int .i64 a, .int .u32 (s : Int), .int .i64 v]) (.agg #[.int .i64 a', .int .u32 (s' : Int), .int .i64 v'])).run Try.prog w = .ok ((a == a' && (s : Int) == (s' : Int)) && v == v') w := by
    rw [run_equalIn_struct w _ _ _ _ (by kernel_rfl) (by kernel_rfl)]
    simp [go_sem]
    by_cases h1 : a = a' <;> by_cases h2 : (s : Int) = (s' : Int) <;> by_cases h3 : v = v' <;> simp [h1, h2, h3]
  refine h.trans ?_
  congr 1
  rw [Bool.eq_iff_iff]
  simp only [Bool.and_eq_true, beq_iff_eq, decide_eq_true_iff, Slot.mk.injEq, and_assoc]
  constructor
  · rintro ⟨h1, h2, h3⟩; exact ⟨h1, by omega, h3⟩
  · rintro ⟨h1, h2, h3⟩; exact ⟨h1, by omega, h3⟩
theorem grown_of_below' {a b : World} (h : Below a.heap.size a b) : a.grownBy b none := ⟨h.os, h.tape, h.output, h.size, fun k hk _ => h.block k hk⟩
/-- a list of numbers that the call made -/
def MadeI (w : World) (l : List Int) (e : Ending) (w' : World) : Prop := ∃ A c, e = .returned (.slice A l.length c) ∧ Rd w' A (l.map i64v) ∧ l.length ≤ c ∧ Below w.heap.size w w'
set_option maxRecDepth 100000 in
set_option maxHeartbeats 4000000 in
theorem changed_any (a b : List Slot) (ha : a.length = 40) (hb : b.length = 40) (w : World) :
    Calls Try.prog 16 #[.agg (mapC a), .agg (mapC b)] w (MadeI w (changedM a b)) := by
  have HA := hide ha; have HB := hide hb
  have CA := fun w => may_any a ha w
  have CB := fun w => may_any b hb w
  have BA := hide ((Blk.new w 28 (mapC a)).alloc (.cells (mapC b) 28))
  have BB := hide (Blk.new_ (w.alloc (.cells (mapC a) 28)) 28 (mapC b) (w.heap.size + 1) (by simp))
  unfold changedM
  by_cases h1 : mayM a
  by_cases h2 : mayM b
  · rw [if_pos ⟨h1, h2⟩]
    rw [decide_eq_true h1] at CA; rw [decide_eq_true h2] at CB
    replace CA := hide CA; replace CB := hide CB
    clear h1 h2 ha hb
    go_enter Try.func16, Try.ntmps16
    go_wp2_with (first
      | (refine wpList_load_row rfl _ (.tmp 2) rfl w.heap.size rfl _ (mapC a) _ _ BA.out Try.arrMap rfl (by rw [mapC_size HA.out]; exact Try.sizeMap) ?_)
      | (refine wpList_load_row_g rfl _ (.tmp 3) rfl (w.heap.size + 1) rfl _ (mapC b) _ _ B1.out Try.arrMap rfl (by rw [mapC_size HB.out]; exact Try.sizeMap) ?_)
      | (go_at_call 18; (with_reducible refine (unhide CA _).mono ?_); rintro e w1 ⟨rfl, hb1⟩; have B0 := hide (BA.out.below hb1 BA.out.lt); have B1 := hide (BB.out.below hb1 BB.out.lt); have hb := hide (nextB box2 hb1); clear hb1)
      | (go_at_call 18; (with_reducible refine (unhide CB _).mono ?_); rintro e w2 ⟨rfl, hb1⟩; replace B0 := hide (B0.out.below hb1 B0.out.lt); replace B1 := hide (B1.out.below hb1 B1.out.lt); replace hb := hide (nextB hb.out hb1); clear hb1))
    go_loopw [5, 15] (fun l i wr => ∃ (k : Nat) (A : Option Addr) (c : Nat), k ≤ 4 ∧ i = .int .i64 (k : Int) ∧ l = .slice A (chgL a b k).length c ∧ wr.ownsRow w2.heap.size 3 1 (.slice A (chgL a b k).length c) (chgL a b k).length ((chgL a b k).map i64v) ∧ Below w2.heap.size w2 wr) (fun _ i _ => 4 - (intOf i).toNat)
    case atStart => exact ⟨0, none, 0, by omega, rfl, rfl, World.ownsRow_nil _ _ _ _, Below.refl _ _⟩
    case round =>
      obtain ⟨k, A, c, hk, rfl, rfl, ho, hb2⟩ := hrel
      replace ho := hide ho
      have D0 := hide (B0.out.below hb2 B0.out.lt); have D1 := hide (B1.out.below hb2 B1.out.lt)
      by_cases hlt : k < 4
      · go_wp2_with fail
        refine wp_region_ext wr (by kernel_rfl) (by kernel_rfl) (Below.refl _ _) ?_
        obtain ⟨r, hr⟩ : ∃ r, r = decide (tenth a k = tenth b k) := ⟨_, rfl⟩
        have EQ := hide (fun w => run_equal_flat (d := 9999) Try.arrTen Try.wideSlot slotC_len (eqSlot 9996) (l := tenth a k) (m := tenth b k) (fun _ _ => trivial) (fun _ _ => trivial) (tenth_len HA.out hlt) (tenth_len HB.out hlt) w)
        rw [← hr] at EQ
        have hs := chgL_succ a b k
        replace hr := hide hr
        repeat (first | go_big_quiet_step ((first | fail)) | quiet_step ((first | fail)))
        refine quiet_slice_array rfl _ _ _ rfl Try.arrMap Try.wideSlot w.heap.size rfl .i64 (10 * k) rfl (by omega) ?_
        refine quiet_slice_h rfl _ _ _ rfl Try.slSlot Try.wideSlot ⟨w.heap.size, 10 * k * 3, none⟩ _ _ rfl .i64 10 rfl (by omega) ?_
        refine quiet_toArray rfl _ _ rfl Try.arrTen _ _ _ rfl (by omega) ?_
        refine quiet_load_at rfl _ _ rfl Try.wideTen w.heap.size (10 * k * 3) rfl ((tenth a k).flatMap slotC) (by rw [flat_length slotC_len, tenth_len HA.out hlt]) (by rintro _ ⟨x, rfl⟩ j u hu; exact tenth_blk (D0.out.below x.h D0.out.lt) k hu) ?_
        repeat (first | go_big_quiet_step ((first | fail)) | quiet_step ((first | fail)))
        refine quiet_slice_array rfl _ _ _ rfl Try.arrMap Try.wideSlot (w.heap.size + 1) rfl .i64 (10 * k) rfl (by omega) ?_
        refine quiet_slice_h rfl _ _ _ rfl Try.slSlot Try.wideSlot ⟨w.heap.size + 1, 10 * k * 3, none⟩ _ _ rfl .i64 10 rfl (by omega) ?_
        refine quiet_toArray rfl _ _ rfl Try.arrTen _ _ _ rfl (by omega) ?_
        refine quiet_load_at rfl _ _ rfl Try.wideTen (w.heap.size + 1) (10 * k * 3) rfl ((tenth b k).flatMap slotC) (by rw [flat_length slotC_len, tenth_len HB.out hlt]) (by rintro _ ⟨x, rfl⟩ j u hu; exact tenth_blk (D1.out.below x.h D1.out.lt) k hu) ?_
        refine quiet_neq rfl _ _ _ _ rfl (by kernel_rfl) ((tenth a k).flatMap slotC).toArray ((tenth b k).flatMap slotC).toArray rfl rfl r (fun w => EQ.out w) ?_
        refine wpQuiet_nil ?_
        intro wx hw'
        obtain ⟨⟨_, hx⟩, rfl⟩ := hw'
        have hb3 := hide (nextB hb2 hx)
        have ho3 := hide (ho.out.kept (grown_of_below' hx) (by cases (Value.slice A (chgL a b k).length c).ownBlock <;> simp))
        clear hx EQ D0 D1 ho
        have hle := chgL_le a b k
        rcases r with _ | _
        · have hne : tenth a k ≠ tenth b k := by have := hr.out; simpa using this.symm
          rw [if_pos hne] at hs
          replace hs := hide hs
          clear hne hr
          have hsz := hb3.out.size
          go_wp2_with (at_builtin; refine wpList_app rfl _ _ rfl Try.el_int w2.heap.size _ _ _ _ rfl (ho3.out.alloc _) _ _ _ [.int .i64 (k : Int)] rfl (Blk.new wx _ #[.int .i64 (k : Int)]).rd rfl (fun u hu => by simp at hu; subst hu; rfl) (by unfold maxLen; omega) (by omega) (by simp; omega) ?_; intro A6 c6 w6 ho1 hc1 hg1)
          have hb6 := hide (own_below ho3.out hb3.out (Nat.le_refl _) hsz hg1)
          replace ho1 := hide ho1
          clear hg1
          go_roundw
          case rel =>
            refine ⟨k + 1, A6, c6, by omega, by go_num, by rw [hs.out, List.length_append]; rfl, ?_, hb6.out⟩
            rw [hs.out, List.length_append, List.map_append]
            exact ho1.out
          case measure => simp [intOf]; omega
        · have hne : tenth a k = tenth b k := by have := hr.out; simpa using this.symm
          rw [if_neg (by simp [hne]), List.append_nil] at hs
          replace hs := hide hs
          clear hne hr
          go_wp2_with fail
          go_roundw
          case rel => exact ⟨k + 1, A, c, by omega, by go_num, by rw [hs.out], by rw [hs.out]; exact ho3.out, hb3.out⟩
          case measure => simp [intOf]; omega
      · obtain rfl : k = 4 := by omega
        have hle := own_cap ho.out
        have hbb := hide (nextB hb.out hb2)
        go_wp2_with fail
        go_ret
        exact ⟨A, c, rfl, Rd.of_own ho.out, hle, hbb.out⟩
  · rw [if_neg (by simp [h2])]
    rw [decide_eq_true h1] at CA; rw [decide_eq_false h2] at CB
    replace CA := hide CA; replace CB := hide CB
    clear h1 h2 ha hb
    go_enter Try.func16, Try.ntmps16
    go_wp2_with (first
      | (refine wpList_load_row rfl _ (.tmp 2) rfl w.heap.size rfl _ (mapC a) _ _ BA.out Try.arrMap rfl (by rw [mapC_size HA.out]; exact Try.sizeMap) ?_)
      | (refine wpList_load_row_g rfl _ (.tmp 3) rfl (w.heap.size + 1) rfl _ (mapC b) _ _ B1.out Try.arrMap rfl (by rw [mapC_size HB.out]; exact Try.sizeMap) ?_)
      | (go_at_call 18; (with_reducible refine (unhide CA _).mono ?_); rintro e w1 ⟨rfl, hb1⟩; have B1 := hide (BB.out.below hb1 BB.out.lt); have hb := hide (nextB box2 hb1); clear hb1)
      | (go_at_call 18; (with_reducible refine (unhide CB _).mono ?_); rintro e w2 ⟨rfl, hb1⟩; replace hb := hide (nextB hb.out hb1); clear hb1))
    go_ret
    exact ⟨none, 0, rfl, Rd.nil _ _, by simp, hb.out⟩
  · rw [if_neg (by simp [h1])]
    rw [decide_eq_false h1] at CA
    replace CA := hide CA
    clear h1 ha hb CB
    go_enter Try.func16, Try.ntmps16
    go_wp2_with (first
      | (refine wpList_load_row rfl _ (.tmp 2) rfl w.heap.size rfl _ (mapC a) _ _ BA.out Try.arrMap rfl (by rw [mapC_size HA.out]; exact Try.sizeMap) ?_)
      | (go_at_call 18; (with_reducible refine (unhide CA _).mono ?_); rintro e w1 ⟨rfl, hb1⟩; have B1 := hide (BB.out.below hb1 BB.out.lt); have hb := hide (nextB box2 hb1); clear hb1))
    go_ret
    exact ⟨none, 0, rfl, Rd.nil _ _, by simp, hb.out⟩
end Go.Proofs.Ytalcgnjkhnmmiaa
