/- Inodes: pointers' numbers, and a block of numbers. Contracts. No condition. -/
import Derived.Test.YtobiepjnnglglaaInB
import Derived.Test.YtobiepjnnglglaaPlainC
import Derived.Test.YtobiepjnnglglaaPack
import Derived.Test.YtobiepjnnglglaaSeal
namespace Go.Proofs.Ytobiepjnnglglaa
set_option linter.unusedSimpArgs false
open Go.RowKit
/-- octets and an error's number, as the call hands them back -/
def MadeR (w : World) (r : List UInt8 × Int) (e : Ending) (w' : World) : Prop :=
  ∃ A c, e = .returned (.tuple #[.slice A r.1.length c, .int .i64 r.2]) ∧ Rd w' A (r.1.map u8v) ∧ r.1.length ≤ c ∧ Below w.heap.size w w'
def ptrN (p : Int × Nat) : List (Int × Nat) := [(4, p.1.toNat), (4, p.2)]
theorem ptrN_len : ∀ p, (ptrN p).length = 2 := fun _ => rfl
def numsI (l : List (Int × Nat)) : List (Int × Nat) := l.flatMap ptrN
theorem numsP_succ {l : List (Int × Nat)} {k : Nat} {p : Int × Nat} (h : l[k]? = some p) : numsI (l.take (k + 1)) = numsI (l.take k) ++ ptrN p := by
  unfold numsI; rw [take_snoc_of h, List.flatMap_append]; simp
/-- numbers of pointers, in a row of the call's own -/
def MadeN (w : World) (l : List (Int × Nat)) (e : Ending) (w' : World) : Prop :=
  ∃ A c, e = .returned (.slice A (2 * l.length) c) ∧ w'.ownsRow w.heap.size 63 2 (.slice A (2 * l.length) c) (2 * l.length) ((numsI l).flatMap numC) ∧ Below w.heap.size w w'
set_option maxRecDepth 100000 in
set_option maxHeartbeats 8000000 in
theorem pointers_any (A : Option Addr) (l : List (Int × Nat)) (n c : Nat) (w : World) (hx : Rd w A (l.flatMap ptrC)) (hn : l.length = n) (hm : n ≤ 4294967296) (ho : l.all okPt = true) (hs : ∀ p ∈ l, p.2 < 4294967296) :
    Calls Try.prog 28 #[.slice A n c] w (MadeN w l) := by
  have Hn := hide hn; have Hx := hide hx; have Ho := hide ho; have Hs := hide hs
  clear hn hx ho hs
  go_enter Try.func28, Try.ntmps28
  go_wp2_with fail
  go_loopw [3, 8] (fun s i wr => ∃ (k : Nat) (A8 : Option Addr) (c8 : Nat), k ≤ n ∧ i = .int .i64 (k : Int) ∧ s = .slice A8 (2 * k) c8 ∧ wr.ownsRow w.heap.size 63 2 (.slice A8 (2 * k) c8) (2 * k) ((numsI (l.take k)).flatMap numC) ∧ Below w.heap.size w wr) (fun _ i _ => n - (intOf i).toNat)
  case atStart => exact ⟨0, none, 0, Nat.zero_le _, rfl, rfl, World.ownsRow_nil _ _ _ _, Below.refl _ _⟩
  case round =>
    obtain ⟨k, A8, c8, hk, rfl, rfl, ho, hb0⟩ := hrel
    by_cases hlt : k < n
    · obtain ⟨g, o, p, rfl, hgl, hpk, hc⟩ := (Hx.out.on hb0).flat ptrC_len (by omega) (k := k) (by rw [Hn.out]; exact hlt)
      have f0 : wr.cell? ⟨g, o + k * 2, none⟩ = some (.int .i64 p.1) := hc 0 _ rfl
      have f1 : wr.cell? ⟨g, o + k * 2 + 1, none⟩ = some (.int .u32 (p.2 : Int)) := hc 1 _ rfl
      have hmem := List.mem_of_getElem? hpk
      have hr : okPt p = true := List.all_eq_true.1 Ho.out p hmem
      have hx32 := Hs.out p hmem
      have hsz := hb0.size
      have hsn := hide (numsP_succ hpk)
      unfold okPt at hr
      simp only [decide_eq_true_iff] at hr
      obtain ⟨a, s⟩ := p
      simp only at f0 f1 hr hx32
      obtain ⟨a, rfl⟩ := Int.eq_ofNat_of_zero_le (show 0 ≤ a by omega)
      have N := hide (fun w => num_any 4 a w (by omega))
      replace ho := hide ho
      clear hc hpk hmem
      go_wp2_with fail
      obtain ⟨row, hrow⟩ : ∃ row, row = (Value.slice A8 (2 * k) c8).ownBlock := ⟨_, rfl⟩
      have hlt0 : Hid (∀ g, some g = row → w.heap.size ≤ g ∧ g < wr.heap.size) := fun g hg => ho.out.lt g (by rw [← hrow]; exact hg.symm)
      have B5 := hide (Blk.new wr 24 #[.int .i64 (a : Int), .int .u32 (s : Int)])
      have ho2 := hide (ho.out.alloc (.cells #[.int .i64 (a : Int), .int .u32 (s : Int)] 24))
      have hb2 := hide (hb0.alloc hsz (.cells #[.int .i64 (a : Int), .int .u32 (s : Int)] 24))
      have hW : (wr.alloc (.cells #[.int .i64 (a : Int), .int .u32 (s : Int)] 24)).heap.size = wr.heap.size + 1 := by simp
      generalize (wr.alloc (.cells #[.int .i64 (a : Int), .int .u32 (s : Int)] 24)) = W at B5 ho2 hb2 hW ⊢
      have y0 : ∀ x : Gro W row, x.w.cell? ⟨wr.heap.size, 0, none⟩ = some (.int .i64 (a : Int)) := fun x => x.cell (B5.out.cell_ 0 _ rfl) (fun e => absurd (hlt0.out _ e).2 (by simp))
      have y1 : ∀ x : Gro W row, x.w.cell? ⟨wr.heap.size, 1, none⟩ = some (.int .u32 (s : Int)) := fun x => x.cell (B5.out.cell_ 1 _ rfl) (fun e => absurd (hlt0.out _ e).2 (by simp))
      replace hrow := hide hrow
      clear f0 f1
      refine wp_region_relW W row 21 (by kernel_rfl) (by kernel_rfl) (Below.refl _ _) ?_
      repeat (apply relW_det (hd := by decide); (intro x; simp only [List.filter_cons, List.filter_nil, lookT, Oper.looksAt, Op.operands, Call.operands, List.filterMap_cons, List.filterMap_nil, List.append_nil, List.contains_cons, List.contains_nil, Nat.reduceBEq, Bool.or_false, Bool.false_or, Bool.or_true, Bool.true_or, Bool.false_eq_true, if_true, if_false, withD_nil, withD_det, List.nil_append, List.cons_append, ↓reduceIte, List.push_toArray, List.append_toArray, List.map_cons, List.map_nil, Option.toArray_none, Option.toArray_some, Array.append_empty, List.getElem?_toArray, List.getElem?_cons_succ, List.getElem?_cons_zero, Option.bind_some, Option.toList_some]; unfold rOne; go_wp2_with fail; (first | (refine ⟨Below.refl _ _, ?_⟩; simp only [opGot, Array.getD_eq_getD_getElem?, List.getElem?_toArray, List.getElem?_cons_succ, List.getElem?_cons_zero, Option.getD_some]; exact rfl) | (refine ⟨by assumption, ?_⟩; simp only [opGot, Array.getD_eq_getD_getElem?, List.getElem?_toArray, List.getElem?_cons_succ, List.getElem?_cons_zero, Option.getD_some]; exact rfl) | (simp only [opGot, Array.getD_eq_getD_getElem?, List.getElem?_toArray, List.getElem?_cons_succ, List.getElem?_cons_zero, Option.getD_some]; exact rfl))))
      apply relW_det (.agg #[.int .i64 4, .int .u64 (a : Int)]) (by decide)
      · intro x; simp only [List.filter_cons, List.filter_nil, lookT, Oper.looksAt, Op.operands, Call.operands, List.filterMap_cons, List.filterMap_nil, List.append_nil, List.contains_cons, List.contains_nil, Nat.reduceBEq, Bool.or_false, Bool.false_or, Bool.or_true, Bool.true_or, Bool.false_eq_true, if_true, if_false, withD_nil, withD_det, List.nil_append, List.cons_append, ↓reduceIte, List.push_toArray, List.append_toArray, List.map_cons, List.map_nil, Option.toArray_none, Option.toArray_some, Array.append_empty, List.getElem?_toArray, List.getElem?_cons_succ, List.getElem?_cons_zero, Option.bind_some, Option.toList_some]; unfold rOne
        go_wp2_with (go_at_call 26; (with_reducible refine (unhide N _).mono ?_); rintro e w1 ⟨rfl, hb1⟩)
        first | exact ⟨hb1, by simp only [opGot, Array.getD_eq_getD_getElem?, List.getElem?_toArray, List.getElem?_cons_succ, List.getElem?_cons_zero, Option.getD_some]⟩ | simp only [opGot, Array.getD_eq_getD_getElem?, List.getElem?_toArray, List.getElem?_cons_succ, List.getElem?_cons_zero, Option.getD_some]
      repeat (apply relW_det (hd := by decide); (intro x; simp only [List.filter_cons, List.filter_nil, lookT, Oper.looksAt, Op.operands, Call.operands, List.filterMap_cons, List.filterMap_nil, List.append_nil, List.contains_cons, List.contains_nil, Nat.reduceBEq, Bool.or_false, Bool.false_or, Bool.or_true, Bool.true_or, Bool.false_eq_true, if_true, if_false, withD_nil, withD_det, List.nil_append, List.cons_append, ↓reduceIte, List.push_toArray, List.append_toArray, List.map_cons, List.map_nil, Option.toArray_none, Option.toArray_some, Array.append_empty, List.getElem?_toArray, List.getElem?_cons_succ, List.getElem?_cons_zero, Option.bind_some, Option.toList_some]; unfold rOne; go_wp2_with fail; (first | (refine ⟨Below.refl _ _, ?_⟩; simp only [opGot, Array.getD_eq_getD_getElem?, List.getElem?_toArray, List.getElem?_cons_succ, List.getElem?_cons_zero, Option.getD_some]; exact rfl) | (refine ⟨by assumption, ?_⟩; simp only [opGot, Array.getD_eq_getD_getElem?, List.getElem?_toArray, List.getElem?_cons_succ, List.getElem?_cons_zero, Option.getD_some]; exact rfl) | (simp only [opGot, Array.getD_eq_getD_getElem?, List.getElem?_toArray, List.getElem?_cons_succ, List.getElem?_cons_zero, Option.getD_some]; exact rfl))))
      apply relW_step (fun v w' => ∃ g, v = .slice (some ⟨g, 0, none⟩) 2 2 ∧ Blk w' g 63 #[.int .i64 4, .int .u64 (a : Int), .int .i64 4, .int .u64 (s : Int)] ∧ some g ≠ row) (by decide)
      · rintro v w1 w2 ⟨g, rfl, hbk, hne⟩ hg
        exact ⟨g, rfl, hbk.grown hg hne, hne⟩
      · intro x
        simp only [List.filter_cons, List.filter_nil, lookT, Oper.looksAt, Op.operands, Call.operands, List.filterMap_cons, List.filterMap_nil, List.append_nil, List.contains_cons, List.contains_nil, Nat.reduceBEq, Bool.or_false, Bool.false_or, Bool.or_true, Bool.true_or, Bool.false_eq_true, if_true, if_false, withD_nil, withD_det, List.nil_append, List.cons_append, ↓reduceIte, List.push_toArray, List.append_toArray, List.map_cons, List.map_nil, Option.toArray_none, Option.toArray_some, Array.append_empty, List.getElem?_toArray, List.getElem?_cons_succ, List.getElem?_cons_zero, Option.bind_some, Option.toList_some]
        unfold rOne
        go_wp2_with fail
        exact ⟨(Below.refl _ _).alloc (Nat.le_refl _) _, _, by simp only [opGot, Array.getD_eq_getD_getElem?, List.getElem?_toArray, List.getElem?_cons_succ, List.getElem?_cons_zero, Option.getD_some], Blk.new _ _ _, fun e => absurd (hlt0.out _ e).2 (by have := x.h.size; omega)⟩
      apply relW_write (fun v w' => ∃ A' c', v = .slice A' (2 * (k + 1)) c' ∧ w'.ownsRow w.heap.size 63 2 (.slice A' (2 * (k + 1)) c') (2 * (k + 1)) ((numsI (l.take (k + 1))).flatMap numC)) rfl
      · rintro v w1 w2 ⟨A, c', rfl, hO⟩ hb
        exact ⟨A, c', rfl, own_below_keep hO hb⟩
      · intro x
        simp only [List.filter_cons, List.filter_nil, lookT, Oper.looksAt, Op.operands, Call.operands, List.filterMap_cons, List.filterMap_nil, List.append_nil, List.contains_cons, List.contains_nil, Nat.reduceBEq, Bool.or_false, Bool.false_or, Bool.or_true, Bool.true_or, Bool.false_eq_true, if_true, if_false, withD_nil, withD_det, List.nil_append, List.cons_append, ↓reduceIte, List.push_toArray, List.append_toArray, List.map_cons, List.map_nil, Option.toArray_none, Option.toArray_some, Array.append_empty, List.getElem?_toArray, List.getElem?_cons_succ, List.getElem?_cons_zero, Option.bind_some, Option.toList_some]
        rw [withD_pr]
        rintro v ⟨g, rfl, hbk, _⟩
        simp only [withD_det, withD_nil, Act.put, List.setIfInBounds_toArray, List.set_cons_succ, List.set_cons_zero]
        unfold rOne
        go_wp2_with (at_builtin; refine wpList_app rfl _ _ rfl Try.el_num w.heap.size _ _ _ _ rfl (own_below_keep ho2.out x.h) _ _ _ [.int .i64 4, .int .u64 (a : Int), .int .i64 4, .int .u64 (s : Int)] rfl hbk.rd rfl (one_num [(4, a), (4, s)]) (by unfold maxLen; omega) (by omega) (by have := x.h.size; omega) ?_; intro A6 c6 w6 ho1 hc1 hg1)
        rw [← hrow.out] at hg1
        rw [hsn.out, List.flatMap_append, Nat.mul_add, Nat.mul_one]
        exact ⟨hg1, A6, c6, by simp only [opGot, Array.getD_eq_getD_getElem?, List.getElem?_toArray, List.getElem?_cons_succ, List.getElem?_cons_zero, Option.getD_some], ho1⟩
      apply relW_post (fun v w' => ∃ A' c', v = .slice A' (2 * (k + 1)) c' ∧ w'.ownsRow w.heap.size 63 2 (.slice A' (2 * (k + 1)) c') (2 * (k + 1)) ((numsI (l.take (k + 1))).flatMap numC)) (by decide) (by kernel_rfl)
      · rintro v w1 w2 ⟨A, c', rfl, hO⟩ hb
        exact ⟨A, c', rfl, own_below_keep hO hb⟩
      · intro x
        simp only [List.filter_cons, List.filter_nil, lookT, Oper.looksAt, Op.operands, Call.operands, List.filterMap_cons, List.filterMap_nil, List.append_nil, List.contains_cons, List.contains_nil, Nat.reduceBEq, Bool.or_false, Bool.false_or, Bool.or_true, Bool.true_or, Bool.false_eq_true, if_true, if_false, withD_nil, withD_det, List.nil_append, List.cons_append, ↓reduceIte, List.push_toArray, List.append_toArray, List.map_cons, List.map_nil, Option.toArray_none, Option.toArray_some, Array.append_empty, List.getElem?_toArray, List.getElem?_cons_succ, List.getElem?_cons_zero, Option.bind_some, Option.toList_some]
        rw [withD_pr]
        rintro v ⟨A', c', rfl, hO⟩
        simp only [withD_det, withD_nil, Act.put, List.setIfInBounds_toArray, List.set_cons_succ, List.set_cons_zero]
        unfold rOne
        go_wp2_with fail
        exact ⟨Below.refl _ _, A', c', by simp only [opGot, Array.getD_eq_getD_getElem?, List.getElem?_toArray, List.getElem?_cons_succ, List.getElem?_cons_zero, Option.getD_some], hO⟩
      refine relW_nil ?_
      intro x
      simp only [List.filter_cons, List.filter_nil, lookT, Oper.looksAt, Op.operands, Call.operands, List.filterMap_cons, List.filterMap_nil, List.append_nil, List.contains_cons, List.contains_nil, Nat.reduceBEq, Bool.or_false, Bool.false_or, Bool.or_true, Bool.true_or, Bool.false_eq_true, if_true, if_false, withD_nil, withD_det, List.nil_append, List.cons_append, ↓reduceIte, List.push_toArray, List.append_toArray, List.map_cons, List.map_nil, Option.toArray_none, Option.toArray_some, Array.append_empty, List.getElem?_toArray, List.getElem?_cons_succ, List.getElem?_cons_zero, Option.bind_some, Option.toList_some]
      rw [withD_pr]
      rintro v ⟨g, rfl, _, _⟩
      try simp only [withD_det]
      rw [withD_pr]
      rintro v ⟨A5, c5, rfl, _⟩
      try simp only [withD_det]
      rw [withD_pr]
      rintro v ⟨A6, c6, rfl, hO⟩
      simp only [withD_det, withD_nil, Act.put, List.setIfInBounds_toArray, List.set_cons_succ, List.set_cons_zero]
      clear y0 y1
      have hbx := hide (hb2.out.grown x.h (by omega) (fun k hk => (hlt0.out k hk.symm).1))
      replace hO := hide hO
      go_wp2_with fail
      go_roundw
      case rel => exact ⟨k + 1, A6, c6, by omega, by go_num, rfl, hO.out, hbx.out⟩
      case measure => simp [intOf]; omega
    · obtain rfl : k = n := by omega
      replace ho := hide ho
      go_wp2_with fail
      go_ret
      have e : l.take k = l := List.take_of_length_le (by rw [Hn.out]; exact Nat.le_refl _)
      have h := ho.out
      rw [e] at h
      exact ⟨A8, c8, by rw [Hn.out]; rfl, by rw [Hn.out]; exact h, hb0⟩
set_option maxRecDepth 100000 in
set_option maxHeartbeats 2000000 in
theorem sealed_any (A : Option Addr) (n c : Nat) (l : List (Int × Nat)) (w : World) (hx : Rd w A (l.flatMap numC)) (hn : l.length = n) (hm : n ≤ 4294967296) (hf : Fits l) (h : (packB l).length ≤ 124) :
    Calls Try.prog 27 #[.slice A n c] w (MadeR w (sealB (packB l), 0)) := by
  have hp := pack_any A n c l w hx hn hm
  rw [packR_ok _ (packE_fits hf)] at hp
  simp only at hp
  have sl := sealB_length (packB l) h
  obtain ⟨k, hk⟩ : ∃ k, (packB l).length = k := ⟨_, rfl⟩
  rw [hk] at hp h
  generalize hB : packB l = B at hp sl hk ⊢
  have F := fun A3 c3 w hx => seal_ok A3 k c3 B w hx hk h
  generalize sealB B = R at F sl ⊢
  replace hp := hide hp; replace F := hide F; replace sl := hide sl
  clear hx hf hm hB hk h
  go_enter Try.func27, Try.ntmps27
  go_wp2_with (first
    | (go_at_call 42; (with_reducible refine (unhide hp).mono ?_); rintro e w3 ⟨A3, c3, rfl, ho3, hb3⟩; have F2 := hide (F.out A3 c3 w3 (Rd.of_own ho3)); clear ho3)
    | (go_at_call 43; (with_reducible refine (unhide F2).mono ?_); rintro e w4 ⟨g4, rfl, B4, hg4, hb4⟩))
  go_ret2
  have hM : MadeR w (R, 0) (.returned (.tuple #[.slice (some ⟨g4, 0, none⟩) 128 128, .int .i64 0])) w4 :=
    ⟨some ⟨g4, 0, none⟩, 128, by rw [show (R, (0 : Int)).1.length = 128 from sl.out], by have := B4.rd; simpa using this, Nat.le_of_eq sl.out, nextB hb3 hb4⟩
  exact hM
end Go.Proofs.Ytobiepjnnglglaa
