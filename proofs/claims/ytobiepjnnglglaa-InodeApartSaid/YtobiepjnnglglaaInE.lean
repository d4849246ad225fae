/- Nodes' blocks are made; pointers are read. Contracts. No condition. -/
import Derived.Test.YtobiepjnnglglaaInD
import Derived.Test.YtobiepjnnglglaaUnpack
import Derived.Test.YtobiepjnnglglaaEqual
namespace Go.Proofs.Ytobiepjnnglglaa
set_option linter.unusedSimpArgs false
open Go.RowKit
def nodeB (l : List (Int × Nat)) : List UInt8 := sealB (packB (numsI l))
def nodeR (l : List (Int × Nat)) : List UInt8 × Int := if l.length = 15 ∧ l.all okPt = true then (nodeB l, 0) else ([], 1)
set_option maxRecDepth 100000 in
set_option maxHeartbeats 2000000 in
theorem node_any (A : Option Addr) (l : List (Int × Nat)) (n c : Nat) (w : World) (hx : Rd w A (l.flatMap ptrC)) (hn : l.length = n) (hm : n ≤ 4294967296) (hs : ∀ p ∈ l, p.2 < 4294967296) :
    Calls Try.prog 16 #[.slice A n c] w (MadeR w (nodeR l)) := by
  have CP := containsP_any A l n c w hx hn hm
  by_cases h15 : n = 15
  · subst h15
    by_cases ho : l.all okPt = true
    · rw [ho] at CP
      replace CP := hide CP
      rw [show nodeR l = (nodeB l, 0) from if_pos ⟨hn, ho⟩]
      have PN : ∀ (w' : World) (hB : Rd w' A (l.flatMap ptrC)), Calls Try.prog 28 #[.slice A 15 c] w' fun e w2 => ∃ A c, e = .returned (.slice A 30 c) ∧ w2.ownsRow w'.heap.size 63 2 (.slice A 30 c) 30 ((numsI l).flatMap numC) ∧ Below w'.heap.size w' w2 := fun w' hB => by
        have := pointers_any A l 15 c w' hB hn (by decide) ho hs
        unfold MadeN at this
        rw [hn] at this
        exact this
      have hf := numsI_fits ho hs
      have hl : (packB (numsI l)).length ≤ 124 := by rw [packB_len, numsI_sum, hn]; decide
      have SA := fun (A4 : Option Addr) (c4 : Nat) (w' : World) (h : Rd w' A4 ((numsI l).flatMap numC)) => sealed_any A4 30 c4 (numsI l) w' h (by rw [numsI_len, hn]) (by decide) hf hl
      unfold nodeB
      generalize sealB (packB (numsI l)) = R at SA ⊢
      replace PN := hide PN; replace SA := hide SA
      have Hx := hide hx
      clear hf hl hx hn ho hs
      go_enter Try.func16, Try.ntmps16
      go_wp2_with (first
        | (go_at_call 29; (with_reducible refine (unhide CP).mono ?_); rintro e w2 ⟨rfl, hb2⟩; have P2 := hide (PN.out w2 (Hx.out.on hb2)); have hb := hide hb2; clear hb2)
        | (go_at_call 28; (with_reducible refine (unhide P2).mono ?_); rintro e w4 ⟨A4, c4, rfl, ho4, hb4⟩; have F := hide (SA.out A4 c4 w4 (Rd.of_own ho4)); replace hb := hide (nextB hb.out hb4); clear hb4)
        | (go_at_call 27; (with_reducible refine (unhide F).mono ?_); rintro e w8 ⟨A8, c8, rfl, hr8, hc8, hb8⟩))
      go_ret2
      exact (show MadeR w (R, 0) _ _ from ⟨A8, c8, rfl, hr8, hc8, nextB hb.out hb8⟩)
    · rw [show nodeR l = ([], 1) from if_neg (fun h => ho h.2)]
      rw [Bool.not_eq_true] at ho
      rw [ho] at CP
      replace CP := hide CP
      clear hx hn ho hs
      go_enter Try.func16, Try.ntmps16
      go_wp2_with (go_at_call 29; (with_reducible refine (unhide CP).mono ?_); rintro e w2 ⟨rfl, hb2⟩)
      go_ret2
      exact (show MadeR w ([], 1) _ _ from ⟨none, 0, rfl, .inl rfl, Nat.le_refl _, hb2⟩)
  · rw [show nodeR l = ([], 1) from if_neg (fun h => h15 (hn.symm.trans h.1))]
    have h1 : ((n : Int) != 15) = true := by simp; omega
    clear hx hn CP hs
    go_enter Try.func16, Try.ntmps16
    go_wp2_with fail
    go_ret2
    exact (show MadeR w ([], 1) _ _ from ⟨none, 0, rfl, .inl rfl, Nat.le_refl _, Below.refl _ _⟩)
def numAt (b : List UInt8) (p n : Nat) : Nat := beN ((b.drop p).take n)
def ptrAt (b : List UInt8) (i : Nat) : Int × Nat := ((numAt b (8 * i) 4 : Nat), numAt b (8 * i + 4) 4)
/-- so many pointers that stand in octets -/
def ptrsB (b : List UInt8) (n : Nat) : List (Int × Nat) := (List.range n).map (ptrAt b)
theorem ptrsB_succ (b : List UInt8) (n : Nat) : ptrsB b (n + 1) = ptrsB b n ++ [ptrAt b n] := by unfold ptrsB; rw [List.range_succ, List.map_append]; rfl
theorem ptrsB_len (b : List UInt8) (n : Nat) : (ptrsB b n).length = n := by simp [ptrsB]
theorem beN_take (b : List UInt8) (n : Nat) : beN (b.take n) < 256 ^ n :=
  Nat.lt_of_lt_of_le (beN_lt _) (Nat.pow_le_pow_right (by omega) (List.length_take_le n b))
theorem ptrsB_lt (b : List UInt8) (n : Nat) : ∀ p ∈ ptrsB b n, p.2 < 4294967296 := by
  intro p hp
  obtain ⟨i, _, rfl⟩ := List.mem_map.1 hp
  exact beN_take _ 4
theorem unpackP (b : List UInt8) (i : Nat) (h : 8 * i + 8 ≤ b.length) : unpackR (b.drop (8 * i)) [4, 4] = (0, [numAt b (8 * i) 4, numAt b (8 * i + 4) 4]) := by
  have h1 : okW [4, 4] = true := by decide
  have h2 : sumW [4, 4] = 8 := by decide
  rw [unpackR, if_pos h1, if_pos (by rw [h2, List.length_drop]; omega)]
  simp [nums, numAt, List.drop_drop]
theorem Try.el_ptr : Elem Try.prog 42 24 (.agg #[.int .i64 0, .int .u32 0]) 2 16 := ⟨Try.underlying42, by kernel_rfl, rfl, by decide⟩
theorem one_ptr (l : List (Int × Nat)) : ∀ u ∈ l.flatMap ptrC, u.oneCell' = true := by
  intro u hu
  obtain ⟨x, _, hx⟩ := List.mem_flatMap.1 hu
  simp [ptrC] at hx
  rcases hx with rfl | rfl <;> rfl
/-- pointers in a row of the call's own -/
def MadeP (w : World) (l : List (Int × Nat)) (e : Ending) (w' : World) : Prop :=
  ∃ A c, e = .returned (.slice A l.length c) ∧ w'.ownsRow w.heap.size 24 2 (.slice A l.length c) l.length (l.flatMap ptrC) ∧ Below w.heap.size w w'
set_option maxRecDepth 100000 in
set_option maxHeartbeats 8000000 in
theorem ptrs_any (A : Option Addr) (m c : Nat) (bs : List UInt8) (n : Nat) (w : World) (hA : Rd w A (bs.map u8v)) (hn : bs.length = m) (hc : m ≤ c) (h8 : 8 * n ≤ m) (hm : m ≤ 4294967296) (h1 : 1 ≤ n) :
    Calls Try.prog 33 #[.slice A m c, .int .i64 (n : Int)] w (MadeP w (ptrsB bs n)) := by
  obtain ⟨b0, o0, rfl⟩ : ∃ b o, A = some ⟨b, o, none⟩ := by
    rcases hA with h | ⟨b, o, h, _⟩
    · have := congrArg List.length h
      simp [hn] at this; omega
    · exact ⟨b, o, h⟩
  have HA := hide hA; have Hn := hide hn
  clear hA hn
  go_enter Try.func33, Try.ntmps33
  go_wp2_with fail
  go_loopw [5, 10] (fun s i wr => ∃ (k : Nat) (A8 : Option Addr) (c8 : Nat), k ≤ n ∧ i = .int .i64 (k : Int) ∧ s = .slice A8 k c8 ∧ wr.ownsRow w.heap.size 24 2 (.slice A8 k c8) k ((ptrsB bs k).flatMap ptrC) ∧ Below w.heap.size w wr) (fun _ i _ => n - (intOf i).toNat)
  case atStart => exact ⟨0, none, 0, Nat.zero_le _, rfl, rfl, World.ownsRow_nil _ _ _ _, Below.refl _ _⟩
  case round =>
    obtain ⟨k, A8, c8, hk, rfl, rfl, ho, hb0⟩ := hrel
    by_cases hlt : k < n
    · have hU := unpackP bs k (by rw [Hn.out]; omega)
      have hsn : Hid (ptrsB bs (k + 1) = ptrsB bs k ++ [(((numAt bs (8 * k) 4 : Nat) : Int), numAt bs (8 * k + 4) 4)]) := hide (ptrsB_succ bs k)
      have a0 : numAt bs (8 * k) 4 < 4294967296 := beN_take _ 4
      have s0 : numAt bs (8 * k + 4) 4 < 4294967296 := beN_take _ 4
      generalize numAt bs (8 * k) 4 = a at hU hsn a0
      generalize numAt bs (8 * k + 4) 4 = s at hU hsn s0
      have Rb := (HA.out.on hb0).cut (k := 8 * k) (n := m) (cap := c) (by rw [List.length_map, Hn.out]; exact Nat.le_refl _) hc
      rw [if_neg (by omega), ← List.map_drop] at Rb
      have Rb2 : Rd wr (some ⟨b0, o0 + 8 * k, none⟩) ((bs.drop (8 * k)).map u8v) := by
        have e : Addr.add ⟨b0, o0, none⟩ (8 * k) = ⟨b0, o0 + 8 * k, none⟩ := by
          by_cases h0 : 8 * k = 0 <;> simp [Addr.add, h0]
        simpa [e] using Rb
      have U := unpack_any (some ⟨b0, o0 + 8 * k, none⟩) (some ⟨wr.heap.size, 0, none⟩) (m - 8 * k) (c - 8 * k) 2 2 (bs.drop (8 * k)) [4, 4] (wr.alloc (.cells #[.int .i64 4, .int .i64 4] 3))
        (Rb2.alloc _) (Blk.new wr 3 #[.int .i64 4, .int .i64 4]).rd (by rw [List.length_drop, Hn.out]) (by omega) rfl (by decide)
      rw [hU] at U
      replace U := hide U
      have hsz := hb0.size
      replace ho := hide ho
      clear hU Rb Rb2
      go_upto_region 6 with (go_at_call 32; (with_reducible refine (unhide U).mono ?_); rintro e w4 ⟨A4, c4, rfl, ho4, hb4⟩)
      obtain ⟨g4, rfl, hg4⟩ := own_some ho4 (by simp)
      have hr4 := Rd.of_own ho4
      have q0 : w4.cell? ⟨g4, 0, none⟩ = some (.int .u64 (a : Int)) := hr4.cell (k := 0) rfl
      have q1 : w4.cell? ⟨g4, 1, none⟩ = some (.int .u64 (s : Int)) := by have := hr4.cell (k := 1) rfl; rwa [Nat.zero_add] at this
      have hg4' : wr.heap.size < g4 := Nat.lt_of_lt_of_le (show wr.heap.size < (wr.alloc (.cells #[.int .i64 4, .int .i64 4] 3)).heap.size by simp) hg4
      have kb4 : Below wr.heap.size wr w4 := nextB box1 hb4
      obtain ⟨row, hrow⟩ : ∃ row, row = (Value.slice A8 k c8).ownBlock := ⟨_, rfl⟩
      have hlt0 : Hid (∀ g, some g = row → w.heap.size ≤ g ∧ g < wr.heap.size) := fun g hg => ho.out.lt g (by rw [← hrow]; exact hg.symm)
      have ho2 := hide (own_below_keep ho.out kb4)
      have hb2 := hide (nextB hb0 kb4)
      have hW := kb4.size
      have y0 : ∀ x : Gro w4 row, x.w.cell? ⟨g4, 0, none⟩ = some (.int .u64 (a : Int)) := fun x => x.cell q0 (fun e => absurd (hlt0.out _ e).2 (by simp; omega))
      have y1 : ∀ x : Gro w4 row, x.w.cell? ⟨g4, 1, none⟩ = some (.int .u64 (s : Int)) := fun x => x.cell q1 (fun e => absurd (hlt0.out _ e).2 (by simp; omega))
      have e5 : IntKind.i64.wrap (a : Int) = a := IntWalk.i64_in _ (by omega)
      have e6 : IntKind.u32.wrap (s : Int) = s := by rw [IntKind.wrap_u32]; omega
      replace hrow := hide hrow
      clear ho4 hb4 hr4 q0 q1 U kb4
      refine wp_region_relW w4 row 33 (by kernel_rfl) (by kernel_rfl) (Below.refl _ _) ?_
      repeat (apply relW_det (hd := by decide); (intro x; simp only [List.filter_cons, List.filter_nil, lookT, Oper.looksAt, Op.operands, Call.operands, List.filterMap_cons, List.filterMap_nil, List.append_nil, List.contains_cons, List.contains_nil, Nat.reduceBEq, Bool.or_false, Bool.false_or, Bool.or_true, Bool.true_or, Bool.false_eq_true, if_true, if_false, withD_nil, withD_det, List.nil_append, List.cons_append, ↓reduceIte, List.push_toArray, List.append_toArray, List.map_cons, List.map_nil, Option.toArray_none, Option.toArray_some, Array.append_empty, List.getElem?_toArray, List.getElem?_cons_succ, List.getElem?_cons_zero, Option.bind_some, Option.toList_some]; unfold rOne; go_wp2_with fail; (first | (refine ⟨Below.refl _ _, ?_⟩; simp only [opGot, Array.getD_eq_getD_getElem?, List.getElem?_toArray, List.getElem?_cons_succ, List.getElem?_cons_zero, Option.getD_some]; exact rfl) | (refine ⟨by assumption, ?_⟩; simp only [opGot, Array.getD_eq_getD_getElem?, List.getElem?_toArray, List.getElem?_cons_succ, List.getElem?_cons_zero, Option.getD_some]; exact rfl) | (simp only [opGot, Array.getD_eq_getD_getElem?, List.getElem?_toArray, List.getElem?_cons_succ, List.getElem?_cons_zero, Option.getD_some]; exact rfl))))
      apply relW_step (fun v w' => ∃ g, v = .slice (some ⟨g, 0, none⟩) 1 1 ∧ Blk w' g 24 #[.int .i64 (a : Int), .int .u32 (s : Int)] ∧ some g ≠ row) (by decide)
      · rintro v w1 w2 ⟨g, rfl, hbk, hne⟩ hg
        exact ⟨g, rfl, hbk.grown hg hne, hne⟩
      · intro x
        simp only [List.filter_cons, List.filter_nil, lookT, Oper.looksAt, Op.operands, Call.operands, List.filterMap_cons, List.filterMap_nil, List.append_nil, List.contains_cons, List.contains_nil, Nat.reduceBEq, Bool.or_false, Bool.false_or, Bool.or_true, Bool.true_or, Bool.false_eq_true, if_true, if_false, withD_nil, withD_det, List.nil_append, List.cons_append, ↓reduceIte, List.push_toArray, List.append_toArray, List.map_cons, List.map_nil, Option.toArray_none, Option.toArray_some, Array.append_empty, List.getElem?_toArray, List.getElem?_cons_succ, List.getElem?_cons_zero, Option.bind_some, Option.toList_some]
        unfold rOne
        go_wp2_with fail
        exact ⟨(Below.refl _ _).alloc (Nat.le_refl _) _, _, by simp only [opGot, Array.getD_eq_getD_getElem?, List.getElem?_toArray, List.getElem?_cons_succ, List.getElem?_cons_zero, Option.getD_some], Blk.new _ _ _, fun e => absurd (hlt0.out _ e).2 (by have := x.h.size; omega)⟩
      apply relW_write (fun v w' => ∃ A' c', v = .slice A' (k + 1) c' ∧ w'.ownsRow w.heap.size 24 2 (.slice A' (k + 1) c') (k + 1) ((ptrsB bs (k + 1)).flatMap ptrC)) rfl
      · rintro v w1 w2 ⟨A, c', rfl, hO⟩ hb
        exact ⟨A, c', rfl, own_below_keep hO hb⟩
      · intro x
        simp only [List.filter_cons, List.filter_nil, lookT, Oper.looksAt, Op.operands, Call.operands, List.filterMap_cons, List.filterMap_nil, List.append_nil, List.contains_cons, List.contains_nil, Nat.reduceBEq, Bool.or_false, Bool.false_or, Bool.or_true, Bool.true_or, Bool.false_eq_true, if_true, if_false, withD_nil, withD_det, List.nil_append, List.cons_append, ↓reduceIte, List.push_toArray, List.append_toArray, List.map_cons, List.map_nil, Option.toArray_none, Option.toArray_some, Array.append_empty, List.getElem?_toArray, List.getElem?_cons_succ, List.getElem?_cons_zero, Option.bind_some, Option.toList_some]
        rw [withD_pr]
        rintro v ⟨g, rfl, hbk, _⟩
        simp only [withD_det, withD_nil, Act.put, List.setIfInBounds_toArray, List.set_cons_succ, List.set_cons_zero]
        unfold rOne
        go_wp2_with (at_builtin; refine wpList_app rfl _ _ rfl Try.el_ptr w.heap.size _ _ _ _ rfl (own_below_keep ho2.out x.h) _ _ _ [.int .i64 (a : Int), .int .u32 (s : Int)] rfl hbk.rd rfl (one_ptr [((a : Int), s)]) (by unfold maxLen; omega) (by omega) (by have := x.h.size; omega) ?_; intro A6 c6 w6 ho1 hc1 hg1)
        rw [← hrow.out] at hg1
        rw [hsn.out, List.flatMap_append]
        exact ⟨hg1, A6, c6, by simp only [opGot, Array.getD_eq_getD_getElem?, List.getElem?_toArray, List.getElem?_cons_succ, List.getElem?_cons_zero, Option.getD_some], ho1⟩
      apply relW_post (fun v w' => ∃ A' c', v = .slice A' (k + 1) c' ∧ w'.ownsRow w.heap.size 24 2 (.slice A' (k + 1) c') (k + 1) ((ptrsB bs (k + 1)).flatMap ptrC)) (by decide) (by kernel_rfl)
      · rintro v w1 w2 ⟨A, c', rfl, hO⟩ hb
        exact ⟨A, c', rfl, own_below_keep hO hb⟩
      · intro x
        simp only [List.filter_cons, List.filter_nil, lookT, Oper.looksAt, Op.operands, Call.operands, List.filterMap_cons, List.filterMap_nil, List.append_nil, List.contains_cons, List.contains_nil, Nat.reduceBEq, Bool.or_false, Bool.false_or, Bool.or_true, Bool.true_or, Bool.false_eq_true, if_true, if_false, withD_nil, withD_det, List.nil_append, List.cons_append, ↓reduceIte, List.push_toArray, List.append_toArray, List.map_cons, List.map_nil, Option.toArray_none, Option.toArray_some, Array.append_empty, List.getElem?_toArray, List.getElem?_cons_succ, List.getElem?_cons_zero, Option.bind_some, Option.toList_some]
        rw [withD_pr]
        rintro v ⟨A', c', rfl, hO⟩
        simp only [withD_det, withD_nil, Act.put, List.setIfInBounds_toArray, List.set_cons_succ, List.set_cons_zero]
        unfold rOne
        go_wp2_with fail
        exact ⟨Below.refl _ _, A', c', by simp only [opGot, Array.getD_eq_getD_getElem?, List.getElem?_toArray, List.getElem?_cons_succ, List.getElem?_cons_zero, Option.getD_some], hO⟩
      refine relW_nil ?_
      intro x
      simp only [List.filter_cons, List.filter_nil, lookT, Oper.looksAt, Op.operands, Call.operands, List.filterMap_cons, List.filterMap_nil, List.append_nil, List.contains_cons, List.contains_nil, Nat.reduceBEq, Bool.or_false, Bool.false_or, Bool.or_true, Bool.true_or, Bool.false_eq_true, if_true, if_false, withD_nil, withD_det, List.nil_append, List.cons_append, ↓reduceIte, List.push_toArray, List.append_toArray, List.map_cons, List.map_nil, Option.toArray_none, Option.toArray_some, Array.append_empty, List.getElem?_toArray, List.getElem?_cons_succ, List.getElem?_cons_zero, Option.bind_some, Option.toList_some]
      rw [withD_pr]
      rintro v ⟨g, rfl, _, _⟩
      try simp only [withD_det]
      rw [withD_pr]
      rintro v ⟨A5, c5, rfl, _⟩
      try simp only [withD_det]
      rw [withD_pr]
      rintro v ⟨A6, c6, rfl, hO⟩
      simp only [withD_det, withD_nil, Act.put, List.setIfInBounds_toArray, List.set_cons_succ, List.set_cons_zero]
      clear y0 y1 e5 e6
      have hbx := hide (hb2.out.grown x.h (by omega) (fun k hk => (hlt0.out k hk.symm).1))
      replace hO := hide hO
      go_wp2_with fail
      go_roundw
      case rel => exact ⟨k + 1, A6, c6, by omega, by go_num, rfl, hO.out, hbx.out⟩
      case measure => simp [intOf]; omega
    · obtain rfl : k = n := by omega
      replace ho := hide ho
      go_wp2_with fail
      go_ret
      exact ⟨A8, c8, by rw [ptrsB_len]; rfl, by rw [ptrsB_len]; exact ho.out, hb0⟩
end Go.Proofs.Ytobiepjnnglglaa
