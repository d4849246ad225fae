import Derived.Test.YtkgbgiiopebadaaCrcAwake
import Derived.Test.YtkgbgiiopebadaaOpen
import Derived.Test.YtkgbgiiopebadaaPlain5
import Derived.Test.YtkgbgiiopebadaaRelyW
namespace Go.Proofs.Ytkgbgiiopebadaa
set_option linter.unusedSimpArgs false
open Go.RowKit

/-- the octets of three lists, exclusive-or, as far as the first k -/
def three (a b c : List UInt8) (k : Nat) : List UInt8 := List.zipWith (· ^^^ ·) (List.zipWith (· ^^^ ·) (a.take k) (b.take k)) (c.take k)
theorem three_len {a b c : List UInt8} {k : Nat} (ha : k ≤ a.length) (hb : k ≤ b.length) (hc : k ≤ c.length) : (three a b c k).length = k := by
  simp [three]; omega
theorem three_succ {a b c : List UInt8} {k : Nat} {x y z : UInt8} (ha : a[k]? = some x) (hb : b[k]? = some y) (hc : c[k]? = some z) : three a b c (k + 1) = three a b c k ++ [(x ^^^ y) ^^^ z] := by
  have la : k < a.length := (List.getElem?_eq_some_iff.1 ha).1
  have lb : k < b.length := (List.getElem?_eq_some_iff.1 hb).1
  have lc : k < c.length := (List.getElem?_eq_some_iff.1 hc).1
  unfold three
  rw [take_snoc_of ha, take_snoc_of hb, take_snoc_of hc, List.zipWith_append (by simp; omega), List.zipWith_append (by simp; omega)]
  rfl
theorem crc_three {a b c : List UInt8} {k : Nat} (ha : k ≤ a.length) (hb : k ≤ b.length) (hc : k ≤ c.length) : (crc (a.take k) ^^^ crc (b.take k)) ^^^ crc (c.take k) = crc (three a b c k) := by
  have h1 := regW_xor (a.take k) (b.take k) 0xffffffff#32 0xffffffff#32 (by simp; omega)
  have h2 := regW_xor (List.zipWith (· ^^^ ·) (a.take k) (b.take k)) (c.take k) (0xffffffff#32 ^^^ 0xffffffff#32) 0xffffffff#32 (by simp; omega)
  rw [h1] at h2
  have e : (0xffffffff#32 ^^^ 0xffffffff#32) ^^^ 0xffffffff#32 = (0xffffffff#32 : W32) := by decide
  rw [e] at h2
  unfold crc three
  rw [h2]
  apply BitVec.eq_of_getLsbD_eq; intro i hi
  simp only [BitVec.getLsbD_xor, BitVec.getLsbD_not, hi, decide_true, Bool.true_and]
  cases (regW 0xffffffff#32 (a.take k)).getLsbD i <;> cases (regW 0xffffffff#32 (b.take k)).getLsbD i <;> cases (regW 0xffffffff#32 (c.take k)).getLsbD i <;> rfl
theorem xor8 (x y : UInt8) : bits .xor .u8 (x.toNat : Int) (y.toNat : Int) = ((x ^^^ y).toNat : Int) := by
  rw [u8_xor_nat _ _ x.toNat_lt y.toNat_lt, UInt8.toNat_xor]
theorem Try.info_bytes : True := trivial
/-- the sum of one part -/
theorem sum1_any (A0 : Option Addr) (n c g : Nat) (bs : List UInt8) (w : World) (hb : Blk w g 23 #[.slice A0 n c]) (hr : Rd w A0 (bs.map u8v)) (hl : bs.length = n) (hn : n ≤ 4294967296) :
    Calls Try.prog 10 #[.slice (some ⟨g, 0, none⟩) 1 1] w fun e w' => e = .returned (.int .u32 ((crc bs).toNat : Int)) ∧ Below w.heap.size w w' := by
  have h := sum_any (some ⟨g, 0, none⟩) 1 1 [⟨A0, n, c, bs⟩] w hb.rd rfl (by decide) (by intro s hs; rw [List.mem_singleton] at hs; subst hs; exact ⟨hr, hl, hn⟩)
  have e : allOf [(⟨A0, n, c, bs⟩ : Sl UInt8)] = bs := by simp [allOf]
  rwa [e] at h
set_option maxRecDepth 100000 in
set_option maxHeartbeats 4000000 in
theorem walk_CrcThree (s0 s1 s2 : Sl UInt8) (w : World) (h0 : s0.Ok w (fun c => [u8v c]) (fun _ => True)) (h1 : s1.Ok w (fun c => [u8v c]) (fun _ => True)) (h2 : s2.Ok w (fun c => [u8v c]) (fun _ => True)) :
    Calls Try.prog 7 #[.slice s0.A s0.n s0.c, .slice s1.A s1.n s1.c, .slice s2.A s2.n s2.c] w fun e w' => e = .returned (.bool true) ∧ Below w.heap.size w w' := by
  obtain ⟨A0, n0, c0, la⟩ := s0
  obtain ⟨A1, n1, c1, lb⟩ := s1
  obtain ⟨A2, n2, c2, lc⟩ := s2
  obtain ⟨r0, l0, k0, m0, _⟩ := h0
  obtain ⟨r1, l1, k1, m1, _⟩ := h1
  obtain ⟨r2, l2, k2, m2, _⟩ := h2
  simp only [flat_u8] at r0 r1 r2 l0 l1 l2 k0 k1 k2 m0 m1 m2 ⊢
  obtain ⟨a, na, qa, ga, ea, fa, za, casea⟩ := r0.few 300 l0 k0
  obtain ⟨b, nb, qb, gb, eb, fb, zb, caseb⟩ := r1.few 300 l1 k1
  obtain ⟨c, nc, qc, gc, ec, fc, zc, casec⟩ := r2.few 300 l2 k2
  clear r0 r1 r2 l0 l1 l2 za zb zc m0 m1 m2
  have CA := hide casea; have CB := hide caseb; have CC := hide casec; clear casea caseb casec
  obtain ⟨n, hna, hnb, hnc, hn⟩ : ∃ n, n ≤ na ∧ n ≤ nb ∧ n ≤ nc ∧ (¬ nb < na ∧ ¬ nc < na ∧ n = na ∨ nb < na ∧ ¬ nc < nb ∧ n = nb ∨ ¬ nb < na ∧ nc < na ∧ n = nc ∨ nb < na ∧ nc < nb ∧ n = nc) := by
    by_cases h1 : nb < na
    · by_cases h2 : nc < nb
      · exact ⟨nc, by omega, by omega, by omega, by omega⟩
      · exact ⟨nb, by omega, by omega, by omega, by omega⟩
    · by_cases h2 : nc < na
      · exact ⟨nc, by omega, by omega, by omega, by omega⟩
      · exact ⟨na, by omega, by omega, by omega, by omega⟩
  have ha := hide (show n ≤ a.length by omega); have hb := hide (show n ≤ b.length by omega); have hc := hide (show n ≤ c.length by omega)
  clear ga gb gc
  rcases hn with ⟨x1, x2, rfl⟩ | ⟨x1, x2, rfl⟩ | ⟨x1, x2, rfl⟩ | ⟨x1, x2, rfl⟩
  all_goals
    go_enter Try.func7, Try.ntmps7
    go_wp2_with (go_at_call 8; first | ((with_reducible refine (few_any A0 n0 c0 _ _ k0 CA.out).mono ?_); rintro e w' ⟨rfl, rfl⟩) | ((with_reducible refine (few_any A1 n1 c1 _ _ k1 CB.out).mono ?_); rintro e w' ⟨rfl, rfl⟩) | ((with_reducible refine (few_any A2 n2 c2 _ _ k2 CC.out).mono ?_); rintro e w' ⟨rfl, rfl⟩))
    go_loopw [8, 9] (fun x i wr => ∃ (k : Nat) (A8 : Option Addr) (c8 : Nat), k ≤ n ∧ i = .int .i64 (k : Int) ∧ x = .slice A8 k c8 ∧ wr.ownsRow w.heap.size 5 1 (.slice A8 k c8) k ((three a b c k).map u8v) ∧ Below w.heap.size w wr) (fun _ i _ => n - (intOf i).toNat)
    case atStart => exact ⟨0, none, 0, Nat.zero_le _, rfl, rfl, World.ownsRow_nil _ _ _ _, Below.refl _ _⟩
    case round =>
      obtain ⟨k, A8, c8, hk, rfl, rfl, ho, hb0⟩ := hrel
      by_cases hlt : k < n
      · obtain ⟨b0, o0, u0, rfl, hl0, hu0, hc0⟩ := qa.u8 (k := k) (by have := ha.out; omega)
        obtain ⟨b1, o1, u1, rfl, hl1, hu1, hc1⟩ := qb.u8 (k := k) (by have := hb.out; omega)
        obtain ⟨b2, o2, u2, rfl, hl2, hu2, hc2⟩ := qc.u8 (k := k) (by have := hc.out; omega)
        replace hu0 := hide hu0; replace hu1 := hide hu1; replace hu2 := hide hu2
        have p0 := (hb0.cell hl0).trans hc0; have p1 := (hb0.cell hl1).trans hc1; have p2 := (hb0.cell hl2).trans hc2
        clear hc0 hc1 hc2
        have hsz := hb0.size
        replace ho := hide ho
        obtain ⟨z1, hz1⟩ : ∃ z : UInt8, z = u0 ^^^ u1 := ⟨_, rfl⟩
        obtain ⟨z2, hz2⟩ : ∃ z : UInt8, z = z1 ^^^ u2 := ⟨_, rfl⟩
        have f1 := xor8 u0 u1
        have f2 := xor8 z1 u2
        rw [← hz1] at f1; rw [← hz2] at f2
        replace hz1 := hide hz1; replace hz2 := hide hz2
        go_wp2_with fail
        obtain ⟨row, hrow⟩ : ∃ row, row = (Value.slice A8 k c8).ownBlock := ⟨_, rfl⟩
        have hlt0 : Hid (∀ g, some g = row → w.heap.size ≤ g ∧ g < wr.heap.size) := fun g hg => ho.out.lt g (by rw [← hrow]; exact hg.symm)
        have y0 : ∀ x : Gro wr row, x.w.cell? ⟨b0, o0 + k, none⟩ = some (.int .u8 (u0.toNat : Int)) := fun x => x.cell p0 (fun e => absurd (hlt0.out _ e).1 (Nat.not_le_of_lt hl0))
        have y1 : ∀ x : Gro wr row, x.w.cell? ⟨b1, o1 + k, none⟩ = some (.int .u8 (u1.toNat : Int)) := fun x => x.cell p1 (fun e => absurd (hlt0.out _ e).1 (Nat.not_le_of_lt hl1))
        have y2 : ∀ x : Gro wr row, x.w.cell? ⟨b2, o2 + k, none⟩ = some (.int .u8 (u2.toNat : Int)) := fun x => x.cell p2 (fun e => absurd (hlt0.out _ e).1 (Nat.not_le_of_lt hl2))
        replace hrow := hide hrow
        clear p0 p1 p2
        refine wp_region_relW wr row 51 (by kernel_rfl) (by kernel_rfl) (Below.refl _ _) ?_
        repeat (apply relW_det (hd := by decide); (intro x; simp only [List.filter_cons, List.filter_nil, lookT, Oper.looksAt, Op.operands, Call.operands, List.filterMap_cons, List.filterMap_nil, List.append_nil, List.contains_cons, List.contains_nil, Nat.reduceBEq, Bool.or_false, Bool.false_or, Bool.or_true, Bool.true_or, Bool.false_eq_true, if_true, if_false, withD_nil, withD_det, List.nil_append, List.cons_append, ↓reduceIte, List.push_toArray, List.append_toArray, List.map_cons, List.map_nil, Option.toArray_none, Option.toArray_some, Array.append_empty, List.getElem?_toArray, List.getElem?_cons_succ, List.getElem?_cons_zero, Option.bind_some, Option.toList_some]; unfold rOne; go_wp2_with fail; (first | (refine ⟨Below.refl _ _, ?_⟩; simp only [opGot, Array.getD_eq_getD_getElem?, List.getElem?_toArray, List.getElem?_cons_succ, List.getElem?_cons_zero, Option.getD_some]; exact rfl) | (refine ⟨by assumption, ?_⟩; simp only [opGot, Array.getD_eq_getD_getElem?, List.getElem?_toArray, List.getElem?_cons_succ, List.getElem?_cons_zero, Option.getD_some]; exact rfl) | (simp only [opGot, Array.getD_eq_getD_getElem?, List.getElem?_toArray, List.getElem?_cons_succ, List.getElem?_cons_zero, Option.getD_some]; exact rfl))))
        apply relW_step (fun v w' => ∃ g, v = .slice (some ⟨g, 0, none⟩) 1 1 ∧ Blk w' g 5 #[.int .u8 (z2.toNat : Int)] ∧ some g ≠ row) (by decide)
        · rintro v w1 w2 ⟨g, rfl, hbk, hne⟩ hg
          exact ⟨g, rfl, hbk.grown hg hne, hne⟩
        · intro x
          simp only [List.filter_cons, List.filter_nil, lookT, Oper.looksAt, Op.operands, Call.operands, List.filterMap_cons, List.filterMap_nil, List.append_nil, List.contains_cons, List.contains_nil, Nat.reduceBEq, Bool.or_false, Bool.false_or, Bool.or_true, Bool.true_or, Bool.false_eq_true, if_true, if_false, withD_nil, withD_det, List.nil_append, List.cons_append, ↓reduceIte, List.push_toArray, List.append_toArray, List.map_cons, List.map_nil, Option.toArray_none, Option.toArray_some, Array.append_empty, List.getElem?_toArray, List.getElem?_cons_succ, List.getElem?_cons_zero, Option.bind_some, Option.toList_some]
          unfold rOne
          go_wp2_with fail
          exact ⟨(Below.refl _ _).alloc (Nat.le_refl _) _, _, rfl, Blk.new _ _ _, fun e => absurd (hlt0.out _ e).2 (by have := x.h.size; omega)⟩
        apply relW_write (fun v w' => ∃ A' c', v = .slice A' (k + 1) c' ∧ w'.ownsRow w.heap.size 5 1 (.slice A' (k + 1) c') (k + 1) ((three a b c (k + 1)).map u8v)) rfl
        · rintro v w1 w2 ⟨A, c', rfl, hO⟩ hb
          exact ⟨A, c', rfl, own_below_keep hO hb⟩
        · intro x
          simp only [List.filter_cons, List.filter_nil, lookT, Oper.looksAt, Op.operands, Call.operands, List.filterMap_cons, List.filterMap_nil, List.append_nil, List.contains_cons, List.contains_nil, Nat.reduceBEq, Bool.or_false, Bool.false_or, Bool.or_true, Bool.true_or, Bool.false_eq_true, if_true, if_false, withD_nil, withD_det, List.nil_append, List.cons_append, ↓reduceIte, List.push_toArray, List.append_toArray, List.map_cons, List.map_nil, Option.toArray_none, Option.toArray_some, Array.append_empty, List.getElem?_toArray, List.getElem?_cons_succ, List.getElem?_cons_zero, Option.bind_some, Option.toList_some]
          rw [withD_pr]
          rintro v ⟨g, rfl, hbk, _⟩
          simp only [withD_det, withD_nil, Act.put, List.setIfInBounds_toArray, List.set_cons_succ, List.set_cons_zero]
          unfold rOne
          go_wp2_with (at_builtin; refine wpList_app rfl _ _ rfl Try.el_u8 w.heap.size _ _ _ _ rfl (own_below_keep ho.out x.h) _ _ _ [.int .u8 (z2.toNat : Int)] rfl hbk.rd rfl (fun u hu => by simp at hu; subst hu; rfl) (by unfold maxLen; omega) (by omega) (by have := x.h.size; omega) ?_; intro A6 c6 w6 ho1 hc1 hg1)
          rw [← hrow.out] at hg1
          refine ⟨hg1, A6, c6, by simp only [opGot, Array.getD_eq_getD_getElem?, List.getElem?_toArray, List.getElem?_cons_succ, List.getElem?_cons_zero, Option.getD_some], ?_⟩
          rw [three_succ hu0.out hu1.out hu2.out, ← hz1.out, ← hz2.out, List.map_append]
          exact ho1
        apply relW_post (fun v w' => ∃ A' c', v = .slice A' (k + 1) c' ∧ w'.ownsRow w.heap.size 5 1 (.slice A' (k + 1) c') (k + 1) ((three a b c (k + 1)).map u8v)) (by decide) (by kernel_rfl)
        · rintro v w1 w2 ⟨A, c', rfl, hO⟩ hb
          exact ⟨A, c', rfl, own_below_keep hO hb⟩
        · intro x
          simp only [List.filter_cons, List.filter_nil, lookT, Oper.looksAt, Op.operands, Call.operands, List.filterMap_cons, List.filterMap_nil, List.append_nil, List.contains_cons, List.contains_nil, Nat.reduceBEq, Bool.or_false, Bool.false_or, Bool.or_true, Bool.true_or, Bool.false_eq_true, if_true, if_false, withD_nil, withD_det, List.nil_append, List.cons_append, ↓reduceIte, List.push_toArray, List.append_toArray, List.map_cons, List.map_nil, Option.toArray_none, Option.toArray_some, Array.append_empty, List.getElem?_toArray, List.getElem?_cons_succ, List.getElem?_cons_zero, Option.bind_some, Option.toList_some]
          rw [withD_pr]
          rintro v ⟨A', c', rfl, hO⟩
          simp only [withD_det, withD_nil, Act.put, List.setIfInBounds_toArray, List.set_cons_succ, List.set_cons_zero]
          unfold rOne
          go_wp2_with fail
          exact ⟨Below.refl _ _, A', c', by simp only [opGot, Array.getD_eq_getD_getElem?, List.getElem?_toArray, List.getElem?_cons_succ, List.getElem?_cons_zero, Option.getD_some], hO⟩
        refine relW_nil ?_
        intro x
        simp only [List.filter_cons, List.filter_nil, lookT, Oper.looksAt, Op.operands, Call.operands, List.filterMap_cons, List.filterMap_nil, List.append_nil, List.contains_cons, List.contains_nil, Nat.reduceBEq, Bool.or_false, Bool.false_or, Bool.or_true, Bool.true_or, Bool.false_eq_true, if_true, if_false, withD_nil, withD_det, List.nil_append, List.cons_append, ↓reduceIte, List.push_toArray, List.append_toArray, List.map_cons, List.map_nil, Option.toArray_none, Option.toArray_some, Array.append_empty, List.getElem?_toArray, List.getElem?_cons_succ, List.getElem?_cons_zero, Option.bind_some, Option.toList_some]
        rw [withD_pr]
        rintro v ⟨g, rfl, _, _⟩
        try simp only [withD_det]
        rw [withD_pr]
        rintro v ⟨A5, c5, rfl, _⟩
        try simp only [withD_det]
        rw [withD_pr]
        rintro v ⟨A6, c6, rfl, hO⟩
        simp only [withD_det, withD_nil, Act.put, List.setIfInBounds_toArray, List.set_cons_succ, List.set_cons_zero]
        clear y0 y1 y2 f1 f2
        have hbx := hide (hb0.grown x.h hsz (fun k hk => (hlt0.out k hk.symm).1))
        replace hO := hide hO
        go_wp2_with fail
        go_roundw
        case rel => exact ⟨k + 1, A6, c6, by omega, by go_num, rfl, hO.out, hbx.out⟩
        case measure => simp [intOf]; omega
      · obtain rfl : k = n := by omega
        have xl := three_len ha.out hb.out hc.out
        obtain ⟨u0, hu0⟩ : ∃ u, u = crc (a.take k) := ⟨_, rfl⟩
        obtain ⟨u1, hu1⟩ : ∃ u, u = crc (b.take k) := ⟨_, rfl⟩
        obtain ⟨u2, hu2⟩ : ∃ u, u = crc (c.take k) := ⟨_, rfl⟩
        obtain ⟨u3, hu3⟩ : ∃ u, u = crc (three a b c k) := ⟨_, rfl⟩
        obtain ⟨u4, hu4⟩ : ∃ u, u = u0 ^^^ u1 := ⟨_, rfl⟩
        have hxor : u4 ^^^ u2 = u3 := by rw [hu4, hu0, hu1, hu2, hu3]; exact crc_three ha.out hb.out hc.out
        have S0 := hide (fun (W : World) (g : Nat) (hk : Blk W g 23 #[.slice A0 k c0]) (hx : Below wr.heap.size wr W) => sum1_any A0 k c0 g (a.take k) W hk (by rw [List.map_take]; exact ((qa.on hb0).on hx).take k) (by rw [List.length_take]; have := ha.out; omega) (by omega))
        have S1 := hide (fun (W : World) (g : Nat) (hk : Blk W g 23 #[.slice A1 k c1]) (hx : Below wr.heap.size wr W) => sum1_any A1 k c1 g (b.take k) W hk (by rw [List.map_take]; exact ((qb.on hb0).on hx).take k) (by rw [List.length_take]; have := hb.out; omega) (by omega))
        have S2 := hide (fun (W : World) (g : Nat) (hk : Blk W g 23 #[.slice A2 k c2]) (hx : Below wr.heap.size wr W) => sum1_any A2 k c2 g (c.take k) W hk (by rw [List.map_take]; exact ((qc.on hb0).on hx).take k) (by rw [List.length_take]; have := hc.out; omega) (by omega))
        have S3 := hide (fun (W : World) (g : Nat) (hk : Blk W g 23 #[.slice A8 k c8]) (hx : Below wr.heap.size wr W) => sum1_any A8 k c8 g (three a b c k) W hk ((Rd.of_own ho).on hx) xl (by omega))
        rw [← hu0] at S0; rw [← hu1] at S1; rw [← hu2] at S2; rw [← hu3] at S3
        have f1 := xor_u32 u0 u1
        have f2 := xor_u32 u4 u2
        rw [← hu4] at f1; rw [hxor] at f2
        replace hu0 := hide hu0; replace hu1 := hide hu1; replace hu2 := hide hu2; replace hu3 := hide hu3; replace hu4 := hide hu4; replace hxor := hide hxor; replace xl := hide xl; replace ho := hide ho
        have hb0' := hide hb0
        go_wp2_with fail
        refine wp_region_rel wr (by kernel_rfl) (by kernel_rfl) (Below.refl _ _) ?_
        repeat (apply rel_det; (intro x; simp only [List.filter_cons, List.filter_nil, lookT, Oper.looksAt, Op.operands, Call.operands, List.filterMap_cons, List.filterMap_nil, List.append_nil, List.contains_cons, List.contains_nil, Nat.reduceBEq, Bool.or_false, Bool.false_or, Bool.or_true, Bool.true_or, Bool.false_eq_true, if_true, if_false, withD_nil, withD_det, List.nil_append, List.cons_append, ↓reduceIte, List.push_toArray, List.append_toArray, List.map_cons, List.map_nil, Option.toArray_none, Option.toArray_some, Array.append_empty, List.getElem?_toArray, List.getElem?_cons_succ, List.getElem?_cons_zero, Option.bind_some, Option.toList_some]; unfold rOne; go_wp2_with fail; (first | (refine ⟨Below.refl _ _, ?_⟩; simp only [opGot, Array.getD_eq_getD_getElem?, List.getElem?_toArray, List.getElem?_cons_succ, List.getElem?_cons_zero, Option.getD_some]; exact rfl) | (refine ⟨by assumption, ?_⟩; simp only [opGot, Array.getD_eq_getD_getElem?, List.getElem?_toArray, List.getElem?_cons_succ, List.getElem?_cons_zero, Option.getD_some]; exact rfl) | (simp only [opGot, Array.getD_eq_getD_getElem?, List.getElem?_toArray, List.getElem?_cons_succ, List.getElem?_cons_zero, Option.getD_some]; exact rfl))))
        apply rel_step (fun v w' => ∃ g, v = .slice (some ⟨g, 0, none⟩) 1 1 ∧ Blk w' g 23 #[.slice A0 k c0])
        · rintro v w1 w2 ⟨g, rfl, hbk⟩ hg
          exact ⟨g, rfl, hbk.below hg hbk.lt⟩
        · intro x
          simp only [List.filter_cons, List.filter_nil, lookT, Oper.looksAt, Op.operands, Call.operands, List.filterMap_cons, List.filterMap_nil, List.append_nil, List.contains_cons, List.contains_nil, Nat.reduceBEq, Bool.or_false, Bool.false_or, Bool.or_true, Bool.true_or, Bool.false_eq_true, if_true, if_false, withD_nil, withD_det, List.nil_append, List.cons_append, ↓reduceIte, List.push_toArray, List.append_toArray, List.map_cons, List.map_nil, Option.toArray_none, Option.toArray_some, Array.append_empty, List.getElem?_toArray, List.getElem?_cons_succ, List.getElem?_cons_zero, Option.bind_some, Option.toList_some]
          unfold rOne
          go_wp2_with fail
          exact ⟨(Below.refl _ _).alloc (Nat.le_refl _) _, _, rfl, Blk.new _ _ _⟩
        apply rel_det
        · intro x
          simp only [List.filter_cons, List.filter_nil, lookT, Oper.looksAt, Op.operands, Call.operands, List.filterMap_cons, List.filterMap_nil, List.append_nil, List.contains_cons, List.contains_nil, Nat.reduceBEq, Bool.or_false, Bool.false_or, Bool.or_true, Bool.true_or, Bool.false_eq_true, if_true, if_false, withD_nil, withD_det, List.nil_append, List.cons_append, ↓reduceIte, List.push_toArray, List.append_toArray, List.map_cons, List.map_nil, Option.toArray_none, Option.toArray_some, Array.append_empty, List.getElem?_toArray, List.getElem?_cons_succ, List.getElem?_cons_zero, Option.bind_some, Option.toList_some]
          rw [withD_pr]
          rintro v ⟨g, rfl, hbk⟩
          simp only [withD_det, withD_nil, Act.put, List.setIfInBounds_toArray, List.set_cons_succ, List.set_cons_zero]
          unfold rOne
          go_wp2_with (go_at_call 10; refine (unhide S0 _ _ hbk (x.h)).mono ?_; rintro e w3 ⟨rfl, hb3⟩)
          (first | (refine ⟨Below.refl _ _, ?_⟩; simp only [opGot, Array.getD_eq_getD_getElem?, List.getElem?_toArray, List.getElem?_cons_succ, List.getElem?_cons_zero, Option.getD_some]; exact rfl) | (refine ⟨by assumption, ?_⟩; simp only [opGot, Array.getD_eq_getD_getElem?, List.getElem?_toArray, List.getElem?_cons_succ, List.getElem?_cons_zero, Option.getD_some]; exact rfl) | (simp only [opGot, Array.getD_eq_getD_getElem?, List.getElem?_toArray, List.getElem?_cons_succ, List.getElem?_cons_zero, Option.getD_some]; exact rfl))
        repeat (apply rel_det; (intro x; simp only [List.filter_cons, List.filter_nil, lookT, Oper.looksAt, Op.operands, Call.operands, List.filterMap_cons, List.filterMap_nil, List.append_nil, List.contains_cons, List.contains_nil, Nat.reduceBEq, Bool.or_false, Bool.false_or, Bool.or_true, Bool.true_or, Bool.false_eq_true, if_true, if_false, withD_nil, withD_det, List.nil_append, List.cons_append, ↓reduceIte, List.push_toArray, List.append_toArray, List.map_cons, List.map_nil, Option.toArray_none, Option.toArray_some, Array.append_empty, List.getElem?_toArray, List.getElem?_cons_succ, List.getElem?_cons_zero, Option.bind_some, Option.toList_some]; unfold rOne; go_wp2_with fail; (first | (refine ⟨Below.refl _ _, ?_⟩; simp only [opGot, Array.getD_eq_getD_getElem?, List.getElem?_toArray, List.getElem?_cons_succ, List.getElem?_cons_zero, Option.getD_some]; exact rfl) | (refine ⟨by assumption, ?_⟩; simp only [opGot, Array.getD_eq_getD_getElem?, List.getElem?_toArray, List.getElem?_cons_succ, List.getElem?_cons_zero, Option.getD_some]; exact rfl) | (simp only [opGot, Array.getD_eq_getD_getElem?, List.getElem?_toArray, List.getElem?_cons_succ, List.getElem?_cons_zero, Option.getD_some]; exact rfl))))
        apply rel_step (fun v w' => ∃ g, v = .slice (some ⟨g, 0, none⟩) 1 1 ∧ Blk w' g 23 #[.slice A1 k c1])
        · rintro v w1 w2 ⟨g, rfl, hbk⟩ hg
          exact ⟨g, rfl, hbk.below hg hbk.lt⟩
        · intro x
          simp only [List.filter_cons, List.filter_nil, lookT, Oper.looksAt, Op.operands, Call.operands, List.filterMap_cons, List.filterMap_nil, List.append_nil, List.contains_cons, List.contains_nil, Nat.reduceBEq, Bool.or_false, Bool.false_or, Bool.or_true, Bool.true_or, Bool.false_eq_true, if_true, if_false, withD_nil, withD_det, List.nil_append, List.cons_append, ↓reduceIte, List.push_toArray, List.append_toArray, List.map_cons, List.map_nil, Option.toArray_none, Option.toArray_some, Array.append_empty, List.getElem?_toArray, List.getElem?_cons_succ, List.getElem?_cons_zero, Option.bind_some, Option.toList_some]
          unfold rOne
          go_wp2_with fail
          exact ⟨(Below.refl _ _).alloc (Nat.le_refl _) _, _, rfl, Blk.new _ _ _⟩
        apply rel_det
        · intro x
          simp only [List.filter_cons, List.filter_nil, lookT, Oper.looksAt, Op.operands, Call.operands, List.filterMap_cons, List.filterMap_nil, List.append_nil, List.contains_cons, List.contains_nil, Nat.reduceBEq, Bool.or_false, Bool.false_or, Bool.or_true, Bool.true_or, Bool.false_eq_true, if_true, if_false, withD_nil, withD_det, List.nil_append, List.cons_append, ↓reduceIte, List.push_toArray, List.append_toArray, List.map_cons, List.map_nil, Option.toArray_none, Option.toArray_some, Array.append_empty, List.getElem?_toArray, List.getElem?_cons_succ, List.getElem?_cons_zero, Option.bind_some, Option.toList_some]
          rw [withD_pr]
          rintro v ⟨g, rfl, hbk⟩
          simp only [withD_det, withD_nil, Act.put, List.setIfInBounds_toArray, List.set_cons_succ, List.set_cons_zero]
          unfold rOne
          go_wp2_with (go_at_call 10; refine (unhide S1 _ _ hbk (x.h)).mono ?_; rintro e w3 ⟨rfl, hb3⟩)
          (first | (refine ⟨Below.refl _ _, ?_⟩; simp only [opGot, Array.getD_eq_getD_getElem?, List.getElem?_toArray, List.getElem?_cons_succ, List.getElem?_cons_zero, Option.getD_some]; exact rfl) | (refine ⟨by assumption, ?_⟩; simp only [opGot, Array.getD_eq_getD_getElem?, List.getElem?_toArray, List.getElem?_cons_succ, List.getElem?_cons_zero, Option.getD_some]; exact rfl) | (simp only [opGot, Array.getD_eq_getD_getElem?, List.getElem?_toArray, List.getElem?_cons_succ, List.getElem?_cons_zero, Option.getD_some]; exact rfl))
        repeat (apply rel_det; (intro x; simp only [List.filter_cons, List.filter_nil, lookT, Oper.looksAt, Op.operands, Call.operands, List.filterMap_cons, List.filterMap_nil, List.append_nil, List.contains_cons, List.contains_nil, Nat.reduceBEq, Bool.or_false, Bool.false_or, Bool.or_true, Bool.true_or, Bool.false_eq_true, if_true, if_false, withD_nil, withD_det, List.nil_append, List.cons_append, ↓reduceIte, List.push_toArray, List.append_toArray, List.map_cons, List.map_nil, Option.toArray_none, Option.toArray_some, Array.append_empty, List.getElem?_toArray, List.getElem?_cons_succ, List.getElem?_cons_zero, Option.bind_some, Option.toList_some]; unfold rOne; go_wp2_with fail; (first | (refine ⟨Below.refl _ _, ?_⟩; simp only [opGot, Array.getD_eq_getD_getElem?, List.getElem?_toArray, List.getElem?_cons_succ, List.getElem?_cons_zero, Option.getD_some]; exact rfl) | (refine ⟨by assumption, ?_⟩; simp only [opGot, Array.getD_eq_getD_getElem?, List.getElem?_toArray, List.getElem?_cons_succ, List.getElem?_cons_zero, Option.getD_some]; exact rfl) | (simp only [opGot, Array.getD_eq_getD_getElem?, List.getElem?_toArray, List.getElem?_cons_succ, List.getElem?_cons_zero, Option.getD_some]; exact rfl))))
        apply rel_step (fun v w' => ∃ g, v = .slice (some ⟨g, 0, none⟩) 1 1 ∧ Blk w' g 23 #[.slice A2 k c2])
        · rintro v w1 w2 ⟨g, rfl, hbk⟩ hg
          exact ⟨g, rfl, hbk.below hg hbk.lt⟩
        · intro x
          simp only [List.filter_cons, List.filter_nil, lookT, Oper.looksAt, Op.operands, Call.operands, List.filterMap_cons, List.filterMap_nil, List.append_nil, List.contains_cons, List.contains_nil, Nat.reduceBEq, Bool.or_false, Bool.false_or, Bool.or_true, Bool.true_or, Bool.false_eq_true, if_true, if_false, withD_nil, withD_det, List.nil_append, List.cons_append, ↓reduceIte, List.push_toArray, List.append_toArray, List.map_cons, List.map_nil, Option.toArray_none, Option.toArray_some, Array.append_empty, List.getElem?_toArray, List.getElem?_cons_succ, List.getElem?_cons_zero, Option.bind_some, Option.toList_some]
          unfold rOne
          go_wp2_with fail
          exact ⟨(Below.refl _ _).alloc (Nat.le_refl _) _, _, rfl, Blk.new _ _ _⟩
        apply rel_det
        · intro x
          simp only [List.filter_cons, List.filter_nil, lookT, Oper.looksAt, Op.operands, Call.operands, List.filterMap_cons, List.filterMap_nil, List.append_nil, List.contains_cons, List.contains_nil, Nat.reduceBEq, Bool.or_false, Bool.false_or, Bool.or_true, Bool.true_or, Bool.false_eq_true, if_true, if_false, withD_nil, withD_det, List.nil_append, List.cons_append, ↓reduceIte, List.push_toArray, List.append_toArray, List.map_cons, List.map_nil, Option.toArray_none, Option.toArray_some, Array.append_empty, List.getElem?_toArray, List.getElem?_cons_succ, List.getElem?_cons_zero, Option.bind_some, Option.toList_some]
          rw [withD_pr]
          rintro v ⟨g, rfl, hbk⟩
          simp only [withD_det, withD_nil, Act.put, List.setIfInBounds_toArray, List.set_cons_succ, List.set_cons_zero]
          unfold rOne
          go_wp2_with (go_at_call 10; refine (unhide S2 _ _ hbk (x.h)).mono ?_; rintro e w3 ⟨rfl, hb3⟩)
          (first | (refine ⟨Below.refl _ _, ?_⟩; simp only [opGot, Array.getD_eq_getD_getElem?, List.getElem?_toArray, List.getElem?_cons_succ, List.getElem?_cons_zero, Option.getD_some]; exact rfl) | (refine ⟨by assumption, ?_⟩; simp only [opGot, Array.getD_eq_getD_getElem?, List.getElem?_toArray, List.getElem?_cons_succ, List.getElem?_cons_zero, Option.getD_some]; exact rfl) | (simp only [opGot, Array.getD_eq_getD_getElem?, List.getElem?_toArray, List.getElem?_cons_succ, List.getElem?_cons_zero, Option.getD_some]; exact rfl))
        repeat (apply rel_det; (intro x; simp only [List.filter_cons, List.filter_nil, lookT, Oper.looksAt, Op.operands, Call.operands, List.filterMap_cons, List.filterMap_nil, List.append_nil, List.contains_cons, List.contains_nil, Nat.reduceBEq, Bool.or_false, Bool.false_or, Bool.or_true, Bool.true_or, Bool.false_eq_true, if_true, if_false, withD_nil, withD_det, List.nil_append, List.cons_append, ↓reduceIte, List.push_toArray, List.append_toArray, List.map_cons, List.map_nil, Option.toArray_none, Option.toArray_some, Array.append_empty, List.getElem?_toArray, List.getElem?_cons_succ, List.getElem?_cons_zero, Option.bind_some, Option.toList_some]; unfold rOne; go_wp2_with fail; (first | (refine ⟨Below.refl _ _, ?_⟩; simp only [opGot, Array.getD_eq_getD_getElem?, List.getElem?_toArray, List.getElem?_cons_succ, List.getElem?_cons_zero, Option.getD_some]; exact rfl) | (refine ⟨by assumption, ?_⟩; simp only [opGot, Array.getD_eq_getD_getElem?, List.getElem?_toArray, List.getElem?_cons_succ, List.getElem?_cons_zero, Option.getD_some]; exact rfl) | (simp only [opGot, Array.getD_eq_getD_getElem?, List.getElem?_toArray, List.getElem?_cons_succ, List.getElem?_cons_zero, Option.getD_some]; exact rfl))))
        apply rel_step (fun v w' => ∃ g, v = .slice (some ⟨g, 0, none⟩) 1 1 ∧ Blk w' g 23 #[.slice A8 k c8])
        · rintro v w1 w2 ⟨g, rfl, hbk⟩ hg
          exact ⟨g, rfl, hbk.below hg hbk.lt⟩
        · intro x
          simp only [List.filter_cons, List.filter_nil, lookT, Oper.looksAt, Op.operands, Call.operands, List.filterMap_cons, List.filterMap_nil, List.append_nil, List.contains_cons, List.contains_nil, Nat.reduceBEq, Bool.or_false, Bool.false_or, Bool.or_true, Bool.true_or, Bool.false_eq_true, if_true, if_false, withD_nil, withD_det, List.nil_append, List.cons_append, ↓reduceIte, List.push_toArray, List.append_toArray, List.map_cons, List.map_nil, Option.toArray_none, Option.toArray_some, Array.append_empty, List.getElem?_toArray, List.getElem?_cons_succ, List.getElem?_cons_zero, Option.bind_some, Option.toList_some]
          unfold rOne
          go_wp2_with fail
          exact ⟨(Below.refl _ _).alloc (Nat.le_refl _) _, _, rfl, Blk.new _ _ _⟩
        apply rel_det
        · intro x
          simp only [List.filter_cons, List.filter_nil, lookT, Oper.looksAt, Op.operands, Call.operands, List.filterMap_cons, List.filterMap_nil, List.append_nil, List.contains_cons, List.contains_nil, Nat.reduceBEq, Bool.or_false, Bool.false_or, Bool.or_true, Bool.true_or, Bool.false_eq_true, if_true, if_false, withD_nil, withD_det, List.nil_append, List.cons_append, ↓reduceIte, List.push_toArray, List.append_toArray, List.map_cons, List.map_nil, Option.toArray_none, Option.toArray_some, Array.append_empty, List.getElem?_toArray, List.getElem?_cons_succ, List.getElem?_cons_zero, Option.bind_some, Option.toList_some]
          rw [withD_pr]
          rintro v ⟨g, rfl, hbk⟩
          simp only [withD_det, withD_nil, Act.put, List.setIfInBounds_toArray, List.set_cons_succ, List.set_cons_zero]
          unfold rOne
          go_wp2_with (go_at_call 10; refine (unhide S3 _ _ hbk (x.h)).mono ?_; rintro e w3 ⟨rfl, hb3⟩)
          (first | (refine ⟨Below.refl _ _, ?_⟩; simp only [opGot, Array.getD_eq_getD_getElem?, List.getElem?_toArray, List.getElem?_cons_succ, List.getElem?_cons_zero, Option.getD_some]; exact rfl) | (refine ⟨by assumption, ?_⟩; simp only [opGot, Array.getD_eq_getD_getElem?, List.getElem?_toArray, List.getElem?_cons_succ, List.getElem?_cons_zero, Option.getD_some]; exact rfl) | (simp only [opGot, Array.getD_eq_getD_getElem?, List.getElem?_toArray, List.getElem?_cons_succ, List.getElem?_cons_zero, Option.getD_some]; exact rfl))
        repeat (apply rel_det; (intro x; simp only [List.filter_cons, List.filter_nil, lookT, Oper.looksAt, Op.operands, Call.operands, List.filterMap_cons, List.filterMap_nil, List.append_nil, List.contains_cons, List.contains_nil, Nat.reduceBEq, Bool.or_false, Bool.false_or, Bool.or_true, Bool.true_or, Bool.false_eq_true, if_true, if_false, withD_nil, withD_det, List.nil_append, List.cons_append, ↓reduceIte, List.push_toArray, List.append_toArray, List.map_cons, List.map_nil, Option.toArray_none, Option.toArray_some, Array.append_empty, List.getElem?_toArray, List.getElem?_cons_succ, List.getElem?_cons_zero, Option.bind_some, Option.toList_some]; unfold rOne; go_wp2_with fail; (first | (refine ⟨Below.refl _ _, ?_⟩; simp only [opGot, Array.getD_eq_getD_getElem?, List.getElem?_toArray, List.getElem?_cons_succ, List.getElem?_cons_zero, Option.getD_some]; exact rfl) | (refine ⟨by assumption, ?_⟩; simp only [opGot, Array.getD_eq_getD_getElem?, List.getElem?_toArray, List.getElem?_cons_succ, List.getElem?_cons_zero, Option.getD_some]; exact rfl) | (simp only [opGot, Array.getD_eq_getD_getElem?, List.getElem?_toArray, List.getElem?_cons_succ, List.getElem?_cons_zero, Option.getD_some]; exact rfl))))
        apply rel_det
        · intro x
          simp only [List.filter_cons, List.filter_nil, lookT, Oper.looksAt, Op.operands, Call.operands, List.filterMap_cons, List.filterMap_nil, List.append_nil, List.contains_cons, List.contains_nil, Nat.reduceBEq, Bool.or_false, Bool.false_or, Bool.or_true, Bool.true_or, Bool.false_eq_true, if_true, if_false, withD_nil, withD_det, List.nil_append, List.cons_append, ↓reduceIte, List.push_toArray, List.append_toArray, List.map_cons, List.map_nil, Option.toArray_none, Option.toArray_some, Array.append_empty, List.getElem?_toArray, List.getElem?_cons_succ, List.getElem?_cons_zero, Option.bind_some, Option.toList_some]
          unfold rOne
          go_wp2_with (go_at_call 13; refine (awake_any _).mono ?_; rintro e w4 ⟨rfl, hb4⟩)
          (first | (refine ⟨Below.refl _ _, ?_⟩; simp only [opGot, Array.getD_eq_getD_getElem?, List.getElem?_toArray, List.getElem?_cons_succ, List.getElem?_cons_zero, Option.getD_some]; exact rfl) | (refine ⟨by assumption, ?_⟩; simp only [opGot, Array.getD_eq_getD_getElem?, List.getElem?_toArray, List.getElem?_cons_succ, List.getElem?_cons_zero, Option.getD_some]; exact rfl) | (simp only [opGot, Array.getD_eq_getD_getElem?, List.getElem?_toArray, List.getElem?_cons_succ, List.getElem?_cons_zero, Option.getD_some]; exact rfl))
        repeat (apply rel_det; (intro x; simp only [List.filter_cons, List.filter_nil, lookT, Oper.looksAt, Op.operands, Call.operands, List.filterMap_cons, List.filterMap_nil, List.append_nil, List.contains_cons, List.contains_nil, Nat.reduceBEq, Bool.or_false, Bool.false_or, Bool.or_true, Bool.true_or, Bool.false_eq_true, if_true, if_false, withD_nil, withD_det, List.nil_append, List.cons_append, ↓reduceIte, List.push_toArray, List.append_toArray, List.map_cons, List.map_nil, Option.toArray_none, Option.toArray_some, Array.append_empty, List.getElem?_toArray, List.getElem?_cons_succ, List.getElem?_cons_zero, Option.bind_some, Option.toList_some]; unfold rOne; go_wp2_with fail; (first | (refine ⟨Below.refl _ _, ?_⟩; simp only [opGot, Array.getD_eq_getD_getElem?, List.getElem?_toArray, List.getElem?_cons_succ, List.getElem?_cons_zero, Option.getD_some]; exact rfl) | (refine ⟨by assumption, ?_⟩; simp only [opGot, Array.getD_eq_getD_getElem?, List.getElem?_toArray, List.getElem?_cons_succ, List.getElem?_cons_zero, Option.getD_some]; exact rfl) | (simp only [opGot, Array.getD_eq_getD_getElem?, List.getElem?_toArray, List.getElem?_cons_succ, List.getElem?_cons_zero, Option.getD_some]; exact rfl))))
        refine rel_nil ?_
        intro x
        simp only [List.filter_cons, List.filter_nil, lookT, Oper.looksAt, Op.operands, Call.operands, List.filterMap_cons, List.filterMap_nil, List.append_nil, List.contains_cons, List.contains_nil, Nat.reduceBEq, Bool.or_false, Bool.false_or, Bool.or_true, Bool.true_or, Bool.false_eq_true, if_true, if_false, withD_nil, withD_det, List.nil_append, List.cons_append, ↓reduceIte, List.push_toArray, List.append_toArray, List.map_cons, List.map_nil, Option.toArray_none, Option.toArray_some, Array.append_empty, List.getElem?_toArray, List.getElem?_cons_succ, List.getElem?_cons_zero, Option.bind_some, Option.toList_some]
        rw [withD_pr]
        rintro v ⟨g1, rfl, _⟩
        simp only [withD_det]
        rw [withD_pr]
        rintro v ⟨g2, rfl, _⟩
        simp only [withD_det]
        rw [withD_pr]
        rintro v ⟨g3, rfl, _⟩
        simp only [withD_det]
        rw [withD_pr]
        rintro v ⟨g4, rfl, _⟩
        simp only [withD_det, withD_nil, Act.put, List.setIfInBounds_toArray, List.set_cons_succ, List.set_cons_zero]
        go_wp2_with fail
        go_ret
        exact ⟨rfl, hb0'.out.trans (x.h.mono hb0'.out.size)⟩
end Go.Proofs.Ytkgbgiiopebadaa
