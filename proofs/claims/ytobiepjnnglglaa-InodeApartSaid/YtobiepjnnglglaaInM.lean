/- A node's pointers by the document's text; the same pointers. No condition. -/
import Derived.Test.YtobiepjnnglglaaInK
namespace Go.Proofs.Ytobiepjnnglglaa
open Go.RowKit
theorem quiet_neq_ptr {ops : Array Oper} {Q : Act → Prop} {o : Oper} {rest : List Oper} {a : Act} {C : World → Prop} (x y : Operand) (ty : TypeId) (ho : o.op = .binOp .neq 24 x y ty) (hw : Region.wanted o (yielded ops a.tmps) = true)
    (p q : Int × Nat) (r : Bool) (hx : a.eval x = .agg #[.int .i64 p.1, .int .u32 (p.2 : Int)]) (hy : a.eval y = .agg #[.int .i64 q.1, .int .u32 (q.2 : Int)]) (hr : decide (p = q) = r)
    (k : wpQuiet Try.prog ops C Q rest (a.put o.dst (.bool !r))) : wpQuiet Try.prog ops C Q (o :: rest) a :=
  quiet_neq hw _ x y ty ho (by kernel_rfl) _ _ hx hy r (fun w => by rw [run_eqPtr 9998 p.1 q.1 p.2 q.2 w, ← hr]) k
set_option maxRecDepth 100000 in
set_option maxHeartbeats 2000000 in
theorem refSame_any (A A' : Option Addr) (n c n' c' : Nat) (xs ys : List (Int × Nat)) (w : World) (hx : Rd w A (xs.flatMap ptrC)) (hy : Rd w A' (ys.flatMap ptrC)) (hn : xs.length = n) (hn' : ys.length = n') (hm : n ≤ 4294967296) :
    Calls Try.prog 17 #[.slice A n c, .slice A' n' c'] w fun e w' => e = .returned (.bool (decide (xs = ys))) ∧ Below w.heap.size w w' := by
  by_cases h : n = n'
  · subst h
    have Hn := hide hn; have Hn' := hide hn'; have Hx := hide hx; have Hy := hide hy
    clear hn hn' hx hy
    obtain ⟨r, hr⟩ : ∃ r, decide (xs = ys) = r := ⟨_, rfl⟩
    rw [hr]
    replace hr := hide hr
    go_enter Try.func17, Try.ntmps17
    go_wp2_with fail
    go_loopw [5] (fun i wr => ∃ k : Nat, k ≤ n ∧ i = .int .i64 k ∧ xs.take k = ys.take k ∧ Below w.heap.size w wr) (fun i _ => n - (intOf i).toNat)
    case atStart => exact ⟨0, Nat.zero_le _, rfl, rfl, Below.refl _ _⟩
    case round =>
      obtain ⟨k, hk, rfl, ht, hb⟩ := hrel
      replace ht := hide ht; replace hb := hide hb
      by_cases hlt : k < n
      · obtain ⟨g, o, p, rfl, _, hpk, hc⟩ := (Hx.out.on hb.out).flat ptrC_len (by omega) (k := k) (by rw [Hn.out]; exact hlt)
        obtain ⟨g', o', q, rfl, _, hqk, hd⟩ := (Hy.out.on hb.out).flat ptrC_len (by omega) (k := k) (by rw [Hn'.out]; exact hlt)
        have c0 : ∀ y : Ext wr, y.w.cell? ⟨g, o + k * 2, none⟩ = some (.int .i64 p.1) := fun y => ((Hx.out.on hb.out).on y.h).cell (k := k * 2) ((flat_get ptrC_len xs k p 0 hpk (by omega)).trans rfl)
        have c1 : ∀ y : Ext wr, y.w.cell? ⟨g, o + k * 2 + 1, none⟩ = some (.int .u32 (p.2 : Int)) := fun y => by have := ((Hx.out.on hb.out).on y.h).cell (k := k * 2 + 1) ((flat_get ptrC_len xs k p 1 hpk (by omega)).trans rfl); rwa [← Nat.add_assoc] at this
        have d0 : ∀ y : Ext wr, y.w.cell? ⟨g', o' + k * 2, none⟩ = some (.int .i64 q.1) := fun y => ((Hy.out.on hb.out).on y.h).cell (k := k * 2) ((flat_get ptrC_len ys k q 0 hqk (by omega)).trans rfl)
        have d1 : ∀ y : Ext wr, y.w.cell? ⟨g', o' + k * 2 + 1, none⟩ = some (.int .u32 (q.2 : Int)) := fun y => by have := ((Hy.out.on hb.out).on y.h).cell (k := k * 2 + 1) ((flat_get ptrC_len ys k q 1 hqk (by omega)).trans rfl); rwa [← Nat.add_assoc] at this
        replace hpk := hide hpk; replace hqk := hide hqk
        clear hc hd
        obtain ⟨t, hpq⟩ : ∃ t, decide (p = q) = t := ⟨_, rfl⟩
        replace hpq := hide hpq
        go_wp2_with fail
        refine wp_region_ext wr (by kernel_rfl) (by kernel_rfl) (Below.refl _ _) ?_
        repeat (first
          | ((with_reducible refine quiet_neq_ptr (.tmp 20) (.tmp 24) _ rfl ?_ p q t ?_ ?_ hpq.out ?_); (next => rfl); (next => rfl); (next => rfl))
          | go_big_quiet_step (fail)
          | quiet_step (fail))
        refine wpQuiet_nil ?_
        intro wx hw'
        obtain ⟨⟨_, hx⟩, rfl⟩ := hw'
        clear c0 c1 d0 d1
        cases t
        · go_wp2_with fail
          go_ret
          refine ⟨ret_bool ?_, nextB hb.out hx⟩
          rw [← hr.out]; symm; rw [decide_eq_false_iff_not]
          rintro rfl
          have := hpq.out
          rw [decide_eq_false_iff_not] at this
          exact this (Option.some.inj (hpk.out.symm.trans hqk.out))
        · have hpq2 : p = q := of_decide_eq_true hpq.out
          go_wp2_with fail
          go_roundw
          case rel => exact ⟨k + 1, by omega, by go_num, take_snoc_eq ht.out hpk.out (by rw [hpq2]; exact hqk.out), nextB hb.out hx⟩
          case measure => simp [intOf]; omega
      · obtain rfl : k = n := by omega
        go_wp2_with fail
        go_ret
        refine ⟨ret_bool ?_, hb.out⟩
        rw [← hr.out]; symm; rw [decide_eq_true_iff]
        have := ht.out
        rwa [List.take_of_length_le (by rw [Hn.out]; exact Nat.le_refl _), List.take_of_length_le (by rw [Hn'.out]; exact Nat.le_refl _)] at this
  · have h1 : ((n : Int) != (n' : Int)) = true := by simp; omega
    rw [decide_eq_false (by rintro rfl; exact h (hn.symm.trans hn'))]
    clear hx hy hn hn' h
    go_enter Try.func17, Try.ntmps17
    go_wp2_with fail
    go_ret
    exact ⟨rfl, Below.refl _ _⟩
set_option maxRecDepth 100000 in
set_option maxHeartbeats 8000000 in
theorem refReadNode_any (z : ByteArray) (bs : List UInt8) (hbs : bs = z.data.toList) (w : World) (hn2 : z.size ≤ 4294967296) :
    Calls Try.prog 22 #[.string z] w (MadeQ w (readN bs)) := by
  have H := fun w => refHeld_any z w hn2
  rw [← hbs] at H
  rcases hh : heldB bs with _ | _
  · rw [hh] at H
    replace H := hide H
    rw [show readN bs = ([], 5) by unfold readN; rw [hh]; rfl]
    clear hh hbs
    go_enter Try.func22, Try.ntmps22
    go_wp2_with (go_at_call 38; (with_reducible refine (unhide H _).mono ?_); rintro e w1 ⟨rfl, hb1⟩)
    go_ret2
    exact (show MadeQ w ([], 5) _ _ from ⟨none, 0, rfl, .inl rfl, Nat.le_refl _, hb1⟩)
  · rw [hh] at H
    have h128 := heldK_len hh
    have HZ : Hid (z = ⟨bs.toArray⟩) := by subst hbs; exact (rfl : _ = _)
    have Hn : z.size = 128 := by rw [← h128]; subst hbs; exact Array.length_toList.symm
    have G := hide (fun (p n : Nat) (hn : n ≤ 8) (hp : p + n ≤ 128) (w : World) => get_any z p n w hn (by omega) hn2)
    rw [← hbs] at G
    replace H := hide H
    have he : readN bs = if (ptrsB bs 15).all okPt = true ∧ nodeB (ptrsB bs 15) = bs then (ptrsB bs 15, 0) else ([], 3) := by unfold readN; rw [if_pos hh]
    obtain ⟨R, hR⟩ : ∃ R, R = readN bs := ⟨_, rfl⟩
    rw [← hR]
    have HR := hide (hR.trans he)
    have HN := hide Hn
    clear hR he hh hbs h128
    go_enter Try.func22, Try.ntmps22
    go_wp2_with (go_at_call 38; (with_reducible refine (unhide H _).mono ?_); rintro e w1 ⟨rfl, hb1⟩)
    go_loopw [4, 5] (fun s i wr => ∃ (k : Nat) (A8 : Option Addr) (c8 : Nat), k ≤ 15 ∧ i = .int .i64 (k : Int) ∧ s = .slice A8 k c8 ∧ wr.ownsRow w.heap.size 24 2 (.slice A8 k c8) k ((ptrsB bs k).flatMap ptrC) ∧ (ptrsB bs k).all okPt = true ∧ Below w.heap.size w wr) (fun _ i _ => 15 - (intOf i).toNat)
    case atStart => exact ⟨0, none, 0, Nat.zero_le _, rfl, rfl, World.ownsRow_nil _ _ _ _, rfl, hb1⟩
    case round =>
      obtain ⟨k, A8, c8, hk, rfl, rfl, ho, hall, hb⟩ := hrel
      replace ho := hide ho; replace hall := hide hall
      by_cases hlt : k < 15
      · have G0 := G.out (8 * k) 4 (by omega) (by omega)
        have G1 := G.out (8 * k + 4) 4 (by omega) (by omega)
        have hsn : ptrsB bs (k + 1) = ptrsB bs k ++ [(((beN ((bs.drop (8 * k)).take 4) : Nat) : Int), beN ((bs.drop (8 * k + 4)).take 4))] := ptrsB_succ bs k
        have a0 := beN_take (bs.drop (8 * k)) 4; have s0 := beN_take (bs.drop (8 * k + 4)) 4
        generalize beN ((bs.drop (8 * k)).take 4) = a at G0 hsn a0
        generalize beN ((bs.drop (8 * k + 4)).take 4) = s at G1 hsn s0
        replace a0 : a < 4294967296 := a0
        replace s0 : s < 4294967296 := s0
        simp only [Int.natCast_add, Int.natCast_mul, Int.cast_ofNat_Int] at G0 G1
        replace G0 := hide G0; replace G1 := hide G1; replace hsn := hide hsn
        have C := fun w => refPointer_any (a : Int) s w
        obtain ⟨t, ht⟩ : ∃ t, okPt ((a : Int), s) = t := ⟨_, rfl⟩
        rw [ht] at C
        replace C := hide C; replace ht := hide ht
        have hsz := hb.size
        cases t
        · go_wp2_with (first
            | (go_at_call 39; first
              | ((with_reducible refine (unhide G0 _).mono ?_); rintro e w3 ⟨rfl, rfl⟩)
              | ((with_reducible refine (unhide G1 _).mono ?_); rintro e w3 ⟨rfl, rfl⟩))
            | (go_at_call 23; (with_reducible refine (unhide C _).mono ?_); rintro e w5 ⟨rfl, hb5⟩))
          go_ret2
          have hR3 : R = ([], 3) := by
            rw [HR.out, if_neg]
            rintro ⟨h, _⟩
            have h2 : ptrsB bs 15 = ptrsB bs (k + 1) ++ (ptrsB bs 15).drop (k + 1) := by
              have e : (ptrsB bs 15).take (k + 1) = ptrsB bs (k + 1) := by unfold ptrsB; rw [← List.map_take, List.take_range, Nat.min_eq_left (by omega)]
              rw [← e, List.take_append_drop]
            rw [h2, hsn.out, List.all_append, List.all_append, Bool.and_eq_true, Bool.and_eq_true] at h
            have h3 := h.1.2
            simp only [List.all_cons, ht.out] at h3
            cases h3
          rw [hR3]
          exact (show MadeQ w ([], 3) _ _ from ⟨none, 0, rfl, .inl rfl, Nat.le_refl _, nextB (hb.alloc hsz _) hb5⟩)
        · go_wp2_with (first
            | (go_at_call 39; first
              | ((with_reducible refine (unhide G0 _).mono ?_); rintro e w3 ⟨rfl, rfl⟩)
              | ((with_reducible refine (unhide G1 _).mono ?_); rintro e w3 ⟨rfl, rfl⟩))
            | (go_at_call 23; (with_reducible refine (unhide C _).mono ?_); rintro e w5 ⟨rfl, hb5⟩; have B6 := hide ((Blk.new wr 24 #[.int .i64 (a : Int), .int .u32 (s : Int)]).below hb5 (by simp)); have c0 := B6.out.cell_ 0 _ rfl; have c1 := B6.out.cell_ 1 _ rfl; have ho5 := hide (own_below_keep (ho.out.alloc (.cells #[.int .i64 (a : Int), .int .u32 (s : Int)] 24)) hb5); have hbb := hide (nextB (hb.alloc hsz (.cells #[.int .i64 (a : Int), .int .u32 (s : Int)] 24)) hb5))
            | (at_builtin; refine wpList_app rfl _ _ rfl Try.el_ptr w.heap.size _ _ _ _ rfl (ho5.out.alloc _) _ _ _ [.int .i64 (a : Int), .int .u32 (s : Int)] rfl (Blk.new_ _ _ #[.int .i64 (a : Int), .int .u32 (s : Int)] _ (by simp)).rd rfl (one_ptr [((a : Int), s)]) (by unfold maxLen; omega) (by omega) (by have := hbb.out.size; simp; omega) ?_; intro A6 c6 w6 ho1 hc1 hg1))
          have hb6 := hide ((hbb.out.alloc hbb.out.size (.cells #[.int .i64 (a : Int), .int .u32 (s : Int)] 24)).grown hg1 (by have := hbb.out.size; simp; omega) (fun k hk => (ho5.out.lt k hk).1))
          replace ho1 := hide ho1
          clear hg1 c0 c1
          go_roundw
          case rel =>
            refine ⟨k + 1, A6, c6, by omega, by go_num, rfl, ?_, ?_, hb6.out⟩
            · rw [hsn.out, List.flatMap_append]; exact ho1.out
            · rw [hsn.out, List.all_append, hall.out]; simp only [List.all_cons, List.all_nil, ht.out]; rfl
          case measure => simp [intOf]; omega
      · obtain rfl : k = 15 := by omega
        have hl := ptrsB_len bs 15
        have hs := ptrsB_lt bs 15
        have HR2 := HR.out
        rw [hall.out] at HR2
        have h2 := hall.out
        have ho2 := ho.out
        clear ho hall
        generalize ptrsB bs 15 = L at hl hs HR2 h2 ho2
        have N := hide (fun w' (h : Rd w' A8 (L.flatMap ptrC)) => refNode_any A8 L c8 w' h hl hs h2)
        have Hl := hide hl
        have ho3 := hide ho2
        have N2 := hide (N.out wr (Rd.of_own ho2))
        have hcap := own_cap ho2 rfl
        clear hs h2 hl N
        by_cases hq : nodeB L = bs
        · rw [if_pos ⟨rfl, hq⟩] at HR2
          have hz2 : z = (⟨(nodeB L).toArray⟩ : ByteArray) := by rw [HZ.out, hq]
          replace HR2 := hide HR2; replace hz2 := hide hz2; replace hq := hide hq
          clear ho2
          go_wp2_with (go_at_call 24; (with_reducible refine (unhide N2).mono ?_); rintro e w7 ⟨rfl, hb7⟩; have R7 := hide ((Rd.of_own ho3.out).on hb7); rw [← hz2.out])
          go_ret2
          rw [HR2.out]
          exact (show MadeQ w (L, 0) _ _ from ⟨A8, c8, by rw [show (L, (0 : Int)).1.length = 15 from Hl.out]; rfl, R7.out, by rw [show (L, (0 : Int)).1.length = 15 from Hl.out]; exact hcap, nextB hb hb7⟩)
        · rw [if_neg (fun h => hq h.2)] at HR2
          have hz3 := HZ.out
          have hq2 : (nodeB L == bs) = false := by simpa using hq
          replace HR2 := hide HR2; replace hq := hide hq
          clear Hn HN G ho2
          subst hz3
          go_wp2_with (go_at_call 24; (with_reducible refine (unhide N2).mono ?_); rintro e w7 ⟨rfl, hb7⟩)
          go_ret2
          rw [HR2.out]
          exact (show MadeQ w ([], 3) _ _ from ⟨none, 0, rfl, .inl rfl, Nat.le_refl _, nextB hb hb7⟩)
end Go.Proofs.Ytobiepjnnglglaa
