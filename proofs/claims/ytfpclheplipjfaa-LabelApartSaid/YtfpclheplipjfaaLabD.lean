/- Layer 5: supers and labels are read. No condition. -/
import Derived.Test.YtfpclheplipjfaaLabC
namespace Go.Proofs.Ytfpclheplipjfaa
set_option linter.unusedSimpArgs false
open Go.RowKit

theorem cut_no (A A' : Option Addr) (n c n' c' : Nat) (xs ys : List UInt8) (w : World) (hx : Rd w A (xs.map u8v)) (hy : Rd w A' (ys.map u8v)) (hn : xs.length = n) (hn' : ys.length = n') (hc : n ≤ c) (hlt : n' < n) (h : ¬ xs.take n' = ys) :
    Calls Try.prog 34 #[.slice A n c, .slice A' n' c'] w fun e w' => e = .returned (.tuple #[.slice A n c, .bool false]) ∧ w = w' :=
  (cut_any A A' n c n' c' xs ys w hx hy hn hn' hc hlt false (decide_eq_false h)).mono fun _ _ ⟨⟨A1, h1, h2, _⟩, hw⟩ => ⟨by rw [h1, h2 rfl]; rfl, hw⟩
theorem cut_yes (A A' : Option Addr) (n c n' c' : Nat) (xs ys : List UInt8) (w : World) (hx : Rd w A (xs.map u8v)) (hy : Rd w A' (ys.map u8v)) (hn : xs.length = n) (hn' : ys.length = n') (hc : n ≤ c) (hlt : n' < n) (h : xs.take n' = ys) :
    Calls Try.prog 34 #[.slice A n c, .slice A' n' c'] w fun e w' => (∃ A1, e = .returned (.tuple #[.slice A1 (n - n') (c - n'), .bool true]) ∧ Rd w A1 ((xs.drop n').map u8v)) ∧ w = w' :=
  (cut_any A A' n c n' c' xs ys w hx hy hn hn' hc hlt true (decide_eq_true h)).mono fun _ _ ⟨⟨A1, h1, _, h2⟩, hw⟩ => ⟨⟨A1, h1, by
    have := hx.cut (k := n') (n := n) (cap := c) (by rw [List.length_map]; omega) hc
    rw [h2 rfl, List.map_drop]; exact this⟩, hw⟩
/-- numbers and an error's number, as the call hands them back -/
def MadeN (w : World) (r : List Nat × Int) (e : Ending) (w' : World) : Prop :=
  ∃ A c, e = .returned (.tuple #[.slice A r.1.length c, .int .i64 r.2]) ∧ Rd w' A (r.1.map u64v) ∧ Below w.heap.size w w'
def readSN (b : List UInt8) : List Nat × Int :=
  if heldB b = false then ([], 5) else if mayG (sup b 4 2) (sup b 6 2) (sup b 8 1) (sup b 9 2) ∧ superB (sup b 4 2) (sup b 6 2) (sup b 8 1) (sup b 9 2) = b then ([sup b 4 2, sup b 6 2, sup b 8 1, sup b 9 2], 0) else ([], 3)
def readLN (b : List UInt8) : List Nat × Int :=
  if heldB b = false then ([], 5) else if mayL (sup b 4 1) (sup b 5 4) ∧ labelB (sup b 4 1) (sup b 5 4) = b then ([sup b 4 1, sup b 5 4], 0) else ([], 3)
set_option maxRecDepth 100000 in
set_option maxHeartbeats 2000000 in
theorem madeS_any (A : Option Addr) (c : Nat) (d l v s : Nat) (w : World) (hx : Rd w A ([d, l, v, s].map u64v)) (hd : d < 9223372036854775808) (hl : l < 9223372036854775808) (hv : v < 9223372036854775808) (hs : s < 9223372036854775808) :
    Calls Try.prog 23 #[.slice A 4 c] w (MadeR w (superR d l v s)) := by
  have G := hide (geo_any A c d l v s w hx hd hl hv hs)
  have S := hide (fun w => super_any d l v s w ⟨by omega, by omega, by omega, by omega⟩)
  clear hx hd hl hv hs
  go_enter Try.func23, Try.ntmps23
  go_wp2_with (first
    | (go_at_call 24; (with_reducible refine (unhide G).mono ?_); rintro e w1 ⟨rfl, hb1⟩)
    | (go_at_call 7; (with_reducible refine (unhide S _).mono ?_); rintro e w2 ⟨A2, c2, rfl, hr, hc, hb2⟩))
  go_ret2
  exact ⟨A2, c2, rfl, hr, hc, nextB hb1 hb2⟩
set_option maxRecDepth 100000 in
set_option maxHeartbeats 4000000 in
theorem madeL_any (A : Option Addr) (c : Nat) (v g : Nat) (w : World) (hx : Rd w A ([v, g].map u64v)) (hv : v < 9223372036854775808) (hg : g < 9223372036854775808) :
    Calls Try.prog 25 #[.slice A 2 c] w (MadeR w (labelR v g)) := by
  obtain ⟨b0, o0, rfl, hb0⟩ : ∃ b o, A = some ⟨b, o, none⟩ ∧ b < w.heap.size := by
    obtain ⟨b, o, u, h, h2, _⟩ := hx.at (k := 0) (by simp)
    exact ⟨b, o, h, h2⟩
  have q0 : ∀ x : Ext w, x.w.cell? ⟨b0, o0, none⟩ = some (.int .u64 (v : Int)) := fun x => (hx.on x.h).cell (k := 0) rfl
  have q1 : ∀ x : Ext w, x.w.cell? ⟨b0, o0 + 1, none⟩ = some (.int .u64 (g : Int)) := fun x => (hx.on x.h).cell (k := 1) rfl
  have e0 : IntKind.i64.wrap (v : Int) = v := IntWalk.i64_in _ (by omega)
  have e1 : IntKind.i64.wrap (g : Int) = g := IntWalk.i64_in _ (by omega)
  have L := fun w => label_any v g w (by omega) (by omega)
  generalize labelR v g = R at L ⊢
  replace L := hide L
  clear hx hv hg
  go_enter Try.func25, Try.ntmps25
  go_wp2_with fail
  refine wp_region_rel w (by kernel_rfl) (by kernel_rfl) (Below.refl _ _) ?_
  repeat (apply rel_det; (intro x; simp only [List.filter_cons, List.filter_nil, lookT, Oper.looksAt, Op.operands, Call.operands, List.filterMap_cons, List.filterMap_nil, List.append_nil, List.contains_cons, List.contains_nil, Nat.reduceBEq, Bool.or_false, Bool.false_or, Bool.or_true, Bool.true_or, Bool.false_eq_true, if_true, if_false, withD_nil, withD_det, List.nil_append, List.cons_append, ↓reduceIte, List.push_toArray, List.append_toArray, List.map_cons, List.map_nil, Option.toArray_none, Option.toArray_some, Array.append_empty, List.getElem?_toArray, List.getElem?_cons_succ, List.getElem?_cons_zero, Option.bind_some, Option.toList_some]; unfold rOne; go_wp2_with fail; (first | (refine ⟨Below.refl _ _, ?_⟩; simp only [opGot, Array.getD_eq_getD_getElem?, List.getElem?_toArray, List.getElem?_cons_succ, List.getElem?_cons_zero, Option.getD_some]; exact rfl) | (refine ⟨by assumption, ?_⟩; simp only [opGot, Array.getD_eq_getD_getElem?, List.getElem?_toArray, List.getElem?_cons_succ, List.getElem?_cons_zero, Option.getD_some]; exact rfl) | (simp only [opGot, Array.getD_eq_getD_getElem?, List.getElem?_toArray, List.getElem?_cons_succ, List.getElem?_cons_zero, Option.getD_some]; exact rfl))))
  apply rel_step (fun u w => SlE R u w)
  · exact fun v w w' h hb => h.on hb
  · intro x; simp only [List.filter_cons, List.filter_nil, lookT, Oper.looksAt, Op.operands, Call.operands, List.filterMap_cons, List.filterMap_nil, List.append_nil, List.contains_cons, List.contains_nil, Nat.reduceBEq, Bool.or_false, Bool.false_or, Bool.or_true, Bool.true_or, Bool.false_eq_true, if_true, if_false, withD_nil, withD_det, List.nil_append, List.cons_append, ↓reduceIte, List.push_toArray, List.append_toArray, List.map_cons, List.map_nil, Option.toArray_none, Option.toArray_some, Array.append_empty, List.getElem?_toArray, List.getElem?_cons_succ, List.getElem?_cons_zero, Option.bind_some, Option.toList_some]
    unfold rOne
    go_wp2_with (go_at_call 8; (with_reducible refine (unhide L _).mono ?_); rintro e w3 ⟨A, c, rfl, hr, hc, hb3⟩)
    exact ⟨A, c, by simp only [opGot, Array.getD_eq_getD_getElem?, List.getElem?_toArray, List.getElem?_cons_succ, List.getElem?_cons_zero, Option.getD_some], hr, hc⟩
  apply rel_step (fun u w => SlV R.1 u w)
  · exact fun v w w' h hb => h.on hb
  · intro x; simp only [List.filter_cons, List.filter_nil, lookT, Oper.looksAt, Op.operands, Call.operands, List.filterMap_cons, List.filterMap_nil, List.append_nil, List.contains_cons, List.contains_nil, Nat.reduceBEq, Bool.or_false, Bool.false_or, Bool.or_true, Bool.true_or, Bool.false_eq_true, if_true, if_false, withD_nil, withD_det, List.nil_append, List.cons_append, ↓reduceIte, List.push_toArray, List.append_toArray, List.map_cons, List.map_nil, Option.toArray_none, Option.toArray_some, Array.append_empty, List.getElem?_toArray, List.getElem?_cons_succ, List.getElem?_cons_zero, Option.bind_some, Option.toList_some]; rw [withD_pr]; rintro u ⟨A, c, rfl, hr, hc⟩; simp only [withD_det, withD_nil, Act.put, List.setIfInBounds_toArray, List.set_cons_succ, List.set_cons_zero]
    unfold rOne
    go_wp2_with fail
    first | exact ⟨Below.refl _ _, A, c, by simp only [opGot, Array.getD_eq_getD_getElem?, List.getElem?_toArray, List.getElem?_cons_succ, List.getElem?_cons_zero, Option.getD_some], hr, hc⟩ | exact ⟨A, c, by simp only [opGot, Array.getD_eq_getD_getElem?, List.getElem?_toArray, List.getElem?_cons_succ, List.getElem?_cons_zero, Option.getD_some], hr, hc⟩
  apply rel_det
  · intro x; simp only [List.filter_cons, List.filter_nil, lookT, Oper.looksAt, Op.operands, Call.operands, List.filterMap_cons, List.filterMap_nil, List.append_nil, List.contains_cons, List.contains_nil, Nat.reduceBEq, Bool.or_false, Bool.false_or, Bool.or_true, Bool.true_or, Bool.false_eq_true, if_true, if_false, withD_nil, withD_det, List.nil_append, List.cons_append, ↓reduceIte, List.push_toArray, List.append_toArray, List.map_cons, List.map_nil, Option.toArray_none, Option.toArray_some, Array.append_empty, List.getElem?_toArray, List.getElem?_cons_succ, List.getElem?_cons_zero, Option.bind_some, Option.toList_some]; rw [withD_pr]; rintro u ⟨A, c, rfl, hr, hc⟩; simp only [withD_det, withD_nil, Act.put, List.setIfInBounds_toArray, List.set_cons_succ, List.set_cons_zero]
    unfold rOne
    go_wp2_with fail
    (first | (refine ⟨Below.refl _ _, ?_⟩; simp only [opGot, Array.getD_eq_getD_getElem?, List.getElem?_toArray, List.getElem?_cons_succ, List.getElem?_cons_zero, Option.getD_some]; exact rfl) | (refine ⟨by assumption, ?_⟩; simp only [opGot, Array.getD_eq_getD_getElem?, List.getElem?_toArray, List.getElem?_cons_succ, List.getElem?_cons_zero, Option.getD_some]; exact rfl) | (simp only [opGot, Array.getD_eq_getD_getElem?, List.getElem?_toArray, List.getElem?_cons_succ, List.getElem?_cons_zero, Option.getD_some]; exact rfl))
  apply rel_step (fun u w => SlV R.1 u w)
  · exact fun v w w' h hb => h.on hb
  · intro x; simp only [List.filter_cons, List.filter_nil, lookT, Oper.looksAt, Op.operands, Call.operands, List.filterMap_cons, List.filterMap_nil, List.append_nil, List.contains_cons, List.contains_nil, Nat.reduceBEq, Bool.or_false, Bool.false_or, Bool.or_true, Bool.true_or, Bool.false_eq_true, if_true, if_false, withD_nil, withD_det, List.nil_append, List.cons_append, ↓reduceIte, List.push_toArray, List.append_toArray, List.map_cons, List.map_nil, Option.toArray_none, Option.toArray_some, Array.append_empty, List.getElem?_toArray, List.getElem?_cons_succ, List.getElem?_cons_zero, Option.bind_some, Option.toList_some]; rw [withD_pr]; rintro u ⟨A, c, rfl, hr, hc⟩; simp only [withD_det, withD_nil, Act.put, List.setIfInBounds_toArray, List.set_cons_succ, List.set_cons_zero]
    unfold rOne
    go_wp2_with fail
    first | exact ⟨Below.refl _ _, A, c, by simp only [opGot, Array.getD_eq_getD_getElem?, List.getElem?_toArray, List.getElem?_cons_succ, List.getElem?_cons_zero, Option.getD_some], hr, hc⟩ | exact ⟨A, c, by simp only [opGot, Array.getD_eq_getD_getElem?, List.getElem?_toArray, List.getElem?_cons_succ, List.getElem?_cons_zero, Option.getD_some], hr, hc⟩
  repeat (apply rel_det; (intro x; simp only [List.filter_cons, List.filter_nil, lookT, Oper.looksAt, Op.operands, Call.operands, List.filterMap_cons, List.filterMap_nil, List.append_nil, List.contains_cons, List.contains_nil, Nat.reduceBEq, Bool.or_false, Bool.false_or, Bool.or_true, Bool.true_or, Bool.false_eq_true, if_true, if_false, withD_nil, withD_det, List.nil_append, List.cons_append, ↓reduceIte, List.push_toArray, List.append_toArray, List.map_cons, List.map_nil, Option.toArray_none, Option.toArray_some, Array.append_empty, List.getElem?_toArray, List.getElem?_cons_succ, List.getElem?_cons_zero, Option.bind_some, Option.toList_some]; unfold rOne; go_wp2_with fail; (first | (refine ⟨Below.refl _ _, ?_⟩; simp only [opGot, Array.getD_eq_getD_getElem?, List.getElem?_toArray, List.getElem?_cons_succ, List.getElem?_cons_zero, Option.getD_some]; exact rfl) | (refine ⟨by assumption, ?_⟩; simp only [opGot, Array.getD_eq_getD_getElem?, List.getElem?_toArray, List.getElem?_cons_succ, List.getElem?_cons_zero, Option.getD_some]; exact rfl) | (simp only [opGot, Array.getD_eq_getD_getElem?, List.getElem?_toArray, List.getElem?_cons_succ, List.getElem?_cons_zero, Option.getD_some]; exact rfl))))
  refine rel_nil ?_
  intro x
  simp only [List.filter_cons, List.filter_nil, lookT, Oper.looksAt, Op.operands, Call.operands, List.filterMap_cons, List.filterMap_nil, List.append_nil, List.contains_cons, List.contains_nil, Nat.reduceBEq, Bool.or_false, Bool.false_or, Bool.or_true, Bool.true_or, Bool.false_eq_true, if_true, if_false, withD_nil, withD_det, List.nil_append, List.cons_append, ↓reduceIte, List.push_toArray, List.append_toArray, List.map_cons, List.map_nil, Option.toArray_none, Option.toArray_some, Array.append_empty, List.getElem?_toArray, List.getElem?_cons_succ, List.getElem?_cons_zero, Option.bind_some, Option.toList_some]
  rw [withD_pr]; rintro u ⟨A1, d1, rfl, _, _⟩
  rw [withD_pr]; rintro u ⟨A2, d2, rfl, _, _⟩
  simp only [withD_det]
  rw [withD_pr]; rintro u ⟨A3, d3, rfl, hr, hc⟩
  simp only [withD_det, withD_nil, Act.put, List.setIfInBounds_toArray, List.set_cons_succ, List.set_cons_zero]
  have hx := hide x.h
  clear q0 q1
  go_wp2_with fail
  go_ret2
  exact ⟨A3, d3, rfl, hr, hc, hx.out⟩
set_option maxRecDepth 100000 in
set_option maxHeartbeats 4000000 in
theorem readS_any (A A2 : Option Addr) (n c c2 : Nat) (bs : List UInt8) (w : World) (hx : Rd w A (bs.map u8v)) (hn : bs.length = n) (hc : n ≤ c) (hw : Rd w A2 ([2, 2, 1, 2].map i64v)) :
    Calls Try.prog 22 #[.slice A n c, .string haymS, .func (.func 23) #[] #[], .slice A2 4 c2] w (MadeN w (readSN bs)) := by
  have H := fun w hx => held_any A n c bs w hx hn hc
  obtain ⟨r, hr⟩ : ∃ r, r = readSN bs := ⟨_, rfl⟩
  rw [← hr]
  unfold readSN at hr
  rcases hh : heldB bs with _ | _
  · rw [if_pos hh] at hr
    rw [hh] at H
    subst hr
    replace H := hide (H w hx)
    clear hx hh hn
    go_enter Try.func22, Try.ntmps22
    go_wp2_with (go_at_call 33; (with_reducible refine (unhide H).mono ?_); rintro e w1 ⟨rfl, hb1⟩)
    go_ret2
    exact ⟨none, 0, rfl, Rd.nil _ _, hb1⟩
  · rw [if_neg (by rw [hh]; simp)] at hr
    rw [hh] at H
    have h128 := held_len hh
    obtain rfl : n = 128 := by omega
    have HX := hide hx; have HW := hide hw; have Hn := hide hn
    have hU := nums_super bs h128
    have hS : ∀ a b c d : Int, superB a b c d = bs → bs.take 4 = haymB := fun a b c d h => by rw [← h]; exact super_begins a b c d
    replace H := hide (H w hx)
    have hcv := hide (fun w => run_bytes_fresh (P := Try.prog) w 9 28 5 haymS Try.underlying9 Try.underlying28 Try.underlying5)
    by_cases hp : bs.take 4 = haymB
    · have a0 := sup_lt bs 4 2; have a1 := sup_lt bs 6 2; have a2 := sup_lt bs 8 1; have a3 := sup_lt bs 9 2
      generalize sup bs 4 2 = d at hU hr a0
      generalize sup bs 6 2 = l at hU hr a1
      generalize sup bs 8 1 = v at hU hr a2
      generalize sup bs 9 2 = s at hU hr a3
      have U := fun w A1 h0 hw => unpack_any A1 A2 124 (c - 4) 4 c2 (bs.drop 4) [2, 2, 1, 2] w h0 hw (by rw [List.length_drop, h128]) (by omega) rfl (by decide)
      rw [hU] at U
      have M := fun w A c hx => madeS_any A c d l v s w hx (by omega) (by omega) (by omega) (by omega)
      have hR : (superR d l v s = (superB d l v s, 0) ∧ mayG d l v s) ∨ (superR d l v s = ([], 1) ∧ ¬ mayG d l v s) := by
        unfold superR
        by_cases h : mayG d l v s
        · exact .inl ⟨if_pos h, h⟩
        · exact .inr ⟨if_neg h, h⟩
      replace U := hide U; replace hp := hide hp
      clear hU hn hx hw h128 hh hS a0 a1 a2 a3
      rcases hR with ⟨hR, hm⟩ | ⟨hR, hm⟩
      · rw [hR] at M
        replace M := hide M
        obtain ⟨own, hown⟩ : ∃ own, own = superB d l v s := ⟨_, rfl⟩
        rw [← hown] at M hr
        clear hR hown
        by_cases hq : own = bs
        · rw [if_pos ⟨hm, hq⟩] at hr
          replace hr := hide hr; replace hq := hide hq
          clear hm
          go_enter Try.func22, Try.ntmps22
          go_wp2_with (first
            | (go_at_call 33; (with_reducible refine (unhide H).mono ?_); rintro e w1 ⟨rfl, hb1⟩; obtain ⟨c3, w2, hrun, F2, hb2⟩ := hcv.out w1; replace F2 := hide F2; have hb := hide (nextB hb1 hb2); clear hb1 hb2)
            | (go_at_call 34; refine (cut_yes A _ 128 c 4 c3 bs haymB w2 (HX.out.on hb.out) F2.out.rd Hn.out rfl hc (by decide) hp.out).mono ?_; rintro e w3 ⟨⟨A1, rfl, hr1⟩, rfl⟩; replace hr1 := hide hr1)
            | (go_at_call 35; (with_reducible refine (unhide U w2 A1 hr1.out (HW.out.on hb.out)).mono ?_); rintro e w4 ⟨A4, c4, rfl, ho4, hb4⟩; have R4 := hide (Rd.of_own ho4); replace hb := hide (nextB hb.out hb4); clear hb4 ho4)
            | (go_at_call 23; (with_reducible refine (unhide M _ A4 c4 R4.out).mono ?_); rintro e w5 ⟨A5, c5, rfl, hr5, hc5, hb5⟩; replace R4 := hide (R4.out.on hb5); replace hb := hide (nextB hb.out hb5); have Q := bytesEq_any A5 A own.length c5 128 c own bs w5 hr5 (HX.out.on hb.out) rfl Hn.out; rw [decide_eq_true hq.out] at Q; replace Q := hide Q; clear hr5 hc5 hb5)
            | (go_at_call 36; (with_reducible refine (unhide Q).mono ?_); rintro e w6 ⟨rfl, rfl⟩))
          go_ret2
          rw [hr.out]
          exact ⟨A4, c4, rfl, R4.out, hb.out⟩
        · rw [if_neg (fun h => hq h.2)] at hr
          subst hr
          replace hq := hide hq
          clear hm
          go_enter Try.func22, Try.ntmps22
          go_wp2_with (first
            | (go_at_call 33; (with_reducible refine (unhide H).mono ?_); rintro e w1 ⟨rfl, hb1⟩; obtain ⟨c3, w2, hrun, F2, hb2⟩ := hcv.out w1; replace F2 := hide F2; have hb := hide (nextB hb1 hb2); clear hb1 hb2)
            | (go_at_call 34; refine (cut_yes A _ 128 c 4 c3 bs haymB w2 (HX.out.on hb.out) F2.out.rd Hn.out rfl hc (by decide) hp.out).mono ?_; rintro e w3 ⟨⟨A1, rfl, hr1⟩, rfl⟩; replace hr1 := hide hr1)
            | (go_at_call 35; (with_reducible refine (unhide U w2 A1 hr1.out (HW.out.on hb.out)).mono ?_); rintro e w4 ⟨A4, c4, rfl, ho4, hb4⟩; have R4 := hide (Rd.of_own ho4); replace hb := hide (nextB hb.out hb4); clear hb4 ho4)
            | (go_at_call 23; (with_reducible refine (unhide M _ A4 c4 R4.out).mono ?_); rintro e w5 ⟨A5, c5, rfl, hr5, hc5, hb5⟩; replace R4 := hide (R4.out.on hb5); replace hb := hide (nextB hb.out hb5); have Q := bytesEq_any A5 A own.length c5 128 c own bs w5 hr5 (HX.out.on hb.out) rfl Hn.out; rw [decide_eq_false hq.out] at Q; replace Q := hide Q; clear hr5 hc5 hb5)
            | (go_at_call 36; (with_reducible refine (unhide Q).mono ?_); rintro e w6 ⟨rfl, rfl⟩))
          go_ret2
          exact ⟨none, 0, rfl, Rd.nil _ _, hb.out⟩
      · rw [if_neg (fun h => hm h.1)] at hr
        rw [hR] at M
        subst hr
        replace M := hide M
        clear hR hm
        go_enter Try.func22, Try.ntmps22
        go_wp2_with (first
          | (go_at_call 33; (with_reducible refine (unhide H).mono ?_); rintro e w1 ⟨rfl, hb1⟩; obtain ⟨c3, w2, hrun, F2, hb2⟩ := hcv.out w1; replace F2 := hide F2; have hb := hide (nextB hb1 hb2); clear hb1 hb2)
          | (go_at_call 34; refine (cut_yes A _ 128 c 4 c3 bs haymB w2 (HX.out.on hb.out) F2.out.rd Hn.out rfl hc (by decide) hp.out).mono ?_; rintro e w3 ⟨⟨A1, rfl, hr1⟩, rfl⟩; replace hr1 := hide hr1)
          | (go_at_call 35; (with_reducible refine (unhide U w2 A1 hr1.out (HW.out.on hb.out)).mono ?_); rintro e w4 ⟨A4, c4, rfl, ho4, hb4⟩; have R4 := hide (Rd.of_own ho4); replace hb := hide (nextB hb.out hb4); clear hb4 ho4)
          | (go_at_call 23; (with_reducible refine (unhide M _ A4 c4 R4.out).mono ?_); rintro e w5 ⟨A5, c5, rfl, hr5, hc5, hb5⟩; replace R4 := hide (R4.out.on hb5); replace hb := hide (nextB hb.out hb5);  clear hr5 hc5 hb5))
        go_ret2
        exact ⟨none, 0, rfl, Rd.nil _ _, hb.out⟩
    · rw [if_neg (fun h => hp (hS _ _ _ _ h.2))] at hr
      subst hr
      replace hp := hide hp
      clear hU hn hx hw h128 hh hS
      go_enter Try.func22, Try.ntmps22
      go_wp2_with (first
        | (go_at_call 33; (with_reducible refine (unhide H).mono ?_); rintro e w1 ⟨rfl, hb1⟩; obtain ⟨c3, w2, hrun, F2, hb2⟩ := hcv.out w1; replace F2 := hide F2; have hb := hide (nextB hb1 hb2); clear hb1 hb2)
        | (go_at_call 34; refine (cut_no A _ 128 c 4 c3 bs haymB w2 (HX.out.on hb.out) F2.out.rd Hn.out rfl hc (by decide) hp.out).mono ?_; rintro e w3 ⟨rfl, rfl⟩))
      go_ret2
      exact ⟨none, 0, rfl, Rd.nil _ _, hb.out⟩
set_option maxRecDepth 100000 in
set_option maxHeartbeats 4000000 in
theorem readL_any (A A2 : Option Addr) (n c c2 : Nat) (bs : List UInt8) (w : World) (hx : Rd w A (bs.map u8v)) (hn : bs.length = n) (hc : n ≤ c) (hw : Rd w A2 ([1, 4].map i64v)) :
    Calls Try.prog 22 #[.slice A n c, .string hvolS, .func (.func 25) #[] #[], .slice A2 2 c2] w (MadeN w (readLN bs)) := by
  have H := fun w hx => held_any A n c bs w hx hn hc
  obtain ⟨r, hr⟩ : ∃ r, r = readLN bs := ⟨_, rfl⟩
  rw [← hr]
  unfold readLN at hr
  rcases hh : heldB bs with _ | _
  · rw [if_pos hh] at hr
    rw [hh] at H
    subst hr
    replace H := hide (H w hx)
    clear hx hh hn
    go_enter Try.func22, Try.ntmps22
    go_wp2_with (go_at_call 33; (with_reducible refine (unhide H).mono ?_); rintro e w1 ⟨rfl, hb1⟩)
    go_ret2
    exact ⟨none, 0, rfl, Rd.nil _ _, hb1⟩
  · rw [if_neg (by rw [hh]; simp)] at hr
    rw [hh] at H
    have h128 := held_len hh
    obtain rfl : n = 128 := by omega
    have HX := hide hx; have HW := hide hw; have Hn := hide hn
    have hU := nums_label bs h128
    have hS : ∀ a b : Int, labelB a b = bs → bs.take 4 = hvolB := fun a b h => by rw [← h]; exact label_begins a b
    replace H := hide (H w hx)
    have hcv := hide (fun w => run_bytes_fresh (P := Try.prog) w 9 28 5 hvolS Try.underlying9 Try.underlying28 Try.underlying5)
    by_cases hp : bs.take 4 = hvolB
    · have a0 := sup_lt bs 4 1; have a1 := sup_lt bs 5 4
      generalize sup bs 4 1 = v at hU hr a0
      generalize sup bs 5 4 = g at hU hr a1
      have U := fun w A1 h0 hw => unpack_any A1 A2 124 (c - 4) 2 c2 (bs.drop 4) [1, 4] w h0 hw (by rw [List.length_drop, h128]) (by omega) rfl (by decide)
      rw [hU] at U
      have M := fun w A c hx => madeL_any A c v g w hx (by omega) (by omega)
      have hR : (labelR v g = (labelB v g, 0) ∧ mayL v g) ∨ (labelR v g = ([], 1) ∧ ¬ mayL v g) := by
        unfold labelR
        by_cases h : mayL v g
        · exact .inl ⟨if_pos h, h⟩
        · exact .inr ⟨if_neg h, h⟩
      replace U := hide U; replace hp := hide hp
      clear hU hn hx hw h128 hh hS a0 a1
      rcases hR with ⟨hR, hm⟩ | ⟨hR, hm⟩
      · rw [hR] at M
        replace M := hide M
        obtain ⟨own, hown⟩ : ∃ own, own = labelB v g := ⟨_, rfl⟩
        rw [← hown] at M hr
        clear hR hown
        by_cases hq : own = bs
        · rw [if_pos ⟨hm, hq⟩] at hr
          replace hr := hide hr; replace hq := hide hq
          clear hm
          go_enter Try.func22, Try.ntmps22
          go_wp2_with (first
            | (go_at_call 33; (with_reducible refine (unhide H).mono ?_); rintro e w1 ⟨rfl, hb1⟩; obtain ⟨c3, w2, hrun, F2, hb2⟩ := hcv.out w1; replace F2 := hide F2; have hb := hide (nextB hb1 hb2); clear hb1 hb2)
            | (go_at_call 34; refine (cut_yes A _ 128 c 4 c3 bs hvolB w2 (HX.out.on hb.out) F2.out.rd Hn.out rfl hc (by decide) hp.out).mono ?_; rintro e w3 ⟨⟨A1, rfl, hr1⟩, rfl⟩; replace hr1 := hide hr1)
            | (go_at_call 35; (with_reducible refine (unhide U w2 A1 hr1.out (HW.out.on hb.out)).mono ?_); rintro e w4 ⟨A4, c4, rfl, ho4, hb4⟩; have R4 := hide (Rd.of_own ho4); replace hb := hide (nextB hb.out hb4); clear hb4 ho4)
            | (go_at_call 25; (with_reducible refine (unhide M _ A4 c4 R4.out).mono ?_); rintro e w5 ⟨A5, c5, rfl, hr5, hc5, hb5⟩; replace R4 := hide (R4.out.on hb5); replace hb := hide (nextB hb.out hb5); have Q := bytesEq_any A5 A own.length c5 128 c own bs w5 hr5 (HX.out.on hb.out) rfl Hn.out; rw [decide_eq_true hq.out] at Q; replace Q := hide Q; clear hr5 hc5 hb5)
            | (go_at_call 36; (with_reducible refine (unhide Q).mono ?_); rintro e w6 ⟨rfl, rfl⟩))
          go_ret2
          rw [hr.out]
          exact ⟨A4, c4, rfl, R4.out, hb.out⟩
        · rw [if_neg (fun h => hq h.2)] at hr
          subst hr
          replace hq := hide hq
          clear hm
          go_enter Try.func22, Try.ntmps22
          go_wp2_with (first
            | (go_at_call 33; (with_reducible refine (unhide H).mono ?_); rintro e w1 ⟨rfl, hb1⟩; obtain ⟨c3, w2, hrun, F2, hb2⟩ := hcv.out w1; replace F2 := hide F2; have hb := hide (nextB hb1 hb2); clear hb1 hb2)
            | (go_at_call 34; refine (cut_yes A _ 128 c 4 c3 bs hvolB w2 (HX.out.on hb.out) F2.out.rd Hn.out rfl hc (by decide) hp.out).mono ?_; rintro e w3 ⟨⟨A1, rfl, hr1⟩, rfl⟩; replace hr1 := hide hr1)
            | (go_at_call 35; (with_reducible refine (unhide U w2 A1 hr1.out (HW.out.on hb.out)).mono ?_); rintro e w4 ⟨A4, c4, rfl, ho4, hb4⟩; have R4 := hide (Rd.of_own ho4); replace hb := hide (nextB hb.out hb4); clear hb4 ho4)
            | (go_at_call 25; (with_reducible refine (unhide M _ A4 c4 R4.out).mono ?_); rintro e w5 ⟨A5, c5, rfl, hr5, hc5, hb5⟩; replace R4 := hide (R4.out.on hb5); replace hb := hide (nextB hb.out hb5); have Q := bytesEq_any A5 A own.length c5 128 c own bs w5 hr5 (HX.out.on hb.out) rfl Hn.out; rw [decide_eq_false hq.out] at Q; replace Q := hide Q; clear hr5 hc5 hb5)
            | (go_at_call 36; (with_reducible refine (unhide Q).mono ?_); rintro e w6 ⟨rfl, rfl⟩))
          go_ret2
          exact ⟨none, 0, rfl, Rd.nil _ _, hb.out⟩
      · rw [if_neg (fun h => hm h.1)] at hr
        rw [hR] at M
        subst hr
        replace M := hide M
        clear hR hm
        go_enter Try.func22, Try.ntmps22
        go_wp2_with (first
          | (go_at_call 33; (with_reducible refine (unhide H).mono ?_); rintro e w1 ⟨rfl, hb1⟩; obtain ⟨c3, w2, hrun, F2, hb2⟩ := hcv.out w1; replace F2 := hide F2; have hb := hide (nextB hb1 hb2); clear hb1 hb2)
          | (go_at_call 34; refine (cut_yes A _ 128 c 4 c3 bs hvolB w2 (HX.out.on hb.out) F2.out.rd Hn.out rfl hc (by decide) hp.out).mono ?_; rintro e w3 ⟨⟨A1, rfl, hr1⟩, rfl⟩; replace hr1 := hide hr1)
          | (go_at_call 35; (with_reducible refine (unhide U w2 A1 hr1.out (HW.out.on hb.out)).mono ?_); rintro e w4 ⟨A4, c4, rfl, ho4, hb4⟩; have R4 := hide (Rd.of_own ho4); replace hb := hide (nextB hb.out hb4); clear hb4 ho4)
          | (go_at_call 25; (with_reducible refine (unhide M _ A4 c4 R4.out).mono ?_); rintro e w5 ⟨A5, c5, rfl, hr5, hc5, hb5⟩; replace R4 := hide (R4.out.on hb5); replace hb := hide (nextB hb.out hb5);  clear hr5 hc5 hb5))
        go_ret2
        exact ⟨none, 0, rfl, Rd.nil _ _, hb.out⟩
    · rw [if_neg (fun h => hp (hS _ _ h.2))] at hr
      subst hr
      replace hp := hide hp
      clear hU hn hx hw h128 hh hS
      go_enter Try.func22, Try.ntmps22
      go_wp2_with (first
        | (go_at_call 33; (with_reducible refine (unhide H).mono ?_); rintro e w1 ⟨rfl, hb1⟩; obtain ⟨c3, w2, hrun, F2, hb2⟩ := hcv.out w1; replace F2 := hide F2; have hb := hide (nextB hb1 hb2); clear hb1 hb2)
        | (go_at_call 34; refine (cut_no A _ 128 c 4 c3 bs hvolB w2 (HX.out.on hb.out) F2.out.rd Hn.out rfl hc (by decide) hp.out).mono ?_; rintro e w3 ⟨rfl, rfl⟩))
      go_ret2
      exact ⟨none, 0, rfl, Rd.nil _ _, hb.out⟩
end Go.Proofs.Ytfpclheplipjfaa
