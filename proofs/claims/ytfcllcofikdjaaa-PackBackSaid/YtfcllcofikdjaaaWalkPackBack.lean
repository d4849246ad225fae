import Derived.Test.YtfcllcofikdjaaaFew
import Derived.Test.YtfcllcofikdjaaaOwn
import Derived.Test.YtfcllcofikdjaaaPlain4
namespace Go.Proofs.Ytfcllcofikdjaaa
open Go.RowKit

/-- what Pack answers, if it is refused: no octets -/
theorem packR_no {l : List (Int × Nat)} {e : Int} {x : List UInt8} (h : packR l = (e, x)) (he : e ≠ 0) : x = [] := by
  unfold packR at h
  split at h
  · injection h with h1 h2; exact absurd h1.symm he
  · injection h with h1 h2; exact h2.symm
theorem packR_yes {l : List (Int × Nat)} {x : List UInt8} (h : packR l = (0, x)) : packE l = 0 ∧ x = packB l := by
  unfold packR at h
  split at h
  · rename_i h0; injection h with h1 h2; exact ⟨h0, h2.symm⟩
  · rename_i h0; injection h with h1 h2; exact absurd h1 h0
def alikeB (m a : List (Int × Nat)) (k : Nat) : Bool := decide ((m.take k).map (·.2) = (a.take k).map (·.2))
theorem alikeB_yes {m a : List (Int × Nat)} {k : Nat} {x y : Int × Nat} (h : alikeB m a k = true) (hx : m[k]? = some x) (hy : a[k]? = some y) (he : x.2 = y.2) : alikeB m a (k + 1) = true := by
  unfold alikeB at *
  rw [decide_eq_true_iff] at *
  rw [take_snoc_of hx, take_snoc_of hy, List.map_append, List.map_append, h]; simp [he]
theorem alikeB_no {m a : List (Int × Nat)} {k : Nat} {x y : Int × Nat} (hx : m[k]? = some x) (hy : a[k]? = some y) (he : x.2 ≠ y.2) (hl : (m.take k).length = (a.take k).length) : alikeB m a (k + 1) = false := by
  unfold alikeB
  rw [decide_eq_false_iff_not]
  rw [take_snoc_of hx, take_snoc_of hy, List.map_append, List.map_append]
  intro h
  have := List.append_inj_right h (by simpa using hl)
  simp at this; exact he this
theorem alikeB_past {m a : List (Int × Nat)} {k : Nat} {x y : Int × Nat} (h : alikeB m a k = false) (hx : m[k]? = some x) (hy : a[k]? = some y) (hl : (m.take k).length = (a.take k).length) : alikeB m a (k + 1) = false := by
  unfold alikeB at *
  rw [decide_eq_false_iff_not] at *
  rw [take_snoc_of hx, take_snoc_of hy, List.map_append, List.map_append]
  intro h2
  exact h (List.append_inj_left h2 (by simpa using hl))
set_option maxRecDepth 100000 in
set_option maxHeartbeats 4000000 in
theorem walk_PackBack (s0 : Sl (Int × Nat)) (s1 : Sl Nat) (s2 : Sl UInt8) (w : World) (h0 : s0.Ok w numC (fun x => x.2 < 18446744073709551616)) (h1 : s1.Ok w (fun n => [u64v n]) (fun n => n < 18446744073709551616)) (h2 : s2.Ok w (fun c => [u8v c]) (fun _ => True)) :
    Calls Try.prog 4 #[.slice s0.A s0.n s0.c, .slice s1.A s1.n s1.c, .slice s2.A s2.n s2.c] w fun e w' => e = .returned (.bool true) ∧ Below w.heap.size w w' := by
  obtain ⟨A0, n0, c0, la⟩ := s0
  obtain ⟨A1, n1, c1, other⟩ := s1
  obtain ⟨A2, n2, c2, lb⟩ := s2
  obtain ⟨r0, l0, k0, m0, q0⟩ := h0
  obtain ⟨r1, l1, k1, m1, q1⟩ := h1
  obtain ⟨r2, l2, k2, m2, _⟩ := h2
  simp only [flat_u8, flat_u64] at r0 r1 r2 l0 l1 l2 k0 k1 k2 m0 m1 m2 q0 q1 ⊢
  obtain ⟨a, na, qa, ga, ea, fa, za, casea⟩ := r0.fewF 60 l0 k0
  obtain ⟨b, nb, qb, gb, eb, fb, zb, caseb⟩ := r2.few 60 l2 k2
  have va : Hid (∀ x ∈ a, x.2 < 18446744073709551616) := fun x hx => q0 x (by rw [za] at hx; exact List.mem_of_mem_take hx)
  have vo := hide q1
  clear r0 r2 l0 l2 za zb m0 m2 q0 q1
  have GA := hide ga; have GB := hide gb; have L1 := hide l1; clear ga gb l1
  have CA := hide casea; clear casea
  obtain ⟨e1, x1, hRa⟩ : ∃ e x, packR a = (e, x) := ⟨_, _, rfl⟩
  have H1 := pack_any A0 na c0 a w qa GA.out (by omega)
  rw [hRa] at H1
  replace H1 := hide H1
  have HRa := hide hRa; clear hRa
  unfold maxLen at m1
  by_cases he : e1 = 0
  · subst he
    obtain ⟨pe, rfl⟩ := packR_yes HRa.out
    have Pe := hide pe; clear pe
    have hlen := packB_length_le a Pe.out
    rw [GA.out] at hlen
    rcases caseb with ⟨hc, rfl⟩ | ⟨hc, rfl⟩
    all_goals
      go_enter Try.func4, Try.ntmps4
      go_wp2_with (first
        | (go_at_call 12; refine (few_any A0 n0 c0 na _ k0 CA.out).mono ?_; rintro e w1 ⟨rfl, rfl⟩)
        | (go_at_call 13; refine (unhide H1).mono ?_; rintro e w2 ⟨A3, c3, rfl, ho1, hb1⟩; replace ho1 := hide ho1))
      have rb := hide ((Rd.of_own ho1.out))
      have ra := hide (qa.on hb1); have ro := hide (r1.on hb1); have rbh := hide (qb.on hb1)
      replace hb1 := hide hb1
      clear H1 ho1
      go_loopw [9, 10, 11, 12] (fun ws vs ms i wr => ∃ (k : Nat) (A9 A10 A11 : Option Addr) (c9 c10 c11 : Nat) (m : List (Int × Nat)), k ≤ na ∧ i = .int .i64 (k : Int) ∧ ws = .slice A9 k c9 ∧ vs = .slice A10 k c10 ∧ ms = .slice A11 k c11 ∧
          wr.ownsRow w2.heap.size 3 1 (.slice A9 k c9) k (((a.take k).map (·.1)).map i64v) ∧ wr.ownsRow w2.heap.size 37 1 (.slice A10 k c10) k (((a.take k).map (·.2)).map u64v) ∧
          wr.ownsRow w2.heap.size 39 2 (.slice A11 k c11) k (m.flatMap numC) ∧ m.length = k ∧ m.map (·.1) = (a.take k).map (·.1) ∧ (∀ x ∈ m, x.2 < 18446744073709551616) ∧ Below w2.heap.size w2 wr) (fun _ _ _ i _ => na - (intOf i).toNat)
      case atStart => exact ⟨0, none, none, none, 0, 0, 0, [], Nat.zero_le _, rfl, rfl, rfl, rfl, World.ownsRow_nil _ _ _ _, World.ownsRow_nil _ _ _ _, World.ownsRow_nil _ _ _ _, rfl, rfl, by simp, Below.refl _ _⟩
      case round =>
        obtain ⟨k, A9, A10, A11, c9, c10, c11, m, hk, rfl, rfl, rfl, rfl, o9, o10, o11, hml, hmw, hmv, hb⟩ := hrel
        replace o9 := hide o9; replace o10 := hide o10; replace o11 := hide o11; replace hmw := hide hmw; replace hmv := hide hmv; replace hml := hide hml
        by_cases hlt : k < na
        · obtain ⟨b0, of0, x, rfl, hbl, hxk, hcx⟩ := ra.out.flat numC_len (by decide) (k := k) (by rw [GA.out]; exact hlt)
          obtain ⟨x, v⟩ := x
          have hz0 := hide (hcx 0 _ rfl); have hz1 := hide (hcx 1 _ rfl)
          replace hxk := hide hxk
          have hv2 : Hid (v < 18446744073709551616) := va.out _ (List.mem_of_getElem? hxk.out)
          clear hcx
          have hsz := hb.size
          have h0 : wr.cell? ⟨b0, of0 + k * 2, none⟩ = some (.int .i64 x) := (hb.cell hbl).trans hz0.out
          have c9h := hide (own_form o9.out)
          by_cases hko : k < n1
          · obtain ⟨b5, of5, y, rfl, hbl5, hyk, hcy⟩ := ro.out.u64 (k := k) (by rw [L1.out]; exact hko)
            have hy2 : Hid (y < 18446744073709551616) := vo.out _ (List.mem_of_getElem? hyk)
            replace hcy := hide hcy
            clear hyk
            go_wp2_with (first
              | (at_builtin; refine wpList_app rfl (.tmp 46) (.tmp 52) rfl Try.el_int w2.heap.size _ _ _ _ rfl (o9.out.alloc _) _ _ _ [.int .i64 x] rfl (Blk.new wr _ #[.int .i64 x]).rd rfl (fun u hu => by simp at hu; subst hu; rfl) (by unfold maxLen; omega) (by omega) (by simp; omega) ?_; intro B9 d9 w3 p9 _ hg9; have hb3 := hide (own_below o9.out hb (Nat.le_refl _) hsz hg9); have q10 := hide (own_keep o10.out o9.out (by decide) hg9); have q11 := hide (own_keep o11.out o9.out (by decide) hg9); replace p9 := hide p9; have hs3 := hb3.out.size; clear hg9 h0; have h1 := (hb3.out.cell hbl).trans hz1.out)
              | (at_builtin; refine wpList_app rfl (.tmp 54) (.tmp 60) rfl Try.el_u64 w2.heap.size _ _ _ _ rfl (q10.out.alloc _) _ _ _ [.int .u64 (v : Int)] rfl (Blk.new w3 _ #[.int .u64 (v : Int)]).rd rfl (fun u hu => by simp at hu; subst hu; rfl) (by unfold maxLen; omega) (by omega) (by simp; omega) ?_; intro B10 d10 w4 p10 _ hg10; have hb4 := hide (own_below q10.out hb3.out (Nat.le_refl _) hs3 hg10); have r9 := hide (own_keep p9.out q10.out (by decide) hg10); have r11 := hide (own_keep q11.out q10.out (by decide) hg10); replace p10 := hide p10; have hs4 := hb4.out.size; clear hg10 h1; have h2 : w4.cell? ⟨b0, of0 + k * 2, none⟩ = some (.int .i64 x) := (hb4.out.cell hbl).trans hz0.out; have h3 := (hb4.out.cell hbl).trans hz1.out; have h4 := (hb4.out.cell hbl5).trans hcy.out; have hl5 := Nat.lt_of_lt_of_le hbl5 hs4)
              | (at_builtin; refine wpList_app rfl (.tmp 75) (.tmp 77) rfl Try.el_num w2.heap.size _ _ _ _ rfl ((r11.out.alloc _).alloc _) _ _ _ [.int .i64 x, .int .u64 (y : Int)] rfl (Blk.new_ _ _ #[.int .i64 x, .int .u64 (y : Int)] _ (by simp)).rd rfl (fun u hu => by simp at hu; rcases hu with rfl | rfl <;> rfl) (by unfold maxLen; omega) (by omega) (by simp; omega) ?_; intro B11 d11 w5 p11 _ hg11))
            have f9 := hide (own_keep (r9.out.alloc (.cells #[.int .i64 x, .int .u64 (y : Int)] 39)) (r11.out.alloc (.cells #[.int .i64 x, .int .u64 (y : Int)] 39)) (by decide) hg11)
            have f10 := hide (own_keep (p10.out.alloc (.cells #[.int .i64 x, .int .u64 (y : Int)] 39)) (r11.out.alloc (.cells #[.int .i64 x, .int .u64 (y : Int)] 39)) (by decide) hg11)
            have hb5 := hide (own_below (r11.out.alloc (.cells #[.int .i64 x, .int .u64 (y : Int)] 39)) (hb4.out.alloc hs4 (.cells #[.int .i64 x, .int .u64 (y : Int)] 39)) (Nat.le_refl _) (by simp; omega) hg11)
            go_roundw
            case rel =>
              refine ⟨k + 1, B9, B10, B11, d9, d10, d11, m ++ [(x, y)], by omega, by go_num, rfl, rfl, rfl, ?_, ?_, ?_, by simp [hml.out], ?_, ?_, hb5.out⟩
              · rw [take_snoc_of hxk.out]; simpa [i64v] using f9.out
              · rw [take_snoc_of hxk.out]; simpa [u64v] using f10.out
              · rw [List.flatMap_append]; exact p11
              · rw [take_snoc_of hxk.out, List.map_append, hmw.out, List.map_append]; try rfl
              · intro z hz
                rcases List.mem_append.1 hz with hz | hz
                · exact hmv.out z hz
                · rw [List.mem_singleton.1 hz]; exact hy2.out
            case measure => simp [intOf]; omega
          · go_wp2_with (first
              | (at_builtin; refine wpList_app rfl (.tmp 46) (.tmp 52) rfl Try.el_int w2.heap.size _ _ _ _ rfl (o9.out.alloc _) _ _ _ [.int .i64 x] rfl (Blk.new wr _ #[.int .i64 x]).rd rfl (fun u hu => by simp at hu; subst hu; rfl) (by unfold maxLen; omega) (by omega) (by simp; omega) ?_; intro B9 d9 w3 p9 _ hg9; have hb3 := hide (own_below o9.out hb (Nat.le_refl _) hsz hg9); have q10 := hide (own_keep o10.out o9.out (by decide) hg9); have q11 := hide (own_keep o11.out o9.out (by decide) hg9); replace p9 := hide p9; have hs3 := hb3.out.size; clear hg9 h0; have h1 := (hb3.out.cell hbl).trans hz1.out)
              | (at_builtin; refine wpList_app rfl (.tmp 54) (.tmp 60) rfl Try.el_u64 w2.heap.size _ _ _ _ rfl (q10.out.alloc _) _ _ _ [.int .u64 (v : Int)] rfl (Blk.new w3 _ #[.int .u64 (v : Int)]).rd rfl (fun u hu => by simp at hu; subst hu; rfl) (by unfold maxLen; omega) (by omega) (by simp; omega) ?_; intro B10 d10 w4 p10 _ hg10; have hb4 := hide (own_below q10.out hb3.out (Nat.le_refl _) hs3 hg10); have r9 := hide (own_keep p9.out q10.out (by decide) hg10); have r11 := hide (own_keep q11.out q10.out (by decide) hg10); replace p10 := hide p10; have hs4 := hb4.out.size; clear hg10 h1; have h2 : w4.cell? ⟨b0, of0 + k * 2, none⟩ = some (.int .i64 x) := (hb4.out.cell hbl).trans hz0.out; have h3 := (hb4.out.cell hbl).trans hz1.out)
              | (at_builtin; refine wpList_app rfl (.tmp 75) (.tmp 77) rfl Try.el_num w2.heap.size _ _ _ _ rfl ((r11.out.alloc _).alloc _) _ _ _ [.int .i64 x, .int .u64 (v : Int)] rfl (Blk.new_ _ _ #[.int .i64 x, .int .u64 (v : Int)] _ (by simp)).rd rfl (fun u hu => by simp at hu; rcases hu with rfl | rfl <;> rfl) (by unfold maxLen; omega) (by omega) (by simp; omega) ?_; intro B11 d11 w5 p11 _ hg11))
            have f9 := hide (own_keep (r9.out.alloc (.cells #[.int .i64 x, .int .u64 (v : Int)] 39)) (r11.out.alloc (.cells #[.int .i64 x, .int .u64 (v : Int)] 39)) (by decide) hg11)
            have f10 := hide (own_keep (p10.out.alloc (.cells #[.int .i64 x, .int .u64 (v : Int)] 39)) (r11.out.alloc (.cells #[.int .i64 x, .int .u64 (v : Int)] 39)) (by decide) hg11)
            have hb5 := hide (own_below (r11.out.alloc (.cells #[.int .i64 x, .int .u64 (v : Int)] 39)) (hb4.out.alloc hs4 (.cells #[.int .i64 x, .int .u64 (v : Int)] 39)) (Nat.le_refl _) (by simp; omega) hg11)
            go_roundw
            case rel =>
              refine ⟨k + 1, B9, B10, B11, d9, d10, d11, m ++ [(x, v)], by omega, by go_num, rfl, rfl, rfl, ?_, ?_, ?_, by simp [hml.out], ?_, ?_, hb5.out⟩
              · rw [take_snoc_of hxk.out]; simpa [i64v] using f9.out
              · rw [take_snoc_of hxk.out]; simpa [u64v] using f10.out
              · rw [List.flatMap_append]; exact p11
              · rw [take_snoc_of hxk.out, List.map_append, hmw.out, List.map_append]; try rfl
              · intro z hz
                rcases List.mem_append.1 hz with hz | hz
                · exact hmv.out z hz
                · rw [List.mem_singleton.1 hz]; exact hv2.out
            case measure => simp [intOf]; omega
        · obtain rfl : k = na := by omega
          have hw : a.take k = a := List.take_of_length_le (Nat.le_of_eq GA.out)
          rw [hw] at hmw
          have W9 := hide (Rd.of_own o9.out); have W10 := hide (Rd.of_own o10.out); have W11 := hide (Rd.of_own o11.out)
          rw [hw] at W9 W10
          obtain ⟨e2, x2, hRm⟩ : ∃ e x, packR m = (e, x) := ⟨_, _, rfl⟩
          have HRm := hide hRm
          clear hRm hw o9 o10 o11 hlt
          have own0 := World.ownsRow_lit (base := wr.heap.size) (e := 5) (size := 1) wr #[] 0 (Nat.le_refl _) (by unfold maxLen; omega) rfl
          have rb6 := (rb.out.on hb).alloc (.cells #[] 5)
          have rh6 := (rbh.out.on hb).alloc (.cells #[] 5)
          have LW9 : ((a.map (·.1)).map i64v).length = k * 1 := by rw [List.length_map, List.length_map, GA.out, Nat.mul_one]
          have LW9' := hide LW9; clear LW9
          go_wp2_with (first
            | (at_builtin; refine wpList_app rfl (.tmp 80) (.tmp 81) rfl Try.el_u8 wr.heap.size _ _ _ _ rfl own0 _ _ _ ((packB a).map u8v) rfl rb6 (by rw [List.length_map, Nat.mul_one]) (one_u8 _) (by unfold maxLen; omega) (by omega) (by simp) ?_; intro B1 d1 w6 p1 _ hg1; simp only [Nat.zero_add, List.nil_append] at p1; have k1 : Below wr.heap.size wr w6 := ((Below.refl _ _).alloc (Nat.le_refl _) (.cells #[] 5)).grown hg1 (by simp) (fun k hk => by simp [Value.ownBlock] at hk; omega); have rh7 := hide ((rbh.out.on hb).on k1); have hz6 := k1.size; replace p1 := hide p1; replace k1 := hide k1; clear hg1)
            | (at_builtin; refine wpList_app rfl (.tmp 82) (.tmp 83) rfl Try.el_u8 wr.heap.size _ _ _ _ rfl p1.out _ _ _ (b.map u8v) rfl rh7.out (by rw [List.length_map, GB.out, Nat.mul_one]) (one_u8 _) (by unfold maxLen; omega) (by omega) (by omega) ?_; intro B2 d2 w7 p2 hc2 hg2; have k2' : Below wr.heap.size wr w7 := k1.out.grown hg2 k1.out.size (fun k hk => (p1.out.lt k hk).1); rw [← List.map_append] at p2; replace p2 := hide p2; replace k2' := hide k2'; clear hg2))
          have U := unpack_any B2 A9 _ d2 k c9 (packB a ++ b) (a.map (·.1)) w7 (Rd.of_own p2.out) (W9.out.on k2'.out) (by rw [List.length_append, GB.out]) hc2 (by rw [List.length_map, GA.out]) (by omega)
          rw [unpackR_pack a b Pe.out va.out] at U
          refine U.mono ?_
          rintro e w8 ⟨A14, c14, rfl, o14, hb8⟩
          clear U
          have hl14 : (a.map (·.2)).length = k := by rw [List.length_map, GA.out]
          simp only [hl14] at o14
          have W14 := hide (Rd.of_own o14)
          have kw8 := hide (hb.trans ((k2'.out.trans (hb8.mono k2'.out.size)).mono hb.size))
          have kr8 := hide (k2'.out.trans (hb8.mono k2'.out.size))
          clear o14 hl14 p1 p2 own0 rb6 rh6 hb8 k1 k2' hz6 LW9' rh7
          go_wp2_with fail
          have U := pack_any A11 k c11 m w8 (W11.out.on kr8.out) hml.out (by omega)
          rw [HRm.out] at U
          refine U.mono ?_
          rintro e w9 ⟨A16, c16, rfl, o16, hb9⟩
          clear U
          have W16 := hide (Rd.of_own o16)
          replace W14 := hide (W14.out.on hb9)
          have kr9 := hide (kr8.out.trans (hb9.mono kr8.out.size))
          replace W10 := hide (W10.out.on kr9.out); replace W11 := hide (W11.out.on kr9.out)
          have kw9 := hide (hb.trans (kr9.out.mono hb.size))
          have ra9 := hide (ra.out.on kw9.out); have rb9 := hide (rb.out.on kw9.out)
          clear o16 hb9 kr8 kw8 W9
          have hmT : m.take 0 = [] := rfl
          clear hmT
          go_wp2_with fail
          go_loopw [18, 19] (fun al i wr => ∃ j : Nat, j ≤ k ∧ i = .int .i64 (j : Int) ∧ al = .bool (alikeB m a j) ∧ Below w9.heap.size w9 wr) (fun _ i _ => k - (intOf i).toNat)
          case atStart => exact ⟨0, Nat.zero_le _, rfl, rfl, Below.refl _ _⟩
          case round =>
            obtain ⟨j, hj, rfl, rfl, hbx⟩ := hrel
            by_cases hlt : j < k
            · obtain ⟨bm, om, xm, rfl, hbm, hxm, hcm⟩ := W11.out.flat numC_len (by decide) (k := j) (by rw [hml.out]; exact hlt)
              obtain ⟨ba, oa, xa, rfl, hba, hxa, hca⟩ := ra9.out.flat numC_len (by decide) (k := j) (by rw [GA.out]; exact hlt)
              have hm1 : wr.cell? ⟨bm, om + j * 2 + 1, none⟩ = some (.int .u64 (xm.2 : Int)) := (hbx.cell hbm).trans (hcm 1 _ rfl)
              have ha1 : wr.cell? ⟨ba, oa + j * 2 + 1, none⟩ = some (.int .u64 (xa.2 : Int)) := (hbx.cell hba).trans (hca 1 _ rfl)
              have hll : (m.take j).length = (a.take j).length := by rw [List.length_take, List.length_take, hml.out, GA.out]
              replace hbx := hide hbx
              by_cases hal : alikeB m a j = true
              · by_cases hxe : xm.2 = xa.2
                · have hn := hide (alikeB_yes hal hxm hxa hxe)
                  rw [hxe] at hm1
                  clear hxe hxm hxa hcm hca hll
                  rw [hal]
                  clear hal
                  go_wp2_with fail
                  go_quiet (fail)
                  go_wp2_with fail
                  go_roundw
                  case rel => exact ⟨j + 1, by omega, by go_num, by rw [hn.out], below_drewN hbx.out _⟩
                  case measure => simp [intOf]; omega
                · have hn := hide (alikeB_no hxm hxa hxe hll)
                  have hne : ((xm.2 : Int) == (xa.2 : Int)) = false := by simp; omega
                  clear hxe hxm hxa hcm hca hll
                  rw [hal]
                  clear hal
                  go_wp2_with fail
                  go_quiet (fail)
                  go_wp2_with fail
                  go_roundw
                  case rel => exact ⟨j + 1, by omega, by go_num, by rw [hn.out], below_drewN hbx.out _⟩
                  case measure => simp [intOf]; omega
              · have hal : alikeB m a j = false := by simpa using hal
                have hn := hide (alikeB_past hal hxm hxa hll)
                clear hxm hxa hcm hca hll
                rw [hal]
                clear hal
                go_wp2_with fail
                go_quiet (fail)
                go_wp2_with fail
                go_roundw
                case rel => exact ⟨j + 1, by omega, by go_num, by rw [hn.out], below_drewN hbx.out _⟩
                case measure => simp [intOf]; omega
            · obtain rfl : j = k := by omega
              have U := same_any A14 A10 a.length c14 j c10 (a.map (·.2)) (a.map (·.2)) wr (W14.out.on hbx) (W10.out.on hbx) (by rw [List.length_map]) (by rw [List.length_map, GA.out]) (by rw [GA.out]; omega) (by omega)
              rw [decide_eq_true rfl] at U
              replace U := hide U
              have kx := hide (kw9.out.trans (hbx.mono kw9.out.size))
              have k0x := hide (hb1.out.trans (kx.out.mono hb1.out.size))
              have halk : alikeB m a j = decide (m.map (·.2) = a.map (·.2)) := by unfold alikeB; rw [List.take_of_length_le (Nat.le_of_eq hml.out), List.take_of_length_le (Nat.le_of_eq GA.out)]
              by_cases h20 : e2 = 0
              · subst h20
                obtain ⟨pm, rfl⟩ := packR_yes HRm.out
                have hps := packB_same a m Pe.out pm va.out hmv.out hmw.out
                clear pm
                by_cases hal : alikeB m a j = true
                · rw [halk, decide_eq_true_iff] at hal
                  have hpe := hps.2 hal
                  have hal2 : alikeB m a j = true := by rw [halk, decide_eq_true_iff]; exact hal
                  clear hps halk hal
                  rw [hpe] at W16 ⊢
                  rw [hal2]
                  clear hpe hal2
                  go_wp2_with (first
                    | (go_at_call 10; refine (unhide U).mono ?_; rintro e wy ⟨rfl, hby⟩; have s2 := run_str (P := Try.prog) (c := c16) 22 9 5 Try.underlying22 Try.underlying5 Try.underlying9 ((W16.out.on hbx).on hby) rfl; have s1 := run_str (P := Try.prog) (c := c3) 22 9 5 Try.underlying22 Try.underlying5 Try.underlying9 ((rb9.out.on hbx).on hby) rfl)
                    | (go_at_call 11; refine (awake_any _).mono ?_; rintro e wz ⟨rfl, hbz⟩))
                  go_ret
                  exact ⟨rfl, k0x.out.trans ((hby.trans (hbz.mono hby.size)).mono k0x.out.size)⟩
                · have hpe : packB m ≠ packB a := fun h => hal (by rw [halk, decide_eq_true_iff]; exact hps.1 h)
                  have hal2 : alikeB m a j = false := by simpa using hal
                  clear hps halk hal
                  rw [hal2]
                  clear hal2
                  go_wp2_with (first
                    | (go_at_call 10; refine (unhide U).mono ?_; rintro e wy ⟨rfl, hby⟩; have s2 := run_str (P := Try.prog) (c := c16) 22 9 5 Try.underlying22 Try.underlying5 Try.underlying9 ((W16.out.on hbx).on hby) rfl; have s1 := run_str (P := Try.prog) (c := c3) 22 9 5 Try.underlying22 Try.underlying5 Try.underlying9 ((rb9.out.on hbx).on hby) rfl)
                    | (go_at_call 11; refine (awake_any _).mono ?_; rintro e wz ⟨rfl, hbz⟩))
                  go_ret
                  exact ⟨ret_bool (by simp [hpe]), k0x.out.trans ((hby.trans (hbz.mono hby.size)).mono k0x.out.size)⟩
              · have hg : (e2 != 0) = true := by simpa using h20
                clear halk h20
                go_wp2_with (first
                  | (go_at_call 10; refine (unhide U).mono ?_; rintro e wy ⟨rfl, hby⟩)
                  | (go_at_call 11; refine (awake_any _).mono ?_; rintro e wz ⟨rfl, hbz⟩))
                go_ret
                exact ⟨rfl, k0x.out.trans ((hby.trans (hbz.mono hby.size)).mono k0x.out.size)⟩
  · have hx : x1 = [] := packR_no HRa.out he
    subst hx
    have b1 : (e1 != 0) = true := by simpa using he
    rcases caseb with ⟨h, rfl⟩ | ⟨h, rfl⟩
    all_goals
      clear he
      go_enter Try.func4, Try.ntmps4
      go_wp2_with (first
        | (go_at_call 12; refine (few_any A0 n0 c0 na _ k0 CA.out).mono ?_; rintro e w1 ⟨rfl, rfl⟩)
        | (go_at_call 13; refine (unhide H1).mono ?_; rintro e w2 ⟨A3, c3, rfl, ho1, hb1⟩; replace ho1 := hide ho1)
        | (go_at_call 11; refine (awake_any _).mono ?_; rintro e w7 ⟨rfl, hb6⟩))
      go_ret
      exact ⟨rfl, hb1.trans (hb6.mono hb1.size)⟩
end Go.Proofs.Ytfcllcofikdjaaa
