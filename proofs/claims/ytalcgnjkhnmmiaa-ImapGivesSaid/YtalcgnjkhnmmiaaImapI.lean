import Derived.Test.YtalcgnjkhnmmiaaImapH
namespace Go.Proofs.Ytalcgnjkhnmmiaa
open Go.RowKit

set_option maxHeartbeats 400000 in
theorem sameI_any (A A' : Option Addr) (n c n' c' : Nat) (xs ys : List Int) (w : World) (hx : Rd w A (xs.map i64v)) (hy : Rd w A' (ys.map i64v))
    (hn : xs.length = n) (hn' : ys.length = n') (hm : n ≤ 4294967296) (hm' : n' ≤ 4294967296) :
    Calls Try.prog 28 #[.slice A n c, .slice A' n' c'] w fun e w' => e = .returned (.bool (decide (xs = ys))) ∧ Below w.heap.size w w' := by
  by_cases hne : n = n'
  · subst hne
    have Hn := hide hn; have Hn' := hide hn'; clear hn hn'
    go_enter Try.func28, Try.ntmps28
    go_wp2
    go_loopw [5] (fun i wr => ∃ k : Nat, k ≤ n ∧ i = .int .i64 k ∧ xs.take k = ys.take k ∧ Below w.heap.size w wr) (fun i _ => n - (intOf i).toNat)
    case atStart => exact ⟨0, Nat.zero_le _, rfl, rfl, Below.refl _ _⟩
    case round =>
      obtain ⟨k, hk, rfl, ht, hb⟩ := hrel
      have Ht := hide ht; clear ht
      by_cases hlt : k < n
      · obtain ⟨b, o, x, rfl, hbl, hxk, hcx⟩ := hx.i64 (k := k) (by rw [Hn.out]; exact hlt)
        obtain ⟨b', o', y, rfl, hbl', hyk, hcy⟩ := hy.i64 (k := k) (by rw [Hn'.out]; exact hlt)
        have Hxk := hide hxk; have Hyk := hide hyk; clear hxk hyk
        have hcx' := (hb.cell (p := ⟨b, o + k, none⟩) hbl).trans hcx
        have hcy' := (hb.cell (p := ⟨b', o' + k, none⟩) hbl').trans hcy
        clear hcx hcy
        by_cases hxy : x = y
        · subst hxy
          go_wp2
          go_quiet (fail)
          go_wp2
          go_roundw
          case rel => exact ⟨k + 1, by omega, by go_num, take_snoc_eq Ht.out Hxk.out Hyk.out, below_drewN hb _⟩
          case measure => simp [intOf]; omega
        · have h1 : (x != y) = true := by simpa using hxy
          go_wp2
          go_quiet (fail)
          go_wp2
          go_ret
          refine ⟨ret_bool ?_, below_drewN hb _⟩
          symm; rw [decide_eq_false_iff_not]; rintro rfl
          exact hxy (Option.some.inj (Hxk.out.symm.trans Hyk.out))
      · obtain rfl : k = n := by omega
        go_wp2
        go_ret
        refine ⟨ret_bool ?_, hb⟩
        symm; rw [decide_eq_true_iff]
        have := Ht.out
        rwa [List.take_of_length_le (Nat.le_of_eq Hn.out), List.take_of_length_le (Nat.le_of_eq Hn'.out)] at this
  · have h1 : ((n : Int) != (n' : Int)) = true := by simp; omega
    go_enter Try.func28, Try.ntmps28
    go_wp2
    go_ret
    exact ⟨ret_bool (by simp; intro h; subst h; omega), Below.refl _ _⟩
/-- 'T{}', in a guarded operation -/
theorem wpList_built_g {P : Program} {w : World} {ops : Array Oper} {rest : List Oper} {o : Oper} {a : Act} {Q : Exit → Act → World → Prop} (hgd : Region.wanted o (yielded ops a.tmps) = true) (t : TypeId) (ho : o.op = .build t #[]) (cs : Array Value) (hb : P.built t [] = some cs)
    (h : wpList P ops Q rest (a.put o.dst (.agg cs)) w) : wpList P ops Q (o :: rest) a w := by
  rw [wpList, if_pos hgd]
  exact .inl (wp_build t #[] ho (by simp [hb]) (by simpa [hb] using h))
def map7 : List Slot := map0.set 7 ⟨1, 0, 0⟩
def map10 : List Slot := map0.set 10 ⟨1, 0, 0⟩
theorem aw1 : freeM map0 = (1, 0) := by decide +kernel
theorem aw2 : putM map0 7 1 0 = (map7, 0) := by decide +kernel
theorem aw3 : putM map0 10 1 0 = (map10, 0) := by decide +kernel
theorem aw4 : dropM map7 8 = (map0, 6) := by decide +kernel
theorem aw5 : changedM map0 map7 = [0] := by decide +kernel
theorem aw6 : changedM map0 map10 = [1] := by decide +kernel
set_option maxRecDepth 100000 in
set_option maxHeartbeats 4000000 in
theorem awake_any (w : World) : Calls Try.prog 15 #[] w fun e w' => e = .returned (.bool true) ∧ Below w.heap.size w w' := by
  have L7 : map7.length = 40 := by decide
  have L10 : map10.length = 40 := by decide
  have C1 := fun w => free_any map0 map0_len w
  have C2 := fun w => put_any map0 7 1 0 map0_len w
  have C3 := fun w => put_any map0 10 1 0 map0_len w
  have C4 := fun w => drop_any map7 8 L7 w
  have C5 := fun w => changed_any map0 map7 map0_len L7 w
  have C6 := fun w => changed_any map0 map10 map0_len L10 w
  simp only [show ((0 : Nat) : Int) = 0 from rfl] at C2 C3
  rw [aw1] at C1; rw [aw2] at C2; rw [aw3] at C3; rw [aw4] at C4; rw [aw5] at C5; rw [aw6] at C6
  replace C1 := hide C1; replace C2 := hide C2; replace C3 := hide C3; replace C4 := hide C4; replace C5 := hide C5; replace C6 := hide C6
  have z7 := hide (mapC_size L7); have z10 := hide (mapC_size L10)
  clear L7 L10
  have hz := map_zero
  go_enter Try.func15, Try.ntmps15
  go_wp2_with (first
    | (refine wpList_built rfl 28 rfl (mapC map0) map_built ?_)
    | (go_at_call 7; refine (unhide C1 _).mono ?_; rintro e w1 ⟨rfl, hb1⟩; have hb := hide hb1)
    | (go_at_call 9; (with_reducible refine (unhide C2 _).mono ?_); rintro e w2 ⟨rfl, hb2⟩; replace hb := hide (nextB hb.out hb2))
    | (refine wpList_store_row rfl _ (.tmp 3) _ rfl w2.heap.size (mapC map7) rfl rfl _ (mapC map0) (Blk.new w2 _ _) (by rw [z7.out]; exact Try.sizeMap) (by rw [z7.out, mapC_size map0_len]) (mapC_one _) ?_)
    | (go_at_call 9; (with_reducible refine (unhide C3 _).mono ?_); rintro e w4 ⟨rfl, hb4⟩; replace hb := hide (nextB (below_setRow (hb.out.alloc hb.out.size (.cells (mapC map0) 28)) hb.out.size (mapC map7)) hb4); have B3 := hide ((Blk.row (Blk.new w2 28 (mapC map0)) (mapC map7)).below hb4 (Blk.row (Blk.new w2 28 (mapC map0)) (mapC map7)).lt); have l3 := B3.out.lt; obtain ⟨g3, hg3⟩ : ∃ g, g = w2.heap.size := ⟨_, rfl⟩; rw [← hg3] at B3 l3 ⊢; clear hg3)
    | (refine wpList_store_row rfl _ (.tmp 5) _ rfl w4.heap.size (mapC map10) rfl rfl _ (mapC map0) (Blk.new w4 _ _) (by rw [z10.out]; exact Try.sizeMap) (by rw [z10.out, mapC_size map0_len]) (mapC_one _) ?_)
    | (refine wpList_load_row rfl _ (.tmp 3) rfl g3 rfl _ (mapC map7) _ _ ((B3.out.alloc (.cells (mapC map0) 28)).rowFar (Nat.ne_of_lt B3.out.lt) (mapC map10)) Try.arrMap rfl (by rw [z7.out]; exact Try.sizeMap) ?_)
    | (go_at_call 11; (with_reducible refine (unhide C4 _).mono ?_); rintro e w6 ⟨rfl, hb6⟩; replace hb := hide (nextB (below_setRow (hb.out.alloc hb.out.size (.cells (mapC map0) 28)) hb.out.size (mapC map10)) hb6); replace B3 := hide (((B3.out.alloc (.cells (mapC map0) 28)).rowFar (Nat.ne_of_lt B3.out.lt) (mapC map10)).below hb6 ((B3.out.alloc (.cells (mapC map0) 28)).rowFar (Nat.ne_of_lt B3.out.lt) (mapC map10)).lt); have B5 := hide ((Blk.row (Blk.new w4 28 (mapC map0)) (mapC map10)).below hb6 (Blk.row (Blk.new w4 28 (mapC map0)) (mapC map10)).lt); clear l3; have l3 := B3.out.lt; have l5 := B5.out.lt; obtain ⟨g5, hg5⟩ : ∃ g, g = w4.heap.size := ⟨_, rfl⟩; rw [← hg5] at B5 l5 ⊢; clear hg5)
    | (refine wpList_store_row rfl _ (.tmp 7) _ rfl w6.heap.size (mapC map0) rfl rfl _ (mapC map0) (Blk.new w6 _ _) (by rw [mapC_size map0_len]; exact Try.sizeMap) rfl (mapC_one _) ?_)
    | (refine wpList_built_g rfl 28 rfl (mapC map0) map_built ?_)
    | (refine wpList_load_row_g rfl _ (.tmp 3) rfl g3 rfl _ (mapC map7) _ _ ((B3.out.alloc (.cells (mapC map0) 28)).rowFar (Nat.ne_of_lt B3.out.lt) (mapC map0)) Try.arrMap rfl (by rw [z7.out]; exact Try.sizeMap) ?_)
    | (go_at_call 16; (with_reducible refine (unhide C5 _).mono ?_); rintro e w8 ⟨A8, c8, rfl, hr8, _, hb8⟩; replace hr8 := hide hr8; have S8 := sameI_any A8 (some ⟨w8.heap.size, 0, none⟩) 1 c8 1 1 [0] [0] (w8.alloc (.cells #[.int .i64 0] 3)) (hr8.out.alloc _) (Blk.new w8 _ #[.int .i64 0]).rd rfl rfl (by decide) (by decide); rw [decide_eq_true rfl] at S8; replace S8 := hide S8; replace hb := hide (nextB (below_setRow (hb.out.alloc hb.out.size (.cells (mapC map0) 28)) hb.out.size (mapC map0)) hb8); replace B5 := hide (((B5.out.alloc (.cells (mapC map0) 28)).rowFar (Nat.ne_of_lt B5.out.lt) (mapC map0)).below hb8 ((B5.out.alloc (.cells (mapC map0) 28)).rowFar (Nat.ne_of_lt B5.out.lt) (mapC map0)).lt))
    | (go_at_call 28; (with_reducible refine (unhide S8).mono ?_); rintro e w9 ⟨rfl, hb9⟩; replace hb := hide (nextB (hb.out.alloc hb.out.size _) hb9); replace B5 := hide ((B5.out.alloc _).below hb9 (B5.out.alloc _).lt))
    | (refine wpList_load_row_g rfl _ (.tmp 5) rfl g5 rfl _ (mapC map10) _ _ B5.out Try.arrMap rfl (by rw [z10.out]; exact Try.sizeMap) ?_)
    | (go_at_call 16; (with_reducible refine (unhide C6 _).mono ?_); rintro e w10 ⟨A10, c10, rfl, hr10, _, hb10⟩; replace hr10 := hide hr10; have S10 := sameI_any A10 (some ⟨w10.heap.size, 0, none⟩) 1 c10 1 1 [1] [1] (w10.alloc (.cells #[.int .i64 1] 3)) (hr10.out.alloc _) (Blk.new w10 _ #[.int .i64 1]).rd rfl rfl (by decide) (by decide); rw [decide_eq_true rfl] at S10; replace S10 := hide S10; replace hb := hide (nextB hb.out hb10))
    | (go_at_call 28; (with_reducible refine (unhide S10).mono ?_); rintro e w11 ⟨rfl, hb11⟩; replace hb := hide (nextB (hb.out.alloc hb.out.size _) hb11)))
  go_ret
  exact ⟨rfl, hb.out⟩
end Go.Proofs.Ytalcgnjkhnmmiaa
