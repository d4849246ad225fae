import Derived.Test.YtalcgnjkhnmmiaaImapI
import Derived.Test.YtalcgnjkhnmmiaaOpenI
namespace Go.Proofs.Ytalcgnjkhnmmiaa
open Go.RowKit

/-- a value is stored into a variable just made -/
theorem wpList_store_new {P : Program} {ops : Array Oper} {rest : List Oper} {o : Oper} {a : Act} {Q : Exit → Act → World → Prop} (hgd : o.guard = none) (ty : TypeId) (x y : Operand) (ho : o.op = .store ty x y) (W : World) (old new : Array Value) (t : TypeId)
    (hx : a.eval x = .pointer (some ⟨W.heap.size, 0, none⟩)) (hy : a.eval y = .agg new) (hi : (P.info? ty).map (·.size) = some new.size) (hold : old.size = new.size) (h1 : new.all (·.oneCell') = true)
    (h : wpList P ops Q rest (a.put o.dst undef) (W.alloc (.cells new t))) : wpList P ops Q (o :: rest) a (W.alloc (.cells old t)) := by
  refine wpList_store_row hgd ty x y ho W.heap.size new hx hy t old (Blk.new W t old) hi hold h1 ?_
  have e : (W.alloc (.cells old t)).setRow W.heap.size new = W.alloc (.cells new t) := by
    have hb : (W.alloc (.cells old t)).heap[W.heap.size]? = some (.cells old t) := heap_alloc_new W _
    have h1 : (W.alloc (.cells new t)).heap = ((W.alloc (.cells old t)).setRow W.heap.size new).heap := by
      apply Array.ext_getElem?
      intro i
      by_cases hi : i = W.heap.size
      · subst hi
        rw [setRow_heap _ _ old new t _ hb, heap_alloc_new]
      · rw [setRow_other _ _ _ _ hi]
        rcases Nat.lt_or_ge i W.heap.size with h | h
        · rw [Below.heap_alloc W _ i h, Below.heap_alloc W _ i h]
        · rw [Array.getElem?_eq_none (by simp; omega), Array.getElem?_eq_none (by simp; omega)]
    have h2 : (W.alloc (.cells new t)) = { (W.alloc (.cells old t)) with heap := (W.alloc (.cells new t)).heap } := rfl
    rw [h2, h1]; rfl
  rw [e]; exact h
/-- a map is read -/
theorem load_map {ops : Array Oper} {rest : List Oper} {o : Oper} {a : Act} {w : World} {Q : Exit → Act → World → Prop} (x : Operand) (ho : o.op = .load 28 x) (hgd : o.guard = none)
    (g : Nat) (m : List Slot) (hx : a.eval x = .pointer (some ⟨g, 0, none⟩)) (hB : Blk w g 28 (mapC m)) (hl : (mapC m).size = 120) (h : wpList Try.prog ops Q rest (a.put o.dst (.agg (mapC m))) w) : wpList Try.prog ops Q (o :: rest) a w :=
  wpList_load_row hgd _ x ho g hx _ (mapC m) _ _ hB Try.arrMap rfl (by rw [hl]; exact Try.sizeMap) h
/-- a map is stored into a variable just made -/
theorem store_map {ops : Array Oper} {rest : List Oper} {o : Oper} {a : Act} {Q : Exit → Act → World → Prop} (x y : Operand) (ho : o.op = .store 28 x y) (hgd : o.guard = none) (W : World) (m : List Slot)
    (hx : a.eval x = .pointer (some ⟨W.heap.size, 0, none⟩)) (hy : a.eval y = .agg (mapC m)) (hl : (mapC m).size = 120)
    (h : wpList Try.prog ops Q rest (a.put o.dst undef) (W.alloc (.cells (mapC m) 28))) : wpList Try.prog ops Q (o :: rest) a (W.alloc (.cells (mapC map0) 28)) :=
  wpList_store_new hgd _ x y ho W (mapC map0) (mapC m) _ hx hy (by rw [hl]; exact Try.sizeMap) (by rw [hl, mapC_size map0_len]) (mapC_one _) h
/-- a map is read, in a guarded operation -/
theorem load_map_g {ops : Array Oper} {rest : List Oper} {o : Oper} {a : Act} {w : World} {Q : Exit → Act → World → Prop} (x : Operand) (ho : o.op = .load 28 x) (hgd : Region.wanted o (yielded ops a.tmps) = true)
    (g : Nat) (m : List Slot) (hx : a.eval x = .pointer (some ⟨g, 0, none⟩)) (hB : Blk w g 28 (mapC m)) (hl : (mapC m).size = 120) (h : wpList Try.prog ops Q rest (a.put o.dst (.agg (mapC m))) w) : wpList Try.prog ops Q (o :: rest) a w :=
  wpList_load_row_g hgd _ x ho g hx _ (mapC m) _ _ hB Try.arrMap rfl (by rw [hl]; exact Try.sizeMap) h
theorem map_eq {m n : List Slot} (h1 : m.length = 40) (h2 : n.length = 40) (w : World) : (Op.equalIn 10000 28 (.agg (mapC m)) (.agg (mapC n))).run Try.prog w = .ok (decide (m = n)) w :=
  run_equal_flat (d := 9999) Try.arrMap Try.wideSlot slotC_len (eqSlot 9996) (fun _ _ => trivial) (fun _ _ => trivial) h1 h2 w
/-- a map is compared with itself, in a guarded operation -/
theorem eql_map_g {ops : Array Oper} {rest : List Oper} {o : Oper} {a : Act} {w : World} {Q : Exit → Act → World → Prop} (x y : Operand) (ty : TypeId) (ho : o.op = .binOp .eql 28 x y ty) (hgd : Region.wanted o (yielded ops a.tmps) = true)
    (m : List Slot) (hx : a.eval x = .agg (mapC m)) (hy : a.eval y = .agg (mapC m)) (hl : m.length = 40) (h : wpList Try.prog ops Q rest (a.put o.dst (.bool true)) w) : wpList Try.prog ops Q (o :: rest) a w := by
  rw [wpList, if_pos hgd]
  refine .inl ?_
  unfold Oper.wp
  simp only [execOp, ho, hx, hy, Sem.run_bind, run_eqGuard_agg (P := Try.prog) w .eql 28 x y (mapC m) (mapC m) (by kernel_rfl), Result.andThen_ok, run_eql_struct w, map_eq hl hl w, Sem.run_pure, decide_true]
  exact h
theorem putM_len {m : List Slot} (h : m.length = 40) (i a : Int) (s : Nat) : (putM m i a s).1.length = 40 := by
  unfold putM; split
  · rfl
  · split
    · rfl
    · simp [h]
theorem dropM_len {m : List Slot} (h : m.length = 40) (i : Int) : (dropM m i).1.length = 40 := by
  unfold dropM; split
  · rfl
  · split
    · rfl
    · simp [h]
theorem giveM_len {m : List Slot} (h : m.length = 40) (i : Int) : (giveM m i).1.length = 40 := by
  unfold giveM; split
  · rfl
  · split
    · rfl
    · simp [h]
set_option maxRecDepth 100000 in
set_option maxHeartbeats 8000000 in
theorem walk_ImapRules (m : List Slot) (i : Int) (p : Int × Nat) (w : World) (hm : m.length = 40 ∧ ∀ x ∈ m, slotOk x) (_hi : (Lit.int .i64 i).wf = true) (_hp : ptrOk p) :
    Calls Try.prog 3 #[.agg (mapC m), .int .i64 i, .agg #[.int .i64 p.1, .int .u32 (p.2 : Int)]] w fun e w' => e = .returned (.bool true) ∧ Below w.heap.size w w' := by
  obtain ⟨a, s⟩ := p
  obtain ⟨h40, _⟩ := hm
  simp only
  have C1 := fun w => free_any m h40 w
  have C2 := fun w => freeRef_any m h40 w
  have C3 := fun w => put_any m i a s h40 w
  have C4 := fun w => putRef_any m i a s h40 w
  have C5 := fun w => drop_any m i h40 w
  have C6 := fun w => dropRef_any m i h40 w
  have C7 := fun w => give_any m i h40 w
  have C8 := fun w => giveRef_any m i h40 w
  have l1 := putM_len h40 i a s
  have l2 := dropM_len h40 i
  have l3 := giveM_len h40 i
  obtain ⟨f1, f2, hf⟩ : ∃ x y, freeM m = (x, y) := ⟨_, _, rfl⟩
  obtain ⟨X1, e1, h1⟩ : ∃ x y, putM m i a s = (x, y) := ⟨_, _, rfl⟩
  obtain ⟨X2, e2, h2⟩ : ∃ x y, dropM m i = (x, y) := ⟨_, _, rfl⟩
  obtain ⟨X3, e3, h3⟩ : ∃ x y, giveM m i = (x, y) := ⟨_, _, rfl⟩
  rw [hf] at C1 C2; rw [h1] at C3 C4 l1; rw [h2] at C5 C6 l2; rw [h3] at C7 C8 l3
  simp only at l1 l2 l3
  have k1 := hide l1; have k2 := hide l2; have k3 := hide l3
  have L1 := hide (mapC_size l1); have L2 := hide (mapC_size l2); have L3 := hide (mapC_size l3); have H40 := hide (mapC_size h40)
  have hz := map_zero
  replace C1 := hide C1; replace C2 := hide C2; replace C3 := hide C3; replace C4 := hide C4; replace C5 := hide C5; replace C6 := hide C6; replace C7 := hide C7; replace C8 := hide C8
  clear hf h1 h2 h3 l1 l2 l3 h40
  have B0 := hide ((Blk.new w 28 (mapC m)))
  go_enter Try.func3, Try.ntmps3
  go_wp2_with ((with_reducible refine load_map (.tmp 3) rfl ?_ w.heap.size m ?_ ?_ H40.out ?_); (next => rfl); (next => rfl); (next => exact (B0.out.alloc _)))
  go_wp2_with (first
    | (go_at_call 7; (with_reducible refine (unhide C1 _).mono ?_); rintro e w1 ⟨rfl, hbk⟩; have hb := hide (nextB box2 hbk); replace B0 := hide (blkG hbk); have BP := hide (blkP hbk); clear hbk; have d0 := BP.out.cell_ 0 _ rfl; have d1 := BP.out.cell_ 1 _ rfl; have hl := BP.out.lt)
    | ((with_reducible refine load_map (.tmp 3) rfl ?_ w.heap.size m ?_ ?_ H40.out ?_); (next => rfl); (next => rfl); (next => exact B0.out)))
  go_wp2_with (first
    | (go_at_call 8; (with_reducible refine (unhide C2 _).mono ?_); rintro e w2 ⟨rfl, hbk⟩; replace hb := hide (nextB hb.out hbk); replace B0 := hide ((B0.out).below hbk (B0.out).lt); replace BP := hide ((BP.out).below hbk (BP.out).lt); clear hbk d0 d1 hl; have d0 := BP.out.cell_ 0 _ rfl; have d1 := BP.out.cell_ 1 _ rfl; have hl := BP.out.lt)
    | ((with_reducible refine load_map (.tmp 3) rfl ?_ w.heap.size m ?_ ?_ H40.out ?_); (next => rfl); (next => rfl); (next => exact B0.out)))
  go_wp2_with (first
    | (go_at_call 9; (with_reducible refine (unhide C3 _).mono ?_); rintro e w3 ⟨rfl, hbk⟩; replace hb := hide (nextB hb.out hbk); replace B0 := hide ((B0.out).below hbk (B0.out).lt); replace BP := hide ((BP.out).below hbk (BP.out).lt); clear hbk d0 d1 hl; have d0 := BP.out.cell_ 0 _ rfl; have d1 := BP.out.cell_ 1 _ rfl; have hl := BP.out.lt)
    | ((with_reducible refine store_map (.tmp 11) _ rfl ?_ w3 X1 ?_ ?_ L1.out ?_); (next => rfl); (next => rfl); (next => rfl))
    | ((with_reducible refine load_map (.tmp 3) rfl ?_ w.heap.size m ?_ ?_ H40.out ?_); (next => rfl); (next => rfl); (next => exact (B0.out.alloc _))))
  go_wp2_with (first
    | (go_at_call 10; (with_reducible refine (unhide C4 _).mono ?_); rintro e w4 ⟨rfl, hbk⟩; replace hb := hide (nextB (hb.out.alloc hb.out.size _) hbk); replace B0 := hide ((B0.out.alloc _).below hbk (B0.out.alloc _).lt); replace BP := hide ((BP.out.alloc _).below hbk (BP.out.alloc _).lt); have R11 := hide ((Blk.new w3 28 (mapC X1)).below hbk (by simp)); clear hbk d0 d1 hl; have d0 := BP.out.cell_ 0 _ rfl; have d1 := BP.out.cell_ 1 _ rfl; have hl := BP.out.lt)
    | ((with_reducible refine store_map (.tmp 13) _ rfl ?_ w4 X1 ?_ ?_ L1.out ?_); (next => rfl); (next => rfl); (next => rfl))
    | ((with_reducible refine load_map (.tmp 3) rfl ?_ w.heap.size m ?_ ?_ H40.out ?_); (next => rfl); (next => rfl); (next => exact (B0.out.alloc _))))
  go_wp2_with (first
    | (go_at_call 11; (with_reducible refine (unhide C5 _).mono ?_); rintro e w5 ⟨rfl, hbk⟩; replace hb := hide (nextB (hb.out.alloc hb.out.size _) hbk); replace B0 := hide ((B0.out.alloc _).below hbk (B0.out.alloc _).lt); replace BP := hide ((BP.out.alloc _).below hbk (BP.out.alloc _).lt); replace R11 := hide ((R11.out.alloc _).below hbk (R11.out.alloc _).lt); have R13 := hide ((Blk.new w4 28 (mapC X1)).below hbk (by simp)); clear hbk d0 d1 hl; have d0 := BP.out.cell_ 0 _ rfl; have d1 := BP.out.cell_ 1 _ rfl; have hl := BP.out.lt)
    | ((with_reducible refine store_map (.tmp 15) _ rfl ?_ w5 X2 ?_ ?_ L2.out ?_); (next => rfl); (next => rfl); (next => rfl))
    | ((with_reducible refine load_map (.tmp 3) rfl ?_ w.heap.size m ?_ ?_ H40.out ?_); (next => rfl); (next => rfl); (next => exact (B0.out.alloc _))))
  go_wp2_with (first
    | (go_at_call 12; (with_reducible refine (unhide C6 _).mono ?_); rintro e w6 ⟨rfl, hbk⟩; replace hb := hide (nextB (hb.out.alloc hb.out.size _) hbk); replace B0 := hide ((B0.out.alloc _).below hbk (B0.out.alloc _).lt); replace BP := hide ((BP.out.alloc _).below hbk (BP.out.alloc _).lt); replace R11 := hide ((R11.out.alloc _).below hbk (R11.out.alloc _).lt); replace R13 := hide ((R13.out.alloc _).below hbk (R13.out.alloc _).lt); have R15 := hide ((Blk.new w5 28 (mapC X2)).below hbk (by simp)); clear hbk d0 d1 hl; have d0 := BP.out.cell_ 0 _ rfl; have d1 := BP.out.cell_ 1 _ rfl; have hl := BP.out.lt)
    | ((with_reducible refine store_map (.tmp 17) _ rfl ?_ w6 X2 ?_ ?_ L2.out ?_); (next => rfl); (next => rfl); (next => rfl))
    | ((with_reducible refine load_map (.tmp 3) rfl ?_ w.heap.size m ?_ ?_ H40.out ?_); (next => rfl); (next => rfl); (next => exact (B0.out.alloc _))))
  go_wp2_with (first
    | (go_at_call 13; (with_reducible refine (unhide C7 _).mono ?_); rintro e w7 ⟨rfl, hbk⟩; replace hb := hide (nextB (hb.out.alloc hb.out.size _) hbk); replace B0 := hide ((B0.out.alloc _).below hbk (B0.out.alloc _).lt); replace BP := hide ((BP.out.alloc _).below hbk (BP.out.alloc _).lt); replace R11 := hide ((R11.out.alloc _).below hbk (R11.out.alloc _).lt); replace R13 := hide ((R13.out.alloc _).below hbk (R13.out.alloc _).lt); replace R15 := hide ((R15.out.alloc _).below hbk (R15.out.alloc _).lt); have R17 := hide ((Blk.new w6 28 (mapC X2)).below hbk (by simp)); clear hbk d0 d1 hl; have d0 := BP.out.cell_ 0 _ rfl; have d1 := BP.out.cell_ 1 _ rfl; have hl := BP.out.lt)
    | ((with_reducible refine store_map (.tmp 19) _ rfl ?_ w7 X3 ?_ ?_ L3.out ?_); (next => rfl); (next => rfl); (next => rfl))
    | ((with_reducible refine load_map (.tmp 3) rfl ?_ w.heap.size m ?_ ?_ H40.out ?_); (next => rfl); (next => rfl); (next => exact (B0.out.alloc _))))
  go_wp2_with (first
    | (go_at_call 14; (with_reducible refine (unhide C8 _).mono ?_); rintro e w8 ⟨rfl, hbk⟩; replace hb := hide (nextB (hb.out.alloc hb.out.size _) hbk); replace B0 := hide ((B0.out.alloc _).below hbk (B0.out.alloc _).lt); replace BP := hide ((BP.out.alloc _).below hbk (BP.out.alloc _).lt); replace R11 := hide ((R11.out.alloc _).below hbk (R11.out.alloc _).lt); replace R13 := hide ((R13.out.alloc _).below hbk (R13.out.alloc _).lt); replace R15 := hide ((R15.out.alloc _).below hbk (R15.out.alloc _).lt); replace R17 := hide ((R17.out.alloc _).below hbk (R17.out.alloc _).lt); have R19 := hide ((Blk.new w7 28 (mapC X3)).below hbk (by simp)); clear hbk d0 d1 hl; have d0 := BP.out.cell_ 0 _ rfl; have d1 := BP.out.cell_ 1 _ rfl; have hl := BP.out.lt)
    | ((with_reducible refine store_map (.tmp 21) _ rfl ?_ w8 X3 ?_ ?_ L3.out ?_); (next => rfl); (next => rfl); (next => rfl))
    | ((with_reducible refine eql_map_g (.tmp 80) (.tmp 81) _ rfl ?_ X1 ?_ ?_ k1.out ?_); (next => rfl); (next => rfl); (next => rfl))
    | ((with_reducible refine eql_map_g (.tmp 90) (.tmp 91) _ rfl ?_ X2 ?_ ?_ k2.out ?_); (next => rfl); (next => rfl); (next => rfl))
    | ((with_reducible refine eql_map_g (.tmp 100) (.tmp 101) _ rfl ?_ X3 ?_ ?_ k3.out ?_); (next => rfl); (next => rfl); (next => rfl))
    | ((with_reducible refine load_map_g (.tmp 11) rfl ?_ w3.heap.size X1 ?_ ?_ L1.out ?_); (next => rfl); (next => rfl); (next => exact (R11.out.alloc _)))
    | ((with_reducible refine load_map_g (.tmp 13) rfl ?_ w4.heap.size X1 ?_ ?_ L1.out ?_); (next => rfl); (next => rfl); (next => exact (R13.out.alloc _)))
    | ((with_reducible refine load_map_g (.tmp 15) rfl ?_ w5.heap.size X2 ?_ ?_ L2.out ?_); (next => rfl); (next => rfl); (next => exact (R15.out.alloc _)))
    | ((with_reducible refine load_map_g (.tmp 17) rfl ?_ w6.heap.size X2 ?_ ?_ L2.out ?_); (next => rfl); (next => rfl); (next => exact (R17.out.alloc _)))
    | ((with_reducible refine load_map_g (.tmp 19) rfl ?_ w7.heap.size X3 ?_ ?_ L3.out ?_); (next => rfl); (next => rfl); (next => exact (R19.out.alloc _)))
    | ((with_reducible refine load_map_g (.tmp 21) rfl ?_ w8.heap.size X3 ?_ ?_ L3.out ?_); (next => rfl); (next => rfl); (next => exact (Blk.new w8 _ _)))
    | (go_at_call 15; refine (awake_any _).mono ?_; rintro e w9 ⟨rfl, hb9⟩))
  go_ret
  exact ⟨rfl, nextB (hb.out.alloc hb.out.size _) hb9⟩
end Go.Proofs.Ytalcgnjkhnmmiaa
