/- Inodes' variables are read, written, made. No condition. -/
import Derived.Test.YtobiepjnnglglaaInB
import Derived.Test.YtobiepjnnglglaaVarL
import Derived.Test.YtobiepjnnglglaaQuiet
namespace Go.Proofs.Ytobiepjnnglglaa
open Go.RowKit
def ino0 : Ino := ⟨0, 0, 0, 0, 0, [(0, 0), (0, 0), (0, 0), (0, 0), (0, 0), (0, 0), (0, 0), (0, 0), (0, 0)]⟩
theorem ino_zero (w : World) : (zeroValue 27).run Try.prog w = .ok (.agg (inoC ino0).toArray) w := by kernel_rfl
theorem ino_built : Try.prog.built 27 [] = some (inoC ino0).toArray := by kernel_rfl
theorem Try.sizeIno : (Try.prog.info? 27).map (·.size) = some 23 := by kernel_rfl
theorem Try.wideIno : Wide Try.prog 27 23 := ⟨by kernel_rfl, by kernel_rfl⟩
theorem Try.wideP9 : Wide Try.prog 25 18 := ⟨by kernel_rfl, by kernel_rfl⟩
theorem Try.arrP9 : Try.prog.underlying 25 = some (.array 9 24) := by kernel_rfl
theorem ino0_size : (inoC ino0).length = 23 := by rfl
theorem inoC_one (x : Ino) : (inoC x).toArray.all (·.oneCell') = true := by
  rw [← Array.all_toList, List.all_eq_true]
  intro u hu
  unfold inoC inoH at hu
  simp only [List.mem_append, List.mem_cons, List.not_mem_nil, or_false, List.mem_flatMap, ptrC] at hu
  rcases hu with (rfl | rfl | rfl | rfl | rfl) | ⟨p, _, rfl | rfl⟩ <;> rfl
section
variable {w : World} {ops : Array Oper} {rest : List Oper} {o : Oper} {a : Act} {Q : Exit → Act → World → Prop}
theorem load_ino (x : Operand) (ho : o.op = .load 27 x) (hgd : Region.wanted o (yielded ops a.tmps) = true)
    (g : Nat) (hx : a.eval x = .pointer (some ⟨g, 0, none⟩)) (m : Ino) (hB : Blk w g 27 (inoC m).toArray) (hz : (inoC m).length = 23)
    (h : wpList Try.prog ops Q rest (a.put o.dst (.agg (inoC m).toArray)) w) : wpList Try.prog ops Q (o :: rest) a w :=
  wpList_load_row_g hgd _ x ho g hx _ (inoC m).toArray _ _ hB Try.underlying27 rfl (by rw [List.size_toArray, hz]; exact Try.sizeIno) h
theorem store_ino (x y : Operand) (ho : o.op = .store 27 x y) (hgd : o.guard = none)
    (g : Nat) (hx : a.eval x = .pointer (some ⟨g, 0, none⟩)) (m m' : Ino) (hy : a.eval y = .agg (inoC m').toArray) (hB : Blk w g 27 (inoC m).toArray) (hz : (inoC m).length = 23) (hz' : (inoC m').length = 23)
    (h : wpList Try.prog ops Q rest (a.put o.dst undef) (w.setRow g (inoC m').toArray)) : wpList Try.prog ops Q (o :: rest) a w :=
  wpList_store_at x y ho hgd g _ _ (inoC m').toArray hx hy hB (by rw [List.size_toArray, hz']; exact Try.sizeIno) (by rw [List.size_toArray, List.size_toArray, hz, hz']) (inoC_one _) h
def InoLen (x : Ino) : Prop := x.ps.length = 9
theorem inoC_take (x : Ino) (h9 : x.ps.length = 9) : (List.drop 5 (inoC x)).take 18 = x.ps.flatMap ptrC := by
  have hf : (x.ps.flatMap ptrC).length = 18 := by rw [flat_length ptrC_len, h9]
  unfold inoC
  show (x.ps.flatMap ptrC).take 18 = _
  rw [List.take_of_length_le (by omega)]
theorem ino_eq {c m : Ino} (h1 : InoLen c) (h3 : InoLen m) (w : World) :
    (Op.equalIn 10000 27 (.agg (inoC c).toArray) (.agg (inoC m).toArray)).run Try.prog w = .ok (decide (c = m)) w := by
  have e1 : ∀ w, (Op.equalIn 9999 25 (.agg (c.ps.flatMap ptrC).toArray) (.agg (m.ps.flatMap ptrC).toArray)).run Try.prog w = .ok (decide (c.ps = m.ps)) w := run_equal_flat (d := 9998) Try.arrP9 Try.widePtr ptrC_len (eqPtr 9996) (l := c.ps) (m := m.ps) (fun _ _ => trivial) (fun _ _ => trivial) h1 h3
  have a0 := inoC_take c h1; have a1 := inoC_take m h3
  have c0 : (inoC c)[0]? = some (.int .i64 c.ty) := rfl
  have c1 : (inoC c)[1]? = some (.int .i64 c.links) := rfl
  have c2 : (inoC c)[2]? = some (.int .i64 c.ver) := rfl
  have c3 : (inoC c)[3]? = some (.int .i64 c.size) := rfl
  have c4 : (inoC c)[4]? = some (.int .i64 c.tick) := rfl
  have m0 : (inoC m)[0]? = some (.int .i64 m.ty) := rfl
  have m1 : (inoC m)[1]? = some (.int .i64 m.links) := rfl
  have m2 : (inoC m)[2]? = some (.int .i64 m.ver) := rfl
  have m3 : (inoC m)[3]? = some (.int .i64 m.size) := rfl
  have m4 : (inoC m)[4]? = some (.int .i64 m.tick) := rfl
  rw [run_equalIn_struct w _ _ _ _ (by kernel_rfl) (by kernel_rfl)]
  obtain ⟨s, n, a, p, u, l⟩ := c
  obtain ⟨s', n', a', p', u', l'⟩ := m
  simp only at *
  generalize inoC ⟨s, n, a, p, u, l⟩ = L at *
  generalize inoC ⟨s', n', a', p', u', l'⟩ = M at *
  simp [go_sem, c0, c1, c2, c3, c4, m0, m1, m2, m3, m4, a0, a1, e1]
  by_cases g0 : s = s' <;> by_cases g1 : n = n' <;> by_cases g2 : a = a' <;> by_cases g3 : p = p' <;> by_cases g4 : u = u' <;> by_cases g5 : l = l' <;> simp [g0, g1, g2, g3, g4, g5]
theorem eql_ino (x y : Operand) (ty : TypeId) (ho : o.op = .binOp .eql 27 x y ty) (hgd : Region.wanted o (yielded ops a.tmps) = true)
    (c m : Ino) (r : Bool) (hx : a.eval x = .agg (inoC c).toArray) (hy : a.eval y = .agg (inoC m).toArray) (hc : InoLen c) (hm : InoLen m) (hr : decide (c = m) = r) (h : wpList Try.prog ops Q rest (a.put o.dst (.bool r)) w) : wpList Try.prog ops Q (o :: rest) a w := by
  rw [wpList, if_pos hgd]
  refine .inl ?_
  unfold Oper.wp
  simp only [execOp, ho, hx, hy, Sem.run_bind, run_eqGuard_agg (P := Try.prog) w .eql 27 x y (inoC c).toArray (inoC m).toArray (by kernel_rfl), Result.andThen_ok, run_eql_struct w, ino_eq hc hm w, Sem.run_pure, hr]
  exact h
theorem neq_ino (x y : Operand) (ty : TypeId) (ho : o.op = .binOp .neq 27 x y ty) (hgd : Region.wanted o (yielded ops a.tmps) = true)
    (c m : Ino) (r : Bool) (hx : a.eval x = .agg (inoC c).toArray) (hy : a.eval y = .agg (inoC m).toArray) (hc : InoLen c) (hm : InoLen m) (hr : decide (c = m) = r) (h : wpList Try.prog ops Q rest (a.put o.dst (.bool !r)) w) : wpList Try.prog ops Q (o :: rest) a w := by
  rw [wpList, if_pos hgd]
  refine .inl ?_
  unfold Oper.wp
  simp only [execOp, ho, hx, hy, Sem.run_bind, run_eqGuard_agg (P := Try.prog) w .neq 27 x y (inoC c).toArray (inoC m).toArray (by kernel_rfl), Result.andThen_ok, run_neq_struct w, ino_eq hc hm w, Sem.run_pure, hr]
  exact h
end
section
variable {ops : Array Oper} {W : World} {Q : Act → Prop} {o : Oper} {rest : List Oper} {a : Act}
theorem quiet_load_ino (x : Operand) (ho : o.op = .load 27 x) (hw : Region.wanted o (yielded ops a.tmps) = true) (g : Nat) (hx : a.eval x = .pointer (some ⟨g, 0, none⟩)) (m : Ino) (hB : Blk W g 27 (inoC m).toArray) (hz : (inoC m).length = 23)
    (k : wpQuiet Try.prog ops (fun w' => ∃ x : Ext W, w' = x.w) Q rest (a.put o.dst (.agg (inoC m).toArray))) : wpQuiet Try.prog ops (fun w' => ∃ x : Ext W, w' = x.w) Q (o :: rest) a :=
  quiet_load_at hw _ x ho Try.wideIno g 0 hx (inoC m) hz (by rintro _ ⟨x, rfl⟩ j u hu; rw [Nat.zero_add]; exact (hB.below x.h hB.lt).cell_ j u (by simpa using hu)) k
theorem quiet_eql_ino {C : World → Prop} (x y : Operand) (ty : TypeId) (ho : o.op = .binOp .eql 27 x y ty) (hw : Region.wanted o (yielded ops a.tmps) = true)
    (c m : Ino) (r : Bool) (hx : a.eval x = .agg (inoC c).toArray) (hy : a.eval y = .agg (inoC m).toArray) (hc : InoLen c) (hm : InoLen m) (hr : decide (c = m) = r)
    (k : wpQuiet Try.prog ops C Q rest (a.put o.dst (.bool r))) : wpQuiet Try.prog ops C Q (o :: rest) a :=
  quiet_eql hw _ x y ty ho (by kernel_rfl) (inoC c).toArray (inoC m).toArray hx hy r (fun w => by rw [ino_eq hc hm w, hr]) k
theorem quiet_neq_ino {C : World → Prop} (x y : Operand) (ty : TypeId) (ho : o.op = .binOp .neq 27 x y ty) (hw : Region.wanted o (yielded ops a.tmps) = true)
    (c m : Ino) (r : Bool) (hx : a.eval x = .agg (inoC c).toArray) (hy : a.eval y = .agg (inoC m).toArray) (hc : InoLen c) (hm : InoLen m) (hr : decide (c = m) = r)
    (k : wpQuiet Try.prog ops C Q rest (a.put o.dst (.bool !r))) : wpQuiet Try.prog ops C Q (o :: rest) a :=
  quiet_neq hw _ x y ty ho (by kernel_rfl) (inoC c).toArray (inoC m).toArray hx hy r (fun w => by rw [ino_eq hc hm w, hr]) k
end
end Go.Proofs.Ytobiepjnnglglaa
