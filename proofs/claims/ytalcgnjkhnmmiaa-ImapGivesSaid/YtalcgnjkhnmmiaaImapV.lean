import Derived.Test.YtalcgnjkhnmmiaaImapK
import Derived.Test.YtalcgnjkhnmmiaaRely
namespace Go.Proofs.Ytalcgnjkhnmmiaa
open Go.RowKit

theorem Try.wideMap : Wide Try.prog 28 120 := ⟨by kernel_rfl, by kernel_rfl⟩
theorem map_flat_len {m : List Slot} (h : m.length = 40) : (m.flatMap slotC).length = 120 := by rw [flat_length slotC_len, h]
theorem map_blk_all {w : World} {g : Nat} {t : TypeId} {m : List Slot} (h : Blk w g t (mapC m)) (j : Nat) (u : Value) (hu : (m.flatMap slotC)[j]? = some u) : w.cell? ⟨g, 0 + j, none⟩ = some u := by
  rw [Nat.zero_add]; exact h.cell_ j u (by simpa [mapC] using hu)
/-- a map is compared with itself, in a guarded operation -/
theorem neq_map_g {ops : Array Oper} {rest : List Oper} {o : Oper} {a : Act} {w : World} {Q : Exit → Act → World → Prop} (x y : Operand) (ty : TypeId) (ho : o.op = .binOp .neq 28 x y ty) (hgd : Region.wanted o (yielded ops a.tmps) = true)
    (m : List Slot) (hx : a.eval x = .agg (mapC m)) (hy : a.eval y = .agg (mapC m)) (hl : m.length = 40) (h : wpList Try.prog ops Q rest (a.put o.dst (.bool false)) w) : wpList Try.prog ops Q (o :: rest) a w := by
  rw [wpList, if_pos hgd]
  refine .inl ?_
  unfold Oper.wp
  simp only [execOp, ho, hx, hy, Sem.run_bind, run_eqGuard_agg (P := Try.prog) w .neq 28 x y (mapC m) (mapC m) (by kernel_rfl), Result.andThen_ok, run_neq_struct w, map_eq hl hl w, Sem.run_pure, decide_true]
  exact h
/-- a slice of n elements -/
def SlN (n : Nat) (v : Value) : Prop := ∃ A c, v = .slice A n c
end Go.Proofs.Ytalcgnjkhnmmiaa
