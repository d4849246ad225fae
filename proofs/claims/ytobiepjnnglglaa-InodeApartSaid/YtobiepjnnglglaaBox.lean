/- Worlds behind one or two new blocks. No condition. -/
import Derived.Test.YtobiepjnnglglaaMade
namespace Go.Proofs.Ytobiepjnnglglaa
open Go.RowKit
theorem box1 {w : World} {o : Obj} : Below w.heap.size w (w.alloc o) := (Below.refl _ _).alloc (Nat.le_refl _) _
theorem box2 {w : World} {o o2 : Obj} : Below w.heap.size w ((w.alloc o).alloc o2) := box1.alloc (by simp) _
theorem nextB {w w1 w2 : World} (h1 : Below w.heap.size w w1) (h2 : Below w1.heap.size w1 w2) : Below w.heap.size w w2 := h1.trans (h2.mono h1.size)
theorem blkG {w w1 : World} {o2 : Obj} {t : TypeId} {cs : Array Value} (h : Below ((w.alloc (.cells cs t)).alloc o2).heap.size ((w.alloc (.cells cs t)).alloc o2) w1) : Blk w1 w.heap.size t cs :=
  ((Blk.new w _ _).alloc _).below h (by simp; omega)
theorem blkP {w w1 : World} {o : Obj} {t : TypeId} {cs : Array Value} (h : Below ((w.alloc o).alloc (.cells cs t)).heap.size ((w.alloc o).alloc (.cells cs t)) w1) : Blk w1 (w.heap.size + 1) t cs :=
  (Blk.new_ (w.alloc o) t cs (w.heap.size + 1) (by simp)).below h (by simp)
end Go.Proofs.Ytobiepjnnglglaa
