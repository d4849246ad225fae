import Derived.Test.YtpebccffkmkpoaaAddrB
import Derived.Laws.ResultCell
import Derived.Laws.Rows
namespace Go.Proofs.Ytpebccffkmkpoaa
open Go.RowKit
set_option maxHeartbeats 1000000 in
theorem number_any (D L V S v s o : Int) (w : World) (h : mayG D L V S) (hp : isP D V S v s o) :
    Calls Try.prog 29 #[.agg #[.int .i64 D, .int .i64 L, .int .i64 V, .int .i64 S], .agg #[.int .i64 v, .int .i64 s, .int .i64 o]] w fun e w' => e = .returned (.int .i64 (numG D S v s)) ∧ Below w.heap.size w w' := by
  unfold numG
  by_cases h1 : v < 0
  · rw [if_pos h1]
    clear h hp
    go_enter Try.func29, Try.ntmps29
    go_wp2_with fail
    go_ret
    exact ⟨rfl, box2⟩
  · rw [if_neg h1]
    unfold mayG at h
    unfold isP at hp
    obtain ⟨_, hp2, hp3, hp4, _, _⟩ := hp
    rw [if_neg (by omega)] at hp4
    obtain ⟨h9, h10⟩ := prod_small (v := v) (s := S) (V := V) (S := S) (by omega) (by omega) (by omega) (by omega) (Int.le_refl _) (by omega)
    obtain ⟨m, hm⟩ : ∃ m, v * S = m := ⟨_, rfl⟩
    rw [hm] at h9 h10 ⊢
    obtain ⟨hD, hD2, _, _, _, _, _, hS⟩ := h
    go_enter Try.func29, Try.ntmps29
    go_wp2_with fail
    go_ret
    exact ⟨rfl, box2⟩
theorem frz3 {w : World} {g : Nat} {t : TypeId} {cs : Array Value} (h : Blk w g t cs) : w.frozen? ⟨g, 0, none⟩ = false ∧ w.frozen? ⟨g, 1, none⟩ = false ∧ w.frozen? ⟨g, 2, none⟩ = false :=
  ⟨h.frozen 0, h.frozen 1, h.frozen 2⟩
theorem results_cell_row_tmp {P : Program} {fn : Func} {p u : Tmp} {ty : TypeId} (h : fn.results = #[.cell p ty, .tmp u]) (tmps : Array Value) (w : World) (g : Nat) (t : TypeId) (cs : Array Value) (fr : Nat × Nat) (d : TypeDesc)
    (hp : tmps.getD p undef = .pointer (some ⟨g, 0, none⟩)) (hg : w.heap[g]? = some (.cells cs t fr))
    (hu : P.underlying ty = some d) (hd : (match d with | .struct _ | .array _ _ => true | _ => false) = true) (hi : (P.info? ty).map (·.size) = some cs.size) :
    (results fn tmps).run P w = .ok (.tuple #[.agg cs, tmps.getD u undef]) w := by
  rw [results_cell_tmp h, hp]
  simp [asAddr, Result.andThen, run_loadVar_row w g t ty cs fr d hg hu hd hi]
end Go.Proofs.Ytpebccffkmkpoaa
