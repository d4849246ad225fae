import Derived.Test.YtfcllcofikdjaaaAwake
import Derived.Test.YtfcllcofikdjaaaOpen
namespace Go.Proofs.Ytfcllcofikdjaaa
open Go.RowKit

theorem Try.el_num : Elem Try.prog 33 39 (.agg #[.int .i64 0, .int .u64 0]) 2 16 := ⟨Try.underlying33, by kernel_rfl, rfl, by decide⟩
theorem Try.el_u8 : Elem Try.prog 22 5 (.int .u8 0) 1 1 := ⟨Try.underlying22, by kernel_rfl, rfl, by decide⟩
theorem Try.el_u64 : Elem Try.prog 24 37 (.int .u64 0) 1 8 := ⟨Try.underlying24, by kernel_rfl, rfl, by decide⟩
theorem Try.el_int : Elem Try.prog 23 3 (.int .i64 0) 1 8 := ⟨Try.underlying23, by kernel_rfl, rfl, by decide⟩
theorem one_num (l : List (Int × Nat)) : ∀ u ∈ l.flatMap numC, u.oneCell' = true := by
  intro u hu
  obtain ⟨x, _, hx⟩ := List.mem_flatMap.1 hu
  simp [numC] at hx
  rcases hx with rfl | rfl <;> rfl
theorem Rd.fewF {α : Type} {f : α → List Value} {w : World} {A : Option Addr} {l : List α} {n c : Nat} (N : Nat) (hr : Rd w A (l.flatMap f)) (hl : l.length = n) (hc : n ≤ c) :
    ∃ (l' : List α) (n' : Nat), Rd w A (l'.flatMap f) ∧ l'.length = n' ∧ n' ≤ N ∧ n' ≤ c ∧ l' = l.take N ∧ (n ≤ N ∧ n' = n ∨ N < n ∧ n' = N) := by
  by_cases h : n ≤ N
  · exact ⟨l, n, hr, hl, h, hc, (List.take_of_length_le (by omega)).symm, .inl ⟨h, rfl⟩⟩
  · refine ⟨l.take N, N, ?_, by rw [List.length_take]; omega, Nat.le_refl _, by omega, rfl, .inr ⟨by omega, rfl⟩⟩
    have e : l.flatMap f = (l.take N).flatMap f ++ (l.drop N).flatMap f := by rw [← List.flatMap_append, List.take_append_drop]
    have h2 := hr.take ((l.take N).flatMap f).length
    rw [e, List.take_left] at h2
    exact h2
/-- an api.Num's cells -/
theorem opens_num {H : Type} {enc : TypeId × Value → H} {w : World} : Opens H enc Try.prog w 39 numC (fun x => x.2 < 18446744073709551616) := by
  intro fuel cs y h
  obtain ⟨xs, n, _, _, hlen, hxl, hf⟩ := DataW.trod_struct Try.underlying39 h
  replace hxl : xs.length = 2 := hxl
  have hc : Try.prog.cellsOf 39 = 2 := by kernel_rfl
  rw [hc] at hlen
  obtain ⟨c0, c1, rfl⟩ : ∃ c0 c1, cs = [c0, c1] := by
    match cs, hlen with
    | [a, b], _ => exact ⟨a, b, rfl⟩
  have e0 : Try.prog.cellsOf 3 = 1 := by kernel_rfl
  have e1 : Try.prog.cellsOf 37 = 1 := by kernel_rfl
  have h0 : DataW.trod enc Try.prog w 0 (fun _ => true) true n 3 [c0] = xs[0]? := by simpa [e0] using hf 0 _ rfl
  have h1 : DataW.trod enc Try.prog w 0 (fun _ => true) true n 37 [c1] = xs[1]? := by simpa [e1] using hf 1 _ rfl
  have l0 : xs[0]? = some (xs[0]'(by omega)) := List.getElem?_eq_getElem _
  have l1 : xs[1]? = some (xs[1]'(by omega)) := List.getElem?_eq_getElem _
  rw [l0] at h0
  rw [l1] at h1
  obtain ⟨a, ha, _⟩ := opens_i64 Try.underlying3 _ _ _ h0
  obtain ⟨b, hb, hb2⟩ := opens_u64 Try.underlying37 _ _ _ h1
  simp at ha hb
  exact ⟨(a, b), by simp [numC, ha, hb, i64v, u64v], hb2⟩

set_option maxHeartbeats 400000 in
theorem few_any (A : Option Addr) (n c n' : Nat) (w : World) (hc : n ≤ c) (h : n ≤ 60 ∧ n' = n ∨ 60 < n ∧ n' = 60) :
    Calls Try.prog 12 #[.slice A n c] w fun e w' => e = .returned (.slice A n' c) ∧ w = w' := by
  rcases h with ⟨h, rfl⟩ | ⟨h, rfl⟩
  · go_enter Try.func12, Try.ntmps12
    go_wp2
    go_ret
    exact ⟨rfl, rfl⟩
  · go_enter Try.func12, Try.ntmps12
    go_wp2
    go_ret
    exact ⟨rfl, rfl⟩
end Go.Proofs.Ytfcllcofikdjaaa
