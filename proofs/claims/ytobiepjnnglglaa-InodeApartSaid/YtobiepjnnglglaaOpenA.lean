import Derived.Test.YtobiepjnnglglaaOpen
namespace Go.Proofs.Ytobiepjnnglglaa
open Go.ChangeShapes Go.WideShapes Go.ChangeAt Go.RowKit Go.Deep

section
variable {H : Type} {enc : TypeId × Value → H} {P : Program} {w : World}
/-- an array is opened, where its elements are -/
theorem opens_array {t e : TypeId} {n z : Nat} {α : Type} {f : α → List Value} {Q : α → Prop} (ht : P.underlying t = some (.array n e)) (hz : P.cellsOf e = z) (hc : P.cellsOf t = n * z) (hf : ∀ x, (f x).length = z) (he : Opens H enc P w e f Q) :
    Opens H enc P w t (fun l : List α => l.flatMap f) (fun l => l.length = n ∧ ∀ x ∈ l, Q x) := by
  intro fuel cs y h
  obtain ⟨xs, m, _, _, hlen, hxl, hel⟩ := DataW.trod_array ht h
  rw [hc] at hlen
  have hch : ∀ i, i < n → ∃ x : α, (cs.drop (i * z)).take z = f x ∧ Q x := by
    intro i hi
    have h1 := hel i hi
    rw [hz, List.getElem?_eq_getElem (by omega)] at h1
    exact he _ _ _ h1
  have main : ∀ k, k ≤ n → ∃ l : List α, l.length = k ∧ (∀ x ∈ l, Q x) ∧ cs.take (k * z) = l.flatMap f := by
    intro k
    induction k with
    | zero => intro _; exact ⟨[], rfl, by simp, by simp⟩
    | succ k ih =>
      intro hk
      obtain ⟨l, h1, h2, h3⟩ := ih (by omega)
      obtain ⟨x, hx, hq⟩ := hch k (by omega)
      refine ⟨l ++ [x], by simp [h1], fun y hy => ?_, ?_⟩
      · rcases List.mem_append.1 hy with hy | hy
        · exact h2 y hy
        · rw [List.mem_singleton.1 hy]; exact hq
      · rw [List.flatMap_append, List.flatMap_singleton, ← h3, ← hx, Nat.succ_mul, List.take_add]
  obtain ⟨l, h1, h2, h3⟩ := main n (Nat.le_refl _)
  refine ⟨l, ?_, h1, h2⟩
  show cs = l.flatMap f
  rw [← h3, List.take_of_length_le (by omega)]
/-- an argument that is an aggregate -/
theorem arg_agg {r : Reach} {b0 : Nat} {t : TypeId} {α : Type} {f : α → List Value} {Q : α → Prop} {v : Value} {d : DataW H} {p : List MemPlace} (ht : (match P.underlying t with | some (.struct _) => true | some (.array _ _) => true | _ => false) = true)
    (he : Opens H enc P w t f Q) (hv : Value.okWide P w r b0 t v) (h : DataW.Trod enc P w 0 (fun _ => true) true t v d p) : ∃ x : α, v = .agg (f x).toArray ∧ Q x := by
  obtain ⟨cs, rfl⟩ : ∃ cs, v = .agg cs := by
    unfold Value.okWide at hv
    split at ht
    · rename_i hu; rw [hu] at hv; obtain ⟨cs, hv, _⟩ := hv; exact ⟨cs, hv⟩
    · rename_i hu; rw [hu] at hv; obtain ⟨cs, hv, _⟩ := hv; exact ⟨cs, hv⟩
    · cases ht
  obtain ⟨fuel, hf⟩ := h
  obtain ⟨x, hx, hq⟩ := he _ _ _ hf
  refine ⟨x, ?_, hq⟩
  rw [← hx]; simp [Value.cells]
theorem opens_u32 {t : TypeId} (ht : P.underlying t = some (.int .u32)) : Opens H enc P w t (fun n : Nat => [.int .u32 (n : Int)]) (fun n => n < 4294967296) := by
  intro fuel cs y h
  obtain ⟨n, hc, _, hw⟩ := DataW.trod_int ht h
  simp [Lit.wf, IntKind.min, IntKind.max, IntKind.bits, IntKind.signed] at hw
  refine ⟨n.toNat, ?_, by omega⟩
  rw [hc]
  show [Value.int .u32 n] = [Value.int .u32 ((n.toNat : Nat) : Int)]
  have : ((n.toNat : Nat) : Int) = n := by omega
  rw [this]
end
end Go.Proofs.Ytobiepjnnglglaa
