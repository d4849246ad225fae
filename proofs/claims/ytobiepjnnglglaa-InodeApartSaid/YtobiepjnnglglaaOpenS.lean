/- A struct that came in is opened field by field. No condition. -/
import Derived.Test.YtobiepjnnglglaaOpenA
namespace Go.Proofs.Ytobiepjnnglglaa
open Go.ChangeShapes Go.WideShapes Go.ChangeAt Go.RowKit Go.Deep

section
variable {H : Type} {enc : TypeId × Value → H} {P : Program} {w : World}
/-- whatever cells read as these fields (types, offsets), from cell o on, are 'f x', and Q holds of x -/
def OpensL (H : Type) (enc : TypeId × Value → H) (P : Program) (w : World) (fs : List (TypeId × Nat)) (o total : Nat) {α : Type} (f : α → List Value) (Q : α → Prop) : Prop :=
  ∀ (n : Nat) (xs : List (DataW H × List MemPlace)) (cs : List Value), cs.length = total → xs.length = fs.length →
    (∀ (i : Nat) (fd : TypeId × Nat), fs[i]? = some fd → DataW.trod enc P w 0 (fun _ => true) true n fd.1 ((cs.drop fd.2).take (P.cellsOf fd.1)) = xs[i]?) → ∃ x, cs.drop o = f x ∧ Q x
theorem OpensL.one {α : Type} {f : α → List Value} {Q : α → Prop} (t : TypeId) (o z total : Nat) (hz : P.cellsOf t = z) (ht : o + z = total) (he : Opens H enc P w t f Q) : OpensL H enc P w [(t, o)] o total f Q := by
  intro n xs cs hl hx h
  have h0 := h 0 (t, o) rfl
  rw [List.getElem?_eq_getElem (by rw [hx]; simp)] at h0
  obtain ⟨x, e, q⟩ := he _ _ _ h0
  refine ⟨x, ?_, q⟩
  rw [← e, List.take_of_length_le (by rw [List.length_drop, hl, hz]; omega)]
theorem OpensL.cons {rest : List (TypeId × Nat)} {total : Nat} {α β : Type} {f : α → List Value} {g : β → List Value} {Q : α → Prop} {R : β → Prop} (t : TypeId) (o z o' : Nat) (hz : P.cellsOf t = z) (ho : o + z = o')
    (he : Opens H enc P w t f Q) (hr : OpensL H enc P w rest o' total g R) : OpensL H enc P w ((t, o) :: rest) o total (fun x : α × β => f x.1 ++ g x.2) (fun x => Q x.1 ∧ R x.2) := by
  intro n xs cs hl hx h
  have h0 := h 0 (t, o) rfl
  obtain ⟨x0, xs', rfl⟩ : ∃ a l, xs = a :: l := by
    cases xs with
    | nil => simp at hx
    | cons a l => exact ⟨a, l, rfl⟩
  obtain ⟨x, e, q⟩ := he _ _ _ h0
  obtain ⟨y, e2, q2⟩ := hr n xs' cs hl (by simpa using hx) (fun i fd' hi => by simpa using h (i + 1) fd' (by simpa using hi))
  refine ⟨(x, y), ?_, q, q2⟩
  show cs.drop o = f x ++ g y
  rw [← e, ← e2, hz, ← ho, ← List.drop_drop, List.take_append_drop]
theorem opens_struct {t : TypeId} {fs : Array Field} {total : Nat} {α : Type} {f : α → List Value} {Q : α → Prop} {l : List (TypeId × Nat)} (ht : P.underlying t = some (.struct fs)) (hc : P.cellsOf t = total) (hl : fs.toList.map (fun d => (d.type, d.offset)) = l)
    (h : OpensL H enc P w l 0 total f Q) : Opens H enc P w t f Q := by
  intro fuel cs y hy
  obtain ⟨xs, n, _, _, hlen, hxl, hf⟩ := DataW.trod_struct ht hy
  obtain ⟨x, e, q⟩ := h n xs cs (by rw [hlen, hc]) (by rw [hxl, ← hl, List.length_map, Array.length_toList]) (fun i fd hi => by
    rw [← hl, List.getElem?_map, Array.getElem?_toList] at hi
    cases hd : fs[i]? with
    | none => rw [hd] at hi; cases hi
    | some d =>
      rw [hd] at hi
      simp only [Option.map_some, Option.some.injEq] at hi
      subst hi
      exact hf i d hd)
  exact ⟨x, by simpa using e, q⟩
theorem opens_bool {t : TypeId} (ht : P.underlying t = some .bool) : Opens H enc P w t (fun b : Bool => [.bool b]) (fun _ => True) := by
  intro fuel cs y h
  cases fuel with
  | zero => simp [DataW.trod] at h
  | succ n =>
    unfold DataW.trod at h
    rw [ht] at h
    split at h <;> simp_all
end
end Go.Proofs.Ytobiepjnnglglaa
