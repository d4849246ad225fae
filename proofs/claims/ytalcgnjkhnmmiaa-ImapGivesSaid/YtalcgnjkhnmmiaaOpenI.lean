import Derived.Test.YtalcgnjkhnmmiaaOpenA
import Derived.Test.YtalcgnjkhnmmiaaImapA
namespace Go.Proofs.Ytalcgnjkhnmmiaa
open Go.ChangeShapes Go.WideShapes Go.ChangeAt Go.RowKit Go.Deep

section
variable {H : Type} {enc : TypeId × Value → H} {w : World}
def ptrC (x : Int × Nat) : List Value := [.int .i64 x.1, .int .u32 (x.2 : Int)]
def ptrOk (x : Int × Nat) : Prop := (-9223372036854775808 ≤ x.1 ∧ x.1 ≤ 9223372036854775807) ∧ x.2 < 4294967296
theorem opens_ptr : Opens H enc Try.prog w 24 ptrC ptrOk := by
  intro fuel cs y h
  obtain ⟨xs, n, _, _, hlen, hxl, hf⟩ := DataW.trod_struct Try.underlying24 h
  replace hxl : xs.length = 2 := hxl
  have hc : Try.prog.cellsOf 24 = 2 := by kernel_rfl
  rw [hc] at hlen
  obtain ⟨c0, c1, rfl⟩ : ∃ c0 c1, cs = [c0, c1] := by
    match cs, hlen with
    | [a, b], _ => exact ⟨a, b, rfl⟩
  have e0 : Try.prog.cellsOf 3 = 1 := by kernel_rfl
  have e1 : Try.prog.cellsOf 22 = 1 := by kernel_rfl
  have h0 : DataW.trod enc Try.prog w 0 (fun _ => true) true n 3 [c0] = xs[0]? := by simpa [e0] using hf 0 _ rfl
  have h1 : DataW.trod enc Try.prog w 0 (fun _ => true) true n 22 [c1] = xs[1]? := by simpa [e1] using hf 1 _ rfl
  rw [List.getElem?_eq_getElem (by omega)] at h0 h1
  obtain ⟨a, ha, ha2⟩ := opens_i64 Try.underlying3 _ _ _ h0
  obtain ⟨b, hb, hb2⟩ := opens_u32 Try.underlying22 _ _ _ h1
  simp at ha hb
  exact ⟨(a, b), by simp [ptrC, ha, hb, i64v], ha2, hb2⟩
theorem opens_slot : Opens H enc Try.prog w 26 slotC slotOk := by
  intro fuel cs y h
  obtain ⟨xs, n, _, _, hlen, hxl, hf⟩ := DataW.trod_struct Try.underlying26 h
  replace hxl : xs.length = 2 := hxl
  have hc : Try.prog.cellsOf 26 = 3 := by kernel_rfl
  rw [hc] at hlen
  obtain ⟨c0, c1, c2, rfl⟩ : ∃ c0 c1 c2, cs = [c0, c1, c2] := by
    match cs, hlen with
    | [a, b, c], _ => exact ⟨a, b, c, rfl⟩
  have e0 : Try.prog.cellsOf 24 = 2 := by kernel_rfl
  have e1 : Try.prog.cellsOf 3 = 1 := by kernel_rfl
  have h0 : DataW.trod enc Try.prog w 0 (fun _ => true) true n 24 [c0, c1] = xs[0]? := by simpa [e0] using hf 0 _ rfl
  have h1 : DataW.trod enc Try.prog w 0 (fun _ => true) true n 3 [c2] = xs[1]? := by simpa [e1] using hf 1 _ rfl
  rw [List.getElem?_eq_getElem (by omega)] at h0 h1
  obtain ⟨⟨a, s⟩, ha, ha2, hs2⟩ := opens_ptr _ _ _ h0
  obtain ⟨b, hb, hb2⟩ := opens_i64 Try.underlying3 _ _ _ h1
  simp [ptrC] at ha hb
  exact ⟨⟨a, s, b⟩, by simp [slotC, ha, hb, i64v], ha2, hs2, hb2⟩
/-- a map that came in -/
theorem open_map {r : Reach} {b0 : Nat} {v : Value} {d : DataW H} {p : List MemPlace} (hv : Value.okWide Try.prog w r b0 28 v) (h : DataW.Trod enc Try.prog w 0 (fun _ => true) true 28 v d p) :
    ∃ m : List Slot, v = .agg (mapC m) ∧ m.length = 40 ∧ ∀ x ∈ m, slotOk x :=
  arg_agg (by kernel_rfl) (opens_array Try.arrMap (by kernel_rfl) (by kernel_rfl) slotC_len opens_slot) hv h
theorem open_ptr {r : Reach} {b0 : Nat} {v : Value} {d : DataW H} {p : List MemPlace} (hv : Value.okWide Try.prog w r b0 24 v) (h : DataW.Trod enc Try.prog w 0 (fun _ => true) true 24 v d p) :
    ∃ x : Int × Nat, v = .agg #[.int .i64 x.1, .int .u32 (x.2 : Int)] ∧ ptrOk x :=
  arg_agg (f := ptrC) (by kernel_rfl) opens_ptr hv h
end
end Go.Proofs.Ytalcgnjkhnmmiaa
