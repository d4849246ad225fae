import Derived.Test.YtfpclheplipjfaaOpen
namespace Go.Proofs.Ytfpclheplipjfaa
open Go.ChangeShapes Go.WideShapes Go.ChangeAt Go.RowKit Go.Deep

def i64ok (n : Int) : Prop := -9223372036854775808 ≤ n ∧ n ≤ 9223372036854775807
section
variable {H : Type} {enc : TypeId × Value → H} {w : World}
theorem open_geo {r : Reach} {b0 : Nat} {v : Value} {d : DataW H} {p : List MemPlace} (hv : Value.okWide Try.prog w r b0 23 v) (h : DataW.Trod enc Try.prog w 0 (fun _ => true) true 23 v d p) :
    ∃ s : Int × Int × Int × Int, v = .agg #[.int .i64 s.1, .int .i64 s.2.1, .int .i64 s.2.2.1, .int .i64 s.2.2.2] ∧ i64ok s.1 ∧ i64ok s.2.1 ∧ i64ok s.2.2.1 ∧ i64ok s.2.2.2 := by
  obtain ⟨cs, rfl, hsz⟩ := okWide_struct Try.underlying23 hv
  obtain ⟨fuel, hf⟩ := h
  obtain ⟨xs, n, _, _, hlen, hxl, hf⟩ := DataW.trod_struct Try.underlying23 hf
  replace hxl : xs.length = 4 := hxl
  have hc : Try.prog.cellsOf 23 = 4 := by kernel_rfl
  rw [hc] at hsz
  obtain ⟨c0, c1, c2, c3, rfl⟩ : ∃ c0 c1 c2 c3, cs = #[c0, c1, c2, c3] := by
    obtain ⟨l⟩ := cs
    match l, hsz with
    | [a, b, c, d], _ => exact ⟨a, b, c, d, rfl⟩
  have e0 : Try.prog.cellsOf 3 = 1 := by kernel_rfl
  have l0 : xs[0]? = some (xs[0]'(by omega)) := List.getElem?_eq_getElem _
  have l1 : xs[1]? = some (xs[1]'(by omega)) := List.getElem?_eq_getElem _
  have l2 : xs[2]? = some (xs[2]'(by omega)) := List.getElem?_eq_getElem _
  have l3 : xs[3]? = some (xs[3]'(by omega)) := List.getElem?_eq_getElem _
  have h0 : DataW.trod enc Try.prog w 0 (fun _ => true) true n 3 [c0] = xs[0]? := by simpa [e0, Value.cells] using hf 0 _ rfl
  have h1 : DataW.trod enc Try.prog w 0 (fun _ => true) true n 3 [c1] = xs[1]? := by simpa [e0, Value.cells] using hf 1 _ rfl
  have h2 : DataW.trod enc Try.prog w 0 (fun _ => true) true n 3 [c2] = xs[2]? := by simpa [e0, Value.cells] using hf 2 _ rfl
  have h3 : DataW.trod enc Try.prog w 0 (fun _ => true) true n 3 [c3] = xs[3]? := by simpa [e0, Value.cells] using hf 3 _ rfl
  rw [l0] at h0; rw [l1] at h1; rw [l2] at h2; rw [l3] at h3
  obtain ⟨a, ha, ha2⟩ := opens_i64 Try.underlying3 _ _ _ h0
  obtain ⟨b, hb, hb2⟩ := opens_i64 Try.underlying3 _ _ _ h1
  obtain ⟨c, hc, hc2⟩ := opens_i64 Try.underlying3 _ _ _ h2
  obtain ⟨d, hd, hd2⟩ := opens_i64 Try.underlying3 _ _ _ h3
  simp only [List.cons.injEq, and_true] at ha hb hc hd
  exact ⟨(a, b, c, d), by simp only [ha, hb, hc, hd, i64v], ha2, hb2, hc2, hd2⟩
end
end Go.Proofs.Ytfpclheplipjfaa
