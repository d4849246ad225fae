/-
  How a law's arguments are opened: what is known of a value that reads as data, type by type. No condition.
-/
import Derived.Test.YtobiepjnnglglaaRows
import Derived.Test.YtobiepjnnglglaaBase
import Derived.ProofKit
import Derived.OpenShut
import Derived.ShutString
import Derived.ChangeOld
import Derived.Deep.Slices
import Derived.Deep.Fields
import Derived.Lib.SmallJoins
namespace Go.Proofs.Ytobiepjnnglglaa
open Go.ChangeShapes Go.WideShapes Go.ChangeAt Go.RowKit Go.Deep

theorem Try.own : ownKnob Try.prog.godebug = none := by kernel_rfl
theorem Try.laidOut : laidOutB Try.prog = true := by kernel_rfl

section
variable {H : Type} {enc : TypeId × Value → H} {P : Program} {w : World}
/-- whatever cells read as a value of type t are 'f x', and Q holds of x -/
def Opens (H : Type) (enc : TypeId × Value → H) (P : Program) (w : World) (t : TypeId) {α : Type} (f : α → List Value) (Q : α → Prop) : Prop :=
  ∀ (fuel : Nat) (cs : List Value) (y : DataW H × List MemPlace), DataW.trod enc P w 0 (fun _ => true) true fuel t cs = some y → ∃ x, cs = f x ∧ Q x
theorem opens_int {t : TypeId} {k : IntKind} (ht : P.underlying t = some (.int k)) : Opens H enc P w t (fun n : Int => [.int k n]) (fun n => (Lit.int k n).wf = true) := by
  intro fuel cs y h
  obtain ⟨n, hc, _, hw⟩ := DataW.trod_int ht h
  exact ⟨n, hc, hw⟩
theorem opens_i64 {t : TypeId} (ht : P.underlying t = some (.int .i64)) : Opens H enc P w t (fun n : Int => [i64v n]) (fun n => -9223372036854775808 ≤ n ∧ n ≤ 9223372036854775807) := by
  intro fuel cs y h
  obtain ⟨n, hc, _, hw⟩ := DataW.trod_int ht h
  refine ⟨n, hc, ?_⟩
  simp [Lit.wf, IntKind.min, IntKind.max, IntKind.bits, IntKind.signed] at hw
  omega
theorem opens_u8 {t : TypeId} (ht : P.underlying t = some (.int .u8)) : Opens H enc P w t (fun c : UInt8 => [u8v c]) (fun _ => True) := by
  intro fuel cs y h
  obtain ⟨n, hc, _, hw⟩ := DataW.trod_int ht h
  simp [Lit.wf, IntKind.min, IntKind.max, IntKind.bits, IntKind.signed] at hw
  refine ⟨UInt8.ofNat n.toNat, ?_, trivial⟩
  rw [hc]
  simp only [u8v]
  rw [UInt8.toNat_ofNat']
  have : ((n.toNat % 2 ^ 8 : Nat) : Int) = n := by omega
  rw [this]
theorem opens_u64 {t : TypeId} (ht : P.underlying t = some (.int .u64)) : Opens H enc P w t (fun n : Nat => [u64v n]) (fun n => n < 18446744073709551616) := by
  intro fuel cs y h
  obtain ⟨n, hc, _, hw⟩ := DataW.trod_int ht h
  simp [Lit.wf, IntKind.min, IntKind.max, IntKind.bits, IntKind.signed] at hw
  refine ⟨n.toNat, ?_, by omega⟩
  rw [hc]
  simp only [u64v]
  have : ((n.toNat : Nat) : Int) = n := by omega
  rw [this]
theorem opens_slice {t e : TypeId} {α : Type} {f : α → List Value} {Q : α → Prop} (z : Nat) (ht : P.underlying t = some (.slice e)) (hz : P.cellsOf e = z) (hz0 : 0 < z) (he : Opens H enc P w e f Q) :
    Opens H enc P w t (fun s : Sl α => [.slice s.A s.n s.c]) (fun s => s.Ok w f Q) := by
  intro fuel cs y h
  rcases Go.Deep.open_slice ht h with ⟨hc, _⟩ | ⟨a, len, cap, m, n, D, Pl, hc, _, hl, hm, hmm, _, hel⟩
  · exact ⟨⟨none, 0, 0, []⟩, hc, .inl rfl, rfl, Nat.le_refl _, by simp only [maxLen]; omega, by simp⟩
  · simp only [if_true] at hmm
    subst hmm
    have hch : ∀ i, i < len → ∃ x : α, Q x ∧ (f x).length = z ∧ ∀ j, j < z → w.cell? (a.add (i * z + j)) = (f x)[j]? := by
      intro i hi
      obtain ⟨cs', hcs, htr⟩ := hel i (by omega)
      obtain ⟨x, hx, hq⟩ := he _ _ _ htr
      rw [hz] at hcs
      obtain ⟨_, hlen, hcell⟩ := World.cells?_some hcs
      subst hx
      refine ⟨x, hq, hlen, fun j hj => ?_⟩
      rw [← hcell j hj, Go.Deep.add_add]
    have main : ∀ k, k ≤ len → ∃ l : List α, l.length = k ∧ (∀ x ∈ l, Q x) ∧ (l.flatMap f).length = k * z ∧ ∀ j, j < k * z → w.cell? (a.add j) = (l.flatMap f)[j]? := by
      intro k
      induction k with
      | zero => intro _; exact ⟨[], rfl, by simp, by simp, fun j hj => by omega⟩
      | succ k ih =>
        intro hk
        obtain ⟨l, h1, h2, h3, h4⟩ := ih (by omega)
        obtain ⟨x, hq, hlx, hcx⟩ := hch k (by omega)
        refine ⟨l ++ [x], by simp [h1], fun y hy => ?_, ?_, fun j hj => ?_⟩
        · rcases List.mem_append.1 hy with hy | hy
          · exact h2 y hy
          · rw [List.mem_singleton.1 hy]; exact hq
        · rw [List.flatMap_append, List.length_append, h3, List.flatMap_singleton, hlx, Nat.succ_mul]
        · rw [List.flatMap_append, List.flatMap_singleton]
          rcases Nat.lt_or_ge j (k * z) with hjk | hjk
          · rw [List.getElem?_append_left (by omega)]; exact h4 j hjk
          · rw [List.getElem?_append_right (by omega), h3, ← hcx (j - k * z) (by rw [Nat.succ_mul] at hj; omega)]
            congr 2; omega
    obtain ⟨l, h1, h2, h3, h4⟩ := main len (Nat.le_refl _)
    refine ⟨⟨some a, len, _, l⟩, hc, ?_, h1, hl, hm, h2⟩
    rcases Nat.eq_zero_or_pos len with h0 | h0
    · subst h0
      left
      rw [List.eq_nil_of_length_eq_zero h1]; rfl
    · have hpos : 0 < len * z := Nat.mul_pos h0 hz0
      have hc0 := h4 0 hpos
      rw [List.getElem?_eq_getElem (by omega)] at hc0
      have hs := World.cell?_spot hc0
      obtain ⟨b, o, sp⟩ := a
      have hsp : sp = none := by simpa [Addr.add] using hs
      subst hsp
      refine .inr ⟨b, o, rfl, fun j u hu => ?_⟩
      replace hu : (l.flatMap f)[j]? = some u := hu
      have hj : j < len * z := by
        rcases Nat.lt_or_ge j (len * z) with h | h
        · exact h
        · rw [List.getElem?_eq_none (by omega)] at hu; cases hu
      have := h4 j hj
      rw [hu] at this
      rw [← this]
      by_cases hj0 : j = 0 <;> simp [Addr.add, hj0]
theorem flat_u8 (l : List UInt8) : l.flatMap (fun c => [u8v c]) = l.map u8v := by induction l <;> simp_all
theorem flat_i64 (l : List Int) : l.flatMap (fun c => [i64v c]) = l.map i64v := by induction l <;> simp_all
theorem flat_u64 (l : List Nat) : l.flatMap (fun c => [u64v c]) = l.map u64v := by induction l <;> simp_all
/-- an argument that is a slice -/
theorem arg_slice {r : Reach} {b0 : Nat} {t e : TypeId} {α : Type} {f : α → List Value} {Q : α → Prop} {v : Value} {d : DataW H} {p : List MemPlace} (z : Nat) (ht : P.underlying t = some (.slice e)) (hz : P.cellsOf e = z) (hz0 : 0 < z)
    (he : Opens H enc P w e f Q) (hv : Value.okWide P w r b0 t v) (h : DataW.Trod enc P w 0 (fun _ => true) true t v d p) : ∃ s : Sl α, v = .slice s.A s.n s.c ∧ s.Ok w f Q := by
  obtain ⟨a, n, c, rfl⟩ := okWide_slice ht hv
  obtain ⟨fuel, hf⟩ := h
  obtain ⟨s, hs, ho⟩ := opens_slice z ht hz hz0 he _ _ _ hf
  simp only [Value.cells, List.cons.injEq, and_true] at hs
  exact ⟨s, by simpa using hs, ho⟩
end
end Go.Proofs.Ytobiepjnnglglaa
