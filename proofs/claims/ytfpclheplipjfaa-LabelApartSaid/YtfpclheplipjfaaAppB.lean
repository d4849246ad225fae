/- 'append([]byte(s), b...)': what a string's octets are made into may be appended to. No condition. -/
import Derived.Test.YtfpclheplipjfaaEl
import Derived.ArgAppend
namespace Go.Proofs.Ytfpclheplipjfaa
open Go.RowKit

/-- a slice whose room is the call's own: elements of one cell -/
def Fresh (w : World) (B : Nat) (e : TypeId) (A : Option Addr) (n c : Nat) (xs : List Value) : Prop :=
  ∃ g row fr, A = some ⟨g, 0, none⟩ ∧ B ≤ g ∧ w.heap[g]? = some (.cells row e fr) ∧ c ≤ row.size ∧ (∀ i, i < c → w.frozen? ⟨g, i, none⟩ = false) ∧ row.toList.take n = xs ∧ n ≤ c ∧ xs.length = n
theorem Fresh.rd {w : World} {B : Nat} {e : TypeId} {A : Option Addr} {n c : Nat} {xs : List Value} (h : Fresh w B e A n c xs) : Rd w A xs := by
  obtain ⟨g, row, fr, rfl, _, hg, _, _, rfl, _⟩ := h
  refine .inr ⟨g, 0, rfl, fun j u hu => ?_⟩
  rw [Nat.zero_add, cell_of_row w g j row e fr hg]
  rw [List.getElem?_take] at hu
  split at hu
  · simpa using hu
  · cases hu
theorem Fresh.below {w w' : World} {B : Nat} {e : TypeId} {A : Option Addr} {n c : Nat} {xs : List Value} (h : Fresh w B e A n c xs) (hb : Below w.heap.size w w') : Fresh w' B e A n c xs := by
  obtain ⟨g, row, fr, h1, h2, hg, h4, h5, h6⟩ := h
  have hlt : g < w.heap.size := (Array.getElem?_eq_some_iff.1 hg).1
  exact ⟨g, row, fr, h1, h2, (hb.block g hlt).trans hg, h4, fun i hi => (hb.frozen (p := ⟨g, i, none⟩) hlt).trans (h5 i hi), h6⟩
/-- '[]byte(s)' -/
theorem run_bytes_fresh {P : Program} (w : World) (src dst e : TypeId) (s : ByteArray) (hs : P.underlying src = some .string) (hd : P.underlying dst = some (.slice e)) (he : P.underlying e = some (.int .u8)) :
    ∃ c w', (convert src dst (.string s)).run P w = .ok (.slice (some ⟨w.heap.size, 0, none⟩) s.size c) w' ∧ Fresh w' w.heap.size e (some ⟨w.heap.size, 0, none⟩) s.size c (s.data.toList.map u8v) ∧ Below w.heap.size w w' := by
  have hge := grownCap_ge w s.size 0 e
  have hlen : s.data.toList.length = s.size := Array.length_toList
  have hsize : (bytesRow s (grownCap w s.size 0 e)).size = grownCap w s.size 0 e := by
    unfold bytesRow
    rw [Array.size_append, Array.size_map, Array.size_replicate]
    have : s.data.size = s.size := rfl
    omega
  refine ⟨_, _, run_bytes_of_string w src dst e s hs hd he, ⟨w.heap.size, _, _, rfl, Nat.le_refl _, heap_alloc_new w.drew _, by rw [hsize]; exact Nat.le_refl _, fun i hi => ?_, ?_, hge, by rw [List.length_map, hlen]⟩, ((Below.refl _ _).drew).alloc (Nat.le_refl _) _⟩
  · have : ((w.drew.alloc (.cells (bytesRow s (grownCap w s.size 0 e)) e ((bytesRow s (grownCap w s.size 0 e)).size, (bytesRow s (grownCap w s.size 0 e)).size + 1))).heap[w.heap.size]?) = some (.cells (bytesRow s (grownCap w s.size 0 e)) e ((bytesRow s (grownCap w s.size 0 e)).size, (bytesRow s (grownCap w s.size 0 e)).size + 1)) := heap_alloc_new w.drew _
    have h2 : ¬ (bytesRow s (grownCap w s.size 0 e)).size ≤ i := by rw [hsize]; exact Nat.not_le_of_lt hi
    simp only [World.frozen?, this]
    simp [h2]
  · unfold bytesRow
    rw [Array.toList_append, Array.toList_map, List.take_left' (by rw [List.length_map, hlen])]
    rfl
theorem below_setCells {B g : Nat} {a : World} (hg : B ≤ g) : ∀ (vs : List Value) (o : Nat) (w : World), Below B a w → Below B a (w.setCells g o vs)
  | [], _, _, h => h
  | v :: r, o, w, h => below_setCells hg r (o + 1) _ (h.setCell (by exact hg) v)
/-- 'append(own, b...)' -/
theorem run_app_fresh {P : Program} {t e : TypeId} {z : Value} {bytes : Nat} (E : Elem P t e z 1 bytes) (w w0 : World) (ty : TypeId) (B : Nat) (A : Option Addr) (n c : Nat) (xs : List Value) (h : Fresh w B e A n c xs) (hb : Below B w0 w) (hB : B ≤ w.heap.size)
    (A2 : Option Addr) (m c2 : Nat) (news : List Value) (hr : Rd w A2 news) (hl : news.length = m) (h1 : ∀ u ∈ news, u.oneCell' = true) (h63 : n + m ≤ 9223372036854775807) (hbytes : (n + m) * bytes ≤ 140737488355328) :
    ∃ A' c' w', (Builtin.append_ #[t, t] ty #[.slice A n c, .slice A2 m c2]).run P w = .ok (.slice A' (n + m) c') w' ∧ Rd w' A' (xs ++ news) ∧ n + m ≤ c' ∧ Below B w0 w' := by
  have hrd := h.rd
  obtain ⟨g, row, fr, rfl, hBg, hg, hc, hfr, hxs, hnc, hxl⟩ := h
  obtain ⟨ht, info, hzs, pos⟩ := E
  obtain ⟨i, hi, hz0, hz1, hz2⟩ := info_parts info
  rcases A2 with _ | ad
  · have hn : news = [] := by
      rcases hr with h | ⟨b, o, h, _⟩
      · exact h
      · cases h
    subst hn
    have hm : m = 0 := by simpa using hl.symm
    subst hm
    exact ⟨some ⟨g, 0, none⟩, c, w, by simp [Builtin.append_, run_underlying ht, sizeOf, typeInfo, hi, Builtin.lenOf, Builtin.firstCells, hnc, storeCells], by simpa using hrd, by omega, hb⟩
  · have hcells : ∀ j u, news[j]? = some u → w.cell? (ad.add j) = some u := by
      intro j u hu
      rcases hr with h | ⟨b, o, h, hc⟩
      · rw [h] at hu; simp at hu
      · injection h with h; subst h
        have := hc j u hu
        simp only [Addr.add]
        by_cases hj0 : j = 0
        · subst hj0; simpa using this
        · simpa [hj0] using this
    by_cases hroom : n + m ≤ c
    · have hr2 := run_append_room_cells (P := P) w t ty e i ht hi g 0 n c ad m c2 news (by rw [hz1, Nat.mul_one]; exact hl) hcells h1 hroom
        (fun j hj => by
          rw [hz1, Nat.mul_one, Nat.zero_add, cell_of_row w g _ row e fr hg]
          have : n + j < row.size := by omega
          simp [this])
        (fun j hj => by rw [hz1, Nat.mul_one, Nat.zero_add]; exact hfr _ (by omega))
      refine ⟨_, _, _, hr2, ?_, hroom, below_setCells hBg _ _ _ hb⟩
      rw [hz1, Nat.mul_one, Nat.zero_add]
      refine .inr ⟨g, 0, rfl, fun j u hu => ?_⟩
      rw [Nat.zero_add]
      by_cases hj : j < n
      · rw [List.getElem?_append_left (by omega)] at hu
        rw [World.cell?_setCells_out g news n w ⟨g, j, none⟩ (fun _ _ => .inl hj)]
        rcases hrd with h | ⟨b, o, h, hcell⟩
        · rw [h] at hu; simp at hu
        · injection h with h; injection h with h1 h2; subst h1; subst h2
          have := hcell j u hu
          rwa [Nat.zero_add] at this
      · rw [List.getElem?_append_right (by omega), hxl] at hu
        have hjl : j - n < news.length := (List.getElem?_eq_some_iff.1 hu).1
        have := World.cell?_setCells_in g news n w (fun k hk => by
          rw [cell_of_row w g _ row e fr hg]
          have : n + k < row.size := by omega
          simp [this]) (j - n) hjl
        rw [show n + (j - n) = j by omega] at this
        rw [this, ← hu, List.getElem?_eq_getElem hjl]
    · have holds : ∀ j u, xs[j]? = some u → w.cell? ((⟨g, 0, none⟩ : Addr).add j) = some u := by
        intro j u hu
        rcases hrd with h | ⟨b, o, h, hcell⟩
        · rw [h] at hu; simp at hu
        · injection h with h; injection h with h1 h2; subst h1; subst h2
          have := hcell j u hu
          simp only [Addr.add]
          by_cases hj0 : j = 0
          · subst hj0; simpa using this
          · simpa [hj0] using this
      have hr2 := run_append_grow (P := P) w t ty e i z ht hi hz0 ⟨g, 0, none⟩ n c xs (by rw [hz1, Nat.mul_one]; exact hxl) holds ad m c2 news (by rw [hz1, Nat.mul_one]; exact hl) hcells (by omega) (by omega) (growslice_fits (by omega) (by rw [hz2]; exact hbytes))
      refine ⟨_, _, _, hr2, ?_, grownCap_ge _ _ _ _, hb.drew.alloc hB _⟩
      have hg' : (w.drew.alloc (.cells (xs.toArray ++ news.toArray ++ Builtin.zeroCells z.cells (grownCap w (n + m) c e - (n + m))) e)).heap[w.heap.size]? = some (.cells (xs.toArray ++ news.toArray ++ Builtin.zeroCells z.cells (grownCap w (n + m) c e - (n + m))) e (0, 0)) := heap_alloc_new w.drew _
      refine .inr ⟨w.heap.size, 0, rfl, fun j u hu => ?_⟩
      have hj := (List.getElem?_eq_some_iff.1 hu).1
      rw [Nat.zero_add, cell_of_row _ _ j _ e (0, 0) hg', ← hu, Array.getElem?_append_left (by rw [Array.size_append, List.size_toArray, List.size_toArray, ← List.length_append]; exact hj), List.append_toArray, List.getElem?_toArray]
theorem wpList_app_fresh {P : Program} {t e : TypeId} {z : Value} {bytes : Nat} {w w0 : World} {ops : Array Oper} {rest : List Oper} {o : Oper} {a : Act} {Q : Exit → Act → World → Prop} (hgd : o.guard = none) (s x : Operand)
    (ho : o.op = .call { callee := .builtin .append, args := #[s, x], argTypes := #[t, t] }) (E : Elem P t e z 1 bytes) (B : Nat) (A : Option Addr) (n c : Nat) (xs : List Value) (hs : a.eval s = .slice A n c)
    (h : Fresh w B e A n c xs) (hb : Below B w0 w) (hB : B ≤ w.heap.size) (A2 : Option Addr) (m c2 : Nat) (news : List Value) (hx : a.eval x = .slice A2 m c2) (hr : Rd w A2 news) (hl : news.length = m) (h1 : ∀ u ∈ news, u.oneCell' = true)
    (h63 : n + m ≤ 9223372036854775807) (hbytes : (n + m) * bytes ≤ 140737488355328)
    (hK : ∀ A' c' w', Rd w' A' (xs ++ news) → n + m ≤ c' → Below B w0 w' → wpList P ops Q rest (a.put o.dst (.slice A' (n + m) c')) w') : wpList P ops Q (o :: rest) a w :=
  wpList_plain hgd fun K hK' => by
    obtain ⟨A', c', w', hrun, h2, h3, h4⟩ := run_app_fresh E w w0 o.type B A n c xs h hb hB A2 m c2 news hr hl h1 h63 hbytes
    unfold Oper.wp execOp
    simp only [ho, resolve, invoke, builtin, Sem.run_bind, Sem.run_pure, Result.andThen_ok, List.map_toArray, List.map_cons, List.map_nil, hs, hx, hrun]
    exact hK' _ _ (hK A' c' w' h2 h3 h4)
end Go.Proofs.Ytfpclheplipjfaa
