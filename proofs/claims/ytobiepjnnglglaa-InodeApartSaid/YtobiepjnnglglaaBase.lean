/-
  Words and lemmas on memory used by all the walks of this seat: a slice that reads as a list of cells, kept over what the calls do; rows of the call's own. No condition.
-/
import Derived.Test.YtobiepjnnglglaaPlain0
import Derived.WalkKit
import Derived.WalkSpells
import Derived.WalkLawsBesides
import Derived.Lib.Hide
import Derived.Deep.Draws
import Derived.Deep.AppendLies
import Derived.Deep.RegionLaw
import Derived.Deep.DeepCutAuto
import Derived.Laws.AppendOwnNone
import Derived.Laws.CopyOwn
import Derived.Lib.SlBytesConst
import Derived.Deep.QuietTactic
import Derived.BigQuiet
namespace Go.Proofs.Ytobiepjnnglglaa
open Go.RowKit

/-- The slice's address A reads as the cells xs. -/
def Rd (w : World) (A : Option Addr) (xs : List Value) : Prop :=
  xs = [] ∨ ∃ b o, A = some ⟨b, o, none⟩ ∧ ∀ j u, xs[j]? = some u → w.cell? ⟨b, o + j, none⟩ = some u

theorem hide {p : Prop} (h : p) : Hid p := h
theorem unhide {p : Prop} (h : Hid p) : p := h

section
variable {w w' : World} {B : Nat} {A : Option Addr} {xs ys : List Value}
theorem Rd.nil (w : World) (A : Option Addr) : Rd w A [] := .inl rfl
theorem Rd.at (h : Rd w A xs) {k : Nat} (hk : k < xs.length) :
    ∃ b o u, A = some ⟨b, o, none⟩ ∧ b < w.heap.size ∧ xs[k]? = some u ∧ w.cell? ⟨b, o + k, none⟩ = some u := by
  rcases h with rfl | ⟨b, o, rfl, hc⟩
  · simp at hk
  · have hx := List.getElem?_eq_getElem hk
    exact ⟨b, o, xs[k], rfl, World.block_lt_of_cell? w ⟨b, o + k, none⟩ (hc k _ hx), hx, hc k _ hx⟩
theorem Rd.cell {b o k : Nat} {u : Value} (h : Rd w (some ⟨b, o, none⟩) xs) (hk : xs[k]? = some u) : w.cell? ⟨b, o + k, none⟩ = some u := by
  rcases h with rfl | ⟨b', o', hA, hc⟩
  · simp at hk
  · injection hA with hA; injection hA with h1 h2; subst h1; subst h2; exact hc k u hk
theorem Rd.keep (h : Rd w A xs) (hk : ∀ p : Addr, p.block < w.heap.size → w'.cell? p = w.cell? p) : Rd w' A xs := by
  rcases h with rfl | ⟨b, o, rfl, hc⟩
  · exact .inl rfl
  · exact .inr ⟨b, o, rfl, fun j u hu => (hk _ (World.block_lt_of_cell? w ⟨b, o + j, none⟩ (hc j u hu))).trans (hc j u hu)⟩
theorem Rd.below (h : Rd w A xs) (hb : Below B w w') (hB : w.heap.size ≤ B) : Rd w' A xs := h.keep fun _ hp => hb.cell (Nat.lt_of_lt_of_le hp hB)
theorem Rd.on (h : Rd w A xs) (hb : Below w.heap.size w w') : Rd w' A xs := h.below hb (Nat.le_refl _)
theorem Rd.drew (h : Rd w A xs) : Rd w.drew A xs := h
theorem Rd.drewN (h : Rd w A xs) (k : Nat) : Rd (w.drewN k) A xs := h
theorem Rd.alloc (h : Rd w A xs) (o : Obj) : Rd (w.alloc o) A xs := h.keep fun p hp => World.cell?_alloc_lt w o p hp
/-- the cells of 's[k:]' -/
theorem Rd.drop (h : Rd w A xs) (k : Nat) : Rd w (A.map (·.add k)) (xs.drop k) := by
  rcases h with rfl | ⟨b, o, rfl, hc⟩
  · exact .inl (by simp)
  · refine .inr ⟨b, o + k, ?_, fun j u hu => ?_⟩
    · by_cases hk : k = 0 <;> simp [Addr.add, hk]
    · rw [Nat.add_assoc]; exact hc _ u (by rw [← hu, List.getElem?_drop])
theorem Rd.cut (h : Rd w A xs) {k n cap : Nat} (hn : xs.length ≤ n) (hc : n ≤ cap) :
    Rd w (if cap = k then A else A.map (·.add k)) (xs.drop k) := by
  by_cases hk : cap = k
  · subst hk
    rw [if_pos rfl, List.drop_eq_nil_of_le (by omega)]
    exact .inl rfl
  · rw [if_neg hk]
    exact h.drop k
theorem Rd.take (h : Rd w A xs) (k : Nat) : Rd w A (xs.take k) := by
  rcases h with rfl | ⟨b, o, rfl, hc⟩
  · exact .inl (by simp)
  · refine .inr ⟨b, o, rfl, fun j u hu => hc j u ?_⟩
    rw [List.getElem?_take] at hu
    split at hu
    · exact hu
    · cases hu
theorem Rd.of_own {base : Nat} {e : TypeId} {size n c : Nat} (h : w.ownsRow base e size (.slice A n c) n xs) : Rd w A xs := by
  obtain ⟨hl, h⟩ := h
  rcases h with ⟨hv, rfl⟩ | ⟨g, cap, cur, hv, _, hg, hnc, _, hsz, ht⟩
  · exact .inl (List.eq_nil_of_length_eq_zero (by omega))
  · injection hv with hA
    subst hA
    refine .inr ⟨g, 0, rfl, fun j u hu => ?_⟩
    rw [Nat.zero_add, cell_of_row w g j cur e (0, 0) hg]
    rw [← ht, List.getElem?_take] at hu
    split at hu
    · simpa using hu
    · cases hu
theorem own_form {base : Nat} {e : TypeId} {size n : Nat} {v : Value} (h : w.ownsRow base e size v n xs) :
    ∃ A c, v = .slice A n c ∧ n ≤ c ∧ c ≤ maxLen := by
  rcases h.2 with ⟨rfl, rfl⟩ | ⟨g, cap, cur, rfl, _, _, hnc, hm, _⟩
  · exact ⟨none, 0, rfl, Nat.le_refl _, by unfold maxLen; omega⟩
  · exact ⟨_, cap, rfl, hnc, hm⟩
theorem Rd.own_cell {g n c : Nat} {base : Nat} {e : TypeId} {size : Nat} (h : w.ownsRow base e size (.slice (some ⟨g, 0, none⟩) n c) n xs) {j : Nat} (hj : j < n * size) :
    w.cell? ⟨g, j, none⟩ = xs[j]? := h.cellAt j hj
end

/-- behind an append of the call's own row: below B nothing has turned -/
theorem own_below {w w0 w1 : World} {base B : Nat} {e : TypeId} {size n : Nat} {v : Value} {xs : List Value} {o : Obj} (h : w.ownsRow base e size v n xs) (hb : Below B w0 w)
    (hB : B ≤ base) (hB' : B ≤ w.heap.size) (hg : (w.alloc o).grownBy w1 v.ownBlock) : Below B w0 w1 :=
  (hb.alloc hB' o).grown hg (by simp; omega) (fun k hk => Nat.le_trans hB (h.lt k hk).1)

/-- block g is just the cells cs of element type t, none frozen -/
def Blk (w : World) (g : Nat) (t : TypeId) (cs : Array Value) : Prop := w.heap[g]? = some (.cells cs t (0, 0))
section
variable {w w' : World} {g : Nat} {t : TypeId} {cs : Array Value}
theorem Blk.lt (h : Blk w g t cs) : g < w.heap.size := (Array.getElem?_eq_some_iff.1 h).1
theorem Blk.cell (h : Blk w g t cs) (i : Nat) : w.cell? ⟨g, i, none⟩ = cs[i]? := cell_of_row w g i cs t (0, 0) h
theorem Blk.cell_ (h : Blk w g t cs) (i : Nat) (u : Value) (hu : cs[i]? = some u) : w.cell? ⟨g, i, none⟩ = some u := (h.cell i).trans hu
theorem Blk.frozen (h : Blk w g t cs) (i : Nat) : w.frozen? ⟨g, i, none⟩ = false := by unfold Blk at h; simp [World.frozen?, h]
theorem Blk.new (w : World) (t : TypeId) (cs : Array Value) : Blk (w.alloc (.cells cs t)) w.heap.size t cs := heap_alloc_new w _
theorem Blk.new_ (w : World) (t : TypeId) (cs : Array Value) (g : Nat) (hg : g = w.heap.size) : Blk (w.alloc (.cells cs t)) g t cs := by subst hg; exact heap_alloc_new w _
theorem Blk.drew (h : Blk w g t cs) : Blk w.drew g t cs := h
theorem Blk.drewN (h : Blk w g t cs) (n : Nat) : Blk (w.drewN n) g t cs := h
theorem Blk.alloc (h : Blk w g t cs) (o : Obj) : Blk (w.alloc o) g t cs := (Below.heap_alloc w o g h.lt).trans h
theorem Blk.put (h : Blk w g t cs) (i : Nat) (u : Value) : Blk (w.setCell ⟨g, i, none⟩ u) g t (cs.setIfInBounds i u) := by
  unfold Blk at h ⊢
  simp [World.setCell, Array.getElem?_modify, h]
theorem Blk.far (h : Blk w g t cs) {p : Addr} (hp : g ≠ p.block) (u : Value) : Blk (w.setCell p u) g t cs := (Below.heap_setCell w p u g hp).trans h
theorem Blk.below {B : Nat} (h : Blk w g t cs) (hb : Below B w w') (hg : g < B) : Blk w' g t cs := (hb.block g hg).trans h
theorem Blk.grown {row : Option Nat} (h : Blk w g t cs) (hb : w.grownBy w' row) (hg : some g ≠ row) : Blk w' g t cs := (hb.block g h.lt hg).trans h
theorem Blk.row (h : Blk w g t cs) (cs' : Array Value) : Blk (w.setRow g cs') g t cs' := setRow_heap w g cs cs' t _ h
theorem Blk.rowFar (h : Blk w g t cs) {g' : Nat} (hne : g ≠ g') (cs' : Array Value) : Blk (w.setRow g' cs') g t cs := (setRow_other w g' g cs' hne).trans h
theorem below_setRow {B : Nat} {a : World} (h : Below B a w) (hg : B ≤ g) (cs' : Array Value) : Below B a (w.setRow g cs') :=
  h.trans ⟨rfl, rfl, rfl, by simp, fun k hk => setRow_other w g k cs' (by omega)⟩
/-- a row of elements of another type lies elsewhere -/
theorem own_ne {base : Nat} {e : TypeId} {size n : Nat} {v : Value} {xs : List Value} (h : w.ownsRow base e size v n xs) (hg : Blk w g t cs) (hne : e ≠ t) : some g ≠ v.ownBlock := by
  rcases h.2 with ⟨rfl, _⟩ | ⟨g', cap, cur, rfl, _, hh, _⟩
  · simp [Value.ownBlock]
  · intro he
    have : g = g' := by simpa [Value.ownBlock] using he
    subst this
    unfold Blk at hg
    rw [hh] at hg
    injection hg with hg
    injection hg with _ ht
    exact hne ht
end

/-- what a slice's value is: its address, its length, its capacity, its elements -/
structure Sl (α : Type) where
  A : Option Addr
  n : Nat
  c : Nat
  l : List α
structure Sl.Ok {α : Type} (s : Sl α) (w : World) (f : α → List Value) (Q : α → Prop) : Prop where
  rd : Rd w s.A (s.l.flatMap f)
  len : s.l.length = s.n
  cap : s.n ≤ s.c
  max : s.c ≤ maxLen
  all : ∀ x ∈ s.l, Q x
/-- cells of bytes, ints, uint64s .. -/
def u8v (c : UInt8) : Value := .int .u8 (c.toNat : Int)
def i64v (n : Int) : Value := .int .i64 n
def u64v (n : Nat) : Value := .int .u64 (n : Int)
theorem Rd.u8 {w : World} {A : Option Addr} {l : List UInt8} {k : Nat} (h : Rd w A (l.map u8v)) (hk : k < l.length) :
    ∃ b o c, A = some ⟨b, o, none⟩ ∧ b < w.heap.size ∧ l[k]? = some c ∧ w.cell? ⟨b, o + k, none⟩ = some (.int .u8 (c.toNat : Int)) := by
  obtain ⟨b, o, u, hA, hb, hu, hc⟩ := h.at (k := k) (by simpa using hk)
  refine ⟨b, o, l[k], hA, hb, List.getElem?_eq_getElem hk, ?_⟩
  rw [hc]; simp [hk] at hu; rw [← hu]; rfl
theorem Rd.i64 {w : World} {A : Option Addr} {l : List Int} {k : Nat} (h : Rd w A (l.map i64v)) (hk : k < l.length) :
    ∃ b o c, A = some ⟨b, o, none⟩ ∧ b < w.heap.size ∧ l[k]? = some c ∧ w.cell? ⟨b, o + k, none⟩ = some (.int .i64 c) := by
  obtain ⟨b, o, u, hA, hb, hu, hc⟩ := h.at (k := k) (by simpa using hk)
  refine ⟨b, o, l[k], hA, hb, List.getElem?_eq_getElem hk, ?_⟩
  rw [hc]; simp [hk] at hu; rw [← hu]; rfl
theorem Rd.u64 {w : World} {A : Option Addr} {l : List Nat} {k : Nat} (h : Rd w A (l.map u64v)) (hk : k < l.length) :
    ∃ b o c, A = some ⟨b, o, none⟩ ∧ b < w.heap.size ∧ l[k]? = some c ∧ w.cell? ⟨b, o + k, none⟩ = some (.int .u64 (c : Int)) := by
  obtain ⟨b, o, u, hA, hb, hu, hc⟩ := h.at (k := k) (by simpa using hk)
  refine ⟨b, o, l[k], hA, hb, List.getElem?_eq_getElem hk, ?_⟩
  rw [hc]; simp [hk] at hu; rw [← hu]; rfl

theorem Rd.u8c {w : World} {b o : Nat} {l : List UInt8} {k : Nat} {x : UInt8} (h : Rd w (some ⟨b, o, none⟩) (l.map u8v)) (hk : l[k]? = some x) : w.cell? ⟨b, o + k, none⟩ = some (.int .u8 (x.toNat : Int)) :=
  h.cell (by rw [List.getElem?_map, hk]; rfl)
theorem Rd.i64c {w : World} {b o : Nat} {l : List Int} {k : Nat} {x : Int} (h : Rd w (some ⟨b, o, none⟩) (l.map i64v)) (hk : l[k]? = some x) : w.cell? ⟨b, o + k, none⟩ = some (.int .i64 x) :=
  h.cell (by rw [List.getElem?_map, hk]; rfl)
theorem Rd.u64c {w : World} {b o : Nat} {l : List Nat} {k : Nat} {x : Nat} (h : Rd w (some ⟨b, o, none⟩) (l.map u64v)) (hk : l[k]? = some x) : w.cell? ⟨b, o + k, none⟩ = some (.int .u64 (x : Int)) :=
  h.cell (by rw [List.getElem?_map, hk]; rfl)
/-- structs side by side: element k's cell j -/
theorem flat_get {α β : Type} {f : α → List β} {z : Nat} (hf : ∀ x, (f x).length = z) : ∀ (l : List α) (k : Nat) (x : α) (j : Nat), l[k]? = some x → j < z → (l.flatMap f)[k * z + j]? = (f x)[j]?
  | [], k, x, j, h, _ => by simp at h
  | y :: l, 0, x, j, h, hj => by
    simp at h; subst h
    rw [List.flatMap_cons, Nat.zero_mul, Nat.zero_add, List.getElem?_append_left (by rw [hf]; exact hj)]
  | y :: l, k + 1, x, j, h, hj => by
    have ih := flat_get hf l k x j (by simpa using h) hj
    rw [List.flatMap_cons, List.getElem?_append_right (by rw [hf, Nat.succ_mul]; omega), hf, ← ih]
    congr 1
    rw [Nat.succ_mul]; omega
theorem flat_length {α β : Type} {f : α → List β} {z : Nat} (hf : ∀ x, (f x).length = z) (l : List α) : (l.flatMap f).length = l.length * z := by
  induction l with
  | nil => simp
  | cons y l ih => rw [List.flatMap_cons, List.length_append, hf, ih, List.length_cons, Nat.succ_mul]; omega
theorem Rd.flat {α : Type} {f : α → List Value} {z : Nat} (hf : ∀ x, (f x).length = z) (hz : 0 < z) {w : World} {A : Option Addr} {l : List α} {k : Nat}
    (h : Rd w A (l.flatMap f)) (hk : k < l.length) :
    ∃ b o x, A = some ⟨b, o, none⟩ ∧ b < w.heap.size ∧ l[k]? = some x ∧ ∀ j u, (f x)[j]? = some u → w.cell? ⟨b, o + k * z + j, none⟩ = some u := by
  rcases h with h | ⟨b, o, rfl, hc⟩
  · have := flat_length hf l
    rw [h] at this
    have h0 : 0 < l.length * z := Nat.mul_pos (by omega) hz
    simp at this; omega
  · have main : ∀ j u, (f l[k])[j]? = some u → (l.flatMap f)[k * z + j]? = some u := fun j u hu => by
      have hj : j < z := by
        rcases Nat.lt_or_ge j z with h | h
        · exact h
        · rw [List.getElem?_eq_none (by rw [hf]; exact h)] at hu; cases hu
      rw [flat_get hf l k _ j (List.getElem?_eq_getElem hk) hj, hu]
    obtain ⟨u, hu⟩ : ∃ u, (f l[k])[0]? = some u := ⟨(f l[k])[0]'(by rw [hf]; exact hz), List.getElem?_eq_getElem _⟩
    refine ⟨b, o, l[k], rfl, World.block_lt_of_cell? w ⟨b, o + (k * z + 0), none⟩ (hc _ u (main 0 u hu)), List.getElem?_eq_getElem hk, fun j u hu => ?_⟩
    rw [Nat.add_assoc]
    exact hc _ u (main j u hu)
/-- a list that is cut where it is too long -/
theorem Rd.few {α : Type} {f : α → Value} {w : World} {A : Option Addr} {l : List α} {n c : Nat} (N : Nat) (hr : Rd w A (l.map f)) (hl : l.length = n) (hc : n ≤ c) :
    ∃ (l' : List α) (n' : Nat), Rd w A (l'.map f) ∧ l'.length = n' ∧ n' ≤ N ∧ n' ≤ c ∧ l' = l.take N ∧ (n ≤ N ∧ n' = n ∨ N < n ∧ n' = N) := by
  by_cases h : n ≤ N
  · exact ⟨l, n, hr, hl, h, hc, (List.take_of_length_le (by omega)).symm, .inl ⟨h, rfl⟩⟩
  · exact ⟨l.take N, N, by rw [List.map_take]; exact hr.take N, by rw [List.length_take]; omega, Nat.le_refl _, by omega, rfl, .inr ⟨by omega, rfl⟩⟩
theorem take_snoc_eq {α : Type} {xs ys : List α} {k : Nat} {x : α} (h : xs.take k = ys.take k) (hx : xs[k]? = some x) (hy : ys[k]? = some x) :
    xs.take (k + 1) = ys.take (k + 1) := by
  rw [List.take_add_one, List.take_add_one, h, hx, hy]
theorem Blk.rd {w : World} {g : Nat} {t : TypeId} {cs : Array Value} (h : Blk w g t cs) : Rd w (some ⟨g, 0, none⟩) cs.toList :=
  .inr ⟨g, 0, rfl, fun j u hu => by rw [Nat.zero_add]; exact h.cell_ j u (by simpa using hu)⟩
theorem map_u8 (bs : List UInt8) : bs.map u8v = (bs.map fun c => (c.toNat : Int)).map (Value.int .u8) := by simp [u8v]
/-- 'string(b)' -/
theorem run_str {P : Program} {w : World} {A : Option Addr} {bs : List UInt8} {n c : Nat} (src dst e : TypeId) (hs : P.underlying src = some (.slice e)) (he : P.underlying e = some (.int .u8)) (hd : P.underlying dst = some .string)
    (h : Rd w A (bs.map u8v)) (hn : bs.length = n) : (convert src dst (.slice A n c)).run P w = .ok (.string ⟨bs.toArray⟩) w := by
  rcases A with _ | a
  · rcases h with h | ⟨b, o, hA, _⟩
    · have hb : bs = [] := by simpa using h
      subst hb
      rw [run_convert_bytes_nil w src e hs he n c dst hd]; rfl
    · cases hA
  · rw [run_convert_bytes_string w src dst e _ n c hs he hd]
    have hl : (loadCells a n).run P w = .ok (((bs.map fun c => (c.toNat : Int)).map (Value.int .u8))).toArray w := by
      have := run_loadCells_list (P := P) w a (bs.map u8v) (fun j v hj => by
        rcases h with h | ⟨b, o, hA, hc⟩
        · rw [h] at hj; simp at hj
        · injection hA with hA; subst hA
          simp only [Addr.add]
          have := hc j v hj
          by_cases hj0 : j = 0
          · subst hj0; simpa using this
          · simpa [hj0] using this)
      rw [List.length_map, hn, map_u8] at this
      exact this
    rw [run_bytesToString w a n c _ hl, foldl_push_bytes, List.map_map]
    congr 2
    have e : (bs.map ((fun n : Int => UInt8.ofNat n.toNat) ∘ fun c : UInt8 => (c.toNat : Int))) = bs := by
      rw [show ((fun n : Int => UInt8.ofNat n.toNat) ∘ fun c : UInt8 => (c.toNat : Int)) = id from by funext c; simp]
      simp
    rw [e]
    simp [ByteArray.empty, ByteArray.emptyWithCapacity]
    rfl
/-- a slice type t of elements e: their zero value, cells, bytes -/
structure Elem (P : Program) (t e : TypeId) (z : Value) (size bytes : Nat) : Prop where
  ht : P.underlying t = some (.slice e)
  info : (P.info? e).map (fun i => (i.zero, i.size, i.bytes)) = some (some z, size, bytes)
  hzs : z.cells.size = size
  pos : 0 < size
theorem one_u8 (l : List UInt8) : ∀ u ∈ l.map u8v, u.oneCell' = true := by intro u hu; simp [u8v] at hu; obtain ⟨c, _, rfl⟩ := hu; rfl
theorem one_i64 (l : List Int) : ∀ u ∈ l.map i64v, u.oneCell' = true := by intro u hu; simp [i64v] at hu; obtain ⟨c, _, rfl⟩ := hu; rfl
theorem one_u64 (l : List Nat) : ∀ u ∈ l.map u64v, u.oneCell' = true := by intro u hu; simp [u64v] at hu; obtain ⟨c, _, rfl⟩ := hu; rfl
theorem run_app {P : Program} {t e : TypeId} {z : Value} {size bytes : Nat} (E : Elem P t e z size bytes) (w : World) (ty : TypeId) (base : Nat) (A : Option Addr) (n c : Nat) (xs : List Value)
    (hown : w.ownsRow base e size (.slice A n c) n xs) (A2 : Option Addr) (m c2 : Nat) (news : List Value) (hr : Rd w A2 news) (hl : news.length = m * size) (h1 : ∀ u ∈ news, u.oneCell' = true)
    (h63 : n + m ≤ maxLen) (hbytes : (n + m) * bytes ≤ 140737488355328) (hbase : base ≤ w.heap.size) :
    ∃ A' c' w', (Builtin.append_ #[t, t] ty #[.slice A n c, .slice A2 m c2]).run P w = .ok (.slice A' (n + m) c') w' ∧ w'.ownsRow base e size (.slice A' (n + m) c') (n + m) (xs ++ news) ∧
      n + m ≤ c' ∧ w.grownBy w' (Value.slice A n c).ownBlock := by
  obtain ⟨ht, info, hzs, pos⟩ := E
  obtain ⟨i, hi, hz0, hz1, hz2⟩ := info_parts info
  have hc : n ≤ c := by
    rcases hown.2 with ⟨h, rfl⟩ | ⟨g, cap, cur, h, _, _, hnc, _⟩
    · omega
    · injection h with _ _ h3; omega
  rcases A2 with _ | ad
  · have hn : news = [] := by
      rcases hr with h | ⟨b, o, h, _⟩
      · exact h
      · cases h
    subst hn
    have hm : m = 0 := by
      rcases Nat.eq_zero_or_pos m with h | h
      · exact h
      · have : 0 < m * size := Nat.mul_pos h pos
        simp at hl; omega
    subst hm
    refine ⟨A, c, w, ?_, by simpa using hown, by omega, World.grownBy.refl w _⟩
    rcases hown.2 with ⟨h, rfl⟩ | ⟨g, cap, cur, h, _, _, hnc, _⟩
    · injection h with h1 h2 h3
      subst h1; subst h3
      simp [Builtin.append_, run_underlying ht, sizeOf, typeInfo, hi, Builtin.lenOf, Builtin.firstCells]
    · injection h with h1 h2 h3
      subst h1; subst h3
      simp [Builtin.append_, run_underlying ht, sizeOf, typeInfo, hi, Builtin.lenOf, Builtin.firstCells, hnc, storeCells]
  · have hcells : ∀ j u, news[j]? = some u → w.cell? (ad.add j) = some u := by
      intro j u hu
      rcases hr with h | ⟨b, o, h, hc⟩
      · rw [h] at hu; simp at hu
      · injection h with h; subst h
        have := hc j u hu
        simp only [Addr.add]
        by_cases hj0 : j = 0
        · subst hj0; simpa using this
        · simpa [hj0] using this
    obtain ⟨v', w', hrun, h2, h3, _⟩ := run_append_own (P := P) w base t ty e i z size bytes ht hi hz0 hz1 hz2 hzs pos _ n xs hown ad m c2 news hl hcells h1 h63 hbytes hbase
    obtain ⟨A', c', rfl, h4, _⟩ := own_form h2
    exact ⟨A', c', w', hrun, h2, h4, h3⟩
theorem wp_app {P : Program} {t e : TypeId} {z : Value} {size bytes : Nat} {w : World} {o : Oper} {a : Act} {K : Act → World → Prop} {Q : Exit → Act → World → Prop} (E : Elem P t e z size bytes) (s x : Operand)
    (ho : o.op = .call { callee := .builtin .append, args := #[s, x], argTypes := #[t, t] }) (base : Nat) (A : Option Addr) (n c : Nat) (xs : List Value) (hs : a.eval s = .slice A n c)
    (hown : w.ownsRow base e size (.slice A n c) n xs) (A2 : Option Addr) (m c2 : Nat) (news : List Value) (hx : a.eval x = .slice A2 m c2) (hr : Rd w A2 news) (hl : news.length = m * size) (h1 : ∀ u ∈ news, u.oneCell' = true)
    (h63 : n + m ≤ maxLen) (hbytes : (n + m) * bytes ≤ 140737488355328) (hbase : base ≤ w.heap.size)
    (h : ∀ A' c' w', w'.ownsRow base e size (.slice A' (n + m) c') (n + m) (xs ++ news) → n + m ≤ c' → w.grownBy w' (Value.slice A n c).ownBlock → K (a.put o.dst (.slice A' (n + m) c')) w') : o.wp P a w K Q := by
  obtain ⟨A', c', w', hrun, h2, h3, h4⟩ := run_app E w o.type base A n c xs hown A2 m c2 news hr hl h1 h63 hbytes hbase
  unfold Oper.wp execOp
  simp only [ho, resolve, invoke, builtin, Sem.run_bind, Sem.run_pure, Result.andThen_ok, List.map_toArray, List.map_cons, List.map_nil, hs, hx, hrun]
  exact h A' c' w' h2 h3 h4
/-- 'append(own, source...)' in a plain region -/
theorem wpList_app {P : Program} {t e : TypeId} {z : Value} {size bytes : Nat} {w : World} {ops : Array Oper} {rest : List Oper} {o : Oper} {a : Act} {Q : Exit → Act → World → Prop} (hgd : o.guard = none) (s x : Operand)
    (ho : o.op = .call { callee := .builtin .append, args := #[s, x], argTypes := #[t, t] }) (E : Elem P t e z size bytes) (base : Nat) (A : Option Addr) (n c : Nat) (xs : List Value) (hs : a.eval s = .slice A n c)
    (hown : w.ownsRow base e size (.slice A n c) n xs) (A2 : Option Addr) (m c2 : Nat) (news : List Value) (hx : a.eval x = .slice A2 m c2) (hr : Rd w A2 news) (hl : news.length = m * size) (h1 : ∀ u ∈ news, u.oneCell' = true)
    (h63 : n + m ≤ maxLen) (hbytes : (n + m) * bytes ≤ 140737488355328) (hbase : base ≤ w.heap.size)
    (h : ∀ A' c' w', w'.ownsRow base e size (.slice A' (n + m) c') (n + m) (xs ++ news) → n + m ≤ c' → w.grownBy w' (Value.slice A n c).ownBlock → wpList P ops Q rest (a.put o.dst (.slice A' (n + m) c')) w') : wpList P ops Q (o :: rest) a w :=
  wpList_plain hgd fun _ hK => wp_app E s x ho base A n c xs hs hown A2 m c2 news hx hr hl h1 h63 hbytes hbase fun A' c' w' h2 h3 h4 => hK _ _ (h A' c' w' h2 h3 h4)
/-- the same in a region that draws its order (go_region_law) -/
theorem step_app {P : Program} {t e : TypeId} {z : Value} {size bytes : Nat} {w : World} {ops : Array Oper} {o : Oper} {a : Act} {K : Act → World → Prop} {Q : Exit → Act → World → Prop} {F : Prop} (hgd : o.guard = none) (s x : Operand)
    (ho : o.op = .call { callee := .builtin .append, args := #[s, x], argTypes := #[t, t] }) (E : Elem P t e z size bytes) (base : Nat) (A : Option Addr) (n c : Nat) (xs : List Value) (hs : a.eval s = .slice A n c)
    (hown : w.ownsRow base e size (.slice A n c) n xs) (A2 : Option Addr) (m c2 : Nat) (news : List Value) (hx : a.eval x = .slice A2 m c2) (hr : Rd w A2 news) (hl : news.length = m * size) (h1 : ∀ u ∈ news, u.oneCell' = true)
    (h63 : n + m ≤ maxLen) (hbytes : (n + m) * bytes ≤ 140737488355328) (hbase : base ≤ w.heap.size)
    (h : ∀ A' c' w', w'.ownsRow base e size (.slice A' (n + m) c') (n + m) (xs ++ news) → n + m ≤ c' → w.grownBy w' (Value.slice A n c).ownBlock → K (a.put o.dst (.slice A' (n + m) c')) w') :
    if Region.wanted o (yielded ops a.tmps) = true then Oper.wp P o a w K Q else F := by
  have hw : Region.wanted o (yielded ops a.tmps) = true := by simp [Region.wanted, hgd]
  rw [if_pos hw]
  exact wp_app E s x ho base A n c xs hs hown A2 m c2 news hx hr hl h1 h63 hbytes hbase h
/-- 'make([]T, n, m)': a new block of zeros; zs: its cells -/
theorem wpList_mk {P : Program} {t e : TypeId} {z : Value} {size bytes : Nat} {w : World} {ops : Array Oper} {rest : List Oper} {o : Oper} {a : Act} {Q : Exit → Act → World → Prop} (hgd : o.guard = none) (l c : Operand) (hop : o.op = Op.makeSlice t l c)
    (E : Elem P t e z size bytes) (kl kc : IntKind) (n m : Nat) (hl : a.eval l = .int kl (n : Int)) (hc : a.eval c = .int kc (m : Int)) (hnm : n ≤ m) (b2 : bytes * m ≤ 281474976710656) (b3 : m ≤ maxLen)
    (hK : ∀ zs : Array Value, Hid (zs = madeCells z.cells (m * size)) → wpList P ops Q rest (a.put o.dst (.slice (some ⟨w.heap.size, 0, none⟩) n m)) (w.alloc (.cells zs e))) : wpList P ops Q (o :: rest) a w := by
  obtain ⟨ht, info, hzs, _⟩ := E
  obtain ⟨i, hi, hz0, hz1, hz2⟩ := info_parts info
  refine wpList_plain hgd fun K hK' => ?_
  have b3' : (m : Int) ≤ 9223372036854775807 := by simp [maxLen] at b3; omega
  have hb' : (i.bytes : Int) * (m : Int) ≤ 281474976710656 := by
    have h : ((i.bytes * m : Nat) : Int) ≤ 281474976710656 := by rw [hz2]; omega
    rwa [Int.natCast_mul] at h
  have hr := run_make (P := P) w t e i z ht hi hz0 kl kc n m (by omega) (by omega) hb' b3'
  simp only [Int.toNat_natCast] at hr
  unfold Oper.wp
  simp [execOp, hop, hl, hc, hr, Result.andThen]
  exact hK' _ _ (hK _ (by rw [hz1]; exact (rfl : _ = _)))
/-- the same as a rule for the walk: 'obtain ⟨zs, Hz, hmk⟩ := run_mk ..' ahead of the walk -/
theorem run_mk {P : Program} {t e : TypeId} {z : Value} {size bytes : Nat} (E : Elem P t e z size bytes) (kl kc : IntKind) (l c : Int) (n m : Nat) (hl : l = (n : Int)) (hc : c = (m : Int)) (hnm : n ≤ m) (b2 : bytes * m ≤ 281474976710656) (b3 : m ≤ maxLen) :
    ∃ zs : Array Value, Hid (zs = madeCells z.cells (m * size)) ∧ ∀ w : World, (Instr.makeSlice t (.int kl l) (.int kc c)).run P w = .ok (.slice (some ⟨w.heap.size, 0, none⟩) n m) (w.alloc (.cells zs e)) := by
  obtain ⟨ht, info, hzs, _⟩ := E
  obtain ⟨i, hi, hz0, hz1, hz2⟩ := info_parts info
  refine ⟨_, (rfl : _ = _), fun w => ?_⟩
  have b3' : (m : Int) ≤ 9223372036854775807 := by simp [maxLen] at b3; omega
  have hb' : (i.bytes : Int) * (m : Int) ≤ 281474976710656 := by
    have h : ((i.bytes * m : Nat) : Int) ≤ 281474976710656 := by rw [hz2]; omega
    rwa [Int.natCast_mul] at h
  have hr := run_make (P := P) w t e i z ht hi hz0 kl kc n m (by omega) (by omega) hb' b3'
  simp only [Int.toNat_natCast] at hr
  rw [hl, hc, hr, hz1]
theorem made_one {z : Value} {zs : Array Value} {m : Nat} (h : zs = madeCells #[z] (m * 1)) : zs.toList = List.replicate m z := by rw [h, Nat.mul_one, toList_madeCells_one]
/-- 'copy(dst, src)' into a block known whole, one cell an element; new: its cells behind it -/
theorem wpList_cp {P : Program} {w : World} {ops : Array Oper} {rest : List Oper} {o : Oper} {a : Act} {Q : Exit → Act → World → Prop} (hgd : o.guard = none) (d s : Operand) (dT sT : TypeId)
    (ho : o.op = .call { callee := .builtin .copy, args := #[d, s], argTypes := #[dT, sT] }) (elem : TypeId) (hu : P.underlying dT = some (.slice elem)) (hsz : (P.info? elem).map (·.size) = some 1)
    (g off dLen dCap : Nat) (A : Option Addr) (sLen sCap : Nat) (hd : a.eval d = .slice (some ⟨g, off, none⟩) dLen dCap) (hs : a.eval s = .slice A sLen sCap)
    (cur : Array Value) (t : TypeId) (hg : Blk w g t cur) (cs : List Value) (hn : cs.length = Nat.min sLen dLen)
    (hr : Rd w A cs) (hfit : off + cs.length ≤ cur.size) (h1 : ∀ v ∈ cs, v.oneCell' = true)
    (h : ∀ new : Array Value, Hid (new.toList = cur.toList.take off ++ (cs ++ cur.toList.drop (off + cs.length))) → wpList P ops Q rest (a.put o.dst (goInt cs.length)) (w.setRow g new)) : wpList P ops Q (o :: rest) a w := by
  rcases hr with rfl | ⟨b, o', rfl, hc⟩
  · refine wpList_copy_nothing hgd d s dT sT ho elem hu hsz _ A dLen dCap sLen sCap hd hs (by simpa using hn.symm) ?_
    have := h cur (show _ = _ by simp)
    rwa [setRow_self w g cur t (0, 0) hg] at this
  · refine wpList_copy_own hgd d s dT sT ho elem hu hsz g off dLen dCap ⟨b, o', none⟩ sLen sCap hd hs cur t hg cs hn (fun j v hj => ?_) hfit h1 (h _ (show _ = _ by simp))
    have := hc j v hj
    simp only [Addr.add]
    by_cases hj0 : j = 0
    · subst hj0; simpa using this
    · simpa [hj0] using this
theorem quiet_left {P : Program} {f : FuncId} {args : Array Value} {w : World} {n : Nat} {v : Value} (h : Calls P f args (w.drewN n) fun e w' => e = .returned v ∧ w.drewN n = w') :
    Calls P f args (w.drewN n) fun e w' => e = .returned v ∧ ∃ m, w' = w.drewN m :=
  h.mono fun _ _ ⟨he, hm⟩ => ⟨he, n, hm.symm⟩
theorem quiet_add_left {P : Program} {f : FuncId} {args : Array Value} {w : World} {a n : Nat} {v : Value} (h : Calls P f args (w.drewN (a + n)) fun e w' => e = .returned v ∧ w.drewN (a + n) = w') :
    Calls P f args (w.drewN (a + n)) fun e w' => e = .returned v ∧ ∃ m, w' = w.drewN (a + m) :=
  h.mono fun _ _ ⟨he, hm⟩ => ⟨he, n, hm.symm⟩
theorem u8v_ofNat (n s : Nat) : u8v (UInt8.ofNat (n / 2 ^ s)) = .int .u8 ((n : Int) / 2 ^ s % 256) := by
  unfold u8v
  rw [UInt8.toNat_ofNat']
  have e : (n : Int) / 2 ^ s = ((n / 2 ^ s : Nat) : Int) := by simp
  rw [e]; simp
theorem Blk.u8_at {w : World} {g k : Nat} {t : TypeId} {bs : List UInt8} (h : Blk w g t (bs.map u8v).toArray) (hk : k < bs.length) : ∃ c, bs[k]? = some c ∧ w.cell? ⟨g, k, none⟩ = some (.int .u8 (c.toNat : Int)) := by
  refine ⟨bs[k], List.getElem?_eq_getElem hk, h.cell_ k _ ?_⟩
  simp [hk]; rfl
theorem Blk.u8_put {w : World} {g : Nat} {t : TypeId} {bs : List UInt8} (h : Blk w g t (bs.map u8v).toArray) (k : Nat) (c : UInt8) : Blk (w.setCell ⟨g, k, none⟩ (u8v c)) g t ((bs.set k c).map u8v).toArray := by
  have := h.put k (u8v c)
  rwa [List.setIfInBounds_toArray, ← List.map_set] at this
theorem Rd.newMark (w : World) (C : Array Value) (t : TypeId) (fr : Nat × Nat) : Rd (w.alloc (.cells C t fr)) (some ⟨w.heap.size, 0, none⟩) C.toList :=
  .inr ⟨w.heap.size, 0, rfl, fun j u hu => by rw [Nat.zero_add, World.cell?_alloc_mark]; simpa using hu⟩
/-- '[]byte(s)' -/
theorem run_bytes {P : Program} (w : World) (src dst e : TypeId) (s : ByteArray) (hs : P.underlying src = some .string) (hd : P.underlying dst = some (.slice e)) (he : P.underlying e = some (.int .u8)) :
    ∃ c w', (convert src dst (.string s)).run P w = .ok (.slice (some ⟨w.heap.size, 0, none⟩) s.size c) w' ∧ s.size ≤ c ∧ Rd w' (some ⟨w.heap.size, 0, none⟩) (s.data.toList.map u8v) ∧ Below w.heap.size w w' := by
  refine ⟨_, _, run_bytes_of_string w src dst e s hs hd he, grownCap_ge _ _ _ _, ?_, ((Below.refl _ _).drew).alloc (Nat.le_refl _) _⟩
  refine .inr ⟨w.heap.size, 0, rfl, fun j u hu => ?_⟩
  rw [Nat.zero_add]
  have h := World.cell?_alloc_mark w.drew (bytesRow s (grownCap w s.size 0 e)) e ((bytesRow s (grownCap w s.size 0 e)).size, (bytesRow s (grownCap w s.size 0 e)).size + 1) j
  refine Eq.trans h ?_
  have hj : j < s.data.toList.length := by
    rcases Nat.lt_or_ge j s.data.toList.length with h' | h'
    · exact h'
    · rw [List.getElem?_eq_none (by simpa using h')] at hu; cases hu
  simp only [bytesRow]
  rw [Array.getElem?_append_left (by simpa using hj)]
  rw [← hu]
  simp only [Array.getElem?_map, List.getElem?_map, Array.getElem?_toList]
  rfl
/-- a world in which all that was there stands as it stood -/
structure Ext (w0 : World) where
  w : World
  h : Below w0.heap.size w0 w
instance Ext.some_ (w0 : World) : Nonempty (Ext w0) := ⟨⟨w0, Below.refl _ _⟩⟩
/-- A region that draws its order, whose operations read what was there, or call what leaves it: one walk, in the text's order. -/
theorem wp_region_ext {P : Program} {id : Nat} {Q : Exit → Act → World → Prop} {a : Act} {w : World} {l : List Oper} (w0 : World) (hm : P.follows .mixedOrders = true) (hB : Region.lexB .any l.toArray = true) (h0 : Below w0.heap.size w0 w)
    (h : wpQuiet P l.toArray (fun w' => ∃ x : Ext w0, w' = x.w) (fun a' => ∀ w', (∃ x : Ext w0, w' = x.w) → Q .normal a' w') l a) : (Code.region id l.toArray true).wp P Q a w :=
  wp_region_quiet (C := fun w' => ∃ x : Ext w0, w' = x.w) hm hB ⟨⟨w.drew, h0.drew⟩, rfl⟩ (by simpa using h)
theorem Ext.call {P : Program} {f : FuncId} {args : Array Value} {w0 : World} (x : Ext w0) {v : Value} (h : Calls P f args x.w fun e w' => e = .returned v ∧ Below x.w.heap.size x.w w') :
    Calls P f args x.w fun e w' => e = .returned v ∧ ∃ y : Ext w0, w' = y.w :=
  h.mono fun _ w' ⟨he, hb⟩ => ⟨he, ⟨w', x.h.trans (hb.mono x.h.size)⟩, rfl⟩
theorem Ext.same {P : Program} {f : FuncId} {args : Array Value} {w0 : World} (x : Ext w0) {v : Value} (h : Calls P f args x.w fun e w' => e = .returned v ∧ x.w = w') :
    Calls P f args x.w fun e w' => e = .returned v ∧ ∃ y : Ext w0, w' = y.w :=
  h.mono fun _ _ ⟨he, hw⟩ => ⟨he, x, hw.symm⟩
theorem Ext.rd {w0 : World} (x : Ext w0) {A : Option Addr} {xs : List Value} (h : Rd w0 A xs) : Rd x.w A xs := h.on x.h
theorem ret_bool {a b : Bool} (h : a = b) : Ending.returned (.bool a) = .returned (.bool b) := by rw [h]
theorem ret_u64 {k : IntKind} {a b : Int} (h : a = b) : Value.int k a = .int k b := by rw [h]
theorem ret_int {k : IntKind} {a b : Int} (h : a = b) : Ending.returned (.int k a) = .returned (.int k b) := by rw [h]
end Go.Proofs.Ytobiepjnnglglaa
