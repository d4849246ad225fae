/-
  A region that draws its order, reads, calls, and makes variables of its own, each with its first value: every order comes to one end. Each variable is made and written once in the region; all other operations only add to the world. No condition.
-/
import Derived.Test.YtobiepjnnglglaaRely
namespace Go.Proofs.Ytobiepjnnglglaa
open Go.RowKit

/-- what an operation is: with a promise; a variable that is made (its type, its cells' number, what it holds in the end); a variable's first store (its slot) -/
inductive Kd where
  | ord (S : Pr)
  | al (T : TypeId) (n : Nat) (new : Array Value)
  | st (s : Tmp)
/-- what lay there before stands, and what is made anew, of other types than the variables', stands too -/
def GV (w0 : World) (VT : List TypeId) (w w' : World) : Prop :=
  Below w0.heap.size w w' ∧ ∀ (b : Nat) (o : Obj), w.heap[b]? = some o → (∀ (cs : Array Value) (t : TypeId) (fr : Nat × Nat), o = Obj.cells cs t fr → t ∉ VT) → w'.heap[b]? = some o
theorem GV.blk {w0 w w' : World} {VT : List TypeId} (h : GV w0 VT w w') {g : Nat} {t : TypeId} {cs : Array Value} (hb : Blk w g t cs) (ht : t ∉ VT) : Blk w' g t cs :=
  h.2 g _ hb (fun cs' t' fr e => by cases e; exact ht)
theorem GV.of_below {w0 w w' : World} {VT : List TypeId} (h0 : Below w0.heap.size w0 w) (h : Below w.heap.size w w') : GV w0 VT w w' :=
  ⟨h.mono h0.size, fun b o hb _ => (h.block b (Array.getElem?_eq_some_iff.1 hb).1).trans hb⟩
/-- one block alone has turned -/
structure Only (g : Nat) (w w' : World) : Prop where
  below : Below g w w'
  size : w'.heap.size = w.heap.size
  block : ∀ b, b ≠ g → w'.heap[b]? = w.heap[b]?
theorem Only.row (w : World) (g : Nat) (cs : Array Value) : Only g w (w.setRow g cs) :=
  ⟨below_setRow (Below.refl _ _) (Nat.le_refl _) _, by simp, fun b hb => setRow_other w g b cs hb⟩
theorem Only.cell (w : World) (g i : Nat) (v : Value) : Only g w (w.setCell ⟨g, i, none⟩ v) :=
  ⟨by refine (Below.refl g w).setCell ?_ v; exact Nat.le_refl _, by simp, fun b hb => Below.heap_setCell w ⟨g, i, none⟩ v b hb⟩
theorem Only.trans {g : Nat} {a b c : World} (h1 : Only g a b) (h2 : Only g b c) : Only g a c :=
  ⟨h1.below.trans h2.below, h2.size.trans h1.size, fun k hk => (h2.block k hk).trans (h1.block k hk)⟩

/-- a variable has been made -/
def NewVar (w : World) (T : TypeId) (n : Nat) (v : Value) (w' : World) : Prop := v = .pointer (some ⟨w.heap.size, 0, none⟩) ∧ ∃ zs : Array Value, zs.size = n ∧ w' = w.alloc (.cells zs T)
/-- a variable has been written -/
def Stored (g : Nat) (T : TypeId) (new : Array Value) (w w' : World) : Prop := Only g w w' ∧ Blk w' g T new
def depP (w0 : World) : Kd → Pr
  | .ord S => S
  | .al _ _ _ => fun v _ => ∃ g, v = .pointer (some ⟨g, 0, none⟩) ∧ w0.heap.size ≤ g
  | .st _ => fun _ _ => True
def depG (w0 : World) (s : Tmp) (g : Nat) : Option Tmp × Kd → Pr
  | (d, .al T n new) => if d = some s then fun v _ => v = .pointer (some ⟨g, 0, none⟩) else depP w0 (.al T n new)
  | (_, k) => depP w0 k
def finP (w0 : World) : Kd → Pr
  | .al T _ new => fun v w => ∃ g, v = .pointer (some ⟨g, 0, none⟩) ∧ w0.heap.size ≤ g ∧ Blk w g T new
  | k => depP w0 k
def storedB (done : List (Option Tmp × Kd)) : Bool := done.all fun p => match p with
  | (some s, .al _ _ _) => done.any fun q => match q.2 with | .st s' => s' == s | _ => false
  | _ => true
def okStep (P : Program) (ops : Array Oper) (w0 : World) (VT : List TypeId) (a : Act) (done : List (Option Tmp × Kd)) (o : Oper) : Kd → Prop
  | .ord S => (∀ v w w', S v w → GV w0 VT w w' → S v w') ∧
      ∀ x : Ext w0, withD x.w ((done.map fun p => (p.1, depP w0 p.2)).filter (lookT (o.looksAt ops))) a (fun b => rOne P ops o b x.w (fun v w' => Below x.w.heap.size x.w w' ∧ S v w'))
  | .al T n new => T ∈ VT ∧ (∃ s, o.dst = some s) ∧
      ∀ x : Ext w0, withD x.w ((done.map fun p => (p.1, depP w0 p.2)).filter (lookT (o.looksAt ops))) a (fun b => rOne P ops o b x.w (fun v w' => NewVar x.w T n v w'))
  | .st s => ∃ T n new, (some s, Kd.al T n new) ∈ done ∧ o.dst = none ∧ s ∈ o.looksAt ops ∧ new.size = n ∧
      ∀ (x : Ext w0) (g : Nat) (cs : Array Value), w0.heap.size ≤ g → Blk x.w g T cs → cs.size = n →
        withD x.w ((done.map fun p => (p.1, depG w0 s g p)).filter (lookT (o.looksAt ops))) a (fun b => rOne P ops o b x.w (fun _ w' => Stored g T new x.w w'))
def wpVar (P : Program) (ops : Array Oper) (w0 : World) (VT : List TypeId) (a : Act) (Q : Act → World → Prop) : List (Option Tmp × Kd) → List Oper → Prop
  | done, [] => storedB done = true ∧ ∀ x : Ext w0, withD x.w (done.map fun p => (p.1, finP w0 p.2)) a (fun b => Q b x.w)
  | done, o :: rest => ∃ k, okStep P ops w0 VT a done o k ∧ wpVar P ops w0 VT a Q (done ++ [(o.dst, k)]) rest

section
variable {P : Program} {ops : Array Oper} {w0 : World} {VT : List TypeId} {a : Act} {Q : Act → World → Prop}

def slotK (p : Oper × Kd) : Option Tmp × Kd := (p.1.dst, p.2)
theorem wpVar_full : ∀ (rest : List Oper) (done : List (Oper × Kd)), wpVar P ops w0 VT a Q (done.map slotK) rest →
    ∃ full : List (Oper × Kd), full.map (·.1) = done.map (·.1) ++ rest ∧ full.take done.length = done ∧
      (∀ k p, done.length ≤ k → full[k]? = some p → okStep P ops w0 VT a ((full.take k).map slotK) p.1 p.2) ∧
      storedB (full.map slotK) = true ∧ ∀ x : Ext w0, withD x.w ((full.map slotK).map fun p => (p.1, finP w0 p.2)) a (fun b => Q b x.w)
  | [], done, h => ⟨done, by simp, List.take_length, (fun k p hk hp => by rw [List.getElem?_eq_none hk] at hp; cases hp), h.1, h.2⟩
  | o :: rest, done, h => by
    obtain ⟨k0, hk0, hrest⟩ := h
    obtain ⟨full, h1, h2, h3, h4⟩ := wpVar_full rest (done ++ [(o, k0)]) (by rw [List.map_append]; exact hrest)
    have hlen : (done ++ [(o, k0)]).length = done.length + 1 := by simp
    have htk : full.take done.length = done := by
      have := congrArg (List.take done.length) h2
      rw [List.take_take, hlen, Nat.min_eq_left (by omega)] at this
      rw [this, List.take_left' rfl]
    have hget : full[done.length]? = some (o, k0) := by
      have := congrArg (·[done.length]?) h2
      rw [hlen] at this
      simpa [List.getElem?_take] using this
    refine ⟨full, by simpa using h1, htk, fun k p hk hp => ?_, h4⟩
    by_cases hkk : k = done.length
    · subst hkk
      rw [hget] at hp
      injection hp with hp
      subst hp
      rw [htk]
      exact hk0
    · exact h3 k p (by omega) hp

structure VInv (ops : Array Oper) (w0 : World) (a : Act) (full : List (Oper × Kd)) (listed : Array Bool) (a' : Act) (w : World) : Prop where
  size : listed.size = ops.size
  def_ : a'.defers = a.defers
  tmps : a'.tmps.size = a.tmps.size
  ext : Below w0.heap.size w0 w
  closed : ∀ j o, ops[j]? = some o → listed.getD j false = true → ∀ e ∈ o.after, Region.binds .any e = true → listed.getD e.on false = true
  kept : ∀ j p, full[j]? = some p → listed.getD j false = true → depP w0 p.2 (opGot p.1 a') w
  own : ∀ j o T n new, full[j]? = some (o, Kd.al T n new) → listed.getD j false = true → ∃ g cs, opGot o a' = .pointer (some ⟨g, 0, none⟩) ∧ w0.heap.size ≤ g ∧ Blk w g T cs ∧ cs.size = n ∧
    ∀ j' o' s, full[j']? = some (o', Kd.st s) → o.dst = some s → listed.getD j' false = true → cs = new
  inj : ∀ i j oi oj T n new T' n' new', full[i]? = some (oi, Kd.al T n new) → full[j]? = some (oj, Kd.al T' n' new') → listed.getD i false = true → listed.getD j false = true → opGot oi a' = opGot oj a' → i = j
  rest : ∀ s, (∀ j o, ops[j]? = some o → listed.getD j false = true → o.dst ≠ some s) → a'.tmps[s]? = a.tmps[s]?

theorem filter_slot (f : Option Tmp × Kd → Pr) (o : Oper) : ∀ l : List (Oper × Kd), ((l.map slotK).map fun p => (p.1, f p)).filter (lookT (o.looksAt ops)) = ((l.map fun p => (p.1, f (slotK p))).filter (looksOn ops o)).map slotOf
  | [] => rfl
  | p :: l => by
    have ih := filter_slot f o l
    have hp : lookT (o.looksAt ops) (p.1.dst, f (slotK p)) = looksOn ops o (p.1, f (slotK p)) := rfl
    simp only [List.map_cons, List.filter_cons]
    show (if lookT (o.looksAt ops) (p.1.dst, f (slotK p)) then _ else _) = _
    rw [hp, ih]
    split <;> rfl
theorem map_slot (f : Option Tmp × Kd → Pr) : ∀ l : List (Oper × Kd), ((l.map slotK).map fun p => (p.1, f p)) = (l.map fun p => (p.1, f (slotK p))).map slotOf
  | [] => rfl
  | p :: l => by
    have ih := map_slot f l
    simp only [List.map_cons]
    rw [ih]; rfl

theorem var_any (hB : relyB ops = true) (Q' : Exit → Act → World → Prop) (hQ : ∀ b w, Q b w → Q' .normal b w) (full : List (Oper × Kd)) (hf : full.map (·.1) = ops.toList)
    (hone : ∀ k p, full[k]? = some p → okStep P ops w0 VT a ((full.take k).map slotK) p.1 p.2)
    (hst : storedB (full.map slotK) = true) (hend : ∀ x : Ext w0, withD x.w ((full.map slotK).map fun p => (p.1, finP w0 p.2)) a (fun b => Q b x.w)) :
    ∀ (fuel : Nat) (listed : Array Bool) (a' : Act) (w : World), (List.range ops.size).countP (fun i => !listed.getD i true) ≤ fuel →
      VInv ops w0 a full listed a' w → wpAny P .any ops Q' fuel listed a' w := by
  obtain ⟨hsel, hback, hdep, hdst⟩ := relyB_spec hB
  have hfull : ∀ {j : Nat} {o : Oper}, ops[j]? = some o → ∃ p, full[j]? = some p ∧ p.1 = o := by
    intro j o hj
    have h1 : (full.map (·.1))[j]? = some o := by rw [hf, Array.getElem?_toList, hj]
    rw [List.getElem?_map] at h1
    cases hp : full[j]? with
    | none => rw [hp] at h1; cases h1
    | some p => rw [hp] at h1; exact ⟨p, rfl, by simpa using h1⟩
  have hops : ∀ {j : Nat} {p : Oper × Kd}, full[j]? = some p → ops[j]? = some p.1 := by
    intro j p hp
    have h1 : (full.map (·.1))[j]? = some p.1 := by rw [List.getElem?_map, hp]; rfl
    rw [hf, Array.getElem?_toList] at h1
    exact h1
  have fin : ∀ (listed : Array Bool) (a' : Act) (w : World), VInv ops w0 a full listed a' w → (∀ i, i < ops.size → listed.getD i true = true) → Q a' w := by
    intro listed a' w I hall
    have hall' : ∀ i, i < ops.size → listed.getD i false = true := fun i hi => by
      have := hall i hi
      have hlt : i < listed.size := by rw [I.size]; exact hi
      simpa [hlt] using this
    have hin : ∀ {j : Nat} {p : Oper × Kd}, full[j]? = some p → listed.getD j false = true := fun hj => hall' _ (Array.getElem?_eq_some_iff.1 (hops hj)).1
    have h0 := hend ⟨w, I.ext⟩
    rw [map_slot (fun p => finP w0 p.2)] at h0
    have h1 := withDeps_use a' (full.map fun p => (p.1, finP w0 (slotK p).2)) a (fun q hq => by
      obtain ⟨p, hp, rfl⟩ := List.mem_map.1 hq
      obtain ⟨j, hj⟩ := List.getElem?_of_mem hp
      obtain ⟨o, k⟩ := p
      cases k with
      | ord S => exact I.kept j _ hj (hin hj)
      | st s => exact I.kept j _ hj (hin hj)
      | al T n new =>
        obtain ⟨g, cs, e1, e2, e3, _, e5⟩ := I.own j o T n new hj (hin hj)
        have hs : ∃ s, o.dst = some s := (hone j _ hj).2.1
        obtain ⟨s, hs⟩ := hs
        have hex : ∃ (j' : Nat) (o' : Oper), full[j']? = some (o', Kd.st s) := by
          unfold storedB at hst
          rw [List.all_eq_true] at hst
          have := hst (slotK (o, Kd.al T n new)) (List.mem_map.2 ⟨_, hp, rfl⟩)
          simp only [slotK, hs] at this
          obtain ⟨q, hq1, hq2⟩ := List.any_eq_true.1 this
          obtain ⟨q', hq', rfl⟩ := List.mem_map.1 hq1
          obtain ⟨j', hj'⟩ := List.getElem?_of_mem hq'
          obtain ⟨o', k'⟩ := q'
          simp only [slotK] at hq2
          cases k' with
          | st s' => simp at hq2; subst hq2; exact ⟨j', o', hj'⟩
          | ord S => simp at hq2
          | al T n new => simp at hq2
        obtain ⟨j', o', hj'⟩ := hex
        obtain rfl := e5 j' o' s hj' hs (hin hj')
        exact ⟨g, e1, e2, e3⟩) (withD_map w _ _ a h0)
    obtain ⟨s1, s2, s3⟩ := putAll_spec a' (full.map fun p => (p.1, finP w0 (slotK p).2)) a I.tmps.symm
    have he : putAll a' (full.map fun p => (p.1, finP w0 (slotK p).2)) a = a' := by
      have ht : (putAll a' (full.map fun p => (p.1, finP w0 (slotK p).2)) a).tmps = a'.tmps := by
        apply Array.ext_getElem?
        intro s
        refine s3 s ?_
        by_cases hw : ∃ p ∈ (full.map fun p => (p.1, finP w0 (slotK p).2)), p.1.dst = some s
        · exact .inl hw
        · refine .inr (I.rest s fun j o hj _ hd => ?_).symm
          obtain ⟨p, hp, rfl⟩ := hfull hj
          exact hw ⟨_, List.mem_map.2 ⟨p, List.mem_of_getElem? hp, rfl⟩, hd⟩
      have hd : (putAll a' (full.map fun p => (p.1, finP w0 (slotK p).2)) a).defers = a'.defers := s2.trans I.def_.symm
      cases hx : putAll a' (full.map fun p => (p.1, finP w0 (slotK p).2)) a
      cases a'
      rw [hx] at ht hd
      simp only at ht hd
      rw [ht, hd]
    rwa [he] at h1
  have stuck : ∀ (listed : Array Bool) (a' : Act) (w : World), VInv ops w0 a full listed a' w → Region.ready .any ops listed = [] → ∀ i, i < ops.size → listed.getD i true = true := by
    intro listed a' w I hr i
    induction i using Nat.strongRecOn with
    | _ i ih =>
      intro hi
      rcases Bool.eq_false_or_eq_true (listed.getD i true) with h | h
      · exact h
      · exfalso
        have : i ∈ Region.ready .any ops listed := mem_ready.2 ⟨h, ops[i], Array.getElem?_eq_getElem hi, fun e he hb => by
          have h1 := hback i _ (Array.getElem?_eq_getElem hi) e he hb
          have h2 := ih e.on h1 (by omega)
          have hlt : e.on < listed.size := by rw [I.size]; omega
          simpa [hlt] using h2⟩
        rw [hr] at this
        cases this
  intro fuel
  induction fuel with
  | zero =>
    intro listed a' w hc I
    have hall : ∀ i, i < ops.size → listed.getD i true = true := fun i hi => by
      rcases Bool.eq_false_or_eq_true (listed.getD i true) with h | h
      · exact h
      · have : 0 < (List.range ops.size).countP (fun i => !listed.getD i true) := List.countP_pos_iff.2 ⟨i, List.mem_range.2 hi, by simp only [h]; rfl⟩
        omega
    refine ⟨?_, hQ _ _ (fin listed a' w I hall)⟩
    rw [List.eq_nil_iff_forall_not_mem]
    intro i hi
    obtain ⟨h1, o, ho, _⟩ := mem_ready.1 hi
    rw [hall i (Array.getElem?_eq_some_iff.1 ho).1] at h1
    cases h1
  | succ fuel ih =>
    intro listed a' w hc I
    refine ⟨fun hr => hQ _ _ (fin listed a' w I (stuck listed a' w I hr)), fun i hi => ?_⟩
    obtain ⟨h0, o, ho, hall⟩ := mem_ready.1 hi
    obtain ⟨p, hp, rfl⟩ := hfull ho
    have hil : i < ops.size := (Array.getElem?_eq_some_iff.1 ho).1
    have hils : i < listed.size := by rw [I.size]; exact hil
    have hni : listed.getD i false = false := by simp [hils] at h0 ⊢; exact h0
    -- the counter goes down
    have hless : (List.range ops.size).countP (fun j => !(listed.setIfInBounds i true).getD j true) ≤ fuel := by
      have hless := countP_less (p := fun i => !listed.getD i true) (q := fun j => !(listed.setIfInBounds i true).getD j true) (x := i) (List.range ops.size) (fun y hy => by
          by_cases hiy : i = y
          · subst hiy; simp [hils] at hy
          · simp only [getD_set_ne true hiy] at hy; exact hy) (List.mem_range.2 hil) (by simp only [h0]; rfl) (by simp [hils])
      omega
    -- another operation's slot stands
    have hgot : ∀ {j : Nat} {q : Oper × Kd} (v : Value), full[j]? = some q → i ≠ j → opGot q.1 (a'.put p.1.dst v) = opGot q.1 a' := by
      intro j q v hq hij
      unfold opGot
      cases hd : q.1.dst with
      | none => rfl
      | some d =>
        have := hdst i p.1 j q.1 d ho (hops hq) hij hd
        cases hd2 : p.1.dst with
        | none => rfl
        | some d2 =>
          have hne : d2 ≠ d := fun h => this (by rw [hd2, h])
          simp [Act.put, Array.getElem?_setIfInBounds_ne hne]
    have hclosed : ∀ j o, ops[j]? = some o → (listed.setIfInBounds i true).getD j false = true → ∀ e ∈ o.after, Region.binds .any e = true → (listed.setIfInBounds i true).getD e.on false = true := by
      intro j oj hj hl e he hb
      by_cases hij : i = j
      · subst hij
        have : oj = p.1 := Option.some.inj (hj.symm.trans ho)
        subst this
        exact getD_set_true (hall e he hb)
      · rw [getD_set_ne false hij] at hl
        exact getD_set_true (I.closed j oj hj hl e he hb)
    have hrest : ∀ (v : Value) s, (∀ j o, ops[j]? = some o → (listed.setIfInBounds i true).getD j false = true → o.dst ≠ some s) → (a'.put p.1.dst v).tmps[s]? = a.tmps[s]? := by
      intro v s hs
      have h2 := I.rest s fun j o hj hl => hs j o hj (getD_set_true hl)
      rw [← h2]
      cases hd2 : p.1.dst with
      | none => rfl
      | some d2 =>
        have hne : d2 ≠ s := fun h => hs i p.1 ho (by simp [hils]) (by rw [hd2, h])
        simp [Act.put, Array.getElem?_setIfInBounds_ne hne]
    -- the operation is met by what is promised of the slots it looks at
    have meet : ∀ (f : Option Tmp × Kd → Pr) (Post : Pr), (∀ j q, full[j]? = some q → listed.getD j false = true → f (slotK q) (opGot q.1 a') w) →
        withD w ((((full.take i).map slotK).map fun p => (p.1, f p)).filter (lookT (p.1.looksAt ops))) a (fun b => rOne P ops p.1 b w Post) →
        (∀ v w', Post (opGot p.1 (a'.put p.1.dst v)) w' → wpAny P .any ops Q' fuel (listed.setIfInBounds i true) (a'.put p.1.dst v) w') →
        wpOp P ops Q' i (fun b w => wpAny P .any ops Q' fuel (listed.setIfInBounds i true) b w) a' w := by
      intro f Post hkept hw hK
      rw [filter_slot f] at hw
      have h1 := withDeps_use a' (((full.take i).map fun p => (p.1, f (slotK p))).filter (looksOn ops p.1)) a (fun q hq => by
        obtain ⟨hq1, hq2⟩ := List.mem_filter.1 hq
        obtain ⟨r, hr1, rfl⟩ := List.mem_map.1 hq1
        obtain ⟨j, hj⟩ := List.getElem?_of_mem hr1
        rw [List.getElem?_take] at hj
        split at hj
        · refine hkept j r hj ?_
          have hqo := hops hj
          cases hd : r.1.dst with
          | none => simp [looksOn, hd] at hq2
          | some d =>
            simp [looksOn, hd] at hq2
            obtain ⟨_, e, he, hb, rfl⟩ := hdep i p.1 j r.1 d ho hqo hd hq2
            exact hall e he hb
        · cases hj) (withD_map w _ _ a hw)
      obtain ⟨s1, s2, s3⟩ := putAll_spec a' (((full.take i).map fun p => (p.1, f (slotK p))).filter (looksOn ops p.1)) a I.tmps.symm
      have same : ∀ s, s ∈ p.1.looksAt ops → (putAll a' (((full.take i).map fun p => (p.1, f (slotK p))).filter (looksOn ops p.1)) a).tmps[s]? = a'.tmps[s]? := by
        intro s hs
        refine s3 s ?_
        by_cases hwr : ∃ (j : Nat) (oj : Oper), ops[j]? = some oj ∧ oj.dst = some s
        · obtain ⟨j, oj, hj, hd⟩ := hwr
          obtain ⟨hji, _⟩ := hdep i p.1 j oj s ho hj hd hs
          obtain ⟨q, hq, rfl⟩ := hfull hj
          refine .inl ⟨(q.1, f (slotK q)), List.mem_filter.2 ⟨List.mem_map.2 ⟨q, List.mem_of_getElem? (i := j) (by rw [List.getElem?_take, if_pos hji]; exact hq), rfl⟩, ?_⟩, hd⟩
          simp [looksOn, hd, hs]
        · exact .inr (I.rest s fun j oj hj _ hd => hwr ⟨j, oj, hj, hd⟩).symm
      refine rOne_op ho s1 ?_ ?_ hK h1
      · refine execOp_congr p.1 (fun cs b => hsel i p.1 cs b ho) fun x hx => ?_
        cases x with
        | tmp t =>
          have := same t (List.mem_append_left _ (List.mem_filterMap.2 ⟨.tmp t, by simpa using hx, rfl⟩))
          simp only [Act.eval, Array.getD_eq_getD_getElem?, this]
        | _ => rfl
      · unfold Region.wanted
        cases hg : p.1.guard with
        | none => rfl
        | some gw =>
          obtain ⟨g, want⟩ := gw
          have hy : yielded ops a'.tmps g = yielded ops (putAll a' (((full.take i).map fun p => (p.1, f (slotK p))).filter (looksOn ops p.1)) a).tmps g := by
            unfold yielded
            cases ht : (ops[g]?).bind (·.dst) with
            | none => rfl
            | some t =>
              have := same t (by simp [Oper.looksAt, hg, ht])
              simp only [Option.bind_some, this]
          simp only [hy]
    obtain ⟨o, k⟩ := p
    simp only at *
    have hok := hone i _ hp
    -- what is kept by all but the store
    have keepB : ∀ (v : Value) (w' : World), Below w.heap.size w w' → ∀ j (q : Oper × Kd), full[j]? = some q → i ≠ j → listed.getD j false = true → depP w0 q.2 (opGot q.1 (a'.put o.dst v)) w' := by
      intro v w' hb j q hq hij hl
      rw [hgot v hq hij]
      have h2 := I.kept j q hq hl
      obtain ⟨oq, kq⟩ := q
      cases kq with
      | ord S => exact (hone j _ hq).1 _ _ _ h2 (GV.of_below I.ext hb)
      | al T n new => exact h2
      | st s => exact trivial
    have ownB : ∀ (v : Value) (w' : World), Below w.heap.size w w' → (∀ s, k ≠ .st s) → ∀ j oj T n new, full[j]? = some (oj, Kd.al T n new) → i ≠ j → listed.getD j false = true →
        ∃ g cs, opGot oj (a'.put o.dst v) = .pointer (some ⟨g, 0, none⟩) ∧ w0.heap.size ≤ g ∧ Blk w' g T cs ∧ cs.size = n ∧
          ∀ j' o' s, full[j']? = some (o', Kd.st s) → oj.dst = some s → (listed.setIfInBounds i true).getD j' false = true → cs = new := by
      intro v w' hb hk j oj T n new hq hij hl
      obtain ⟨g, cs, e1, e2, e3, e4, e5⟩ := I.own j oj T n new hq hl
      refine ⟨g, cs, by rw [hgot v hq hij]; exact e1, e2, e3.below hb e3.lt, e4, fun j' o' s hj' hs hl' => ?_⟩
      by_cases hij' : i = j'
      · subst hij'
        rw [hp] at hj'
        injection hj' with hj'
        injection hj' with _ hj'
        exact absurd hj' (hk s)
      · rw [getD_set_ne false hij'] at hl'
        exact e5 j' o' s hj' hs hl'
    cases k with
    | ord S =>
      obtain ⟨hstab, hw⟩ := hok
      refine meet (fun p => depP w0 p.2) _ (fun j q hq hl => I.kept j q hq hl) (hw ⟨w, I.ext⟩) ?_
      rintro v w' ⟨hb, hS⟩
      refine ih _ _ _ hless ⟨by rw [Array.size_setIfInBounds]; exact I.size, by rw [putDefers]; exact I.def_, by rw [putSize]; exact I.tmps, I.ext.trans (hb.mono I.ext.size), hclosed, ?_, ?_, ?_, hrest v⟩
      · intro j q hq hl
        by_cases hij : i = j
        · subst hij
          rw [hp] at hq
          injection hq with hq
          subst hq
          exact hS
        · rw [getD_set_ne false hij] at hl
          exact keepB v w' hb j q hq hij hl
      · intro j oj T n new hq hl
        by_cases hij : i = j
        · subst hij
          rw [hp] at hq
          injection hq with hq
          injection hq with _ hq
          cases hq
        · rw [getD_set_ne false hij] at hl
          exact ownB v w' hb (fun s h => by cases h) j oj T n new hq hij hl
      · intro j1 j2 o1 o2 T n new T' n' new' h1 h2 l1 l2 he
        have n1 : i ≠ j1 := fun h => by subst h; rw [hp] at h1; injection h1 with h1; injection h1 with _ h1; cases h1
        have n2 : i ≠ j2 := fun h => by subst h; rw [hp] at h2; injection h2 with h2; injection h2 with _ h2; cases h2
        rw [getD_set_ne false n1] at l1
        rw [getD_set_ne false n2] at l2
        rw [hgot v h1 n1, hgot v h2 n2] at he
        exact I.inj j1 j2 o1 o2 T n new T' n' new' h1 h2 l1 l2 he
    | al T n new =>
      obtain ⟨hT, ⟨s, hs⟩, hw⟩ := hok
      refine meet (fun p => depP w0 p.2) _ (fun j q hq hl => I.kept j q hq hl) (hw ⟨w, I.ext⟩) ?_
      rintro v w' ⟨hv, zs, hz, rfl⟩
      have hb : Below w.heap.size w (w.alloc (.cells zs T)) := (Below.refl _ _).alloc (Nat.le_refl _) _
      refine ih _ _ _ hless ⟨by rw [Array.size_setIfInBounds]; exact I.size, by rw [putDefers]; exact I.def_, by rw [putSize]; exact I.tmps, I.ext.trans (hb.mono I.ext.size), hclosed, ?_, ?_, ?_, hrest v⟩
      · intro j q hq hl
        by_cases hij : i = j
        · subst hij
          rw [hp] at hq
          injection hq with hq
          subst hq
          exact ⟨w.heap.size, hv, I.ext.size⟩
        · rw [getD_set_ne false hij] at hl
          exact keepB v _ hb j q hq hij hl
      · intro j oj T' n' new' hq hl
        by_cases hij : i = j
        · subst hij
          rw [hp] at hq
          injection hq with hq
          injection hq with hq1 hq2
          subst hq1
          cases hq2
          refine ⟨w.heap.size, zs, hv, I.ext.size, Blk.new w _ _, hz, fun j' o' s' hj' hs' hl' => ?_⟩
          exfalso
          obtain ⟨_, _, _, _, _, hlk, _⟩ := hone j' _ hj'
          obtain ⟨hlt, e, he, heb, rfl⟩ := hdep j' o' i o s' (hops hj') ho hs' hlk
          have hne : e.on ≠ j' := Nat.ne_of_lt hlt
          rw [getD_set_ne false hne] at hl'
          have := I.closed j' o' (hops hj') hl' e he heb
          rw [hni] at this
          cases this
        · rw [getD_set_ne false hij] at hl
          exact ownB v _ hb (fun s h => by cases h) j oj T' n' new' hq hij hl
      · intro j1 j2 o1 o2 T1 n1 new1 T2 n2 new2 h1 h2 l1 l2 he
        have fresh : ∀ j oj T3 n3 new3, full[j]? = some (oj, Kd.al T3 n3 new3) → i ≠ j → listed.getD j false = true → opGot o (a'.put o.dst v) ≠ opGot oj (a'.put o.dst v) := by
          intro j oj T3 n3 new3 hj hij hl hc
          obtain ⟨g, cs, e1, _, e3, _⟩ := I.own j oj T3 n3 new3 hj hl
          rw [hgot v hj hij, e1, hv] at hc
          injection hc with hc; injection hc with hc; injection hc with hc
          have := e3.lt
          simp only at hc
          omega
        by_cases m1 : i = j1
        · by_cases m2 : i = j2
          · rw [← m1, ← m2]
          · exfalso
            subst m1
            rw [hp] at h1; injection h1 with h1; injection h1 with h1 _; subst h1
            rw [getD_set_ne false m2] at l2
            exact fresh j2 o2 _ _ _ h2 m2 l2 he
        · by_cases m2 : i = j2
          · exfalso
            subst m2
            rw [hp] at h2; injection h2 with h2; injection h2 with h2 _; subst h2
            rw [getD_set_ne false m1] at l1
            exact fresh j1 o1 _ _ _ h1 m1 l1 he.symm
          · rw [getD_set_ne false m1] at l1
            rw [getD_set_ne false m2] at l2
            rw [hgot v h1 m1, hgot v h2 m2] at he
            exact I.inj j1 j2 o1 o2 _ _ _ _ _ _ h1 h2 l1 l2 he
    | st s =>
      obtain ⟨T, n, new, hmem, hd0, hlk, hsz, hw⟩ := hok
      obtain ⟨q0, hq0, hs0⟩ := List.mem_map.1 hmem
      obtain ⟨oa, ka⟩ := q0
      simp only [slotK, Prod.mk.injEq] at hs0
      obtain ⟨hda, rfl⟩ := hs0
      obtain ⟨ja, hja⟩ := List.getElem?_of_mem hq0
      rw [List.getElem?_take] at hja
      split at hja
      case isFalse => cases hja
      obtain ⟨_, e, he, heb, hon⟩ := hdep i o ja oa s ho (hops hja) hda hlk
      have hla : listed.getD ja false = true := by rw [← hon]; exact hall e he heb
      have hija : i ≠ ja := fun h => by rw [h, hla] at hni; cases hni
      obtain ⟨g, cs, e1, e2, e3, e4, e5⟩ := I.own ja oa T n new hja hla
      refine meet (fun p => depG w0 s g p) _ (fun j q hq hl => ?_) (hw ⟨w, I.ext⟩ g cs e2 e3 e4) ?_
      · have h2 := I.kept j q hq hl
        obtain ⟨oq, kq⟩ := q
        cases kq with
        | ord S => exact h2
        | st s => exact h2
        | al T' n' new' =>
          show (if oq.dst = some s then _ else _ : Pr) _ _
          split
          · rename_i hqs
            have : ja = j := by
              rcases Nat.decEq ja j with hne | heq
              · exact absurd hda (hdst j oq ja oa s (hops hq) (hops hja) (fun h => hne h.symm) hda |> fun h => absurd hqs h)
              · exact heq
            subst this
            rw [hja] at hq
            injection hq with hq
            injection hq with hq _
            subst hq
            exact e1
          · exact h2
      · rintro v w' ⟨hO, hB'⟩
        have hput : a'.put o.dst v = a' := by rw [hd0]; rfl
        have hgv : GV w0 VT w w' := by
          refine ⟨hO.below.mono e2, fun b ob hb hn => ?_⟩
          by_cases hbg : b = g
          · subst hbg
            exact absurd (hone ja _ hja).1 (hn cs T (0, 0) (Option.some.inj (hb.symm.trans e3)))
          · rw [hO.block b hbg]; exact hb
        refine ih _ _ _ hless ⟨by rw [Array.size_setIfInBounds]; exact I.size, by rw [putDefers]; exact I.def_, by rw [putSize]; exact I.tmps, I.ext.trans (hO.below.mono e2), hclosed, ?_, ?_, ?_, hrest v⟩
        · intro j q hq hl
          by_cases hij : i = j
          · subst hij
            rw [hp] at hq
            injection hq with hq
            subst hq
            exact trivial
          · rw [getD_set_ne false hij] at hl
            rw [hgot v hq hij]
            have h2 := I.kept j q hq hl
            obtain ⟨oq, kq⟩ := q
            cases kq with
            | ord S => exact (hone j _ hq).1 _ _ _ h2 hgv
            | al T n new => exact h2
            | st s => exact trivial
        · intro j oj T' n' new' hq hl
          have hij : i ≠ j := fun h => by subst h; rw [hp] at hq; injection hq with hq; injection hq with _ hq; cases hq
          rw [getD_set_ne false hij] at hl
          by_cases hjj : ja = j
          · subst hjj
            rw [hja] at hq
            injection hq with hq
            injection hq with hq1 hq2
            subst hq1
            cases hq2
            exact ⟨g, new, by rw [hgot v hja hij]; exact e1, e2, hB', hsz, fun _ _ _ _ _ _ => rfl⟩
          · obtain ⟨g', cs', d1, d2, d3, d4, d5⟩ := I.own j oj T' n' new' hq hl
            have hgg : g' ≠ g := fun h => hjj (I.inj ja j oa oj _ _ _ _ _ _ hja hq hla hl (by rw [e1, d1, h]))
            refine ⟨g', cs', by rw [hgot v hq hij]; exact d1, d2, (hO.block g' hgg).trans d3, d4, fun j' o' s' hj' hs' hl' => ?_⟩
            by_cases hij' : i = j'
            · subst hij'
              rw [hp] at hj'
              injection hj' with hj'
              injection hj' with _ hj'
              injection hj' with hj'
              subst hj'
              exact absurd hs' (hdst j oj ja oa s (hops hq) (hops hja) (fun h => hjj h.symm) hda)
            · rw [getD_set_ne false hij'] at hl'
              exact d5 j' o' s' hj' hs' hl'
        · intro j1 j2 o1 o2 T1 n1 new1 T2 n2 new2 h1 h2 l1 l2 he
          have m1 : i ≠ j1 := fun h => by subst h; rw [hp] at h1; injection h1 with h1; injection h1 with _ h1; cases h1
          have m2 : i ≠ j2 := fun h => by subst h; rw [hp] at h2; injection h2 with h2; injection h2 with _ h2; cases h2
          rw [getD_set_ne false m1] at l1
          rw [getD_set_ne false m2] at l2
          rw [hgot v h1 m1, hgot v h2 m2] at he
          exact I.inj j1 j2 o1 o2 _ _ _ _ _ _ h1 h2 l1 l2 he

/-- **one walk serves every order** -/
theorem wp_region_var {id : Nat} {l : List Oper} {Q' : Exit → Act → World → Prop} {w : World} (w0 : World) (VT : List TypeId) (hm : P.follows .mixedOrders = true) (hB : relyB l.toArray = true) (h0 : Below w0.heap.size w0 w)
    (h : wpVar P l.toArray w0 VT a (fun b w' => Q' .normal b w') [] l) : (Code.region id l.toArray true).wp P Q' a w := by
  obtain ⟨full, h1, _, h3, h4, h5⟩ := wpVar_full l [] h
  have nl : ∀ j : Nat, (Array.replicate l.toArray.size false).getD j false = true → False := by
    intro j hl
    simp [Array.getElem?_replicate] at hl
    split at hl <;> simp at hl
  refine wp_region_any hm (var_any hB Q' (fun _ _ h => h) full (by simpa using h1) (fun k p hp => h3 k p (Nat.zero_le _) hp) h4 h5 _ _ _ _ ?_ ⟨by simp, rfl, rfl, h0.drew, fun j _ _ hl => (nl j hl).elim, fun j _ _ hl => (nl j hl).elim, fun j _ _ _ _ _ hl => (nl j hl).elim, fun j _ _ _ _ _ _ _ _ _ _ _ hl _ _ => (nl j hl).elim, fun s _ => rfl⟩)
  refine Nat.le_trans List.countP_le_length (by simp)
/-- an operation with one value -/
theorem var_det {done : List (Option Tmp × Kd)} {o : Oper} {rest : List Oper} (c : Value) (h1 : ∀ x : Ext w0, withD x.w ((done.map fun p => (p.1, depP w0 p.2)).filter (lookT (o.looksAt ops))) a (fun b => rOne P ops o b x.w (fun v w' => Below x.w.heap.size x.w w' ∧ v = c)))
    (h2 : wpVar P ops w0 VT a Q (done ++ [(o.dst, .ord fun v _ => v = c)]) rest) : wpVar P ops w0 VT a Q done (o :: rest) :=
  ⟨.ord fun v _ => v = c, ⟨fun _ _ _ h _ => h, h1⟩, h2⟩
/-- an operation with a promise -/
theorem var_step {done : List (Option Tmp × Kd)} {o : Oper} {rest : List Oper} (S : Pr) (hS : ∀ v w w', S v w → GV w0 VT w w' → S v w')
    (h1 : ∀ x : Ext w0, withD x.w ((done.map fun p => (p.1, depP w0 p.2)).filter (lookT (o.looksAt ops))) a (fun b => rOne P ops o b x.w (fun v w' => Below x.w.heap.size x.w w' ∧ S v w')))
    (h2 : wpVar P ops w0 VT a Q (done ++ [(o.dst, .ord S)]) rest) : wpVar P ops w0 VT a Q done (o :: rest) :=
  ⟨.ord S, ⟨hS, h1⟩, h2⟩
/-- a variable is made: of type T, of n cells, new: what it holds in the end -/
theorem var_al {done : List (Option Tmp × Kd)} {o : Oper} {rest : List Oper} (T : TypeId) (n : Nat) (new : Array Value) (s : Tmp) (hT : T ∈ VT) (hd : o.dst = some s)
    (h1 : ∀ x : Ext w0, withD x.w ((done.map fun p => (p.1, depP w0 p.2)).filter (lookT (o.looksAt ops))) a (fun b => rOne P ops o b x.w (fun v w' => NewVar x.w T n v w')))
    (h2 : wpVar P ops w0 VT a Q (done ++ [(some s, .al T n new)]) rest) : wpVar P ops w0 VT a Q done (o :: rest) :=
  ⟨.al T n new, ⟨hT, ⟨s, hd⟩, h1⟩, by rw [hd]; exact h2⟩
/-- a variable's first store -/
theorem var_st {done : List (Option Tmp × Kd)} {o : Oper} {rest : List Oper} (s : Tmp) (T : TypeId) (n : Nat) (new : Array Value) (hm : (some s, Kd.al T n new) ∈ done) (hd : o.dst = none) (hl : (o.looksAt ops).contains s = true) (hsz : new.size = n)
    (h1 : ∀ (x : Ext w0) (g : Nat) (cs : Array Value), w0.heap.size ≤ g → Blk x.w g T cs → cs.size = n →
        withD x.w ((done.map fun p => (p.1, depG w0 s g p)).filter (lookT (o.looksAt ops))) a (fun b => rOne P ops o b x.w (fun _ w' => Stored g T new x.w w')))
    (h2 : wpVar P ops w0 VT a Q (done ++ [(none, .st s)]) rest) : wpVar P ops w0 VT a Q done (o :: rest) :=
  ⟨.st s, ⟨T, n, new, hm, hd, by simpa using hl, hsz, h1⟩, by rw [hd]; exact h2⟩
theorem var_nil {done : List (Option Tmp × Kd)} (h1 : storedB done = true) (h2 : ∀ x : Ext w0, withD x.w (done.map fun p => (p.1, finP w0 p.2)) a (fun b => Q b x.w)) : wpVar P ops w0 VT a Q done [] := ⟨h1, h2⟩
end
end Go.Proofs.Ytobiepjnnglglaa
