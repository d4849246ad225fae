/-
  A region that draws its order and whose operations only add to the world: each operation has a promise on its value, kept by whatever comes after; shown of each from the promises of those whose values it looks at. One walk serves every order. No condition.
-/
import Derived.Test.YtobiepjnnglglaaBase
namespace Go.Proofs.Ytobiepjnnglglaa
open Go.RowKit

abbrev Pr := Value → World → Prop
/-- what the operation has left in its slot -/
def opGot (o : Oper) (a : Act) : Value := match o.dst with | some d => a.tmps.getD d undef | none => undef
def looksOn (ops : Array Oper) (o : Oper) (p : Oper × Pr) : Bool := match p.1.dst with | some d => (o.looksAt ops).contains d | none => false
/-- whatever values those have, as promised -/
def withDeps (w : World) : List (Oper × Pr) → Act → (Act → Prop) → Prop
  | [], a, k => k a
  | (o, S) :: l, a, k => ∀ v, S v w → withDeps w l (a.put o.dst v) k
def rOne (P : Program) (ops : Array Oper) (o : Oper) (b : Act) (w : World) (Post : Pr) : Prop :=
  wpList P ops (fun e b' w' => e = .normal ∧ b'.defers = b.defers ∧ Post (opGot o b') w') [o] b w
def wpRely (P : Program) (ops : Array Oper) (G : World → World → Prop) (w0 : World) (a : Act) (Q : Act → World → Prop) : List (Oper × Pr) → List Oper → Prop
  | done, [] => ∀ w, G w0 w → withDeps w done a (fun b => Q b w)
  | done, o :: rest => ∃ S : Pr, (∀ v w w', S v w → G w w' → S v w') ∧
      (∀ w, G w0 w → withDeps w (done.filter (looksOn ops o)) a (fun b => rOne P ops o b w (fun v w' => G w w' ∧ S v w'))) ∧ wpRely P ops G w0 a Q (done ++ [(o, S)]) rest
def relyB (ops : Array Oper) : Bool :=
  Region.noSelect ops && (List.range ops.size).all fun i => match ops[i]? with
    | none => true
    | some oi => (oi.after.all fun e => !Region.binds .any e || decide (e.on < i)) && (List.range ops.size).all fun j => match (ops[j]?).bind (·.dst) with
      | none => true
      | some d => (!(oi.looksAt ops).contains d || (decide (j < i) && oi.after.any fun e => Region.binds .any e && e.on == j)) && (decide (i = j) || oi.dst != some d)

section
variable {P : Program} {ops : Array Oper} {G : World → World → Prop} {w0 : World} {a : Act} {Q : Act → World → Prop}

theorem opGot_put {o : Oper} {b b' : Act} (h : b.tmps.size = b'.tmps.size) (v : Value) : opGot o (b.put o.dst v) = opGot o (b'.put o.dst v) := by
  unfold opGot
  cases hd : o.dst with
  | none => rfl
  | some d =>
    simp only [Act.put, Array.getD_eq_getD_getElem?, Array.getElem?_setIfInBounds, if_true]
    rw [h]
theorem putDefers (b : Act) (x : Option Tmp) (v : Value) : (b.put x v).defers = b.defers := by cases x <;> rfl
theorem putSize (b : Act) (x : Option Tmp) (v : Value) : (b.put x v).tmps.size = b.tmps.size := by cases x <;> simp [Act.put]
theorem rOne_op {o : Oper} {b a' : Act} {w : World} {Post : Pr} {i : Nat} {K : Act → World → Prop} {Q' : Exit → Act → World → Prop} (hi : ops[i]? = some o) (hs : b.tmps.size = a'.tmps.size)
    (he : execOp a'.eval o = execOp b.eval o) (hw : Region.wanted o (yielded ops a'.tmps) = Region.wanted o (yielded ops b.tmps))
    (hK : ∀ v w', Post (opGot o (a'.put o.dst v)) w' → K (a'.put o.dst v) w') (h : rOne P ops o b w Post) : wpOp P ops Q' i K a' w := by
  unfold rOne wpList at h
  unfold wpOp
  simp only [hi]
  rw [hw]
  by_cases hwt : Region.wanted o (yielded ops b.tmps) = true
  · rw [if_pos hwt] at h ⊢
    rcases h with h | ⟨_, _, _, h, _⟩
    · refine .inl ?_
      unfold Oper.wp at *
      rw [he]
      generalize (execOp b.eval o).run P w = r at *
      cases r with
      | ok n w' =>
        cases n <;> simp only [Oper.upon] at h ⊢
        case value u => exact hK _ _ (opGot_put (o := o) hs u ▸ h.2.2)
        case skip => exact hK _ _ (opGot_put (o := o) hs undef ▸ h.2.2)
        case defer d =>
          exfalso
          have h1 := congrArg List.length h.2.1
          rw [putDefers] at h1
          simp at h1
        case enter f args =>
          refine Calls.mono h fun e w'' he => ?_
          cases e with
          | returned u => exact hK _ _ (opGot_put (o := o) hs u ▸ he.2.2)
          | panicked c => exact absurd he.1 (by simp)
          | outgrown => obtain ⟨_, _, h, _⟩ := he; cases h
        case row row args => exact Rows.mono h fun u w'' he => hK _ _ (opGot_put (o := o) hs u ▸ he.2.2)
      | halt x w' =>
        cases x <;> simp only [Oper.upon] at h ⊢
        case panic u => exact absurd h.1 (by simp)
    · cases h
  · rw [if_neg hwt] at h ⊢
    exact hK _ _ (opGot_put (o := o) hs undef ▸ h.2.2)

/-- the looked-at values put in -/
def putAll (a' : Act) (l : List (Oper × Pr)) (b : Act) : Act := l.foldl (fun b p => b.put p.1.dst (opGot p.1 a')) b
theorem putAll_spec (a' : Act) : ∀ (l : List (Oper × Pr)) (b : Act), b.tmps.size = a'.tmps.size →
    (putAll a' l b).tmps.size = a'.tmps.size ∧ (putAll a' l b).defers = b.defers ∧ ∀ s, ((∃ p ∈ l, p.1.dst = some s) ∨ b.tmps[s]? = a'.tmps[s]?) → (putAll a' l b).tmps[s]? = a'.tmps[s]?
  | [], b, h => ⟨h, rfl, fun s hs => by
      rcases hs with ⟨p, hp, _⟩ | hs
      · cases hp
      · exact hs⟩
  | p :: l, b, h => by
    obtain ⟨h1, h2, h3⟩ := putAll_spec a' l (b.put p.1.dst (opGot p.1 a')) (by rw [putSize, h])
    refine ⟨h1, by rw [← putDefers b p.1.dst (opGot p.1 a')]; exact h2, fun s hs => h3 s ?_⟩
    have main : ∀ s, p.1.dst = some s ∨ b.tmps[s]? = a'.tmps[s]? → (b.put p.1.dst (opGot p.1 a')).tmps[s]? = a'.tmps[s]? := by
      intro s hs
      cases hd : p.1.dst with
      | none =>
        rcases hs with hs | hs
        · rw [hd] at hs; cases hs
        · exact hs
      | some d =>
        simp only [Act.put, opGot, hd, Array.getElem?_setIfInBounds]
        by_cases hds : d = s
        · subst hds
          rw [if_pos rfl, h]
          by_cases hlt : d < a'.tmps.size
          · rw [if_pos hlt]; simp [hlt]
          · rw [if_neg hlt]; exact (Array.getElem?_eq_none (Nat.le_of_not_lt hlt)).symm
        · rw [if_neg hds]
          rcases hs with hs | hs
          · rw [hd] at hs; injection hs with hs; exact absurd hs hds
          · exact hs
    rcases hs with ⟨q, hq, hqs⟩ | hs
    · rcases List.mem_cons.1 hq with rfl | hq
      · exact .inr (main s (.inl hqs))
      · exact .inl ⟨q, hq, hqs⟩
    · exact .inr (main s (.inr hs))
theorem withDeps_use {w : World} (a' : Act) {k : Act → Prop} : ∀ (l : List (Oper × Pr)) (b : Act), (∀ p ∈ l, p.2 (opGot p.1 a') w) → withDeps w l b k → k (putAll a' l b)
  | [], _, _, h => h
  | (o, S) :: l, b, hS, h => withDeps_use a' l (b.put o.dst (opGot o a')) (fun p hp => hS p (List.mem_cons_of_mem _ hp)) (h (opGot o a') (hS (o, S) List.mem_cons_self))
/-- all the promises of a walk -/
theorem wpRely_full : ∀ (rest : List Oper) (done : List (Oper × Pr)), wpRely P ops G w0 a Q done rest →
    ∃ full : List (Oper × Pr), full.map (·.1) = done.map (·.1) ++ rest ∧ full.take done.length = done ∧
      (∀ k p, done.length ≤ k → full[k]? = some p → (∀ v w w', p.2 v w → G w w' → p.2 v w') ∧
        ∀ w, G w0 w → withDeps w ((full.take k).filter (looksOn ops p.1)) a (fun b => rOne P ops p.1 b w (fun v w' => G w w' ∧ p.2 v w'))) ∧
      ∀ w, G w0 w → withDeps w full a (fun b => Q b w)
  | [], done, h => ⟨done, by simp, List.take_length, (fun k p hk hp => by rw [List.getElem?_eq_none hk] at hp; cases hp), h⟩
  | o :: rest, done, h => by
    obtain ⟨S, hst, hone, hrest⟩ := h
    obtain ⟨full, h1, h2, h3, h4⟩ := wpRely_full rest (done ++ [(o, S)]) hrest
    have hlen : (done ++ [(o, S)]).length = done.length + 1 := by simp
    have htk : full.take done.length = done := by
      have := congrArg (List.take done.length) h2
      rw [List.take_take, hlen, Nat.min_eq_left (by omega)] at this
      rw [this, List.take_left' rfl]
    have hget : full[done.length]? = some (o, S) := by
      have := congrArg (·[done.length]?) h2
      rw [hlen] at this
      simpa [List.getElem?_take] using this
    refine ⟨full, by simpa using h1, htk, fun k p hk hp => ?_, h4⟩
    by_cases hkk : k = done.length
    · subst hkk
      rw [hget] at hp
      injection hp with hp
      subst hp
      rw [htk]
      exact ⟨hst, hone⟩
    · exact h3 k p (by omega) hp

theorem countP_less {α : Type} {p q : α → Bool} {x : α} : ∀ (l : List α), (∀ y, q y = true → p y = true) → x ∈ l → p x = true → q x = false → l.countP q < l.countP p
  | [], _, h, _, _ => by cases h
  | y :: l, hi, h, hp, hq => by
    rcases List.mem_cons.1 h with rfl | h
    · rw [List.countP_cons_of_pos hp, List.countP_cons_of_neg (by simp [hq])]
      exact Nat.lt_succ_of_le (List.countP_mono_left fun y _ => hi y)
    · have ih := countP_less l hi h hp hq
      rw [List.countP_cons, List.countP_cons]
      by_cases hy : q y = true
      · simp [hy, hi y hy]; exact ih
      · simp [hy]; omega

structure RInv (ops : Array Oper) (G : World → World → Prop) (w0 : World) (a : Act) (full : List (Oper × Pr)) (listed : Array Bool) (a' : Act) (w : World) : Prop where
  size : listed.size = ops.size
  def_ : a'.defers = a.defers
  tmps : a'.tmps.size = a.tmps.size
  ext : G w0 w
  kept : ∀ j p, full[j]? = some p → listed.getD j false = true → p.2 (opGot p.1 a') w
  rest : ∀ s, (∀ j o, ops[j]? = some o → listed.getD j false = true → o.dst ≠ some s) → a'.tmps[s]? = a.tmps[s]?

theorem relyB_spec (h : relyB ops = true) : (∀ (j : Nat) (o : Oper) cs b, ops[j]? = some o → o.op ≠ .select cs b) ∧
    (∀ (i : Nat) (oi : Oper), ops[i]? = some oi → ∀ e ∈ oi.after, Region.binds .any e = true → e.on < i) ∧
    (∀ (i : Nat) (oi : Oper) (j : Nat) (oj : Oper) (d : Tmp), ops[i]? = some oi → ops[j]? = some oj → oj.dst = some d → d ∈ oi.looksAt ops → j < i ∧ ∃ e ∈ oi.after, Region.binds .any e = true ∧ e.on = j) ∧
    (∀ (i : Nat) (oi : Oper) (j : Nat) (oj : Oper) (d : Tmp), ops[i]? = some oi → ops[j]? = some oj → i ≠ j → oj.dst = some d → oi.dst ≠ some d) := by
  simp only [relyB, Bool.and_eq_true, List.all_eq_true, List.mem_range] at h
  obtain ⟨h1, h2⟩ := h
  have lt : ∀ {i o}, ops[i]? = some o → i < ops.size := fun h => (Array.getElem?_eq_some_iff.1 h).1
  refine ⟨Region.noSelect_spec h1, fun i oi hi e he hb => ?_, fun i oi j oj d hi hj hd hl => ?_, fun i oi j oj d hi hj hij hd hd2 => ?_⟩
  · have := h2 i (lt hi)
    simp only [hi, Bool.and_eq_true, Array.all_eq_true_iff_forall_mem] at this
    have := this.1 e he
    simpa [hb] using this
  · have := h2 i (lt hi)
    simp only [hi, Bool.and_eq_true, List.all_eq_true, List.mem_range] at this
    have := this.2 j (lt hj)
    simp only [hj, Option.bind_some, hd, Bool.and_eq_true] at this
    have h3 := this.1
    rw [Bool.or_eq_true] at h3
    rcases h3 with h3 | h3
    · simp [hl] at h3
    · rw [Bool.and_eq_true] at h3
      obtain ⟨h4, h5⟩ := h3
      obtain ⟨e, he, h6⟩ := Array.any_eq_true'.1 h5
      rw [Bool.and_eq_true] at h6
      exact ⟨by simpa using h4, e, he, h6.1, by simpa using h6.2⟩
  · have := h2 i (lt hi)
    simp only [hi, Bool.and_eq_true, List.all_eq_true, List.mem_range] at this
    have := this.2 j (lt hj)
    simp only [hj, Option.bind_some, hd, Bool.and_eq_true] at this
    have h3 := this.2
    simp [hij, hd2] at h3

theorem rely_any (hG : ∀ a b c, G a b → G b c → G a c) (hB : relyB ops = true) (Q' : Exit → Act → World → Prop) (hQ : ∀ b w, Q b w → Q' .normal b w) (full : List (Oper × Pr)) (hf : full.map (·.1) = ops.toList)
    (hone : ∀ k p, full[k]? = some p → (∀ v w w', p.2 v w → G w w' → p.2 v w') ∧
        ∀ w, G w0 w → withDeps w ((full.take k).filter (looksOn ops p.1)) a (fun b => rOne P ops p.1 b w (fun v w' => G w w' ∧ p.2 v w')))
    (hend : ∀ w, G w0 w → withDeps w full a (fun b => Q b w)) : ∀ (fuel : Nat) (listed : Array Bool) (a' : Act) (w : World), (List.range ops.size).countP (fun i => !listed.getD i true) ≤ fuel →
      RInv ops G w0 a full listed a' w → wpAny P .any ops Q' fuel listed a' w := by
  obtain ⟨hsel, hback, hdep, hdst⟩ := relyB_spec hB
  have hfull : ∀ {j : Nat} {o : Oper}, ops[j]? = some o → ∃ p, full[j]? = some p ∧ p.1 = o := by
    intro j o hj
    have h1 : (full.map (·.1))[j]? = some o := by rw [hf, Array.getElem?_toList, hj]
    rw [List.getElem?_map] at h1
    cases hp : full[j]? with
    | none => rw [hp] at h1; cases h1
    | some p => rw [hp] at h1; exact ⟨p, rfl, by simpa using h1⟩
  have hops : ∀ {j : Nat} {p : Oper × Pr}, full[j]? = some p → ops[j]? = some p.1 := by
    intro j p hp
    have h1 : (full.map (·.1))[j]? = some p.1 := by rw [List.getElem?_map, hp]; rfl
    rw [hf, Array.getElem?_toList] at h1
    exact h1
  have fin : ∀ (listed : Array Bool) (a' : Act) (w : World), RInv ops G w0 a full listed a' w → (∀ i, i < ops.size → listed.getD i true = true) → Q a' w := by
    intro listed a' w I hall
    have hall' : ∀ i, i < ops.size → listed.getD i false = true := fun i hi => by
      have := hall i hi
      have hlt : i < listed.size := by rw [I.size]; exact hi
      simpa [hlt] using this
    have h1 := withDeps_use a' full a (fun p hp => by
      obtain ⟨j, hj⟩ := List.getElem?_of_mem hp
      exact I.kept j p hj (hall' j (Array.getElem?_eq_some_iff.1 (hops hj)).1)) (hend w I.ext)
    obtain ⟨s1, s2, s3⟩ := putAll_spec a' full a I.tmps.symm
    have he : putAll a' full a = a' := by
      have ht : (putAll a' full a).tmps = a'.tmps := by
        apply Array.ext_getElem?
        intro s
        refine s3 s ?_
        by_cases hw : ∃ p ∈ full, p.1.dst = some s
        · exact .inl hw
        · refine .inr (I.rest s fun j o hj _ hd => ?_).symm
          obtain ⟨p, hp, rfl⟩ := hfull hj
          exact hw ⟨p, List.mem_of_getElem? hp, hd⟩
      have hd : (putAll a' full a).defers = a'.defers := s2.trans I.def_.symm
      cases hx : putAll a' full a
      cases a'
      rw [hx] at ht hd
      simp only at ht hd
      rw [ht, hd]
    rwa [he] at h1
  have stuck : ∀ (listed : Array Bool) (a' : Act) (w : World), RInv ops G w0 a full listed a' w → Region.ready .any ops listed = [] → ∀ i, i < ops.size → listed.getD i true = true := by
    intro listed a' w I hr i
    induction i using Nat.strongRecOn with
    | _ i ih =>
      intro hi
      rcases Bool.eq_false_or_eq_true (listed.getD i true) with h | h
      · exact h
      · exfalso
        have : i ∈ Region.ready .any ops listed := mem_ready.2 ⟨h, ops[i], Array.getElem?_eq_getElem hi, fun e he hb => by
          have h1 := hback i _ (Array.getElem?_eq_getElem hi) e he hb
          have h2 := ih e.on h1 (by omega)
          have hlt : e.on < listed.size := by rw [I.size]; omega
          simpa [hlt] using h2⟩
        rw [hr] at this
        cases this
  intro fuel
  induction fuel with
  | zero =>
    intro listed a' w hc I
    have hall : ∀ i, i < ops.size → listed.getD i true = true := fun i hi => by
      rcases Bool.eq_false_or_eq_true (listed.getD i true) with h | h
      · exact h
      · have : 0 < (List.range ops.size).countP (fun i => !listed.getD i true) := List.countP_pos_iff.2 ⟨i, List.mem_range.2 hi, by simp only [h]; rfl⟩
        omega
    refine ⟨?_, hQ _ _ (fin listed a' w I hall)⟩
    rw [List.eq_nil_iff_forall_not_mem]
    intro i hi
    obtain ⟨h1, o, ho, _⟩ := mem_ready.1 hi
    rw [hall i (Array.getElem?_eq_some_iff.1 ho).1] at h1
    cases h1
  | succ fuel ih =>
    intro listed a' w hc I
    refine ⟨fun hr => hQ _ _ (fin listed a' w I (stuck listed a' w I hr)), fun i hi => ?_⟩
    obtain ⟨h0, o, ho, hall⟩ := mem_ready.1 hi
    obtain ⟨p, hp, rfl⟩ := hfull ho
    obtain ⟨hst, hw⟩ := hone i p hp
    have hil : i < ops.size := (Array.getElem?_eq_some_iff.1 ho).1
    have hlen : full.length = ops.size := by rw [← List.length_map (f := (·.1)), hf, Array.length_toList]
    have h1 := withDeps_use a' ((full.take i).filter (looksOn ops p.1)) a (fun q hq => by
      obtain ⟨hq1, hq2⟩ := List.mem_filter.1 hq
      obtain ⟨j, hj⟩ := List.getElem?_of_mem hq1
      rw [List.getElem?_take] at hj
      split at hj
      · refine I.kept j q hj ?_
        have hqo := hops hj
        cases hd : q.1.dst with
        | none => simp [looksOn, hd] at hq2
        | some d =>
          simp [looksOn, hd] at hq2
          obtain ⟨_, e, he, hb, rfl⟩ := hdep i p.1 j q.1 d ho hqo hd hq2
          exact hall e he hb
      · cases hj) (hw w I.ext)
    obtain ⟨s1, s2, s3⟩ := putAll_spec a' ((full.take i).filter (looksOn ops p.1)) a I.tmps.symm
    have same : ∀ s, s ∈ p.1.looksAt ops → (putAll a' ((full.take i).filter (looksOn ops p.1)) a).tmps[s]? = a'.tmps[s]? := by
      intro s hs
      refine s3 s ?_
      by_cases hwr : ∃ (j : Nat) (oj : Oper), ops[j]? = some oj ∧ oj.dst = some s
      · obtain ⟨j, oj, hj, hd⟩ := hwr
        obtain ⟨hji, _⟩ := hdep i p.1 j oj s ho hj hd hs
        obtain ⟨q, hq, rfl⟩ := hfull hj
        refine .inl ⟨q, List.mem_filter.2 ⟨List.mem_of_getElem? (i := j) (by rw [List.getElem?_take, if_pos hji]; exact hq), ?_⟩, hd⟩
        simp [looksOn, hd, hs]
      · exact .inr (I.rest s fun j oj hj _ hd => hwr ⟨j, oj, hj, hd⟩).symm
    refine rOne_op ho s1 ?_ ?_ ?_ h1
    · refine execOp_congr p.1 (fun cs b => hsel i p.1 cs b ho) fun x hx => ?_
      cases x with
      | tmp t =>
        have := same t (List.mem_append_left _ (List.mem_filterMap.2 ⟨.tmp t, by simpa using hx, rfl⟩))
        simp only [Act.eval, Array.getD_eq_getD_getElem?, this]
      | _ => rfl
    · unfold Region.wanted
      cases hg : p.1.guard with
      | none => rfl
      | some gw =>
        obtain ⟨g, want⟩ := gw
        have hy : yielded ops a'.tmps g = yielded ops (putAll a' ((full.take i).filter (looksOn ops p.1)) a).tmps g := by
          unfold yielded
          cases ht : (ops[g]?).bind (·.dst) with
          | none => rfl
          | some t =>
            have := same t (by simp [Oper.looksAt, hg, ht])
            simp only [Option.bind_some, this]
        simp only [hy]
    · rintro v w' ⟨hg, hS⟩
      refine ih _ _ _ ?_ ⟨?_, ?_, ?_, hG _ _ _ I.ext hg, ?_, ?_⟩
      · have hless := countP_less (p := fun i => !listed.getD i true) (q := fun j => !(listed.setIfInBounds i true).getD j true) (x := i) (List.range ops.size) (fun y hy => by
          by_cases hiy : i = y
          · subst hiy
            have : i < listed.size := by rw [I.size]; exact hil
            simp [this] at hy
          · simp only [getD_set_ne true hiy] at hy; exact hy) (List.mem_range.2 hil) (by simp only [h0]; rfl) (by
            have : i < listed.size := by rw [I.size]; exact hil
            simp [this])
        omega
      · rw [Array.size_setIfInBounds]; exact I.size
      · rw [putDefers]; exact I.def_
      · rw [putSize]; exact I.tmps
      · intro j q hq hl
        by_cases hij : i = j
        · subst hij
          rw [hp] at hq
          injection hq with hq
          subst hq
          exact hS
        · rw [getD_set_ne false hij] at hl
          have h2 := I.kept j q hq hl
          have h3 : opGot q.1 (a'.put p.1.dst v) = opGot q.1 a' := by
            unfold opGot
            cases hd : q.1.dst with
            | none => rfl
            | some d =>
              have := hdst i p.1 j q.1 d ho (hops hq) hij hd
              cases hd2 : p.1.dst with
              | none => rfl
              | some d2 =>
                have hne : d2 ≠ d := fun h => this (by rw [hd2, h])
                simp [Act.put, Array.getElem?_setIfInBounds_ne hne]
          rw [h3]
          exact (hone j q hq).1 _ _ _ h2 hg
      · intro s hs
        have h2 := I.rest s fun j o hj hl => hs j o hj (getD_set_true hl)
        rw [← h2]
        cases hd2 : p.1.dst with
        | none => rfl
        | some d2 =>
          have hne : d2 ≠ s := fun h => hs i p.1 ho (by
            have : i < listed.size := by rw [I.size]; exact hil
            simp [this]) (by rw [hd2, h])
          simp [Act.put, Array.getElem?_setIfInBounds_ne hne]

/-- **one walk serves every order** -/
theorem wp_region_rely {id : Nat} {l : List Oper} {Q' : Exit → Act → World → Prop} {w : World} (hm : P.follows .mixedOrders = true) (hG : ∀ a b c, G a b → G b c → G a c) (hB : relyB l.toArray = true) (h0 : G w0 w.drew)
    (h : wpRely P l.toArray G w0 a (fun b w' => Q' .normal b w') [] l) : (Code.region id l.toArray true).wp P Q' a w := by
  obtain ⟨full, h1, _, h3, h4⟩ := wpRely_full l [] h
  refine wp_region_any hm (rely_any hG hB Q' (fun _ _ h => h) full (by simpa using h1) (fun k p hp => h3 k p (Nat.zero_le _) hp) h4 _ _ _ _ ?_ ⟨by simp, rfl, rfl, h0, ?_, fun s _ => rfl⟩)
  · refine Nat.le_trans List.countP_le_length (by simp)
  · intro j p _ hl
    simp [Array.getElem?_replicate] at hl
    split at hl <;> simp at hl

/-! The same with the slots alone, over worlds in which all that was there stands. -/
def withD (w : World) : List (Option Tmp × Pr) → Act → (Act → Prop) → Prop
  | [], a, k => k a
  | (d, S) :: l, a, k => ∀ v, S v w → withD w l (a.put d v) k
def lookT (sl : List Tmp) (p : Option Tmp × Pr) : Bool := match p.1 with | some d => sl.contains d | none => false
def slotOf (p : Oper × Pr) : Option Tmp × Pr := (p.1.dst, p.2)
theorem withD_map (w : World) (k : Act → Prop) : ∀ (l : List (Oper × Pr)) (a : Act), withD w (l.map slotOf) a k → withDeps w l a k
  | [], _, h => h
  | (o, S) :: l, a, h => fun v hv => withD_map w k l (a.put o.dst v) (h v hv)
theorem filter_map (ops : Array Oper) (o : Oper) : ∀ l : List (Oper × Pr), (l.map slotOf).filter (lookT (o.looksAt ops)) = (l.filter (looksOn ops o)).map slotOf
  | [] => rfl
  | p :: l => by
    have ih := filter_map ops o l
    have hp : lookT (o.looksAt ops) (slotOf p) = looksOn ops o p := rfl
    rw [List.map_cons, List.filter_cons, List.filter_cons, hp, ih]
    split <;> rfl
def wpRel (P : Program) (ops : Array Oper) (w0 : World) (a : Act) (Q : Act → World → Prop) : List (Option Tmp × Pr) → List Oper → Prop
  | done, [] => ∀ x : Ext w0, withD x.w done a (fun b => Q b x.w)
  | done, o :: rest => ∃ S : Pr, (∀ v w w', S v w → Below w.heap.size w w' → S v w') ∧
      (∀ x : Ext w0, withD x.w (done.filter (lookT (o.looksAt ops))) a (fun b => rOne P ops o b x.w (fun v w' => Below x.w.heap.size x.w w' ∧ S v w'))) ∧ wpRel P ops w0 a Q (done ++ [(o.dst, S)]) rest
theorem wpRel_rely : ∀ (rest : List Oper) (done : List (Oper × Pr)), wpRel P ops w0 a Q (done.map slotOf) rest →
    wpRely P ops (fun w w' => Below w.heap.size w w') w0 a Q done rest
  | [], done, h => fun w hw => withD_map w _ done a (h ⟨w, hw⟩)
  | o :: rest, done, h => by
    obtain ⟨S, h1, h2, h3⟩ := h
    refine ⟨S, h1, fun w hw => ?_, wpRel_rely rest _ (by rw [List.map_append]; exact h3)⟩
    have := h2 ⟨w, hw⟩
    rw [filter_map] at this
    exact withD_map w _ _ a this
theorem wp_region_rel {id : Nat} {l : List Oper} {Q' : Exit → Act → World → Prop} {w : World} (w0 : World) (hm : P.follows .mixedOrders = true) (hB : relyB l.toArray = true) (h0 : Below w0.heap.size w0 w)
    (h : wpRel P l.toArray w0 a (fun b w' => Q' .normal b w') [] l) : (Code.region id l.toArray true).wp P Q' a w :=
  wp_region_rely (G := fun w w' => Below w.heap.size w w') (w0 := w0) hm (fun _ _ _ h1 h2 => h1.trans (h2.mono h1.size)) hB h0.drew (wpRel_rely l [] h)
/-- an operation with one value -/
theorem rel_det {done : List (Option Tmp × Pr)} {o : Oper} {rest : List Oper} (c : Value) (h1 : ∀ x : Ext w0, withD x.w (done.filter (lookT (o.looksAt ops))) a (fun b => rOne P ops o b x.w (fun v w' => Below x.w.heap.size x.w w' ∧ v = c)))
    (h2 : wpRel P ops w0 a Q (done ++ [(o.dst, fun v _ => v = c)]) rest) : wpRel P ops w0 a Q done (o :: rest) :=
  ⟨fun v _ => v = c, fun _ _ _ h _ => h, h1, h2⟩
/-- an operation with a promise -/
theorem rel_step {done : List (Option Tmp × Pr)} {o : Oper} {rest : List Oper} (S : Pr) (hS : ∀ v w w', S v w → Below w.heap.size w w' → S v w')
    (h1 : ∀ x : Ext w0, withD x.w (done.filter (lookT (o.looksAt ops))) a (fun b => rOne P ops o b x.w (fun v w' => Below x.w.heap.size x.w w' ∧ S v w')))
    (h2 : wpRel P ops w0 a Q (done ++ [(o.dst, S)]) rest) : wpRel P ops w0 a Q done (o :: rest) :=
  ⟨S, hS, h1, h2⟩
theorem rel_nil {done : List (Option Tmp × Pr)} (h : ∀ x : Ext w0, withD x.w done a (fun b => Q b x.w)) : wpRel P ops w0 a Q done [] := h
theorem withD_det {w : World} {d : Option Tmp} {c : Value} {l : List (Option Tmp × Pr)} {b : Act} {k : Act → Prop} : withD w ((d, fun v _ => v = c) :: l) b k = withD w l (b.put d c) k := by
  simp only [withD]
  exact propext ⟨fun h => h c rfl, fun h v hv => hv ▸ h⟩
theorem withD_pr {w : World} {d : Option Tmp} {S : Pr} {l : List (Option Tmp × Pr)} {b : Act} {k : Act → Prop} : withD w ((d, S) :: l) b k = ∀ v, S v w → withD w l (b.put d v) k := rfl
theorem withD_nil {w : World} {b : Act} {k : Act → Prop} : withD w [] b k = k b := rfl
theorem filter_yes {sl : List Tmp} {d : Tmp} {S : Pr} {l : List (Option Tmp × Pr)} (h : sl.contains d = true) : List.filter (lookT sl) ((some d, S) :: l) = (some d, S) :: List.filter (lookT sl) l := by
  rw [List.filter_cons_of_pos]; exact h
theorem filter_no {sl : List Tmp} {d : Tmp} {_S : Pr} {l : List (Option Tmp × Pr)} (h : sl.contains d = false) : List.filter (lookT sl) ((some d, _S) :: l) = List.filter (lookT sl) l := by
  rw [List.filter_cons_of_neg]; simp [lookT]; simpa using h
end
end Go.Proofs.Ytobiepjnnglglaa
