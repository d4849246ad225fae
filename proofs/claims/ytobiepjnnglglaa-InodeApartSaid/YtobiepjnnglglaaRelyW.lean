/-
  A region that draws its order, in which one operation writes (an append to the call's own row), all others only add to the world: one walk, as XRely's. No condition.
-/
import Derived.Test.YtobiepjnnglglaaRely
namespace Go.Proofs.Ytobiepjnnglglaa
open Go.RowKit

/-- is it the operation that writes (known by its slot) -/
def spB (sp : Tmp) (o : Oper) : Bool := o.dst == some sp
/-- does it stand behind the one that writes, by an edge -/
def postB (ops : Array Oper) (sp : Tmp) (o : Oper) : Bool := o.after.any fun e => Region.binds .any e && match ops[e.on]? with
  | some p => spB sp p
  | none => false
/-- what is shown of an operation: its promise is kept by the others, and holds behind it -/
def OneW (P : Program) (ops : Array Oper) (G G1 : World → World → Prop) (sp : Tmp) (w0 : World) (a : Act) (pre : List (Oper × Pr)) (o : Oper) (S : Pr) : Prop :=
  (∀ v w w', S v w → (if spB sp o || postB ops sp o then G1 w w' else G w w') → S v w') ∧
    ∀ w, (if spB sp o then G1 w0 w else G w0 w) → withDeps w (pre.filter (looksOn ops o)) a (fun b => rOne P ops o b w (fun v w' => (if spB sp o then G w w' else G1 w w') ∧ S v w'))
/-- reads of a slot stand ahead of its write, or behind it, by an edge -/
def relyB2 (ops : Array Oper) : Bool :=
  Region.noSelect ops && (List.range ops.size).all fun i => match ops[i]? with
    | none => true
    | some oi => (oi.after.all fun e => !Region.binds .any e || decide (e.on < i)) && (List.range ops.size).all fun j => match ops[j]? with
      | none => true
      | some oj => match oj.dst with
        | none => true
        | some d => (!(oi.looksAt ops).contains d || ((decide (j < i) && oi.after.any fun e => Region.binds .any e && e.on == j) || (decide (i < j) && oj.after.any fun e => Region.binds .any e && e.on == i))) && (decide (i = j) || oi.dst != some d)
def wpRelyW (P : Program) (ops : Array Oper) (G G1 : World → World → Prop) (sp : Tmp) (w0 : World) (a : Act) (Q : Act → World → Prop) : List (Oper × Pr) → List Oper → Prop
  | done, [] => ∀ w, G w0 w → withDeps w done a (fun b => Q b w)
  | done, o :: rest => ∃ S : Pr, OneW P ops G G1 sp w0 a done o S ∧ wpRelyW P ops G G1 sp w0 a Q (done ++ [(o, S)]) rest

section
variable {P : Program} {ops : Array Oper} {G G1 : World → World → Prop} {sp : Tmp} {w0 : World} {a : Act} {Q : Act → World → Prop}

/-- all the promises of a walk -/
theorem wpRelyW_full : ∀ (rest : List Oper) (done : List (Oper × Pr)), wpRelyW P ops G G1 sp w0 a Q done rest →
    ∃ full : List (Oper × Pr), full.map (·.1) = done.map (·.1) ++ rest ∧ full.take done.length = done ∧
      (∀ k p, done.length ≤ k → full[k]? = some p → OneW P ops G G1 sp w0 a (full.take k) p.1 p.2) ∧
      ∀ w, G w0 w → withDeps w full a (fun b => Q b w)
  | [], done, h => ⟨done, by simp, List.take_length, (fun k p hk hp => by rw [List.getElem?_eq_none hk] at hp; cases hp), h⟩
  | o :: rest, done, h => by
    obtain ⟨S, hone, hrest⟩ := h
    obtain ⟨full, h1, h2, h3, h4⟩ := wpRelyW_full rest (done ++ [(o, S)]) hrest
    have hlen : (done ++ [(o, S)]).length = done.length + 1 := by simp
    have htk : full.take done.length = done := by
      have := congrArg (List.take done.length) h2
      rw [List.take_take, hlen, Nat.min_eq_left (by omega)] at this
      rw [this, List.take_left' rfl]
    have hget : full[done.length]? = some (o, S) := by
      have := congrArg (·[done.length]?) h2
      rw [hlen] at this
      simpa [List.getElem?_take] using this
    refine ⟨full, by simpa using h1, htk, fun k p hk hp => ?_, h4⟩
    by_cases hkk : k = done.length
    · subst hkk
      rw [hget] at hp
      injection hp with hp
      subst hp
      rw [htk]
      exact hone
    · exact h3 k p (by omega) hp

theorem relyB2_spec (h : relyB2 ops = true) : (∀ (j : Nat) (o : Oper) cs b, ops[j]? = some o → o.op ≠ .select cs b) ∧
    (∀ (i : Nat) (oi : Oper), ops[i]? = some oi → ∀ e ∈ oi.after, Region.binds .any e = true → e.on < i) ∧
    (∀ (i : Nat) (oi : Oper) (j : Nat) (oj : Oper) (d : Tmp), ops[i]? = some oi → ops[j]? = some oj → oj.dst = some d → d ∈ oi.looksAt ops →
      (j < i ∧ ∃ e ∈ oi.after, Region.binds .any e = true ∧ e.on = j) ∨ (i < j ∧ ∃ e ∈ oj.after, Region.binds .any e = true ∧ e.on = i)) ∧
    (∀ (i : Nat) (oi : Oper) (j : Nat) (oj : Oper) (d : Tmp), ops[i]? = some oi → ops[j]? = some oj → i ≠ j → oj.dst = some d → oi.dst ≠ some d) := by
  simp only [relyB2, Bool.and_eq_true, List.all_eq_true, List.mem_range] at h
  obtain ⟨h1, h2⟩ := h
  have lt : ∀ {i o}, ops[i]? = some o → i < ops.size := fun h => (Array.getElem?_eq_some_iff.1 h).1
  refine ⟨Region.noSelect_spec h1, fun i oi hi e he hb => ?_, fun i oi j oj d hi hj hd hl => ?_, fun i oi j oj d hi hj hij hd hd2 => ?_⟩
  · have := h2 i (lt hi)
    simp only [hi, Bool.and_eq_true, Array.all_eq_true_iff_forall_mem] at this
    have := this.1 e he
    simpa [hb] using this
  · have := h2 i (lt hi)
    simp only [hi, Bool.and_eq_true, List.all_eq_true, List.mem_range] at this
    have := this.2 j (lt hj)
    simp only [hj, hd, Bool.and_eq_true] at this
    have h3 := this.1
    rw [Bool.or_eq_true] at h3
    rcases h3 with h3 | h3
    · simp [hl] at h3
    · rw [Bool.or_eq_true, Bool.and_eq_true, Bool.and_eq_true] at h3
      rcases h3 with ⟨h4, h5⟩ | ⟨h4, h5⟩
      · obtain ⟨e, he, h6⟩ := Array.any_eq_true'.1 h5
        rw [Bool.and_eq_true] at h6
        exact .inl ⟨by simpa using h4, e, he, h6.1, by simpa using h6.2⟩
      · obtain ⟨e, he, h6⟩ := Array.any_eq_true'.1 h5
        rw [Bool.and_eq_true] at h6
        exact .inr ⟨by simpa using h4, e, he, h6.1, by simpa using h6.2⟩
  · have := h2 i (lt hi)
    simp only [hi, Bool.and_eq_true, List.all_eq_true, List.mem_range] at this
    have := this.2 j (lt hj)
    simp only [hj, hd, Bool.and_eq_true] at this
    have h3 := this.2
    simp [hij, hd2] at h3

structure RInvW (ops : Array Oper) (G G1 : World → World → Prop) (sp : Tmp) (w0 : World) (a : Act) (full : List (Oper × Pr)) (listed : Array Bool) (a' : Act) (w : World) : Prop where
  size : listed.size = ops.size
  def_ : a'.defers = a.defers
  tmps : a'.tmps.size = a.tmps.size
  ext : G w0 w
  kept : ∀ j p, full[j]? = some p → listed.getD j false = true → p.2 (opGot p.1 a') w
  rest : ∀ s, (∀ j o, ops[j]? = some o → listed.getD j false = true → o.dst ≠ some s) → a'.tmps[s]? = a.tmps[s]?
  fine : (∀ j o, ops[j]? = some o → o.dst = some sp → listed.getD j false = false) → G1 w0 w
  closed : ∀ j o, ops[j]? = some o → listed.getD j false = true → ∀ e ∈ o.after, Region.binds .any e = true → listed.getD e.on false = true

theorem relyW_any (hG : ∀ a b c, G a b → G b c → G a c) (hG1 : ∀ a b c, G1 a b → G1 b c → G1 a c) (hGG : ∀ a b, G1 a b → G a b) (hB : relyB2 ops = true) (Q' : Exit → Act → World → Prop) (hQ : ∀ b w, Q b w → Q' .normal b w) (full : List (Oper × Pr)) (hf : full.map (·.1) = ops.toList)
    (hone : ∀ k p, full[k]? = some p → OneW P ops G G1 sp w0 a (full.take k) p.1 p.2)
    (hend : ∀ w, G w0 w → withDeps w full a (fun b => Q b w)) : ∀ (fuel : Nat) (listed : Array Bool) (a' : Act) (w : World), (List.range ops.size).countP (fun i => !listed.getD i true) ≤ fuel →
      RInvW ops G G1 sp w0 a full listed a' w → wpAny P .any ops Q' fuel listed a' w := by
  obtain ⟨hsel, hback, hdep, hdst⟩ := relyB2_spec hB
  have hfull : ∀ {j : Nat} {o : Oper}, ops[j]? = some o → ∃ p, full[j]? = some p ∧ p.1 = o := by
    intro j o hj
    have h1 : (full.map (·.1))[j]? = some o := by rw [hf, Array.getElem?_toList, hj]
    rw [List.getElem?_map] at h1
    cases hp : full[j]? with
    | none => rw [hp] at h1; cases h1
    | some p => rw [hp] at h1; exact ⟨p, rfl, by simpa using h1⟩
  have hops : ∀ {j : Nat} {p : Oper × Pr}, full[j]? = some p → ops[j]? = some p.1 := by
    intro j p hp
    have h1 : (full.map (·.1))[j]? = some p.1 := by rw [List.getElem?_map, hp]; rfl
    rw [hf, Array.getElem?_toList] at h1
    exact h1
  have fin : ∀ (listed : Array Bool) (a' : Act) (w : World), RInvW ops G G1 sp w0 a full listed a' w → (∀ i, i < ops.size → listed.getD i true = true) → Q a' w := by
    intro listed a' w I hall
    have hall' : ∀ i, i < ops.size → listed.getD i false = true := fun i hi => by
      have := hall i hi
      have hlt : i < listed.size := by rw [I.size]; exact hi
      simpa [hlt] using this
    have h1 := withDeps_use a' full a (fun p hp => by
      obtain ⟨j, hj⟩ := List.getElem?_of_mem hp
      exact I.kept j p hj (hall' j (Array.getElem?_eq_some_iff.1 (hops hj)).1)) (hend w I.ext)
    obtain ⟨s1, s2, s3⟩ := putAll_spec a' full a I.tmps.symm
    have he : putAll a' full a = a' := by
      have ht : (putAll a' full a).tmps = a'.tmps := by
        apply Array.ext_getElem?
        intro s
        refine s3 s ?_
        by_cases hw : ∃ p ∈ full, p.1.dst = some s
        · exact .inl hw
        · refine .inr (I.rest s fun j o hj _ hd => ?_).symm
          obtain ⟨p, hp, rfl⟩ := hfull hj
          exact hw ⟨p, List.mem_of_getElem? hp, hd⟩
      have hd : (putAll a' full a).defers = a'.defers := s2.trans I.def_.symm
      cases hx : putAll a' full a
      cases a'
      rw [hx] at ht hd
      simp only at ht hd
      rw [ht, hd]
    rwa [he] at h1
  have stuck : ∀ (listed : Array Bool) (a' : Act) (w : World), RInvW ops G G1 sp w0 a full listed a' w → Region.ready .any ops listed = [] → ∀ i, i < ops.size → listed.getD i true = true := by
    intro listed a' w I hr i
    induction i using Nat.strongRecOn with
    | _ i ih =>
      intro hi
      rcases Bool.eq_false_or_eq_true (listed.getD i true) with h | h
      · exact h
      · exfalso
        have : i ∈ Region.ready .any ops listed := mem_ready.2 ⟨h, ops[i], Array.getElem?_eq_getElem hi, fun e he hb => by
          have h1 := hback i _ (Array.getElem?_eq_getElem hi) e he hb
          have h2 := ih e.on h1 (by omega)
          have hlt : e.on < listed.size := by rw [I.size]; omega
          simpa [hlt] using h2⟩
        rw [hr] at this
        cases this
  intro fuel
  induction fuel with
  | zero =>
    intro listed a' w hc I
    have hall : ∀ i, i < ops.size → listed.getD i true = true := fun i hi => by
      rcases Bool.eq_false_or_eq_true (listed.getD i true) with h | h
      · exact h
      · have : 0 < (List.range ops.size).countP (fun i => !listed.getD i true) := List.countP_pos_iff.2 ⟨i, List.mem_range.2 hi, by simp only [h]; rfl⟩
        omega
    refine ⟨?_, hQ _ _ (fin listed a' w I hall)⟩
    rw [List.eq_nil_iff_forall_not_mem]
    intro i hi
    obtain ⟨h1, o, ho, _⟩ := mem_ready.1 hi
    rw [hall i (Array.getElem?_eq_some_iff.1 ho).1] at h1
    cases h1
  | succ fuel ih =>
    intro listed a' w hc I
    refine ⟨fun hr => hQ _ _ (fin listed a' w I (stuck listed a' w I hr)), fun i hi => ?_⟩
    obtain ⟨h0, o, ho, hall⟩ := mem_ready.1 hi
    obtain ⟨p, hp, rfl⟩ := hfull ho
    obtain ⟨hst, hw⟩ := hone i p hp
    have uniq : ∀ (j : Nat) (o : Oper), ops[j]? = some o → o.dst = some sp → p.1.dst = some sp → j = i := fun j o hj hd hd2 => by
      rcases Nat.decEq j i with h | h
      · exact absurd hd2 (hdst i p.1 j o sp ho hj (fun e => h e.symm) hd)
      · exact h
    have hasm : if spB sp p.1 then G1 w0 w else G w0 w := by
      by_cases hs : spB sp p.1 = true
      · rw [if_pos hs]
        refine I.fine fun j o hj hd => ?_
        have hd2 : p.1.dst = some sp := by simpa [spB] using hs
        obtain rfl := uniq j o hj hd hd2
        have hlt : j < listed.size := by rw [I.size]; exact (Array.getElem?_eq_some_iff.1 ho).1
        simpa [hlt] using h0
      · rw [if_neg hs]; exact I.ext
    have hil : i < ops.size := (Array.getElem?_eq_some_iff.1 ho).1
    have hlen : full.length = ops.size := by rw [← List.length_map (f := (·.1)), hf, Array.length_toList]
    have h1 := withDeps_use a' ((full.take i).filter (looksOn ops p.1)) a (fun q hq => by
      obtain ⟨hq1, hq2⟩ := List.mem_filter.1 hq
      obtain ⟨j, hj⟩ := List.getElem?_of_mem hq1
      rw [List.getElem?_take] at hj
      split at hj
      · refine I.kept j q hj ?_
        have hqo := hops hj
        cases hd : q.1.dst with
        | none => simp [looksOn, hd] at hq2
        | some d =>
          simp [looksOn, hd] at hq2
          rcases hdep i p.1 j q.1 d ho hqo hd hq2 with ⟨_, e, he, hb, rfl⟩ | ⟨hlt, _⟩
          · exact hall e he hb
          · omega
      · cases hj) (hw w hasm)
    obtain ⟨s1, s2, s3⟩ := putAll_spec a' ((full.take i).filter (looksOn ops p.1)) a I.tmps.symm
    have same : ∀ s, s ∈ p.1.looksAt ops → (putAll a' ((full.take i).filter (looksOn ops p.1)) a).tmps[s]? = a'.tmps[s]? := by
      intro s hs
      refine s3 s ?_
      by_cases hwr : ∃ (j : Nat) (oj : Oper), ops[j]? = some oj ∧ oj.dst = some s
      · obtain ⟨j, oj, hj, hd⟩ := hwr
        rcases hdep i p.1 j oj s ho hj hd hs with ⟨hji, _⟩ | ⟨hij, e, he, hb, hei⟩
        · obtain ⟨q, hq, rfl⟩ := hfull hj
          refine .inl ⟨q, List.mem_filter.2 ⟨List.mem_of_getElem? (i := j) (by rw [List.getElem?_take, if_pos hji]; exact hq), ?_⟩, hd⟩
          simp [looksOn, hd, hs]
        · refine .inr (I.rest s fun k ok hk hl hdk => ?_).symm
          have hkj : k = j := by
            rcases Nat.decEq k j with h | h
            · exact absurd hdk (hdst k ok j oj s hk hj h hd)
            · exact h
          subst hkj
          rw [hj] at hk
          injection hk with hk
          subst hk
          have h4 := I.closed k oj hj hl e he hb
          rw [hei] at h4
          have hlt : i < listed.size := by rw [I.size]; exact hil
          simp [hlt] at h4 h0
          rw [h0] at h4; cases h4
      · exact .inr (I.rest s fun j oj hj _ hd => hwr ⟨j, oj, hj, hd⟩).symm
    refine rOne_op ho s1 ?_ ?_ ?_ h1
    · refine execOp_congr p.1 (fun cs b => hsel i p.1 cs b ho) fun x hx => ?_
      cases x with
      | tmp t =>
        have := same t (List.mem_append_left _ (List.mem_filterMap.2 ⟨.tmp t, by simpa using hx, rfl⟩))
        simp only [Act.eval, Array.getD_eq_getD_getElem?, this]
      | _ => rfl
    · unfold Region.wanted
      cases hg : p.1.guard with
      | none => rfl
      | some gw =>
        obtain ⟨g, want⟩ := gw
        have hy : yielded ops a'.tmps g = yielded ops (putAll a' ((full.take i).filter (looksOn ops p.1)) a).tmps g := by
          unfold yielded
          cases ht : (ops[g]?).bind (·.dst) with
          | none => rfl
          | some t =>
            have := same t (by simp [Oper.looksAt, hg, ht])
            simp only [Option.bind_some, this]
        simp only [hy]
    · rintro v w' ⟨hg, hS⟩
      have hgG : G w w' := by
        by_cases hs : spB sp p.1 = true
        · rw [if_pos hs] at hg; exact hg
        · rw [if_neg hs] at hg; exact hGG _ _ hg
      refine ih _ _ _ ?_ ⟨?_, ?_, ?_, hG _ _ _ I.ext hgG, ?_, ?_, ?_, ?_⟩
      · have hless := countP_less (p := fun i => !listed.getD i true) (q := fun j => !(listed.setIfInBounds i true).getD j true) (x := i) (List.range ops.size) (fun y hy => by
          by_cases hiy : i = y
          · subst hiy
            have : i < listed.size := by rw [I.size]; exact hil
            simp [this] at hy
          · simp only [getD_set_ne true hiy] at hy; exact hy) (List.mem_range.2 hil) (by simp only [h0]; rfl) (by
            have : i < listed.size := by rw [I.size]; exact hil
            simp [this])
        omega
      · rw [Array.size_setIfInBounds]; exact I.size
      · rw [putDefers]; exact I.def_
      · rw [putSize]; exact I.tmps
      · intro j q hq hl
        by_cases hij : i = j
        · subst hij
          rw [hp] at hq
          injection hq with hq
          subst hq
          exact hS
        · rw [getD_set_ne false hij] at hl
          have h2 := I.kept j q hq hl
          have h3 : opGot q.1 (a'.put p.1.dst v) = opGot q.1 a' := by
            unfold opGot
            cases hd : q.1.dst with
            | none => rfl
            | some d =>
              have := hdst i p.1 j q.1 d ho (hops hq) hij hd
              cases hd2 : p.1.dst with
              | none => rfl
              | some d2 =>
                have hne : d2 ≠ d := fun h => this (by rw [hd2, h])
                simp [Act.put, Array.getElem?_setIfInBounds_ne hne]
          rw [h3]
          refine (hone j q hq).1 _ _ _ h2 ?_
          by_cases hs : (spB sp q.1 || postB ops sp q.1) = true
          · rw [if_pos hs]
            have hns : ¬ spB sp p.1 = true := fun hs2 => by
              rw [Bool.or_eq_true] at hs
              rcases hs with hs | hs
              · exact hij (uniq j q.1 (hops hq) (by simpa [spB] using hs) (by simpa [spB] using hs2)).symm
              · obtain ⟨e, he, h6⟩ := Array.any_eq_true'.1 hs
                rw [Bool.and_eq_true] at h6
                obtain ⟨hb, h7⟩ := h6
                have h8 := I.closed j q.1 (hops hq) hl e he hb
                cases h9 : ops[e.on]? with
                | none => simp [h9] at h7
                | some r =>
                  simp [h9] at h7
                  have h10 := uniq e.on r h9 (by simpa [spB] using h7) (by simpa [spB] using hs2)
                  rw [h10] at h8
                  have hlt : i < listed.size := by rw [I.size]; exact hil
                  simp [hlt] at h8 h0
                  rw [h0] at h8; cases h8
            rw [if_neg hns] at hg; exact hg
          · rw [if_neg hs]; exact hgG
      · intro s hs
        have h2 := I.rest s fun j o hj hl => hs j o hj (getD_set_true hl)
        rw [← h2]
        cases hd2 : p.1.dst with
        | none => rfl
        | some d2 =>
          have hne : d2 ≠ s := fun h => hs i p.1 ho (by
            have : i < listed.size := by rw [I.size]; exact hil
            simp [this]) (by rw [hd2, h])
          simp [Act.put, Array.getElem?_setIfInBounds_ne hne]
      · intro hun
        by_cases hs : spB sp p.1 = true
        · exfalso
          have := hun i p.1 ho (by simpa [spB] using hs)
          have hlt : i < listed.size := by rw [I.size]; exact hil
          simp [hlt] at this
        · rw [if_neg hs] at hg
          refine hG1 _ _ _ (I.fine fun j o hj hd => ?_) hg
          have := hun j o hj hd
          rcases Bool.eq_false_or_eq_true (listed.getD j false) with h | h
          · rw [getD_set_true h] at this; cases this
          · exact h
      · intro j o hj hl e he hb
        by_cases hij : i = j
        · subst hij
          rw [ho] at hj
          injection hj with hj
          subst hj
          exact getD_set_true (hall e he hb)
        · rw [getD_set_ne false hij] at hl
          exact getD_set_true (I.closed j o hj hl e he hb)

/-- **one walk serves every order** -/
theorem wp_region_relyW {id : Nat} {l : List Oper} {Q' : Exit → Act → World → Prop} {w : World} (hm : P.follows .mixedOrders = true) (hG : ∀ a b c, G a b → G b c → G a c) (hG1 : ∀ a b c, G1 a b → G1 b c → G1 a c) (hGG : ∀ a b, G1 a b → G a b) (hB : relyB2 l.toArray = true) (h0 : G1 w0 w.drew)
    (h : wpRelyW P l.toArray G G1 sp w0 a (fun b w' => Q' .normal b w') [] l) : (Code.region id l.toArray true).wp P Q' a w := by
  obtain ⟨full, h1, _, h3, h4⟩ := wpRelyW_full l [] h
  refine wp_region_any hm (relyW_any hG hG1 hGG hB Q' (fun _ _ h => h) full (by simpa using h1) (fun k p hp => h3 k p (Nat.zero_le _) hp) h4 _ _ _ _ ?_ ⟨by simp, rfl, rfl, hGG _ _ h0, ?_, fun s _ => rfl, fun _ => h0, ?_⟩)
  · refine Nat.le_trans List.countP_le_length (by simp)
  · intro j p _ hl
    simp [Array.getElem?_replicate] at hl
    split at hl <;> simp at hl
  · intro j p _ hl
    simp [Array.getElem?_replicate] at hl
    split at hl <;> simp at hl

/-! The same with the slots alone, over worlds that have grown by a row. -/
structure Gro (w0 : World) (row : Option Nat) where
  w : World
  h : w0.grownBy w row
theorem grown_trans {row : Option Nat} {a b c : World} (h1 : a.grownBy b row) (h2 : b.grownBy c row) : a.grownBy c row :=
  ⟨h2.os.trans h1.os, h2.tape.trans h1.tape, h2.output.trans h1.output, Nat.le_trans h1.size h2.size, fun k hk hne => (h2.block k (Nat.lt_of_lt_of_le hk h1.size) hne).trans (h1.block k hk hne)⟩
theorem grown_of_below {row : Option Nat} {a b : World} (h : Below a.heap.size a b) : a.grownBy b row := ⟨h.os, h.tape, h.output, h.size, fun k hk _ => h.block k hk⟩
theorem below_of_grown {a b : World} (h : a.grownBy b none) : Below a.heap.size a b := ⟨h.os, h.tape, h.output, h.size, fun k hk => h.block k hk (by simp)⟩
def wpRelW (P : Program) (ops : Array Oper) (row : Option Nat) (sp : Tmp) (w0 : World) (a : Act) (Q : Act → World → Prop) : List (Option Tmp × Pr) → List Oper → Prop
  | done, [] => ∀ x : Gro w0 row, withD x.w done a (fun b => Q b x.w)
  | done, o :: rest => ∃ S : Pr, ((o.dst = some sp ∧ (∀ v w w', S v w → Below w.heap.size w w' → S v w') ∧ ∀ x : Ext w0, withD x.w (done.filter (lookT (o.looksAt ops))) a (fun b => rOne P ops o b x.w (fun v w' => x.w.grownBy w' row ∧ S v w'))) ∨
      (o.dst ≠ some sp ∧ ((∀ v w w', S v w → w.grownBy w' row → S v w') ∨ postB ops sp o = true ∧ ∀ v w w', S v w → Below w.heap.size w w' → S v w') ∧ ∀ x : Gro w0 row, withD x.w (done.filter (lookT (o.looksAt ops))) a (fun b => rOne P ops o b x.w (fun v w' => Below x.w.heap.size x.w w' ∧ S v w')))) ∧
      wpRelW P ops row sp w0 a Q (done ++ [(o.dst, S)]) rest
theorem wpRelW_rely {row : Option Nat} : ∀ (rest : List Oper) (done : List (Oper × Pr)), wpRelW P ops row sp w0 a Q (done.map slotOf) rest →
    wpRelyW P ops (fun w w' => w.grownBy w' row) (fun w w' => Below w.heap.size w w') sp w0 a Q done rest
  | [], done, h => fun w hw => withD_map w _ done a (h ⟨w, hw⟩)
  | o :: rest, done, h => by
    obtain ⟨S, h1, h3⟩ := h
    refine ⟨S, ?_, wpRelW_rely rest _ (by rw [List.map_append]; exact h3)⟩
    rcases h1 with ⟨hd, hs, h2⟩ | ⟨hd, hs, h2⟩
    · have hb : spB sp o = true := by simp [spB, hd]
      refine ⟨fun v w w' hv hg => hs v w w' hv (by rw [hb, Bool.true_or, if_pos rfl] at hg; exact hg), fun w hw => ?_⟩
      rw [if_pos hb] at hw
      have := h2 ⟨w, hw⟩
      rw [filter_map] at this
      simp only [if_pos hb]
      exact withD_map w _ _ a this
    · have hb : ¬ spB sp o = true := by simp [spB, hd]
      refine ⟨fun v w w' hv hg => ?_, fun w hw => ?_⟩
      · have hb' : spB sp o = false := by simpa using hb
        rw [hb', Bool.false_or] at hg
        rcases hs with hs | ⟨hp, hs⟩
        · refine hs v w w' hv ?_
          by_cases hp : postB ops sp o = true
          · rw [if_pos hp] at hg; exact grown_of_below hg
          · rw [if_neg hp] at hg; exact hg
        · rw [if_pos hp] at hg; exact hs v w w' hv hg
      rw [if_neg hb] at hw
      have := h2 ⟨w, hw⟩
      rw [filter_map] at this
      simp only [if_neg hb]
      exact withD_map w _ _ a this
theorem wp_region_relW {id : Nat} {l : List Oper} {Q' : Exit → Act → World → Prop} {w : World} (w0 : World) (row : Option Nat) (sp : Tmp) (hm : P.follows .mixedOrders = true) (hB : relyB2 l.toArray = true) (h0 : Below w0.heap.size w0 w)
    (h : wpRelW P l.toArray row sp w0 a (fun b w' => Q' .normal b w') [] l) : (Code.region id l.toArray true).wp P Q' a w :=
  wp_region_relyW (G := fun w w' => w.grownBy w' row) (G1 := fun w w' => Below w.heap.size w w') (sp := sp) (w0 := w0) hm (fun _ _ _ h1 h2 => grown_trans h1 h2) (fun _ _ _ h1 h2 => h1.trans (h2.mono h1.size)) (fun _ _ h => grown_of_below h) hB h0.drew (wpRelW_rely l [] h)
/-- an operation with one value -/
theorem relW_det {row : Option Nat} {done : List (Option Tmp × Pr)} {o : Oper} {rest : List Oper} (c : Value) (hd : o.dst ≠ some sp) (h1 : ∀ x : Gro w0 row, withD x.w (done.filter (lookT (o.looksAt ops))) a (fun b => rOne P ops o b x.w (fun v w' => Below x.w.heap.size x.w w' ∧ v = c)))
    (h2 : wpRelW P ops row sp w0 a Q (done ++ [(o.dst, fun v _ => v = c)]) rest) : wpRelW P ops row sp w0 a Q done (o :: rest) :=
  ⟨fun v _ => v = c, .inr ⟨hd, .inl fun _ _ _ h _ => h, h1⟩, h2⟩
/-- an operation with a promise -/
theorem relW_step {row : Option Nat} {done : List (Option Tmp × Pr)} {o : Oper} {rest : List Oper} (S : Pr) (hd : o.dst ≠ some sp) (hS : ∀ v w w', S v w → w.grownBy w' row → S v w')
    (h1 : ∀ x : Gro w0 row, withD x.w (done.filter (lookT (o.looksAt ops))) a (fun b => rOne P ops o b x.w (fun v w' => Below x.w.heap.size x.w w' ∧ S v w')))
    (h2 : wpRelW P ops row sp w0 a Q (done ++ [(o.dst, S)]) rest) : wpRelW P ops row sp w0 a Q done (o :: rest) :=
  ⟨S, .inr ⟨hd, .inl hS, h1⟩, h2⟩
/-- an operation behind the one that writes -/
theorem relW_post {row : Option Nat} {done : List (Option Tmp × Pr)} {o : Oper} {rest : List Oper} (S : Pr) (hd : o.dst ≠ some sp) (hp : postB ops sp o = true) (hS : ∀ v w w', S v w → Below w.heap.size w w' → S v w')
    (h1 : ∀ x : Gro w0 row, withD x.w (done.filter (lookT (o.looksAt ops))) a (fun b => rOne P ops o b x.w (fun v w' => Below x.w.heap.size x.w w' ∧ S v w')))
    (h2 : wpRelW P ops row sp w0 a Q (done ++ [(o.dst, S)]) rest) : wpRelW P ops row sp w0 a Q done (o :: rest) :=
  ⟨S, .inr ⟨hd, .inr ⟨hp, hS⟩, h1⟩, h2⟩
/-- the operation that writes -/
theorem relW_write {row : Option Nat} {done : List (Option Tmp × Pr)} {o : Oper} {rest : List Oper} (S : Pr) (hd : o.dst = some sp) (hS : ∀ v w w', S v w → Below w.heap.size w w' → S v w')
    (h1 : ∀ x : Ext w0, withD x.w (done.filter (lookT (o.looksAt ops))) a (fun b => rOne P ops o b x.w (fun v w' => x.w.grownBy w' row ∧ S v w')))
    (h2 : wpRelW P ops row sp w0 a Q (done ++ [(o.dst, S)]) rest) : wpRelW P ops row sp w0 a Q done (o :: rest) :=
  ⟨S, .inl ⟨hd, hS, h1⟩, h2⟩
theorem relW_nil {row : Option Nat} {done : List (Option Tmp × Pr)} (h : ∀ x : Gro w0 row, withD x.w done a (fun b => Q b x.w)) : wpRelW P ops row sp w0 a Q done [] := h
theorem Gro.cell {row : Option Nat} (x : Gro w0 row) {p : Addr} {v : Value} (h : w0.cell? p = some v) (hne : some p.block ≠ row) : x.w.cell? p = some v := x.h.cell h hne
theorem own_below_keep {w w' : World} {base e z n : Nat} {v : Value} {xs : List Value} (h : w.ownsRow base e z v n xs) (hb : Below w.heap.size w w') : w'.ownsRow base e z v n xs :=
  h.kept (grown_of_below (row := none) hb) (by cases v.ownBlock <;> simp)
end
end Go.Proofs.Ytobiepjnnglglaa
