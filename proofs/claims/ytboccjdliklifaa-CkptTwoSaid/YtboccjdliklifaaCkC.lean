/- A checkpoint's cells; may it be? Contract of the program's May. No condition. -/
import Derived.Test.YtboccjdliklifaaCkB
import Derived.Laws.EntriesVeiled
namespace Go.Proofs.Ytboccjdliklifaa
open Go.RowKit

theorem ptrC_len : ∀ p, (ptrC p).length = 2 := fun _ => rfl
theorem numC1_len : ∀ n : Int, [i64v n].length = 1 := fun _ => rfl
theorem ck_map {c : Ck} (h4 : c.map.length = 4) {k : Nat} {p : Int × Nat} (hk : c.map[k]? = some p) :
    (ckC c)[3 + k * 2]? = some (.int .i64 p.1) ∧ (ckC c)[3 + k * 2 + 1]? = some (.int .u32 (p.2 : Int)) := by
  have hl : k < 4 := by rw [← h4]; exact (List.getElem?_eq_some_iff.1 hk).1
  have hf : (c.map.flatMap ptrC).length = 8 := by rw [flat_length ptrC_len, h4]
  unfold ckC
  constructor
  · rw [List.getElem?_append_right (by simp), List.getElem?_append_left (by simp only [List.length_cons, List.length_nil, hf]; omega)]
    have := flat_get ptrC_len c.map k p 0 hk (by omega)
    rw [show 3 + k * 2 - [Value.int IntKind.i64 c.seq, Value.int IntKind.i64 c.nx, Value.int IntKind.i64 c.at_].length = k * 2 + 0 by simp, this]; rfl
  · rw [List.getElem?_append_right (by simp; omega), List.getElem?_append_left (by simp only [List.length_cons, List.length_nil, hf]; omega)]
    have := flat_get ptrC_len c.map k p 1 hk (by omega)
    rw [show 3 + k * 2 + 1 - [Value.int IntKind.i64 c.seq, Value.int IntKind.i64 c.nx, Value.int IntKind.i64 c.at_].length = k * 2 + 1 by simp; omega, this]; rfl
theorem ck_used {c : Ck} (h4 : c.map.length = 4) {k : Nat} {n : Int} (hk : c.used[k]? = some n) : (ckC c)[11 + k]? = some (.int .i64 n) := by
  have hf : (c.map.flatMap ptrC).length = 8 := by rw [flat_length ptrC_len, h4]
  unfold ckC
  rw [List.getElem?_append_right (by simp; omega), List.getElem?_append_right (by simp only [List.length_cons, List.length_nil, hf]; omega)]
  have := flat_get numC1_len c.used k n 0 hk (by omega)
  rw [show 11 + k - [Value.int IntKind.i64 c.seq, Value.int IntKind.i64 c.nx, Value.int IntKind.i64 c.at_].length - (c.map.flatMap ptrC).length = k * 1 + 0 by rw [hf]; simp; omega, this]; rfl
theorem ck_size {c : Ck} (h4 : c.map.length = 4) (h8 : c.used.length = 8) : (ckC c).length = 19 := by
  unfold ckC
  rw [List.length_append, List.length_append, flat_length ptrC_len, flat_length numC1_len, h4, h8]; rfl
theorem mayCk_iff (c : Ck) : mayCk c ↔ ((1 ≤ c.seq ∧ c.seq ≤ 281474976710655) ∧ (1 ≤ c.nx ∧ c.nx ≤ 281474976710655) ∧ (1 ≤ c.at_ ∧ c.at_ ≤ 2147483647)) ∧ c.map.all okP = true ∧ c.used.all okN = true := by
  unfold mayCk
  rw [List.all_eq_true, List.all_eq_true]
  simp only [okP, okN, decide_eq_true_eq]
  exact ⟨fun ⟨a, b, c, d, e⟩ => ⟨⟨a, b, c⟩, d, e⟩, fun ⟨⟨a, b, c⟩, d, e⟩ => ⟨a, b, c, d, e⟩⟩
set_option maxRecDepth 100000 in
set_option maxHeartbeats 4000000 in
theorem may_any (c : Ck) (h4 : c.map.length = 4) (h8 : c.used.length = 8) (w : World) :
    Calls Try.prog 10 #[.agg (ckC c).toArray] w fun e w' => e = .returned (.bool (decide (mayCk c))) ∧ Below w.heap.size w w' := by
  obtain ⟨W, hW⟩ : ∃ W, W = ((w.alloc (.cells (ckC c).toArray 28)).alloc (.cells #[.func (.func 23) #[] #[]] 56)) := ⟨_, rfl⟩
  have BP := hide ((Blk.new w 28 (ckC c).toArray).alloc (.cells #[.func (.func 23) #[] #[]] 56))
  have BF := hide (Blk.new_ (w.alloc (.cells (ckC c).toArray 28)) 56 #[.func (.func 23) #[] #[]] (w.heap.size + 1) (by simp))
  have hb : Hid (Below w.heap.size w W) := by rw [hW]; exact box2
  rw [← hW] at BP BF
  have CP := hide (fun (x : Ext W) => containsP_any w.heap.size 3 (w.heap.size + 1) c.map 4 4 x.w (fun y k p hk => by
    have B := (BP.out.below x.h BP.out.lt); replace B := B.below y.h B.lt
    exact ⟨B.cell_ _ _ (by simpa using (ck_map h4 hk).1), B.cell_ _ _ (by simpa using (ck_map h4 hk).2)⟩) h4 (by decide) (fun y => by
    have B := (BF.out.below x.h BF.out.lt); replace B := B.below y.h B.lt
    exact B.cell_ 0 _ rfl))
  have CN := hide (fun (x : Ext W) => containsN_any w.heap.size 11 (w.heap.size + 1) c.used 8 8 x.w (fun y k p hk => by
    have B := (BP.out.below x.h BP.out.lt); replace B := B.below y.h B.lt
    exact B.cell_ _ _ (by simpa using (ck_used h4 hk))) h8 (by decide) (fun y => by
    have B := (BF.out.below x.h BF.out.lt); replace B := B.below y.h B.lt
    exact B.cell_ 0 _ rfl))
  have c0 := BP.out.cell_ 0 (.int .i64 c.seq) (by simp [ckC])
  have c1 := BP.out.cell_ 1 (.int .i64 c.nx) (by simp [ckC])
  have c2 := BP.out.cell_ 2 (.int .i64 c.at_) (by simp [ckC])
  have f0 := BF.out.cell_ 0 _ rfl
  have M := mayCk_iff c
  obtain ⟨r, hr⟩ : ∃ r, r = decide (mayCk c) := ⟨_, rfl⟩
  obtain ⟨r1, hr1⟩ : ∃ r, decide (1 ≤ c.seq ∧ c.seq ≤ 281474976710655) = r := ⟨_, rfl⟩
  obtain ⟨r2, hr2⟩ : ∃ r, decide (1 ≤ c.nx ∧ c.nx ≤ 281474976710655) = r := ⟨_, rfl⟩
  obtain ⟨r3, hr3⟩ : ∃ r, decide (1 ≤ c.at_ ∧ c.at_ ≤ 2147483647) = r := ⟨_, rfl⟩
  obtain ⟨r4, hr4⟩ : ∃ r, c.map.all okP = r := ⟨_, rfl⟩
  obtain ⟨r5, hr5⟩ : ∃ r, c.used.all okN = r := ⟨_, rfl⟩
  have hrr : r = ((((r1 && r2) && r3) && r4) && r5) := by
    rw [hr, ← hr1, ← hr2, ← hr3, ← hr4, ← hr5, Bool.eq_iff_iff]
    simp only [decide_eq_true_eq, Bool.and_eq_true, M]
    constructor
    · rintro ⟨⟨a, b, c⟩, d, e⟩; exact ⟨⟨⟨⟨a, b⟩, c⟩, d⟩, e⟩
    · rintro ⟨⟨⟨⟨a, b⟩, c⟩, d⟩, e⟩; exact ⟨⟨a, b, c⟩, d, e⟩
  rw [← hr]
  rw [hr4] at CP; rw [hr5] at CN
  have I1 := fun w => in_any c.seq 1 281474976710655 w
  have I2 := fun w => in_any c.nx 1 281474976710655 w
  have I3 := fun w => in_any c.at_ 1 2147483647 w
  rw [hr1] at I1; rw [hr2] at I2; rw [hr3] at I3
  subst hrr
  replace I1 := hide I1; replace I2 := hide I2; replace I3 := hide I3
  clear M hr hr1 hr2 hr3 hr4 hr5
  generalize c.seq = s0 at c0 I1
  generalize c.nx = s1 at c1 I2
  generalize c.at_ = s2 at c2 I3
  have H4 := hide h4; clear h4 h8
  go_enter Try.func10, Try.ntmps10
  go_upto_region 2 with fail
  rw [← hW]
  replace hW := hide hW
  cases r1
  · clear CP CN I2 I3
    go_wp2_with (first
        | (go_at_call 23; (with_reducible refine (unhide I1 _).mono ?_); rintro e w1 ⟨rfl, rfl⟩)
        | (go_at_call 23; (with_reducible refine (unhide I2 _).mono ?_); rintro e w1 ⟨rfl, rfl⟩)
        | (go_at_call 23; (with_reducible refine (unhide I3 _).mono ?_); rintro e w1 ⟨rfl, rfl⟩)
        | (go_at_call 24; (with_reducible refine (unhide CP ⟨W, Below.refl _ _⟩).mono ?_); rintro e w4 ⟨rfl, hb4⟩)
        | (go_at_call 26; (with_reducible refine (unhide CN ⟨w4, hb4⟩).mono ?_); rintro e w5 ⟨rfl, hb5⟩))
    go_ret
    exact ⟨by simp, hb.out⟩
  cases r2
  · clear CP CN I3
    go_wp2_with (first
        | (go_at_call 23; (with_reducible refine (unhide I1 _).mono ?_); rintro e w1 ⟨rfl, rfl⟩)
        | (go_at_call 23; (with_reducible refine (unhide I2 _).mono ?_); rintro e w1 ⟨rfl, rfl⟩)
        | (go_at_call 23; (with_reducible refine (unhide I3 _).mono ?_); rintro e w1 ⟨rfl, rfl⟩)
        | (go_at_call 24; (with_reducible refine (unhide CP ⟨W, Below.refl _ _⟩).mono ?_); rintro e w4 ⟨rfl, hb4⟩)
        | (go_at_call 26; (with_reducible refine (unhide CN ⟨w4, hb4⟩).mono ?_); rintro e w5 ⟨rfl, hb5⟩))
    go_ret
    exact ⟨by simp, hb.out⟩
  cases r3
  · clear CP CN
    go_wp2_with (first
        | (go_at_call 23; (with_reducible refine (unhide I1 _).mono ?_); rintro e w1 ⟨rfl, rfl⟩)
        | (go_at_call 23; (with_reducible refine (unhide I2 _).mono ?_); rintro e w1 ⟨rfl, rfl⟩)
        | (go_at_call 23; (with_reducible refine (unhide I3 _).mono ?_); rintro e w1 ⟨rfl, rfl⟩)
        | (go_at_call 24; (with_reducible refine (unhide CP ⟨W, Below.refl _ _⟩).mono ?_); rintro e w4 ⟨rfl, hb4⟩)
        | (go_at_call 26; (with_reducible refine (unhide CN ⟨w4, hb4⟩).mono ?_); rintro e w5 ⟨rfl, hb5⟩))
    go_ret
    exact ⟨by simp, hb.out⟩
  cases r4
  · clear CN
    go_wp2_with (first
        | (go_at_call 23; (with_reducible refine (unhide I1 _).mono ?_); rintro e w1 ⟨rfl, rfl⟩)
        | (go_at_call 23; (with_reducible refine (unhide I2 _).mono ?_); rintro e w1 ⟨rfl, rfl⟩)
        | (go_at_call 23; (with_reducible refine (unhide I3 _).mono ?_); rintro e w1 ⟨rfl, rfl⟩)
        | (go_at_call 24; (with_reducible refine (unhide CP ⟨W, Below.refl _ _⟩).mono ?_); rintro e w4 ⟨rfl, hb4⟩)
        | (go_at_call 26; (with_reducible refine (unhide CN ⟨w4, hb4⟩).mono ?_); rintro e w5 ⟨rfl, hb5⟩))
    go_ret
    exact ⟨by simp, nextB hb.out hb4⟩
  · go_wp2_with (first
        | (go_at_call 23; (with_reducible refine (unhide I1 _).mono ?_); rintro e w1 ⟨rfl, rfl⟩)
        | (go_at_call 23; (with_reducible refine (unhide I2 _).mono ?_); rintro e w1 ⟨rfl, rfl⟩)
        | (go_at_call 23; (with_reducible refine (unhide I3 _).mono ?_); rintro e w1 ⟨rfl, rfl⟩)
        | (go_at_call 24; (with_reducible refine (unhide CP ⟨W, Below.refl _ _⟩).mono ?_); rintro e w4 ⟨rfl, hb4⟩)
        | (go_at_call 26; (with_reducible refine (unhide CN ⟨w4, hb4⟩).mono ?_); rintro e w5 ⟨rfl, hb5⟩))
    go_ret
    exact ⟨ret_bool (by simp), nextB (nextB hb.out hb4) hb5⟩
end Go.Proofs.Ytboccjdliklifaa
