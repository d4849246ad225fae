import Derived.Test.YtfcllcofikdjaaaFew
namespace Go.Proofs.Ytfcllcofikdjaaa
open Go.RowKit

theorem made_own {w w' : World} {E size n c : Nat} {A : Option Addr} {xs : List Value} (h : w'.ownsRow w.heap.size E size (.slice A n c) n xs) : Rd w' A xs := Rd.of_own h
set_option maxRecDepth 100000 in
set_option maxHeartbeats 2000000 in
theorem walk_PackJoins (s0 s1 : Sl (Int × Nat)) (v v' : Nat) (w : World) (h0 : s0.Ok w numC (fun x => x.2 < 18446744073709551616)) (h1 : s1.Ok w numC (fun x => x.2 < 18446744073709551616)) (hv : v < 18446744073709551616) (hv' : v' < 18446744073709551616) :
    Calls Try.prog 5 #[.agg #[.slice s0.A s0.n s0.c, .slice s1.A s1.n s1.c, .int .u64 (v : Int), .int .u64 (v' : Int)]] w fun e w' => e = .returned (.bool true) ∧ Below w.heap.size w w' := by
  obtain ⟨A0, n0, c0, la⟩ := s0
  obtain ⟨A1, n1, c1, lb⟩ := s1
  obtain ⟨r0, l0, k0, m0, _⟩ := h0
  obtain ⟨r1, l1, k1, m1, _⟩ := h1
  simp only at r0 r1 l0 l1 k0 k1 m0 m1 ⊢
  obtain ⟨a, na, qa, ga, ea, fa, za, casea⟩ := r0.fewF 60 l0 k0
  obtain ⟨b, nb, qb, gb, eb, fb, zb, caseb⟩ := r1.fewF 60 l1 k1
  clear r0 r1 l0 l1 za zb m0 m1
  have GA := hide ga; have GB := hide gb; clear ga gb
  have Hv := hide hv; have Hv' := hide hv'; clear hv hv'
  have CA := hide casea; have CB := hide caseb; clear casea caseb
  obtain ⟨e1, x1, hRa⟩ : ∃ e x, packR a = (e, x) := ⟨_, _, rfl⟩
  obtain ⟨e2, x2, hRb⟩ : ∃ e x, packR b = (e, x) := ⟨_, _, rfl⟩
  obtain ⟨e3, x3, hRc⟩ : ∃ e x, packR (a ++ b) = (e, x) := ⟨_, _, rfl⟩
  have HRa := hide hRa; have HRb := hide hRb; have HRc := hide hRc; clear hRa hRb hRc
  go_enter Try.func5, Try.ntmps5
  go_wp2_with fail
  go_quiet ((go_at_call 12; first | with_reducible exact quiet_left (few_any A0 n0 c0 na _ k0 CA.out) | with_reducible exact quiet_left (few_any A1 n1 c1 nb _ k1 CB.out)))
  have kB := below_drewN ((Below.refl w.heap.size w).alloc (Nat.le_refl _) (.cells #[.slice A0 n0 c0, .slice A1 n1 c1, .int .u64 (v : Int), .int .u64 (v' : Int)] 42)) nq
  have RA := qa.on kB
  have RB := qb.on kB
  generalize ((w.alloc _).drewN nq) = W at kB RA RB ⊢
  clear qa qb CA CB
  have h1 := pack_any A0 na c0 a W RA GA.out (by omega)
  rw [HRa.out] at h1
  have H1 := hide h1; clear h1
  go_wp2_with fail
  refine (unhide H1).mono ?_
  rintro e w1 ⟨A2, c2, rfl, ho1, hb1⟩
  clear H1
  have h2 := pack_any A1 nb c1 b w1 (RB.on hb1) GB.out (by omega)
  rw [HRb.out] at h2
  have H2 := hide h2; clear h2
  go_wp2_with fail
  refine (unhide H2).mono ?_
  rintro e w2 ⟨A3, c3, rfl, ho2, hb2⟩
  clear H2
  have kW : Below W.heap.size W w2 := hb1.trans (hb2.mono hb1.size)
  have own0 := World.ownsRow_lit (base := w2.heap.size) (e := 39) (size := 2) w2 #[] 0 (Nat.le_refl _) (by unfold maxLen; omega) rfl
  have ra2 := (RA.on kW).alloc (.cells #[] 39)
  go_wp2_with (first
    | (at_builtin; refine wpList_app rfl (.tmp 38) (.tmp 39) rfl Try.el_num w2.heap.size _ _ _ _ rfl own0 _ _ _ (a.flatMap numC) rfl ra2 (by rw [flat_length numC_len, GA.out]) (one_num a) (by unfold maxLen; omega) (by omega) (by simp) ?_; intro A4 c4 w3 ho3 hc3 hg3; simp only [Nat.zero_add, List.nil_append] at ho3 hc3; have k3 : Below w2.heap.size w2 w3 := ((Below.refl _ _).alloc (Nat.le_refl _) (.cells #[] 39)).grown hg3 (by simp) (fun k hk => by simp [Value.ownBlock] at hk; omega); have rb3 := (RB.on kW).on k3; have hz3 := hb2.size; have hz4 := hg3.size; simp at hz4)
    | (at_builtin; refine wpList_app rfl (.tmp 40) (.tmp 41) rfl Try.el_num w2.heap.size _ _ _ _ rfl ho3 _ _ _ (b.flatMap numC) rfl rb3 (by rw [flat_length numC_len, GB.out]) (one_num b) (by unfold maxLen; omega) (by omega) (by omega) ?_; intro A5 c5 w4 ho4 hc4 hg4))
  have k4 : Below w2.heap.size w2 w4 := k3.grown hg4 k3.size (fun k hk => (ho3.lt k hk).1)
  rw [← List.flatMap_append] at ho4
  have h3 := pack_any A5 (na + nb) c5 (a ++ b) w4 (Rd.of_own ho4) (by rw [List.length_append, GA.out, GB.out]) (by omega)
  rw [HRc.out] at h3
  refine h3.mono ?_
  rintro e w5 ⟨A6, c6, rfl, ho5, hb5⟩
  have k5 : Below w2.heap.size w2 w5 := k4.trans (hb5.mono k4.size)
  have kW5 : Below w.heap.size w w5 := kB.trans ((kW.trans (k5.mono kW.size)).mono kB.size)
  have s1 := run_str (P := Try.prog) (c := c2) 22 9 5 Try.underlying22 Try.underlying5 Try.underlying9 (((Rd.of_own ho1).on hb2).on k5) rfl
  have s2 := run_str (P := Try.prog) (c := c3) 22 9 5 Try.underlying22 Try.underlying5 Try.underlying9 ((Rd.of_own ho2).on k5) rfl
  have s3 := run_str (P := Try.prog) (c := c6) 22 9 5 Try.underlying22 Try.underlying5 Try.underlying9 (Rd.of_own ho5) rfl
  clear h3 own0 ra2 ho1 ho2 ho3 ho4 ho5 hg3 hg4 rb3 RA RB hb1 hb2 kW k3 k4 kB hb5 hz3 hz4 hc3 hc4 k0 k1 fa fb
  go_upto_region 5 with fail
  go_cut [68] (fun t wx => t = .bool false ∧ w5 = wx)
  case first =>
    rcases joins_cases a b e1 e2 e3 x1 x2 x3 HRa.out HRb.out HRc.out with ⟨rfl, rfl, rfl, hx⟩ | ⟨n1, n3⟩ | ⟨rfl, n2, n3⟩
    · have Hx := hide hx; clear hx
      have hl1 := packR_length_le' HRa.out
      have hl2 := packR_length_le' HRb.out
      rw [GA.out] at hl1
      rw [GB.out] at hl2
      have hl : x1.length + x2.length ≤ 960 := by omega
      clear hl1 hl2
      go_wp2_with fail
      go_meet
      exact ⟨by simp [Hx.out, ByteArray.toList_eq, ByteArray.data_append], rfl⟩
    · have b1 : (e1 == 0) = false := by simpa using n1
      have b3 : (e3 == 0) = false := by simpa using n3
      clear n1 n3
      go_wp2_with fail
      go_meet
      exact ⟨rfl, rfl⟩
    · have b1 : (e2 == 0) = false := by simpa using n2
      have b3 : (e3 == 0) = false := by simpa using n3
      clear n2 n3
      go_wp2_with fail
      go_meet
      exact ⟨rfl, rfl⟩
  case rest =>
  obtain ⟨rfl, rfl⟩ := hcut
  clear s1 s2 s3 HRa HRb HRc
  have h6 := pack_any (some ⟨w5.heap.size, 0, none⟩) 1 1 [(8, v)] _ (Blk.new w5 39 #[.int .i64 8, .int .u64 (v : Int)]).rd rfl (by omega)
  rw [packR_8] at h6
  have H6 := hide h6; clear h6
  go_wp2_with fail
  refine (unhide H6).mono ?_
  rintro e w6 ⟨A7, c7, rfl, ho6, hb6⟩
  have h7 := pack_any (some ⟨w6.heap.size, 0, none⟩) 1 1 [(8, v')] _ (Blk.new w6 39 #[.int .i64 8, .int .u64 (v' : Int)]).rd rfl (by omega)
  rw [packR_8] at h7
  have H7 := hide h7; clear h7 H6
  go_wp2_with fail
  refine (unhide H7).mono ?_
  rintro e w7 ⟨A8, c8, rfl, ho7, hb7⟩
  have k6 : Below w5.heap.size w5 w6 := ((Below.refl _ _).alloc (Nat.le_refl _) _).trans (hb6.mono (by simp))
  have k7 : Below w6.heap.size w6 w7 := ((Below.refl _ _).alloc (Nat.le_refl _) _).trans (hb7.mono (by simp))
  have s6 := run_str (P := Try.prog) (c := c7) 22 9 5 Try.underlying22 Try.underlying5 Try.underlying9 ((Rd.of_own ho6).on k7) rfl
  have s7 := run_str (P := Try.prog) (c := c8) 22 9 5 Try.underlying22 Try.underlying5 Try.underlying9 (Rd.of_own ho7) rfl
  have kk : Below w.heap.size w w7 := (kW5.trans (k6.mono kW5.size)).trans (k7.mono (Nat.le_trans kW5.size k6.size))
  have hbl := bytesLess_8 v v' Hv.out Hv'.out
  clear ho6 ho7 hb6 hb7 H7
  go_wp2_with fail
  refine (awake_any _).mono ?_
  rintro e w8 ⟨rfl, hb8⟩
  clear s6 s7 hbl
  go_wp2_with fail
  go_ret
  exact ⟨rfl, kk.trans (hb8.mono kk.size)⟩

/-- a Joins, opened -/
structure JoinsOk (s0 s1 : Sl (Int × Nat)) (v v' : Nat) (w : World) : Prop where
  h0 : s0.Ok w numC (fun x => x.2 < 18446744073709551616)
  h1 : s1.Ok w numC (fun x => x.2 < 18446744073709551616)
  hv : v < 18446744073709551616
  hv' : v' < 18446744073709551616
theorem arg_joins {H : Type} {enc : TypeId × Value → H} {w : World} {r : Reach} {b0 : Nat} {v : Value} {d : DataW H} {p : List MemPlace} (hv : Value.okWide Try.prog w r b0 42 v)
    (h : DataW.Trod enc Try.prog w 0 (fun _ => true) true 42 v d p) :
    ∃ s : (Sl (Int × Nat) × Sl (Int × Nat)) × (Nat × Nat), v = .agg #[.slice s.1.1.A s.1.1.n s.1.1.c, .slice s.1.2.A s.1.2.n s.1.2.c, .int .u64 (s.2.1 : Int), .int .u64 (s.2.2 : Int)] ∧ JoinsOk s.1.1 s.1.2 s.2.1 s.2.2 w := by
  obtain ⟨v0, v1, v2, v3, y0, y1, y2, y3, n, rfl, _, _, t0, t1, t2, t3⟩ := Go.Joins.open_agg4 Try.underlying42 (by kernel_rfl) (by kernel_rfl) hv h
  obtain ⟨s0, e0, o0⟩ := opens_slice 2 Try.underlying33 (by kernel_rfl) (by decide) opens_num _ _ _ t0
  obtain ⟨s1, e1, o1⟩ := opens_slice 2 Try.underlying33 (by kernel_rfl) (by decide) opens_num _ _ _ t1
  obtain ⟨a, e2, o2⟩ := opens_u64 Try.underlying37 _ _ _ t2
  obtain ⟨b, e3, o3⟩ := opens_u64 Try.underlying37 _ _ _ t3
  simp only [List.cons.injEq, and_true] at e0 e1 e2 e3
  subst e0; subst e1; subst e2; subst e3
  exact ⟨((s0, s1), (a, b)), rfl, o0, o1, o2, o3⟩
theorem walk_PackJoins' (s : (Sl (Int × Nat) × Sl (Int × Nat)) × (Nat × Nat)) (w : World) (h : JoinsOk s.1.1 s.1.2 s.2.1 s.2.2 w) :
    Calls Try.prog 5 #[.agg #[.slice s.1.1.A s.1.1.n s.1.1.c, .slice s.1.2.A s.1.2.n s.1.2.c, .int .u64 (s.2.1 : Int), .int .u64 (s.2.2 : Int)]] w fun e w' => e = .returned (.bool true) ∧ Below w.heap.size w w' :=
  walk_PackJoins s.1.1 s.1.2 s.2.1 s.2.2 w h.h0 h.h1 h.hv h.hv'
end Go.Proofs.Ytfcllcofikdjaaa
