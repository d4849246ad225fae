import Derived.Test.YtfcllcofikdjaaaFill
namespace Go.Proofs.Ytfcllcofikdjaaa
open Go.RowKit

theorem clearB_fill (bs : List UInt8) : clearB (fill128 bs) (bs.length : Nat) = true := by
  simp [clearB, fill128]; omega
/-- the law's own answer, when k octets are looked at -/
def clearK (bs : List UInt8) (p : Int) (k : Nat) : Bool := decide (0 ≤ p) && (decide (p ≤ bs.length) && ((bs.take k).drop p.toNat).all (· == 0))

theorem clearK_zero (bs : List UInt8) (p : Int) : clearK bs p 0 = (decide (0 ≤ p) && decide (p ≤ bs.length)) := by simp [clearK]
theorem clearK_all (bs : List UInt8) (p : Int) : clearK bs p bs.length = clearB bs p := by simp [clearK, clearB]
theorem clearK_false (bs : List UInt8) (p : Int) (k : Nat) (x : UInt8) (hx : bs[k]? = some x) (h : clearK bs p k = false) : clearK bs p (k + 1) = false := by
  simp only [clearK, take_snoc_of hx] at h ⊢
  rw [Bool.and_eq_false_iff, Bool.and_eq_false_iff] at h ⊢
  rcases h with h | h | h
  · exact .inl h
  · exact .inr (.inl h)
  · refine .inr (.inr ?_)
    rw [List.all_eq_false] at h ⊢
    obtain ⟨y, hy, h2⟩ := h
    refine ⟨y, ?_, h2⟩
    rw [List.drop_append]
    exact List.mem_append_left _ hy
theorem clearK_range (bs : List UInt8) (p : Int) (k : Nat) (h : clearK bs p k = true) : 0 ≤ p ∧ p ≤ bs.length := by
  simp [clearK] at h; exact ⟨h.1, h.2.1⟩
theorem clearK_before (bs : List UInt8) (p : Int) (k : Nat) (h : clearK bs p k = true) (hk : (k : Int) < p) : clearK bs p (k + 1) = true := by
  obtain ⟨h0, h1⟩ := clearK_range bs p k h
  have : ((bs.take (k + 1)).drop p.toNat) = [] := List.drop_eq_nil_of_le (by rw [List.length_take]; omega)
  simp [clearK, this, h0, h1]
theorem clearK_at (bs : List UInt8) (p : Int) (k : Nat) (x : UInt8) (hx : bs[k]? = some x) (h : clearK bs p k = true) (hk : ¬ (k : Int) < p) : clearK bs p (k + 1) = (x == 0) := by
  obtain ⟨h0, h1⟩ := clearK_range bs p k h
  have hkl : k < bs.length := by
    rcases Nat.lt_or_ge k bs.length with h' | h'
    · exact h'
    · rw [List.getElem?_eq_none h'] at hx; cases hx
  simp only [clearK, take_snoc_of hx, decide_eq_true h0, decide_eq_true h1, Bool.true_and] at h ⊢
  rw [List.drop_append, List.length_take, show p.toNat - min k bs.length = 0 by omega, List.drop_zero, List.all_append, h]
  simp

set_option maxRecDepth 100000 in
set_option maxHeartbeats 2000000 in
theorem walk_PackFills (s0 : Sl UInt8) (p : Int) (w : World) (h0 : s0.Ok w (fun c => [u8v c]) (fun _ => True)) (hp : (Lit.int .i64 p).wf = true) :
    Calls Try.prog 7 #[.slice s0.A s0.n s0.c, .int .i64 p] w fun e w' => e = .returned (.bool true) ∧ Below w.heap.size w w' := by
  obtain ⟨A0, n0, c0, bs⟩ := s0
  obtain ⟨r0, l0, k0, m0, _⟩ := h0
  simp only [flat_u8] at r0 l0 k0 m0 ⊢
  simp [Lit.wf, IntKind.min, IntKind.max, IntKind.bits, IntKind.signed] at hp
  obtain ⟨bs', n0', q0, g0, e0, f0, z0, case0⟩ := r0.few 200 l0 k0
  clear r0 l0 z0 m0
  have G0 := hide g0; clear g0
  go_enter Try.func7, Try.ntmps7
  go_upto_if 11 with fail
  go_cut [0] (fun v wx => v = .slice A0 n0' c0 ∧ w = wx)
  case first => rcases case0 with ⟨d0, rfl⟩ | ⟨d0, rfl⟩ <;> (go_wp2_with fail; go_meet; exact ⟨rfl, rfl⟩)
  case rest =>
  obtain ⟨rfl, rfl⟩ := hcut
  clear case0
  go_upto_region 3 with fail
  go_cut [5, 6] (fun s e wx => ∃ A1 n1 c1, s = .slice A1 n1 c1 ∧ (n0' ≤ 128 ∧ n1 = 128 ∧ e = .int .i64 0 ∧ wx.ownsRow w.heap.size 5 1 (.slice A1 128 c1) 128 ((fill128 bs').map u8v) ∨ 128 < n0' ∧ n1 = 0 ∧ e = .int .i64 8) ∧ Below w.heap.size w wx)
  case first =>
    by_cases h : n0' ≤ 128
    · go_wp2_with (go_at_call 14; refine (fill_ok A0 n0' c0 bs' w q0 G0.out h).mono ?_; rintro e w1 ⟨A1, c1, rfl, ho, hb⟩)
      go_meet
      exact ⟨A1, 128, c1, rfl, .inl ⟨h, rfl, rfl, ho⟩, hb⟩
    · have h2 : 128 < n0' := by omega
      go_wp2_with (go_at_call 14; refine (fill_no A0 n0' c0 w h2).mono ?_; rintro e w1 ⟨rfl, rfl⟩)
      go_meet
      exact ⟨none, 0, 0, rfl, .inr ⟨h2, rfl, rfl⟩, Below.refl _ _⟩
  case rest =>
  obtain ⟨A1, n1, c1, rfl, hcase, hb⟩ := hcut
  have Hcase := hide hcase; clear hcase
  go_upto_region 4 with fail
  go_cut [7] (fun v wx => v = .bool (clearK bs' p 0) ∧ wc = wx)
  case first =>
    by_cases h1 : 0 ≤ p
    · go_wp2_with fail
      go_meet
      exact ⟨by rw [clearK_zero, G0.out]; simp [h1], rfl⟩
    · go_wp2_with fail
      go_meet
      exact ⟨by rw [clearK_zero, G0.out, decide_eq_false (by omega)]; rfl, rfl⟩
  case rest =>
  obtain ⟨rfl, rfl⟩ := hcut
  go_wp2_with fail
  have qc := q0.on hb
  go_loop [7, 8] (fun v i => ∃ k : Nat, k ≤ n0' ∧ i = .int .i64 k ∧ v = .bool (clearK bs' p k)) (fun _ i => n0' - (intOf i).toNat)
  case atStart => exact ⟨0, Nat.zero_le _, rfl, rfl⟩
  case round =>
    obtain ⟨k, hk, rfl, rfl⟩ := hrel
    by_cases hlt : k < n0'
    · obtain ⟨b, o, x, rfl, _, hxk, hcx⟩ := qc.u8 (k := k) (by rw [G0.out]; exact hlt)
      have Hxk := hide hxk; clear hxk
      have hc_lt : x.toNat < 256 := x.toNat_lt
      cases hcl : clearK bs' p k
      · have Hcl := hide hcl; clear hcl
        go_wp2_with fail
        go_round
        case rel => exact ⟨k + 1, by omega, by go_num, by rw [clearK_false bs' p k x Hxk.out Hcl.out]⟩
        case measure => simp [intOf]; omega
      · have Hcl := hide hcl; clear hcl
        by_cases hkp : (k : Int) < p
        · go_wp2_with fail
          go_round
          case rel => exact ⟨k + 1, by omega, by go_num, by rw [clearK_before bs' p k Hcl.out hkp]⟩
          case measure => simp [intOf]; omega
        · go_wp2_with fail
          go_round
          case rel => exact ⟨k + 1, by omega, by go_num, by rw [clearK_at bs' p k x Hxk.out Hcl.out hkp]; exact congrArg Value.bool (by rw [Bool.eq_iff_iff]; simp [← UInt8.toNat_inj])⟩
          case measure => simp [intOf]; omega
    · obtain rfl : k = n0' := by omega
      have hcl : clearK bs' p k = clearB bs' p := by rw [← clearK_all, G0.out]
      rw [hcl]
      have Hcl := hide hcl; clear hcl
      rcases Hcase.out with ⟨h128, rfl, rfl, ho⟩ | ⟨h128, rfl, rfl⟩
      · have Ho := hide ho; clear ho Hcase
        have hl : (fill128 bs').length = 128 := by have := G0.out; simp [fill128]; omega
        have Hl := hide hl; clear hl
        have sx := fun x : Ext wc => run_str (P := Try.prog) (n := 128) (c := c1) 22 9 5 Try.underlying22 Try.underlying5 Try.underlying9 (x.rd (Rd.of_own Ho.out)) Hl.out
        have sb := fun x : Ext wc => run_str (P := Try.prog) (n := k) (c := c0) 22 9 5 Try.underlying22 Try.underlying5 Try.underlying9 (x.rd qc) G0.out
        have hsz : (⟨bs'.toArray⟩ : ByteArray).size ≤ 128 := by
          have : (⟨bs'.toArray⟩ : ByteArray).size = k := by rw [← G0.out]; rfl
          omega
        have H2 := hide (fun W => refFill_any ⟨bs'.toArray⟩ W hsz)
        have H3 := hide (fun x : Ext wc => show Calls Try.prog 15 #[.slice A1 128 c1, .int .i64 (k : Int)] x.w fun e w' => e = .returned (.bool true) ∧ x.w = w' by
          have := clear_any A1 128 c1 k (fill128 bs') x.w (x.rd (Rd.of_own Ho.out)) Hl.out (by obtain ⟨A, c, h1, h2, _⟩ := own_form Ho.out; injection h1 with _ _ h3; omega) (by omega)
          rwa [← G0.out, clearB_fill, G0.out] at this)
        clear hsz
        go_wp2_with (go_at_call 15; refine (clear_any A0 k c0 p bs' _ qc G0.out f0 (by omega)).mono ?_; rintro e w' ⟨rfl, rfl⟩)
        refine wp_region_ext wc (by kernel_rfl) (by kernel_rfl) (Below.refl _ _) ?_
        repeat (first
          | go_big_quiet_step (first | (go_at_call 16; exact Ext.same _ (unhide H2 _)) | (go_at_call 15; exact Ext.same _ (unhide H3 _)) | (go_at_call 11; exact Ext.call _ (awake_any _)))
          | quiet_step (first | (go_at_call 16; exact Ext.same _ (unhide H2 _)) | (go_at_call 15; exact Ext.same _ (unhide H3 _)) | (go_at_call 11; exact Ext.call _ (awake_any _))))
        refine wpQuiet_nil ?_
        intro _ hw'
        obtain ⟨⟨wx, hx⟩, rfl⟩ := hw'
        go_wp2_with fail
        go_ret
        exact ⟨rfl, hb.trans (hx.mono hb.size)⟩
      · clear Hcase
        go_wp2_with (go_at_call 15; refine (clear_any A0 k c0 p bs' _ qc G0.out f0 (by omega)).mono ?_; rintro e w' ⟨rfl, rfl⟩)
        refine (awake_any _).mono ?_
        rintro e w4 ⟨rfl, hb4⟩
        go_wp2_with fail
        go_ret
        exact ⟨rfl, hb.trans (hb4.mono hb.size)⟩
end Go.Proofs.Ytfcllcofikdjaaa
