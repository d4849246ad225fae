/- Layer 5: labels by the document's text; the chapter's examples. No condition. -/
import Derived.Test.YtfpclheplipjfaaLabF
namespace Go.Proofs.Ytfpclheplipjfaa
open Go.RowKit

set_option maxRecDepth 100000 in
set_option maxHeartbeats 8000000 in
theorem readLRef_any (z : ByteArray) (bs : List UInt8) (hz : z = ⟨bs.toArray⟩) (w : World) (hm : bs.length ≤ 4294967296) :
    Calls Try.prog 18 #[.string z] w fun e w' => e = .returned (.tuple #[.int .i64 (readL bs).1.1, .int .i64 (readL bs).1.2, .int .i64 (readL bs).2]) ∧ Below w.heap.size w w' := by
  subst hz
  have hsz : (⟨bs.toArray⟩ : ByteArray).size = bs.length := List.size_toArray
  have H := fun w => refHeld_any ⟨bs.toArray⟩ w (by rw [hsz]; exact hm)
  obtain ⟨r, hr⟩ : ∃ r, r = readL bs := ⟨_, rfl⟩
  rw [← hr]
  unfold readL at hr
  rcases hh : heldB bs with _ | _
  · rw [if_pos hh] at hr
    rw [show (⟨bs.toArray⟩ : ByteArray).data.toList = bs by simp, hh] at H
    subst hr
    replace H := hide H
    clear hh hsz
    go_enter Try.func18, Try.ntmps18
    go_wp2_with (go_at_call 28; (with_reducible refine (unhide H _).mono ?_); rintro e w1 ⟨rfl, hb1⟩)
    go_ret3
    exact ⟨rfl, hb1⟩
  · rw [if_neg (by rw [hh]; simp)] at hr
    rw [show (⟨bs.toArray⟩ : ByteArray).data.toList = bs by simp, hh] at H
    have h128 := held_len hh
    rw [h128] at hsz
    have G1 : ∀ w, Calls Try.prog 29 #[.string ⟨bs.toArray⟩, .int .i64 4, .int .i64 1] w fun e w' => e = .returned (.int .u64 (sup bs 4 1 : Nat)) ∧ w = w' := fun w => get_any ⟨bs.toArray⟩ 4 1 w (by decide) (by omega) (by omega)
    have G2 : ∀ w, Calls Try.prog 29 #[.string ⟨bs.toArray⟩, .int .i64 5, .int .i64 4] w fun e w' => e = .returned (.int .u64 (sup bs 5 4 : Nat)) ∧ w = w' := fun w => get_any ⟨bs.toArray⟩ 5 4 w (by decide) (by omega) (by omega)
    have a0 := sup_lt bs 4 1; have a1 := sup_lt bs 5 4
    generalize sup bs 4 1 = v at G1 hr a0
    generalize sup bs 5 4 = g at G2 hr a1
    have M := fun w => mayLRef_any v g w
    have S := fun (h : mayL v g) w => labelRef_any v g w h
    generalize labelB v g = own at S hr
    replace H := hide H; replace G1 := hide G1; replace G2 := hide G2
    clear hh h128 hsz
    by_cases hg : mayL v g
    · rw [decide_eq_true hg] at M
      replace M := hide M
      have S := hide (S hg)
      by_cases hq : own = bs
      · rw [if_pos ⟨hg, hq⟩] at hr
        have hqb : (own == bs) = true := by simpa using hq
        replace hr := hide hr; replace hq := hide hq
        clear hg
        go_enter Try.func18, Try.ntmps18
        go_wp2_with (first
          | (go_at_call 28; (with_reducible refine (unhide H _).mono ?_); rintro e w1 ⟨rfl, hb1⟩)
          | (go_at_call 29; first | ((with_reducible refine (unhide G1 _).mono ?_); rintro e w2 ⟨rfl, rfl⟩) | ((with_reducible refine (unhide G2 _).mono ?_); rintro e w2 ⟨rfl, rfl⟩))
          | (go_at_call 14; (with_reducible refine (unhide M _).mono ?_); rintro e w3 ⟨rfl, rfl⟩)
          | (go_at_call 15; (with_reducible refine (unhide S _).mono ?_); rintro e w4 ⟨rfl, hb4⟩))
        go_ret3
        exact ⟨by rw [hr.out]; rfl, nextB hb1 hb4⟩
      · rw [if_neg (fun h => hq h.2)] at hr
        have hqb : (own == bs) = false := by simpa using hq
        subst hr
        replace hq := hide hq
        clear hg
        go_enter Try.func18, Try.ntmps18
        go_wp2_with (first
          | (go_at_call 28; (with_reducible refine (unhide H _).mono ?_); rintro e w1 ⟨rfl, hb1⟩)
          | (go_at_call 29; first | ((with_reducible refine (unhide G1 _).mono ?_); rintro e w2 ⟨rfl, rfl⟩) | ((with_reducible refine (unhide G2 _).mono ?_); rintro e w2 ⟨rfl, rfl⟩))
          | (go_at_call 14; (with_reducible refine (unhide M _).mono ?_); rintro e w3 ⟨rfl, rfl⟩)
          | (go_at_call 15; (with_reducible refine (unhide S _).mono ?_); rintro e w4 ⟨rfl, hb4⟩))
        go_ret3
        exact ⟨rfl, nextB hb1 hb4⟩
    · rw [if_neg (fun h => hg h.1)] at hr
      rw [decide_eq_false hg] at M
      replace M := hide M
      subst hr
      clear hg S
      go_enter Try.func18, Try.ntmps18
      go_wp2_with (first
        | (go_at_call 28; (with_reducible refine (unhide H _).mono ?_); rintro e w1 ⟨rfl, hb1⟩)
        | (go_at_call 29; first | ((with_reducible refine (unhide G1 _).mono ?_); rintro e w2 ⟨rfl, rfl⟩) | ((with_reducible refine (unhide G2 _).mono ?_); rintro e w2 ⟨rfl, rfl⟩))
        | (go_at_call 14; (with_reducible refine (unhide M _).mono ?_); rintro e w3 ⟨rfl, rfl⟩))
      go_ret3
      exact ⟨rfl, hb1⟩
theorem aw_head : (superB 10 2 2 3).take 12 = [104, 97, 121, 109, 0, 10, 0, 2, 2, 0, 3, 0] := by
  have h : (haymB ++ packB (superN 10 2 2 3)).length ≤ 124 := by rw [List.length_append, superN_len]; decide
  have h2 := sealB_take _ h
  unfold superB
  have h3 : (sealB (haymB ++ packB (superN 10 2 2 3))).take 12 = ((sealB (haymB ++ packB (superN 10 2 2 3))).take 124).take 12 := by rw [List.take_take]; rfl
  rw [h3, h2]
  decide
theorem aw_zero : heldB (List.replicate 128 0) = false := by decide +kernel
theorem aw_read : readS (List.replicate 128 0) = ((0, 0, 0, 0), 5) := by unfold readS; rw [if_pos aw_zero]
set_option maxRecDepth 100000 in
set_option maxHeartbeats 8000000 in
theorem awake_any (w : World) : Calls Try.prog 9 #[] w fun e w' => e = .returned (.bool true) ∧ Below w.heap.size w w' := by
  have S := fun w => super_any 10 2 2 3 w (by unfold geoOk; omega)
  have hm : superR 10 2 2 3 = (superB 10 2 2 3, 0) := if_pos (by decide)
  have hl := superB_len 10 2 2 3
  have hh := aw_head
  rw [hm] at S
  generalize superB 10 2 2 3 = R at S hl hh
  have L := fun w => label_any 8 0 w (by omega) (by omega)
  rw [show labelR 8 0 = ([], 1) from if_neg (by decide)] at L
  replace S := hide S; replace L := hide L; replace hh := hide hh
  clear hm
  obtain ⟨zs, Hz, hmk⟩ := run_mk (P := Try.prog) Try.el_u8 .i64 .i64 128 128 128 128 rfl rfl (by decide) (by decide) (by decide)
  have RS := hide (fun (w : World) => readSuper_any (some ⟨w.heap.size, 0, none⟩) 128 128 (List.replicate 128 0) (w.alloc (.cells zs 5)) (by have := (Blk.new w 5 zs).rd; rw [made_one Hz.out] at this; exact this) rfl (by decide))
  rw [aw_read] at RS
  have hlR := hide hl
  go_enter Try.func9, Try.ntmps9
  go_wp2_with (first
    | (go_at_call 7; (with_reducible refine (unhide S _).mono ?_); rintro e w1 ⟨A1, c1, rfl, hr1, hc1, hb1⟩; replace hr1 := hide hr1; have hb := hide hb1; clear hb1)
    | (go_at_call 11; (with_reducible refine (unhide RS _).mono ?_); rintro e w2 ⟨rfl, hb2⟩; replace hr1 := hide ((hr1.out.alloc _).on hb2); replace hb := hide (nextB (hb.out.alloc hb.out.size _) hb2); clear hb2)
    | (go_at_call 8; (with_reducible refine (unhide L _).mono ?_); rintro e w3 ⟨A3, c3, rfl, _, hc3, hb3⟩; replace hr1 := hide ((hr1.out.alloc _).on hb3); replace hb := hide (nextB (hb.out.alloc hb.out.size _) hb3); clear hb3; have s1 := run_str (P := Try.prog) (n := 12) (c := c1) 28 9 5 Try.underlying28 Try.underlying5 Try.underlying9 (bs := R.take 12) (by rw [List.map_take]; exact hr1.out.take 12) (by rw [List.length_take, hlR.out]; rfl); rw [hh.out] at s1))
  go_ret
  exact ⟨rfl, hb.out⟩
end Go.Proofs.Ytfpclheplipjfaa
