/- Layer 5: supers and labels by the document's text. No condition. -/
import Derived.Test.YtfpclheplipjfaaLabE
namespace Go.Proofs.Ytfpclheplipjfaa
open Go.RowKit

set_option maxRecDepth 100000 in
set_option maxHeartbeats 4000000 in
theorem superRef_any (d l v s : Nat) (w : World) (h : mayG d l v s) :
    Calls Try.prog 13 #[.agg #[.int .i64 (d : Int), .int .i64 (l : Int), .int .i64 (v : Int), .int .i64 (s : Int)]] w fun e w' => e = .returned (.string ⟨(superB d l v s).toArray⟩) ∧ Below w.heap.size w w' := by
  unfold mayG at h
  have B0 := hide (Blk.new w 23 #[.int .i64 (d : Int), .int .i64 (l : Int), .int .i64 (v : Int), .int .i64 (s : Int)])
  have F1 := hide (fun w => octOf_lit2 d w (by omega)); have F2 := hide (fun w => octOf_lit2 l w (by omega)); have F3 := hide (fun w => octOf_lit1 v w (by omega)); have F4 := hide (fun w => octOf_lit2 s w (by omega))
  have l1 := octs_length d 2; have l2 := octs_length l 2; have l3 := octs_length v 1; have l4 := octs_length s 2
  have hs : ((({ data := #[104, 97, 121, 109] } : ByteArray) ++ ⟨(octs d 2).toArray⟩ ++ ⟨(octs l 2).toArray⟩ ++ ⟨(octs v 1).toArray⟩ ++ ⟨(octs s 2).toArray⟩).data.toList) = haymB ++ packB (superN d l v s) := by
    simp [packB, superN, haymB]
  have hz : ((({ data := #[104, 97, 121, 109] } : ByteArray) ++ ⟨(octs d 2).toArray⟩ ++ ⟨(octs l 2).toArray⟩ ++ ⟨(octs v 1).toArray⟩ ++ ⟨(octs s 2).toArray⟩).size) ≤ 124 := by
    have : ((({ data := #[104, 97, 121, 109] } : ByteArray) ++ ⟨(octs d 2).toArray⟩ ++ ⟨(octs l 2).toArray⟩ ++ ⟨(octs v 1).toArray⟩ ++ ⟨(octs s 2).toArray⟩).data.toList).length = 11 := by rw [hs, List.length_append, superN_len]; rfl
    rw [Array.length_toList] at this
    exact Nat.le_trans (Nat.le_of_eq this) (by decide)
  have G := fun w => refSeal_any (({ data := #[104, 97, 121, 109] } : ByteArray) ++ ⟨(octs d 2).toArray⟩ ++ ⟨(octs l 2).toArray⟩ ++ ⟨(octs v 1).toArray⟩ ++ ⟨(octs s 2).toArray⟩) w hz
  rw [hs] at G
  change ∀ w, Calls _ _ _ _ (fun e w' => e = .returned (.string ⟨(superB d l v s).toArray⟩) ∧ Below w.heap.size w w') at G
  generalize superB d l v s = R at G ⊢
  replace G := hide G
  clear hs hz
  go_enter Try.func13, Try.ntmps13
  go_wp2_with fail
  have hb := hide (box1 (w := w) (o := .cells #[.int .i64 (d : Int), .int .i64 (l : Int), .int .i64 (v : Int), .int .i64 (s : Int)] 23))
  generalize (w.alloc _) = W at B0 hb ⊢
  have c0 := fun x : Ext W => (B0.out.below x.h B0.out.lt).cell_ 0 _ rfl
  have c1 := fun x : Ext W => (B0.out.below x.h B0.out.lt).cell_ 1 _ rfl
  have c2 := fun x : Ext W => (B0.out.below x.h B0.out.lt).cell_ 2 _ rfl
  have c3 := fun x : Ext W => (B0.out.below x.h B0.out.lt).cell_ 3 _ rfl
  refine wp_region_ext W (by kernel_rfl) (by kernel_rfl) (Below.refl _ _) ?_
  repeat (first | go_big_quiet_step ((first | (first | (go_at_call 27; first | (with_reducible exact Ext.call _ (unhide F1 _)) | (with_reducible exact Ext.call _ (unhide F2 _)) | (with_reducible exact Ext.call _ (unhide F3 _)) | (with_reducible exact Ext.call _ (unhide F4 _))) | (go_at_call 26; exact Ext.call _ (unhide G _))))) | quiet_step ((first | (first | (go_at_call 27; first | (with_reducible exact Ext.call _ (unhide F1 _)) | (with_reducible exact Ext.call _ (unhide F2 _)) | (with_reducible exact Ext.call _ (unhide F3 _)) | (with_reducible exact Ext.call _ (unhide F4 _))) | (go_at_call 26; exact Ext.call _ (unhide G _))))))
  refine wpQuiet_nil ?_
  intro wx hw'
  obtain ⟨⟨_, hx⟩, rfl⟩ := hw'
  clear c0 c1 c2 c3
  go_wp2_with fail
  go_ret
  exact ⟨rfl, nextB hb.out hx⟩
set_option maxRecDepth 100000 in
set_option maxHeartbeats 4000000 in
theorem labelRef_any (v g : Nat) (w : World) (h : mayL v g) :
    Calls Try.prog 15 #[.int .i64 (v : Int), .int .i64 (g : Int)] w fun e w' => e = .returned (.string ⟨(labelB v g).toArray⟩) ∧ Below w.heap.size w w' := by
  unfold mayL at h
  have F1 := hide (fun w => octOf_lit1 v w (by omega)); have F2 := hide (fun w => octOf_lit4 g w (by omega))
  have l1 := octs_length v 1; have l2 := octs_length g 4
  have hs : ((({ data := #[104, 118, 111, 108] } : ByteArray) ++ ⟨(octs v 1).toArray⟩ ++ ⟨(octs g 4).toArray⟩).data.toList) = hvolB ++ packB (labelN v g) := by
    simp [packB, labelN, hvolB]
  have hz : ((({ data := #[104, 118, 111, 108] } : ByteArray) ++ ⟨(octs v 1).toArray⟩ ++ ⟨(octs g 4).toArray⟩).size) ≤ 124 := by
    have : ((({ data := #[104, 118, 111, 108] } : ByteArray) ++ ⟨(octs v 1).toArray⟩ ++ ⟨(octs g 4).toArray⟩).data.toList).length = 9 := by rw [hs, List.length_append, labelN_len]; rfl
    rw [Array.length_toList] at this
    exact Nat.le_trans (Nat.le_of_eq this) (by decide)
  have G := fun w => refSeal_any (({ data := #[104, 118, 111, 108] } : ByteArray) ++ ⟨(octs v 1).toArray⟩ ++ ⟨(octs g 4).toArray⟩) w hz
  rw [hs] at G
  change ∀ w, Calls _ _ _ _ (fun e w' => e = .returned (.string ⟨(labelB v g).toArray⟩) ∧ Below w.heap.size w w') at G
  generalize labelB v g = R at G ⊢
  replace G := hide G
  clear hs hz
  go_enter Try.func15, Try.ntmps15
  go_wp2_with (first
    | (go_at_call 27; (with_reducible refine (unhide F1 _).mono ?_); rintro e w1 ⟨rfl, hb1⟩)
    | (go_at_call 27; (with_reducible refine (unhide F2 _).mono ?_); rintro e w2 ⟨rfl, hb2⟩)
    | (go_at_call 26; refine (unhide G _).mono ?_; rintro e w3 ⟨rfl, hb3⟩))
  go_ret
  exact ⟨rfl, nextB hb1 (nextB hb2 hb3)⟩
set_option maxHeartbeats 1000000 in
theorem mayLRef_any (v g : Int) (w : World) :
    Calls Try.prog 14 #[.int .i64 v, .int .i64 g] w fun e w' => e = .returned (.bool (decide (mayL v g))) ∧ w = w' := by
  rcases (show v < 0 ∨ (0 ≤ v ∧ ¬ v < 8) ∨ (0 ≤ v ∧ v < 8 ∧ g < 0) ∨ (0 ≤ v ∧ v < 8 ∧ 0 ≤ g ∧ 4294967295 < g) ∨ (0 ≤ v ∧ v < 8 ∧ 0 ≤ g ∧ g ≤ 4294967295) by omega) with h1 | ⟨h1, h2⟩ | ⟨h1, h2, h3⟩ | ⟨h1, h2, h3, h4⟩ | ⟨h1, h2, h3, h4⟩
  case inr.inr.inr.inr =>
    rw [decide_eq_true (show mayL v g by unfold mayL; omega)]
    go_enter Try.func14, Try.ntmps14
    go_wp2_with fail
    go_ret
    exact ⟨rfl, rfl⟩
  all_goals
    rw [decide_eq_false (show ¬ mayL v g by unfold mayL; omega)]
    go_enter Try.func14, Try.ntmps14
    go_wp2_with fail
    go_ret
    first | exact ⟨rfl, rfl⟩ | exact ⟨ret_bool (decide_eq_false (by omega)), rfl⟩
set_option maxHeartbeats 1000000 in
theorem few_any (A : Option Addr) (n c n' : Nat) (w : World) (hc : n ≤ c) (h : n ≤ 200 ∧ n' = n ∨ 200 < n ∧ n' = 200) :
    Calls Try.prog 16 #[.slice A n c] w fun e w' => e = .returned (.slice A n' c) ∧ w = w' := by
  rcases h with ⟨h, rfl⟩ | ⟨h, rfl⟩
  all_goals
    go_enter Try.func16, Try.ntmps16
    go_wp2_with fail
    go_ret
    exact ⟨rfl, rfl⟩
set_option maxRecDepth 100000 in
set_option maxHeartbeats 8000000 in
theorem readSRef_any (z : ByteArray) (bs : List UInt8) (hz : z = ⟨bs.toArray⟩) (w : World) (hm : bs.length ≤ 4294967296) :
    Calls Try.prog 17 #[.string z] w fun e w' => e = .returned (.tuple #[.agg #[.int .i64 (readS bs).1.1, .int .i64 (readS bs).1.2.1, .int .i64 (readS bs).1.2.2.1, .int .i64 (readS bs).1.2.2.2], .int .i64 (readS bs).2]) ∧ Below w.heap.size w w' := by
  subst hz
  have hsz : (⟨bs.toArray⟩ : ByteArray).size = bs.length := List.size_toArray
  have H := fun w => refHeld_any ⟨bs.toArray⟩ w (by rw [hsz]; exact hm)
  have B0 := hide (Blk.new w 23 #[.int .i64 0, .int .i64 0, .int .i64 0, .int .i64 0])
  obtain ⟨r, hr⟩ : ∃ r, r = readS bs := ⟨_, rfl⟩
  rw [← hr]
  unfold readS at hr
  rcases hh : heldB bs with _ | _
  · rw [if_pos hh] at hr
    rw [show (⟨bs.toArray⟩ : ByteArray).data.toList = bs by simp, hh] at H
    subst hr
    replace H := hide H
    clear hh hsz
    go_enter Try.func17, Try.ntmps17
    go_wp2_with (go_at_call 28; (with_reducible refine (unhide H _).mono ?_); rintro e w1 ⟨rfl, hb1⟩; have B1 := hide (B0.out.below hb1 B0.out.lt); have hb := hide (nextB box1 hb1); have f0 := B1.out.frozen 0; have f1 := B1.out.frozen 1; have f2 := B1.out.frozen 2; have f3 := B1.out.frozen 3; have k0 := B1.out.cell_ 0 _ rfl; have k1 := B1.out.cell_ 1 _ rfl; have k2 := B1.out.cell_ 2 _ rfl; have k3 := B1.out.cell_ 3 _ rfl; clear hb1)
    exact bodyPost_ret (results_pair rfl _ _ Try.wideGeo w.heap.size 0 [.int .i64 0, .int .i64 0, .int .i64 0, .int .i64 0] rfl rfl (blk_from (geo_blk B1.out))) rfl ⟨rfl, geo_below hb.out (Nat.le_refl _)⟩
  · rw [if_neg (by rw [hh]; simp)] at hr
    rw [show (⟨bs.toArray⟩ : ByteArray).data.toList = bs by simp, hh] at H
    have h128 := held_len hh
    rw [h128] at hsz
    have G1 : ∀ w, Calls Try.prog 29 #[.string ⟨bs.toArray⟩, .int .i64 4, .int .i64 2] w fun e w' => e = .returned (.int .u64 (sup bs 4 2 : Nat)) ∧ w = w' := fun w => get_any ⟨bs.toArray⟩ 4 2 w (by decide) (by omega) (by omega)
    have G2 : ∀ w, Calls Try.prog 29 #[.string ⟨bs.toArray⟩, .int .i64 6, .int .i64 2] w fun e w' => e = .returned (.int .u64 (sup bs 6 2 : Nat)) ∧ w = w' := fun w => get_any ⟨bs.toArray⟩ 6 2 w (by decide) (by omega) (by omega)
    have G3 : ∀ w, Calls Try.prog 29 #[.string ⟨bs.toArray⟩, .int .i64 8, .int .i64 1] w fun e w' => e = .returned (.int .u64 (sup bs 8 1 : Nat)) ∧ w = w' := fun w => get_any ⟨bs.toArray⟩ 8 1 w (by decide) (by omega) (by omega)
    have G4 : ∀ w, Calls Try.prog 29 #[.string ⟨bs.toArray⟩, .int .i64 9, .int .i64 2] w fun e w' => e = .returned (.int .u64 (sup bs 9 2 : Nat)) ∧ w = w' := fun w => get_any ⟨bs.toArray⟩ 9 2 w (by decide) (by omega) (by omega)
    have a0 := sup_lt bs 4 2; have a1 := sup_lt bs 6 2; have a2 := sup_lt bs 8 1; have a3 := sup_lt bs 9 2
    generalize sup bs 4 2 = d at G1 hr a0
    generalize sup bs 6 2 = l at G2 hr a1
    generalize sup bs 8 1 = v at G3 hr a2
    generalize sup bs 9 2 = s at G4 hr a3
    have M := fun w => mayRef_any d l v s w
    have S := fun (h : mayG d l v s) w => superRef_any d l v s w h
    generalize superB d l v s = own at S hr
    replace H := hide H; replace G1 := hide G1; replace G2 := hide G2; replace G3 := hide G3; replace G4 := hide G4
    clear hh h128 hsz
    by_cases hg : mayG d l v s
    · rw [decide_eq_true hg] at M
      replace M := hide M
      have S := hide (S hg)
      by_cases hq : own = bs
      · rw [if_pos ⟨hg, hq⟩] at hr
        have hqb : (own == bs) = true := by simpa using hq
        replace hr := hide hr; replace hq := hide hq
        clear hg
        go_enter Try.func17, Try.ntmps17
        go_wp2_with (first
          | (go_at_call 28; (with_reducible refine (unhide H _).mono ?_); rintro e w1 ⟨rfl, hb1⟩; have B1 := hide (B0.out.below hb1 B0.out.lt); have hb := hide (nextB box1 hb1); clear hb1)
          | (go_at_call 29; first | ((with_reducible refine (unhide G1 _).mono ?_); rintro e w2 ⟨rfl, rfl⟩) | ((with_reducible refine (unhide G2 _).mono ?_); rintro e w2 ⟨rfl, rfl⟩) | ((with_reducible refine (unhide G3 _).mono ?_); rintro e w2 ⟨rfl, rfl⟩) | ((with_reducible refine (unhide G4 _).mono ?_); rintro e w2 ⟨rfl, rfl⟩))
          | (go_at_call 10; (with_reducible refine (unhide M _).mono ?_); rintro e w3 ⟨rfl, hb3⟩; have B4 := hide ((Blk.new w1 23 #[.int .i64 (d : Int), .int .i64 (l : Int), .int .i64 (v : Int), .int .i64 (s : Int)]).below hb3 (by simp)); replace B1 := hide ((B1.out.alloc _).below hb3 (B1.out.alloc _).lt); replace hb := hide (nextB (hb.out.alloc hb.out.size _) hb3); have q0 := B4.out.cell_ 0 _ rfl; have q1 := B4.out.cell_ 1 _ rfl; have q2 := B4.out.cell_ 2 _ rfl; have q3 := B4.out.cell_ 3 _ rfl; have f0 := B1.out.frozen 0; have k0 := B1.out.cell_ 0 _ rfl; have f1 := B1.out.frozen 1; have k1 := B1.out.cell_ 1 _ rfl; have f2 := B1.out.frozen 2; have k2 := B1.out.cell_ 2 _ rfl; have f3 := B1.out.frozen 3; have k3 := B1.out.cell_ 3 _ rfl; clear hb3)
          | (go_at_call 13; (with_reducible refine (unhide S _).mono ?_); rintro e w4 ⟨rfl, hb4⟩; clear q0 q1 q2 q3 f0 f1 f2 f3 k0 k1 k2 k3; replace B4 := hide (B4.out.below hb4 B4.out.lt); replace B1 := hide (B1.out.below hb4 B1.out.lt); replace hb := hide (nextB hb.out hb4); have q0 := B4.out.cell_ 0 _ rfl; have q1 := B4.out.cell_ 1 _ rfl; have q2 := B4.out.cell_ 2 _ rfl; have q3 := B4.out.cell_ 3 _ rfl; have f0 := B1.out.frozen 0; have k0 := B1.out.cell_ 0 _ rfl; have f1 := B1.out.frozen 1; have k1 := B1.out.cell_ 1 _ rfl; have f2 := B1.out.frozen 2; have k2 := B1.out.cell_ 2 _ rfl; have f3 := B1.out.frozen 3; have k3 := B1.out.cell_ 3 _ rfl; clear hb4))
        exact bodyPost_ret (results_pair rfl _ _ Try.wideGeo w.heap.size 0 [.int .i64 (d : Int), .int .i64 (l : Int), .int .i64 (v : Int), .int .i64 (s : Int)] rfl rfl (blk_from (geo_blk B1.out))) rfl ⟨by rw [hr.out]; rfl, geo_below hb.out (Nat.le_refl _)⟩
      · rw [if_neg (fun h => hq h.2)] at hr
        have hqb : (own == bs) = false := by simpa using hq
        subst hr
        replace hq := hide hq
        clear hg
        go_enter Try.func17, Try.ntmps17
        go_wp2_with (first
          | (go_at_call 28; (with_reducible refine (unhide H _).mono ?_); rintro e w1 ⟨rfl, hb1⟩; have B1 := hide (B0.out.below hb1 B0.out.lt); have hb := hide (nextB box1 hb1); clear hb1)
          | (go_at_call 29; first | ((with_reducible refine (unhide G1 _).mono ?_); rintro e w2 ⟨rfl, rfl⟩) | ((with_reducible refine (unhide G2 _).mono ?_); rintro e w2 ⟨rfl, rfl⟩) | ((with_reducible refine (unhide G3 _).mono ?_); rintro e w2 ⟨rfl, rfl⟩) | ((with_reducible refine (unhide G4 _).mono ?_); rintro e w2 ⟨rfl, rfl⟩))
          | (go_at_call 10; (with_reducible refine (unhide M _).mono ?_); rintro e w3 ⟨rfl, hb3⟩; have B4 := hide ((Blk.new w1 23 #[.int .i64 (d : Int), .int .i64 (l : Int), .int .i64 (v : Int), .int .i64 (s : Int)]).below hb3 (by simp)); replace B1 := hide ((B1.out.alloc _).below hb3 (B1.out.alloc _).lt); replace hb := hide (nextB (hb.out.alloc hb.out.size _) hb3); have q0 := B4.out.cell_ 0 _ rfl; have q1 := B4.out.cell_ 1 _ rfl; have q2 := B4.out.cell_ 2 _ rfl; have q3 := B4.out.cell_ 3 _ rfl; have f0 := B1.out.frozen 0; have k0 := B1.out.cell_ 0 _ rfl; have f1 := B1.out.frozen 1; have k1 := B1.out.cell_ 1 _ rfl; have f2 := B1.out.frozen 2; have k2 := B1.out.cell_ 2 _ rfl; have f3 := B1.out.frozen 3; have k3 := B1.out.cell_ 3 _ rfl; clear hb3)
          | (go_at_call 13; (with_reducible refine (unhide S _).mono ?_); rintro e w4 ⟨rfl, hb4⟩; clear q0 q1 q2 q3 f0 f1 f2 f3 k0 k1 k2 k3; replace B4 := hide (B4.out.below hb4 B4.out.lt); replace B1 := hide (B1.out.below hb4 B1.out.lt); replace hb := hide (nextB hb.out hb4); have q0 := B4.out.cell_ 0 _ rfl; have q1 := B4.out.cell_ 1 _ rfl; have q2 := B4.out.cell_ 2 _ rfl; have q3 := B4.out.cell_ 3 _ rfl; have f0 := B1.out.frozen 0; have k0 := B1.out.cell_ 0 _ rfl; have f1 := B1.out.frozen 1; have k1 := B1.out.cell_ 1 _ rfl; have f2 := B1.out.frozen 2; have k2 := B1.out.cell_ 2 _ rfl; have f3 := B1.out.frozen 3; have k3 := B1.out.cell_ 3 _ rfl; clear hb4))
        exact bodyPost_ret (results_pair rfl _ _ Try.wideGeo w.heap.size 0 [.int .i64 0, .int .i64 0, .int .i64 0, .int .i64 0] rfl rfl (blk_from (geo_blk B1.out))) rfl ⟨rfl, geo_below hb.out (Nat.le_refl _)⟩
    · rw [if_neg (fun h => hg h.1)] at hr
      rw [decide_eq_false hg] at M
      replace M := hide M
      subst hr
      clear hg S
      go_enter Try.func17, Try.ntmps17
      go_wp2_with (first
        | (go_at_call 28; (with_reducible refine (unhide H _).mono ?_); rintro e w1 ⟨rfl, hb1⟩; have B1 := hide (B0.out.below hb1 B0.out.lt); have hb := hide (nextB box1 hb1); clear hb1)
        | (go_at_call 29; first | ((with_reducible refine (unhide G1 _).mono ?_); rintro e w2 ⟨rfl, rfl⟩) | ((with_reducible refine (unhide G2 _).mono ?_); rintro e w2 ⟨rfl, rfl⟩) | ((with_reducible refine (unhide G3 _).mono ?_); rintro e w2 ⟨rfl, rfl⟩) | ((with_reducible refine (unhide G4 _).mono ?_); rintro e w2 ⟨rfl, rfl⟩))
        | (go_at_call 10; (with_reducible refine (unhide M _).mono ?_); rintro e w3 ⟨rfl, hb3⟩; have B4 := hide ((Blk.new w1 23 #[.int .i64 (d : Int), .int .i64 (l : Int), .int .i64 (v : Int), .int .i64 (s : Int)]).below hb3 (by simp)); replace B1 := hide ((B1.out.alloc _).below hb3 (B1.out.alloc _).lt); replace hb := hide (nextB (hb.out.alloc hb.out.size _) hb3); have q0 := B4.out.cell_ 0 _ rfl; have q1 := B4.out.cell_ 1 _ rfl; have q2 := B4.out.cell_ 2 _ rfl; have q3 := B4.out.cell_ 3 _ rfl; have f0 := B1.out.frozen 0; have k0 := B1.out.cell_ 0 _ rfl; have f1 := B1.out.frozen 1; have k1 := B1.out.cell_ 1 _ rfl; have f2 := B1.out.frozen 2; have k2 := B1.out.cell_ 2 _ rfl; have f3 := B1.out.frozen 3; have k3 := B1.out.cell_ 3 _ rfl; clear hb3))
      exact bodyPost_ret (results_pair rfl _ _ Try.wideGeo w.heap.size 0 [.int .i64 0, .int .i64 0, .int .i64 0, .int .i64 0] rfl rfl (blk_from (geo_blk B1.out))) rfl ⟨rfl, geo_below hb.out (Nat.le_refl _)⟩
end Go.Proofs.Ytfpclheplipjfaa
