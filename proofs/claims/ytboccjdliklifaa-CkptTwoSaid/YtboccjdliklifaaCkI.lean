/- A checkpoint's block by the document's text. No condition. -/
import Derived.Test.YtboccjdliklifaaCkH
import Derived.Test.YtboccjdliklifaaRefCrc
namespace Go.Proofs.Ytboccjdliklifaa
open Go.RowKit

def refK (c : Ck) (i j : Nat) : ByteArray := ⟨(packB (ckN c i j)).toArray⟩
theorem ptrN_bytes (a s : Nat) : packB (ptrN ((a : Int), s)) = octs a 4 ++ octs s 4 := by simp [ptrN, packB]
theorem useN_bytes (n : Nat) : packB (useN (n : Int)) = octs n 2 := by simp [useN, packB]
theorem refK_map {c : Ck} {i : Nat} {a s : Nat} (h : c.map[i]? = some ((a : Int), s)) : refK c i 0 ++ (⟨(octs a 4).toArray⟩ ++ ⟨(octs s 4).toArray⟩) = refK c (i + 1) 0 := by
  unfold refK
  rw [bytes_append, bytes_append, ckN_map h, packB_append, ptrN_bytes]
theorem refK_used {c : Ck} {j : Nat} {n : Nat} (h : c.used[j]? = some (n : Int)) : refK c 4 j ++ ⟨(octs n 2).toArray⟩ = refK c 4 (j + 1) := by
  unfold refK
  rw [bytes_append, ckN_used h, packB_append, useN_bytes]
theorem refK_none {c : Ck} (a b d : Nat) (ha : c.seq = a) (hb : c.nx = b) (hd : c.at_ = d) :
    (({ data := #[99, 107, 112, 116] } : ByteArray) ++ ⟨(octs a 6).toArray⟩ ++ ⟨(octs b 6).toArray⟩ ++ ⟨(octs d 4).toArray⟩) = refK c 0 0 := by
  have : ({ data := #[99, 107, 112, 116] } : ByteArray) = ⟨(octs 1667985524 4).toArray⟩ := by decide
  rw [this, bytes_append, bytes_append, bytes_append]
  unfold refK ckN
  rw [ha, hb, hd]
  simp [packB]
theorem refK_size {c : Ck} (h4 : c.map.length = 4) (h8 : c.used.length = 8) {i j : Nat} (hi : i ≤ 4) (hj : j ≤ 8) : (refK c i j).size ≤ 68 := by
  show (packB (ckN c i j)).toArray.size ≤ _
  rw [List.size_toArray]
  have h1 : (packB (ckN c 4 8)).length = 68 := ckN_bytes h4 h8
  rw [packB_len] at h1 ⊢
  unfold ckN at h1 ⊢
  rw [List.map_append, List.map_append, sumW_append, sumW_append] at h1 ⊢
  have e1 : ∀ l : List (Int × Nat), sumW ((l.flatMap ptrN).map (·.1)) = 8 * l.length := by
    intro l
    induction l with
    | nil => rfl
    | cons x l ih => rw [List.flatMap_cons, List.map_append, sumW_append, ih, List.length_cons]; simp [ptrN, sumW]; omega
  have e2 : ∀ l : List Int, sumW ((l.flatMap useN).map (·.1)) = 2 * l.length := by
    intro l
    induction l with
    | nil => rfl
    | cons x l ih => rw [List.flatMap_cons, List.map_append, sumW_append, ih, List.length_cons]; simp [useN, sumW]; omega
  rw [e1, e2, List.length_take, List.length_take] at h1 ⊢
  have e3 : sumW (([(4, 1667985524), (6, c.seq.toNat), (6, c.nx.toNat), (4, c.at_.toNat)] : List (Int × Nat)).map (·.1)) = 20 := by simp [sumW]
  rw [e3] at h1 ⊢
  omega
set_option maxRecDepth 100000 in
set_option maxHeartbeats 4000000 in
theorem encCkRef_any (c : Ck) (h4 : c.map.length = 4) (h8 : c.used.length = 8) (hs : ∀ p ∈ c.map, p.2 < 4294967296) (hm : mayCk c) (w : World) :
    Calls Try.prog 15 #[.agg (ckC c).toArray] w fun e w' => e = .returned (.string ⟨(ckB c).toArray⟩) ∧ Below w.heap.size w w' := by
  have H4 := hide h4; have H8 := hide h8; have HS := hide hs
  have ZC := hide (ck_size h4 h8)
  obtain ⟨h1, h2, h3, hp, hu⟩ := hm
  replace hp := hide hp; replace hu := hide hu
  obtain ⟨a, ha⟩ := Int.eq_ofNat_of_zero_le (show 0 ≤ c.seq by omega)
  obtain ⟨b, hb⟩ := Int.eq_ofNat_of_zero_le (show 0 ≤ c.nx by omega)
  obtain ⟨d, hd⟩ := Int.eq_ofNat_of_zero_le (show 0 ≤ c.at_ by omega)
  have a1 : a ≤ 281474976710655 := by omega
  have b1 : b ≤ 281474976710655 := by omega
  have d1 : d ≤ 2147483647 := by omega
  have F1 := hide (fun w => octOf_lit6 a w (by omega)); have F2 := hide (fun w => octOf_lit6 b w (by omega)); have F3 := hide (fun w => octOf_lit4 d w (by omega))
  have l1 := octs_length a 6; have l2 := octs_length b 6; have l3 := octs_length d 4
  have B0 := hide (Blk.new w 28 (ckC c).toArray)
  have hbl := hide (box1 (w := w) (o := .cells (ckC c).toArray 28))
  have e1 := hide (refK_none a b d ha hb hd)
  have k0 := fun x : Ext (w.alloc (.cells (ckC c).toArray 28)) => (B0.out.below x.h B0.out.lt).cell_ 0 (.int .i64 (a : Int)) (by rw [← ha]; simp [ckC])
  have k1 := fun x : Ext (w.alloc (.cells (ckC c).toArray 28)) => (B0.out.below x.h B0.out.lt).cell_ 1 (.int .i64 (b : Int)) (by rw [← hb]; simp [ckC])
  have k2 := fun x : Ext (w.alloc (.cells (ckC c).toArray 28)) => (B0.out.below x.h B0.out.lt).cell_ 2 (.int .i64 (d : Int)) (by rw [← hd]; simp [ckC])
  have G := fun w => refSeal_any (refK c 4 8) w (Nat.le_trans (refK_size h4 h8 (Nat.le_refl _) (Nat.le_refl _)) (by decide))
  rw [show (refK c 4 8).data.toList = packB (ckN c 4 8) from rfl] at G
  change ∀ w, Calls _ _ _ _ (fun e w' => e = .returned (.string ⟨(ckB c).toArray⟩) ∧ Below w.heap.size w w') at G
  replace G := hide G
  clear h1 h2 h3 ha hb hd h4 h8 hs
  go_enter Try.func15, Try.ntmps15
  go_wp2_with fail
  generalize (w.alloc _) = W at B0 hbl k0 k1 k2 ⊢
  refine wp_region_ext W (by kernel_rfl) (by kernel_rfl) (Below.refl _ _) ?_
  repeat (first | go_big_quiet_step ((first | (go_at_call 31; first | (with_reducible exact Ext.call _ (unhide F1 _)) | (with_reducible exact Ext.call _ (unhide F2 _)) | (with_reducible exact Ext.call _ (unhide F3 _))))) | quiet_step ((first | (go_at_call 31; first | (with_reducible exact Ext.call _ (unhide F1 _)) | (with_reducible exact Ext.call _ (unhide F2 _)) | (with_reducible exact Ext.call _ (unhide F3 _))))))
  refine wpQuiet_nil ?_
  intro wx hw'
  obtain ⟨⟨_, hx⟩, rfl⟩ := hw'
  rw [e1.out]
  replace B0 := hide (B0.out.below hx B0.out.lt); replace hbl := hide (nextB hbl.out hx)
  clear k0 k1 k2 l1 l2 l3 F1 F2 F3 e1
  go_wp2_with fail
  go_loopw [3, 4] (fun s i wr => ∃ j : Nat, j ≤ 4 ∧ i = .int .i64 (j : Int) ∧ s = .string (refK c j 0) ∧ Blk wr w.heap.size 28 (ckC c).toArray ∧ Below w.heap.size w wr) (fun _ i _ => 4 - (intOf i).toNat)
  case atStart => exact ⟨0, by omega, rfl, rfl, B0.out, hbl.out⟩
  case round =>
    clear B0 hbl
    obtain ⟨j, hj, rfl, rfl, B0, hb⟩ := hrel
    replace B0 := hide B0; replace hb := hide hb
    by_cases hlt : j < 4
    · obtain ⟨x, hx⟩ : ∃ x, c.map[j]? = some x := ⟨_, List.getElem?_eq_getElem (by rw [H4.out]; exact hlt)⟩
      have hr := hp.out x (List.mem_of_getElem? hx)
      have hx32 := HS.out x (List.mem_of_getElem? hx)
      have hz := refK_size H4.out H8.out (i := j) (j := 0) hj (by omega)
      obtain ⟨a, s⟩ := x
      simp only at hr hx32
      obtain ⟨a, rfl⟩ := Int.eq_ofNat_of_zero_le (show 0 ≤ a by omega)
      have hs2 := hide (refK_map hx)
      have c0 := fun y : Ext wr => (ck_map' H4.out hx (B0.out.below y.h B0.out.lt)).1
      have c1 := fun y : Ext wr => (ck_map' H4.out hx (B0.out.below y.h B0.out.lt)).2
      simp only at c0 c1
      have la := octs_length a 4; have ls := octs_length s 4
      have G0 := hide (fun w => octOf_lit4 a w (by omega))
      have G1 := hide (fun w => octOf_lit4 s w (by omega))
      clear hx
      go_wp2_with fail
      refine wp_region_ext wr (by kernel_rfl) (by kernel_rfl) (Below.refl _ _) ?_
      repeat (first | go_big_quiet_step ((first | (go_at_call 31; first | (with_reducible exact Ext.call _ (unhide G0 _)) | (with_reducible exact Ext.call _ (unhide G1 _))))) | quiet_step ((first | (go_at_call 31; first | (with_reducible exact Ext.call _ (unhide G0 _)) | (with_reducible exact Ext.call _ (unhide G1 _))))))
      refine wpQuiet_nil ?_
      intro wx hw'
      obtain ⟨⟨_, hx⟩, rfl⟩ := hw'
      rw [hs2.out]
      replace B0 := hide (B0.out.below hx B0.out.lt)
      replace hb := hide (nextB hb.out hx)
      clear c0 c1 la ls
      go_wp2_with fail
      go_roundw
      case rel => exact ⟨j + 1, by omega, by go_num, rfl, B0.out, hb.out⟩
      case measure => simp [intOf]; omega
    · obtain rfl : j = 4 := by omega
      clear hj hlt
      rw [show ((4 : Nat) : Int) = 4 from rfl]
      go_wp2_with fail
      go_loopw [3, 5] (fun s i wr => ∃ j : Nat, j ≤ 8 ∧ i = .int .i64 (j : Int) ∧ s = .string (refK c 4 j) ∧ Blk wr w.heap.size 28 (ckC c).toArray ∧ Below w.heap.size w wr) (fun _ i _ => 8 - (intOf i).toNat)
      case atStart => exact ⟨0, by omega, rfl, rfl, B0.out, hb.out⟩
      case round =>
        clear B0 hb
        obtain ⟨j, hj, rfl, rfl, B0, hb⟩ := hrel
        replace B0 := hide B0; replace hb := hide hb
        by_cases hlt : j < 8
        · obtain ⟨x, hx⟩ : ∃ x, c.used[j]? = some x := ⟨_, List.getElem?_eq_getElem (by rw [H8.out]; exact hlt)⟩
          have hr := hu.out x (List.mem_of_getElem? hx)
          have hz := refK_size H4.out H8.out (i := 4) (j := j) (by omega) hj
          obtain ⟨a, rfl⟩ := Int.eq_ofNat_of_zero_le (show 0 ≤ x by omega)
          have hs2 := hide (refK_used hx)
          have c0 := B0.out.cell_ (11 + j) (.int .i64 (a : Int)) (by simpa using ck_used H4.out hx)
          have la := octs_length a 2
          have G0 := hide (fun w => octOf_lit2 a w (by omega))
          clear hx
          go_wp2_with (go_at_call 31; (with_reducible refine (unhide G0 _).mono ?_); rintro e w2 ⟨rfl, hb2⟩; replace B0 := hide (B0.out.below hb2 B0.out.lt); replace hb := hide (nextB hb.out hb2); clear hb2)
          go_roundw
          case rel => exact ⟨j + 1, by omega, by go_num, by rw [hs2.out], B0.out, hb.out⟩
          case measure => simp [intOf]; omega
        · obtain rfl : j = 8 := by omega
          clear hj hlt
          go_wp2_with (go_at_call 32; (with_reducible refine (unhide G _).mono ?_); rintro e w3 ⟨rfl, hb3⟩)
          go_ret
          exact ⟨rfl, nextB hb.out hb3⟩
end Go.Proofs.Ytboccjdliklifaa
