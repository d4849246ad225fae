/- Inodes' and nodes' blocks by the document's text. No condition. -/
import Derived.Test.YtobiepjnnglglaaInI
import Derived.Test.YtobiepjnnglglaaRefCrc
namespace Go.Proofs.Ytobiepjnnglglaa
open Go.RowKit
def refI (ino : Int) (x : Ino) (k : Nat) : ByteArray := ⟨(packB (inoN0 ino x ++ numsI (x.ps.take k))).toArray⟩
def refN (l : List (Int × Nat)) (k : Nat) : ByteArray := ⟨(packB (numsI (l.take k))).toArray⟩
theorem refI_succ (ino : Int) (x : Ino) {k : Nat} {p : Int × Nat} (h : x.ps[k]? = some p) : refI ino x k ++ ⟨(ptrO p).toArray⟩ = refI ino x (k + 1) := by
  unfold refI
  rw [bytes_append, numsP_succ h, ← List.append_assoc, packB_append (inoN0 ino x ++ numsI (List.take k x.ps))]
  rfl
theorem refN_succ {l : List (Int × Nat)} {k : Nat} {p : Int × Nat} (h : l[k]? = some p) : refN l k ++ ⟨(ptrO p).toArray⟩ = refN l (k + 1) := by
  unfold refN
  rw [bytes_append, numsP_succ h, packB_append]
  rfl
theorem refI_size (ino : Int) {x : Ino} (h9 : x.ps.length = 9) (k : Nat) : (refI ino x k).size ≤ 93 := by
  show (packB (inoN0 ino x ++ numsI (x.ps.take k))).toArray.size ≤ _
  rw [List.size_toArray, packB_len, List.map_append, sumW_append, numsI_sum, List.length_take, h9]
  have : sumW ((inoN0 ino x).map (·.1)) = 21 := rfl
  omega
theorem refN_size {l : List (Int × Nat)} (h15 : l.length = 15) (k : Nat) : (refN l k).size ≤ 120 := by
  show (packB (numsI (l.take k))).toArray.size ≤ _
  rw [List.size_toArray, packB_len, numsI_sum, List.length_take, h15]
  omega
theorem refI_none {ino : Int} {x : Ino} (n0 n1 n2 n3 n4 n5 : Nat) (e0 : ino = n0) (e1 : x.ty = n1) (e2 : x.links = n2) (e3 : x.ver = n3) (e4 : x.size = n4) (e5 : x.tick = n5) :
    (({ data := #[105, 110, 111, 100] } : ByteArray) ++ ⟨(octs n0 1).toArray⟩ ++ ⟨(octs n1 1).toArray⟩ ++ ⟨(octs n2 1).toArray⟩ ++ ⟨(octs n3 4).toArray⟩ ++ ⟨(octs n4 6).toArray⟩ ++ ⟨(octs n5 4).toArray⟩) = refI ino x 0 := by
  have : ({ data := #[105, 110, 111, 100] } : ByteArray) = ⟨(octs 1768845156 4).toArray⟩ := by decide
  rw [this, bytes_append, bytes_append, bytes_append, bytes_append, bytes_append, bytes_append]
  unfold refI inoN0 numsI
  rw [e0, e1, e2, e3, e4, e5]
  simp [packB]
set_option maxRecDepth 100000 in
set_option maxHeartbeats 4000000 in
theorem refEnc_any (ino : Int) (x : Ino) (h9 : x.ps.length = 9) (hs : ∀ p ∈ x.ps, p.2 < 4294967296) (hm : mayE ino x) (w : World) :
    Calls Try.prog 13 #[.int .i64 ino, .agg (inoC x).toArray] w fun e w' => e = .returned (.string ⟨(inoB ino x).toArray⟩) ∧ Below w.heap.size w w' := by
  have H9 := hide h9; have HS := hide hs
  have ZC := hide (inoC_len h9)
  obtain ⟨hi, ⟨h1, h2, h3, h4, h5⟩, hp⟩ := hm
  replace hp := hide hp
  have B0 := hide (Blk.new w 27 (inoC x).toArray)
  have hbl := hide (box1 (w := w) (o := .cells (inoC x).toArray 27))
  obtain ⟨n0, e0⟩ := Int.eq_ofNat_of_zero_le (show 0 ≤ ino by omega)
  obtain ⟨n1, e1⟩ := Int.eq_ofNat_of_zero_le (show 0 ≤ x.ty by omega)
  obtain ⟨n2, e2⟩ := Int.eq_ofNat_of_zero_le (show 0 ≤ x.links by omega)
  obtain ⟨n3, e3⟩ := Int.eq_ofNat_of_zero_le (show 0 ≤ x.ver by omega)
  obtain ⟨n4, e4⟩ := Int.eq_ofNat_of_zero_le (show 0 ≤ x.size by omega)
  obtain ⟨n5, e5⟩ := Int.eq_ofNat_of_zero_le (show 0 ≤ x.tick by omega)
  have q0 : (n0 : Int) ≤ 39 := by omega
  have q1 : (n1 : Int) ≤ 2 := by omega
  have q2 : (n2 : Int) ≤ 200 := by omega
  have q3 : (n3 : Int) ≤ 2147483647 := by omega
  have q4 : (n4 : Int) ≤ 1099511627776 := by omega
  have q5 : (n5 : Int) ≤ 2147483647 := by omega
  have e6 := hide (refI_none (ino := ino) (x := x) n0 n1 n2 n3 n4 n5 e0 e1 e2 e3 e4 e5)
  have F0 := hide (fun w => octOf_lit1 n0 w (by omega)); have F1 := hide (fun w => octOf_lit1 n1 w (by omega)); have F2 := hide (fun w => octOf_lit1 n2 w (by omega))
  have F3 := hide (fun w => octOf_lit4 n3 w (by omega)); have F4 := hide (fun w => octOf_lit6 n4 w (by omega)); have F5 := hide (fun w => octOf_lit4 n5 w (by omega))
  have l0 := octs_length n0 1; have l1 := octs_length n1 1; have l2 := octs_length n2 1; have l3 := octs_length n3 4; have l4 := octs_length n4 6; have l5 := octs_length n5 4
  have k0 := fun y : Ext (w.alloc (.cells (inoC x).toArray 27)) => (B0.out.below y.h B0.out.lt).cell_ 0 (.int .i64 (n1 : Int)) (by rw [← e1]; rfl)
  have k1 := fun y : Ext (w.alloc (.cells (inoC x).toArray 27)) => (B0.out.below y.h B0.out.lt).cell_ 1 (.int .i64 (n2 : Int)) (by rw [← e2]; rfl)
  have k2 := fun y : Ext (w.alloc (.cells (inoC x).toArray 27)) => (B0.out.below y.h B0.out.lt).cell_ 2 (.int .i64 (n3 : Int)) (by rw [← e3]; rfl)
  have k3 := fun y : Ext (w.alloc (.cells (inoC x).toArray 27)) => (B0.out.below y.h B0.out.lt).cell_ 3 (.int .i64 (n4 : Int)) (by rw [← e4]; rfl)
  have k4 := fun y : Ext (w.alloc (.cells (inoC x).toArray 27)) => (B0.out.below y.h B0.out.lt).cell_ 4 (.int .i64 (n5 : Int)) (by rw [← e5]; rfl)
  have G := fun w => refSeal_any (refI ino x 9) w (Nat.le_trans (refI_size ino h9 9) (by decide))
  have hB : sealB (refI ino x 9).data.toList = inoB ino x := by
    unfold refI inoB inoN
    rw [List.take_of_length_le (by rw [h9]; exact Nat.le_refl _)]
  rw [hB] at G
  have hz := hide (refI_size ino h9)
  generalize inoB ino x = R at G ⊢
  replace G := hide G
  subst e0
  clear h1 h2 h3 h4 h5 e1 e2 e3 e4 e5 hi h9 hs hB
  go_enter Try.func13, Try.ntmps13
  go_wp2_with fail
  generalize (w.alloc _) = W at B0 hbl k0 k1 k2 k3 k4 ⊢
  refine wp_region_ext W (by kernel_rfl) (by kernel_rfl) (Below.refl _ _) ?_
  repeat (first | go_big_quiet_step ((first | (go_at_call 35; first | (with_reducible exact Ext.call _ (unhide F0 _)) | (with_reducible exact Ext.call _ (unhide F1 _)) | (with_reducible exact Ext.call _ (unhide F2 _)) | (with_reducible exact Ext.call _ (unhide F3 _)) | (with_reducible exact Ext.call _ (unhide F4 _)) | (with_reducible exact Ext.call _ (unhide F5 _))))) | quiet_step ((first | (go_at_call 35; first | (with_reducible exact Ext.call _ (unhide F0 _)) | (with_reducible exact Ext.call _ (unhide F1 _)) | (with_reducible exact Ext.call _ (unhide F2 _)) | (with_reducible exact Ext.call _ (unhide F3 _)) | (with_reducible exact Ext.call _ (unhide F4 _)) | (with_reducible exact Ext.call _ (unhide F5 _))))))
  refine wpQuiet_nil ?_
  intro wx hw'
  obtain ⟨⟨_, hx⟩, rfl⟩ := hw'
  rw [e6.out]
  replace B0 := hide (B0.out.below hx B0.out.lt); replace hbl := hide (nextB hbl.out hx)
  clear k0 k1 k2 k3 k4 l0 l1 l2 l3 l4 l5 F0 F1 F2 F3 F4 F5 e6 q0 q1 q2 q3 q4 q5
  go_wp2_with fail
  go_loopw [5, 6] (fun s i wr => ∃ j : Nat, j ≤ 9 ∧ i = .int .i64 (j : Int) ∧ s = .string (refI (n0 : Int) x j) ∧ Blk wr w.heap.size 27 (inoC x).toArray ∧ Below w.heap.size w wr) (fun _ i _ => 9 - (intOf i).toNat)
  case atStart => exact ⟨0, by omega, rfl, rfl, B0.out, hbl.out⟩
  case round =>
    clear B0 hbl
    obtain ⟨j, hj, rfl, rfl, B0, hb⟩ := hrel
    replace B0 := hide B0; replace hb := hide hb
    by_cases hlt : j < 9
    · obtain ⟨p, hp2⟩ : ∃ p, x.ps[j]? = some p := ⟨_, List.getElem?_eq_getElem (by rw [H9.out]; exact hlt)⟩
      obtain ⟨c0, c1⟩ := ino_ptr hp2 B0.out
      have hmem := List.mem_of_getElem? hp2
      have C := hide (fun w => refptr_any p (List.all_eq_true.1 hp.out p hmem) (HS.out p hmem) w)
      have hs2 := hide (refI_succ (n0 : Int) x hp2)
      have hzj := hz.out j
      have hzo : (ptrO p).length = 8 := by unfold ptrO; rw [packB_len]; simp [ptrN, sumW]
      clear hp2 hmem
      go_wp2_with (go_at_call 36; (with_reducible refine (unhide C _).mono ?_); rintro e w2 ⟨rfl, hb2⟩; replace B0 := hide (B0.out.below hb2 B0.out.lt); replace hb := hide (nextB hb.out hb2); clear hb2)
      go_roundw
      case rel => exact ⟨j + 1, by omega, by go_num, by rw [hs2.out], B0.out, hb.out⟩
      case measure => simp [intOf]; omega
    · obtain rfl : j = 9 := by omega
      go_wp2_with (go_at_call 37; (with_reducible refine (unhide G _).mono ?_); rintro e w3 ⟨rfl, hb3⟩)
      go_ret
      exact ⟨rfl, nextB hb.out hb3⟩
set_option maxRecDepth 100000 in
set_option maxHeartbeats 4000000 in
theorem refNode_any (A : Option Addr) (l : List (Int × Nat)) (c : Nat) (w : World) (hx : Rd w A (l.flatMap ptrC)) (hn : l.length = 15) (hs : ∀ p ∈ l, p.2 < 4294967296) (ho : l.all okPt = true) :
    Calls Try.prog 24 #[.slice A 15 c] w fun e w' => e = .returned (.string ⟨(nodeB l).toArray⟩) ∧ Below w.heap.size w w' := by
  have Hn := hide hn; have Hx := hide hx; have Ho := hide ho; have Hs := hide hs
  have G := fun w => refSeal_any (refN l 15) w (Nat.le_trans (refN_size hn 15) (by decide))
  have hB : sealB (refN l 15).data.toList = nodeB l := by
    unfold refN nodeB
    rw [List.take_of_length_le (by rw [hn]; exact Nat.le_refl _)]
  rw [hB] at G
  have hz := hide (refN_size hn)
  generalize nodeB l = R at G ⊢
  replace G := hide G
  clear hn hx ho hs hB
  go_enter Try.func24, Try.ntmps24
  go_wp2_with fail
  go_loopw [3, 4] (fun s i wr => ∃ j : Nat, j ≤ 15 ∧ i = .int .i64 (j : Int) ∧ s = .string (refN l j) ∧ Below w.heap.size w wr) (fun _ i _ => 15 - (intOf i).toNat)
  case atStart => exact ⟨0, by omega, rfl, rfl, Below.refl _ _⟩
  case round =>
    obtain ⟨j, hj, rfl, rfl, hb⟩ := hrel
    replace hb := hide hb
    by_cases hlt : j < 15
    · obtain ⟨g, o, p, rfl, _, hpk, hc⟩ := (Hx.out.on hb.out).flat ptrC_len (by omega) (k := j) (by rw [Hn.out]; exact hlt)
      have c0 : wr.cell? ⟨g, o + j * 2, none⟩ = some (.int .i64 p.1) := hc 0 _ rfl
      have c1 : wr.cell? ⟨g, o + j * 2 + 1, none⟩ = some (.int .u32 (p.2 : Int)) := hc 1 _ rfl
      have hmem := List.mem_of_getElem? hpk
      have C := hide (fun w => refptr_any p (List.all_eq_true.1 Ho.out p hmem) (Hs.out p hmem) w)
      have hs2 := hide (refN_succ hpk)
      have hzj := hz.out j
      have hzo : (ptrO p).length = 8 := by unfold ptrO; rw [packB_len]; simp [ptrN, sumW]
      clear hpk hmem hc
      go_wp2_with (go_at_call 36; (with_reducible refine (unhide C _).mono ?_); rintro e w2 ⟨rfl, hb2⟩; replace hb := hide (nextB hb.out hb2); clear hb2)
      go_roundw
      case rel => exact ⟨j + 1, by omega, by go_num, by rw [hs2.out], hb.out⟩
      case measure => simp [intOf]; omega
    · obtain rfl : j = 15 := by omega
      go_wp2_with (go_at_call 37; (with_reducible refine (unhide G _).mono ?_); rintro e w3 ⟨rfl, hb3⟩)
      go_ret
      exact ⟨rfl, nextB hb.out hb3⟩
end Go.Proofs.Ytobiepjnnglglaa
