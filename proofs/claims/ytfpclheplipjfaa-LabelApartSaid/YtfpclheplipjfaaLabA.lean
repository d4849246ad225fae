/- Layer 5: numbers, sealed blocks. No condition. -/
import Derived.Test.YtfpclheplipjfaaPlainS
import Derived.Test.YtfpclheplipjfaaHeld
import Derived.Test.YtfpclheplipjfaaPack
import Derived.Test.YtfpclheplipjfaaAppB
import Derived.Test.YtfpclheplipjfaaAddrA
import Derived.Test.YtfpclheplipjfaaEqual
import Derived.Test.YtfpclheplipjfaaRely
import Derived.StillTailTactics
namespace Go.Proofs.Ytfpclheplipjfaa
open Go.RowKit

/-- octets and an error's number, as the call hands them back -/
def MadeR (w : World) (r : List UInt8 × Int) (e : Ending) (w' : World) : Prop :=
  ∃ A c, e = .returned (.tuple #[.slice A r.1.length c, .int .i64 r.2]) ∧ Rd w' A (r.1.map u8v) ∧ r.1.length ≤ c ∧ Below w.heap.size w w'
set_option maxHeartbeats 1000000 in
theorem num_any (n v : Int) (w : World) (hv : -9223372036854775808 ≤ v ∧ v ≤ 9223372036854775807) :
    Calls Try.prog 21 #[.int .i64 n, .int .i64 v] w fun e w' => e = .returned (.agg #[.int .i64 n, .int .u64 (numL v : Int)]) ∧ Below w.heap.size w w' := by
  by_cases h : v < 0
  · have e1 : numL v = 9223372036854775808 := if_pos h
    rw [e1]
    clear e1
    go_enter Try.func21, Try.ntmps21
    go_wp2_with fail
    exact bodyPost_ret (v := .agg #[.int .i64 n, .int .u64 9223372036854775808]) (by simp [results, Try.results21, go_sem]) rfl ⟨rfl, box1⟩
  · have e1 : numL v = v.toNat := if_neg h
    obtain ⟨v, rfl⟩ := Int.eq_ofNat_of_zero_le (show 0 ≤ v by omega)
    rw [e1, Int.toNat_natCast]
    clear e1
    go_enter Try.func21, Try.ntmps21
    go_wp2_with fail
    exact bodyPost_ret (v := .agg #[.int .i64 n, .int .u64 (v : Int)]) (by simp [results, Try.results21, go_sem]) rfl ⟨rfl, box1⟩
set_option maxRecDepth 100000 in
set_option maxHeartbeats 2000000 in
theorem sealed_any (s : ByteArray) (A : Option Addr) (n c : Nat) (l : List (Int × Nat)) (w : World) (hx : Rd w A (l.flatMap numC)) (hn : l.length = n) (hm : n ≤ 4) (hs : s.size = 4) :
    Calls Try.prog 20 #[.string s, .slice A n c] w (MadeR w (sealedR s.data.toList l)) := by
  have HP := pack_any A n c l w hx hn (by omega)
  have hs0 : s.data.toList.length = 4 := by rw [Array.length_toList]; exact hs
  unfold sealedR
  by_cases h : packE l = 0
  · rw [if_pos h]
    have hl := packB_length_le l h
    rw [packR_ok l h] at HP
    simp only at HP
    have hl2 : (packB l).length ≤ 32 := by omega
    obtain ⟨k, hk⟩ : ∃ k, k = (packB l).length := ⟨_, rfl⟩
    rw [← hk] at HP hl2
    have sl : (sealB (s.data.toList ++ packB l)).length = 128 := sealB_length _ (by rw [List.length_append, ← hk, hs0]; omega)
    replace HP := hide HP; replace hk := hide hk; replace hs0 := hide hs0; replace sl := hide sl
    clear h hl
    have hcv := fun w => run_bytes_fresh (P := Try.prog) w 9 28 5 s Try.underlying9 Try.underlying28 Try.underlying5
    rw [hs] at hcv
    replace hcv := hide hcv
    go_enter Try.func20, Try.ntmps20
    go_wp2_with (first
      | (go_at_call 31; (with_reducible refine (unhide HP).mono ?_); rintro e w1 ⟨A1, c1, rfl, ho1, hb1⟩; have R1 := hide (Rd.of_own ho1); clear ho1; obtain ⟨c2, w2, hrun, F2, hb2⟩ := hcv.out w1; replace F2 := hide F2; replace hb2 := hide hb2; replace hb1 := hide hb1)
      | (at_builtin; refine wpList_app_fresh rfl _ _ rfl Try.el_u8 w1.heap.size _ 4 c2 _ rfl F2.out hb2.out hb2.out.size _ _ _ (packB l |>.map u8v) rfl (R1.out.on hb2.out) (by rw [List.length_map]; exact hk.out.symm) (one_u8 _) (by omega) (by omega) ?_; intro A3 c3 w3 R3 h3 hb3; rw [← List.map_append] at R3; have G := hide (seal_ok A3 (4 + k) c3 (s.data.toList ++ packB l) w3 R3 (by rw [List.length_append, hs0.out, hk.out]) (by omega)); clear R3)
      | (go_at_call 32; (with_reducible refine (unhide G).mono ?_); rintro e w4 ⟨g4, rfl, B4, hg4, hb4⟩))
    go_ret2
    have hb3' : Below w1.heap.size w1 w3 := hb3
    exact ⟨some ⟨g4, 0, none⟩, 128, by simp only [sl.out]; rfl, B4.rd, by rw [sl.out]; exact Nat.le_refl _, nextB hb1.out (nextB hb3' hb4)⟩
  · rw [if_neg h]
    rw [packR_bad l h] at HP
    simp only at HP
    have hne : (packE l != 0) = true := by simpa using h
    obtain ⟨k, hk⟩ : ∃ k, k = packE l := ⟨_, rfl⟩
    rw [← hk] at HP hne
    replace HP := hide HP
    clear h hk
    go_enter Try.func20, Try.ntmps20
    go_wp2_with (go_at_call 31; (with_reducible refine (unhide HP).mono ?_); rintro e w1 ⟨A1, c1, rfl, ho1, hb1⟩)
    go_ret2
    exact ⟨none, 0, rfl, Rd.nil _ _, by simp, hb1⟩
end Go.Proofs.Ytfpclheplipjfaa
