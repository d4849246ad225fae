import Derived.Test.YtobiepjnnglglaaInP
import Derived.Test.YtobiepjnnglglaaOpenJ
namespace Go.Proofs.Ytobiepjnnglglaa
open Go.RowKit
theorem flat_ptr (l : List (Int × Nat)) : l.flatMap (fun x : Int × Nat => [i64v x.1] ++ [.int .u32 (x.2 : Int)]) = l.flatMap ptrC := rfl
set_option maxRecDepth 100000 in
set_option maxHeartbeats 8000000 in
theorem walk_InodeNodes (s0 : Sl (Int × Nat)) (s1 : Sl UInt8) (w : World) (h0 : s0.Ok w (fun x : Int × Nat => [i64v x.1] ++ [.int .u32 (x.2 : Int)]) (fun x => (-9223372036854775808 ≤ x.1 ∧ x.1 ≤ 9223372036854775807) ∧ x.2 < 4294967296)) (h1 : s1.Ok w (fun c => [u8v c]) (fun _ => True)) :
    Calls Try.prog 7 #[.slice s0.A s0.n s0.c, .slice s1.A s1.n s1.c] w fun e w' => e = .returned (.bool true) ∧ Below w.heap.size w w' := by
  obtain ⟨A0, n0, c0, L0⟩ := s0
  obtain ⟨A, n, c, bs0⟩ := s1
  obtain ⟨r0, l0, k0, _, hall0⟩ := h0
  obtain ⟨r1, l1, k1, _, _⟩ := h1
  simp only [flat_u8, flat_ptr] at r0 l0 k0 r1 l1 k1 hall0 ⊢
  obtain ⟨bs, n', q1, g1, e1, f1, eb, case1⟩ := r1.few 200 l1 k1
  obtain ⟨L, m, q0, g0, e0, f0, el, case0⟩ := Rd.fewF 30 r0 l0 k0
  have hs : ∀ p ∈ L, p.2 < 4294967296 := fun p hp => (hall0 p (by rw [el] at hp; exact List.mem_of_mem_take hp)).2
  clear eb el r0 l0 r1 l1 hall0
  have F := hide (fun w => few_any A n c n' w k1 case1)
  have RN := readNode_any A n' c bs w q1 g1 f1
  have RR := fun w => refReadNode_any ⟨bs.toArray⟩ bs rfl w (by show bs.toArray.size ≤ _; rw [List.size_toArray]; omega)
  obtain ⟨⟨P, ep⟩, hP⟩ : ∃ r, readN bs = r := ⟨_, rfl⟩
  rw [hP] at RN RR
  have hPl : P.length ≤ 4294967296 := by
    have : (readN bs).1.length ≤ 4294967296 := by
      unfold readN; split
      · split
        · rw [ptrsB_len]; decide
        · exact Nat.zero_le _
      · exact Nat.zero_le _
    rw [hP] at this; exact this
  have SP := fun (A1 A2 : Option Addr) (c1 c2 : Nat) (w : World) (hx : Rd w A1 (P.flatMap ptrC)) (hy : Rd w A2 (P.flatMap ptrC)) => refSame_any A1 A2 P.length c1 P.length c2 P P w hx hy rfl rfl hPl
  simp only [decide_true] at SP
  have NO := fun (w : World) (hx : Rd w A0 (L.flatMap ptrC)) => node_any A0 L m c0 w hx g0 (by omega) hs
  have awk := hide awake_any
  have Q0 := hide q0; have Q1 := hide q1; have G0 := hide g0; have G1 := hide g1; have HS := hide hs
  replace RN := hide RN; replace RR := hide RR; replace SP := hide SP
  clear q0 q1 g1 case1 hP hPl
  have hnr : nodeR L = if m = 15 ∧ L.all okPt = true then (nodeB L, 0) else ([], 1) := by unfold nodeR; rw [g0]
  obtain ⟨ok, hok⟩ : ∃ b, (decide (m = 15) && L.all okPt) = b := ⟨_, rfl⟩
  have hnr2 : nodeR L = if ok = true then (nodeB L, 0) else ([], 1) := by
    rw [hnr, ← hok]
    by_cases h1 : m = 15 <;> by_cases h2 : L.all okPt = true <;> simp [h1, h2]
  clear hnr
  obtain ⟨⟨NB, ne⟩, hnb⟩ : ∃ r, nodeR L = r := ⟨_, rfl⟩
  rw [hnb] at NO
  have hcase : (ok = false ∧ NB = [] ∧ ne = 1) ∨ (ok = true ∧ NB = nodeB L ∧ ne = 0) := by
    rw [hnb] at hnr2
    cases ok
    · rw [if_neg (by simp)] at hnr2; injection hnr2 with h1 h2; exact .inl ⟨rfl, h1, h2⟩
    · rw [if_pos rfl] at hnr2; injection hnr2 with h1 h2; exact .inr ⟨rfl, h1, h2⟩
  replace hcase := hide hcase
  clear hnr2 hs g0 hnb
  replace NO := hide NO
  replace hok := hide hok
  rcases case0 with ⟨hle, rfl⟩ | ⟨hlt, rfl⟩
  · go_enter Try.func7, Try.ntmps7
    go_upto_region 8 with (first
      | (go_at_call 14; ((with_reducible refine (unhide F _).mono ?_); rintro e w' ⟨rfl, rfl⟩))
      | (go_at_call 21; (with_reducible refine (unhide RN).mono ?_); rintro e w1 ⟨A5, c5, rfl, R5, _, hb1⟩; have hb := hide hb1; replace R5 := hide R5; replace Q0 := hide (Q0.out.on hb1); replace Q1 := hide (Q1.out.on hb1); clear hb1; have s0 := run_str (P := Try.prog) (bs := bs) (n := n') (c := c) 28 9 5 Try.underlying28 Try.underlying5 Try.underlying9 Q1.out G1.out)
      | (go_at_call 22; (with_reducible refine (unhide RR _).mono ?_); rintro e w2 ⟨A7, c7, rfl, R7, _, hb1⟩; replace hb := hide (nextB hb.out hb1); replace R7 := hide R7; replace R5 := hide (R5.out.on hb1); replace Q0 := hide (Q0.out.on hb1); have SS := hide (SP.out A5 A7 c5 c7 w2 R5.out R7.out); clear hb1 s0)
      | (go_at_call 17; (with_reducible refine (unhide SS).mono ?_); rintro e w3 ⟨rfl, hb1⟩; replace hb := hide (nextB hb.out hb1); replace Q0 := hide (Q0.out.on hb1); have N2 := hide (NO.out w3 Q0.out); clear hb1 SS))
    clear R5 R7
    go_upto_region 10 with (first
      | (go_at_call 16; (with_reducible refine (unhide N2).mono ?_); rintro e w4 ⟨A9, c9, rfl, R9, hc9, hb1⟩; replace hb := hide (nextB hb.out hb1); replace Q0 := hide (Q0.out.on hb1); replace R9 := hide R9; clear hb1))
    go_wp2_with fail
    go_loopw [11, 12] (fun o i wr => ∃ j : Nat, j ≤ m ∧ i = .int .i64 (j : Int) ∧ o = .bool (decide (m = 15) && (L.take j).all okPt) ∧ Rd wr A0 (L.flatMap ptrC) ∧ Rd wr A9 (NB.map u8v) ∧ Below w.heap.size w wr) (fun _ i _ => m - (intOf i).toNat)
    case atStart => exact ⟨0, Nat.zero_le _, rfl, by first | rfl | exact congrArg Value.bool (by rw [Bool.eq_iff_iff]; simp <;> omega), Q0.out, R9.out, hb.out⟩
    case round =>
      clear Q0 R9 hb
      obtain ⟨j, hj, rfl, rfl, Q0, R9, hb⟩ := hrel
      replace Q0 := hide Q0; replace R9 := hide R9; replace hb := hide hb
      by_cases hjm : j < m
      · obtain ⟨g, o, p, rfl, _, hpk, hc⟩ := Q0.out.flat ptrC_len (by omega) (k := j) (by rw [G0.out]; exact hjm)
        have q0 : wr.cell? ⟨g, o + j * 2, none⟩ = some (.int .i64 p.1) := hc 0 _ rfl
        have q1' : wr.cell? ⟨g, o + j * 2 + 1, none⟩ = some (.int .u32 (p.2 : Int)) := hc 1 _ rfl
        have C := fun w => refPointer_any p.1 p.2 w
        have hnext : (decide (m = 15) && (L.take (j + 1)).all okPt) = ((decide (m = 15) && (L.take j).all okPt) && okPt p) := by
          rw [take_snoc_of hpk, List.all_append]; simp [Bool.and_assoc]
        replace hnext := hide hnext
        obtain ⟨t, ht⟩ : ∃ t, (decide (m = 15) && (L.take j).all okPt) = t := ⟨_, rfl⟩
        obtain ⟨u, hu⟩ : ∃ u, okPt p = u := ⟨_, rfl⟩
        rw [ht]
        rw [hu] at C
        have hn3 : (decide (m = 15) && (L.take (j + 1)).all okPt) = (t && u) := by rw [hnext.out, ht, hu]
        replace hn3 := hide hn3; replace C := hide C
        clear ht hu hpk hc hnext
        cases t
        · go_wp2_with fail
          go_roundw
          case rel => exact ⟨j + 1, by omega, by go_num, by first | exact congrArg Value.bool (by rw [hn3.out]; rfl) | simp, Q0.out, R9.out, hb.out⟩
          case measure => simp [intOf]; omega
        · go_wp2_with (go_at_call 23; (with_reducible refine (unhide C _).mono ?_); rintro e w5 ⟨rfl, hb5⟩)
          go_roundw
          case rel => exact ⟨j + 1, by omega, by go_num, by first | exact congrArg Value.bool (by rw [hn3.out]; simp) | (have h := hn3.out; simp at h; simp [h]; done) | (simp; done), Q0.out.on hb5, R9.out.on hb5, nextB hb.out hb5⟩
          case measure => simp [intOf]; omega
      · have hjm2 : j = m := by omega
        have e : (decide (m = 15) && (L.take j).all okPt) = ok := by
          rw [List.take_of_length_le (by rw [G0.out]; omega)]; exact hok.out
        rw [e]
        rcases hcase.out with ⟨rfl, rfl, rfl⟩ | ⟨rfl, rfl, rfl⟩
        · clear e
          go_wp2_with (first
            | (go_at_call 11; (with_reducible refine (unhide awk _).mono ?_); rintro e w8 ⟨rfl, hb5⟩))
          go_ret
          exact ⟨rfl, nextB hb.out hb5⟩
        · have h2 := hok.out
          rw [Bool.and_eq_true, decide_eq_true_iff] at h2
          obtain ⟨h15, ho⟩ := h2
          have hl15 : L.length = 15 := G0.out.trans h15
          have RD := readN_node hl15 ho HS.out
          have RX := readNode_any A9 (nodeB L).length c9 (nodeB L) wr R9.out rfl hc9
          rw [RD] at RX
          replace RX := hide RX
          clear e RD
          replace hl15 := hide hl15
          subst h15
          go_upto_region 17 with (go_at_call 21; (with_reducible refine (unhide RX).mono ?_); rintro e w6 ⟨A13, c13, rfl, R13, _, hb6⟩; replace hb := hide (nextB hb.out hb6); replace Q0 := hide (Q0.out.on hb6); replace R9 := hide (R9.out.on hb6); replace R13 := hide R13; clear hb6)
          have s3 := fun y : Ext w6 => run_str (P := Try.prog) (bs := nodeB L) (n := (nodeB L).length) (c := c9) 28 9 5 Try.underlying28 Try.underlying5 Try.underlying9 (R9.out.on y.h) rfl
          have CN := hide (fun y : Ext w6 => refNode_any A0 L c0 y.w (Q0.out.on y.h) hl15.out HS.out ho)
          have CS := fun y : Ext w6 => refSame_any A13 A0 L.length c13 15 c0 L L y.w (R13.out.on y.h) (Q0.out.on y.h) rfl hl15.out (by rw [hl15.out]; decide)
          simp only [decide_true] at CS
          replace CS := hide CS
          clear hl15 ho RX
          refine wp_region_ext w6 (by kernel_rfl) (by kernel_rfl) (Below.refl _ _) ?_
          repeat (first | go_big_quiet_step ((first | (first | (go_at_call 24; with_reducible exact Ext.call _ (unhide CN _)) | (go_at_call 17; with_reducible exact Ext.call _ (unhide CS _)) | (go_at_call 11; with_reducible exact Ext.call _ (unhide awk _))))) | quiet_step ((first | (first | (go_at_call 24; with_reducible exact Ext.call _ (unhide CN _)) | (go_at_call 17; with_reducible exact Ext.call _ (unhide CS _)) | (go_at_call 11; with_reducible exact Ext.call _ (unhide awk _))))))
          refine wpQuiet_nil ?_
          intro wx hw'
          obtain ⟨⟨_, hx⟩, rfl⟩ := hw'
          clear s3 CN CS
          go_wp2_with fail
          go_ret
          exact ⟨rfl, nextB hb.out hx⟩
  · go_enter Try.func7, Try.ntmps7
    go_upto_region 8 with (first
      | (go_at_call 14; ((with_reducible refine (unhide F _).mono ?_); rintro e w' ⟨rfl, rfl⟩))
      | (go_at_call 21; (with_reducible refine (unhide RN).mono ?_); rintro e w1 ⟨A5, c5, rfl, R5, _, hb1⟩; have hb := hide hb1; replace R5 := hide R5; replace Q0 := hide (Q0.out.on hb1); replace Q1 := hide (Q1.out.on hb1); clear hb1; have s0 := run_str (P := Try.prog) (bs := bs) (n := n') (c := c) 28 9 5 Try.underlying28 Try.underlying5 Try.underlying9 Q1.out G1.out)
      | (go_at_call 22; (with_reducible refine (unhide RR _).mono ?_); rintro e w2 ⟨A7, c7, rfl, R7, _, hb1⟩; replace hb := hide (nextB hb.out hb1); replace R7 := hide R7; replace R5 := hide (R5.out.on hb1); replace Q0 := hide (Q0.out.on hb1); have SS := hide (SP.out A5 A7 c5 c7 w2 R5.out R7.out); clear hb1 s0)
      | (go_at_call 17; (with_reducible refine (unhide SS).mono ?_); rintro e w3 ⟨rfl, hb1⟩; replace hb := hide (nextB hb.out hb1); replace Q0 := hide (Q0.out.on hb1); have N2 := hide (NO.out w3 Q0.out); clear hb1 SS))
    clear R5 R7
    go_upto_region 10 with (first
      | (go_at_call 16; (with_reducible refine (unhide N2).mono ?_); rintro e w4 ⟨A9, c9, rfl, R9, hc9, hb1⟩; replace hb := hide (nextB hb.out hb1); replace Q0 := hide (Q0.out.on hb1); replace R9 := hide R9; clear hb1))
    go_wp2_with fail
    go_loopw [11, 12] (fun o i wr => ∃ j : Nat, j ≤ 30 ∧ i = .int .i64 (j : Int) ∧ o = .bool (decide (30 = 15) && (L.take j).all okPt) ∧ Rd wr A0 (L.flatMap ptrC) ∧ Rd wr A9 (NB.map u8v) ∧ Below w.heap.size w wr) (fun _ i _ => 30 - (intOf i).toNat)
    case atStart => exact ⟨0, Nat.zero_le _, rfl, by first | rfl | exact congrArg Value.bool (by rw [Bool.eq_iff_iff]; simp <;> omega), Q0.out, R9.out, hb.out⟩
    case round =>
      clear Q0 R9 hb
      obtain ⟨j, hj, rfl, rfl, Q0, R9, hb⟩ := hrel
      replace Q0 := hide Q0; replace R9 := hide R9; replace hb := hide hb
      by_cases hjm : j < 30
      · obtain ⟨g, o, p, rfl, _, hpk, hc⟩ := Q0.out.flat ptrC_len (by omega) (k := j) (by rw [G0.out]; exact hjm)
        have q0 : wr.cell? ⟨g, o + j * 2, none⟩ = some (.int .i64 p.1) := hc 0 _ rfl
        have q1' : wr.cell? ⟨g, o + j * 2 + 1, none⟩ = some (.int .u32 (p.2 : Int)) := hc 1 _ rfl
        have C := fun w => refPointer_any p.1 p.2 w
        have hnext : (decide (30 = 15) && (L.take (j + 1)).all okPt) = ((decide (30 = 15) && (L.take j).all okPt) && okPt p) := by
          rw [take_snoc_of hpk, List.all_append]; simp [Bool.and_assoc]
        replace hnext := hide hnext
        obtain ⟨t, ht⟩ : ∃ t, (decide (30 = 15) && (L.take j).all okPt) = t := ⟨_, rfl⟩
        obtain ⟨u, hu⟩ : ∃ u, okPt p = u := ⟨_, rfl⟩
        rw [ht]
        rw [hu] at C
        have hn3 : (decide (30 = 15) && (L.take (j + 1)).all okPt) = (t && u) := by rw [hnext.out, ht, hu]
        replace hn3 := hide hn3; replace C := hide C
        clear ht hu hpk hc hnext
        cases t
        · go_wp2_with fail
          go_roundw
          case rel => exact ⟨j + 1, by omega, by go_num, by first | exact congrArg Value.bool (by rw [hn3.out]; rfl) | simp, Q0.out, R9.out, hb.out⟩
          case measure => simp [intOf]; omega
        · go_wp2_with (go_at_call 23; (with_reducible refine (unhide C _).mono ?_); rintro e w5 ⟨rfl, hb5⟩)
          go_roundw
          case rel => exact ⟨j + 1, by omega, by go_num, by first | exact congrArg Value.bool (by rw [hn3.out]; simp) | (have h := hn3.out; simp at h; simp [h]; done) | (simp; done), Q0.out.on hb5, R9.out.on hb5, nextB hb.out hb5⟩
          case measure => simp [intOf]; omega
      · have hjm2 : j = 30 := by omega
        have e : (decide (30 = 15) && (L.take j).all okPt) = ok := by
          rw [List.take_of_length_le (by rw [G0.out]; omega)]; exact hok.out
        rw [e]
        rcases hcase.out with ⟨rfl, rfl, rfl⟩ | ⟨rfl, rfl, rfl⟩
        · clear e
          go_wp2_with (first
            | (go_at_call 11; (with_reducible refine (unhide awk _).mono ?_); rintro e w8 ⟨rfl, hb5⟩))
          go_ret
          exact ⟨rfl, nextB hb.out hb5⟩
        · have h2 := hok.out
          rw [Bool.and_eq_true, decide_eq_true_iff] at h2
          obtain ⟨h15, ho⟩ := h2
          omega
end Go.Proofs.Ytobiepjnnglglaa
