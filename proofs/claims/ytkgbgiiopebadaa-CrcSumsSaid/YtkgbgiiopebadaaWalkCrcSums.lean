import Derived.Test.YtkgbgiiopebadaaCrcAwake
import Derived.Test.YtkgbgiiopebadaaOpen
namespace Go.Proofs.Ytkgbgiiopebadaa
open Go.RowKit

def fewS (s : Sl UInt8) : Sl UInt8 := ⟨s.A, min s.n 300, s.c, s.l.take 300⟩
theorem allOf_snoc (l : List (Sl UInt8)) (s : Sl UInt8) : allOf (l ++ [s]) = allOf l ++ s.l := by simp [allOf]

def halfP (p : Int) : W32 := if 0 ≤ p ∧ p ≤ 15 then half p.toNat else 0#32
theorem half2_any (p : Int) (w : World) : Calls Try.prog 12 #[.int .i64 p] w fun e w' => e = .returned (.int .u32 ((halfP p).toNat : Int)) ∧ w = w' := by
  by_cases h : 0 ≤ p ∧ p ≤ 15
  · rw [halfP, if_pos h]; exact half_any p w h.1 h.2
  · rw [halfP, if_neg h]; exact half_no p w (by omega)
set_option maxRecDepth 100000 in
set_option maxHeartbeats 2000000 in
theorem walk_CrcSums (s0 : Sl (Sl UInt8)) (p : Int) (w : World) (h0 : s0.Ok w (fun s : Sl UInt8 => [.slice s.A s.n s.c]) (fun s => s.Ok w (fun c => [u8v c]) (fun _ => True))) (hp : (Lit.int .i64 p).wf = true) :
    Calls Try.prog 3 #[.slice s0.A s0.n s0.c, .int .i64 p] w fun e w' => e = .returned (.bool true) ∧ Below w.heap.size w w' := by
  obtain ⟨A0, n0, c0, l⟩ := s0
  obtain ⟨r0, l0, k0, m0, a0⟩ := h0
  simp only at r0 l0 k0 m0 a0 ⊢
  simp [Lit.wf, IntKind.min, IntKind.max, IntKind.bits, IntKind.signed] at hp
  have L0 := hide l0; have A0' := hide a0; clear l0 a0
  unfold maxLen at m0
  go_enter Try.func3, Try.ntmps3
  go_wp2_with fail
  go_loopw [5, 6, 7] (fun v t i wr => ∃ (k : Nat) (A5 : Option Addr) (c5 : Nat) (s : ByteArray), k ≤ n0 ∧ k ≤ 9 ∧ i = .int .i64 k ∧ v = .slice A5 k c5 ∧ t = .string s ∧ s.size ≤ 300 * k ∧
      s.data.toList = allOf ((l.take k).map fewS) ∧ wr.ownsRow w.heap.size 23 1 (.slice A5 k c5) k (((l.take k).map fewS).flatMap slC) ∧ Below w.heap.size w wr) (fun _ _ i _ => 9 - (intOf i).toNat)
  case atStart => exact ⟨0, none, 0, ByteArray.empty, Nat.zero_le _, by omega, rfl, rfl, rfl, by decide, rfl, World.ownsRow_nil _ _ _ _, Below.refl _ _⟩
  case round =>
    obtain ⟨k, A5, c5, s, hk, hk9, rfl, rfl, rfl, hs, hall, hown, hb⟩ := hrel
    have Hall := hide hall; have Hown := hide hown; clear hall hown
    have hsz := hb.size
    by_cases hlt : k < n0 ∧ k < 9
    · obtain ⟨hlt, hlt9⟩ := hlt
      obtain ⟨b, o, x, rfl, _, hxk, hcs⟩ := (r0.on hb).flat (f := fun s : Sl UInt8 => [.slice s.A s.n s.c]) (z := 1) (fun _ => rfl) (by decide) (k := k) (by rw [L0.out]; exact hlt)
      have hbl : b < w.heap.size := by
        obtain ⟨b1, o1, _, h1, h2, _⟩ := r0.at (k := k) (by rw [flat_length (z := 1) (fun _ => rfl), L0.out]; omega)
        injection h1 with h1; injection h1 with h1 _; subst h1; exact h2
      have hok := A0'.out x (List.mem_of_getElem? hxk)
      have Hxk := hide hxk; clear hxk
      obtain ⟨As, ns, cs, bs⟩ := x
      have hc : wr.cell? ⟨b, o + k, none⟩ = some (.slice As ns cs) := by have := hcs 0 _ rfl; simpa using this
      clear hcs
      obtain ⟨rb, lb, kb, mb, _⟩ := hok
      simp only [flat_u8] at rb lb kb mb
      obtain ⟨bs', m, qb, gb, eb, fb, zb, caseb⟩ := rb.few 300 lb kb
      have Gb := hide gb; have Cb := hide caseb; have Zb := hide zb; clear gb caseb zb lb rb mb
      have hb3 : bs'.length ≤ 300 := by rw [Gb.out]; exact eb
      have hs27 : s.size ≤ 2700 := by omega
      go_wp2_with (first
        | (go_at_call 8; refine (few_any As ns cs m _ kb Cb.out).mono ?_; rintro e w' ⟨rfl, rfl⟩)
        | (at_builtin; refine wpList_app rfl _ _ rfl Try.el_bytes w.heap.size _ _ _ _ rfl (Hown.out.alloc _) _ _ _ [.slice As m cs] rfl (Blk.new wr _ #[.slice As m cs]).rd rfl (fun u hu => by simp at hu; subst hu; rfl) (by unfold maxLen; omega) (by omega) (by simp; omega) ?_; intro A6 c6 w1 ho1 hc1 hg1; have hb1 := own_below Hown.out hb (Nat.le_refl _) hsz hg1; have hcw : w1.cell? ⟨b, o + k, none⟩ = some (.slice As ns cs) := ((hb1.cell (p := ⟨b, o + k, none⟩) hbl).trans ((hb.cell (p := ⟨b, o + k, none⟩) hbl).symm)).trans hc; have hst := run_str (P := Try.prog) (c := cs) 23 9 5 Try.underlying23 Try.underlying5 Try.underlying9 (qb.on hb1) Gb.out; have Ho1 := hide ho1; clear ho1 hg1 hc))
      go_roundw
      case rel =>
        have e1 : (l.take (k + 1)).map fewS = (l.take k).map fewS ++ [⟨As, m, cs, bs'⟩] := by
          rw [List.take_add_one, Hxk.out, List.map_append]
          have h1 : min ns 300 = m := by have := Cb.out; omega
          simp [fewS, h1, ← Zb.out]
        refine ⟨k + 1, A6, c6, _, by omega, by omega, by go_num, rfl, rfl, ?_, ?_, ?_, hb1⟩
        · have e3 : (⟨bs'.toArray⟩ : ByteArray).size = bs'.length := rfl
          rw [ByteArray.size_append, e3]; omega
        · rw [e1, allOf_snoc, ByteArray.data_append, Array.toList_append, Hall.out]
        · rw [e1, List.flatMap_append]; exact Ho1.out
      case measure => simp [intOf]; omega
    · have hok : ∀ x ∈ (l.take k).map fewS, Rd wr x.A (x.l.map u8v) ∧ x.l.length = x.n ∧ x.n ≤ 4294967296 := by
        intro x hx
        obtain ⟨y, hy, rfl⟩ := List.mem_map.1 hx
        obtain ⟨rb, lb, kb, mb, _⟩ := A0'.out y (List.mem_of_mem_take hy)
        rw [flat_u8] at rb
        refine ⟨?_, ?_, ?_⟩
        · simp only [fewS, List.map_take]
          exact (rb.on hb).take 300
        · simp only [fewS, List.length_take, lb]; omega
        · simp only [fewS]; omega
      have hlen : ((l.take k).map fewS).length = k := by rw [List.length_map, List.length_take, L0.out]; omega
      obtain ⟨L, hL⟩ : ∃ L, L = (l.take k).map fewS := ⟨_, rfl⟩
      rw [← hL] at Hall Hown hok hlen
      have Hok := hide hok; have Hlen := hide hlen; clear hok hlen hL
      have hs27 : s.size ≤ 2700 := by omega
      have hkk : (k < n0 ∧ ¬ k < 9) ∨ ¬ k < n0 := by omega
      clear hlt
      rcases hkk with ⟨hlt1, hge⟩ | hlt1
      all_goals
        go_upto_region 9 with fail
        go_cut [40] (fun v wx => v = .bool (decide (0 ≤ p) && decide (p ≤ 15)) ∧ wr = wx)
        case first =>
          by_cases h : 0 ≤ p
          · go_wp2_with fail
            go_meet
            exact ⟨by simp [h], rfl⟩
          · go_wp2_with fail
            go_meet
            exact ⟨by rw [decide_eq_false (by omega)]; rfl, rfl⟩
        case rest =>
        obtain ⟨rfl, rfl⟩ := hcut
        go_upto_if 40 with fail
        go_cut [8] (fun v wx => v = .int .u32 ((halfP p).toNat : Int) ∧ wr = wx)
        case first =>
          by_cases h : 0 ≤ p ∧ p ≤ 15
          · rw [show (decide (0 ≤ p) && decide (p ≤ 15)) = true from by simp [h]]
            have hh : halfP p = half p.toNat := if_pos h
            obtain ⟨h1, h2⟩ := h
            obtain ⟨q, rfl⟩ := Int.eq_ofNat_of_zero_le h1
            have C := hide (show Calls Try.prog 9 #[.int .u32 (q : Int), .int .i64 4] wr fun e w' => e = .returned (.int .u32 ((half q).toNat : Int)) ∧ wr = w' by
              have := steps_any (BitVec.ofNat 32 q) 4 wr (by decide)
              rw [BitVec.toNat_ofNat, Nat.mod_eq_of_lt (by omega)] at this
              exact this)
            go_wp2_with (go_at_call 9; refine (unhide C).mono ?_; rintro e w' ⟨rfl, rfl⟩)
            go_meet
            exact ⟨by rw [hh]; rfl, rfl⟩
          · rw [show (decide (0 ≤ p) && decide (p ≤ 15)) = false from by simp; omega]
            have hh : halfP p = 0#32 := if_neg h
            go_wp2_with fail
            go_meet
            exact ⟨by rw [hh]; rfl, rfl⟩
        case rest =>
        obtain ⟨rfl, rfl⟩ := hcut
        have C1 := hide (sum_any A5 k c5 L wr (Rd.of_own Hown.out) Hlen.out (by omega) Hok.out)
        have C2 := hide (fun W => refSum_any s W (by omega))
        rw [Hall.out] at C2
        have hss : s.data.toList.length = s.size := by rw [Array.length_toList]; rfl
        have Hss := hide hss; clear hss
        have C4 := hide (half2_any p)
        go_wp2_with (first
          | (go_at_call 10; refine (unhide C1).mono ?_; rintro e w1 ⟨rfl, hb1⟩; clear C1; obtain ⟨cc, wb, hcv, hcc, rdb, hbb⟩ := run_bytes (P := Try.prog) w1 9 23 5 s Try.underlying9 Try.underlying23 Try.underlying5; have Rdb := hide rdb; clear rdb)
          | (go_at_call 11; refine (unhide C2 _).mono ?_; rintro e w' ⟨rfl, rfl⟩))
        have C3 := hide (sum_any (some ⟨wb.heap.size, 0, none⟩) 1 1 [⟨some ⟨w1.heap.size, 0, none⟩, s.size, cc, s.data.toList⟩] (wb.alloc (.cells #[.slice (some ⟨w1.heap.size, 0, none⟩) s.size cc] 23)) (Blk.new wb _ _).rd rfl (by decide) (fun x hx => by
          rw [List.mem_singleton] at hx; subst hx; exact ⟨Rdb.out.alloc _, Hss.out, by simp only; omega⟩))
        rw [show allOf [(⟨some ⟨w1.heap.size, 0, none⟩, s.size, cc, s.data.toList⟩ : Sl UInt8)] = allOf L from by rw [← Hall.out]; simp [allOf]] at C3
        refine (unhide C3).mono ?_
        rintro e w3 ⟨rfl, hb3⟩
        clear C3 hcv
        go_wp2_with (first
          | (go_at_call 11; refine (unhide C2 _).mono ?_; rintro e w' ⟨rfl, rfl⟩)
          | (go_at_call 12; refine (unhide C4 _).mono ?_; rintro e w' ⟨rfl, rfl⟩)
          | (go_at_call 13; refine (awake_any _).mono ?_; rintro e w4 ⟨rfl, hb4⟩))
        go_ret
        have k1 : Below w.heap.size w w1 := hb.trans (hb1.mono hsz)
        have k2 : Below w.heap.size w wb := k1.trans (hbb.mono k1.size)
        have k3 : Below w.heap.size w w3 := (k2.alloc k2.size _).trans (hb3.mono (by have := k2.size; simp; omega))
        exact ⟨rfl, k3.trans (hb4.mono k3.size)⟩
end Go.Proofs.Ytkgbgiiopebadaa
