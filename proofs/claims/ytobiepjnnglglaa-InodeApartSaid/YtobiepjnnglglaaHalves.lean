import Derived.Test.YtobiepjnnglglaaCrcA
namespace Go.Proofs.Ytobiepjnnglglaa
open Go.RowKit

/-- the table's cells, when k rounds are done -/
def halfTab (k : Nat) : Array Value := ((List.range 16).map fun i => if i < k then u32v (half i) else .int .u32 0).toArray

theorem halfTab_size (k : Nat) : (halfTab k).size = 16 := by simp [halfTab]
theorem halfTab_get (k i : Nat) (h : i < 16) : (halfTab k)[i]? = some (if i < k then u32v (half i) else .int .u32 0) := by simp [halfTab, h]
theorem halfTab_put (k : Nat) : (halfTab k).setIfInBounds k (u32v (half k)) = halfTab (k + 1) := by
  apply Array.ext
  · simp [halfTab]
  · intro i h1 h2
    simp [halfTab] at h1 h2
    rw [Array.getElem_setIfInBounds (by simpa [halfTab] using h1)]
    by_cases hik : k = i
    · subst hik; simp [halfTab]
    · simp only [if_neg hik]
      simp only [halfTab, List.getElem_toArray, List.getElem_map, List.getElem_range]
      by_cases hlt : i < k
      · rw [if_pos hlt, if_pos (by omega)]
      · rw [if_neg hlt, if_neg (by omega)]
theorem halfTab_zero : halfTab 0 = #[.int .u32 0, .int .u32 0, .int .u32 0, .int .u32 0, .int .u32 0, .int .u32 0, .int .u32 0, .int .u32 0, .int .u32 0, .int .u32 0, .int .u32 0, .int .u32 0, .int .u32 0, .int .u32 0, .int .u32 0, .int .u32 0] := rfl
theorem halfTab_one (k : Nat) : (halfTab k).all (·.oneCell') = true := by
  rw [Array.all_eq_true_iff_forall_mem]
  intro v hv
  simp [halfTab] at hv
  obtain ⟨i, _, rfl⟩ := hv
  split <;> rfl
theorem Try.infoTab : (Try.prog.info? 90).map (·.size) = some 16 := by kernel_rfl

set_option maxRecDepth 100000 in
set_option maxHeartbeats 400000 in
theorem halves_any (w : World) :
    Calls Try.prog 48 #[] w fun e w' => e = .returned (.agg (halfTab 16)) ∧ Below w.heap.size w w' := by
  have b0 : Blk ((w.alloc (.cells (halfTab 0) 90)).alloc (.cells (halfTab 0) 90)) w.heap.size 90 (halfTab 0) := (Blk.new w _ _).alloc _
  have b1 : Blk ((w.alloc (.cells (halfTab 0) 90)).alloc (.cells (halfTab 0) 90)) (w.heap.size + 1) 90 (halfTab 0) := Blk.new_ _ _ _ _ (by simp)
  have k0 : Below w.heap.size w ((w.alloc (.cells (halfTab 0) 90)).alloc (.cells (halfTab 0) 90)) := ((Below.refl _ _).alloc (Nat.le_refl _) _).alloc (by simp) _
  rw [halfTab_zero] at b0 b1 k0
  go_enter Try.func48, Try.ntmps48
  go_wp2_with fail
  go_loopw [3] (fun i wr => ∃ k : Nat, k ≤ 16 ∧ i = .int .i64 k ∧ Blk wr w.heap.size 90 (halfTab 0) ∧ Blk wr (w.heap.size + 1) 90 (halfTab k) ∧ Below w.heap.size w wr) (fun i _ => 16 - (intOf i).toNat)
  case atStart => exact ⟨0, by omega, rfl, b0, b1, k0⟩
  case round =>
    obtain ⟨k, hk, rfl, c0, c1, hb⟩ := hrel
    have C0 := hide c0; have C1 := hide c1; clear c0 c1 b0 b1 k0
    by_cases hlt : k < 16
    · have hc := C1.out.cell_ k _ (halfTab_get k k hlt)
      rw [if_neg (Nat.lt_irrefl k)] at hc
      have hf := C1.out.frozen k
      go_wp2_with (go_at_call 49; refine (half_any _ _ (by omega) (by omega)).mono ?_; rintro e w' ⟨rfl, rfl⟩)
      go_roundw
      case rel =>
        refine ⟨k + 1, by omega, by go_num, C0.out.far (by simp) _, ?_, hb.setCell (by simp) _⟩
        have h := C1.out.put k (u32v (half k))
        rw [halfTab_put k] at h
        simpa [u32v] using h
      case measure => simp [intOf]; omega
    · obtain rfl : k = 16 := by omega
      go_wp2_with (first
        | (refine wpList_load_row rfl _ _ rfl (w.heap.size + 1) rfl _ (halfTab 16) _ _ C1.out Try.underlying90 rfl (by rw [halfTab_size]; exact Try.infoTab) ?_)
        | (refine wpList_store_row rfl _ _ _ rfl w.heap.size (halfTab 16) rfl rfl _ (halfTab 0) C0.out (by rw [halfTab_size]; exact Try.infoTab) (by rw [halfTab_size, halfTab_size]) (halfTab_one 16) ?_))
      refine bodyPost_ret (results_cell_row rfl _ _ w.heap.size _ (halfTab 16) _ _ rfl (C0.out.row (halfTab 16)) Try.underlying90 rfl (by rw [halfTab_size]; exact Try.infoTab)) rfl ⟨rfl, below_setRow hb (Nat.le_refl _) _⟩

/-- parts of octets: each a slice -/
def slC (s : Sl UInt8) : List Value := [.slice s.A s.n s.c]
/-- the parts' octets, one behind the other -/
def allOf (l : List (Sl UInt8)) : List UInt8 := l.flatMap (·.l)

set_option maxRecDepth 100000 in
set_option maxHeartbeats 1000000 in
theorem sum_any (A : Option Addr) (n c : Nat) (l : List (Sl UInt8)) (w : World) (hx : Rd w A (l.flatMap slC)) (hn : l.length = n) (hm : n ≤ 4294967296)
    (hp : ∀ s ∈ l, Rd w s.A (s.l.map u8v) ∧ s.l.length = s.n ∧ s.n ≤ 4294967296) :
    Calls Try.prog 40 #[.slice A n c] w fun e w' => e = .returned (.int .u32 ((crc (allOf l)).toNat : Int)) ∧ Below w.heap.size w w' := by
  have Hn := hide hn; have Hp := hide hp; clear hn hp
  go_enter Try.func40, Try.ntmps40
  go_wp2_with fail
  refine (halves_any _).mono ?_
  rintro e w1 ⟨rfl, hb1⟩
  go_wp2_with (refine wpList_store_row rfl _ _ _ rfl w1.heap.size (halfTab 16) rfl rfl _ _ (Blk.new w1 _ _) (by rw [halfTab_size]; exact Try.infoTab) (by rw [halfTab_size]; rfl) (halfTab_one 16) ?_)
  have k1 : Below w.heap.size w (w1.alloc (.cells (halfTab 16) 90)) := hb1.alloc hb1.size _
  have tab := Blk.row (Blk.new w1 90 (halfTab 16)) (halfTab 16)
  have tab2 : Blk ((w1.alloc (.cells (halfTab 0) 90)).setRow w1.heap.size (halfTab 16)) w1.heap.size 90 (halfTab 16) := Blk.row (Blk.new w1 _ _) _
  have k2 : Below w.heap.size w ((w1.alloc (.cells (halfTab 0) 90)).setRow w1.heap.size (halfTab 16)) := below_setRow (hb1.alloc hb1.size _) hb1.size _
  rw [halfTab_zero] at tab2 k2
  generalize hW : ((w1.alloc _).setRow w1.heap.size (halfTab 16)) = W at tab2 k2 ⊢
  clear hW k1 tab
  have rx := hx.on k2
  have Tab := hide tab2; clear tab2
  obtain ⟨g, hg⟩ : ∃ g, g = w1.heap.size := ⟨_, rfl⟩
  rw [← hg] at Tab ⊢
  clear hg
  go_loop [4, 12] (fun v i => ∃ k : Nat, k ≤ n ∧ i = .int .i64 k ∧ v = .int .u32 ((regW 0xffffffff#32 (allOf (l.take k))).toNat : Int)) (fun _ i => n - (intOf i).toNat)
  case atStart => exact ⟨0, Nat.zero_le _, rfl, rfl⟩
  case round =>
    obtain ⟨k, hk, rfl, rfl⟩ := hrel
    by_cases hlt : k < n
    · obtain ⟨b, o, s, rfl, _, hsk, hcs⟩ := rx.flat (f := slC) (z := 1) (fun _ => rfl) (by decide) (k := k) (by rw [Hn.out]; exact hlt)
      obtain ⟨As, ns, cs, bs⟩ := s
      have hc := hcs 0 _ rfl
      simp only [Nat.mul_one, Nat.add_zero] at hc
      obtain ⟨rb, lb, mb⟩ := Hp.out _ (List.mem_of_getElem? hsk)
      have rb := rb.on k2
      have Hsk := hide hsk; have Lb := hide lb; clear hsk lb hcs
      have hnext : allOf (l.take (k + 1)) = allOf (l.take k) ++ bs := by
        rw [List.take_add_one, Hsk.out]; simp [allOf]
      have Hnext := hide hnext; clear hnext
      obtain ⟨y0, hy0⟩ : ∃ y0, y0 = regW 0xffffffff#32 (allOf (l.take k)) := ⟨_, rfl⟩
      rw [← hy0]
      have Hy0 := hide hy0; clear hy0
      simp only at rb Lb mb
      go_wp2_with fail
      go_loop [4, 18] (fun v j => ∃ q : Nat, q ≤ ns ∧ j = .int .i64 q ∧ v = .int .u32 ((regW y0 (bs.take q)).toNat : Int)) (fun _ j => ns - (intOf j).toNat)
      case atStart => exact ⟨0, Nat.zero_le _, rfl, rfl⟩
      case round =>
        obtain ⟨q, hq, rfl, rfl⟩ := hrel
        by_cases hlt2 : q < ns
        · obtain ⟨b', o', c', rfl, _, hck, hcc⟩ := rb.u8 (k := q) (by rw [Lb.out]; exact hlt2)
          have hs := regW_take_succ y0 bs q c' hck
          have Hs := hide hs; clear hs hck
          obtain ⟨y, hy⟩ : ∃ y, y = regW y0 (bs.take q) := ⟨_, rfl⟩
          rw [← hy] at Hs ⊢
          clear hy
          have hz0 := byte_u32 y c'
          obtain ⟨z, hz⟩ : ∃ z, z = y ^^^ BitVec.ofNat 32 c'.toNat := ⟨_, rfl⟩
          have hzz : byteW y c' = stepN 4 (stepN 4 z) := by rw [byteW_half, hz]
          rw [← hz] at hz0
          have Hzz := hide hzz; clear hz hzz
          obtain ⟨i1, hi1, ha1, hx1⟩ := tab_step z
          obtain ⟨z2, hz2⟩ : ∃ z2, z2 = stepN 4 z := ⟨_, rfl⟩
          rw [← hz2] at hx1 Hzz
          clear hz2
          obtain ⟨i2, hi2, ha2, hx2⟩ := tab_step z2
          have hz_lt : z.toNat < 4294967296 := z.isLt
          have hz2_lt : z2.toNat < 4294967296 := z2.isLt
          have hy_lt : y.toNat < 4294967296 := y.isLt
          have hc_lt : c'.toNat < 256 := c'.toNat_lt
          have hc1 := Tab.out.cell_ i1 _ (halfTab_get 16 i1 hi1)
          have hc2 := Tab.out.cell_ i2 _ (halfTab_get 16 i2 hi2)
          rw [if_pos hi1] at hc1
          rw [if_pos hi2] at hc2
          simp only [u32v] at hc1 hc2
          go_wp2_with fail
          go_round
          case rel => exact ⟨q + 1, by omega, by go_num, ret_u64 (by rw [Hs.out, Hzz.out])⟩
          case measure => simp [intOf]; omega
        · obtain rfl : q = ns := by omega
          have hf := List.take_of_length_le (l := bs) (Nat.le_of_eq Lb.out)
          rw [hf, Hy0.out, ← regW_append, ← Hnext.out]
          go_wp2_with fail
          go_round
          case rel => exact ⟨k + 1, by omega, by go_num, rfl⟩
          case measure => simp [intOf]; omega
    · obtain rfl : k = n := by omega
      have hy_lt : (regW 0xffffffff#32 (allOf (l.take k))).toNat < 4294967296 := BitVec.isLt _
      go_wp2_with fail
      go_ret
      refine ⟨ret_int ?_, k2⟩
      have hw : l.take k = l := List.take_of_length_le (Nat.le_of_eq Hn.out)
      rw [hw]
      exact not_u32 _
end Go.Proofs.Ytobiepjnnglglaa
