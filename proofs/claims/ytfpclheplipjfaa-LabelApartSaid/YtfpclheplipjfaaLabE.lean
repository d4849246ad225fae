/- Layer 5: supers and labels, read by the program and by the document's text. No condition. -/
import Derived.Test.YtfpclheplipjfaaLabD
import Derived.Test.YtfpclheplipjfaaOf
namespace Go.Proofs.Ytfpclheplipjfaa
open Go.RowKit

theorem readS_cases (b : List UInt8) : (readSN b = ([], 5) ∧ readS b = ((0, 0, 0, 0), 5)) ∨ (readSN b = ([], 3) ∧ readS b = ((0, 0, 0, 0), 3)) ∨
    ∃ d l v s : Nat, d < 65536 ∧ l < 65536 ∧ v < 65536 ∧ s < 65536 ∧ readSN b = ([d, l, v, s], 0) ∧ readS b = (((d : Int), (l : Int), (v : Int), (s : Int)), 0) := by
  unfold readSN readS
  by_cases h : heldB b = false
  · exact .inl ⟨if_pos h, if_pos h⟩
  · rw [if_neg h, if_neg h]
    by_cases h2 : mayG (sup b 4 2) (sup b 6 2) (sup b 8 1) (sup b 9 2) ∧ superB (sup b 4 2) (sup b 6 2) (sup b 8 1) (sup b 9 2) = b
    · have a0 := sup_lt b 4 2; have a1 := sup_lt b 6 2; have a2 := sup_lt b 8 1; have a3 := sup_lt b 9 2
      exact .inr (.inr ⟨_, _, _, _, by omega, by omega, by omega, by omega, if_pos h2, if_pos h2⟩)
    · exact .inr (.inl ⟨if_neg h2, if_neg h2⟩)
theorem readL_cases (b : List UInt8) : (readLN b = ([], 5) ∧ readL b = ((0, 0), 5)) ∨ (readLN b = ([], 3) ∧ readL b = ((0, 0), 3)) ∨
    ∃ v g : Nat, v < 4294967296 ∧ g < 4294967296 ∧ readLN b = ([v, g], 0) ∧ readL b = (((v : Int), (g : Int)), 0) := by
  unfold readLN readL
  by_cases h : heldB b = false
  · exact .inl ⟨if_pos h, if_pos h⟩
  · rw [if_neg h, if_neg h]
    by_cases h2 : mayL (sup b 4 1) (sup b 5 4) ∧ labelB (sup b 4 1) (sup b 5 4) = b
    · have a0 := sup_lt b 4 1; have a1 := sup_lt b 5 4
      exact .inr (.inr ⟨_, _, by omega, by omega, if_pos h2, if_pos h2⟩)
    · exact .inr (.inl ⟨if_neg h2, if_neg h2⟩)
theorem geo_blk {W : World} {g : Nat} {t : TypeId} {a b c d : Value} {x0 x1 x2 x3 : Value} (h : Blk W g t #[x0, x1, x2, x3]) :
    Blk ((((W.setCell ⟨g, 0, none⟩ a).setCell ⟨g, 1, none⟩ b).setCell ⟨g, 2, none⟩ c).setCell ⟨g, 3, none⟩ d) g t #[a, b, c, d] :=
  (((h.put 0 a).put 1 b).put 2 c).put 3 d
theorem geo_below {W w : World} {g : Nat} {a b c d : Value} (h : Below w.heap.size w W) (hg : w.heap.size ≤ g) :
    Below w.heap.size w ((((W.setCell ⟨g, 0, none⟩ a).setCell ⟨g, 1, none⟩ b).setCell ⟨g, 2, none⟩ c).setCell ⟨g, 3, none⟩ d) :=
  (((h.setCell hg a).setCell hg b).setCell hg c).setCell hg d
set_option maxRecDepth 100000 in
set_option maxHeartbeats 4000000 in
theorem readSuper_any (A : Option Addr) (n c : Nat) (bs : List UInt8) (w : World) (hx : Rd w A (bs.map u8v)) (hn : bs.length = n) (hc : n ≤ c) :
    Calls Try.prog 11 #[.slice A n c] w fun e w' => e = .returned (.tuple #[.agg #[.int .i64 (readS bs).1.1, .int .i64 (readS bs).1.2.1, .int .i64 (readS bs).1.2.2.1, .int .i64 (readS bs).1.2.2.2], .int .i64 (readS bs).2]) ∧ Below w.heap.size w w' := by
  have hR0 := Blk.new_ (w.alloc (.cells #[.int .i64 0, .int .i64 0, .int .i64 0, .int .i64 0] 23)) 3 #[.int .i64 2, .int .i64 2, .int .i64 1, .int .i64 2] (w.heap.size + 1) (by simp)
  have R : Calls Try.prog 22 #[.slice A n c, .string { data := #[104, 97, 121, 109] }, .func (.func 23) #[] #[], .slice (some ⟨w.heap.size + 1, 0, none⟩) 4 4] ((w.alloc (.cells #[.int .i64 0, .int .i64 0, .int .i64 0, .int .i64 0] 23)).alloc (.cells #[.int .i64 2, .int .i64 2, .int .i64 1, .int .i64 2] 3)) (MadeN _ (readSN bs)) :=
    readS_any A _ n c 4 bs _ ((hx.alloc _).alloc _) hn hc hR0.rd
  have B0 := hide (Blk.new w 23 #[.int .i64 0, .int .i64 0, .int .i64 0, .int .i64 0])
  rcases readS_cases bs with ⟨h1, h2⟩ | ⟨h1, h2⟩ | ⟨d, l, v, s, d0, l0, v0, s0, h1, h2⟩
  · rw [h1] at R; rw [h2]
    replace R := hide R
    clear h1 h2 hx hn hR0
    go_enter Try.func11, Try.ntmps11
    go_wp2_with (go_at_call 22; (with_reducible refine (unhide R).mono ?_); rintro e w1 ⟨A1, c1, rfl, _, hb1⟩; have B1 := hide ((B0.out.alloc _).below hb1 (B0.out.alloc _).lt); have hb := hide (nextB box2 hb1); have f0 := B1.out.frozen 0; have f1 := B1.out.frozen 1; have f2 := B1.out.frozen 2; have f3 := B1.out.frozen 3; have k0 := B1.out.cell_ 0 _ rfl; have k1 := B1.out.cell_ 1 _ rfl; have k2 := B1.out.cell_ 2 _ rfl; have k3 := B1.out.cell_ 3 _ rfl; clear hb1)
    exact bodyPost_ret (results_pair rfl _ _ Try.wideGeo w.heap.size 0 [.int .i64 0, .int .i64 0, .int .i64 0, .int .i64 0] rfl rfl (blk_from (geo_blk B1.out))) rfl ⟨rfl, geo_below hb.out (Nat.le_refl _)⟩
  · rw [h1] at R; rw [h2]
    replace R := hide R
    clear h1 h2 hx hn hR0
    go_enter Try.func11, Try.ntmps11
    go_wp2_with (go_at_call 22; (with_reducible refine (unhide R).mono ?_); rintro e w1 ⟨A1, c1, rfl, _, hb1⟩; have B1 := hide ((B0.out.alloc _).below hb1 (B0.out.alloc _).lt); have hb := hide (nextB box2 hb1); have f0 := B1.out.frozen 0; have f1 := B1.out.frozen 1; have f2 := B1.out.frozen 2; have f3 := B1.out.frozen 3; have k0 := B1.out.cell_ 0 _ rfl; have k1 := B1.out.cell_ 1 _ rfl; have k2 := B1.out.cell_ 2 _ rfl; have k3 := B1.out.cell_ 3 _ rfl; clear hb1)
    exact bodyPost_ret (results_pair rfl _ _ Try.wideGeo w.heap.size 0 [.int .i64 0, .int .i64 0, .int .i64 0, .int .i64 0] rfl rfl (blk_from (geo_blk B1.out))) rfl ⟨rfl, geo_below hb.out (Nat.le_refl _)⟩
  · rw [h1] at R; rw [h2]
    replace R := hide R
    clear h1 h2 hx hn hR0
    go_enter Try.func11, Try.ntmps11
    go_wp2_with (first
      | (go_at_call 22; (with_reducible refine (unhide R).mono ?_); rintro e w1 ⟨A1, c1, rfl, hr1, hb1⟩; have B1 := hide ((B0.out.alloc _).below hb1 (B0.out.alloc _).lt); have hb := hide (nextB box2 hb1); have G := hide (geo_any A1 c1 d l v s w1 hr1 (by omega) (by omega) (by omega) (by omega)); clear hb1 hr1)
      | (go_at_call 24; (with_reducible refine (unhide G).mono ?_); rintro e w2 ⟨rfl, hb2⟩; replace B1 := hide (B1.out.below hb2 B1.out.lt); replace hb := hide (nextB hb.out hb2); have f0 := B1.out.frozen 0; have f1 := B1.out.frozen 1; have f2 := B1.out.frozen 2; have f3 := B1.out.frozen 3; have k0 := B1.out.cell_ 0 _ rfl; have k1 := B1.out.cell_ 1 _ rfl; have k2 := B1.out.cell_ 2 _ rfl; have k3 := B1.out.cell_ 3 _ rfl; clear hb2))
    exact bodyPost_ret (results_pair rfl _ _ Try.wideGeo w.heap.size 0 [.int .i64 (d : Int), .int .i64 (l : Int), .int .i64 (v : Int), .int .i64 (s : Int)] rfl rfl (blk_from (geo_blk B1.out))) rfl ⟨rfl, geo_below hb.out (Nat.le_refl _)⟩
set_option maxRecDepth 100000 in
set_option maxHeartbeats 4000000 in
theorem readLabel_any (A : Option Addr) (n c : Nat) (bs : List UInt8) (w : World) (hx : Rd w A (bs.map u8v)) (hn : bs.length = n) (hc : n ≤ c) :
    Calls Try.prog 12 #[.slice A n c] w fun e w' => e = .returned (.tuple #[.int .i64 (readL bs).1.1, .int .i64 (readL bs).1.2, .int .i64 (readL bs).2]) ∧ Below w.heap.size w w' := by
  have hR0 := Blk.new w 3 #[.int .i64 1, .int .i64 4]
  have R : Calls Try.prog 22 #[.slice A n c, .string { data := #[104, 118, 111, 108] }, .func (.func 25) #[] #[], .slice (some ⟨w.heap.size, 0, none⟩) 2 2] (w.alloc (.cells #[.int .i64 1, .int .i64 4] 3)) (MadeN _ (readLN bs)) :=
    readL_any A _ n c 2 bs _ (hx.alloc _) hn hc hR0.rd
  rcases readL_cases bs with ⟨h1, h2⟩ | ⟨h1, h2⟩ | ⟨v, g, v0, g0, h1, h2⟩
  · rw [h1] at R; rw [h2]
    replace R := hide R
    clear h1 h2 hx hn hR0
    go_enter Try.func12, Try.ntmps12
    go_wp2_with (go_at_call 22; (with_reducible refine (unhide R).mono ?_); rintro e w1 ⟨A1, c1, rfl, _, hb1⟩; have hb := hide (nextB box1 hb1); clear hb1)
    go_ret3
    exact ⟨rfl, hb.out⟩
  · rw [h1] at R; rw [h2]
    replace R := hide R
    clear h1 h2 hx hn hR0
    go_enter Try.func12, Try.ntmps12
    go_wp2_with (go_at_call 22; (with_reducible refine (unhide R).mono ?_); rintro e w1 ⟨A1, c1, rfl, _, hb1⟩; have hb := hide (nextB box1 hb1); clear hb1)
    go_ret3
    exact ⟨rfl, hb.out⟩
  · rw [h1] at R; rw [h2]
    replace R := hide R
    clear h1 h2 hx hn hR0
    go_enter Try.func12, Try.ntmps12
    go_wp2_with (go_at_call 22; (with_reducible refine (unhide R).mono ?_); rintro e w1 ⟨A1, c1, rfl, hr1, hb1⟩; have hb := hide (nextB box1 hb1); obtain ⟨b1, o1, rfl, hl1⟩ : ∃ b o, A1 = some ⟨b, o, none⟩ ∧ b < w1.heap.size := (by obtain ⟨b, o, u, h, h2, _⟩ := hr1.at (k := 0) (by simp); exact ⟨b, o, h, h2⟩); have q0 : ∀ x : Ext w1, x.w.cell? ⟨b1, o1, none⟩ = some (.int .u64 (v : Int)) := (fun x => (hr1.on x.h).cell (k := 0) rfl); have q1 : ∀ x : Ext w1, x.w.cell? ⟨b1, o1 + 1, none⟩ = some (.int .u64 (g : Int)) := (fun x => (hr1.on x.h).cell (k := 1) rfl); clear hb1 hr1)
    have e0 : IntKind.i64.wrap (v : Int) = v := IntWalk.i64_in _ (by omega)
    have e1 : IntKind.i64.wrap (g : Int) = g := IntWalk.i64_in _ (by omega)
    refine wp_region_ext w1 (by kernel_rfl) (by kernel_rfl) (Below.refl _ _) ?_
    repeat (first | go_big_quiet_step ((first | fail)) | quiet_step ((first | fail)))
    refine wpQuiet_nil ?_
    intro wx hw'
    obtain ⟨⟨_, hx⟩, rfl⟩ := hw'
    clear q0 q1
    go_wp2_with fail
    go_ret3
    exact ⟨rfl, nextB hb.out hx⟩
end Go.Proofs.Ytfpclheplipjfaa
