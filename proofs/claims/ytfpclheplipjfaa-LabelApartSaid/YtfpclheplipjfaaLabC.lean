/- Layer 5: what stands in a super, a label. No condition. -/
import Derived.Test.YtfpclheplipjfaaLabB
import Derived.Test.YtfpclheplipjfaaRes
namespace Go.Proofs.Ytfpclheplipjfaa
open Go.RowKit

set_option maxRecDepth 100000 in
set_option maxHeartbeats 2000000 in
theorem prefix_any (A A' : Option Addr) (n c n' c' : Nat) (xs ys : List UInt8) (w : World) (hx : Rd w A (xs.map u8v)) (hy : Rd w A' (ys.map u8v)) (hn : xs.length = n) (hn' : ys.length = n') (hc : n ≤ c) (hle : n' ≤ n) :
    Calls Try.prog 41 #[.slice A n c, .slice A' n' c'] w fun e w' => e = .returned (.bool (decide (xs.take n' = ys))) ∧ w = w' := by
  have G := hide (bytesEq_any A A' n' c n' c' (xs.take n') ys w (by rw [List.map_take]; exact hx.take n') hy (by rw [List.length_take, hn]; omega) hn')
  clear hx hy hn hn'
  go_enter Try.func41, Try.ntmps41
  go_wp2_with (go_at_call 36; (with_reducible refine (unhide G).mono ?_); rintro e w1 ⟨rfl, rfl⟩)
  go_ret
  exact ⟨rfl, rfl⟩
theorem Try.wideGeo : Wide Try.prog 23 4 := ⟨by kernel_rfl, by kernel_rfl⟩
/-- what is cut off: the slice behind, or the slice itself -/
def CutV (A : Option Addr) (n c k : Nat) (b : Bool) (e : Ending) : Prop := ∃ A', e = .returned (.tuple #[.slice A' (if b then n - k else n) (if b then c - k else c), .bool b]) ∧ (b = false → A' = A) ∧ (b = true → A' = if c = k then A else A.map (·.add k))
set_option maxRecDepth 100000 in
set_option maxHeartbeats 2000000 in
theorem cut_any (A A' : Option Addr) (n c n' c' : Nat) (xs ys : List UInt8) (w : World) (hx : Rd w A (xs.map u8v)) (hy : Rd w A' (ys.map u8v)) (hn : xs.length = n) (hn' : ys.length = n') (hc : n ≤ c) (hlt : n' < n) (b : Bool) (hb : decide (xs.take n' = ys) = b) :
    Calls Try.prog 34 #[.slice A n c, .slice A' n' c'] w fun e w' => CutV A n c n' b e ∧ w = w' := by
  have G := prefix_any A A' n c n' c' xs ys w hx hy hn hn' hc (by omega)
  rw [hb] at G
  have hne : ¬ c = n' := by omega
  rcases b with _ | _
  · replace G := hide G
    clear hx hy hn hn' hb
    go_enter Try.func34, Try.ntmps34
    go_wp2_with (go_at_call 41; (with_reducible refine (unhide G).mono ?_); rintro e w1 ⟨rfl, rfl⟩)
    go_ret2
    exact ⟨⟨A, rfl, fun _ => rfl, fun h => by cases h⟩, rfl⟩
  · replace G := hide G
    have hA : ∃ a, A = some a := by
      rcases hx with h | ⟨b0, o0, h, _⟩
      · have := congrArg List.length h; simp at this; subst this; simp at hn; omega
      · exact ⟨_, h⟩
    obtain ⟨a, rfl⟩ := hA
    clear hx hy hn hn' hb
    go_enter Try.func34, Try.ntmps34
    go_wp2_with (go_at_call 41; (with_reducible refine (unhide G).mono ?_); rintro e w1 ⟨rfl, rfl⟩)
    go_ret2
    exact ⟨⟨some (a.add n'), rfl, fun h => (by cases h), fun _ => by rw [if_neg hne]; rfl⟩, rfl⟩
set_option maxRecDepth 100000 in
set_option maxHeartbeats 2000000 in
theorem geo_any (A : Option Addr) (c : Nat) (d l v s : Nat) (w : World) (hx : Rd w A ([d, l, v, s].map u64v)) (hd : d < 9223372036854775808) (hl : l < 9223372036854775808) (hv : v < 9223372036854775808) (hs : s < 9223372036854775808) :
    Calls Try.prog 24 #[.slice A 4 c] w fun e w' => e = .returned (.agg #[.int .i64 (d : Int), .int .i64 (l : Int), .int .i64 (v : Int), .int .i64 (s : Int)]) ∧ Below w.heap.size w w' := by
  obtain ⟨b0, o0, rfl, hb0⟩ : ∃ b o, A = some ⟨b, o, none⟩ ∧ b < w.heap.size := by
    obtain ⟨b, o, u, h, h2, _⟩ := hx.at (k := 0) (by simp)
    exact ⟨b, o, h, h2⟩
  have q0 : w.cell? ⟨b0, o0 + 0, none⟩ = some (.int .u64 (d : Int)) := hx.cell rfl
  have q1 : w.cell? ⟨b0, o0 + 1, none⟩ = some (.int .u64 (l : Int)) := hx.cell rfl
  have q2 : w.cell? ⟨b0, o0 + 2, none⟩ = some (.int .u64 (v : Int)) := hx.cell rfl
  have q3 : w.cell? ⟨b0, o0 + 3, none⟩ = some (.int .u64 (s : Int)) := hx.cell rfl
  rw [Nat.add_zero] at q0
  have e0 : IntKind.i64.wrap (d : Int) = d := IntWalk.i64_in _ (by omega)
  have e1 : IntKind.i64.wrap (l : Int) = l := IntWalk.i64_in _ (by omega)
  have e2 : IntKind.i64.wrap (v : Int) = v := IntWalk.i64_in _ (by omega)
  have e3 : IntKind.i64.wrap (s : Int) = s := IntWalk.i64_in _ (by omega)
  clear hx
  go_enter Try.func24, Try.ntmps24
  go_wp2_with fail
  have B2 := hide (Blk.new w 23 #[.int .i64 0, .int .i64 0, .int .i64 0, .int .i64 0])
  have r0 := (World.cell?_alloc_lt w (.cells #[.int .i64 0, .int .i64 0, .int .i64 0, .int .i64 0] 23) ⟨b0, o0, none⟩ hb0).trans q0
  have r1 := (World.cell?_alloc_lt w (.cells #[.int .i64 0, .int .i64 0, .int .i64 0, .int .i64 0] 23) ⟨b0, o0 + 1, none⟩ hb0).trans q1
  have r2 := (World.cell?_alloc_lt w (.cells #[.int .i64 0, .int .i64 0, .int .i64 0, .int .i64 0] 23) ⟨b0, o0 + 2, none⟩ hb0).trans q2
  have r3 := (World.cell?_alloc_lt w (.cells #[.int .i64 0, .int .i64 0, .int .i64 0, .int .i64 0] 23) ⟨b0, o0 + 3, none⟩ hb0).trans q3
  have hb := hide (box1 (w := w) (o := .cells #[.int .i64 0, .int .i64 0, .int .i64 0, .int .i64 0] 23))
  generalize (w.alloc _) = W at B2 r0 r1 r2 r3 hb ⊢
  clear q0 q1 q2 q3
  go_still_tail 17, (by kernel_rfl)
  change wpList _ _ _ _ _ W.drew
  have f0 := B2.out.frozen 0; have f1 := B2.out.frozen 1; have f2 := B2.out.frozen 2; have f3 := B2.out.frozen 3
  have k0 := B2.out.cell_ 0 _ rfl; have k1 := B2.out.cell_ 1 _ rfl; have k2 := B2.out.cell_ 2 _ rfl; have k3 := B2.out.cell_ 3 _ rfl
  clear r0 r1 r2 r3 e0 e1 e2 e3
  go_wp2_with fail
  have BF := ((((B2.out.put 0 (.int .i64 (d : Int))).put 1 (.int .i64 (l : Int))).put 2 (.int .i64 (v : Int))).put 3 (.int .i64 (s : Int))).drew
  exact bodyPost_ret (results_one rfl _ _ Try.wideGeo w.heap.size 0 [.int .i64 (d : Int), .int .i64 (l : Int), .int .i64 (v : Int), .int .i64 (s : Int)] rfl rfl (blk_from BF)) rfl
    ⟨rfl, ((((hb.out.setCell (Nat.le_refl _) _).setCell (Nat.le_refl _) _).setCell (Nat.le_refl _) _).setCell (Nat.le_refl _) _).drew⟩
end Go.Proofs.Ytfpclheplipjfaa
