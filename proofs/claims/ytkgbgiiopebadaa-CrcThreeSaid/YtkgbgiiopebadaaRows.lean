/-
  No cell of these rows narrows 'for every input' (looked for: loops, veiled, ifaces, maps, wideKeys, modest, calm, conditions, laid).
  DERIVED. THE GIVEN ROWS OF THIS SEAT. 5 by the template 'for every input the law returns true; each argument reads behind the call as it read before'; 0 by the template 'total and deterministic' (their statements: YtkgbgiiopebadaaTotals.lean).
  GIVEN WITH THE SEED: the statements are not yours to turn. If you find one false, say at which input.
  Laid BY PROGRAM, IN A SANDBOX (cutbox-rows.mjs): the forced cells as the released guide's own fill.sh prints them over the translation 49ffaa21310123b3… (all of the seat's roots in one cut). By AI agents, Wed Nov 11 2026. No macro, syntax, notation, axiom, sorry.
-/
import Derived.Test.YtkgbgiiopebadaaChecked
import GoSem.Claim
import GoSem.ClaimJoined
import GoSem.ClaimMapViews
import Derived.JoinedTies
import Derived.KernelRfl
namespace Go.Proofs.Ytkgbgiiopebadaa
/- THE CELL 'sum', in the pinned program and in every row, IS THE sha256 OF THE DUMP (.gsa) THAT YtkgbgiiopebadaaProg.lean LOADS. Nothing in Lean hashes anything: it is a label: what it is worth is what the hold of that sum in a sandbox is worth. -/
noncomputable def Try.pinned : Pinned := { name := "ytkgbgiiopebadaa", sum := "49ffaa21310123b3f788c695d42cd36d66ffef043f9d4b3147a3456b9196e43e", checked := Try.checked }
namespace Rows
def none {H : Type} : Left H := { results := [], args := [] }

/-- 'haymowlaw02.CrcSums': WHATEVER THE INPUT: true; the input reads as it did. -/
def crcSumsSpec : ChangeSpec := { name := "crcSums", fn := fun _ => fun
  | [d1, d2] => { results := [.lit (.bool true)], args := [d1, d2] }
  | _ => none }
def crcSumsRow : OpenClaim := { program := "ytkgbgiiopebadaa", sum := "49ffaa21310123b3f788c695d42cd36d66ffef043f9d4b3147a3456b9196e43e", func := "haymow/haymowlaw02.CrcSums", spec := "crcSums", apart := false }
def CrcSumsSaid : Prop := crcSumsRow.holds Try.pinned (OpenSpec.ofChange crcSumsSpec)

/-- ITS FALSE NEIGHBOUR: 'it returns false'. Refute it at one input. -/
def crcSumsWrong : ChangeSpec := { name := "crcSums", fn := fun _ => fun
  | [d1, d2] => { results := [.lit (.bool false)], args := [d1, d2] }
  | _ => none }
def CrcSumsWrongFalsely : Prop := crcSumsRow.holds Try.pinned (OpenSpec.ofChange crcSumsWrong)

/-- 'haymowlaw02.CrcSeals': WHATEVER THE INPUT: true; the input reads as it did. -/
def crcSealsSpec : ChangeSpec := { name := "crcSeals", fn := fun _ => fun
  | [d] => { results := [.lit (.bool true)], args := [d] }
  | _ => none }
def crcSealsRow : OpenClaim := { program := "ytkgbgiiopebadaa", sum := "49ffaa21310123b3f788c695d42cd36d66ffef043f9d4b3147a3456b9196e43e", func := "haymow/haymowlaw02.CrcSeals", spec := "crcSeals", apart := false }
def CrcSealsSaid : Prop := crcSealsRow.holds Try.pinned (OpenSpec.ofChange crcSealsSpec)

/-- ITS FALSE NEIGHBOUR: 'it returns false'. Refute it at one input. -/
def crcSealsWrong : ChangeSpec := { name := "crcSeals", fn := fun _ => fun
  | [d] => { results := [.lit (.bool false)], args := [d] }
  | _ => none }
def CrcSealsWrongFalsely : Prop := crcSealsRow.holds Try.pinned (OpenSpec.ofChange crcSealsWrong)

/-- 'haymowlaw02.CrcHolds': WHATEVER THE INPUT: true; the input reads as it did. -/
def crcHoldsSpec : ChangeSpec := { name := "crcHolds", fn := fun _ => fun
  | [d] => { results := [.lit (.bool true)], args := [d] }
  | _ => none }
def crcHoldsRow : OpenClaim := { program := "ytkgbgiiopebadaa", sum := "49ffaa21310123b3f788c695d42cd36d66ffef043f9d4b3147a3456b9196e43e", func := "haymow/haymowlaw02.CrcHolds", spec := "crcHolds", apart := false }
def CrcHoldsSaid : Prop := crcHoldsRow.holds Try.pinned (OpenSpec.ofChange crcHoldsSpec)

/-- ITS FALSE NEIGHBOUR: 'it returns false'. Refute it at one input. -/
def crcHoldsWrong : ChangeSpec := { name := "crcHolds", fn := fun _ => fun
  | [d] => { results := [.lit (.bool false)], args := [d] }
  | _ => none }
def CrcHoldsWrongFalsely : Prop := crcHoldsRow.holds Try.pinned (OpenSpec.ofChange crcHoldsWrong)

/-- 'haymowlaw02.CrcFinds': WHATEVER THE INPUT: true; the input reads as it did. -/
def crcFindsSpec : ChangeSpec := { name := "crcFinds", fn := fun _ => fun
  | [d1, d2, d3] => { results := [.lit (.bool true)], args := [d1, d2, d3] }
  | _ => none }
def crcFindsRow : OpenClaim := { program := "ytkgbgiiopebadaa", sum := "49ffaa21310123b3f788c695d42cd36d66ffef043f9d4b3147a3456b9196e43e", func := "haymow/haymowlaw02.CrcFinds", spec := "crcFinds", apart := false }
def CrcFindsSaid : Prop := crcFindsRow.holds Try.pinned (OpenSpec.ofChange crcFindsSpec)

/-- ITS FALSE NEIGHBOUR: 'it returns false'. Refute it at one input. -/
def crcFindsWrong : ChangeSpec := { name := "crcFinds", fn := fun _ => fun
  | [d1, d2, d3] => { results := [.lit (.bool false)], args := [d1, d2, d3] }
  | _ => none }
def CrcFindsWrongFalsely : Prop := crcFindsRow.holds Try.pinned (OpenSpec.ofChange crcFindsWrong)

/-- 'haymowlaw02.CrcThree': WHATEVER THE INPUT: true; the input reads as it did. -/
def crcThreeSpec : ChangeSpec := { name := "crcThree", fn := fun _ => fun
  | [d1, d2, d3] => { results := [.lit (.bool true)], args := [d1, d2, d3] }
  | _ => none }
def crcThreeRow : OpenClaim := { program := "ytkgbgiiopebadaa", sum := "49ffaa21310123b3f788c695d42cd36d66ffef043f9d4b3147a3456b9196e43e", func := "haymow/haymowlaw02.CrcThree", spec := "crcThree", apart := false }
def CrcThreeSaid : Prop := crcThreeRow.holds Try.pinned (OpenSpec.ofChange crcThreeSpec)

/-- ITS FALSE NEIGHBOUR: 'it returns false'. Refute it at one input. -/
def crcThreeWrong : ChangeSpec := { name := "crcThree", fn := fun _ => fun
  | [d1, d2, d3] => { results := [.lit (.bool false)], args := [d1, d2, d3] }
  | _ => none }
def CrcThreeWrongFalsely : Prop := crcThreeRow.holds Try.pinned (OpenSpec.ofChange crcThreeWrong)

/- THE SECOND FORM. 'bulk': how many values and letters a reading holds, each counted each time it is reached (what is shared counts as often as it is met; a slice's spare places count too). A statement '..UptoSaid' is the law's where the arguments, and the package variables that the reading takes, are together of bulk at most 1048576: NARROWER than '..Said'. Prove '..Said' where nothing that the law and all that it calls make is longer than what came in: it says more and counts as full. Else prove '..UptoSaid'. A law counts once. -/
mutual
def uptoBulk {H : Type} : DataW H → Nat
  | .lit (.string bytes) => bytes.length + 1
  | .lit _ => 1
  | .nil => 1
  | .ptr d => uptoBulk d + 1
  | .slice elems spare => uptoBulkAll elems + uptoBulkAll spare + 1
  | .agg parts => uptoBulkAll parts + 1
  | .iface _ d => uptoBulk d + 1
  | .map entries => uptoBulkEntries entries + 1
  | .held _ => 1
def uptoBulkAll {H : Type} : List (DataW H) → Nat
  | [] => 0
  | d :: r => uptoBulk d + uptoBulkAll r
def uptoBulkEntries {H : Type} : List (Lit × DataW H) → Nat
  | [] => 0
  | x :: r => uptoBulkEntry x + uptoBulkEntries r
def uptoBulkEntry {H : Type} : Lit × DataW H → Nat
  | (.string bytes, d) => bytes.length + uptoBulk d + 1
  | (_, d) => uptoBulk d + 1
 end
def uptoSmall : (H : Type) → List (DataW H) → Bool := fun _ ds => decide (uptoBulkAll ds ≤ 1048576)
def OpenSpec.upto (s : _root_.Go.ChangeSpec) : _root_.Go.OpenSpec := { _root_.Go.OpenSpec.ofChange s with cond := some uptoSmall }

/-- 'haymowlaw02.CrcSums', WHERE WHAT IT READS IS OF BULK AT MOST 1048576: true; the input reads as it did. -/
def crcSumsUptoRow : OpenClaim := { program := "ytkgbgiiopebadaa", sum := "49ffaa21310123b3f788c695d42cd36d66ffef043f9d4b3147a3456b9196e43e", func := "haymow/haymowlaw02.CrcSums", spec := "crcSums", apart := false, narrowed := true }
def CrcSumsUptoSaid : Prop := crcSumsUptoRow.holds Try.pinned (OpenSpec.upto crcSumsSpec)

/-- 'haymowlaw02.CrcSeals', WHERE WHAT IT READS IS OF BULK AT MOST 1048576: true; the input reads as it did. -/
def crcSealsUptoRow : OpenClaim := { program := "ytkgbgiiopebadaa", sum := "49ffaa21310123b3f788c695d42cd36d66ffef043f9d4b3147a3456b9196e43e", func := "haymow/haymowlaw02.CrcSeals", spec := "crcSeals", apart := false, narrowed := true }
def CrcSealsUptoSaid : Prop := crcSealsUptoRow.holds Try.pinned (OpenSpec.upto crcSealsSpec)

/-- 'haymowlaw02.CrcHolds', WHERE WHAT IT READS IS OF BULK AT MOST 1048576: true; the input reads as it did. -/
def crcHoldsUptoRow : OpenClaim := { program := "ytkgbgiiopebadaa", sum := "49ffaa21310123b3f788c695d42cd36d66ffef043f9d4b3147a3456b9196e43e", func := "haymow/haymowlaw02.CrcHolds", spec := "crcHolds", apart := false, narrowed := true }
def CrcHoldsUptoSaid : Prop := crcHoldsUptoRow.holds Try.pinned (OpenSpec.upto crcHoldsSpec)

/-- 'haymowlaw02.CrcFinds', WHERE WHAT IT READS IS OF BULK AT MOST 1048576: true; the input reads as it did. -/
def crcFindsUptoRow : OpenClaim := { program := "ytkgbgiiopebadaa", sum := "49ffaa21310123b3f788c695d42cd36d66ffef043f9d4b3147a3456b9196e43e", func := "haymow/haymowlaw02.CrcFinds", spec := "crcFinds", apart := false, narrowed := true }
def CrcFindsUptoSaid : Prop := crcFindsUptoRow.holds Try.pinned (OpenSpec.upto crcFindsSpec)

/-- 'haymowlaw02.CrcThree', WHERE WHAT IT READS IS OF BULK AT MOST 1048576: true; the input reads as it did. -/
def crcThreeUptoRow : OpenClaim := { program := "ytkgbgiiopebadaa", sum := "49ffaa21310123b3f788c695d42cd36d66ffef043f9d4b3147a3456b9196e43e", func := "haymow/haymowlaw02.CrcThree", spec := "crcThree", apart := false, narrowed := true }
def CrcThreeUptoSaid : Prop := crcThreeUptoRow.holds Try.pinned (OpenSpec.upto crcThreeSpec)

end Rows
end Go.Proofs.Ytkgbgiiopebadaa
