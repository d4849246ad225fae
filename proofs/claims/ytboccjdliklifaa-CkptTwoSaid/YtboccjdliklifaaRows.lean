/-
  No cell of these rows narrows 'for every input' (looked for: loops, veiled, ifaces, maps, wideKeys, modest, calm, conditions, laid).
  DERIVED. THE GIVEN ROWS OF THIS SEAT. 4 by the template 'for every input the law returns true; each argument reads behind the call as it read before'; 0 by the template 'total and deterministic' (their statements: YtboccjdliklifaaTotals.lean).
  GIVEN WITH THE SEED: the statements are not yours to turn. If you find one false, say at which input.
  Laid BY PROGRAM, IN A SANDBOX (cutbox-rows.mjs): the forced cells as the released guide's own fill.sh prints them over the translation ae818ba3aa72c6ac… (all of the seat's roots in one cut). By AI agents, Wed Nov 11 2026. No macro, syntax, notation, axiom, sorry.
-/
import Derived.Test.YtboccjdliklifaaChecked
import GoSem.Claim
import GoSem.ClaimJoined
import GoSem.ClaimMapViews
import Derived.JoinedTies
import Derived.KernelRfl
namespace Go.Proofs.Ytboccjdliklifaa
/- THE CELL 'sum', in the pinned program and in every row, IS THE sha256 OF THE DUMP (.gsa) THAT YtboccjdliklifaaProg.lean LOADS. Nothing in Lean hashes anything: it is a label: what it is worth is what the hold of that sum in a sandbox is worth. -/
noncomputable def Try.pinned : Pinned := { name := "ytboccjdliklifaa", sum := "ae818ba3aa72c6acd455c4aafc5edd6d8e26b96e329f3557434aa20d4e7e08c2", checked := Try.checked }
namespace Rows
def none {H : Type} : Left H := { results := [], args := [] }

/-- 'haymowlaw13.CkptCodes': WHATEVER THE INPUT: true; the input reads as it did. -/
def ckptCodesSpec : ChangeSpec := { name := "ckptCodes", fn := fun _ => fun
  | [d1, d2] => { results := [.lit (.bool true)], args := [d1, d2] }
  | _ => none }
def ckptCodesRow : OpenClaim := { program := "ytboccjdliklifaa", sum := "ae818ba3aa72c6acd455c4aafc5edd6d8e26b96e329f3557434aa20d4e7e08c2", func := "haymow/haymowlaw13.CkptCodes", spec := "ckptCodes", unfollowed := true, recurses := true, apart := false }
def CkptCodesSaid : Prop := ckptCodesRow.holds Try.pinned (OpenSpec.ofChange ckptCodesSpec)

/-- ITS FALSE NEIGHBOUR: 'it returns false'. Refute it at one input. -/
def ckptCodesWrong : ChangeSpec := { name := "ckptCodes", fn := fun _ => fun
  | [d1, d2] => { results := [.lit (.bool false)], args := [d1, d2] }
  | _ => none }
def CkptCodesWrongFalsely : Prop := ckptCodesRow.holds Try.pinned (OpenSpec.ofChange ckptCodesWrong)

/-- 'haymowlaw13.CkptChooses': WHATEVER THE INPUT: true; the input reads as it did. -/
def ckptChoosesSpec : ChangeSpec := { name := "ckptChooses", fn := fun _ => fun
  | [d1, d2] => { results := [.lit (.bool true)], args := [d1, d2] }
  | _ => none }
def ckptChoosesRow : OpenClaim := { program := "ytboccjdliklifaa", sum := "ae818ba3aa72c6acd455c4aafc5edd6d8e26b96e329f3557434aa20d4e7e08c2", func := "haymow/haymowlaw13.CkptChooses", spec := "ckptChooses", unfollowed := true, recurses := true, apart := false }
def CkptChoosesSaid : Prop := ckptChoosesRow.holds Try.pinned (OpenSpec.ofChange ckptChoosesSpec)

/-- ITS FALSE NEIGHBOUR: 'it returns false'. Refute it at one input. -/
def ckptChoosesWrong : ChangeSpec := { name := "ckptChooses", fn := fun _ => fun
  | [d1, d2] => { results := [.lit (.bool false)], args := [d1, d2] }
  | _ => none }
def CkptChoosesWrongFalsely : Prop := ckptChoosesRow.holds Try.pinned (OpenSpec.ofChange ckptChoosesWrong)

/-- 'haymowlaw13.CkptKeeps': WHATEVER THE INPUT: true; the input reads as it did. -/
def ckptKeepsSpec : ChangeSpec := { name := "ckptKeeps", fn := fun _ => fun
  | [d1, d2] => { results := [.lit (.bool true)], args := [d1, d2] }
  | _ => none }
def ckptKeepsRow : OpenClaim := { program := "ytboccjdliklifaa", sum := "ae818ba3aa72c6acd455c4aafc5edd6d8e26b96e329f3557434aa20d4e7e08c2", func := "haymow/haymowlaw13.CkptKeeps", spec := "ckptKeeps", unfollowed := true, recurses := true, apart := false }
def CkptKeepsSaid : Prop := ckptKeepsRow.holds Try.pinned (OpenSpec.ofChange ckptKeepsSpec)

/-- ITS FALSE NEIGHBOUR: 'it returns false'. Refute it at one input. -/
def ckptKeepsWrong : ChangeSpec := { name := "ckptKeeps", fn := fun _ => fun
  | [d1, d2] => { results := [.lit (.bool false)], args := [d1, d2] }
  | _ => none }
def CkptKeepsWrongFalsely : Prop := ckptKeepsRow.holds Try.pinned (OpenSpec.ofChange ckptKeepsWrong)

/-- 'haymowlaw13.CkptTwo': WHATEVER THE INPUT: true; the input reads as it did. -/
def ckptTwoSpec : ChangeSpec := { name := "ckptTwo", fn := fun _ => fun
  | [d1, d2] => { results := [.lit (.bool true)], args := [d1, d2] }
  | _ => none }
def ckptTwoRow : OpenClaim := { program := "ytboccjdliklifaa", sum := "ae818ba3aa72c6acd455c4aafc5edd6d8e26b96e329f3557434aa20d4e7e08c2", func := "haymow/haymowlaw13.CkptTwo", spec := "ckptTwo", unfollowed := true, recurses := true, apart := false }
def CkptTwoSaid : Prop := ckptTwoRow.holds Try.pinned (OpenSpec.ofChange ckptTwoSpec)

/-- ITS FALSE NEIGHBOUR: 'it returns false'. Refute it at one input. -/
def ckptTwoWrong : ChangeSpec := { name := "ckptTwo", fn := fun _ => fun
  | [d1, d2] => { results := [.lit (.bool false)], args := [d1, d2] }
  | _ => none }
def CkptTwoWrongFalsely : Prop := ckptTwoRow.holds Try.pinned (OpenSpec.ofChange ckptTwoWrong)

/- THE SECOND FORM. 'bulk': how many values and letters a reading holds, each counted each time it is reached (what is shared counts as often as it is met; a slice's spare places count too). A statement '..UptoSaid' is the law's where the arguments, and the package variables that the reading takes, are together of bulk at most 1048576: NARROWER than '..Said'. Prove '..Said' where nothing that the law and all that it calls make is longer than what came in: it says more and counts as full. Else prove '..UptoSaid'. A law counts once. -/
mutual
def uptoBulk {H : Type} : DataW H → Nat
  | .lit (.string bytes) => bytes.length + 1
  | .lit _ => 1
  | .nil => 1
  | .ptr d => uptoBulk d + 1
  | .slice elems spare => uptoBulkAll elems + uptoBulkAll spare + 1
  | .agg parts => uptoBulkAll parts + 1
  | .iface _ d => uptoBulk d + 1
  | .map entries => uptoBulkEntries entries + 1
  | .held _ => 1
def uptoBulkAll {H : Type} : List (DataW H) → Nat
  | [] => 0
  | d :: r => uptoBulk d + uptoBulkAll r
def uptoBulkEntries {H : Type} : List (Lit × DataW H) → Nat
  | [] => 0
  | x :: r => uptoBulkEntry x + uptoBulkEntries r
def uptoBulkEntry {H : Type} : Lit × DataW H → Nat
  | (.string bytes, d) => bytes.length + uptoBulk d + 1
  | (_, d) => uptoBulk d + 1
 end
def uptoSmall : (H : Type) → List (DataW H) → Bool := fun _ ds => decide (uptoBulkAll ds ≤ 1048576)
def OpenSpec.upto (s : _root_.Go.ChangeSpec) : _root_.Go.OpenSpec := { _root_.Go.OpenSpec.ofChange s with cond := some uptoSmall }

/-- 'haymowlaw13.CkptCodes', WHERE WHAT IT READS IS OF BULK AT MOST 1048576: true; the input reads as it did. -/
def ckptCodesUptoRow : OpenClaim := { program := "ytboccjdliklifaa", sum := "ae818ba3aa72c6acd455c4aafc5edd6d8e26b96e329f3557434aa20d4e7e08c2", func := "haymow/haymowlaw13.CkptCodes", spec := "ckptCodes", unfollowed := true, recurses := true, apart := false, narrowed := true }
def CkptCodesUptoSaid : Prop := ckptCodesUptoRow.holds Try.pinned (OpenSpec.upto ckptCodesSpec)

/-- 'haymowlaw13.CkptChooses', WHERE WHAT IT READS IS OF BULK AT MOST 1048576: true; the input reads as it did. -/
def ckptChoosesUptoRow : OpenClaim := { program := "ytboccjdliklifaa", sum := "ae818ba3aa72c6acd455c4aafc5edd6d8e26b96e329f3557434aa20d4e7e08c2", func := "haymow/haymowlaw13.CkptChooses", spec := "ckptChooses", unfollowed := true, recurses := true, apart := false, narrowed := true }
def CkptChoosesUptoSaid : Prop := ckptChoosesUptoRow.holds Try.pinned (OpenSpec.upto ckptChoosesSpec)

/-- 'haymowlaw13.CkptKeeps', WHERE WHAT IT READS IS OF BULK AT MOST 1048576: true; the input reads as it did. -/
def ckptKeepsUptoRow : OpenClaim := { program := "ytboccjdliklifaa", sum := "ae818ba3aa72c6acd455c4aafc5edd6d8e26b96e329f3557434aa20d4e7e08c2", func := "haymow/haymowlaw13.CkptKeeps", spec := "ckptKeeps", unfollowed := true, recurses := true, apart := false, narrowed := true }
def CkptKeepsUptoSaid : Prop := ckptKeepsUptoRow.holds Try.pinned (OpenSpec.upto ckptKeepsSpec)

/-- 'haymowlaw13.CkptTwo', WHERE WHAT IT READS IS OF BULK AT MOST 1048576: true; the input reads as it did. -/
def ckptTwoUptoRow : OpenClaim := { program := "ytboccjdliklifaa", sum := "ae818ba3aa72c6acd455c4aafc5edd6d8e26b96e329f3557434aa20d4e7e08c2", func := "haymow/haymowlaw13.CkptTwo", spec := "ckptTwo", unfollowed := true, recurses := true, apart := false, narrowed := true }
def CkptTwoUptoSaid : Prop := ckptTwoUptoRow.holds Try.pinned (OpenSpec.upto ckptTwoSpec)

end Rows
end Go.Proofs.Ytboccjdliklifaa
