/-
  No cell of these rows narrows 'for every input' (looked for: loops, veiled, ifaces, maps, wideKeys, modest, calm, conditions, laid).
  DERIVED. THE GIVEN ROWS OF THIS SEAT. 5 by the template 'for every input the law returns true; each argument reads behind the call as it read before'; 0 by the template 'total and deterministic' (their statements: YtfcllcofikdjaaaTotals.lean).
  GIVEN WITH THE SEED: the statements are not yours to turn. If you find one false, say at which input.
  Laid BY PROGRAM, IN A SANDBOX (cutbox-rows.mjs): the forced cells as the released guide's own fill.sh prints them over the translation 6a5e5b4470b4d48c… (all of the seat's roots in one cut). By AI agents, Wed Nov 11 2026. No macro, syntax, notation, axiom, sorry.
-/
import Derived.Test.YtfcllcofikdjaaaChecked
import GoSem.Claim
import GoSem.ClaimJoined
import GoSem.ClaimMapViews
import Derived.JoinedTies
import Derived.KernelRfl
namespace Go.Proofs.Ytfcllcofikdjaaa
/- THE CELL 'sum', in the pinned program and in every row, IS THE sha256 OF THE DUMP (.gsa) THAT YtfcllcofikdjaaaProg.lean LOADS. Nothing in Lean hashes anything: it is a label: what it is worth is what the hold of that sum in a sandbox is worth. -/
noncomputable def Try.pinned : Pinned := { name := "ytfcllcofikdjaaa", sum := "6a5e5b4470b4d48c1aef3b94f2479554b70f4795b6cbb5ab763bb773114f05b4", checked := Try.checked }
namespace Rows
def none {H : Type} : Left H := { results := [], args := [] }

/-- 'haymowlaw01.PackUnpacks': WHATEVER THE INPUT: true; the input reads as it did. -/
def packUnpacksSpec : ChangeSpec := { name := "packUnpacks", fn := fun _ => fun
  | [d1, d2] => { results := [.lit (.bool true)], args := [d1, d2] }
  | _ => none }
def packUnpacksRow : OpenClaim := { program := "ytfcllcofikdjaaa", sum := "6a5e5b4470b4d48c1aef3b94f2479554b70f4795b6cbb5ab763bb773114f05b4", func := "haymow/haymowlaw01.PackUnpacks", spec := "packUnpacks", apart := false }
def PackUnpacksSaid : Prop := packUnpacksRow.holds Try.pinned (OpenSpec.ofChange packUnpacksSpec)

/-- ITS FALSE NEIGHBOUR: 'it returns false'. Refute it at one input. -/
def packUnpacksWrong : ChangeSpec := { name := "packUnpacks", fn := fun _ => fun
  | [d1, d2] => { results := [.lit (.bool false)], args := [d1, d2] }
  | _ => none }
def PackUnpacksWrongFalsely : Prop := packUnpacksRow.holds Try.pinned (OpenSpec.ofChange packUnpacksWrong)

/-- 'haymowlaw01.PackBack': WHATEVER THE INPUT: true; the input reads as it did. -/
def packBackSpec : ChangeSpec := { name := "packBack", fn := fun _ => fun
  | [d1, d2, d3] => { results := [.lit (.bool true)], args := [d1, d2, d3] }
  | _ => none }
def packBackRow : OpenClaim := { program := "ytfcllcofikdjaaa", sum := "6a5e5b4470b4d48c1aef3b94f2479554b70f4795b6cbb5ab763bb773114f05b4", func := "haymow/haymowlaw01.PackBack", spec := "packBack", apart := false }
def PackBackSaid : Prop := packBackRow.holds Try.pinned (OpenSpec.ofChange packBackSpec)

/-- ITS FALSE NEIGHBOUR: 'it returns false'. Refute it at one input. -/
def packBackWrong : ChangeSpec := { name := "packBack", fn := fun _ => fun
  | [d1, d2, d3] => { results := [.lit (.bool false)], args := [d1, d2, d3] }
  | _ => none }
def PackBackWrongFalsely : Prop := packBackRow.holds Try.pinned (OpenSpec.ofChange packBackWrong)

/-- 'haymowlaw01.PackJoins': WHATEVER THE INPUT: true; the input reads as it did. -/
def packJoinsSpec : ChangeSpec := { name := "packJoins", fn := fun _ => fun
  | [d] => { results := [.lit (.bool true)], args := [d] }
  | _ => none }
def packJoinsRow : OpenClaim := { program := "ytfcllcofikdjaaa", sum := "6a5e5b4470b4d48c1aef3b94f2479554b70f4795b6cbb5ab763bb773114f05b4", func := "haymow/haymowlaw01.PackJoins", spec := "packJoins", apart := false }
def PackJoinsSaid : Prop := packJoinsRow.holds Try.pinned (OpenSpec.ofChange packJoinsSpec)

/-- ITS FALSE NEIGHBOUR: 'it returns false'. Refute it at one input. -/
def packJoinsWrong : ChangeSpec := { name := "packJoins", fn := fun _ => fun
  | [d] => { results := [.lit (.bool false)], args := [d] }
  | _ => none }
def PackJoinsWrongFalsely : Prop := packJoinsRow.holds Try.pinned (OpenSpec.ofChange packJoinsWrong)

/-- 'haymowlaw01.PackReads': WHATEVER THE INPUT: true; the input reads as it did. -/
def packReadsSpec : ChangeSpec := { name := "packReads", fn := fun _ => fun
  | [d1, d2] => { results := [.lit (.bool true)], args := [d1, d2] }
  | _ => none }
def packReadsRow : OpenClaim := { program := "ytfcllcofikdjaaa", sum := "6a5e5b4470b4d48c1aef3b94f2479554b70f4795b6cbb5ab763bb773114f05b4", func := "haymow/haymowlaw01.PackReads", spec := "packReads", apart := false }
def PackReadsSaid : Prop := packReadsRow.holds Try.pinned (OpenSpec.ofChange packReadsSpec)

/-- ITS FALSE NEIGHBOUR: 'it returns false'. Refute it at one input. -/
def packReadsWrong : ChangeSpec := { name := "packReads", fn := fun _ => fun
  | [d1, d2] => { results := [.lit (.bool false)], args := [d1, d2] }
  | _ => none }
def PackReadsWrongFalsely : Prop := packReadsRow.holds Try.pinned (OpenSpec.ofChange packReadsWrong)

/-- 'haymowlaw01.PackFills': WHATEVER THE INPUT: true; the input reads as it did. -/
def packFillsSpec : ChangeSpec := { name := "packFills", fn := fun _ => fun
  | [d1, d2] => { results := [.lit (.bool true)], args := [d1, d2] }
  | _ => none }
def packFillsRow : OpenClaim := { program := "ytfcllcofikdjaaa", sum := "6a5e5b4470b4d48c1aef3b94f2479554b70f4795b6cbb5ab763bb773114f05b4", func := "haymow/haymowlaw01.PackFills", spec := "packFills", unfollowed := true, recurses := true, apart := false }
def PackFillsSaid : Prop := packFillsRow.holds Try.pinned (OpenSpec.ofChange packFillsSpec)

/-- ITS FALSE NEIGHBOUR: 'it returns false'. Refute it at one input. -/
def packFillsWrong : ChangeSpec := { name := "packFills", fn := fun _ => fun
  | [d1, d2] => { results := [.lit (.bool false)], args := [d1, d2] }
  | _ => none }
def PackFillsWrongFalsely : Prop := packFillsRow.holds Try.pinned (OpenSpec.ofChange packFillsWrong)

/- THE SECOND FORM. 'bulk': how many values and letters a reading holds, each counted each time it is reached (what is shared counts as often as it is met; a slice's spare places count too). A statement '..UptoSaid' is the law's where the arguments, and the package variables that the reading takes, are together of bulk at most 1048576: NARROWER than '..Said'. Prove '..Said' where nothing that the law and all that it calls make is longer than what came in: it says more and counts as full. Else prove '..UptoSaid'. A law counts once. -/
mutual
def uptoBulk {H : Type} : DataW H → Nat
  | .lit (.string bytes) => bytes.length + 1
  | .lit _ => 1
  | .nil => 1
  | .ptr d => uptoBulk d + 1
  | .slice elems spare => uptoBulkAll elems + uptoBulkAll spare + 1
  | .agg parts => uptoBulkAll parts + 1
  | .iface _ d => uptoBulk d + 1
  | .map entries => uptoBulkEntries entries + 1
  | .held _ => 1
def uptoBulkAll {H : Type} : List (DataW H) → Nat
  | [] => 0
  | d :: r => uptoBulk d + uptoBulkAll r
def uptoBulkEntries {H : Type} : List (Lit × DataW H) → Nat
  | [] => 0
  | x :: r => uptoBulkEntry x + uptoBulkEntries r
def uptoBulkEntry {H : Type} : Lit × DataW H → Nat
  | (.string bytes, d) => bytes.length + uptoBulk d + 1
  | (_, d) => uptoBulk d + 1
 end
def uptoSmall : (H : Type) → List (DataW H) → Bool := fun _ ds => decide (uptoBulkAll ds ≤ 1048576)
def OpenSpec.upto (s : _root_.Go.ChangeSpec) : _root_.Go.OpenSpec := { _root_.Go.OpenSpec.ofChange s with cond := some uptoSmall }

/-- 'haymowlaw01.PackUnpacks', WHERE WHAT IT READS IS OF BULK AT MOST 1048576: true; the input reads as it did. -/
def packUnpacksUptoRow : OpenClaim := { program := "ytfcllcofikdjaaa", sum := "6a5e5b4470b4d48c1aef3b94f2479554b70f4795b6cbb5ab763bb773114f05b4", func := "haymow/haymowlaw01.PackUnpacks", spec := "packUnpacks", apart := false, narrowed := true }
def PackUnpacksUptoSaid : Prop := packUnpacksUptoRow.holds Try.pinned (OpenSpec.upto packUnpacksSpec)

/-- 'haymowlaw01.PackBack', WHERE WHAT IT READS IS OF BULK AT MOST 1048576: true; the input reads as it did. -/
def packBackUptoRow : OpenClaim := { program := "ytfcllcofikdjaaa", sum := "6a5e5b4470b4d48c1aef3b94f2479554b70f4795b6cbb5ab763bb773114f05b4", func := "haymow/haymowlaw01.PackBack", spec := "packBack", apart := false, narrowed := true }
def PackBackUptoSaid : Prop := packBackUptoRow.holds Try.pinned (OpenSpec.upto packBackSpec)

/-- 'haymowlaw01.PackJoins', WHERE WHAT IT READS IS OF BULK AT MOST 1048576: true; the input reads as it did. -/
def packJoinsUptoRow : OpenClaim := { program := "ytfcllcofikdjaaa", sum := "6a5e5b4470b4d48c1aef3b94f2479554b70f4795b6cbb5ab763bb773114f05b4", func := "haymow/haymowlaw01.PackJoins", spec := "packJoins", apart := false, narrowed := true }
def PackJoinsUptoSaid : Prop := packJoinsUptoRow.holds Try.pinned (OpenSpec.upto packJoinsSpec)

/-- 'haymowlaw01.PackReads', WHERE WHAT IT READS IS OF BULK AT MOST 1048576: true; the input reads as it did. -/
def packReadsUptoRow : OpenClaim := { program := "ytfcllcofikdjaaa", sum := "6a5e5b4470b4d48c1aef3b94f2479554b70f4795b6cbb5ab763bb773114f05b4", func := "haymow/haymowlaw01.PackReads", spec := "packReads", apart := false, narrowed := true }
def PackReadsUptoSaid : Prop := packReadsUptoRow.holds Try.pinned (OpenSpec.upto packReadsSpec)

/-- 'haymowlaw01.PackFills', WHERE WHAT IT READS IS OF BULK AT MOST 1048576: true; the input reads as it did. -/
def packFillsUptoRow : OpenClaim := { program := "ytfcllcofikdjaaa", sum := "6a5e5b4470b4d48c1aef3b94f2479554b70f4795b6cbb5ab763bb773114f05b4", func := "haymow/haymowlaw01.PackFills", spec := "packFills", unfollowed := true, recurses := true, apart := false, narrowed := true }
def PackFillsUptoSaid : Prop := packFillsUptoRow.holds Try.pinned (OpenSpec.upto packFillsSpec)

end Rows
end Go.Proofs.Ytfcllcofikdjaaa
