/-
  No cell of these rows narrows 'for every input' (looked for: loops, veiled, ifaces, maps, wideKeys, modest, calm, conditions, laid).
  DERIVED. THE GIVEN ROWS OF THIS SEAT. 4 by the template 'for every input the law returns true; each argument reads behind the call as it read before'; 0 by the template 'total and deterministic' (their statements: YtalcgnjkhnmmiaaTotals.lean).
  GIVEN WITH THE SEED: the statements are not yours to turn. If you find one false, say at which input.
  Laid BY PROGRAM, IN A SANDBOX (cutbox-rows.mjs): the forced cells as the released guide's own fill.sh prints them over the translation ef9c127334efd208… (all of the seat's roots in one cut). By AI agents, Wed Nov 11 2026. No macro, syntax, notation, axiom, sorry.
-/
import Derived.Test.YtalcgnjkhnmmiaaChecked
import GoSem.Claim
import GoSem.ClaimJoined
import GoSem.ClaimMapViews
import Derived.JoinedTies
import Derived.KernelRfl
namespace Go.Proofs.Ytalcgnjkhnmmiaa
/- THE CELL 'sum', in the pinned program and in every row, IS THE sha256 OF THE DUMP (.gsa) THAT YtalcgnjkhnmmiaaProg.lean LOADS. Nothing in Lean hashes anything: it is a label: what it is worth is what the hold of that sum in a sandbox is worth. -/
noncomputable def Try.pinned : Pinned := { name := "ytalcgnjkhnmmiaa", sum := "ef9c127334efd20842250ab14de9d658d80c1171b74a28f877e022b2bb871174", checked := Try.checked }
namespace Rows
def none {H : Type} : Left H := { results := [], args := [] }

/-- 'haymowlaw12.ImapRules': WHATEVER THE INPUT: true; the input reads as it did. -/
def imapRulesSpec : ChangeSpec := { name := "imapRules", fn := fun _ => fun
  | [d1, d2, d3] => { results := [.lit (.bool true)], args := [d1, d2, d3] }
  | _ => none }
def imapRulesRow : OpenClaim := { program := "ytalcgnjkhnmmiaa", sum := "ef9c127334efd20842250ab14de9d658d80c1171b74a28f877e022b2bb871174", func := "haymow/haymowlaw12.ImapRules", spec := "imapRules", apart := false }
def ImapRulesSaid : Prop := imapRulesRow.holds Try.pinned (OpenSpec.ofChange imapRulesSpec)

/-- ITS FALSE NEIGHBOUR: 'it returns false'. Refute it at one input. -/
def imapRulesWrong : ChangeSpec := { name := "imapRules", fn := fun _ => fun
  | [d1, d2, d3] => { results := [.lit (.bool false)], args := [d1, d2, d3] }
  | _ => none }
def ImapRulesWrongFalsely : Prop := imapRulesRow.holds Try.pinned (OpenSpec.ofChange imapRulesWrong)

/-- 'haymowlaw12.ImapMoves': WHATEVER THE INPUT: true; the input reads as it did. -/
def imapMovesSpec : ChangeSpec := { name := "imapMoves", fn := fun _ => fun
  | [d1, d2, d3] => { results := [.lit (.bool true)], args := [d1, d2, d3] }
  | _ => none }
def imapMovesRow : OpenClaim := { program := "ytalcgnjkhnmmiaa", sum := "ef9c127334efd20842250ab14de9d658d80c1171b74a28f877e022b2bb871174", func := "haymow/haymowlaw12.ImapMoves", spec := "imapMoves", apart := false }
def ImapMovesSaid : Prop := imapMovesRow.holds Try.pinned (OpenSpec.ofChange imapMovesSpec)

/-- ITS FALSE NEIGHBOUR: 'it returns false'. Refute it at one input. -/
def imapMovesWrong : ChangeSpec := { name := "imapMoves", fn := fun _ => fun
  | [d1, d2, d3] => { results := [.lit (.bool false)], args := [d1, d2, d3] }
  | _ => none }
def ImapMovesWrongFalsely : Prop := imapMovesRow.holds Try.pinned (OpenSpec.ofChange imapMovesWrong)

/-- 'haymowlaw12.ImapGives': WHATEVER THE INPUT: true; the input reads as it did. -/
def imapGivesSpec : ChangeSpec := { name := "imapGives", fn := fun _ => fun
  | [d] => { results := [.lit (.bool true)], args := [d] }
  | _ => none }
def imapGivesRow : OpenClaim := { program := "ytalcgnjkhnmmiaa", sum := "ef9c127334efd20842250ab14de9d658d80c1171b74a28f877e022b2bb871174", func := "haymow/haymowlaw12.ImapGives", spec := "imapGives", apart := false }
def ImapGivesSaid : Prop := imapGivesRow.holds Try.pinned (OpenSpec.ofChange imapGivesSpec)

/-- ITS FALSE NEIGHBOUR: 'it returns false'. Refute it at one input. -/
def imapGivesWrong : ChangeSpec := { name := "imapGives", fn := fun _ => fun
  | [d] => { results := [.lit (.bool false)], args := [d] }
  | _ => none }
def ImapGivesWrongFalsely : Prop := imapGivesRow.holds Try.pinned (OpenSpec.ofChange imapGivesWrong)

/-- 'haymowlaw12.ImapCodes': WHATEVER THE INPUT: true; the input reads as it did. -/
def imapCodesSpec : ChangeSpec := { name := "imapCodes", fn := fun _ => fun
  | [d] => { results := [.lit (.bool true)], args := [d] }
  | _ => none }
def imapCodesRow : OpenClaim := { program := "ytalcgnjkhnmmiaa", sum := "ef9c127334efd20842250ab14de9d658d80c1171b74a28f877e022b2bb871174", func := "haymow/haymowlaw12.ImapCodes", spec := "imapCodes", apart := false }
def ImapCodesSaid : Prop := imapCodesRow.holds Try.pinned (OpenSpec.ofChange imapCodesSpec)

/-- ITS FALSE NEIGHBOUR: 'it returns false'. Refute it at one input. -/
def imapCodesWrong : ChangeSpec := { name := "imapCodes", fn := fun _ => fun
  | [d] => { results := [.lit (.bool false)], args := [d] }
  | _ => none }
def ImapCodesWrongFalsely : Prop := imapCodesRow.holds Try.pinned (OpenSpec.ofChange imapCodesWrong)

/- THE SECOND FORM. 'bulk': how many values and letters a reading holds, each counted each time it is reached (what is shared counts as often as it is met; a slice's spare places count too). A statement '..UptoSaid' is the law's where the arguments, and the package variables that the reading takes, are together of bulk at most 1048576: NARROWER than '..Said'. Prove '..Said' where nothing that the law and all that it calls make is longer than what came in: it says more and counts as full. Else prove '..UptoSaid'. A law counts once. -/
mutual
def uptoBulk {H : Type} : DataW H → Nat
  | .lit (.string bytes) => bytes.length + 1
  | .lit _ => 1
  | .nil => 1
  | .ptr d => uptoBulk d + 1
  | .slice elems spare => uptoBulkAll elems + uptoBulkAll spare + 1
  | .agg parts => uptoBulkAll parts + 1
  | .iface _ d => uptoBulk d + 1
  | .map entries => uptoBulkEntries entries + 1
  | .held _ => 1
def uptoBulkAll {H : Type} : List (DataW H) → Nat
  | [] => 0
  | d :: r => uptoBulk d + uptoBulkAll r
def uptoBulkEntries {H : Type} : List (Lit × DataW H) → Nat
  | [] => 0
  | x :: r => uptoBulkEntry x + uptoBulkEntries r
def uptoBulkEntry {H : Type} : Lit × DataW H → Nat
  | (.string bytes, d) => bytes.length + uptoBulk d + 1
  | (_, d) => uptoBulk d + 1
 end
def uptoSmall : (H : Type) → List (DataW H) → Bool := fun _ ds => decide (uptoBulkAll ds ≤ 1048576)
def OpenSpec.upto (s : _root_.Go.ChangeSpec) : _root_.Go.OpenSpec := { _root_.Go.OpenSpec.ofChange s with cond := some uptoSmall }

/-- 'haymowlaw12.ImapRules', WHERE WHAT IT READS IS OF BULK AT MOST 1048576: true; the input reads as it did. -/
def imapRulesUptoRow : OpenClaim := { program := "ytalcgnjkhnmmiaa", sum := "ef9c127334efd20842250ab14de9d658d80c1171b74a28f877e022b2bb871174", func := "haymow/haymowlaw12.ImapRules", spec := "imapRules", apart := false, narrowed := true }
def ImapRulesUptoSaid : Prop := imapRulesUptoRow.holds Try.pinned (OpenSpec.upto imapRulesSpec)

/-- 'haymowlaw12.ImapMoves', WHERE WHAT IT READS IS OF BULK AT MOST 1048576: true; the input reads as it did. -/
def imapMovesUptoRow : OpenClaim := { program := "ytalcgnjkhnmmiaa", sum := "ef9c127334efd20842250ab14de9d658d80c1171b74a28f877e022b2bb871174", func := "haymow/haymowlaw12.ImapMoves", spec := "imapMoves", apart := false, narrowed := true }
def ImapMovesUptoSaid : Prop := imapMovesUptoRow.holds Try.pinned (OpenSpec.upto imapMovesSpec)

/-- 'haymowlaw12.ImapGives', WHERE WHAT IT READS IS OF BULK AT MOST 1048576: true; the input reads as it did. -/
def imapGivesUptoRow : OpenClaim := { program := "ytalcgnjkhnmmiaa", sum := "ef9c127334efd20842250ab14de9d658d80c1171b74a28f877e022b2bb871174", func := "haymow/haymowlaw12.ImapGives", spec := "imapGives", apart := false, narrowed := true }
def ImapGivesUptoSaid : Prop := imapGivesUptoRow.holds Try.pinned (OpenSpec.upto imapGivesSpec)

/-- 'haymowlaw12.ImapCodes', WHERE WHAT IT READS IS OF BULK AT MOST 1048576: true; the input reads as it did. -/
def imapCodesUptoRow : OpenClaim := { program := "ytalcgnjkhnmmiaa", sum := "ef9c127334efd20842250ab14de9d658d80c1171b74a28f877e022b2bb871174", func := "haymow/haymowlaw12.ImapCodes", spec := "imapCodes", apart := false, narrowed := true }
def ImapCodesUptoSaid : Prop := imapCodesUptoRow.holds Try.pinned (OpenSpec.upto imapCodesSpec)

end Rows
end Go.Proofs.Ytalcgnjkhnmmiaa
