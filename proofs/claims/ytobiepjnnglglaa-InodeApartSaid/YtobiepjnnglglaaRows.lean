/-
  No cell of these rows narrows 'for every input' (looked for: loops, veiled, ifaces, maps, wideKeys, modest, calm, conditions, laid).
  DERIVED. THE GIVEN ROWS OF THIS SEAT. 5 by the template 'for every input the law returns true; each argument reads behind the call as it read before'; 0 by the template 'total and deterministic' (their statements: YtobiepjnnglglaaTotals.lean).
  GIVEN WITH THE SEED: the statements are not yours to turn. If you find one false, say at which input.
  Laid BY PROGRAM, IN A SANDBOX (cutbox-rows.mjs): the forced cells as the released guide's own fill.sh prints them over the translation 56856c86040888f0… (all of the seat's roots in one cut). By AI agents, Wed Nov 11 2026. No macro, syntax, notation, axiom, sorry.
-/
import Derived.Test.YtobiepjnnglglaaChecked
import GoSem.Claim
import GoSem.ClaimJoined
import GoSem.ClaimMapViews
import Derived.JoinedTies
import Derived.KernelRfl
namespace Go.Proofs.Ytobiepjnnglglaa
/- THE CELL 'sum', in the pinned program and in every row, IS THE sha256 OF THE DUMP (.gsa) THAT YtobiepjnnglglaaProg.lean LOADS. Nothing in Lean hashes anything: it is a label: what it is worth is what the hold of that sum in a sandbox is worth. -/
noncomputable def Try.pinned : Pinned := { name := "ytobiepjnnglglaa", sum := "56856c86040888f0a0c5f0c7157ad753101039ec28c4777a63ea1f9812dd16e3", checked := Try.checked }
namespace Rows
def none {H : Type} : Left H := { results := [], args := [] }

/-- 'haymowlaw07.InodeEncodes': WHATEVER THE INPUT: true; the input reads as it did. -/
def inodeEncodesSpec : ChangeSpec := { name := "inodeEncodes", fn := fun _ => fun
  | [d1, d2, d3] => { results := [.lit (.bool true)], args := [d1, d2, d3] }
  | _ => none }
def inodeEncodesRow : OpenClaim := { program := "ytobiepjnnglglaa", sum := "56856c86040888f0a0c5f0c7157ad753101039ec28c4777a63ea1f9812dd16e3", func := "haymow/haymowlaw07.InodeEncodes", spec := "inodeEncodes", unfollowed := true, recurses := true, apart := false }
def InodeEncodesSaid : Prop := inodeEncodesRow.holds Try.pinned (OpenSpec.ofChange inodeEncodesSpec)

/-- ITS FALSE NEIGHBOUR: 'it returns false'. Refute it at one input. -/
def inodeEncodesWrong : ChangeSpec := { name := "inodeEncodes", fn := fun _ => fun
  | [d1, d2, d3] => { results := [.lit (.bool false)], args := [d1, d2, d3] }
  | _ => none }
def InodeEncodesWrongFalsely : Prop := inodeEncodesRow.holds Try.pinned (OpenSpec.ofChange inodeEncodesWrong)

/-- 'haymowlaw07.InodeDecodes': WHATEVER THE INPUT: true; the input reads as it did. -/
def inodeDecodesSpec : ChangeSpec := { name := "inodeDecodes", fn := fun _ => fun
  | [d1, d2] => { results := [.lit (.bool true)], args := [d1, d2] }
  | _ => none }
def inodeDecodesRow : OpenClaim := { program := "ytobiepjnnglglaa", sum := "56856c86040888f0a0c5f0c7157ad753101039ec28c4777a63ea1f9812dd16e3", func := "haymow/haymowlaw07.InodeDecodes", spec := "inodeDecodes", unfollowed := true, recurses := true, apart := false }
def InodeDecodesSaid : Prop := inodeDecodesRow.holds Try.pinned (OpenSpec.ofChange inodeDecodesSpec)

/-- ITS FALSE NEIGHBOUR: 'it returns false'. Refute it at one input. -/
def inodeDecodesWrong : ChangeSpec := { name := "inodeDecodes", fn := fun _ => fun
  | [d1, d2] => { results := [.lit (.bool false)], args := [d1, d2] }
  | _ => none }
def InodeDecodesWrongFalsely : Prop := inodeDecodesRow.holds Try.pinned (OpenSpec.ofChange inodeDecodesWrong)

/-- 'haymowlaw07.InodeApart': WHATEVER THE INPUT: true; the input reads as it did. -/
def inodeApartSpec : ChangeSpec := { name := "inodeApart", fn := fun _ => fun
  | [d] => { results := [.lit (.bool true)], args := [d] }
  | _ => none }
def inodeApartRow : OpenClaim := { program := "ytobiepjnnglglaa", sum := "56856c86040888f0a0c5f0c7157ad753101039ec28c4777a63ea1f9812dd16e3", func := "haymow/haymowlaw07.InodeApart", spec := "inodeApart", unfollowed := true, recurses := true, apart := false }
def InodeApartSaid : Prop := inodeApartRow.holds Try.pinned (OpenSpec.ofChange inodeApartSpec)

/-- ITS FALSE NEIGHBOUR: 'it returns false'. Refute it at one input. -/
def inodeApartWrong : ChangeSpec := { name := "inodeApart", fn := fun _ => fun
  | [d] => { results := [.lit (.bool false)], args := [d] }
  | _ => none }
def InodeApartWrongFalsely : Prop := inodeApartRow.holds Try.pinned (OpenSpec.ofChange inodeApartWrong)

/-- 'haymowlaw07.InodePoints': WHATEVER THE INPUT: true; the input reads as it did. -/
def inodePointsSpec : ChangeSpec := { name := "inodePoints", fn := fun _ => fun
  | [d1, d2, d3] => { results := [.lit (.bool true)], args := [d1, d2, d3] }
  | _ => none }
def inodePointsRow : OpenClaim := { program := "ytobiepjnnglglaa", sum := "56856c86040888f0a0c5f0c7157ad753101039ec28c4777a63ea1f9812dd16e3", func := "haymow/haymowlaw07.InodePoints", spec := "inodePoints", unfollowed := true, recurses := true, apart := false }
def InodePointsSaid : Prop := inodePointsRow.holds Try.pinned (OpenSpec.ofChange inodePointsSpec)

/-- ITS FALSE NEIGHBOUR: 'it returns false'. Refute it at one input. -/
def inodePointsWrong : ChangeSpec := { name := "inodePoints", fn := fun _ => fun
  | [d1, d2, d3] => { results := [.lit (.bool false)], args := [d1, d2, d3] }
  | _ => none }
def InodePointsWrongFalsely : Prop := inodePointsRow.holds Try.pinned (OpenSpec.ofChange inodePointsWrong)

/-- 'haymowlaw07.InodeNodes': WHATEVER THE INPUT: true; the input reads as it did. -/
def inodeNodesSpec : ChangeSpec := { name := "inodeNodes", fn := fun _ => fun
  | [d1, d2] => { results := [.lit (.bool true)], args := [d1, d2] }
  | _ => none }
def inodeNodesRow : OpenClaim := { program := "ytobiepjnnglglaa", sum := "56856c86040888f0a0c5f0c7157ad753101039ec28c4777a63ea1f9812dd16e3", func := "haymow/haymowlaw07.InodeNodes", spec := "inodeNodes", unfollowed := true, recurses := true, apart := false }
def InodeNodesSaid : Prop := inodeNodesRow.holds Try.pinned (OpenSpec.ofChange inodeNodesSpec)

/-- ITS FALSE NEIGHBOUR: 'it returns false'. Refute it at one input. -/
def inodeNodesWrong : ChangeSpec := { name := "inodeNodes", fn := fun _ => fun
  | [d1, d2] => { results := [.lit (.bool false)], args := [d1, d2] }
  | _ => none }
def InodeNodesWrongFalsely : Prop := inodeNodesRow.holds Try.pinned (OpenSpec.ofChange inodeNodesWrong)

/- THE SECOND FORM. 'bulk': how many values and letters a reading holds, each counted each time it is reached (what is shared counts as often as it is met; a slice's spare places count too). A statement '..UptoSaid' is the law's where the arguments, and the package variables that the reading takes, are together of bulk at most 1048576: NARROWER than '..Said'. Prove '..Said' where nothing that the law and all that it calls make is longer than what came in: it says more and counts as full. Else prove '..UptoSaid'. A law counts once. -/
mutual
def uptoBulk {H : Type} : DataW H → Nat
  | .lit (.string bytes) => bytes.length + 1
  | .lit _ => 1
  | .nil => 1
  | .ptr d => uptoBulk d + 1
  | .slice elems spare => uptoBulkAll elems + uptoBulkAll spare + 1
  | .agg parts => uptoBulkAll parts + 1
  | .iface _ d => uptoBulk d + 1
  | .map entries => uptoBulkEntries entries + 1
  | .held _ => 1
def uptoBulkAll {H : Type} : List (DataW H) → Nat
  | [] => 0
  | d :: r => uptoBulk d + uptoBulkAll r
def uptoBulkEntries {H : Type} : List (Lit × DataW H) → Nat
  | [] => 0
  | x :: r => uptoBulkEntry x + uptoBulkEntries r
def uptoBulkEntry {H : Type} : Lit × DataW H → Nat
  | (.string bytes, d) => bytes.length + uptoBulk d + 1
  | (_, d) => uptoBulk d + 1
 end
def uptoSmall : (H : Type) → List (DataW H) → Bool := fun _ ds => decide (uptoBulkAll ds ≤ 1048576)
def OpenSpec.upto (s : _root_.Go.ChangeSpec) : _root_.Go.OpenSpec := { _root_.Go.OpenSpec.ofChange s with cond := some uptoSmall }

/-- 'haymowlaw07.InodeEncodes', WHERE WHAT IT READS IS OF BULK AT MOST 1048576: true; the input reads as it did. -/
def inodeEncodesUptoRow : OpenClaim := { program := "ytobiepjnnglglaa", sum := "56856c86040888f0a0c5f0c7157ad753101039ec28c4777a63ea1f9812dd16e3", func := "haymow/haymowlaw07.InodeEncodes", spec := "inodeEncodes", unfollowed := true, recurses := true, apart := false, narrowed := true }
def InodeEncodesUptoSaid : Prop := inodeEncodesUptoRow.holds Try.pinned (OpenSpec.upto inodeEncodesSpec)

/-- 'haymowlaw07.InodeDecodes', WHERE WHAT IT READS IS OF BULK AT MOST 1048576: true; the input reads as it did. -/
def inodeDecodesUptoRow : OpenClaim := { program := "ytobiepjnnglglaa", sum := "56856c86040888f0a0c5f0c7157ad753101039ec28c4777a63ea1f9812dd16e3", func := "haymow/haymowlaw07.InodeDecodes", spec := "inodeDecodes", unfollowed := true, recurses := true, apart := false, narrowed := true }
def InodeDecodesUptoSaid : Prop := inodeDecodesUptoRow.holds Try.pinned (OpenSpec.upto inodeDecodesSpec)

/-- 'haymowlaw07.InodeApart', WHERE WHAT IT READS IS OF BULK AT MOST 1048576: true; the input reads as it did. -/
def inodeApartUptoRow : OpenClaim := { program := "ytobiepjnnglglaa", sum := "56856c86040888f0a0c5f0c7157ad753101039ec28c4777a63ea1f9812dd16e3", func := "haymow/haymowlaw07.InodeApart", spec := "inodeApart", unfollowed := true, recurses := true, apart := false, narrowed := true }
def InodeApartUptoSaid : Prop := inodeApartUptoRow.holds Try.pinned (OpenSpec.upto inodeApartSpec)

/-- 'haymowlaw07.InodePoints', WHERE WHAT IT READS IS OF BULK AT MOST 1048576: true; the input reads as it did. -/
def inodePointsUptoRow : OpenClaim := { program := "ytobiepjnnglglaa", sum := "56856c86040888f0a0c5f0c7157ad753101039ec28c4777a63ea1f9812dd16e3", func := "haymow/haymowlaw07.InodePoints", spec := "inodePoints", unfollowed := true, recurses := true, apart := false, narrowed := true }
def InodePointsUptoSaid : Prop := inodePointsUptoRow.holds Try.pinned (OpenSpec.upto inodePointsSpec)

/-- 'haymowlaw07.InodeNodes', WHERE WHAT IT READS IS OF BULK AT MOST 1048576: true; the input reads as it did. -/
def inodeNodesUptoRow : OpenClaim := { program := "ytobiepjnnglglaa", sum := "56856c86040888f0a0c5f0c7157ad753101039ec28c4777a63ea1f9812dd16e3", func := "haymow/haymowlaw07.InodeNodes", spec := "inodeNodes", unfollowed := true, recurses := true, apart := false, narrowed := true }
def InodeNodesUptoSaid : Prop := inodeNodesUptoRow.holds Try.pinned (OpenSpec.upto inodeNodesSpec)

end Rows
end Go.Proofs.Ytobiepjnnglglaa
