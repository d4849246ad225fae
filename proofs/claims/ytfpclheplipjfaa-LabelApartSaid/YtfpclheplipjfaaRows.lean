/-
  No cell of these rows narrows 'for every input' (looked for: loops, veiled, ifaces, maps, wideKeys, modest, calm, conditions, laid).
  DERIVED. THE GIVEN ROWS OF THIS SEAT. 4 by the template 'for every input the law returns true; each argument reads behind the call as it read before'; 0 by the template 'total and deterministic' (their statements: YtfpclheplipjfaaTotals.lean).
  GIVEN WITH THE SEED: the statements are not yours to turn. If you find one false, say at which input.
  Laid BY PROGRAM, IN A SANDBOX (cutbox-rows.mjs): the forced cells as the released guide's own fill.sh prints them over the translation dc5dc0c5d56ec728… (all of the seat's roots in one cut). By AI agents, Wed Nov 11 2026. No macro, syntax, notation, axiom, sorry.
-/
import Derived.Test.YtfpclheplipjfaaChecked
import GoSem.Claim
import GoSem.ClaimJoined
import GoSem.ClaimMapViews
import Derived.JoinedTies
import Derived.KernelRfl
namespace Go.Proofs.Ytfpclheplipjfaa
/- THE CELL 'sum', in the pinned program and in every row, IS THE sha256 OF THE DUMP (.gsa) THAT YtfpclheplipjfaaProg.lean LOADS. Nothing in Lean hashes anything: it is a label: what it is worth is what the hold of that sum in a sandbox is worth. -/
noncomputable def Try.pinned : Pinned := { name := "ytfpclheplipjfaa", sum := "dc5dc0c5d56ec72809f6c4d1e8e9d166a7f647018335b44708b5afb04e775d3d", checked := Try.checked }
namespace Rows
def none {H : Type} : Left H := { results := [], args := [] }

/-- 'haymowlaw05.LabelApart': WHATEVER THE INPUT: true; the input reads as it did. -/
def labelApartSpec : ChangeSpec := { name := "labelApart", fn := fun _ => fun
  | [d] => { results := [.lit (.bool true)], args := [d] }
  | _ => none }
def labelApartRow : OpenClaim := { program := "ytfpclheplipjfaa", sum := "dc5dc0c5d56ec72809f6c4d1e8e9d166a7f647018335b44708b5afb04e775d3d", func := "haymow/haymowlaw05.LabelApart", spec := "labelApart", unfollowed := true, recurses := true, apart := false }
def LabelApartSaid : Prop := labelApartRow.holds Try.pinned (OpenSpec.ofChange labelApartSpec)

/-- ITS FALSE NEIGHBOUR: 'it returns false'. Refute it at one input. -/
def labelApartWrong : ChangeSpec := { name := "labelApart", fn := fun _ => fun
  | [d] => { results := [.lit (.bool false)], args := [d] }
  | _ => none }
def LabelApartWrongFalsely : Prop := labelApartRow.holds Try.pinned (OpenSpec.ofChange labelApartWrong)

/-- 'haymowlaw05.LabelSupers': WHATEVER THE INPUT: true; the input reads as it did. -/
def labelSupersSpec : ChangeSpec := { name := "labelSupers", fn := fun _ => fun
  | [d] => { results := [.lit (.bool true)], args := [d] }
  | _ => none }
def labelSupersRow : OpenClaim := { program := "ytfpclheplipjfaa", sum := "dc5dc0c5d56ec72809f6c4d1e8e9d166a7f647018335b44708b5afb04e775d3d", func := "haymow/haymowlaw05.LabelSupers", spec := "labelSupers", unfollowed := true, recurses := true, apart := false }
def LabelSupersSaid : Prop := labelSupersRow.holds Try.pinned (OpenSpec.ofChange labelSupersSpec)

/-- ITS FALSE NEIGHBOUR: 'it returns false'. Refute it at one input. -/
def labelSupersWrong : ChangeSpec := { name := "labelSupers", fn := fun _ => fun
  | [d] => { results := [.lit (.bool false)], args := [d] }
  | _ => none }
def LabelSupersWrongFalsely : Prop := labelSupersRow.holds Try.pinned (OpenSpec.ofChange labelSupersWrong)

/-- 'haymowlaw05.LabelVolumes': WHATEVER THE INPUT: true; the input reads as it did. -/
def labelVolumesSpec : ChangeSpec := { name := "labelVolumes", fn := fun _ => fun
  | [d1, d2] => { results := [.lit (.bool true)], args := [d1, d2] }
  | _ => none }
def labelVolumesRow : OpenClaim := { program := "ytfpclheplipjfaa", sum := "dc5dc0c5d56ec72809f6c4d1e8e9d166a7f647018335b44708b5afb04e775d3d", func := "haymow/haymowlaw05.LabelVolumes", spec := "labelVolumes", unfollowed := true, recurses := true, apart := false }
def LabelVolumesSaid : Prop := labelVolumesRow.holds Try.pinned (OpenSpec.ofChange labelVolumesSpec)

/-- ITS FALSE NEIGHBOUR: 'it returns false'. Refute it at one input. -/
def labelVolumesWrong : ChangeSpec := { name := "labelVolumes", fn := fun _ => fun
  | [d1, d2] => { results := [.lit (.bool false)], args := [d1, d2] }
  | _ => none }
def LabelVolumesWrongFalsely : Prop := labelVolumesRow.holds Try.pinned (OpenSpec.ofChange labelVolumesWrong)

/-- 'haymowlaw05.LabelReads': WHATEVER THE INPUT: true; the input reads as it did. -/
def labelReadsSpec : ChangeSpec := { name := "labelReads", fn := fun _ => fun
  | [d] => { results := [.lit (.bool true)], args := [d] }
  | _ => none }
def labelReadsRow : OpenClaim := { program := "ytfpclheplipjfaa", sum := "dc5dc0c5d56ec72809f6c4d1e8e9d166a7f647018335b44708b5afb04e775d3d", func := "haymow/haymowlaw05.LabelReads", spec := "labelReads", unfollowed := true, recurses := true, apart := false }
def LabelReadsSaid : Prop := labelReadsRow.holds Try.pinned (OpenSpec.ofChange labelReadsSpec)

/-- ITS FALSE NEIGHBOUR: 'it returns false'. Refute it at one input. -/
def labelReadsWrong : ChangeSpec := { name := "labelReads", fn := fun _ => fun
  | [d] => { results := [.lit (.bool false)], args := [d] }
  | _ => none }
def LabelReadsWrongFalsely : Prop := labelReadsRow.holds Try.pinned (OpenSpec.ofChange labelReadsWrong)

/- THE SECOND FORM. 'bulk': how many values and letters a reading holds, each counted each time it is reached (what is shared counts as often as it is met; a slice's spare places count too). A statement '..UptoSaid' is the law's where the arguments, and the package variables that the reading takes, are together of bulk at most 1048576: NARROWER than '..Said'. Prove '..Said' where nothing that the law and all that it calls make is longer than what came in: it says more and counts as full. Else prove '..UptoSaid'. A law counts once. -/
mutual
def uptoBulk {H : Type} : DataW H → Nat
  | .lit (.string bytes) => bytes.length + 1
  | .lit _ => 1
  | .nil => 1
  | .ptr d => uptoBulk d + 1
  | .slice elems spare => uptoBulkAll elems + uptoBulkAll spare + 1
  | .agg parts => uptoBulkAll parts + 1
  | .iface _ d => uptoBulk d + 1
  | .map entries => uptoBulkEntries entries + 1
  | .held _ => 1
def uptoBulkAll {H : Type} : List (DataW H) → Nat
  | [] => 0
  | d :: r => uptoBulk d + uptoBulkAll r
def uptoBulkEntries {H : Type} : List (Lit × DataW H) → Nat
  | [] => 0
  | x :: r => uptoBulkEntry x + uptoBulkEntries r
def uptoBulkEntry {H : Type} : Lit × DataW H → Nat
  | (.string bytes, d) => bytes.length + uptoBulk d + 1
  | (_, d) => uptoBulk d + 1
 end
def uptoSmall : (H : Type) → List (DataW H) → Bool := fun _ ds => decide (uptoBulkAll ds ≤ 1048576)
def OpenSpec.upto (s : _root_.Go.ChangeSpec) : _root_.Go.OpenSpec := { _root_.Go.OpenSpec.ofChange s with cond := some uptoSmall }

/-- 'haymowlaw05.LabelApart', WHERE WHAT IT READS IS OF BULK AT MOST 1048576: true; the input reads as it did. -/
def labelApartUptoRow : OpenClaim := { program := "ytfpclheplipjfaa", sum := "dc5dc0c5d56ec72809f6c4d1e8e9d166a7f647018335b44708b5afb04e775d3d", func := "haymow/haymowlaw05.LabelApart", spec := "labelApart", unfollowed := true, recurses := true, apart := false, narrowed := true }
def LabelApartUptoSaid : Prop := labelApartUptoRow.holds Try.pinned (OpenSpec.upto labelApartSpec)

/-- 'haymowlaw05.LabelSupers', WHERE WHAT IT READS IS OF BULK AT MOST 1048576: true; the input reads as it did. -/
def labelSupersUptoRow : OpenClaim := { program := "ytfpclheplipjfaa", sum := "dc5dc0c5d56ec72809f6c4d1e8e9d166a7f647018335b44708b5afb04e775d3d", func := "haymow/haymowlaw05.LabelSupers", spec := "labelSupers", unfollowed := true, recurses := true, apart := false, narrowed := true }
def LabelSupersUptoSaid : Prop := labelSupersUptoRow.holds Try.pinned (OpenSpec.upto labelSupersSpec)

/-- 'haymowlaw05.LabelVolumes', WHERE WHAT IT READS IS OF BULK AT MOST 1048576: true; the input reads as it did. -/
def labelVolumesUptoRow : OpenClaim := { program := "ytfpclheplipjfaa", sum := "dc5dc0c5d56ec72809f6c4d1e8e9d166a7f647018335b44708b5afb04e775d3d", func := "haymow/haymowlaw05.LabelVolumes", spec := "labelVolumes", unfollowed := true, recurses := true, apart := false, narrowed := true }
def LabelVolumesUptoSaid : Prop := labelVolumesUptoRow.holds Try.pinned (OpenSpec.upto labelVolumesSpec)

/-- 'haymowlaw05.LabelReads', WHERE WHAT IT READS IS OF BULK AT MOST 1048576: true; the input reads as it did. -/
def labelReadsUptoRow : OpenClaim := { program := "ytfpclheplipjfaa", sum := "dc5dc0c5d56ec72809f6c4d1e8e9d166a7f647018335b44708b5afb04e775d3d", func := "haymow/haymowlaw05.LabelReads", spec := "labelReads", unfollowed := true, recurses := true, apart := false, narrowed := true }
def LabelReadsUptoSaid : Prop := labelReadsUptoRow.holds Try.pinned (OpenSpec.upto labelReadsSpec)

end Rows
end Go.Proofs.Ytfpclheplipjfaa
