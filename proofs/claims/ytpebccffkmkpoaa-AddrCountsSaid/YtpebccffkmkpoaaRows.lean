/-
  No cell of these rows narrows 'for every input' (looked for: loops, veiled, ifaces, maps, wideKeys, modest, calm, conditions, laid).
  DERIVED. THE GIVEN ROWS OF THIS SEAT. 6 by the template 'for every input the law returns true; each argument reads behind the call as it read before'; 0 by the template 'total and deterministic' (their statements: YtpebccffkmkpoaaTotals.lean).
  GIVEN WITH THE SEED: the statements are not yours to turn. If you find one false, say at which input.
  Laid BY PROGRAM, IN A SANDBOX (cutbox-rows.mjs): the forced cells as the released guide's own fill.sh prints them over the translation d0f1db8a20d8772f… (all of the seat's roots in one cut). By AI agents, Wed Nov 11 2026. No macro, syntax, notation, axiom, sorry.
-/
import Derived.Test.YtpebccffkmkpoaaChecked
import GoSem.Claim
import GoSem.ClaimJoined
import GoSem.ClaimMapViews
import Derived.JoinedTies
import Derived.KernelRfl
namespace Go.Proofs.Ytpebccffkmkpoaa
/- THE CELL 'sum', in the pinned program and in every row, IS THE sha256 OF THE DUMP (.gsa) THAT YtpebccffkmkpoaaProg.lean LOADS. Nothing in Lean hashes anything: it is a label: what it is worth is what the hold of that sum in a sandbox is worth. -/
noncomputable def Try.pinned : Pinned := { name := "ytpebccffkmkpoaa", sum := "d0f1db8a20d8772fbef2beb220f3b4806c694bb00e721bbd3362b81c98b71a0c", checked := Try.checked }
namespace Rows
def none {H : Type} : Left H := { results := [], args := [] }

/-- 'haymowlaw03.AddrSpaces': WHATEVER THE INPUT: true; the input reads as it did. -/
def addrSpacesSpec : ChangeSpec := { name := "addrSpaces", fn := fun _ => fun
  | [d] => { results := [.lit (.bool true)], args := [d] }
  | _ => none }
def addrSpacesRow : OpenClaim := { program := "ytpebccffkmkpoaa", sum := "d0f1db8a20d8772fbef2beb220f3b4806c694bb00e721bbd3362b81c98b71a0c", func := "haymow/haymowlaw03.AddrSpaces", spec := "addrSpaces", unfollowed := true, recurses := true, apart := false }
def AddrSpacesSaid : Prop := addrSpacesRow.holds Try.pinned (OpenSpec.ofChange addrSpacesSpec)

/-- ITS FALSE NEIGHBOUR: 'it returns false'. Refute it at one input. -/
def addrSpacesWrong : ChangeSpec := { name := "addrSpaces", fn := fun _ => fun
  | [d] => { results := [.lit (.bool false)], args := [d] }
  | _ => none }
def AddrSpacesWrongFalsely : Prop := addrSpacesRow.holds Try.pinned (OpenSpec.ofChange addrSpacesWrong)

/-- 'haymowlaw03.AddrTiers': WHATEVER THE INPUT: true; the input reads as it did. -/
def addrTiersSpec : ChangeSpec := { name := "addrTiers", fn := fun _ => fun
  | [d] => { results := [.lit (.bool true)], args := [d] }
  | _ => none }
def addrTiersRow : OpenClaim := { program := "ytpebccffkmkpoaa", sum := "d0f1db8a20d8772fbef2beb220f3b4806c694bb00e721bbd3362b81c98b71a0c", func := "haymow/haymowlaw03.AddrTiers", spec := "addrTiers", unfollowed := true, recurses := true, apart := false }
def AddrTiersSaid : Prop := addrTiersRow.holds Try.pinned (OpenSpec.ofChange addrTiersSpec)

/-- ITS FALSE NEIGHBOUR: 'it returns false'. Refute it at one input. -/
def addrTiersWrong : ChangeSpec := { name := "addrTiers", fn := fun _ => fun
  | [d] => { results := [.lit (.bool false)], args := [d] }
  | _ => none }
def AddrTiersWrongFalsely : Prop := addrTiersRow.holds Try.pinned (OpenSpec.ofChange addrTiersWrong)

/-- 'haymowlaw03.AddrSegments': WHATEVER THE INPUT: true; the input reads as it did. -/
def addrSegmentsSpec : ChangeSpec := { name := "addrSegments", fn := fun _ => fun
  | [d1, d2, d3] => { results := [.lit (.bool true)], args := [d1, d2, d3] }
  | _ => none }
def addrSegmentsRow : OpenClaim := { program := "ytpebccffkmkpoaa", sum := "d0f1db8a20d8772fbef2beb220f3b4806c694bb00e721bbd3362b81c98b71a0c", func := "haymow/haymowlaw03.AddrSegments", spec := "addrSegments", unfollowed := true, recurses := true, apart := false }
def AddrSegmentsSaid : Prop := addrSegmentsRow.holds Try.pinned (OpenSpec.ofChange addrSegmentsSpec)

/-- ITS FALSE NEIGHBOUR: 'it returns false'. Refute it at one input. -/
def addrSegmentsWrong : ChangeSpec := { name := "addrSegments", fn := fun _ => fun
  | [d1, d2, d3] => { results := [.lit (.bool false)], args := [d1, d2, d3] }
  | _ => none }
def AddrSegmentsWrongFalsely : Prop := addrSegmentsRow.holds Try.pinned (OpenSpec.ofChange addrSegmentsWrong)

/-- 'haymowlaw03.AddrPlaces': WHATEVER THE INPUT: true; the input reads as it did. -/
def addrPlacesSpec : ChangeSpec := { name := "addrPlaces", fn := fun _ => fun
  | [d1, d2, d3] => { results := [.lit (.bool true)], args := [d1, d2, d3] }
  | _ => none }
def addrPlacesRow : OpenClaim := { program := "ytpebccffkmkpoaa", sum := "d0f1db8a20d8772fbef2beb220f3b4806c694bb00e721bbd3362b81c98b71a0c", func := "haymow/haymowlaw03.AddrPlaces", spec := "addrPlaces", unfollowed := true, recurses := true, apart := false }
def AddrPlacesSaid : Prop := addrPlacesRow.holds Try.pinned (OpenSpec.ofChange addrPlacesSpec)

/-- ITS FALSE NEIGHBOUR: 'it returns false'. Refute it at one input. -/
def addrPlacesWrong : ChangeSpec := { name := "addrPlaces", fn := fun _ => fun
  | [d1, d2, d3] => { results := [.lit (.bool false)], args := [d1, d2, d3] }
  | _ => none }
def AddrPlacesWrongFalsely : Prop := addrPlacesRow.holds Try.pinned (OpenSpec.ofChange addrPlacesWrong)

/-- 'haymowlaw03.AddrCounts': WHATEVER THE INPUT: true; the input reads as it did. -/
def addrCountsSpec : ChangeSpec := { name := "addrCounts", fn := fun _ => fun
  | [d1, d2] => { results := [.lit (.bool true)], args := [d1, d2] }
  | _ => none }
def addrCountsRow : OpenClaim := { program := "ytpebccffkmkpoaa", sum := "d0f1db8a20d8772fbef2beb220f3b4806c694bb00e721bbd3362b81c98b71a0c", func := "haymow/haymowlaw03.AddrCounts", spec := "addrCounts", unfollowed := true, recurses := true, apart := false }
def AddrCountsSaid : Prop := addrCountsRow.holds Try.pinned (OpenSpec.ofChange addrCountsSpec)

/-- ITS FALSE NEIGHBOUR: 'it returns false'. Refute it at one input. -/
def addrCountsWrong : ChangeSpec := { name := "addrCounts", fn := fun _ => fun
  | [d1, d2] => { results := [.lit (.bool false)], args := [d1, d2] }
  | _ => none }
def AddrCountsWrongFalsely : Prop := addrCountsRow.holds Try.pinned (OpenSpec.ofChange addrCountsWrong)

/-- 'haymowlaw03.AddrWithin': WHATEVER THE INPUT: true; the input reads as it did. -/
def addrWithinSpec : ChangeSpec := { name := "addrWithin", fn := fun _ => fun
  | [d1, d2] => { results := [.lit (.bool true)], args := [d1, d2] }
  | _ => none }
def addrWithinRow : OpenClaim := { program := "ytpebccffkmkpoaa", sum := "d0f1db8a20d8772fbef2beb220f3b4806c694bb00e721bbd3362b81c98b71a0c", func := "haymow/haymowlaw03.AddrWithin", spec := "addrWithin", unfollowed := true, recurses := true, apart := false }
def AddrWithinSaid : Prop := addrWithinRow.holds Try.pinned (OpenSpec.ofChange addrWithinSpec)

/-- ITS FALSE NEIGHBOUR: 'it returns false'. Refute it at one input. -/
def addrWithinWrong : ChangeSpec := { name := "addrWithin", fn := fun _ => fun
  | [d1, d2] => { results := [.lit (.bool false)], args := [d1, d2] }
  | _ => none }
def AddrWithinWrongFalsely : Prop := addrWithinRow.holds Try.pinned (OpenSpec.ofChange addrWithinWrong)

/- THE SECOND FORM. 'bulk': how many values and letters a reading holds, each counted each time it is reached (what is shared counts as often as it is met; a slice's spare places count too). A statement '..UptoSaid' is the law's where the arguments, and the package variables that the reading takes, are together of bulk at most 1048576: NARROWER than '..Said'. Prove '..Said' where nothing that the law and all that it calls make is longer than what came in: it says more and counts as full. Else prove '..UptoSaid'. A law counts once. -/
mutual
def uptoBulk {H : Type} : DataW H → Nat
  | .lit (.string bytes) => bytes.length + 1
  | .lit _ => 1
  | .nil => 1
  | .ptr d => uptoBulk d + 1
  | .slice elems spare => uptoBulkAll elems + uptoBulkAll spare + 1
  | .agg parts => uptoBulkAll parts + 1
  | .iface _ d => uptoBulk d + 1
  | .map entries => uptoBulkEntries entries + 1
  | .held _ => 1
def uptoBulkAll {H : Type} : List (DataW H) → Nat
  | [] => 0
  | d :: r => uptoBulk d + uptoBulkAll r
def uptoBulkEntries {H : Type} : List (Lit × DataW H) → Nat
  | [] => 0
  | x :: r => uptoBulkEntry x + uptoBulkEntries r
def uptoBulkEntry {H : Type} : Lit × DataW H → Nat
  | (.string bytes, d) => bytes.length + uptoBulk d + 1
  | (_, d) => uptoBulk d + 1
 end
def uptoSmall : (H : Type) → List (DataW H) → Bool := fun _ ds => decide (uptoBulkAll ds ≤ 1048576)
def OpenSpec.upto (s : _root_.Go.ChangeSpec) : _root_.Go.OpenSpec := { _root_.Go.OpenSpec.ofChange s with cond := some uptoSmall }

/-- 'haymowlaw03.AddrSpaces', WHERE WHAT IT READS IS OF BULK AT MOST 1048576: true; the input reads as it did. -/
def addrSpacesUptoRow : OpenClaim := { program := "ytpebccffkmkpoaa", sum := "d0f1db8a20d8772fbef2beb220f3b4806c694bb00e721bbd3362b81c98b71a0c", func := "haymow/haymowlaw03.AddrSpaces", spec := "addrSpaces", unfollowed := true, recurses := true, apart := false, narrowed := true }
def AddrSpacesUptoSaid : Prop := addrSpacesUptoRow.holds Try.pinned (OpenSpec.upto addrSpacesSpec)

/-- 'haymowlaw03.AddrTiers', WHERE WHAT IT READS IS OF BULK AT MOST 1048576: true; the input reads as it did. -/
def addrTiersUptoRow : OpenClaim := { program := "ytpebccffkmkpoaa", sum := "d0f1db8a20d8772fbef2beb220f3b4806c694bb00e721bbd3362b81c98b71a0c", func := "haymow/haymowlaw03.AddrTiers", spec := "addrTiers", unfollowed := true, recurses := true, apart := false, narrowed := true }
def AddrTiersUptoSaid : Prop := addrTiersUptoRow.holds Try.pinned (OpenSpec.upto addrTiersSpec)

/-- 'haymowlaw03.AddrSegments', WHERE WHAT IT READS IS OF BULK AT MOST 1048576: true; the input reads as it did. -/
def addrSegmentsUptoRow : OpenClaim := { program := "ytpebccffkmkpoaa", sum := "d0f1db8a20d8772fbef2beb220f3b4806c694bb00e721bbd3362b81c98b71a0c", func := "haymow/haymowlaw03.AddrSegments", spec := "addrSegments", unfollowed := true, recurses := true, apart := false, narrowed := true }
def AddrSegmentsUptoSaid : Prop := addrSegmentsUptoRow.holds Try.pinned (OpenSpec.upto addrSegmentsSpec)

/-- 'haymowlaw03.AddrPlaces', WHERE WHAT IT READS IS OF BULK AT MOST 1048576: true; the input reads as it did. -/
def addrPlacesUptoRow : OpenClaim := { program := "ytpebccffkmkpoaa", sum := "d0f1db8a20d8772fbef2beb220f3b4806c694bb00e721bbd3362b81c98b71a0c", func := "haymow/haymowlaw03.AddrPlaces", spec := "addrPlaces", unfollowed := true, recurses := true, apart := false, narrowed := true }
def AddrPlacesUptoSaid : Prop := addrPlacesUptoRow.holds Try.pinned (OpenSpec.upto addrPlacesSpec)

/-- 'haymowlaw03.AddrCounts', WHERE WHAT IT READS IS OF BULK AT MOST 1048576: true; the input reads as it did. -/
def addrCountsUptoRow : OpenClaim := { program := "ytpebccffkmkpoaa", sum := "d0f1db8a20d8772fbef2beb220f3b4806c694bb00e721bbd3362b81c98b71a0c", func := "haymow/haymowlaw03.AddrCounts", spec := "addrCounts", unfollowed := true, recurses := true, apart := false, narrowed := true }
def AddrCountsUptoSaid : Prop := addrCountsUptoRow.holds Try.pinned (OpenSpec.upto addrCountsSpec)

/-- 'haymowlaw03.AddrWithin', WHERE WHAT IT READS IS OF BULK AT MOST 1048576: true; the input reads as it did. -/
def addrWithinUptoRow : OpenClaim := { program := "ytpebccffkmkpoaa", sum := "d0f1db8a20d8772fbef2beb220f3b4806c694bb00e721bbd3362b81c98b71a0c", func := "haymow/haymowlaw03.AddrWithin", spec := "addrWithin", unfollowed := true, recurses := true, apart := false, narrowed := true }
def AddrWithinUptoSaid : Prop := addrWithinUptoRow.holds Try.pinned (OpenSpec.upto addrWithinSpec)

end Rows
end Go.Proofs.Ytpebccffkmkpoaa
