/-
  No cell of these rows narrows 'for every input' (looked for: loops, veiled, ifaces, maps, wideKeys, modest, calm, conditions, laid).
  DERIVED. THE GIVEN ROWS OF THIS SEAT. 7 by the template 'for every input the law returns true; each argument reads behind the call as it read before'; 0 by the template 'total and deterministic' (their statements: YtjjplcjinhcpiaaTotals.lean).
  GIVEN WITH THE SEED: the statements are not yours to turn. If you find one false, say at which input.
  Laid BY PROGRAM, IN A SANDBOX (cutbox-rows.mjs): the forced cells as the released guide's own fill.sh prints them over the translation c0115a5a208512d0… (all of the seat's roots in one cut). By AI agents, Wed Nov 11 2026. No macro, syntax, notation, axiom, sorry.
-/
import Derived.Test.YtjjplcjinhcpiaaChecked
import GoSem.Claim
import GoSem.ClaimJoined
import GoSem.ClaimMapViews
import Derived.JoinedTies
import Derived.KernelRfl
namespace Go.Proofs.Ytjjplcjinhcpiaa
/- THE CELL 'sum', in the pinned program and in every row, IS THE sha256 OF THE DUMP (.gsa) THAT YtjjplcjinhcpiaaProg.lean LOADS. Nothing in Lean hashes anything: it is a label: what it is worth is what the hold of that sum in a sandbox is worth. -/
noncomputable def Try.pinned : Pinned := { name := "ytjjplcjinhcpiaa", sum := "c0115a5a208512d0b70992882a9e72e8ac671b14cb4ed0d933b5630f2acf1da2", checked := Try.checked }
namespace Rows
def none {H : Type} : Left H := { results := [], args := [] }

/-- 'queuelablaw27.RouteMatchesReference': WHATEVER THE INPUT: true; the input reads as it did. -/
def routeMatchesReferenceSpec : ChangeSpec := { name := "routeMatchesReference", fn := fun _ => fun
  | [d1, d2, d3, d4, d5, d6, d7] => { results := [.lit (.bool true)], args := [d1, d2, d3, d4, d5, d6, d7] }
  | _ => none }
def routeMatchesReferenceRow : OpenClaim := { program := "ytjjplcjinhcpiaa", sum := "c0115a5a208512d0b70992882a9e72e8ac671b14cb4ed0d933b5630f2acf1da2", func := "queuelab/queuelablaw27.RouteMatchesReference", spec := "routeMatchesReference", unfollowed := true, recurses := true, apart := false }
def RouteMatchesReferenceSaid : Prop := routeMatchesReferenceRow.holds Try.pinned (OpenSpec.ofChange routeMatchesReferenceSpec)

/-- ITS FALSE NEIGHBOUR: 'it returns false'. Refute it at one input. -/
def routeMatchesReferenceWrong : ChangeSpec := { name := "routeMatchesReference", fn := fun _ => fun
  | [d1, d2, d3, d4, d5, d6, d7] => { results := [.lit (.bool false)], args := [d1, d2, d3, d4, d5, d6, d7] }
  | _ => none }
def RouteMatchesReferenceWrongFalsely : Prop := routeMatchesReferenceRow.holds Try.pinned (OpenSpec.ofChange routeMatchesReferenceWrong)

/-- 'queuelablaw27.RouteOrder': WHATEVER THE INPUT: true; the input reads as it did. -/
def routeOrderSpec : ChangeSpec := { name := "routeOrder", fn := fun _ => fun
  | [d1, d2, d3] => { results := [.lit (.bool true)], args := [d1, d2, d3] }
  | _ => none }
def routeOrderRow : OpenClaim := { program := "ytjjplcjinhcpiaa", sum := "c0115a5a208512d0b70992882a9e72e8ac671b14cb4ed0d933b5630f2acf1da2", func := "queuelab/queuelablaw27.RouteOrder", spec := "routeOrder", unfollowed := true, recurses := true, apart := false }
def RouteOrderSaid : Prop := routeOrderRow.holds Try.pinned (OpenSpec.ofChange routeOrderSpec)

/-- ITS FALSE NEIGHBOUR: 'it returns false'. Refute it at one input. -/
def routeOrderWrong : ChangeSpec := { name := "routeOrder", fn := fun _ => fun
  | [d1, d2, d3] => { results := [.lit (.bool false)], args := [d1, d2, d3] }
  | _ => none }
def RouteOrderWrongFalsely : Prop := routeOrderRow.holds Try.pinned (OpenSpec.ofChange routeOrderWrong)

/-- 'queuelablaw27.RouteThrough': WHATEVER THE INPUT: true; the input reads as it did. -/
def routeThroughSpec : ChangeSpec := { name := "routeThrough", fn := fun _ => fun
  | [d1, d2] => { results := [.lit (.bool true)], args := [d1, d2] }
  | _ => none }
def routeThroughRow : OpenClaim := { program := "ytjjplcjinhcpiaa", sum := "c0115a5a208512d0b70992882a9e72e8ac671b14cb4ed0d933b5630f2acf1da2", func := "queuelab/queuelablaw27.RouteThrough", spec := "routeThrough", unfollowed := true, recurses := true, apart := false }
def RouteThroughSaid : Prop := routeThroughRow.holds Try.pinned (OpenSpec.ofChange routeThroughSpec)

/-- ITS FALSE NEIGHBOUR: 'it returns false'. Refute it at one input. -/
def routeThroughWrong : ChangeSpec := { name := "routeThrough", fn := fun _ => fun
  | [d1, d2] => { results := [.lit (.bool false)], args := [d1, d2] }
  | _ => none }
def RouteThroughWrongFalsely : Prop := routeThroughRow.holds Try.pinned (OpenSpec.ofChange routeThroughWrong)

/-- 'queuelablaw27.RouteFirstError': WHATEVER THE INPUT: true; the input reads as it did. -/
def routeFirstErrorSpec : ChangeSpec := { name := "routeFirstError", fn := fun _ => fun
  | [d1, d2] => { results := [.lit (.bool true)], args := [d1, d2] }
  | _ => none }
def routeFirstErrorRow : OpenClaim := { program := "ytjjplcjinhcpiaa", sum := "c0115a5a208512d0b70992882a9e72e8ac671b14cb4ed0d933b5630f2acf1da2", func := "queuelab/queuelablaw27.RouteFirstError", spec := "routeFirstError", unfollowed := true, recurses := true, apart := false }
def RouteFirstErrorSaid : Prop := routeFirstErrorRow.holds Try.pinned (OpenSpec.ofChange routeFirstErrorSpec)

/-- ITS FALSE NEIGHBOUR: 'it returns false'. Refute it at one input. -/
def routeFirstErrorWrong : ChangeSpec := { name := "routeFirstError", fn := fun _ => fun
  | [d1, d2] => { results := [.lit (.bool false)], args := [d1, d2] }
  | _ => none }
def RouteFirstErrorWrongFalsely : Prop := routeFirstErrorRow.holds Try.pinned (OpenSpec.ofChange routeFirstErrorWrong)

/-- 'queuelablaw27.RouteTrip': WHATEVER THE INPUT: true; the input reads as it did. -/
def routeTripSpec : ChangeSpec := { name := "routeTrip", fn := fun _ => fun
  | [d1, d2, d3, d4, d5, d6] => { results := [.lit (.bool true)], args := [d1, d2, d3, d4, d5, d6] }
  | _ => none }
def routeTripRow : OpenClaim := { program := "ytjjplcjinhcpiaa", sum := "c0115a5a208512d0b70992882a9e72e8ac671b14cb4ed0d933b5630f2acf1da2", func := "queuelab/queuelablaw27.RouteTrip", spec := "routeTrip", unfollowed := true, recurses := true, apart := false }
def RouteTripSaid : Prop := routeTripRow.holds Try.pinned (OpenSpec.ofChange routeTripSpec)

/-- ITS FALSE NEIGHBOUR: 'it returns false'. Refute it at one input. -/
def routeTripWrong : ChangeSpec := { name := "routeTrip", fn := fun _ => fun
  | [d1, d2, d3, d4, d5, d6] => { results := [.lit (.bool false)], args := [d1, d2, d3, d4, d5, d6] }
  | _ => none }
def RouteTripWrongFalsely : Prop := routeTripRow.holds Try.pinned (OpenSpec.ofChange routeTripWrong)

/-- 'queuelablaw27.RouteParts': WHATEVER THE INPUT: true; the input reads as it did. -/
def routePartsSpec : ChangeSpec := { name := "routeParts", fn := fun _ => fun
  | [d1, d2, d3, d4] => { results := [.lit (.bool true)], args := [d1, d2, d3, d4] }
  | _ => none }
def routePartsRow : OpenClaim := { program := "ytjjplcjinhcpiaa", sum := "c0115a5a208512d0b70992882a9e72e8ac671b14cb4ed0d933b5630f2acf1da2", func := "queuelab/queuelablaw27.RouteParts", spec := "routeParts", unfollowed := true, recurses := true, apart := false }
def RoutePartsSaid : Prop := routePartsRow.holds Try.pinned (OpenSpec.ofChange routePartsSpec)

/-- ITS FALSE NEIGHBOUR: 'it returns false'. Refute it at one input. -/
def routePartsWrong : ChangeSpec := { name := "routeParts", fn := fun _ => fun
  | [d1, d2, d3, d4] => { results := [.lit (.bool false)], args := [d1, d2, d3, d4] }
  | _ => none }
def RoutePartsWrongFalsely : Prop := routePartsRow.holds Try.pinned (OpenSpec.ofChange routePartsWrong)

/-- 'queuelablaw27.RouteLinks': WHATEVER THE INPUT: true; the input reads as it did. -/
def routeLinksSpec : ChangeSpec := { name := "routeLinks", fn := fun _ => fun
  | [d1, d2, d3, d4, d5] => { results := [.lit (.bool true)], args := [d1, d2, d3, d4, d5] }
  | _ => none }
def routeLinksRow : OpenClaim := { program := "ytjjplcjinhcpiaa", sum := "c0115a5a208512d0b70992882a9e72e8ac671b14cb4ed0d933b5630f2acf1da2", func := "queuelab/queuelablaw27.RouteLinks", spec := "routeLinks", unfollowed := true, recurses := true, apart := false }
def RouteLinksSaid : Prop := routeLinksRow.holds Try.pinned (OpenSpec.ofChange routeLinksSpec)

/-- ITS FALSE NEIGHBOUR: 'it returns false'. Refute it at one input. -/
def routeLinksWrong : ChangeSpec := { name := "routeLinks", fn := fun _ => fun
  | [d1, d2, d3, d4, d5] => { results := [.lit (.bool false)], args := [d1, d2, d3, d4, d5] }
  | _ => none }
def RouteLinksWrongFalsely : Prop := routeLinksRow.holds Try.pinned (OpenSpec.ofChange routeLinksWrong)

/- THE SECOND FORM. 'bulk': how many values and letters a reading holds, each counted each time it is reached (what is shared counts as often as it is met; a slice's spare places count too). A statement '..UptoSaid' is the law's where the arguments, and the package variables that the reading takes, are together of bulk at most 1048576: NARROWER than '..Said'. Prove '..Said' where nothing that the law and all that it calls make is longer than what came in: it says more and counts as full. Else prove '..UptoSaid'. A law counts once. -/
mutual
def uptoBulk {H : Type} : DataW H → Nat
  | .lit (.string bytes) => bytes.length + 1
  | .lit _ => 1
  | .nil => 1
  | .ptr d => uptoBulk d + 1
  | .slice elems spare => uptoBulkAll elems + uptoBulkAll spare + 1
  | .agg parts => uptoBulkAll parts + 1
  | .iface _ d => uptoBulk d + 1
  | .map entries => uptoBulkEntries entries + 1
  | .held _ => 1
def uptoBulkAll {H : Type} : List (DataW H) → Nat
  | [] => 0
  | d :: r => uptoBulk d + uptoBulkAll r
def uptoBulkEntries {H : Type} : List (Lit × DataW H) → Nat
  | [] => 0
  | x :: r => uptoBulkEntry x + uptoBulkEntries r
def uptoBulkEntry {H : Type} : Lit × DataW H → Nat
  | (.string bytes, d) => bytes.length + uptoBulk d + 1
  | (_, d) => uptoBulk d + 1
 end
def uptoSmall : (H : Type) → List (DataW H) → Bool := fun _ ds => decide (uptoBulkAll ds ≤ 1048576)
def OpenSpec.upto (s : _root_.Go.ChangeSpec) : _root_.Go.OpenSpec := { _root_.Go.OpenSpec.ofChange s with cond := some uptoSmall }

/-- 'queuelablaw27.RouteMatchesReference', WHERE WHAT IT READS IS OF BULK AT MOST 1048576: true; the input reads as it did. -/
def routeMatchesReferenceUptoRow : OpenClaim := { program := "ytjjplcjinhcpiaa", sum := "c0115a5a208512d0b70992882a9e72e8ac671b14cb4ed0d933b5630f2acf1da2", func := "queuelab/queuelablaw27.RouteMatchesReference", spec := "routeMatchesReference", unfollowed := true, recurses := true, apart := false, narrowed := true }
def RouteMatchesReferenceUptoSaid : Prop := routeMatchesReferenceUptoRow.holds Try.pinned (OpenSpec.upto routeMatchesReferenceSpec)

/-- 'queuelablaw27.RouteOrder', WHERE WHAT IT READS IS OF BULK AT MOST 1048576: true; the input reads as it did. -/
def routeOrderUptoRow : OpenClaim := { program := "ytjjplcjinhcpiaa", sum := "c0115a5a208512d0b70992882a9e72e8ac671b14cb4ed0d933b5630f2acf1da2", func := "queuelab/queuelablaw27.RouteOrder", spec := "routeOrder", unfollowed := true, recurses := true, apart := false, narrowed := true }
def RouteOrderUptoSaid : Prop := routeOrderUptoRow.holds Try.pinned (OpenSpec.upto routeOrderSpec)

/-- 'queuelablaw27.RouteThrough', WHERE WHAT IT READS IS OF BULK AT MOST 1048576: true; the input reads as it did. -/
def routeThroughUptoRow : OpenClaim := { program := "ytjjplcjinhcpiaa", sum := "c0115a5a208512d0b70992882a9e72e8ac671b14cb4ed0d933b5630f2acf1da2", func := "queuelab/queuelablaw27.RouteThrough", spec := "routeThrough", unfollowed := true, recurses := true, apart := false, narrowed := true }
def RouteThroughUptoSaid : Prop := routeThroughUptoRow.holds Try.pinned (OpenSpec.upto routeThroughSpec)

/-- 'queuelablaw27.RouteFirstError', WHERE WHAT IT READS IS OF BULK AT MOST 1048576: true; the input reads as it did. -/
def routeFirstErrorUptoRow : OpenClaim := { program := "ytjjplcjinhcpiaa", sum := "c0115a5a208512d0b70992882a9e72e8ac671b14cb4ed0d933b5630f2acf1da2", func := "queuelab/queuelablaw27.RouteFirstError", spec := "routeFirstError", unfollowed := true, recurses := true, apart := false, narrowed := true }
def RouteFirstErrorUptoSaid : Prop := routeFirstErrorUptoRow.holds Try.pinned (OpenSpec.upto routeFirstErrorSpec)

/-- 'queuelablaw27.RouteTrip', WHERE WHAT IT READS IS OF BULK AT MOST 1048576: true; the input reads as it did. -/
def routeTripUptoRow : OpenClaim := { program := "ytjjplcjinhcpiaa", sum := "c0115a5a208512d0b70992882a9e72e8ac671b14cb4ed0d933b5630f2acf1da2", func := "queuelab/queuelablaw27.RouteTrip", spec := "routeTrip", unfollowed := true, recurses := true, apart := false, narrowed := true }
def RouteTripUptoSaid : Prop := routeTripUptoRow.holds Try.pinned (OpenSpec.upto routeTripSpec)

/-- 'queuelablaw27.RouteParts', WHERE WHAT IT READS IS OF BULK AT MOST 1048576: true; the input reads as it did. -/
def routePartsUptoRow : OpenClaim := { program := "ytjjplcjinhcpiaa", sum := "c0115a5a208512d0b70992882a9e72e8ac671b14cb4ed0d933b5630f2acf1da2", func := "queuelab/queuelablaw27.RouteParts", spec := "routeParts", unfollowed := true, recurses := true, apart := false, narrowed := true }
def RoutePartsUptoSaid : Prop := routePartsUptoRow.holds Try.pinned (OpenSpec.upto routePartsSpec)

/-- 'queuelablaw27.RouteLinks', WHERE WHAT IT READS IS OF BULK AT MOST 1048576: true; the input reads as it did. -/
def routeLinksUptoRow : OpenClaim := { program := "ytjjplcjinhcpiaa", sum := "c0115a5a208512d0b70992882a9e72e8ac671b14cb4ed0d933b5630f2acf1da2", func := "queuelab/queuelablaw27.RouteLinks", spec := "routeLinks", unfollowed := true, recurses := true, apart := false, narrowed := true }
def RouteLinksUptoSaid : Prop := routeLinksUptoRow.holds Try.pinned (OpenSpec.upto routeLinksSpec)

end Rows
end Go.Proofs.Ytjjplcjinhcpiaa
