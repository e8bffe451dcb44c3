/-
  No cell of these rows narrows 'for every input' (looked for: loops, veiled, ifaces, maps, wideKeys, modest, calm, conditions, laid).
  DERIVED. THE GIVEN ROWS OF THIS SEAT. 7 by the template 'for every input the law returns true; each argument reads behind the call as it read before'; 0 by the template 'total and deterministic' (their statements: YtjnjokkhkfdaiaaTotals.lean).
  GIVEN WITH THE SEED: the statements are not yours to turn. If you find one false, say at which input.
  Laid BY PROGRAM, IN A SANDBOX (cutbox-rows.mjs): the forced cells as the released guide's own fill.sh prints them over the translation e6a12304916876ef… (all of the seat's roots in one cut). By AI agents, Wed Nov 11 2026. No macro, syntax, notation, axiom, sorry.
-/
import Derived.Test.YtjnjokkhkfdaiaaChecked
import GoSem.Claim
import GoSem.ClaimJoined
import GoSem.ClaimMapViews
import Derived.JoinedTies
import Derived.KernelRfl
namespace Go.Proofs.Ytjnjokkhkfdaiaa
/- THE CELL 'sum', in the pinned program and in every row, IS THE sha256 OF THE DUMP (.gsa) THAT YtjnjokkhkfdaiaaProg.lean LOADS. Nothing in Lean hashes anything: it is a label: what it is worth is what the hold of that sum in a sandbox is worth. -/
noncomputable def Try.pinned : Pinned := { name := "ytjnjokkhkfdaiaa", sum := "e6a12304916876ef7b189fb1d3d72925e151bb4721a39beb73eccc5ded6b0e33", checked := Try.checked }
namespace Rows
def none {H : Type} : Left H := { results := [], args := [] }

/-- 'queuelablaw12.RatioMatchesReference': WHATEVER THE INPUT: true; the input reads as it did. -/
def ratioMatchesReferenceSpec : ChangeSpec := { name := "ratioMatchesReference", fn := fun _ => fun
  | [d1, d2, d3, d4] => { results := [.lit (.bool true)], args := [d1, d2, d3, d4] }
  | _ => none }
def ratioMatchesReferenceRow : OpenClaim := { program := "ytjnjokkhkfdaiaa", sum := "e6a12304916876ef7b189fb1d3d72925e151bb4721a39beb73eccc5ded6b0e33", func := "queuelab/queuelablaw12.RatioMatchesReference", spec := "ratioMatchesReference", unfollowed := true, recurses := true, apart := false }
def RatioMatchesReferenceSaid : Prop := ratioMatchesReferenceRow.holds Try.pinned (OpenSpec.ofChange ratioMatchesReferenceSpec)

/-- ITS FALSE NEIGHBOUR: 'it returns false'. Refute it at one input. -/
def ratioMatchesReferenceWrong : ChangeSpec := { name := "ratioMatchesReference", fn := fun _ => fun
  | [d1, d2, d3, d4] => { results := [.lit (.bool false)], args := [d1, d2, d3, d4] }
  | _ => none }
def RatioMatchesReferenceWrongFalsely : Prop := ratioMatchesReferenceRow.holds Try.pinned (OpenSpec.ofChange ratioMatchesReferenceWrong)

/-- 'queuelablaw12.RatioExact': WHATEVER THE INPUT: true; the input reads as it did. -/
def ratioExactSpec : ChangeSpec := { name := "ratioExact", fn := fun _ => fun
  | [d1, d2] => { results := [.lit (.bool true)], args := [d1, d2] }
  | _ => none }
def ratioExactRow : OpenClaim := { program := "ytjnjokkhkfdaiaa", sum := "e6a12304916876ef7b189fb1d3d72925e151bb4721a39beb73eccc5ded6b0e33", func := "queuelab/queuelablaw12.RatioExact", spec := "ratioExact", unfollowed := true, recurses := true, apart := false }
def RatioExactSaid : Prop := ratioExactRow.holds Try.pinned (OpenSpec.ofChange ratioExactSpec)

/-- ITS FALSE NEIGHBOUR: 'it returns false'. Refute it at one input. -/
def ratioExactWrong : ChangeSpec := { name := "ratioExact", fn := fun _ => fun
  | [d1, d2] => { results := [.lit (.bool false)], args := [d1, d2] }
  | _ => none }
def RatioExactWrongFalsely : Prop := ratioExactRow.holds Try.pinned (OpenSpec.ofChange ratioExactWrong)

/-- 'queuelablaw12.RatioLaws': WHATEVER THE INPUT: true; the input reads as it did. -/
def ratioLawsSpec : ChangeSpec := { name := "ratioLaws", fn := fun _ => fun
  | [d1, d2, d3] => { results := [.lit (.bool true)], args := [d1, d2, d3] }
  | _ => none }
def ratioLawsRow : OpenClaim := { program := "ytjnjokkhkfdaiaa", sum := "e6a12304916876ef7b189fb1d3d72925e151bb4721a39beb73eccc5ded6b0e33", func := "queuelab/queuelablaw12.RatioLaws", spec := "ratioLaws", unfollowed := true, recurses := true, apart := false }
def RatioLawsSaid : Prop := ratioLawsRow.holds Try.pinned (OpenSpec.ofChange ratioLawsSpec)

/-- ITS FALSE NEIGHBOUR: 'it returns false'. Refute it at one input. -/
def ratioLawsWrong : ChangeSpec := { name := "ratioLaws", fn := fun _ => fun
  | [d1, d2, d3] => { results := [.lit (.bool false)], args := [d1, d2, d3] }
  | _ => none }
def RatioLawsWrongFalsely : Prop := ratioLawsRow.holds Try.pinned (OpenSpec.ofChange ratioLawsWrong)

/-- 'queuelablaw12.RatioInverse': WHATEVER THE INPUT: true; the input reads as it did. -/
def ratioInverseSpec : ChangeSpec := { name := "ratioInverse", fn := fun _ => fun
  | [d1, d2] => { results := [.lit (.bool true)], args := [d1, d2] }
  | _ => none }
def ratioInverseRow : OpenClaim := { program := "ytjnjokkhkfdaiaa", sum := "e6a12304916876ef7b189fb1d3d72925e151bb4721a39beb73eccc5ded6b0e33", func := "queuelab/queuelablaw12.RatioInverse", spec := "ratioInverse", unfollowed := true, recurses := true, apart := false }
def RatioInverseSaid : Prop := ratioInverseRow.holds Try.pinned (OpenSpec.ofChange ratioInverseSpec)

/-- ITS FALSE NEIGHBOUR: 'it returns false'. Refute it at one input. -/
def ratioInverseWrong : ChangeSpec := { name := "ratioInverse", fn := fun _ => fun
  | [d1, d2] => { results := [.lit (.bool false)], args := [d1, d2] }
  | _ => none }
def RatioInverseWrongFalsely : Prop := ratioInverseRow.holds Try.pinned (OpenSpec.ofChange ratioInverseWrong)

/-- 'queuelablaw12.RatioOrder': WHATEVER THE INPUT: true; the input reads as it did. -/
def ratioOrderSpec : ChangeSpec := { name := "ratioOrder", fn := fun _ => fun
  | [d1, d2, d3] => { results := [.lit (.bool true)], args := [d1, d2, d3] }
  | _ => none }
def ratioOrderRow : OpenClaim := { program := "ytjnjokkhkfdaiaa", sum := "e6a12304916876ef7b189fb1d3d72925e151bb4721a39beb73eccc5ded6b0e33", func := "queuelab/queuelablaw12.RatioOrder", spec := "ratioOrder", unfollowed := true, recurses := true, apart := false }
def RatioOrderSaid : Prop := ratioOrderRow.holds Try.pinned (OpenSpec.ofChange ratioOrderSpec)

/-- ITS FALSE NEIGHBOUR: 'it returns false'. Refute it at one input. -/
def ratioOrderWrong : ChangeSpec := { name := "ratioOrder", fn := fun _ => fun
  | [d1, d2, d3] => { results := [.lit (.bool false)], args := [d1, d2, d3] }
  | _ => none }
def RatioOrderWrongFalsely : Prop := ratioOrderRow.holds Try.pinned (OpenSpec.ofChange ratioOrderWrong)

/-- 'queuelablaw12.RatioLowest': WHATEVER THE INPUT: true; the input reads as it did. -/
def ratioLowestSpec : ChangeSpec := { name := "ratioLowest", fn := fun _ => fun
  | [d1, d2, d3] => { results := [.lit (.bool true)], args := [d1, d2, d3] }
  | _ => none }
def ratioLowestRow : OpenClaim := { program := "ytjnjokkhkfdaiaa", sum := "e6a12304916876ef7b189fb1d3d72925e151bb4721a39beb73eccc5ded6b0e33", func := "queuelab/queuelablaw12.RatioLowest", spec := "ratioLowest", unfollowed := true, recurses := true, apart := false }
def RatioLowestSaid : Prop := ratioLowestRow.holds Try.pinned (OpenSpec.ofChange ratioLowestSpec)

/-- ITS FALSE NEIGHBOUR: 'it returns false'. Refute it at one input. -/
def ratioLowestWrong : ChangeSpec := { name := "ratioLowest", fn := fun _ => fun
  | [d1, d2, d3] => { results := [.lit (.bool false)], args := [d1, d2, d3] }
  | _ => none }
def RatioLowestWrongFalsely : Prop := ratioLowestRow.holds Try.pinned (OpenSpec.ofChange ratioLowestWrong)

/-- 'queuelablaw12.RatioRange': WHATEVER THE INPUT: true; the input reads as it did. -/
def ratioRangeSpec : ChangeSpec := { name := "ratioRange", fn := fun _ => fun
  | [d1, d2] => { results := [.lit (.bool true)], args := [d1, d2] }
  | _ => none }
def ratioRangeRow : OpenClaim := { program := "ytjnjokkhkfdaiaa", sum := "e6a12304916876ef7b189fb1d3d72925e151bb4721a39beb73eccc5ded6b0e33", func := "queuelab/queuelablaw12.RatioRange", spec := "ratioRange", unfollowed := true, recurses := true, apart := false }
def RatioRangeSaid : Prop := ratioRangeRow.holds Try.pinned (OpenSpec.ofChange ratioRangeSpec)

/-- ITS FALSE NEIGHBOUR: 'it returns false'. Refute it at one input. -/
def ratioRangeWrong : ChangeSpec := { name := "ratioRange", fn := fun _ => fun
  | [d1, d2] => { results := [.lit (.bool false)], args := [d1, d2] }
  | _ => none }
def RatioRangeWrongFalsely : Prop := ratioRangeRow.holds Try.pinned (OpenSpec.ofChange ratioRangeWrong)

/- THE SECOND FORM. 'bulk': how many values and letters a reading holds, each counted each time it is reached (what is shared counts as often as it is met; a slice's spare places count too). A statement '..UptoSaid' is the law's where the arguments, and the package variables that the reading takes, are together of bulk at most 1048576: NARROWER than '..Said'. Prove '..Said' where nothing that the law and all that it calls make is longer than what came in: it says more and counts as full. Else prove '..UptoSaid'. A law counts once. -/
mutual
def uptoBulk {H : Type} : DataW H → Nat
  | .lit (.string bytes) => bytes.length + 1
  | .lit _ => 1
  | .nil => 1
  | .ptr d => uptoBulk d + 1
  | .slice elems spare => uptoBulkAll elems + uptoBulkAll spare + 1
  | .agg parts => uptoBulkAll parts + 1
  | .iface _ d => uptoBulk d + 1
  | .map entries => uptoBulkEntries entries + 1
  | .held _ => 1
def uptoBulkAll {H : Type} : List (DataW H) → Nat
  | [] => 0
  | d :: r => uptoBulk d + uptoBulkAll r
def uptoBulkEntries {H : Type} : List (Lit × DataW H) → Nat
  | [] => 0
  | x :: r => uptoBulkEntry x + uptoBulkEntries r
def uptoBulkEntry {H : Type} : Lit × DataW H → Nat
  | (.string bytes, d) => bytes.length + uptoBulk d + 1
  | (_, d) => uptoBulk d + 1
 end
def uptoSmall : (H : Type) → List (DataW H) → Bool := fun _ ds => decide (uptoBulkAll ds ≤ 1048576)
def OpenSpec.upto (s : _root_.Go.ChangeSpec) : _root_.Go.OpenSpec := { _root_.Go.OpenSpec.ofChange s with cond := some uptoSmall }

/-- 'queuelablaw12.RatioMatchesReference', WHERE WHAT IT READS IS OF BULK AT MOST 1048576: true; the input reads as it did. -/
def ratioMatchesReferenceUptoRow : OpenClaim := { program := "ytjnjokkhkfdaiaa", sum := "e6a12304916876ef7b189fb1d3d72925e151bb4721a39beb73eccc5ded6b0e33", func := "queuelab/queuelablaw12.RatioMatchesReference", spec := "ratioMatchesReference", unfollowed := true, recurses := true, apart := false, narrowed := true }
def RatioMatchesReferenceUptoSaid : Prop := ratioMatchesReferenceUptoRow.holds Try.pinned (OpenSpec.upto ratioMatchesReferenceSpec)

/-- 'queuelablaw12.RatioExact', WHERE WHAT IT READS IS OF BULK AT MOST 1048576: true; the input reads as it did. -/
def ratioExactUptoRow : OpenClaim := { program := "ytjnjokkhkfdaiaa", sum := "e6a12304916876ef7b189fb1d3d72925e151bb4721a39beb73eccc5ded6b0e33", func := "queuelab/queuelablaw12.RatioExact", spec := "ratioExact", unfollowed := true, recurses := true, apart := false, narrowed := true }
def RatioExactUptoSaid : Prop := ratioExactUptoRow.holds Try.pinned (OpenSpec.upto ratioExactSpec)

/-- 'queuelablaw12.RatioLaws', WHERE WHAT IT READS IS OF BULK AT MOST 1048576: true; the input reads as it did. -/
def ratioLawsUptoRow : OpenClaim := { program := "ytjnjokkhkfdaiaa", sum := "e6a12304916876ef7b189fb1d3d72925e151bb4721a39beb73eccc5ded6b0e33", func := "queuelab/queuelablaw12.RatioLaws", spec := "ratioLaws", unfollowed := true, recurses := true, apart := false, narrowed := true }
def RatioLawsUptoSaid : Prop := ratioLawsUptoRow.holds Try.pinned (OpenSpec.upto ratioLawsSpec)

/-- 'queuelablaw12.RatioInverse', WHERE WHAT IT READS IS OF BULK AT MOST 1048576: true; the input reads as it did. -/
def ratioInverseUptoRow : OpenClaim := { program := "ytjnjokkhkfdaiaa", sum := "e6a12304916876ef7b189fb1d3d72925e151bb4721a39beb73eccc5ded6b0e33", func := "queuelab/queuelablaw12.RatioInverse", spec := "ratioInverse", unfollowed := true, recurses := true, apart := false, narrowed := true }
def RatioInverseUptoSaid : Prop := ratioInverseUptoRow.holds Try.pinned (OpenSpec.upto ratioInverseSpec)

/-- 'queuelablaw12.RatioOrder', WHERE WHAT IT READS IS OF BULK AT MOST 1048576: true; the input reads as it did. -/
def ratioOrderUptoRow : OpenClaim := { program := "ytjnjokkhkfdaiaa", sum := "e6a12304916876ef7b189fb1d3d72925e151bb4721a39beb73eccc5ded6b0e33", func := "queuelab/queuelablaw12.RatioOrder", spec := "ratioOrder", unfollowed := true, recurses := true, apart := false, narrowed := true }
def RatioOrderUptoSaid : Prop := ratioOrderUptoRow.holds Try.pinned (OpenSpec.upto ratioOrderSpec)

/-- 'queuelablaw12.RatioLowest', WHERE WHAT IT READS IS OF BULK AT MOST 1048576: true; the input reads as it did. -/
def ratioLowestUptoRow : OpenClaim := { program := "ytjnjokkhkfdaiaa", sum := "e6a12304916876ef7b189fb1d3d72925e151bb4721a39beb73eccc5ded6b0e33", func := "queuelab/queuelablaw12.RatioLowest", spec := "ratioLowest", unfollowed := true, recurses := true, apart := false, narrowed := true }
def RatioLowestUptoSaid : Prop := ratioLowestUptoRow.holds Try.pinned (OpenSpec.upto ratioLowestSpec)

/-- 'queuelablaw12.RatioRange', WHERE WHAT IT READS IS OF BULK AT MOST 1048576: true; the input reads as it did. -/
def ratioRangeUptoRow : OpenClaim := { program := "ytjnjokkhkfdaiaa", sum := "e6a12304916876ef7b189fb1d3d72925e151bb4721a39beb73eccc5ded6b0e33", func := "queuelab/queuelablaw12.RatioRange", spec := "ratioRange", unfollowed := true, recurses := true, apart := false, narrowed := true }
def RatioRangeUptoSaid : Prop := ratioRangeUptoRow.holds Try.pinned (OpenSpec.upto ratioRangeSpec)

end Rows
end Go.Proofs.Ytjnjokkhkfdaiaa
