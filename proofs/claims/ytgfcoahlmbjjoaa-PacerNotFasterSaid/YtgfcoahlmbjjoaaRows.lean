/-
  No cell of these rows narrows 'for every input' (looked for: loops, veiled, ifaces, maps, wideKeys, modest, calm, conditions, laid).
  DERIVED. THE GIVEN ROWS OF THIS SEAT. 7 by the template 'for every input the law returns true; each argument reads behind the call as it read before'; 0 by the template 'total and deterministic' (their statements: YtgfcoahlmbjjoaaTotals.lean).
  GIVEN WITH THE SEED: the statements are not yours to turn. If you find one false, say at which input.
  Laid BY PROGRAM, IN A SANDBOX (cutbox-rows.mjs): the forced cells as the released guide's own fill.sh prints them over the translation 5b2abfbe3b8b8e66… (all of the seat's roots in one cut). By AI agents, Wed Nov 11 2026. No macro, syntax, notation, axiom, sorry.
-/
import Derived.Test.YtgfcoahlmbjjoaaChecked
import GoSem.Claim
import GoSem.ClaimJoined
import GoSem.ClaimMapViews
import Derived.JoinedTies
import Derived.KernelRfl
namespace Go.Proofs.Ytgfcoahlmbjjoaa
/- THE CELL 'sum', in the pinned program and in every row, IS THE sha256 OF THE DUMP (.gsa) THAT YtgfcoahlmbjjoaaProg.lean LOADS. Nothing in Lean hashes anything: it is a label: what it is worth is what the hold of that sum in a sandbox is worth. -/
noncomputable def Try.pinned : Pinned := { name := "ytgfcoahlmbjjoaa", sum := "5b2abfbe3b8b8e664dcecf384b9fc7ac54509834a83638ed18d8ffd8d73bd49a", checked := Try.checked }
namespace Rows
def none {H : Type} : Left H := { results := [], args := [] }

/-- 'queuelablaw28.PacerMatchesReference': WHATEVER THE INPUT: true; the input reads as it did. -/
def pacerMatchesReferenceSpec : ChangeSpec := { name := "pacerMatchesReference", fn := fun _ => fun
  | [d1, d2, d3, d4] => { results := [.lit (.bool true)], args := [d1, d2, d3, d4] }
  | _ => none }
def pacerMatchesReferenceRow : OpenClaim := { program := "ytgfcoahlmbjjoaa", sum := "5b2abfbe3b8b8e664dcecf384b9fc7ac54509834a83638ed18d8ffd8d73bd49a", func := "queuelab/queuelablaw28.PacerMatchesReference", spec := "pacerMatchesReference", unfollowed := true, recurses := true, apart := false }
def PacerMatchesReferenceSaid : Prop := pacerMatchesReferenceRow.holds Try.pinned (OpenSpec.ofChange pacerMatchesReferenceSpec)

/-- ITS FALSE NEIGHBOUR: 'it returns false'. Refute it at one input. -/
def pacerMatchesReferenceWrong : ChangeSpec := { name := "pacerMatchesReference", fn := fun _ => fun
  | [d1, d2, d3, d4] => { results := [.lit (.bool false)], args := [d1, d2, d3, d4] }
  | _ => none }
def PacerMatchesReferenceWrongFalsely : Prop := pacerMatchesReferenceRow.holds Try.pinned (OpenSpec.ofChange pacerMatchesReferenceWrong)

/-- 'queuelablaw28.PacerExactly': WHATEVER THE INPUT: true; the input reads as it did. -/
def pacerExactlySpec : ChangeSpec := { name := "pacerExactly", fn := fun _ => fun
  | [d1, d2, d3] => { results := [.lit (.bool true)], args := [d1, d2, d3] }
  | _ => none }
def pacerExactlyRow : OpenClaim := { program := "ytgfcoahlmbjjoaa", sum := "5b2abfbe3b8b8e664dcecf384b9fc7ac54509834a83638ed18d8ffd8d73bd49a", func := "queuelab/queuelablaw28.PacerExactly", spec := "pacerExactly", unfollowed := true, recurses := true, apart := false }
def PacerExactlySaid : Prop := pacerExactlyRow.holds Try.pinned (OpenSpec.ofChange pacerExactlySpec)

/-- ITS FALSE NEIGHBOUR: 'it returns false'. Refute it at one input. -/
def pacerExactlyWrong : ChangeSpec := { name := "pacerExactly", fn := fun _ => fun
  | [d1, d2, d3] => { results := [.lit (.bool false)], args := [d1, d2, d3] }
  | _ => none }
def PacerExactlyWrongFalsely : Prop := pacerExactlyRow.holds Try.pinned (OpenSpec.ofChange pacerExactlyWrong)

/-- 'queuelablaw28.PacerNotFaster': WHATEVER THE INPUT: true; the input reads as it did. -/
def pacerNotFasterSpec : ChangeSpec := { name := "pacerNotFaster", fn := fun _ => fun
  | [d1, d2, d3, d4] => { results := [.lit (.bool true)], args := [d1, d2, d3, d4] }
  | _ => none }
def pacerNotFasterRow : OpenClaim := { program := "ytgfcoahlmbjjoaa", sum := "5b2abfbe3b8b8e664dcecf384b9fc7ac54509834a83638ed18d8ffd8d73bd49a", func := "queuelab/queuelablaw28.PacerNotFaster", spec := "pacerNotFaster", unfollowed := true, recurses := true, apart := false }
def PacerNotFasterSaid : Prop := pacerNotFasterRow.holds Try.pinned (OpenSpec.ofChange pacerNotFasterSpec)

/-- ITS FALSE NEIGHBOUR: 'it returns false'. Refute it at one input. -/
def pacerNotFasterWrong : ChangeSpec := { name := "pacerNotFaster", fn := fun _ => fun
  | [d1, d2, d3, d4] => { results := [.lit (.bool false)], args := [d1, d2, d3, d4] }
  | _ => none }
def PacerNotFasterWrongFalsely : Prop := pacerNotFasterRow.holds Try.pinned (OpenSpec.ofChange pacerNotFasterWrong)

/-- 'queuelablaw28.PacerValid': WHATEVER THE INPUT: true; the input reads as it did. -/
def pacerValidSpec : ChangeSpec := { name := "pacerValid", fn := fun _ => fun
  | [d1, d2, d3, d4] => { results := [.lit (.bool true)], args := [d1, d2, d3, d4] }
  | _ => none }
def pacerValidRow : OpenClaim := { program := "ytgfcoahlmbjjoaa", sum := "5b2abfbe3b8b8e664dcecf384b9fc7ac54509834a83638ed18d8ffd8d73bd49a", func := "queuelab/queuelablaw28.PacerValid", spec := "pacerValid", unfollowed := true, recurses := true, apart := false }
def PacerValidSaid : Prop := pacerValidRow.holds Try.pinned (OpenSpec.ofChange pacerValidSpec)

/-- ITS FALSE NEIGHBOUR: 'it returns false'. Refute it at one input. -/
def pacerValidWrong : ChangeSpec := { name := "pacerValid", fn := fun _ => fun
  | [d1, d2, d3, d4] => { results := [.lit (.bool false)], args := [d1, d2, d3, d4] }
  | _ => none }
def PacerValidWrongFalsely : Prop := pacerValidRow.holds Try.pinned (OpenSpec.ofChange pacerValidWrong)

/-- 'queuelablaw28.PacerNoCredit': WHATEVER THE INPUT: true; the input reads as it did. -/
def pacerNoCreditSpec : ChangeSpec := { name := "pacerNoCredit", fn := fun _ => fun
  | [d1, d2, d3, d4] => { results := [.lit (.bool true)], args := [d1, d2, d3, d4] }
  | _ => none }
def pacerNoCreditRow : OpenClaim := { program := "ytgfcoahlmbjjoaa", sum := "5b2abfbe3b8b8e664dcecf384b9fc7ac54509834a83638ed18d8ffd8d73bd49a", func := "queuelab/queuelablaw28.PacerNoCredit", spec := "pacerNoCredit", unfollowed := true, recurses := true, apart := false }
def PacerNoCreditSaid : Prop := pacerNoCreditRow.holds Try.pinned (OpenSpec.ofChange pacerNoCreditSpec)

/-- ITS FALSE NEIGHBOUR: 'it returns false'. Refute it at one input. -/
def pacerNoCreditWrong : ChangeSpec := { name := "pacerNoCredit", fn := fun _ => fun
  | [d1, d2, d3, d4] => { results := [.lit (.bool false)], args := [d1, d2, d3, d4] }
  | _ => none }
def PacerNoCreditWrongFalsely : Prop := pacerNoCreditRow.holds Try.pinned (OpenSpec.ofChange pacerNoCreditWrong)

/-- 'queuelablaw28.PacerParts': WHATEVER THE INPUT: true; the input reads as it did. -/
def pacerPartsSpec : ChangeSpec := { name := "pacerParts", fn := fun _ => fun
  | [d1, d2, d3, d4] => { results := [.lit (.bool true)], args := [d1, d2, d3, d4] }
  | _ => none }
def pacerPartsRow : OpenClaim := { program := "ytgfcoahlmbjjoaa", sum := "5b2abfbe3b8b8e664dcecf384b9fc7ac54509834a83638ed18d8ffd8d73bd49a", func := "queuelab/queuelablaw28.PacerParts", spec := "pacerParts", unfollowed := true, recurses := true, apart := false }
def PacerPartsSaid : Prop := pacerPartsRow.holds Try.pinned (OpenSpec.ofChange pacerPartsSpec)

/-- ITS FALSE NEIGHBOUR: 'it returns false'. Refute it at one input. -/
def pacerPartsWrong : ChangeSpec := { name := "pacerParts", fn := fun _ => fun
  | [d1, d2, d3, d4] => { results := [.lit (.bool false)], args := [d1, d2, d3, d4] }
  | _ => none }
def PacerPartsWrongFalsely : Prop := pacerPartsRow.holds Try.pinned (OpenSpec.ofChange pacerPartsWrong)

/-- 'queuelablaw28.PacerLess': WHATEVER THE INPUT: true; the input reads as it did. -/
def pacerLessSpec : ChangeSpec := { name := "pacerLess", fn := fun _ => fun
  | [d1, d2, d3, d4, d5] => { results := [.lit (.bool true)], args := [d1, d2, d3, d4, d5] }
  | _ => none }
def pacerLessRow : OpenClaim := { program := "ytgfcoahlmbjjoaa", sum := "5b2abfbe3b8b8e664dcecf384b9fc7ac54509834a83638ed18d8ffd8d73bd49a", func := "queuelab/queuelablaw28.PacerLess", spec := "pacerLess", unfollowed := true, recurses := true, apart := false }
def PacerLessSaid : Prop := pacerLessRow.holds Try.pinned (OpenSpec.ofChange pacerLessSpec)

/-- ITS FALSE NEIGHBOUR: 'it returns false'. Refute it at one input. -/
def pacerLessWrong : ChangeSpec := { name := "pacerLess", fn := fun _ => fun
  | [d1, d2, d3, d4, d5] => { results := [.lit (.bool false)], args := [d1, d2, d3, d4, d5] }
  | _ => none }
def PacerLessWrongFalsely : Prop := pacerLessRow.holds Try.pinned (OpenSpec.ofChange pacerLessWrong)

/- THE SECOND FORM. 'bulk': how many values and letters a reading holds, each counted each time it is reached (what is shared counts as often as it is met; a slice's spare places count too). A statement '..UptoSaid' is the law's where the arguments, and the package variables that the reading takes, are together of bulk at most 1048576: NARROWER than '..Said'. Prove '..Said' where nothing that the law and all that it calls make is longer than what came in: it says more and counts as full. Else prove '..UptoSaid'. A law counts once. -/
mutual
def uptoBulk {H : Type} : DataW H → Nat
  | .lit (.string bytes) => bytes.length + 1
  | .lit _ => 1
  | .nil => 1
  | .ptr d => uptoBulk d + 1
  | .slice elems spare => uptoBulkAll elems + uptoBulkAll spare + 1
  | .agg parts => uptoBulkAll parts + 1
  | .iface _ d => uptoBulk d + 1
  | .map entries => uptoBulkEntries entries + 1
  | .held _ => 1
def uptoBulkAll {H : Type} : List (DataW H) → Nat
  | [] => 0
  | d :: r => uptoBulk d + uptoBulkAll r
def uptoBulkEntries {H : Type} : List (Lit × DataW H) → Nat
  | [] => 0
  | x :: r => uptoBulkEntry x + uptoBulkEntries r
def uptoBulkEntry {H : Type} : Lit × DataW H → Nat
  | (.string bytes, d) => bytes.length + uptoBulk d + 1
  | (_, d) => uptoBulk d + 1
 end
def uptoSmall : (H : Type) → List (DataW H) → Bool := fun _ ds => decide (uptoBulkAll ds ≤ 1048576)
def OpenSpec.upto (s : _root_.Go.ChangeSpec) : _root_.Go.OpenSpec := { _root_.Go.OpenSpec.ofChange s with cond := some uptoSmall }

/-- 'queuelablaw28.PacerMatchesReference', WHERE WHAT IT READS IS OF BULK AT MOST 1048576: true; the input reads as it did. -/
def pacerMatchesReferenceUptoRow : OpenClaim := { program := "ytgfcoahlmbjjoaa", sum := "5b2abfbe3b8b8e664dcecf384b9fc7ac54509834a83638ed18d8ffd8d73bd49a", func := "queuelab/queuelablaw28.PacerMatchesReference", spec := "pacerMatchesReference", unfollowed := true, recurses := true, apart := false, narrowed := true }
def PacerMatchesReferenceUptoSaid : Prop := pacerMatchesReferenceUptoRow.holds Try.pinned (OpenSpec.upto pacerMatchesReferenceSpec)

/-- 'queuelablaw28.PacerExactly', WHERE WHAT IT READS IS OF BULK AT MOST 1048576: true; the input reads as it did. -/
def pacerExactlyUptoRow : OpenClaim := { program := "ytgfcoahlmbjjoaa", sum := "5b2abfbe3b8b8e664dcecf384b9fc7ac54509834a83638ed18d8ffd8d73bd49a", func := "queuelab/queuelablaw28.PacerExactly", spec := "pacerExactly", unfollowed := true, recurses := true, apart := false, narrowed := true }
def PacerExactlyUptoSaid : Prop := pacerExactlyUptoRow.holds Try.pinned (OpenSpec.upto pacerExactlySpec)

/-- 'queuelablaw28.PacerNotFaster', WHERE WHAT IT READS IS OF BULK AT MOST 1048576: true; the input reads as it did. -/
def pacerNotFasterUptoRow : OpenClaim := { program := "ytgfcoahlmbjjoaa", sum := "5b2abfbe3b8b8e664dcecf384b9fc7ac54509834a83638ed18d8ffd8d73bd49a", func := "queuelab/queuelablaw28.PacerNotFaster", spec := "pacerNotFaster", unfollowed := true, recurses := true, apart := false, narrowed := true }
def PacerNotFasterUptoSaid : Prop := pacerNotFasterUptoRow.holds Try.pinned (OpenSpec.upto pacerNotFasterSpec)

/-- 'queuelablaw28.PacerValid', WHERE WHAT IT READS IS OF BULK AT MOST 1048576: true; the input reads as it did. -/
def pacerValidUptoRow : OpenClaim := { program := "ytgfcoahlmbjjoaa", sum := "5b2abfbe3b8b8e664dcecf384b9fc7ac54509834a83638ed18d8ffd8d73bd49a", func := "queuelab/queuelablaw28.PacerValid", spec := "pacerValid", unfollowed := true, recurses := true, apart := false, narrowed := true }
def PacerValidUptoSaid : Prop := pacerValidUptoRow.holds Try.pinned (OpenSpec.upto pacerValidSpec)

/-- 'queuelablaw28.PacerNoCredit', WHERE WHAT IT READS IS OF BULK AT MOST 1048576: true; the input reads as it did. -/
def pacerNoCreditUptoRow : OpenClaim := { program := "ytgfcoahlmbjjoaa", sum := "5b2abfbe3b8b8e664dcecf384b9fc7ac54509834a83638ed18d8ffd8d73bd49a", func := "queuelab/queuelablaw28.PacerNoCredit", spec := "pacerNoCredit", unfollowed := true, recurses := true, apart := false, narrowed := true }
def PacerNoCreditUptoSaid : Prop := pacerNoCreditUptoRow.holds Try.pinned (OpenSpec.upto pacerNoCreditSpec)

/-- 'queuelablaw28.PacerParts', WHERE WHAT IT READS IS OF BULK AT MOST 1048576: true; the input reads as it did. -/
def pacerPartsUptoRow : OpenClaim := { program := "ytgfcoahlmbjjoaa", sum := "5b2abfbe3b8b8e664dcecf384b9fc7ac54509834a83638ed18d8ffd8d73bd49a", func := "queuelab/queuelablaw28.PacerParts", spec := "pacerParts", unfollowed := true, recurses := true, apart := false, narrowed := true }
def PacerPartsUptoSaid : Prop := pacerPartsUptoRow.holds Try.pinned (OpenSpec.upto pacerPartsSpec)

/-- 'queuelablaw28.PacerLess', WHERE WHAT IT READS IS OF BULK AT MOST 1048576: true; the input reads as it did. -/
def pacerLessUptoRow : OpenClaim := { program := "ytgfcoahlmbjjoaa", sum := "5b2abfbe3b8b8e664dcecf384b9fc7ac54509834a83638ed18d8ffd8d73bd49a", func := "queuelab/queuelablaw28.PacerLess", spec := "pacerLess", unfollowed := true, recurses := true, apart := false, narrowed := true }
def PacerLessUptoSaid : Prop := pacerLessUptoRow.holds Try.pinned (OpenSpec.upto pacerLessSpec)

end Rows
end Go.Proofs.Ytgfcoahlmbjjoaa
