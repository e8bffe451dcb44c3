/-
  NARROWER THAN 'FOR EVERY INPUT', by the rows' own cells (each row's printed sentence says how): EarlyConserves: laid · EarlyCalm: laid · EarlyAlways: laid · EarlyAverage: laid · EarlyRising: laid.
  DERIVED. THE GIVEN ROWS OF THIS SEAT. 5 by the template 'for every input the law returns true; each argument reads behind the call as it read before'; 0 by the template 'total and deterministic' (their statements: YtfeemiamjmmolaaDoorTotals.lean).
  GIVEN WITH THE SEED: the statements are not yours to turn. If you find one false, say at which input.
  Laid BY PROGRAM, IN A SANDBOX (cutbox-rows.mjs): the forced cells as the released guide's own fill.sh prints them over the translation 847b9e2920bbcbdd… (all of the seat's roots in one cut). By AI agents, Wed Nov 11 2026. No macro, syntax, notation, axiom, sorry.
-/
import Derived.Test.YtfeemiamjmmolaaDoorChecked
import GoSem.Claim
import GoSem.ClaimJoined
import GoSem.ClaimMapViews
import Derived.JoinedTies
import Derived.KernelRfl
namespace Go.Proofs.YtfeemiamjmmolaaDoor
/- THE CELL 'sum', in the pinned program and in every row, IS THE sha256 OF THE DUMP (.gsa) THAT YtfeemiamjmmolaaDoorProg.lean LOADS. Nothing in Lean hashes anything: it is a label: what it is worth is what the hold of that sum in a sandbox is worth. -/
noncomputable def Tryd.pinned : Pinned := { name := "ytfeemiamjmmolaadoor", sum := "847b9e2920bbcbdde471e501623b813c04ee5b36b6616e8496b663e158f7cda8", checked := Tryd.checked }
namespace Rows
def none {H : Type} : Left H := { results := [], args := [] }

/- WHAT THE LISTED PACKAGE-LEVEL VARIABLES READ AS WHEN THE CALL BEGINS. Each datum BY PROGRAM (the guide's laid-datum.mjs) off the statement by which the dump's own 'gosem.cut.vars' lays the variable. In a bare row this is a premise. The card (YtfeemiamjmmolaaDoorCards.lean) ties it to the program's text. -/
def laid_queuelab_random_mixing {H : Type} : DataW H := .agg [.agg [.lit (.int .u64 30), .lit (.int .u64 13787848793156543929)], .agg [.lit (.int .u64 27), .lit (.int .u64 10723151780598845931)], .agg [.lit (.int .u64 31), .lit (.int .u64 1)]]

/-- 'queuelablaw19.EarlyConserves': WHATEVER THE INPUT: true; the input reads as it did. -/
def earlyConservesSpec : ChangeSpec := { name := "earlyConserves", fn := fun _ => fun
  | [d1, d2] => { results := [.lit (.bool true)], args := [d1, d2] }
  | _ => none }
def earlyConservesRow : OpenClaim := { program := "ytfeemiamjmmolaadoor", sum := "847b9e2920bbcbdde471e501623b813c04ee5b36b6616e8496b663e158f7cda8", func := "queuelab/queuelablaw19.EarlyConserves", spec := "earlyConserves", unfollowed := true, recurses := true, named := ["queuelab/random.mixing"], apart := false, laid := [("queuelab/random.mixing", laid_queuelab_random_mixing)] }
def EarlyConservesSaid : Prop := earlyConservesRow.holds Tryd.pinned (OpenSpec.ofChange earlyConservesSpec)

/-- ITS FALSE NEIGHBOUR: 'it returns false'. Refute it at one input. -/
def earlyConservesWrong : ChangeSpec := { name := "earlyConserves", fn := fun _ => fun
  | [d1, d2] => { results := [.lit (.bool false)], args := [d1, d2] }
  | _ => none }
def EarlyConservesWrongFalsely : Prop := earlyConservesRow.holds Tryd.pinned (OpenSpec.ofChange earlyConservesWrong)

/-- 'queuelablaw19.EarlyCalm': WHATEVER THE INPUT: true; the input reads as it did. -/
def earlyCalmSpec : ChangeSpec := { name := "earlyCalm", fn := fun _ => fun
  | [d1, d2, d3] => { results := [.lit (.bool true)], args := [d1, d2, d3] }
  | _ => none }
def earlyCalmRow : OpenClaim := { program := "ytfeemiamjmmolaadoor", sum := "847b9e2920bbcbdde471e501623b813c04ee5b36b6616e8496b663e158f7cda8", func := "queuelab/queuelablaw19.EarlyCalm", spec := "earlyCalm", unfollowed := true, recurses := true, named := ["queuelab/random.mixing"], apart := false, laid := [("queuelab/random.mixing", laid_queuelab_random_mixing)] }
def EarlyCalmSaid : Prop := earlyCalmRow.holds Tryd.pinned (OpenSpec.ofChange earlyCalmSpec)

/-- ITS FALSE NEIGHBOUR: 'it returns false'. Refute it at one input. -/
def earlyCalmWrong : ChangeSpec := { name := "earlyCalm", fn := fun _ => fun
  | [d1, d2, d3] => { results := [.lit (.bool false)], args := [d1, d2, d3] }
  | _ => none }
def EarlyCalmWrongFalsely : Prop := earlyCalmRow.holds Tryd.pinned (OpenSpec.ofChange earlyCalmWrong)

/-- 'queuelablaw19.EarlyAlways': WHATEVER THE INPUT: true; the input reads as it did. -/
def earlyAlwaysSpec : ChangeSpec := { name := "earlyAlways", fn := fun _ => fun
  | [d1, d2, d3, d4] => { results := [.lit (.bool true)], args := [d1, d2, d3, d4] }
  | _ => none }
def earlyAlwaysRow : OpenClaim := { program := "ytfeemiamjmmolaadoor", sum := "847b9e2920bbcbdde471e501623b813c04ee5b36b6616e8496b663e158f7cda8", func := "queuelab/queuelablaw19.EarlyAlways", spec := "earlyAlways", unfollowed := true, recurses := true, named := ["queuelab/random.mixing"], apart := false, laid := [("queuelab/random.mixing", laid_queuelab_random_mixing)] }
def EarlyAlwaysSaid : Prop := earlyAlwaysRow.holds Tryd.pinned (OpenSpec.ofChange earlyAlwaysSpec)

/-- ITS FALSE NEIGHBOUR: 'it returns false'. Refute it at one input. -/
def earlyAlwaysWrong : ChangeSpec := { name := "earlyAlways", fn := fun _ => fun
  | [d1, d2, d3, d4] => { results := [.lit (.bool false)], args := [d1, d2, d3, d4] }
  | _ => none }
def EarlyAlwaysWrongFalsely : Prop := earlyAlwaysRow.holds Tryd.pinned (OpenSpec.ofChange earlyAlwaysWrong)

/-- 'queuelablaw19.EarlyAverage': WHATEVER THE INPUT: true; the input reads as it did. -/
def earlyAverageSpec : ChangeSpec := { name := "earlyAverage", fn := fun _ => fun
  | [d1, d2, d3] => { results := [.lit (.bool true)], args := [d1, d2, d3] }
  | _ => none }
def earlyAverageRow : OpenClaim := { program := "ytfeemiamjmmolaadoor", sum := "847b9e2920bbcbdde471e501623b813c04ee5b36b6616e8496b663e158f7cda8", func := "queuelab/queuelablaw19.EarlyAverage", spec := "earlyAverage", unfollowed := true, recurses := true, named := ["queuelab/random.mixing"], apart := false, laid := [("queuelab/random.mixing", laid_queuelab_random_mixing)] }
def EarlyAverageSaid : Prop := earlyAverageRow.holds Tryd.pinned (OpenSpec.ofChange earlyAverageSpec)

/-- ITS FALSE NEIGHBOUR: 'it returns false'. Refute it at one input. -/
def earlyAverageWrong : ChangeSpec := { name := "earlyAverage", fn := fun _ => fun
  | [d1, d2, d3] => { results := [.lit (.bool false)], args := [d1, d2, d3] }
  | _ => none }
def EarlyAverageWrongFalsely : Prop := earlyAverageRow.holds Tryd.pinned (OpenSpec.ofChange earlyAverageWrong)

/-- 'queuelablaw19.EarlyRising': WHATEVER THE INPUT: true; the input reads as it did. -/
def earlyRisingSpec : ChangeSpec := { name := "earlyRising", fn := fun _ => fun
  | [d1, d2, d3, d4] => { results := [.lit (.bool true)], args := [d1, d2, d3, d4] }
  | _ => none }
def earlyRisingRow : OpenClaim := { program := "ytfeemiamjmmolaadoor", sum := "847b9e2920bbcbdde471e501623b813c04ee5b36b6616e8496b663e158f7cda8", func := "queuelab/queuelablaw19.EarlyRising", spec := "earlyRising", unfollowed := true, recurses := true, named := ["queuelab/random.mixing"], apart := false, laid := [("queuelab/random.mixing", laid_queuelab_random_mixing)] }
def EarlyRisingSaid : Prop := earlyRisingRow.holds Tryd.pinned (OpenSpec.ofChange earlyRisingSpec)

/-- ITS FALSE NEIGHBOUR: 'it returns false'. Refute it at one input. -/
def earlyRisingWrong : ChangeSpec := { name := "earlyRising", fn := fun _ => fun
  | [d1, d2, d3, d4] => { results := [.lit (.bool false)], args := [d1, d2, d3, d4] }
  | _ => none }
def EarlyRisingWrongFalsely : Prop := earlyRisingRow.holds Tryd.pinned (OpenSpec.ofChange earlyRisingWrong)

/- THE SECOND FORM. 'bulk': how many values and letters a reading holds, each counted each time it is reached (what is shared counts as often as it is met; a slice's spare places count too). A statement '..UptoSaid' is the law's where the arguments, and the package variables that the reading takes, are together of bulk at most 1048576: NARROWER than '..Said'. Prove '..Said' where nothing that the law and all that it calls make is longer than what came in: it says more and counts as full. Else prove '..UptoSaid'. A law counts once. -/
mutual
def uptoBulk {H : Type} : DataW H → Nat
  | .lit (.string bytes) => bytes.length + 1
  | .lit _ => 1
  | .nil => 1
  | .ptr d => uptoBulk d + 1
  | .slice elems spare => uptoBulkAll elems + uptoBulkAll spare + 1
  | .agg parts => uptoBulkAll parts + 1
  | .iface _ d => uptoBulk d + 1
  | .map entries => uptoBulkEntries entries + 1
  | .held _ => 1
def uptoBulkAll {H : Type} : List (DataW H) → Nat
  | [] => 0
  | d :: r => uptoBulk d + uptoBulkAll r
def uptoBulkEntries {H : Type} : List (Lit × DataW H) → Nat
  | [] => 0
  | x :: r => uptoBulkEntry x + uptoBulkEntries r
def uptoBulkEntry {H : Type} : Lit × DataW H → Nat
  | (.string bytes, d) => bytes.length + uptoBulk d + 1
  | (_, d) => uptoBulk d + 1
 end
def uptoSmall : (H : Type) → List (DataW H) → Bool := fun _ ds => decide (uptoBulkAll ds ≤ 1048576)
def OpenSpec.upto (s : _root_.Go.ChangeSpec) : _root_.Go.OpenSpec := { _root_.Go.OpenSpec.ofChange s with cond := some uptoSmall }

/-- 'queuelablaw19.EarlyConserves', WHERE WHAT IT READS IS OF BULK AT MOST 1048576: true; the input reads as it did. -/
def earlyConservesUptoRow : OpenClaim := { program := "ytfeemiamjmmolaadoor", sum := "847b9e2920bbcbdde471e501623b813c04ee5b36b6616e8496b663e158f7cda8", func := "queuelab/queuelablaw19.EarlyConserves", spec := "earlyConserves", unfollowed := true, recurses := true, named := ["queuelab/random.mixing"], apart := false, laid := [("queuelab/random.mixing", laid_queuelab_random_mixing)], narrowed := true }
def EarlyConservesUptoSaid : Prop := earlyConservesUptoRow.holds Tryd.pinned (OpenSpec.upto earlyConservesSpec)

/-- 'queuelablaw19.EarlyCalm', WHERE WHAT IT READS IS OF BULK AT MOST 1048576: true; the input reads as it did. -/
def earlyCalmUptoRow : OpenClaim := { program := "ytfeemiamjmmolaadoor", sum := "847b9e2920bbcbdde471e501623b813c04ee5b36b6616e8496b663e158f7cda8", func := "queuelab/queuelablaw19.EarlyCalm", spec := "earlyCalm", unfollowed := true, recurses := true, named := ["queuelab/random.mixing"], apart := false, laid := [("queuelab/random.mixing", laid_queuelab_random_mixing)], narrowed := true }
def EarlyCalmUptoSaid : Prop := earlyCalmUptoRow.holds Tryd.pinned (OpenSpec.upto earlyCalmSpec)

/-- 'queuelablaw19.EarlyAlways', WHERE WHAT IT READS IS OF BULK AT MOST 1048576: true; the input reads as it did. -/
def earlyAlwaysUptoRow : OpenClaim := { program := "ytfeemiamjmmolaadoor", sum := "847b9e2920bbcbdde471e501623b813c04ee5b36b6616e8496b663e158f7cda8", func := "queuelab/queuelablaw19.EarlyAlways", spec := "earlyAlways", unfollowed := true, recurses := true, named := ["queuelab/random.mixing"], apart := false, laid := [("queuelab/random.mixing", laid_queuelab_random_mixing)], narrowed := true }
def EarlyAlwaysUptoSaid : Prop := earlyAlwaysUptoRow.holds Tryd.pinned (OpenSpec.upto earlyAlwaysSpec)

/-- 'queuelablaw19.EarlyAverage', WHERE WHAT IT READS IS OF BULK AT MOST 1048576: true; the input reads as it did. -/
def earlyAverageUptoRow : OpenClaim := { program := "ytfeemiamjmmolaadoor", sum := "847b9e2920bbcbdde471e501623b813c04ee5b36b6616e8496b663e158f7cda8", func := "queuelab/queuelablaw19.EarlyAverage", spec := "earlyAverage", unfollowed := true, recurses := true, named := ["queuelab/random.mixing"], apart := false, laid := [("queuelab/random.mixing", laid_queuelab_random_mixing)], narrowed := true }
def EarlyAverageUptoSaid : Prop := earlyAverageUptoRow.holds Tryd.pinned (OpenSpec.upto earlyAverageSpec)

/-- 'queuelablaw19.EarlyRising', WHERE WHAT IT READS IS OF BULK AT MOST 1048576: true; the input reads as it did. -/
def earlyRisingUptoRow : OpenClaim := { program := "ytfeemiamjmmolaadoor", sum := "847b9e2920bbcbdde471e501623b813c04ee5b36b6616e8496b663e158f7cda8", func := "queuelab/queuelablaw19.EarlyRising", spec := "earlyRising", unfollowed := true, recurses := true, named := ["queuelab/random.mixing"], apart := false, laid := [("queuelab/random.mixing", laid_queuelab_random_mixing)], narrowed := true }
def EarlyRisingUptoSaid : Prop := earlyRisingUptoRow.holds Tryd.pinned (OpenSpec.upto earlyRisingSpec)

end Rows
end Go.Proofs.YtfeemiamjmmolaaDoor
