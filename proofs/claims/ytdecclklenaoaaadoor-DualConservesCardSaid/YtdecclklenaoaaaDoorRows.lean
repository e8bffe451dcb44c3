/-
  NARROWER THAN 'FOR EVERY INPUT', by the rows' own cells (each row's printed sentence says how): DualMatchesReference: laid · DualConserves: laid · DualThreshold: laid · DualServes: laid · DualPressure: laid · DualSeeds: laid · DualRoom: laid.
  DERIVED. THE GIVEN ROWS OF THIS SEAT. 7 by the template 'for every input the law returns true; each argument reads behind the call as it read before'; 0 by the template 'total and deterministic' (their statements: YtdecclklenaoaaaDoorTotals.lean).
  GIVEN WITH THE SEED: the statements are not yours to turn. If you find one false, say at which input.
  Laid BY PROGRAM, IN A SANDBOX (cutbox-rows.mjs): the forced cells as the released guide's own fill.sh prints them over the translation 80364b5927006da2… (all of the seat's roots in one cut). By AI agents, Wed Nov 11 2026. No macro, syntax, notation, axiom, sorry.
-/
import Derived.Test.YtdecclklenaoaaaDoorChecked
import GoSem.Claim
import GoSem.ClaimJoined
import GoSem.ClaimMapViews
import Derived.JoinedTies
import Derived.KernelRfl
namespace Go.Proofs.YtdecclklenaoaaaDoor
/- THE CELL 'sum', in the pinned program and in every row, IS THE sha256 OF THE DUMP (.gsa) THAT YtdecclklenaoaaaDoorProg.lean LOADS. Nothing in Lean hashes anything: it is a label: what it is worth is what the hold of that sum in a sandbox is worth. -/
noncomputable def Tryd.pinned : Pinned := { name := "ytdecclklenaoaaadoor", sum := "80364b5927006da2472bdf2aa99c17ebbc05ce3df9466867379b068bd0081b26", checked := Tryd.checked }
namespace Rows
def none {H : Type} : Left H := { results := [], args := [] }

/- WHAT THE LISTED PACKAGE-LEVEL VARIABLES READ AS WHEN THE CALL BEGINS. Each datum BY PROGRAM (the guide's laid-datum.mjs) off the statement by which the dump's own 'gosem.cut.vars' lays the variable. In a bare row this is a premise. The card (YtdecclklenaoaaaDoorCards.lean) ties it to the program's text. -/
def laid_queuelab_random_mixing {H : Type} : DataW H := .agg [.agg [.lit (.int .u64 30), .lit (.int .u64 13787848793156543929)], .agg [.lit (.int .u64 27), .lit (.int .u64 10723151780598845931)], .agg [.lit (.int .u64 31), .lit (.int .u64 1)]]

/-- 'queuelablaw23.DualMatchesReference': WHATEVER THE INPUT: true; the input reads as it did. -/
def dualMatchesReferenceSpec : ChangeSpec := { name := "dualMatchesReference", fn := fun _ => fun
  | [d1, d2, d3] => { results := [.lit (.bool true)], args := [d1, d2, d3] }
  | _ => none }
def dualMatchesReferenceRow : OpenClaim := { program := "ytdecclklenaoaaadoor", sum := "80364b5927006da2472bdf2aa99c17ebbc05ce3df9466867379b068bd0081b26", func := "queuelab/queuelablaw23.DualMatchesReference", spec := "dualMatchesReference", unfollowed := true, recurses := true, named := ["queuelab/random.mixing"], apart := false, laid := [("queuelab/random.mixing", laid_queuelab_random_mixing)] }
def DualMatchesReferenceSaid : Prop := dualMatchesReferenceRow.holds Tryd.pinned (OpenSpec.ofChange dualMatchesReferenceSpec)

/-- ITS FALSE NEIGHBOUR: 'it returns false'. Refute it at one input. -/
def dualMatchesReferenceWrong : ChangeSpec := { name := "dualMatchesReference", fn := fun _ => fun
  | [d1, d2, d3] => { results := [.lit (.bool false)], args := [d1, d2, d3] }
  | _ => none }
def DualMatchesReferenceWrongFalsely : Prop := dualMatchesReferenceRow.holds Tryd.pinned (OpenSpec.ofChange dualMatchesReferenceWrong)

/-- 'queuelablaw23.DualConserves': WHATEVER THE INPUT: true; the input reads as it did. -/
def dualConservesSpec : ChangeSpec := { name := "dualConserves", fn := fun _ => fun
  | [d1, d2, d3, d4, d5] => { results := [.lit (.bool true)], args := [d1, d2, d3, d4, d5] }
  | _ => none }
def dualConservesRow : OpenClaim := { program := "ytdecclklenaoaaadoor", sum := "80364b5927006da2472bdf2aa99c17ebbc05ce3df9466867379b068bd0081b26", func := "queuelab/queuelablaw23.DualConserves", spec := "dualConserves", unfollowed := true, recurses := true, named := ["queuelab/random.mixing"], apart := false, laid := [("queuelab/random.mixing", laid_queuelab_random_mixing)] }
def DualConservesSaid : Prop := dualConservesRow.holds Tryd.pinned (OpenSpec.ofChange dualConservesSpec)

/-- ITS FALSE NEIGHBOUR: 'it returns false'. Refute it at one input. -/
def dualConservesWrong : ChangeSpec := { name := "dualConserves", fn := fun _ => fun
  | [d1, d2, d3, d4, d5] => { results := [.lit (.bool false)], args := [d1, d2, d3, d4, d5] }
  | _ => none }
def DualConservesWrongFalsely : Prop := dualConservesRow.holds Tryd.pinned (OpenSpec.ofChange dualConservesWrong)

/-- 'queuelablaw23.DualThreshold': WHATEVER THE INPUT: true; the input reads as it did. -/
def dualThresholdSpec : ChangeSpec := { name := "dualThreshold", fn := fun _ => fun
  | [d1, d2] => { results := [.lit (.bool true)], args := [d1, d2] }
  | _ => none }
def dualThresholdRow : OpenClaim := { program := "ytdecclklenaoaaadoor", sum := "80364b5927006da2472bdf2aa99c17ebbc05ce3df9466867379b068bd0081b26", func := "queuelab/queuelablaw23.DualThreshold", spec := "dualThreshold", unfollowed := true, recurses := true, named := ["queuelab/random.mixing"], apart := false, laid := [("queuelab/random.mixing", laid_queuelab_random_mixing)] }
def DualThresholdSaid : Prop := dualThresholdRow.holds Tryd.pinned (OpenSpec.ofChange dualThresholdSpec)

/-- ITS FALSE NEIGHBOUR: 'it returns false'. Refute it at one input. -/
def dualThresholdWrong : ChangeSpec := { name := "dualThreshold", fn := fun _ => fun
  | [d1, d2] => { results := [.lit (.bool false)], args := [d1, d2] }
  | _ => none }
def DualThresholdWrongFalsely : Prop := dualThresholdRow.holds Tryd.pinned (OpenSpec.ofChange dualThresholdWrong)

/-- 'queuelablaw23.DualServes': WHATEVER THE INPUT: true; the input reads as it did. -/
def dualServesSpec : ChangeSpec := { name := "dualServes", fn := fun _ => fun
  | [d1, d2, d3] => { results := [.lit (.bool true)], args := [d1, d2, d3] }
  | _ => none }
def dualServesRow : OpenClaim := { program := "ytdecclklenaoaaadoor", sum := "80364b5927006da2472bdf2aa99c17ebbc05ce3df9466867379b068bd0081b26", func := "queuelab/queuelablaw23.DualServes", spec := "dualServes", unfollowed := true, recurses := true, named := ["queuelab/random.mixing"], apart := false, laid := [("queuelab/random.mixing", laid_queuelab_random_mixing)] }
def DualServesSaid : Prop := dualServesRow.holds Tryd.pinned (OpenSpec.ofChange dualServesSpec)

/-- ITS FALSE NEIGHBOUR: 'it returns false'. Refute it at one input. -/
def dualServesWrong : ChangeSpec := { name := "dualServes", fn := fun _ => fun
  | [d1, d2, d3] => { results := [.lit (.bool false)], args := [d1, d2, d3] }
  | _ => none }
def DualServesWrongFalsely : Prop := dualServesRow.holds Tryd.pinned (OpenSpec.ofChange dualServesWrong)

/-- 'queuelablaw23.DualPressure': WHATEVER THE INPUT: true; the input reads as it did. -/
def dualPressureSpec : ChangeSpec := { name := "dualPressure", fn := fun _ => fun
  | [d1, d2] => { results := [.lit (.bool true)], args := [d1, d2] }
  | _ => none }
def dualPressureRow : OpenClaim := { program := "ytdecclklenaoaaadoor", sum := "80364b5927006da2472bdf2aa99c17ebbc05ce3df9466867379b068bd0081b26", func := "queuelab/queuelablaw23.DualPressure", spec := "dualPressure", unfollowed := true, recurses := true, named := ["queuelab/random.mixing"], apart := false, laid := [("queuelab/random.mixing", laid_queuelab_random_mixing)] }
def DualPressureSaid : Prop := dualPressureRow.holds Tryd.pinned (OpenSpec.ofChange dualPressureSpec)

/-- ITS FALSE NEIGHBOUR: 'it returns false'. Refute it at one input. -/
def dualPressureWrong : ChangeSpec := { name := "dualPressure", fn := fun _ => fun
  | [d1, d2] => { results := [.lit (.bool false)], args := [d1, d2] }
  | _ => none }
def DualPressureWrongFalsely : Prop := dualPressureRow.holds Tryd.pinned (OpenSpec.ofChange dualPressureWrong)

/-- 'queuelablaw23.DualSeeds': WHATEVER THE INPUT: true; the input reads as it did. -/
def dualSeedsSpec : ChangeSpec := { name := "dualSeeds", fn := fun _ => fun
  | [d1, d2, d3, d4] => { results := [.lit (.bool true)], args := [d1, d2, d3, d4] }
  | _ => none }
def dualSeedsRow : OpenClaim := { program := "ytdecclklenaoaaadoor", sum := "80364b5927006da2472bdf2aa99c17ebbc05ce3df9466867379b068bd0081b26", func := "queuelab/queuelablaw23.DualSeeds", spec := "dualSeeds", unfollowed := true, recurses := true, named := ["queuelab/random.mixing"], apart := false, laid := [("queuelab/random.mixing", laid_queuelab_random_mixing)] }
def DualSeedsSaid : Prop := dualSeedsRow.holds Tryd.pinned (OpenSpec.ofChange dualSeedsSpec)

/-- ITS FALSE NEIGHBOUR: 'it returns false'. Refute it at one input. -/
def dualSeedsWrong : ChangeSpec := { name := "dualSeeds", fn := fun _ => fun
  | [d1, d2, d3, d4] => { results := [.lit (.bool false)], args := [d1, d2, d3, d4] }
  | _ => none }
def DualSeedsWrongFalsely : Prop := dualSeedsRow.holds Tryd.pinned (OpenSpec.ofChange dualSeedsWrong)

/-- 'queuelablaw23.DualRoom': WHATEVER THE INPUT: true; the input reads as it did. -/
def dualRoomSpec : ChangeSpec := { name := "dualRoom", fn := fun _ => fun
  | [d1, d2, d3] => { results := [.lit (.bool true)], args := [d1, d2, d3] }
  | _ => none }
def dualRoomRow : OpenClaim := { program := "ytdecclklenaoaaadoor", sum := "80364b5927006da2472bdf2aa99c17ebbc05ce3df9466867379b068bd0081b26", func := "queuelab/queuelablaw23.DualRoom", spec := "dualRoom", unfollowed := true, recurses := true, named := ["queuelab/random.mixing"], apart := false, laid := [("queuelab/random.mixing", laid_queuelab_random_mixing)] }
def DualRoomSaid : Prop := dualRoomRow.holds Tryd.pinned (OpenSpec.ofChange dualRoomSpec)

/-- ITS FALSE NEIGHBOUR: 'it returns false'. Refute it at one input. -/
def dualRoomWrong : ChangeSpec := { name := "dualRoom", fn := fun _ => fun
  | [d1, d2, d3] => { results := [.lit (.bool false)], args := [d1, d2, d3] }
  | _ => none }
def DualRoomWrongFalsely : Prop := dualRoomRow.holds Tryd.pinned (OpenSpec.ofChange dualRoomWrong)

/- THE SECOND FORM. 'bulk': how many values and letters a reading holds, each counted each time it is reached (what is shared counts as often as it is met; a slice's spare places count too). A statement '..UptoSaid' is the law's where the arguments, and the package variables that the reading takes, are together of bulk at most 1048576: NARROWER than '..Said'. Prove '..Said' where nothing that the law and all that it calls make is longer than what came in: it says more and counts as full. Else prove '..UptoSaid'. A law counts once. -/
mutual
def uptoBulk {H : Type} : DataW H → Nat
  | .lit (.string bytes) => bytes.length + 1
  | .lit _ => 1
  | .nil => 1
  | .ptr d => uptoBulk d + 1
  | .slice elems spare => uptoBulkAll elems + uptoBulkAll spare + 1
  | .agg parts => uptoBulkAll parts + 1
  | .iface _ d => uptoBulk d + 1
  | .map entries => uptoBulkEntries entries + 1
  | .held _ => 1
def uptoBulkAll {H : Type} : List (DataW H) → Nat
  | [] => 0
  | d :: r => uptoBulk d + uptoBulkAll r
def uptoBulkEntries {H : Type} : List (Lit × DataW H) → Nat
  | [] => 0
  | x :: r => uptoBulkEntry x + uptoBulkEntries r
def uptoBulkEntry {H : Type} : Lit × DataW H → Nat
  | (.string bytes, d) => bytes.length + uptoBulk d + 1
  | (_, d) => uptoBulk d + 1
 end
def uptoSmall : (H : Type) → List (DataW H) → Bool := fun _ ds => decide (uptoBulkAll ds ≤ 1048576)
def OpenSpec.upto (s : _root_.Go.ChangeSpec) : _root_.Go.OpenSpec := { _root_.Go.OpenSpec.ofChange s with cond := some uptoSmall }

/-- 'queuelablaw23.DualMatchesReference', WHERE WHAT IT READS IS OF BULK AT MOST 1048576: true; the input reads as it did. -/
def dualMatchesReferenceUptoRow : OpenClaim := { program := "ytdecclklenaoaaadoor", sum := "80364b5927006da2472bdf2aa99c17ebbc05ce3df9466867379b068bd0081b26", func := "queuelab/queuelablaw23.DualMatchesReference", spec := "dualMatchesReference", unfollowed := true, recurses := true, named := ["queuelab/random.mixing"], apart := false, laid := [("queuelab/random.mixing", laid_queuelab_random_mixing)], narrowed := true }
def DualMatchesReferenceUptoSaid : Prop := dualMatchesReferenceUptoRow.holds Tryd.pinned (OpenSpec.upto dualMatchesReferenceSpec)

/-- 'queuelablaw23.DualConserves', WHERE WHAT IT READS IS OF BULK AT MOST 1048576: true; the input reads as it did. -/
def dualConservesUptoRow : OpenClaim := { program := "ytdecclklenaoaaadoor", sum := "80364b5927006da2472bdf2aa99c17ebbc05ce3df9466867379b068bd0081b26", func := "queuelab/queuelablaw23.DualConserves", spec := "dualConserves", unfollowed := true, recurses := true, named := ["queuelab/random.mixing"], apart := false, laid := [("queuelab/random.mixing", laid_queuelab_random_mixing)], narrowed := true }
def DualConservesUptoSaid : Prop := dualConservesUptoRow.holds Tryd.pinned (OpenSpec.upto dualConservesSpec)

/-- 'queuelablaw23.DualThreshold', WHERE WHAT IT READS IS OF BULK AT MOST 1048576: true; the input reads as it did. -/
def dualThresholdUptoRow : OpenClaim := { program := "ytdecclklenaoaaadoor", sum := "80364b5927006da2472bdf2aa99c17ebbc05ce3df9466867379b068bd0081b26", func := "queuelab/queuelablaw23.DualThreshold", spec := "dualThreshold", unfollowed := true, recurses := true, named := ["queuelab/random.mixing"], apart := false, laid := [("queuelab/random.mixing", laid_queuelab_random_mixing)], narrowed := true }
def DualThresholdUptoSaid : Prop := dualThresholdUptoRow.holds Tryd.pinned (OpenSpec.upto dualThresholdSpec)

/-- 'queuelablaw23.DualServes', WHERE WHAT IT READS IS OF BULK AT MOST 1048576: true; the input reads as it did. -/
def dualServesUptoRow : OpenClaim := { program := "ytdecclklenaoaaadoor", sum := "80364b5927006da2472bdf2aa99c17ebbc05ce3df9466867379b068bd0081b26", func := "queuelab/queuelablaw23.DualServes", spec := "dualServes", unfollowed := true, recurses := true, named := ["queuelab/random.mixing"], apart := false, laid := [("queuelab/random.mixing", laid_queuelab_random_mixing)], narrowed := true }
def DualServesUptoSaid : Prop := dualServesUptoRow.holds Tryd.pinned (OpenSpec.upto dualServesSpec)

/-- 'queuelablaw23.DualPressure', WHERE WHAT IT READS IS OF BULK AT MOST 1048576: true; the input reads as it did. -/
def dualPressureUptoRow : OpenClaim := { program := "ytdecclklenaoaaadoor", sum := "80364b5927006da2472bdf2aa99c17ebbc05ce3df9466867379b068bd0081b26", func := "queuelab/queuelablaw23.DualPressure", spec := "dualPressure", unfollowed := true, recurses := true, named := ["queuelab/random.mixing"], apart := false, laid := [("queuelab/random.mixing", laid_queuelab_random_mixing)], narrowed := true }
def DualPressureUptoSaid : Prop := dualPressureUptoRow.holds Tryd.pinned (OpenSpec.upto dualPressureSpec)

/-- 'queuelablaw23.DualSeeds', WHERE WHAT IT READS IS OF BULK AT MOST 1048576: true; the input reads as it did. -/
def dualSeedsUptoRow : OpenClaim := { program := "ytdecclklenaoaaadoor", sum := "80364b5927006da2472bdf2aa99c17ebbc05ce3df9466867379b068bd0081b26", func := "queuelab/queuelablaw23.DualSeeds", spec := "dualSeeds", unfollowed := true, recurses := true, named := ["queuelab/random.mixing"], apart := false, laid := [("queuelab/random.mixing", laid_queuelab_random_mixing)], narrowed := true }
def DualSeedsUptoSaid : Prop := dualSeedsUptoRow.holds Tryd.pinned (OpenSpec.upto dualSeedsSpec)

/-- 'queuelablaw23.DualRoom', WHERE WHAT IT READS IS OF BULK AT MOST 1048576: true; the input reads as it did. -/
def dualRoomUptoRow : OpenClaim := { program := "ytdecclklenaoaaadoor", sum := "80364b5927006da2472bdf2aa99c17ebbc05ce3df9466867379b068bd0081b26", func := "queuelab/queuelablaw23.DualRoom", spec := "dualRoom", unfollowed := true, recurses := true, named := ["queuelab/random.mixing"], apart := false, laid := [("queuelab/random.mixing", laid_queuelab_random_mixing)], narrowed := true }
def DualRoomUptoSaid : Prop := dualRoomUptoRow.holds Tryd.pinned (OpenSpec.upto dualRoomSpec)

end Rows
end Go.Proofs.YtdecclklenaoaaaDoor
