/-
  DERIVED. GIVEN WITH THE SEED: THE CARDS: each row of YtbafgcmcpaickaaDoorRows.lean that lists a variable, with what it lists TIED to the program's text (the seventh form; the later family's looks); each row that meets fmt, with fmt's text TOLD by the authors' own Lean function (tested against real Go, not proved from fmt's source: count such statements apart). THE CARD IS WHAT COUNTS. Prove the row's statement (the work); the ties are given (YtbafgcmcpaickaaDoorTie.lean); close each card by the builder's one call (the guide's Derived/Test/ToyasCard.lean, 'card_holds'). Laid BY PROGRAM, IN A SANDBOX (cutbox-door.mjs). By AI agents, Wed Nov 11 2026. No macro, syntax, notation, axiom, sorry.
-/
import Derived.Test.YtbafgcmcpaickaaDoorRows
import GoSem.ClaimSeven
namespace Go.Proofs.YtbafgcmcpaickaaDoor
namespace Rows

/-- THE TIED CARD OF 'queuelablaw17.RandomMatchesReference'. -/
def randomMatchesReferenceCard : Claim7 := { stood := { row := randomMatchesReferenceRow, standIns := [], harness := (true, "f3a0786f5717abdced1b172d42c2b1097bb64e53b23dcf05b785841edf63e97e"), looks := false }, kinds := [], alts := [], laidByText := true, laidKinds := [.data], laidTests := true, laidLooks := .later }
def RandomMatchesReferenceCardSaid : Prop := Claim7.holds Tryd.pinned (.plain (OpenSpec.ofChange randomMatchesReferenceSpec)) randomMatchesReferenceCard

/-- THE TIED CARD OF 'queuelablaw17.RandomDistinct'. -/
def randomDistinctCard : Claim7 := { stood := { row := randomDistinctRow, standIns := [], harness := (true, "f3a0786f5717abdced1b172d42c2b1097bb64e53b23dcf05b785841edf63e97e"), looks := false }, kinds := [], alts := [], laidByText := true, laidKinds := [.data], laidTests := true, laidLooks := .later }
def RandomDistinctCardSaid : Prop := Claim7.holds Tryd.pinned (.plain (OpenSpec.ofChange randomDistinctSpec)) randomDistinctCard

/-- THE TIED CARD OF 'queuelablaw17.RandomRange'. -/
def randomRangeCard : Claim7 := { stood := { row := randomRangeRow, standIns := [], harness := (true, "f3a0786f5717abdced1b172d42c2b1097bb64e53b23dcf05b785841edf63e97e"), looks := false }, kinds := [], alts := [], laidByText := true, laidKinds := [.data], laidTests := true, laidLooks := .later }
def RandomRangeCardSaid : Prop := Claim7.holds Tryd.pinned (.plain (OpenSpec.ofChange randomRangeSpec)) randomRangeCard

/-- THE TIED CARD OF 'queuelablaw17.RandomSteps'. -/
def randomStepsCard : Claim7 := { stood := { row := randomStepsRow, standIns := [], harness := (true, "f3a0786f5717abdced1b172d42c2b1097bb64e53b23dcf05b785841edf63e97e"), looks := false }, kinds := [], alts := [], laidByText := true, laidKinds := [.data], laidTests := true, laidLooks := .later }
def RandomStepsCardSaid : Prop := Claim7.holds Tryd.pinned (.plain (OpenSpec.ofChange randomStepsSpec)) randomStepsCard

/-- THE TIED CARD OF 'queuelablaw17.RandomCycle'. -/
def randomCycleCard : Claim7 := { stood := { row := randomCycleRow, standIns := [], harness := (true, "f3a0786f5717abdced1b172d42c2b1097bb64e53b23dcf05b785841edf63e97e"), looks := false }, kinds := [], alts := [], laidByText := true, laidKinds := [.data], laidTests := true, laidLooks := .later }
def RandomCycleCardSaid : Prop := Claim7.holds Tryd.pinned (.plain (OpenSpec.ofChange randomCycleSpec)) randomCycleCard

/-- THE TIED CARD OF 'queuelablaw17.RandomPair'. -/
def randomPairCard : Claim7 := { stood := { row := randomPairRow, standIns := [], harness := (true, "f3a0786f5717abdced1b172d42c2b1097bb64e53b23dcf05b785841edf63e97e"), looks := false }, kinds := [], alts := [], laidByText := true, laidKinds := [.data], laidTests := true, laidLooks := .later }
def RandomPairCardSaid : Prop := Claim7.holds Tryd.pinned (.plain (OpenSpec.ofChange randomPairSpec)) randomPairCard

/-- THE SECOND FORM's CARD OF 'queuelablaw17.RandomMatchesReference'. -/
def randomMatchesReferenceUptoCard : Claim7 := { stood := { row := randomMatchesReferenceUptoRow, standIns := [], harness := (true, "f3a0786f5717abdced1b172d42c2b1097bb64e53b23dcf05b785841edf63e97e"), looks := false }, kinds := [], alts := [], laidByText := true, laidKinds := [.data], laidTests := true, laidLooks := .later }
def RandomMatchesReferenceUptoCardSaid : Prop := Claim7.holds Tryd.pinned (.plain (OpenSpec.upto randomMatchesReferenceSpec)) randomMatchesReferenceUptoCard

/-- THE SECOND FORM's CARD OF 'queuelablaw17.RandomDistinct'. -/
def randomDistinctUptoCard : Claim7 := { stood := { row := randomDistinctUptoRow, standIns := [], harness := (true, "f3a0786f5717abdced1b172d42c2b1097bb64e53b23dcf05b785841edf63e97e"), looks := false }, kinds := [], alts := [], laidByText := true, laidKinds := [.data], laidTests := true, laidLooks := .later }
def RandomDistinctUptoCardSaid : Prop := Claim7.holds Tryd.pinned (.plain (OpenSpec.upto randomDistinctSpec)) randomDistinctUptoCard

/-- THE SECOND FORM's CARD OF 'queuelablaw17.RandomRange'. -/
def randomRangeUptoCard : Claim7 := { stood := { row := randomRangeUptoRow, standIns := [], harness := (true, "f3a0786f5717abdced1b172d42c2b1097bb64e53b23dcf05b785841edf63e97e"), looks := false }, kinds := [], alts := [], laidByText := true, laidKinds := [.data], laidTests := true, laidLooks := .later }
def RandomRangeUptoCardSaid : Prop := Claim7.holds Tryd.pinned (.plain (OpenSpec.upto randomRangeSpec)) randomRangeUptoCard

/-- THE SECOND FORM's CARD OF 'queuelablaw17.RandomSteps'. -/
def randomStepsUptoCard : Claim7 := { stood := { row := randomStepsUptoRow, standIns := [], harness := (true, "f3a0786f5717abdced1b172d42c2b1097bb64e53b23dcf05b785841edf63e97e"), looks := false }, kinds := [], alts := [], laidByText := true, laidKinds := [.data], laidTests := true, laidLooks := .later }
def RandomStepsUptoCardSaid : Prop := Claim7.holds Tryd.pinned (.plain (OpenSpec.upto randomStepsSpec)) randomStepsUptoCard

/-- THE SECOND FORM's CARD OF 'queuelablaw17.RandomCycle'. -/
def randomCycleUptoCard : Claim7 := { stood := { row := randomCycleUptoRow, standIns := [], harness := (true, "f3a0786f5717abdced1b172d42c2b1097bb64e53b23dcf05b785841edf63e97e"), looks := false }, kinds := [], alts := [], laidByText := true, laidKinds := [.data], laidTests := true, laidLooks := .later }
def RandomCycleUptoCardSaid : Prop := Claim7.holds Tryd.pinned (.plain (OpenSpec.upto randomCycleSpec)) randomCycleUptoCard

/-- THE SECOND FORM's CARD OF 'queuelablaw17.RandomPair'. -/
def randomPairUptoCard : Claim7 := { stood := { row := randomPairUptoRow, standIns := [], harness := (true, "f3a0786f5717abdced1b172d42c2b1097bb64e53b23dcf05b785841edf63e97e"), looks := false }, kinds := [], alts := [], laidByText := true, laidKinds := [.data], laidTests := true, laidLooks := .later }
def RandomPairUptoCardSaid : Prop := Claim7.holds Tryd.pinned (.plain (OpenSpec.upto randomPairSpec)) randomPairUptoCard
end Rows
end Go.Proofs.YtbafgcmcpaickaaDoor
