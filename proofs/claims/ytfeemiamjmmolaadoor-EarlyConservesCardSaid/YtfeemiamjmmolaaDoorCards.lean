/-
  DERIVED. GIVEN WITH THE SEED: THE CARDS: each row of YtfeemiamjmmolaaDoorRows.lean that lists a variable, with what it lists TIED to the program's text (the seventh form; the later family's looks); each row that meets fmt, with fmt's text TOLD by the authors' own Lean function (tested against real Go, not proved from fmt's source: count such statements apart). THE CARD IS WHAT COUNTS. Prove the row's statement (the work); the ties are given (YtfeemiamjmmolaaDoorTie.lean); close each card by the builder's one call (the guide's Derived/Test/ToyasCard.lean, 'card_holds'). Laid BY PROGRAM, IN A SANDBOX (cutbox-door.mjs). By AI agents, Wed Nov 11 2026. No macro, syntax, notation, axiom, sorry.
-/
import Derived.Test.YtfeemiamjmmolaaDoorRows
import GoSem.ClaimSeven
namespace Go.Proofs.YtfeemiamjmmolaaDoor
namespace Rows

/-- THE TIED CARD OF 'queuelablaw19.EarlyConserves'. -/
def earlyConservesCard : Claim7 := { stood := { row := earlyConservesRow, standIns := [], harness := (true, "512e493a1c4c1c6b7d0524cb584ec0f7803c00c4c7bfcdd92d50809f961aa204"), looks := false }, kinds := [], alts := [], laidByText := true, laidKinds := [.data], laidTests := true, laidLooks := .later }
def EarlyConservesCardSaid : Prop := Claim7.holds Tryd.pinned (.plain (OpenSpec.ofChange earlyConservesSpec)) earlyConservesCard

/-- THE TIED CARD OF 'queuelablaw19.EarlyCalm'. -/
def earlyCalmCard : Claim7 := { stood := { row := earlyCalmRow, standIns := [], harness := (true, "512e493a1c4c1c6b7d0524cb584ec0f7803c00c4c7bfcdd92d50809f961aa204"), looks := false }, kinds := [], alts := [], laidByText := true, laidKinds := [.data], laidTests := true, laidLooks := .later }
def EarlyCalmCardSaid : Prop := Claim7.holds Tryd.pinned (.plain (OpenSpec.ofChange earlyCalmSpec)) earlyCalmCard

/-- THE TIED CARD OF 'queuelablaw19.EarlyAlways'. -/
def earlyAlwaysCard : Claim7 := { stood := { row := earlyAlwaysRow, standIns := [], harness := (true, "512e493a1c4c1c6b7d0524cb584ec0f7803c00c4c7bfcdd92d50809f961aa204"), looks := false }, kinds := [], alts := [], laidByText := true, laidKinds := [.data], laidTests := true, laidLooks := .later }
def EarlyAlwaysCardSaid : Prop := Claim7.holds Tryd.pinned (.plain (OpenSpec.ofChange earlyAlwaysSpec)) earlyAlwaysCard

/-- THE TIED CARD OF 'queuelablaw19.EarlyAverage'. -/
def earlyAverageCard : Claim7 := { stood := { row := earlyAverageRow, standIns := [], harness := (true, "512e493a1c4c1c6b7d0524cb584ec0f7803c00c4c7bfcdd92d50809f961aa204"), looks := false }, kinds := [], alts := [], laidByText := true, laidKinds := [.data], laidTests := true, laidLooks := .later }
def EarlyAverageCardSaid : Prop := Claim7.holds Tryd.pinned (.plain (OpenSpec.ofChange earlyAverageSpec)) earlyAverageCard

/-- THE TIED CARD OF 'queuelablaw19.EarlyRising'. -/
def earlyRisingCard : Claim7 := { stood := { row := earlyRisingRow, standIns := [], harness := (true, "512e493a1c4c1c6b7d0524cb584ec0f7803c00c4c7bfcdd92d50809f961aa204"), looks := false }, kinds := [], alts := [], laidByText := true, laidKinds := [.data], laidTests := true, laidLooks := .later }
def EarlyRisingCardSaid : Prop := Claim7.holds Tryd.pinned (.plain (OpenSpec.ofChange earlyRisingSpec)) earlyRisingCard

/-- THE SECOND FORM's CARD OF 'queuelablaw19.EarlyConserves'. -/
def earlyConservesUptoCard : Claim7 := { stood := { row := earlyConservesUptoRow, standIns := [], harness := (true, "512e493a1c4c1c6b7d0524cb584ec0f7803c00c4c7bfcdd92d50809f961aa204"), looks := false }, kinds := [], alts := [], laidByText := true, laidKinds := [.data], laidTests := true, laidLooks := .later }
def EarlyConservesUptoCardSaid : Prop := Claim7.holds Tryd.pinned (.plain (OpenSpec.upto earlyConservesSpec)) earlyConservesUptoCard

/-- THE SECOND FORM's CARD OF 'queuelablaw19.EarlyCalm'. -/
def earlyCalmUptoCard : Claim7 := { stood := { row := earlyCalmUptoRow, standIns := [], harness := (true, "512e493a1c4c1c6b7d0524cb584ec0f7803c00c4c7bfcdd92d50809f961aa204"), looks := false }, kinds := [], alts := [], laidByText := true, laidKinds := [.data], laidTests := true, laidLooks := .later }
def EarlyCalmUptoCardSaid : Prop := Claim7.holds Tryd.pinned (.plain (OpenSpec.upto earlyCalmSpec)) earlyCalmUptoCard

/-- THE SECOND FORM's CARD OF 'queuelablaw19.EarlyAlways'. -/
def earlyAlwaysUptoCard : Claim7 := { stood := { row := earlyAlwaysUptoRow, standIns := [], harness := (true, "512e493a1c4c1c6b7d0524cb584ec0f7803c00c4c7bfcdd92d50809f961aa204"), looks := false }, kinds := [], alts := [], laidByText := true, laidKinds := [.data], laidTests := true, laidLooks := .later }
def EarlyAlwaysUptoCardSaid : Prop := Claim7.holds Tryd.pinned (.plain (OpenSpec.upto earlyAlwaysSpec)) earlyAlwaysUptoCard

/-- THE SECOND FORM's CARD OF 'queuelablaw19.EarlyAverage'. -/
def earlyAverageUptoCard : Claim7 := { stood := { row := earlyAverageUptoRow, standIns := [], harness := (true, "512e493a1c4c1c6b7d0524cb584ec0f7803c00c4c7bfcdd92d50809f961aa204"), looks := false }, kinds := [], alts := [], laidByText := true, laidKinds := [.data], laidTests := true, laidLooks := .later }
def EarlyAverageUptoCardSaid : Prop := Claim7.holds Tryd.pinned (.plain (OpenSpec.upto earlyAverageSpec)) earlyAverageUptoCard

/-- THE SECOND FORM's CARD OF 'queuelablaw19.EarlyRising'. -/
def earlyRisingUptoCard : Claim7 := { stood := { row := earlyRisingUptoRow, standIns := [], harness := (true, "512e493a1c4c1c6b7d0524cb584ec0f7803c00c4c7bfcdd92d50809f961aa204"), looks := false }, kinds := [], alts := [], laidByText := true, laidKinds := [.data], laidTests := true, laidLooks := .later }
def EarlyRisingUptoCardSaid : Prop := Claim7.holds Tryd.pinned (.plain (OpenSpec.upto earlyRisingSpec)) earlyRisingUptoCard
end Rows
end Go.Proofs.YtfeemiamjmmolaaDoor
