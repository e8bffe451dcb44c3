/-
  DERIVED. GIVEN WITH THE SEED: THE CARDS: each row of YtdecclklenaoaaaDoorRows.lean that lists a variable, with what it lists TIED to the program's text (the seventh form; the later family's looks); each row that meets fmt, with fmt's text TOLD by the authors' own Lean function (tested against real Go, not proved from fmt's source: count such statements apart). THE CARD IS WHAT COUNTS. Prove the row's statement (the work); the ties are given (YtdecclklenaoaaaDoorTie.lean); close each card by the builder's one call (the guide's Derived/Test/ToyasCard.lean, 'card_holds'). Laid BY PROGRAM, IN A SANDBOX (cutbox-door.mjs). By AI agents, Wed Nov 11 2026. No macro, syntax, notation, axiom, sorry.
-/
import Derived.Test.YtdecclklenaoaaaDoorRows
import GoSem.ClaimSeven
namespace Go.Proofs.YtdecclklenaoaaaDoor
namespace Rows

/-- THE TIED CARD OF 'queuelablaw23.DualMatchesReference'. -/
def dualMatchesReferenceCard : Claim7 := { stood := { row := dualMatchesReferenceRow, standIns := [], harness := (true, "a932649a6d4e3fe8ff8d9e83dbf817933aba10cb344d25e30d6cd60be23d6f39"), looks := false }, kinds := [], alts := [], laidByText := true, laidKinds := [.data], laidTests := true, laidLooks := .later }
def DualMatchesReferenceCardSaid : Prop := Claim7.holds Tryd.pinned (.plain (OpenSpec.ofChange dualMatchesReferenceSpec)) dualMatchesReferenceCard

/-- THE TIED CARD OF 'queuelablaw23.DualConserves'. -/
def dualConservesCard : Claim7 := { stood := { row := dualConservesRow, standIns := [], harness := (true, "a932649a6d4e3fe8ff8d9e83dbf817933aba10cb344d25e30d6cd60be23d6f39"), looks := false }, kinds := [], alts := [], laidByText := true, laidKinds := [.data], laidTests := true, laidLooks := .later }
def DualConservesCardSaid : Prop := Claim7.holds Tryd.pinned (.plain (OpenSpec.ofChange dualConservesSpec)) dualConservesCard

/-- THE TIED CARD OF 'queuelablaw23.DualThreshold'. -/
def dualThresholdCard : Claim7 := { stood := { row := dualThresholdRow, standIns := [], harness := (true, "a932649a6d4e3fe8ff8d9e83dbf817933aba10cb344d25e30d6cd60be23d6f39"), looks := false }, kinds := [], alts := [], laidByText := true, laidKinds := [.data], laidTests := true, laidLooks := .later }
def DualThresholdCardSaid : Prop := Claim7.holds Tryd.pinned (.plain (OpenSpec.ofChange dualThresholdSpec)) dualThresholdCard

/-- THE TIED CARD OF 'queuelablaw23.DualServes'. -/
def dualServesCard : Claim7 := { stood := { row := dualServesRow, standIns := [], harness := (true, "a932649a6d4e3fe8ff8d9e83dbf817933aba10cb344d25e30d6cd60be23d6f39"), looks := false }, kinds := [], alts := [], laidByText := true, laidKinds := [.data], laidTests := true, laidLooks := .later }
def DualServesCardSaid : Prop := Claim7.holds Tryd.pinned (.plain (OpenSpec.ofChange dualServesSpec)) dualServesCard

/-- THE TIED CARD OF 'queuelablaw23.DualPressure'. -/
def dualPressureCard : Claim7 := { stood := { row := dualPressureRow, standIns := [], harness := (true, "a932649a6d4e3fe8ff8d9e83dbf817933aba10cb344d25e30d6cd60be23d6f39"), looks := false }, kinds := [], alts := [], laidByText := true, laidKinds := [.data], laidTests := true, laidLooks := .later }
def DualPressureCardSaid : Prop := Claim7.holds Tryd.pinned (.plain (OpenSpec.ofChange dualPressureSpec)) dualPressureCard

/-- THE TIED CARD OF 'queuelablaw23.DualSeeds'. -/
def dualSeedsCard : Claim7 := { stood := { row := dualSeedsRow, standIns := [], harness := (true, "a932649a6d4e3fe8ff8d9e83dbf817933aba10cb344d25e30d6cd60be23d6f39"), looks := false }, kinds := [], alts := [], laidByText := true, laidKinds := [.data], laidTests := true, laidLooks := .later }
def DualSeedsCardSaid : Prop := Claim7.holds Tryd.pinned (.plain (OpenSpec.ofChange dualSeedsSpec)) dualSeedsCard

/-- THE TIED CARD OF 'queuelablaw23.DualRoom'. -/
def dualRoomCard : Claim7 := { stood := { row := dualRoomRow, standIns := [], harness := (true, "a932649a6d4e3fe8ff8d9e83dbf817933aba10cb344d25e30d6cd60be23d6f39"), looks := false }, kinds := [], alts := [], laidByText := true, laidKinds := [.data], laidTests := true, laidLooks := .later }
def DualRoomCardSaid : Prop := Claim7.holds Tryd.pinned (.plain (OpenSpec.ofChange dualRoomSpec)) dualRoomCard

/-- THE SECOND FORM's CARD OF 'queuelablaw23.DualMatchesReference'. -/
def dualMatchesReferenceUptoCard : Claim7 := { stood := { row := dualMatchesReferenceUptoRow, standIns := [], harness := (true, "a932649a6d4e3fe8ff8d9e83dbf817933aba10cb344d25e30d6cd60be23d6f39"), looks := false }, kinds := [], alts := [], laidByText := true, laidKinds := [.data], laidTests := true, laidLooks := .later }
def DualMatchesReferenceUptoCardSaid : Prop := Claim7.holds Tryd.pinned (.plain (OpenSpec.upto dualMatchesReferenceSpec)) dualMatchesReferenceUptoCard

/-- THE SECOND FORM's CARD OF 'queuelablaw23.DualConserves'. -/
def dualConservesUptoCard : Claim7 := { stood := { row := dualConservesUptoRow, standIns := [], harness := (true, "a932649a6d4e3fe8ff8d9e83dbf817933aba10cb344d25e30d6cd60be23d6f39"), looks := false }, kinds := [], alts := [], laidByText := true, laidKinds := [.data], laidTests := true, laidLooks := .later }
def DualConservesUptoCardSaid : Prop := Claim7.holds Tryd.pinned (.plain (OpenSpec.upto dualConservesSpec)) dualConservesUptoCard

/-- THE SECOND FORM's CARD OF 'queuelablaw23.DualThreshold'. -/
def dualThresholdUptoCard : Claim7 := { stood := { row := dualThresholdUptoRow, standIns := [], harness := (true, "a932649a6d4e3fe8ff8d9e83dbf817933aba10cb344d25e30d6cd60be23d6f39"), looks := false }, kinds := [], alts := [], laidByText := true, laidKinds := [.data], laidTests := true, laidLooks := .later }
def DualThresholdUptoCardSaid : Prop := Claim7.holds Tryd.pinned (.plain (OpenSpec.upto dualThresholdSpec)) dualThresholdUptoCard

/-- THE SECOND FORM's CARD OF 'queuelablaw23.DualServes'. -/
def dualServesUptoCard : Claim7 := { stood := { row := dualServesUptoRow, standIns := [], harness := (true, "a932649a6d4e3fe8ff8d9e83dbf817933aba10cb344d25e30d6cd60be23d6f39"), looks := false }, kinds := [], alts := [], laidByText := true, laidKinds := [.data], laidTests := true, laidLooks := .later }
def DualServesUptoCardSaid : Prop := Claim7.holds Tryd.pinned (.plain (OpenSpec.upto dualServesSpec)) dualServesUptoCard

/-- THE SECOND FORM's CARD OF 'queuelablaw23.DualPressure'. -/
def dualPressureUptoCard : Claim7 := { stood := { row := dualPressureUptoRow, standIns := [], harness := (true, "a932649a6d4e3fe8ff8d9e83dbf817933aba10cb344d25e30d6cd60be23d6f39"), looks := false }, kinds := [], alts := [], laidByText := true, laidKinds := [.data], laidTests := true, laidLooks := .later }
def DualPressureUptoCardSaid : Prop := Claim7.holds Tryd.pinned (.plain (OpenSpec.upto dualPressureSpec)) dualPressureUptoCard

/-- THE SECOND FORM's CARD OF 'queuelablaw23.DualSeeds'. -/
def dualSeedsUptoCard : Claim7 := { stood := { row := dualSeedsUptoRow, standIns := [], harness := (true, "a932649a6d4e3fe8ff8d9e83dbf817933aba10cb344d25e30d6cd60be23d6f39"), looks := false }, kinds := [], alts := [], laidByText := true, laidKinds := [.data], laidTests := true, laidLooks := .later }
def DualSeedsUptoCardSaid : Prop := Claim7.holds Tryd.pinned (.plain (OpenSpec.upto dualSeedsSpec)) dualSeedsUptoCard

/-- THE SECOND FORM's CARD OF 'queuelablaw23.DualRoom'. -/
def dualRoomUptoCard : Claim7 := { stood := { row := dualRoomUptoRow, standIns := [], harness := (true, "a932649a6d4e3fe8ff8d9e83dbf817933aba10cb344d25e30d6cd60be23d6f39"), looks := false }, kinds := [], alts := [], laidByText := true, laidKinds := [.data], laidTests := true, laidLooks := .later }
def DualRoomUptoCardSaid : Prop := Claim7.holds Tryd.pinned (.plain (OpenSpec.upto dualRoomSpec)) dualRoomUptoCard
end Rows
end Go.Proofs.YtdecclklenaoaaaDoor
