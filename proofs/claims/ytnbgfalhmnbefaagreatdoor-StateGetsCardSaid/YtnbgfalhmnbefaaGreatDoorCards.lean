/-
  DERIVED. GIVEN WITH THE SEED: THE CARDS: each row of YtnbgfalhmnbefaaGreatDoorRows.lean that lists a variable, with what it lists TIED to the program's text (the seventh form; the later family's looks); each row that meets fmt, with fmt's text TOLD by the authors' own Lean function (tested against real Go, not proved from fmt's source: count such statements apart). THE CARD IS WHAT COUNTS. Prove the row's statement (the work); the ties are given (YtnbgfalhmnbefaaGreatDoorTie.lean); close each card by the builder's one call (the guide's Derived/Test/ToyasCard.lean, 'card_holds'). Laid BY PROGRAM, IN A SANDBOX (cutbox-door.mjs). By AI agents, Wed Nov 11 2026. No macro, syntax, notation, axiom, sorry.
-/
import Derived.Test.YtnbgfalhmnbefaaGreatDoorRows
import GoSem.ClaimSeven
namespace Go.Proofs.YtnbgfalhmnbefaaGreatDoor
namespace Rows

/-- THE TIED CARD OF 'replevinlaw05.StateGets'. -/
def stateGetsCard : Claim7 := { stood := { row := stateGetsRow, standIns := [], harness := (true, "5aee5b1258734de8062a5cf093db0ef3bf39f68caa5f91a013d8d67df655905f"), looks := true }, kinds := [], alts := [], goes := true, laidByText := true, laidKinds := [.data, .data, .data, .sentinel, .sentinel], laidTests := true, laidLooks := .later }
def StateGetsCardSaid : Prop := Claim7.holds Tryz.pinned (.plain (OpenSpec.ofChange stateGetsSpec)) stateGetsCard

/-- THE TIED CARD OF 'replevinlaw05.StateChanges'. -/
def stateChangesCard : Claim7 := { stood := { row := stateChangesRow, standIns := [], harness := (true, "5aee5b1258734de8062a5cf093db0ef3bf39f68caa5f91a013d8d67df655905f"), looks := true }, kinds := [], alts := [], goes := true, laidByText := true, laidKinds := [.data, .data, .data, .sentinel, .sentinel], laidTests := true, laidLooks := .later }
def StateChangesCardSaid : Prop := Claim7.holds Tryz.pinned (.plain (OpenSpec.ofChange stateChangesSpec)) stateChangesCard

/-- THE TIED CARD OF 'replevinlaw05.StateDiffs'. -/
def stateDiffsCard : Claim7 := { stood := { row := stateDiffsRow, standIns := [], harness := (true, "5aee5b1258734de8062a5cf093db0ef3bf39f68caa5f91a013d8d67df655905f"), looks := true }, kinds := [], alts := [], goes := true, laidByText := true, laidKinds := [.data, .data, .data, .sentinel, .sentinel], laidTests := true, laidLooks := .later }
def StateDiffsCardSaid : Prop := Claim7.holds Tryz.pinned (.plain (OpenSpec.ofChange stateDiffsSpec)) stateDiffsCard

/-- THE TIED CARD OF 'replevinlaw05.StateApplies'. -/
def stateAppliesCard : Claim7 := { stood := { row := stateAppliesRow, standIns := [], harness := (true, "5aee5b1258734de8062a5cf093db0ef3bf39f68caa5f91a013d8d67df655905f"), looks := true }, kinds := [], alts := [], goes := true, laidByText := true, laidKinds := [.data, .data, .data, .sentinel, .sentinel], laidTests := true, laidLooks := .later }
def StateAppliesCardSaid : Prop := Claim7.holds Tryz.pinned (.plain (OpenSpec.ofChange stateAppliesSpec)) stateAppliesCard

/-- THE TIED CARD OF 'replevinlaw05.StateEquals'. -/
def stateEqualsCard : Claim7 := { stood := { row := stateEqualsRow, standIns := [], harness := (true, "5aee5b1258734de8062a5cf093db0ef3bf39f68caa5f91a013d8d67df655905f"), looks := true }, kinds := [], alts := [], goes := true, laidByText := true, laidKinds := [.data, .data, .data, .sentinel, .sentinel], laidTests := true, laidLooks := .later }
def StateEqualsCardSaid : Prop := Claim7.holds Tryz.pinned (.plain (OpenSpec.ofChange stateEqualsSpec)) stateEqualsCard

/-- THE TIED CARD OF 'replevinlaw05.StateOrder'. -/
def stateOrderCard : Claim7 := { stood := { row := stateOrderRow, standIns := [], harness := (true, "5aee5b1258734de8062a5cf093db0ef3bf39f68caa5f91a013d8d67df655905f"), looks := true }, kinds := [], alts := [], goes := true, laidByText := true, laidKinds := [.data, .data, .data, .sentinel, .sentinel], laidTests := true, laidLooks := .later }
def StateOrderCardSaid : Prop := Claim7.holds Tryz.pinned (.plain (OpenSpec.ofChange stateOrderSpec)) stateOrderCard

/-- THE TIED CARD OF 'replevinlaw05.StateNil'. -/
def stateNilCard : Claim7 := { stood := { row := stateNilRow, standIns := [], harness := (true, "5aee5b1258734de8062a5cf093db0ef3bf39f68caa5f91a013d8d67df655905f"), looks := true }, kinds := [], alts := [], goes := true, laidByText := true, laidKinds := [.data, .data, .data, .data, .sentinel, .sentinel], laidTests := true, laidLooks := .later }
def StateNilCardSaid : Prop := Claim7.holds Tryz.pinned (.plain (OpenSpec.ofChange stateNilSpec)) stateNilCard

/-- THE TIED CARD OF 'replevinlaw05.StateLimits'. -/
def stateLimitsCard : Claim7 := { stood := { row := stateLimitsRow, standIns := [], harness := (true, "5aee5b1258734de8062a5cf093db0ef3bf39f68caa5f91a013d8d67df655905f"), looks := true }, kinds := [], alts := [], goes := true, laidByText := true, laidKinds := [.data, .data, .data, .sentinel, .sentinel], laidTests := true, laidLooks := .later }
def StateLimitsCardSaid : Prop := Claim7.holds Tryz.pinned (.plain (OpenSpec.ofChange stateLimitsSpec)) stateLimitsCard

/-- THE TIED CARD OF 'replevinlaw05.StateDecodes'. -/
def stateDecodesCard : Claim7 := { stood := { row := stateDecodesRow, standIns := [], harness := (true, "5aee5b1258734de8062a5cf093db0ef3bf39f68caa5f91a013d8d67df655905f"), looks := true }, kinds := [], alts := [], goes := true, laidByText := true, laidKinds := [.data, .data, .data, .sentinel, .sentinel], laidTests := true, laidLooks := .later }
def StateDecodesCardSaid : Prop := Claim7.holds Tryz.pinned (.plain (OpenSpec.ofChange stateDecodesSpec)) stateDecodesCard

/-- THE TIED CARD OF 'replevinlaw05.StateEncodes'. -/
def stateEncodesCard : Claim7 := { stood := { row := stateEncodesRow, standIns := [], harness := (true, "5aee5b1258734de8062a5cf093db0ef3bf39f68caa5f91a013d8d67df655905f"), looks := true }, kinds := [], alts := [], goes := true, laidByText := true, laidKinds := [.data, .data, .data, .data, .sentinel, .sentinel], laidTests := true, laidLooks := .later }
def StateEncodesCardSaid : Prop := Claim7.holds Tryz.pinned (.plain (OpenSpec.ofChange stateEncodesSpec)) stateEncodesCard

/-- THE SECOND FORM's CARD OF 'replevinlaw05.StateGets'. -/
def stateGetsUptoCard : Claim7 := { stood := { row := stateGetsUptoRow, standIns := [], harness := (true, "5aee5b1258734de8062a5cf093db0ef3bf39f68caa5f91a013d8d67df655905f"), looks := true }, kinds := [], alts := [], goes := true, laidByText := true, laidKinds := [.data, .data, .data, .sentinel, .sentinel], laidTests := true, laidLooks := .later }
def StateGetsUptoCardSaid : Prop := Claim7.holds Tryz.pinned (.plain (OpenSpec.upto stateGetsSpec)) stateGetsUptoCard

/-- THE SECOND FORM's CARD OF 'replevinlaw05.StateChanges'. -/
def stateChangesUptoCard : Claim7 := { stood := { row := stateChangesUptoRow, standIns := [], harness := (true, "5aee5b1258734de8062a5cf093db0ef3bf39f68caa5f91a013d8d67df655905f"), looks := true }, kinds := [], alts := [], goes := true, laidByText := true, laidKinds := [.data, .data, .data, .sentinel, .sentinel], laidTests := true, laidLooks := .later }
def StateChangesUptoCardSaid : Prop := Claim7.holds Tryz.pinned (.plain (OpenSpec.upto stateChangesSpec)) stateChangesUptoCard

/-- THE SECOND FORM's CARD OF 'replevinlaw05.StateDiffs'. -/
def stateDiffsUptoCard : Claim7 := { stood := { row := stateDiffsUptoRow, standIns := [], harness := (true, "5aee5b1258734de8062a5cf093db0ef3bf39f68caa5f91a013d8d67df655905f"), looks := true }, kinds := [], alts := [], goes := true, laidByText := true, laidKinds := [.data, .data, .data, .sentinel, .sentinel], laidTests := true, laidLooks := .later }
def StateDiffsUptoCardSaid : Prop := Claim7.holds Tryz.pinned (.plain (OpenSpec.upto stateDiffsSpec)) stateDiffsUptoCard

/-- THE SECOND FORM's CARD OF 'replevinlaw05.StateApplies'. -/
def stateAppliesUptoCard : Claim7 := { stood := { row := stateAppliesUptoRow, standIns := [], harness := (true, "5aee5b1258734de8062a5cf093db0ef3bf39f68caa5f91a013d8d67df655905f"), looks := true }, kinds := [], alts := [], goes := true, laidByText := true, laidKinds := [.data, .data, .data, .sentinel, .sentinel], laidTests := true, laidLooks := .later }
def StateAppliesUptoCardSaid : Prop := Claim7.holds Tryz.pinned (.plain (OpenSpec.upto stateAppliesSpec)) stateAppliesUptoCard

/-- THE SECOND FORM's CARD OF 'replevinlaw05.StateEquals'. -/
def stateEqualsUptoCard : Claim7 := { stood := { row := stateEqualsUptoRow, standIns := [], harness := (true, "5aee5b1258734de8062a5cf093db0ef3bf39f68caa5f91a013d8d67df655905f"), looks := true }, kinds := [], alts := [], goes := true, laidByText := true, laidKinds := [.data, .data, .data, .sentinel, .sentinel], laidTests := true, laidLooks := .later }
def StateEqualsUptoCardSaid : Prop := Claim7.holds Tryz.pinned (.plain (OpenSpec.upto stateEqualsSpec)) stateEqualsUptoCard

/-- THE SECOND FORM's CARD OF 'replevinlaw05.StateNil'. -/
def stateNilUptoCard : Claim7 := { stood := { row := stateNilUptoRow, standIns := [], harness := (true, "5aee5b1258734de8062a5cf093db0ef3bf39f68caa5f91a013d8d67df655905f"), looks := true }, kinds := [], alts := [], goes := true, laidByText := true, laidKinds := [.data, .data, .data, .data, .sentinel, .sentinel], laidTests := true, laidLooks := .later }
def StateNilUptoCardSaid : Prop := Claim7.holds Tryz.pinned (.plain (OpenSpec.upto stateNilSpec)) stateNilUptoCard

/-- THE SECOND FORM's CARD OF 'replevinlaw05.StateDecodes'. -/
def stateDecodesUptoCard : Claim7 := { stood := { row := stateDecodesUptoRow, standIns := [], harness := (true, "5aee5b1258734de8062a5cf093db0ef3bf39f68caa5f91a013d8d67df655905f"), looks := true }, kinds := [], alts := [], goes := true, laidByText := true, laidKinds := [.data, .data, .data, .sentinel, .sentinel], laidTests := true, laidLooks := .later }
def StateDecodesUptoCardSaid : Prop := Claim7.holds Tryz.pinned (.plain (OpenSpec.upto stateDecodesSpec)) stateDecodesUptoCard

/-- THE SECOND FORM's CARD OF 'replevinlaw05.StateEncodes'. -/
def stateEncodesUptoCard : Claim7 := { stood := { row := stateEncodesUptoRow, standIns := [], harness := (true, "5aee5b1258734de8062a5cf093db0ef3bf39f68caa5f91a013d8d67df655905f"), looks := true }, kinds := [], alts := [], goes := true, laidByText := true, laidKinds := [.data, .data, .data, .data, .sentinel, .sentinel], laidTests := true, laidLooks := .later }
def StateEncodesUptoCardSaid : Prop := Claim7.holds Tryz.pinned (.plain (OpenSpec.upto stateEncodesSpec)) stateEncodesUptoCard
end Rows
end Go.Proofs.YtnbgfalhmnbefaaGreatDoor
