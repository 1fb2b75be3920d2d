/-
  DERIVED. GIVEN WITH THE SEED: THE CARDS: each row of YtfgecaphhdedcaaGreatDoorRows.lean that lists a variable, with what it lists TIED to the program's text (the seventh form; the later family's looks); each row that meets fmt, with fmt's text TOLD by the authors' own Lean function (tested against real Go, not proved from fmt's source: count such statements apart). THE CARD IS WHAT COUNTS. Prove the row's statement (the work); the ties are given (YtfgecaphhdedcaaGreatDoorTie.lean); close each card by the builder's one call (the guide's Derived/Test/ToyasCard.lean, 'card_holds'). Laid BY PROGRAM, IN A SANDBOX (cutbox-door.mjs). By AI agents, Wed Nov 11 2026. No macro, syntax, notation, axiom, sorry.
-/
import Derived.Test.YtfgecaphhdedcaaGreatDoorRows
import GoSem.ClaimSeven
namespace Go.Proofs.YtfgecaphhdedcaaGreatDoor
namespace Rows

/-- THE TIED CARD OF 'replevinlaw34.LockDecodes'. -/
def lockDecodesCard : Claim7 := { stood := { row := lockDecodesRow, standIns := [], harness := (true, "2d37b029e6c7353b1cda92238ca55b6421f8c145bf9cc60eab6f24b0c76d715d"), looks := true }, kinds := [], alts := [], laidByText := true, laidKinds := [.data, .data, .data, .sentinel, .sentinel], laidTests := true, laidLooks := .later }
def LockDecodesCardSaid : Prop := Claim7.holds Tryz.pinned (.plain (OpenSpec.ofChange lockDecodesSpec)) lockDecodesCard

/-- THE TIED CARD OF 'replevinlaw34.LockExcludes'. -/
def lockExcludesCard : Claim7 := { stood := { row := lockExcludesRow, standIns := [], harness := (true, "2d37b029e6c7353b1cda92238ca55b6421f8c145bf9cc60eab6f24b0c76d715d"), looks := true }, kinds := [], alts := [], laidByText := true, laidKinds := [.data, .data, .data, .sentinel, .sentinel], laidTests := true, laidLooks := .later }
def LockExcludesCardSaid : Prop := Claim7.holds Tryz.pinned (.plain (OpenSpec.ofChange lockExcludesSpec)) lockExcludesCard

/-- THE TIED CARD OF 'replevinlaw34.LockShares'. -/
def lockSharesCard : Claim7 := { stood := { row := lockSharesRow, standIns := [], harness := (true, "2d37b029e6c7353b1cda92238ca55b6421f8c145bf9cc60eab6f24b0c76d715d"), looks := true }, kinds := [], alts := [], laidByText := true, laidKinds := [.data, .data, .data, .sentinel, .sentinel], laidTests := true, laidLooks := .later }
def LockSharesCardSaid : Prop := Claim7.holds Tryz.pinned (.plain (OpenSpec.ofChange lockSharesSpec)) lockSharesCard

/-- THE TIED CARD OF 'replevinlaw34.LockChecks'. -/
def lockChecksCard : Claim7 := { stood := { row := lockChecksRow, standIns := [], harness := (true, "2d37b029e6c7353b1cda92238ca55b6421f8c145bf9cc60eab6f24b0c76d715d"), looks := true }, kinds := [], alts := [], laidByText := true, laidKinds := [.data, .data, .data, .sentinel, .sentinel], laidTests := true, laidLooks := .later }
def LockChecksCardSaid : Prop := Claim7.holds Tryz.pinned (.plain (OpenSpec.ofChange lockChecksSpec)) lockChecksCard

/-- THE TIED CARD OF 'replevinlaw34.LockEquals'. -/
def lockEqualsCard : Claim7 := { stood := { row := lockEqualsRow, standIns := [], harness := (true, "2d37b029e6c7353b1cda92238ca55b6421f8c145bf9cc60eab6f24b0c76d715d"), looks := true }, kinds := [], alts := [], laidByText := true, laidKinds := [.data, .data, .data, .sentinel, .sentinel], laidTests := true, laidLooks := .later }
def LockEqualsCardSaid : Prop := Claim7.holds Tryz.pinned (.plain (OpenSpec.ofChange lockEqualsSpec)) lockEqualsCard

/-- THE TIED CARD OF 'replevinlaw34.LockErrors'. -/
def lockErrorsCard : Claim7 := { stood := { row := lockErrorsRow, standIns := [], harness := (true, "2d37b029e6c7353b1cda92238ca55b6421f8c145bf9cc60eab6f24b0c76d715d"), looks := true }, kinds := [], alts := [], laidByText := true, laidKinds := [.data, .data, .data, .sentinel, .sentinel], laidTests := true, laidLooks := .later }
def LockErrorsCardSaid : Prop := Claim7.holds Tryz.pinned (.plain (OpenSpec.ofChange lockErrorsSpec)) lockErrorsCard

/-- THE SECOND FORM's CARD OF 'replevinlaw34.LockDecodes'. -/
def lockDecodesUptoCard : Claim7 := { stood := { row := lockDecodesUptoRow, standIns := [], harness := (true, "2d37b029e6c7353b1cda92238ca55b6421f8c145bf9cc60eab6f24b0c76d715d"), looks := true }, kinds := [], alts := [], laidByText := true, laidKinds := [.data, .data, .data, .sentinel, .sentinel], laidTests := true, laidLooks := .later }
def LockDecodesUptoCardSaid : Prop := Claim7.holds Tryz.pinned (.plain (OpenSpec.upto lockDecodesSpec)) lockDecodesUptoCard

/-- THE SECOND FORM's CARD OF 'replevinlaw34.LockExcludes'. -/
def lockExcludesUptoCard : Claim7 := { stood := { row := lockExcludesUptoRow, standIns := [], harness := (true, "2d37b029e6c7353b1cda92238ca55b6421f8c145bf9cc60eab6f24b0c76d715d"), looks := true }, kinds := [], alts := [], laidByText := true, laidKinds := [.data, .data, .data, .sentinel, .sentinel], laidTests := true, laidLooks := .later }
def LockExcludesUptoCardSaid : Prop := Claim7.holds Tryz.pinned (.plain (OpenSpec.upto lockExcludesSpec)) lockExcludesUptoCard

/-- THE SECOND FORM's CARD OF 'replevinlaw34.LockShares'. -/
def lockSharesUptoCard : Claim7 := { stood := { row := lockSharesUptoRow, standIns := [], harness := (true, "2d37b029e6c7353b1cda92238ca55b6421f8c145bf9cc60eab6f24b0c76d715d"), looks := true }, kinds := [], alts := [], laidByText := true, laidKinds := [.data, .data, .data, .sentinel, .sentinel], laidTests := true, laidLooks := .later }
def LockSharesUptoCardSaid : Prop := Claim7.holds Tryz.pinned (.plain (OpenSpec.upto lockSharesSpec)) lockSharesUptoCard

/-- THE SECOND FORM's CARD OF 'replevinlaw34.LockChecks'. -/
def lockChecksUptoCard : Claim7 := { stood := { row := lockChecksUptoRow, standIns := [], harness := (true, "2d37b029e6c7353b1cda92238ca55b6421f8c145bf9cc60eab6f24b0c76d715d"), looks := true }, kinds := [], alts := [], laidByText := true, laidKinds := [.data, .data, .data, .sentinel, .sentinel], laidTests := true, laidLooks := .later }
def LockChecksUptoCardSaid : Prop := Claim7.holds Tryz.pinned (.plain (OpenSpec.upto lockChecksSpec)) lockChecksUptoCard

/-- THE SECOND FORM's CARD OF 'replevinlaw34.LockEquals'. -/
def lockEqualsUptoCard : Claim7 := { stood := { row := lockEqualsUptoRow, standIns := [], harness := (true, "2d37b029e6c7353b1cda92238ca55b6421f8c145bf9cc60eab6f24b0c76d715d"), looks := true }, kinds := [], alts := [], laidByText := true, laidKinds := [.data, .data, .data, .sentinel, .sentinel], laidTests := true, laidLooks := .later }
def LockEqualsUptoCardSaid : Prop := Claim7.holds Tryz.pinned (.plain (OpenSpec.upto lockEqualsSpec)) lockEqualsUptoCard

/-- THE SECOND FORM's CARD OF 'replevinlaw34.LockErrors'. -/
def lockErrorsUptoCard : Claim7 := { stood := { row := lockErrorsUptoRow, standIns := [], harness := (true, "2d37b029e6c7353b1cda92238ca55b6421f8c145bf9cc60eab6f24b0c76d715d"), looks := true }, kinds := [], alts := [], laidByText := true, laidKinds := [.data, .data, .data, .sentinel, .sentinel], laidTests := true, laidLooks := .later }
def LockErrorsUptoCardSaid : Prop := Claim7.holds Tryz.pinned (.plain (OpenSpec.upto lockErrorsSpec)) lockErrorsUptoCard
end Rows
end Go.Proofs.YtfgecaphhdedcaaGreatDoor
