/-
  DERIVED. GIVEN WITH THE SEED: THE CARDS: each row of YtfdbanhbegngoaaGreatDoorRows.lean that lists a variable, with what it lists TIED to the program's text (the seventh form; the later family's looks); each row that meets fmt, with fmt's text TOLD by the authors' own Lean function (tested against real Go, not proved from fmt's source: count such statements apart). THE CARD IS WHAT COUNTS. Prove the row's statement (the work); the ties are given (YtfdbanhbegngoaaGreatDoorTie.lean); close each card by the builder's one call (the guide's Derived/Test/ToyasCard.lean, 'card_holds'). Laid BY PROGRAM, IN A SANDBOX (cutbox-door.mjs). By AI agents, Wed Nov 11 2026. No macro, syntax, notation, axiom, sorry.
-/
import Derived.Test.YtfdbanhbegngoaaGreatDoorRows
import GoSem.ClaimSeven
namespace Go.Proofs.YtfdbanhbegngoaaGreatDoor
namespace Rows

/-- THE TIED CARD OF 'replevinlaw05.StateDecodes'. -/
def stateDecodesCard : Claim7 := { stood := { row := stateDecodesRow, standIns := [], harness := (true, "5eb2f1d5d28294972b8c4580a3aba07657d8609d78de23e9dbe6e5e473c0a163"), looks := true }, kinds := [], alts := [], goes := true, laidByText := true, laidKinds := [.data, .data, .data, .sentinel, .sentinel], laidTests := true, laidLooks := .later }
def StateDecodesCardSaid : Prop := Claim7.holds Tryz.pinned (.plain (OpenSpec.ofChange stateDecodesSpec)) stateDecodesCard

/-- THE SECOND FORM's CARD OF 'replevinlaw05.StateDecodes'. -/
def stateDecodesUptoCard : Claim7 := { stood := { row := stateDecodesUptoRow, standIns := [], harness := (true, "5eb2f1d5d28294972b8c4580a3aba07657d8609d78de23e9dbe6e5e473c0a163"), looks := true }, kinds := [], alts := [], goes := true, laidByText := true, laidKinds := [.data, .data, .data, .sentinel, .sentinel], laidTests := true, laidLooks := .later }
def StateDecodesUptoCardSaid : Prop := Claim7.holds Tryz.pinned (.plain (OpenSpec.upto stateDecodesSpec)) stateDecodesUptoCard
end Rows
end Go.Proofs.YtfdbanhbegngoaaGreatDoor
