/-
  DERIVED. GIVEN WITH THE SEED: THE CARDS: each row of YtiadmbhafplepaaDoorRows.lean that lists a variable, with what it lists TIED to the program's text (the seventh form; the later family's looks); each row that meets fmt, with fmt's text TOLD by the authors' own Lean function (tested against real Go, not proved from fmt's source: count such statements apart). THE CARD IS WHAT COUNTS. Prove the row's statement (the work); the ties are given (YtiadmbhafplepaaDoorTie.lean); close each card by the builder's one call (the guide's Derived/Test/ToyasCard.lean, 'card_holds'). Laid BY PROGRAM, IN A SANDBOX (cutbox-door.mjs). By AI agents, Wed Nov 11 2026. No macro, syntax, notation, axiom, sorry.
-/
import Derived.Test.YtiadmbhafplepaaDoorRows
import GoSem.ClaimSeven
namespace Go.Proofs.YtiadmbhafplepaaDoor
namespace Rows

/-- THE TIED CARD OF 'retrogradelaw18.CondPrints'. -/
def condPrintsCard : Claim7 := { stood := { row := condPrintsRow, standIns := [], harness := (true, "134c0f750e027f902d163d88f2398f3d52a7e72d93038a4868883f668488c58a"), looks := true }, kinds := [], alts := [], laidByText := true, laidKinds := [.data, .data, .data, .sentinel, .sentinel], laidTests := true, laidLooks := .later }
def CondPrintsCardSaid : Prop := Claim7.holds Tryd.pinned (.plain (OpenSpec.ofChange condPrintsSpec)) condPrintsCard

/-- THE TIED CARD OF 'retrogradelaw18.CondBack'. -/
def condBackCard : Claim7 := { stood := { row := condBackRow, standIns := [], harness := (true, "134c0f750e027f902d163d88f2398f3d52a7e72d93038a4868883f668488c58a"), looks := true }, kinds := [], alts := [], laidByText := true, laidKinds := [.data, .data, .data, .sentinel, .sentinel], laidTests := true, laidLooks := .later }
def CondBackCardSaid : Prop := Claim7.holds Tryd.pinned (.plain (OpenSpec.ofChange condBackSpec)) condBackCard

/-- THE TIED CARD OF 'retrogradelaw18.CondAgain'. -/
def condAgainCard : Claim7 := { stood := { row := condAgainRow, standIns := [], harness := (true, "134c0f750e027f902d163d88f2398f3d52a7e72d93038a4868883f668488c58a"), looks := true }, kinds := [], alts := [], laidByText := true, laidKinds := [.data, .data, .data, .sentinel, .sentinel], laidTests := true, laidLooks := .later }
def CondAgainCardSaid : Prop := Claim7.holds Tryd.pinned (.plain (OpenSpec.ofChange condAgainSpec)) condAgainCard

/-- THE TIED CARD OF 'retrogradelaw18.CondSpaces'. -/
def condSpacesCard : Claim7 := { stood := { row := condSpacesRow, standIns := [], harness := (true, "134c0f750e027f902d163d88f2398f3d52a7e72d93038a4868883f668488c58a"), looks := true }, kinds := [], alts := [], laidByText := true, laidKinds := [.data, .data, .data, .sentinel, .sentinel], laidTests := true, laidLooks := .later }
def CondSpacesCardSaid : Prop := Claim7.holds Tryd.pinned (.plain (OpenSpec.ofChange condSpacesSpec)) condSpacesCard

/-- THE TIED CARD OF 'retrogradelaw18.CondPlaces'. -/
def condPlacesCard : Claim7 := { stood := { row := condPlacesRow, standIns := [], harness := (true, "134c0f750e027f902d163d88f2398f3d52a7e72d93038a4868883f668488c58a"), looks := true }, kinds := [], alts := [], laidByText := true, laidKinds := [.data, .data, .data, .sentinel, .sentinel], laidTests := true, laidLooks := .later }
def CondPlacesCardSaid : Prop := Claim7.holds Tryd.pinned (.plain (OpenSpec.ofChange condPlacesSpec)) condPlacesCard

/-- THE TIED CARD OF 'retrogradelaw18.CondNames'. -/
def condNamesCard : Claim7 := { stood := { row := condNamesRow, standIns := [], harness := (true, "134c0f750e027f902d163d88f2398f3d52a7e72d93038a4868883f668488c58a"), looks := true }, kinds := [], alts := [], laidByText := true, laidKinds := [.data, .data, .data, .sentinel, .sentinel], laidTests := true, laidLooks := .later }
def CondNamesCardSaid : Prop := Claim7.holds Tryd.pinned (.plain (OpenSpec.ofChange condNamesSpec)) condNamesCard

/-- THE SECOND FORM's CARD OF 'retrogradelaw18.CondPrints'. -/
def condPrintsUptoCard : Claim7 := { stood := { row := condPrintsUptoRow, standIns := [], harness := (true, "134c0f750e027f902d163d88f2398f3d52a7e72d93038a4868883f668488c58a"), looks := true }, kinds := [], alts := [], laidByText := true, laidKinds := [.data, .data, .data, .sentinel, .sentinel], laidTests := true, laidLooks := .later }
def CondPrintsUptoCardSaid : Prop := Claim7.holds Tryd.pinned (.plain (OpenSpec.upto condPrintsSpec)) condPrintsUptoCard

/-- THE SECOND FORM's CARD OF 'retrogradelaw18.CondBack'. -/
def condBackUptoCard : Claim7 := { stood := { row := condBackUptoRow, standIns := [], harness := (true, "134c0f750e027f902d163d88f2398f3d52a7e72d93038a4868883f668488c58a"), looks := true }, kinds := [], alts := [], laidByText := true, laidKinds := [.data, .data, .data, .sentinel, .sentinel], laidTests := true, laidLooks := .later }
def CondBackUptoCardSaid : Prop := Claim7.holds Tryd.pinned (.plain (OpenSpec.upto condBackSpec)) condBackUptoCard

/-- THE SECOND FORM's CARD OF 'retrogradelaw18.CondAgain'. -/
def condAgainUptoCard : Claim7 := { stood := { row := condAgainUptoRow, standIns := [], harness := (true, "134c0f750e027f902d163d88f2398f3d52a7e72d93038a4868883f668488c58a"), looks := true }, kinds := [], alts := [], laidByText := true, laidKinds := [.data, .data, .data, .sentinel, .sentinel], laidTests := true, laidLooks := .later }
def CondAgainUptoCardSaid : Prop := Claim7.holds Tryd.pinned (.plain (OpenSpec.upto condAgainSpec)) condAgainUptoCard

/-- THE SECOND FORM's CARD OF 'retrogradelaw18.CondSpaces'. -/
def condSpacesUptoCard : Claim7 := { stood := { row := condSpacesUptoRow, standIns := [], harness := (true, "134c0f750e027f902d163d88f2398f3d52a7e72d93038a4868883f668488c58a"), looks := true }, kinds := [], alts := [], laidByText := true, laidKinds := [.data, .data, .data, .sentinel, .sentinel], laidTests := true, laidLooks := .later }
def CondSpacesUptoCardSaid : Prop := Claim7.holds Tryd.pinned (.plain (OpenSpec.upto condSpacesSpec)) condSpacesUptoCard

/-- THE SECOND FORM's CARD OF 'retrogradelaw18.CondPlaces'. -/
def condPlacesUptoCard : Claim7 := { stood := { row := condPlacesUptoRow, standIns := [], harness := (true, "134c0f750e027f902d163d88f2398f3d52a7e72d93038a4868883f668488c58a"), looks := true }, kinds := [], alts := [], laidByText := true, laidKinds := [.data, .data, .data, .sentinel, .sentinel], laidTests := true, laidLooks := .later }
def CondPlacesUptoCardSaid : Prop := Claim7.holds Tryd.pinned (.plain (OpenSpec.upto condPlacesSpec)) condPlacesUptoCard

/-- THE SECOND FORM's CARD OF 'retrogradelaw18.CondNames'. -/
def condNamesUptoCard : Claim7 := { stood := { row := condNamesUptoRow, standIns := [], harness := (true, "134c0f750e027f902d163d88f2398f3d52a7e72d93038a4868883f668488c58a"), looks := true }, kinds := [], alts := [], laidByText := true, laidKinds := [.data, .data, .data, .sentinel, .sentinel], laidTests := true, laidLooks := .later }
def CondNamesUptoCardSaid : Prop := Claim7.holds Tryd.pinned (.plain (OpenSpec.upto condNamesSpec)) condNamesUptoCard
end Rows
end Go.Proofs.YtiadmbhafplepaaDoor
