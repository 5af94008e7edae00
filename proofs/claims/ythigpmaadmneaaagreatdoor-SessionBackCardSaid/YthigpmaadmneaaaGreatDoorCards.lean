/-
  DERIVED. GIVEN WITH THE SEED: THE CARDS: each row of YthigpmaadmneaaaGreatDoorRows.lean that lists a variable, with what it lists TIED to the program's text (the seventh form; the later family's looks); each row that meets fmt, with fmt's text TOLD by the authors' own Lean function (tested against real Go, not proved from fmt's source: count such statements apart). THE CARD IS WHAT COUNTS. Prove the row's statement (the work); the ties are given (YthigpmaadmneaaaGreatDoorTie.lean); close each card by the builder's one call (the guide's Derived/Test/ToyasCard.lean, 'card_holds'). Laid BY PROGRAM, IN A SANDBOX (cutbox-door.mjs). By AI agents, Wed Nov 11 2026. No macro, syntax, notation, axiom, sorry.
-/
import Derived.Test.YthigpmaadmneaaaGreatDoorRows
import GoSem.ClaimSeven
namespace Go.Proofs.YthigpmaadmneaaaGreatDoor
namespace Rows

/-- THE TIED CARD OF 'retrogradelaw24.SessionBack'. -/
def sessionBackCard : Claim7 := { stood := { row := sessionBackRow, standIns := [], harness := (true, "0d0cac8a51b39400506539994057f259f5f5203897a656fed5bce265777460ba"), looks := true }, kinds := [], alts := [], laidByText := true, laidKinds := [.data, .data, .data, .sentinel, .sentinel], laidTests := true, laidLooks := .later }
def SessionBackCardSaid : Prop := Claim7.holds Tryz.pinned (.plain (OpenSpec.ofChange sessionBackSpec)) sessionBackCard

/-- THE SECOND FORM's CARD OF 'retrogradelaw24.SessionBack'. -/
def sessionBackUptoCard : Claim7 := { stood := { row := sessionBackUptoRow, standIns := [], harness := (true, "0d0cac8a51b39400506539994057f259f5f5203897a656fed5bce265777460ba"), looks := true }, kinds := [], alts := [], laidByText := true, laidKinds := [.data, .data, .data, .sentinel, .sentinel], laidTests := true, laidLooks := .later }
def SessionBackUptoCardSaid : Prop := Claim7.holds Tryz.pinned (.plain (OpenSpec.upto sessionBackSpec)) sessionBackUptoCard
end Rows
end Go.Proofs.YthigpmaadmneaaaGreatDoor
