/-
  DERIVED. GIVEN WITH THE SEED: THE CARDS: each row of YtbomhhkknopdpaaGreatDoorRows.lean that lists a variable, with what it lists TIED to the program's text (the seventh form; the later family's looks); each row that meets fmt, with fmt's text TOLD by the authors' own Lean function (tested against real Go, not proved from fmt's source: count such statements apart). THE CARD IS WHAT COUNTS. Prove the row's statement (the work); the ties are given (YtbomhhkknopdpaaGreatDoorTie.lean); close each card by the builder's one call (the guide's Derived/Test/ToyasCard.lean, 'card_holds'). Laid BY PROGRAM, IN A SANDBOX (cutbox-door.mjs). By AI agents, Wed Nov 11 2026. No macro, syntax, notation, axiom, sorry.
-/
import Derived.Test.YtbomhhkknopdpaaGreatDoorRows
import GoSem.ClaimSeven
namespace Go.Proofs.YtbomhhkknopdpaaGreatDoor
namespace Rows

/-- THE TIED CARD OF 'simulcastlaw56.ReviveAgain'. -/
def reviveAgainCard : Claim7 := { stood := { row := reviveAgainRow, standIns := [], harness := (true, "54f621651541af3e80d5f369a24aef31011539e8524e878825aaa778820b7514"), looks := true }, kinds := [], alts := [], laidByText := true, laidKinds := [.data], laidTests := true, laidLooks := .later }
def ReviveAgainCardSaid : Prop := Claim7.holds Tryz.pinned (.plain (OpenSpec.ofChange reviveAgainSpec)) reviveAgainCard

/-- THE TIED CARD OF 'simulcastlaw56.ReviveNone'. -/
def reviveNoneCard : Claim7 := { stood := { row := reviveNoneRow, standIns := [], harness := (true, "54f621651541af3e80d5f369a24aef31011539e8524e878825aaa778820b7514"), looks := true }, kinds := [], alts := [], laidByText := true, laidKinds := [.data], laidTests := true, laidLooks := .later }
def ReviveNoneCardSaid : Prop := Claim7.holds Tryz.pinned (.plain (OpenSpec.ofChange reviveNoneSpec)) reviveNoneCard

/-- THE SECOND FORM's CARD OF 'simulcastlaw56.ReviveAgain'. -/
def reviveAgainUptoCard : Claim7 := { stood := { row := reviveAgainUptoRow, standIns := [], harness := (true, "54f621651541af3e80d5f369a24aef31011539e8524e878825aaa778820b7514"), looks := true }, kinds := [], alts := [], laidByText := true, laidKinds := [.data], laidTests := true, laidLooks := .later }
def ReviveAgainUptoCardSaid : Prop := Claim7.holds Tryz.pinned (.plain (OpenSpec.upto reviveAgainSpec)) reviveAgainUptoCard

/-- THE SECOND FORM's CARD OF 'simulcastlaw56.ReviveNone'. -/
def reviveNoneUptoCard : Claim7 := { stood := { row := reviveNoneUptoRow, standIns := [], harness := (true, "54f621651541af3e80d5f369a24aef31011539e8524e878825aaa778820b7514"), looks := true }, kinds := [], alts := [], laidByText := true, laidKinds := [.data], laidTests := true, laidLooks := .later }
def ReviveNoneUptoCardSaid : Prop := Claim7.holds Tryz.pinned (.plain (OpenSpec.upto reviveNoneSpec)) reviveNoneUptoCard
end Rows
end Go.Proofs.YtbomhhkknopdpaaGreatDoor
