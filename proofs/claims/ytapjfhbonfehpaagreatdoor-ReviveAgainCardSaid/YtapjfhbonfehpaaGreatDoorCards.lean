/-
  DERIVED. GIVEN WITH THE SEED: THE CARDS: each row of YtapjfhbonfehpaaGreatDoorRows.lean that lists a variable, with what it lists TIED to the program's text (the seventh form; the later family's looks); each row that meets fmt, with fmt's text TOLD by the authors' own Lean function (tested against real Go, not proved from fmt's source: count such statements apart). THE CARD IS WHAT COUNTS. Prove the row's statement (the work); the ties are given (YtapjfhbonfehpaaGreatDoorTie.lean); close each card by the builder's one call (the guide's Derived/Test/ToyasCard.lean, 'card_holds'). Laid BY PROGRAM, IN A SANDBOX (cutbox-door.mjs). By AI agents, Wed Nov 11 2026. No macro, syntax, notation, axiom, sorry.
-/
import Derived.Test.YtapjfhbonfehpaaGreatDoorRows
import GoSem.ClaimSeven
namespace Go.Proofs.YtapjfhbonfehpaaGreatDoor
namespace Rows

/-- THE TIED CARD OF 'simulcastlaw56.ReviveAgain'. -/
def reviveAgainCard : Claim7 := { stood := { row := reviveAgainRow, standIns := [], harness := (true, "60bdfd2a0099b2333f4ab362a61f5b618761912eb44d932c3a9d49d3be46ab85"), looks := true }, kinds := [], alts := [], laidByText := true, laidKinds := [.data], laidTests := true, laidLooks := .later }
def ReviveAgainCardSaid : Prop := Claim7.holds Tryz.pinned (.plain (OpenSpec.ofChange reviveAgainSpec)) reviveAgainCard

/-- THE SECOND FORM's CARD OF 'simulcastlaw56.ReviveAgain'. -/
def reviveAgainUptoCard : Claim7 := { stood := { row := reviveAgainUptoRow, standIns := [], harness := (true, "60bdfd2a0099b2333f4ab362a61f5b618761912eb44d932c3a9d49d3be46ab85"), looks := true }, kinds := [], alts := [], laidByText := true, laidKinds := [.data], laidTests := true, laidLooks := .later }
def ReviveAgainUptoCardSaid : Prop := Claim7.holds Tryz.pinned (.plain (OpenSpec.upto reviveAgainSpec)) reviveAgainUptoCard
end Rows
end Go.Proofs.YtapjfhbonfehpaaGreatDoor
