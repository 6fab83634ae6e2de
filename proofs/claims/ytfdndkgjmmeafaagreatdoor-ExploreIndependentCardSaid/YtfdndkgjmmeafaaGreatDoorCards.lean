/-
  DERIVED. GIVEN WITH THE SEED: THE CARDS: each row of YtfdndkgjmmeafaaGreatDoorRows.lean that lists a variable, with what it lists TIED to the program's text (the seventh form; the later family's looks); each row that meets fmt, with fmt's text TOLD by the authors' own Lean function (tested against real Go, not proved from fmt's source: count such statements apart). THE CARD IS WHAT COUNTS. Prove the row's statement (the work); the ties are given (YtfdndkgjmmeafaaGreatDoorTie.lean); close each card by the builder's one call (the guide's Derived/Test/ToyasCard.lean, 'card_holds'). Laid BY PROGRAM, IN A SANDBOX (cutbox-door.mjs). By AI agents, Wed Nov 11 2026. No macro, syntax, notation, axiom, sorry.
-/
import Derived.Test.YtfdndkgjmmeafaaGreatDoorRows
import GoSem.ClaimSeven
namespace Go.Proofs.YtfdndkgjmmeafaaGreatDoor
namespace Rows

/-- THE TIED CARD OF 'simulcastlaw59.ExploreIndependent'. -/
def exploreIndependentCard : Claim7 := { stood := { row := exploreIndependentRow, standIns := [], harness := (true, "935e19893e3488b6892053f7cd6bdf457f3f5bcc313c02844ebc198cc410bf02"), looks := true }, kinds := [], alts := [], laidByText := true, laidKinds := [.data, .data, .data], laidTests := true, laidLooks := .later }
def ExploreIndependentCardSaid : Prop := Claim7.holds Tryz.pinned (.plain (OpenSpec.ofChange exploreIndependentSpec)) exploreIndependentCard

/-- THE SECOND FORM's CARD OF 'simulcastlaw59.ExploreIndependent'. -/
def exploreIndependentUptoCard : Claim7 := { stood := { row := exploreIndependentUptoRow, standIns := [], harness := (true, "935e19893e3488b6892053f7cd6bdf457f3f5bcc313c02844ebc198cc410bf02"), looks := true }, kinds := [], alts := [], laidByText := true, laidKinds := [.data, .data, .data], laidTests := true, laidLooks := .later }
def ExploreIndependentUptoCardSaid : Prop := Claim7.holds Tryz.pinned (.plain (OpenSpec.upto exploreIndependentSpec)) exploreIndependentUptoCard
end Rows
end Go.Proofs.YtfdndkgjmmeafaaGreatDoor
