/-
  DERIVED. GIVEN WITH THE SEED: THE CARDS: each row of YtnnmenmifphadaaGreatDoorRows.lean that lists a variable, with what it lists TIED to the program's text (the seventh form; the later family's looks); each row that meets fmt, with fmt's text TOLD by the authors' own Lean function (tested against real Go, not proved from fmt's source: count such statements apart). THE CARD IS WHAT COUNTS. Prove the row's statement (the work); the ties are given (YtnnmenmifphadaaGreatDoorTie.lean); close each card by the builder's one call (the guide's Derived/Test/ToyasCard.lean, 'card_holds'). Laid BY PROGRAM, IN A SANDBOX (cutbox-door.mjs). By AI agents, Wed Nov 11 2026. No macro, syntax, notation, axiom, sorry.
-/
import Derived.Test.YtnnmenmifphadaaGreatDoorRows
import GoSem.ClaimSeven
namespace Go.Proofs.YtnnmenmifphadaaGreatDoor
namespace Rows

/-- THE TIED CARD OF 'simulcastlaw59.ExploreAll'. -/
def exploreAllCard : Claim7 := { stood := { row := exploreAllRow, standIns := [], harness := (true, "b43d0e47f694bffe10d360146b5e89f4b67d004f3e6c1b44acf2032f59c9b1e7"), looks := true }, kinds := [], alts := [], laidByText := true, laidKinds := [.data, .data, .data], laidTests := true, laidLooks := .later }
def ExploreAllCardSaid : Prop := Claim7.holds Tryz.pinned (.plain (OpenSpec.ofChange exploreAllSpec)) exploreAllCard

/-- THE TIED CARD OF 'simulcastlaw59.ExploreOutcomes'. -/
def exploreOutcomesCard : Claim7 := { stood := { row := exploreOutcomesRow, standIns := [], harness := (true, "b43d0e47f694bffe10d360146b5e89f4b67d004f3e6c1b44acf2032f59c9b1e7"), looks := true }, kinds := [], alts := [], laidByText := true, laidKinds := [.data, .data, .data], laidTests := true, laidLooks := .later }
def ExploreOutcomesCardSaid : Prop := Claim7.holds Tryz.pinned (.plain (OpenSpec.ofChange exploreOutcomesSpec)) exploreOutcomesCard

/-- THE TIED CARD OF 'simulcastlaw59.ExploreCommutes'. -/
def exploreCommutesCard : Claim7 := { stood := { row := exploreCommutesRow, standIns := [], harness := (true, "b43d0e47f694bffe10d360146b5e89f4b67d004f3e6c1b44acf2032f59c9b1e7"), looks := true }, kinds := [], alts := [], laidByText := true, laidKinds := [.data, .data, .data], laidTests := true, laidLooks := .later }
def ExploreCommutesCardSaid : Prop := Claim7.holds Tryz.pinned (.plain (OpenSpec.ofChange exploreCommutesSpec)) exploreCommutesCard

/-- THE TIED CARD OF 'simulcastlaw59.ExploreReduced'. -/
def exploreReducedCard : Claim7 := { stood := { row := exploreReducedRow, standIns := [], harness := (true, "b43d0e47f694bffe10d360146b5e89f4b67d004f3e6c1b44acf2032f59c9b1e7"), looks := true }, kinds := [], alts := [], laidByText := true, laidKinds := [.data, .data, .data], laidTests := true, laidLooks := .later }
def ExploreReducedCardSaid : Prop := Claim7.holds Tryz.pinned (.plain (OpenSpec.ofChange exploreReducedSpec)) exploreReducedCard

/-- THE SECOND FORM's CARD OF 'simulcastlaw59.ExploreAll'. -/
def exploreAllUptoCard : Claim7 := { stood := { row := exploreAllUptoRow, standIns := [], harness := (true, "b43d0e47f694bffe10d360146b5e89f4b67d004f3e6c1b44acf2032f59c9b1e7"), looks := true }, kinds := [], alts := [], laidByText := true, laidKinds := [.data, .data, .data], laidTests := true, laidLooks := .later }
def ExploreAllUptoCardSaid : Prop := Claim7.holds Tryz.pinned (.plain (OpenSpec.upto exploreAllSpec)) exploreAllUptoCard

/-- THE SECOND FORM's CARD OF 'simulcastlaw59.ExploreOutcomes'. -/
def exploreOutcomesUptoCard : Claim7 := { stood := { row := exploreOutcomesUptoRow, standIns := [], harness := (true, "b43d0e47f694bffe10d360146b5e89f4b67d004f3e6c1b44acf2032f59c9b1e7"), looks := true }, kinds := [], alts := [], laidByText := true, laidKinds := [.data, .data, .data], laidTests := true, laidLooks := .later }
def ExploreOutcomesUptoCardSaid : Prop := Claim7.holds Tryz.pinned (.plain (OpenSpec.upto exploreOutcomesSpec)) exploreOutcomesUptoCard

/-- THE SECOND FORM's CARD OF 'simulcastlaw59.ExploreCommutes'. -/
def exploreCommutesUptoCard : Claim7 := { stood := { row := exploreCommutesUptoRow, standIns := [], harness := (true, "b43d0e47f694bffe10d360146b5e89f4b67d004f3e6c1b44acf2032f59c9b1e7"), looks := true }, kinds := [], alts := [], laidByText := true, laidKinds := [.data, .data, .data], laidTests := true, laidLooks := .later }
def ExploreCommutesUptoCardSaid : Prop := Claim7.holds Tryz.pinned (.plain (OpenSpec.upto exploreCommutesSpec)) exploreCommutesUptoCard

/-- THE SECOND FORM's CARD OF 'simulcastlaw59.ExploreReduced'. -/
def exploreReducedUptoCard : Claim7 := { stood := { row := exploreReducedUptoRow, standIns := [], harness := (true, "b43d0e47f694bffe10d360146b5e89f4b67d004f3e6c1b44acf2032f59c9b1e7"), looks := true }, kinds := [], alts := [], laidByText := true, laidKinds := [.data, .data, .data], laidTests := true, laidLooks := .later }
def ExploreReducedUptoCardSaid : Prop := Claim7.holds Tryz.pinned (.plain (OpenSpec.upto exploreReducedSpec)) exploreReducedUptoCard
end Rows
end Go.Proofs.YtnnmenmifphadaaGreatDoor
