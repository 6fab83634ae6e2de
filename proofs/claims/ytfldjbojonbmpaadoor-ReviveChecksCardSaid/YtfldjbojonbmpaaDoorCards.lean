/-
  DERIVED. GIVEN WITH THE SEED: THE CARDS: each row of YtfldjbojonbmpaaDoorRows.lean that lists a variable, with what it lists TIED to the program's text (the seventh form; the later family's looks); each row that meets fmt, with fmt's text TOLD by the authors' own Lean function (tested against real Go, not proved from fmt's source: count such statements apart). THE CARD IS WHAT COUNTS. Prove the row's statement (the work); the ties are given (YtfldjbojonbmpaaDoorTie.lean); close each card by the builder's one call (the guide's Derived/Test/ToyasCard.lean, 'card_holds'). Laid BY PROGRAM, IN A SANDBOX (cutbox-door.mjs). By AI agents, Wed Nov 11 2026. No macro, syntax, notation, axiom, sorry.
-/
import Derived.Test.YtfldjbojonbmpaaDoorRows
import GoSem.ClaimSeven
namespace Go.Proofs.YtfldjbojonbmpaaDoor
namespace Rows

/-- THE TIED CARD OF 'simulcastlaw56.ReviveImages'. -/
def reviveImagesCard : Claim7 := { stood := { row := reviveImagesRow, standIns := [], harness := (true, "d4fea17b69cca74270ab1761c5b26e3f5323458209582e883129df2d0bf24a4d"), looks := false }, kinds := [], alts := [], laidByText := true, laidKinds := [.data], laidTests := true, laidLooks := .later }
def ReviveImagesCardSaid : Prop := Claim7.holds Tryd.pinned (.plain (OpenSpec.ofChange reviveImagesSpec)) reviveImagesCard

/-- THE TIED CARD OF 'simulcastlaw56.ReviveTwice'. -/
def reviveTwiceCard : Claim7 := { stood := { row := reviveTwiceRow, standIns := [], harness := (true, "d4fea17b69cca74270ab1761c5b26e3f5323458209582e883129df2d0bf24a4d"), looks := false }, kinds := [], alts := [], laidByText := true, laidKinds := [.data], laidTests := true, laidLooks := .later }
def ReviveTwiceCardSaid : Prop := Claim7.holds Tryd.pinned (.plain (OpenSpec.ofChange reviveTwiceSpec)) reviveTwiceCard

/-- THE TIED CARD OF 'simulcastlaw56.ReviveChecks'. -/
def reviveChecksCard : Claim7 := { stood := { row := reviveChecksRow, standIns := [], harness := (true, "d4fea17b69cca74270ab1761c5b26e3f5323458209582e883129df2d0bf24a4d"), looks := false }, kinds := [], alts := [], laidByText := true, laidKinds := [.data], laidTests := true, laidLooks := .later }
def ReviveChecksCardSaid : Prop := Claim7.holds Tryd.pinned (.plain (OpenSpec.ofChange reviveChecksSpec)) reviveChecksCard

/-- THE SECOND FORM's CARD OF 'simulcastlaw56.ReviveImages'. -/
def reviveImagesUptoCard : Claim7 := { stood := { row := reviveImagesUptoRow, standIns := [], harness := (true, "d4fea17b69cca74270ab1761c5b26e3f5323458209582e883129df2d0bf24a4d"), looks := false }, kinds := [], alts := [], laidByText := true, laidKinds := [.data], laidTests := true, laidLooks := .later }
def ReviveImagesUptoCardSaid : Prop := Claim7.holds Tryd.pinned (.plain (OpenSpec.upto reviveImagesSpec)) reviveImagesUptoCard

/-- THE SECOND FORM's CARD OF 'simulcastlaw56.ReviveTwice'. -/
def reviveTwiceUptoCard : Claim7 := { stood := { row := reviveTwiceUptoRow, standIns := [], harness := (true, "d4fea17b69cca74270ab1761c5b26e3f5323458209582e883129df2d0bf24a4d"), looks := false }, kinds := [], alts := [], laidByText := true, laidKinds := [.data], laidTests := true, laidLooks := .later }
def ReviveTwiceUptoCardSaid : Prop := Claim7.holds Tryd.pinned (.plain (OpenSpec.upto reviveTwiceSpec)) reviveTwiceUptoCard

/-- THE SECOND FORM's CARD OF 'simulcastlaw56.ReviveChecks'. -/
def reviveChecksUptoCard : Claim7 := { stood := { row := reviveChecksUptoRow, standIns := [], harness := (true, "d4fea17b69cca74270ab1761c5b26e3f5323458209582e883129df2d0bf24a4d"), looks := false }, kinds := [], alts := [], laidByText := true, laidKinds := [.data], laidTests := true, laidLooks := .later }
def ReviveChecksUptoCardSaid : Prop := Claim7.holds Tryd.pinned (.plain (OpenSpec.upto reviveChecksSpec)) reviveChecksUptoCard
end Rows
end Go.Proofs.YtfldjbojonbmpaaDoor
