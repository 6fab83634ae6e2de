/-
  NARROWER THAN 'FOR EVERY INPUT', by the rows' own cells (each row's printed sentence says how): ReviveImages: laid · ReviveTwice: laid · ReviveChecks: laid.
  DERIVED. THE GIVEN ROWS OF THIS SEAT. 3 by the template 'for every input the law returns true; each argument reads behind the call as it read before'; 0 by the template 'total and deterministic' (their statements: YtfldjbojonbmpaaDoorTotals.lean).
  GIVEN WITH THE SEED: the statements are not yours to turn. If you find one false, say at which input.
  Laid BY PROGRAM, IN A SANDBOX (cutbox-rows.mjs): the forced cells as the released guide's own fill.sh prints them over the translation 9eae1bd03caa7820… (all of the seat's roots in one cut). By AI agents, Wed Nov 11 2026. No macro, syntax, notation, axiom, sorry.
-/
import Derived.Test.YtfldjbojonbmpaaDoorChecked
import GoSem.Claim
import GoSem.ClaimJoined
import GoSem.ClaimMapViews
import Derived.JoinedTies
import Derived.KernelRfl
namespace Go.Proofs.YtfldjbojonbmpaaDoor
/- THE CELL 'sum', in the pinned program and in every row, IS THE sha256 OF THE DUMP (.gsa) THAT YtfldjbojonbmpaaDoorProg.lean LOADS. Nothing in Lean hashes anything: it is a label: what it is worth is what the hold of that sum in a sandbox is worth. -/
noncomputable def Tryd.pinned : Pinned := { name := "ytfldjbojonbmpaadoor", sum := "9eae1bd03caa782095423c91e632a8c1477123fbb157a25f04756f489b6a30f7", checked := Tryd.checked }
namespace Rows
def none {H : Type} : Left H := { results := [], args := [] }

/- WHAT THE LISTED PACKAGE-LEVEL VARIABLES READ AS WHEN THE CALL BEGINS. Each datum BY PROGRAM (the guide's laid-datum.mjs) off the statement by which the dump's own 'gosem.cut.vars' lays the variable. In a bare row this is a premise. The card (YtfldjbojonbmpaaDoorCards.lean) ties it to the program's text. -/
def laid_simulcast_layout_sizes {H : Type} : DataW H := .agg [.lit (.int .i64 8), .lit (.int .i64 8), .lit (.int .i64 8), .lit (.int .i64 1), .lit (.int .i64 104), .lit (.int .i64 0), .lit (.int .i64 32)]

/-- 'simulcastlaw56.ReviveImages': WHATEVER THE INPUT: true; the input reads as it did. -/
def reviveImagesSpec : ChangeSpec := { name := "reviveImages", fn := fun _ => fun
  | [d] => { results := [.lit (.bool true)], args := [d] }
  | _ => none }
def reviveImagesRow : OpenClaim := { program := "ytfldjbojonbmpaadoor", sum := "9eae1bd03caa782095423c91e632a8c1477123fbb157a25f04756f489b6a30f7", func := "simulcast/simulcastlaw56.ReviveImages", spec := "reviveImages", unfollowed := true, recurses := true, named := ["simulcast/layout.sizes"], apart := false, laid := [("simulcast/layout.sizes", laid_simulcast_layout_sizes)] }
def ReviveImagesSaid : Prop := reviveImagesRow.holds Tryd.pinned (OpenSpec.ofChange reviveImagesSpec)

/-- ITS FALSE NEIGHBOUR: 'it returns false'. Refute it at one input. -/
def reviveImagesWrong : ChangeSpec := { name := "reviveImages", fn := fun _ => fun
  | [d] => { results := [.lit (.bool false)], args := [d] }
  | _ => none }
def ReviveImagesWrongFalsely : Prop := reviveImagesRow.holds Tryd.pinned (OpenSpec.ofChange reviveImagesWrong)

/-- 'simulcastlaw56.ReviveTwice': WHATEVER THE INPUT: true; the input reads as it did. -/
def reviveTwiceSpec : ChangeSpec := { name := "reviveTwice", fn := fun _ => fun
  | [d] => { results := [.lit (.bool true)], args := [d] }
  | _ => none }
def reviveTwiceRow : OpenClaim := { program := "ytfldjbojonbmpaadoor", sum := "9eae1bd03caa782095423c91e632a8c1477123fbb157a25f04756f489b6a30f7", func := "simulcast/simulcastlaw56.ReviveTwice", spec := "reviveTwice", unfollowed := true, recurses := true, named := ["simulcast/layout.sizes"], apart := false, laid := [("simulcast/layout.sizes", laid_simulcast_layout_sizes)] }
def ReviveTwiceSaid : Prop := reviveTwiceRow.holds Tryd.pinned (OpenSpec.ofChange reviveTwiceSpec)

/-- ITS FALSE NEIGHBOUR: 'it returns false'. Refute it at one input. -/
def reviveTwiceWrong : ChangeSpec := { name := "reviveTwice", fn := fun _ => fun
  | [d] => { results := [.lit (.bool false)], args := [d] }
  | _ => none }
def ReviveTwiceWrongFalsely : Prop := reviveTwiceRow.holds Tryd.pinned (OpenSpec.ofChange reviveTwiceWrong)

/-- 'simulcastlaw56.ReviveChecks': WHATEVER THE INPUT: true; the input reads as it did. -/
def reviveChecksSpec : ChangeSpec := { name := "reviveChecks", fn := fun _ => fun
  | [d] => { results := [.lit (.bool true)], args := [d] }
  | _ => none }
def reviveChecksRow : OpenClaim := { program := "ytfldjbojonbmpaadoor", sum := "9eae1bd03caa782095423c91e632a8c1477123fbb157a25f04756f489b6a30f7", func := "simulcast/simulcastlaw56.ReviveChecks", spec := "reviveChecks", unfollowed := true, recurses := true, named := ["simulcast/layout.sizes"], apart := false, laid := [("simulcast/layout.sizes", laid_simulcast_layout_sizes)] }
def ReviveChecksSaid : Prop := reviveChecksRow.holds Tryd.pinned (OpenSpec.ofChange reviveChecksSpec)

/-- ITS FALSE NEIGHBOUR: 'it returns false'. Refute it at one input. -/
def reviveChecksWrong : ChangeSpec := { name := "reviveChecks", fn := fun _ => fun
  | [d] => { results := [.lit (.bool false)], args := [d] }
  | _ => none }
def ReviveChecksWrongFalsely : Prop := reviveChecksRow.holds Tryd.pinned (OpenSpec.ofChange reviveChecksWrong)

/- THE SECOND FORM. 'bulk': how many values and letters a reading holds, each counted each time it is reached (what is shared counts as often as it is met; a slice's spare places count too). A statement '..UptoSaid' is the law's where the arguments, and the package variables that the reading takes, are together of bulk at most 1048576: NARROWER than '..Said'. Prove '..Said' where nothing that the law and all that it calls make is longer than what came in: it says more and counts as full. Else prove '..UptoSaid'. A law counts once. -/
mutual
def uptoBulk {H : Type} : DataW H → Nat
  | .lit (.string bytes) => bytes.length + 1
  | .lit _ => 1
  | .nil => 1
  | .ptr d => uptoBulk d + 1
  | .slice elems spare => uptoBulkAll elems + uptoBulkAll spare + 1
  | .agg parts => uptoBulkAll parts + 1
  | .iface _ d => uptoBulk d + 1
  | .map entries => uptoBulkEntries entries + 1
  | .held _ => 1
def uptoBulkAll {H : Type} : List (DataW H) → Nat
  | [] => 0
  | d :: r => uptoBulk d + uptoBulkAll r
def uptoBulkEntries {H : Type} : List (Lit × DataW H) → Nat
  | [] => 0
  | x :: r => uptoBulkEntry x + uptoBulkEntries r
def uptoBulkEntry {H : Type} : Lit × DataW H → Nat
  | (.string bytes, d) => bytes.length + uptoBulk d + 1
  | (_, d) => uptoBulk d + 1
 end
def uptoSmall : (H : Type) → List (DataW H) → Bool := fun _ ds => decide (uptoBulkAll ds ≤ 1048576)
def OpenSpec.upto (s : _root_.Go.ChangeSpec) : _root_.Go.OpenSpec := { _root_.Go.OpenSpec.ofChange s with cond := some uptoSmall }

/-- 'simulcastlaw56.ReviveImages', WHERE WHAT IT READS IS OF BULK AT MOST 1048576: true; the input reads as it did. -/
def reviveImagesUptoRow : OpenClaim := { program := "ytfldjbojonbmpaadoor", sum := "9eae1bd03caa782095423c91e632a8c1477123fbb157a25f04756f489b6a30f7", func := "simulcast/simulcastlaw56.ReviveImages", spec := "reviveImages", unfollowed := true, recurses := true, named := ["simulcast/layout.sizes"], apart := false, laid := [("simulcast/layout.sizes", laid_simulcast_layout_sizes)], narrowed := true }
def ReviveImagesUptoSaid : Prop := reviveImagesUptoRow.holds Tryd.pinned (OpenSpec.upto reviveImagesSpec)

/-- 'simulcastlaw56.ReviveTwice', WHERE WHAT IT READS IS OF BULK AT MOST 1048576: true; the input reads as it did. -/
def reviveTwiceUptoRow : OpenClaim := { program := "ytfldjbojonbmpaadoor", sum := "9eae1bd03caa782095423c91e632a8c1477123fbb157a25f04756f489b6a30f7", func := "simulcast/simulcastlaw56.ReviveTwice", spec := "reviveTwice", unfollowed := true, recurses := true, named := ["simulcast/layout.sizes"], apart := false, laid := [("simulcast/layout.sizes", laid_simulcast_layout_sizes)], narrowed := true }
def ReviveTwiceUptoSaid : Prop := reviveTwiceUptoRow.holds Tryd.pinned (OpenSpec.upto reviveTwiceSpec)

/-- 'simulcastlaw56.ReviveChecks', WHERE WHAT IT READS IS OF BULK AT MOST 1048576: true; the input reads as it did. -/
def reviveChecksUptoRow : OpenClaim := { program := "ytfldjbojonbmpaadoor", sum := "9eae1bd03caa782095423c91e632a8c1477123fbb157a25f04756f489b6a30f7", func := "simulcast/simulcastlaw56.ReviveChecks", spec := "reviveChecks", unfollowed := true, recurses := true, named := ["simulcast/layout.sizes"], apart := false, laid := [("simulcast/layout.sizes", laid_simulcast_layout_sizes)], narrowed := true }
def ReviveChecksUptoSaid : Prop := reviveChecksUptoRow.holds Tryd.pinned (OpenSpec.upto reviveChecksSpec)

end Rows
end Go.Proofs.YtfldjbojonbmpaaDoor
