/-
  No cell of these rows narrows 'for every input' (looked for: loops, veiled, ifaces, maps, wideKeys, modest, calm, conditions, laid).
  DERIVED. THE GIVEN ROWS OF THIS SEAT. 12 by the template 'for every input the law returns true; each argument reads behind the call as it read before'; 0 by the template 'total and deterministic' (their statements: YtmpbaanlagmacaaTotals.lean).
  GIVEN WITH THE SEED: the statements are not yours to turn. If you find one false, say at which input.
  Laid BY PROGRAM, IN A SANDBOX (cutbox-rows.mjs): the forced cells as the released guide's own fill.sh prints them over the translation c9244a2a6abd9aed… (all of the seat's roots in one cut). By AI agents, Wed Nov 11 2026. No macro, syntax, notation, axiom, sorry.
-/
import Derived.Test.YtmpbaanlagmacaaChecked
import GoSem.Claim
import GoSem.ClaimJoined
import GoSem.ClaimMapViews
import Derived.JoinedTies
import Derived.KernelRfl
namespace Go.Proofs.Ytmpbaanlagmacaa
/- THE CELL 'sum', in the pinned program and in every row, IS THE sha256 OF THE DUMP (.gsa) THAT YtmpbaanlagmacaaProg.lean LOADS. Nothing in Lean hashes anything: it is a label: what it is worth is what the hold of that sum in a sandbox is worth. -/
noncomputable def Try.pinned : Pinned := { name := "ytmpbaanlagmacaa", sum := "c9244a2a6abd9aedf619d058d3e2c47635547839ca7267795396a708379f6d96", checked := Try.checked }
namespace Rows
def none {H : Type} : Left H := { results := [], args := [] }

/-- 'simulcastlaw61.ProgressCounts': WHATEVER THE INPUT: true; the input reads as it did. -/
def progressCountsSpec : ChangeSpec := { name := "progressCounts", fn := fun _ => fun
  | [d1, d2] => { results := [.lit (.bool true)], args := [d1, d2] }
  | _ => none }
def progressCountsRow : OpenClaim := { program := "ytmpbaanlagmacaa", sum := "c9244a2a6abd9aedf619d058d3e2c47635547839ca7267795396a708379f6d96", func := "simulcast/simulcastlaw61.ProgressCounts", spec := "progressCounts", apart := false }
def ProgressCountsSaid : Prop := progressCountsRow.holds Try.pinned (OpenSpec.ofChange progressCountsSpec)

/-- ITS FALSE NEIGHBOUR: 'it returns false'. Refute it at one input. -/
def progressCountsWrong : ChangeSpec := { name := "progressCounts", fn := fun _ => fun
  | [d1, d2] => { results := [.lit (.bool false)], args := [d1, d2] }
  | _ => none }
def ProgressCountsWrongFalsely : Prop := progressCountsRow.holds Try.pinned (OpenSpec.ofChange progressCountsWrong)

/-- 'simulcastlaw61.ProgressBounds': WHATEVER THE INPUT: true; the input reads as it did. -/
def progressBoundsSpec : ChangeSpec := { name := "progressBounds", fn := fun _ => fun
  | [d1, d2] => { results := [.lit (.bool true)], args := [d1, d2] }
  | _ => none }
def progressBoundsRow : OpenClaim := { program := "ytmpbaanlagmacaa", sum := "c9244a2a6abd9aedf619d058d3e2c47635547839ca7267795396a708379f6d96", func := "simulcast/simulcastlaw61.ProgressBounds", spec := "progressBounds", apart := false }
def ProgressBoundsSaid : Prop := progressBoundsRow.holds Try.pinned (OpenSpec.ofChange progressBoundsSpec)

/-- ITS FALSE NEIGHBOUR: 'it returns false'. Refute it at one input. -/
def progressBoundsWrong : ChangeSpec := { name := "progressBounds", fn := fun _ => fun
  | [d1, d2] => { results := [.lit (.bool false)], args := [d1, d2] }
  | _ => none }
def ProgressBoundsWrongFalsely : Prop := progressBoundsRow.holds Try.pinned (OpenSpec.ofChange progressBoundsWrong)

/-- 'simulcastlaw61.ProgressSums': WHATEVER THE INPUT: true; the input reads as it did. -/
def progressSumsSpec : ChangeSpec := { name := "progressSums", fn := fun _ => fun
  | [d] => { results := [.lit (.bool true)], args := [d] }
  | _ => none }
def progressSumsRow : OpenClaim := { program := "ytmpbaanlagmacaa", sum := "c9244a2a6abd9aedf619d058d3e2c47635547839ca7267795396a708379f6d96", func := "simulcast/simulcastlaw61.ProgressSums", spec := "progressSums", apart := false }
def ProgressSumsSaid : Prop := progressSumsRow.holds Try.pinned (OpenSpec.ofChange progressSumsSpec)

/-- ITS FALSE NEIGHBOUR: 'it returns false'. Refute it at one input. -/
def progressSumsWrong : ChangeSpec := { name := "progressSums", fn := fun _ => fun
  | [d] => { results := [.lit (.bool false)], args := [d] }
  | _ => none }
def ProgressSumsWrongFalsely : Prop := progressSumsRow.holds Try.pinned (OpenSpec.ofChange progressSumsWrong)

/-- 'simulcastlaw52.AdviseNotes': WHATEVER THE INPUT: true; the input reads as it did. -/
def adviseNotesSpec : ChangeSpec := { name := "adviseNotes", fn := fun _ => fun
  | [d1, d2, d3] => { results := [.lit (.bool true)], args := [d1, d2, d3] }
  | _ => none }
def adviseNotesRow : OpenClaim := { program := "ytmpbaanlagmacaa", sum := "c9244a2a6abd9aedf619d058d3e2c47635547839ca7267795396a708379f6d96", func := "simulcast/simulcastlaw52.AdviseNotes", spec := "adviseNotes", inPlace := ["maps.clone"], apart := false }
def AdviseNotesSaid : Prop := adviseNotesRow.holds Try.pinned (OpenSpec.ofChange adviseNotesSpec)

/-- ITS FALSE NEIGHBOUR: 'it returns false'. Refute it at one input. -/
def adviseNotesWrong : ChangeSpec := { name := "adviseNotes", fn := fun _ => fun
  | [d1, d2, d3] => { results := [.lit (.bool false)], args := [d1, d2, d3] }
  | _ => none }
def AdviseNotesWrongFalsely : Prop := adviseNotesRow.holds Try.pinned (OpenSpec.ofChange adviseNotesWrong)

/-- 'simulcastlaw52.AdviseStays': WHATEVER THE INPUT: true; the input reads as it did. -/
def adviseStaysSpec : ChangeSpec := { name := "adviseStays", fn := fun _ => fun
  | [d1, d2, d3] => { results := [.lit (.bool true)], args := [d1, d2, d3] }
  | _ => none }
def adviseStaysRow : OpenClaim := { program := "ytmpbaanlagmacaa", sum := "c9244a2a6abd9aedf619d058d3e2c47635547839ca7267795396a708379f6d96", func := "simulcast/simulcastlaw52.AdviseStays", spec := "adviseStays", inPlace := ["maps.clone"], apart := false }
def AdviseStaysSaid : Prop := adviseStaysRow.holds Try.pinned (OpenSpec.ofChange adviseStaysSpec)

/-- ITS FALSE NEIGHBOUR: 'it returns false'. Refute it at one input. -/
def adviseStaysWrong : ChangeSpec := { name := "adviseStays", fn := fun _ => fun
  | [d1, d2, d3] => { results := [.lit (.bool false)], args := [d1, d2, d3] }
  | _ => none }
def AdviseStaysWrongFalsely : Prop := adviseStaysRow.holds Try.pinned (OpenSpec.ofChange adviseStaysWrong)

/-- 'simulcastlaw52.AdviseCommutes': WHATEVER THE INPUT: true; the input reads as it did. -/
def adviseCommutesSpec : ChangeSpec := { name := "adviseCommutes", fn := fun _ => fun
  | [d1, d2, d3] => { results := [.lit (.bool true)], args := [d1, d2, d3] }
  | _ => none }
def adviseCommutesRow : OpenClaim := { program := "ytmpbaanlagmacaa", sum := "c9244a2a6abd9aedf619d058d3e2c47635547839ca7267795396a708379f6d96", func := "simulcast/simulcastlaw52.AdviseCommutes", spec := "adviseCommutes", inPlace := ["maps.clone"], apart := false }
def AdviseCommutesSaid : Prop := adviseCommutesRow.holds Try.pinned (OpenSpec.ofChange adviseCommutesSpec)

/-- ITS FALSE NEIGHBOUR: 'it returns false'. Refute it at one input. -/
def adviseCommutesWrong : ChangeSpec := { name := "adviseCommutes", fn := fun _ => fun
  | [d1, d2, d3] => { results := [.lit (.bool false)], args := [d1, d2, d3] }
  | _ => none }
def AdviseCommutesWrongFalsely : Prop := adviseCommutesRow.holds Try.pinned (OpenSpec.ofChange adviseCommutesWrong)

/-- 'simulcastlaw60.ShrinkLeast': WHATEVER THE INPUT: true; the input reads as it did. -/
def shrinkLeastSpec : ChangeSpec := { name := "shrinkLeast", fn := fun _ => fun
  | [d1, d2] => { results := [.lit (.bool true)], args := [d1, d2] }
  | _ => none }
def shrinkLeastRow : OpenClaim := { program := "ytmpbaanlagmacaa", sum := "c9244a2a6abd9aedf619d058d3e2c47635547839ca7267795396a708379f6d96", func := "simulcast/simulcastlaw60.ShrinkLeast", spec := "shrinkLeast", unfollowed := true, recurses := true, apart := false }
def ShrinkLeastSaid : Prop := shrinkLeastRow.holds Try.pinned (OpenSpec.ofChange shrinkLeastSpec)

/-- ITS FALSE NEIGHBOUR: 'it returns false'. Refute it at one input. -/
def shrinkLeastWrong : ChangeSpec := { name := "shrinkLeast", fn := fun _ => fun
  | [d1, d2] => { results := [.lit (.bool false)], args := [d1, d2] }
  | _ => none }
def ShrinkLeastWrongFalsely : Prop := shrinkLeastRow.holds Try.pinned (OpenSpec.ofChange shrinkLeastWrong)

/-- 'simulcastlaw60.ShrinkMinimal': WHATEVER THE INPUT: true; the input reads as it did. -/
def shrinkMinimalSpec : ChangeSpec := { name := "shrinkMinimal", fn := fun _ => fun
  | [d1, d2] => { results := [.lit (.bool true)], args := [d1, d2] }
  | _ => none }
def shrinkMinimalRow : OpenClaim := { program := "ytmpbaanlagmacaa", sum := "c9244a2a6abd9aedf619d058d3e2c47635547839ca7267795396a708379f6d96", func := "simulcast/simulcastlaw60.ShrinkMinimal", spec := "shrinkMinimal", unfollowed := true, recurses := true, apart := false }
def ShrinkMinimalSaid : Prop := shrinkMinimalRow.holds Try.pinned (OpenSpec.ofChange shrinkMinimalSpec)

/-- ITS FALSE NEIGHBOUR: 'it returns false'. Refute it at one input. -/
def shrinkMinimalWrong : ChangeSpec := { name := "shrinkMinimal", fn := fun _ => fun
  | [d1, d2] => { results := [.lit (.bool false)], args := [d1, d2] }
  | _ => none }
def ShrinkMinimalWrongFalsely : Prop := shrinkMinimalRow.holds Try.pinned (OpenSpec.ofChange shrinkMinimalWrong)

/-- 'simulcastlaw60.ShrinkParts': WHATEVER THE INPUT: true; the input reads as it did. -/
def shrinkPartsSpec : ChangeSpec := { name := "shrinkParts", fn := fun _ => fun
  | [d1, d2] => { results := [.lit (.bool true)], args := [d1, d2] }
  | _ => none }
def shrinkPartsRow : OpenClaim := { program := "ytmpbaanlagmacaa", sum := "c9244a2a6abd9aedf619d058d3e2c47635547839ca7267795396a708379f6d96", func := "simulcast/simulcastlaw60.ShrinkParts", spec := "shrinkParts", unfollowed := true, recurses := true, apart := false }
def ShrinkPartsSaid : Prop := shrinkPartsRow.holds Try.pinned (OpenSpec.ofChange shrinkPartsSpec)

/-- ITS FALSE NEIGHBOUR: 'it returns false'. Refute it at one input. -/
def shrinkPartsWrong : ChangeSpec := { name := "shrinkParts", fn := fun _ => fun
  | [d1, d2] => { results := [.lit (.bool false)], args := [d1, d2] }
  | _ => none }
def ShrinkPartsWrongFalsely : Prop := shrinkPartsRow.holds Try.pinned (OpenSpec.ofChange shrinkPartsWrong)

/-- 'simulcastlaw60.ShrinkWords': WHATEVER THE INPUT: true; the input reads as it did. -/
def shrinkWordsSpec : ChangeSpec := { name := "shrinkWords", fn := fun _ => fun
  | [d1, d2, d3] => { results := [.lit (.bool true)], args := [d1, d2, d3] }
  | _ => none }
def shrinkWordsRow : OpenClaim := { program := "ytmpbaanlagmacaa", sum := "c9244a2a6abd9aedf619d058d3e2c47635547839ca7267795396a708379f6d96", func := "simulcast/simulcastlaw60.ShrinkWords", spec := "shrinkWords", unfollowed := true, recurses := true, apart := false }
def ShrinkWordsSaid : Prop := shrinkWordsRow.holds Try.pinned (OpenSpec.ofChange shrinkWordsSpec)

/-- ITS FALSE NEIGHBOUR: 'it returns false'. Refute it at one input. -/
def shrinkWordsWrong : ChangeSpec := { name := "shrinkWords", fn := fun _ => fun
  | [d1, d2, d3] => { results := [.lit (.bool false)], args := [d1, d2, d3] }
  | _ => none }
def ShrinkWordsWrongFalsely : Prop := shrinkWordsRow.holds Try.pinned (OpenSpec.ofChange shrinkWordsWrong)

/-- 'simulcastlaw60.ShrinkRude': WHATEVER THE INPUT: true; the input reads as it did. -/
def shrinkRudeSpec : ChangeSpec := { name := "shrinkRude", fn := fun _ => fun
  | [d1, d2] => { results := [.lit (.bool true)], args := [d1, d2] }
  | _ => none }
def shrinkRudeRow : OpenClaim := { program := "ytmpbaanlagmacaa", sum := "c9244a2a6abd9aedf619d058d3e2c47635547839ca7267795396a708379f6d96", func := "simulcast/simulcastlaw60.ShrinkRude", spec := "shrinkRude", unfollowed := true, recurses := true, apart := false }
def ShrinkRudeSaid : Prop := shrinkRudeRow.holds Try.pinned (OpenSpec.ofChange shrinkRudeSpec)

/-- ITS FALSE NEIGHBOUR: 'it returns false'. Refute it at one input. -/
def shrinkRudeWrong : ChangeSpec := { name := "shrinkRude", fn := fun _ => fun
  | [d1, d2] => { results := [.lit (.bool false)], args := [d1, d2] }
  | _ => none }
def ShrinkRudeWrongFalsely : Prop := shrinkRudeRow.holds Try.pinned (OpenSpec.ofChange shrinkRudeWrong)

/-- 'simulcastlaw60.ShrinkMonotone': WHATEVER THE INPUT: true; the input reads as it did. -/
def shrinkMonotoneSpec : ChangeSpec := { name := "shrinkMonotone", fn := fun _ => fun
  | [d1, d2] => { results := [.lit (.bool true)], args := [d1, d2] }
  | _ => none }
def shrinkMonotoneRow : OpenClaim := { program := "ytmpbaanlagmacaa", sum := "c9244a2a6abd9aedf619d058d3e2c47635547839ca7267795396a708379f6d96", func := "simulcast/simulcastlaw60.ShrinkMonotone", spec := "shrinkMonotone", unfollowed := true, recurses := true, apart := false }
def ShrinkMonotoneSaid : Prop := shrinkMonotoneRow.holds Try.pinned (OpenSpec.ofChange shrinkMonotoneSpec)

/-- ITS FALSE NEIGHBOUR: 'it returns false'. Refute it at one input. -/
def shrinkMonotoneWrong : ChangeSpec := { name := "shrinkMonotone", fn := fun _ => fun
  | [d1, d2] => { results := [.lit (.bool false)], args := [d1, d2] }
  | _ => none }
def ShrinkMonotoneWrongFalsely : Prop := shrinkMonotoneRow.holds Try.pinned (OpenSpec.ofChange shrinkMonotoneWrong)

/- THE SECOND FORM. 'bulk': how many values and letters a reading holds, each counted each time it is reached (what is shared counts as often as it is met; a slice's spare places count too). A statement '..UptoSaid' is the law's where the arguments, and the package variables that the reading takes, are together of bulk at most 1048576: NARROWER than '..Said'. Prove '..Said' where nothing that the law and all that it calls make is longer than what came in: it says more and counts as full. Else prove '..UptoSaid'. A law counts once. -/
mutual
def uptoBulk {H : Type} : DataW H → Nat
  | .lit (.string bytes) => bytes.length + 1
  | .lit _ => 1
  | .nil => 1
  | .ptr d => uptoBulk d + 1
  | .slice elems spare => uptoBulkAll elems + uptoBulkAll spare + 1
  | .agg parts => uptoBulkAll parts + 1
  | .iface _ d => uptoBulk d + 1
  | .map entries => uptoBulkEntries entries + 1
  | .held _ => 1
def uptoBulkAll {H : Type} : List (DataW H) → Nat
  | [] => 0
  | d :: r => uptoBulk d + uptoBulkAll r
def uptoBulkEntries {H : Type} : List (Lit × DataW H) → Nat
  | [] => 0
  | x :: r => uptoBulkEntry x + uptoBulkEntries r
def uptoBulkEntry {H : Type} : Lit × DataW H → Nat
  | (.string bytes, d) => bytes.length + uptoBulk d + 1
  | (_, d) => uptoBulk d + 1
 end
def uptoSmall : (H : Type) → List (DataW H) → Bool := fun _ ds => decide (uptoBulkAll ds ≤ 1048576)
def OpenSpec.upto (s : _root_.Go.ChangeSpec) : _root_.Go.OpenSpec := { _root_.Go.OpenSpec.ofChange s with cond := some uptoSmall }

/-- 'simulcastlaw61.ProgressCounts', WHERE WHAT IT READS IS OF BULK AT MOST 1048576: true; the input reads as it did. -/
def progressCountsUptoRow : OpenClaim := { program := "ytmpbaanlagmacaa", sum := "c9244a2a6abd9aedf619d058d3e2c47635547839ca7267795396a708379f6d96", func := "simulcast/simulcastlaw61.ProgressCounts", spec := "progressCounts", apart := false, narrowed := true }
def ProgressCountsUptoSaid : Prop := progressCountsUptoRow.holds Try.pinned (OpenSpec.upto progressCountsSpec)

/-- 'simulcastlaw61.ProgressBounds', WHERE WHAT IT READS IS OF BULK AT MOST 1048576: true; the input reads as it did. -/
def progressBoundsUptoRow : OpenClaim := { program := "ytmpbaanlagmacaa", sum := "c9244a2a6abd9aedf619d058d3e2c47635547839ca7267795396a708379f6d96", func := "simulcast/simulcastlaw61.ProgressBounds", spec := "progressBounds", apart := false, narrowed := true }
def ProgressBoundsUptoSaid : Prop := progressBoundsUptoRow.holds Try.pinned (OpenSpec.upto progressBoundsSpec)

/-- 'simulcastlaw61.ProgressSums', WHERE WHAT IT READS IS OF BULK AT MOST 1048576: true; the input reads as it did. -/
def progressSumsUptoRow : OpenClaim := { program := "ytmpbaanlagmacaa", sum := "c9244a2a6abd9aedf619d058d3e2c47635547839ca7267795396a708379f6d96", func := "simulcast/simulcastlaw61.ProgressSums", spec := "progressSums", apart := false, narrowed := true }
def ProgressSumsUptoSaid : Prop := progressSumsUptoRow.holds Try.pinned (OpenSpec.upto progressSumsSpec)

/-- 'simulcastlaw52.AdviseNotes', WHERE WHAT IT READS IS OF BULK AT MOST 1048576: true; the input reads as it did. -/
def adviseNotesUptoRow : OpenClaim := { program := "ytmpbaanlagmacaa", sum := "c9244a2a6abd9aedf619d058d3e2c47635547839ca7267795396a708379f6d96", func := "simulcast/simulcastlaw52.AdviseNotes", spec := "adviseNotes", inPlace := ["maps.clone"], apart := false, narrowed := true }
def AdviseNotesUptoSaid : Prop := adviseNotesUptoRow.holds Try.pinned (OpenSpec.upto adviseNotesSpec)

/-- 'simulcastlaw52.AdviseStays', WHERE WHAT IT READS IS OF BULK AT MOST 1048576: true; the input reads as it did. -/
def adviseStaysUptoRow : OpenClaim := { program := "ytmpbaanlagmacaa", sum := "c9244a2a6abd9aedf619d058d3e2c47635547839ca7267795396a708379f6d96", func := "simulcast/simulcastlaw52.AdviseStays", spec := "adviseStays", inPlace := ["maps.clone"], apart := false, narrowed := true }
def AdviseStaysUptoSaid : Prop := adviseStaysUptoRow.holds Try.pinned (OpenSpec.upto adviseStaysSpec)

/-- 'simulcastlaw52.AdviseCommutes', WHERE WHAT IT READS IS OF BULK AT MOST 1048576: true; the input reads as it did. -/
def adviseCommutesUptoRow : OpenClaim := { program := "ytmpbaanlagmacaa", sum := "c9244a2a6abd9aedf619d058d3e2c47635547839ca7267795396a708379f6d96", func := "simulcast/simulcastlaw52.AdviseCommutes", spec := "adviseCommutes", inPlace := ["maps.clone"], apart := false, narrowed := true }
def AdviseCommutesUptoSaid : Prop := adviseCommutesUptoRow.holds Try.pinned (OpenSpec.upto adviseCommutesSpec)

/-- 'simulcastlaw60.ShrinkLeast', WHERE WHAT IT READS IS OF BULK AT MOST 1048576: true; the input reads as it did. -/
def shrinkLeastUptoRow : OpenClaim := { program := "ytmpbaanlagmacaa", sum := "c9244a2a6abd9aedf619d058d3e2c47635547839ca7267795396a708379f6d96", func := "simulcast/simulcastlaw60.ShrinkLeast", spec := "shrinkLeast", unfollowed := true, recurses := true, apart := false, narrowed := true }
def ShrinkLeastUptoSaid : Prop := shrinkLeastUptoRow.holds Try.pinned (OpenSpec.upto shrinkLeastSpec)

/-- 'simulcastlaw60.ShrinkMinimal', WHERE WHAT IT READS IS OF BULK AT MOST 1048576: true; the input reads as it did. -/
def shrinkMinimalUptoRow : OpenClaim := { program := "ytmpbaanlagmacaa", sum := "c9244a2a6abd9aedf619d058d3e2c47635547839ca7267795396a708379f6d96", func := "simulcast/simulcastlaw60.ShrinkMinimal", spec := "shrinkMinimal", unfollowed := true, recurses := true, apart := false, narrowed := true }
def ShrinkMinimalUptoSaid : Prop := shrinkMinimalUptoRow.holds Try.pinned (OpenSpec.upto shrinkMinimalSpec)

/-- 'simulcastlaw60.ShrinkParts', WHERE WHAT IT READS IS OF BULK AT MOST 1048576: true; the input reads as it did. -/
def shrinkPartsUptoRow : OpenClaim := { program := "ytmpbaanlagmacaa", sum := "c9244a2a6abd9aedf619d058d3e2c47635547839ca7267795396a708379f6d96", func := "simulcast/simulcastlaw60.ShrinkParts", spec := "shrinkParts", unfollowed := true, recurses := true, apart := false, narrowed := true }
def ShrinkPartsUptoSaid : Prop := shrinkPartsUptoRow.holds Try.pinned (OpenSpec.upto shrinkPartsSpec)

/-- 'simulcastlaw60.ShrinkWords', WHERE WHAT IT READS IS OF BULK AT MOST 1048576: true; the input reads as it did. -/
def shrinkWordsUptoRow : OpenClaim := { program := "ytmpbaanlagmacaa", sum := "c9244a2a6abd9aedf619d058d3e2c47635547839ca7267795396a708379f6d96", func := "simulcast/simulcastlaw60.ShrinkWords", spec := "shrinkWords", unfollowed := true, recurses := true, apart := false, narrowed := true }
def ShrinkWordsUptoSaid : Prop := shrinkWordsUptoRow.holds Try.pinned (OpenSpec.upto shrinkWordsSpec)

/-- 'simulcastlaw60.ShrinkRude', WHERE WHAT IT READS IS OF BULK AT MOST 1048576: true; the input reads as it did. -/
def shrinkRudeUptoRow : OpenClaim := { program := "ytmpbaanlagmacaa", sum := "c9244a2a6abd9aedf619d058d3e2c47635547839ca7267795396a708379f6d96", func := "simulcast/simulcastlaw60.ShrinkRude", spec := "shrinkRude", unfollowed := true, recurses := true, apart := false, narrowed := true }
def ShrinkRudeUptoSaid : Prop := shrinkRudeUptoRow.holds Try.pinned (OpenSpec.upto shrinkRudeSpec)

/-- 'simulcastlaw60.ShrinkMonotone', WHERE WHAT IT READS IS OF BULK AT MOST 1048576: true; the input reads as it did. -/
def shrinkMonotoneUptoRow : OpenClaim := { program := "ytmpbaanlagmacaa", sum := "c9244a2a6abd9aedf619d058d3e2c47635547839ca7267795396a708379f6d96", func := "simulcast/simulcastlaw60.ShrinkMonotone", spec := "shrinkMonotone", unfollowed := true, recurses := true, apart := false, narrowed := true }
def ShrinkMonotoneUptoSaid : Prop := shrinkMonotoneUptoRow.holds Try.pinned (OpenSpec.upto shrinkMonotoneSpec)

end Rows
end Go.Proofs.Ytmpbaanlagmacaa
