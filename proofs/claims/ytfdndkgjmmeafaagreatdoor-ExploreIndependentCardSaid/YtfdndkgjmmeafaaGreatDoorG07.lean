/- Slices that came in, opened by their elements' cells. No program is named here. -/
import Derived.Deep.Strs
import Derived.Laws.IdiomArrays
import Derived.Test.YtfdndkgjmmeafaaGreatDoorG04
namespace Go.Proofs.YtfdndkgjmmeafaaGreatDoor
set_option linter.unusedSimpArgs false
set_option linter.unusedVariables false
open Go.ChangeShapes Go.WideShapes Go.ChangeAt Go.RowKit Go.Deep
section
variable {H : Type} {enc : TypeId × Value → H} {P : Program} {w : World} {base : Nat} {spare : Nat → Bool} {held : Bool}
theorem fields_of {e : TypeId} {fs : Array Field} {m : Nat} {cs : List Value} {y : DataW H × List MemPlace} (he : P.underlying e = some (.struct fs)) (hone : oneCellFields P fs = true) (hl : cs.length = fs.size) (h : DataW.trod enc P w base spare held m e cs = some y) :
    ∃ m' : Nat, ∀ (j : Nat) (f : Field), fs[j]? = some f → ∃ (u : Value) (y : DataW H × List MemPlace), cs[j]? = some u ∧ DataW.trod enc P w base spare held m' f.type [u] = some y := by
  obtain ⟨ys, n', hn', hy, hlen', hyl, hf'⟩ := DataW.trod_struct he h
  refine ⟨n', fun j f hj => ?_⟩
  obtain ⟨ho, hk⟩ := hone_of hone j f hj
  have hjl : j < fs.size := (Array.getElem?_eq_some_iff.1 hj).1
  have h1 := hf' j f hj
  rw [ho, hk] at h1
  have hone' : (cs.drop j).take 1 = [cs[j]'(by omega)] := by
    rw [List.drop_eq_getElem_cons (by omega)]
    rfl
  rw [hone'] at h1
  have hys : ys[j]? = some (ys[j]'(by omega)) := List.getElem?_eq_getElem (by omega)
  exact ⟨_, _, List.getElem?_eq_getElem (by omega), h1.trans hys⟩
end
end Go.Proofs.YtfdndkgjmmeafaaGreatDoor

