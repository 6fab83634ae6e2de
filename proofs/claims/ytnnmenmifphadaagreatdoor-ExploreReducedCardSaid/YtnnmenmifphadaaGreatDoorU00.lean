/- In the midst of a region: more may be held from here on. No program is named here. -/
import Derived.Deep.RegionHeld
set_option linter.unusedSimpArgs false
set_option linter.unusedVariables false
namespace Go.Proofs.YtnnmenmifphadaaGreatDoor
open Go
theorem wpAnyH_more {P : Program} {md : Region.Mode} {ops : Array Oper} {Q : Exit → Act → World → Prop} {S S' : World → Prop} (hS : ∀ w, S' w → S w) :
  ∀ {fuel : Nat} {listed : Array Bool} {a : Act} {w : World}, wpAnyH P md ops Q S' fuel listed a w → wpAnyH P md ops Q S fuel listed a w
 | 0, _, _, _, h => h
 | _ + 1, _, _, _, h => ⟨h.1, fun i hi => wpOp_mono (fun _ w' h' => ⟨hS w' h'.1, wpAnyH_more hS h'.2⟩) (h.2 i hi)⟩
theorem shut_more {P : Program} {md : Region.Mode} {ops : Array Oper} {Q : Exit → Act → World → Prop} {S S' : World → Prop} {fuel : Nat} {listed : Array Bool} {K : Act → World → Prop} (hK : Shut (∀ a w, S w → (S w → wpAnyH P md ops Q S fuel listed a w) → K a w))
 (hS : ∀ w, S' w → S w) {a : Act} {w : World} (h : S' w) (hh : S' w → wpAnyH P md ops Q S' fuel listed a w) : K a w := hK.out a w (hS w h) (fun _ => wpAnyH_more hS (hh h))
end Go.Proofs.YtnnmenmifphadaaGreatDoor
