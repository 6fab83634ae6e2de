/- Package memory: Look. -/
import Derived.Deep.DeepCutAuto
import Derived.Deep.CutRange
import Derived.Test.YtfdndkgjmmeafaaGreatDoorG00
import Derived.Test.YtfdndkgjmmeafaaGreatDoorG04
import Derived.Test.YtfdndkgjmmeafaaGreatDoorG20
namespace Go.Proofs.YtfdndkgjmmeafaaGreatDoor
set_option linter.unusedSimpArgs false
set_option linter.unusedVariables false
open Go.RowKit Go.Maps
theorem enters {P : Program} {f : FuncId} {fn : Func} {c : Code} (hf : P.funcs[f]? = some fn) (hname : (fn.name == "runtime.NumGoroutine") = false) (hb : fn.body = some c) (args : Array Value) (w : World) : (callFunc f args).run P w = .ok (.enter f args) w := by
  have h1 : fn.name ≠ "runtime.NumGoroutine" := by simpa using hname
  simp [callFunc, go_sem, hf, h1, hb]
theorem NewV.five {L g n c d : Nat} {vs : List VwV} {a : VwV} {w : World} (h : NewV L g n vs a w) (h1 : c ≠ g) (h2 : d ≠ g) {u0 u1 u2 u3 u4 : Value} (c0 : w.cell? ⟨c, 0, none⟩ = some u0) (c1 : w.cell? ⟨c, 1, none⟩ = some u1) (c2 : w.cell? ⟨d, 0, none⟩ = some u2) (c3 : w.cell? ⟨d, 1, none⟩ = some u3) (c4 : w.cell? ⟨d, 2, none⟩ = some u4) (x0 x1 x2 x3 x4 : Value) : NewV L g n vs a (((((w.setCell ⟨c, 0, none⟩ x0).setCell ⟨c, 1, none⟩ x1).setCell ⟨d, 0, none⟩ x2).setCell ⟨d, 1, none⟩ x3).setCell ⟨d, 2, none⟩ x4) :=
  NewV.set (NewV.set (NewV.set (NewV.set (NewV.set h h1 (.of c0) _) h1 (.set (.of c1) _) _) h2 (.set (.set (.of c2) _) _) _) h2 (.set (.set (.set (.of c3) _) _) _) _) h2 (.set (.set (.set (.set (.of c4) _) _) _) _) _
theorem Below.five {N c d : Nat} {w w' : World} (h : Below N w w') (h1 : N ≤ c) (h2 : N ≤ d) (x0 x1 x2 x3 x4 : Value) : Below N w (((((w'.setCell ⟨c, 0, none⟩ x0).setCell ⟨c, 1, none⟩ x1).setCell ⟨d, 0, none⟩ x2).setCell ⟨d, 1, none⟩ x3).setCell ⟨d, 2, none⟩ x4) :=
  Below.setCell (Below.setCell (Below.setCell (Below.setCell (Below.setCell h h1 _) h1 _) h2 _) h2 _) h2 _
end Go.Proofs.YtfdndkgjmmeafaaGreatDoor

