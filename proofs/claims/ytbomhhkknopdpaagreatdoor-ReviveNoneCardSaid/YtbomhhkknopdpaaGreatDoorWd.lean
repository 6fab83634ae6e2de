/- A memory word, told. No program is named here. -/
import Derived.Test.YtbomhhkknopdpaaGreatDoorLib
namespace Go.Proofs.YtbomhhkknopdpaaGreatDoor
set_option linter.unusedSimpArgs false
set_option linter.unusedVariables false
/-- A memory word. -/
structure W3 where
  v : Int
  r : Int
  f : Int
deriving DecidableEq
def W3.ok (x : W3) : Prop := -9223372036854775808 ≤ x.v ∧ x.v ≤ 9223372036854775807 ∧ 0 ≤ x.r ∧ x.r < 4294967296 ∧ 0 ≤ x.f ∧ x.f < 4294967296
def z3 : W3 := ⟨0, 0, 0⟩
def w3c (x : W3) : List Value := [.int .i64 x.v, .int .u32 x.r, .int .u32 x.f]
end Go.Proofs.YtbomhhkknopdpaaGreatDoor
