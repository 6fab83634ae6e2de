/- Comparing memory words. -/
import Derived.Test.YtnnmenmifphadaaGreatDoorProg
import Derived.Test.YtnnmenmifphadaaGreatDoorU05
set_option linter.unusedSimpArgs false
set_option linter.unusedVariables false
namespace Go.Proofs.YtnnmenmifphadaaGreatDoor
open Go.RowKit
theorem stoodWord : Tryz.prog.stoodInHeld 66 = false := by kernel_rfl
theorem fieldsWord : Tryz.prog.fieldsOf 66 = #[⟨"Val", 2, 0, false, "", "", 0⟩, ⟨"Ver", 64, 1, false, "", "", 8⟩, ⟨"Ref", 64, 2, false, "", "", 12⟩] := by simp [Program.fieldsOf, Tryz.underlying66]
theorem eqW (d : Nat) (a b c a' b' c' : Int) (w : World) : (Op.equalIn (d + 2) 66 (.agg #[.int .i64 a, .int .u32 b, .int .u32 c]) (.agg #[.int .i64 a', .int .u32 b', .int .u32 c'])).run Tryz.prog w = .ok (a == a' && (b == b' && c == c')) w := by
 rw [run_equalIn_struct w (d + 1) 66 _ _ (by rw [fieldsWord]; exact Tryz.underlying66) stoodWord, fieldsWord]
 cases h1 : (a == a') <;> cases h2 : (b == b') <;> cases h3 : (c == c') <;> simp [Op.eqFields, go_sem, Result.andThen, h1, h2, h3]
def eq3 (x y : W3) : Bool := x.v == y.v && (x.r == y.r && x.f == y.f)
theorem neqWord (x y : W3) (w : World) : (binOp .neq 66 (w3V x) (w3V y)).run Tryz.prog w = .ok (.bool (!eq3 x y)) w := by
 rw [run_neq_struct, eqW 9998]
 rfl
end Go.Proofs.YtnnmenmifphadaaGreatDoor
