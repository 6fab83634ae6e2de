/- Equal reports are equal. -/
import Derived.Test.YtbomhhkknopdpaaGreatDoorD3
namespace Go.Proofs.YtbomhhkknopdpaaGreatDoor
set_option linter.unusedSimpArgs false
set_option linter.unusedVariables false
open Go.RowKit
theorem stoodAns : Tryz.prog.stoodInHeld 73 = false := by kernel_rfl
theorem fieldsAns : Tryz.prog.fieldsOf 73 = #[⟨"Err", 36, 0, false, "", "", 0⟩, ⟨"Val", 2, 1, false, "", "", 8⟩] := by simp [Program.fieldsOf, Tryz.underlying73]
theorem eqAns (d : Nat) (a b : Int) (w : World) : (Op.equalIn (d + 2) 73 (.agg #[.int .i64 a, .int .i64 b]) (.agg #[.int .i64 a, .int .i64 b])).run Tryz.prog w = .ok true w := by
  rw [run_equalIn_struct w (d + 1) 73 _ _ (by rw [fieldsAns]; exact Tryz.underlying73) stoodAns, fieldsAns]
  simp [Op.eqFields, go_sem, Result.andThen]
theorem cellsAns : Tryz.prog.cellsOf 73 = 2 := by kernel_rfl
theorem cellsInt : Tryz.prog.cellsOf 3 = 1 := by kernel_rfl
theorem stoodRep : Tryz.prog.stoodInHeld 75 = false := by kernel_rfl
theorem fieldsRep : Tryz.prog.fieldsOf 75 = #[⟨"Thread", 3, 0, false, "", "", 0⟩, ⟨"Number", 2, 1, false, "", "", 8⟩, ⟨"Answer", 73, 2, false, "", "", 16⟩] := by simp [Program.fieldsOf, Tryz.underlying75]
theorem eqRepI (t n a b : Int) (w : World) : (Op.equalIn 10000 75 (.agg #[.int .i64 t, .int .i64 n, .int .i64 a, .int .i64 b]) (.agg #[.int .i64 t, .int .i64 n, .int .i64 a, .int .i64 b])).run Tryz.prog w = .ok true w := by
  rw [run_equalIn_struct w 9999 75 _ _ (by rw [fieldsRep]; exact Tryz.underlying75) stoodRep, fieldsRep]
  have e := eqAns 9997 a b
  simp only [show 9997 + 2 = 9999 from rfl] at e
  obtain ⟨i, hi⟩ : ∃ i, Tryz.prog.info? 73 = some i := Option.isSome_iff_exists.1 (by kernel_rfl)
  simp [Op.eqFields, go_sem, Result.andThen, e, cellsAns, hi]
theorem eqRep (t n a b : Int) (w : World) : (binOp .eql 75 (.agg #[.int .i64 t, .int .i64 n, .int .i64 a, .int .i64 b]) (.agg #[.int .i64 t, .int .i64 n, .int .i64 a, .int .i64 b])).run Tryz.prog w = .ok (.bool true) w := by
  rw [run_eql_struct, eqRepI]
  rfl
theorem neqRep (t n a b : Int) (w : World) : (binOp .neq 75 (.agg #[.int .i64 t, .int .i64 n, .int .i64 a, .int .i64 b]) (.agg #[.int .i64 t, .int .i64 n, .int .i64 a, .int .i64 b])).run Tryz.prog w = .ok (.bool false) w := by
  rw [run_neq_struct, eqRepI]
  rfl
end Go.Proofs.YtbomhhkknopdpaaGreatDoor
