/- Equal reports are equal. -/
import Derived.Test.YtfldjbojonbmpaaDoorD3
namespace Go.Proofs.YtfldjbojonbmpaaDoor
set_option linter.unusedSimpArgs false
set_option linter.unusedVariables false
open Go.RowKit
theorem stoodAns : Tryd.prog.stoodInHeld 42 = false := by kernel_rfl
theorem fieldsAns : Tryd.prog.fieldsOf 42 = #[⟨"Err", 36, 0, false, "", "", 0⟩, ⟨"Val", 2, 1, false, "", "", 8⟩] := by simp [Program.fieldsOf, Tryd.underlying42]
theorem eqAns (d : Nat) (a b : Int) (w : World) : (Op.equalIn (d + 2) 42 (.agg #[.int .i64 a, .int .i64 b]) (.agg #[.int .i64 a, .int .i64 b])).run Tryd.prog w = .ok true w := by
  rw [run_equalIn_struct w (d + 1) 42 _ _ (by rw [fieldsAns]; exact Tryd.underlying42) stoodAns, fieldsAns]
  simp [Op.eqFields, go_sem, Result.andThen]
theorem cellsAns : Tryd.prog.cellsOf 42 = 2 := by kernel_rfl
theorem cellsInt : Tryd.prog.cellsOf 3 = 1 := by kernel_rfl
theorem stoodRep : Tryd.prog.stoodInHeld 46 = false := by kernel_rfl
theorem fieldsRep : Tryd.prog.fieldsOf 46 = #[⟨"Thread", 3, 0, false, "", "", 0⟩, ⟨"Number", 2, 1, false, "", "", 8⟩, ⟨"Answer", 42, 2, false, "", "", 16⟩] := by simp [Program.fieldsOf, Tryd.underlying46]
theorem eqRepI (t n a b : Int) (w : World) : (Op.equalIn 10000 46 (.agg #[.int .i64 t, .int .i64 n, .int .i64 a, .int .i64 b]) (.agg #[.int .i64 t, .int .i64 n, .int .i64 a, .int .i64 b])).run Tryd.prog w = .ok true w := by
  rw [run_equalIn_struct w 9999 46 _ _ (by rw [fieldsRep]; exact Tryd.underlying46) stoodRep, fieldsRep]
  have e := eqAns 9997 a b
  simp only [show 9997 + 2 = 9999 from rfl] at e
  obtain ⟨i, hi⟩ : ∃ i, Tryd.prog.info? 42 = some i := Option.isSome_iff_exists.1 (by kernel_rfl)
  simp [Op.eqFields, go_sem, Result.andThen, e, cellsAns, hi]
theorem eqRep (t n a b : Int) (w : World) : (binOp .eql 46 (.agg #[.int .i64 t, .int .i64 n, .int .i64 a, .int .i64 b]) (.agg #[.int .i64 t, .int .i64 n, .int .i64 a, .int .i64 b])).run Tryd.prog w = .ok (.bool true) w := by
  rw [run_eql_struct, eqRepI]
  rfl
theorem neqRep (t n a b : Int) (w : World) : (binOp .neq 46 (.agg #[.int .i64 t, .int .i64 n, .int .i64 a, .int .i64 b]) (.agg #[.int .i64 t, .int .i64 n, .int .i64 a, .int .i64 b])).run Tryd.prog w = .ok (.bool false) w := by
  rw [run_neq_struct, eqRepI]
  rfl
end Go.Proofs.YtfldjbojonbmpaaDoor
