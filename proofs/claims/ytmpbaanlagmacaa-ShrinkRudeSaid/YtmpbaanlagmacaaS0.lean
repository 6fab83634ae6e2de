/- Two picks compared: the runs of == and != on them. -/
import Derived.Test.YtmpbaanlagmacaaProg
import Derived.Test.YtmpbaanlagmacaaLib
import Derived.Test.YtmpbaanlagmacaaSP2
import Derived.WalkKit
import Derived.WalkSpells
import Derived.WalkLawsBesides
namespace Go.Proofs.Ytmpbaanlagmacaa
open Go.RowKit

/-- A pick's cells. -/
def pkc (p : Pk) : List Value := [.int .i64 p.1, .int .i64 p.2.1, .int .i64 p.2.2]
theorem pkc_len (p : Pk) : (pkc p).length = 3 := rfl

theorem stoodA : Try.prog.stoodInHeld 82 = false := by kernel_rfl
theorem guardA : Try.prog.eqGuardType Try.prog.depth 82 = false := by kernel_rfl
theorem fieldsA : Try.prog.fieldsOf 82 = #[⟨"Kind", 3, 0, false, "", "", 0⟩, ⟨"Thread", 3, 1, false, "", "", 8⟩, ⟨"Choice", 3, 2, false, "", "", 16⟩] := by simp [Program.fieldsOf, Try.underlying82]
theorem equalInA (x y : Pk) (w : World) : (Op.equalIn 10000 82 (.agg #[.int .i64 x.1, .int .i64 x.2.1, .int .i64 x.2.2]) (.agg #[.int .i64 y.1, .int .i64 y.2.1, .int .i64 y.2.2])).run Try.prog w = .ok (x == y) w := by
  rw [run_equalIn_struct w 9999 82 _ _ (by rw [fieldsA]; exact Try.underlying82) stoodA, fieldsA]
  obtain ⟨x0, x1, x2⟩ := x
  obtain ⟨y0, y1, y2⟩ := y
  by_cases h0 : x0 = y0
  · by_cases h1 : x1 = y1
    · by_cases h2 : x2 = y2
      · subst h0 h1 h2
        simp [Op.eqFields, go_sem, Result.andThen]
      · simp [Op.eqFields, go_sem, Result.andThen, h0, h1, h2]
    · simp [Op.eqFields, go_sem, Result.andThen, h0, h1]
  · simp [Op.eqFields, go_sem, Result.andThen, h0]
theorem neqA (x y : Pk) (w : World) : (binOp .neq 82 (.agg #[.int .i64 x.1, .int .i64 x.2.1, .int .i64 x.2.2]) (.agg #[.int .i64 y.1, .int .i64 y.2.1, .int .i64 y.2.2])).run Try.prog w = .ok (.bool (!(x == y))) w := by
  rw [run_neq_struct, equalInA]
  rfl
theorem eqlA (x y : Pk) (w : World) : (binOp .eql 82 (.agg #[.int .i64 x.1, .int .i64 x.2.1, .int .i64 x.2.2]) (.agg #[.int .i64 y.1, .int .i64 y.2.1, .int .i64 y.2.2])).run Try.prog w = .ok (.bool (x == y)) w := by
  rw [run_eql_struct, equalInA]
  rfl
theorem stoodR : Try.prog.stoodInHeld 92 = false := by kernel_rfl
theorem guardR : Try.prog.eqGuardType Try.prog.depth 92 = false := by kernel_rfl
theorem fieldsR : Try.prog.fieldsOf 92 = #[⟨"Kind", 3, 0, false, "", "", 0⟩, ⟨"Thread", 3, 1, false, "", "", 8⟩, ⟨"Choice", 3, 2, false, "", "", 16⟩] := by simp [Program.fieldsOf, Try.underlying92]
theorem equalInR (x y : Pk) (w : World) : (Op.equalIn 10000 92 (.agg #[.int .i64 x.1, .int .i64 x.2.1, .int .i64 x.2.2]) (.agg #[.int .i64 y.1, .int .i64 y.2.1, .int .i64 y.2.2])).run Try.prog w = .ok (x == y) w := by
  rw [run_equalIn_struct w 9999 92 _ _ (by rw [fieldsR]; exact Try.underlying92) stoodR, fieldsR]
  obtain ⟨x0, x1, x2⟩ := x
  obtain ⟨y0, y1, y2⟩ := y
  by_cases h0 : x0 = y0
  · by_cases h1 : x1 = y1
    · by_cases h2 : x2 = y2
      · subst h0 h1 h2
        simp [Op.eqFields, go_sem, Result.andThen]
      · simp [Op.eqFields, go_sem, Result.andThen, h0, h1, h2]
    · simp [Op.eqFields, go_sem, Result.andThen, h0, h1]
  · simp [Op.eqFields, go_sem, Result.andThen, h0]
theorem neqR (x y : Pk) (w : World) : (binOp .neq 92 (.agg #[.int .i64 x.1, .int .i64 x.2.1, .int .i64 x.2.2]) (.agg #[.int .i64 y.1, .int .i64 y.2.1, .int .i64 y.2.2])).run Try.prog w = .ok (.bool (!(x == y))) w := by
  rw [run_neq_struct, equalInR]
  rfl
theorem eqlR (x y : Pk) (w : World) : (binOp .eql 92 (.agg #[.int .i64 x.1, .int .i64 x.2.1, .int .i64 x.2.2]) (.agg #[.int .i64 y.1, .int .i64 y.2.1, .int .i64 y.2.2])).run Try.prog w = .ok (.bool (x == y)) w := by
  rw [run_eql_struct, equalInR]
  rfl
end Go.Proofs.Ytmpbaanlagmacaa
