/- ProgressBounds: for any two integers the program's Bound and the reference's Bound agree, and the document's example holds. No condition. -/
import Derived.Test.YtmpbaanlagmacaaRows
import Derived.Test.YtmpbaanlagmacaaFr
import Derived.Test.YtmpbaanlagmacaaP1
namespace Go.Proofs.Ytmpbaanlagmacaa.lawBounds
open Go.ChangeShapes Go.WideShapes Go.ChangeAt Go.RowKit

theorem own : ownKnob Try.prog.godebug = none := by kernel_rfl

set_option maxRecDepth 100000 in
theorem walk : LawWalk Try.prog 4 #[3, 3] := by
  intro H enc W base args ds p hval hA hlt
  obtain ⟨v0, v1, d0, d1, p0, p1, rfl, rfl, rfl, h0, h1⟩ := trodAll_two hA
  obtain ⟨a, rfl, rfl, rfl, wa⟩ := open_int Try.underlying3 (hval 0 3 v0 rfl rfl) h0
  obtain ⟨b, rfl, rfl, rfl, wb⟩ := open_int Try.underlying3 (hval 1 3 v1 rfl rfl) h1
  clear hA hval h0 h1 hlt
  go_enter Try.func4, Try.ntmps4
  go_wp2_with (first
    | (go_at_call 23; refine (bound_any _ _ _).mono ?_; rintro e w2 ⟨rfl, rfl⟩)
    | (go_at_call 24; refine (refbound_any _ _ _).mono ?_; rintro e w2 ⟨rfl, rfl⟩)
    | (go_at_call 15; refine (awake61_any _).mono ?_; rintro e w2 ⟨rfl, hb⟩))
  go_ret
  exact ⟨rfl, hb⟩

set_option maxRecDepth 100000 in
theorem lifted (os : Os) (started : os.Started) (H : Type) (enc : TypeId × Value → H) :
    ReturnsInHanded {} Try.checked os 4 .any (Rows.progressBoundsSpec.pre6 enc Try.prog Try.f4 Rows.progressBoundsRow.domain false) (Rows.progressBoundsSpec.post enc Try.prog Try.f4 false true false false) :=
  law_lifted (C := Try.checked) started own (by kernel_rfl) (by kernel_rfl) Try.func4 (by kernel_rfl) Try.underlying4 (by kernel_rfl)
    ⟨rfl, fun H ds h => by match ds, h with | [d1, d2], _ => exact ⟨rfl, rfl, rfl⟩⟩
    (ChangeSpec.witness6 (enc := enc) (C := Try.checked) false ⟨#[], #[.int .i64 0, .int .i64 0], []⟩ 8 (by kernel_rfl) (by kernel_rfl) (by kernel_rfl) (by kernel_rfl)) (by rw [Try.params4]; exact walk)

theorem over : Rows.progressBoundsRow.holds Try.pinned (OpenSpec.ofChange Rows.progressBoundsSpec) :=
  OpenClaim.holds_of_wide 4 Try.f4 rfl rfl rfl rfl rfl rfl rfl ⟨rfl, rfl, rfl, rfl, rfl⟩ rfl rfl rfl rfl rfl (by kernel_rfl) Try.func4 (by kernel_rfl)
    (of_decide_eq_true (by kernel_rfl)) (by unfold Func.isWrapper; first | (rw [if_pos (by decide +kernel)]; kernel_rfl) | (rw [if_neg (by decide +kernel)]; exact ⟨rfl, rfl⟩))
    (fun os started H enc _ => lifted os started H enc)

theorem proved : Rows.ProgressBoundsSaid := over
end Go.Proofs.Ytmpbaanlagmacaa.lawBounds
