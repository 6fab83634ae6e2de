/- AdviseChanges: three threads that add to one word after resting leave the same word and return the same results as threads without rests under the schedule with the resting steps removed. No condition. -/
import Derived.Laws.IdiomArrays
import Derived.Test.YtmjkopejbdipcaaRows
import Derived.Test.YtmjkopejbdipcaaG00
import Derived.Test.YtmjkopejbdipcaaG01
import Derived.Test.YtmjkopejbdipcaaG23
namespace Go.Proofs.Ytmjkopejbdipcaa.lawChanges
set_option linter.unusedSimpArgs false
set_option linter.unusedVariables false
open Go.RowKit
set_option maxRecDepth 100000 in
theorem changes_great (n0 n1 n2 r0 r1 r2 : Int) (A : Option Addr) (len cap : Nat) (w : World) (h : 150 < len) :
    Calls Try.prog 3 #[.agg #[.int .i8 n0, .int .i8 n1, .int .i8 n2], .agg #[.int .u8 r0, .int .u8 r1, .int .u8 r2], .slice A len cap] w fun e w' => e = .returned (.bool true) ∧ Below w.heap.size w w' := by
  go_enter Try.func3, Try.ntmps3
  go_wp2_with (first | (go_at_call 4; refine (awake52_any _).mono ?_; rintro e w0 ⟨rfl, hb0⟩; have hs0 := hb0.size; (try simp at hs0)))
  go_ret
  exact ⟨rfl, (by repeat' (first | with_reducible exact Below.refl _ _ | with_reducible assumption | with_reducible refine Below.alloc ?_ ?_ _ | with_reducible refine Below.setCell ?_ ?_ _ | with_reducible refine Below.drew ?_ | with_reducible refine below_drewN ?_ _ | with_reducible refine Below.trans ?_ (Below.mono (by with_reducible assumption) ?_) | omega | (simp <;> omega)))⟩
end Go.Proofs.Ytmjkopejbdipcaa.lawChanges
namespace Go.Proofs.Ytmjkopejbdipcaa
set_option linter.unusedSimpArgs false
set_option linter.unusedVariables false
open Go.ChangeShapes Go.WideShapes Go.ChangeAt Go.RowKit
section
variable {H : Type} {enc : TypeId × Value → H} {P : Program} {w : World} {base : Nat} {spare : Nat → Bool} {held : Bool}
theorem rd_arr3 {t e : TypeId} {k : IntKind} {v : Value} {d : DataW H} {p : List MemPlace} {r : Reach} {b0 : Nat} (ht : P.underlying t = some (.array 3 e)) (he : P.underlying e = some (.int k)) (hc : P.cellsOf e = 1) (hc3 : P.cellsOf t = 3) (hv : Value.okWide P w r b0 t v) (h : DataW.Trod enc P w base spare held t v d p) :
    ∃ a b c : Int, v = .agg #[.int k a, .int k b, .int k c] ∧ (Lit.int k a).wf = true ∧ (Lit.int k b).wf = true ∧ (Lit.int k c).wf = true := by
  simp only [Value.okWide, ht] at hv
  obtain ⟨cs, rfl, hsz, _⟩ := hv
  rw [hc3] at hsz
  obtain ⟨cs⟩ := cs
  match cs, hsz with
  | [c0, c1, c2], _ =>
    obtain ⟨fuel, hf⟩ := h
    obtain ⟨y0, y1, y2, m, _, hy0, hy1, hy2⟩ := trod_array3 ht hc (c0 := c0) (c1 := c1) (c2 := c2) hf
    obtain ⟨a, rfl, wa⟩ := int_of he (u := c0) hy0
    obtain ⟨b, rfl, wb⟩ := int_of he (u := c1) hy1
    obtain ⟨c, rfl, wc⟩ := int_of he (u := c2) hy2
    exact ⟨a, b, c, rfl, wa, wb, wc⟩
end
end Go.Proofs.Ytmjkopejbdipcaa
namespace Go.Proofs.Ytmjkopejbdipcaa.lawChanges
set_option linter.unusedSimpArgs false
set_option linter.unusedVariables false
open Go.ChangeShapes Go.WideShapes Go.ChangeAt Go.RowKit
theorem bounds_i8 {z : Int} (h : (Lit.int .i8 z).wf = true) : -128 ≤ z ∧ z ≤ 127 := by
  simp [Lit.wf, IntKind.min, IntKind.max, IntKind.signed, IntKind.bits] at h
  exact h
theorem bounds_u8' {z : Int} (h : (Lit.int .u8 z).wf = true) : 0 ≤ z ∧ z ≤ 255 := by
  simp [Lit.wf, IntKind.min, IntKind.max, IntKind.signed, IntKind.bits] at h
  exact h
def three (a b c : Int) (t : Nat) : Int := if t = 0 then a else if t = 1 then b else if t = 2 then c else 0
theorem three_in {a b c lo hi : Int} (ha : lo ≤ a ∧ a ≤ hi) (hb : lo ≤ b ∧ b ≤ hi) (hc : lo ≤ c ∧ c ≤ hi) (h0 : lo ≤ 0 ∧ 0 ≤ hi) (t : Nat) : lo ≤ three a b c t ∧ three a b c t ≤ hi := by
  unfold three
  split
  · exact ha
  · split
    · exact hb
    · split
      · exact hc
      · exact h0

theorem own : ownKnob Try.prog.godebug = none := by kernel_rfl

set_option maxRecDepth 100000 in
theorem walk : LawWalk Try.prog 3 #[23, 24, 25] := by
  intro H enc W base args ds p hval hA hlt
  obtain ⟨v0, v1, v2, d0, d1, d2, p0, p1, p2, rfl, rfl, rfl, h0, h1, h2⟩ := trodAll_three hA
  obtain ⟨n0, n1, n2, rfl, a0, a1, a2⟩ := rd_arr3 Try.underlying23 Try.underlying22 (by kernel_rfl) (by kernel_rfl) (hval 0 23 v0 rfl rfl) h0
  obtain ⟨r0, r1, r2, rfl, b0, b1, b2⟩ := rd_arr3 Try.underlying24 Try.underlying5 (by kernel_rfl) (by kernel_rfl) (hval 1 24 v1 rfl rfl) h1
  obtain ⟨A, len, cap, zs, rfl, hm, hl, hr, hw⟩ := rd_ints Try.underlying25 Try.underlying5 (by kernel_rfl) (hval 2 25 v2 rfl rfl) h2
  by_cases h : len ≤ 150
  · exact changes_any n0 n1 n2 r0 r1 r2 A len cap zs W (three n0 n1 n2) (three r0 r1 r2) ⟨rfl, rfl, rfl⟩ ⟨rfl, rfl, rfl⟩ (three_in (bounds_i8 a0) (bounds_i8 a1) (bounds_i8 a2) (by omega)) (three_in (bounds_u8' b0) (bounds_u8' b1) (bounds_u8' b2) (by omega)) hl (fun x hx => bounds_u8' (hw x hx)) h hr
  · exact changes_great n0 n1 n2 r0 r1 r2 A len cap W (by omega)

set_option maxRecDepth 100000 in
theorem lifted (os : Os) (started : os.Started) (H : Type) (enc : TypeId × Value → H) :
    ReturnsInHanded {} Try.checked os 3 .any (Rows.adviseChangesSpec.pre6 enc Try.prog Try.f3 Rows.adviseChangesRow.domain false) (Rows.adviseChangesSpec.post enc Try.prog Try.f3 false true false false) :=
  law_lifted (C := Try.checked) started own (by kernel_rfl) (by kernel_rfl) Try.func3 (by kernel_rfl) Try.underlying4 (by kernel_rfl)
    ⟨rfl, fun H ds h => by match ds, h with | [d1, d2, d3], _ => exact ⟨rfl, rfl, rfl⟩⟩
    (ChangeSpec.witness6 (enc := enc) (C := Try.checked) false ⟨#[], #[.agg #[.int .i8 0, .int .i8 0, .int .i8 0], .agg #[.int .u8 0, .int .u8 0, .int .u8 0], .slice none 0 0], []⟩ 8 (by kernel_rfl) (by kernel_rfl) (by kernel_rfl) (by kernel_rfl)) (by rw [Try.params3]; exact walk)

theorem over : Rows.adviseChangesRow.holds Try.pinned (OpenSpec.ofChange Rows.adviseChangesSpec) :=
  OpenClaim.holds_of_wide 3 Try.f3 rfl rfl rfl rfl rfl rfl rfl ⟨rfl, rfl, rfl, rfl, rfl⟩ rfl rfl rfl rfl rfl (by kernel_rfl) Try.func3 (by kernel_rfl)
    (of_decide_eq_true (by kernel_rfl)) (by unfold Func.isWrapper; first | (rw [if_pos (by decide +kernel)]; kernel_rfl) | (rw [if_neg (by decide +kernel)]; exact ⟨rfl, rfl⟩))
    (fun os started H enc _ => lifted os started H enc)

theorem proved : Rows.AdviseChangesSaid := over
end Go.Proofs.Ytmjkopejbdipcaa.lawChanges
