/- ExploreIndependent: Independent agrees with the reference and is symmetric, for every two acts; the example of the chapter holds. -/
import Derived.Test.YtfdndkgjmmeafaaGreatDoorCards
import Derived.Test.YtfdndkgjmmeafaaGreatDoorTie
import Derived.Test.YtfdndkgjmmeafaaGreatDoorG03
import Derived.Test.YtfdndkgjmmeafaaGreatDoorG07
import Derived.Test.YtfdndkgjmmeafaaGreatDoorG46
namespace Go.Proofs.YtfdndkgjmmeafaaGreatDoor
set_option linter.unusedSimpArgs false
set_option linter.unusedVariables false
open Go.ChangeShapes Go.WideShapes Go.ChangeAt Go.RowKit
section
variable {H : Type} {enc : TypeId × Value → H} {w : World} {base : Nat} {spare : Nat → Bool} {held : Bool}
set_option maxRecDepth 100000 in
theorem rd_act {v : Value} {d : DataW H} {p : List MemPlace} {r : Reach} {b0 : Nat} (hv : Value.okWide Tryz.prog w r b0 27 v) (h : DataW.Trod enc Tryz.prog w base spare held 27 v d p) :
    ∃ a : AS, v = .agg #[.int .i64 a.o, .int .i64 a.l, .int .i64 a.v, .int .u32 a.r, .int .u32 a.f, .int .i64 a.v2, .int .u32 a.r2, .int .u32 a.f2] := by
  obtain ⟨cs, rfl, hsz⟩ := okWide_struct Tryz.underlying27 hv
  rw [show Tryz.prog.cellsOf 27 = 8 by kernel_rfl] at hsz
  obtain ⟨cs⟩ := cs
  match cs, hsz with
  | [c0, c1, c2, c3, c4, c5, c6, c7], _ =>
    obtain ⟨fuel, hf0⟩ := h
    have hf : DataW.trod enc Tryz.prog w base spare held fuel 27 [c0, c1, c2, c3, c4, c5, c6, c7] = some (d, p) := hf0
    have c0' : Tryz.prog.cellsOf 3 = 1 := by kernel_rfl
    have c1' : Tryz.prog.cellsOf 22 = 1 := by kernel_rfl
    have c2' : Tryz.prog.cellsOf 25 = 3 := by kernel_rfl
    obtain ⟨ys, n', -, -, -, hyl, hf'⟩ := DataW.trod_struct Tryz.underlying27 hf
    match ys, hyl with
    | [y0, y1, y2, y3], _ =>
    have k0 : DataW.trod enc Tryz.prog w base spare held n' 3 [c0] = some y0 := by simpa [c0'] using hf' 0 ⟨"Op", 3, 0, false, "", "", 0⟩ rfl
    have k1 : DataW.trod enc Tryz.prog w base spare held n' 22 [c1] = some y1 := by simpa [c1'] using hf' 1 ⟨"At", 22, 1, false, "", "", 8⟩ rfl
    have k2 : DataW.trod enc Tryz.prog w base spare held n' 25 [c2, c3, c4] = some y2 := by simpa [c2'] using hf' 2 ⟨"Old", 25, 2, false, "", "", 16⟩ rfl
    have k3 : DataW.trod enc Tryz.prog w base spare held n' 25 [c5, c6, c7] = some y3 := by simpa [c2'] using hf' 3 ⟨"New", 25, 5, false, "", "", 32⟩ rfl
    obtain ⟨z0, rfl, -⟩ := int_of Tryz.underlying3 k0
    obtain ⟨z1, rfl, -⟩ := int_of Tryz.underlying22 k1
    obtain ⟨m2, g2⟩ := fields_of (cs := [c2, c3, c4]) Tryz.underlying25 (by kernel_rfl) rfl k2
    obtain ⟨m3, g3⟩ := fields_of (cs := [c5, c6, c7]) Tryz.underlying25 (by kernel_rfl) rfl k3
    obtain ⟨u0, y0, e0, t0⟩ := g2 0 _ rfl
    obtain ⟨u1, y1, e1, t1⟩ := g2 1 _ rfl
    obtain ⟨u2, y2, e2, t2⟩ := g2 2 _ rfl
    obtain ⟨u3, y3, e3, t3⟩ := g3 0 _ rfl
    obtain ⟨u4, y4, e4, t4⟩ := g3 1 _ rfl
    obtain ⟨u5, y5, e5, t5⟩ := g3 2 _ rfl
    injection e0 with e0; subst e0
    injection e1 with e1; subst e1
    injection e2 with e2; subst e2
    injection e3 with e3; subst e3
    injection e4 with e4; subst e4
    injection e5 with e5; subst e5
    obtain ⟨z2, rfl, -⟩ := int_of Tryz.underlying2 t0
    obtain ⟨z3, rfl, -⟩ := int_of Tryz.underlying23 t1
    obtain ⟨z4, rfl, -⟩ := int_of Tryz.underlying23 t2
    obtain ⟨z5, rfl, -⟩ := int_of Tryz.underlying2 t3
    obtain ⟨z6, rfl, -⟩ := int_of Tryz.underlying23 t4
    obtain ⟨z7, rfl, -⟩ := int_of Tryz.underlying23 t5
    exact ⟨⟨z0, z1, z2, z3, z4, z5, z6, z7⟩, rfl⟩
end
theorem laidMet_drop {P : Program} {x : String × DataW Unit} {r : List (String × DataW Unit)} {w : World} (h : laidMet P (x :: r) w) : laidMet P r w := by
  obtain ⟨ps, h1, h2, h3⟩ := h
  obtain ⟨n, d⟩ := x
  obtain ⟨g, t, cs, fuel, p, q, _, _, _, _, hq, rfl⟩ := h1
  exact ⟨q, hq, (List.nodup_append.1 h2).2.1, fun b off hb => h3 b off (List.mem_append_right _ hb)⟩
set_option maxRecDepth 100000 in
theorem tabMet {W : World} (h : laidMetH Tryz.prog Rows.exploreIndependentRow.laid W) : Tab W ∧ 0 < W.heap.size := by
  have h1 : laidMet Tryz.prog Rows.exploreIndependentRow.laid W := h
  have ht : Tab W := Lib.tabIs_of_head (g := 0) (rest := []) (by kernel_rfl) (by kernel_rfl) Tryz.underlying231 Tryz.underlying163 (by kernel_rfl) (by kernel_rfl) (laidMet_drop (laidMet_drop h1))
  refine ⟨ht, ?_⟩
  have q := ht.cell (show Tryz.prog.globalNamed "internal/strconv.uint64pow10" = some 0 by kernel_rfl) 0 (by decide)
  exact cell_lt q
end Go.Proofs.YtfdndkgjmmeafaaGreatDoor

namespace Go.Proofs.YtfdndkgjmmeafaaGreatDoor.lawIndep
set_option linter.unusedSimpArgs false
set_option linter.unusedVariables false
open Go.ChangeShapes Go.WideShapes Go.ChangeAt Go.RowKit
theorem own : ownKnob Tryz.prog.godebug = none := by kernel_rfl
set_option maxRecDepth 100000 in
theorem walk : LawWalkL Tryz.prog 3 #[27, 27] Rows.exploreIndependentRow.laid := by
  intro H enc W base args ds p hval hA hlt hL
  obtain ⟨v0, v1, d0, d1, p0, p1, rfl, rfl, rfl, h0, h1⟩ := trodAll_two hA
  obtain ⟨x, rfl⟩ := rd_act (hval 0 27 v0 rfl rfl) h0
  obtain ⟨y, rfl⟩ := rd_act (hval 1 27 v1 rfl rfl) h1
  obtain ⟨ht, hg⟩ := tabMet hL
  exact indep_any x y W ht hg
def cellsOfD : DataW Unit → Array Value
  | .agg xs => (xs.map fun | .lit (.int k n) => .int k n | _ => undef).toArray
  | _ => #[]
def layD (d : DataW Unit) : Obj → Obj
  | .cells _ t frozen => .cells (cellsOfD d) t frozen
  | o => o
noncomputable def laidWorld (os : Os) : World :=
  { World.holding Tryz.prog os ⟨#[], #[], []⟩ with heap := (((World.holding Tryz.prog os ⟨#[], #[], []⟩).heap.modify 0 (layD Rows.laid_internal_strconv_uint64pow10)).modify 2 (layD Rows.laid_math_bits_deBruijn32tab)).modify 3 (layD Rows.laid_math_bits_deBruijn64tab) }
set_option maxRecDepth 100000 in
theorem laid_met (os : Os) : laidMet Tryz.prog Rows.exploreIndependentRow.laid ((laidWorld os).forCall (fun _ _ => 0) ⟨#[], #[.agg #[.int .i64 0, .int .i64 0, .int .i64 0, .int .u32 0, .int .u32 0, .int .i64 0, .int .u32 0, .int .u32 0], .agg #[.int .i64 0, .int .i64 0, .int .i64 0, .int .u32 0, .int .u32 0, .int .i64 0, .int .u32 0, .int .u32 0]], []⟩).memory :=
  laidMet_of_run' 8 (by kernel_rfl) (by kernel_rfl)
set_option maxRecDepth 100000 in
theorem reads (os : Os) {H : Type} (enc : TypeId × Value → H) : ∃ places, DataW.whole enc Tryz.prog ((laidWorld os).forCall (fun _ _ => 0) ⟨#[], #[.agg #[.int .i64 0, .int .i64 0, .int .i64 0, .int .u32 0, .int .u32 0, .int .i64 0, .int .u32 0, .int .u32 0], .agg #[.int .i64 0, .int .i64 0, .int .i64 0, .int .u32 0, .int .u32 0, .int .i64 0, .int .u32 0, .int .u32 0]], []⟩).memory Tryz.f3.params.toList Rows.exploreIndependentSpec.vars false (#[.agg #[.int .i64 0, .int .i64 0, .int .i64 0, .int .u32 0, .int .u32 0, .int .i64 0, .int .u32 0, .int .u32 0], .agg #[.int .i64 0, .int .i64 0, .int .i64 0, .int .u32 0, .int .u32 0, .int .i64 0, .int .u32 0, .int .u32 0]] : Array Value).toList 8 = some ([.agg [.lit (.int .i64 0), .lit (.int .i64 0), .agg [.lit (.int .i64 0), .lit (.int .u32 0), .lit (.int .u32 0)], .agg [.lit (.int .i64 0), .lit (.int .u32 0), .lit (.int .u32 0)]], .agg [.lit (.int .i64 0), .lit (.int .i64 0), .agg [.lit (.int .i64 0), .lit (.int .u32 0), .lit (.int .u32 0)], .agg [.lit (.int .i64 0), .lit (.int .u32 0), .lit (.int .u32 0)]]], [], places) :=
  ⟨[], by kernel_rfl⟩
set_option maxRecDepth 100000 in
theorem lifted (os : Os) (started : os.Started) (H : Type) (enc : TypeId × Value → H) (F : Stop.Interp) :
    ReturnsInHanded {} Tryz.checked os 3 .any ((OpenSpec.ofChange Rows.exploreIndependentSpec).preRow enc Tryz.prog Tryz.f3 Rows.exploreIndependentRow.domain false Rows.exploreIndependentRow.laid) (((OpenSpec.ofChange Rows.exploreIndependentSpec).at F).post enc Tryz.prog Tryz.f3 false true false false) := by
  obtain ⟨places, hx⟩ := reads os enc
  refine returnsInHanded_of_row (C := Tryz.checked) (s := OpenSpec.ofChange Rows.exploreIndependentSpec) own started (by kernel_rfl) Tryz.func3
    (witness_row_at (enc := enc) (C := Tryz.checked) false (laidWorld os) #[.agg #[.int .i64 0, .int .i64 0, .int .i64 0, .int .u32 0, .int .u32 0, .int .i64 0, .int .u32 0, .int .u32 0], .agg #[.int .i64 0, .int .i64 0, .int .i64 0, .int .u32 0, .int .u32 0, .int .i64 0, .int .u32 0, .int .u32 0]] rfl (by kernel_rfl) (by kernel_rfl) (by kernel_rfl)
      (OpenSpec.preRow_of_cond 8 hx (by kernel_rfl) (fun k hk => by cases hk) (by kernel_rfl) (laid_met os))) ?_
  intro W base args ds gs before hval hW _ _ _ hL _ _
  exact law_contract (s := Rows.exploreIndependentSpec) (by kernel_rfl) (by kernel_rfl) Tryz.underlying4 (by kernel_rfl) ⟨rfl, fun H ds h => by match ds, h with | [d1, d2], _ => exact ⟨rfl, rfl, rfl⟩⟩ (by rw [Tryz.params3]; exact walk) W base args ds gs before hval hW hL
set_option maxRecDepth 100000 in
theorem over : Rows.exploreIndependentRow.holds Tryz.pinned (OpenSpec.ofChange Rows.exploreIndependentSpec) :=
  OpenClaim.holds_of_cond 3 Tryz.f3 rfl rfl rfl rfl rfl rfl rfl ⟨rfl, rfl, rfl, rfl, rfl⟩ rfl rfl rfl rfl rfl (by kernel_rfl) Tryz.func3 (by kernel_rfl)
    (of_decide_eq_true (by kernel_rfl)) (by unfold Func.isWrapper; first | (rw [if_pos (by decide +kernel)]; kernel_rfl) | (rw [if_neg (by decide +kernel)]; exact ⟨rfl, rfl⟩))
    (fun os started H enc _ F => by rw [OpenClaim.pre_eq_preRow]; exact lifted os started H enc F)
set_option maxRecDepth 100000 in
theorem plainLaw (f : FuncId) (fn : Func) (hf : Tryz.pinned.checked.prog.funcNamed "simulcast/simulcastlaw59.ExploreIndependent" = some f) (hfn : Tryz.pinned.checked.prog.funcs[f]? = some fn) :
    true = Tryz.pinned.checked.prog.looks [] ∧ ∀ (j : Nat) t, fn.params[j]? = some t → Tryz.pinned.checked.prog.wantsStandIn t = false := by
  obtain rfl : f = 3 := Option.some.inj ((show Tryz.prog.funcNamed "simulcast/simulcastlaw59.ExploreIndependent" = some 3 by kernel_rfl).symm.trans hf) |>.symm
  obtain rfl : fn = Tryz.f3 := (Option.some.inj (Tryz.func3.symm.trans hfn)).symm
  refine ⟨by kernel_rfl, fun j t ht => ?_⟩
  rw [Tryz.params3] at ht
  have hm := Array.mem_of_getElem? ht
  have hall : ∀ t ∈ (#[27, 27] : Array TypeId), Tryz.prog.wantsStandIn t = false := by
    intro t h
    simp only [List.mem_toArray, List.mem_cons, List.not_mem_nil, or_false] at h
    rcases h with rfl | rfl
    all_goals kernel_rfl
  exact hall t hm
set_option maxRecDepth 100000 in
theorem card : Rows.ExploreIndependentCardSaid :=
  Claim7.holds_tied_plain_at .later [] _ _ _ _ over (fun _ h => by cases h) (by kernel_rfl) (fun _ h => by cases h) exploreIndependent_row_tie rfl ⟨rfl, rfl⟩ (by kernel_rfl) rfl plainLaw (by kernel_rfl)
theorem proved : Rows.ExploreIndependentCardSaid := card
end Go.Proofs.YtfdndkgjmmeafaaGreatDoor.lawIndep

