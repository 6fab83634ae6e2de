/- Package word: Ref, Who, kind, Plain. -/
import Derived.Test.YtbomhhkknopdpaaGreatDoorY1
import Derived.Laws.BitsLemmas
import Derived.Test.YtbomhhkknopdpaaGreatDoorWd
namespace Go.Proofs.YtbomhhkknopdpaaGreatDoor
set_option linter.unusedSimpArgs false
set_option linter.unusedVariables false
open Go.RowKit

/-- The owner and the sequence number of a reference. -/
def whoL (f : Int) : Int × Int := if f / 16777216 < 1 ∨ 72 < f / 16777216 ∨ f % 16777216 < 1 then (0, 0) else (f / 16777216, f % 16777216)
theorem ref_no (who seq : Int) (w : World) (h : who < 1 ∨ 72 < who ∨ seq < 1) : Calls Tryz.prog 77 #[.int .i64 who, .int .i64 seq] w fun e w' => e = .returned (.tuple #[.int .u32 0, .int .i64 3]) ∧ w' = w := by
  by_cases h1 : who < 1
  all_goals by_cases h2 : 72 < who
  all_goals by_cases h3 : seq < 1
  all_goals first | (exfalso; omega) | clear h
  all_goals go_enter Tryz.func77, Tryz.ntmps77
  all_goals go_wp2_with fail
  all_goals go_ret2
  all_goals exact ⟨rfl, rfl⟩
theorem ref_ok (who seq : Int) (w : World) (h1 : 1 ≤ who) (h2 : who ≤ 72) (h3 : 1 ≤ seq) (h4 : seq ≤ 16777215) : Calls Tryz.prog 77 #[.int .i64 who, .int .i64 seq] w fun e w' => ∃ v, e = .returned (.tuple #[.int .u32 v, .int .i64 0]) ∧ w' = w := by
  go_enter Tryz.func77, Tryz.ntmps77
  go_wp2_with fail
  all_goals go_ret2
  all_goals exact ⟨_, rfl, rfl⟩
theorem wraps_u32 (n : Int) (h₀ : 0 ≤ n) (h₁ : n < 2 ^ 32) : IntKind.u32.wrap n = n := by rw [IntKind.wrap_u32]; omega
theorem and_seq (f : Int) (h0 : 0 ≤ f) (h1 : f < 4294967296) : bits .and .u32 f 16777215 = f % 16777216 := by
  have h := bits_mask .u32 32 (by decide) wraps_u32 24 (by decide) f h0 (by omega)
  have e : ((2 : Int) ^ 24 - 1) = 16777215 := by decide
  have e2 : ((2 : Int) ^ 24) = 16777216 := by decide
  rw [e, e2] at h
  exact h
theorem who_any (f : Int) (w : World) (h0 : 0 ≤ f) (h1 : f < 4294967296) : Calls Tryz.prog 52 #[.int .u32 f] w fun e w' => e = .returned (.tuple #[.int .i64 (whoL f).1, .int .i64 (whoL f).2]) ∧ w' = w := by
  have ha : wrap64 (bits .and .u32 f 16777215) = f % 16777216 := by
    rw [and_seq f h0 h1]
    unfold wrap64
    (try split)
    all_goals omega
  by_cases h : f / 16777216 < 1 ∨ 72 < f / 16777216 ∨ f % 16777216 < 1
  · have e : whoL f = (0, 0) := by unfold whoL; rw [if_pos h]
    rw [e]
    go_enter Tryz.func52, Tryz.ntmps52
    go_wp2_with fail
    rw [ha]
    refine (ref_no _ _ _ h).mono ?_
    rintro e w1 ⟨rfl, rfl⟩
    go_wp2_with fail
    go_ret2
    exact ⟨rfl, rfl⟩
  · have e : whoL f = (f / 16777216, f % 16777216) := by unfold whoL; rw [if_neg h]
    rw [e]
    go_enter Tryz.func52, Tryz.ntmps52
    go_wp2_with fail
    rw [ha]
    refine (ref_ok _ _ _ (by omega) (by omega) (by omega) (by omega)).mono ?_
    rintro e w1 ⟨v, rfl, rfl⟩
    go_wp2_with fail
    go_ret2
    exact ⟨rfl, rfl⟩
def kindL (x : W3) : Int := if x.f = 0 then 0 else if 0 < (whoL x.f).1 then 1 else 2
theorem kind_any (x : W3) (w : World) (hx : x.ok) : Calls Tryz.prog 108 #[(.agg #[.int .i64 (x).v, .int .u32 (x).r, .int .u32 (x).f])] w fun e w' => e = .returned (.int .i64 (kindL x)) ∧ Below w.heap.size w w' := by
  obtain ⟨h1, h2, h3, h4, h5, h6⟩ := hx
  unfold kindL
  by_cases hf : x.f = 0
  · simp only [hf, if_true]
    go_enter Tryz.func108, Tryz.ntmps108
    go_wp2_with (first
      | (go_at_call 52; refine (who_any _ _ (by omega) (by omega)).mono ?_; rintro e w1 ⟨rfl, rfl⟩))
    go_ret
    exact ⟨rfl, (by repeat' (first | with_reducible exact Below.refl _ _ | with_reducible assumption | with_reducible refine Below.alloc ?_ ?_ _ | with_reducible refine Below.setCell ?_ ?_ _ | with_reducible refine Below.drew ?_ | with_reducible refine below_drewN ?_ _ | with_reducible refine Below.trans ?_ (Below.mono (by with_reducible assumption) ?_) | omega | (simp <;> omega)))⟩
  · by_cases hw : 0 < (whoL x.f).1
    all_goals simp only [hf, hw, if_true, if_false]
    all_goals go_enter Tryz.func108, Tryz.ntmps108
    all_goals go_wp2_with (first
      | (go_at_call 52; refine (who_any _ _ (by omega) (by omega)).mono ?_; rintro e w1 ⟨rfl, rfl⟩))
    all_goals go_ret
    all_goals exact ⟨rfl, (by repeat' (first | with_reducible exact Below.refl _ _ | with_reducible assumption | with_reducible refine Below.alloc ?_ ?_ _ | with_reducible refine Below.setCell ?_ ?_ _ | with_reducible refine Below.drew ?_ | with_reducible refine below_drewN ?_ _ | with_reducible refine Below.trans ?_ (Below.mono (by with_reducible assumption) ?_) | omega | (simp <;> omega)))⟩
theorem plain_any (x : W3) (w : World) (hx : x.ok) : Calls Tryz.prog 100 #[(.agg #[.int .i64 (x).v, .int .u32 (x).r, .int .u32 (x).f])] w fun e w' => e = .returned (.bool (decide (x.f = 0))) ∧ Below w.heap.size w w' := by
  have hk : (kindL x == 0) = decide (x.f = 0) := by
    unfold kindL
    split
    · simp [*]
    · split <;> simp [*]
  go_enter Tryz.func100, Tryz.ntmps100
  go_wp2_with (first
    | (go_at_call 108; refine (kind_any x _ hx).mono ?_; rintro e w1 ⟨rfl, hb1⟩))
  go_ret
  exact ⟨rfl, (by repeat' (first | with_reducible exact Below.refl _ _ | with_reducible assumption | with_reducible refine Below.alloc ?_ ?_ _ | with_reducible refine Below.setCell ?_ ?_ _ | with_reducible refine Below.drew ?_ | with_reducible refine below_drewN ?_ _ | with_reducible refine Below.trans ?_ (Below.mono (by with_reducible assumption) ?_) | omega | (simp <;> omega)))⟩
end Go.Proofs.YtbomhhkknopdpaaGreatDoor
