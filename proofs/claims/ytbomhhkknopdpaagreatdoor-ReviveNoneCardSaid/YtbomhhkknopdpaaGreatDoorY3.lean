/- Package layout: the locations. -/
import Derived.Test.YtbomhhkknopdpaaGreatDoorY2
namespace Go.Proofs.YtbomhhkknopdpaaGreatDoor
set_option linter.unusedSimpArgs false
set_option linter.unusedVariables false
open Go.RowKit

theorem announce_ok (T C B t : Int) (w : World) (hv : Valid T C B) (hs : Sizes w) (h0 : -1000 ≤ t) (h1 : t ≤ 1000) : Calls Tryz.prog 54 #[(.agg #[.int .i64 T, .int .i64 C, .int .i64 B]), .int .i64 t] w fun e w' => e = .returned (.int .i64 (atL T C B 1 (t - 1) 0)) ∧ Below w.heap.size w w' := by
  have hp := hs.pos
  go_enter Tryz.func54, Tryz.ntmps54
  go_wp2_with (first
    | (go_at_call 47; refine (at_1 T C B _ _ _ hv (hs.below (by repeat' (first | with_reducible exact Below.refl _ _ | with_reducible assumption | with_reducible refine Below.alloc ?_ ?_ _ | with_reducible refine Below.setCell ?_ ?_ _ | with_reducible refine Below.drew ?_ | with_reducible refine below_drewN ?_ _ | with_reducible refine Below.trans ?_ (Below.mono (by with_reducible assumption) ?_) | omega | (simp <;> omega)))) (by decide) (by decide)).mono ?_; rintro e w1 ⟨rfl, hb1⟩; obtain ⟨hcc1, hff1⟩ := bcell hb1; have hs1 := hb1.size; (try simp at hs1); have hz1 : w.heap.size < w1.heap.size := (by omega); have hq1 : 0 < w1.heap.size := (by omega)))
  go_ret
  exact ⟨rfl, (by repeat' (first | with_reducible exact Below.refl _ _ | with_reducible assumption | with_reducible refine Below.alloc ?_ ?_ _ | with_reducible refine Below.setCell ?_ ?_ _ | with_reducible refine Below.drew ?_ | with_reducible refine below_drewN ?_ _ | with_reducible refine Below.trans ?_ (Below.mono (by with_reducible assumption) ?_) | omega | (simp <;> omega)))⟩
theorem hazard_ok (T C B t : Int) (w : World) (hv : Valid T C B) (hs : Sizes w) (h0 : -1000 ≤ t) (h1 : t ≤ 1000) : Calls Tryz.prog 55 #[(.agg #[.int .i64 T, .int .i64 C, .int .i64 B]), .int .i64 t] w fun e w' => e = .returned (.int .i64 (atL T C B 1 (t - 1) 1)) ∧ Below w.heap.size w w' := by
  have hp := hs.pos
  go_enter Tryz.func55, Tryz.ntmps55
  go_wp2_with (first
    | (go_at_call 47; refine (at_1 T C B _ _ _ hv (hs.below (by repeat' (first | with_reducible exact Below.refl _ _ | with_reducible assumption | with_reducible refine Below.alloc ?_ ?_ _ | with_reducible refine Below.setCell ?_ ?_ _ | with_reducible refine Below.drew ?_ | with_reducible refine below_drewN ?_ _ | with_reducible refine Below.trans ?_ (Below.mono (by with_reducible assumption) ?_) | omega | (simp <;> omega)))) (by decide) (by decide)).mono ?_; rintro e w1 ⟨rfl, hb1⟩; obtain ⟨hcc1, hff1⟩ := bcell hb1; have hs1 := hb1.size; (try simp at hs1); have hz1 : w.heap.size < w1.heap.size := (by omega); have hq1 : 0 < w1.heap.size := (by omega)))
  go_ret
  exact ⟨rfl, (by repeat' (first | with_reducible exact Below.refl _ _ | with_reducible assumption | with_reducible refine Below.alloc ?_ ?_ _ | with_reducible refine Below.setCell ?_ ?_ _ | with_reducible refine Below.drew ?_ | with_reducible refine below_drewN ?_ _ | with_reducible refine Below.trans ?_ (Below.mono (by with_reducible assumption) ?_) | omega | (simp <;> omega)))⟩
theorem record_ok (T C B t : Int) (w : World) (hv : Valid T C B) (hs : Sizes w) (h0 : -1000 ≤ t) (h1 : t ≤ 1000) : Calls Tryz.prog 20 #[(.agg #[.int .i64 T, .int .i64 C, .int .i64 B]), .int .i64 t] w fun e w' => e = .returned (.int .i64 (atL T C B 2 (t - 1) 0)) ∧ Below w.heap.size w w' := by
  have hp := hs.pos
  go_enter Tryz.func20, Tryz.ntmps20
  go_wp2_with (first
    | (go_at_call 47; refine (at_2 T C B _ _ _ hv (hs.below (by repeat' (first | with_reducible exact Below.refl _ _ | with_reducible assumption | with_reducible refine Below.alloc ?_ ?_ _ | with_reducible refine Below.setCell ?_ ?_ _ | with_reducible refine Below.drew ?_ | with_reducible refine below_drewN ?_ _ | with_reducible refine Below.trans ?_ (Below.mono (by with_reducible assumption) ?_) | omega | (simp <;> omega)))) (by decide) (by decide)).mono ?_; rintro e w1 ⟨rfl, hb1⟩; obtain ⟨hcc1, hff1⟩ := bcell hb1; have hs1 := hb1.size; (try simp at hs1); have hz1 : w.heap.size < w1.heap.size := (by omega); have hq1 : 0 < w1.heap.size := (by omega)))
  go_ret
  exact ⟨rfl, (by repeat' (first | with_reducible exact Below.refl _ _ | with_reducible assumption | with_reducible refine Below.alloc ?_ ?_ _ | with_reducible refine Below.setCell ?_ ?_ _ | with_reducible refine Below.drew ?_ | with_reducible refine below_drewN ?_ _ | with_reducible refine Below.trans ?_ (Below.mono (by with_reducible assumption) ?_) | omega | (simp <;> omega)))⟩
theorem slot_ok (T C B t : Int) (w : World) (hv : Valid T C B) (hs : Sizes w) (h0 : -1000 ≤ t) (h1 : t ≤ 1000) : Calls Tryz.prog 36 #[(.agg #[.int .i64 T, .int .i64 C, .int .i64 B]), .int .i64 t] w fun e w' => e = .returned (.int .i64 (atL T C B 4 (t - 1) 0)) ∧ Below w.heap.size w w' := by
  have hp := hs.pos
  go_enter Tryz.func36, Tryz.ntmps36
  go_wp2_with (first
    | (go_at_call 47; refine (at_4 T C B _ _ _ hv (hs.below (by repeat' (first | with_reducible exact Below.refl _ _ | with_reducible assumption | with_reducible refine Below.alloc ?_ ?_ _ | with_reducible refine Below.setCell ?_ ?_ _ | with_reducible refine Below.drew ?_ | with_reducible refine below_drewN ?_ _ | with_reducible refine Below.trans ?_ (Below.mono (by with_reducible assumption) ?_) | omega | (simp <;> omega)))) (by decide) (by decide)).mono ?_; rintro e w1 ⟨rfl, hb1⟩; obtain ⟨hcc1, hff1⟩ := bcell hb1; have hs1 := hb1.size; (try simp at hs1); have hz1 : w.heap.size < w1.heap.size := (by omega); have hq1 : 0 < w1.heap.size := (by omega)))
  go_ret
  exact ⟨rfl, (by repeat' (first | with_reducible exact Below.refl _ _ | with_reducible assumption | with_reducible refine Below.alloc ?_ ?_ _ | with_reducible refine Below.setCell ?_ ?_ _ | with_reducible refine Below.drew ?_ | with_reducible refine below_drewN ?_ _ | with_reducible refine Below.trans ?_ (Below.mono (by with_reducible assumption) ?_) | omega | (simp <;> omega)))⟩
theorem cell_ok (T C B t : Int) (w : World) (hv : Valid T C B) (hs : Sizes w) : Calls Tryz.prog 17 #[(.agg #[.int .i64 T, .int .i64 C, .int .i64 B]), .int .i64 t] w fun e w' => e = .returned (.int .i64 (atL T C B 3 t 0)) ∧ Below w.heap.size w w' := by
  have hp := hs.pos
  go_enter Tryz.func17, Tryz.ntmps17
  go_wp2_with (first
    | (go_at_call 47; refine (at_3 T C B _ _ _ hv (hs.below (by repeat' (first | with_reducible exact Below.refl _ _ | with_reducible assumption | with_reducible refine Below.alloc ?_ ?_ _ | with_reducible refine Below.setCell ?_ ?_ _ | with_reducible refine Below.drew ?_ | with_reducible refine below_drewN ?_ _ | with_reducible refine Below.trans ?_ (Below.mono (by with_reducible assumption) ?_) | omega | (simp <;> omega)))) (by decide) (by decide)).mono ?_; rintro e w1 ⟨rfl, hb1⟩; obtain ⟨hcc1, hff1⟩ := bcell hb1; have hs1 := hb1.size; (try simp at hs1); have hz1 : w.heap.size < w1.heap.size := (by omega); have hq1 : 0 < w1.heap.size := (by omega)))
  go_ret
  exact ⟨rfl, (by repeat' (first | with_reducible exact Below.refl _ _ | with_reducible assumption | with_reducible refine Below.alloc ?_ ?_ _ | with_reducible refine Below.setCell ?_ ?_ _ | with_reducible refine Below.drew ?_ | with_reducible refine below_drewN ?_ _ | with_reducible refine Below.trans ?_ (Below.mono (by with_reducible assumption) ?_) | omega | (simp <;> omega)))⟩
theorem block_ok (T C B t : Int) (w : World) (hv : Valid T C B) (hs : Sizes w) : Calls Tryz.prog 37 #[(.agg #[.int .i64 T, .int .i64 C, .int .i64 B]), .int .i64 t] w fun e w' => e = .returned (.int .i64 (atL T C B 6 t 0)) ∧ Below w.heap.size w w' := by
  have hp := hs.pos
  go_enter Tryz.func37, Tryz.ntmps37
  go_wp2_with (first
    | (go_at_call 47; refine (at_6 T C B _ _ _ hv (hs.below (by repeat' (first | with_reducible exact Below.refl _ _ | with_reducible assumption | with_reducible refine Below.alloc ?_ ?_ _ | with_reducible refine Below.setCell ?_ ?_ _ | with_reducible refine Below.drew ?_ | with_reducible refine below_drewN ?_ _ | with_reducible refine Below.trans ?_ (Below.mono (by with_reducible assumption) ?_) | omega | (simp <;> omega)))) (by decide) (by decide)).mono ?_; rintro e w1 ⟨rfl, hb1⟩; obtain ⟨hcc1, hff1⟩ := bcell hb1; have hs1 := hb1.size; (try simp at hs1); have hz1 : w.heap.size < w1.heap.size := (by omega); have hq1 : 0 < w1.heap.size := (by omega)))
  go_ret
  exact ⟨rfl, (by repeat' (first | with_reducible exact Below.refl _ _ | with_reducible assumption | with_reducible refine Below.alloc ?_ ?_ _ | with_reducible refine Below.setCell ?_ ?_ _ | with_reducible refine Below.drew ?_ | with_reducible refine below_drewN ?_ _ | with_reducible refine Below.trans ?_ (Below.mono (by with_reducible assumption) ?_) | omega | (simp <;> omega)))⟩
theorem clock_ok (T C B : Int) (w : World) (hv : Valid T C B) (hs : Sizes w) : Calls Tryz.prog 71 #[(.agg #[.int .i64 T, .int .i64 C, .int .i64 B])] w fun e w' => e = .returned (.int .i64 0) ∧ Below w.heap.size w w' := by
  have hp := hs.pos
  go_enter Tryz.func71, Tryz.ntmps71
  go_wp2_with (first
    | (go_at_call 47; refine (at_0 T C B _ _ _ hv (hs.below (by repeat' (first | with_reducible exact Below.refl _ _ | with_reducible assumption | with_reducible refine Below.alloc ?_ ?_ _ | with_reducible refine Below.setCell ?_ ?_ _ | with_reducible refine Below.drew ?_ | with_reducible refine below_drewN ?_ _ | with_reducible refine Below.trans ?_ (Below.mono (by with_reducible assumption) ?_) | omega | (simp <;> omega)))) (by decide) (by decide)).mono ?_; rintro e w1 ⟨rfl, hb1⟩; obtain ⟨hcc1, hff1⟩ := bcell hb1; have hs1 := hb1.size; (try simp at hs1); have hz1 : w.heap.size < w1.heap.size := (by omega); have hq1 : 0 < w1.heap.size := (by omega)))
  go_ret
  exact ⟨rfl, (by repeat' (first | with_reducible exact Below.refl _ _ | with_reducible assumption | with_reducible refine Below.alloc ?_ ?_ _ | with_reducible refine Below.setCell ?_ ?_ _ | with_reducible refine Below.drew ?_ | with_reducible refine below_drewN ?_ _ | with_reducible refine Below.trans ?_ (Below.mono (by with_reducible assumption) ?_) | omega | (simp <;> omega)))⟩
theorem era_ok (T C B : Int) (w : World) (hv : Valid T C B) (hs : Sizes w) : Calls Tryz.prog 35 #[(.agg #[.int .i64 T, .int .i64 C, .int .i64 B])] w fun e w' => e = .returned (.int .i64 1) ∧ Below w.heap.size w w' := by
  have hp := hs.pos
  go_enter Tryz.func35, Tryz.ntmps35
  go_wp2_with (first
    | (go_at_call 47; refine (at_0 T C B _ _ _ hv (hs.below (by repeat' (first | with_reducible exact Below.refl _ _ | with_reducible assumption | with_reducible refine Below.alloc ?_ ?_ _ | with_reducible refine Below.setCell ?_ ?_ _ | with_reducible refine Below.drew ?_ | with_reducible refine below_drewN ?_ _ | with_reducible refine Below.trans ?_ (Below.mono (by with_reducible assumption) ?_) | omega | (simp <;> omega)))) (by decide) (by decide)).mono ?_; rintro e w1 ⟨rfl, hb1⟩; obtain ⟨hcc1, hff1⟩ := bcell hb1; have hs1 := hb1.size; (try simp at hs1); have hz1 : w.heap.size < w1.heap.size := (by omega); have hq1 : 0 < w1.heap.size := (by omega)))
  go_ret
  exact ⟨rfl, (by repeat' (first | with_reducible exact Below.refl _ _ | with_reducible assumption | with_reducible refine Below.alloc ?_ ?_ _ | with_reducible refine Below.setCell ?_ ?_ _ | with_reducible refine Below.drew ?_ | with_reducible refine below_drewN ?_ _ | with_reducible refine Below.trans ?_ (Below.mono (by with_reducible assumption) ?_) | omega | (simp <;> omega)))⟩
/-- Where an owner's descriptor lies, and how many entries it holds. -/
def placeA (T C B who : Int) : Int := if 9 ≤ who then atL T C B 6 (who - 9) 0 else atL T C B 4 (who - 1) 0
def placeN (T C B who : Int) : Int := if placeA T C B who < 0 then 0 else if 9 ≤ who then 10 else 32
theorem fromL_pos (T C B : Int) (hf : Fit T C B) (p : Nat) (i more : Int) (h : 0 ≤ i ∧ i < manyL T C B p) (hm : 0 ≤ more) (hs : 0 ≤ sizeL p) : 0 ≤ atL T C B p i more := by
  unfold atL
  rw [if_pos h]
  have := (from_le T C B hf p).1
  have := Int.mul_nonneg h.1 hs
  omega
set_option maxHeartbeats 1000000 in
theorem place_ok (T C B who : Int) (w : World) (hv : Valid T C B) (hs : Sizes w) (h0 : -1000 ≤ who) (h1 : who ≤ 1000) : Calls Tryz.prog 19 #[(.agg #[.int .i64 T, .int .i64 C, .int .i64 B]), .int .i64 who] w fun e w' => e = .returned (.tuple #[.int .i64 (if placeA T C B who < 0 then -1 else placeA T C B who), .int .i64 (placeN T C B who)]) ∧ Below w.heap.size w w' := by
  have hp := hs.pos
  obtain ⟨X, hX⟩ : ∃ X, X = atL T C B 4 (who - 1) 0 := ⟨_, rfl⟩
  obtain ⟨Y, hY⟩ : ∃ Y, Y = atL T C B 6 (who - 9) 0 := ⟨_, rfl⟩
  have HX := hide hX
  have HY := hide hY
  have e1 : placeA T C B who = if 9 ≤ who then Y else X := by unfold placeA; rw [hX, hY]
  clear hX hY
  unfold placeN
  rw [e1]
  by_cases h9 : 9 ≤ who
  · simp only [if_pos h9]
    by_cases hn : Y < 0
    all_goals simp only [hn, if_true, if_false]
    all_goals go_enter Tryz.func19, Tryz.ntmps19
    all_goals go_wp2_with (first
      | (go_at_call 36; refine (slot_ok T C B _ _ hv (hs.below (by repeat' (first | with_reducible exact Below.refl _ _ | with_reducible assumption | with_reducible refine Below.alloc ?_ ?_ _ | with_reducible refine Below.setCell ?_ ?_ _ | with_reducible refine Below.drew ?_ | with_reducible refine below_drewN ?_ _ | with_reducible refine Below.trans ?_ (Below.mono (by with_reducible assumption) ?_) | omega | (simp <;> omega)))) h0 h1).mono ?_; rintro e w1 ⟨rfl, hb1⟩; obtain ⟨hcc1, hff1⟩ := bcell hb1; have hs1 := hb1.size; (try simp at hs1); have hz1 : w.heap.size < w1.heap.size := (by omega); have hq1 : 0 < w1.heap.size := (by omega); rw [← HX.out])
      | (go_at_call 37; refine (block_ok T C B _ _ hv (hs.below (by repeat' (first | with_reducible exact Below.refl _ _ | with_reducible assumption | with_reducible refine Below.alloc ?_ ?_ _ | with_reducible refine Below.setCell ?_ ?_ _ | with_reducible refine Below.drew ?_ | with_reducible refine below_drewN ?_ _ | with_reducible refine Below.trans ?_ (Below.mono (by with_reducible assumption) ?_) | omega | (simp <;> omega))))).mono ?_; rintro e w2 ⟨rfl, hb2⟩; rw [← HY.out]))
    all_goals go_ret2
    all_goals exact ⟨rfl, (by repeat' (first | with_reducible exact Below.refl _ _ | with_reducible assumption | with_reducible refine Below.alloc ?_ ?_ _ | with_reducible refine Below.setCell ?_ ?_ _ | with_reducible refine Below.drew ?_ | with_reducible refine below_drewN ?_ _ | with_reducible refine Below.trans ?_ (Below.mono (by with_reducible assumption) ?_) | omega | (simp <;> omega)))⟩
  · simp only [if_neg h9]
    by_cases hn : X < 0
    all_goals simp only [hn, if_true, if_false]
    all_goals go_enter Tryz.func19, Tryz.ntmps19
    all_goals go_wp2_with (first
      | (go_at_call 36; refine (slot_ok T C B _ _ hv (hs.below (by repeat' (first | with_reducible exact Below.refl _ _ | with_reducible assumption | with_reducible refine Below.alloc ?_ ?_ _ | with_reducible refine Below.setCell ?_ ?_ _ | with_reducible refine Below.drew ?_ | with_reducible refine below_drewN ?_ _ | with_reducible refine Below.trans ?_ (Below.mono (by with_reducible assumption) ?_) | omega | (simp <;> omega)))) h0 h1).mono ?_; rintro e w1 ⟨rfl, hb1⟩; obtain ⟨hcc1, hff1⟩ := bcell hb1; have hs1 := hb1.size; (try simp at hs1); have hz1 : w.heap.size < w1.heap.size := (by omega); have hq1 : 0 < w1.heap.size := (by omega); rw [← HX.out]))
    all_goals go_ret2
    all_goals exact ⟨rfl, (by repeat' (first | with_reducible exact Below.refl _ _ | with_reducible assumption | with_reducible refine Below.alloc ?_ ?_ _ | with_reducible refine Below.setCell ?_ ?_ _ | with_reducible refine Below.drew ?_ | with_reducible refine below_drewN ?_ _ | with_reducible refine Below.trans ?_ (Below.mono (by with_reducible assumption) ?_) | omega | (simp <;> omega)))⟩
/-- The locations that swaps may access. -/
def mayL (T C B n : Int) : Bool := decide (fromL T C B 3 ≤ n ∧ n < fromL T C B 3 + C) || (decide (fromL T C B 2 ≤ n ∧ n < fromL T C B 3) && decide (n % 8 < 3))
set_option maxHeartbeats 1000000 in
theorem may_ok (T C B n : Int) (w : World) (hv : Valid T C B) (hs : Sizes w) (h0 : -1000000 ≤ n) (h1 : n ≤ 1000000) : Calls Tryz.prog 51 #[(.agg #[.int .i64 T, .int .i64 C, .int .i64 B]), .int .i64 n] w fun e w' => e = .returned (.bool (mayL T C B n)) ∧ Below w.heap.size w w' := by
  have hp := hs.pos
  obtain ⟨X, hX⟩ : ∃ X, X = fromL T C B 3 := ⟨_, rfl⟩
  obtain ⟨Y, hY⟩ : ∃ Y, Y = fromL T C B 2 := ⟨_, rfl⟩
  have e1 : mayL T C B n = (decide (X ≤ n ∧ n < X + C) || (decide (Y ≤ n ∧ n < X) && decide (n % 8 < 3))) := by unfold mayL; rw [hX, hY]
  have x0 : 0 ≤ X ∧ X ≤ 6168 := by have := from_le T C B hv.1 3; rw [hX]; omega
  have y0 : 0 ≤ Y ∧ Y ≤ 6168 := by have := from_le T C B hv.1 2; rw [hY]; omega
  have c0 : 1 ≤ C ∧ C ≤ 2048 := ⟨hv.1.2.2.1, hv.1.2.2.2.1⟩
  have HX := hide hX
  have HY := hide hY
  rw [e1]
  clear hX hY e1
  have Hv := hide hv
  have Hf := hide hv.1
  clear hv
  by_cases a1 : X ≤ n
  · by_cases a2 : n - X < C
    · have e2 : (decide (X ≤ n ∧ n < X + C) || (decide (Y ≤ n ∧ n < X) && decide (n % 8 < 3))) = true := by simp; omega
      rw [e2]
      clear e2
      go_enter Tryz.func51, Tryz.ntmps51
      go_wp2_with (first
        | (go_at_call 34; refine (right_ok T C B _ Hv.out (hs.below (by repeat' (first | with_reducible exact Below.refl _ _ | with_reducible assumption | with_reducible refine Below.alloc ?_ ?_ _ | with_reducible refine Below.setCell ?_ ?_ _ | with_reducible refine Below.drew ?_ | with_reducible refine below_drewN ?_ _ | with_reducible refine Below.trans ?_ (Below.mono (by with_reducible assumption) ?_) | omega | (simp <;> omega))))).mono ?_; rintro e w1 ⟨rfl, hb1⟩; obtain ⟨hcc1, hff1⟩ := bcell hb1; have hs1 := hb1.size; (try simp at hs1); have hz1 : w.heap.size < w1.heap.size := (by omega); have hq1 : 0 < w1.heap.size := (by omega))
        | (go_at_call 39; with_reducible refine (from_2 T C B _ Hf.out (hs.below (by repeat' (first | with_reducible exact Below.refl _ _ | with_reducible assumption | with_reducible refine Below.alloc ?_ ?_ _ | with_reducible refine Below.setCell ?_ ?_ _ | with_reducible refine Below.drew ?_ | with_reducible refine below_drewN ?_ _ | with_reducible refine Below.trans ?_ (Below.mono (by with_reducible assumption) ?_) | omega | (simp <;> omega))))).mono ?_; rintro e w2 ⟨rfl, hb2⟩; obtain ⟨hcc2, hff2⟩ := bcell hb2; have hs2 := hb2.size; (try simp at hs2); have hz2 : w.heap.size < w2.heap.size := (by omega); have hq2 : 0 < w2.heap.size := (by omega); rw [← HY.out])
        | (go_at_call 39; with_reducible refine (from_3 T C B _ Hf.out (hs.below (by repeat' (first | with_reducible exact Below.refl _ _ | with_reducible assumption | with_reducible refine Below.alloc ?_ ?_ _ | with_reducible refine Below.setCell ?_ ?_ _ | with_reducible refine Below.drew ?_ | with_reducible refine below_drewN ?_ _ | with_reducible refine Below.trans ?_ (Below.mono (by with_reducible assumption) ?_) | omega | (simp <;> omega))))).mono ?_; rintro e w2 ⟨rfl, hb2⟩; obtain ⟨hcc2, hff2⟩ := bcell hb2; have hs2 := hb2.size; (try simp at hs2); have hz2 : w.heap.size < w2.heap.size := (by omega); have hq2 : 0 < w2.heap.size := (by omega); rw [← HX.out]))
      all_goals go_ret
      all_goals exact ⟨rfl, (by repeat' (first | with_reducible exact Below.refl _ _ | with_reducible assumption | with_reducible refine Below.alloc ?_ ?_ _ | with_reducible refine Below.setCell ?_ ?_ _ | with_reducible refine Below.drew ?_ | with_reducible refine below_drewN ?_ _ | with_reducible refine Below.trans ?_ (Below.mono (by with_reducible assumption) ?_) | omega | (simp <;> omega)))⟩
    · have e2 : (decide (X ≤ n ∧ n < X + C) || (decide (Y ≤ n ∧ n < X) && decide (n % 8 < 3))) = false := by simp; omega
      rw [e2]
      clear e2
      have a3 : ¬ n < X := by omega
      have a4 : (decide (0 ≤ n - X)) = true := by simp; omega
      go_enter Tryz.func51, Tryz.ntmps51
      go_wp2_with (first
        | (go_at_call 34; refine (right_ok T C B _ Hv.out (hs.below (by repeat' (first | with_reducible exact Below.refl _ _ | with_reducible assumption | with_reducible refine Below.alloc ?_ ?_ _ | with_reducible refine Below.setCell ?_ ?_ _ | with_reducible refine Below.drew ?_ | with_reducible refine below_drewN ?_ _ | with_reducible refine Below.trans ?_ (Below.mono (by with_reducible assumption) ?_) | omega | (simp <;> omega))))).mono ?_; rintro e w1 ⟨rfl, hb1⟩; obtain ⟨hcc1, hff1⟩ := bcell hb1; have hs1 := hb1.size; (try simp at hs1); have hz1 : w.heap.size < w1.heap.size := (by omega); have hq1 : 0 < w1.heap.size := (by omega))
        | (go_at_call 39; with_reducible refine (from_2 T C B _ Hf.out (hs.below (by repeat' (first | with_reducible exact Below.refl _ _ | with_reducible assumption | with_reducible refine Below.alloc ?_ ?_ _ | with_reducible refine Below.setCell ?_ ?_ _ | with_reducible refine Below.drew ?_ | with_reducible refine below_drewN ?_ _ | with_reducible refine Below.trans ?_ (Below.mono (by with_reducible assumption) ?_) | omega | (simp <;> omega))))).mono ?_; rintro e w2 ⟨rfl, hb2⟩; obtain ⟨hcc2, hff2⟩ := bcell hb2; have hs2 := hb2.size; (try simp at hs2); have hz2 : w.heap.size < w2.heap.size := (by omega); have hq2 : 0 < w2.heap.size := (by omega); rw [← HY.out])
        | (go_at_call 39; with_reducible refine (from_3 T C B _ Hf.out (hs.below (by repeat' (first | with_reducible exact Below.refl _ _ | with_reducible assumption | with_reducible refine Below.alloc ?_ ?_ _ | with_reducible refine Below.setCell ?_ ?_ _ | with_reducible refine Below.drew ?_ | with_reducible refine below_drewN ?_ _ | with_reducible refine Below.trans ?_ (Below.mono (by with_reducible assumption) ?_) | omega | (simp <;> omega))))).mono ?_; rintro e w2 ⟨rfl, hb2⟩; obtain ⟨hcc2, hff2⟩ := bcell hb2; have hs2 := hb2.size; (try simp at hs2); have hz2 : w.heap.size < w2.heap.size := (by omega); have hq2 : 0 < w2.heap.size := (by omega); rw [← HX.out]))
      all_goals go_ret
      all_goals exact ⟨rfl, (by repeat' (first | with_reducible exact Below.refl _ _ | with_reducible assumption | with_reducible refine Below.alloc ?_ ?_ _ | with_reducible refine Below.setCell ?_ ?_ _ | with_reducible refine Below.drew ?_ | with_reducible refine below_drewN ?_ _ | with_reducible refine Below.trans ?_ (Below.mono (by with_reducible assumption) ?_) | omega | (simp <;> omega)))⟩
  · have a3 : n < X := by omega
    have a4 : ¬ (0 ≤ n - X) := by omega
    by_cases a5 : Y ≤ n
    · have a7 : 0 ≤ n := by omega
      have e2 : (decide (X ≤ n ∧ n < X + C) || (decide (Y ≤ n ∧ n < X) && decide (n % 8 < 3))) = decide (n % 8 < 3) := by
        rw [decide_eq_false (show ¬ (X ≤ n ∧ n < X + C) by omega), decide_eq_true (show Y ≤ n ∧ n < X by omega)]
        simp
      rw [e2]
      clear e2
      go_enter Tryz.func51, Tryz.ntmps51
      go_wp2_with (first
        | (go_at_call 34; refine (right_ok T C B _ Hv.out (hs.below (by repeat' (first | with_reducible exact Below.refl _ _ | with_reducible assumption | with_reducible refine Below.alloc ?_ ?_ _ | with_reducible refine Below.setCell ?_ ?_ _ | with_reducible refine Below.drew ?_ | with_reducible refine below_drewN ?_ _ | with_reducible refine Below.trans ?_ (Below.mono (by with_reducible assumption) ?_) | omega | (simp <;> omega))))).mono ?_; rintro e w1 ⟨rfl, hb1⟩; obtain ⟨hcc1, hff1⟩ := bcell hb1; have hs1 := hb1.size; (try simp at hs1); have hz1 : w.heap.size < w1.heap.size := (by omega); have hq1 : 0 < w1.heap.size := (by omega))
        | (go_at_call 39; with_reducible refine (from_2 T C B _ Hf.out (hs.below (by repeat' (first | with_reducible exact Below.refl _ _ | with_reducible assumption | with_reducible refine Below.alloc ?_ ?_ _ | with_reducible refine Below.setCell ?_ ?_ _ | with_reducible refine Below.drew ?_ | with_reducible refine below_drewN ?_ _ | with_reducible refine Below.trans ?_ (Below.mono (by with_reducible assumption) ?_) | omega | (simp <;> omega))))).mono ?_; rintro e w2 ⟨rfl, hb2⟩; obtain ⟨hcc2, hff2⟩ := bcell hb2; have hs2 := hb2.size; (try simp at hs2); have hz2 : w.heap.size < w2.heap.size := (by omega); have hq2 : 0 < w2.heap.size := (by omega); rw [← HY.out])
        | (go_at_call 39; with_reducible refine (from_3 T C B _ Hf.out (hs.below (by repeat' (first | with_reducible exact Below.refl _ _ | with_reducible assumption | with_reducible refine Below.alloc ?_ ?_ _ | with_reducible refine Below.setCell ?_ ?_ _ | with_reducible refine Below.drew ?_ | with_reducible refine below_drewN ?_ _ | with_reducible refine Below.trans ?_ (Below.mono (by with_reducible assumption) ?_) | omega | (simp <;> omega))))).mono ?_; rintro e w2 ⟨rfl, hb2⟩; obtain ⟨hcc2, hff2⟩ := bcell hb2; have hs2 := hb2.size; (try simp at hs2); have hz2 : w.heap.size < w2.heap.size := (by omega); have hq2 : 0 < w2.heap.size := (by omega); rw [← HX.out]))
      all_goals go_ret
      all_goals exact ⟨rfl, (by repeat' (first | with_reducible exact Below.refl _ _ | with_reducible assumption | with_reducible refine Below.alloc ?_ ?_ _ | with_reducible refine Below.setCell ?_ ?_ _ | with_reducible refine Below.drew ?_ | with_reducible refine below_drewN ?_ _ | with_reducible refine Below.trans ?_ (Below.mono (by with_reducible assumption) ?_) | omega | (simp <;> omega)))⟩
    · have e2 : (decide (X ≤ n ∧ n < X + C) || (decide (Y ≤ n ∧ n < X) && decide (n % 8 < 3))) = false := by simp; omega
      rw [e2]
      clear e2
      go_enter Tryz.func51, Tryz.ntmps51
      go_wp2_with (first
        | (go_at_call 34; refine (right_ok T C B _ Hv.out (hs.below (by repeat' (first | with_reducible exact Below.refl _ _ | with_reducible assumption | with_reducible refine Below.alloc ?_ ?_ _ | with_reducible refine Below.setCell ?_ ?_ _ | with_reducible refine Below.drew ?_ | with_reducible refine below_drewN ?_ _ | with_reducible refine Below.trans ?_ (Below.mono (by with_reducible assumption) ?_) | omega | (simp <;> omega))))).mono ?_; rintro e w1 ⟨rfl, hb1⟩; obtain ⟨hcc1, hff1⟩ := bcell hb1; have hs1 := hb1.size; (try simp at hs1); have hz1 : w.heap.size < w1.heap.size := (by omega); have hq1 : 0 < w1.heap.size := (by omega))
        | (go_at_call 39; with_reducible refine (from_2 T C B _ Hf.out (hs.below (by repeat' (first | with_reducible exact Below.refl _ _ | with_reducible assumption | with_reducible refine Below.alloc ?_ ?_ _ | with_reducible refine Below.setCell ?_ ?_ _ | with_reducible refine Below.drew ?_ | with_reducible refine below_drewN ?_ _ | with_reducible refine Below.trans ?_ (Below.mono (by with_reducible assumption) ?_) | omega | (simp <;> omega))))).mono ?_; rintro e w2 ⟨rfl, hb2⟩; obtain ⟨hcc2, hff2⟩ := bcell hb2; have hs2 := hb2.size; (try simp at hs2); have hz2 : w.heap.size < w2.heap.size := (by omega); have hq2 : 0 < w2.heap.size := (by omega); rw [← HY.out])
        | (go_at_call 39; with_reducible refine (from_3 T C B _ Hf.out (hs.below (by repeat' (first | with_reducible exact Below.refl _ _ | with_reducible assumption | with_reducible refine Below.alloc ?_ ?_ _ | with_reducible refine Below.setCell ?_ ?_ _ | with_reducible refine Below.drew ?_ | with_reducible refine below_drewN ?_ _ | with_reducible refine Below.trans ?_ (Below.mono (by with_reducible assumption) ?_) | omega | (simp <;> omega))))).mono ?_; rintro e w2 ⟨rfl, hb2⟩; obtain ⟨hcc2, hff2⟩ := bcell hb2; have hs2 := hb2.size; (try simp at hs2); have hz2 : w.heap.size < w2.heap.size := (by omega); have hq2 : 0 < w2.heap.size := (by omega); rw [← HX.out]))
      all_goals go_ret
      all_goals exact ⟨rfl, (by repeat' (first | with_reducible exact Below.refl _ _ | with_reducible assumption | with_reducible refine Below.alloc ?_ ?_ _ | with_reducible refine Below.setCell ?_ ?_ _ | with_reducible refine Below.drew ?_ | with_reducible refine below_drewN ?_ _ | with_reducible refine Below.trans ?_ (Below.mono (by with_reducible assumption) ?_) | omega | (simp <;> omega)))⟩
/-- The bitmap's location and the mask of block i. -/
theorem bits_0 (T C B : Int) (w : World) (hv : Valid T C B) (hs : Sizes w) (h1 : 0 < B) : Calls Tryz.prog 70 #[(.agg #[.int .i64 T, .int .i64 C, .int .i64 B]), .int .i64 0] w fun e w' => e = .returned (.tuple #[.int .i64 (fromL T C B 5), .int .i64 (2 ^ 0)]) ∧ Below w.heap.size w w' := by
  have hp := hs.pos
  have hb : B ≤ 64 := hv.1.2.2.2.2.2
  obtain ⟨X, hX⟩ : ∃ X, X = fromL T C B 5 := ⟨_, rfl⟩
  have x0 : 0 ≤ X ∧ X ≤ 10280 := by have := from_le T C B hv.1 5; rw [hX]; omega
  have e1 : atL T C B 5 0 0 = X := by
    unfold atL
    rw [if_pos ⟨by decide, h1⟩, hX, show sizeL 5 = 0 from rfl, Int.mul_zero, Int.add_zero, Int.add_zero]
  have E1 := hide e1
  rw [← hX]
  clear hX e1
  go_enter Tryz.func70, Tryz.ntmps70
  go_wp2_with (first
    | (go_at_call 47; refine (at_5 T C B _ _ _ hv (hs.below (by repeat' (first | with_reducible exact Below.refl _ _ | with_reducible assumption | with_reducible refine Below.alloc ?_ ?_ _ | with_reducible refine Below.setCell ?_ ?_ _ | with_reducible refine Below.drew ?_ | with_reducible refine below_drewN ?_ _ | with_reducible refine Below.trans ?_ (Below.mono (by with_reducible assumption) ?_) | omega | (simp <;> omega)))) (by decide) (by decide)).mono ?_; rintro e w1 ⟨rfl, hb1⟩; obtain ⟨hcc1, hff1⟩ := bcell hb1; have hs1 := hb1.size; (try simp at hs1); have hz1 : w.heap.size < w1.heap.size := (by omega); have hq1 : 0 < w1.heap.size := (by omega); rw [E1.out]))
  all_goals go_region
  all_goals go_wp2_with fail
  all_goals go_ret2
  all_goals exact ⟨rfl, (by repeat' (first | with_reducible exact Below.refl _ _ | with_reducible assumption | with_reducible refine Below.alloc ?_ ?_ _ | with_reducible refine Below.setCell ?_ ?_ _ | with_reducible refine Below.drew ?_ | with_reducible refine below_drewN ?_ _ | with_reducible refine Below.trans ?_ (Below.mono (by with_reducible assumption) ?_) | omega | (simp <;> omega)))⟩
theorem bits_1 (T C B : Int) (w : World) (hv : Valid T C B) (hs : Sizes w) (h1 : 1 < B) : Calls Tryz.prog 70 #[(.agg #[.int .i64 T, .int .i64 C, .int .i64 B]), .int .i64 1] w fun e w' => e = .returned (.tuple #[.int .i64 (fromL T C B 5), .int .i64 (2 ^ 1)]) ∧ Below w.heap.size w w' := by
  have hp := hs.pos
  have hb : B ≤ 64 := hv.1.2.2.2.2.2
  obtain ⟨X, hX⟩ : ∃ X, X = fromL T C B 5 := ⟨_, rfl⟩
  have x0 : 0 ≤ X ∧ X ≤ 10280 := by have := from_le T C B hv.1 5; rw [hX]; omega
  have e1 : atL T C B 5 1 0 = X := by
    unfold atL
    rw [if_pos ⟨by decide, h1⟩, hX, show sizeL 5 = 0 from rfl, Int.mul_zero, Int.add_zero, Int.add_zero]
  have E1 := hide e1
  rw [← hX]
  clear hX e1
  go_enter Tryz.func70, Tryz.ntmps70
  go_wp2_with (first
    | (go_at_call 47; refine (at_5 T C B _ _ _ hv (hs.below (by repeat' (first | with_reducible exact Below.refl _ _ | with_reducible assumption | with_reducible refine Below.alloc ?_ ?_ _ | with_reducible refine Below.setCell ?_ ?_ _ | with_reducible refine Below.drew ?_ | with_reducible refine below_drewN ?_ _ | with_reducible refine Below.trans ?_ (Below.mono (by with_reducible assumption) ?_) | omega | (simp <;> omega)))) (by decide) (by decide)).mono ?_; rintro e w1 ⟨rfl, hb1⟩; obtain ⟨hcc1, hff1⟩ := bcell hb1; have hs1 := hb1.size; (try simp at hs1); have hz1 : w.heap.size < w1.heap.size := (by omega); have hq1 : 0 < w1.heap.size := (by omega); rw [E1.out]))
  all_goals go_region
  all_goals go_wp2_with fail
  all_goals go_ret2
  all_goals exact ⟨rfl, (by repeat' (first | with_reducible exact Below.refl _ _ | with_reducible assumption | with_reducible refine Below.alloc ?_ ?_ _ | with_reducible refine Below.setCell ?_ ?_ _ | with_reducible refine Below.drew ?_ | with_reducible refine below_drewN ?_ _ | with_reducible refine Below.trans ?_ (Below.mono (by with_reducible assumption) ?_) | omega | (simp <;> omega)))⟩
end Go.Proofs.YtbomhhkknopdpaaGreatDoor
