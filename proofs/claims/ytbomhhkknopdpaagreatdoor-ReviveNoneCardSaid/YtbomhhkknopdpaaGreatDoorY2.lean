/- Package layout: between, Check, right, Size, at. -/
import Derived.Test.YtbomhhkknopdpaaGreatDoorY1
namespace Go.Proofs.YtbomhhkknopdpaaGreatDoor
set_option linter.unusedSimpArgs false
set_option linter.unusedVariables false
open Go.RowKit

theorem between_any (n a b : Int) (w : World) : Calls Tryz.prog 38 #[.int .i64 n, .int .i64 a, .int .i64 b] w fun e w' => e = .returned (.bool (decide (a ≤ n) && decide (n ≤ b))) ∧ w' = w := by
  by_cases h : a ≤ n
  all_goals go_enter Tryz.func38, Tryz.ntmps38
  all_goals go_wp2_with fail
  all_goals go_ret
  all_goals (refine ⟨?_, rfl⟩; simp [h] <;> omega)

/-- A valid layout. -/
def Valid (T C B : Int) : Prop := Fit T C B ∧ fromL T C B 7 ≤ 4096
set_option maxHeartbeats 1000000 in
theorem check_ok (T C B : Int) (w : World) (hv : Valid T C B) (hs : Sizes w) : Calls Tryz.prog 12 #[(.agg #[.int .i64 T, .int .i64 C, .int .i64 B])] w fun e w' => e = .returned (.int .i64 0) ∧ Below w.heap.size w w' := by
  obtain ⟨hf, hv⟩ := hv
  have HF := hide hf
  obtain ⟨f1, f2, f3, f4, f5, f6⟩ := hf
  have hp := hs.pos
  have b1 : ∀ w, Calls Tryz.prog 38 #[.int .i64 T, .int .i64 1, .int .i64 8] w fun e w' => e = .returned (.bool true) ∧ w' = w := fun w => by
    have := between_any T 1 8 w
    rw [show (decide (1 ≤ T) && decide (T ≤ 8)) = true by simp; omega] at this
    exact this
  have b2 : ∀ w, Calls Tryz.prog 38 #[.int .i64 C, .int .i64 1, .int .i64 2048] w fun e w' => e = .returned (.bool true) ∧ w' = w := fun w => by
    have := between_any C 1 2048 w
    rw [show (decide (1 ≤ C) && decide (C ≤ 2048)) = true by simp; omega] at this
    exact this
  have b3 : ∀ w, Calls Tryz.prog 38 #[.int .i64 B, .int .i64 0, .int .i64 64] w fun e w' => e = .returned (.bool true) ∧ w' = w := fun w => by
    have := between_any B 0 64 w
    rw [show (decide (0 ≤ B) && decide (B ≤ 64)) = true by simp; omega] at this
    exact this
  have B1 := hide b1
  have B2 := hide b2
  have B3 := hide b3
  clear b1 b2 b3
  go_enter Tryz.func12, Tryz.ntmps12
  go_wp2_with (first
    | (go_at_call 38; (first | (with_reducible refine (B1.out _).mono ?_) | (with_reducible refine (B2.out _).mono ?_) | (with_reducible refine (B3.out _).mono ?_)); rintro e w1 ⟨rfl, rfl⟩)
    | (go_at_call 39; refine (from_7 T C B _ HF.out (hs.below (by repeat' (first | with_reducible exact Below.refl _ _ | with_reducible assumption | with_reducible refine Below.alloc ?_ ?_ _ | with_reducible refine Below.setCell ?_ ?_ _ | with_reducible refine Below.drew ?_ | with_reducible refine below_drewN ?_ _ | with_reducible refine Below.trans ?_ (Below.mono (by with_reducible assumption) ?_) | omega | (simp <;> omega))))).mono ?_; rintro e w1 ⟨rfl, hb1⟩; obtain ⟨hcc1, hff1⟩ := bcell hb1; have hs1 := hb1.size; (try simp at hs1); have hz1 : w.heap.size < w1.heap.size := (by omega); have hq1 : 0 < w1.heap.size := (by omega)))
  go_ret
  exact ⟨rfl, (by repeat' (first | with_reducible exact Below.refl _ _ | with_reducible assumption | with_reducible refine Below.alloc ?_ ?_ _ | with_reducible refine Below.setCell ?_ ?_ _ | with_reducible refine Below.drew ?_ | with_reducible refine below_drewN ?_ _ | with_reducible refine Below.trans ?_ (Below.mono (by with_reducible assumption) ?_) | omega | (simp <;> omega)))⟩
theorem right_ok (T C B : Int) (w : World) (hv : Valid T C B) (hs : Sizes w) : Calls Tryz.prog 34 #[(.agg #[.int .i64 T, .int .i64 C, .int .i64 B])] w fun e w' => e = .returned (.bool true) ∧ Below w.heap.size w w' := by
  have hp := hs.pos
  go_enter Tryz.func34, Tryz.ntmps34
  go_wp2_with (first
    | (go_at_call 12; refine (check_ok T C B _ hv (hs.below (by repeat' (first | with_reducible exact Below.refl _ _ | with_reducible assumption | with_reducible refine Below.alloc ?_ ?_ _ | with_reducible refine Below.setCell ?_ ?_ _ | with_reducible refine Below.drew ?_ | with_reducible refine below_drewN ?_ _ | with_reducible refine Below.trans ?_ (Below.mono (by with_reducible assumption) ?_) | omega | (simp <;> omega))))).mono ?_; rintro e w1 ⟨rfl, hb1⟩; obtain ⟨hcc1, hff1⟩ := bcell hb1; have hs1 := hb1.size; (try simp at hs1); have hz1 : w.heap.size < w1.heap.size := (by omega); have hq1 : 0 < w1.heap.size := (by omega)))
  go_ret
  exact ⟨rfl, (by repeat' (first | with_reducible exact Below.refl _ _ | with_reducible assumption | with_reducible refine Below.alloc ?_ ?_ _ | with_reducible refine Below.setCell ?_ ?_ _ | with_reducible refine Below.drew ?_ | with_reducible refine below_drewN ?_ _ | with_reducible refine Below.trans ?_ (Below.mono (by with_reducible assumption) ?_) | omega | (simp <;> omega)))⟩
theorem size_ok (T C B : Int) (w : World) (hv : Valid T C B) (hs : Sizes w) : Calls Tryz.prog 21 #[(.agg #[.int .i64 T, .int .i64 C, .int .i64 B])] w fun e w' => e = .returned (.int .i64 (fromL T C B 7)) ∧ Below w.heap.size w w' := by
  have hp := hs.pos
  go_enter Tryz.func21, Tryz.ntmps21
  go_wp2_with (first
    | (go_at_call 34; refine (right_ok T C B _ hv (hs.below (by repeat' (first | with_reducible exact Below.refl _ _ | with_reducible assumption | with_reducible refine Below.alloc ?_ ?_ _ | with_reducible refine Below.setCell ?_ ?_ _ | with_reducible refine Below.drew ?_ | with_reducible refine below_drewN ?_ _ | with_reducible refine Below.trans ?_ (Below.mono (by with_reducible assumption) ?_) | omega | (simp <;> omega))))).mono ?_; rintro e w1 ⟨rfl, hb1⟩; obtain ⟨hcc1, hff1⟩ := bcell hb1; have hs1 := hb1.size; (try simp at hs1); have hz1 : w.heap.size < w1.heap.size := (by omega); have hq1 : 0 < w1.heap.size := (by omega))
    | (go_at_call 39; refine (from_7 T C B _ hv.1 (hs.below (by repeat' (first | with_reducible exact Below.refl _ _ | with_reducible assumption | with_reducible refine Below.alloc ?_ ?_ _ | with_reducible refine Below.setCell ?_ ?_ _ | with_reducible refine Below.drew ?_ | with_reducible refine below_drewN ?_ _ | with_reducible refine Below.trans ?_ (Below.mono (by with_reducible assumption) ?_) | omega | (simp <;> omega))))).mono ?_; rintro e w2 ⟨rfl, hb2⟩))
  go_ret
  exact ⟨rfl, (by repeat' (first | with_reducible exact Below.refl _ _ | with_reducible assumption | with_reducible refine Below.alloc ?_ ?_ _ | with_reducible refine Below.setCell ?_ ?_ _ | with_reducible refine Below.drew ?_ | with_reducible refine below_drewN ?_ _ | with_reducible refine Below.trans ?_ (Below.mono (by with_reducible assumption) ?_) | omega | (simp <;> omega)))⟩
def sizeL (p : Nat) : Int := [8, 8, 8, 1, 104, 0, 32].getD p 0
/-- The location of item i of a part, or -1. -/
def atL (T C B : Int) (p : Nat) (i more : Int) : Int := if 0 ≤ i ∧ i < manyL T C B p then fromL T C B p + i * sizeL p + more else -1
set_option maxHeartbeats 1000000 in
set_option maxRecDepth 100000 in
theorem at_0_in (T C B i more : Int) (w : World) (hv : Valid T C B) (hs : Sizes w) (h0 : 0 ≤ i) (h1 : i < manyL T C B 0) (m0 : 0 ≤ more) (m1 : more ≤ 1000) : Calls Tryz.prog 47 #[(.agg #[.int .i64 T, .int .i64 C, .int .i64 B]), .int .i64 0, .int .i64 i, .int .i64 more] w fun e w' => e = .returned (.int .i64 (fromL T C B 0 + i * sizeL 0 + more)) ∧ Below w.heap.size w w' := by
  have hp := hs.pos
  have z0 := hs 0 _ rfl
  have hm : (manyL T C B 0) = [1, T, T, C, T, B, B].getD 0 0 := rfl
  have hz : sizeL 0 = [8, 8, 8, 1, 104, 0, 32].getD 0 0 := rfl
  simp only [List.getD_cons_zero, List.getD_cons_succ] at hm hz
  have Hm := hide hm
  rw [hm] at h1
  rw [hz]
  clear hm hz
  obtain ⟨R, hR⟩ : ∃ R, R = (fromL T C B 0) := ⟨_, rfl⟩
  have r0 : 0 ≤ R ∧ R ≤ 2056 * 0 := by have := from_le T C B hv.1 0; rw [hR]; omega
  have hfr := fun W hs => from_0 T C B W hv.1 hs
  rw [← hR] at hfr ⊢
  have Hfr := hide hfr
  have Hv := hide hv
  obtain ⟨⟨f1, f2, f3, f4, f5, f6⟩, -⟩ := hv
  clear hfr hR
  go_enter Tryz.func47, Tryz.ntmps47
  go_wp2_with (first
    | (go_at_call 34; refine (right_ok T C B _ Hv.out (hs.below (by repeat' (first | with_reducible exact Below.refl _ _ | with_reducible assumption | with_reducible refine Below.alloc ?_ ?_ _ | with_reducible refine Below.setCell ?_ ?_ _ | with_reducible refine Below.drew ?_ | with_reducible refine below_drewN ?_ _ | with_reducible refine Below.trans ?_ (Below.mono (by with_reducible assumption) ?_) | omega | (simp <;> omega))))).mono ?_; rintro e w1 ⟨rfl, hb1⟩; obtain ⟨hcc1, hff1⟩ := bcell hb1; have hs1 := hb1.size; (try simp at hs1); have hz1 : w.heap.size < w1.heap.size := (by omega); have hq1 : 0 < w1.heap.size := (by omega))
    | (go_at_call 73; refine (many_0 T C B _).mono ?_; rintro e w2 ⟨rfl, hb2⟩; obtain ⟨hcc2, hff2⟩ := bcell hb2; have hs2 := hb2.size; (try simp at hs2); have hz2 : w.heap.size < w2.heap.size := (by omega); rw [Hm.out]))
  have hq : 0 < w2.heap.size := by omega
  go_region_held3 (fun w' => w'.cell? ⟨w.heap.size, 0, none⟩ = some (.int .i64 T) ∧ w'.cell? ⟨w.heap.size, 1, none⟩ = some (.int .i64 C) ∧ w'.cell? ⟨w.heap.size, 2, none⟩ = some (.int .i64 B) ∧ w'.cell? ⟨0, 0, none⟩ = some (.int .i64 ([8, 8, 8, 1, 104, 0, 32].getD 0 0)))
    (first | exact ⟨by go_simp, by go_simp, by go_simp, by go_simp⟩ | go_keep)
    (first
      | (go_at_call 39; refine (Hfr.out _ (hs.below (by repeat' (first | with_reducible exact Below.refl _ _ | with_reducible assumption | with_reducible refine Below.alloc ?_ ?_ _ | with_reducible refine Below.setCell ?_ ?_ _ | with_reducible refine Below.drew ?_ | with_reducible refine below_drewN ?_ _ | with_reducible refine Below.trans ?_ (Below.mono (by with_reducible assumption) ?_) | omega | (simp <;> omega))))).mono ?_; rintro e w3 ⟨rfl, hb3'⟩; have hb3 : Below _ _ w3 := (by first | with_reducible exact noDrew hb3' | exact hb3'); clear hb3'; obtain ⟨hcc3, hff3⟩ := bcell hb3; have hs3 := hb3.size; (try simp at hs3); have hz3 : w.heap.size < w3.heap.size := (by omega); have hq3 : 0 < w3.heap.size := (by omega)))
  all_goals go_wp2_with fail
  all_goals go_ret
  all_goals exact ⟨(by first | rfl | (refine congrArg (fun z => Ending.returned (Value.int IntKind.i64 z)) ?_; first | omega | (simp (disch := omega) only [IntWalk.i64_in]; done) | (simp (disch := omega) only [IntWalk.i64_in]; omega))), (by repeat' (first | with_reducible exact Below.refl _ _ | with_reducible assumption | with_reducible refine Below.alloc ?_ ?_ _ | with_reducible refine Below.setCell ?_ ?_ _ | with_reducible refine Below.drew ?_ | with_reducible refine below_drewN ?_ _ | with_reducible refine Below.trans ?_ (Below.mono (by with_reducible assumption) ?_) | omega | (simp <;> omega)))⟩
set_option maxHeartbeats 1000000 in
set_option maxRecDepth 100000 in
theorem at_0_out (T C B i more : Int) (w : World) (hv : Valid T C B) (hs : Sizes w) (h0 : ¬ (0 ≤ i ∧ i < manyL T C B 0)) : Calls Tryz.prog 47 #[(.agg #[.int .i64 T, .int .i64 C, .int .i64 B]), .int .i64 0, .int .i64 i, .int .i64 more] w fun e w' => e = .returned (.int .i64 (-1)) ∧ Below w.heap.size w w' := by
  have hp := hs.pos
  have hm : (manyL T C B 0) = [1, T, T, C, T, B, B].getD 0 0 := rfl
  simp only [List.getD_cons_zero, List.getD_cons_succ] at hm
  have Hm := hide hm
  rw [hm] at h0
  clear hm
  have Hv := hide hv
  obtain ⟨⟨f1, f2, f3, f4, f5, f6⟩, -⟩ := hv
  by_cases hi : i < 0
  · clear h0
    go_enter Tryz.func47, Tryz.ntmps47
    go_wp2_with (first
      | (go_at_call 34; refine (right_ok T C B _ Hv.out (hs.below (by repeat' (first | with_reducible exact Below.refl _ _ | with_reducible assumption | with_reducible refine Below.alloc ?_ ?_ _ | with_reducible refine Below.setCell ?_ ?_ _ | with_reducible refine Below.drew ?_ | with_reducible refine below_drewN ?_ _ | with_reducible refine Below.trans ?_ (Below.mono (by with_reducible assumption) ?_) | omega | (simp <;> omega))))).mono ?_; rintro e w1 ⟨rfl, hb1⟩; obtain ⟨hcc1, hff1⟩ := bcell hb1; have hs1 := hb1.size; (try simp at hs1); have hz1 : w.heap.size < w1.heap.size := (by omega); have hq1 : 0 < w1.heap.size := (by omega))
      | (go_at_call 73; refine (many_0 T C B _).mono ?_; rintro e w2 ⟨rfl, hb2⟩; obtain ⟨hcc2, hff2⟩ := bcell hb2; have hs2 := hb2.size; (try simp at hs2); have hz2 : w.heap.size < w2.heap.size := (by omega); rw [Hm.out]))
    all_goals go_ret
    all_goals exact ⟨rfl, (by repeat' (first | with_reducible exact Below.refl _ _ | with_reducible assumption | with_reducible refine Below.alloc ?_ ?_ _ | with_reducible refine Below.setCell ?_ ?_ _ | with_reducible refine Below.drew ?_ | with_reducible refine below_drewN ?_ _ | with_reducible refine Below.trans ?_ (Below.mono (by with_reducible assumption) ?_) | omega | (simp <;> omega)))⟩
  · have h1 : [1, T, T, C, T, B, B].getD 0 0 ≤ i := by simp only [List.getD_cons_zero, List.getD_cons_succ]; omega
    simp only [List.getD_cons_zero, List.getD_cons_succ] at h1
    clear h0
    go_enter Tryz.func47, Tryz.ntmps47
    go_wp2_with (first
      | (go_at_call 34; refine (right_ok T C B _ Hv.out (hs.below (by repeat' (first | with_reducible exact Below.refl _ _ | with_reducible assumption | with_reducible refine Below.alloc ?_ ?_ _ | with_reducible refine Below.setCell ?_ ?_ _ | with_reducible refine Below.drew ?_ | with_reducible refine below_drewN ?_ _ | with_reducible refine Below.trans ?_ (Below.mono (by with_reducible assumption) ?_) | omega | (simp <;> omega))))).mono ?_; rintro e w1 ⟨rfl, hb1⟩; obtain ⟨hcc1, hff1⟩ := bcell hb1; have hs1 := hb1.size; (try simp at hs1); have hz1 : w.heap.size < w1.heap.size := (by omega); have hq1 : 0 < w1.heap.size := (by omega))
      | (go_at_call 73; refine (many_0 T C B _).mono ?_; rintro e w2 ⟨rfl, hb2⟩; obtain ⟨hcc2, hff2⟩ := bcell hb2; have hs2 := hb2.size; (try simp at hs2); have hz2 : w.heap.size < w2.heap.size := (by omega); rw [Hm.out]))
    all_goals go_ret
    all_goals exact ⟨rfl, (by repeat' (first | with_reducible exact Below.refl _ _ | with_reducible assumption | with_reducible refine Below.alloc ?_ ?_ _ | with_reducible refine Below.setCell ?_ ?_ _ | with_reducible refine Below.drew ?_ | with_reducible refine below_drewN ?_ _ | with_reducible refine Below.trans ?_ (Below.mono (by with_reducible assumption) ?_) | omega | (simp <;> omega)))⟩
theorem at_0 (T C B i more : Int) (w : World) (hv : Valid T C B) (hs : Sizes w) (m0 : 0 ≤ more) (m1 : more ≤ 1000) : Calls Tryz.prog 47 #[(.agg #[.int .i64 T, .int .i64 C, .int .i64 B]), .int .i64 0, .int .i64 i, .int .i64 more] w fun e w' => e = .returned (.int .i64 (atL T C B 0 i more)) ∧ Below w.heap.size w w' := by
  unfold atL
  by_cases h : 0 ≤ i ∧ i < manyL T C B 0
  · rw [if_pos h]
    exact at_0_in T C B i more w hv hs h.1 h.2 m0 m1
  · rw [if_neg h]
    exact at_0_out T C B i more w hv hs h
set_option maxHeartbeats 1000000 in
set_option maxRecDepth 100000 in
theorem at_1_in (T C B i more : Int) (w : World) (hv : Valid T C B) (hs : Sizes w) (h0 : 0 ≤ i) (h1 : i < manyL T C B 1) (m0 : 0 ≤ more) (m1 : more ≤ 1000) : Calls Tryz.prog 47 #[(.agg #[.int .i64 T, .int .i64 C, .int .i64 B]), .int .i64 1, .int .i64 i, .int .i64 more] w fun e w' => e = .returned (.int .i64 (fromL T C B 1 + i * sizeL 1 + more)) ∧ Below w.heap.size w w' := by
  have hp := hs.pos
  have z0 := hs 1 _ rfl
  have hm : (manyL T C B 1) = [1, T, T, C, T, B, B].getD 1 0 := rfl
  have hz : sizeL 1 = [8, 8, 8, 1, 104, 0, 32].getD 1 0 := rfl
  simp only [List.getD_cons_zero, List.getD_cons_succ] at hm hz
  have Hm := hide hm
  rw [hm] at h1
  rw [hz]
  clear hm hz
  obtain ⟨R, hR⟩ : ∃ R, R = (fromL T C B 1) := ⟨_, rfl⟩
  have r0 : 0 ≤ R ∧ R ≤ 2056 * 1 := by have := from_le T C B hv.1 1; rw [hR]; omega
  have hfr := fun W hs => from_1 T C B W hv.1 hs
  rw [← hR] at hfr ⊢
  have Hfr := hide hfr
  have Hv := hide hv
  obtain ⟨⟨f1, f2, f3, f4, f5, f6⟩, -⟩ := hv
  clear hfr hR
  go_enter Tryz.func47, Tryz.ntmps47
  go_wp2_with (first
    | (go_at_call 34; refine (right_ok T C B _ Hv.out (hs.below (by repeat' (first | with_reducible exact Below.refl _ _ | with_reducible assumption | with_reducible refine Below.alloc ?_ ?_ _ | with_reducible refine Below.setCell ?_ ?_ _ | with_reducible refine Below.drew ?_ | with_reducible refine below_drewN ?_ _ | with_reducible refine Below.trans ?_ (Below.mono (by with_reducible assumption) ?_) | omega | (simp <;> omega))))).mono ?_; rintro e w1 ⟨rfl, hb1⟩; obtain ⟨hcc1, hff1⟩ := bcell hb1; have hs1 := hb1.size; (try simp at hs1); have hz1 : w.heap.size < w1.heap.size := (by omega); have hq1 : 0 < w1.heap.size := (by omega))
    | (go_at_call 73; refine (many_1 T C B _).mono ?_; rintro e w2 ⟨rfl, hb2⟩; obtain ⟨hcc2, hff2⟩ := bcell hb2; have hs2 := hb2.size; (try simp at hs2); have hz2 : w.heap.size < w2.heap.size := (by omega); rw [Hm.out]))
  have hq : 0 < w2.heap.size := by omega
  go_region_held3 (fun w' => w'.cell? ⟨w.heap.size, 0, none⟩ = some (.int .i64 T) ∧ w'.cell? ⟨w.heap.size, 1, none⟩ = some (.int .i64 C) ∧ w'.cell? ⟨w.heap.size, 2, none⟩ = some (.int .i64 B) ∧ w'.cell? ⟨0, 1, none⟩ = some (.int .i64 ([8, 8, 8, 1, 104, 0, 32].getD 1 0)))
    (first | exact ⟨by go_simp, by go_simp, by go_simp, by go_simp⟩ | go_keep)
    (first
      | (go_at_call 39; refine (Hfr.out _ (hs.below (by repeat' (first | with_reducible exact Below.refl _ _ | with_reducible assumption | with_reducible refine Below.alloc ?_ ?_ _ | with_reducible refine Below.setCell ?_ ?_ _ | with_reducible refine Below.drew ?_ | with_reducible refine below_drewN ?_ _ | with_reducible refine Below.trans ?_ (Below.mono (by with_reducible assumption) ?_) | omega | (simp <;> omega))))).mono ?_; rintro e w3 ⟨rfl, hb3'⟩; have hb3 : Below _ _ w3 := (by first | with_reducible exact noDrew hb3' | exact hb3'); clear hb3'; obtain ⟨hcc3, hff3⟩ := bcell hb3; have hs3 := hb3.size; (try simp at hs3); have hz3 : w.heap.size < w3.heap.size := (by omega); have hq3 : 0 < w3.heap.size := (by omega)))
  all_goals go_wp2_with fail
  all_goals go_ret
  all_goals exact ⟨(by first | rfl | (refine congrArg (fun z => Ending.returned (Value.int IntKind.i64 z)) ?_; first | omega | (simp (disch := omega) only [IntWalk.i64_in]; done) | (simp (disch := omega) only [IntWalk.i64_in]; omega))), (by repeat' (first | with_reducible exact Below.refl _ _ | with_reducible assumption | with_reducible refine Below.alloc ?_ ?_ _ | with_reducible refine Below.setCell ?_ ?_ _ | with_reducible refine Below.drew ?_ | with_reducible refine below_drewN ?_ _ | with_reducible refine Below.trans ?_ (Below.mono (by with_reducible assumption) ?_) | omega | (simp <;> omega)))⟩
set_option maxHeartbeats 1000000 in
set_option maxRecDepth 100000 in
theorem at_1_out (T C B i more : Int) (w : World) (hv : Valid T C B) (hs : Sizes w) (h0 : ¬ (0 ≤ i ∧ i < manyL T C B 1)) : Calls Tryz.prog 47 #[(.agg #[.int .i64 T, .int .i64 C, .int .i64 B]), .int .i64 1, .int .i64 i, .int .i64 more] w fun e w' => e = .returned (.int .i64 (-1)) ∧ Below w.heap.size w w' := by
  have hp := hs.pos
  have hm : (manyL T C B 1) = [1, T, T, C, T, B, B].getD 1 0 := rfl
  simp only [List.getD_cons_zero, List.getD_cons_succ] at hm
  have Hm := hide hm
  rw [hm] at h0
  clear hm
  have Hv := hide hv
  obtain ⟨⟨f1, f2, f3, f4, f5, f6⟩, -⟩ := hv
  by_cases hi : i < 0
  · clear h0
    go_enter Tryz.func47, Tryz.ntmps47
    go_wp2_with (first
      | (go_at_call 34; refine (right_ok T C B _ Hv.out (hs.below (by repeat' (first | with_reducible exact Below.refl _ _ | with_reducible assumption | with_reducible refine Below.alloc ?_ ?_ _ | with_reducible refine Below.setCell ?_ ?_ _ | with_reducible refine Below.drew ?_ | with_reducible refine below_drewN ?_ _ | with_reducible refine Below.trans ?_ (Below.mono (by with_reducible assumption) ?_) | omega | (simp <;> omega))))).mono ?_; rintro e w1 ⟨rfl, hb1⟩; obtain ⟨hcc1, hff1⟩ := bcell hb1; have hs1 := hb1.size; (try simp at hs1); have hz1 : w.heap.size < w1.heap.size := (by omega); have hq1 : 0 < w1.heap.size := (by omega))
      | (go_at_call 73; refine (many_1 T C B _).mono ?_; rintro e w2 ⟨rfl, hb2⟩; obtain ⟨hcc2, hff2⟩ := bcell hb2; have hs2 := hb2.size; (try simp at hs2); have hz2 : w.heap.size < w2.heap.size := (by omega); rw [Hm.out]))
    all_goals go_ret
    all_goals exact ⟨rfl, (by repeat' (first | with_reducible exact Below.refl _ _ | with_reducible assumption | with_reducible refine Below.alloc ?_ ?_ _ | with_reducible refine Below.setCell ?_ ?_ _ | with_reducible refine Below.drew ?_ | with_reducible refine below_drewN ?_ _ | with_reducible refine Below.trans ?_ (Below.mono (by with_reducible assumption) ?_) | omega | (simp <;> omega)))⟩
  · have h1 : [1, T, T, C, T, B, B].getD 1 0 ≤ i := by simp only [List.getD_cons_zero, List.getD_cons_succ]; omega
    simp only [List.getD_cons_zero, List.getD_cons_succ] at h1
    clear h0
    go_enter Tryz.func47, Tryz.ntmps47
    go_wp2_with (first
      | (go_at_call 34; refine (right_ok T C B _ Hv.out (hs.below (by repeat' (first | with_reducible exact Below.refl _ _ | with_reducible assumption | with_reducible refine Below.alloc ?_ ?_ _ | with_reducible refine Below.setCell ?_ ?_ _ | with_reducible refine Below.drew ?_ | with_reducible refine below_drewN ?_ _ | with_reducible refine Below.trans ?_ (Below.mono (by with_reducible assumption) ?_) | omega | (simp <;> omega))))).mono ?_; rintro e w1 ⟨rfl, hb1⟩; obtain ⟨hcc1, hff1⟩ := bcell hb1; have hs1 := hb1.size; (try simp at hs1); have hz1 : w.heap.size < w1.heap.size := (by omega); have hq1 : 0 < w1.heap.size := (by omega))
      | (go_at_call 73; refine (many_1 T C B _).mono ?_; rintro e w2 ⟨rfl, hb2⟩; obtain ⟨hcc2, hff2⟩ := bcell hb2; have hs2 := hb2.size; (try simp at hs2); have hz2 : w.heap.size < w2.heap.size := (by omega); rw [Hm.out]))
    all_goals go_ret
    all_goals exact ⟨rfl, (by repeat' (first | with_reducible exact Below.refl _ _ | with_reducible assumption | with_reducible refine Below.alloc ?_ ?_ _ | with_reducible refine Below.setCell ?_ ?_ _ | with_reducible refine Below.drew ?_ | with_reducible refine below_drewN ?_ _ | with_reducible refine Below.trans ?_ (Below.mono (by with_reducible assumption) ?_) | omega | (simp <;> omega)))⟩
theorem at_1 (T C B i more : Int) (w : World) (hv : Valid T C B) (hs : Sizes w) (m0 : 0 ≤ more) (m1 : more ≤ 1000) : Calls Tryz.prog 47 #[(.agg #[.int .i64 T, .int .i64 C, .int .i64 B]), .int .i64 1, .int .i64 i, .int .i64 more] w fun e w' => e = .returned (.int .i64 (atL T C B 1 i more)) ∧ Below w.heap.size w w' := by
  unfold atL
  by_cases h : 0 ≤ i ∧ i < manyL T C B 1
  · rw [if_pos h]
    exact at_1_in T C B i more w hv hs h.1 h.2 m0 m1
  · rw [if_neg h]
    exact at_1_out T C B i more w hv hs h
set_option maxHeartbeats 1000000 in
set_option maxRecDepth 100000 in
theorem at_2_in (T C B i more : Int) (w : World) (hv : Valid T C B) (hs : Sizes w) (h0 : 0 ≤ i) (h1 : i < manyL T C B 2) (m0 : 0 ≤ more) (m1 : more ≤ 1000) : Calls Tryz.prog 47 #[(.agg #[.int .i64 T, .int .i64 C, .int .i64 B]), .int .i64 2, .int .i64 i, .int .i64 more] w fun e w' => e = .returned (.int .i64 (fromL T C B 2 + i * sizeL 2 + more)) ∧ Below w.heap.size w w' := by
  have hp := hs.pos
  have z0 := hs 2 _ rfl
  have hm : (manyL T C B 2) = [1, T, T, C, T, B, B].getD 2 0 := rfl
  have hz : sizeL 2 = [8, 8, 8, 1, 104, 0, 32].getD 2 0 := rfl
  simp only [List.getD_cons_zero, List.getD_cons_succ] at hm hz
  have Hm := hide hm
  rw [hm] at h1
  rw [hz]
  clear hm hz
  obtain ⟨R, hR⟩ : ∃ R, R = (fromL T C B 2) := ⟨_, rfl⟩
  have r0 : 0 ≤ R ∧ R ≤ 2056 * 2 := by have := from_le T C B hv.1 2; rw [hR]; omega
  have hfr := fun W hs => from_2 T C B W hv.1 hs
  rw [← hR] at hfr ⊢
  have Hfr := hide hfr
  have Hv := hide hv
  obtain ⟨⟨f1, f2, f3, f4, f5, f6⟩, -⟩ := hv
  clear hfr hR
  go_enter Tryz.func47, Tryz.ntmps47
  go_wp2_with (first
    | (go_at_call 34; refine (right_ok T C B _ Hv.out (hs.below (by repeat' (first | with_reducible exact Below.refl _ _ | with_reducible assumption | with_reducible refine Below.alloc ?_ ?_ _ | with_reducible refine Below.setCell ?_ ?_ _ | with_reducible refine Below.drew ?_ | with_reducible refine below_drewN ?_ _ | with_reducible refine Below.trans ?_ (Below.mono (by with_reducible assumption) ?_) | omega | (simp <;> omega))))).mono ?_; rintro e w1 ⟨rfl, hb1⟩; obtain ⟨hcc1, hff1⟩ := bcell hb1; have hs1 := hb1.size; (try simp at hs1); have hz1 : w.heap.size < w1.heap.size := (by omega); have hq1 : 0 < w1.heap.size := (by omega))
    | (go_at_call 73; refine (many_2 T C B _).mono ?_; rintro e w2 ⟨rfl, hb2⟩; obtain ⟨hcc2, hff2⟩ := bcell hb2; have hs2 := hb2.size; (try simp at hs2); have hz2 : w.heap.size < w2.heap.size := (by omega); rw [Hm.out]))
  have hq : 0 < w2.heap.size := by omega
  go_region_held3 (fun w' => w'.cell? ⟨w.heap.size, 0, none⟩ = some (.int .i64 T) ∧ w'.cell? ⟨w.heap.size, 1, none⟩ = some (.int .i64 C) ∧ w'.cell? ⟨w.heap.size, 2, none⟩ = some (.int .i64 B) ∧ w'.cell? ⟨0, 2, none⟩ = some (.int .i64 ([8, 8, 8, 1, 104, 0, 32].getD 2 0)))
    (first | exact ⟨by go_simp, by go_simp, by go_simp, by go_simp⟩ | go_keep)
    (first
      | (go_at_call 39; refine (Hfr.out _ (hs.below (by repeat' (first | with_reducible exact Below.refl _ _ | with_reducible assumption | with_reducible refine Below.alloc ?_ ?_ _ | with_reducible refine Below.setCell ?_ ?_ _ | with_reducible refine Below.drew ?_ | with_reducible refine below_drewN ?_ _ | with_reducible refine Below.trans ?_ (Below.mono (by with_reducible assumption) ?_) | omega | (simp <;> omega))))).mono ?_; rintro e w3 ⟨rfl, hb3'⟩; have hb3 : Below _ _ w3 := (by first | with_reducible exact noDrew hb3' | exact hb3'); clear hb3'; obtain ⟨hcc3, hff3⟩ := bcell hb3; have hs3 := hb3.size; (try simp at hs3); have hz3 : w.heap.size < w3.heap.size := (by omega); have hq3 : 0 < w3.heap.size := (by omega)))
  all_goals go_wp2_with fail
  all_goals go_ret
  all_goals exact ⟨(by first | rfl | (refine congrArg (fun z => Ending.returned (Value.int IntKind.i64 z)) ?_; first | omega | (simp (disch := omega) only [IntWalk.i64_in]; done) | (simp (disch := omega) only [IntWalk.i64_in]; omega))), (by repeat' (first | with_reducible exact Below.refl _ _ | with_reducible assumption | with_reducible refine Below.alloc ?_ ?_ _ | with_reducible refine Below.setCell ?_ ?_ _ | with_reducible refine Below.drew ?_ | with_reducible refine below_drewN ?_ _ | with_reducible refine Below.trans ?_ (Below.mono (by with_reducible assumption) ?_) | omega | (simp <;> omega)))⟩
set_option maxHeartbeats 1000000 in
set_option maxRecDepth 100000 in
theorem at_2_out (T C B i more : Int) (w : World) (hv : Valid T C B) (hs : Sizes w) (h0 : ¬ (0 ≤ i ∧ i < manyL T C B 2)) : Calls Tryz.prog 47 #[(.agg #[.int .i64 T, .int .i64 C, .int .i64 B]), .int .i64 2, .int .i64 i, .int .i64 more] w fun e w' => e = .returned (.int .i64 (-1)) ∧ Below w.heap.size w w' := by
  have hp := hs.pos
  have hm : (manyL T C B 2) = [1, T, T, C, T, B, B].getD 2 0 := rfl
  simp only [List.getD_cons_zero, List.getD_cons_succ] at hm
  have Hm := hide hm
  rw [hm] at h0
  clear hm
  have Hv := hide hv
  obtain ⟨⟨f1, f2, f3, f4, f5, f6⟩, -⟩ := hv
  by_cases hi : i < 0
  · clear h0
    go_enter Tryz.func47, Tryz.ntmps47
    go_wp2_with (first
      | (go_at_call 34; refine (right_ok T C B _ Hv.out (hs.below (by repeat' (first | with_reducible exact Below.refl _ _ | with_reducible assumption | with_reducible refine Below.alloc ?_ ?_ _ | with_reducible refine Below.setCell ?_ ?_ _ | with_reducible refine Below.drew ?_ | with_reducible refine below_drewN ?_ _ | with_reducible refine Below.trans ?_ (Below.mono (by with_reducible assumption) ?_) | omega | (simp <;> omega))))).mono ?_; rintro e w1 ⟨rfl, hb1⟩; obtain ⟨hcc1, hff1⟩ := bcell hb1; have hs1 := hb1.size; (try simp at hs1); have hz1 : w.heap.size < w1.heap.size := (by omega); have hq1 : 0 < w1.heap.size := (by omega))
      | (go_at_call 73; refine (many_2 T C B _).mono ?_; rintro e w2 ⟨rfl, hb2⟩; obtain ⟨hcc2, hff2⟩ := bcell hb2; have hs2 := hb2.size; (try simp at hs2); have hz2 : w.heap.size < w2.heap.size := (by omega); rw [Hm.out]))
    all_goals go_ret
    all_goals exact ⟨rfl, (by repeat' (first | with_reducible exact Below.refl _ _ | with_reducible assumption | with_reducible refine Below.alloc ?_ ?_ _ | with_reducible refine Below.setCell ?_ ?_ _ | with_reducible refine Below.drew ?_ | with_reducible refine below_drewN ?_ _ | with_reducible refine Below.trans ?_ (Below.mono (by with_reducible assumption) ?_) | omega | (simp <;> omega)))⟩
  · have h1 : [1, T, T, C, T, B, B].getD 2 0 ≤ i := by simp only [List.getD_cons_zero, List.getD_cons_succ]; omega
    simp only [List.getD_cons_zero, List.getD_cons_succ] at h1
    clear h0
    go_enter Tryz.func47, Tryz.ntmps47
    go_wp2_with (first
      | (go_at_call 34; refine (right_ok T C B _ Hv.out (hs.below (by repeat' (first | with_reducible exact Below.refl _ _ | with_reducible assumption | with_reducible refine Below.alloc ?_ ?_ _ | with_reducible refine Below.setCell ?_ ?_ _ | with_reducible refine Below.drew ?_ | with_reducible refine below_drewN ?_ _ | with_reducible refine Below.trans ?_ (Below.mono (by with_reducible assumption) ?_) | omega | (simp <;> omega))))).mono ?_; rintro e w1 ⟨rfl, hb1⟩; obtain ⟨hcc1, hff1⟩ := bcell hb1; have hs1 := hb1.size; (try simp at hs1); have hz1 : w.heap.size < w1.heap.size := (by omega); have hq1 : 0 < w1.heap.size := (by omega))
      | (go_at_call 73; refine (many_2 T C B _).mono ?_; rintro e w2 ⟨rfl, hb2⟩; obtain ⟨hcc2, hff2⟩ := bcell hb2; have hs2 := hb2.size; (try simp at hs2); have hz2 : w.heap.size < w2.heap.size := (by omega); rw [Hm.out]))
    all_goals go_ret
    all_goals exact ⟨rfl, (by repeat' (first | with_reducible exact Below.refl _ _ | with_reducible assumption | with_reducible refine Below.alloc ?_ ?_ _ | with_reducible refine Below.setCell ?_ ?_ _ | with_reducible refine Below.drew ?_ | with_reducible refine below_drewN ?_ _ | with_reducible refine Below.trans ?_ (Below.mono (by with_reducible assumption) ?_) | omega | (simp <;> omega)))⟩
theorem at_2 (T C B i more : Int) (w : World) (hv : Valid T C B) (hs : Sizes w) (m0 : 0 ≤ more) (m1 : more ≤ 1000) : Calls Tryz.prog 47 #[(.agg #[.int .i64 T, .int .i64 C, .int .i64 B]), .int .i64 2, .int .i64 i, .int .i64 more] w fun e w' => e = .returned (.int .i64 (atL T C B 2 i more)) ∧ Below w.heap.size w w' := by
  unfold atL
  by_cases h : 0 ≤ i ∧ i < manyL T C B 2
  · rw [if_pos h]
    exact at_2_in T C B i more w hv hs h.1 h.2 m0 m1
  · rw [if_neg h]
    exact at_2_out T C B i more w hv hs h
set_option maxHeartbeats 1000000 in
set_option maxRecDepth 100000 in
theorem at_3_in (T C B i more : Int) (w : World) (hv : Valid T C B) (hs : Sizes w) (h0 : 0 ≤ i) (h1 : i < manyL T C B 3) (m0 : 0 ≤ more) (m1 : more ≤ 1000) : Calls Tryz.prog 47 #[(.agg #[.int .i64 T, .int .i64 C, .int .i64 B]), .int .i64 3, .int .i64 i, .int .i64 more] w fun e w' => e = .returned (.int .i64 (fromL T C B 3 + i * sizeL 3 + more)) ∧ Below w.heap.size w w' := by
  have hp := hs.pos
  have z0 := hs 3 _ rfl
  have hm : (manyL T C B 3) = [1, T, T, C, T, B, B].getD 3 0 := rfl
  have hz : sizeL 3 = [8, 8, 8, 1, 104, 0, 32].getD 3 0 := rfl
  simp only [List.getD_cons_zero, List.getD_cons_succ] at hm hz
  have Hm := hide hm
  rw [hm] at h1
  rw [hz]
  clear hm hz
  obtain ⟨R, hR⟩ : ∃ R, R = (fromL T C B 3) := ⟨_, rfl⟩
  have r0 : 0 ≤ R ∧ R ≤ 2056 * 3 := by have := from_le T C B hv.1 3; rw [hR]; omega
  have hfr := fun W hs => from_3 T C B W hv.1 hs
  rw [← hR] at hfr ⊢
  have Hfr := hide hfr
  have Hv := hide hv
  obtain ⟨⟨f1, f2, f3, f4, f5, f6⟩, -⟩ := hv
  clear hfr hR
  go_enter Tryz.func47, Tryz.ntmps47
  go_wp2_with (first
    | (go_at_call 34; refine (right_ok T C B _ Hv.out (hs.below (by repeat' (first | with_reducible exact Below.refl _ _ | with_reducible assumption | with_reducible refine Below.alloc ?_ ?_ _ | with_reducible refine Below.setCell ?_ ?_ _ | with_reducible refine Below.drew ?_ | with_reducible refine below_drewN ?_ _ | with_reducible refine Below.trans ?_ (Below.mono (by with_reducible assumption) ?_) | omega | (simp <;> omega))))).mono ?_; rintro e w1 ⟨rfl, hb1⟩; obtain ⟨hcc1, hff1⟩ := bcell hb1; have hs1 := hb1.size; (try simp at hs1); have hz1 : w.heap.size < w1.heap.size := (by omega); have hq1 : 0 < w1.heap.size := (by omega))
    | (go_at_call 73; refine (many_3 T C B _).mono ?_; rintro e w2 ⟨rfl, hb2⟩; obtain ⟨hcc2, hff2⟩ := bcell hb2; have hs2 := hb2.size; (try simp at hs2); have hz2 : w.heap.size < w2.heap.size := (by omega); rw [Hm.out]))
  have hq : 0 < w2.heap.size := by omega
  go_region_held3 (fun w' => w'.cell? ⟨w.heap.size, 0, none⟩ = some (.int .i64 T) ∧ w'.cell? ⟨w.heap.size, 1, none⟩ = some (.int .i64 C) ∧ w'.cell? ⟨w.heap.size, 2, none⟩ = some (.int .i64 B) ∧ w'.cell? ⟨0, 3, none⟩ = some (.int .i64 ([8, 8, 8, 1, 104, 0, 32].getD 3 0)))
    (first | exact ⟨by go_simp, by go_simp, by go_simp, by go_simp⟩ | go_keep)
    (first
      | (go_at_call 39; refine (Hfr.out _ (hs.below (by repeat' (first | with_reducible exact Below.refl _ _ | with_reducible assumption | with_reducible refine Below.alloc ?_ ?_ _ | with_reducible refine Below.setCell ?_ ?_ _ | with_reducible refine Below.drew ?_ | with_reducible refine below_drewN ?_ _ | with_reducible refine Below.trans ?_ (Below.mono (by with_reducible assumption) ?_) | omega | (simp <;> omega))))).mono ?_; rintro e w3 ⟨rfl, hb3'⟩; have hb3 : Below _ _ w3 := (by first | with_reducible exact noDrew hb3' | exact hb3'); clear hb3'; obtain ⟨hcc3, hff3⟩ := bcell hb3; have hs3 := hb3.size; (try simp at hs3); have hz3 : w.heap.size < w3.heap.size := (by omega); have hq3 : 0 < w3.heap.size := (by omega)))
  all_goals go_wp2_with fail
  all_goals go_ret
  all_goals exact ⟨(by first | rfl | (refine congrArg (fun z => Ending.returned (Value.int IntKind.i64 z)) ?_; first | omega | (simp (disch := omega) only [IntWalk.i64_in]; done) | (simp (disch := omega) only [IntWalk.i64_in]; omega))), (by repeat' (first | with_reducible exact Below.refl _ _ | with_reducible assumption | with_reducible refine Below.alloc ?_ ?_ _ | with_reducible refine Below.setCell ?_ ?_ _ | with_reducible refine Below.drew ?_ | with_reducible refine below_drewN ?_ _ | with_reducible refine Below.trans ?_ (Below.mono (by with_reducible assumption) ?_) | omega | (simp <;> omega)))⟩
set_option maxHeartbeats 1000000 in
set_option maxRecDepth 100000 in
theorem at_3_out (T C B i more : Int) (w : World) (hv : Valid T C B) (hs : Sizes w) (h0 : ¬ (0 ≤ i ∧ i < manyL T C B 3)) : Calls Tryz.prog 47 #[(.agg #[.int .i64 T, .int .i64 C, .int .i64 B]), .int .i64 3, .int .i64 i, .int .i64 more] w fun e w' => e = .returned (.int .i64 (-1)) ∧ Below w.heap.size w w' := by
  have hp := hs.pos
  have hm : (manyL T C B 3) = [1, T, T, C, T, B, B].getD 3 0 := rfl
  simp only [List.getD_cons_zero, List.getD_cons_succ] at hm
  have Hm := hide hm
  rw [hm] at h0
  clear hm
  have Hv := hide hv
  obtain ⟨⟨f1, f2, f3, f4, f5, f6⟩, -⟩ := hv
  by_cases hi : i < 0
  · clear h0
    go_enter Tryz.func47, Tryz.ntmps47
    go_wp2_with (first
      | (go_at_call 34; refine (right_ok T C B _ Hv.out (hs.below (by repeat' (first | with_reducible exact Below.refl _ _ | with_reducible assumption | with_reducible refine Below.alloc ?_ ?_ _ | with_reducible refine Below.setCell ?_ ?_ _ | with_reducible refine Below.drew ?_ | with_reducible refine below_drewN ?_ _ | with_reducible refine Below.trans ?_ (Below.mono (by with_reducible assumption) ?_) | omega | (simp <;> omega))))).mono ?_; rintro e w1 ⟨rfl, hb1⟩; obtain ⟨hcc1, hff1⟩ := bcell hb1; have hs1 := hb1.size; (try simp at hs1); have hz1 : w.heap.size < w1.heap.size := (by omega); have hq1 : 0 < w1.heap.size := (by omega))
      | (go_at_call 73; refine (many_3 T C B _).mono ?_; rintro e w2 ⟨rfl, hb2⟩; obtain ⟨hcc2, hff2⟩ := bcell hb2; have hs2 := hb2.size; (try simp at hs2); have hz2 : w.heap.size < w2.heap.size := (by omega); rw [Hm.out]))
    all_goals go_ret
    all_goals exact ⟨rfl, (by repeat' (first | with_reducible exact Below.refl _ _ | with_reducible assumption | with_reducible refine Below.alloc ?_ ?_ _ | with_reducible refine Below.setCell ?_ ?_ _ | with_reducible refine Below.drew ?_ | with_reducible refine below_drewN ?_ _ | with_reducible refine Below.trans ?_ (Below.mono (by with_reducible assumption) ?_) | omega | (simp <;> omega)))⟩
  · have h1 : [1, T, T, C, T, B, B].getD 3 0 ≤ i := by simp only [List.getD_cons_zero, List.getD_cons_succ]; omega
    simp only [List.getD_cons_zero, List.getD_cons_succ] at h1
    clear h0
    go_enter Tryz.func47, Tryz.ntmps47
    go_wp2_with (first
      | (go_at_call 34; refine (right_ok T C B _ Hv.out (hs.below (by repeat' (first | with_reducible exact Below.refl _ _ | with_reducible assumption | with_reducible refine Below.alloc ?_ ?_ _ | with_reducible refine Below.setCell ?_ ?_ _ | with_reducible refine Below.drew ?_ | with_reducible refine below_drewN ?_ _ | with_reducible refine Below.trans ?_ (Below.mono (by with_reducible assumption) ?_) | omega | (simp <;> omega))))).mono ?_; rintro e w1 ⟨rfl, hb1⟩; obtain ⟨hcc1, hff1⟩ := bcell hb1; have hs1 := hb1.size; (try simp at hs1); have hz1 : w.heap.size < w1.heap.size := (by omega); have hq1 : 0 < w1.heap.size := (by omega))
      | (go_at_call 73; refine (many_3 T C B _).mono ?_; rintro e w2 ⟨rfl, hb2⟩; obtain ⟨hcc2, hff2⟩ := bcell hb2; have hs2 := hb2.size; (try simp at hs2); have hz2 : w.heap.size < w2.heap.size := (by omega); rw [Hm.out]))
    all_goals go_ret
    all_goals exact ⟨rfl, (by repeat' (first | with_reducible exact Below.refl _ _ | with_reducible assumption | with_reducible refine Below.alloc ?_ ?_ _ | with_reducible refine Below.setCell ?_ ?_ _ | with_reducible refine Below.drew ?_ | with_reducible refine below_drewN ?_ _ | with_reducible refine Below.trans ?_ (Below.mono (by with_reducible assumption) ?_) | omega | (simp <;> omega)))⟩
theorem at_3 (T C B i more : Int) (w : World) (hv : Valid T C B) (hs : Sizes w) (m0 : 0 ≤ more) (m1 : more ≤ 1000) : Calls Tryz.prog 47 #[(.agg #[.int .i64 T, .int .i64 C, .int .i64 B]), .int .i64 3, .int .i64 i, .int .i64 more] w fun e w' => e = .returned (.int .i64 (atL T C B 3 i more)) ∧ Below w.heap.size w w' := by
  unfold atL
  by_cases h : 0 ≤ i ∧ i < manyL T C B 3
  · rw [if_pos h]
    exact at_3_in T C B i more w hv hs h.1 h.2 m0 m1
  · rw [if_neg h]
    exact at_3_out T C B i more w hv hs h
set_option maxHeartbeats 1000000 in
set_option maxRecDepth 100000 in
theorem at_4_in (T C B i more : Int) (w : World) (hv : Valid T C B) (hs : Sizes w) (h0 : 0 ≤ i) (h1 : i < manyL T C B 4) (m0 : 0 ≤ more) (m1 : more ≤ 1000) : Calls Tryz.prog 47 #[(.agg #[.int .i64 T, .int .i64 C, .int .i64 B]), .int .i64 4, .int .i64 i, .int .i64 more] w fun e w' => e = .returned (.int .i64 (fromL T C B 4 + i * sizeL 4 + more)) ∧ Below w.heap.size w w' := by
  have hp := hs.pos
  have z0 := hs 4 _ rfl
  have hm : (manyL T C B 4) = [1, T, T, C, T, B, B].getD 4 0 := rfl
  have hz : sizeL 4 = [8, 8, 8, 1, 104, 0, 32].getD 4 0 := rfl
  simp only [List.getD_cons_zero, List.getD_cons_succ] at hm hz
  have Hm := hide hm
  rw [hm] at h1
  rw [hz]
  clear hm hz
  obtain ⟨R, hR⟩ : ∃ R, R = (fromL T C B 4) := ⟨_, rfl⟩
  have r0 : 0 ≤ R ∧ R ≤ 2056 * 4 := by have := from_le T C B hv.1 4; rw [hR]; omega
  have hfr := fun W hs => from_4 T C B W hv.1 hs
  rw [← hR] at hfr ⊢
  have Hfr := hide hfr
  have Hv := hide hv
  obtain ⟨⟨f1, f2, f3, f4, f5, f6⟩, -⟩ := hv
  clear hfr hR
  go_enter Tryz.func47, Tryz.ntmps47
  go_wp2_with (first
    | (go_at_call 34; refine (right_ok T C B _ Hv.out (hs.below (by repeat' (first | with_reducible exact Below.refl _ _ | with_reducible assumption | with_reducible refine Below.alloc ?_ ?_ _ | with_reducible refine Below.setCell ?_ ?_ _ | with_reducible refine Below.drew ?_ | with_reducible refine below_drewN ?_ _ | with_reducible refine Below.trans ?_ (Below.mono (by with_reducible assumption) ?_) | omega | (simp <;> omega))))).mono ?_; rintro e w1 ⟨rfl, hb1⟩; obtain ⟨hcc1, hff1⟩ := bcell hb1; have hs1 := hb1.size; (try simp at hs1); have hz1 : w.heap.size < w1.heap.size := (by omega); have hq1 : 0 < w1.heap.size := (by omega))
    | (go_at_call 73; refine (many_4 T C B _).mono ?_; rintro e w2 ⟨rfl, hb2⟩; obtain ⟨hcc2, hff2⟩ := bcell hb2; have hs2 := hb2.size; (try simp at hs2); have hz2 : w.heap.size < w2.heap.size := (by omega); rw [Hm.out]))
  have hq : 0 < w2.heap.size := by omega
  go_region_held3 (fun w' => w'.cell? ⟨w.heap.size, 0, none⟩ = some (.int .i64 T) ∧ w'.cell? ⟨w.heap.size, 1, none⟩ = some (.int .i64 C) ∧ w'.cell? ⟨w.heap.size, 2, none⟩ = some (.int .i64 B) ∧ w'.cell? ⟨0, 4, none⟩ = some (.int .i64 ([8, 8, 8, 1, 104, 0, 32].getD 4 0)))
    (first | exact ⟨by go_simp, by go_simp, by go_simp, by go_simp⟩ | go_keep)
    (first
      | (go_at_call 39; refine (Hfr.out _ (hs.below (by repeat' (first | with_reducible exact Below.refl _ _ | with_reducible assumption | with_reducible refine Below.alloc ?_ ?_ _ | with_reducible refine Below.setCell ?_ ?_ _ | with_reducible refine Below.drew ?_ | with_reducible refine below_drewN ?_ _ | with_reducible refine Below.trans ?_ (Below.mono (by with_reducible assumption) ?_) | omega | (simp <;> omega))))).mono ?_; rintro e w3 ⟨rfl, hb3'⟩; have hb3 : Below _ _ w3 := (by first | with_reducible exact noDrew hb3' | exact hb3'); clear hb3'; obtain ⟨hcc3, hff3⟩ := bcell hb3; have hs3 := hb3.size; (try simp at hs3); have hz3 : w.heap.size < w3.heap.size := (by omega); have hq3 : 0 < w3.heap.size := (by omega)))
  all_goals go_wp2_with fail
  all_goals go_ret
  all_goals exact ⟨(by first | rfl | (refine congrArg (fun z => Ending.returned (Value.int IntKind.i64 z)) ?_; first | omega | (simp (disch := omega) only [IntWalk.i64_in]; done) | (simp (disch := omega) only [IntWalk.i64_in]; omega))), (by repeat' (first | with_reducible exact Below.refl _ _ | with_reducible assumption | with_reducible refine Below.alloc ?_ ?_ _ | with_reducible refine Below.setCell ?_ ?_ _ | with_reducible refine Below.drew ?_ | with_reducible refine below_drewN ?_ _ | with_reducible refine Below.trans ?_ (Below.mono (by with_reducible assumption) ?_) | omega | (simp <;> omega)))⟩
set_option maxHeartbeats 1000000 in
set_option maxRecDepth 100000 in
theorem at_4_out (T C B i more : Int) (w : World) (hv : Valid T C B) (hs : Sizes w) (h0 : ¬ (0 ≤ i ∧ i < manyL T C B 4)) : Calls Tryz.prog 47 #[(.agg #[.int .i64 T, .int .i64 C, .int .i64 B]), .int .i64 4, .int .i64 i, .int .i64 more] w fun e w' => e = .returned (.int .i64 (-1)) ∧ Below w.heap.size w w' := by
  have hp := hs.pos
  have hm : (manyL T C B 4) = [1, T, T, C, T, B, B].getD 4 0 := rfl
  simp only [List.getD_cons_zero, List.getD_cons_succ] at hm
  have Hm := hide hm
  rw [hm] at h0
  clear hm
  have Hv := hide hv
  obtain ⟨⟨f1, f2, f3, f4, f5, f6⟩, -⟩ := hv
  by_cases hi : i < 0
  · clear h0
    go_enter Tryz.func47, Tryz.ntmps47
    go_wp2_with (first
      | (go_at_call 34; refine (right_ok T C B _ Hv.out (hs.below (by repeat' (first | with_reducible exact Below.refl _ _ | with_reducible assumption | with_reducible refine Below.alloc ?_ ?_ _ | with_reducible refine Below.setCell ?_ ?_ _ | with_reducible refine Below.drew ?_ | with_reducible refine below_drewN ?_ _ | with_reducible refine Below.trans ?_ (Below.mono (by with_reducible assumption) ?_) | omega | (simp <;> omega))))).mono ?_; rintro e w1 ⟨rfl, hb1⟩; obtain ⟨hcc1, hff1⟩ := bcell hb1; have hs1 := hb1.size; (try simp at hs1); have hz1 : w.heap.size < w1.heap.size := (by omega); have hq1 : 0 < w1.heap.size := (by omega))
      | (go_at_call 73; refine (many_4 T C B _).mono ?_; rintro e w2 ⟨rfl, hb2⟩; obtain ⟨hcc2, hff2⟩ := bcell hb2; have hs2 := hb2.size; (try simp at hs2); have hz2 : w.heap.size < w2.heap.size := (by omega); rw [Hm.out]))
    all_goals go_ret
    all_goals exact ⟨rfl, (by repeat' (first | with_reducible exact Below.refl _ _ | with_reducible assumption | with_reducible refine Below.alloc ?_ ?_ _ | with_reducible refine Below.setCell ?_ ?_ _ | with_reducible refine Below.drew ?_ | with_reducible refine below_drewN ?_ _ | with_reducible refine Below.trans ?_ (Below.mono (by with_reducible assumption) ?_) | omega | (simp <;> omega)))⟩
  · have h1 : [1, T, T, C, T, B, B].getD 4 0 ≤ i := by simp only [List.getD_cons_zero, List.getD_cons_succ]; omega
    simp only [List.getD_cons_zero, List.getD_cons_succ] at h1
    clear h0
    go_enter Tryz.func47, Tryz.ntmps47
    go_wp2_with (first
      | (go_at_call 34; refine (right_ok T C B _ Hv.out (hs.below (by repeat' (first | with_reducible exact Below.refl _ _ | with_reducible assumption | with_reducible refine Below.alloc ?_ ?_ _ | with_reducible refine Below.setCell ?_ ?_ _ | with_reducible refine Below.drew ?_ | with_reducible refine below_drewN ?_ _ | with_reducible refine Below.trans ?_ (Below.mono (by with_reducible assumption) ?_) | omega | (simp <;> omega))))).mono ?_; rintro e w1 ⟨rfl, hb1⟩; obtain ⟨hcc1, hff1⟩ := bcell hb1; have hs1 := hb1.size; (try simp at hs1); have hz1 : w.heap.size < w1.heap.size := (by omega); have hq1 : 0 < w1.heap.size := (by omega))
      | (go_at_call 73; refine (many_4 T C B _).mono ?_; rintro e w2 ⟨rfl, hb2⟩; obtain ⟨hcc2, hff2⟩ := bcell hb2; have hs2 := hb2.size; (try simp at hs2); have hz2 : w.heap.size < w2.heap.size := (by omega); rw [Hm.out]))
    all_goals go_ret
    all_goals exact ⟨rfl, (by repeat' (first | with_reducible exact Below.refl _ _ | with_reducible assumption | with_reducible refine Below.alloc ?_ ?_ _ | with_reducible refine Below.setCell ?_ ?_ _ | with_reducible refine Below.drew ?_ | with_reducible refine below_drewN ?_ _ | with_reducible refine Below.trans ?_ (Below.mono (by with_reducible assumption) ?_) | omega | (simp <;> omega)))⟩
theorem at_4 (T C B i more : Int) (w : World) (hv : Valid T C B) (hs : Sizes w) (m0 : 0 ≤ more) (m1 : more ≤ 1000) : Calls Tryz.prog 47 #[(.agg #[.int .i64 T, .int .i64 C, .int .i64 B]), .int .i64 4, .int .i64 i, .int .i64 more] w fun e w' => e = .returned (.int .i64 (atL T C B 4 i more)) ∧ Below w.heap.size w w' := by
  unfold atL
  by_cases h : 0 ≤ i ∧ i < manyL T C B 4
  · rw [if_pos h]
    exact at_4_in T C B i more w hv hs h.1 h.2 m0 m1
  · rw [if_neg h]
    exact at_4_out T C B i more w hv hs h
set_option maxHeartbeats 1000000 in
set_option maxRecDepth 100000 in
theorem at_5_in (T C B i more : Int) (w : World) (hv : Valid T C B) (hs : Sizes w) (h0 : 0 ≤ i) (h1 : i < manyL T C B 5) (m0 : 0 ≤ more) (m1 : more ≤ 1000) : Calls Tryz.prog 47 #[(.agg #[.int .i64 T, .int .i64 C, .int .i64 B]), .int .i64 5, .int .i64 i, .int .i64 more] w fun e w' => e = .returned (.int .i64 (fromL T C B 5 + i * sizeL 5 + more)) ∧ Below w.heap.size w w' := by
  have hp := hs.pos
  have z0 := hs 5 _ rfl
  have hm : (manyL T C B 5) = [1, T, T, C, T, B, B].getD 5 0 := rfl
  have hz : sizeL 5 = [8, 8, 8, 1, 104, 0, 32].getD 5 0 := rfl
  simp only [List.getD_cons_zero, List.getD_cons_succ] at hm hz
  have Hm := hide hm
  rw [hm] at h1
  rw [hz]
  clear hm hz
  obtain ⟨R, hR⟩ : ∃ R, R = (fromL T C B 5) := ⟨_, rfl⟩
  have r0 : 0 ≤ R ∧ R ≤ 2056 * 5 := by have := from_le T C B hv.1 5; rw [hR]; omega
  have hfr := fun W hs => from_5 T C B W hv.1 hs
  rw [← hR] at hfr ⊢
  have Hfr := hide hfr
  have Hv := hide hv
  obtain ⟨⟨f1, f2, f3, f4, f5, f6⟩, -⟩ := hv
  clear hfr hR
  go_enter Tryz.func47, Tryz.ntmps47
  go_wp2_with (first
    | (go_at_call 34; refine (right_ok T C B _ Hv.out (hs.below (by repeat' (first | with_reducible exact Below.refl _ _ | with_reducible assumption | with_reducible refine Below.alloc ?_ ?_ _ | with_reducible refine Below.setCell ?_ ?_ _ | with_reducible refine Below.drew ?_ | with_reducible refine below_drewN ?_ _ | with_reducible refine Below.trans ?_ (Below.mono (by with_reducible assumption) ?_) | omega | (simp <;> omega))))).mono ?_; rintro e w1 ⟨rfl, hb1⟩; obtain ⟨hcc1, hff1⟩ := bcell hb1; have hs1 := hb1.size; (try simp at hs1); have hz1 : w.heap.size < w1.heap.size := (by omega); have hq1 : 0 < w1.heap.size := (by omega))
    | (go_at_call 73; refine (many_5 T C B _).mono ?_; rintro e w2 ⟨rfl, hb2⟩; obtain ⟨hcc2, hff2⟩ := bcell hb2; have hs2 := hb2.size; (try simp at hs2); have hz2 : w.heap.size < w2.heap.size := (by omega); rw [Hm.out]))
  have hq : 0 < w2.heap.size := by omega
  go_region_held3 (fun w' => w'.cell? ⟨w.heap.size, 0, none⟩ = some (.int .i64 T) ∧ w'.cell? ⟨w.heap.size, 1, none⟩ = some (.int .i64 C) ∧ w'.cell? ⟨w.heap.size, 2, none⟩ = some (.int .i64 B) ∧ w'.cell? ⟨0, 5, none⟩ = some (.int .i64 ([8, 8, 8, 1, 104, 0, 32].getD 5 0)))
    (first | exact ⟨by go_simp, by go_simp, by go_simp, by go_simp⟩ | go_keep)
    (first
      | (go_at_call 39; refine (Hfr.out _ (hs.below (by repeat' (first | with_reducible exact Below.refl _ _ | with_reducible assumption | with_reducible refine Below.alloc ?_ ?_ _ | with_reducible refine Below.setCell ?_ ?_ _ | with_reducible refine Below.drew ?_ | with_reducible refine below_drewN ?_ _ | with_reducible refine Below.trans ?_ (Below.mono (by with_reducible assumption) ?_) | omega | (simp <;> omega))))).mono ?_; rintro e w3 ⟨rfl, hb3'⟩; have hb3 : Below _ _ w3 := (by first | with_reducible exact noDrew hb3' | exact hb3'); clear hb3'; obtain ⟨hcc3, hff3⟩ := bcell hb3; have hs3 := hb3.size; (try simp at hs3); have hz3 : w.heap.size < w3.heap.size := (by omega); have hq3 : 0 < w3.heap.size := (by omega)))
  all_goals go_wp2_with fail
  all_goals go_ret
  all_goals exact ⟨(by first | rfl | (refine congrArg (fun z => Ending.returned (Value.int IntKind.i64 z)) ?_; first | omega | (simp (disch := omega) only [IntWalk.i64_in]; done) | (simp (disch := omega) only [IntWalk.i64_in]; omega))), (by repeat' (first | with_reducible exact Below.refl _ _ | with_reducible assumption | with_reducible refine Below.alloc ?_ ?_ _ | with_reducible refine Below.setCell ?_ ?_ _ | with_reducible refine Below.drew ?_ | with_reducible refine below_drewN ?_ _ | with_reducible refine Below.trans ?_ (Below.mono (by with_reducible assumption) ?_) | omega | (simp <;> omega)))⟩
set_option maxHeartbeats 1000000 in
set_option maxRecDepth 100000 in
theorem at_5_out (T C B i more : Int) (w : World) (hv : Valid T C B) (hs : Sizes w) (h0 : ¬ (0 ≤ i ∧ i < manyL T C B 5)) : Calls Tryz.prog 47 #[(.agg #[.int .i64 T, .int .i64 C, .int .i64 B]), .int .i64 5, .int .i64 i, .int .i64 more] w fun e w' => e = .returned (.int .i64 (-1)) ∧ Below w.heap.size w w' := by
  have hp := hs.pos
  have hm : (manyL T C B 5) = [1, T, T, C, T, B, B].getD 5 0 := rfl
  simp only [List.getD_cons_zero, List.getD_cons_succ] at hm
  have Hm := hide hm
  rw [hm] at h0
  clear hm
  have Hv := hide hv
  obtain ⟨⟨f1, f2, f3, f4, f5, f6⟩, -⟩ := hv
  by_cases hi : i < 0
  · clear h0
    go_enter Tryz.func47, Tryz.ntmps47
    go_wp2_with (first
      | (go_at_call 34; refine (right_ok T C B _ Hv.out (hs.below (by repeat' (first | with_reducible exact Below.refl _ _ | with_reducible assumption | with_reducible refine Below.alloc ?_ ?_ _ | with_reducible refine Below.setCell ?_ ?_ _ | with_reducible refine Below.drew ?_ | with_reducible refine below_drewN ?_ _ | with_reducible refine Below.trans ?_ (Below.mono (by with_reducible assumption) ?_) | omega | (simp <;> omega))))).mono ?_; rintro e w1 ⟨rfl, hb1⟩; obtain ⟨hcc1, hff1⟩ := bcell hb1; have hs1 := hb1.size; (try simp at hs1); have hz1 : w.heap.size < w1.heap.size := (by omega); have hq1 : 0 < w1.heap.size := (by omega))
      | (go_at_call 73; refine (many_5 T C B _).mono ?_; rintro e w2 ⟨rfl, hb2⟩; obtain ⟨hcc2, hff2⟩ := bcell hb2; have hs2 := hb2.size; (try simp at hs2); have hz2 : w.heap.size < w2.heap.size := (by omega); rw [Hm.out]))
    all_goals go_ret
    all_goals exact ⟨rfl, (by repeat' (first | with_reducible exact Below.refl _ _ | with_reducible assumption | with_reducible refine Below.alloc ?_ ?_ _ | with_reducible refine Below.setCell ?_ ?_ _ | with_reducible refine Below.drew ?_ | with_reducible refine below_drewN ?_ _ | with_reducible refine Below.trans ?_ (Below.mono (by with_reducible assumption) ?_) | omega | (simp <;> omega)))⟩
  · have h1 : [1, T, T, C, T, B, B].getD 5 0 ≤ i := by simp only [List.getD_cons_zero, List.getD_cons_succ]; omega
    simp only [List.getD_cons_zero, List.getD_cons_succ] at h1
    clear h0
    go_enter Tryz.func47, Tryz.ntmps47
    go_wp2_with (first
      | (go_at_call 34; refine (right_ok T C B _ Hv.out (hs.below (by repeat' (first | with_reducible exact Below.refl _ _ | with_reducible assumption | with_reducible refine Below.alloc ?_ ?_ _ | with_reducible refine Below.setCell ?_ ?_ _ | with_reducible refine Below.drew ?_ | with_reducible refine below_drewN ?_ _ | with_reducible refine Below.trans ?_ (Below.mono (by with_reducible assumption) ?_) | omega | (simp <;> omega))))).mono ?_; rintro e w1 ⟨rfl, hb1⟩; obtain ⟨hcc1, hff1⟩ := bcell hb1; have hs1 := hb1.size; (try simp at hs1); have hz1 : w.heap.size < w1.heap.size := (by omega); have hq1 : 0 < w1.heap.size := (by omega))
      | (go_at_call 73; refine (many_5 T C B _).mono ?_; rintro e w2 ⟨rfl, hb2⟩; obtain ⟨hcc2, hff2⟩ := bcell hb2; have hs2 := hb2.size; (try simp at hs2); have hz2 : w.heap.size < w2.heap.size := (by omega); rw [Hm.out]))
    all_goals go_ret
    all_goals exact ⟨rfl, (by repeat' (first | with_reducible exact Below.refl _ _ | with_reducible assumption | with_reducible refine Below.alloc ?_ ?_ _ | with_reducible refine Below.setCell ?_ ?_ _ | with_reducible refine Below.drew ?_ | with_reducible refine below_drewN ?_ _ | with_reducible refine Below.trans ?_ (Below.mono (by with_reducible assumption) ?_) | omega | (simp <;> omega)))⟩
theorem at_5 (T C B i more : Int) (w : World) (hv : Valid T C B) (hs : Sizes w) (m0 : 0 ≤ more) (m1 : more ≤ 1000) : Calls Tryz.prog 47 #[(.agg #[.int .i64 T, .int .i64 C, .int .i64 B]), .int .i64 5, .int .i64 i, .int .i64 more] w fun e w' => e = .returned (.int .i64 (atL T C B 5 i more)) ∧ Below w.heap.size w w' := by
  unfold atL
  by_cases h : 0 ≤ i ∧ i < manyL T C B 5
  · rw [if_pos h]
    exact at_5_in T C B i more w hv hs h.1 h.2 m0 m1
  · rw [if_neg h]
    exact at_5_out T C B i more w hv hs h
set_option maxHeartbeats 1000000 in
set_option maxRecDepth 100000 in
theorem at_6_in (T C B i more : Int) (w : World) (hv : Valid T C B) (hs : Sizes w) (h0 : 0 ≤ i) (h1 : i < manyL T C B 6) (m0 : 0 ≤ more) (m1 : more ≤ 1000) : Calls Tryz.prog 47 #[(.agg #[.int .i64 T, .int .i64 C, .int .i64 B]), .int .i64 6, .int .i64 i, .int .i64 more] w fun e w' => e = .returned (.int .i64 (fromL T C B 6 + i * sizeL 6 + more)) ∧ Below w.heap.size w w' := by
  have hp := hs.pos
  have z0 := hs 6 _ rfl
  have hm : (manyL T C B 6) = [1, T, T, C, T, B, B].getD 6 0 := rfl
  have hz : sizeL 6 = [8, 8, 8, 1, 104, 0, 32].getD 6 0 := rfl
  simp only [List.getD_cons_zero, List.getD_cons_succ] at hm hz
  have Hm := hide hm
  rw [hm] at h1
  rw [hz]
  clear hm hz
  obtain ⟨R, hR⟩ : ∃ R, R = (fromL T C B 6) := ⟨_, rfl⟩
  have r0 : 0 ≤ R ∧ R ≤ 2056 * 6 := by have := from_le T C B hv.1 6; rw [hR]; omega
  have hfr := fun W hs => from_6 T C B W hv.1 hs
  rw [← hR] at hfr ⊢
  have Hfr := hide hfr
  have Hv := hide hv
  obtain ⟨⟨f1, f2, f3, f4, f5, f6⟩, -⟩ := hv
  clear hfr hR
  go_enter Tryz.func47, Tryz.ntmps47
  go_wp2_with (first
    | (go_at_call 34; refine (right_ok T C B _ Hv.out (hs.below (by repeat' (first | with_reducible exact Below.refl _ _ | with_reducible assumption | with_reducible refine Below.alloc ?_ ?_ _ | with_reducible refine Below.setCell ?_ ?_ _ | with_reducible refine Below.drew ?_ | with_reducible refine below_drewN ?_ _ | with_reducible refine Below.trans ?_ (Below.mono (by with_reducible assumption) ?_) | omega | (simp <;> omega))))).mono ?_; rintro e w1 ⟨rfl, hb1⟩; obtain ⟨hcc1, hff1⟩ := bcell hb1; have hs1 := hb1.size; (try simp at hs1); have hz1 : w.heap.size < w1.heap.size := (by omega); have hq1 : 0 < w1.heap.size := (by omega))
    | (go_at_call 73; refine (many_6 T C B _).mono ?_; rintro e w2 ⟨rfl, hb2⟩; obtain ⟨hcc2, hff2⟩ := bcell hb2; have hs2 := hb2.size; (try simp at hs2); have hz2 : w.heap.size < w2.heap.size := (by omega); rw [Hm.out]))
  have hq : 0 < w2.heap.size := by omega
  go_region_held3 (fun w' => w'.cell? ⟨w.heap.size, 0, none⟩ = some (.int .i64 T) ∧ w'.cell? ⟨w.heap.size, 1, none⟩ = some (.int .i64 C) ∧ w'.cell? ⟨w.heap.size, 2, none⟩ = some (.int .i64 B) ∧ w'.cell? ⟨0, 6, none⟩ = some (.int .i64 ([8, 8, 8, 1, 104, 0, 32].getD 6 0)))
    (first | exact ⟨by go_simp, by go_simp, by go_simp, by go_simp⟩ | go_keep)
    (first
      | (go_at_call 39; refine (Hfr.out _ (hs.below (by repeat' (first | with_reducible exact Below.refl _ _ | with_reducible assumption | with_reducible refine Below.alloc ?_ ?_ _ | with_reducible refine Below.setCell ?_ ?_ _ | with_reducible refine Below.drew ?_ | with_reducible refine below_drewN ?_ _ | with_reducible refine Below.trans ?_ (Below.mono (by with_reducible assumption) ?_) | omega | (simp <;> omega))))).mono ?_; rintro e w3 ⟨rfl, hb3'⟩; have hb3 : Below _ _ w3 := (by first | with_reducible exact noDrew hb3' | exact hb3'); clear hb3'; obtain ⟨hcc3, hff3⟩ := bcell hb3; have hs3 := hb3.size; (try simp at hs3); have hz3 : w.heap.size < w3.heap.size := (by omega); have hq3 : 0 < w3.heap.size := (by omega)))
  all_goals go_wp2_with fail
  all_goals go_ret
  all_goals exact ⟨(by first | rfl | (refine congrArg (fun z => Ending.returned (Value.int IntKind.i64 z)) ?_; first | omega | (simp (disch := omega) only [IntWalk.i64_in]; done) | (simp (disch := omega) only [IntWalk.i64_in]; omega))), (by repeat' (first | with_reducible exact Below.refl _ _ | with_reducible assumption | with_reducible refine Below.alloc ?_ ?_ _ | with_reducible refine Below.setCell ?_ ?_ _ | with_reducible refine Below.drew ?_ | with_reducible refine below_drewN ?_ _ | with_reducible refine Below.trans ?_ (Below.mono (by with_reducible assumption) ?_) | omega | (simp <;> omega)))⟩
set_option maxHeartbeats 1000000 in
set_option maxRecDepth 100000 in
theorem at_6_out (T C B i more : Int) (w : World) (hv : Valid T C B) (hs : Sizes w) (h0 : ¬ (0 ≤ i ∧ i < manyL T C B 6)) : Calls Tryz.prog 47 #[(.agg #[.int .i64 T, .int .i64 C, .int .i64 B]), .int .i64 6, .int .i64 i, .int .i64 more] w fun e w' => e = .returned (.int .i64 (-1)) ∧ Below w.heap.size w w' := by
  have hp := hs.pos
  have hm : (manyL T C B 6) = [1, T, T, C, T, B, B].getD 6 0 := rfl
  simp only [List.getD_cons_zero, List.getD_cons_succ] at hm
  have Hm := hide hm
  rw [hm] at h0
  clear hm
  have Hv := hide hv
  obtain ⟨⟨f1, f2, f3, f4, f5, f6⟩, -⟩ := hv
  by_cases hi : i < 0
  · clear h0
    go_enter Tryz.func47, Tryz.ntmps47
    go_wp2_with (first
      | (go_at_call 34; refine (right_ok T C B _ Hv.out (hs.below (by repeat' (first | with_reducible exact Below.refl _ _ | with_reducible assumption | with_reducible refine Below.alloc ?_ ?_ _ | with_reducible refine Below.setCell ?_ ?_ _ | with_reducible refine Below.drew ?_ | with_reducible refine below_drewN ?_ _ | with_reducible refine Below.trans ?_ (Below.mono (by with_reducible assumption) ?_) | omega | (simp <;> omega))))).mono ?_; rintro e w1 ⟨rfl, hb1⟩; obtain ⟨hcc1, hff1⟩ := bcell hb1; have hs1 := hb1.size; (try simp at hs1); have hz1 : w.heap.size < w1.heap.size := (by omega); have hq1 : 0 < w1.heap.size := (by omega))
      | (go_at_call 73; refine (many_6 T C B _).mono ?_; rintro e w2 ⟨rfl, hb2⟩; obtain ⟨hcc2, hff2⟩ := bcell hb2; have hs2 := hb2.size; (try simp at hs2); have hz2 : w.heap.size < w2.heap.size := (by omega); rw [Hm.out]))
    all_goals go_ret
    all_goals exact ⟨rfl, (by repeat' (first | with_reducible exact Below.refl _ _ | with_reducible assumption | with_reducible refine Below.alloc ?_ ?_ _ | with_reducible refine Below.setCell ?_ ?_ _ | with_reducible refine Below.drew ?_ | with_reducible refine below_drewN ?_ _ | with_reducible refine Below.trans ?_ (Below.mono (by with_reducible assumption) ?_) | omega | (simp <;> omega)))⟩
  · have h1 : [1, T, T, C, T, B, B].getD 6 0 ≤ i := by simp only [List.getD_cons_zero, List.getD_cons_succ]; omega
    simp only [List.getD_cons_zero, List.getD_cons_succ] at h1
    clear h0
    go_enter Tryz.func47, Tryz.ntmps47
    go_wp2_with (first
      | (go_at_call 34; refine (right_ok T C B _ Hv.out (hs.below (by repeat' (first | with_reducible exact Below.refl _ _ | with_reducible assumption | with_reducible refine Below.alloc ?_ ?_ _ | with_reducible refine Below.setCell ?_ ?_ _ | with_reducible refine Below.drew ?_ | with_reducible refine below_drewN ?_ _ | with_reducible refine Below.trans ?_ (Below.mono (by with_reducible assumption) ?_) | omega | (simp <;> omega))))).mono ?_; rintro e w1 ⟨rfl, hb1⟩; obtain ⟨hcc1, hff1⟩ := bcell hb1; have hs1 := hb1.size; (try simp at hs1); have hz1 : w.heap.size < w1.heap.size := (by omega); have hq1 : 0 < w1.heap.size := (by omega))
      | (go_at_call 73; refine (many_6 T C B _).mono ?_; rintro e w2 ⟨rfl, hb2⟩; obtain ⟨hcc2, hff2⟩ := bcell hb2; have hs2 := hb2.size; (try simp at hs2); have hz2 : w.heap.size < w2.heap.size := (by omega); rw [Hm.out]))
    all_goals go_ret
    all_goals exact ⟨rfl, (by repeat' (first | with_reducible exact Below.refl _ _ | with_reducible assumption | with_reducible refine Below.alloc ?_ ?_ _ | with_reducible refine Below.setCell ?_ ?_ _ | with_reducible refine Below.drew ?_ | with_reducible refine below_drewN ?_ _ | with_reducible refine Below.trans ?_ (Below.mono (by with_reducible assumption) ?_) | omega | (simp <;> omega)))⟩
theorem at_6 (T C B i more : Int) (w : World) (hv : Valid T C B) (hs : Sizes w) (m0 : 0 ≤ more) (m1 : more ≤ 1000) : Calls Tryz.prog 47 #[(.agg #[.int .i64 T, .int .i64 C, .int .i64 B]), .int .i64 6, .int .i64 i, .int .i64 more] w fun e w' => e = .returned (.int .i64 (atL T C B 6 i more)) ∧ Below w.heap.size w w' := by
  unfold atL
  by_cases h : 0 ≤ i ∧ i < manyL T C B 6
  · rw [if_pos h]
    exact at_6_in T C B i more w hv hs h.1 h.2 m0 m1
  · rw [if_neg h]
    exact at_6_out T C B i more w hv hs h
end Go.Proofs.YtbomhhkknopdpaaGreatDoor
