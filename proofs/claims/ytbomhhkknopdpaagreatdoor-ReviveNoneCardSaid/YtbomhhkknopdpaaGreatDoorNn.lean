/- Chapter 56 at a layout that is not valid, or with too few words. -/
import Derived.Test.YtbomhhkknopdpaaGreatDoorR14
namespace Go.Proofs.YtbomhhkknopdpaaGreatDoor
set_option linter.unusedSimpArgs false
set_option linter.unusedVariables false
open Go.RowKit
theorem check_no (T C B : Int) (w : World) (h : ¬ Fit T C B) : Calls Tryz.prog 12 #[(.agg #[.int .i64 T, .int .i64 C, .int .i64 B])] w fun e w' => e = .returned (.int .i64 3) ∧ Below w.heap.size w w' := by
  obtain ⟨x1, h1⟩ : ∃ x, x = (decide (1 ≤ T) && decide (T ≤ 8)) := ⟨_, rfl⟩
  obtain ⟨x2, h2⟩ : ∃ x, x = (decide (1 ≤ C) && decide (C ≤ 2048)) := ⟨_, rfl⟩
  obtain ⟨x3, h3⟩ : ∃ x, x = (decide (0 ≤ B) && decide (B ≤ 64)) := ⟨_, rfl⟩
  have b1 : ∀ w, Calls Tryz.prog 38 #[.int .i64 T, .int .i64 1, .int .i64 8] w fun e w' => e = .returned (.bool x1) ∧ w' = w := fun w => by rw [h1]; exact between_any T 1 8 w
  have b2 : ∀ w, Calls Tryz.prog 38 #[.int .i64 C, .int .i64 1, .int .i64 2048] w fun e w' => e = .returned (.bool x2) ∧ w' = w := fun w => by rw [h2]; exact between_any C 1 2048 w
  have b3 : ∀ w, Calls Tryz.prog 38 #[.int .i64 B, .int .i64 0, .int .i64 64] w fun e w' => e = .returned (.bool x3) ∧ w' = w := fun w => by rw [h3]; exact between_any B 0 64 w
  have hor : ¬ (x1 = true ∧ x2 = true ∧ x3 = true) := by
    rintro ⟨a, b, c⟩
    rw [h1, Bool.and_eq_true, decide_eq_true_eq, decide_eq_true_eq] at a
    rw [h2, Bool.and_eq_true, decide_eq_true_eq, decide_eq_true_eq] at b
    rw [h3, Bool.and_eq_true, decide_eq_true_eq, decide_eq_true_eq] at c
    exact h ⟨a.1, a.2, b.1, b.2, c.1, c.2⟩
  have B1 := hide b1
  have B2 := hide b2
  have B3 := hide b3
  clear b1 b2 b3 h1 h2 h3 h
  cases x1 with
  | false =>
    go_enter Tryz.func12, Tryz.ntmps12
    go_wp2_with (first
      | (go_at_call 38; (first | (with_reducible refine (B1.out _).mono ?_) | (with_reducible refine (B2.out _).mono ?_) | (with_reducible refine (B3.out _).mono ?_)); rintro e w1 ⟨rfl, rfl⟩))
    go_ret
    exact ⟨rfl, (by repeat' (first | with_reducible exact Below.refl _ _ | with_reducible assumption | with_reducible refine Below.alloc ?_ ?_ _ | with_reducible refine Below.setCell ?_ ?_ _ | with_reducible refine Below.drew ?_ | with_reducible refine below_drewN ?_ _ | with_reducible refine Below.trans ?_ (Below.mono (by with_reducible assumption) ?_) | omega | (simp <;> omega)))⟩
  | true =>
    cases x2 with
    | false =>
      go_enter Tryz.func12, Tryz.ntmps12
      go_wp2_with (first
        | (go_at_call 38; (first | (with_reducible refine (B1.out _).mono ?_) | (with_reducible refine (B2.out _).mono ?_) | (with_reducible refine (B3.out _).mono ?_)); rintro e w1 ⟨rfl, rfl⟩))
      go_ret
      exact ⟨rfl, (by repeat' (first | with_reducible exact Below.refl _ _ | with_reducible assumption | with_reducible refine Below.alloc ?_ ?_ _ | with_reducible refine Below.setCell ?_ ?_ _ | with_reducible refine Below.drew ?_ | with_reducible refine below_drewN ?_ _ | with_reducible refine Below.trans ?_ (Below.mono (by with_reducible assumption) ?_) | omega | (simp <;> omega)))⟩
    | true =>
      cases x3 with
      | true => exact absurd ⟨rfl, rfl, rfl⟩ hor
      | false =>
        go_enter Tryz.func12, Tryz.ntmps12
        go_wp2_with (first
          | (go_at_call 38; (first | (with_reducible refine (B1.out _).mono ?_) | (with_reducible refine (B2.out _).mono ?_) | (with_reducible refine (B3.out _).mono ?_)); rintro e w1 ⟨rfl, rfl⟩))
        go_ret
        exact ⟨rfl, (by repeat' (first | with_reducible exact Below.refl _ _ | with_reducible assumption | with_reducible refine Below.alloc ?_ ?_ _ | with_reducible refine Below.setCell ?_ ?_ _ | with_reducible refine Below.drew ?_ | with_reducible refine below_drewN ?_ _ | with_reducible refine Below.trans ?_ (Below.mono (by with_reducible assumption) ?_) | omega | (simp <;> omega)))⟩
theorem lright_no (T C B : Int) (w : World) (h : ¬ Fit T C B) : Calls Tryz.prog 34 #[(.agg #[.int .i64 T, .int .i64 C, .int .i64 B])] w fun e w' => e = .returned (.bool false) ∧ Below w.heap.size w w' := by
  go_enter Tryz.func34, Tryz.ntmps34
  go_wp2_with (first | (go_at_call 12; refine (check_no T C B _ h).mono ?_; rintro e w1 ⟨rfl, hb1⟩; obtain ⟨hcc1, hff1⟩ := bcell hb1; have hs1 := hb1.size; (try simp at hs1); have hz1 : w.heap.size < w1.heap.size := (by omega); have hq1 : 0 < w1.heap.size := (by omega)))
  go_ret
  exact ⟨rfl, (by repeat' (first | with_reducible exact Below.refl _ _ | with_reducible assumption | with_reducible refine Below.alloc ?_ ?_ _ | with_reducible refine Below.setCell ?_ ?_ _ | with_reducible refine Below.drew ?_ | with_reducible refine below_drewN ?_ _ | with_reducible refine Below.trans ?_ (Below.mono (by with_reducible assumption) ?_) | omega | (simp <;> omega)))⟩
theorem size_no (T C B : Int) (w : World) (h : ¬ Fit T C B) : Calls Tryz.prog 21 #[(.agg #[.int .i64 T, .int .i64 C, .int .i64 B])] w fun e w' => e = .returned (.int .i64 0) ∧ Below w.heap.size w w' := by
  go_enter Tryz.func21, Tryz.ntmps21
  go_wp2_with (first | (go_at_call 34; refine (lright_no T C B _ h).mono ?_; rintro e w1 ⟨rfl, hb1⟩; obtain ⟨hcc1, hff1⟩ := bcell hb1; have hs1 := hb1.size; (try simp at hs1); have hz1 : w.heap.size < w1.heap.size := (by omega); have hq1 : 0 < w1.heap.size := (by omega)))
  go_ret
  exact ⟨rfl, (by repeat' (first | with_reducible exact Below.refl _ _ | with_reducible assumption | with_reducible refine Below.alloc ?_ ?_ _ | with_reducible refine Below.setCell ?_ ?_ _ | with_reducible refine Below.drew ?_ | with_reducible refine below_drewN ?_ _ | with_reducible refine Below.trans ?_ (Below.mono (by with_reducible assumption) ?_) | omega | (simp <;> omega)))⟩
theorem first_no (T C B : Int) (w : World) (h : ¬ Fit T C B) : Calls Tryz.prog 11 #[(.agg #[.int .i64 T, .int .i64 C, .int .i64 B])] w fun e w' => e = .returned (.slice none 0 0) ∧ Below w.heap.size w w' := by
  go_enter Tryz.func11, Tryz.ntmps11
  go_wp2_with (first | (go_at_call 34; refine (lright_no T C B _ h).mono ?_; rintro e w1 ⟨rfl, hb1⟩; obtain ⟨hcc1, hff1⟩ := bcell hb1; have hs1 := hb1.size; (try simp at hs1); have hz1 : w.heap.size < w1.heap.size := (by omega); have hq1 : 0 < w1.heap.size := (by omega)))
  go_ret
  exact ⟨rfl, (by repeat' (first | with_reducible exact Below.refl _ _ | with_reducible assumption | with_reducible refine Below.alloc ?_ ?_ _ | with_reducible refine Below.setCell ?_ ?_ _ | with_reducible refine Below.drew ?_ | with_reducible refine below_drewN ?_ _ | with_reducible refine Below.trans ?_ (Below.mono (by with_reducible assumption) ?_) | omega | (simp <;> omega)))⟩
/-- The layout is not valid, or the words are too few. -/
def Wrong (T C B : Int) (n : Nat) : Prop := ¬ Fit T C B ∨ (Valid T C B ∧ (n : Int) < fromL T C B 7)
theorem vright_no (T C B : Int) (A : Option Addr) (n cap : Nat) (w : World) (hs : Sizes w) (h : Wrong T C B n) : Calls Tryz.prog 40 #[(.agg #[.int .i64 T, .int .i64 C, .int .i64 B]), .slice A n cap] w fun e w' => e = .returned (.bool false) ∧ Below w.heap.size w w' := by
  have hp := hs.pos
  rcases h with h | ⟨hv, hn⟩
  · go_enter Tryz.func40, Tryz.ntmps40
    go_wp2_with (first | (go_at_call 12; refine (check_no T C B _ h).mono ?_; rintro e w1 ⟨rfl, hb1⟩; obtain ⟨hcc1, hff1⟩ := bcell hb1; have hs1 := hb1.size; (try simp at hs1); have hz1 : w.heap.size < w1.heap.size := (by omega); have hq1 : 0 < w1.heap.size := (by omega)))
    go_ret
    exact ⟨rfl, (by repeat' (first | with_reducible exact Below.refl _ _ | with_reducible assumption | with_reducible refine Below.alloc ?_ ?_ _ | with_reducible refine Below.setCell ?_ ?_ _ | with_reducible refine Below.drew ?_ | with_reducible refine below_drewN ?_ _ | with_reducible refine Below.trans ?_ (Below.mono (by with_reducible assumption) ?_) | omega | (simp <;> omega)))⟩
  · have hle : ¬ (fromL T C B 7 ≤ (n : Int)) := by omega
    have hge : ¬ ((n : Int) ≥ fromL T C B 7) := by omega
    have hd : decide (fromL T C B 7 ≤ (n : Int)) = false := decide_eq_false hle
    go_enter Tryz.func40, Tryz.ntmps40
    go_wp2_with (first
      | (go_at_call 12; refine (check_ok T C B _ hv (hs.below (by repeat' (first | with_reducible exact Below.refl _ _ | with_reducible assumption | with_reducible refine Below.alloc ?_ ?_ _ | with_reducible refine Below.setCell ?_ ?_ _ | with_reducible refine Below.drew ?_ | with_reducible refine below_drewN ?_ _ | with_reducible refine Below.trans ?_ (Below.mono (by with_reducible assumption) ?_) | omega | (simp <;> omega))))).mono ?_; rintro e w1 ⟨rfl, hb1⟩; obtain ⟨hcc1, hff1⟩ := bcell hb1; have hs1 := hb1.size; (try simp at hs1); have hz1 : w.heap.size < w1.heap.size := (by omega); have hq1 : 0 < w1.heap.size := (by omega))
      | (go_at_call 21; refine (size_ok T C B _ hv (hs.below (by repeat' (first | with_reducible exact Below.refl _ _ | with_reducible assumption | with_reducible refine Below.alloc ?_ ?_ _ | with_reducible refine Below.setCell ?_ ?_ _ | with_reducible refine Below.drew ?_ | with_reducible refine below_drewN ?_ _ | with_reducible refine Below.trans ?_ (Below.mono (by with_reducible assumption) ?_) | omega | (simp <;> omega))))).mono ?_; rintro e w2 ⟨rfl, hb2⟩; obtain ⟨hcc2, hff2⟩ := bcell hb2; have hs2 := hb2.size; (try simp at hs2)))
    go_ret
    exact ⟨rfl, (by repeat' (first | with_reducible exact Below.refl _ _ | with_reducible assumption | with_reducible refine Below.alloc ?_ ?_ _ | with_reducible refine Below.setCell ?_ ?_ _ | with_reducible refine Below.drew ?_ | with_reducible refine below_drewN ?_ _ | with_reducible refine Below.trans ?_ (Below.mono (by with_reducible assumption) ?_) | omega | (simp <;> omega)))⟩
theorem words_no (T C B : Int) (A : Option Addr) (n cap : Nat) (w : World) (hs : Sizes w) (h : Wrong T C B n) : Calls Tryz.prog 8 #[(.agg #[.int .i64 T, .int .i64 C, .int .i64 B]), .slice A n cap] w fun e w' => e = .returned (.tuple #[.slice none 0 0, .int .i64 1]) ∧ Below w.heap.size w w' := by
  have hp := hs.pos
  rcases h with h | ⟨hv, hn⟩
  · go_enter Tryz.func8, Tryz.ntmps8
    go_wp2_with (first | (go_at_call 12; refine (check_no T C B _ h).mono ?_; rintro e w1 ⟨rfl, hb1⟩; obtain ⟨hcc1, hff1⟩ := bcell hb1; have hs1 := hb1.size; (try simp at hs1); have hz1 : w.heap.size < w1.heap.size := (by omega); have hq1 : 0 < w1.heap.size := (by omega)))
    exact bodyPost_ret (v := .tuple #[.slice none 0 0, .int .i64 1]) (by simp [results, Tryz.results8, go_sem]) rfl ⟨rfl, (by repeat' (first | with_reducible exact Below.refl _ _ | with_reducible assumption | with_reducible refine Below.alloc ?_ ?_ _ | with_reducible refine Below.setCell ?_ ?_ _ | with_reducible refine Below.drew ?_ | with_reducible refine below_drewN ?_ _ | with_reducible refine Below.trans ?_ (Below.mono (by with_reducible assumption) ?_) | omega | (simp <;> omega)))⟩
  · have hle : ((n : Int) < fromL T C B 7) := hn
    have hd : decide ((n : Int) < fromL T C B 7) = true := decide_eq_true hle
    go_enter Tryz.func8, Tryz.ntmps8
    go_wp2_with (first
      | (go_at_call 12; refine (check_ok T C B _ hv (hs.below (by repeat' (first | with_reducible exact Below.refl _ _ | with_reducible assumption | with_reducible refine Below.alloc ?_ ?_ _ | with_reducible refine Below.setCell ?_ ?_ _ | with_reducible refine Below.drew ?_ | with_reducible refine below_drewN ?_ _ | with_reducible refine Below.trans ?_ (Below.mono (by with_reducible assumption) ?_) | omega | (simp <;> omega))))).mono ?_; rintro e w1 ⟨rfl, hb1⟩; obtain ⟨hcc1, hff1⟩ := bcell hb1; have hs1 := hb1.size; (try simp at hs1); have hz1 : w.heap.size < w1.heap.size := (by omega); have hq1 : 0 < w1.heap.size := (by omega))
      | (go_at_call 21; refine (size_ok T C B _ hv (hs.below (by repeat' (first | with_reducible exact Below.refl _ _ | with_reducible assumption | with_reducible refine Below.alloc ?_ ?_ _ | with_reducible refine Below.setCell ?_ ?_ _ | with_reducible refine Below.drew ?_ | with_reducible refine below_drewN ?_ _ | with_reducible refine Below.trans ?_ (Below.mono (by with_reducible assumption) ?_) | omega | (simp <;> omega))))).mono ?_; rintro e w2 ⟨rfl, hb2⟩; obtain ⟨hcc2, hff2⟩ := bcell hb2; have hs2 := hb2.size; (try simp at hs2)))
    exact bodyPost_ret (v := .tuple #[.slice none 0 0, .int .i64 1]) (by simp [results, Tryz.results8, go_sem]) rfl ⟨rfl, (by repeat' (first | with_reducible exact Below.refl _ _ | with_reducible assumption | with_reducible refine Below.alloc ?_ ?_ _ | with_reducible refine Below.setCell ?_ ?_ _ | with_reducible refine Below.drew ?_ | with_reducible refine below_drewN ?_ _ | with_reducible refine Below.trans ?_ (Below.mono (by with_reducible assumption) ?_) | omega | (simp <;> omega)))⟩
theorem image_no (T C B : Int) (A : Option Addr) (n cap : Nat) (w : World) (hs : Sizes w) (h : Wrong T C B n) : Calls Tryz.prog 15 #[(.agg #[.int .i64 T, .int .i64 C, .int .i64 B]), .slice A n cap] w fun e w' => e = .returned (.tuple #[.slice none 0 0, .slice none 0 0, .int .i64 1]) ∧ Below w.heap.size w w' := by
  have hp := hs.pos
  go_enter Tryz.func15, Tryz.ntmps15
  go_wp2_with (first | (go_at_call 8; refine (words_no T C B A n cap _ (hs.below (by repeat' (first | with_reducible exact Below.refl _ _ | with_reducible assumption | with_reducible refine Below.alloc ?_ ?_ _ | with_reducible refine Below.setCell ?_ ?_ _ | with_reducible refine Below.drew ?_ | with_reducible refine below_drewN ?_ _ | with_reducible refine Below.trans ?_ (Below.mono (by with_reducible assumption) ?_) | omega | (simp <;> omega)))) h).mono ?_; rintro e w1 ⟨rfl, hb1⟩; obtain ⟨hcc1, hff1⟩ := bcell hb1; have hs1 := hb1.size; (try simp at hs1); have hz1 : w.heap.size < w1.heap.size := (by omega); have hq1 : 0 < w1.heap.size := (by omega)))
  exact bodyPost_ret (v := .tuple #[.slice none 0 0, .slice none 0 0, .int .i64 1]) (by simp [results, Tryz.results15, go_sem]) rfl ⟨rfl, (by repeat' (first | with_reducible exact Below.refl _ _ | with_reducible assumption | with_reducible refine Below.alloc ?_ ?_ _ | with_reducible refine Below.setCell ?_ ?_ _ | with_reducible refine Below.drew ?_ | with_reducible refine below_drewN ?_ _ | with_reducible refine Below.trans ?_ (Below.mono (by with_reducible assumption) ?_) | omega | (simp <;> omega)))⟩
theorem vseqs_no (T C B : Int) (A : Option Addr) (n cap : Nat) (w : World) (hs : Sizes w) (h : Wrong T C B n) : Calls Tryz.prog 14 #[(.agg #[.int .i64 T, .int .i64 C, .int .i64 B]), .slice A n cap] w fun e w' => e = .returned (.slice none 0 0) ∧ Below w.heap.size w w' := by
  have hp := hs.pos
  go_enter Tryz.func14, Tryz.ntmps14
  go_wp2_with (first | (go_at_call 40; refine (vright_no T C B A n cap _ (hs.below (by repeat' (first | with_reducible exact Below.refl _ _ | with_reducible assumption | with_reducible refine Below.alloc ?_ ?_ _ | with_reducible refine Below.setCell ?_ ?_ _ | with_reducible refine Below.drew ?_ | with_reducible refine below_drewN ?_ _ | with_reducible refine Below.trans ?_ (Below.mono (by with_reducible assumption) ?_) | omega | (simp <;> omega)))) h).mono ?_; rintro e w1 ⟨rfl, hb1⟩; obtain ⟨hcc1, hff1⟩ := bcell hb1; have hs1 := hb1.size; (try simp at hs1); have hz1 : w.heap.size < w1.heap.size := (by omega); have hq1 : 0 < w1.heap.size := (by omega)))
  go_ret
  exact ⟨rfl, (by repeat' (first | with_reducible exact Below.refl _ _ | with_reducible assumption | with_reducible refine Below.alloc ?_ ?_ _ | with_reducible refine Below.setCell ?_ ?_ _ | with_reducible refine Below.drew ?_ | with_reducible refine below_drewN ?_ _ | with_reducible refine Below.trans ?_ (Below.mono (by with_reducible assumption) ?_) | omega | (simp <;> omega)))⟩
theorem vcheck_no (T C B : Int) (A : Option Addr) (n cap : Nat) (w : World) (hs : Sizes w) (h : Wrong T C B n) : Calls Tryz.prog 13 #[(.agg #[.int .i64 T, .int .i64 C, .int .i64 B]), .slice A n cap] w fun e w' => (∃ (Q : Option Addr) (c : Nat), e = .returned (.slice Q 5 c)) ∧ Below w.heap.size w w' := by
  have hp := hs.pos
  go_enter Tryz.func13, Tryz.ntmps13
  go_wp2_with (first | (go_at_call 40; refine (vright_no T C B A n cap _ (hs.below (by repeat' (first | with_reducible exact Below.refl _ _ | with_reducible assumption | with_reducible refine Below.alloc ?_ ?_ _ | with_reducible refine Below.setCell ?_ ?_ _ | with_reducible refine Below.drew ?_ | with_reducible refine below_drewN ?_ _ | with_reducible refine Below.trans ?_ (Below.mono (by with_reducible assumption) ?_) | omega | (simp <;> omega)))) h).mono ?_; rintro e w1 ⟨rfl, hb1⟩; obtain ⟨hcc1, hff1⟩ := bcell hb1; have hs1 := hb1.size; (try simp at hs1); have hz1 : w.heap.size < w1.heap.size := (by omega); have hq1 : 0 < w1.heap.size := (by omega)))
  go_ret
  exact ⟨⟨_, _, rfl⟩, (by repeat' (first | with_reducible exact Below.refl _ _ | with_reducible assumption | with_reducible refine Below.alloc ?_ ?_ _ | with_reducible refine Below.setCell ?_ ?_ _ | with_reducible refine Below.drew ?_ | with_reducible refine below_drewN ?_ _ | with_reducible refine Below.trans ?_ (Below.mono (by with_reducible assumption) ?_) | omega | (simp <;> omega)))⟩
end Go.Proofs.YtbomhhkknopdpaaGreatDoor
