/- Package layout: many, long, from. -/
import Derived.Test.YtbomhhkknopdpaaGreatDoorProg
import Derived.Test.YtbomhhkknopdpaaGreatDoorLib
import Derived.Handy
import Derived.Deep.RegionLaw
import Derived.Deep.RegionHeld3
namespace Go.Proofs.YtbomhhkknopdpaaGreatDoor
set_option linter.unusedSimpArgs false
set_option linter.unusedVariables false
open Go.RowKit

/-- A fact about the world behind a draw is one about the world. -/
theorem noDrew {w w' : World} (h : Below w.drew.heap.size w.drew w') : Below w.heap.size w w' := (Below.refl _ _).drew.trans h
/-- The package's table of sizes, as it lies in the memory. -/
def Sizes (w : World) : Prop := ∀ k u, ([8, 8, 8, 1, 104, 0, 32] : List Int)[k]? = some u → w.cell? ⟨0, k, none⟩ = some (.int .i64 u)
theorem Sizes.pos {w : World} (h : Sizes w) : 0 < w.heap.size := World.block_lt_of_cell? w ⟨0, 0, none⟩ (h 0 8 rfl)
theorem Sizes.below {w w' : World} (h : Sizes w) (hb : Below w.heap.size w w') : Sizes w' := fun k u hu => (hb.cell (p := ⟨0, k, none⟩) h.pos).trans (h k u hu)
theorem Sizes.below' {w w' : World} {B : Nat} (h : Sizes w) (hB : 0 < B) (hb : Below B w w') : Sizes w' := fun k u hu => (hb.cell (p := ⟨0, k, none⟩) hB).trans (h k u hu)
/-- The bounds of a layout. -/
def Fit (T C B : Int) : Prop := 1 ≤ T ∧ T ≤ 8 ∧ 1 ≤ C ∧ C ≤ 2048 ∧ 0 ≤ B ∧ B ≤ 64
def manyL (T C B : Int) (p : Nat) : Int := [1, T, T, C, T, B, B].getD p 0
def longL (T C B : Int) (p : Nat) : Int := [8, 8 * T, 8 * T, (C + 7) / 8 * 8, 104 * T, (if 0 < B then 8 else 0), 32 * B].getD p 0
def fromL (T C B : Int) : Nat → Int
  | 0 => 0
  | p + 1 => fromL T C B p + longL T C B p

set_option maxRecDepth 100000 in
theorem many_0 (T C B : Int) (w : World) : Calls Tryz.prog 73 #[(.agg #[.int .i64 T, .int .i64 C, .int .i64 B]), .int .i64 0] w fun e w' => e = .returned (.int .i64 (manyL T C B 0)) ∧ Below w.heap.size w w' := by
  have hx : ∀ w, (Instr.index 145 (.agg #[.int .i64 1, .int .i64 T, .int .i64 T, .int .i64 C, .int .i64 T, .int .i64 B, .int .i64 B]) (.int .i64 0)).run Tryz.prog w = .ok (.int .i64 (manyL T C B 0)) w := fun w => by kernel_rfl
  go_enter Tryz.func73, Tryz.ntmps73
  go_wp2_with fail
  go_ret
  exact ⟨rfl, (by repeat' (first | with_reducible exact Below.refl _ _ | with_reducible assumption | with_reducible refine Below.alloc ?_ ?_ _ | with_reducible refine Below.setCell ?_ ?_ _ | with_reducible refine Below.drew ?_ | with_reducible refine below_drewN ?_ _ | with_reducible refine Below.trans ?_ (Below.mono (by with_reducible assumption) ?_) | omega | (simp <;> omega)))⟩
set_option maxRecDepth 100000 in
theorem many_1 (T C B : Int) (w : World) : Calls Tryz.prog 73 #[(.agg #[.int .i64 T, .int .i64 C, .int .i64 B]), .int .i64 1] w fun e w' => e = .returned (.int .i64 (manyL T C B 1)) ∧ Below w.heap.size w w' := by
  have hx : ∀ w, (Instr.index 145 (.agg #[.int .i64 1, .int .i64 T, .int .i64 T, .int .i64 C, .int .i64 T, .int .i64 B, .int .i64 B]) (.int .i64 1)).run Tryz.prog w = .ok (.int .i64 (manyL T C B 1)) w := fun w => by kernel_rfl
  go_enter Tryz.func73, Tryz.ntmps73
  go_wp2_with fail
  go_ret
  exact ⟨rfl, (by repeat' (first | with_reducible exact Below.refl _ _ | with_reducible assumption | with_reducible refine Below.alloc ?_ ?_ _ | with_reducible refine Below.setCell ?_ ?_ _ | with_reducible refine Below.drew ?_ | with_reducible refine below_drewN ?_ _ | with_reducible refine Below.trans ?_ (Below.mono (by with_reducible assumption) ?_) | omega | (simp <;> omega)))⟩
set_option maxRecDepth 100000 in
theorem many_2 (T C B : Int) (w : World) : Calls Tryz.prog 73 #[(.agg #[.int .i64 T, .int .i64 C, .int .i64 B]), .int .i64 2] w fun e w' => e = .returned (.int .i64 (manyL T C B 2)) ∧ Below w.heap.size w w' := by
  have hx : ∀ w, (Instr.index 145 (.agg #[.int .i64 1, .int .i64 T, .int .i64 T, .int .i64 C, .int .i64 T, .int .i64 B, .int .i64 B]) (.int .i64 2)).run Tryz.prog w = .ok (.int .i64 (manyL T C B 2)) w := fun w => by kernel_rfl
  go_enter Tryz.func73, Tryz.ntmps73
  go_wp2_with fail
  go_ret
  exact ⟨rfl, (by repeat' (first | with_reducible exact Below.refl _ _ | with_reducible assumption | with_reducible refine Below.alloc ?_ ?_ _ | with_reducible refine Below.setCell ?_ ?_ _ | with_reducible refine Below.drew ?_ | with_reducible refine below_drewN ?_ _ | with_reducible refine Below.trans ?_ (Below.mono (by with_reducible assumption) ?_) | omega | (simp <;> omega)))⟩
set_option maxRecDepth 100000 in
theorem many_3 (T C B : Int) (w : World) : Calls Tryz.prog 73 #[(.agg #[.int .i64 T, .int .i64 C, .int .i64 B]), .int .i64 3] w fun e w' => e = .returned (.int .i64 (manyL T C B 3)) ∧ Below w.heap.size w w' := by
  have hx : ∀ w, (Instr.index 145 (.agg #[.int .i64 1, .int .i64 T, .int .i64 T, .int .i64 C, .int .i64 T, .int .i64 B, .int .i64 B]) (.int .i64 3)).run Tryz.prog w = .ok (.int .i64 (manyL T C B 3)) w := fun w => by kernel_rfl
  go_enter Tryz.func73, Tryz.ntmps73
  go_wp2_with fail
  go_ret
  exact ⟨rfl, (by repeat' (first | with_reducible exact Below.refl _ _ | with_reducible assumption | with_reducible refine Below.alloc ?_ ?_ _ | with_reducible refine Below.setCell ?_ ?_ _ | with_reducible refine Below.drew ?_ | with_reducible refine below_drewN ?_ _ | with_reducible refine Below.trans ?_ (Below.mono (by with_reducible assumption) ?_) | omega | (simp <;> omega)))⟩
set_option maxRecDepth 100000 in
theorem many_4 (T C B : Int) (w : World) : Calls Tryz.prog 73 #[(.agg #[.int .i64 T, .int .i64 C, .int .i64 B]), .int .i64 4] w fun e w' => e = .returned (.int .i64 (manyL T C B 4)) ∧ Below w.heap.size w w' := by
  have hx : ∀ w, (Instr.index 145 (.agg #[.int .i64 1, .int .i64 T, .int .i64 T, .int .i64 C, .int .i64 T, .int .i64 B, .int .i64 B]) (.int .i64 4)).run Tryz.prog w = .ok (.int .i64 (manyL T C B 4)) w := fun w => by kernel_rfl
  go_enter Tryz.func73, Tryz.ntmps73
  go_wp2_with fail
  go_ret
  exact ⟨rfl, (by repeat' (first | with_reducible exact Below.refl _ _ | with_reducible assumption | with_reducible refine Below.alloc ?_ ?_ _ | with_reducible refine Below.setCell ?_ ?_ _ | with_reducible refine Below.drew ?_ | with_reducible refine below_drewN ?_ _ | with_reducible refine Below.trans ?_ (Below.mono (by with_reducible assumption) ?_) | omega | (simp <;> omega)))⟩
set_option maxRecDepth 100000 in
theorem many_5 (T C B : Int) (w : World) : Calls Tryz.prog 73 #[(.agg #[.int .i64 T, .int .i64 C, .int .i64 B]), .int .i64 5] w fun e w' => e = .returned (.int .i64 (manyL T C B 5)) ∧ Below w.heap.size w w' := by
  have hx : ∀ w, (Instr.index 145 (.agg #[.int .i64 1, .int .i64 T, .int .i64 T, .int .i64 C, .int .i64 T, .int .i64 B, .int .i64 B]) (.int .i64 5)).run Tryz.prog w = .ok (.int .i64 (manyL T C B 5)) w := fun w => by kernel_rfl
  go_enter Tryz.func73, Tryz.ntmps73
  go_wp2_with fail
  go_ret
  exact ⟨rfl, (by repeat' (first | with_reducible exact Below.refl _ _ | with_reducible assumption | with_reducible refine Below.alloc ?_ ?_ _ | with_reducible refine Below.setCell ?_ ?_ _ | with_reducible refine Below.drew ?_ | with_reducible refine below_drewN ?_ _ | with_reducible refine Below.trans ?_ (Below.mono (by with_reducible assumption) ?_) | omega | (simp <;> omega)))⟩
set_option maxRecDepth 100000 in
theorem many_6 (T C B : Int) (w : World) : Calls Tryz.prog 73 #[(.agg #[.int .i64 T, .int .i64 C, .int .i64 B]), .int .i64 6] w fun e w' => e = .returned (.int .i64 (manyL T C B 6)) ∧ Below w.heap.size w w' := by
  have hx : ∀ w, (Instr.index 145 (.agg #[.int .i64 1, .int .i64 T, .int .i64 T, .int .i64 C, .int .i64 T, .int .i64 B, .int .i64 B]) (.int .i64 6)).run Tryz.prog w = .ok (.int .i64 (manyL T C B 6)) w := fun w => by kernel_rfl
  go_enter Tryz.func73, Tryz.ntmps73
  go_wp2_with fail
  go_ret
  exact ⟨rfl, (by repeat' (first | with_reducible exact Below.refl _ _ | with_reducible assumption | with_reducible refine Below.alloc ?_ ?_ _ | with_reducible refine Below.setCell ?_ ?_ _ | with_reducible refine Below.drew ?_ | with_reducible refine below_drewN ?_ _ | with_reducible refine Below.trans ?_ (Below.mono (by with_reducible assumption) ?_) | omega | (simp <;> omega)))⟩
set_option maxRecDepth 100000 in
theorem long_0 (T C B : Int) (w : World) (hf : Fit T C B) (hs : Sizes w) : Calls Tryz.prog 64 #[(.agg #[.int .i64 T, .int .i64 C, .int .i64 B]), .int .i64 0] w fun e w' => e = .returned (.int .i64 (longL T C B 0)) ∧ Below w.heap.size w w' := by
  obtain ⟨f1, f2, f3, f4, f5, f6⟩ := hf
  have z0 := hs 0 _ rfl
  have hp := hs.pos
  have hm : (manyL T C B 0) = [1, T, T, C, T, B, B].getD 0 0 := rfl
  have hl : (longL T C B 0) = [8, 8 * T, 8 * T, (C + 7) / 8 * 8, 104 * T, (if 0 < B then 8 else 0), 32 * B].getD 0 0 := rfl
  simp only [List.getD_cons_zero, List.getD_cons_succ] at hm hl
  rw [hl]
  clear hl
  go_enter Tryz.func64, Tryz.ntmps64
  go_wp2_with fail
  go_region_held3 (fun w' => w'.cell? ⟨w.heap.size, 0, none⟩ = some (.int .i64 T) ∧ w'.cell? ⟨w.heap.size, 1, none⟩ = some (.int .i64 C) ∧ w'.cell? ⟨w.heap.size, 2, none⟩ = some (.int .i64 B) ∧ w'.cell? ⟨0, 0, none⟩ = some (.int .i64 ([8, 8, 8, 1, 104, 0, 32].getD 0 0)))
    (first | exact ⟨by go_simp, by go_simp, by go_simp, by go_simp⟩ | go_keep)
    (first | (go_at_call 73; refine (many_0 T C B _).mono ?_; rintro e w1 ⟨rfl, hb1'⟩; have hb1 : Below _ _ w1 := (by first | with_reducible exact noDrew hb1' | exact hb1'); clear hb1'; obtain ⟨hcc1, hff1⟩ := bcell hb1; have hs1 := hb1.size; (try simp at hs1); rw [hm]))
  all_goals go_wp2_with fail
  all_goals go_ret
  all_goals exact ⟨(by first | rfl | (refine congrArg (fun z => Ending.returned (Value.int IntKind.i64 z)) ?_; first | omega | (simp <;> omega))), (by repeat' (first | with_reducible exact Below.refl _ _ | with_reducible assumption | with_reducible refine Below.alloc ?_ ?_ _ | with_reducible refine Below.setCell ?_ ?_ _ | with_reducible refine Below.drew ?_ | with_reducible refine below_drewN ?_ _ | with_reducible refine Below.trans ?_ (Below.mono (by with_reducible assumption) ?_) | omega | (simp <;> omega)))⟩
set_option maxRecDepth 100000 in
theorem long_1 (T C B : Int) (w : World) (hf : Fit T C B) (hs : Sizes w) : Calls Tryz.prog 64 #[(.agg #[.int .i64 T, .int .i64 C, .int .i64 B]), .int .i64 1] w fun e w' => e = .returned (.int .i64 (longL T C B 1)) ∧ Below w.heap.size w w' := by
  obtain ⟨f1, f2, f3, f4, f5, f6⟩ := hf
  have z0 := hs 1 _ rfl
  have hp := hs.pos
  have hm : (manyL T C B 1) = [1, T, T, C, T, B, B].getD 1 0 := rfl
  have hl : (longL T C B 1) = [8, 8 * T, 8 * T, (C + 7) / 8 * 8, 104 * T, (if 0 < B then 8 else 0), 32 * B].getD 1 0 := rfl
  simp only [List.getD_cons_zero, List.getD_cons_succ] at hm hl
  rw [hl]
  clear hl
  go_enter Tryz.func64, Tryz.ntmps64
  go_wp2_with fail
  go_region_held3 (fun w' => w'.cell? ⟨w.heap.size, 0, none⟩ = some (.int .i64 T) ∧ w'.cell? ⟨w.heap.size, 1, none⟩ = some (.int .i64 C) ∧ w'.cell? ⟨w.heap.size, 2, none⟩ = some (.int .i64 B) ∧ w'.cell? ⟨0, 1, none⟩ = some (.int .i64 ([8, 8, 8, 1, 104, 0, 32].getD 1 0)))
    (first | exact ⟨by go_simp, by go_simp, by go_simp, by go_simp⟩ | go_keep)
    (first | (go_at_call 73; refine (many_1 T C B _).mono ?_; rintro e w1 ⟨rfl, hb1'⟩; have hb1 : Below _ _ w1 := (by first | with_reducible exact noDrew hb1' | exact hb1'); clear hb1'; obtain ⟨hcc1, hff1⟩ := bcell hb1; have hs1 := hb1.size; (try simp at hs1); rw [hm]))
  all_goals go_wp2_with fail
  all_goals go_ret
  all_goals exact ⟨(by first | rfl | (refine congrArg (fun z => Ending.returned (Value.int IntKind.i64 z)) ?_; first | omega | (simp <;> omega))), (by repeat' (first | with_reducible exact Below.refl _ _ | with_reducible assumption | with_reducible refine Below.alloc ?_ ?_ _ | with_reducible refine Below.setCell ?_ ?_ _ | with_reducible refine Below.drew ?_ | with_reducible refine below_drewN ?_ _ | with_reducible refine Below.trans ?_ (Below.mono (by with_reducible assumption) ?_) | omega | (simp <;> omega)))⟩
set_option maxRecDepth 100000 in
theorem long_2 (T C B : Int) (w : World) (hf : Fit T C B) (hs : Sizes w) : Calls Tryz.prog 64 #[(.agg #[.int .i64 T, .int .i64 C, .int .i64 B]), .int .i64 2] w fun e w' => e = .returned (.int .i64 (longL T C B 2)) ∧ Below w.heap.size w w' := by
  obtain ⟨f1, f2, f3, f4, f5, f6⟩ := hf
  have z0 := hs 2 _ rfl
  have hp := hs.pos
  have hm : (manyL T C B 2) = [1, T, T, C, T, B, B].getD 2 0 := rfl
  have hl : (longL T C B 2) = [8, 8 * T, 8 * T, (C + 7) / 8 * 8, 104 * T, (if 0 < B then 8 else 0), 32 * B].getD 2 0 := rfl
  simp only [List.getD_cons_zero, List.getD_cons_succ] at hm hl
  rw [hl]
  clear hl
  go_enter Tryz.func64, Tryz.ntmps64
  go_wp2_with fail
  go_region_held3 (fun w' => w'.cell? ⟨w.heap.size, 0, none⟩ = some (.int .i64 T) ∧ w'.cell? ⟨w.heap.size, 1, none⟩ = some (.int .i64 C) ∧ w'.cell? ⟨w.heap.size, 2, none⟩ = some (.int .i64 B) ∧ w'.cell? ⟨0, 2, none⟩ = some (.int .i64 ([8, 8, 8, 1, 104, 0, 32].getD 2 0)))
    (first | exact ⟨by go_simp, by go_simp, by go_simp, by go_simp⟩ | go_keep)
    (first | (go_at_call 73; refine (many_2 T C B _).mono ?_; rintro e w1 ⟨rfl, hb1'⟩; have hb1 : Below _ _ w1 := (by first | with_reducible exact noDrew hb1' | exact hb1'); clear hb1'; obtain ⟨hcc1, hff1⟩ := bcell hb1; have hs1 := hb1.size; (try simp at hs1); rw [hm]))
  all_goals go_wp2_with fail
  all_goals go_ret
  all_goals exact ⟨(by first | rfl | (refine congrArg (fun z => Ending.returned (Value.int IntKind.i64 z)) ?_; first | omega | (simp <;> omega))), (by repeat' (first | with_reducible exact Below.refl _ _ | with_reducible assumption | with_reducible refine Below.alloc ?_ ?_ _ | with_reducible refine Below.setCell ?_ ?_ _ | with_reducible refine Below.drew ?_ | with_reducible refine below_drewN ?_ _ | with_reducible refine Below.trans ?_ (Below.mono (by with_reducible assumption) ?_) | omega | (simp <;> omega)))⟩
set_option maxRecDepth 100000 in
theorem long_3 (T C B : Int) (w : World) (hf : Fit T C B) (hs : Sizes w) : Calls Tryz.prog 64 #[(.agg #[.int .i64 T, .int .i64 C, .int .i64 B]), .int .i64 3] w fun e w' => e = .returned (.int .i64 (longL T C B 3)) ∧ Below w.heap.size w w' := by
  obtain ⟨f1, f2, f3, f4, f5, f6⟩ := hf
  have z0 := hs 3 _ rfl
  have hp := hs.pos
  have hm : (manyL T C B 3) = [1, T, T, C, T, B, B].getD 3 0 := rfl
  have hl : (longL T C B 3) = [8, 8 * T, 8 * T, (C + 7) / 8 * 8, 104 * T, (if 0 < B then 8 else 0), 32 * B].getD 3 0 := rfl
  simp only [List.getD_cons_zero, List.getD_cons_succ] at hm hl
  rw [hl]
  clear hl
  go_enter Tryz.func64, Tryz.ntmps64
  go_wp2_with fail
  go_region_held3 (fun w' => w'.cell? ⟨w.heap.size, 0, none⟩ = some (.int .i64 T) ∧ w'.cell? ⟨w.heap.size, 1, none⟩ = some (.int .i64 C) ∧ w'.cell? ⟨w.heap.size, 2, none⟩ = some (.int .i64 B) ∧ w'.cell? ⟨0, 3, none⟩ = some (.int .i64 ([8, 8, 8, 1, 104, 0, 32].getD 3 0)))
    (first | exact ⟨by go_simp, by go_simp, by go_simp, by go_simp⟩ | go_keep)
    (first | (go_at_call 73; refine (many_3 T C B _).mono ?_; rintro e w1 ⟨rfl, hb1'⟩; have hb1 : Below _ _ w1 := (by first | with_reducible exact noDrew hb1' | exact hb1'); clear hb1'; obtain ⟨hcc1, hff1⟩ := bcell hb1; have hs1 := hb1.size; (try simp at hs1); rw [hm]))
  all_goals go_wp2_with fail
  all_goals go_ret
  all_goals exact ⟨(by first | rfl | (refine congrArg (fun z => Ending.returned (Value.int IntKind.i64 z)) ?_; first | omega | (simp <;> omega))), (by repeat' (first | with_reducible exact Below.refl _ _ | with_reducible assumption | with_reducible refine Below.alloc ?_ ?_ _ | with_reducible refine Below.setCell ?_ ?_ _ | with_reducible refine Below.drew ?_ | with_reducible refine below_drewN ?_ _ | with_reducible refine Below.trans ?_ (Below.mono (by with_reducible assumption) ?_) | omega | (simp <;> omega)))⟩
set_option maxRecDepth 100000 in
theorem long_4 (T C B : Int) (w : World) (hf : Fit T C B) (hs : Sizes w) : Calls Tryz.prog 64 #[(.agg #[.int .i64 T, .int .i64 C, .int .i64 B]), .int .i64 4] w fun e w' => e = .returned (.int .i64 (longL T C B 4)) ∧ Below w.heap.size w w' := by
  obtain ⟨f1, f2, f3, f4, f5, f6⟩ := hf
  have z0 := hs 4 _ rfl
  have hp := hs.pos
  have hm : (manyL T C B 4) = [1, T, T, C, T, B, B].getD 4 0 := rfl
  have hl : (longL T C B 4) = [8, 8 * T, 8 * T, (C + 7) / 8 * 8, 104 * T, (if 0 < B then 8 else 0), 32 * B].getD 4 0 := rfl
  simp only [List.getD_cons_zero, List.getD_cons_succ] at hm hl
  rw [hl]
  clear hl
  go_enter Tryz.func64, Tryz.ntmps64
  go_wp2_with fail
  go_region_held3 (fun w' => w'.cell? ⟨w.heap.size, 0, none⟩ = some (.int .i64 T) ∧ w'.cell? ⟨w.heap.size, 1, none⟩ = some (.int .i64 C) ∧ w'.cell? ⟨w.heap.size, 2, none⟩ = some (.int .i64 B) ∧ w'.cell? ⟨0, 4, none⟩ = some (.int .i64 ([8, 8, 8, 1, 104, 0, 32].getD 4 0)))
    (first | exact ⟨by go_simp, by go_simp, by go_simp, by go_simp⟩ | go_keep)
    (first | (go_at_call 73; refine (many_4 T C B _).mono ?_; rintro e w1 ⟨rfl, hb1'⟩; have hb1 : Below _ _ w1 := (by first | with_reducible exact noDrew hb1' | exact hb1'); clear hb1'; obtain ⟨hcc1, hff1⟩ := bcell hb1; have hs1 := hb1.size; (try simp at hs1); rw [hm]))
  all_goals go_wp2_with fail
  all_goals go_ret
  all_goals exact ⟨(by first | rfl | (refine congrArg (fun z => Ending.returned (Value.int IntKind.i64 z)) ?_; first | omega | (simp <;> omega))), (by repeat' (first | with_reducible exact Below.refl _ _ | with_reducible assumption | with_reducible refine Below.alloc ?_ ?_ _ | with_reducible refine Below.setCell ?_ ?_ _ | with_reducible refine Below.drew ?_ | with_reducible refine below_drewN ?_ _ | with_reducible refine Below.trans ?_ (Below.mono (by with_reducible assumption) ?_) | omega | (simp <;> omega)))⟩
set_option maxRecDepth 100000 in
theorem long_6 (T C B : Int) (w : World) (hf : Fit T C B) (hs : Sizes w) : Calls Tryz.prog 64 #[(.agg #[.int .i64 T, .int .i64 C, .int .i64 B]), .int .i64 6] w fun e w' => e = .returned (.int .i64 (longL T C B 6)) ∧ Below w.heap.size w w' := by
  obtain ⟨f1, f2, f3, f4, f5, f6⟩ := hf
  have z0 := hs 6 _ rfl
  have hp := hs.pos
  have hm : (manyL T C B 6) = [1, T, T, C, T, B, B].getD 6 0 := rfl
  have hl : (longL T C B 6) = [8, 8 * T, 8 * T, (C + 7) / 8 * 8, 104 * T, (if 0 < B then 8 else 0), 32 * B].getD 6 0 := rfl
  simp only [List.getD_cons_zero, List.getD_cons_succ] at hm hl
  rw [hl]
  clear hl
  go_enter Tryz.func64, Tryz.ntmps64
  go_wp2_with fail
  go_region_held3 (fun w' => w'.cell? ⟨w.heap.size, 0, none⟩ = some (.int .i64 T) ∧ w'.cell? ⟨w.heap.size, 1, none⟩ = some (.int .i64 C) ∧ w'.cell? ⟨w.heap.size, 2, none⟩ = some (.int .i64 B) ∧ w'.cell? ⟨0, 6, none⟩ = some (.int .i64 ([8, 8, 8, 1, 104, 0, 32].getD 6 0)))
    (first | exact ⟨by go_simp, by go_simp, by go_simp, by go_simp⟩ | go_keep)
    (first | (go_at_call 73; refine (many_6 T C B _).mono ?_; rintro e w1 ⟨rfl, hb1'⟩; have hb1 : Below _ _ w1 := (by first | with_reducible exact noDrew hb1' | exact hb1'); clear hb1'; obtain ⟨hcc1, hff1⟩ := bcell hb1; have hs1 := hb1.size; (try simp at hs1); rw [hm]))
  all_goals go_wp2_with fail
  all_goals go_ret
  all_goals exact ⟨(by first | rfl | (refine congrArg (fun z => Ending.returned (Value.int IntKind.i64 z)) ?_; first | omega | (simp <;> omega))), (by repeat' (first | with_reducible exact Below.refl _ _ | with_reducible assumption | with_reducible refine Below.alloc ?_ ?_ _ | with_reducible refine Below.setCell ?_ ?_ _ | with_reducible refine Below.drew ?_ | with_reducible refine below_drewN ?_ _ | with_reducible refine Below.trans ?_ (Below.mono (by with_reducible assumption) ?_) | omega | (simp <;> omega)))⟩
set_option maxHeartbeats 2000000 in
set_option maxRecDepth 100000 in
theorem long_5_0 (T C : Int) (w : World) (hf : Fit T C 0) (hs : Sizes w) : Calls Tryz.prog 64 #[.agg #[.int .i64 T, .int .i64 C, .int .i64 0], .int .i64 5] w fun e w' => e = .returned (.int .i64 0) ∧ Below w.heap.size w w' := by
  obtain ⟨f1, f2, f3, f4, f5, f6⟩ := hf
  have z0 := hs 5 _ rfl
  have hp := hs.pos
  have hm : (manyL T C 0 5) = 0 := rfl
  go_enter Tryz.func64, Tryz.ntmps64
  go_wp2_with fail
  go_region_held3 (fun w' => w'.cell? ⟨w.heap.size, 0, none⟩ = some (.int .i64 T) ∧ w'.cell? ⟨w.heap.size, 1, none⟩ = some (.int .i64 C) ∧ w'.cell? ⟨w.heap.size, 2, none⟩ = some (.int .i64 0) ∧ w'.cell? ⟨0, 5, none⟩ = some (.int .i64 0))
    (first | exact ⟨by go_simp, by go_simp, by go_simp, by go_simp⟩ | go_keep)
    (first | (go_at_call 73; refine (many_5 T C 0 _).mono ?_; rintro e w1 ⟨rfl, hb1'⟩; have hb1 : Below _ _ w1 := (by first | with_reducible exact noDrew hb1' | exact hb1'); clear hb1'; obtain ⟨hcc1, hff1⟩ := bcell hb1; have hs1 := hb1.size; (try simp at hs1); rw [hm]))
  all_goals go_wp2_with (first | (go_at_call 73; refine (many_5 T C 0 _).mono ?_; rintro e w2 ⟨rfl, hb2⟩; obtain ⟨hcc2, hff2⟩ := bcell hb2; have hs2 := hb2.size; (try simp at hs2); rw [hm]))
  all_goals go_ret
  all_goals exact ⟨(by first | rfl | (refine congrArg (fun z => Ending.returned (Value.int IntKind.i64 z)) ?_; first | omega | (simp <;> omega))), (by repeat' (first | with_reducible exact Below.refl _ _ | with_reducible assumption | with_reducible refine Below.alloc ?_ ?_ _ | with_reducible refine Below.setCell ?_ ?_ _ | with_reducible refine Below.drew ?_ | with_reducible refine below_drewN ?_ _ | with_reducible refine Below.trans ?_ (Below.mono (by with_reducible assumption) ?_) | omega | (simp <;> omega)))⟩
set_option maxHeartbeats 2000000 in
set_option maxRecDepth 100000 in
theorem long_5_1 (T C B : Int) (w : World) (hf : Fit T C B) (hs : Sizes w) (hB : 0 < B) : Calls Tryz.prog 64 #[.agg #[.int .i64 T, .int .i64 C, .int .i64 B], .int .i64 5] w fun e w' => e = .returned (.int .i64 8) ∧ Below w.heap.size w w' := by
  obtain ⟨f1, f2, f3, f4, f5, f6⟩ := hf
  have z0 := hs 5 _ rfl
  have hp := hs.pos
  have hm : (manyL T C B 5) = B := rfl
  go_enter Tryz.func64, Tryz.ntmps64
  go_wp2_with fail
  go_region_held3 (fun w' => w'.cell? ⟨w.heap.size, 0, none⟩ = some (.int .i64 T) ∧ w'.cell? ⟨w.heap.size, 1, none⟩ = some (.int .i64 C) ∧ w'.cell? ⟨w.heap.size, 2, none⟩ = some (.int .i64 B) ∧ w'.cell? ⟨0, 5, none⟩ = some (.int .i64 0))
    (first | exact ⟨by go_simp, by go_simp, by go_simp, by go_simp⟩ | go_keep)
    (first | (go_at_call 73; refine (many_5 T C B _).mono ?_; rintro e w1 ⟨rfl, hb1'⟩; have hb1 : Below _ _ w1 := (by first | with_reducible exact noDrew hb1' | exact hb1'); clear hb1'; obtain ⟨hcc1, hff1⟩ := bcell hb1; have hs1 := hb1.size; (try simp at hs1); rw [hm]))
  all_goals go_wp2_with (first | (go_at_call 73; refine (many_5 T C B _).mono ?_; rintro e w2 ⟨rfl, hb2⟩; obtain ⟨hcc2, hff2⟩ := bcell hb2; have hs2 := hb2.size; (try simp at hs2); rw [hm]))
  all_goals go_ret
  all_goals exact ⟨(by first | rfl | (refine congrArg (fun z => Ending.returned (Value.int IntKind.i64 z)) ?_; first | omega | (simp <;> omega))), (by repeat' (first | with_reducible exact Below.refl _ _ | with_reducible assumption | with_reducible refine Below.alloc ?_ ?_ _ | with_reducible refine Below.setCell ?_ ?_ _ | with_reducible refine Below.drew ?_ | with_reducible refine below_drewN ?_ _ | with_reducible refine Below.trans ?_ (Below.mono (by with_reducible assumption) ?_) | omega | (simp <;> omega)))⟩
theorem long_5 (T C B : Int) (w : World) (hf : Fit T C B) (hs : Sizes w) : Calls Tryz.prog 64 #[(.agg #[.int .i64 T, .int .i64 C, .int .i64 B]), .int .i64 5] w fun e w' => e = .returned (.int .i64 (longL T C B 5)) ∧ Below w.heap.size w w' := by
  have hl : (longL T C B 5) = (if 0 < B then 8 else 0) := rfl
  rw [hl]
  by_cases h : 0 < B
  · rw [if_pos h]
    exact long_5_1 T C B w hf hs h
  · obtain rfl : B = 0 := by have := hf.2.2.2.2.1; omega
    exact long_5_0 T C w hf hs
theorem long_le (T C B : Int) (hf : Fit T C B) (p : Nat) : 0 ≤ longL T C B p ∧ longL T C B p ≤ 2056 := by
  obtain ⟨f1, f2, f3, f4, f5, f6⟩ := hf
  match p with
  | 0 | 1 | 2 | 3 | 4 | 5 | 6 => (simp only [longL, List.getD_cons_zero, List.getD_cons_succ]; (try split) <;> omega)
  | p + 7 => simp [longL]
theorem from_le (T C B : Int) (hf : Fit T C B) : ∀ p, 0 ≤ fromL T C B p ∧ fromL T C B p ≤ 2056 * p
  | 0 => by simp [fromL]
  | p + 1 => by
    have h1 := from_le T C B hf p
    have h2 := long_le T C B hf p
    simp only [fromL]
    omega
set_option maxHeartbeats 2000000 in
set_option maxRecDepth 100000 in
theorem from_0 (T C B : Int) (w : World) (hf : Fit T C B) (hs : Sizes w) : Calls Tryz.prog 39 #[(.agg #[.int .i64 T, .int .i64 C, .int .i64 B]), .int .i64 0] w fun e w' => e = .returned (.int .i64 (fromL T C B 0)) ∧ Below w.heap.size w w' := by
  have hl0 := long_le T C B hf
  have hp := hs.pos
  have l0 := hl0 0
  have l1 := hl0 1
  have l2 := hl0 2
  have l3 := hl0 3
  have l4 := hl0 4
  have l5 := hl0 5
  have l6 := hl0 6
  obtain ⟨R, hR⟩ : ∃ R, R = (fromL T C B 0) := ⟨_, rfl⟩
  rw [← hR]
  simp only [fromL] at hR
  have HR := hide hR
  clear hR hl0
  go_enter Tryz.func39, Tryz.ntmps39
  go_wp2_with fail
  refine wp_loop_rounds (0 + 1) ?_
  repeat any_goals (rw [rounds_succ]; go_wp2_with (first | (go_at_call 64; (first | (with_reducible refine (long_0 T C B _ hf (hs.below (by repeat' (first | with_reducible exact Below.refl _ _ | with_reducible assumption | with_reducible refine Below.alloc ?_ ?_ _ | with_reducible refine Below.setCell ?_ ?_ _ | with_reducible refine Below.drew ?_ | with_reducible refine below_drewN ?_ _ | with_reducible refine Below.trans ?_ (Below.mono (by with_reducible assumption) ?_) | omega | (simp <;> omega))))).mono ?_) | (with_reducible refine (long_1 T C B _ hf (hs.below (by repeat' (first | with_reducible exact Below.refl _ _ | with_reducible assumption | with_reducible refine Below.alloc ?_ ?_ _ | with_reducible refine Below.setCell ?_ ?_ _ | with_reducible refine Below.drew ?_ | with_reducible refine below_drewN ?_ _ | with_reducible refine Below.trans ?_ (Below.mono (by with_reducible assumption) ?_) | omega | (simp <;> omega))))).mono ?_) | (with_reducible refine (long_2 T C B _ hf (hs.below (by repeat' (first | with_reducible exact Below.refl _ _ | with_reducible assumption | with_reducible refine Below.alloc ?_ ?_ _ | with_reducible refine Below.setCell ?_ ?_ _ | with_reducible refine Below.drew ?_ | with_reducible refine below_drewN ?_ _ | with_reducible refine Below.trans ?_ (Below.mono (by with_reducible assumption) ?_) | omega | (simp <;> omega))))).mono ?_) | (with_reducible refine (long_3 T C B _ hf (hs.below (by repeat' (first | with_reducible exact Below.refl _ _ | with_reducible assumption | with_reducible refine Below.alloc ?_ ?_ _ | with_reducible refine Below.setCell ?_ ?_ _ | with_reducible refine Below.drew ?_ | with_reducible refine below_drewN ?_ _ | with_reducible refine Below.trans ?_ (Below.mono (by with_reducible assumption) ?_) | omega | (simp <;> omega))))).mono ?_) | (with_reducible refine (long_4 T C B _ hf (hs.below (by repeat' (first | with_reducible exact Below.refl _ _ | with_reducible assumption | with_reducible refine Below.alloc ?_ ?_ _ | with_reducible refine Below.setCell ?_ ?_ _ | with_reducible refine Below.drew ?_ | with_reducible refine below_drewN ?_ _ | with_reducible refine Below.trans ?_ (Below.mono (by with_reducible assumption) ?_) | omega | (simp <;> omega))))).mono ?_) | (with_reducible refine (long_5 T C B _ hf (hs.below (by repeat' (first | with_reducible exact Below.refl _ _ | with_reducible assumption | with_reducible refine Below.alloc ?_ ?_ _ | with_reducible refine Below.setCell ?_ ?_ _ | with_reducible refine Below.drew ?_ | with_reducible refine below_drewN ?_ _ | with_reducible refine Below.trans ?_ (Below.mono (by with_reducible assumption) ?_) | omega | (simp <;> omega))))).mono ?_) | (with_reducible refine (long_6 T C B _ hf (hs.below (by repeat' (first | with_reducible exact Below.refl _ _ | with_reducible assumption | with_reducible refine Below.alloc ?_ ?_ _ | with_reducible refine Below.setCell ?_ ?_ _ | with_reducible refine Below.drew ?_ | with_reducible refine below_drewN ?_ _ | with_reducible refine Below.trans ?_ (Below.mono (by with_reducible assumption) ?_) | omega | (simp <;> omega))))).mono ?_)); rintro e w1 ⟨rfl, hb1⟩; obtain ⟨hcc1, hff1⟩ := bcell hb1; have hs1 := hb1.size; (try simp at hs1); have hz1 : w.heap.size < w1.heap.size := (by omega))))
  all_goals go_ret
  all_goals exact ⟨by rw [HR.out]; exact (by first | rfl | (refine congrArg (fun z => Ending.returned (Value.int IntKind.i64 z)) ?_; first | omega | (simp <;> omega))), (by repeat' (first | with_reducible exact Below.refl _ _ | with_reducible assumption | with_reducible refine Below.alloc ?_ ?_ _ | with_reducible refine Below.setCell ?_ ?_ _ | with_reducible refine Below.drew ?_ | with_reducible refine below_drewN ?_ _ | with_reducible refine Below.trans ?_ (Below.mono (by with_reducible assumption) ?_) | omega | (simp <;> omega)))⟩
set_option maxHeartbeats 2000000 in
set_option maxRecDepth 100000 in
theorem from_1 (T C B : Int) (w : World) (hf : Fit T C B) (hs : Sizes w) : Calls Tryz.prog 39 #[(.agg #[.int .i64 T, .int .i64 C, .int .i64 B]), .int .i64 1] w fun e w' => e = .returned (.int .i64 (fromL T C B 1)) ∧ Below w.heap.size w w' := by
  have hl0 := long_le T C B hf
  have hp := hs.pos
  have l0 := hl0 0
  have l1 := hl0 1
  have l2 := hl0 2
  have l3 := hl0 3
  have l4 := hl0 4
  have l5 := hl0 5
  have l6 := hl0 6
  obtain ⟨R, hR⟩ : ∃ R, R = (fromL T C B 1) := ⟨_, rfl⟩
  rw [← hR]
  simp only [fromL] at hR
  have HR := hide hR
  clear hR hl0
  go_enter Tryz.func39, Tryz.ntmps39
  go_wp2_with fail
  refine wp_loop_rounds (1 + 1) ?_
  repeat any_goals (rw [rounds_succ]; go_wp2_with (first | (go_at_call 64; (first | (with_reducible refine (long_0 T C B _ hf (hs.below (by repeat' (first | with_reducible exact Below.refl _ _ | with_reducible assumption | with_reducible refine Below.alloc ?_ ?_ _ | with_reducible refine Below.setCell ?_ ?_ _ | with_reducible refine Below.drew ?_ | with_reducible refine below_drewN ?_ _ | with_reducible refine Below.trans ?_ (Below.mono (by with_reducible assumption) ?_) | omega | (simp <;> omega))))).mono ?_) | (with_reducible refine (long_1 T C B _ hf (hs.below (by repeat' (first | with_reducible exact Below.refl _ _ | with_reducible assumption | with_reducible refine Below.alloc ?_ ?_ _ | with_reducible refine Below.setCell ?_ ?_ _ | with_reducible refine Below.drew ?_ | with_reducible refine below_drewN ?_ _ | with_reducible refine Below.trans ?_ (Below.mono (by with_reducible assumption) ?_) | omega | (simp <;> omega))))).mono ?_) | (with_reducible refine (long_2 T C B _ hf (hs.below (by repeat' (first | with_reducible exact Below.refl _ _ | with_reducible assumption | with_reducible refine Below.alloc ?_ ?_ _ | with_reducible refine Below.setCell ?_ ?_ _ | with_reducible refine Below.drew ?_ | with_reducible refine below_drewN ?_ _ | with_reducible refine Below.trans ?_ (Below.mono (by with_reducible assumption) ?_) | omega | (simp <;> omega))))).mono ?_) | (with_reducible refine (long_3 T C B _ hf (hs.below (by repeat' (first | with_reducible exact Below.refl _ _ | with_reducible assumption | with_reducible refine Below.alloc ?_ ?_ _ | with_reducible refine Below.setCell ?_ ?_ _ | with_reducible refine Below.drew ?_ | with_reducible refine below_drewN ?_ _ | with_reducible refine Below.trans ?_ (Below.mono (by with_reducible assumption) ?_) | omega | (simp <;> omega))))).mono ?_) | (with_reducible refine (long_4 T C B _ hf (hs.below (by repeat' (first | with_reducible exact Below.refl _ _ | with_reducible assumption | with_reducible refine Below.alloc ?_ ?_ _ | with_reducible refine Below.setCell ?_ ?_ _ | with_reducible refine Below.drew ?_ | with_reducible refine below_drewN ?_ _ | with_reducible refine Below.trans ?_ (Below.mono (by with_reducible assumption) ?_) | omega | (simp <;> omega))))).mono ?_) | (with_reducible refine (long_5 T C B _ hf (hs.below (by repeat' (first | with_reducible exact Below.refl _ _ | with_reducible assumption | with_reducible refine Below.alloc ?_ ?_ _ | with_reducible refine Below.setCell ?_ ?_ _ | with_reducible refine Below.drew ?_ | with_reducible refine below_drewN ?_ _ | with_reducible refine Below.trans ?_ (Below.mono (by with_reducible assumption) ?_) | omega | (simp <;> omega))))).mono ?_) | (with_reducible refine (long_6 T C B _ hf (hs.below (by repeat' (first | with_reducible exact Below.refl _ _ | with_reducible assumption | with_reducible refine Below.alloc ?_ ?_ _ | with_reducible refine Below.setCell ?_ ?_ _ | with_reducible refine Below.drew ?_ | with_reducible refine below_drewN ?_ _ | with_reducible refine Below.trans ?_ (Below.mono (by with_reducible assumption) ?_) | omega | (simp <;> omega))))).mono ?_)); rintro e w1 ⟨rfl, hb1⟩; obtain ⟨hcc1, hff1⟩ := bcell hb1; have hs1 := hb1.size; (try simp at hs1); have hz1 : w.heap.size < w1.heap.size := (by omega))))
  all_goals go_ret
  all_goals exact ⟨by rw [HR.out]; exact (by first | rfl | (refine congrArg (fun z => Ending.returned (Value.int IntKind.i64 z)) ?_; first | omega | (simp <;> omega))), (by repeat' (first | with_reducible exact Below.refl _ _ | with_reducible assumption | with_reducible refine Below.alloc ?_ ?_ _ | with_reducible refine Below.setCell ?_ ?_ _ | with_reducible refine Below.drew ?_ | with_reducible refine below_drewN ?_ _ | with_reducible refine Below.trans ?_ (Below.mono (by with_reducible assumption) ?_) | omega | (simp <;> omega)))⟩
set_option maxHeartbeats 2000000 in
set_option maxRecDepth 100000 in
theorem from_2 (T C B : Int) (w : World) (hf : Fit T C B) (hs : Sizes w) : Calls Tryz.prog 39 #[(.agg #[.int .i64 T, .int .i64 C, .int .i64 B]), .int .i64 2] w fun e w' => e = .returned (.int .i64 (fromL T C B 2)) ∧ Below w.heap.size w w' := by
  have hl0 := long_le T C B hf
  have hp := hs.pos
  have l0 := hl0 0
  have l1 := hl0 1
  have l2 := hl0 2
  have l3 := hl0 3
  have l4 := hl0 4
  have l5 := hl0 5
  have l6 := hl0 6
  obtain ⟨R, hR⟩ : ∃ R, R = (fromL T C B 2) := ⟨_, rfl⟩
  rw [← hR]
  simp only [fromL] at hR
  have HR := hide hR
  clear hR hl0
  go_enter Tryz.func39, Tryz.ntmps39
  go_wp2_with fail
  refine wp_loop_rounds (2 + 1) ?_
  repeat any_goals (rw [rounds_succ]; go_wp2_with (first | (go_at_call 64; (first | (with_reducible refine (long_0 T C B _ hf (hs.below (by repeat' (first | with_reducible exact Below.refl _ _ | with_reducible assumption | with_reducible refine Below.alloc ?_ ?_ _ | with_reducible refine Below.setCell ?_ ?_ _ | with_reducible refine Below.drew ?_ | with_reducible refine below_drewN ?_ _ | with_reducible refine Below.trans ?_ (Below.mono (by with_reducible assumption) ?_) | omega | (simp <;> omega))))).mono ?_) | (with_reducible refine (long_1 T C B _ hf (hs.below (by repeat' (first | with_reducible exact Below.refl _ _ | with_reducible assumption | with_reducible refine Below.alloc ?_ ?_ _ | with_reducible refine Below.setCell ?_ ?_ _ | with_reducible refine Below.drew ?_ | with_reducible refine below_drewN ?_ _ | with_reducible refine Below.trans ?_ (Below.mono (by with_reducible assumption) ?_) | omega | (simp <;> omega))))).mono ?_) | (with_reducible refine (long_2 T C B _ hf (hs.below (by repeat' (first | with_reducible exact Below.refl _ _ | with_reducible assumption | with_reducible refine Below.alloc ?_ ?_ _ | with_reducible refine Below.setCell ?_ ?_ _ | with_reducible refine Below.drew ?_ | with_reducible refine below_drewN ?_ _ | with_reducible refine Below.trans ?_ (Below.mono (by with_reducible assumption) ?_) | omega | (simp <;> omega))))).mono ?_) | (with_reducible refine (long_3 T C B _ hf (hs.below (by repeat' (first | with_reducible exact Below.refl _ _ | with_reducible assumption | with_reducible refine Below.alloc ?_ ?_ _ | with_reducible refine Below.setCell ?_ ?_ _ | with_reducible refine Below.drew ?_ | with_reducible refine below_drewN ?_ _ | with_reducible refine Below.trans ?_ (Below.mono (by with_reducible assumption) ?_) | omega | (simp <;> omega))))).mono ?_) | (with_reducible refine (long_4 T C B _ hf (hs.below (by repeat' (first | with_reducible exact Below.refl _ _ | with_reducible assumption | with_reducible refine Below.alloc ?_ ?_ _ | with_reducible refine Below.setCell ?_ ?_ _ | with_reducible refine Below.drew ?_ | with_reducible refine below_drewN ?_ _ | with_reducible refine Below.trans ?_ (Below.mono (by with_reducible assumption) ?_) | omega | (simp <;> omega))))).mono ?_) | (with_reducible refine (long_5 T C B _ hf (hs.below (by repeat' (first | with_reducible exact Below.refl _ _ | with_reducible assumption | with_reducible refine Below.alloc ?_ ?_ _ | with_reducible refine Below.setCell ?_ ?_ _ | with_reducible refine Below.drew ?_ | with_reducible refine below_drewN ?_ _ | with_reducible refine Below.trans ?_ (Below.mono (by with_reducible assumption) ?_) | omega | (simp <;> omega))))).mono ?_) | (with_reducible refine (long_6 T C B _ hf (hs.below (by repeat' (first | with_reducible exact Below.refl _ _ | with_reducible assumption | with_reducible refine Below.alloc ?_ ?_ _ | with_reducible refine Below.setCell ?_ ?_ _ | with_reducible refine Below.drew ?_ | with_reducible refine below_drewN ?_ _ | with_reducible refine Below.trans ?_ (Below.mono (by with_reducible assumption) ?_) | omega | (simp <;> omega))))).mono ?_)); rintro e w1 ⟨rfl, hb1⟩; obtain ⟨hcc1, hff1⟩ := bcell hb1; have hs1 := hb1.size; (try simp at hs1); have hz1 : w.heap.size < w1.heap.size := (by omega))))
  all_goals go_ret
  all_goals exact ⟨by rw [HR.out]; exact (by first | rfl | (refine congrArg (fun z => Ending.returned (Value.int IntKind.i64 z)) ?_; first | omega | (simp <;> omega))), (by repeat' (first | with_reducible exact Below.refl _ _ | with_reducible assumption | with_reducible refine Below.alloc ?_ ?_ _ | with_reducible refine Below.setCell ?_ ?_ _ | with_reducible refine Below.drew ?_ | with_reducible refine below_drewN ?_ _ | with_reducible refine Below.trans ?_ (Below.mono (by with_reducible assumption) ?_) | omega | (simp <;> omega)))⟩
set_option maxHeartbeats 2000000 in
set_option maxRecDepth 100000 in
theorem from_3 (T C B : Int) (w : World) (hf : Fit T C B) (hs : Sizes w) : Calls Tryz.prog 39 #[(.agg #[.int .i64 T, .int .i64 C, .int .i64 B]), .int .i64 3] w fun e w' => e = .returned (.int .i64 (fromL T C B 3)) ∧ Below w.heap.size w w' := by
  have hl0 := long_le T C B hf
  have hp := hs.pos
  have l0 := hl0 0
  have l1 := hl0 1
  have l2 := hl0 2
  have l3 := hl0 3
  have l4 := hl0 4
  have l5 := hl0 5
  have l6 := hl0 6
  obtain ⟨R, hR⟩ : ∃ R, R = (fromL T C B 3) := ⟨_, rfl⟩
  rw [← hR]
  simp only [fromL] at hR
  have HR := hide hR
  clear hR hl0
  go_enter Tryz.func39, Tryz.ntmps39
  go_wp2_with fail
  refine wp_loop_rounds (3 + 1) ?_
  repeat any_goals (rw [rounds_succ]; go_wp2_with (first | (go_at_call 64; (first | (with_reducible refine (long_0 T C B _ hf (hs.below (by repeat' (first | with_reducible exact Below.refl _ _ | with_reducible assumption | with_reducible refine Below.alloc ?_ ?_ _ | with_reducible refine Below.setCell ?_ ?_ _ | with_reducible refine Below.drew ?_ | with_reducible refine below_drewN ?_ _ | with_reducible refine Below.trans ?_ (Below.mono (by with_reducible assumption) ?_) | omega | (simp <;> omega))))).mono ?_) | (with_reducible refine (long_1 T C B _ hf (hs.below (by repeat' (first | with_reducible exact Below.refl _ _ | with_reducible assumption | with_reducible refine Below.alloc ?_ ?_ _ | with_reducible refine Below.setCell ?_ ?_ _ | with_reducible refine Below.drew ?_ | with_reducible refine below_drewN ?_ _ | with_reducible refine Below.trans ?_ (Below.mono (by with_reducible assumption) ?_) | omega | (simp <;> omega))))).mono ?_) | (with_reducible refine (long_2 T C B _ hf (hs.below (by repeat' (first | with_reducible exact Below.refl _ _ | with_reducible assumption | with_reducible refine Below.alloc ?_ ?_ _ | with_reducible refine Below.setCell ?_ ?_ _ | with_reducible refine Below.drew ?_ | with_reducible refine below_drewN ?_ _ | with_reducible refine Below.trans ?_ (Below.mono (by with_reducible assumption) ?_) | omega | (simp <;> omega))))).mono ?_) | (with_reducible refine (long_3 T C B _ hf (hs.below (by repeat' (first | with_reducible exact Below.refl _ _ | with_reducible assumption | with_reducible refine Below.alloc ?_ ?_ _ | with_reducible refine Below.setCell ?_ ?_ _ | with_reducible refine Below.drew ?_ | with_reducible refine below_drewN ?_ _ | with_reducible refine Below.trans ?_ (Below.mono (by with_reducible assumption) ?_) | omega | (simp <;> omega))))).mono ?_) | (with_reducible refine (long_4 T C B _ hf (hs.below (by repeat' (first | with_reducible exact Below.refl _ _ | with_reducible assumption | with_reducible refine Below.alloc ?_ ?_ _ | with_reducible refine Below.setCell ?_ ?_ _ | with_reducible refine Below.drew ?_ | with_reducible refine below_drewN ?_ _ | with_reducible refine Below.trans ?_ (Below.mono (by with_reducible assumption) ?_) | omega | (simp <;> omega))))).mono ?_) | (with_reducible refine (long_5 T C B _ hf (hs.below (by repeat' (first | with_reducible exact Below.refl _ _ | with_reducible assumption | with_reducible refine Below.alloc ?_ ?_ _ | with_reducible refine Below.setCell ?_ ?_ _ | with_reducible refine Below.drew ?_ | with_reducible refine below_drewN ?_ _ | with_reducible refine Below.trans ?_ (Below.mono (by with_reducible assumption) ?_) | omega | (simp <;> omega))))).mono ?_) | (with_reducible refine (long_6 T C B _ hf (hs.below (by repeat' (first | with_reducible exact Below.refl _ _ | with_reducible assumption | with_reducible refine Below.alloc ?_ ?_ _ | with_reducible refine Below.setCell ?_ ?_ _ | with_reducible refine Below.drew ?_ | with_reducible refine below_drewN ?_ _ | with_reducible refine Below.trans ?_ (Below.mono (by with_reducible assumption) ?_) | omega | (simp <;> omega))))).mono ?_)); rintro e w1 ⟨rfl, hb1⟩; obtain ⟨hcc1, hff1⟩ := bcell hb1; have hs1 := hb1.size; (try simp at hs1); have hz1 : w.heap.size < w1.heap.size := (by omega))))
  all_goals go_ret
  all_goals exact ⟨by rw [HR.out]; exact (by first | rfl | (refine congrArg (fun z => Ending.returned (Value.int IntKind.i64 z)) ?_; first | omega | (simp <;> omega))), (by repeat' (first | with_reducible exact Below.refl _ _ | with_reducible assumption | with_reducible refine Below.alloc ?_ ?_ _ | with_reducible refine Below.setCell ?_ ?_ _ | with_reducible refine Below.drew ?_ | with_reducible refine below_drewN ?_ _ | with_reducible refine Below.trans ?_ (Below.mono (by with_reducible assumption) ?_) | omega | (simp <;> omega)))⟩
set_option maxHeartbeats 2000000 in
set_option maxRecDepth 100000 in
theorem from_4 (T C B : Int) (w : World) (hf : Fit T C B) (hs : Sizes w) : Calls Tryz.prog 39 #[(.agg #[.int .i64 T, .int .i64 C, .int .i64 B]), .int .i64 4] w fun e w' => e = .returned (.int .i64 (fromL T C B 4)) ∧ Below w.heap.size w w' := by
  have hl0 := long_le T C B hf
  have hp := hs.pos
  have l0 := hl0 0
  have l1 := hl0 1
  have l2 := hl0 2
  have l3 := hl0 3
  have l4 := hl0 4
  have l5 := hl0 5
  have l6 := hl0 6
  obtain ⟨R, hR⟩ : ∃ R, R = (fromL T C B 4) := ⟨_, rfl⟩
  rw [← hR]
  simp only [fromL] at hR
  have HR := hide hR
  clear hR hl0
  go_enter Tryz.func39, Tryz.ntmps39
  go_wp2_with fail
  refine wp_loop_rounds (4 + 1) ?_
  repeat any_goals (rw [rounds_succ]; go_wp2_with (first | (go_at_call 64; (first | (with_reducible refine (long_0 T C B _ hf (hs.below (by repeat' (first | with_reducible exact Below.refl _ _ | with_reducible assumption | with_reducible refine Below.alloc ?_ ?_ _ | with_reducible refine Below.setCell ?_ ?_ _ | with_reducible refine Below.drew ?_ | with_reducible refine below_drewN ?_ _ | with_reducible refine Below.trans ?_ (Below.mono (by with_reducible assumption) ?_) | omega | (simp <;> omega))))).mono ?_) | (with_reducible refine (long_1 T C B _ hf (hs.below (by repeat' (first | with_reducible exact Below.refl _ _ | with_reducible assumption | with_reducible refine Below.alloc ?_ ?_ _ | with_reducible refine Below.setCell ?_ ?_ _ | with_reducible refine Below.drew ?_ | with_reducible refine below_drewN ?_ _ | with_reducible refine Below.trans ?_ (Below.mono (by with_reducible assumption) ?_) | omega | (simp <;> omega))))).mono ?_) | (with_reducible refine (long_2 T C B _ hf (hs.below (by repeat' (first | with_reducible exact Below.refl _ _ | with_reducible assumption | with_reducible refine Below.alloc ?_ ?_ _ | with_reducible refine Below.setCell ?_ ?_ _ | with_reducible refine Below.drew ?_ | with_reducible refine below_drewN ?_ _ | with_reducible refine Below.trans ?_ (Below.mono (by with_reducible assumption) ?_) | omega | (simp <;> omega))))).mono ?_) | (with_reducible refine (long_3 T C B _ hf (hs.below (by repeat' (first | with_reducible exact Below.refl _ _ | with_reducible assumption | with_reducible refine Below.alloc ?_ ?_ _ | with_reducible refine Below.setCell ?_ ?_ _ | with_reducible refine Below.drew ?_ | with_reducible refine below_drewN ?_ _ | with_reducible refine Below.trans ?_ (Below.mono (by with_reducible assumption) ?_) | omega | (simp <;> omega))))).mono ?_) | (with_reducible refine (long_4 T C B _ hf (hs.below (by repeat' (first | with_reducible exact Below.refl _ _ | with_reducible assumption | with_reducible refine Below.alloc ?_ ?_ _ | with_reducible refine Below.setCell ?_ ?_ _ | with_reducible refine Below.drew ?_ | with_reducible refine below_drewN ?_ _ | with_reducible refine Below.trans ?_ (Below.mono (by with_reducible assumption) ?_) | omega | (simp <;> omega))))).mono ?_) | (with_reducible refine (long_5 T C B _ hf (hs.below (by repeat' (first | with_reducible exact Below.refl _ _ | with_reducible assumption | with_reducible refine Below.alloc ?_ ?_ _ | with_reducible refine Below.setCell ?_ ?_ _ | with_reducible refine Below.drew ?_ | with_reducible refine below_drewN ?_ _ | with_reducible refine Below.trans ?_ (Below.mono (by with_reducible assumption) ?_) | omega | (simp <;> omega))))).mono ?_) | (with_reducible refine (long_6 T C B _ hf (hs.below (by repeat' (first | with_reducible exact Below.refl _ _ | with_reducible assumption | with_reducible refine Below.alloc ?_ ?_ _ | with_reducible refine Below.setCell ?_ ?_ _ | with_reducible refine Below.drew ?_ | with_reducible refine below_drewN ?_ _ | with_reducible refine Below.trans ?_ (Below.mono (by with_reducible assumption) ?_) | omega | (simp <;> omega))))).mono ?_)); rintro e w1 ⟨rfl, hb1⟩; obtain ⟨hcc1, hff1⟩ := bcell hb1; have hs1 := hb1.size; (try simp at hs1); have hz1 : w.heap.size < w1.heap.size := (by omega))))
  all_goals go_ret
  all_goals exact ⟨by rw [HR.out]; exact (by first | rfl | (refine congrArg (fun z => Ending.returned (Value.int IntKind.i64 z)) ?_; first | omega | (simp <;> omega))), (by repeat' (first | with_reducible exact Below.refl _ _ | with_reducible assumption | with_reducible refine Below.alloc ?_ ?_ _ | with_reducible refine Below.setCell ?_ ?_ _ | with_reducible refine Below.drew ?_ | with_reducible refine below_drewN ?_ _ | with_reducible refine Below.trans ?_ (Below.mono (by with_reducible assumption) ?_) | omega | (simp <;> omega)))⟩
set_option maxHeartbeats 2000000 in
set_option maxRecDepth 100000 in
theorem from_5 (T C B : Int) (w : World) (hf : Fit T C B) (hs : Sizes w) : Calls Tryz.prog 39 #[(.agg #[.int .i64 T, .int .i64 C, .int .i64 B]), .int .i64 5] w fun e w' => e = .returned (.int .i64 (fromL T C B 5)) ∧ Below w.heap.size w w' := by
  have hl0 := long_le T C B hf
  have hp := hs.pos
  have l0 := hl0 0
  have l1 := hl0 1
  have l2 := hl0 2
  have l3 := hl0 3
  have l4 := hl0 4
  have l5 := hl0 5
  have l6 := hl0 6
  obtain ⟨R, hR⟩ : ∃ R, R = (fromL T C B 5) := ⟨_, rfl⟩
  rw [← hR]
  simp only [fromL] at hR
  have HR := hide hR
  clear hR hl0
  go_enter Tryz.func39, Tryz.ntmps39
  go_wp2_with fail
  refine wp_loop_rounds (5 + 1) ?_
  repeat any_goals (rw [rounds_succ]; go_wp2_with (first | (go_at_call 64; (first | (with_reducible refine (long_0 T C B _ hf (hs.below (by repeat' (first | with_reducible exact Below.refl _ _ | with_reducible assumption | with_reducible refine Below.alloc ?_ ?_ _ | with_reducible refine Below.setCell ?_ ?_ _ | with_reducible refine Below.drew ?_ | with_reducible refine below_drewN ?_ _ | with_reducible refine Below.trans ?_ (Below.mono (by with_reducible assumption) ?_) | omega | (simp <;> omega))))).mono ?_) | (with_reducible refine (long_1 T C B _ hf (hs.below (by repeat' (first | with_reducible exact Below.refl _ _ | with_reducible assumption | with_reducible refine Below.alloc ?_ ?_ _ | with_reducible refine Below.setCell ?_ ?_ _ | with_reducible refine Below.drew ?_ | with_reducible refine below_drewN ?_ _ | with_reducible refine Below.trans ?_ (Below.mono (by with_reducible assumption) ?_) | omega | (simp <;> omega))))).mono ?_) | (with_reducible refine (long_2 T C B _ hf (hs.below (by repeat' (first | with_reducible exact Below.refl _ _ | with_reducible assumption | with_reducible refine Below.alloc ?_ ?_ _ | with_reducible refine Below.setCell ?_ ?_ _ | with_reducible refine Below.drew ?_ | with_reducible refine below_drewN ?_ _ | with_reducible refine Below.trans ?_ (Below.mono (by with_reducible assumption) ?_) | omega | (simp <;> omega))))).mono ?_) | (with_reducible refine (long_3 T C B _ hf (hs.below (by repeat' (first | with_reducible exact Below.refl _ _ | with_reducible assumption | with_reducible refine Below.alloc ?_ ?_ _ | with_reducible refine Below.setCell ?_ ?_ _ | with_reducible refine Below.drew ?_ | with_reducible refine below_drewN ?_ _ | with_reducible refine Below.trans ?_ (Below.mono (by with_reducible assumption) ?_) | omega | (simp <;> omega))))).mono ?_) | (with_reducible refine (long_4 T C B _ hf (hs.below (by repeat' (first | with_reducible exact Below.refl _ _ | with_reducible assumption | with_reducible refine Below.alloc ?_ ?_ _ | with_reducible refine Below.setCell ?_ ?_ _ | with_reducible refine Below.drew ?_ | with_reducible refine below_drewN ?_ _ | with_reducible refine Below.trans ?_ (Below.mono (by with_reducible assumption) ?_) | omega | (simp <;> omega))))).mono ?_) | (with_reducible refine (long_5 T C B _ hf (hs.below (by repeat' (first | with_reducible exact Below.refl _ _ | with_reducible assumption | with_reducible refine Below.alloc ?_ ?_ _ | with_reducible refine Below.setCell ?_ ?_ _ | with_reducible refine Below.drew ?_ | with_reducible refine below_drewN ?_ _ | with_reducible refine Below.trans ?_ (Below.mono (by with_reducible assumption) ?_) | omega | (simp <;> omega))))).mono ?_) | (with_reducible refine (long_6 T C B _ hf (hs.below (by repeat' (first | with_reducible exact Below.refl _ _ | with_reducible assumption | with_reducible refine Below.alloc ?_ ?_ _ | with_reducible refine Below.setCell ?_ ?_ _ | with_reducible refine Below.drew ?_ | with_reducible refine below_drewN ?_ _ | with_reducible refine Below.trans ?_ (Below.mono (by with_reducible assumption) ?_) | omega | (simp <;> omega))))).mono ?_)); rintro e w1 ⟨rfl, hb1⟩; obtain ⟨hcc1, hff1⟩ := bcell hb1; have hs1 := hb1.size; (try simp at hs1); have hz1 : w.heap.size < w1.heap.size := (by omega))))
  all_goals go_ret
  all_goals exact ⟨by rw [HR.out]; exact (by first | rfl | (refine congrArg (fun z => Ending.returned (Value.int IntKind.i64 z)) ?_; first | omega | (simp <;> omega))), (by repeat' (first | with_reducible exact Below.refl _ _ | with_reducible assumption | with_reducible refine Below.alloc ?_ ?_ _ | with_reducible refine Below.setCell ?_ ?_ _ | with_reducible refine Below.drew ?_ | with_reducible refine below_drewN ?_ _ | with_reducible refine Below.trans ?_ (Below.mono (by with_reducible assumption) ?_) | omega | (simp <;> omega)))⟩
set_option maxHeartbeats 2000000 in
set_option maxRecDepth 100000 in
theorem from_6 (T C B : Int) (w : World) (hf : Fit T C B) (hs : Sizes w) : Calls Tryz.prog 39 #[(.agg #[.int .i64 T, .int .i64 C, .int .i64 B]), .int .i64 6] w fun e w' => e = .returned (.int .i64 (fromL T C B 6)) ∧ Below w.heap.size w w' := by
  have hl0 := long_le T C B hf
  have hp := hs.pos
  have l0 := hl0 0
  have l1 := hl0 1
  have l2 := hl0 2
  have l3 := hl0 3
  have l4 := hl0 4
  have l5 := hl0 5
  have l6 := hl0 6
  obtain ⟨R, hR⟩ : ∃ R, R = (fromL T C B 6) := ⟨_, rfl⟩
  rw [← hR]
  simp only [fromL] at hR
  have HR := hide hR
  clear hR hl0
  go_enter Tryz.func39, Tryz.ntmps39
  go_wp2_with fail
  refine wp_loop_rounds (6 + 1) ?_
  repeat any_goals (rw [rounds_succ]; go_wp2_with (first | (go_at_call 64; (first | (with_reducible refine (long_0 T C B _ hf (hs.below (by repeat' (first | with_reducible exact Below.refl _ _ | with_reducible assumption | with_reducible refine Below.alloc ?_ ?_ _ | with_reducible refine Below.setCell ?_ ?_ _ | with_reducible refine Below.drew ?_ | with_reducible refine below_drewN ?_ _ | with_reducible refine Below.trans ?_ (Below.mono (by with_reducible assumption) ?_) | omega | (simp <;> omega))))).mono ?_) | (with_reducible refine (long_1 T C B _ hf (hs.below (by repeat' (first | with_reducible exact Below.refl _ _ | with_reducible assumption | with_reducible refine Below.alloc ?_ ?_ _ | with_reducible refine Below.setCell ?_ ?_ _ | with_reducible refine Below.drew ?_ | with_reducible refine below_drewN ?_ _ | with_reducible refine Below.trans ?_ (Below.mono (by with_reducible assumption) ?_) | omega | (simp <;> omega))))).mono ?_) | (with_reducible refine (long_2 T C B _ hf (hs.below (by repeat' (first | with_reducible exact Below.refl _ _ | with_reducible assumption | with_reducible refine Below.alloc ?_ ?_ _ | with_reducible refine Below.setCell ?_ ?_ _ | with_reducible refine Below.drew ?_ | with_reducible refine below_drewN ?_ _ | with_reducible refine Below.trans ?_ (Below.mono (by with_reducible assumption) ?_) | omega | (simp <;> omega))))).mono ?_) | (with_reducible refine (long_3 T C B _ hf (hs.below (by repeat' (first | with_reducible exact Below.refl _ _ | with_reducible assumption | with_reducible refine Below.alloc ?_ ?_ _ | with_reducible refine Below.setCell ?_ ?_ _ | with_reducible refine Below.drew ?_ | with_reducible refine below_drewN ?_ _ | with_reducible refine Below.trans ?_ (Below.mono (by with_reducible assumption) ?_) | omega | (simp <;> omega))))).mono ?_) | (with_reducible refine (long_4 T C B _ hf (hs.below (by repeat' (first | with_reducible exact Below.refl _ _ | with_reducible assumption | with_reducible refine Below.alloc ?_ ?_ _ | with_reducible refine Below.setCell ?_ ?_ _ | with_reducible refine Below.drew ?_ | with_reducible refine below_drewN ?_ _ | with_reducible refine Below.trans ?_ (Below.mono (by with_reducible assumption) ?_) | omega | (simp <;> omega))))).mono ?_) | (with_reducible refine (long_5 T C B _ hf (hs.below (by repeat' (first | with_reducible exact Below.refl _ _ | with_reducible assumption | with_reducible refine Below.alloc ?_ ?_ _ | with_reducible refine Below.setCell ?_ ?_ _ | with_reducible refine Below.drew ?_ | with_reducible refine below_drewN ?_ _ | with_reducible refine Below.trans ?_ (Below.mono (by with_reducible assumption) ?_) | omega | (simp <;> omega))))).mono ?_) | (with_reducible refine (long_6 T C B _ hf (hs.below (by repeat' (first | with_reducible exact Below.refl _ _ | with_reducible assumption | with_reducible refine Below.alloc ?_ ?_ _ | with_reducible refine Below.setCell ?_ ?_ _ | with_reducible refine Below.drew ?_ | with_reducible refine below_drewN ?_ _ | with_reducible refine Below.trans ?_ (Below.mono (by with_reducible assumption) ?_) | omega | (simp <;> omega))))).mono ?_)); rintro e w1 ⟨rfl, hb1⟩; obtain ⟨hcc1, hff1⟩ := bcell hb1; have hs1 := hb1.size; (try simp at hs1); have hz1 : w.heap.size < w1.heap.size := (by omega))))
  all_goals go_ret
  all_goals exact ⟨by rw [HR.out]; exact (by first | rfl | (refine congrArg (fun z => Ending.returned (Value.int IntKind.i64 z)) ?_; first | omega | (simp <;> omega))), (by repeat' (first | with_reducible exact Below.refl _ _ | with_reducible assumption | with_reducible refine Below.alloc ?_ ?_ _ | with_reducible refine Below.setCell ?_ ?_ _ | with_reducible refine Below.drew ?_ | with_reducible refine below_drewN ?_ _ | with_reducible refine Below.trans ?_ (Below.mono (by with_reducible assumption) ?_) | omega | (simp <;> omega)))⟩
set_option maxHeartbeats 2000000 in
set_option maxRecDepth 100000 in
theorem from_7 (T C B : Int) (w : World) (hf : Fit T C B) (hs : Sizes w) : Calls Tryz.prog 39 #[(.agg #[.int .i64 T, .int .i64 C, .int .i64 B]), .int .i64 7] w fun e w' => e = .returned (.int .i64 (fromL T C B 7)) ∧ Below w.heap.size w w' := by
  have hl0 := long_le T C B hf
  have hp := hs.pos
  have l0 := hl0 0
  have l1 := hl0 1
  have l2 := hl0 2
  have l3 := hl0 3
  have l4 := hl0 4
  have l5 := hl0 5
  have l6 := hl0 6
  obtain ⟨R, hR⟩ : ∃ R, R = (fromL T C B 7) := ⟨_, rfl⟩
  rw [← hR]
  simp only [fromL] at hR
  have HR := hide hR
  clear hR hl0
  go_enter Tryz.func39, Tryz.ntmps39
  go_wp2_with fail
  refine wp_loop_rounds (7 + 1) ?_
  repeat any_goals (rw [rounds_succ]; go_wp2_with (first | (go_at_call 64; (first | (with_reducible refine (long_0 T C B _ hf (hs.below (by repeat' (first | with_reducible exact Below.refl _ _ | with_reducible assumption | with_reducible refine Below.alloc ?_ ?_ _ | with_reducible refine Below.setCell ?_ ?_ _ | with_reducible refine Below.drew ?_ | with_reducible refine below_drewN ?_ _ | with_reducible refine Below.trans ?_ (Below.mono (by with_reducible assumption) ?_) | omega | (simp <;> omega))))).mono ?_) | (with_reducible refine (long_1 T C B _ hf (hs.below (by repeat' (first | with_reducible exact Below.refl _ _ | with_reducible assumption | with_reducible refine Below.alloc ?_ ?_ _ | with_reducible refine Below.setCell ?_ ?_ _ | with_reducible refine Below.drew ?_ | with_reducible refine below_drewN ?_ _ | with_reducible refine Below.trans ?_ (Below.mono (by with_reducible assumption) ?_) | omega | (simp <;> omega))))).mono ?_) | (with_reducible refine (long_2 T C B _ hf (hs.below (by repeat' (first | with_reducible exact Below.refl _ _ | with_reducible assumption | with_reducible refine Below.alloc ?_ ?_ _ | with_reducible refine Below.setCell ?_ ?_ _ | with_reducible refine Below.drew ?_ | with_reducible refine below_drewN ?_ _ | with_reducible refine Below.trans ?_ (Below.mono (by with_reducible assumption) ?_) | omega | (simp <;> omega))))).mono ?_) | (with_reducible refine (long_3 T C B _ hf (hs.below (by repeat' (first | with_reducible exact Below.refl _ _ | with_reducible assumption | with_reducible refine Below.alloc ?_ ?_ _ | with_reducible refine Below.setCell ?_ ?_ _ | with_reducible refine Below.drew ?_ | with_reducible refine below_drewN ?_ _ | with_reducible refine Below.trans ?_ (Below.mono (by with_reducible assumption) ?_) | omega | (simp <;> omega))))).mono ?_) | (with_reducible refine (long_4 T C B _ hf (hs.below (by repeat' (first | with_reducible exact Below.refl _ _ | with_reducible assumption | with_reducible refine Below.alloc ?_ ?_ _ | with_reducible refine Below.setCell ?_ ?_ _ | with_reducible refine Below.drew ?_ | with_reducible refine below_drewN ?_ _ | with_reducible refine Below.trans ?_ (Below.mono (by with_reducible assumption) ?_) | omega | (simp <;> omega))))).mono ?_) | (with_reducible refine (long_5 T C B _ hf (hs.below (by repeat' (first | with_reducible exact Below.refl _ _ | with_reducible assumption | with_reducible refine Below.alloc ?_ ?_ _ | with_reducible refine Below.setCell ?_ ?_ _ | with_reducible refine Below.drew ?_ | with_reducible refine below_drewN ?_ _ | with_reducible refine Below.trans ?_ (Below.mono (by with_reducible assumption) ?_) | omega | (simp <;> omega))))).mono ?_) | (with_reducible refine (long_6 T C B _ hf (hs.below (by repeat' (first | with_reducible exact Below.refl _ _ | with_reducible assumption | with_reducible refine Below.alloc ?_ ?_ _ | with_reducible refine Below.setCell ?_ ?_ _ | with_reducible refine Below.drew ?_ | with_reducible refine below_drewN ?_ _ | with_reducible refine Below.trans ?_ (Below.mono (by with_reducible assumption) ?_) | omega | (simp <;> omega))))).mono ?_)); rintro e w1 ⟨rfl, hb1⟩; obtain ⟨hcc1, hff1⟩ := bcell hb1; have hs1 := hb1.size; (try simp at hs1); have hz1 : w.heap.size < w1.heap.size := (by omega))))
  all_goals go_ret
  all_goals exact ⟨by rw [HR.out]; exact (by first | rfl | (refine congrArg (fun z => Ending.returned (Value.int IntKind.i64 z)) ?_; first | omega | (simp <;> omega))), (by repeat' (first | with_reducible exact Below.refl _ _ | with_reducible assumption | with_reducible refine Below.alloc ?_ ?_ _ | with_reducible refine Below.setCell ?_ ?_ _ | with_reducible refine Below.drew ?_ | with_reducible refine below_drewN ?_ _ | with_reducible refine Below.trans ?_ (Below.mono (by with_reducible assumption) ?_) | omega | (simp <;> omega)))⟩
end Go.Proofs.YtbomhhkknopdpaaGreatDoor
