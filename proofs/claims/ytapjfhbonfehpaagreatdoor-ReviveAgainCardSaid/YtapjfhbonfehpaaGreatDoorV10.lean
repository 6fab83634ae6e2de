/- Package layout: many, long, from. -/
import Derived.Test.YtapjfhbonfehpaaGreatDoorProg
import Derived.Handy
import Derived.Deep.RegionLaw
import Derived.Deep.RegionHeld3
import Derived.Test.YtapjfhbonfehpaaGreatDoorV04
set_option linter.unusedSimpArgs false
set_option linter.unusedVariables false
set_option maxRecDepth 100000
set_option maxHeartbeats 40000000
namespace Go.Proofs.YtapjfhbonfehpaaGreatDoor
open Go.RowKit
def ai (w : World) : Prop := ∀ k u, ([8, 8, 8, 1, 104, 0, 32] : List Int)[k]? = some u → w.cell? ⟨0, k, none⟩ = some (.int .i64 u)
theorem ai.pos {w : World} (h : ai w) : 0 < w.heap.size := World.block_lt_of_cell? w ⟨0, 0, none⟩ (h 0 8 rfl)
theorem ai.below {w w' : World} (h : ai w) (hb : Below w.heap.size w w') : ai w' := fun k u hu => (hb.cell (p := ⟨0, k, none⟩) h.pos).trans (h k u hu)
theorem ai.below' {w w' : World} {B : Nat} (h : ai w) (hB : 0 < B) (hb : Below B w w') : ai w' := fun k u hu => (hb.cell (p := ⟨0, k, none⟩) hB).trans (h k u hu)
def Fit (T C B : Int) : Prop := 1 ≤ T ∧ T ≤ 8 ∧ 1 ≤ C ∧ C ≤ 2048 ∧ 0 ≤ B ∧ B ≤ 64
def bg (T C B : Int) (p : Nat) : Int := [1, T, T, C, T, B, B].getD p 0
def cY (T C B : Int) (p : Nat) : Int := [8, 8 * T, 8 * T, (C + 7) / 8 * 8, 104 * T, (if 0 < B then 8 else 0), 32 * B].getD p 0
def ah (T C B : Int) : Nat → Int
 | 0 => 0
 | p + 1 => ah T C B p + cY T C B p
theorem xY (T C B : Int) (w : World) : Calls Tryz.prog 57 #[(.agg #[.int .i64 T, .int .i64 C, .int .i64 B]), .int .i64 0] w (cd (.int .i64 (bg T C B 0)) w) := by
 have hx : ∀ w, (Instr.index 138 (.agg #[.int .i64 1, .int .i64 T, .int .i64 T, .int .i64 C, .int .i64 T, .int .i64 B, .int .i64 B]) (.int .i64 0)).run Tryz.prog w = .ok (.int .i64 (bg T C B 0)) w := fun w => by kernel_rfl
 go_enter Tryz.func57, Tryz.ntmps57;go_wp2_with fail;go_ret;exact ⟨rfl, ae⟩
theorem xX (T C B : Int) (w : World) : Calls Tryz.prog 57 #[(.agg #[.int .i64 T, .int .i64 C, .int .i64 B]), .int .i64 1] w (cd (.int .i64 (bg T C B 1)) w) := by
 have hx : ∀ w, (Instr.index 138 (.agg #[.int .i64 1, .int .i64 T, .int .i64 T, .int .i64 C, .int .i64 T, .int .i64 B, .int .i64 B]) (.int .i64 1)).run Tryz.prog w = .ok (.int .i64 (bg T C B 1)) w := fun w => by kernel_rfl
 go_enter Tryz.func57, Tryz.ntmps57;go_wp2_with fail;go_ret;exact ⟨rfl, ae⟩
theorem xW (T C B : Int) (w : World) : Calls Tryz.prog 57 #[(.agg #[.int .i64 T, .int .i64 C, .int .i64 B]), .int .i64 2] w (cd (.int .i64 (bg T C B 2)) w) := by
 have hx : ∀ w, (Instr.index 138 (.agg #[.int .i64 1, .int .i64 T, .int .i64 T, .int .i64 C, .int .i64 T, .int .i64 B, .int .i64 B]) (.int .i64 2)).run Tryz.prog w = .ok (.int .i64 (bg T C B 2)) w := fun w => by kernel_rfl
 go_enter Tryz.func57, Tryz.ntmps57;go_wp2_with fail;go_ret;exact ⟨rfl, ae⟩
theorem xV (T C B : Int) (w : World) : Calls Tryz.prog 57 #[(.agg #[.int .i64 T, .int .i64 C, .int .i64 B]), .int .i64 3] w (cd (.int .i64 (bg T C B 3)) w) := by
 have hx : ∀ w, (Instr.index 138 (.agg #[.int .i64 1, .int .i64 T, .int .i64 T, .int .i64 C, .int .i64 T, .int .i64 B, .int .i64 B]) (.int .i64 3)).run Tryz.prog w = .ok (.int .i64 (bg T C B 3)) w := fun w => by kernel_rfl
 go_enter Tryz.func57, Tryz.ntmps57;go_wp2_with fail;go_ret;exact ⟨rfl, ae⟩
theorem xU (T C B : Int) (w : World) : Calls Tryz.prog 57 #[(.agg #[.int .i64 T, .int .i64 C, .int .i64 B]), .int .i64 4] w (cd (.int .i64 (bg T C B 4)) w) := by
 have hx : ∀ w, (Instr.index 138 (.agg #[.int .i64 1, .int .i64 T, .int .i64 T, .int .i64 C, .int .i64 T, .int .i64 B, .int .i64 B]) (.int .i64 4)).run Tryz.prog w = .ok (.int .i64 (bg T C B 4)) w := fun w => by kernel_rfl
 go_enter Tryz.func57, Tryz.ntmps57;go_wp2_with fail;go_ret;exact ⟨rfl, ae⟩
theorem ox (T C B : Int) (w : World) : Calls Tryz.prog 57 #[(.agg #[.int .i64 T, .int .i64 C, .int .i64 B]), .int .i64 5] w (cd (.int .i64 (bg T C B 5)) w) := by
 have hx : ∀ w, (Instr.index 138 (.agg #[.int .i64 1, .int .i64 T, .int .i64 T, .int .i64 C, .int .i64 T, .int .i64 B, .int .i64 B]) (.int .i64 5)).run Tryz.prog w = .ok (.int .i64 (bg T C B 5)) w := fun w => by kernel_rfl
 go_enter Tryz.func57, Tryz.ntmps57;go_wp2_with fail;go_ret;exact ⟨rfl, ae⟩
theorem xS (T C B : Int) (w : World) : Calls Tryz.prog 57 #[(.agg #[.int .i64 T, .int .i64 C, .int .i64 B]), .int .i64 6] w (cd (.int .i64 (bg T C B 6)) w) := by
 have hx : ∀ w, (Instr.index 138 (.agg #[.int .i64 1, .int .i64 T, .int .i64 T, .int .i64 C, .int .i64 T, .int .i64 B, .int .i64 B]) (.int .i64 6)).run Tryz.prog w = .ok (.int .i64 (bg T C B 6)) w := fun w => by kernel_rfl
 go_enter Tryz.func57, Tryz.ntmps57;go_wp2_with fail;go_ret;exact ⟨rfl, ae⟩
theorem my (T C B : Int) (w : World) (hf : Fit T C B) (hs : ai w) : Calls Tryz.prog 62 #[(.agg #[.int .i64 T, .int .i64 C, .int .i64 B]), .int .i64 0] w (cd (.int .i64 (cY T C B 0)) w) := by
 obtain ⟨f1, f2, f3, f4, f5, f6⟩ := hf;have z0 := hs 0 _ rfl;have hp := hs.pos;have hm : (bg T C B 0) = [1, T, T, C, T, B, B].getD 0 0 := rfl;have hl : (cY T C B 0) = [8, 8 * T, 8 * T, (C + 7) / 8 * 8, 104 * T, (if 0 < B then 8 else 0), 32 * B].getD 0 0 := rfl;simp only [List.getD_cons_zero, List.getD_cons_succ] at hm hl;rw [hl];clear hl;go_enter Tryz.func62, Tryz.ntmps62;go_wp2_with fail
 go_region_held3 (fun w' => w'.cell? ⟨w.heap.size, 0, none⟩ = some (.int .i64 T) ∧ w'.cell? ⟨w.heap.size, 1, none⟩ = some (.int .i64 C) ∧ w'.cell? ⟨w.heap.size, 2, none⟩ = some (.int .i64 B) ∧ w'.cell? ⟨0, 0, none⟩ = some (.int .i64 ([8, 8, 8, 1, 104, 0, 32].getD 0 0)))
  (first | exact ⟨by go_simp, by go_simp, by go_simp, by go_simp⟩ | go_keep)
  (first | (go_at_call 57; refine (xY T C B _).mono ?_; rintro e w1 ⟨rfl, i7⟩; have hb1 : Below _ _ w1 := si; clear i7; obtain ⟨ar, aA, hs1⟩ := bC hb1; (try simp at hs1); rw [hm]))
 all_goals go_wp2_with fail
 all_goals go_ret
 all_goals exact ⟨nz, ae⟩
theorem mq (T C B : Int) (w : World) (hf : Fit T C B) (hs : ai w) : Calls Tryz.prog 62 #[(.agg #[.int .i64 T, .int .i64 C, .int .i64 B]), .int .i64 1] w (cd (.int .i64 (cY T C B 1)) w) := by
 obtain ⟨f1, f2, f3, f4, f5, f6⟩ := hf;have z0 := hs 1 _ rfl;have hp := hs.pos;have hm : (bg T C B 1) = [1, T, T, C, T, B, B].getD 1 0 := rfl;have hl : (cY T C B 1) = [8, 8 * T, 8 * T, (C + 7) / 8 * 8, 104 * T, (if 0 < B then 8 else 0), 32 * B].getD 1 0 := rfl;simp only [List.getD_cons_zero, List.getD_cons_succ] at hm hl;rw [hl];clear hl;go_enter Tryz.func62, Tryz.ntmps62;go_wp2_with fail
 go_region_held3 (fun w' => w'.cell? ⟨w.heap.size, 0, none⟩ = some (.int .i64 T) ∧ w'.cell? ⟨w.heap.size, 1, none⟩ = some (.int .i64 C) ∧ w'.cell? ⟨w.heap.size, 2, none⟩ = some (.int .i64 B) ∧ w'.cell? ⟨0, 1, none⟩ = some (.int .i64 ([8, 8, 8, 1, 104, 0, 32].getD 1 0)))
  (first | exact ⟨by go_simp, by go_simp, by go_simp, by go_simp⟩ | go_keep)
  (first | (go_at_call 57; refine (xX T C B _).mono ?_; rintro e w1 ⟨rfl, i7⟩; have hb1 : Below _ _ w1 := si; clear i7; obtain ⟨ar, aA, hs1⟩ := bC hb1; (try simp at hs1); rw [hm]))
 all_goals go_wp2_with fail
 all_goals go_ret
 all_goals exact ⟨nz, ae⟩
theorem mm (T C B : Int) (w : World) (hf : Fit T C B) (hs : ai w) : Calls Tryz.prog 62 #[(.agg #[.int .i64 T, .int .i64 C, .int .i64 B]), .int .i64 2] w (cd (.int .i64 (cY T C B 2)) w) := by
 obtain ⟨f1, f2, f3, f4, f5, f6⟩ := hf;have z0 := hs 2 _ rfl;have hp := hs.pos;have hm : (bg T C B 2) = [1, T, T, C, T, B, B].getD 2 0 := rfl;have hl : (cY T C B 2) = [8, 8 * T, 8 * T, (C + 7) / 8 * 8, 104 * T, (if 0 < B then 8 else 0), 32 * B].getD 2 0 := rfl;simp only [List.getD_cons_zero, List.getD_cons_succ] at hm hl;rw [hl];clear hl;go_enter Tryz.func62, Tryz.ntmps62;go_wp2_with fail
 go_region_held3 (fun w' => w'.cell? ⟨w.heap.size, 0, none⟩ = some (.int .i64 T) ∧ w'.cell? ⟨w.heap.size, 1, none⟩ = some (.int .i64 C) ∧ w'.cell? ⟨w.heap.size, 2, none⟩ = some (.int .i64 B) ∧ w'.cell? ⟨0, 2, none⟩ = some (.int .i64 ([8, 8, 8, 1, 104, 0, 32].getD 2 0)))
  (first | exact ⟨by go_simp, by go_simp, by go_simp, by go_simp⟩ | go_keep)
  (first | (go_at_call 57; refine (xW T C B _).mono ?_; rintro e w1 ⟨rfl, i7⟩; have hb1 : Below _ _ w1 := si; clear i7; obtain ⟨ar, aA, hs1⟩ := bC hb1; (try simp at hs1); rw [hm]))
 all_goals go_wp2_with fail
 all_goals go_ret
 all_goals exact ⟨nz, ae⟩
theorem ml (T C B : Int) (w : World) (hf : Fit T C B) (hs : ai w) : Calls Tryz.prog 62 #[(.agg #[.int .i64 T, .int .i64 C, .int .i64 B]), .int .i64 3] w (cd (.int .i64 (cY T C B 3)) w) := by
 obtain ⟨f1, f2, f3, f4, f5, f6⟩ := hf;have z0 := hs 3 _ rfl;have hp := hs.pos;have hm : (bg T C B 3) = [1, T, T, C, T, B, B].getD 3 0 := rfl;have hl : (cY T C B 3) = [8, 8 * T, 8 * T, (C + 7) / 8 * 8, 104 * T, (if 0 < B then 8 else 0), 32 * B].getD 3 0 := rfl;simp only [List.getD_cons_zero, List.getD_cons_succ] at hm hl;rw [hl];clear hl;go_enter Tryz.func62, Tryz.ntmps62;go_wp2_with fail
 go_region_held3 (fun w' => w'.cell? ⟨w.heap.size, 0, none⟩ = some (.int .i64 T) ∧ w'.cell? ⟨w.heap.size, 1, none⟩ = some (.int .i64 C) ∧ w'.cell? ⟨w.heap.size, 2, none⟩ = some (.int .i64 B) ∧ w'.cell? ⟨0, 3, none⟩ = some (.int .i64 ([8, 8, 8, 1, 104, 0, 32].getD 3 0)))
  (first | exact ⟨by go_simp, by go_simp, by go_simp, by go_simp⟩ | go_keep)
  (first | (go_at_call 57; refine (xV T C B _).mono ?_; rintro e w1 ⟨rfl, i7⟩; have hb1 : Below _ _ w1 := si; clear i7; obtain ⟨ar, aA, hs1⟩ := bC hb1; (try simp at hs1); rw [hm]))
 all_goals go_wp2_with fail
 all_goals go_ret
 all_goals exact ⟨nz, ae⟩
theorem mj (T C B : Int) (w : World) (hf : Fit T C B) (hs : ai w) : Calls Tryz.prog 62 #[(.agg #[.int .i64 T, .int .i64 C, .int .i64 B]), .int .i64 4] w (cd (.int .i64 (cY T C B 4)) w) := by
 obtain ⟨f1, f2, f3, f4, f5, f6⟩ := hf;have z0 := hs 4 _ rfl;have hp := hs.pos;have hm : (bg T C B 4) = [1, T, T, C, T, B, B].getD 4 0 := rfl;have hl : (cY T C B 4) = [8, 8 * T, 8 * T, (C + 7) / 8 * 8, 104 * T, (if 0 < B then 8 else 0), 32 * B].getD 4 0 := rfl;simp only [List.getD_cons_zero, List.getD_cons_succ] at hm hl;rw [hl];clear hl;go_enter Tryz.func62, Tryz.ntmps62;go_wp2_with fail
 go_region_held3 (fun w' => w'.cell? ⟨w.heap.size, 0, none⟩ = some (.int .i64 T) ∧ w'.cell? ⟨w.heap.size, 1, none⟩ = some (.int .i64 C) ∧ w'.cell? ⟨w.heap.size, 2, none⟩ = some (.int .i64 B) ∧ w'.cell? ⟨0, 4, none⟩ = some (.int .i64 ([8, 8, 8, 1, 104, 0, 32].getD 4 0)))
  (first | exact ⟨by go_simp, by go_simp, by go_simp, by go_simp⟩ | go_keep)
  (first | (go_at_call 57; refine (xU T C B _).mono ?_; rintro e w1 ⟨rfl, i7⟩; have hb1 : Below _ _ w1 := si; clear i7; obtain ⟨ar, aA, hs1⟩ := bC hb1; (try simp at hs1); rw [hm]))
 all_goals go_wp2_with fail
 all_goals go_ret
 all_goals exact ⟨nz, ae⟩
theorem mh (T C B : Int) (w : World) (hf : Fit T C B) (hs : ai w) : Calls Tryz.prog 62 #[(.agg #[.int .i64 T, .int .i64 C, .int .i64 B]), .int .i64 6] w (cd (.int .i64 (cY T C B 6)) w) := by
 obtain ⟨f1, f2, f3, f4, f5, f6⟩ := hf;have z0 := hs 6 _ rfl;have hp := hs.pos;have hm : (bg T C B 6) = [1, T, T, C, T, B, B].getD 6 0 := rfl;have hl : (cY T C B 6) = [8, 8 * T, 8 * T, (C + 7) / 8 * 8, 104 * T, (if 0 < B then 8 else 0), 32 * B].getD 6 0 := rfl;simp only [List.getD_cons_zero, List.getD_cons_succ] at hm hl;rw [hl];clear hl;go_enter Tryz.func62, Tryz.ntmps62;go_wp2_with fail
 go_region_held3 (fun w' => w'.cell? ⟨w.heap.size, 0, none⟩ = some (.int .i64 T) ∧ w'.cell? ⟨w.heap.size, 1, none⟩ = some (.int .i64 C) ∧ w'.cell? ⟨w.heap.size, 2, none⟩ = some (.int .i64 B) ∧ w'.cell? ⟨0, 6, none⟩ = some (.int .i64 ([8, 8, 8, 1, 104, 0, 32].getD 6 0)))
  (first | exact ⟨by go_simp, by go_simp, by go_simp, by go_simp⟩ | go_keep)
  (first | (go_at_call 57; refine (xS T C B _).mono ?_; rintro e w1 ⟨rfl, i7⟩; have hb1 : Below _ _ w1 := si; clear i7; obtain ⟨ar, aA, hs1⟩ := bC hb1; (try simp at hs1); rw [hm]))
 all_goals go_wp2_with fail
 all_goals go_ret
 all_goals exact ⟨nz, ae⟩
theorem H7 (T C : Int) (w : World) (hf : Fit T C 0) (hs : ai w) : Calls Tryz.prog 62 #[.agg #[.int .i64 T, .int .i64 C, .int .i64 0], .int .i64 5] w (cd (.int .i64 0) w) := by
 obtain ⟨f1, f2, f3, f4, f5, f6⟩ := hf;have z0 := hs 5 _ rfl;have hp := hs.pos;have hm : (bg T C 0 5) = 0 := rfl;go_enter Tryz.func62, Tryz.ntmps62;go_wp2_with fail
 go_region_held3 (fun w' => w'.cell? ⟨w.heap.size, 0, none⟩ = some (.int .i64 T) ∧ w'.cell? ⟨w.heap.size, 1, none⟩ = some (.int .i64 C) ∧ w'.cell? ⟨w.heap.size, 2, none⟩ = some (.int .i64 0) ∧ w'.cell? ⟨0, 5, none⟩ = some (.int .i64 0))
  (first | exact ⟨by go_simp, by go_simp, by go_simp, by go_simp⟩ | go_keep)
  (first | (go_at_call 57; refine (ox T C 0 _).mono ?_; rintro e w1 ⟨rfl, i7⟩; have hb1 : Below _ _ w1 := si; clear i7; obtain ⟨ar, aA, hs1⟩ := bC hb1; (try simp at hs1); rw [hm]))
 all_goals go_wp2_with (first | (go_at_call 57; refine rB (ox T C 0 _) ?_; intro w2 hb2 aH aL hs2; (try simp at hs2); rw [hm]))
 all_goals go_ret
 all_goals exact ⟨nz, ae⟩
theorem H5 (T C B : Int) (w : World) (hf : Fit T C B) (hs : ai w) (hB : 0 < B) : Calls Tryz.prog 62 #[.agg #[.int .i64 T, .int .i64 C, .int .i64 B], .int .i64 5] w (cd (.int .i64 8) w) := by
 obtain ⟨f1, f2, f3, f4, f5, f6⟩ := hf;have z0 := hs 5 _ rfl;have hp := hs.pos;have hm : (bg T C B 5) = B := rfl;go_enter Tryz.func62, Tryz.ntmps62;go_wp2_with fail
 go_region_held3 (fun w' => w'.cell? ⟨w.heap.size, 0, none⟩ = some (.int .i64 T) ∧ w'.cell? ⟨w.heap.size, 1, none⟩ = some (.int .i64 C) ∧ w'.cell? ⟨w.heap.size, 2, none⟩ = some (.int .i64 B) ∧ w'.cell? ⟨0, 5, none⟩ = some (.int .i64 0))
  (first | exact ⟨by go_simp, by go_simp, by go_simp, by go_simp⟩ | go_keep)
  (first | (go_at_call 57; refine (ox T C B _).mono ?_; rintro e w1 ⟨rfl, i7⟩; have hb1 : Below _ _ w1 := si; clear i7; obtain ⟨ar, aA, hs1⟩ := bC hb1; (try simp at hs1); rw [hm]))
 all_goals go_wp2_with (first | (go_at_call 57; refine rB (ox T C B _) ?_; intro w2 hb2 aH aL hs2; (try simp at hs2); rw [hm]))
 all_goals go_ret
 all_goals exact ⟨nz, ae⟩
theorem mi (T C B : Int) (w : World) (hf : Fit T C B) (hs : ai w) : Calls Tryz.prog 62 #[(.agg #[.int .i64 T, .int .i64 C, .int .i64 B]), .int .i64 5] w (cd (.int .i64 (cY T C B 5)) w) := by
 have hl : (cY T C B 5) = (if 0 < B then 8 else 0) := rfl;rw [hl];by_cases h : 0 < B
 ·rw [if_pos h];exact H5 T C B w hf hs h
 ·obtain rfl : B = 0 := by have := hf.2.2.2.2.1; omega
  exact H7 T C w hf hs
theorem dF (T C B : Int) (hf : Fit T C B) (p : Nat) : 0 ≤ cY T C B p ∧ cY T C B p ≤ 2056 := by
 obtain ⟨f1, f2, f3, f4, f5, f6⟩ := hf
 match p with
 | 0 | 1 | 2 | 3 | 4 | 5 | 6 => (simp only [cY, List.getD_cons_zero, List.getD_cons_succ]; (try split) <;> omega)
 | p + 7 => simp [cY]
theorem fC (T C B : Int) (hf : Fit T C B) : ∀ p, 0 ≤ ah T C B p ∧ ah T C B p ≤ 2056 * p
 | 0 => by simp [ah]
 | p + 1 => by
  have h1 := fC T C B hf p;have h2 := dF T C B hf p;simp only [ah];omega
theorem Pn (T C B : Int) (w : World) (hf : Fit T C B) (hs : ai w) : Calls Tryz.prog 43 #[(.agg #[.int .i64 T, .int .i64 C, .int .i64 B]), .int .i64 0] w (cd (.int .i64 (ah T C B 0)) w) := by
 have hl0 := dF T C B hf;have hp := hs.pos;have l0 := hl0 0;have l1 := hl0 1;have l2 := hl0 2;have l3 := hl0 3;have l4 := hl0 4;have l5 := hl0 5;have l6 := hl0 6;obtain ⟨R, hR⟩ : ∃ R, R = (ah T C B 0) := ⟨_, rfl⟩;rw [← hR];simp only [ah] at hR;have HR := aa hR;clear hR hl0;go_enter Tryz.func43, Tryz.ntmps43;go_wp2_with fail;refine wp_loop_rounds (0 + 1) ?_;repeat any_goals (rw [rounds_succ]; go_wp2_with (first | (go_at_call 62; (first | (with_reducible refine (my T C B _ hf (hs.below ae)).mono ?_) | (with_reducible refine (mq T C B _ hf (hs.below ae)).mono ?_) | (with_reducible refine (mm T C B _ hf (hs.below ae)).mono ?_) | (with_reducible refine (ml T C B _ hf (hs.below ae)).mono ?_) | (with_reducible refine (mj T C B _ hf (hs.below ae)).mono ?_) | (with_reducible refine (mi T C B _ hf (hs.below ae)).mono ?_) | (with_reducible refine (mh T C B _ hf (hs.below ae)).mono ?_)); rintro e w1 ⟨rfl, hb1⟩; obtain ⟨ar, aA, hs1⟩ := bC hb1; (try simp at hs1); have hz1 := zL w.heap.size w1)))
 all_goals go_ret
 all_goals exact ⟨by rw [HR.out]; exact nz, ae⟩
theorem Pm (T C B : Int) (w : World) (hf : Fit T C B) (hs : ai w) : Calls Tryz.prog 43 #[(.agg #[.int .i64 T, .int .i64 C, .int .i64 B]), .int .i64 1] w (cd (.int .i64 (ah T C B 1)) w) := by
 have hl0 := dF T C B hf;have hp := hs.pos;have l0 := hl0 0;have l1 := hl0 1;have l2 := hl0 2;have l3 := hl0 3;have l4 := hl0 4;have l5 := hl0 5;have l6 := hl0 6;obtain ⟨R, hR⟩ : ∃ R, R = (ah T C B 1) := ⟨_, rfl⟩;rw [← hR];simp only [ah] at hR;have HR := aa hR;clear hR hl0;go_enter Tryz.func43, Tryz.ntmps43;go_wp2_with fail;refine wp_loop_rounds (1 + 1) ?_;repeat any_goals (rw [rounds_succ]; go_wp2_with (first | (go_at_call 62; (first | (with_reducible refine (my T C B _ hf (hs.below ae)).mono ?_) | (with_reducible refine (mq T C B _ hf (hs.below ae)).mono ?_) | (with_reducible refine (mm T C B _ hf (hs.below ae)).mono ?_) | (with_reducible refine (ml T C B _ hf (hs.below ae)).mono ?_) | (with_reducible refine (mj T C B _ hf (hs.below ae)).mono ?_) | (with_reducible refine (mi T C B _ hf (hs.below ae)).mono ?_) | (with_reducible refine (mh T C B _ hf (hs.below ae)).mono ?_)); rintro e w1 ⟨rfl, hb1⟩; obtain ⟨ar, aA, hs1⟩ := bC hb1; (try simp at hs1); have hz1 := zL w.heap.size w1)))
 all_goals go_ret
 all_goals exact ⟨by rw [HR.out]; exact nz, ae⟩
theorem uC (T C B : Int) (w : World) (hf : Fit T C B) (hs : ai w) : Calls Tryz.prog 43 #[(.agg #[.int .i64 T, .int .i64 C, .int .i64 B]), .int .i64 2] w (cd (.int .i64 (ah T C B 2)) w) := by
 have hl0 := dF T C B hf;have hp := hs.pos;have l0 := hl0 0;have l1 := hl0 1;have l2 := hl0 2;have l3 := hl0 3;have l4 := hl0 4;have l5 := hl0 5;have l6 := hl0 6;obtain ⟨R, hR⟩ : ∃ R, R = (ah T C B 2) := ⟨_, rfl⟩;rw [← hR];simp only [ah] at hR;have HR := aa hR;clear hR hl0;go_enter Tryz.func43, Tryz.ntmps43;go_wp2_with fail;refine wp_loop_rounds (2 + 1) ?_;repeat any_goals (rw [rounds_succ]; go_wp2_with (first | (go_at_call 62; (first | (with_reducible refine (my T C B _ hf (hs.below ae)).mono ?_) | (with_reducible refine (mq T C B _ hf (hs.below ae)).mono ?_) | (with_reducible refine (mm T C B _ hf (hs.below ae)).mono ?_) | (with_reducible refine (ml T C B _ hf (hs.below ae)).mono ?_) | (with_reducible refine (mj T C B _ hf (hs.below ae)).mono ?_) | (with_reducible refine (mi T C B _ hf (hs.below ae)).mono ?_) | (with_reducible refine (mh T C B _ hf (hs.below ae)).mono ?_)); rintro e w1 ⟨rfl, hb1⟩; obtain ⟨ar, aA, hs1⟩ := bC hb1; (try simp at hs1); have hz1 := zL w.heap.size w1)))
 all_goals go_ret
 all_goals exact ⟨by rw [HR.out]; exact nz, ae⟩
theorem uB (T C B : Int) (w : World) (hf : Fit T C B) (hs : ai w) : Calls Tryz.prog 43 #[(.agg #[.int .i64 T, .int .i64 C, .int .i64 B]), .int .i64 3] w (cd (.int .i64 (ah T C B 3)) w) := by
 have hl0 := dF T C B hf;have hp := hs.pos;have l0 := hl0 0;have l1 := hl0 1;have l2 := hl0 2;have l3 := hl0 3;have l4 := hl0 4;have l5 := hl0 5;have l6 := hl0 6;obtain ⟨R, hR⟩ : ∃ R, R = (ah T C B 3) := ⟨_, rfl⟩;rw [← hR];simp only [ah] at hR;have HR := aa hR;clear hR hl0;go_enter Tryz.func43, Tryz.ntmps43;go_wp2_with fail;refine wp_loop_rounds (3 + 1) ?_;repeat any_goals (rw [rounds_succ]; go_wp2_with (first | (go_at_call 62; (first | (with_reducible refine (my T C B _ hf (hs.below ae)).mono ?_) | (with_reducible refine (mq T C B _ hf (hs.below ae)).mono ?_) | (with_reducible refine (mm T C B _ hf (hs.below ae)).mono ?_) | (with_reducible refine (ml T C B _ hf (hs.below ae)).mono ?_) | (with_reducible refine (mj T C B _ hf (hs.below ae)).mono ?_) | (with_reducible refine (mi T C B _ hf (hs.below ae)).mono ?_) | (with_reducible refine (mh T C B _ hf (hs.below ae)).mono ?_)); rintro e w1 ⟨rfl, hb1⟩; obtain ⟨ar, aA, hs1⟩ := bC hb1; (try simp at hs1); have hz1 := zL w.heap.size w1)))
 all_goals go_ret
 all_goals exact ⟨by rw [HR.out]; exact nz, ae⟩
theorem Pj (T C B : Int) (w : World) (hf : Fit T C B) (hs : ai w) : Calls Tryz.prog 43 #[(.agg #[.int .i64 T, .int .i64 C, .int .i64 B]), .int .i64 4] w (cd (.int .i64 (ah T C B 4)) w) := by
 have hl0 := dF T C B hf;have hp := hs.pos;have l0 := hl0 0;have l1 := hl0 1;have l2 := hl0 2;have l3 := hl0 3;have l4 := hl0 4;have l5 := hl0 5;have l6 := hl0 6;obtain ⟨R, hR⟩ : ∃ R, R = (ah T C B 4) := ⟨_, rfl⟩;rw [← hR];simp only [ah] at hR;have HR := aa hR;clear hR hl0;go_enter Tryz.func43, Tryz.ntmps43;go_wp2_with fail;refine wp_loop_rounds (4 + 1) ?_;repeat any_goals (rw [rounds_succ]; go_wp2_with (first | (go_at_call 62; (first | (with_reducible refine (my T C B _ hf (hs.below ae)).mono ?_) | (with_reducible refine (mq T C B _ hf (hs.below ae)).mono ?_) | (with_reducible refine (mm T C B _ hf (hs.below ae)).mono ?_) | (with_reducible refine (ml T C B _ hf (hs.below ae)).mono ?_) | (with_reducible refine (mj T C B _ hf (hs.below ae)).mono ?_) | (with_reducible refine (mi T C B _ hf (hs.below ae)).mono ?_) | (with_reducible refine (mh T C B _ hf (hs.below ae)).mono ?_)); rintro e w1 ⟨rfl, hb1⟩; obtain ⟨ar, aA, hs1⟩ := bC hb1; (try simp at hs1); have hz1 := zL w.heap.size w1)))
 all_goals go_ret
 all_goals exact ⟨by rw [HR.out]; exact nz, ae⟩
theorem Pi (T C B : Int) (w : World) (hf : Fit T C B) (hs : ai w) : Calls Tryz.prog 43 #[(.agg #[.int .i64 T, .int .i64 C, .int .i64 B]), .int .i64 5] w (cd (.int .i64 (ah T C B 5)) w) := by
 have hl0 := dF T C B hf;have hp := hs.pos;have l0 := hl0 0;have l1 := hl0 1;have l2 := hl0 2;have l3 := hl0 3;have l4 := hl0 4;have l5 := hl0 5;have l6 := hl0 6;obtain ⟨R, hR⟩ : ∃ R, R = (ah T C B 5) := ⟨_, rfl⟩;rw [← hR];simp only [ah] at hR;have HR := aa hR;clear hR hl0;go_enter Tryz.func43, Tryz.ntmps43;go_wp2_with fail;refine wp_loop_rounds (5 + 1) ?_;repeat any_goals (rw [rounds_succ]; go_wp2_with (first | (go_at_call 62; (first | (with_reducible refine (my T C B _ hf (hs.below ae)).mono ?_) | (with_reducible refine (mq T C B _ hf (hs.below ae)).mono ?_) | (with_reducible refine (mm T C B _ hf (hs.below ae)).mono ?_) | (with_reducible refine (ml T C B _ hf (hs.below ae)).mono ?_) | (with_reducible refine (mj T C B _ hf (hs.below ae)).mono ?_) | (with_reducible refine (mi T C B _ hf (hs.below ae)).mono ?_) | (with_reducible refine (mh T C B _ hf (hs.below ae)).mono ?_)); rintro e w1 ⟨rfl, hb1⟩; obtain ⟨ar, aA, hs1⟩ := bC hb1; (try simp at hs1); have hz1 := zL w.heap.size w1)))
 all_goals go_ret
 all_goals exact ⟨by rw [HR.out]; exact nz, ae⟩
theorem Ph (T C B : Int) (w : World) (hf : Fit T C B) (hs : ai w) : Calls Tryz.prog 43 #[(.agg #[.int .i64 T, .int .i64 C, .int .i64 B]), .int .i64 6] w (cd (.int .i64 (ah T C B 6)) w) := by
 have hl0 := dF T C B hf;have hp := hs.pos;have l0 := hl0 0;have l1 := hl0 1;have l2 := hl0 2;have l3 := hl0 3;have l4 := hl0 4;have l5 := hl0 5;have l6 := hl0 6;obtain ⟨R, hR⟩ : ∃ R, R = (ah T C B 6) := ⟨_, rfl⟩;rw [← hR];simp only [ah] at hR;have HR := aa hR;clear hR hl0;go_enter Tryz.func43, Tryz.ntmps43;go_wp2_with fail;refine wp_loop_rounds (6 + 1) ?_;repeat any_goals (rw [rounds_succ]; go_wp2_with (first | (go_at_call 62; (first | (with_reducible refine (my T C B _ hf (hs.below ae)).mono ?_) | (with_reducible refine (mq T C B _ hf (hs.below ae)).mono ?_) | (with_reducible refine (mm T C B _ hf (hs.below ae)).mono ?_) | (with_reducible refine (ml T C B _ hf (hs.below ae)).mono ?_) | (with_reducible refine (mj T C B _ hf (hs.below ae)).mono ?_) | (with_reducible refine (mi T C B _ hf (hs.below ae)).mono ?_) | (with_reducible refine (mh T C B _ hf (hs.below ae)).mono ?_)); rintro e w1 ⟨rfl, hb1⟩; obtain ⟨ar, aA, hs1⟩ := bC hb1; (try simp at hs1); have hz1 := zL w.heap.size w1)))
 all_goals go_ret
 all_goals exact ⟨by rw [HR.out]; exact nz, ae⟩
theorem Jr (T C B : Int) (w : World) (hf : Fit T C B) (hs : ai w) : Calls Tryz.prog 43 #[(.agg #[.int .i64 T, .int .i64 C, .int .i64 B]), .int .i64 7] w (cd (.int .i64 (ah T C B 7)) w) := by
 have hl0 := dF T C B hf;have hp := hs.pos;have l0 := hl0 0;have l1 := hl0 1;have l2 := hl0 2;have l3 := hl0 3;have l4 := hl0 4;have l5 := hl0 5;have l6 := hl0 6;obtain ⟨R, hR⟩ : ∃ R, R = (ah T C B 7) := ⟨_, rfl⟩;rw [← hR];simp only [ah] at hR;have HR := aa hR;clear hR hl0;go_enter Tryz.func43, Tryz.ntmps43;go_wp2_with fail;refine wp_loop_rounds (7 + 1) ?_;repeat any_goals (rw [rounds_succ]; go_wp2_with (first | (go_at_call 62; (first | (with_reducible refine (my T C B _ hf (hs.below ae)).mono ?_) | (with_reducible refine (mq T C B _ hf (hs.below ae)).mono ?_) | (with_reducible refine (mm T C B _ hf (hs.below ae)).mono ?_) | (with_reducible refine (ml T C B _ hf (hs.below ae)).mono ?_) | (with_reducible refine (mj T C B _ hf (hs.below ae)).mono ?_) | (with_reducible refine (mi T C B _ hf (hs.below ae)).mono ?_) | (with_reducible refine (mh T C B _ hf (hs.below ae)).mono ?_)); rintro e w1 ⟨rfl, hb1⟩; obtain ⟨ar, aA, hs1⟩ := bC hb1; (try simp at hs1); have hz1 := zL w.heap.size w1)))
 all_goals go_ret
 all_goals exact ⟨by rw [HR.out]; exact nz, ae⟩
end Go.Proofs.YtapjfhbonfehpaaGreatDoor
