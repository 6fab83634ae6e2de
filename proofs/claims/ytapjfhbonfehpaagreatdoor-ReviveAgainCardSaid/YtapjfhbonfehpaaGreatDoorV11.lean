/- Package layout: between, Check, right, Size, at. -/
import Derived.Test.YtapjfhbonfehpaaGreatDoorV10
set_option linter.unusedSimpArgs false
set_option linter.unusedVariables false
set_option maxRecDepth 100000
set_option maxHeartbeats 40000000
namespace Go.Proofs.YtapjfhbonfehpaaGreatDoor
open Go.RowKit
theorem mK (n a b : Int) (w : World) : Calls Tryz.prog 42 #[.int .i64 n, .int .i64 a, .int .i64 b] w fun e w' => e = .returned (.bool (decide (a ≤ n) && decide (n ≤ b))) ∧ w' = w := by
 by_cases h : a ≤ n;all_goals go_enter Tryz.func42, Tryz.ntmps42
 all_goals go_wp2_with fail
 all_goals go_ret
 all_goals (refine ⟨?_, rfl⟩; simp [h] <;> omega)
def aC (T C B : Int) : Prop := Fit T C B ∧ ah T C B 7 ≤ 4096
theorem cZ (T C B : Int) (w : World) (hv : aC T C B) (hs : ai w) : Calls Tryz.prog 18 #[(.agg #[.int .i64 T, .int .i64 C, .int .i64 B])] w (cd (.int .i64 0) w) := by
 obtain ⟨hf, hv⟩ := hv;have HF := aa hf;obtain ⟨f1, f2, f3, f4, f5, f6⟩ := hf;have hp := hs.pos;have b1 : ∀ w, Calls Tryz.prog 42 #[.int .i64 T, .int .i64 1, .int .i64 8] w fun e w' => e = .returned (.bool true) ∧ w' = w := fun w => by
  have := mK T 1 8 w;rw [show (decide (1 ≤ T) && decide (T ≤ 8)) = true by simp; omega] at this;exact this
 have b2 : ∀ w, Calls Tryz.prog 42 #[.int .i64 C, .int .i64 1, .int .i64 2048] w fun e w' => e = .returned (.bool true) ∧ w' = w := fun w => by
  have := mK C 1 2048 w;rw [show (decide (1 ≤ C) && decide (C ≤ 2048)) = true by simp; omega] at this;exact this
 have b3 : ∀ w, Calls Tryz.prog 42 #[.int .i64 B, .int .i64 0, .int .i64 64] w fun e w' => e = .returned (.bool true) ∧ w' = w := fun w => by
  have := mK B 0 64 w;rw [show (decide (0 ≤ B) && decide (B ≤ 64)) = true by simp; omega] at this;exact this
 have B1 := aa b1;have B2 := aa b2;have B3 := aa b3;clear b1 b2 b3;go_enter Tryz.func18, Tryz.ntmps18;go_wp2_with (first
  | (go_at_call 42; (first | (with_reducible refine (B1.out _).mono ?_) | (with_reducible refine (B2.out _).mono ?_) | (with_reducible refine (B3.out _).mono ?_)); rintro e w1 ⟨rfl, rfl⟩)
  | (go_at_call 43; refine rB (Jr T C B _ HF.out (hs.below ae)) ?_; intro w1 hb1 ar aA hs1; (try simp at hs1); have hz1 := zL w.heap.size w1; have hq1 := zL 0 w1))
 go_ret;exact ⟨rfl, ae⟩
theorem bp (T C B : Int) (w : World) (hv : aC T C B) (hs : ai w) : Calls Tryz.prog 32 #[(.agg #[.int .i64 T, .int .i64 C, .int .i64 B])] w (cd (.bool true) w) := by
 have hp := hs.pos;go_enter Tryz.func32, Tryz.ntmps32;go_wp2_with (first
  | (go_at_call 18; refine rB (cZ T C B _ hv (hs.below ae)) ?_; intro w1 hb1 ar aA hs1; (try simp at hs1); have hz1 := zL w.heap.size w1; have hq1 := zL 0 w1))
 go_ret;exact ⟨rfl, ae⟩
theorem fM (T C B : Int) (w : World) (hv : aC T C B) (hs : ai w) : Calls Tryz.prog 19 #[(.agg #[.int .i64 T, .int .i64 C, .int .i64 B])] w (cd (.int .i64 (ah T C B 7)) w) := by
 have hp := hs.pos;go_enter Tryz.func19, Tryz.ntmps19;go_wp2_with (first
  | (go_at_call 32; refine rB (bp T C B _ hv (hs.below ae)) ?_; intro w1 hb1 ar aA hs1; (try simp at hs1); have hz1 := zL w.heap.size w1; have hq1 := zL 0 w1)
  | (go_at_call 43; refine (Jr T C B _ hv.1 (hs.below ae)).mono ?_; rintro e w2 ⟨rfl, hb2⟩))
 go_ret;exact ⟨rfl, ae⟩
def gq (p : Nat) : Int := [8, 8, 8, 1, 104, 0, 32].getD p 0
def fG (T C B : Int) (p : Nat) (i more : Int) : Int := if 0 ≤ i ∧ i < bg T C B p then ah T C B p + i * gq p + more else -1
theorem Mo (T C B i more : Int) (w : World) (hv : aC T C B) (hs : ai w) (h0 : 0 ≤ i) (h1 : i < bg T C B 0) (m0 : 0 ≤ more) (m1 : more ≤ 1000) : Calls Tryz.prog 36 #[(.agg #[.int .i64 T, .int .i64 C, .int .i64 B]), .int .i64 0, .int .i64 i, .int .i64 more] w (cd (.int .i64 (ah T C B 0 + i * gq 0 + more)) w) := by
 have hp := hs.pos;have z0 := hs 0 _ rfl;have hm : (bg T C B 0) = [1, T, T, C, T, B, B].getD 0 0 := rfl;have hz : gq 0 = [8, 8, 8, 1, 104, 0, 32].getD 0 0 := rfl;simp only [List.getD_cons_zero, List.getD_cons_succ] at hm hz;have Hm := aa hm;rw [hm] at h1;rw [hz];clear hm hz;obtain ⟨R, hR⟩ : ∃ R, R = (ah T C B 0) := ⟨_, rfl⟩;have r0 : 0 ≤ R ∧ R ≤ 2056 * 0 := by have := fC T C B hv.1 0; rw [hR]; omega
 have hfr := fun W hs => Pn T C B W hv.1 hs;rw [← hR] at hfr ⊢;have yO := aa hfr;have Hv := aa hv;obtain ⟨⟨f1, f2, f3, f4, f5, f6⟩, -⟩ := hv;clear hfr hR;go_enter Tryz.func36, Tryz.ntmps36;go_wp2_with (first
  | (go_at_call 32; refine rB (bp T C B _ Hv.out (hs.below ae)) ?_; intro w1 hb1 ar aA hs1; (try simp at hs1); have hz1 := zL w.heap.size w1; have hq1 := zL 0 w1)
  | (go_at_call 57; refine rB (xY T C B _) ?_; intro w2 hb2 aH aL hs2; (try simp at hs2); have hz2 := zL w.heap.size w2; rw [Hm.out]))
 have hq := zL 0 w2
 go_region_held3 (fun w' => w'.cell? ⟨w.heap.size, 0, none⟩ = some (.int .i64 T) ∧ w'.cell? ⟨w.heap.size, 1, none⟩ = some (.int .i64 C) ∧ w'.cell? ⟨w.heap.size, 2, none⟩ = some (.int .i64 B) ∧ w'.cell? ⟨0, 0, none⟩ = some (.int .i64 ([8, 8, 8, 1, 104, 0, 32].getD 0 0)))
  (first | exact ⟨by go_simp, by go_simp, by go_simp, by go_simp⟩ | go_keep)
  (first
   | (go_at_call 43; refine (yO.out _ (hs.below ae)).mono ?_; rintro e w3 ⟨rfl, gf⟩; have hb3 : Below _ _ w3 := jk; clear gf; obtain ⟨cN, cH, hs3⟩ := bC hb3; (try simp at hs3); have hz3 := zL w.heap.size w3; have hq3 := zL 0 w3))
 all_goals go_wp2_with fail
 all_goals go_ret
 all_goals exact ⟨C6, ae⟩
theorem JL (T C B i more : Int) (w : World) (hv : aC T C B) (hs : ai w) (h0 : ¬ (0 ≤ i ∧ i < bg T C B 0)) : Calls Tryz.prog 36 #[(.agg #[.int .i64 T, .int .i64 C, .int .i64 B]), .int .i64 0, .int .i64 i, .int .i64 more] w (cd (.int .i64 (-1)) w) := by
 have hp := hs.pos;have hm : (bg T C B 0) = [1, T, T, C, T, B, B].getD 0 0 := rfl;simp only [List.getD_cons_zero, List.getD_cons_succ] at hm;have Hm := aa hm;rw [hm] at h0;clear hm;have Hv := aa hv;obtain ⟨⟨f1, f2, f3, f4, f5, f6⟩, -⟩ := hv;by_cases hi : i < 0
 ·clear h0;go_enter Tryz.func36, Tryz.ntmps36;go_wp2_with (first
   | (go_at_call 32; refine rB (bp T C B _ Hv.out (hs.below ae)) ?_; intro w1 hb1 ar aA hs1; (try simp at hs1); have hz1 := zL w.heap.size w1; have hq1 := zL 0 w1)
   | (go_at_call 57; refine rB (xY T C B _) ?_; intro w2 hb2 aH aL hs2; (try simp at hs2); have hz2 := zL w.heap.size w2; rw [Hm.out]))
  all_goals go_ret
  all_goals exact ⟨rfl, ae⟩
 ·have h1 : [1, T, T, C, T, B, B].getD 0 0 ≤ i := by simp only [List.getD_cons_zero, List.getD_cons_succ]; omega
  simp only [List.getD_cons_zero, List.getD_cons_succ] at h1;clear h0;go_enter Tryz.func36, Tryz.ntmps36;go_wp2_with (first
   | (go_at_call 32; refine rB (bp T C B _ Hv.out (hs.below ae)) ?_; intro w1 hb1 ar aA hs1; (try simp at hs1); have hz1 := zL w.heap.size w1; have hq1 := zL 0 w1)
   | (go_at_call 57; refine rB (xY T C B _) ?_; intro w2 hb2 aH aL hs2; (try simp at hs2); have hz2 := zL w.heap.size w2; rw [Hm.out]))
  all_goals go_ret
  all_goals exact ⟨rfl, ae⟩
theorem abQ (T C B i more : Int) (w : World) (hv : aC T C B) (hs : ai w) (m0 : 0 ≤ more) (m1 : more ≤ 1000) : Calls Tryz.prog 36 #[(.agg #[.int .i64 T, .int .i64 C, .int .i64 B]), .int .i64 0, .int .i64 i, .int .i64 more] w (cd (.int .i64 (fG T C B 0 i more)) w) := by
 unfold fG;by_cases h : 0 ≤ i ∧ i < bg T C B 0
 ·rw [if_pos h];exact Mo T C B i more w hv hs h.1 h.2 m0 m1
 ·rw [if_neg h];exact JL T C B i more w hv hs h
theorem Mn (T C B i more : Int) (w : World) (hv : aC T C B) (hs : ai w) (h0 : 0 ≤ i) (h1 : i < bg T C B 1) (m0 : 0 ≤ more) (m1 : more ≤ 1000) : Calls Tryz.prog 36 #[(.agg #[.int .i64 T, .int .i64 C, .int .i64 B]), .int .i64 1, .int .i64 i, .int .i64 more] w (cd (.int .i64 (ah T C B 1 + i * gq 1 + more)) w) := by
 have hp := hs.pos;have z0 := hs 1 _ rfl;have hm : (bg T C B 1) = [1, T, T, C, T, B, B].getD 1 0 := rfl;have hz : gq 1 = [8, 8, 8, 1, 104, 0, 32].getD 1 0 := rfl;simp only [List.getD_cons_zero, List.getD_cons_succ] at hm hz;have Hm := aa hm;rw [hm] at h1;rw [hz];clear hm hz;obtain ⟨R, hR⟩ : ∃ R, R = (ah T C B 1) := ⟨_, rfl⟩;have r0 : 0 ≤ R ∧ R ≤ 2056 * 1 := by have := fC T C B hv.1 1; rw [hR]; omega
 have hfr := fun W hs => Pm T C B W hv.1 hs;rw [← hR] at hfr ⊢;have yO := aa hfr;have Hv := aa hv;obtain ⟨⟨f1, f2, f3, f4, f5, f6⟩, -⟩ := hv;clear hfr hR;go_enter Tryz.func36, Tryz.ntmps36;go_wp2_with (first
  | (go_at_call 32; refine rB (bp T C B _ Hv.out (hs.below ae)) ?_; intro w1 hb1 ar aA hs1; (try simp at hs1); have hz1 := zL w.heap.size w1; have hq1 := zL 0 w1)
  | (go_at_call 57; refine rB (xX T C B _) ?_; intro w2 hb2 aH aL hs2; (try simp at hs2); have hz2 := zL w.heap.size w2; rw [Hm.out]))
 have hq := zL 0 w2
 go_region_held3 (fun w' => w'.cell? ⟨w.heap.size, 0, none⟩ = some (.int .i64 T) ∧ w'.cell? ⟨w.heap.size, 1, none⟩ = some (.int .i64 C) ∧ w'.cell? ⟨w.heap.size, 2, none⟩ = some (.int .i64 B) ∧ w'.cell? ⟨0, 1, none⟩ = some (.int .i64 ([8, 8, 8, 1, 104, 0, 32].getD 1 0)))
  (first | exact ⟨by go_simp, by go_simp, by go_simp, by go_simp⟩ | go_keep)
  (first
   | (go_at_call 43; refine (yO.out _ (hs.below ae)).mono ?_; rintro e w3 ⟨rfl, gf⟩; have hb3 : Below _ _ w3 := jk; clear gf; obtain ⟨cN, cH, hs3⟩ := bC hb3; (try simp at hs3); have hz3 := zL w.heap.size w3; have hq3 := zL 0 w3))
 all_goals go_wp2_with fail
 all_goals go_ret
 all_goals exact ⟨C6, ae⟩
theorem JK (T C B i more : Int) (w : World) (hv : aC T C B) (hs : ai w) (h0 : ¬ (0 ≤ i ∧ i < bg T C B 1)) : Calls Tryz.prog 36 #[(.agg #[.int .i64 T, .int .i64 C, .int .i64 B]), .int .i64 1, .int .i64 i, .int .i64 more] w (cd (.int .i64 (-1)) w) := by
 have hp := hs.pos;have hm : (bg T C B 1) = [1, T, T, C, T, B, B].getD 1 0 := rfl;simp only [List.getD_cons_zero, List.getD_cons_succ] at hm;have Hm := aa hm;rw [hm] at h0;clear hm;have Hv := aa hv;obtain ⟨⟨f1, f2, f3, f4, f5, f6⟩, -⟩ := hv;by_cases hi : i < 0
 ·clear h0;go_enter Tryz.func36, Tryz.ntmps36;go_wp2_with (first
   | (go_at_call 32; refine rB (bp T C B _ Hv.out (hs.below ae)) ?_; intro w1 hb1 ar aA hs1; (try simp at hs1); have hz1 := zL w.heap.size w1; have hq1 := zL 0 w1)
   | (go_at_call 57; refine rB (xX T C B _) ?_; intro w2 hb2 aH aL hs2; (try simp at hs2); have hz2 := zL w.heap.size w2; rw [Hm.out]))
  all_goals go_ret
  all_goals exact ⟨rfl, ae⟩
 ·have h1 : [1, T, T, C, T, B, B].getD 1 0 ≤ i := by simp only [List.getD_cons_zero, List.getD_cons_succ]; omega
  simp only [List.getD_cons_zero, List.getD_cons_succ] at h1;clear h0;go_enter Tryz.func36, Tryz.ntmps36;go_wp2_with (first
   | (go_at_call 32; refine rB (bp T C B _ Hv.out (hs.below ae)) ?_; intro w1 hb1 ar aA hs1; (try simp at hs1); have hz1 := zL w.heap.size w1; have hq1 := zL 0 w1)
   | (go_at_call 57; refine rB (xX T C B _) ?_; intro w2 hb2 aH aL hs2; (try simp at hs2); have hz2 := zL w.heap.size w2; rw [Hm.out]))
  all_goals go_ret
  all_goals exact ⟨rfl, ae⟩
theorem UM (T C B i more : Int) (w : World) (hv : aC T C B) (hs : ai w) (m0 : 0 ≤ more) (m1 : more ≤ 1000) : Calls Tryz.prog 36 #[(.agg #[.int .i64 T, .int .i64 C, .int .i64 B]), .int .i64 1, .int .i64 i, .int .i64 more] w (cd (.int .i64 (fG T C B 1 i more)) w) := by
 unfold fG;by_cases h : 0 ≤ i ∧ i < bg T C B 1
 ·rw [if_pos h];exact Mn T C B i more w hv hs h.1 h.2 m0 m1
 ·rw [if_neg h];exact JK T C B i more w hv hs h
theorem Mm (T C B i more : Int) (w : World) (hv : aC T C B) (hs : ai w) (h0 : 0 ≤ i) (h1 : i < bg T C B 2) (m0 : 0 ≤ more) (m1 : more ≤ 1000) : Calls Tryz.prog 36 #[(.agg #[.int .i64 T, .int .i64 C, .int .i64 B]), .int .i64 2, .int .i64 i, .int .i64 more] w (cd (.int .i64 (ah T C B 2 + i * gq 2 + more)) w) := by
 have hp := hs.pos;have z0 := hs 2 _ rfl;have hm : (bg T C B 2) = [1, T, T, C, T, B, B].getD 2 0 := rfl;have hz : gq 2 = [8, 8, 8, 1, 104, 0, 32].getD 2 0 := rfl;simp only [List.getD_cons_zero, List.getD_cons_succ] at hm hz;have Hm := aa hm;rw [hm] at h1;rw [hz];clear hm hz;obtain ⟨R, hR⟩ : ∃ R, R = (ah T C B 2) := ⟨_, rfl⟩;have r0 : 0 ≤ R ∧ R ≤ 2056 * 2 := by have := fC T C B hv.1 2; rw [hR]; omega
 have hfr := fun W hs => uC T C B W hv.1 hs;rw [← hR] at hfr ⊢;have yO := aa hfr;have Hv := aa hv;obtain ⟨⟨f1, f2, f3, f4, f5, f6⟩, -⟩ := hv;clear hfr hR;go_enter Tryz.func36, Tryz.ntmps36;go_wp2_with (first
  | (go_at_call 32; refine rB (bp T C B _ Hv.out (hs.below ae)) ?_; intro w1 hb1 ar aA hs1; (try simp at hs1); have hz1 := zL w.heap.size w1; have hq1 := zL 0 w1)
  | (go_at_call 57; refine rB (xW T C B _) ?_; intro w2 hb2 aH aL hs2; (try simp at hs2); have hz2 := zL w.heap.size w2; rw [Hm.out]))
 have hq := zL 0 w2
 go_region_held3 (fun w' => w'.cell? ⟨w.heap.size, 0, none⟩ = some (.int .i64 T) ∧ w'.cell? ⟨w.heap.size, 1, none⟩ = some (.int .i64 C) ∧ w'.cell? ⟨w.heap.size, 2, none⟩ = some (.int .i64 B) ∧ w'.cell? ⟨0, 2, none⟩ = some (.int .i64 ([8, 8, 8, 1, 104, 0, 32].getD 2 0)))
  (first | exact ⟨by go_simp, by go_simp, by go_simp, by go_simp⟩ | go_keep)
  (first
   | (go_at_call 43; refine (yO.out _ (hs.below ae)).mono ?_; rintro e w3 ⟨rfl, gf⟩; have hb3 : Below _ _ w3 := jk; clear gf; obtain ⟨cN, cH, hs3⟩ := bC hb3; (try simp at hs3); have hz3 := zL w.heap.size w3; have hq3 := zL 0 w3))
 all_goals go_wp2_with fail
 all_goals go_ret
 all_goals exact ⟨C6, ae⟩
theorem JJ (T C B i more : Int) (w : World) (hv : aC T C B) (hs : ai w) (h0 : ¬ (0 ≤ i ∧ i < bg T C B 2)) : Calls Tryz.prog 36 #[(.agg #[.int .i64 T, .int .i64 C, .int .i64 B]), .int .i64 2, .int .i64 i, .int .i64 more] w (cd (.int .i64 (-1)) w) := by
 have hp := hs.pos;have hm : (bg T C B 2) = [1, T, T, C, T, B, B].getD 2 0 := rfl;simp only [List.getD_cons_zero, List.getD_cons_succ] at hm;have Hm := aa hm;rw [hm] at h0;clear hm;have Hv := aa hv;obtain ⟨⟨f1, f2, f3, f4, f5, f6⟩, -⟩ := hv;by_cases hi : i < 0
 ·clear h0;go_enter Tryz.func36, Tryz.ntmps36;go_wp2_with (first
   | (go_at_call 32; refine rB (bp T C B _ Hv.out (hs.below ae)) ?_; intro w1 hb1 ar aA hs1; (try simp at hs1); have hz1 := zL w.heap.size w1; have hq1 := zL 0 w1)
   | (go_at_call 57; refine rB (xW T C B _) ?_; intro w2 hb2 aH aL hs2; (try simp at hs2); have hz2 := zL w.heap.size w2; rw [Hm.out]))
  all_goals go_ret
  all_goals exact ⟨rfl, ae⟩
 ·have h1 : [1, T, T, C, T, B, B].getD 2 0 ≤ i := by simp only [List.getD_cons_zero, List.getD_cons_succ]; omega
  simp only [List.getD_cons_zero, List.getD_cons_succ] at h1;clear h0;go_enter Tryz.func36, Tryz.ntmps36;go_wp2_with (first
   | (go_at_call 32; refine rB (bp T C B _ Hv.out (hs.below ae)) ?_; intro w1 hb1 ar aA hs1; (try simp at hs1); have hz1 := zL w.heap.size w1; have hq1 := zL 0 w1)
   | (go_at_call 57; refine rB (xW T C B _) ?_; intro w2 hb2 aH aL hs2; (try simp at hs2); have hz2 := zL w.heap.size w2; rw [Hm.out]))
  all_goals go_ret
  all_goals exact ⟨rfl, ae⟩
theorem abP (T C B i more : Int) (w : World) (hv : aC T C B) (hs : ai w) (m0 : 0 ≤ more) (m1 : more ≤ 1000) : Calls Tryz.prog 36 #[(.agg #[.int .i64 T, .int .i64 C, .int .i64 B]), .int .i64 2, .int .i64 i, .int .i64 more] w (cd (.int .i64 (fG T C B 2 i more)) w) := by
 unfold fG;by_cases h : 0 ≤ i ∧ i < bg T C B 2
 ·rw [if_pos h];exact Mm T C B i more w hv hs h.1 h.2 m0 m1
 ·rw [if_neg h];exact JJ T C B i more w hv hs h
theorem Ml (T C B i more : Int) (w : World) (hv : aC T C B) (hs : ai w) (h0 : 0 ≤ i) (h1 : i < bg T C B 3) (m0 : 0 ≤ more) (m1 : more ≤ 1000) : Calls Tryz.prog 36 #[(.agg #[.int .i64 T, .int .i64 C, .int .i64 B]), .int .i64 3, .int .i64 i, .int .i64 more] w (cd (.int .i64 (ah T C B 3 + i * gq 3 + more)) w) := by
 have hp := hs.pos;have z0 := hs 3 _ rfl;have hm : (bg T C B 3) = [1, T, T, C, T, B, B].getD 3 0 := rfl;have hz : gq 3 = [8, 8, 8, 1, 104, 0, 32].getD 3 0 := rfl;simp only [List.getD_cons_zero, List.getD_cons_succ] at hm hz;have Hm := aa hm;rw [hm] at h1;rw [hz];clear hm hz;obtain ⟨R, hR⟩ : ∃ R, R = (ah T C B 3) := ⟨_, rfl⟩;have r0 : 0 ≤ R ∧ R ≤ 2056 * 3 := by have := fC T C B hv.1 3; rw [hR]; omega
 have hfr := fun W hs => uB T C B W hv.1 hs;rw [← hR] at hfr ⊢;have yO := aa hfr;have Hv := aa hv;obtain ⟨⟨f1, f2, f3, f4, f5, f6⟩, -⟩ := hv;clear hfr hR;go_enter Tryz.func36, Tryz.ntmps36;go_wp2_with (first
  | (go_at_call 32; refine rB (bp T C B _ Hv.out (hs.below ae)) ?_; intro w1 hb1 ar aA hs1; (try simp at hs1); have hz1 := zL w.heap.size w1; have hq1 := zL 0 w1)
  | (go_at_call 57; refine rB (xV T C B _) ?_; intro w2 hb2 aH aL hs2; (try simp at hs2); have hz2 := zL w.heap.size w2; rw [Hm.out]))
 have hq := zL 0 w2
 go_region_held3 (fun w' => w'.cell? ⟨w.heap.size, 0, none⟩ = some (.int .i64 T) ∧ w'.cell? ⟨w.heap.size, 1, none⟩ = some (.int .i64 C) ∧ w'.cell? ⟨w.heap.size, 2, none⟩ = some (.int .i64 B) ∧ w'.cell? ⟨0, 3, none⟩ = some (.int .i64 ([8, 8, 8, 1, 104, 0, 32].getD 3 0)))
  (first | exact ⟨by go_simp, by go_simp, by go_simp, by go_simp⟩ | go_keep)
  (first
   | (go_at_call 43; refine (yO.out _ (hs.below ae)).mono ?_; rintro e w3 ⟨rfl, gf⟩; have hb3 : Below _ _ w3 := jk; clear gf; obtain ⟨cN, cH, hs3⟩ := bC hb3; (try simp at hs3); have hz3 := zL w.heap.size w3; have hq3 := zL 0 w3))
 all_goals go_wp2_with fail
 all_goals go_ret
 all_goals exact ⟨C6, ae⟩
theorem JI (T C B i more : Int) (w : World) (hv : aC T C B) (hs : ai w) (h0 : ¬ (0 ≤ i ∧ i < bg T C B 3)) : Calls Tryz.prog 36 #[(.agg #[.int .i64 T, .int .i64 C, .int .i64 B]), .int .i64 3, .int .i64 i, .int .i64 more] w (cd (.int .i64 (-1)) w) := by
 have hp := hs.pos;have hm : (bg T C B 3) = [1, T, T, C, T, B, B].getD 3 0 := rfl;simp only [List.getD_cons_zero, List.getD_cons_succ] at hm;have Hm := aa hm;rw [hm] at h0;clear hm;have Hv := aa hv;obtain ⟨⟨f1, f2, f3, f4, f5, f6⟩, -⟩ := hv;by_cases hi : i < 0
 ·clear h0;go_enter Tryz.func36, Tryz.ntmps36;go_wp2_with (first
   | (go_at_call 32; refine rB (bp T C B _ Hv.out (hs.below ae)) ?_; intro w1 hb1 ar aA hs1; (try simp at hs1); have hz1 := zL w.heap.size w1; have hq1 := zL 0 w1)
   | (go_at_call 57; refine rB (xV T C B _) ?_; intro w2 hb2 aH aL hs2; (try simp at hs2); have hz2 := zL w.heap.size w2; rw [Hm.out]))
  all_goals go_ret
  all_goals exact ⟨rfl, ae⟩
 ·have h1 : [1, T, T, C, T, B, B].getD 3 0 ≤ i := by simp only [List.getD_cons_zero, List.getD_cons_succ]; omega
  simp only [List.getD_cons_zero, List.getD_cons_succ] at h1;clear h0;go_enter Tryz.func36, Tryz.ntmps36;go_wp2_with (first
   | (go_at_call 32; refine rB (bp T C B _ Hv.out (hs.below ae)) ?_; intro w1 hb1 ar aA hs1; (try simp at hs1); have hz1 := zL w.heap.size w1; have hq1 := zL 0 w1)
   | (go_at_call 57; refine rB (xV T C B _) ?_; intro w2 hb2 aH aL hs2; (try simp at hs2); have hz2 := zL w.heap.size w2; rw [Hm.out]))
  all_goals go_ret
  all_goals exact ⟨rfl, ae⟩
theorem abO (T C B i more : Int) (w : World) (hv : aC T C B) (hs : ai w) (m0 : 0 ≤ more) (m1 : more ≤ 1000) : Calls Tryz.prog 36 #[(.agg #[.int .i64 T, .int .i64 C, .int .i64 B]), .int .i64 3, .int .i64 i, .int .i64 more] w (cd (.int .i64 (fG T C B 3 i more)) w) := by
 unfold fG;by_cases h : 0 ≤ i ∧ i < bg T C B 3
 ·rw [if_pos h];exact Ml T C B i more w hv hs h.1 h.2 m0 m1
 ·rw [if_neg h];exact JI T C B i more w hv hs h
theorem Mk (T C B i more : Int) (w : World) (hv : aC T C B) (hs : ai w) (h0 : 0 ≤ i) (h1 : i < bg T C B 4) (m0 : 0 ≤ more) (m1 : more ≤ 1000) : Calls Tryz.prog 36 #[(.agg #[.int .i64 T, .int .i64 C, .int .i64 B]), .int .i64 4, .int .i64 i, .int .i64 more] w (cd (.int .i64 (ah T C B 4 + i * gq 4 + more)) w) := by
 have hp := hs.pos;have z0 := hs 4 _ rfl;have hm : (bg T C B 4) = [1, T, T, C, T, B, B].getD 4 0 := rfl;have hz : gq 4 = [8, 8, 8, 1, 104, 0, 32].getD 4 0 := rfl;simp only [List.getD_cons_zero, List.getD_cons_succ] at hm hz;have Hm := aa hm;rw [hm] at h1;rw [hz];clear hm hz;obtain ⟨R, hR⟩ : ∃ R, R = (ah T C B 4) := ⟨_, rfl⟩;have r0 : 0 ≤ R ∧ R ≤ 2056 * 4 := by have := fC T C B hv.1 4; rw [hR]; omega
 have hfr := fun W hs => Pj T C B W hv.1 hs;rw [← hR] at hfr ⊢;have yO := aa hfr;have Hv := aa hv;obtain ⟨⟨f1, f2, f3, f4, f5, f6⟩, -⟩ := hv;clear hfr hR;go_enter Tryz.func36, Tryz.ntmps36;go_wp2_with (first
  | (go_at_call 32; refine rB (bp T C B _ Hv.out (hs.below ae)) ?_; intro w1 hb1 ar aA hs1; (try simp at hs1); have hz1 := zL w.heap.size w1; have hq1 := zL 0 w1)
  | (go_at_call 57; refine rB (xU T C B _) ?_; intro w2 hb2 aH aL hs2; (try simp at hs2); have hz2 := zL w.heap.size w2; rw [Hm.out]))
 have hq := zL 0 w2
 go_region_held3 (fun w' => w'.cell? ⟨w.heap.size, 0, none⟩ = some (.int .i64 T) ∧ w'.cell? ⟨w.heap.size, 1, none⟩ = some (.int .i64 C) ∧ w'.cell? ⟨w.heap.size, 2, none⟩ = some (.int .i64 B) ∧ w'.cell? ⟨0, 4, none⟩ = some (.int .i64 ([8, 8, 8, 1, 104, 0, 32].getD 4 0)))
  (first | exact ⟨by go_simp, by go_simp, by go_simp, by go_simp⟩ | go_keep)
  (first
   | (go_at_call 43; refine (yO.out _ (hs.below ae)).mono ?_; rintro e w3 ⟨rfl, gf⟩; have hb3 : Below _ _ w3 := jk; clear gf; obtain ⟨cN, cH, hs3⟩ := bC hb3; (try simp at hs3); have hz3 := zL w.heap.size w3; have hq3 := zL 0 w3))
 all_goals go_wp2_with fail
 all_goals go_ret
 all_goals exact ⟨C6, ae⟩
theorem JH (T C B i more : Int) (w : World) (hv : aC T C B) (hs : ai w) (h0 : ¬ (0 ≤ i ∧ i < bg T C B 4)) : Calls Tryz.prog 36 #[(.agg #[.int .i64 T, .int .i64 C, .int .i64 B]), .int .i64 4, .int .i64 i, .int .i64 more] w (cd (.int .i64 (-1)) w) := by
 have hp := hs.pos;have hm : (bg T C B 4) = [1, T, T, C, T, B, B].getD 4 0 := rfl;simp only [List.getD_cons_zero, List.getD_cons_succ] at hm;have Hm := aa hm;rw [hm] at h0;clear hm;have Hv := aa hv;obtain ⟨⟨f1, f2, f3, f4, f5, f6⟩, -⟩ := hv;by_cases hi : i < 0
 ·clear h0;go_enter Tryz.func36, Tryz.ntmps36;go_wp2_with (first
   | (go_at_call 32; refine rB (bp T C B _ Hv.out (hs.below ae)) ?_; intro w1 hb1 ar aA hs1; (try simp at hs1); have hz1 := zL w.heap.size w1; have hq1 := zL 0 w1)
   | (go_at_call 57; refine rB (xU T C B _) ?_; intro w2 hb2 aH aL hs2; (try simp at hs2); have hz2 := zL w.heap.size w2; rw [Hm.out]))
  all_goals go_ret
  all_goals exact ⟨rfl, ae⟩
 ·have h1 : [1, T, T, C, T, B, B].getD 4 0 ≤ i := by simp only [List.getD_cons_zero, List.getD_cons_succ]; omega
  simp only [List.getD_cons_zero, List.getD_cons_succ] at h1;clear h0;go_enter Tryz.func36, Tryz.ntmps36;go_wp2_with (first
   | (go_at_call 32; refine rB (bp T C B _ Hv.out (hs.below ae)) ?_; intro w1 hb1 ar aA hs1; (try simp at hs1); have hz1 := zL w.heap.size w1; have hq1 := zL 0 w1)
   | (go_at_call 57; refine rB (xU T C B _) ?_; intro w2 hb2 aH aL hs2; (try simp at hs2); have hz2 := zL w.heap.size w2; rw [Hm.out]))
  all_goals go_ret
  all_goals exact ⟨rfl, ae⟩
theorem abN (T C B i more : Int) (w : World) (hv : aC T C B) (hs : ai w) (m0 : 0 ≤ more) (m1 : more ≤ 1000) : Calls Tryz.prog 36 #[(.agg #[.int .i64 T, .int .i64 C, .int .i64 B]), .int .i64 4, .int .i64 i, .int .i64 more] w (cd (.int .i64 (fG T C B 4 i more)) w) := by
 unfold fG;by_cases h : 0 ≤ i ∧ i < bg T C B 4
 ·rw [if_pos h];exact Mk T C B i more w hv hs h.1 h.2 m0 m1
 ·rw [if_neg h];exact JH T C B i more w hv hs h
theorem WI (T C B i more : Int) (w : World) (hv : aC T C B) (hs : ai w) (h0 : 0 ≤ i) (h1 : i < bg T C B 5) (m0 : 0 ≤ more) (m1 : more ≤ 1000) : Calls Tryz.prog 36 #[(.agg #[.int .i64 T, .int .i64 C, .int .i64 B]), .int .i64 5, .int .i64 i, .int .i64 more] w (cd (.int .i64 (ah T C B 5 + i * gq 5 + more)) w) := by
 have hp := hs.pos;have z0 := hs 5 _ rfl;have hm : (bg T C B 5) = [1, T, T, C, T, B, B].getD 5 0 := rfl;have hz : gq 5 = [8, 8, 8, 1, 104, 0, 32].getD 5 0 := rfl;simp only [List.getD_cons_zero, List.getD_cons_succ] at hm hz;have Hm := aa hm;rw [hm] at h1;rw [hz];clear hm hz;obtain ⟨R, hR⟩ : ∃ R, R = (ah T C B 5) := ⟨_, rfl⟩;have r0 : 0 ≤ R ∧ R ≤ 2056 * 5 := by have := fC T C B hv.1 5; rw [hR]; omega
 have hfr := fun W hs => Pi T C B W hv.1 hs;rw [← hR] at hfr ⊢;have yO := aa hfr;have Hv := aa hv;obtain ⟨⟨f1, f2, f3, f4, f5, f6⟩, -⟩ := hv;clear hfr hR;go_enter Tryz.func36, Tryz.ntmps36;go_wp2_with (first
  | (go_at_call 32; refine rB (bp T C B _ Hv.out (hs.below ae)) ?_; intro w1 hb1 ar aA hs1; (try simp at hs1); have hz1 := zL w.heap.size w1; have hq1 := zL 0 w1)
  | (go_at_call 57; refine rB (ox T C B _) ?_; intro w2 hb2 aH aL hs2; (try simp at hs2); have hz2 := zL w.heap.size w2; rw [Hm.out]))
 have hq := zL 0 w2
 go_region_held3 (fun w' => w'.cell? ⟨w.heap.size, 0, none⟩ = some (.int .i64 T) ∧ w'.cell? ⟨w.heap.size, 1, none⟩ = some (.int .i64 C) ∧ w'.cell? ⟨w.heap.size, 2, none⟩ = some (.int .i64 B) ∧ w'.cell? ⟨0, 5, none⟩ = some (.int .i64 ([8, 8, 8, 1, 104, 0, 32].getD 5 0)))
  (first | exact ⟨by go_simp, by go_simp, by go_simp, by go_simp⟩ | go_keep)
  (first
   | (go_at_call 43; refine (yO.out _ (hs.below ae)).mono ?_; rintro e w3 ⟨rfl, gf⟩; have hb3 : Below _ _ w3 := jk; clear gf; obtain ⟨cN, cH, hs3⟩ := bC hb3; (try simp at hs3); have hz3 := zL w.heap.size w3; have hq3 := zL 0 w3))
 all_goals go_wp2_with fail
 all_goals go_ret
 all_goals exact ⟨C6, ae⟩
theorem UL (T C B i more : Int) (w : World) (hv : aC T C B) (hs : ai w) (h0 : ¬ (0 ≤ i ∧ i < bg T C B 5)) : Calls Tryz.prog 36 #[(.agg #[.int .i64 T, .int .i64 C, .int .i64 B]), .int .i64 5, .int .i64 i, .int .i64 more] w (cd (.int .i64 (-1)) w) := by
 have hp := hs.pos;have hm : (bg T C B 5) = [1, T, T, C, T, B, B].getD 5 0 := rfl;simp only [List.getD_cons_zero, List.getD_cons_succ] at hm;have Hm := aa hm;rw [hm] at h0;clear hm;have Hv := aa hv;obtain ⟨⟨f1, f2, f3, f4, f5, f6⟩, -⟩ := hv;by_cases hi : i < 0
 ·clear h0;go_enter Tryz.func36, Tryz.ntmps36;go_wp2_with (first
   | (go_at_call 32; refine rB (bp T C B _ Hv.out (hs.below ae)) ?_; intro w1 hb1 ar aA hs1; (try simp at hs1); have hz1 := zL w.heap.size w1; have hq1 := zL 0 w1)
   | (go_at_call 57; refine rB (ox T C B _) ?_; intro w2 hb2 aH aL hs2; (try simp at hs2); have hz2 := zL w.heap.size w2; rw [Hm.out]))
  all_goals go_ret
  all_goals exact ⟨rfl, ae⟩
 ·have h1 : [1, T, T, C, T, B, B].getD 5 0 ≤ i := by simp only [List.getD_cons_zero, List.getD_cons_succ]; omega
  simp only [List.getD_cons_zero, List.getD_cons_succ] at h1;clear h0;go_enter Tryz.func36, Tryz.ntmps36;go_wp2_with (first
   | (go_at_call 32; refine rB (bp T C B _ Hv.out (hs.below ae)) ?_; intro w1 hb1 ar aA hs1; (try simp at hs1); have hz1 := zL w.heap.size w1; have hq1 := zL 0 w1)
   | (go_at_call 57; refine rB (ox T C B _) ?_; intro w2 hb2 aH aL hs2; (try simp at hs2); have hz2 := zL w.heap.size w2; rw [Hm.out]))
  all_goals go_ret
  all_goals exact ⟨rfl, ae⟩
theorem Mj (T C B i more : Int) (w : World) (hv : aC T C B) (hs : ai w) (h0 : 0 ≤ i) (h1 : i < bg T C B 6) (m0 : 0 ≤ more) (m1 : more ≤ 1000) : Calls Tryz.prog 36 #[(.agg #[.int .i64 T, .int .i64 C, .int .i64 B]), .int .i64 6, .int .i64 i, .int .i64 more] w (cd (.int .i64 (ah T C B 6 + i * gq 6 + more)) w) := by
 have hp := hs.pos;have z0 := hs 6 _ rfl;have hm : (bg T C B 6) = [1, T, T, C, T, B, B].getD 6 0 := rfl;have hz : gq 6 = [8, 8, 8, 1, 104, 0, 32].getD 6 0 := rfl;simp only [List.getD_cons_zero, List.getD_cons_succ] at hm hz;have Hm := aa hm;rw [hm] at h1;rw [hz];clear hm hz;obtain ⟨R, hR⟩ : ∃ R, R = (ah T C B 6) := ⟨_, rfl⟩;have r0 : 0 ≤ R ∧ R ≤ 2056 * 6 := by have := fC T C B hv.1 6; rw [hR]; omega
 have hfr := fun W hs => Ph T C B W hv.1 hs;rw [← hR] at hfr ⊢;have yO := aa hfr;have Hv := aa hv;obtain ⟨⟨f1, f2, f3, f4, f5, f6⟩, -⟩ := hv;clear hfr hR;go_enter Tryz.func36, Tryz.ntmps36;go_wp2_with (first
  | (go_at_call 32; refine rB (bp T C B _ Hv.out (hs.below ae)) ?_; intro w1 hb1 ar aA hs1; (try simp at hs1); have hz1 := zL w.heap.size w1; have hq1 := zL 0 w1)
  | (go_at_call 57; refine rB (xS T C B _) ?_; intro w2 hb2 aH aL hs2; (try simp at hs2); have hz2 := zL w.heap.size w2; rw [Hm.out]))
 have hq := zL 0 w2
 go_region_held3 (fun w' => w'.cell? ⟨w.heap.size, 0, none⟩ = some (.int .i64 T) ∧ w'.cell? ⟨w.heap.size, 1, none⟩ = some (.int .i64 C) ∧ w'.cell? ⟨w.heap.size, 2, none⟩ = some (.int .i64 B) ∧ w'.cell? ⟨0, 6, none⟩ = some (.int .i64 ([8, 8, 8, 1, 104, 0, 32].getD 6 0)))
  (first | exact ⟨by go_simp, by go_simp, by go_simp, by go_simp⟩ | go_keep)
  (first
   | (go_at_call 43; refine (yO.out _ (hs.below ae)).mono ?_; rintro e w3 ⟨rfl, gf⟩; have hb3 : Below _ _ w3 := jk; clear gf; obtain ⟨cN, cH, hs3⟩ := bC hb3; (try simp at hs3); have hz3 := zL w.heap.size w3; have hq3 := zL 0 w3))
 all_goals go_wp2_with fail
 all_goals go_ret
 all_goals exact ⟨C6, ae⟩
theorem JG (T C B i more : Int) (w : World) (hv : aC T C B) (hs : ai w) (h0 : ¬ (0 ≤ i ∧ i < bg T C B 6)) : Calls Tryz.prog 36 #[(.agg #[.int .i64 T, .int .i64 C, .int .i64 B]), .int .i64 6, .int .i64 i, .int .i64 more] w (cd (.int .i64 (-1)) w) := by
 have hp := hs.pos;have hm : (bg T C B 6) = [1, T, T, C, T, B, B].getD 6 0 := rfl;simp only [List.getD_cons_zero, List.getD_cons_succ] at hm;have Hm := aa hm;rw [hm] at h0;clear hm;have Hv := aa hv;obtain ⟨⟨f1, f2, f3, f4, f5, f6⟩, -⟩ := hv;by_cases hi : i < 0
 ·clear h0;go_enter Tryz.func36, Tryz.ntmps36;go_wp2_with (first
   | (go_at_call 32; refine rB (bp T C B _ Hv.out (hs.below ae)) ?_; intro w1 hb1 ar aA hs1; (try simp at hs1); have hz1 := zL w.heap.size w1; have hq1 := zL 0 w1)
   | (go_at_call 57; refine rB (xS T C B _) ?_; intro w2 hb2 aH aL hs2; (try simp at hs2); have hz2 := zL w.heap.size w2; rw [Hm.out]))
  all_goals go_ret
  all_goals exact ⟨rfl, ae⟩
 ·have h1 : [1, T, T, C, T, B, B].getD 6 0 ≤ i := by simp only [List.getD_cons_zero, List.getD_cons_succ]; omega
  simp only [List.getD_cons_zero, List.getD_cons_succ] at h1;clear h0;go_enter Tryz.func36, Tryz.ntmps36;go_wp2_with (first
   | (go_at_call 32; refine rB (bp T C B _ Hv.out (hs.below ae)) ?_; intro w1 hb1 ar aA hs1; (try simp at hs1); have hz1 := zL w.heap.size w1; have hq1 := zL 0 w1)
   | (go_at_call 57; refine rB (xS T C B _) ?_; intro w2 hb2 aH aL hs2; (try simp at hs2); have hz2 := zL w.heap.size w2; rw [Hm.out]))
  all_goals go_ret
  all_goals exact ⟨rfl, ae⟩
theorem abM (T C B i more : Int) (w : World) (hv : aC T C B) (hs : ai w) (m0 : 0 ≤ more) (m1 : more ≤ 1000) : Calls Tryz.prog 36 #[(.agg #[.int .i64 T, .int .i64 C, .int .i64 B]), .int .i64 6, .int .i64 i, .int .i64 more] w (cd (.int .i64 (fG T C B 6 i more)) w) := by
 unfold fG;by_cases h : 0 ≤ i ∧ i < bg T C B 6
 ·rw [if_pos h];exact Mj T C B i more w hv hs h.1 h.2 m0 m1
 ·rw [if_neg h];exact JG T C B i more w hv hs h
theorem AU (T C B t : Int) (w : World) (hv : aC T C B) (hs : ai w) (h0 : -1000 ≤ t) (h1 : t ≤ 1000) : Calls Tryz.prog 47 #[(.agg #[.int .i64 T, .int .i64 C, .int .i64 B]), .int .i64 t] w (cd (.int .i64 (fG T C B 1 (t - 1) 0)) w) := by
 have hp := hs.pos;go_enter Tryz.func47, Tryz.ntmps47;go_wp2_with (first
  | (go_at_call 36; refine rB (UM T C B _ _ _ hv (hs.below ae) (by decide) (by decide)) ?_; intro w1 hb1 ar aA hs1; (try simp at hs1); have hz1 : w.heap.size < w1.heap.size := (by omega); have hq1 : 0 < w1.heap.size := (by omega)))
 go_ret;exact ⟨rfl, ae⟩
theorem Fp (T C B t : Int) (w : World) (hv : aC T C B) (hs : ai w) (h0 : -1000 ≤ t) (h1 : t ≤ 1000) : Calls Tryz.prog 48 #[(.agg #[.int .i64 T, .int .i64 C, .int .i64 B]), .int .i64 t] w (cd (.int .i64 (fG T C B 1 (t - 1) 1)) w) := by
 have hp := hs.pos;go_enter Tryz.func48, Tryz.ntmps48;go_wp2_with (first
  | (go_at_call 36; refine rB (UM T C B _ _ _ hv (hs.below ae) dM dM) ?_; intro w1 hb1 ar aA hs1; (try simp at hs1); have hz1 := zL w.heap.size w1; have hq1 := zL 0 w1))
 go_ret;exact ⟨rfl, ae⟩
theorem wJ (T C B t : Int) (w : World) (hv : aC T C B) (hs : ai w) (h0 : -1000 ≤ t) (h1 : t ≤ 1000) : Calls Tryz.prog 15 #[(.agg #[.int .i64 T, .int .i64 C, .int .i64 B]), .int .i64 t] w (cd (.int .i64 (fG T C B 2 (t - 1) 0)) w) := by
 have hp := hs.pos;go_enter Tryz.func15, Tryz.ntmps15;go_wp2_with (first
  | (go_at_call 36; refine rB (abP T C B _ _ _ hv (hs.below ae) dM dM) ?_; intro w1 hb1 ar aA hs1; (try simp at hs1); have hz1 := zL w.heap.size w1; have hq1 := zL 0 w1))
 go_ret;exact ⟨rfl, ae⟩
theorem pq (T C B t : Int) (w : World) (hv : aC T C B) (hs : ai w) (h0 : -1000 ≤ t) (h1 : t ≤ 1000) : Calls Tryz.prog 34 #[(.agg #[.int .i64 T, .int .i64 C, .int .i64 B]), .int .i64 t] w (cd (.int .i64 (fG T C B 4 (t - 1) 0)) w) := by
 have hp := hs.pos;go_enter Tryz.func34, Tryz.ntmps34;go_wp2_with (first
  | (go_at_call 36; refine rB (abN T C B _ _ _ hv (hs.below ae) dM dM) ?_; intro w1 hb1 ar aA hs1; (try simp at hs1); have hz1 := zL w.heap.size w1; have hq1 := zL 0 w1))
 go_ret;exact ⟨rfl, ae⟩
theorem yG (T C B t : Int) (w : World) (hv : aC T C B) (hs : ai w) : Calls Tryz.prog 12 #[(.agg #[.int .i64 T, .int .i64 C, .int .i64 B]), .int .i64 t] w (cd (.int .i64 (fG T C B 3 t 0)) w) := by
 have hp := hs.pos;go_enter Tryz.func12, Tryz.ntmps12;go_wp2_with (first
  | (go_at_call 36; refine rB (abO T C B _ _ _ hv (hs.below ae) dM dM) ?_; intro w1 hb1 ar aA hs1; (try simp at hs1); have hz1 := zL w.heap.size w1; have hq1 := zL 0 w1))
 go_ret;exact ⟨rfl, ae⟩
theorem uO (T C B t : Int) (w : World) (hv : aC T C B) (hs : ai w) : Calls Tryz.prog 35 #[(.agg #[.int .i64 T, .int .i64 C, .int .i64 B]), .int .i64 t] w (cd (.int .i64 (fG T C B 6 t 0)) w) := by
 have hp := hs.pos;go_enter Tryz.func35, Tryz.ntmps35;go_wp2_with (first
  | (go_at_call 36; refine rB (abM T C B _ _ _ hv (hs.below ae) dM dM) ?_; intro w1 hb1 ar aA hs1; (try simp at hs1); have hz1 := zL w.heap.size w1; have hq1 := zL 0 w1))
 go_ret;exact ⟨rfl, ae⟩
theorem Pp (T C B : Int) (w : World) (hv : aC T C B) (hs : ai w) : Calls Tryz.prog 33 #[(.agg #[.int .i64 T, .int .i64 C, .int .i64 B])] w (cd (.int .i64 1) w) := by
 have hp := hs.pos;go_enter Tryz.func33, Tryz.ntmps33;go_wp2_with (first
  | (go_at_call 36; refine rB (abQ T C B _ _ _ hv (hs.below ae) dM dM) ?_; intro w1 hb1 ar aA hs1; (try simp at hs1); have hz1 := zL w.heap.size w1; have hq1 := zL 0 w1))
 go_ret;exact ⟨rfl, ae⟩
def iW (T C B who : Int) : Int := if 9 ≤ who then fG T C B 6 (who - 9) 0 else fG T C B 4 (who - 1) 0
def aD (T C B who : Int) : Int := if iW T C B who < 0 then 0 else if 9 ≤ who then 10 else 32
theorem G4 (T C B who : Int) (w : World) (hv : aC T C B) (hs : ai w) (h0 : -1000 ≤ who) (h1 : who ≤ 1000) : Calls Tryz.prog 14 #[(.agg #[.int .i64 T, .int .i64 C, .int .i64 B]), .int .i64 who] w (cd (.tuple #[.int .i64 (if iW T C B who < 0 then -1 else iW T C B who), .int .i64 (aD T C B who)]) w) := by
 have hp := hs.pos;obtain ⟨X, hX⟩ : ∃ X, X = fG T C B 4 (who - 1) 0 := ⟨_, rfl⟩;obtain ⟨Y, hY⟩ : ∃ Y, Y = fG T C B 6 (who - 9) 0 := ⟨_, rfl⟩;have HX := aa hX;have HY := aa hY;have e1 : iW T C B who = if 9 ≤ who then Y else X := by unfold iW; rw [hX, hY]
 clear hX hY;unfold aD;rw [e1];by_cases h9 : 9 ≤ who
 ·simp only [if_pos h9];by_cases hn : Y < 0;all_goals simp only [hn, if_true, if_false]
  all_goals go_enter Tryz.func14, Tryz.ntmps14
  all_goals go_wp2_with (first
   | (go_at_call 34; refine rB (pq T C B _ _ hv (hs.below ae) h0 h1) ?_; intro w1 hb1 ar aA hs1; (try simp at hs1); have hz1 := zL w.heap.size w1; have hq1 := zL 0 w1; rw [← HX.out])
   | (go_at_call 35; refine (uO T C B _ _ hv (hs.below ae)).mono ?_; rintro e w2 ⟨rfl, hb2⟩; rw [← HY.out]))
  all_goals go_ret2
  all_goals exact ⟨rfl, ae⟩
 ·simp only [if_neg h9];by_cases hn : X < 0;all_goals simp only [hn, if_true, if_false]
  all_goals go_enter Tryz.func14, Tryz.ntmps14
  all_goals go_wp2_with (first
   | (go_at_call 34; refine rB (pq T C B _ _ hv (hs.below ae) h0 h1) ?_; intro w1 hb1 ar aA hs1; (try simp at hs1); have hz1 := zL w.heap.size w1; have hq1 := zL 0 w1; rw [← HX.out]))
  all_goals go_ret2
  all_goals exact ⟨rfl, ae⟩
def iY (T C B n : Int) : Bool := decide (ah T C B 3 ≤ n ∧ n < ah T C B 3 + C) || (decide (ah T C B 2 ≤ n ∧ n < ah T C B 3) && decide (n % 8 < 3))
theorem tZ (T C B n : Int) (w : World) (hv : aC T C B) (hs : ai w) (h0 : -1000000 ≤ n) (h1 : n ≤ 1000000) : Calls Tryz.prog 44 #[(.agg #[.int .i64 T, .int .i64 C, .int .i64 B]), .int .i64 n] w (cd (.bool (iY T C B n)) w) := by
 have hp := hs.pos;obtain ⟨X, hX⟩ : ∃ X, X = ah T C B 3 := ⟨_, rfl⟩;obtain ⟨Y, hY⟩ : ∃ Y, Y = ah T C B 2 := ⟨_, rfl⟩;have e1 : iY T C B n = (decide (X ≤ n ∧ n < X + C) || (decide (Y ≤ n ∧ n < X) && decide (n % 8 < 3))) := by unfold iY; rw [hX, hY]
 have x0 : 0 ≤ X ∧ X ≤ 6168 := by have := fC T C B hv.1 3; rw [hX]; omega
 have y0 : 0 ≤ Y ∧ Y ≤ 6168 := by have := fC T C B hv.1 2; rw [hY]; omega
 have c0 : 1 ≤ C ∧ C ≤ 2048 := ⟨hv.1.2.2.1, hv.1.2.2.2.1⟩;have HX := aa hX;have HY := aa hY;rw [e1];clear hX hY e1;have Hv := aa hv;have Hf := aa hv.1;clear hv;by_cases a1 : X ≤ n
 ·by_cases a2 : n - X < C
  ·have e2 : (decide (X ≤ n ∧ n < X + C) || (decide (Y ≤ n ∧ n < X) && decide (n % 8 < 3))) = true := by simp; omega
   rw [e2];clear e2;go_enter Tryz.func44, Tryz.ntmps44;go_wp2_with (first
    | (go_at_call 32; refine rB (bp T C B _ Hv.out (hs.below ae)) ?_; intro w1 hb1 ar aA hs1; (try simp at hs1); have hz1 := zL w.heap.size w1; have hq1 := zL 0 w1)
    | (go_at_call 43; with_reducible refine (uC T C B _ Hf.out (hs.below ae)).mono ?_; rintro e w2 ⟨rfl, hb2⟩; obtain ⟨aH, aL, hs2⟩ := bC hb2; (try simp at hs2); have hz2 := zL w.heap.size w2; have hq2 := zL 0 w2; rw [← HY.out])
    | (go_at_call 43; with_reducible refine (uB T C B _ Hf.out (hs.below ae)).mono ?_; rintro e w2 ⟨rfl, hb2⟩; obtain ⟨aH, aL, hs2⟩ := bC hb2; (try simp at hs2); have hz2 := zL w.heap.size w2; have hq2 := zL 0 w2; rw [← HX.out]))
   all_goals go_ret
   all_goals exact ⟨rfl, ae⟩
  ·have e2 : (decide (X ≤ n ∧ n < X + C) || (decide (Y ≤ n ∧ n < X) && decide (n % 8 < 3))) = false := by simp; omega
   rw [e2];clear e2;have a3 : ¬ n < X := by omega
   have a4 : (decide (0 ≤ n - X)) = true := by simp; omega
   go_enter Tryz.func44, Tryz.ntmps44;go_wp2_with (first
    | (go_at_call 32; refine rB (bp T C B _ Hv.out (hs.below ae)) ?_; intro w1 hb1 ar aA hs1; (try simp at hs1); have hz1 := zL w.heap.size w1; have hq1 := zL 0 w1)
    | (go_at_call 43; with_reducible refine (uC T C B _ Hf.out (hs.below ae)).mono ?_; rintro e w2 ⟨rfl, hb2⟩; obtain ⟨aH, aL, hs2⟩ := bC hb2; (try simp at hs2); have hz2 := zL w.heap.size w2; have hq2 := zL 0 w2; rw [← HY.out])
    | (go_at_call 43; with_reducible refine (uB T C B _ Hf.out (hs.below ae)).mono ?_; rintro e w2 ⟨rfl, hb2⟩; obtain ⟨aH, aL, hs2⟩ := bC hb2; (try simp at hs2); have hz2 := zL w.heap.size w2; have hq2 := zL 0 w2; rw [← HX.out]))
   all_goals go_ret
   all_goals exact ⟨rfl, ae⟩
 ·have a3 : n < X := by omega
  have a4 : ¬ (0 ≤ n - X) := by omega
  by_cases a5 : Y ≤ n
  ·have a7 : 0 ≤ n := by omega
   have e2 : (decide (X ≤ n ∧ n < X + C) || (decide (Y ≤ n ∧ n < X) && decide (n % 8 < 3))) = decide (n % 8 < 3) := by
    rw [decide_eq_false (show ¬ (X ≤ n ∧ n < X + C) by omega), decide_eq_true (show Y ≤ n ∧ n < X by omega)];simp
   rw [e2];clear e2;go_enter Tryz.func44, Tryz.ntmps44;go_wp2_with (first
    | (go_at_call 32; refine rB (bp T C B _ Hv.out (hs.below ae)) ?_; intro w1 hb1 ar aA hs1; (try simp at hs1); have hz1 := zL w.heap.size w1; have hq1 := zL 0 w1)
    | (go_at_call 43; with_reducible refine (uC T C B _ Hf.out (hs.below ae)).mono ?_; rintro e w2 ⟨rfl, hb2⟩; obtain ⟨aH, aL, hs2⟩ := bC hb2; (try simp at hs2); have hz2 := zL w.heap.size w2; have hq2 := zL 0 w2; rw [← HY.out])
    | (go_at_call 43; with_reducible refine (uB T C B _ Hf.out (hs.below ae)).mono ?_; rintro e w2 ⟨rfl, hb2⟩; obtain ⟨aH, aL, hs2⟩ := bC hb2; (try simp at hs2); have hz2 := zL w.heap.size w2; have hq2 := zL 0 w2; rw [← HX.out]))
   all_goals go_ret
   all_goals exact ⟨rfl, ae⟩
  ·have e2 : (decide (X ≤ n ∧ n < X + C) || (decide (Y ≤ n ∧ n < X) && decide (n % 8 < 3))) = false := by simp; omega
   rw [e2];clear e2;go_enter Tryz.func44, Tryz.ntmps44;go_wp2_with (first
    | (go_at_call 32; refine rB (bp T C B _ Hv.out (hs.below ae)) ?_; intro w1 hb1 ar aA hs1; (try simp at hs1); have hz1 := zL w.heap.size w1; have hq1 := zL 0 w1)
    | (go_at_call 43; with_reducible refine (uC T C B _ Hf.out (hs.below ae)).mono ?_; rintro e w2 ⟨rfl, hb2⟩; obtain ⟨aH, aL, hs2⟩ := bC hb2; (try simp at hs2); have hz2 := zL w.heap.size w2; have hq2 := zL 0 w2; rw [← HY.out])
    | (go_at_call 43; with_reducible refine (uB T C B _ Hf.out (hs.below ae)).mono ?_; rintro e w2 ⟨rfl, hb2⟩; obtain ⟨aH, aL, hs2⟩ := bC hb2; (try simp at hs2); have hz2 := zL w.heap.size w2; have hq2 := zL 0 w2; rw [← HX.out]))
   all_goals go_ret
   all_goals exact ⟨rfl, ae⟩
/- The bitmap's location and the mask of block i. -/
end Go.Proofs.YtapjfhbonfehpaaGreatDoor
